/- Typed functions, printed by a program of mine out of the translated code. -/
import Derived.Test.YtimklpfnpmjdcaaFT
import Derived.Test.YtimklpfnpmjdcaaFref03
import Derived.Test.YtimklpfnpmjdcaaFref04
namespace Go.Ark
open Go Go.Ab

def ref19_Low_k1 (y2 : (List Api_Dep)) : Option (List Api_Dep) :=
  some y2

def ref19_Low_l2 (l_0 : (List Api_Version)) (again6 : (List Api_Dep) × Int → Option (List Api_Dep)) (v4 : (List Api_Dep) × Int) : Option (List Api_Dep) :=
  if decide (v4.2 < (l_0.length : Int)) then
    (idx l_0 v4.2).bind fun x9 =>
    (ref04_Merge ([v4.1, x9.Past])).bind fun r10 =>
    again6 (r10, IntKind.wrap .i64 (v4.2 + 1))
  else
    ref19_Low_k1 v4.1

def ref19_Low (l_0 : (List Api_Version)) (seen_1 : (List Api_Dep)) : Option (List Api_Dep) :=
  (ref04_Merge ([seen_1])).bind fun r1 =>
  loopF (ref19_Low_l2 l_0) FU (r1, 0)

def ref19_Of_k1 (y1 : Int × Int) : Option Api_Stamp :=
  some (Api_Stamp.mk y1.1 y1.2)

def ref19_Of_k3 (l_0 : (List Api_Version)) (again5 : Int × Int × Int → Option Api_Stamp) (v3 : Int × Int × Int) (y8 : Bool) : Option Api_Stamp :=
  if y8 then
    (idx l_0 v3.1).bind fun x10 =>
    again5 (IntKind.wrap .i64 (v3.1 + 1), x10.Stamp.N, x10.Stamp.Site)
  else
    again5 (IntKind.wrap .i64 (v3.1 + 1), v3.2.1, v3.2.2)

def ref19_Of_l2 (l_0 : (List Api_Version)) (key_1 : ByteArray) (again5 : Int × Int × Int → Option Api_Stamp) (v3 : Int × Int × Int) : Option Api_Stamp :=
  if decide (v3.1 < (l_0.length : Int)) then
    (idx l_0 v3.1).bind fun x12 =>
    if seq x12.Key key_1 then
      (idx l_0 v3.1).bind fun x14 =>
      (ref03_Less (Api_Stamp.mk v3.2.1 v3.2.2) x14.Stamp).bind fun r15 =>
      ref19_Of_k3 l_0 again5 v3 r15
    else
      ref19_Of_k3 l_0 again5 v3 false
  else
    ref19_Of_k1 (v3.2.1, v3.2.2)

def ref19_Of (l_0 : (List Api_Version)) (key_1 : ByteArray) : Option Api_Stamp :=
  loopF (ref19_Of_l2 l_0 key_1) FU (0, 0, 0)

def ref19_Late_k1 (y2 : (List ByteArray)) : Option (List ByteArray) :=
  some y2

def ref19_Late_l2 (keys_0 : (List ByteArray)) (l_1 : (List Api_Version)) (r1 : (List Api_Dep)) (again6 : Int × (List ByteArray) → Option (List ByteArray)) (v4 : Int × (List ByteArray)) : Option (List ByteArray) :=
  if decide (v4.1 < (keys_0.length : Int)) then
    (idx keys_0 v4.1).bind fun x9 =>
    (ref04_Get r1 x9).bind fun r10 =>
    (idx keys_0 v4.1).bind fun x11 =>
    (ref19_Of l_1 x11).bind fun r12 =>
    (ref03_Less r12 r10).bind fun r13 =>
    if r13 then
      (idx keys_0 v4.1).bind fun x15 =>
      (app 16 v4.2 ([x15])).bind fun l16 =>
      again6 (IntKind.wrap .i64 (v4.1 + 1), l16)
    else
      again6 (IntKind.wrap .i64 (v4.1 + 1), v4.2)
  else
    ref19_Late_k1 v4.2

def ref19_Late (keys_0 : (List ByteArray)) (l_1 : (List Api_Version)) (seen_2 : (List Api_Dep)) : Option (List ByteArray) :=
  (ref19_Low l_1 seen_2).bind fun r1 =>
  loopF (ref19_Late_l2 keys_0 l_1 r1) FU (0, ([] : (List ByteArray)))

def ref19_After_k1 (y2 : (List Api_Dep)) : Option (List Api_Dep) :=
  some y2

def ref19_After_l2 (l_1 : (List Api_Version)) (again6 : (List Api_Dep) × Int → Option (List Api_Dep)) (v4 : (List Api_Dep) × Int) : Option (List Api_Dep) :=
  if decide (v4.2 < (l_1.length : Int)) then
    (idx l_1 v4.2).bind fun x9 =>
    (idx l_1 v4.2).bind fun x10 =>
    (ref04_Add v4.1 (Api_Dep.mk x9.Key x10.Stamp)).bind fun r11 =>
    again6 (r11, IntKind.wrap .i64 (v4.2 + 1))
  else
    ref19_After_k1 v4.1

def ref19_After (seen_0 : (List Api_Dep)) (l_1 : (List Api_Version)) : Option (List Api_Dep) :=
  (ref19_Low l_1 seen_0).bind fun r1 =>
  loopF (ref19_After_l2 l_1) FU (r1, 0)

def ref19_Check (keys_0 : (List ByteArray)) (l_1 : (List Api_Version)) (seen_2 : (List Api_Dep)) : Option Bool :=
  (ref19_Late keys_0 l_1 seen_2).bind fun r1 =>
  some (decide ((r1.length : Int) = 0))
end Go.Ark
