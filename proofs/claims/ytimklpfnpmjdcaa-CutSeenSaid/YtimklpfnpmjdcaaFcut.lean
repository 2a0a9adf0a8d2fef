/- Typed functions, printed by a program of mine out of the translated code. -/
import Derived.Test.YtimklpfnpmjdcaaFT
import Derived.Test.YtimklpfnpmjdcaaFlib
import Derived.Test.YtimklpfnpmjdcaaFpast
import Derived.Test.YtimklpfnpmjdcaaFstamp
namespace Go.Ark
open Go Go.Ab

def cut_Low_k1 (y1 : (List (List Api_Dep))) : Option (List Api_Dep) :=
  (past_Merge y1).bind fun r2 =>
  some r2

def cut_Low_l2 (l_0 : (List Api_Version)) (again6 : Int × (List (List Api_Dep)) → Option (List Api_Dep)) (v4 : Int × (List (List Api_Dep))) : Option (List Api_Dep) :=
  if decide (v4.1 < (l_0.length : Int)) then
    (idx l_0 v4.1).bind fun x9 =>
    (app 24 v4.2 ([x9.Past])).bind fun l10 =>
    again6 (IntKind.wrap .i64 (v4.1 + 1), l10)
  else
    cut_Low_k1 v4.2

def cut_Low (l_0 : (List Api_Version)) (seen_1 : (List Api_Dep)) : Option (List Api_Dep) :=
  loopF (cut_Low_l2 l_0) FU (0, [seen_1])

def cut_Of_k1 (y1 : (List Api_Stamp)) : Option Api_Stamp :=
  (stamp_Max y1).bind fun r2 =>
  some r2

def cut_Of_l2 (l_0 : (List Api_Version)) (key_1 : ByteArray) (again6 : Int × (List Api_Stamp) → Option Api_Stamp) (v4 : Int × (List Api_Stamp)) : Option Api_Stamp :=
  if decide (v4.1 < (l_0.length : Int)) then
    (idx l_0 v4.1).bind fun x9 =>
    if seq x9.Key key_1 then
      (app 16 v4.2 ([x9.Stamp])).bind fun l11 =>
      again6 (IntKind.wrap .i64 (v4.1 + 1), l11)
    else
      again6 (IntKind.wrap .i64 (v4.1 + 1), v4.2)
  else
    cut_Of_k1 v4.2

def cut_Of (l_0 : (List Api_Version)) (key_1 : ByteArray) : Option Api_Stamp :=
  loopF (cut_Of_l2 l_0 key_1) FU (0, ([] : (List Api_Stamp)))

def cut_Late_1 (key_0 : ByteArray) (c0 : (List Api_Version)) (c1 : (List Api_Dep)) : Option Bool :=
  (cut_Of c0 key_0).bind fun r1 =>
  (past_Get c1 key_0).bind fun r2 =>
  (stamp_Less r1 r2).bind fun r3 =>
  some (!r3)

def cut_Late (keys_0 : (List ByteArray)) (l_1 : (List Api_Version)) (seen_2 : (List Api_Dep)) : Option (List ByteArray) :=
  (cut_Low l_1 seen_2).bind fun r1 =>
  (slices_Clone_string keys_0).bind fun r2 =>
  (slices_DeleteFunc_string r2 (fun x0 => cut_Late_1 x0 l_1 r1)).bind fun r3 =>
  some r3

def cut_Check (keys_0 : (List ByteArray)) (l_1 : (List Api_Version)) (seen_2 : (List Api_Dep)) : Option Bool :=
  (cut_Late keys_0 l_1 seen_2).bind fun r1 =>
  some (decide ((r1.length : Int) = 0))

def cut_After_k1 (y2 : (List Api_Dep)) : Option (List Api_Dep) :=
  some y2

def cut_After_l2 (l_1 : (List Api_Version)) (again6 : (List Api_Dep) × Int → Option (List Api_Dep)) (v4 : (List Api_Dep) × Int) : Option (List Api_Dep) :=
  if decide (v4.2 < (l_1.length : Int)) then
    (idx l_1 v4.2).bind fun x9 =>
    (past_Add v4.1 (Api_Dep.mk x9.Key x9.Stamp)).bind fun r10 =>
    again6 (r10, IntKind.wrap .i64 (v4.2 + 1))
  else
    cut_After_k1 v4.1

def cut_After (seen_0 : (List Api_Dep)) (l_1 : (List Api_Version)) : Option (List Api_Dep) :=
  (cut_Low l_1 seen_0).bind fun r1 =>
  loopF (cut_After_l2 l_1) FU (r1, 0)
end Go.Ark
