/- Typed functions, printed by a program of mine out of the translated code. -/
import Derived.Test.YtdngcojjipaajaaFT
import Derived.Test.YtdngcojjipaajaaFref01
import Derived.Test.YtdngcojjipaajaaFref02
import Derived.Test.YtdngcojjipaajaaFref03
namespace Go.Ark
open Go Go.Ab

def ref04_Add_k2 (d_1 : Api_Dep) (y5 : Bool × (List Api_Dep)) : Option (List Api_Dep) :=
  if !y5.1 then
    (app 32 y5.2 ([d_1])).bind fun l7 =>
    some l7
  else
    some y5.2

def ref04_Add_k6 (again11 : Bool × Int × (List Api_Dep) → Option (List Api_Dep)) (v9 : Bool × Int × (List Api_Dep)) (y15 : Bool × ByteArray × Int × Int) (y17 : Bool × (List Api_Dep)) : Option (List Api_Dep) :=
  (app 32 y17.2 ([(Api_Dep.mk y15.2.1 (Api_Stamp.mk y15.2.2.1 y15.2.2.2))])).bind fun l18 =>
  again11 (y17.1, IntKind.wrap .i64 (v9.2.1 + 1), l18)

def ref04_Add_k5 (d_1 : Api_Dep) (again11 : Bool × Int × (List Api_Dep) → Option (List Api_Dep)) (v9 : Bool × Int × (List Api_Dep)) (y15 : Bool × ByteArray × Int × Int) (y16 : Bool) : Option (List Api_Dep) :=
  if y16 then
    (app 32 v9.2.2 ([d_1])).bind fun l21 =>
    ref04_Add_k6 again11 v9 y15 (true, l21)
  else
    ref04_Add_k6 again11 v9 y15 (y15.1, v9.2.2)

def ref04_Add_k4 (d_1 : Api_Dep) (again11 : Bool × Int × (List Api_Dep) → Option (List Api_Dep)) (v9 : Bool × Int × (List Api_Dep)) (y15 : Bool × ByteArray × Int × Int) : Option (List Api_Dep) :=
  if !y15.1 then
    ref04_Add_k5 d_1 again11 v9 y15 (!(slt y15.2.1 d_1.Key || seq y15.2.1 d_1.Key))
  else
    ref04_Add_k5 d_1 again11 v9 y15 false

def ref04_Add_l3 (p_0 : (List Api_Dep)) (d_1 : Api_Dep) (again11 : Bool × Int × (List Api_Dep) → Option (List Api_Dep)) (v9 : Bool × Int × (List Api_Dep)) : Option (List Api_Dep) :=
  if decide (v9.2.1 < (p_0.length : Int)) then
    (idx p_0 v9.2.1).bind fun x14 =>
    if seq x14.Key d_1.Key then
      (ref03_Less x14.Stamp d_1.Stamp).bind fun r26 =>
      if r26 then
        ref04_Add_k4 d_1 again11 v9 (true, d_1.Key, d_1.Stamp.N, d_1.Stamp.Site)
      else
        ref04_Add_k4 d_1 again11 v9 (true, x14.Key, x14.Stamp.N, x14.Stamp.Site)
    else
      ref04_Add_k4 d_1 again11 v9 (v9.1, x14.Key, x14.Stamp.N, x14.Stamp.Site)
  else
    ref04_Add_k2 d_1 (v9.1, v9.2.2)

def ref04_Add_k1 (p_0 : (List Api_Dep)) (d_1 : Api_Dep) (y3 : Bool) : Option (List Api_Dep) :=
  if y3 then
    some p_0
  else
    loopF (ref04_Add_l3 p_0 d_1) FU (false, 0, ([] : (List Api_Dep)))

def ref04_Add (p_0 : (List Api_Dep)) (d_1 : Api_Dep) : Option (List Api_Dep) :=
  (ref02_Check d_1.Key).bind fun r1 =>
  (ref03_Check d_1.Stamp).bind fun r2 =>
  if !r1 then
    ref04_Add_k1 p_0 d_1 true
  else
    ref04_Add_k1 p_0 d_1 (!r2)

def ref04_Same_k1 (_y2 : Unit) : Option Bool :=
  some true

def ref04_Same_l2 (p_0 : (List Api_Dep)) (q_1 : (List Api_Dep)) (again6 : Int → Option Bool) (v4 : Int) : Option Bool :=
  if decide (v4 < (p_0.length : Int)) then
    (idx p_0 v4).bind fun x9 =>
    (idx q_1 v4).bind fun x10 =>
    if !(decide (x9.Key = x10.Key) && decide (x9.Stamp.N = x10.Stamp.N) && decide (x9.Stamp.Site = x10.Stamp.Site)) then
      some false
    else
      again6 (IntKind.wrap .i64 (v4 + 1))
  else
    ref04_Same_k1 ()

def ref04_Same (p_0 : (List Api_Dep)) (q_1 : (List Api_Dep)) : Option Bool :=
  if !decide ((p_0.length : Int) = (q_1.length : Int)) then
    some false
  else
    loopF (ref04_Same_l2 p_0 q_1) FU 0

def ref04_Get_k1 (_y1 : Unit) : Option Api_Stamp :=
  some (Api_Stamp.mk 0 0)

def ref04_Get_l2 (p_0 : (List Api_Dep)) (key_1 : ByteArray) (again5 : Int → Option Api_Stamp) (v3 : Int) : Option Api_Stamp :=
  if decide (v3 < (p_0.length : Int)) then
    (idx p_0 v3).bind fun x8 =>
    if seq x8.Key key_1 then
      (idx p_0 v3).bind fun x10 =>
      some x10.Stamp
    else
      again5 (IntKind.wrap .i64 (v3 + 1))
  else
    ref04_Get_k1 ()

def ref04_Get (p_0 : (List Api_Dep)) (key_1 : ByteArray) : Option Api_Stamp :=
  loopF (ref04_Get_l2 p_0 key_1) FU 0

def ref04_Merge_k1 (y1 : (List Api_Dep)) : Option (List Api_Dep) :=
  some y1

def ref04_Merge_k3 (again5 : (List Api_Dep) × Int → Option (List Api_Dep)) (v3 : (List Api_Dep) × Int) (y8 : (List Api_Dep)) : Option (List Api_Dep) :=
  again5 (y8, IntKind.wrap .i64 (v3.2 + 1))

def ref04_Merge_k4 (again5 : (List Api_Dep) × Int → Option (List Api_Dep)) (v3 : (List Api_Dep) × Int) (y10 : (List Api_Dep)) : Option (List Api_Dep) :=
  ref04_Merge_k3 again5 v3 y10

def ref04_Merge_l5 (l_0 : (List (List Api_Dep))) (again5 : (List Api_Dep) × Int → Option (List Api_Dep)) (v3 : (List Api_Dep) × Int) (again14 : (List Api_Dep) × Int → Option (List Api_Dep)) (v12 : (List Api_Dep) × Int) : Option (List Api_Dep) :=
  (idx l_0 v3.2).bind fun x16 =>
  if decide (v12.2 < (x16.length : Int)) then
    (idx l_0 v3.2).bind fun x18 =>
    (idx x18 v12.2).bind fun x19 =>
    (ref04_Add v12.1 x19).bind fun r20 =>
    again14 (r20, IntKind.wrap .i64 (v12.2 + 1))
  else
    ref04_Merge_k4 again5 v3 v12.1

def ref04_Merge_l2 (l_0 : (List (List Api_Dep))) (again5 : (List Api_Dep) × Int → Option (List Api_Dep)) (v3 : (List Api_Dep) × Int) : Option (List Api_Dep) :=
  if decide (v3.2 < (l_0.length : Int)) then
    loopF (ref04_Merge_l5 l_0 again5 v3) FU (v3.1, 0)
  else
    ref04_Merge_k1 v3.1

def ref04_Merge (l_0 : (List (List Api_Dep))) : Option (List Api_Dep) :=
  loopF (ref04_Merge_l2 l_0) FU (([] : (List Api_Dep)), 0)

def ref04_Covers_k1 (_y1 : Unit) : Option Bool :=
  some true

def ref04_Covers_l2 (p_0 : (List Api_Dep)) (q_1 : (List Api_Dep)) (again5 : Int → Option Bool) (v3 : Int) : Option Bool :=
  if decide (v3 < (q_1.length : Int)) then
    (idx q_1 v3).bind fun x8 =>
    (ref04_Get p_0 x8.Key).bind fun r9 =>
    (idx q_1 v3).bind fun x10 =>
    (ref03_Less r9 x10.Stamp).bind fun r11 =>
    if r11 then
      some false
    else
      again5 (IntKind.wrap .i64 (v3 + 1))
  else
    ref04_Covers_k1 ()

def ref04_Covers (p_0 : (List Api_Dep)) (q_1 : (List Api_Dep)) : Option Bool :=
  loopF (ref04_Covers_l2 p_0 q_1) FU 0
end Go.Ark
