/- Typed functions, printed by a program of mine out of the translated code. -/
import Derived.Test.YtdngcojjipaajaaFT
import Derived.Test.YtdngcojjipaajaaFkeys
import Derived.Test.YtdngcojjipaajaaFlib
import Derived.Test.YtdngcojjipaajaaFstamp
import Derived.Test.YtdngcojjipaajaaFvary
namespace Go.Ark
open Go Go.Ab

def past_may (d_0 : Api_Dep) : Option Bool :=
  (keys_Check d_0.Key).bind fun r1 =>
  if r1 then
    (stamp_Check d_0.Stamp).bind fun r3 =>
    some r3
  else
    some false

def past_find_1 (d_0 : Api_Dep) (key_1 : ByteArray) : Option Int :=
  (cmp_Compare_string d_0.Key key_1).bind fun r1 =>
  some r1

def past_find (p_0 : (List Api_Dep)) (key_1 : ByteArray) : Option (Int × Bool) :=
  (slices_BinarySearchFunc_string p_0 key_1 (fun x0 x1 => past_find_1 x0 x1)).bind fun r1 =>
  some (r1.1, r1.2)

def past_Get (p_0 : (List Api_Dep)) (key_1 : ByteArray) : Option Api_Stamp :=
  (past_find p_0 key_1).bind fun r1 =>
  if !r1.2 then
    some (Api_Stamp.mk 0 0)
  else
    (idx p_0 r1.1).bind fun x3 =>
    some x3.Stamp

def past_Covers_1 (d_0 : Api_Dep) (c0 : (List Api_Dep)) : Option Bool :=
  (past_Get c0 d_0.Key).bind fun r1 =>
  (stamp_Less r1 d_0.Stamp).bind fun r2 =>
  some r2

def past_Covers (p_0 : (List Api_Dep)) (q_1 : (List Api_Dep)) : Option Bool :=
  (slices_ContainsFunc_Dep q_1 (fun x0 => past_Covers_1 x0 p_0)).bind fun r1 =>
  some (!r1)

def past_Add (p_0 : (List Api_Dep)) (d_1 : Api_Dep) : Option (List Api_Dep) :=
  (past_find p_0 d_1.Key).bind fun r1 =>
  (past_may d_1).bind fun r2 =>
  if !r2 then
    some p_0
  else
    if !r1.2 then
      (slices_Clone_Dep p_0).bind fun r5 =>
      (slices_Insert_Dep r5 r1.1 ([d_1])).bind fun r6 =>
      some r6
    else
      (slices_Clone_Dep p_0).bind fun r7 =>
      (idx r7 r1.1).bind fun x8 =>
      (stamp_Max ([x8.Stamp, d_1.Stamp])).bind fun r9 =>
      (idx r7 r1.1).bind fun x10 =>
      (sets r7 r1.1 (Api_Dep.mk x10.Key r9)).bind fun l11 =>
      some l11

def past_Merge_k1 (y1 : (List Api_Dep)) : Option (List Api_Dep) :=
  some y1

def past_Merge_k3 (again5 : (List Api_Dep) × Int → Option (List Api_Dep)) (v3 : (List Api_Dep) × Int) (y8 : (List Api_Dep)) : Option (List Api_Dep) :=
  again5 (y8, IntKind.wrap .i64 (v3.2 + 1))

def past_Merge_k4 (again5 : (List Api_Dep) × Int → Option (List Api_Dep)) (v3 : (List Api_Dep) × Int) (y11 : (List Api_Dep)) : Option (List Api_Dep) :=
  past_Merge_k3 again5 v3 y11

def past_Merge_l5 (again5 : (List Api_Dep) × Int → Option (List Api_Dep)) (v3 : (List Api_Dep) × Int) (x10 : (List Api_Dep)) (again15 : (List Api_Dep) × Int → Option (List Api_Dep)) (v13 : (List Api_Dep) × Int) : Option (List Api_Dep) :=
  if decide (v13.2 < (x10.length : Int)) then
    (idx x10 v13.2).bind fun x18 =>
    (past_Add v13.1 x18).bind fun r19 =>
    again15 (r19, IntKind.wrap .i64 (v13.2 + 1))
  else
    past_Merge_k4 again5 v3 v13.1

def past_Merge_l2 (l_0 : (List (List Api_Dep))) (again5 : (List Api_Dep) × Int → Option (List Api_Dep)) (v3 : (List Api_Dep) × Int) : Option (List Api_Dep) :=
  if decide (v3.2 < (l_0.length : Int)) then
    (idx l_0 v3.2).bind fun x10 =>
    loopF (past_Merge_l5 again5 v3 x10) FU (v3.1, 0)
  else
    past_Merge_k1 v3.1

def past_Merge (l_0 : (List (List Api_Dep))) : Option (List Api_Dep) :=
  loopF (past_Merge_l2 l_0) FU (([] : (List Api_Dep)), 0)
end Go.Ark
