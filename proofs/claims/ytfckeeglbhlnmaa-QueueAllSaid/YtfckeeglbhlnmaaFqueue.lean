/- Typed functions, printed by a program of mine out of the translated code. -/
import Derived.Test.YtfckeeglbhlnmaaFT
import Derived.Test.YtfckeeglbhlnmaaFkeys
import Derived.Test.YtfckeeglbhlnmaaFlib
import Derived.Test.YtfckeeglbhlnmaaFpast
import Derived.Test.YtfckeeglbhlnmaaFstamp
import Derived.Test.YtfckeeglbhlnmaaFwire
namespace Go.Ark
open Go Go.Ab

def queue_Misses_1 (d_0 : Api_Dep) (c0 : (List Api_Dep)) : Option Bool :=
  (past_Get c0 d_0.Key).bind fun r1 =>
  (stamp_Less r1 d_0.Stamp).bind fun r2 =>
  some (!r2)

def queue_Misses (v_0 : Api_Version) (have_1 : (List Api_Dep)) (own_2 : (List Api_Range)) : Option (List Api_Dep) :=
  (past_Only v_0.Past own_2).bind fun r1 =>
  (slices_DeleteFunc_Dep r1 (fun x0 => queue_Misses_1 x0 have_1)).bind fun r2 =>
  some r2

def queue_Check (v_0 : Api_Version) (have_1 : (List Api_Dep)) (own_2 : (List Api_Range)) : Option Bool :=
  (queue_Misses v_0 have_1 own_2).bind fun r1 =>
  some (decide ((r1.length : Int) = 0))

def queue_Next_k1 (l_0 : (List Api_Version)) (_y1 : Unit) : Option (Api_Version × (List Api_Version) × Bool) :=
  some ((Api_Version.mk ByteArray.empty ByteArray.empty false (Api_Stamp.mk 0 0) ([] : (List Api_Dep))), l_0, false)

def queue_Next_l2 (l_0 : (List Api_Version)) (have_1 : (List Api_Dep)) (own_2 : (List Api_Range)) (again5 : Int → Option (Api_Version × (List Api_Version) × Bool)) (v3 : Int) : Option (Api_Version × (List Api_Version) × Bool) :=
  if decide (v3 < (l_0.length : Int)) then
    (idx l_0 v3).bind fun x8 =>
    (queue_Check x8 have_1 own_2).bind fun r9 =>
    if !r9 then
      again5 (IntKind.wrap .i64 (v3 + 1))
    else
      (sub l_0 0 v3).bind fun l11 =>
      (sub l_0 (IntKind.wrap .i64 (v3 + 1)) (l_0.length : Int)).bind fun l12 =>
      (app 80 l11 l12).bind fun l13 =>
      some (x8, l13, true)
  else
    queue_Next_k1 l_0 ()

def queue_Next (l_0 : (List Api_Version)) (have_1 : (List Api_Dep)) (own_2 : (List Api_Range)) : Option (Api_Version × (List Api_Version) × Bool) :=
  loopF (queue_Next_l2 l_0 have_1 own_2) FU 0

def queue_Drop_1 (v_0 : Api_Version) (c0 : (List Api_Range)) : Option Bool :=
  (keys_Find c0 v_0.Key).bind fun r1 =>
  some (decide (r1 < 0))

def queue_Drop (l_0 : (List Api_Version)) (own_1 : (List Api_Range)) : Option (List Api_Version) :=
  (slices_Clone_Version l_0).bind fun r1 =>
  (slices_DeleteFunc_Version r1 (fun x0 => queue_Drop_1 x0 own_1)).bind fun r2 =>
  some r2

def queue_Push (l_0 : (List Api_Version)) (v_1 : Api_Version) : Option ((List Api_Version) × Int) :=
  (wire_Check v_1).bind fun r1 =>
  if !r1 then
    some (([] : (List Api_Version)), 1)
  else
    if decide (24 ≤ (l_0.length : Int)) then
      some (([] : (List Api_Version)), 15)
    else
      (sub l_0 0 (l_0.length : Int)).bind fun l4 =>
      (app 80 l4 ([v_1])).bind fun l5 =>
      some (l5, 0)
end Go.Ark
