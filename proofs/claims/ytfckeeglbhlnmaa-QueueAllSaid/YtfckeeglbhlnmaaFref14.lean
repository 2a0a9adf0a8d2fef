/- Typed functions, printed by a program of mine out of the translated code. -/
import Derived.Test.YtfckeeglbhlnmaaFT
import Derived.Test.YtfckeeglbhlnmaaFref02
import Derived.Test.YtfckeeglbhlnmaaFref03
import Derived.Test.YtfckeeglbhlnmaaFref04
import Derived.Test.YtfckeeglbhlnmaaFref06
namespace Go.Ark
open Go Go.Ab

def ref14_Misses_k1 (y2 : (List Api_Dep)) : Option (List Api_Dep) :=
  some y2

def ref14_Misses_l2 (have_1 : (List Api_Dep)) (r1 : (List Api_Dep)) (again6 : Int × (List Api_Dep) → Option (List Api_Dep)) (v4 : Int × (List Api_Dep)) : Option (List Api_Dep) :=
  if decide (v4.1 < (r1.length : Int)) then
    (idx r1 v4.1).bind fun x9 =>
    (ref04_Get have_1 x9.Key).bind fun r10 =>
    (idx r1 v4.1).bind fun x11 =>
    (ref03_Less r10 x11.Stamp).bind fun r12 =>
    if r12 then
      (idx r1 v4.1).bind fun x14 =>
      (app 32 v4.2 ([x14])).bind fun l15 =>
      again6 (IntKind.wrap .i64 (v4.1 + 1), l15)
    else
      again6 (IntKind.wrap .i64 (v4.1 + 1), v4.2)
  else
    ref14_Misses_k1 v4.2

def ref14_Misses (v_0 : Api_Version) (have_1 : (List Api_Dep)) (own_2 : (List Api_Range)) : Option (List Api_Dep) :=
  (ref04_Only v_0.Past own_2).bind fun r1 =>
  loopF (ref14_Misses_l2 have_1 r1) FU (0, ([] : (List Api_Dep)))

def ref14_Check (v_0 : Api_Version) (have_1 : (List Api_Dep)) (own_2 : (List Api_Range)) : Option Bool :=
  (ref14_Misses v_0 have_1 own_2).bind fun r1 =>
  some (decide ((r1.length : Int) = 0))

def ref14_Next_k1 (l_0 : (List Api_Version)) (_y1 : Unit) : Option Ref14_Got :=
  some (Ref14_Got.mk (Api_Version.mk ByteArray.empty ByteArray.empty false (Api_Stamp.mk 0 0) ([] : (List Api_Dep))) l_0 false)

def ref14_Next_l2 (l_0 : (List Api_Version)) (have_1 : (List Api_Dep)) (own_2 : (List Api_Range)) (again5 : Int → Option Ref14_Got) (v3 : Int) : Option Ref14_Got :=
  if decide (v3 < (l_0.length : Int)) then
    (idx l_0 v3).bind fun x8 =>
    (ref14_Check x8 have_1 own_2).bind fun r9 =>
    if r9 then
      (sub l_0 0 v3).bind fun l11 =>
      (app 80 ([] : (List Api_Version)) l11).bind fun l12 =>
      (idx l_0 v3).bind fun x13 =>
      (sub l_0 (IntKind.wrap .i64 (v3 + 1)) (l_0.length : Int)).bind fun l14 =>
      (app 80 l12 l14).bind fun l15 =>
      some (Ref14_Got.mk x13 l15 true)
    else
      again5 (IntKind.wrap .i64 (v3 + 1))
  else
    ref14_Next_k1 l_0 ()

def ref14_Next (l_0 : (List Api_Version)) (have_1 : (List Api_Dep)) (own_2 : (List Api_Range)) : Option Ref14_Got :=
  loopF (ref14_Next_l2 l_0 have_1 own_2) FU 0

def ref14_Push (l_0 : (List Api_Version)) (v_1 : Api_Version) : Option ((List Api_Version) × Int) :=
  (ref06_Check v_1).bind fun r1 =>
  if !r1 then
    some (([] : (List Api_Version)), 1)
  else
    if decide (24 ≤ (l_0.length : Int)) then
      some (([] : (List Api_Version)), 15)
    else
      (app 80 ([] : (List Api_Version)) l_0).bind fun l4 =>
      (app 80 l4 ([v_1])).bind fun l5 =>
      some (l5, 0)

def ref14_Drop_k1 (y1 : (List Api_Version)) : Option (List Api_Version) :=
  some y1

def ref14_Drop_l2 (l_0 : (List Api_Version)) (own_1 : (List Api_Range)) (again5 : Int × (List Api_Version) → Option (List Api_Version)) (v3 : Int × (List Api_Version)) : Option (List Api_Version) :=
  if decide (v3.1 < (l_0.length : Int)) then
    (idx l_0 v3.1).bind fun x8 =>
    (ref02_Find own_1 x8.Key).bind fun r9 =>
    if decide (0 ≤ r9) then
      (idx l_0 v3.1).bind fun x11 =>
      (app 80 v3.2 ([x11])).bind fun l12 =>
      again5 (IntKind.wrap .i64 (v3.1 + 1), l12)
    else
      again5 (IntKind.wrap .i64 (v3.1 + 1), v3.2)
  else
    ref14_Drop_k1 v3.2

def ref14_Drop (l_0 : (List Api_Version)) (own_1 : (List Api_Range)) : Option (List Api_Version) :=
  loopF (ref14_Drop_l2 l_0 own_1) FU (0, ([] : (List Api_Version)))
end Go.Ark
