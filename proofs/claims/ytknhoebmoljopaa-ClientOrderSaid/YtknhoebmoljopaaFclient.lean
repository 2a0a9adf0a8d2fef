/- Typed functions, printed by a program of mine out of the translated code. -/
import Derived.Test.YtknhoebmoljopaaFT
import Derived.Test.YtknhoebmoljopaaFpast
import Derived.Test.YtknhoebmoljopaaFstamp
namespace Go.Ark
open Go Go.Ab

def client_New (site_0 : Int) : Option Api_Session :=
  some (Api_Session.mk site_0 ([] : (List Api_Dep)))

def client_Saw_k1 (s_0 : Api_Session) (y1 : (List Api_Dep)) : Option Api_Session :=
  some (Api_Session.mk s_0.Site y1)

def client_Saw_l2 (s_0 : Api_Session) (l_1 : (List Api_Version)) (again5 : Int × (List Api_Dep) → Option Api_Session) (v3 : Int × (List Api_Dep)) : Option Api_Session :=
  if decide (v3.1 < (l_1.length : Int)) then
    (idx l_1 v3.1).bind fun x8 =>
    (past_Merge ([v3.2, x8.Past, [(Api_Dep.mk x8.Key x8.Stamp)]])).bind fun r9 =>
    again5 (IntKind.wrap .i64 (v3.1 + 1), r9)
  else
    client_Saw_k1 s_0 v3.2

def client_Saw (s_0 : Api_Session) (l_1 : (List Api_Version)) : Option Api_Session :=
  loopF (client_Saw_l2 s_0 l_1) FU (0, s_0.Past)

def client_May (s_0 : Api_Session) (have_1 : (List Api_Dep)) (own_2 : (List Api_Range)) : Option Bool :=
  (past_Only s_0.Past own_2).bind fun r1 =>
  (past_Covers have_1 r1).bind fun r2 =>
  some r2

def client_Enter_k1 (s_0 : Api_Session) (site_1 : Int) (have_2 : (List Api_Dep)) (own_3 : (List Api_Range)) (y1 : Bool) : Option (Api_Session × Int) :=
  if y1 then
    some ((Api_Session.mk 0 ([] : (List Api_Dep))), 1)
  else
    if decide ((-1) < s_0.Site) then
      some ((Api_Session.mk 0 ([] : (List Api_Dep))), 13)
    else
      (client_May s_0 have_2 own_3).bind fun r4 =>
      if !r4 then
        some ((Api_Session.mk 0 ([] : (List Api_Dep))), 17)
      else
        some ((Api_Session.mk site_1 s_0.Past), 0)

def client_Enter (s_0 : Api_Session) (site_1 : Int) (have_2 : (List Api_Dep)) (own_3 : (List Api_Range)) : Option (Api_Session × Int) :=
  if decide (site_1 < 0) then
    client_Enter_k1 s_0 site_1 have_2 own_3 true
  else
    client_Enter_k1 s_0 site_1 have_2 own_3 (decide (6 ≤ site_1))

def client_Fits (s_0 : Api_Session) (v_1 : Api_Version) : Option Bool :=
  (past_Get s_0.Past v_1.Key).bind fun r1 =>
  (stamp_Less v_1.Stamp r1).bind fun r2 =>
  some (!r2)

def client_Leave (s_0 : Api_Session) : Option Api_Session :=
  some (Api_Session.mk (-1) s_0.Past)
end Go.Ark
