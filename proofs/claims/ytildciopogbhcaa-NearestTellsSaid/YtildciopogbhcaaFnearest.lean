/- Typed functions, printed by a program of mine out of the translated code. -/
import Derived.Test.YtildciopogbhcaaFT
import Derived.Test.YtildciopogbhcaaFlib
import Derived.Test.YtildciopogbhcaaFpast
import Derived.Test.YtildciopogbhcaaFstamp
namespace Go.Ark
open Go Go.Ab

def nearest_is (v_0 : Api_Version) (d_1 : Api_Dep) : Option Bool :=
  if seq v_0.Key d_1.Key then
    some (decide (v_0.Stamp.N = d_1.Stamp.N) && decide (v_0.Stamp.Site = d_1.Stamp.Site))
  else
    some false

def nearest_Find_1 (v_0 : Api_Version) (c0 : Api_Dep) : Option Bool :=
  (nearest_is v_0 c0).bind fun r1 =>
  some r1

def nearest_first_api_Version_ (l_0 : (List Api_Version)) (is_1 : (Api_Version → Option Bool)) : Option (Api_Version × Bool) :=
  (slices_IndexFunc_Version l_0 is_1).bind fun r1 =>
  if decide (r1 < 0) then
    some ((Api_Version.mk ByteArray.empty ByteArray.empty false (Api_Stamp.mk 0 0) ([] : (List Api_Dep))), false)
  else
    (idx l_0 r1).bind fun x3 =>
    some (x3, true)

def nearest_Find (l_0 : (List Api_Version)) (d_1 : Api_Dep) : Option (Api_Version × Bool) :=
  (nearest_first_api_Version_ l_0 (fun x0 => nearest_Find_1 x0 d_1)).bind fun r1 =>
  some (r1.1, r1.2)

def nearest_tells (l_0 : (List Api_Version)) (by_1 : Api_Dep) (of_2 : Api_Dep) : Option Bool :=
  (nearest_Find l_0 by_1).bind fun r1 =>
  if r1.2 then
    (past_Get r1.1.Past of_2.Key).bind fun r3 =>
    (stamp_Less r3 of_2.Stamp).bind fun r4 =>
    some (!r4)
  else
    some false

def nearest_Reduce_k1 (y1 : (List Api_Dep)) : Option (List Api_Dep) :=
  some y1

def nearest_Reduce_k3 (again5 : Int × (List Api_Dep) → Option (List Api_Dep)) (v3 : Int × (List Api_Dep)) (y8 : (List Api_Dep)) : Option (List Api_Dep) :=
  again5 (IntKind.wrap .i64 (v3.1 + 1), y8)

def nearest_Reduce_k4 (again5 : Int × (List Api_Dep) → Option (List Api_Dep)) (v3 : Int × (List Api_Dep)) (x10 : Api_Dep) (_y11 : Unit) : Option (List Api_Dep) :=
  (app 32 v3.2 ([x10])).bind fun l12 =>
  nearest_Reduce_k3 again5 v3 l12

def nearest_Reduce_l5 (p_0 : (List Api_Dep)) (l_1 : (List Api_Version)) (again5 : Int × (List Api_Dep) → Option (List Api_Dep)) (v3 : Int × (List Api_Dep)) (x10 : Api_Dep) (again16 : Int → Option (List Api_Dep)) (v14 : Int) : Option (List Api_Dep) :=
  if decide (v14 < (p_0.length : Int)) then
    (idx p_0 v14).bind fun x19 =>
    if !decide (v14 = v3.1) then
      (nearest_tells l_1 x19 x10).bind fun r21 =>
      if r21 then
        nearest_Reduce_k3 again5 v3 v3.2
      else
        again16 (IntKind.wrap .i64 (v14 + 1))
    else
      again16 (IntKind.wrap .i64 (v14 + 1))
  else
    nearest_Reduce_k4 again5 v3 x10 ()

def nearest_Reduce_l2 (p_0 : (List Api_Dep)) (l_1 : (List Api_Version)) (again5 : Int × (List Api_Dep) → Option (List Api_Dep)) (v3 : Int × (List Api_Dep)) : Option (List Api_Dep) :=
  if decide (v3.1 < (p_0.length : Int)) then
    (idx p_0 v3.1).bind fun x10 =>
    loopF (nearest_Reduce_l5 p_0 l_1 again5 v3 x10) FU 0
  else
    nearest_Reduce_k1 v3.2

def nearest_Reduce (p_0 : (List Api_Dep)) (l_1 : (List Api_Version)) : Option (List Api_Dep) :=
  loopF (nearest_Reduce_l2 p_0 l_1) FU (0, ([] : (List Api_Dep)))

def nearest_Expand_k1 (y1 : (List (List Api_Dep))) : Option (List Api_Dep) :=
  (past_Merge y1).bind fun r2 =>
  some r2

def nearest_Expand_l2 (p_0 : (List Api_Dep)) (l_1 : (List Api_Version)) (again6 : Int × (List (List Api_Dep)) → Option (List Api_Dep)) (v4 : Int × (List (List Api_Dep))) : Option (List Api_Dep) :=
  if decide (v4.1 < (p_0.length : Int)) then
    (idx p_0 v4.1).bind fun x9 =>
    (nearest_Find l_1 x9).bind fun r10 =>
    (app 24 v4.2 ([r10.1.Past])).bind fun l11 =>
    again6 (IntKind.wrap .i64 (v4.1 + 1), l11)
  else
    nearest_Expand_k1 v4.2

def nearest_Expand (p_0 : (List Api_Dep)) (l_1 : (List Api_Version)) : Option (List Api_Dep) :=
  loopF (nearest_Expand_l2 p_0 l_1) FU (0, [p_0])

def nearest_Closed_1 (d_0 : Api_Dep) (c0 : (List Api_Version)) (c1 : (List Api_Dep)) : Option Bool :=
  (nearest_Find c0 d_0).bind fun r1 =>
  if !r1.2 then
    some true
  else
    (past_Covers c1 r1.1.Past).bind fun r3 =>
    some (!r3)

def nearest_Closed (p_0 : (List Api_Dep)) (l_1 : (List Api_Version)) : Option Bool :=
  (slices_ContainsFunc_Dep p_0 (fun x0 => nearest_Closed_1 x0 l_1 p_0)).bind fun r1 =>
  some (!r1)

def nearest_Sound_1 (d_0 : Api_Dep) (c0 : Api_Version) : Option Bool :=
  (stamp_Less d_0.Stamp c0.Stamp).bind fun r1 =>
  some (!r1)

def nearest_Sound_k1 (_y1 : Unit) : Option Bool :=
  some true

def nearest_Sound_k5 (l_0 : (List Api_Version)) (again5 : Int → Option Bool) (v3 : Int) (x8 : Api_Version) (y13 : Bool) : Option Bool :=
  if y13 then
    some false
  else
    (nearest_Closed x8.Past l_0).bind fun r15 =>
    if !r15 then
      some false
    else
      again5 (IntKind.wrap .i64 (v3 + 1))

def nearest_Sound_k4 (l_0 : (List Api_Version)) (again5 : Int → Option Bool) (v3 : Int) (x8 : Api_Version) (y12 : Bool) : Option Bool :=
  if y12 then
    nearest_Sound_k5 l_0 again5 v3 x8 true
  else
    (slices_ContainsFunc_Dep x8.Past (fun x0 => nearest_Sound_1 x0 x8)).bind fun r19 =>
    nearest_Sound_k5 l_0 again5 v3 x8 r19

def nearest_Sound_k3 (l_0 : (List Api_Version)) (again5 : Int → Option Bool) (v3 : Int) (x8 : Api_Version) (y11 : Bool) : Option Bool :=
  if y11 then
    nearest_Sound_k4 l_0 again5 v3 x8 true
  else
    (stamp_Check x8.Stamp).bind fun r22 =>
    nearest_Sound_k4 l_0 again5 v3 x8 (!r22)

def nearest_Sound_l2 (l_0 : (List Api_Version)) (again5 : Int → Option Bool) (v3 : Int) : Option Bool :=
  if decide (v3 < (l_0.length : Int)) then
    (idx l_0 v3).bind fun x8 =>
    (sub l_0 0 v3).bind fun l9 =>
    (nearest_Find l9 (Api_Dep.mk x8.Key x8.Stamp)).bind fun r10 =>
    if r10.2 then
      nearest_Sound_k3 l_0 again5 v3 x8 true
    else
      (past_Check x8.Past).bind fun r25 =>
      nearest_Sound_k3 l_0 again5 v3 x8 (!r25)
  else
    nearest_Sound_k1 ()

def nearest_Sound (l_0 : (List Api_Version)) : Option Bool :=
  loopF (nearest_Sound_l2 l_0) FU 0
end Go.Ark
