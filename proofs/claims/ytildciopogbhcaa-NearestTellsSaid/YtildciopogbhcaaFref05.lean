/- Typed functions, printed by a program of mine out of the translated code. -/
import Derived.Test.YtildciopogbhcaaFT
import Derived.Test.YtildciopogbhcaaFref03
import Derived.Test.YtildciopogbhcaaFref04
namespace Go.Ark
open Go Go.Ab

def ref05_Find_k1 (_y1 : Unit) : Option (Api_Version × Bool) :=
  some ((Api_Version.mk ByteArray.empty ByteArray.empty false (Api_Stamp.mk 0 0) ([] : (List Api_Dep))), false)

def ref05_Find_k3 (l_0 : (List Api_Version)) (again5 : Int → Option (Api_Version × Bool)) (v3 : Int) (y8 : Bool) : Option (Api_Version × Bool) :=
  if y8 then
    (idx l_0 v3).bind fun x10 =>
    some (x10, true)
  else
    again5 (IntKind.wrap .i64 (v3 + 1))

def ref05_Find_l2 (l_0 : (List Api_Version)) (d_1 : Api_Dep) (again5 : Int → Option (Api_Version × Bool)) (v3 : Int) : Option (Api_Version × Bool) :=
  if decide (v3 < (l_0.length : Int)) then
    (idx l_0 v3).bind fun x12 =>
    if seq x12.Key d_1.Key then
      (idx l_0 v3).bind fun x14 =>
      ref05_Find_k3 l_0 again5 v3 (decide (x14.Stamp.N = d_1.Stamp.N) && decide (x14.Stamp.Site = d_1.Stamp.Site))
    else
      ref05_Find_k3 l_0 again5 v3 false
  else
    ref05_Find_k1 ()

def ref05_Find (l_0 : (List Api_Version)) (d_1 : Api_Dep) : Option (Api_Version × Bool) :=
  loopF (ref05_Find_l2 l_0 d_1) FU 0

def ref05_Reduce_k1 (y1 : (List Api_Dep)) : Option (List Api_Dep) :=
  some y1

def ref05_Reduce_k3 (again5 : Int × (List Api_Dep) → Option (List Api_Dep)) (v3 : Int × (List Api_Dep)) (y8 : (List Api_Dep)) : Option (List Api_Dep) :=
  again5 (IntKind.wrap .i64 (v3.1 + 1), y8)

def ref05_Reduce_k4 (p_0 : (List Api_Dep)) (again5 : Int × (List Api_Dep) → Option (List Api_Dep)) (v3 : Int × (List Api_Dep)) (y10 : Bool) : Option (List Api_Dep) :=
  if !y10 then
    (idx p_0 v3.1).bind fun x12 =>
    (app 32 v3.2 ([x12])).bind fun l13 =>
    ref05_Reduce_k3 again5 v3 l13
  else
    ref05_Reduce_k3 again5 v3 v3.2

def ref05_Reduce_l5 (p_0 : (List Api_Dep)) (l_1 : (List Api_Version)) (again5 : Int × (List Api_Dep) → Option (List Api_Dep)) (v3 : Int × (List Api_Dep)) (again17 : Bool × Int → Option (List Api_Dep)) (v15 : Bool × Int) : Option (List Api_Dep) :=
  if decide (v15.2 < (p_0.length : Int)) then
    (idx p_0 v15.2).bind fun x20 =>
    (ref05_Find l_1 x20).bind fun r21 =>
    (idx p_0 v3.1).bind fun x22 =>
    (ref04_Get r21.1.Past x22.Key).bind fun r23 =>
    if !decide (v15.2 = v3.1) then
      if r21.2 then
        (idx p_0 v3.1).bind fun x26 =>
        (ref03_Less r23 x26.Stamp).bind fun r27 =>
        if !r27 then
          again17 (true, IntKind.wrap .i64 (v15.2 + 1))
        else
          again17 (v15.1, IntKind.wrap .i64 (v15.2 + 1))
      else
        again17 (v15.1, IntKind.wrap .i64 (v15.2 + 1))
    else
      again17 (v15.1, IntKind.wrap .i64 (v15.2 + 1))
  else
    ref05_Reduce_k4 p_0 again5 v3 v15.1

def ref05_Reduce_l2 (p_0 : (List Api_Dep)) (l_1 : (List Api_Version)) (again5 : Int × (List Api_Dep) → Option (List Api_Dep)) (v3 : Int × (List Api_Dep)) : Option (List Api_Dep) :=
  if decide (v3.1 < (p_0.length : Int)) then
    loopF (ref05_Reduce_l5 p_0 l_1 again5 v3) FU (false, 0)
  else
    ref05_Reduce_k1 v3.2

def ref05_Reduce (p_0 : (List Api_Dep)) (l_1 : (List Api_Version)) : Option (List Api_Dep) :=
  loopF (ref05_Reduce_l2 p_0 l_1) FU (0, ([] : (List Api_Dep)))

def ref05_Expand_k1 (y1 : (List (List Api_Dep))) : Option (List Api_Dep) :=
  (ref04_Merge y1).bind fun r2 =>
  some r2

def ref05_Expand_l2 (p_0 : (List Api_Dep)) (l_1 : (List Api_Version)) (again6 : Int × (List (List Api_Dep)) → Option (List Api_Dep)) (v4 : Int × (List (List Api_Dep))) : Option (List Api_Dep) :=
  if decide (v4.1 < (p_0.length : Int)) then
    (idx p_0 v4.1).bind fun x9 =>
    (ref05_Find l_1 x9).bind fun r10 =>
    if r10.2 then
      (app 24 v4.2 ([r10.1.Past])).bind fun l12 =>
      again6 (IntKind.wrap .i64 (v4.1 + 1), l12)
    else
      again6 (IntKind.wrap .i64 (v4.1 + 1), v4.2)
  else
    ref05_Expand_k1 v4.2

def ref05_Expand (p_0 : (List Api_Dep)) (l_1 : (List Api_Version)) : Option (List Api_Dep) :=
  loopF (ref05_Expand_l2 p_0 l_1) FU (0, [p_0])

def ref05_Closed_k1 (_y1 : Unit) : Option Bool :=
  some true

def ref05_Closed_l2 (p_0 : (List Api_Dep)) (l_1 : (List Api_Version)) (again5 : Int → Option Bool) (v3 : Int) : Option Bool :=
  if decide (v3 < (p_0.length : Int)) then
    (idx p_0 v3).bind fun x8 =>
    (ref05_Find l_1 x8).bind fun r9 =>
    (ref04_Covers p_0 r9.1.Past).bind fun r10 =>
    if !r9.2 then
      some false
    else
      if !r10 then
        some false
      else
        again5 (IntKind.wrap .i64 (v3 + 1))
  else
    ref05_Closed_k1 ()

def ref05_Closed (p_0 : (List Api_Dep)) (l_1 : (List Api_Version)) : Option Bool :=
  loopF (ref05_Closed_l2 p_0 l_1) FU 0

def ref05_Sound_k1 (_y1 : Unit) : Option Bool :=
  some true

def ref05_Sound_k3 (again5 : Int → Option Bool) (v3 : Int) (_y8 : Unit) : Option Bool :=
  again5 (IntKind.wrap .i64 (v3 + 1))

def ref05_Sound_k6 (again5 : Int → Option Bool) (v3 : Int) (_y19 : Unit) : Option Bool :=
  ref05_Sound_k3 again5 v3 ()

def ref05_Sound_l7 (l_0 : (List Api_Version)) (again5 : Int → Option Bool) (v3 : Int) (again23 : Int → Option Bool) (v21 : Int) : Option Bool :=
  if decide (v21 < v3) then
    (idx l_0 v21).bind fun x26 =>
    (idx l_0 v3).bind fun x27 =>
    if seq x26.Key x27.Key then
      (idx l_0 v21).bind fun x29 =>
      (idx l_0 v3).bind fun x30 =>
      if (decide (x29.Stamp.N = x30.Stamp.N) && decide (x29.Stamp.Site = x30.Stamp.Site)) then
        some false
      else
        again23 (IntKind.wrap .i64 (v21 + 1))
    else
      again23 (IntKind.wrap .i64 (v21 + 1))
  else
    ref05_Sound_k6 again5 v3 ()

def ref05_Sound_k5 (l_0 : (List Api_Version)) (again5 : Int → Option Bool) (v3 : Int) (_y18 : Unit) : Option Bool :=
  loopF (ref05_Sound_l7 l_0 again5 v3) FU 0

def ref05_Sound_l8 (l_0 : (List Api_Version)) (again5 : Int → Option Bool) (v3 : Int) (again35 : Int → Option Bool) (v33 : Int) : Option Bool :=
  (idx l_0 v3).bind fun x37 =>
  if decide (v33 < (x37.Past.length : Int)) then
    (idx l_0 v3).bind fun x39 =>
    (idx x39.Past v33).bind fun x40 =>
    (idx l_0 v3).bind fun x41 =>
    (ref03_Less x40.Stamp x41.Stamp).bind fun r42 =>
    if !r42 then
      some false
    else
      again35 (IntKind.wrap .i64 (v33 + 1))
  else
    ref05_Sound_k5 l_0 again5 v3 ()

def ref05_Sound_k4 (l_0 : (List Api_Version)) (again5 : Int → Option Bool) (v3 : Int) (y16 : Bool) : Option Bool :=
  if y16 then
    some false
  else
    loopF (ref05_Sound_l8 l_0 again5 v3) FU 0

def ref05_Sound_l2 (l_0 : (List Api_Version)) (again5 : Int → Option Bool) (v3 : Int) : Option Bool :=
  if decide (v3 < (l_0.length : Int)) then
    (idx l_0 v3).bind fun x10 =>
    (ref04_Check x10.Past).bind fun r11 =>
    (idx l_0 v3).bind fun x12 =>
    (ref03_Check x12.Stamp).bind fun r13 =>
    (idx l_0 v3).bind fun x14 =>
    (ref05_Closed x14.Past l_0).bind fun r15 =>
    if !r11 then
      ref05_Sound_k4 l_0 again5 v3 true
    else
      if !r13 then
        ref05_Sound_k4 l_0 again5 v3 true
      else
        ref05_Sound_k4 l_0 again5 v3 (!r15)
  else
    ref05_Sound_k1 ()

def ref05_Sound (l_0 : (List Api_Version)) : Option Bool :=
  loopF (ref05_Sound_l2 l_0) FU 0
end Go.Ark
