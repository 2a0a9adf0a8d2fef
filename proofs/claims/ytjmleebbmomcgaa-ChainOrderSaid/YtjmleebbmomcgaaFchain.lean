/- Typed functions, printed by a program of mine out of the translated code. -/
import Derived.Test.YtjmleebbmomcgaaFT
import Derived.Test.YtjmleebbmomcgaaFlib
import Derived.Test.YtjmleebbmomcgaaFstamp
import Derived.Test.YtjmleebbmomcgaaFwire
namespace Go.Ark
open Go Go.Ab

def chain_Keeps_1 (x_0 : Api_Version) (is_1 : Bool) (c0 : Api_Version) : Option Bool :=
  if is_1 then
    (wire_Same x_0 c0).bind fun r2 =>
    some r2
  else
    some false

def chain_told_k1 (l_0 : (List Api_Version)) (i_1 : Int) (y1 : Bool) : Option (Api_Version × Bool) :=
  if y1 then
    some ((Api_Version.mk ByteArray.empty ByteArray.empty false (Api_Stamp.mk 0 0) ([] : (List Api_Dep))), false)
  else
    (idx l_0 i_1).bind fun x3 =>
    some (x3, true)

def chain_told (l_0 : (List Api_Version)) (i_1 : Int) : Option (Api_Version × Bool) :=
  if decide (i_1 < 0) then
    chain_told_k1 l_0 i_1 true
  else
    chain_told_k1 l_0 i_1 (decide ((l_0.length : Int) ≤ i_1))

def chain_Head (l_0 : (List Api_Version)) : Option (Api_Version × Bool) :=
  (chain_told l_0 (IntKind.wrap .i64 ((l_0.length : Int) - 1))).bind fun r1 =>
  some (r1.1, r1.2)

def chain_from_1 (v_0 : Api_Version) (c0 : Api_Stamp) : Option Bool :=
  (stamp_Less v_0.Stamp c0).bind fun r1 =>
  some (!r1)

def chain_from (l_0 : (List Api_Version)) (s_1 : Api_Stamp) : Option Int :=
  (slices_IndexFunc_Version l_0 (fun x0 => chain_from_1 x0 s_1)).bind fun r1 =>
  if decide (r1 < 0) then
    some (l_0.length : Int)
  else
    some r1

def chain_At_k1 (r2 : (Api_Version × Bool)) (y3 : Bool) : Option (Api_Version × Bool) :=
  if y3 then
    some ((Api_Version.mk ByteArray.empty ByteArray.empty false (Api_Stamp.mk 0 0) ([] : (List Api_Dep))), false)
  else
    some (r2.1, true)

def chain_At (l_0 : (List Api_Version)) (s_1 : Api_Stamp) : Option (Api_Version × Bool) :=
  (chain_from l_0 s_1).bind fun r1 =>
  (chain_told l_0 r1).bind fun r2 =>
  if !r2.2 then
    chain_At_k1 r2 true
  else
    chain_At_k1 r2 (!(decide (r2.1.Stamp.N = s_1.N) && decide (r2.1.Stamp.Site = s_1.Site)))

def chain_Below (l_0 : (List Api_Version)) (s_1 : Api_Stamp) : Option (Api_Version × Bool) :=
  (chain_At l_0 s_1).bind fun r1 =>
  if r1.2 then
    some (r1.1, true)
  else
    (chain_from l_0 s_1).bind fun r3 =>
    (chain_told l_0 (IntKind.wrap .i64 (r3 - 1))).bind fun r4 =>
    some (r4.1, r4.2)

def chain_Keeps_k2 (l_0 : (List Api_Version)) (stable_1 : Api_Stamp) (v_3 : Api_Version) (y3 : Bool) : Option Bool :=
  if y3 then
    some true
  else
    (chain_Below l_0 stable_1).bind fun r5 =>
    (chain_Keeps_1 r5.1 r5.2 v_3).bind fun r6 =>
    some r6

def chain_Keeps_k1 (l_0 : (List Api_Version)) (stable_1 : Api_Stamp) (v_3 : Api_Version) (y2 : Bool) : Option Bool :=
  if y2 then
    chain_Keeps_k2 l_0 stable_1 v_3 true
  else
    (chain_Head l_0).bind fun r9 =>
    (chain_Keeps_1 r9.1 r9.2 v_3).bind fun r10 =>
    chain_Keeps_k2 l_0 stable_1 v_3 r10

def chain_Keeps (l_0 : (List Api_Version)) (stable_1 : Api_Stamp) (pins_2 : (List Api_Stamp)) (v_3 : Api_Version) : Option Bool :=
  (slices_Contains_Stamp pins_2 v_3.Stamp).bind fun r1 =>
  if r1 then
    chain_Keeps_k1 l_0 stable_1 v_3 true
  else
    (stamp_Less v_3.Stamp stable_1).bind fun r13 =>
    chain_Keeps_k1 l_0 stable_1 v_3 (!r13)

def chain_Clean_1 (v_0 : Api_Version) (c0 : (List Api_Version)) (c1 : Api_Stamp) (c2 : (List Api_Stamp)) : Option Bool :=
  (chain_Keeps c0 c1 c2 v_0).bind fun r1 =>
  some (!r1)

def chain_Clean (l_0 : (List Api_Version)) (stable_1 : Api_Stamp) (pins_2 : (List Api_Stamp)) : Option (List Api_Version) :=
  (slices_Clone_Version l_0).bind fun r1 =>
  (slices_DeleteFunc_Version r1 (fun x0 => chain_Clean_1 x0 l_0 stable_1 pins_2)).bind fun r2 =>
  some r2

def chain_Check_k1 (y1 : Bool) : Option Bool :=
  some y1

def chain_Check_l2 (l_0 : (List Api_Version)) (again5 : Bool × Int → Option Bool) (v3 : Bool × Int) : Option Bool :=
  if decide (v3.2 < (l_0.length : Int)) then
    (idx l_0 v3.2).bind fun x8 =>
    (wire_Check x8).bind fun r9 =>
    if r9 then
      (idx l_0 0).bind fun x11 =>
      if seq x8.Key x11.Key then
        if decide (v3.2 = 0) then
          if !true then
            chain_Check_k1 true
          else
            again5 (true, IntKind.wrap .i64 (v3.2 + 1))
        else
          (idx l_0 (IntKind.wrap .i64 (v3.2 - 1))).bind fun x15 =>
          (stamp_Less x15.Stamp x8.Stamp).bind fun r16 =>
          if !r16 then
            chain_Check_k1 r16
          else
            again5 (r16, IntKind.wrap .i64 (v3.2 + 1))
      else
        if !false then
          chain_Check_k1 false
        else
          again5 (false, IntKind.wrap .i64 (v3.2 + 1))
    else
      if !false then
        chain_Check_k1 false
      else
        again5 (false, IntKind.wrap .i64 (v3.2 + 1))
  else
    chain_Check_k1 v3.1

def chain_Check (l_0 : (List Api_Version)) : Option Bool :=
  loopF (chain_Check_l2 l_0) FU (true, 0)

def chain_Put_k1 (l_0 : (List Api_Version)) (v_1 : Api_Version) (r1 : Int) (y2 : Bool) : Option ((List Api_Version) × Bool) :=
  if y2 then
    some (l_0, false)
  else
    (slices_Clone_Version l_0).bind fun r4 =>
    (slices_Insert_Version r4 r1 ([v_1])).bind fun r5 =>
    some (r5, true)

def chain_Put (l_0 : (List Api_Version)) (v_1 : Api_Version) : Option ((List Api_Version) × Bool) :=
  (chain_from l_0 v_1.Stamp).bind fun r1 =>
  (wire_Check v_1).bind fun r7 =>
  if !r7 then
    chain_Put_k1 l_0 v_1 r1 true
  else
    if decide (0 < (l_0.length : Int)) then
      (idx l_0 0).bind fun x10 =>
      if !seq x10.Key v_1.Key then
        chain_Put_k1 l_0 v_1 r1 true
      else
        if decide (r1 < (l_0.length : Int)) then
          (idx l_0 r1).bind fun x13 =>
          chain_Put_k1 l_0 v_1 r1 (decide (x13.Stamp.N = v_1.Stamp.N) && decide (x13.Stamp.Site = v_1.Stamp.Site))
        else
          chain_Put_k1 l_0 v_1 r1 false
    else
      if decide (r1 < (l_0.length : Int)) then
        (idx l_0 r1).bind fun x15 =>
        chain_Put_k1 l_0 v_1 r1 (decide (x15.Stamp.N = v_1.Stamp.N) && decide (x15.Stamp.Site = v_1.Stamp.Site))
      else
        chain_Put_k1 l_0 v_1 r1 false
end Go.Ark
