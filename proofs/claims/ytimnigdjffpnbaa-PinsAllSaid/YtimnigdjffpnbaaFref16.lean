/- Typed functions, printed by a program of mine out of the translated code. -/
import Derived.Test.YtimnigdjffpnbaaFT
namespace Go.Ark
open Go Go.Ab

def ref16_SameDeps_k1 (_y2 : Unit) : Option Bool :=
  some true

def ref16_SameDeps_l2 (a_0 : (List Api_Dep)) (b_1 : (List Api_Dep)) (again6 : Int → Option Bool) (v4 : Int) : Option Bool :=
  if decide (v4 < (a_0.length : Int)) then
    (idx a_0 v4).bind fun x9 =>
    (idx b_1 v4).bind fun x10 =>
    if !(decide (x9.Key = x10.Key) && decide (x9.Stamp.N = x10.Stamp.N) && decide (x9.Stamp.Site = x10.Stamp.Site)) then
      some false
    else
      again6 (IntKind.wrap .i64 (v4 + 1))
  else
    ref16_SameDeps_k1 ()

def ref16_SameDeps (a_0 : (List Api_Dep)) (b_1 : (List Api_Dep)) : Option Bool :=
  if !decide ((a_0.length : Int) = (b_1.length : Int)) then
    some false
  else
    loopF (ref16_SameDeps_l2 a_0 b_1) FU 0

def ref16_Same_k1 (_y2 : Unit) : Option Bool :=
  some true

def ref16_Same_l2 (a_0 : (List Api_Pin)) (b_1 : (List Api_Pin)) (again6 : Int → Option Bool) (v4 : Int) : Option Bool :=
  if decide (v4 < (a_0.length : Int)) then
    (idx a_0 v4).bind fun x9 =>
    (idx b_1 v4).bind fun x10 =>
    (ref16_SameDeps x9.Deps x10.Deps).bind fun r11 =>
    if !r11 then
      some false
    else
      (idx a_0 v4).bind fun x13 =>
      (idx b_1 v4).bind fun x14 =>
      if !decide (x13.ID = x14.ID) then
        some false
      else
        again6 (IntKind.wrap .i64 (v4 + 1))
  else
    ref16_Same_k1 ()

def ref16_Same (a_0 : (List Api_Pin)) (b_1 : (List Api_Pin)) : Option Bool :=
  if !decide ((a_0.length : Int) = (b_1.length : Int)) then
    some false
  else
    loopF (ref16_Same_l2 a_0 b_1) FU 0

def ref16_At_k1 (_y1 : Unit) : Option Int :=
  some (-1)

def ref16_At_l2 (l_0 : (List Api_Pin)) (id_1 : Int) (again5 : Int → Option Int) (v3 : Int) : Option Int :=
  if decide (v3 < (l_0.length : Int)) then
    (idx l_0 v3).bind fun x8 =>
    if decide (x8.ID = id_1) then
      some v3
    else
      again5 (IntKind.wrap .i64 (v3 + 1))
  else
    ref16_At_k1 ()

def ref16_At (l_0 : (List Api_Pin)) (id_1 : Int) : Option Int :=
  loopF (ref16_At_l2 l_0 id_1) FU 0

def ref16_Drop_k1 (y3 : (List Api_Pin)) : Option ((List Api_Pin) × Int) :=
  some (y3, 0)

def ref16_Drop_l2 (l_0 : (List Api_Pin)) (r1 : Int) (again7 : Int × (List Api_Pin) → Option ((List Api_Pin) × Int)) (v5 : Int × (List Api_Pin)) : Option ((List Api_Pin) × Int) :=
  if decide (v5.1 < (l_0.length : Int)) then
    if !decide (v5.1 = r1) then
      (idx l_0 v5.1).bind fun x11 =>
      (app 32 v5.2 ([x11])).bind fun l12 =>
      again7 (IntKind.wrap .i64 (v5.1 + 1), l12)
    else
      again7 (IntKind.wrap .i64 (v5.1 + 1), v5.2)
  else
    ref16_Drop_k1 v5.2

def ref16_Drop (l_0 : (List Api_Pin)) (id_1 : Int) : Option ((List Api_Pin) × Int) :=
  (ref16_At l_0 id_1).bind fun r1 =>
  if decide (r1 < 0) then
    some (([] : (List Api_Pin)), 12)
  else
    loopF (ref16_Drop_l2 l_0 r1) FU (0, ([] : (List Api_Pin)))

def ref16_Put_k1 (p_1 : Api_Pin) (y5 : Bool × (List Api_Pin)) : Option ((List Api_Pin) × Int) :=
  if !y5.1 then
    (app 32 y5.2 ([p_1])).bind fun l7 =>
    some (l7, 0)
  else
    some (y5.2, 0)

def ref16_Put_k4 (l_0 : (List Api_Pin)) (again11 : Bool × Int × (List Api_Pin) → Option ((List Api_Pin) × Int)) (v9 : Bool × Int × (List Api_Pin)) (y15 : Bool × (List Api_Pin)) : Option ((List Api_Pin) × Int) :=
  (idx l_0 v9.2.1).bind fun x16 =>
  (app 32 y15.2 ([x16])).bind fun l17 =>
  again11 (y15.1, IntKind.wrap .i64 (v9.2.1 + 1), l17)

def ref16_Put_k3 (l_0 : (List Api_Pin)) (p_1 : Api_Pin) (again11 : Bool × Int × (List Api_Pin) → Option ((List Api_Pin) × Int)) (v9 : Bool × Int × (List Api_Pin)) (y14 : Bool) : Option ((List Api_Pin) × Int) :=
  if y14 then
    (app 32 v9.2.2 ([p_1])).bind fun l20 =>
    ref16_Put_k4 l_0 again11 v9 (true, l20)
  else
    ref16_Put_k4 l_0 again11 v9 (v9.1, v9.2.2)

def ref16_Put_l2 (l_0 : (List Api_Pin)) (p_1 : Api_Pin) (again11 : Bool × Int × (List Api_Pin) → Option ((List Api_Pin) × Int)) (v9 : Bool × Int × (List Api_Pin)) : Option ((List Api_Pin) × Int) :=
  if decide (v9.2.1 < (l_0.length : Int)) then
    if !v9.1 then
      (idx l_0 v9.2.1).bind fun x23 =>
      ref16_Put_k3 l_0 p_1 again11 v9 (decide (p_1.ID < x23.ID))
    else
      ref16_Put_k3 l_0 p_1 again11 v9 false
  else
    ref16_Put_k1 p_1 (v9.1, v9.2.2)

def ref16_Put (l_0 : (List Api_Pin)) (p_1 : Api_Pin) : Option ((List Api_Pin) × Int) :=
  if decide (p_1.ID < 1) then
    some (([] : (List Api_Pin)), 1)
  else
    (ref16_At l_0 p_1.ID).bind fun r2 =>
    if decide (0 ≤ r2) then
      some (([] : (List Api_Pin)), 13)
    else
      if decide (8 ≤ (l_0.length : Int)) then
        some (([] : (List Api_Pin)), 15)
      else
        loopF (ref16_Put_l2 l_0 p_1) FU (false, 0, ([] : (List Api_Pin)))

def ref16_All_k1 (y1 : (List Api_Dep)) : Option (List Api_Dep) :=
  some y1

def ref16_All_l2 (l_0 : (List Api_Pin)) (again5 : Int × (List Api_Dep) → Option (List Api_Dep)) (v3 : Int × (List Api_Dep)) : Option (List Api_Dep) :=
  if decide (v3.1 < (l_0.length : Int)) then
    (idx l_0 v3.1).bind fun x8 =>
    (app 32 v3.2 x8.Deps).bind fun l9 =>
    again5 (IntKind.wrap .i64 (v3.1 + 1), l9)
  else
    ref16_All_k1 v3.2

def ref16_All (l_0 : (List Api_Pin)) : Option (List Api_Dep) :=
  loopF (ref16_All_l2 l_0) FU (0, ([] : (List Api_Dep)))

def ref16_Of_k1 (y2 : (List Api_Stamp)) : Option (List Api_Stamp) :=
  some y2

def ref16_Of_l2 (key_1 : ByteArray) (r1 : (List Api_Dep)) (again6 : Int × (List Api_Stamp) → Option (List Api_Stamp)) (v4 : Int × (List Api_Stamp)) : Option (List Api_Stamp) :=
  if decide (v4.1 < (r1.length : Int)) then
    (idx r1 v4.1).bind fun x9 =>
    if seq x9.Key key_1 then
      (idx r1 v4.1).bind fun x11 =>
      (app 16 v4.2 ([x11.Stamp])).bind fun l12 =>
      again6 (IntKind.wrap .i64 (v4.1 + 1), l12)
    else
      again6 (IntKind.wrap .i64 (v4.1 + 1), v4.2)
  else
    ref16_Of_k1 v4.2

def ref16_Of (l_0 : (List Api_Pin)) (key_1 : ByteArray) : Option (List Api_Stamp) :=
  (ref16_All l_0).bind fun r1 =>
  loopF (ref16_Of_l2 key_1 r1) FU (0, ([] : (List Api_Stamp)))
end Go.Ark
