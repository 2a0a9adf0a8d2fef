/- Typed functions, printed by a program of mine out of the translated code. -/
import Derived.Test.YtjmleebbmomcgaaFT
import Derived.Test.YtjmleebbmomcgaaFref03
import Derived.Test.YtjmleebbmomcgaaFref06
namespace Go.Ark
open Go Go.Ab

def ref12_Same_k1 (_y2 : Unit) : Option Bool :=
  some true

def ref12_Same_l2 (a_0 : (List Api_Version)) (b_1 : (List Api_Version)) (again6 : Int → Option Bool) (v4 : Int) : Option Bool :=
  if decide (v4 < (a_0.length : Int)) then
    (idx a_0 v4).bind fun x9 =>
    (idx b_1 v4).bind fun x10 =>
    (ref06_Same x9 x10).bind fun r11 =>
    if !r11 then
      some false
    else
      again6 (IntKind.wrap .i64 (v4 + 1))
  else
    ref12_Same_k1 ()

def ref12_Same (a_0 : (List Api_Version)) (b_1 : (List Api_Version)) : Option Bool :=
  if !decide ((a_0.length : Int) = (b_1.length : Int)) then
    some false
  else
    loopF (ref12_Same_l2 a_0 b_1) FU 0

def ref12_Check_k1 (_y1 : Unit) : Option Bool :=
  some true

def ref12_Check_k3 (l_0 : (List Api_Version)) (again5 : Int → Option Bool) (v3 : Int) (y10 : Bool) : Option Bool :=
  if y10 then
    some false
  else
    if decide (0 < v3) then
      (idx l_0 (IntKind.wrap .i64 (v3 - 1))).bind fun x13 =>
      (idx l_0 v3).bind fun x14 =>
      (ref03_Less x13.Stamp x14.Stamp).bind fun r15 =>
      if !r15 then
        some false
      else
        again5 (IntKind.wrap .i64 (v3 + 1))
    else
      again5 (IntKind.wrap .i64 (v3 + 1))

def ref12_Check_l2 (l_0 : (List Api_Version)) (again5 : Int → Option Bool) (v3 : Int) : Option Bool :=
  if decide (v3 < (l_0.length : Int)) then
    (idx l_0 v3).bind fun x8 =>
    (ref06_Check x8).bind fun r9 =>
    if !r9 then
      ref12_Check_k3 l_0 again5 v3 true
    else
      (idx l_0 v3).bind fun x19 =>
      (idx l_0 0).bind fun x20 =>
      ref12_Check_k3 l_0 again5 v3 (!seq x19.Key x20.Key)
  else
    ref12_Check_k1 ()

def ref12_Check (l_0 : (List Api_Version)) : Option Bool :=
  loopF (ref12_Check_l2 l_0) FU 0

def ref12_Put_k2 (v_1 : Api_Version) (y4 : Bool × (List Api_Version)) : Option ((List Api_Version) × Bool) :=
  if !y4.1 then
    (app 80 y4.2 ([v_1])).bind fun l6 =>
    some (l6, true)
  else
    some (y4.2, true)

def ref12_Put_k5 (l_0 : (List Api_Version)) (again10 : Bool × Int × (List Api_Version) → Option ((List Api_Version) × Bool)) (v8 : Bool × Int × (List Api_Version)) (y16 : Bool × (List Api_Version)) : Option ((List Api_Version) × Bool) :=
  (idx l_0 v8.2.1).bind fun x17 =>
  (app 80 y16.2 ([x17])).bind fun l18 =>
  again10 (y16.1, IntKind.wrap .i64 (v8.2.1 + 1), l18)

def ref12_Put_k4 (l_0 : (List Api_Version)) (v_1 : Api_Version) (again10 : Bool × Int × (List Api_Version) → Option ((List Api_Version) × Bool)) (v8 : Bool × Int × (List Api_Version)) (y15 : Bool) : Option ((List Api_Version) × Bool) :=
  if y15 then
    (app 80 v8.2.2 ([v_1])).bind fun l21 =>
    ref12_Put_k5 l_0 again10 v8 (true, l21)
  else
    ref12_Put_k5 l_0 again10 v8 (v8.1, v8.2.2)

def ref12_Put_l3 (l_0 : (List Api_Version)) (v_1 : Api_Version) (again10 : Bool × Int × (List Api_Version) → Option ((List Api_Version) × Bool)) (v8 : Bool × Int × (List Api_Version)) : Option ((List Api_Version) × Bool) :=
  if decide (v8.2.1 < (l_0.length : Int)) then
    (idx l_0 v8.2.1).bind fun x13 =>
    if (decide (x13.Stamp.N = v_1.Stamp.N) && decide (x13.Stamp.Site = v_1.Stamp.Site)) then
      some (l_0, false)
    else
      if !v8.1 then
        (idx l_0 v8.2.1).bind fun x24 =>
        (ref03_Less v_1.Stamp x24.Stamp).bind fun r25 =>
        ref12_Put_k4 l_0 v_1 again10 v8 r25
      else
        ref12_Put_k4 l_0 v_1 again10 v8 false
  else
    ref12_Put_k2 v_1 (v8.1, v8.2.2)

def ref12_Put_k1 (l_0 : (List Api_Version)) (v_1 : Api_Version) (y2 : Bool) : Option ((List Api_Version) × Bool) :=
  if y2 then
    some (l_0, false)
  else
    loopF (ref12_Put_l3 l_0 v_1) FU (false, 0, ([] : (List Api_Version)))

def ref12_Put (l_0 : (List Api_Version)) (v_1 : Api_Version) : Option ((List Api_Version) × Bool) :=
  (ref06_Check v_1).bind fun r1 =>
  if !r1 then
    ref12_Put_k1 l_0 v_1 true
  else
    if decide (0 < (l_0.length : Int)) then
      (idx l_0 0).bind fun x29 =>
      ref12_Put_k1 l_0 v_1 (!seq x29.Key v_1.Key)
    else
      ref12_Put_k1 l_0 v_1 false
end Go.Ark
