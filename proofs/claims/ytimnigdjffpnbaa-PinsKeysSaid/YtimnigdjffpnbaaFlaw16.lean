/- Typed functions, printed by a program of mine out of the translated code. -/
import Derived.Test.YtimnigdjffpnbaaFT
import Derived.Test.YtimnigdjffpnbaaFpins
import Derived.Test.YtimnigdjffpnbaaFref16
namespace Go.Ark
open Go Go.Ab

def law16_awake_k3 (r2 : ((List Api_Pin) × Int)) (y6 : Bool) : Option Bool :=
  if y6 then
    (idx r2.1 0).bind fun x8 =>
    some (decide (x8.ID = 1))
  else
    some false

def law16_awake_k2 (r2 : ((List Api_Pin) × Int)) (y5 : Bool) : Option Bool :=
  if y5 then
    law16_awake_k3 r2 (decide ((r2.1.length : Int) = 2))
  else
    law16_awake_k3 r2 false

def law16_awake_k1 (r2 : ((List Api_Pin) × Int)) (r3 : ((List Api_Pin) × Int)) (y4 : Bool) : Option Bool :=
  if y4 then
    law16_awake_k2 r2 (decide (r3.2 = 13))
  else
    law16_awake_k2 r2 false

def law16_awake : Option Bool :=
  (pins_Put ([] : (List Api_Pin)) (Api_Pin.mk 2 ([] : (List Api_Dep)))).bind fun r1 =>
  (pins_Put r1.1 (Api_Pin.mk 1 ([] : (List Api_Dep)))).bind fun r2 =>
  (pins_Put r2.1 (Api_Pin.mk 2 ([] : (List Api_Dep)))).bind fun r3 =>
  if decide (r1.2 = 0) then
    law16_awake_k1 r2 r3 (decide (r2.2 = 0))
  else
    law16_awake_k1 r2 r3 false

def law16_PinsFull_k2 (y4 : Bool) : Option Bool :=
  some y4

def law16_PinsFull_k5 (r10 : ((List Api_Pin) × Int)) (y13 : Bool) : Option Bool :=
  if y13 then
    (idx r10.1 0).bind fun x15 =>
    some (decide (x15.ID = 7))
  else
    some false

def law16_PinsFull_k4 (y2 : (List Api_Pin)) (r10 : ((List Api_Pin) × Int)) (y12 : Bool) : Option Bool :=
  if y12 then
    law16_PinsFull_k5 r10 (decide ((r10.1.length : Int) = (y2.length : Int)))
  else
    law16_PinsFull_k5 r10 false

def law16_PinsFull_k3 (y2 : (List Api_Pin)) (r10 : ((List Api_Pin) × Int)) (y11 : Bool) : Option Bool :=
  if y11 then
    law16_PinsFull_k4 y2 r10 (decide (r10.2 = 0))
  else
    law16_PinsFull_k4 y2 r10 false

def law16_PinsFull_k1 (n_0 : Int) (which_1 : Int) (r1 : Bool) (y2 : (List Api_Pin)) : Option Bool :=
  if decide ((y2.length : Int) = 0) then
    if r1 then
      law16_PinsFull_k2 (decide ((Int.tmod (IntKind.wrap .i64 ((Int.tmod n_0 13) + 13)) 13) = 0))
    else
      law16_PinsFull_k2 false
  else
    chk (!decide ((y2.length : Int) = 0)) (
    chk (!decide ((y2.length : Int) = 0)) (
    (pins_Drop y2 (IntKind.wrap .i64 (100 - (Int.tmod (IntKind.wrap .i64 ((Int.tmod which_1 (y2.length : Int)) + (y2.length : Int))) (y2.length : Int))))).bind fun r9 =>
    (pins_Put r9.1 (Api_Pin.mk 7 ([] : (List Api_Dep)))).bind fun r10 =>
    if r1 then
      law16_PinsFull_k3 y2 r10 (decide (r9.2 = 0))
    else
      law16_PinsFull_k3 y2 r10 false))

def law16_PinsFull_k7 (again25 : (List Api_Pin) × Int → Option Bool) (v23 : (List Api_Pin) × Int) (r28 : ((List Api_Pin) × Int)) (y29 : Bool) : Option Bool :=
  if y29 then
    some false
  else
    if decide (r28.2 = 0) then
      again25 (r28.1, IntKind.wrap .i64 (v23.2 + 1))
    else
      again25 (v23.1, IntKind.wrap .i64 (v23.2 + 1))

def law16_PinsFull_l6 (n_0 : Int) (which_1 : Int) (r1 : Bool) (again25 : (List Api_Pin) × Int → Option Bool) (v23 : (List Api_Pin) × Int) : Option Bool :=
  if decide (v23.2 < (Int.tmod (IntKind.wrap .i64 ((Int.tmod n_0 13) + 13)) 13)) then
    (pins_Put v23.1 (Api_Pin.mk (IntKind.wrap .i64 (100 - v23.2)) ([] : (List Api_Dep)))).bind fun r28 =>
    if !((decide (r28.2 = 0)) == (decide (v23.2 < 8))) then
      law16_PinsFull_k7 again25 v23 r28 true
    else
      if !decide (r28.2 = 0) then
        law16_PinsFull_k7 again25 v23 r28 (!decide (r28.2 = 15))
      else
        law16_PinsFull_k7 again25 v23 r28 false
  else
    law16_PinsFull_k1 n_0 which_1 r1 v23.1

def law16_PinsFull (n_0 : Int) (which_1 : Int) : Option Bool :=
  (law16_awake).bind fun r1 =>
  loopF (law16_PinsFull_l6 n_0 which_1 r1) FU (([] : (List Api_Pin)), 0)

def law16_PinsRise_k1 (r1 : Bool) (_y2 : Unit) : Option Bool :=
  some r1

def law16_PinsRise_k4 (again6 : (List Api_Pin) × Int → Option Bool) (v4 : (List Api_Pin) × Int) (y10 : (List Api_Pin)) : Option Bool :=
  again6 (y10, IntKind.wrap .i64 (v4.2 + 1))

def law16_PinsRise_k6 (again6 : (List Api_Pin) × Int → Option Bool) (v4 : (List Api_Pin) × Int) (y13 : (List Api_Pin)) (_y14 : Unit) : Option Bool :=
  if decide (8 < (y13.length : Int)) then
    some false
  else
    law16_PinsRise_k4 again6 v4 y13

def law16_PinsRise_l7 (again6 : (List Api_Pin) × Int → Option Bool) (v4 : (List Api_Pin) × Int) (y13 : (List Api_Pin)) (again19 : Int → Option Bool) (v17 : Int) : Option Bool :=
  if decide (v17 < (y13.length : Int)) then
    if decide (0 < v17) then
      (idx y13 (IntKind.wrap .i64 (v17 - 1))).bind fun x23 =>
      (idx y13 v17).bind fun x24 =>
      if decide (x24.ID ≤ x23.ID) then
        some false
      else
        (idx y13 v17).bind fun x26 =>
        if decide (x26.ID < 1) then
          some false
        else
          again19 (IntKind.wrap .i64 (v17 + 1))
    else
      (idx y13 v17).bind fun x28 =>
      if decide (x28.ID < 1) then
        some false
      else
        again19 (IntKind.wrap .i64 (v17 + 1))
  else
    law16_PinsRise_k6 again6 v4 y13 ()

def law16_PinsRise_k5 (again6 : (List Api_Pin) × Int → Option Bool) (v4 : (List Api_Pin) × Int) (y13 : (List Api_Pin)) : Option Bool :=
  loopF (law16_PinsRise_l7 again6 v4 y13) FU 0

def law16_PinsRise_k9 (again6 : (List Api_Pin) × Int → Option Bool) (v4 : (List Api_Pin) × Int) (r38 : ((List Api_Pin) × Int)) (y45 : Bool) : Option Bool :=
  if y45 then
    if !true then
      some false
    else
      law16_PinsRise_k5 again6 v4 v4.1
  else
    if decide ((v4.1.length : Int) = 8) then
      if !(decide (r38.2 = 15)) then
        some false
      else
        law16_PinsRise_k5 again6 v4 v4.1
    else
      if !false then
        some false
      else
        law16_PinsRise_k5 again6 v4 v4.1

def law16_PinsRise_k8 (again6 : (List Api_Pin) × Int → Option Bool) (v4 : (List Api_Pin) × Int) (r38 : ((List Api_Pin) × Int)) (r39 : (Api_Pin × Bool)) (y44 : Bool) : Option Bool :=
  if y44 then
    law16_PinsRise_k9 again6 v4 r38 true
  else
    if r39.2 then
      law16_PinsRise_k9 again6 v4 r38 (decide (r38.2 = 13))
    else
      law16_PinsRise_k9 again6 v4 r38 false

def law16_PinsRise_k3 (l_0 : (List Int)) (r1 : Bool) (again6 : (List Api_Pin) × Int → Option Bool) (v4 : (List Api_Pin) × Int) (y8 : Bool) : Option Bool :=
  if y8 then
    (idx l_0 v4.2).bind fun x12 =>
    if decide ((IntKind.wrap .i64 ((Int.tmod x12 20) - 5)) < 0) then
      (pins_Drop v4.1 (IntKind.wrap .i64 (0 - (IntKind.wrap .i64 ((Int.tmod x12 20) - 5))))).bind fun r32 =>
      (pins_Get v4.1 (IntKind.wrap .i64 (0 - (IntKind.wrap .i64 ((Int.tmod x12 20) - 5))))).bind fun r33 =>
      if !((decide (r32.2 = 0)) == r33.2) then
        some false
      else
        if decide (r32.2 = 0) then
          (pins_Get r32.1 (IntKind.wrap .i64 (0 - (IntKind.wrap .i64 ((Int.tmod x12 20) - 5))))).bind fun r36 =>
          if r36.2 then
            some false
          else
            law16_PinsRise_k5 again6 v4 r32.1
        else
          law16_PinsRise_k5 again6 v4 v4.1
    else
      (pins_Put v4.1 (Api_Pin.mk (IntKind.wrap .i64 ((Int.tmod x12 20) - 5)) ([] : (List Api_Dep)))).bind fun r38 =>
      (pins_Get v4.1 (IntKind.wrap .i64 ((Int.tmod x12 20) - 5))).bind fun r39 =>
      if decide (r38.2 = 0) then
        (pins_Get r38.1 (IntKind.wrap .i64 ((Int.tmod x12 20) - 5))).bind fun r41 =>
        if !r41.2 then
          some false
        else
          if r39.2 then
            some false
          else
            law16_PinsRise_k5 again6 v4 r38.1
      else
        if decide ((IntKind.wrap .i64 ((Int.tmod x12 20) - 5)) = 0) then
          law16_PinsRise_k8 again6 v4 r38 r39 (decide (r38.2 = 1))
        else
          law16_PinsRise_k8 again6 v4 r38 r39 false
  else
    law16_PinsRise_k1 r1 ()

def law16_PinsRise_l2 (l_0 : (List Int)) (r1 : Bool) (again6 : (List Api_Pin) × Int → Option Bool) (v4 : (List Api_Pin) × Int) : Option Bool :=
  if decide (v4.2 < (l_0.length : Int)) then
    law16_PinsRise_k3 l_0 r1 again6 v4 (decide (v4.2 < 40))
  else
    law16_PinsRise_k3 l_0 r1 again6 v4 false

def law16_PinsRise (l_0 : (List Int)) : Option Bool :=
  (law16_awake).bind fun r1 =>
  loopF (law16_PinsRise_l2 l_0 r1) FU (([] : (List Api_Pin)), 0)

def law16_few (p_0 : Api_Pin) : Option Api_Pin :=
  if decide (5 < (p_0.Deps.length : Int)) then
    (sub p_0.Deps 0 5).bind fun l2 =>
    some (Api_Pin.mk p_0.ID l2)
  else
    some p_0

def law16_PinsBack_k2 (y7 : Bool) : Option Bool :=
  some y7

def law16_PinsBack_k3 (r4 : ((List Api_Pin) × Int)) (r6 : (Api_Pin × Bool)) (y10 : Bool) : Option Bool :=
  if y10 then
    law16_PinsBack_k2 true
  else
    if r6.2 then
      law16_PinsBack_k2 (decide (r4.2 = 13))
    else
      law16_PinsBack_k2 false

def law16_PinsBack_k8 (y2 : (List Api_Pin)) (r4 : ((List Api_Pin) × Int)) (y24 : Bool) : Option Bool :=
  if y24 then
    some (decide ((r4.1.length : Int) = (IntKind.wrap .i64 ((y2.length : Int) + 1))))
  else
    some false

def law16_PinsBack_k7 (y2 : (List Api_Pin)) (r4 : ((List Api_Pin) × Int)) (r17 : ((List Api_Pin) × Int)) (y23 : Bool) : Option Bool :=
  if y23 then
    law16_PinsBack_k8 y2 r4 (decide (r17.2 = 12))
  else
    law16_PinsBack_k8 y2 r4 false

def law16_PinsBack_k6 (y2 : (List Api_Pin)) (r4 : ((List Api_Pin) × Int)) (r17 : ((List Api_Pin) × Int)) (r19 : Bool) (y22 : Bool) : Option Bool :=
  if y22 then
    law16_PinsBack_k7 y2 r4 r17 r19
  else
    law16_PinsBack_k7 y2 r4 r17 false

def law16_PinsBack_k5 (y2 : (List Api_Pin)) (r4 : ((List Api_Pin) × Int)) (r16 : ((List Api_Pin) × Int)) (r17 : ((List Api_Pin) × Int)) (r19 : Bool) (y21 : Bool) : Option Bool :=
  if y21 then
    law16_PinsBack_k6 y2 r4 r17 r19 (decide (r16.2 = 0))
  else
    law16_PinsBack_k6 y2 r4 r17 r19 false

def law16_PinsBack_k4 (y2 : (List Api_Pin)) (r4 : ((List Api_Pin) × Int)) (r16 : ((List Api_Pin) × Int)) (r17 : ((List Api_Pin) × Int)) (r18 : Bool) (r19 : Bool) (y20 : Bool) : Option Bool :=
  if y20 then
    law16_PinsBack_k5 y2 r4 r16 r17 r19 r18
  else
    law16_PinsBack_k5 y2 r4 r16 r17 r19 false

def law16_PinsBack_k1 (p_1 : Api_Pin) (r1 : Bool) (y2 : (List Api_Pin)) : Option Bool :=
  (law16_few p_1).bind fun r3 =>
  (pins_Put y2 r3).bind fun r4 =>
  if !decide (r4.2 = 0) then
    (pins_Get y2 r3.ID).bind fun r6 =>
    if r1 then
      if decide (r3.ID < 1) then
        law16_PinsBack_k3 r4 r6 (decide (r4.2 = 1))
      else
        law16_PinsBack_k3 r4 r6 false
    else
      law16_PinsBack_k2 false
  else
    (pins_Get r4.1 r3.ID).bind fun r15 =>
    (pins_Drop r4.1 r3.ID).bind fun r16 =>
    (pins_Drop r16.1 r3.ID).bind fun r17 =>
    (ref16_SameDeps r15.1.Deps r3.Deps).bind fun r18 =>
    (ref16_Same r16.1 y2).bind fun r19 =>
    if r1 then
      law16_PinsBack_k4 y2 r4 r16 r17 r18 r19 r15.2
    else
      law16_PinsBack_k4 y2 r4 r16 r17 r18 r19 false

def law16_PinsBack_k10 (l_0 : (List Int)) (p_1 : Api_Pin) (r1 : Bool) (again39 : (List Api_Pin) × Int → Option Bool) (v37 : (List Api_Pin) × Int) (y41 : Bool) : Option Bool :=
  if y41 then
    (idx l_0 v37.2).bind fun x43 =>
    (pins_Put v37.1 (Api_Pin.mk (IntKind.wrap .i64 (1 + (IntKind.wrap .i64 (BitVec.ofInt (IntKind.bits .i64) x43 &&& BitVec.ofInt (IntKind.bits .i64) 15).toNat))) ([] : (List Api_Dep)))).bind fun r44 =>
    if decide (r44.2 = 0) then
      again39 (r44.1, IntKind.wrap .i64 (v37.2 + 1))
    else
      again39 (v37.1, IntKind.wrap .i64 (v37.2 + 1))
  else
    law16_PinsBack_k1 p_1 r1 v37.1

def law16_PinsBack_l9 (l_0 : (List Int)) (p_1 : Api_Pin) (r1 : Bool) (again39 : (List Api_Pin) × Int → Option Bool) (v37 : (List Api_Pin) × Int) : Option Bool :=
  if decide (v37.2 < (l_0.length : Int)) then
    law16_PinsBack_k10 l_0 p_1 r1 again39 v37 (decide (v37.2 < 7))
  else
    law16_PinsBack_k10 l_0 p_1 r1 again39 v37 false

def law16_PinsBack (l_0 : (List Int)) (p_1 : Api_Pin) : Option Bool :=
  (law16_awake).bind fun r1 =>
  loopF (law16_PinsBack_l9 l_0 p_1 r1) FU (([] : (List Api_Pin)), 0)

def law16_PinsAll_k2 (key_1 : ByteArray) (y2 : (List Api_Pin) × Int × Int) (y3 : Bool) : Option Bool :=
  if y3 then
    (pins_Of y2.1 key_1).bind fun r5 =>
    some (decide ((r5.length : Int) = y2.2.2))
  else
    some false

def law16_PinsAll_k1 (key_1 : ByteArray) (r1 : Bool) (y2 : (List Api_Pin) × Int × Int) : Option Bool :=
  if r1 then
    (pins_All y2.1).bind fun r8 =>
    law16_PinsAll_k2 key_1 y2 (decide ((r8.length : Int) = y2.2.1))
  else
    law16_PinsAll_k2 key_1 y2 false

def law16_PinsAll_k5 (again12 : (List Api_Pin) × Int × Int × Int → Option Bool) (v10 : (List Api_Pin) × Int × Int × Int) (y16 : (List Api_Pin) × Int × Int) : Option Bool :=
  again12 (y16.1, y16.2.1, y16.2.2, IntKind.wrap .i64 (v10.2.2.2 + 1))

def law16_PinsAll_k6 (again12 : (List Api_Pin) × Int × Int × Int → Option Bool) (v10 : (List Api_Pin) × Int × Int × Int) (r19 : Api_Pin) (r20 : ((List Api_Pin) × Int)) (y22 : Int) : Option Bool :=
  law16_PinsAll_k5 again12 v10 (r20.1, IntKind.wrap .i64 (v10.2.1 + (r19.Deps.length : Int)), y22)

def law16_PinsAll_l7 (key_1 : ByteArray) (again12 : (List Api_Pin) × Int × Int × Int → Option Bool) (v10 : (List Api_Pin) × Int × Int × Int) (r19 : Api_Pin) (r20 : ((List Api_Pin) × Int)) (again26 : Int × Int → Option Bool) (v24 : Int × Int) : Option Bool :=
  if decide (v24.2 < (r19.Deps.length : Int)) then
    (idx r19.Deps v24.2).bind fun x29 =>
    if seq x29.Key key_1 then
      again26 (IntKind.wrap .i64 (v24.1 + 1), IntKind.wrap .i64 (v24.2 + 1))
    else
      again26 (v24.1, IntKind.wrap .i64 (v24.2 + 1))
  else
    law16_PinsAll_k6 again12 v10 r19 r20 v24.1

def law16_PinsAll_k4 (l_0 : (List (List Api_Dep))) (key_1 : ByteArray) (r1 : Bool) (again12 : (List Api_Pin) × Int × Int × Int → Option Bool) (v10 : (List Api_Pin) × Int × Int × Int) (y14 : Bool) : Option Bool :=
  if y14 then
    (idx l_0 v10.2.2.2).bind fun x18 =>
    (law16_few (Api_Pin.mk (IntKind.wrap .i64 (v10.2.2.2 + 1)) x18)).bind fun r19 =>
    (pins_Put v10.1 r19).bind fun r20 =>
    if !decide (r20.2 = 0) then
      some false
    else
      loopF (law16_PinsAll_l7 key_1 again12 v10 r19 r20) FU (v10.2.2.1, 0)
  else
    law16_PinsAll_k1 key_1 r1 (v10.1, v10.2.1, v10.2.2.1)

def law16_PinsAll_l3 (l_0 : (List (List Api_Dep))) (key_1 : ByteArray) (r1 : Bool) (again12 : (List Api_Pin) × Int × Int × Int → Option Bool) (v10 : (List Api_Pin) × Int × Int × Int) : Option Bool :=
  if decide (v10.2.2.2 < (l_0.length : Int)) then
    law16_PinsAll_k4 l_0 key_1 r1 again12 v10 (decide (v10.2.2.2 < 6))
  else
    law16_PinsAll_k4 l_0 key_1 r1 again12 v10 false

def law16_PinsAll (l_0 : (List (List Api_Dep))) (key_1 : ByteArray) : Option Bool :=
  (law16_awake).bind fun r1 =>
  loopF (law16_PinsAll_l3 l_0 key_1 r1) FU (([] : (List Api_Pin)), 0, 0, 0)

def law16_PinsKeys_k2 (r1 : Bool) (r3 : (List Api_Stamp)) (y5 : Int) : Option Bool :=
  if r1 then
    some (decide (y5 = (r3.length : Int)))
  else
    some false

def law16_PinsKeys_k4 (again10 : Int × Int → Option Bool) (v8 : Int × Int) (y15 : Bool) : Option Bool :=
  if y15 then
    some false
  else
    again10 (IntKind.wrap .i64 (v8.1 + 1), IntKind.wrap .i64 (v8.2 + 1))

def law16_PinsKeys_l3 (key_1 : ByteArray) (r1 : Bool) (r3 : (List Api_Stamp)) (r4 : (List Api_Dep)) (again10 : Int × Int → Option Bool) (v8 : Int × Int) : Option Bool :=
  if decide (v8.2 < (r4.length : Int)) then
    (idx r4 v8.2).bind fun x13 =>
    if !seq x13.Key key_1 then
      again10 (v8.1, IntKind.wrap .i64 (v8.2 + 1))
    else
      if decide ((r3.length : Int) ≤ v8.1) then
        law16_PinsKeys_k4 again10 v8 true
      else
        (idx r3 v8.1).bind fun x19 =>
        (idx r4 v8.2).bind fun x20 =>
        law16_PinsKeys_k4 again10 v8 (!(decide (x19.N = x20.Stamp.N) && decide (x19.Site = x20.Stamp.Site)))
  else
    law16_PinsKeys_k2 r1 r3 v8.1

def law16_PinsKeys_k1 (key_1 : ByteArray) (r1 : Bool) (y2 : (List Api_Pin)) : Option Bool :=
  (pins_Of y2 key_1).bind fun r3 =>
  (pins_All y2).bind fun r4 =>
  loopF (law16_PinsKeys_l3 key_1 r1 r3 r4) FU (0, 0)

def law16_PinsKeys_k6 (l_0 : (List (List Api_Dep))) (key_1 : ByteArray) (r1 : Bool) (again24 : (List Api_Pin) × Int → Option Bool) (v22 : (List Api_Pin) × Int) (y26 : Bool) : Option Bool :=
  if y26 then
    (idx l_0 v22.2).bind fun x28 =>
    (law16_few (Api_Pin.mk (IntKind.wrap .i64 (10 - v22.2)) x28)).bind fun r29 =>
    (pins_Put v22.1 r29).bind fun r30 =>
    if !decide (r30.2 = 0) then
      some false
    else
      again24 (r30.1, IntKind.wrap .i64 (v22.2 + 1))
  else
    law16_PinsKeys_k1 key_1 r1 v22.1

def law16_PinsKeys_l5 (l_0 : (List (List Api_Dep))) (key_1 : ByteArray) (r1 : Bool) (again24 : (List Api_Pin) × Int → Option Bool) (v22 : (List Api_Pin) × Int) : Option Bool :=
  if decide (v22.2 < (l_0.length : Int)) then
    law16_PinsKeys_k6 l_0 key_1 r1 again24 v22 (decide (v22.2 < 6))
  else
    law16_PinsKeys_k6 l_0 key_1 r1 again24 v22 false

def law16_PinsKeys (l_0 : (List (List Api_Dep))) (key_1 : ByteArray) : Option Bool :=
  (law16_awake).bind fun r1 =>
  loopF (law16_PinsKeys_l5 l_0 key_1 r1) FU (([] : (List Api_Pin)), 0)

def law16_PinsPlay_k1 (r1 : Bool) (_y2 : Unit) : Option Bool :=
  some r1

def law16_PinsPlay_k4 (again6 : (List Api_Pin) × (List Api_Pin) × Int → Option Bool) (v4 : (List Api_Pin) × (List Api_Pin) × Int) (y10 : (List Api_Pin) × (List Api_Pin)) : Option Bool :=
  again6 (y10.1, y10.2, IntKind.wrap .i64 (v4.2.2 + 1))

def law16_PinsPlay_k11 (again6 : (List Api_Pin) × (List Api_Pin) × Int → Option Bool) (v4 : (List Api_Pin) × (List Api_Pin) × Int) (y19 : (List Api_Pin) × (List Api_Pin)) (_y31 : Unit) : Option Bool :=
  law16_PinsPlay_k4 again6 v4 (y19.1, y19.2)

def law16_PinsPlay_l12 (again6 : (List Api_Pin) × (List Api_Pin) × Int → Option Bool) (v4 : (List Api_Pin) × (List Api_Pin) × Int) (y19 : (List Api_Pin) × (List Api_Pin)) (r27 : (List Api_Stamp)) (r28 : (List Api_Stamp)) (again35 : Int → Option Bool) (v33 : Int) : Option Bool :=
  if decide (v33 < (r27.length : Int)) then
    (idx r27 v33).bind fun x38 =>
    (idx r28 v33).bind fun x39 =>
    if !(decide (x38.N = x39.N) && decide (x38.Site = x39.Site)) then
      some false
    else
      again35 (IntKind.wrap .i64 (v33 + 1))
  else
    law16_PinsPlay_k11 again6 v4 y19 ()

def law16_PinsPlay_k10 (again6 : (List Api_Pin) × (List Api_Pin) × Int → Option Bool) (v4 : (List Api_Pin) × (List Api_Pin) × Int) (y19 : (List Api_Pin) × (List Api_Pin)) (r27 : (List Api_Stamp)) (r28 : (List Api_Stamp)) (y29 : Bool) : Option Bool :=
  if y29 then
    some false
  else
    loopF (law16_PinsPlay_l12 again6 v4 y19 r27 r28) FU 0

def law16_PinsPlay_k9 (key_2 : ByteArray) (again6 : (List Api_Pin) × (List Api_Pin) × Int → Option Bool) (v4 : (List Api_Pin) × (List Api_Pin) × Int) (y19 : (List Api_Pin) × (List Api_Pin)) (_y23 : Unit) : Option Bool :=
  (pins_All y19.1).bind fun r24 =>
  (ref16_All y19.2).bind fun r25 =>
  (ref16_SameDeps r24 r25).bind fun r26 =>
  (pins_Of y19.1 key_2).bind fun r27 =>
  (ref16_Of y19.2 key_2).bind fun r28 =>
  if !r26 then
    law16_PinsPlay_k10 again6 v4 y19 r27 r28 true
  else
    law16_PinsPlay_k10 again6 v4 y19 r27 r28 (!decide ((r27.length : Int) = (r28.length : Int)))

def law16_PinsPlay_k8 (key_2 : ByteArray) (again6 : (List Api_Pin) × (List Api_Pin) × Int → Option Bool) (v4 : (List Api_Pin) × (List Api_Pin) × Int) (r13 : Api_Pin) (y19 : (List Api_Pin) × (List Api_Pin)) : Option Bool :=
  (pins_Get y19.1 r13.ID).bind fun r20 =>
  (ref16_At y19.2 r13.ID).bind fun r21 =>
  if !(r20.2 == (decide (0 ≤ r21))) then
    some false
  else
    if decide (0 ≤ r21) then
      (idx y19.2 r21).bind fun x45 =>
      (ref16_SameDeps r20.1.Deps x45.Deps).bind fun r46 =>
      if !r46 then
        some false
      else
        law16_PinsPlay_k9 key_2 again6 v4 y19 ()
    else
      law16_PinsPlay_k9 key_2 again6 v4 y19 ()

def law16_PinsPlay_k7 (key_2 : ByteArray) (again6 : (List Api_Pin) × (List Api_Pin) × Int → Option Bool) (v4 : (List Api_Pin) × (List Api_Pin) × Int) (r13 : Api_Pin) (y15 : (List Api_Pin) × (List Api_Pin) × Int × Int) (y17 : Bool) : Option Bool :=
  if y17 then
    some false
  else
    if decide (y15.2.2.2 = 0) then
      law16_PinsPlay_k8 key_2 again6 v4 r13 (y15.1, y15.2.1)
    else
      law16_PinsPlay_k8 key_2 again6 v4 r13 (v4.1, v4.2.1)

def law16_PinsPlay_k6 (key_2 : ByteArray) (again6 : (List Api_Pin) × (List Api_Pin) × Int → Option Bool) (v4 : (List Api_Pin) × (List Api_Pin) × Int) (r13 : Api_Pin) (y15 : (List Api_Pin) × (List Api_Pin) × Int × Int) : Option Bool :=
  (ref16_Same y15.1 y15.2.1).bind fun r16 =>
  if !r16 then
    law16_PinsPlay_k7 key_2 again6 v4 r13 y15 true
  else
    law16_PinsPlay_k7 key_2 again6 v4 r13 y15 (!decide (y15.2.2.1 = y15.2.2.2))

def law16_PinsPlay_k5 (key_2 : ByteArray) (again6 : (List Api_Pin) × (List Api_Pin) × Int → Option Bool) (v4 : (List Api_Pin) × (List Api_Pin) × Int) (r13 : Api_Pin) (y14 : Bool) : Option Bool :=
  if y14 then
    (pins_Drop v4.1 r13.ID).bind fun r54 =>
    (ref16_Drop v4.2.1 r13.ID).bind fun r55 =>
    law16_PinsPlay_k6 key_2 again6 v4 r13 (r54.1, r55.1, r54.2, r55.2)
  else
    (pins_Put v4.1 r13).bind fun r56 =>
    (ref16_Put v4.2.1 r13).bind fun r57 =>
    law16_PinsPlay_k6 key_2 again6 v4 r13 (r56.1, r57.1, r56.2, r57.2)

def law16_PinsPlay_k3 (script_0 : (List Api_Pin)) (out_1 : (List Bool)) (key_2 : ByteArray) (r1 : Bool) (again6 : (List Api_Pin) × (List Api_Pin) × Int → Option Bool) (v4 : (List Api_Pin) × (List Api_Pin) × Int) (y8 : Bool) : Option Bool :=
  if y8 then
    (idx script_0 v4.2.2).bind fun x12 =>
    (law16_few x12).bind fun r13 =>
    if decide (v4.2.2 < (out_1.length : Int)) then
      (idx out_1 v4.2.2).bind fun x60 =>
      law16_PinsPlay_k5 key_2 again6 v4 r13 x60
    else
      law16_PinsPlay_k5 key_2 again6 v4 r13 false
  else
    law16_PinsPlay_k1 r1 ()

def law16_PinsPlay_l2 (script_0 : (List Api_Pin)) (out_1 : (List Bool)) (key_2 : ByteArray) (r1 : Bool) (again6 : (List Api_Pin) × (List Api_Pin) × Int → Option Bool) (v4 : (List Api_Pin) × (List Api_Pin) × Int) : Option Bool :=
  if decide (v4.2.2 < (script_0.length : Int)) then
    law16_PinsPlay_k3 script_0 out_1 key_2 r1 again6 v4 (decide (v4.2.2 < 30))
  else
    law16_PinsPlay_k3 script_0 out_1 key_2 r1 again6 v4 false

def law16_PinsPlay (script_0 : (List Api_Pin)) (out_1 : (List Bool)) (key_2 : ByteArray) : Option Bool :=
  (law16_awake).bind fun r1 =>
  loopF (law16_PinsPlay_l2 script_0 out_1 key_2 r1) FU (([] : (List Api_Pin)), ([] : (List Api_Pin)), 0)
end Go.Ark
