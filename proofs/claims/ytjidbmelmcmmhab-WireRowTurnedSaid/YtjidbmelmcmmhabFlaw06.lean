/- Typed functions, printed by a program of mine out of the translated code. -/
import Derived.Test.YtjidbmelmcmmhabFT
import Derived.Test.YtjidbmelmcmmhabFref02
import Derived.Test.YtjidbmelmcmmhabFref04
import Derived.Test.YtjidbmelmcmmhabFref06
import Derived.Test.YtjidbmelmcmmhabFwire
namespace Go.Ark
open Go Go.Ab

def law06_awake_k1 (r1 : (Api_Version × Bool)) (y3 : Bool) : Option Bool :=
  if y3 then
    (wire_Same (Api_Version.mk (ByteArray.mk #[97]) (ByteArray.mk #[98]) false (Api_Stamp.mk 3 2) ([] : (List Api_Dep))) r1.1).bind fun r5 =>
    some r5
  else
    some false

def law06_awake : Option Bool :=
  (wire_Read (ByteArray.mk #[1, 97, 0, 1, 98, 3, 2, 0])).bind fun r1 =>
  (wire_Bytes (Api_Version.mk (ByteArray.mk #[97]) (ByteArray.mk #[98]) false (Api_Stamp.mk 3 2) ([] : (List Api_Dep)))).bind fun r2 =>
  if seq r2 (ByteArray.mk #[1, 97, 0, 1, 98, 3, 2, 0]) then
    law06_awake_k1 r1 r1.2
  else
    law06_awake_k1 r1 false

def law06_Spec_row_k4 (y1 : (List Int)) (l3 : (List Api_Range)) (y5 : (List Int)) : Option Api_Row :=
  some (Api_Row.mk l3 y5 y1)

def law06_Spec_row_k6 (again9 : Int × (List Int) → Option Api_Row) (v7 : Int × (List Int)) (y12 : Int) : Option Api_Row :=
  (app 8 v7.2 ([IntKind.wrap .i64 (1 + y12)])).bind fun l13 =>
  again9 (IntKind.wrap .i64 (v7.1 + 1), l13)

def law06_Spec_row_l5 (q_0 : Law06_Spec) (y1 : (List Int)) (l3 : (List Api_Range)) (y4 : Int) (again9 : Int × (List Int) → Option Api_Row) (v7 : Int × (List Int)) : Option Api_Row :=
  if decide (v7.1 < (l3.length : Int)) then
    if decide (v7.1 < (q_0.Owners.length : Int)) then
      (idx q_0.Owners v7.1).bind fun x16 =>
      chk (!decide ((IntKind.wrap .i64 (y4 - 1)) = 0)) (
      chk (!decide ((IntKind.wrap .i64 (y4 - 1)) = 0)) (
      law06_Spec_row_k6 again9 v7 (Int.tmod (IntKind.wrap .i64 ((IntKind.wrap .i64 ((Int.tmod x16 (IntKind.wrap .i64 (y4 - 1))) + y4)) - 1)) (IntKind.wrap .i64 (y4 - 1)))))
    else
      law06_Spec_row_k6 again9 v7 0
  else
    law06_Spec_row_k4 y1 l3 v7.2

def law06_Spec_row_k3 (q_0 : Law06_Spec) (y1 : (List Int)) (l3 : (List Api_Range)) (y4 : Int) : Option Api_Row :=
  loopF (law06_Spec_row_l5 q_0 y1 l3 y4) FU (0, ([] : List Int))

def law06_Spec_row_l7 (q_0 : Law06_Spec) (y1 : (List Int)) (l3 : (List Api_Range)) (again22 : Int × Int → Option Api_Row) (v20 : Int × Int) : Option Api_Row :=
  if decide (v20.2 < (y1.length : Int)) then
    again22 (IntKind.wrap .i64 (v20.1 * 2), IntKind.wrap .i64 (v20.2 + 1))
  else
    law06_Spec_row_k3 q_0 y1 l3 v20.1

def law06_Spec_row_k2 (q_0 : Law06_Spec) (y1 : (List Int)) (y2 : ByteArray × (List Api_Range)) : Option Api_Row :=
  (app 32 y2.2 ([(Api_Range.mk y2.1 ByteArray.empty)])).bind fun l3 =>
  loopF (law06_Spec_row_l7 q_0 y1 l3) FU (1, 0)

def law06_Spec_row_k9 (q_0 : Law06_Spec) (y1 : (List Int)) (again28 : ByteArray × Int × (List Api_Range) → Option Api_Row) (v26 : ByteArray × Int × (List Api_Range)) (y30 : Bool) : Option Api_Row :=
  if y30 then
    (idx q_0.Ends v26.2.1).bind fun x32 =>
    if !(slt (bytesOf ([IntKind.wrap .u8 (IntKind.wrap .i64 (97 + (Int.tmod (IntKind.wrap .i64 ((Int.tmod x32 26) + 26)) 26)))])) v26.1 || seq (bytesOf ([IntKind.wrap .u8 (IntKind.wrap .i64 (97 + (Int.tmod (IntKind.wrap .i64 ((Int.tmod x32 26) + 26)) 26)))])) v26.1) then
      (app 32 v26.2.2 ([(Api_Range.mk v26.1 (bytesOf ([IntKind.wrap .u8 (IntKind.wrap .i64 (97 + (Int.tmod (IntKind.wrap .i64 ((Int.tmod x32 26) + 26)) 26)))])))])).bind fun l34 =>
      again28 (bytesOf ([IntKind.wrap .u8 (IntKind.wrap .i64 (97 + (Int.tmod (IntKind.wrap .i64 ((Int.tmod x32 26) + 26)) 26)))]), IntKind.wrap .i64 (v26.2.1 + 1), l34)
    else
      again28 (v26.1, IntKind.wrap .i64 (v26.2.1 + 1), v26.2.2)
  else
    law06_Spec_row_k2 q_0 y1 (v26.1, v26.2.2)

def law06_Spec_row_l8 (q_0 : Law06_Spec) (y1 : (List Int)) (again28 : ByteArray × Int × (List Api_Range) → Option Api_Row) (v26 : ByteArray × Int × (List Api_Range)) : Option Api_Row :=
  if decide (v26.2.1 < (q_0.Ends.length : Int)) then
    law06_Spec_row_k9 q_0 y1 again28 v26 (decide (v26.2.1 < 7))
  else
    law06_Spec_row_k9 q_0 y1 again28 v26 false

def law06_Spec_row_k1 (q_0 : Law06_Spec) (y1 : (List Int)) : Option Api_Row :=
  loopF (law06_Spec_row_l8 q_0 y1) FU (ByteArray.empty, 0, ([] : List Api_Range))

def law06_Spec_row_k11 (q_0 : Law06_Spec) (again40 : Int × (List Int) → Option Api_Row) (v38 : Int × (List Int)) (y42 : Bool) : Option Api_Row :=
  if y42 then
    (idx q_0.Parents v38.1).bind fun x44 =>
    (app 8 v38.2 ([IntKind.wrap .i64 ((Int.tmod (IntKind.wrap .i64 ((Int.tmod x44 7) + 7)) 7) - 1)])).bind fun l45 =>
    again40 (IntKind.wrap .i64 (v38.1 + 1), l45)
  else
    law06_Spec_row_k1 q_0 v38.2

def law06_Spec_row_l10 (q_0 : Law06_Spec) (again40 : Int × (List Int) → Option Api_Row) (v38 : Int × (List Int)) : Option Api_Row :=
  if decide (v38.1 < (q_0.Parents.length : Int)) then
    law06_Spec_row_k11 q_0 again40 v38 (decide (v38.1 < 5))
  else
    law06_Spec_row_k11 q_0 again40 v38 false

def law06_Spec_row (q_0 : Law06_Spec) : Option Api_Row :=
  loopF (law06_Spec_row_l10 q_0) FU (0, [(-1)])

def law06_same_k3 (_y4 : Unit) : Option Bool :=
  some true

def law06_same_l4 (a_0 : Api_Row) (b_1 : Api_Row) (again8 : Int → Option Bool) (v6 : Int) : Option Bool :=
  if decide (v6 < (a_0.Parents.length : Int)) then
    (idx a_0.Parents v6).bind fun x11 =>
    (idx b_1.Parents v6).bind fun x12 =>
    if !decide (x11 = x12) then
      some false
    else
      again8 (IntKind.wrap .i64 (v6 + 1))
  else
    law06_same_k3 ()

def law06_same_k2 (a_0 : Api_Row) (b_1 : Api_Row) (_y3 : Unit) : Option Bool :=
  loopF (law06_same_l4 a_0 b_1) FU 0

def law06_same_l5 (a_0 : Api_Row) (b_1 : Api_Row) (again17 : Int → Option Bool) (v15 : Int) : Option Bool :=
  if decide (v15 < (a_0.Ranges.length : Int)) then
    (idx a_0.Ranges v15).bind fun x20 =>
    (idx b_1.Ranges v15).bind fun x21 =>
    if !(decide (x20.From = x21.From) && decide (x20.To = x21.To)) then
      some false
    else
      if decide (v15 < (a_0.Owners.length : Int)) then
        (idx a_0.Owners v15).bind fun x24 =>
        (idx b_1.Owners v15).bind fun x25 =>
        if !decide (x24 = x25) then
          some false
        else
          again17 (IntKind.wrap .i64 (v15 + 1))
      else
        again17 (IntKind.wrap .i64 (v15 + 1))
  else
    law06_same_k2 a_0 b_1 ()

def law06_same_k1 (a_0 : Api_Row) (b_1 : Api_Row) (y1 : Bool) : Option Bool :=
  if y1 then
    some false
  else
    loopF (law06_same_l5 a_0 b_1) FU 0

def law06_same_k6 (a_0 : Api_Row) (b_1 : Api_Row) (y28 : Bool) : Option Bool :=
  if y28 then
    law06_same_k1 a_0 b_1 true
  else
    law06_same_k1 a_0 b_1 (!decide ((a_0.Parents.length : Int) = (b_1.Parents.length : Int)))

def law06_same (a_0 : Api_Row) (b_1 : Api_Row) : Option Bool :=
  if !decide ((a_0.Ranges.length : Int) = (b_1.Ranges.length : Int)) then
    law06_same_k6 a_0 b_1 true
  else
    law06_same_k6 a_0 b_1 (!decide ((a_0.Owners.length : Int) = (b_1.Owners.length : Int)))

def law06_turned_k6 (y19 : Bool) : Option Bool :=
  some y19

def law06_turned_k5 (r10 : (Api_Row × Bool)) (y18 : Bool) : Option Bool :=
  if !y18 then
    law06_turned_k6 (decide ((r10.1.Ranges.length : Int) = 0))
  else
    law06_turned_k6 false

def law06_turned_l7 (r10 : (Api_Row × Bool)) (r11 : (Api_Row × Bool)) (again25 : Bool × Int → Option Bool) (v23 : Bool × Int) : Option Bool :=
  if decide (v23.2 < (r11.1.Parents.length : Int)) then
    if v23.1 then
      (idx r11.1.Parents v23.2).bind fun x29 =>
      again25 (decide (x29 ≤ 5), IntKind.wrap .i64 (v23.2 + 1))
    else
      again25 (false, IntKind.wrap .i64 (v23.2 + 1))
  else
    law06_turned_k5 r10 v23.1

def law06_turned_k4 (r10 : (Api_Row × Bool)) (r11 : (Api_Row × Bool)) (y17 : Bool) : Option Bool :=
  loopF (law06_turned_l7 r10 r11) FU (y17, 0)

def law06_turned_k9 (r11 : (Api_Row × Bool)) (y16 : Int) (again33 : Bool × Int → Option Bool) (v31 : Bool × Int) (y36 : Bool) : Option Bool :=
  if y36 then
    (idx r11.1.Owners v31.2).bind fun x38 =>
    again33 (decide (x38 < y16), IntKind.wrap .i64 (v31.2 + 1))
  else
    again33 (false, IntKind.wrap .i64 (v31.2 + 1))

def law06_turned_l8 (r10 : (Api_Row × Bool)) (r11 : (Api_Row × Bool)) (y16 : Int) (again33 : Bool × Int → Option Bool) (v31 : Bool × Int) : Option Bool :=
  if decide (v31.2 < (r11.1.Owners.length : Int)) then
    if v31.1 then
      (idx r11.1.Owners v31.2).bind fun x41 =>
      law06_turned_k9 r11 y16 again33 v31 (decide (1 ≤ x41))
    else
      law06_turned_k9 r11 y16 again33 v31 false
  else
    law06_turned_k4 r10 r11 v31.1

def law06_turned_k3 (r10 : (Api_Row × Bool)) (r11 : (Api_Row × Bool)) (y15 : Bool) (y16 : Int) : Option Bool :=
  loopF (law06_turned_l8 r10 r11 y16) FU (y15, 0)

def law06_turned_l10 (r10 : (Api_Row × Bool)) (r11 : (Api_Row × Bool)) (y15 : Bool) (again45 : Int × Int → Option Bool) (v43 : Int × Int) : Option Bool :=
  if decide (v43.2 < (r11.1.Parents.length : Int)) then
    again45 (IntKind.wrap .i64 (v43.1 * 2), IntKind.wrap .i64 (v43.2 + 1))
  else
    law06_turned_k3 r10 r11 y15 v43.1

def law06_turned_k2 (r10 : (Api_Row × Bool)) (r11 : (Api_Row × Bool)) (y15 : Bool) : Option Bool :=
  loopF (law06_turned_l10 r10 r11 y15) FU (1, 0)

def law06_turned_k11 (y9 : ByteArray) (r10 : (Api_Row × Bool)) (y50 : Bool) : Option Bool :=
  if y50 then
    (wire_RowBytes r10.1).bind fun r52 =>
    some (seq r52 y9)
  else
    some false

def law06_turned_k1 (y9 : ByteArray) : Option Bool :=
  (wire_ReadRow y9).bind fun r10 =>
  (ref06_ReadRow y9).bind fun r11 =>
  if !r10.2 then
    if !r11.2 then
      some (decide ((r10.1.Ranges.length : Int) = 0))
    else
      (ref02_Whole r11.1.Ranges).bind fun r14 =>
      if r14 then
        law06_turned_k2 r10 r11 (decide (1 ≤ (r11.1.Parents.length : Int)))
      else
        law06_turned_k2 r10 r11 false
  else
    if r11.2 then
      (law06_same r10.1 r11.1).bind fun r55 =>
      law06_turned_k11 y9 r10 r55
    else
      law06_turned_k11 y9 r10 false

def law06_turned (q_0 : Law06_Spec) (at_1 : Int) (by_2 : Int) (cut_3 : Bool) : Option Bool :=
  (law06_Spec_row q_0).bind fun r1 =>
  (ref06_RowBytes r1).bind fun r2 =>
  chk (decide (r2.size ≤ 1048576)) (
  chk (!decide ((r2.size : Int) = 0)) (
  chk (!decide ((r2.size : Int) = 0)) (
  chk (decide (0 ≤ (Int.tmod (IntKind.wrap .i64 ((Int.tmod at_1 (r2.size : Int)) + (r2.size : Int))) (r2.size : Int)) ∧ (Int.tmod (IntKind.wrap .i64 ((Int.tmod at_1 (r2.size : Int)) + (r2.size : Int))) (r2.size : Int)) < (r2.size : Int))) (
  chk (decide (0 ≤ (Int.tmod (IntKind.wrap .i64 ((Int.tmod at_1 (r2.size : Int)) + (r2.size : Int))) (r2.size : Int)) ∧ (Int.tmod (IntKind.wrap .i64 ((Int.tmod at_1 (r2.size : Int)) + (r2.size : Int))) (r2.size : Int)) < (r2.size : Int))) (
  chk (decide (0 ≤ (IntKind.wrap .u8 (BitVec.ofInt (IntKind.bits .u8) (((ByteArray.data r2).getD (Int.toNat (Int.tmod (IntKind.wrap .i64 ((Int.tmod at_1 (r2.size : Int)) + (r2.size : Int))) (r2.size : Int))) 0).toNat : Int) ^^^ BitVec.ofInt (IntKind.bits .u8) by_2).toNat) ∧ (IntKind.wrap .u8 (BitVec.ofInt (IntKind.bits .u8) (((ByteArray.data r2).getD (Int.toNat (Int.tmod (IntKind.wrap .i64 ((Int.tmod at_1 (r2.size : Int)) + (r2.size : Int))) (r2.size : Int))) 0).toNat : Int) ^^^ BitVec.ofInt (IntKind.bits .u8) by_2).toNat) < 256)) (
  if cut_3 then
    (ssub (bset r2 (Int.tmod (IntKind.wrap .i64 ((Int.tmod at_1 (r2.size : Int)) + (r2.size : Int))) (r2.size : Int)) (IntKind.wrap .u8 (BitVec.ofInt (IntKind.bits .u8) (((ByteArray.data r2).getD (Int.toNat (Int.tmod (IntKind.wrap .i64 ((Int.tmod at_1 (r2.size : Int)) + (r2.size : Int))) (r2.size : Int))) 0).toNat : Int) ^^^ BitVec.ofInt (IntKind.bits .u8) by_2).toNat)) 0 (Int.tmod (IntKind.wrap .i64 ((Int.tmod at_1 (r2.size : Int)) + (r2.size : Int))) (r2.size : Int))).bind fun s58 =>
    law06_turned_k1 s58
  else
    law06_turned_k1 (bset r2 (Int.tmod (IntKind.wrap .i64 ((Int.tmod at_1 (r2.size : Int)) + (r2.size : Int))) (r2.size : Int)) (IntKind.wrap .u8 (BitVec.ofInt (IntKind.bits .u8) (((ByteArray.data r2).getD (Int.toNat (Int.tmod (IntKind.wrap .i64 ((Int.tmod at_1 (r2.size : Int)) + (r2.size : Int))) (r2.size : Int))) 0).toNat : Int) ^^^ BitVec.ofInt (IntKind.bits .u8) by_2).toNat))))))))

def law06_WireRowTurned (q_0 : Law06_Spec) (at_1 : (List Int)) (cut_2 : Bool) : Option Bool :=
  (law06_awake).bind fun r1 =>
  if r1 then
    (aidx 2 at_1 0).bind fun x3 =>
    (aidx 2 at_1 1).bind fun x4 =>
    (law06_turned q_0 x3 (IntKind.wrap .u8 x4) cut_2).bind fun r5 =>
    some r5
  else
    some false

end Go.Ark
