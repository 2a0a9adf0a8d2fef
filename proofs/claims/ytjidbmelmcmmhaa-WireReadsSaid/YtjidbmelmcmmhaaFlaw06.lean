/- Typed functions, printed by a program of mine out of the translated code. -/
import Derived.Test.YtjidbmelmcmmhaaFT
import Derived.Test.YtjidbmelmcmmhaaFref04
import Derived.Test.YtjidbmelmcmmhaaFref06
import Derived.Test.YtjidbmelmcmmhaaFwire
namespace Go.Ark
open Go Go.Ab

def law06_awake_k1 (r1 : (Api_Version × Bool)) (y3 : Bool) : Option Bool :=
  if y3 then
    (wire_Same (Api_Version.mk (ByteArray.mk #[97]) (ByteArray.mk #[98]) false (Api_Stamp.mk 3 2) ([] : (List Api_Dep))) r1.1).bind fun r5 =>
    some r5
  else
    some false

def law06_awake : Option Bool :=
  (wire_Read (ByteArray.mk #[1, 97, 0, 1, 98, 3, 2, 0])).bind fun r1 =>
  (wire_Bytes (Api_Version.mk (ByteArray.mk #[97]) (ByteArray.mk #[98]) false (Api_Stamp.mk 3 2) ([] : (List Api_Dep)))).bind fun r2 =>
  if seq r2 (ByteArray.mk #[1, 97, 0, 1, 98, 3, 2, 0]) then
    law06_awake_k1 r1 r1.2
  else
    law06_awake_k1 r1 false

def law06_few_k3 (v_0 : Api_Version) (y1 : ByteArray) (y2 : ByteArray) (y3 : (List Api_Dep)) : Option Api_Version :=
  some (Api_Version.mk y1 y2 v_0.Gone v_0.Stamp y3)

def law06_few_k6 (again7 : (List Api_Dep) × Int → Option Api_Version) (v5 : (List Api_Dep) × Int) (x11 : Api_Dep) (y12 : ByteArray) : Option Api_Version :=
  (ref04_Add v5.1 (Api_Dep.mk y12 x11.Stamp)).bind fun r13 =>
  again7 (r13, IntKind.wrap .i64 (v5.2 + 1))

def law06_few_k5 (v_0 : Api_Version) (y1 : ByteArray) (y2 : ByteArray) (again7 : (List Api_Dep) × Int → Option Api_Version) (v5 : (List Api_Dep) × Int) (y9 : Bool) : Option Api_Version :=
  if y9 then
    (idx v_0.Past v5.2).bind fun x11 =>
    if decide (12 < (x11.Key.size : Int)) then
      (ssub x11.Key 0 12).bind fun s16 =>
      law06_few_k6 again7 v5 x11 s16
    else
      law06_few_k6 again7 v5 x11 x11.Key
  else
    law06_few_k3 v_0 y1 y2 v5.1

def law06_few_l4 (v_0 : Api_Version) (y1 : ByteArray) (y2 : ByteArray) (again7 : (List Api_Dep) × Int → Option Api_Version) (v5 : (List Api_Dep) × Int) : Option Api_Version :=
  if decide (v5.2 < (v_0.Past.length : Int)) then
    law06_few_k5 v_0 y1 y2 again7 v5 (decide (v5.2 < 8))
  else
    law06_few_k5 v_0 y1 y2 again7 v5 false

def law06_few_k2 (v_0 : Api_Version) (y1 : ByteArray) (y2 : ByteArray) : Option Api_Version :=
  loopF (law06_few_l4 v_0 y1 y2) FU (([] : (List Api_Dep)), 0)

def law06_few_k1 (v_0 : Api_Version) (y1 : ByteArray) : Option Api_Version :=
  if decide (40 < (v_0.Value.size : Int)) then
    (ssub v_0.Value 0 40).bind fun s21 =>
    law06_few_k2 v_0 y1 s21
  else
    law06_few_k2 v_0 y1 v_0.Value

def law06_few (v_0 : Api_Version) : Option Api_Version :=
  if decide (40 < (v_0.Key.size : Int)) then
    (ssub v_0.Key 0 40).bind fun s24 =>
    law06_few_k1 v_0 s24
  else
    law06_few_k1 v_0 v_0.Key

def law06_WireWrites (v_0 : Api_Version) (w_1 : Api_Version) : Option Bool :=
  (law06_awake).bind fun r1 =>
  (law06_few v_0).bind fun r2 =>
  (law06_few w_1).bind fun r3 =>
  if r1 then
    (wire_Check r2).bind fun r5 =>
    (ref06_Check r2).bind fun r6 =>
    if r5 == r6 then
      (wire_Bytes r2).bind fun r8 =>
      (ref06_Bytes r2).bind fun r9 =>
      if seq r8 r9 then
        (wire_Same r2 r3).bind fun r11 =>
        (ref06_Same r2 r3).bind fun r12 =>
        if r11 == r12 then
          (wire_Same r2 r2).bind fun r14 =>
          some r14
        else
          some false
      else
        some false
    else
      some false
  else
    some false

def law06_WireReads_k3 (r5 : (Api_Version × Bool)) (r6 : (Api_Version × Bool)) (y8 : Bool) : Option Bool :=
  if y8 then
    some (r5.2 == r6.2)
  else
    some false

def law06_WireReads_k2 (r1 : Bool) (y4 : ByteArray) : Option Bool :=
  (wire_Read y4).bind fun r5 =>
  (ref06_Read y4).bind fun r6 =>
  (ref06_Same r5.1 r6.1).bind fun r7 =>
  if r1 then
    law06_WireReads_k3 r5 r6 r7
  else
    law06_WireReads_k3 r5 r6 false

def law06_WireReads_k1 (v_0 : Api_Version) (q_2 : (List Int)) (r1 : Bool) (y2 : ByteArray) : Option Bool :=
  (aidx 3 q_2 0).bind fun x3 =>
  if !decide ((IntKind.wrap .i64 (BitVec.ofInt (IntKind.bits .i64) x3 &&& BitVec.ofInt (IntKind.bits .i64) 3).toNat) = 0) then
    (law06_few v_0).bind fun r14 =>
    (ref06_Bytes r14).bind fun r15 =>
    chk (decide (r15.size ≤ 1048576)) (
    if decide (0 < (r15.size : Int)) then
      (aidx 3 q_2 1).bind fun x18 =>
      chk (!decide ((r15.size : Int) = 0)) (
      chk (!decide ((r15.size : Int) = 0)) (
      chk (decide (0 ≤ (Int.tmod (IntKind.wrap .i64 ((Int.tmod x18 (r15.size : Int)) + (r15.size : Int))) (r15.size : Int)) ∧ (Int.tmod (IntKind.wrap .i64 ((Int.tmod x18 (r15.size : Int)) + (r15.size : Int))) (r15.size : Int)) < (r15.size : Int))) (
      (aidx 3 q_2 2).bind fun x22 =>
      chk (decide (0 ≤ (Int.tmod (IntKind.wrap .i64 ((Int.tmod x18 (r15.size : Int)) + (r15.size : Int))) (r15.size : Int)) ∧ (Int.tmod (IntKind.wrap .i64 ((Int.tmod x18 (r15.size : Int)) + (r15.size : Int))) (r15.size : Int)) < (r15.size : Int))) (
      chk (decide (0 ≤ (IntKind.wrap .u8 (BitVec.ofInt (IntKind.bits .u8) (((ByteArray.data r15).getD (Int.toNat (Int.tmod (IntKind.wrap .i64 ((Int.tmod x18 (r15.size : Int)) + (r15.size : Int))) (r15.size : Int))) 0).toNat : Int) ^^^ BitVec.ofInt (IntKind.bits .u8) (IntKind.wrap .u8 x22)).toNat) ∧ (IntKind.wrap .u8 (BitVec.ofInt (IntKind.bits .u8) (((ByteArray.data r15).getD (Int.toNat (Int.tmod (IntKind.wrap .i64 ((Int.tmod x18 (r15.size : Int)) + (r15.size : Int))) (r15.size : Int))) 0).toNat : Int) ^^^ BitVec.ofInt (IntKind.bits .u8) (IntKind.wrap .u8 x22)).toNat) < 256)) (
      (aidx 3 q_2 0).bind fun x25 =>
      if decide ((IntKind.wrap .i64 (BitVec.ofInt (IntKind.bits .i64) x25 &&& BitVec.ofInt (IntKind.bits .i64) 3).toNat) = 3) then
        (ssub (bset r15 (Int.tmod (IntKind.wrap .i64 ((Int.tmod x18 (r15.size : Int)) + (r15.size : Int))) (r15.size : Int)) (IntKind.wrap .u8 (BitVec.ofInt (IntKind.bits .u8) (((ByteArray.data r15).getD (Int.toNat (Int.tmod (IntKind.wrap .i64 ((Int.tmod x18 (r15.size : Int)) + (r15.size : Int))) (r15.size : Int))) 0).toNat : Int) ^^^ BitVec.ofInt (IntKind.bits .u8) (IntKind.wrap .u8 x22)).toNat)) 0 (Int.tmod (IntKind.wrap .i64 ((Int.tmod x18 (r15.size : Int)) + (r15.size : Int))) (r15.size : Int))).bind fun s27 =>
        law06_WireReads_k2 r1 s27
      else
        law06_WireReads_k2 r1 (bset r15 (Int.tmod (IntKind.wrap .i64 ((Int.tmod x18 (r15.size : Int)) + (r15.size : Int))) (r15.size : Int)) (IntKind.wrap .u8 (BitVec.ofInt (IntKind.bits .u8) (((ByteArray.data r15).getD (Int.toNat (Int.tmod (IntKind.wrap .i64 ((Int.tmod x18 (r15.size : Int)) + (r15.size : Int))) (r15.size : Int))) 0).toNat : Int) ^^^ BitVec.ofInt (IntKind.bits .u8) (IntKind.wrap .u8 x22)).toNat)))))))
    else
      law06_WireReads_k2 r1 y2)
  else
    law06_WireReads_k2 r1 y2

def law06_WireReads (v_0 : Api_Version) (s_1 : ByteArray) (q_2 : (List Int)) : Option Bool :=
  (law06_awake).bind fun r1 =>
  if decide (80 < (s_1.size : Int)) then
    (ssub s_1 0 80).bind fun s30 =>
    law06_WireReads_k1 v_0 q_2 r1 s30
  else
    law06_WireReads_k1 v_0 q_2 r1 s_1

def law06_WireBack_k1 (y6 : Bool) : Option Bool :=
  some y6

def law06_WireBack_k3 (r11 : (Api_Version × Bool)) (r14 : (Api_Version × Bool)) (y16 : Bool) : Option Bool :=
  if y16 then
    if !r11.2 then
      some (!r14.2)
    else
      some false
  else
    some false

def law06_WireBack_k2 (r2 : Api_Version) (r9 : (Api_Version × Bool)) (r11 : (Api_Version × Bool)) (r14 : (Api_Version × Bool)) (y15 : Bool) : Option Bool :=
  if y15 then
    (wire_Same r2 r9.1).bind fun r21 =>
    law06_WireBack_k3 r11 r14 r21
  else
    law06_WireBack_k3 r11 r14 false

def law06_WireBack (v_0 : Api_Version) (c_1 : Int) : Option Bool :=
  (law06_awake).bind fun r1 =>
  (law06_few v_0).bind fun r2 =>
  (wire_Bytes r2).bind fun r3 =>
  (wire_Check r2).bind fun r4 =>
  if !r4 then
    if r1 then
      law06_WireBack_k1 (seq r3 ByteArray.empty)
    else
      law06_WireBack_k1 false
  else
    (wire_Read r3).bind fun r9 =>
    (scat r3 (bytesOf ([c_1]))).bind fun s10 =>
    (wire_Read s10).bind fun r11 =>
    if decide ((r3.size : Int) = 0) then
      some false
    else
      (ssub r3 0 (IntKind.wrap .i64 ((r3.size : Int) - 1))).bind fun s13 =>
      (wire_Read s13).bind fun r14 =>
      if r1 then
        law06_WireBack_k2 r2 r9 r11 r14 r9.2
      else
        law06_WireBack_k2 r2 r9 r11 r14 false

def law06_WireParts_k1 (r1 : Bool) (r2 : Api_Version) (r3 : Api_Version) (y4 : Bool) : Option Bool :=
  if y4 then
    some r1
  else
    (wire_Same r2 r3).bind fun r6 =>
    if r1 then
      (wire_Bytes r2).bind fun r8 =>
      (wire_Bytes r3).bind fun r9 =>
      if (seq r8 r9) == r6 then
        (wire_Bytes (Api_Version.mk r2.Key r3.Value r3.Gone r2.Stamp r2.Past)).bind fun r11 =>
        (wire_Bytes r2).bind fun r12 =>
        if seq r2.Value r3.Value then
          if (seq r11 r12) == (r2.Gone == r3.Gone) then
            (wire_Bytes (Api_Version.mk r2.Key r2.Value r2.Gone r3.Stamp r2.Past)).bind fun r15 =>
            (wire_Bytes r2).bind fun r16 =>
            some ((seq r15 r16) == (decide (r2.Stamp.N = r3.Stamp.N) && decide (r2.Stamp.Site = r3.Stamp.Site)))
          else
            some false
        else
          if (seq r11 r12) == false then
            (wire_Bytes (Api_Version.mk r2.Key r2.Value r2.Gone r3.Stamp r2.Past)).bind fun r18 =>
            (wire_Bytes r2).bind fun r19 =>
            some ((seq r18 r19) == (decide (r2.Stamp.N = r3.Stamp.N) && decide (r2.Stamp.Site = r3.Stamp.Site)))
          else
            some false
      else
        some false
    else
      some false

def law06_WireParts (v_0 : Api_Version) (w_1 : Api_Version) : Option Bool :=
  (law06_awake).bind fun r1 =>
  (law06_few v_0).bind fun r2 =>
  (law06_few w_1).bind fun r3 =>
  (wire_Check r2).bind fun r21 =>
  if !r21 then
    law06_WireParts_k1 r1 r2 r3 true
  else
    (wire_Check r3).bind fun r23 =>
    law06_WireParts_k1 r1 r2 r3 (!r23)

def law06_WireGone_k3 (n_0 : Int) (gone_1 : Bool) (y3 : Bool) (r5 : (Api_Version × Bool)) (y7 : Bool) : Option Bool :=
  if y7 then
    if !y3 then
      some true
    else
      (wire_Same (Api_Version.mk (ByteArray.mk #[107]) (bytesOf (List.replicate (Int.toNat (Int.tmod (IntKind.wrap .i64 ((Int.tmod n_0 41) + 41)) 41)) (0 : Int))) gone_1 (Api_Stamp.mk 1 0) ([] : (List Api_Dep))) r5.1).bind fun r10 =>
      if r10 then
        some (r5.1.Gone == gone_1)
      else
        some false
  else
    some false

def law06_WireGone_k2 (n_0 : Int) (gone_1 : Bool) (y3 : Bool) (r5 : (Api_Version × Bool)) (y6 : Bool) : Option Bool :=
  if y6 then
    law06_WireGone_k3 n_0 gone_1 y3 r5 (r5.2 == y3)
  else
    law06_WireGone_k3 n_0 gone_1 y3 r5 false

def law06_WireGone_k1 (n_0 : Int) (gone_1 : Bool) (r1 : Bool) (y3 : Bool) : Option Bool :=
  (wire_Bytes (Api_Version.mk (ByteArray.mk #[107]) (bytesOf (List.replicate (Int.toNat (Int.tmod (IntKind.wrap .i64 ((Int.tmod n_0 41) + 41)) 41)) (0 : Int))) gone_1 (Api_Stamp.mk 1 0) ([] : (List Api_Dep)))).bind fun r4 =>
  (wire_Read r4).bind fun r5 =>
  if r1 then
    (wire_Check (Api_Version.mk (ByteArray.mk #[107]) (bytesOf (List.replicate (Int.toNat (Int.tmod (IntKind.wrap .i64 ((Int.tmod n_0 41) + 41)) 41)) (0 : Int))) gone_1 (Api_Stamp.mk 1 0) ([] : (List Api_Dep)))).bind fun r16 =>
    law06_WireGone_k2 n_0 gone_1 y3 r5 (r16 == y3)
  else
    law06_WireGone_k2 n_0 gone_1 y3 r5 false

def law06_WireGone (n_0 : Int) (gone_1 : Bool) : Option Bool :=
  (law06_awake).bind fun r1 =>
  chk (decide (0 ≤ (Int.tmod (IntKind.wrap .i64 ((Int.tmod n_0 41) + 41)) 41) ∧ (Int.tmod (IntKind.wrap .i64 ((Int.tmod n_0 41) + 41)) 41) ≤ 1048576)) (
  if decide ((Int.tmod (IntKind.wrap .i64 ((Int.tmod n_0 41) + 41)) 41) ≤ 32) then
    if !gone_1 then
      law06_WireGone_k1 n_0 gone_1 r1 true
    else
      law06_WireGone_k1 n_0 gone_1 r1 (decide ((Int.tmod (IntKind.wrap .i64 ((Int.tmod n_0 41) + 41)) 41) = 0))
  else
    law06_WireGone_k1 n_0 gone_1 r1 false)

def law06_same_k3 (_y4 : Unit) : Option Bool :=
  some true

def law06_same_l4 (a_0 : Api_Row) (b_1 : Api_Row) (again8 : Int → Option Bool) (v6 : Int) : Option Bool :=
  if decide (v6 < (a_0.Parents.length : Int)) then
    (idx a_0.Parents v6).bind fun x11 =>
    (idx b_1.Parents v6).bind fun x12 =>
    if !decide (x11 = x12) then
      some false
    else
      again8 (IntKind.wrap .i64 (v6 + 1))
  else
    law06_same_k3 ()

def law06_same_k2 (a_0 : Api_Row) (b_1 : Api_Row) (_y3 : Unit) : Option Bool :=
  loopF (law06_same_l4 a_0 b_1) FU 0

def law06_same_l5 (a_0 : Api_Row) (b_1 : Api_Row) (again17 : Int → Option Bool) (v15 : Int) : Option Bool :=
  if decide (v15 < (a_0.Ranges.length : Int)) then
    (idx a_0.Ranges v15).bind fun x20 =>
    (idx b_1.Ranges v15).bind fun x21 =>
    if !(decide (x20.From = x21.From) && decide (x20.To = x21.To)) then
      some false
    else
      if decide (v15 < (a_0.Owners.length : Int)) then
        (idx a_0.Owners v15).bind fun x24 =>
        (idx b_1.Owners v15).bind fun x25 =>
        if !decide (x24 = x25) then
          some false
        else
          again17 (IntKind.wrap .i64 (v15 + 1))
      else
        again17 (IntKind.wrap .i64 (v15 + 1))
  else
    law06_same_k2 a_0 b_1 ()

def law06_same_k1 (a_0 : Api_Row) (b_1 : Api_Row) (y1 : Bool) : Option Bool :=
  if y1 then
    some false
  else
    loopF (law06_same_l5 a_0 b_1) FU 0

def law06_same_k6 (a_0 : Api_Row) (b_1 : Api_Row) (y28 : Bool) : Option Bool :=
  if y28 then
    law06_same_k1 a_0 b_1 true
  else
    law06_same_k1 a_0 b_1 (!decide ((a_0.Parents.length : Int) = (b_1.Parents.length : Int)))

def law06_same (a_0 : Api_Row) (b_1 : Api_Row) : Option Bool :=
  if !decide ((a_0.Ranges.length : Int) = (b_1.Ranges.length : Int)) then
    law06_same_k6 a_0 b_1 true
  else
    law06_same_k6 a_0 b_1 (!decide ((a_0.Owners.length : Int) = (b_1.Owners.length : Int)))
end Go.Ark
