/- Typed functions, printed by a program of mine out of the translated code. -/
import Derived.Test.YtedpjlinmkingaaFT
import Derived.Test.YtedpjlinmkingaaFpast
import Derived.Test.YtedpjlinmkingaaFref04
namespace Go.Ark
open Go Go.Ab

def law04_dep (key_0 : ByteArray) (n_1 : Int) : Option Api_Dep :=
  some (Api_Dep.mk key_0 (Api_Stamp.mk n_1 0))

def law04_awake_k1 (r3 : Api_Dep) (r4 : Api_Dep) (r5 : (List Api_Dep)) (y10 : Bool) : Option Bool :=
  if y10 then
    (past_Covers r5 ([r3, r4])).bind fun r12 =>
    if r12 then
      (past_Check r5).bind fun r14 =>
      some r14
    else
      some false
  else
    some false

def law04_awake : Option Bool :=
  (law04_dep (ByteArray.mk #[97]) 3).bind fun r1 =>
  (law04_dep (ByteArray.mk #[98]) 1).bind fun r2 =>
  (law04_dep (ByteArray.mk #[97]) 2).bind fun r3 =>
  (law04_dep (ByteArray.mk #[99]) 4).bind fun r4 =>
  (past_Merge ([[r1, r2], [r3, r4]])).bind fun r5 =>
  (law04_dep (ByteArray.mk #[97]) 3).bind fun r6 =>
  (law04_dep (ByteArray.mk #[98]) 1).bind fun r7 =>
  (law04_dep (ByteArray.mk #[99]) 4).bind fun r8 =>
  (ref04_Same r5 ([r6, r7, r8])).bind fun r9 =>
  if r9 then
    (past_Covers r5 ([r1, r2])).bind fun r17 =>
    law04_awake_k1 r3 r4 r5 r17
  else
    law04_awake_k1 r3 r4 r5 false

def law04_made_k1 (y1 : (List Api_Dep)) : Option (List Api_Dep) :=
  some y1

def law04_made_k4 (again5 : (List Api_Dep) × Int → Option (List Api_Dep)) (v3 : (List Api_Dep) × Int) (x9 : Api_Dep) (y10 : ByteArray) : Option (List Api_Dep) :=
  (ref04_Add v3.1 (Api_Dep.mk y10 x9.Stamp)).bind fun r11 =>
  again5 (r11, IntKind.wrap .i64 (v3.2 + 1))

def law04_made_k3 (l_0 : (List Api_Dep)) (again5 : (List Api_Dep) × Int → Option (List Api_Dep)) (v3 : (List Api_Dep) × Int) (y7 : Bool) : Option (List Api_Dep) :=
  if y7 then
    (idx l_0 v3.2).bind fun x9 =>
    if decide (20 < (x9.Key.size : Int)) then
      (ssub x9.Key 0 20).bind fun s14 =>
      law04_made_k4 again5 v3 x9 s14
    else
      law04_made_k4 again5 v3 x9 x9.Key
  else
    law04_made_k1 v3.1

def law04_made_l2 (l_0 : (List Api_Dep)) (again5 : (List Api_Dep) × Int → Option (List Api_Dep)) (v3 : (List Api_Dep) × Int) : Option (List Api_Dep) :=
  if decide (v3.2 < (l_0.length : Int)) then
    law04_made_k3 l_0 again5 v3 (decide (v3.2 < 12))
  else
    law04_made_k3 l_0 again5 v3 false

def law04_made (l_0 : (List Api_Dep)) : Option (List Api_Dep) :=
  loopF (law04_made_l2 l_0) FU (([] : (List Api_Dep)), 0)

def law04_PastAdd_k1 (y8 : Bool) : Option Bool :=
  some y8

def law04_PastAdd_k6 (d_1 : Api_Dep) (r3 : (List Api_Dep)) (y16 : Bool) : Option Bool :=
  if y16 then
    (past_Add r3 d_1).bind fun r18 =>
    (past_Same r18 r3).bind fun r19 =>
    some r19
  else
    some false

def law04_PastAdd_k5 (d_1 : Api_Dep) (r2 : (List Api_Dep)) (r3 : (List Api_Dep)) (y15 : Bool) : Option Bool :=
  if y15 then
    (past_Covers r3 r2).bind fun r22 =>
    law04_PastAdd_k6 d_1 r3 r22
  else
    law04_PastAdd_k6 d_1 r3 false

def law04_PastAdd_k4 (d_1 : Api_Dep) (other_2 : ByteArray) (r2 : (List Api_Dep)) (r3 : (List Api_Dep)) (y14 : Bool) : Option Bool :=
  if y14 then
    if seq other_2 d_1.Key then
      law04_PastAdd_k5 d_1 r2 r3 true
    else
      (past_Get r3 other_2).bind fun r26 =>
      (past_Get r2 other_2).bind fun r27 =>
      law04_PastAdd_k5 d_1 r2 r3 (decide (r26.N = r27.N) && decide (r26.Site = r27.Site))
  else
    law04_PastAdd_k5 d_1 r2 r3 false

def law04_PastAdd_k3 (d_1 : Api_Dep) (other_2 : ByteArray) (r1 : Bool) (r2 : (List Api_Dep)) (r3 : (List Api_Dep)) (r5 : Api_Stamp) (y13 : Int × Int) : Option Bool :=
  if r1 then
    law04_PastAdd_k4 d_1 other_2 r2 r3 (decide (r5.N = y13.1) && decide (r5.Site = y13.2))
  else
    law04_PastAdd_k4 d_1 other_2 r2 r3 false

def law04_PastAdd_k2 (d_1 : Api_Dep) (other_2 : ByteArray) (r1 : Bool) (r2 : (List Api_Dep)) (r3 : (List Api_Dep)) (r4 : Api_Stamp) (r5 : Api_Stamp) (y12 : Bool) : Option Bool :=
  if y12 then
    law04_PastAdd_k3 d_1 other_2 r1 r2 r3 r5 (d_1.Stamp.N, d_1.Stamp.Site)
  else
    law04_PastAdd_k3 d_1 other_2 r1 r2 r3 r5 (r4.N, r4.Site)

def law04_PastAdd (l_0 : (List Api_Dep)) (d_1 : Api_Dep) (other_2 : ByteArray) : Option Bool :=
  (law04_awake).bind fun r1 =>
  (law04_made l_0).bind fun r2 =>
  (past_Add r2 d_1).bind fun r3 =>
  (past_Get r2 d_1.Key).bind fun r4 =>
  (past_Get r3 d_1.Key).bind fun r5 =>
  (past_Check ([d_1])).bind fun r6 =>
  if !r6 then
    if r1 then
      (past_Same r2 r3).bind fun r11 =>
      law04_PastAdd_k1 r11
    else
      law04_PastAdd_k1 false
  else
    if decide (r4.N < d_1.Stamp.N) then
      law04_PastAdd_k2 d_1 other_2 r1 r2 r3 r4 r5 true
    else
      if decide (r4.N = d_1.Stamp.N) then
        law04_PastAdd_k2 d_1 other_2 r1 r2 r3 r4 r5 (decide (r4.Site < d_1.Stamp.Site))
      else
        law04_PastAdd_k2 d_1 other_2 r1 r2 r3 r4 r5 false

def law04_PastTells_k1 (q_2 : Law04_Ask) (r1 : Bool) (r2 : (List Api_Dep)) (r3 : (List Api_Dep)) (y4 : (List Api_Range)) : Option Bool :=
  (past_Add r2 q_2.Dep).bind fun r5 =>
  (ref04_Add r2 q_2.Dep).bind fun r6 =>
  (ref04_Same r5 r6).bind fun r7 =>
  (past_Merge ([r2, r3, r2])).bind fun r8 =>
  (ref04_Merge ([r2, r3])).bind fun r9 =>
  (ref04_Same r8 r9).bind fun r10 =>
  (past_Only r2 y4).bind fun r11 =>
  (ref04_Only r2 y4).bind fun r12 =>
  (ref04_Same r11 r12).bind fun r13 =>
  if r1 then
    if r7 then
      if r10 then
        if r13 then
          (past_Get r2 q_2.Dep.Key).bind fun r18 =>
          (ref04_Get r2 q_2.Dep.Key).bind fun r19 =>
          if (decide (r18.N = r19.N) && decide (r18.Site = r19.Site)) then
            (past_Covers r2 r3).bind fun r21 =>
            (ref04_Covers r2 r3).bind fun r22 =>
            if r21 == r22 then
              (past_Same r2 r3).bind fun r24 =>
              (ref04_Same r2 r3).bind fun r25 =>
              if r24 == r25 then
                (past_Check r2).bind fun r27 =>
                some r27
              else
                some false
            else
              some false
          else
            some false
        else
          some false
      else
        some false
    else
      some false
  else
    some false

def law04_PastTells (l_0 : (List Api_Dep)) (m_1 : (List Api_Dep)) (q_2 : Law04_Ask) : Option Bool :=
  (law04_awake).bind fun r1 =>
  (law04_made l_0).bind fun r2 =>
  (law04_made m_1).bind fun r3 =>
  if decide (5 < (q_2.Ranges.length : Int)) then
    (sub q_2.Ranges 0 5).bind fun l30 =>
    law04_PastTells_k1 q_2 r1 r2 r3 l30
  else
    law04_PastTells_k1 q_2 r1 r2 r3 q_2.Ranges

def law04_PastOnly_k4 (r2 : (List Api_Dep)) (y7 : Bool) : Option Bool :=
  if y7 then
    (past_Only r2 ([] : (List Api_Range))).bind fun r9 =>
    some (decide ((r9.length : Int) = 0))
  else
    some false

def law04_PastOnly_k3 (r2 : (List Api_Dep)) (y6 : Bool) : Option Bool :=
  if y6 then
    (past_Only r2 ([(Api_Range.mk ByteArray.empty ByteArray.empty)])).bind fun r12 =>
    (past_Same r12 r2).bind fun r13 =>
    law04_PastOnly_k4 r2 r13
  else
    law04_PastOnly_k4 r2 false

def law04_PastOnly_k2 (r2 : (List Api_Dep)) (r3 : (List Api_Dep)) (y5 : Bool) : Option Bool :=
  if y5 then
    law04_PastOnly_k3 r2 (decide ((r3.length : Int) ≤ (r2.length : Int)))
  else
    law04_PastOnly_k3 r2 false

def law04_PastOnly_k1 (r1 : Bool) (r2 : (List Api_Dep)) (r3 : (List Api_Dep)) (_y4 : Unit) : Option Bool :=
  if r1 then
    (past_Covers r2 r3).bind fun r18 =>
    law04_PastOnly_k2 r2 r3 r18
  else
    law04_PastOnly_k2 r2 r3 false

def law04_PastOnly_k7 (again22 : Int → Option Bool) (v20 : Int) (r27 : Api_Stamp) (y28 : Int × Int) : Option Bool :=
  if !(decide (r27.N = y28.1) && decide (r27.Site = y28.2)) then
    some false
  else
    again22 (IntKind.wrap .i64 (v20 + 1))

def law04_PastOnly_k6 (r2 : (List Api_Dep)) (r3 : (List Api_Dep)) (again22 : Int → Option Bool) (v20 : Int) (y25 : Bool) : Option Bool :=
  (idx r2 v20).bind fun x26 =>
  (past_Get r3 x26.Key).bind fun r27 =>
  if y25 then
    (idx r2 v20).bind fun x32 =>
    law04_PastOnly_k7 again22 v20 r27 (x32.Stamp.N, x32.Stamp.Site)
  else
    law04_PastOnly_k7 again22 v20 r27 (0, 0)

def law04_PastOnly_l5 (r_1 : Api_Range) (r1 : Bool) (r2 : (List Api_Dep)) (r3 : (List Api_Dep)) (again22 : Int → Option Bool) (v20 : Int) : Option Bool :=
  if decide (v20 < (r2.length : Int)) then
    (idx r2 v20).bind fun x34 =>
    if !slt x34.Key r_1.From then
      if seq r_1.To ByteArray.empty then
        law04_PastOnly_k6 r2 r3 again22 v20 true
      else
        (idx r2 v20).bind fun x37 =>
        law04_PastOnly_k6 r2 r3 again22 v20 (slt x37.Key r_1.To)
    else
      law04_PastOnly_k6 r2 r3 again22 v20 false
  else
    law04_PastOnly_k1 r1 r2 r3 ()

def law04_PastOnly (l_0 : (List Api_Dep)) (r_1 : Api_Range) : Option Bool :=
  (law04_awake).bind fun r1 =>
  (law04_made l_0).bind fun r2 =>
  (past_Only r2 ([r_1])).bind fun r3 =>
  loopF (law04_PastOnly_l5 r_1 r1 r2 r3) FU 0

def law04_PastChecks_k2 (y2 : (List Api_Dep)) (y3 : Bool) : Option Bool :=
  if y3 then
    (past_Bytes y2).bind fun r5 =>
    (ref04_Bytes y2).bind fun r6 =>
    some (seq r5 r6)
  else
    some false

def law04_PastChecks_k1 (r1 : Bool) (y2 : (List Api_Dep)) : Option Bool :=
  if r1 then
    (past_Check y2).bind fun r9 =>
    (ref04_Check y2).bind fun r10 =>
    law04_PastChecks_k2 y2 (r9 == r10)
  else
    law04_PastChecks_k2 y2 false

def law04_PastChecks_k5 (again14 : Int × (List Api_Dep) → Option Bool) (v12 : Int × (List Api_Dep)) (x18 : Api_Dep) (y19 : ByteArray) : Option Bool :=
  (app 32 v12.2 ([(Api_Dep.mk y19 x18.Stamp)])).bind fun l20 =>
  again14 (IntKind.wrap .i64 (v12.1 + 1), l20)

def law04_PastChecks_k4 (l_0 : (List Api_Dep)) (r1 : Bool) (again14 : Int × (List Api_Dep) → Option Bool) (v12 : Int × (List Api_Dep)) (y16 : Bool) : Option Bool :=
  if y16 then
    (idx l_0 v12.1).bind fun x18 =>
    if decide (20 < (x18.Key.size : Int)) then
      (ssub x18.Key 0 20).bind fun s23 =>
      law04_PastChecks_k5 again14 v12 x18 s23
    else
      law04_PastChecks_k5 again14 v12 x18 x18.Key
  else
    law04_PastChecks_k1 r1 v12.2

def law04_PastChecks_l3 (l_0 : (List Api_Dep)) (r1 : Bool) (again14 : Int × (List Api_Dep) → Option Bool) (v12 : Int × (List Api_Dep)) : Option Bool :=
  if decide (v12.1 < (l_0.length : Int)) then
    law04_PastChecks_k4 l_0 r1 again14 v12 (decide (v12.1 < 30))
  else
    law04_PastChecks_k4 l_0 r1 again14 v12 false

def law04_PastChecks (l_0 : (List Api_Dep)) : Option Bool :=
  (law04_awake).bind fun r1 =>
  loopF (law04_PastChecks_l3 l_0 r1) FU (0, ([] : (List Api_Dep)))

def law04_PastReads_k4 (r6 : ((List Api_Dep) × Int × Bool)) (r7 : Ref04_Got) (y10 : Bool) : Option Bool :=
  if y10 then
    some (r6.2.2 == (decide (0 < r7.End)))
  else
    some false

def law04_PastReads_k3 (r6 : ((List Api_Dep) × Int × Bool)) (r7 : Ref04_Got) (y9 : Bool) : Option Bool :=
  if y9 then
    law04_PastReads_k4 r6 r7 (decide (r6.2.1 = r7.End))
  else
    law04_PastReads_k4 r6 r7 false

def law04_PastReads_k2 (r1 : Bool) (y5 : ByteArray × Int) : Option Bool :=
  (past_Read y5.1 y5.2).bind fun r6 =>
  (ref04_Read y5.1 y5.2).bind fun r7 =>
  (ref04_Same r6.1 r7.P).bind fun r8 =>
  if r1 then
    law04_PastReads_k3 r6 r7 r8
  else
    law04_PastReads_k3 r6 r7 false

def law04_PastReads_k5 (r1 : Bool) (y2 : ByteArray) (r19 : ByteArray) (y21 : ByteArray) : Option Bool :=
  chk (decide (r19.size = y21.size)) (
  (scat y21 y2).bind fun s23 =>
  law04_PastReads_k2 r1 (s23, 0))

def law04_PastReads_k1 (l_0 : (List Api_Dep)) (q_2 : (List Int)) (r1 : Bool) (y2 : ByteArray) : Option Bool :=
  (aidx 3 q_2 0).bind fun x3 =>
  (aidx 3 q_2 1).bind fun x4 =>
  if !decide ((IntKind.wrap .i64 (BitVec.ofInt (IntKind.bits .i64) x4 &&& BitVec.ofInt (IntKind.bits .i64) 3).toNat) = 0) then
    (law04_made l_0).bind fun r18 =>
    (ref04_Bytes r18).bind fun r19 =>
    chk (decide (r19.size ≤ 1048576)) (
    if decide (0 < (r19.size : Int)) then
      (aidx 3 q_2 2).bind fun x26 =>
      chk (!decide ((r19.size : Int) = 0)) (
      chk (!decide ((r19.size : Int) = 0)) (
      chk (decide (0 ≤ (Int.tmod (IntKind.wrap .i64 ((Int.tmod x26 (r19.size : Int)) + (r19.size : Int))) (r19.size : Int)) ∧ (Int.tmod (IntKind.wrap .i64 ((Int.tmod x26 (r19.size : Int)) + (r19.size : Int))) (r19.size : Int)) < (r19.size : Int))) (
      (aidx 3 q_2 1).bind fun x30 =>
      chk (decide (0 ≤ (Int.tmod (IntKind.wrap .i64 ((Int.tmod x26 (r19.size : Int)) + (r19.size : Int))) (r19.size : Int)) ∧ (Int.tmod (IntKind.wrap .i64 ((Int.tmod x26 (r19.size : Int)) + (r19.size : Int))) (r19.size : Int)) < (r19.size : Int))) (
      chk (decide (0 ≤ (IntKind.wrap .u8 (BitVec.ofInt (IntKind.bits .u8) (((ByteArray.data r19).getD (Int.toNat (Int.tmod (IntKind.wrap .i64 ((Int.tmod x26 (r19.size : Int)) + (r19.size : Int))) (r19.size : Int))) 0).toNat : Int) ^^^ BitVec.ofInt (IntKind.bits .u8) (IntKind.wrap .u8 (Int.fdiv x30 (2 ^ min (Int.toNat 2) (IntKind.bits .i64))))).toNat) ∧ (IntKind.wrap .u8 (BitVec.ofInt (IntKind.bits .u8) (((ByteArray.data r19).getD (Int.toNat (Int.tmod (IntKind.wrap .i64 ((Int.tmod x26 (r19.size : Int)) + (r19.size : Int))) (r19.size : Int))) 0).toNat : Int) ^^^ BitVec.ofInt (IntKind.bits .u8) (IntKind.wrap .u8 (Int.fdiv x30 (2 ^ min (Int.toNat 2) (IntKind.bits .i64))))).toNat) < 256)) (
      law04_PastReads_k5 r1 y2 r19 (bset r19 (Int.tmod (IntKind.wrap .i64 ((Int.tmod x26 (r19.size : Int)) + (r19.size : Int))) (r19.size : Int)) (IntKind.wrap .u8 (BitVec.ofInt (IntKind.bits .u8) (((ByteArray.data r19).getD (Int.toNat (Int.tmod (IntKind.wrap .i64 ((Int.tmod x26 (r19.size : Int)) + (r19.size : Int))) (r19.size : Int))) 0).toNat : Int) ^^^ BitVec.ofInt (IntKind.bits .u8) (IntKind.wrap .u8 (Int.fdiv x30 (2 ^ min (Int.toNat 2) (IntKind.bits .i64))))).toNat)))))))
    else
      law04_PastReads_k5 r1 y2 r19 r19)
  else
    law04_PastReads_k2 r1 (y2, x3)

def law04_PastReads (l_0 : (List Api_Dep)) (s_1 : ByteArray) (q_2 : (List Int)) : Option Bool :=
  (law04_awake).bind fun r1 =>
  if decide (60 < (s_1.size : Int)) then
    (ssub s_1 0 60).bind fun s35 =>
    law04_PastReads_k1 l_0 q_2 r1 s35
  else
    law04_PastReads_k1 l_0 q_2 r1 s_1

def law04_PastBack_k5 (r5 : ByteArray) (y11 : Bool) : Option Bool :=
  if y11 then
    some (decide (0 < (r5.size : Int)))
  else
    some false

def law04_PastBack_k4 (y3 : ByteArray) (r5 : ByteArray) (r8 : ((List Api_Dep) × Int × Bool)) (y10 : Bool) : Option Bool :=
  if y10 then
    law04_PastBack_k5 r5 (decide (r8.2.1 = (IntKind.wrap .i64 ((y3.size : Int) + (r5.size : Int)))))
  else
    law04_PastBack_k5 r5 false

def law04_PastBack_k3 (r2 : (List Api_Dep)) (y3 : ByteArray) (r5 : ByteArray) (r8 : ((List Api_Dep) × Int × Bool)) (y9 : Bool) : Option Bool :=
  if y9 then
    (past_Same r2 r8.1).bind fun r17 =>
    law04_PastBack_k4 y3 r5 r8 r17
  else
    law04_PastBack_k4 y3 r5 r8 false

def law04_PastBack_k2 (r1 : Bool) (r2 : (List Api_Dep)) (y3 : ByteArray) (y4 : ByteArray) : Option Bool :=
  (past_Bytes r2).bind fun r5 =>
  (scat y3 r5).bind fun s6 =>
  (scat s6 y4).bind fun s7 =>
  (past_Read s7 (y3.size : Int)).bind fun r8 =>
  if r1 then
    law04_PastBack_k3 r2 y3 r5 r8 r8.2.2
  else
    law04_PastBack_k3 r2 y3 r5 r8 false

def law04_PastBack_k1 (b_2 : ByteArray) (r1 : Bool) (r2 : (List Api_Dep)) (y3 : ByteArray) : Option Bool :=
  if decide (6 < (b_2.size : Int)) then
    (ssub b_2 0 6).bind fun s22 =>
    law04_PastBack_k2 r1 r2 y3 s22
  else
    law04_PastBack_k2 r1 r2 y3 b_2

def law04_PastBack (l_0 : (List Api_Dep)) (a_1 : ByteArray) (b_2 : ByteArray) : Option Bool :=
  (law04_awake).bind fun r1 =>
  (law04_made l_0).bind fun r2 =>
  if decide (6 < (a_1.size : Int)) then
    (ssub a_1 0 6).bind fun s25 =>
    law04_PastBack_k1 b_2 r1 r2 s25
  else
    law04_PastBack_k1 b_2 r1 r2 a_1
end Go.Ark
