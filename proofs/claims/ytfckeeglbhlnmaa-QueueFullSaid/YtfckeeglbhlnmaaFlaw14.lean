/- Typed functions, printed by a program of mine out of the translated code. -/
import Derived.Test.YtfckeeglbhlnmaaFT
import Derived.Test.YtfckeeglbhlnmaaFqueue
import Derived.Test.YtfckeeglbhlnmaaFref03
import Derived.Test.YtfckeeglbhlnmaaFref04
import Derived.Test.YtfckeeglbhlnmaaFref06
import Derived.Test.YtfckeeglbhlnmaaFref12
import Derived.Test.YtfckeeglbhlnmaaFref14
namespace Go.Ark
open Go Go.Ab

def law14_ver (key_0 : ByteArray) (n_1 : Int) (past_2 : (List Api_Dep)) : Option Api_Version :=
  some (Api_Version.mk key_0 ByteArray.empty false (Api_Stamp.mk n_1 0) past_2)

def law14_awake_k4 (r2 : Api_Version) (y8 : Bool) : Option Bool :=
  if y8 then
    (queue_Check r2 ([] : (List Api_Dep)) ([(Api_Range.mk ByteArray.empty ByteArray.empty)])).bind fun r10 =>
    some (!r10)
  else
    some false

def law14_awake_k3 (r2 : Api_Version) (r4 : (Api_Version × (List Api_Version) × Bool)) (y7 : Bool) : Option Bool :=
  if y7 then
    law14_awake_k4 r2 (decide ((r4.2.1.length : Int) = 0))
  else
    law14_awake_k4 r2 false

def law14_awake_k2 (r2 : Api_Version) (r4 : (Api_Version × (List Api_Version) × Bool)) (y6 : Bool) : Option Bool :=
  if y6 then
    law14_awake_k3 r2 r4 (seq r4.1.Key (ByteArray.mk #[98]))
  else
    law14_awake_k3 r2 r4 false

def law14_awake_k1 (r2 : Api_Version) (r3 : (Api_Version × (List Api_Version) × Bool)) (r4 : (Api_Version × (List Api_Version) × Bool)) (y5 : Bool) : Option Bool :=
  if y5 then
    law14_awake_k2 r2 r4 (seq r3.1.Key (ByteArray.mk #[97]))
  else
    law14_awake_k2 r2 r4 false

def law14_awake : Option Bool :=
  (law14_ver (ByteArray.mk #[97]) 1 ([] : (List Api_Dep))).bind fun r1 =>
  (law14_ver (ByteArray.mk #[98]) 2 ([(Api_Dep.mk (ByteArray.mk #[97]) r1.Stamp)])).bind fun r2 =>
  (queue_Next ([r2, r1]) ([] : (List Api_Dep)) ([(Api_Range.mk ByteArray.empty ByteArray.empty)])).bind fun r3 =>
  (queue_Next r3.2.1 ([(Api_Dep.mk (ByteArray.mk #[97]) r1.Stamp)]) ([(Api_Range.mk ByteArray.empty ByteArray.empty)])).bind fun r4 =>
  if r3.2.2 then
    law14_awake_k1 r2 r3 r4 r4.2.2
  else
    law14_awake_k1 r2 r3 r4 false

def law14_word (n_0 : Int) : Option ByteArray :=
  some (bytesOf ([IntKind.wrap .u8 (IntKind.wrap .i64 (97 + (IntKind.wrap .i64 (3 * (IntKind.wrap .i64 (BitVec.ofInt (IntKind.bits .i64) n_0 &&& BitVec.ofInt (IntKind.bits .i64) 7).toNat)))))]))

def law14_made_k1 (y1 : (List Api_Version)) : Option (List Api_Version) :=
  some y1

def law14_made_k4 (again5 : Int × (List Api_Version) → Option (List Api_Version)) (v3 : Int × (List Api_Version)) (y9 : (List Api_Version)) : Option (List Api_Version) :=
  again5 (IntKind.wrap .i64 (v3.1 + 1), y9)

def law14_made_k7 (again5 : Int × (List Api_Version) → Option (List Api_Version)) (v3 : Int × (List Api_Version)) (y11 : (List Api_Dep)) (y12 : Int) (r14 : ByteArray) (x15 : Law14_Write) (y16 : Bool) : Option (List Api_Version) :=
  if !y16 then
    (app 80 v3.2 ([(Api_Version.mk r14 ByteArray.empty false (Api_Stamp.mk (IntKind.wrap .i64 (y12 + 1)) (IntKind.wrap .i64 (BitVec.ofInt (IntKind.bits .i64) x15.Site &&& BitVec.ofInt (IntKind.bits .i64) 3).toNat)) y11)])).bind fun l18 =>
    law14_made_k4 again5 v3 l18
  else
    law14_made_k4 again5 v3 v3.2

def law14_made_l8 (again5 : Int × (List Api_Version) → Option (List Api_Version)) (v3 : Int × (List Api_Version)) (y11 : (List Api_Dep)) (y12 : Int) (r14 : ByteArray) (x15 : Law14_Write) (again22 : Bool × Int → Option (List Api_Version)) (v20 : Bool × Int) : Option (List Api_Version) :=
  if decide (v20.2 < (v3.2.length : Int)) then
    if v20.1 then
      again22 (true, IntKind.wrap .i64 (v20.2 + 1))
    else
      (idx v3.2 v20.2).bind fun x26 =>
      if seq x26.Key r14 then
        (idx v3.2 v20.2).bind fun x28 =>
        again22 ((decide (x28.Stamp.N = IntKind.wrap .i64 (y12 + 1)) && decide (x28.Stamp.Site = IntKind.wrap .i64 (BitVec.ofInt (IntKind.bits .i64) x15.Site &&& BitVec.ofInt (IntKind.bits .i64) 3).toNat)), IntKind.wrap .i64 (v20.2 + 1))
      else
        again22 (false, IntKind.wrap .i64 (v20.2 + 1))
  else
    law14_made_k7 again5 v3 y11 y12 r14 x15 v20.1

def law14_made_k6 (l_0 : (List Law14_Write)) (again5 : Int × (List Api_Version) → Option (List Api_Version)) (v3 : Int × (List Api_Version)) (y11 : (List Api_Dep)) (y12 : Int) : Option (List Api_Version) :=
  (idx l_0 v3.1).bind fun x13 =>
  (law14_word x13.Key).bind fun r14 =>
  (idx l_0 v3.1).bind fun x15 =>
  loopF (law14_made_l8 again5 v3 y11 y12 r14 x15) FU (false, 0)

def law14_made_l9 (l_0 : (List Law14_Write)) (again5 : Int × (List Api_Version) → Option (List Api_Version)) (v3 : Int × (List Api_Version)) (y11 : (List Api_Dep)) (again32 : Int × Int → Option (List Api_Version)) (v30 : Int × Int) : Option (List Api_Version) :=
  if decide (v30.2 < (y11.length : Int)) then
    (idx y11 v30.2).bind fun x35 =>
    if decide (v30.1 < x35.Stamp.N) then
      (idx y11 v30.2).bind fun x37 =>
      again32 (x37.Stamp.N, IntKind.wrap .i64 (v30.2 + 1))
    else
      again32 (v30.1, IntKind.wrap .i64 (v30.2 + 1))
  else
    law14_made_k6 l_0 again5 v3 y11 v30.1

def law14_made_k5 (l_0 : (List Law14_Write)) (again5 : Int × (List Api_Version) → Option (List Api_Version)) (v3 : Int × (List Api_Version)) (y11 : (List Api_Dep)) : Option (List Api_Version) :=
  loopF (law14_made_l9 l_0 again5 v3 y11) FU (0, 0)

def law14_made_k11 (l_0 : (List Law14_Write)) (again5 : Int × (List Api_Version) → Option (List Api_Version)) (v3 : Int × (List Api_Version)) (again41 : (List Api_Dep) × Int → Option (List Api_Version)) (v39 : (List Api_Dep) × Int) (y43 : Bool) : Option (List Api_Version) :=
  if y43 then
    if decide (0 < (v3.2.length : Int)) then
      (idx l_0 v3.1).bind fun x46 =>
      (idx x46.Saw v39.2).bind fun x47 =>
      chk (!decide ((v3.2.length : Int) = 0)) (
      chk (!decide ((v3.2.length : Int) = 0)) (
      (idx v3.2 (Int.tmod (IntKind.wrap .i64 ((Int.tmod x47 (v3.2.length : Int)) + (v3.2.length : Int))) (v3.2.length : Int))).bind fun x50 =>
      (ref04_Merge ([v39.1, x50.Past, [(Api_Dep.mk x50.Key x50.Stamp)]])).bind fun r51 =>
      again41 (r51, IntKind.wrap .i64 (v39.2 + 1))))
    else
      again41 (v39.1, IntKind.wrap .i64 (v39.2 + 1))
  else
    law14_made_k5 l_0 again5 v3 v39.1

def law14_made_l10 (l_0 : (List Law14_Write)) (again5 : Int × (List Api_Version) → Option (List Api_Version)) (v3 : Int × (List Api_Version)) (again41 : (List Api_Dep) × Int → Option (List Api_Version)) (v39 : (List Api_Dep) × Int) : Option (List Api_Version) :=
  (idx l_0 v3.1).bind fun x53 =>
  if decide (v39.2 < (x53.Saw.length : Int)) then
    law14_made_k11 l_0 again5 v3 again41 v39 (decide (v39.2 < 4))
  else
    law14_made_k11 l_0 again5 v3 again41 v39 false

def law14_made_k3 (l_0 : (List Law14_Write)) (again5 : Int × (List Api_Version) → Option (List Api_Version)) (v3 : Int × (List Api_Version)) (y7 : Bool) : Option (List Api_Version) :=
  if y7 then
    loopF (law14_made_l10 l_0 again5 v3) FU (([] : (List Api_Dep)), 0)
  else
    law14_made_k1 v3.2

def law14_made_l2 (l_0 : (List Law14_Write)) (again5 : Int × (List Api_Version) → Option (List Api_Version)) (v3 : Int × (List Api_Version)) : Option (List Api_Version) :=
  if decide (v3.1 < (l_0.length : Int)) then
    law14_made_k3 l_0 again5 v3 (decide (v3.1 < 14))
  else
    law14_made_k3 l_0 again5 v3 false

def law14_made (l_0 : (List Law14_Write)) : Option (List Api_Version) :=
  loopF (law14_made_l2 l_0) FU (0, ([] : (List Api_Version)))

def law14_ranges (n_0 : Int) : Option (List Api_Range) :=
  if decide ((IntKind.wrap .i64 (BitVec.ofInt (IntKind.bits .i64) n_0 &&& BitVec.ofInt (IntKind.bits .i64) 3).toNat) = 0) then
    some ([(Api_Range.mk ByteArray.empty ByteArray.empty)])
  else
    if decide ((IntKind.wrap .i64 (BitVec.ofInt (IntKind.bits .i64) n_0 &&& BitVec.ofInt (IntKind.bits .i64) 3).toNat) = 1) then
      some ([(Api_Range.mk ByteArray.empty (ByteArray.mk #[106]))])
    else
      if decide ((IntKind.wrap .i64 (BitVec.ofInt (IntKind.bits .i64) n_0 &&& BitVec.ofInt (IntKind.bits .i64) 3).toNat) = 2) then
        some ([(Api_Range.mk (ByteArray.mk #[100]) (ByteArray.mk #[109])), (Api_Range.mk (ByteArray.mk #[115]) ByteArray.empty)])
      else
        some ([] : (List Api_Range))

def law14_QueueLeft_k3 (r1 : Bool) (_y6 : Unit) : Option Bool :=
  some r1

def law14_QueueLeft_l4 (r1 : Bool) (r3 : (List Api_Range)) (y5 : (List Api_Version) × (List Api_Dep)) (again10 : Int → Option Bool) (v8 : Int) : Option Bool :=
  if decide (v8 < (y5.1.length : Int)) then
    (idx y5.1 v8).bind fun x13 =>
    (queue_Misses x13 y5.2 r3).bind fun r14 =>
    if decide ((r14.length : Int) = 0) then
      some false
    else
      (idx r14 0).bind fun x16 =>
      (ref04_Get y5.2 x16.Key).bind fun r17 =>
      (idx r14 0).bind fun x18 =>
      (ref03_Less r17 x18.Stamp).bind fun r19 =>
      if !r19 then
        some false
      else
        again10 (IntKind.wrap .i64 (v8 + 1))
  else
    law14_QueueLeft_k3 r1 ()

def law14_QueueLeft_k2 (r1 : Bool) (r3 : (List Api_Range)) (y5 : (List Api_Version) × (List Api_Dep)) : Option Bool :=
  loopF (law14_QueueLeft_l4 r1 r3 y5) FU 0

def law14_QueueLeft_l5 (r1 : Bool) (r3 : (List Api_Range)) (again24 : (List Api_Version) × (List Api_Dep) × Int → Option Bool) (v22 : (List Api_Version) × (List Api_Dep) × Int) : Option Bool :=
  if decide (v22.2.2 < 15) then
    (queue_Next v22.1 v22.2.1 r3).bind fun r27 =>
    if !r27.2.2 then
      law14_QueueLeft_k2 r1 r3 (v22.1, v22.2.1)
    else
      (ref04_Only r27.1.Past r3).bind fun r29 =>
      (ref04_Covers v22.2.1 r29).bind fun r30 =>
      if !r30 then
        some false
      else
        (ref04_Add v22.2.1 (Api_Dep.mk r27.1.Key r27.1.Stamp)).bind fun r32 =>
        again24 (r27.2.1, r32, IntKind.wrap .i64 (v22.2.2 + 1))
  else
    law14_QueueLeft_k2 r1 r3 (v22.1, v22.2.1)

def law14_QueueLeft_k1 (r1 : Bool) (r3 : (List Api_Range)) (y4 : (List Api_Version)) : Option Bool :=
  loopF (law14_QueueLeft_l5 r1 r3) FU (y4, ([] : (List Api_Dep)), 0)

def law14_QueueLeft_l6 (out_1 : Int) (r1 : Bool) (r2 : (List Api_Version)) (r3 : (List Api_Range)) (again36 : Int × (List Api_Version) → Option Bool) (v34 : Int × (List Api_Version)) : Option Bool :=
  if decide (v34.1 < (r2.length : Int)) then
    if !decide (v34.1 = (IntKind.wrap .i64 (BitVec.ofInt (IntKind.bits .i64) out_1 &&& BitVec.ofInt (IntKind.bits .i64) 15).toNat)) then
      (idx r2 (IntKind.wrap .i64 ((IntKind.wrap .i64 ((r2.length : Int) - 1)) - v34.1))).bind fun x40 =>
      (app 80 v34.2 ([x40])).bind fun l41 =>
      again36 (IntKind.wrap .i64 (v34.1 + 1), l41)
    else
      again36 (IntKind.wrap .i64 (v34.1 + 1), v34.2)
  else
    law14_QueueLeft_k1 r1 r3 v34.2

def law14_QueueLeft (l_0 : (List Law14_Write)) (out_1 : Int) (which_2 : Int) : Option Bool :=
  (law14_awake).bind fun r1 =>
  (law14_made l_0).bind fun r2 =>
  (law14_ranges which_2).bind fun r3 =>
  loopF (law14_QueueLeft_l6 out_1 r1 r2 r3) FU (0, ([] : (List Api_Version)))

def law14_QueueHave_k2 (r1 : Bool) (_y8 : Unit) : Option Bool :=
  some r1

def law14_QueueHave_l3 (r1 : Bool) (r2 : (List Api_Version)) (r3 : (List Api_Range)) (y4 : (List (List Api_Dep))) (r7 : (List Api_Dep)) (again12 : Int → Option Bool) (v10 : Int) : Option Bool :=
  if decide (v10 < (r2.length : Int)) then
    (idx r2 v10).bind fun x15 =>
    (aidx 2 y4 0).bind fun x16 =>
    (queue_Misses x15 x16 r3).bind fun r17 =>
    (idx r2 v10).bind fun x18 =>
    (queue_Misses x18 r7 r3).bind fun r19 =>
    if decide ((r17.length : Int) < (r19.length : Int)) then
      some false
    else
      (idx r2 v10).bind fun x21 =>
      (aidx 2 y4 0).bind fun x22 =>
      (queue_Check x21 x22 r3).bind fun r23 =>
      if r23 then
        (idx r2 v10).bind fun x25 =>
        (queue_Check x25 r7 r3).bind fun r26 =>
        if !r26 then
          some false
        else
          (idx r2 v10).bind fun x28 =>
          (aidx 2 y4 0).bind fun x29 =>
          (queue_Misses x28 x29 ([] : (List Api_Range))).bind fun r30 =>
          if !decide ((r30.length : Int) = 0) then
            some false
          else
            (idx r2 v10).bind fun x32 =>
            (idx r2 v10).bind fun x33 =>
            (queue_Check x32 x33.Past r3).bind fun r34 =>
            if !r34 then
              some false
            else
              again12 (IntKind.wrap .i64 (v10 + 1))
      else
        (idx r2 v10).bind fun x36 =>
        (aidx 2 y4 0).bind fun x37 =>
        (queue_Misses x36 x37 ([] : (List Api_Range))).bind fun r38 =>
        if !decide ((r38.length : Int) = 0) then
          some false
        else
          (idx r2 v10).bind fun x40 =>
          (idx r2 v10).bind fun x41 =>
          (queue_Check x40 x41.Past r3).bind fun r42 =>
          if !r42 then
            some false
          else
            again12 (IntKind.wrap .i64 (v10 + 1))
  else
    law14_QueueHave_k2 r1 ()

def law14_QueueHave_k1 (r1 : Bool) (r2 : (List Api_Version)) (r3 : (List Api_Range)) (y4 : (List (List Api_Dep))) : Option Bool :=
  (aidx 2 y4 0).bind fun x5 =>
  (aidx 2 y4 1).bind fun x6 =>
  (ref04_Merge ([x5, x6])).bind fun r7 =>
  loopF (law14_QueueHave_l3 r1 r2 r3 y4 r7) FU 0

def law14_QueueHave_k5 (again47 : Int × (List (List Api_Dep)) → Option Bool) (v45 : Int × (List (List Api_Dep))) (y50 : (List (List Api_Dep))) : Option Bool :=
  again47 (IntKind.wrap .i64 (v45.1 + 1), y50)

def law14_QueueHave_k6 (again47 : Int × (List (List Api_Dep)) → Option Bool) (v45 : Int × (List (List Api_Dep))) (y52 : (List (List Api_Dep))) : Option Bool :=
  law14_QueueHave_k5 again47 v45 y52

def law14_QueueHave_k9 (v45 : Int × (List (List Api_Dep))) (again56 : Int × (List (List Api_Dep)) → Option Bool) (v54 : Int × (List (List Api_Dep))) (x61 : Api_Dep) (y62 : ByteArray) : Option Bool :=
  (aidx 2 v54.2 v45.1).bind fun x63 =>
  (ref04_Add x63 (Api_Dep.mk y62 x61.Stamp)).bind fun r64 =>
  (aidx 2 v54.2 v45.1).bind fun _x65 =>
  (asets 2 v54.2 v45.1 r64).bind fun a66 =>
  again56 (IntKind.wrap .i64 (v54.1 + 1), a66)

def law14_QueueHave_k8 (have_1 : (List (List Api_Dep))) (again47 : Int × (List (List Api_Dep)) → Option Bool) (v45 : Int × (List (List Api_Dep))) (again56 : Int × (List (List Api_Dep)) → Option Bool) (v54 : Int × (List (List Api_Dep))) (y58 : Bool) : Option Bool :=
  if y58 then
    (aidx 2 have_1 v45.1).bind fun x60 =>
    (idx x60 v54.1).bind fun x61 =>
    if decide (12 < (x61.Key.size : Int)) then
      (ssub x61.Key 0 12).bind fun s69 =>
      law14_QueueHave_k9 v45 again56 v54 x61 s69
    else
      law14_QueueHave_k9 v45 again56 v54 x61 x61.Key
  else
    law14_QueueHave_k6 again47 v45 v54.2

def law14_QueueHave_l7 (have_1 : (List (List Api_Dep))) (again47 : Int × (List (List Api_Dep)) → Option Bool) (v45 : Int × (List (List Api_Dep))) (again56 : Int × (List (List Api_Dep)) → Option Bool) (v54 : Int × (List (List Api_Dep))) : Option Bool :=
  (aidx 2 have_1 v45.1).bind fun x71 =>
  if decide (v54.1 < (x71.length : Int)) then
    law14_QueueHave_k8 have_1 again47 v45 again56 v54 (decide (v54.1 < 6))
  else
    law14_QueueHave_k8 have_1 again47 v45 again56 v54 false

def law14_QueueHave_l4 (have_1 : (List (List Api_Dep))) (r1 : Bool) (r2 : (List Api_Version)) (r3 : (List Api_Range)) (again47 : Int × (List (List Api_Dep)) → Option Bool) (v45 : Int × (List (List Api_Dep))) : Option Bool :=
  if decide (v45.1 < 2) then
    loopF (law14_QueueHave_l7 have_1 again47 v45) FU (0, v45.2)
  else
    law14_QueueHave_k1 r1 r2 r3 v45.2

def law14_QueueHave (l_0 : (List Law14_Write)) (have_1 : (List (List Api_Dep))) (which_2 : Int) : Option Bool :=
  (law14_awake).bind fun r1 =>
  (law14_made l_0).bind fun r2 =>
  (law14_ranges which_2).bind fun r3 =>
  loopF (law14_QueueHave_l4 have_1 r1 r2 r3) FU (0, List.replicate 2 ([] : (List Api_Dep)))

def law14_QueueDrop_k1 (r1 : Bool) (r2 : (List Api_Version)) (r4 : (List Api_Version)) (y5 : Int) : Option Bool :=
  (queue_Drop r2 ([(Api_Range.mk ByteArray.empty ByteArray.empty)])).bind fun r6 =>
  (ref12_Same r6 r2).bind fun r7 =>
  if r1 then
    if decide (y5 = (r4.length : Int)) then
      some r7
    else
      some false
  else
    some false

def law14_QueueDrop_k3 (again13 : Int × Int → Option Bool) (v11 : Int × Int) (y16 : Int) : Option Bool :=
  again13 (y16, IntKind.wrap .i64 (v11.2 + 1))

def law14_QueueDrop_k4 (r2 : (List Api_Version)) (r4 : (List Api_Version)) (again13 : Int × Int → Option Bool) (v11 : Int × Int) (y18 : Bool) : Option Bool :=
  if !y18 then
    law14_QueueDrop_k3 again13 v11 v11.1
  else
    if decide ((r4.length : Int) ≤ v11.1) then
      some false
    else
      (idx r4 v11.1).bind fun x21 =>
      (idx r2 v11.2).bind fun x22 =>
      (ref06_Same x21 x22).bind fun r23 =>
      if !r23 then
        some false
      else
        law14_QueueDrop_k3 again13 v11 (IntKind.wrap .i64 (v11.1 + 1))

def law14_QueueDrop_l5 (r2 : (List Api_Version)) (r3 : (List Api_Range)) (r4 : (List Api_Version)) (again13 : Int × Int → Option Bool) (v11 : Int × Int) (again28 : Bool × Int → Option Bool) (v26 : Bool × Int) : Option Bool :=
  if decide (v26.2 < (r3.length : Int)) then
    if v26.1 then
      again28 (true, IntKind.wrap .i64 (v26.2 + 1))
    else
      (idx r2 v11.2).bind fun x32 =>
      (idx r3 v26.2).bind fun x33 =>
      if !slt x32.Key x33.From then
        (idx r3 v26.2).bind fun x35 =>
        if seq x35.To ByteArray.empty then
          again28 (true, IntKind.wrap .i64 (v26.2 + 1))
        else
          (idx r2 v11.2).bind fun x37 =>
          (idx r3 v26.2).bind fun x38 =>
          again28 (slt x37.Key x38.To, IntKind.wrap .i64 (v26.2 + 1))
      else
        again28 (false, IntKind.wrap .i64 (v26.2 + 1))
  else
    law14_QueueDrop_k4 r2 r4 again13 v11 v26.1

def law14_QueueDrop_l2 (r1 : Bool) (r2 : (List Api_Version)) (r3 : (List Api_Range)) (r4 : (List Api_Version)) (again13 : Int × Int → Option Bool) (v11 : Int × Int) : Option Bool :=
  if decide (v11.2 < (r2.length : Int)) then
    loopF (law14_QueueDrop_l5 r2 r3 r4 again13 v11) FU (false, 0)
  else
    law14_QueueDrop_k1 r1 r2 r4 v11.1

def law14_QueueDrop (l_0 : (List Law14_Write)) (which_1 : Int) : Option Bool :=
  (law14_awake).bind fun r1 =>
  (law14_made l_0).bind fun r2 =>
  (law14_ranges which_1).bind fun r3 =>
  (queue_Drop r2 r3).bind fun r4 =>
  loopF (law14_QueueDrop_l2 r1 r2 r3 r4) FU (0, 0)

def law14_QueueAll_k2 (r1 : Bool) (y5 : (List Api_Version)) : Option Bool :=
  if r1 then
    some (decide ((y5.length : Int) = 0))
  else
    some false

def law14_QueueAll_k4 (again10 : (List Api_Version) × (List Api_Dep) × Int → Option Bool) (v8 : (List Api_Version) × (List Api_Dep) × Int) (r13 : (Api_Version × (List Api_Version) × Bool)) (y15 : Bool) : Option Bool :=
  if y15 then
    some false
  else
    (ref04_Add v8.2.1 (Api_Dep.mk r13.1.Key r13.1.Stamp)).bind fun r17 =>
    again10 (r13.2.1, r17, IntKind.wrap .i64 (v8.2.2 + 1))

def law14_QueueAll_k5 (again10 : (List Api_Version) × (List Api_Dep) × Int → Option Bool) (v8 : (List Api_Version) × (List Api_Dep) × Int) (r13 : (Api_Version × (List Api_Version) × Bool)) (y19 : Bool) : Option Bool :=
  if y19 then
    law14_QueueAll_k4 again10 v8 r13 true
  else
    law14_QueueAll_k4 again10 v8 r13 (!decide ((r13.2.1.length : Int) = (IntKind.wrap .i64 ((v8.1.length : Int) - 1))))

def law14_QueueAll_l3 (r1 : Bool) (r2 : (List Api_Version)) (r4 : (List Api_Range)) (again10 : (List Api_Version) × (List Api_Dep) × Int → Option Bool) (v8 : (List Api_Version) × (List Api_Dep) × Int) : Option Bool :=
  if decide (v8.2.2 < (r2.length : Int)) then
    (queue_Next v8.1 v8.2.1 r4).bind fun r13 =>
    (ref04_Covers v8.2.1 r13.1.Past).bind fun r14 =>
    if !r13.2.2 then
      law14_QueueAll_k5 again10 v8 r13 true
    else
      law14_QueueAll_k5 again10 v8 r13 (!r14)
  else
    law14_QueueAll_k2 r1 v8.1

def law14_QueueAll_k1 (r1 : Bool) (r2 : (List Api_Version)) (y3 : (List Api_Version)) : Option Bool :=
  (law14_ranges 0).bind fun r4 =>
  loopF (law14_QueueAll_l3 r1 r2 r4) FU (y3, ([] : (List Api_Dep)), 0)

def law14_QueueAll_k9 (r2 : (List Api_Version)) (again26 : (List Api_Version) × Int × (List Bool) → Option Bool) (v24 : (List Api_Version) × Int × (List Bool)) (y30 : Int) (y31 : Bool) : Option Bool :=
  if y31 then
    again26 (v24.1, IntKind.wrap .i64 (v24.2.1 + 1), v24.2.2)
  else
    (aidx 14 v24.2.2 y30).bind fun _x33 =>
    (asets 14 v24.2.2 y30 true).bind fun a34 =>
    (idx r2 y30).bind fun x35 =>
    (queue_Push v24.1 x35).bind fun r36 =>
    if !decide (r36.2 = 0) then
      some false
    else
      again26 (r36.1, IntKind.wrap .i64 (v24.2.1 + 1), a34)

def law14_QueueAll_k8 (r2 : (List Api_Version)) (again26 : (List Api_Version) × Int × (List Bool) → Option Bool) (v24 : (List Api_Version) × Int × (List Bool)) (y30 : Int) : Option Bool :=
  if decide (y30 < 0) then
    law14_QueueAll_k9 r2 again26 v24 y30 true
  else
    (aidx 14 v24.2.2 y30).bind fun x40 =>
    law14_QueueAll_k9 r2 again26 v24 y30 x40

def law14_QueueAll_k7 (order_1 : (List Int)) (r2 : (List Api_Version)) (again26 : (List Api_Version) × Int × (List Bool) → Option Bool) (v24 : (List Api_Version) × Int × (List Bool)) (y29 : Bool) : Option Bool :=
  if y29 then
    (idx order_1 v24.2.1).bind fun x43 =>
    chk (!decide ((r2.length : Int) = 0)) (
    chk (!decide ((r2.length : Int) = 0)) (
    law14_QueueAll_k8 r2 again26 v24 (Int.tmod (IntKind.wrap .i64 ((Int.tmod x43 (r2.length : Int)) + (r2.length : Int))) (r2.length : Int))))
  else
    law14_QueueAll_k8 r2 again26 v24 (IntKind.wrap .i64 (v24.2.1 - (order_1.length : Int)))

def law14_QueueAll_l6 (order_1 : (List Int)) (r1 : Bool) (r2 : (List Api_Version)) (again26 : (List Api_Version) × Int × (List Bool) → Option Bool) (v24 : (List Api_Version) × Int × (List Bool)) : Option Bool :=
  if decide (v24.2.1 < (IntKind.wrap .i64 ((order_1.length : Int) + (r2.length : Int)))) then
    if decide (v24.2.1 < (order_1.length : Int)) then
      law14_QueueAll_k7 order_1 r2 again26 v24 (decide (0 < (r2.length : Int)))
    else
      law14_QueueAll_k7 order_1 r2 again26 v24 false
  else
    law14_QueueAll_k1 r1 r2 v24.1

def law14_QueueAll (l_0 : (List Law14_Write)) (order_1 : (List Int)) : Option Bool :=
  (law14_awake).bind fun r1 =>
  (law14_made l_0).bind fun r2 =>
  loopF (law14_QueueAll_l6 order_1 r1 r2) FU (([] : (List Api_Version)), 0, List.replicate 14 false)

def law14_QueueFull_k2 (y8 : Bool) : Option Bool :=
  some y8

def law14_QueueFull_k3 (r6 : (Api_Version × (List Api_Version) × Bool)) (y10 : Bool) : Option Bool :=
  if y10 then
    law14_QueueFull_k2 (decide ((r6.2.1.length : Int) = 0))
  else
    law14_QueueFull_k2 false

def law14_QueueFull_k6 (y2 : (List Api_Version)) (r6 : (Api_Version × (List Api_Version) × Bool)) (y18 : Bool) : Option Bool :=
  if y18 then
    some (decide ((r6.2.1.length : Int) = (IntKind.wrap .i64 ((y2.length : Int) - 1))))
  else
    some false

def law14_QueueFull_k5 (y2 : (List Api_Version)) (r6 : (Api_Version × (List Api_Version) × Bool)) (r15 : ((List Api_Version) × Int)) (y17 : Bool) : Option Bool :=
  if y17 then
    law14_QueueFull_k6 y2 r6 (decide (r15.2 = 0))
  else
    law14_QueueFull_k6 y2 r6 false

def law14_QueueFull_k4 (y2 : (List Api_Version)) (r6 : (Api_Version × (List Api_Version) × Bool)) (r15 : ((List Api_Version) × Int)) (y16 : Bool) : Option Bool :=
  if y16 then
    law14_QueueFull_k5 y2 r6 r15 (decide (r6.1.Stamp.N = 1))
  else
    law14_QueueFull_k5 y2 r6 r15 false

def law14_QueueFull_k1 (n_0 : Int) (r1 : Bool) (y2 : (List Api_Version)) : Option Bool :=
  (queue_Push y2 (Api_Version.mk ByteArray.empty ByteArray.empty false (Api_Stamp.mk 0 0) ([] : (List Api_Dep)))).bind fun r3 =>
  if !decide (r3.2 = 1) then
    some false
  else
    (law14_ranges 0).bind fun r5 =>
    (queue_Next y2 ([] : (List Api_Dep)) r5).bind fun r6 =>
    if decide ((Int.tmod (IntKind.wrap .i64 ((Int.tmod n_0 31) + 31)) 31) = 0) then
      if r1 then
        law14_QueueFull_k3 r6 (!r6.2.2)
      else
        law14_QueueFull_k3 r6 false
    else
      (law14_ver (ByteArray.mk #[98]) 1 ([] : (List Api_Dep))).bind fun r14 =>
      (queue_Push r6.2.1 r14).bind fun r15 =>
      if r1 then
        law14_QueueFull_k4 y2 r6 r15 r6.2.2
      else
        law14_QueueFull_k4 y2 r6 r15 false

def law14_QueueFull_k8 (again29 : (List Api_Version) × Int → Option Bool) (v27 : (List Api_Version) × Int) (r33 : ((List Api_Version) × Int)) (y34 : Bool) : Option Bool :=
  if y34 then
    some false
  else
    if decide (r33.2 = 0) then
      again29 (r33.1, IntKind.wrap .i64 (v27.2 + 1))
    else
      again29 (v27.1, IntKind.wrap .i64 (v27.2 + 1))

def law14_QueueFull_l7 (n_0 : Int) (r1 : Bool) (again29 : (List Api_Version) × Int → Option Bool) (v27 : (List Api_Version) × Int) : Option Bool :=
  if decide (v27.2 < (Int.tmod (IntKind.wrap .i64 ((Int.tmod n_0 31) + 31)) 31)) then
    (law14_ver (ByteArray.mk #[97]) (IntKind.wrap .i64 (1 + v27.2)) ([] : (List Api_Dep))).bind fun r32 =>
    (queue_Push v27.1 r32).bind fun r33 =>
    if !((decide (r33.2 = 0)) == (decide (v27.2 < 24))) then
      law14_QueueFull_k8 again29 v27 r33 true
    else
      if !decide (r33.2 = 0) then
        law14_QueueFull_k8 again29 v27 r33 (!decide (r33.2 = 15))
      else
        law14_QueueFull_k8 again29 v27 r33 false
  else
    law14_QueueFull_k1 n_0 r1 v27.1

def law14_QueueFull (n_0 : Int) : Option Bool :=
  (law14_awake).bind fun r1 =>
  loopF (law14_QueueFull_l7 n_0 r1) FU (([] : (List Api_Version)), 0)

def law14_QueueTells_k8 (r13 : ((List Api_Version) × Int)) (r14 : ((List Api_Version) × Int)) (r18 : Bool) (y22 : Bool) : Option Bool :=
  if y22 then
    if decide (r13.2 = r14.2) then
      some r18
    else
      some false
  else
    some false

def law14_QueueTells_k7 (r13 : ((List Api_Version) × Int)) (r14 : ((List Api_Version) × Int)) (r15 : Bool) (r18 : Bool) (y21 : Bool) : Option Bool :=
  if y21 then
    law14_QueueTells_k8 r13 r14 r18 r15
  else
    law14_QueueTells_k8 r13 r14 r18 false

def law14_QueueTells_k6 (r6 : (Api_Version × (List Api_Version) × Bool)) (r7 : Ref14_Got) (r13 : ((List Api_Version) × Int)) (r14 : ((List Api_Version) × Int)) (r15 : Bool) (r18 : Bool) (y20 : Bool) : Option Bool :=
  if y20 then
    law14_QueueTells_k7 r13 r14 r15 r18 (r6.2.2 == r7.Is)
  else
    law14_QueueTells_k7 r13 r14 r15 r18 false

def law14_QueueTells_k5 (r6 : (Api_Version × (List Api_Version) × Bool)) (r7 : Ref14_Got) (r9 : Bool) (r13 : ((List Api_Version) × Int)) (r14 : ((List Api_Version) × Int)) (r15 : Bool) (r18 : Bool) (y19 : Bool) : Option Bool :=
  if y19 then
    law14_QueueTells_k6 r6 r7 r13 r14 r15 r18 r9
  else
    law14_QueueTells_k6 r6 r7 r13 r14 r15 r18 false

def law14_QueueTells_k4 (q_2 : Law14_Ask) (r1 : Bool) (r2 : (List Api_Version)) (y3 : (List Api_Dep)) (r4 : (List Api_Range)) (r6 : (Api_Version × (List Api_Version) × Bool)) (r7 : Ref14_Got) (r8 : Bool) (r9 : Bool) (y10 : ByteArray) (y12 : (List Api_Version)) : Option Bool :=
  (queue_Push y12 (Api_Version.mk q_2.Version.Key y10 q_2.Version.Gone q_2.Version.Stamp y3)).bind fun r13 =>
  (ref14_Push y12 (Api_Version.mk q_2.Version.Key y10 q_2.Version.Gone q_2.Version.Stamp y3)).bind fun r14 =>
  (ref12_Same r13.1 r14.1).bind fun r15 =>
  (queue_Drop r2 r4).bind fun r16 =>
  (ref14_Drop r2 r4).bind fun r17 =>
  (ref12_Same r16 r17).bind fun r18 =>
  if r1 then
    law14_QueueTells_k5 r6 r7 r9 r13 r14 r15 r18 r8
  else
    law14_QueueTells_k5 r6 r7 r9 r13 r14 r15 r18 false

def law14_QueueTells_k10 (q_2 : Law14_Ask) (r1 : Bool) (r2 : (List Api_Version)) (y3 : (List Api_Dep)) (r4 : (List Api_Range)) (r6 : (Api_Version × (List Api_Version) × Bool)) (r7 : Ref14_Got) (r8 : Bool) (r9 : Bool) (y10 : ByteArray) (again36 : Int × (List Api_Version) → Option Bool) (v34 : Int × (List Api_Version)) (y38 : Bool) : Option Bool :=
  if y38 then
    (idx r2 0).bind fun x40 =>
    (app 80 v34.2 ([x40])).bind fun l41 =>
    again36 (IntKind.wrap .i64 (v34.1 + 1), l41)
  else
    law14_QueueTells_k4 q_2 r1 r2 y3 r4 r6 r7 r8 r9 y10 v34.2

def law14_QueueTells_l9 (q_2 : Law14_Ask) (r1 : Bool) (r2 : (List Api_Version)) (y3 : (List Api_Dep)) (r4 : (List Api_Range)) (r6 : (Api_Version × (List Api_Version) × Bool)) (r7 : Ref14_Got) (r8 : Bool) (r9 : Bool) (y10 : ByteArray) (again36 : Int × (List Api_Version) → Option Bool) (v34 : Int × (List Api_Version)) : Option Bool :=
  if decide (v34.1 < (IntKind.wrap .i64 (BitVec.ofInt (IntKind.bits .i64) q_2.More &&& BitVec.ofInt (IntKind.bits .i64) 15).toNat)) then
    law14_QueueTells_k10 q_2 r1 r2 y3 r4 r6 r7 r8 r9 y10 again36 v34 (decide (0 < (r2.length : Int)))
  else
    law14_QueueTells_k10 q_2 r1 r2 y3 r4 r6 r7 r8 r9 y10 again36 v34 false

def law14_QueueTells_k3 (q_2 : Law14_Ask) (r1 : Bool) (r2 : (List Api_Version)) (y3 : (List Api_Dep)) (r4 : (List Api_Range)) (r6 : (Api_Version × (List Api_Version) × Bool)) (r7 : Ref14_Got) (r8 : Bool) (r9 : Bool) (y10 : ByteArray) : Option Bool :=
  (app 80 ([] : List Api_Version) r2).bind fun l11 =>
  loopF (law14_QueueTells_l9 q_2 r1 r2 y3 r4 r6 r7 r8 r9 y10) FU (0, l11)

def law14_QueueTells_k2 (q_2 : Law14_Ask) (r1 : Bool) (r2 : (List Api_Version)) (y3 : (List Api_Dep)) (r4 : (List Api_Range)) (_y5 : Unit) : Option Bool :=
  (queue_Next r2 y3 r4).bind fun r6 =>
  (ref14_Next r2 y3 r4).bind fun r7 =>
  (ref06_Same r6.1 r7.V).bind fun r8 =>
  (ref12_Same r6.2.1 r7.L).bind fun r9 =>
  if decide (40 < (q_2.Version.Value.size : Int)) then
    (ssub q_2.Version.Value 0 40).bind fun s46 =>
    law14_QueueTells_k3 q_2 r1 r2 y3 r4 r6 r7 r8 r9 s46
  else
    law14_QueueTells_k3 q_2 r1 r2 y3 r4 r6 r7 r8 r9 q_2.Version.Value

def law14_QueueTells_l11 (q_2 : Law14_Ask) (r1 : Bool) (r2 : (List Api_Version)) (y3 : (List Api_Dep)) (r4 : (List Api_Range)) (again50 : Int → Option Bool) (v48 : Int) : Option Bool :=
  if decide (v48 < (r2.length : Int)) then
    (idx r2 v48).bind fun x53 =>
    (queue_Misses x53 y3 r4).bind fun r54 =>
    (idx r2 v48).bind fun x55 =>
    (ref14_Misses x55 y3 r4).bind fun r56 =>
    (ref04_Same r54 r56).bind fun r57 =>
    if !r57 then
      some false
    else
      (idx r2 v48).bind fun x59 =>
      (queue_Check x59 y3 r4).bind fun r60 =>
      (idx r2 v48).bind fun x61 =>
      (ref14_Check x61 y3 r4).bind fun r62 =>
      if !(r60 == r62) then
        some false
      else
        again50 (IntKind.wrap .i64 (v48 + 1))
  else
    law14_QueueTells_k2 q_2 r1 r2 y3 r4 ()

def law14_QueueTells_k1 (q_2 : Law14_Ask) (r1 : Bool) (r2 : (List Api_Version)) (y3 : (List Api_Dep)) : Option Bool :=
  (law14_ranges q_2.Ranges).bind fun r4 =>
  loopF (law14_QueueTells_l11 q_2 r1 r2 y3 r4) FU 0

def law14_QueueTells_k14 (again67 : (List Api_Dep) × Int → Option Bool) (v65 : (List Api_Dep) × Int) (x71 : Api_Dep) (y72 : ByteArray) : Option Bool :=
  (ref04_Add v65.1 (Api_Dep.mk y72 x71.Stamp)).bind fun r73 =>
  again67 (r73, IntKind.wrap .i64 (v65.2 + 1))

def law14_QueueTells_k13 (have_1 : (List Api_Dep)) (q_2 : Law14_Ask) (r1 : Bool) (r2 : (List Api_Version)) (again67 : (List Api_Dep) × Int → Option Bool) (v65 : (List Api_Dep) × Int) (y69 : Bool) : Option Bool :=
  if y69 then
    (idx have_1 v65.2).bind fun x71 =>
    if decide (12 < (x71.Key.size : Int)) then
      (ssub x71.Key 0 12).bind fun s76 =>
      law14_QueueTells_k14 again67 v65 x71 s76
    else
      law14_QueueTells_k14 again67 v65 x71 x71.Key
  else
    law14_QueueTells_k1 q_2 r1 r2 v65.1

def law14_QueueTells_l12 (have_1 : (List Api_Dep)) (q_2 : Law14_Ask) (r1 : Bool) (r2 : (List Api_Version)) (again67 : (List Api_Dep) × Int → Option Bool) (v65 : (List Api_Dep) × Int) : Option Bool :=
  if decide (v65.2 < (have_1.length : Int)) then
    law14_QueueTells_k13 have_1 q_2 r1 r2 again67 v65 (decide (v65.2 < 8))
  else
    law14_QueueTells_k13 have_1 q_2 r1 r2 again67 v65 false

def law14_QueueTells (l_0 : (List Law14_Write)) (have_1 : (List Api_Dep)) (q_2 : Law14_Ask) : Option Bool :=
  (law14_awake).bind fun r1 =>
  (law14_made l_0).bind fun r2 =>
  loopF (law14_QueueTells_l12 have_1 q_2 r1 r2) FU (([] : (List Api_Dep)), 0)
end Go.Ark
