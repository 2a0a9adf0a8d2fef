/- Typed functions, printed by a program of mine out of the translated code. -/
import Derived.Test.YtildciopogbhcaaFT
import Derived.Test.YtildciopogbhcaaFnearest
import Derived.Test.YtildciopogbhcaaFref03
import Derived.Test.YtildciopogbhcaaFref04
import Derived.Test.YtildciopogbhcaaFref05
namespace Go.Ark
open Go Go.Ab

def law05_awake_k1 (y5 : Bool) : Option Bool :=
  if y5 then
    (nearest_Closed ([(Api_Dep.mk (ByteArray.mk #[97]) (Api_Stamp.mk 1 0)), (Api_Dep.mk (ByteArray.mk #[98]) (Api_Stamp.mk 2 0))]) ([(Api_Version.mk (ByteArray.mk #[97]) ByteArray.empty false (Api_Stamp.mk 1 0) ([] : (List Api_Dep))), (Api_Version.mk (ByteArray.mk #[98]) ByteArray.empty false (Api_Stamp.mk 2 0) ([(Api_Dep.mk (ByteArray.mk #[97]) (Api_Stamp.mk 1 0))]))])).bind fun r7 =>
    if r7 then
      (nearest_Sound ([(Api_Version.mk (ByteArray.mk #[97]) ByteArray.empty false (Api_Stamp.mk 1 0) ([] : (List Api_Dep))), (Api_Version.mk (ByteArray.mk #[98]) ByteArray.empty false (Api_Stamp.mk 2 0) ([(Api_Dep.mk (ByteArray.mk #[97]) (Api_Stamp.mk 1 0))]))])).bind fun r9 =>
      some r9
    else
      some false
  else
    some false

def law05_awake : Option Bool :=
  (nearest_Reduce ([(Api_Dep.mk (ByteArray.mk #[97]) (Api_Stamp.mk 1 0)), (Api_Dep.mk (ByteArray.mk #[98]) (Api_Stamp.mk 2 0))]) ([(Api_Version.mk (ByteArray.mk #[97]) ByteArray.empty false (Api_Stamp.mk 1 0) ([] : (List Api_Dep))), (Api_Version.mk (ByteArray.mk #[98]) ByteArray.empty false (Api_Stamp.mk 2 0) ([(Api_Dep.mk (ByteArray.mk #[97]) (Api_Stamp.mk 1 0))]))])).bind fun r1 =>
  (ref04_Same r1 ([(Api_Dep.mk (ByteArray.mk #[98]) (Api_Stamp.mk 2 0))])).bind fun r2 =>
  (nearest_Expand ([(Api_Dep.mk (ByteArray.mk #[98]) (Api_Stamp.mk 2 0))]) ([(Api_Version.mk (ByteArray.mk #[97]) ByteArray.empty false (Api_Stamp.mk 1 0) ([] : (List Api_Dep))), (Api_Version.mk (ByteArray.mk #[98]) ByteArray.empty false (Api_Stamp.mk 2 0) ([(Api_Dep.mk (ByteArray.mk #[97]) (Api_Stamp.mk 1 0))]))])).bind fun r3 =>
  (ref04_Same r3 ([(Api_Dep.mk (ByteArray.mk #[97]) (Api_Stamp.mk 1 0)), (Api_Dep.mk (ByteArray.mk #[98]) (Api_Stamp.mk 2 0))])).bind fun r4 =>
  if r2 then
    law05_awake_k1 r4
  else
    law05_awake_k1 false

def law05_made_k1 (y1 : (List Api_Version)) : Option (List Api_Version) :=
  some y1

def law05_made_k4 (again5 : Int × (List Api_Version) → Option (List Api_Version)) (v3 : Int × (List Api_Version)) (y9 : (List Api_Version)) : Option (List Api_Version) :=
  again5 (IntKind.wrap .i64 (v3.1 + 1), y9)

def law05_made_k6 (l_0 : (List Law05_Write)) (again5 : Int × (List Api_Version) → Option (List Api_Version)) (v3 : Int × (List Api_Version)) (y11 : (List Api_Dep)) (y12 : Int) : Option (List Api_Version) :=
  (idx l_0 v3.1).bind fun x13 =>
  (aidx 8 ([(ByteArray.mk #[97]), (ByteArray.mk #[98]), (ByteArray.mk #[99]), (ByteArray.mk #[100]), (ByteArray.mk #[101]), (ByteArray.mk #[102]), (ByteArray.mk #[103]), (ByteArray.mk #[104])]) (IntKind.wrap .i64 (BitVec.ofInt (IntKind.bits .i64) x13.Key &&& BitVec.ofInt (IntKind.bits .i64) 7).toNat)).bind fun x14 =>
  (idx l_0 v3.1).bind fun x15 =>
  (ref05_Find v3.2 (Api_Dep.mk x14 (Api_Stamp.mk (IntKind.wrap .i64 (y12 + 1)) (IntKind.wrap .i64 (BitVec.ofInt (IntKind.bits .i64) x15.Site &&& BitVec.ofInt (IntKind.bits .i64) 3).toNat)))).bind fun r16 =>
  if !r16.2 then
    (app 80 v3.2 ([(Api_Version.mk x14 ByteArray.empty false (Api_Stamp.mk (IntKind.wrap .i64 (y12 + 1)) (IntKind.wrap .i64 (BitVec.ofInt (IntKind.bits .i64) x15.Site &&& BitVec.ofInt (IntKind.bits .i64) 3).toNat)) y11)])).bind fun l18 =>
    law05_made_k4 again5 v3 l18
  else
    law05_made_k4 again5 v3 v3.2

def law05_made_l7 (l_0 : (List Law05_Write)) (again5 : Int × (List Api_Version) → Option (List Api_Version)) (v3 : Int × (List Api_Version)) (y11 : (List Api_Dep)) (again22 : Int × Int → Option (List Api_Version)) (v20 : Int × Int) : Option (List Api_Version) :=
  if decide (v20.2 < (y11.length : Int)) then
    (idx y11 v20.2).bind fun x25 =>
    if decide (v20.1 < x25.Stamp.N) then
      (idx y11 v20.2).bind fun x27 =>
      again22 (x27.Stamp.N, IntKind.wrap .i64 (v20.2 + 1))
    else
      again22 (v20.1, IntKind.wrap .i64 (v20.2 + 1))
  else
    law05_made_k6 l_0 again5 v3 y11 v20.1

def law05_made_k5 (l_0 : (List Law05_Write)) (again5 : Int × (List Api_Version) → Option (List Api_Version)) (v3 : Int × (List Api_Version)) (y11 : (List Api_Dep)) : Option (List Api_Version) :=
  loopF (law05_made_l7 l_0 again5 v3 y11) FU (0, 0)

def law05_made_k9 (l_0 : (List Law05_Write)) (again5 : Int × (List Api_Version) → Option (List Api_Version)) (v3 : Int × (List Api_Version)) (again31 : (List Api_Dep) × Int → Option (List Api_Version)) (v29 : (List Api_Dep) × Int) (y33 : Bool) : Option (List Api_Version) :=
  if y33 then
    if decide ((v3.2.length : Int) = 0) then
      again31 (v29.1, IntKind.wrap .i64 (v29.2 + 1))
    else
      (idx l_0 v3.1).bind fun x36 =>
      (idx x36.Saw v29.2).bind fun x37 =>
      chk (!decide ((v3.2.length : Int) = 0)) (
      chk (!decide ((v3.2.length : Int) = 0)) (
      (idx v3.2 (Int.tmod (IntKind.wrap .i64 ((Int.tmod x37 (v3.2.length : Int)) + (v3.2.length : Int))) (v3.2.length : Int))).bind fun x40 =>
      (ref04_Merge ([v29.1, x40.Past, [(Api_Dep.mk x40.Key x40.Stamp)]])).bind fun r41 =>
      again31 (r41, IntKind.wrap .i64 (v29.2 + 1))))
  else
    law05_made_k5 l_0 again5 v3 v29.1

def law05_made_l8 (l_0 : (List Law05_Write)) (again5 : Int × (List Api_Version) → Option (List Api_Version)) (v3 : Int × (List Api_Version)) (again31 : (List Api_Dep) × Int → Option (List Api_Version)) (v29 : (List Api_Dep) × Int) : Option (List Api_Version) :=
  (idx l_0 v3.1).bind fun x43 =>
  if decide (v29.2 < (x43.Saw.length : Int)) then
    law05_made_k9 l_0 again5 v3 again31 v29 (decide (v29.2 < 4))
  else
    law05_made_k9 l_0 again5 v3 again31 v29 false

def law05_made_k3 (l_0 : (List Law05_Write)) (again5 : Int × (List Api_Version) → Option (List Api_Version)) (v3 : Int × (List Api_Version)) (y7 : Bool) : Option (List Api_Version) :=
  if y7 then
    loopF (law05_made_l8 l_0 again5 v3) FU (([] : (List Api_Dep)), 0)
  else
    law05_made_k1 v3.2

def law05_made_l2 (l_0 : (List Law05_Write)) (again5 : Int × (List Api_Version) → Option (List Api_Version)) (v3 : Int × (List Api_Version)) : Option (List Api_Version) :=
  if decide (v3.1 < (l_0.length : Int)) then
    law05_made_k3 l_0 again5 v3 (decide (v3.1 < 14))
  else
    law05_made_k3 l_0 again5 v3 false

def law05_made (l_0 : (List Law05_Write)) : Option (List Api_Version) :=
  loopF (law05_made_l2 l_0) FU (0, ([] : (List Api_Version)))

def law05_few_k1 (y1 : (List Api_Dep)) : Option (List Api_Dep) :=
  some y1

def law05_few_k4 (again5 : (List Api_Dep) × Int → Option (List Api_Dep)) (v3 : (List Api_Dep) × Int) (x9 : Api_Dep) (y10 : ByteArray) : Option (List Api_Dep) :=
  (ref04_Add v3.1 (Api_Dep.mk y10 x9.Stamp)).bind fun r11 =>
  again5 (r11, IntKind.wrap .i64 (v3.2 + 1))

def law05_few_k3 (l_0 : (List Api_Dep)) (again5 : (List Api_Dep) × Int → Option (List Api_Dep)) (v3 : (List Api_Dep) × Int) (y7 : Bool) : Option (List Api_Dep) :=
  if y7 then
    (idx l_0 v3.2).bind fun x9 =>
    if decide (12 < (x9.Key.size : Int)) then
      (ssub x9.Key 0 12).bind fun s14 =>
      law05_few_k4 again5 v3 x9 s14
    else
      law05_few_k4 again5 v3 x9 x9.Key
  else
    law05_few_k1 v3.1

def law05_few_l2 (l_0 : (List Api_Dep)) (again5 : (List Api_Dep) × Int → Option (List Api_Dep)) (v3 : (List Api_Dep) × Int) : Option (List Api_Dep) :=
  if decide (v3.2 < (l_0.length : Int)) then
    law05_few_k3 l_0 again5 v3 (decide (v3.2 < 6))
  else
    law05_few_k3 l_0 again5 v3 false

def law05_few (l_0 : (List Api_Dep)) : Option (List Api_Dep) :=
  loopF (law05_few_l2 l_0) FU (([] : (List Api_Dep)), 0)

def law05_all_k1 (y1 : (List Api_Dep)) : Option (List Api_Dep) :=
  some y1

def law05_all_l2 (l_0 : (List Api_Version)) (again5 : (List Api_Dep) × Int → Option (List Api_Dep)) (v3 : (List Api_Dep) × Int) : Option (List Api_Dep) :=
  if decide (v3.2 < (l_0.length : Int)) then
    (idx l_0 v3.2).bind fun x8 =>
    (idx l_0 v3.2).bind fun x9 =>
    (idx l_0 v3.2).bind fun x10 =>
    (ref04_Merge ([v3.1, x8.Past, [(Api_Dep.mk x9.Key x10.Stamp)]])).bind fun r11 =>
    again5 (r11, IntKind.wrap .i64 (v3.2 + 1))
  else
    law05_all_k1 v3.1

def law05_all (l_0 : (List Api_Version)) : Option (List Api_Dep) :=
  loopF (law05_all_l2 l_0) FU (([] : (List Api_Dep)), 0)

def law05_NearestTells_k9 (y4 : (List Api_Version)) (y6 : (List Api_Dep)) (y21 : Bool) : Option Bool :=
  if y21 then
    (nearest_Closed y6 y4).bind fun r23 =>
    (ref05_Closed y6 y4).bind fun r24 =>
    some (r23 == r24)
  else
    some false

def law05_NearestTells_k8 (y4 : (List Api_Version)) (y6 : (List Api_Dep)) (y20 : Bool) : Option Bool :=
  if y20 then
    (nearest_Sound y4).bind fun r27 =>
    (ref05_Sound y4).bind fun r28 =>
    law05_NearestTells_k9 y4 y6 (r27 == r28)
  else
    law05_NearestTells_k9 y4 y6 false

def law05_NearestTells_k7 (y4 : (List Api_Version)) (y6 : (List Api_Dep)) (r13 : (Api_Version × Bool)) (r14 : (Api_Version × Bool)) (y19 : Bool) : Option Bool :=
  if y19 then
    law05_NearestTells_k8 y4 y6 (decide (r13.1.Stamp.N = r14.1.Stamp.N) && decide (r13.1.Stamp.Site = r14.1.Stamp.Site))
  else
    law05_NearestTells_k8 y4 y6 false

def law05_NearestTells_k6 (y4 : (List Api_Version)) (y6 : (List Api_Dep)) (r13 : (Api_Version × Bool)) (r14 : (Api_Version × Bool)) (y18 : Bool) : Option Bool :=
  if y18 then
    law05_NearestTells_k7 y4 y6 r13 r14 (r13.2 == r14.2)
  else
    law05_NearestTells_k7 y4 y6 r13 r14 false

def law05_NearestTells_k5 (y4 : (List Api_Version)) (y6 : (List Api_Dep)) (r13 : (Api_Version × Bool)) (r14 : (Api_Version × Bool)) (r15 : Bool) (y17 : Bool) : Option Bool :=
  if y17 then
    law05_NearestTells_k6 y4 y6 r13 r14 r15
  else
    law05_NearestTells_k6 y4 y6 r13 r14 false

def law05_NearestTells_k4 (y4 : (List Api_Version)) (y6 : (List Api_Dep)) (r12 : Bool) (r13 : (Api_Version × Bool)) (r14 : (Api_Version × Bool)) (r15 : Bool) (y16 : Bool) : Option Bool :=
  if y16 then
    law05_NearestTells_k5 y4 y6 r13 r14 r15 r12
  else
    law05_NearestTells_k5 y4 y6 r13 r14 r15 false

def law05_NearestTells_k3 (q_1 : Law05_Change) (r1 : Bool) (y4 : (List Api_Version)) (y6 : (List Api_Dep)) : Option Bool :=
  (nearest_Reduce y6 y4).bind fun r7 =>
  (ref05_Reduce y6 y4).bind fun r8 =>
  (ref04_Same r7 r8).bind fun r9 =>
  (nearest_Expand y6 y4).bind fun r10 =>
  (ref05_Expand y6 y4).bind fun r11 =>
  (ref04_Same r10 r11).bind fun r12 =>
  (nearest_Find y4 q_1.Dep).bind fun r13 =>
  (ref05_Find y4 q_1.Dep).bind fun r14 =>
  (ref04_Same r13.1.Past r14.1.Past).bind fun r15 =>
  if r1 then
    law05_NearestTells_k4 y4 y6 r12 r13 r14 r15 r9
  else
    law05_NearestTells_k4 y4 y6 r12 r13 r14 r15 false

def law05_NearestTells_k2 (q_1 : Law05_Change) (m_2 : (List Api_Dep)) (r1 : Bool) (y4 : (List Api_Version)) : Option Bool :=
  (law05_few m_2).bind fun r5 =>
  if q_1.All then
    (law05_all y4).bind fun r41 =>
    law05_NearestTells_k3 q_1 r1 y4 r41
  else
    law05_NearestTells_k3 q_1 r1 y4 r5

def law05_NearestTells_k10 (q_1 : Law05_Change) (m_2 : (List Api_Dep)) (r1 : Bool) (r2 : (List Api_Version)) (x46 : Api_Version) (y47 : ByteArray × Int × Int × (List Api_Dep)) : Option Bool :=
  (sets r2 (Int.tmod (IntKind.wrap .i64 ((Int.tmod q_1.At (r2.length : Int)) + (r2.length : Int))) (r2.length : Int)) (Api_Version.mk y47.1 x46.Value x46.Gone (Api_Stamp.mk y47.2.1 y47.2.2.1) y47.2.2.2)).bind fun l48 =>
  law05_NearestTells_k2 q_1 m_2 r1 l48

def law05_NearestTells_k1 (q_1 : Law05_Change) (m_2 : (List Api_Dep)) (r1 : Bool) (r2 : (List Api_Version)) (y3 : Bool) : Option Bool :=
  if y3 then
    chk (!decide ((r2.length : Int) = 0)) (
    chk (!decide ((r2.length : Int) = 0)) (
    (idx r2 (Int.tmod (IntKind.wrap .i64 ((Int.tmod q_1.At (r2.length : Int)) + (r2.length : Int))) (r2.length : Int))).bind fun x46 =>
    if decide ((IntKind.wrap .i64 (BitVec.ofInt (IntKind.bits .i64) q_1.What &&& BitVec.ofInt (IntKind.bits .i64) 3).toNat) = 1) then
      law05_NearestTells_k10 q_1 m_2 r1 r2 x46 (x46.Key, q_1.Dep.Stamp.N, q_1.Dep.Stamp.Site, x46.Past)
    else
      if decide ((IntKind.wrap .i64 (BitVec.ofInt (IntKind.bits .i64) q_1.What &&& BitVec.ofInt (IntKind.bits .i64) 3).toNat) = 2) then
        (law05_few ([q_1.Dep])).bind fun r52 =>
        law05_NearestTells_k10 q_1 m_2 r1 r2 x46 (x46.Key, x46.Stamp.N, x46.Stamp.Site, r52)
      else
        law05_NearestTells_k10 q_1 m_2 r1 r2 x46 (q_1.Dep.Key, x46.Stamp.N, x46.Stamp.Site, x46.Past)))
  else
    law05_NearestTells_k2 q_1 m_2 r1 r2

def law05_NearestTells (l_0 : (List Law05_Write)) (q_1 : Law05_Change) (m_2 : (List Api_Dep)) : Option Bool :=
  (law05_awake).bind fun r1 =>
  (law05_made l_0).bind fun r2 =>
  if decide (0 < (r2.length : Int)) then
    law05_NearestTells_k1 q_1 m_2 r1 r2 (!decide ((IntKind.wrap .i64 (BitVec.ofInt (IntKind.bits .i64) q_1.What &&& BitVec.ofInt (IntKind.bits .i64) 3).toNat) = 0))
  else
    law05_NearestTells_k1 q_1 m_2 r1 r2 false

def law05_NearestBack_k1 (r1 : Bool) (_y5 : Unit) : Option Bool :=
  some r1

def law05_NearestBack_k4 (again9 : Int → Option Bool) (v7 : Int) (y13 : (List Api_Dep)) (r16 : (List Api_Dep)) (y19 : Bool) : Option Bool :=
  if y19 then
    some false
  else
    if decide (0 < (y13.length : Int)) then
      if decide ((r16.length : Int) = 0) then
        some false
      else
        again9 (IntKind.wrap .i64 (v7 + 1))
    else
      again9 (IntKind.wrap .i64 (v7 + 1))

def law05_NearestBack_k3 (r2 : (List Api_Version)) (again9 : Int → Option Bool) (v7 : Int) (y13 : (List Api_Dep)) : Option Bool :=
  (nearest_Closed y13 r2).bind fun r14 =>
  if !r14 then
    again9 (IntKind.wrap .i64 (v7 + 1))
  else
    (nearest_Reduce y13 r2).bind fun r16 =>
    (nearest_Expand r16 r2).bind fun r17 =>
    (ref04_Same r17 y13).bind fun r18 =>
    if !r18 then
      law05_NearestBack_k4 again9 v7 y13 r16 true
    else
      law05_NearestBack_k4 again9 v7 y13 r16 (decide ((y13.length : Int) < (r16.length : Int)))

def law05_NearestBack_l2 (r1 : Bool) (r2 : (List Api_Version)) (again9 : Int → Option Bool) (v7 : Int) : Option Bool :=
  if decide (v7 < (r2.length : Int)) then
    (law05_all r2).bind fun r12 =>
    if decide (0 ≤ v7) then
      (idx r2 v7).bind fun x27 =>
      law05_NearestBack_k3 r2 again9 v7 x27.Past
    else
      law05_NearestBack_k3 r2 again9 v7 r12
  else
    law05_NearestBack_k1 r1 ()

def law05_NearestBack (l_0 : (List Law05_Write)) : Option Bool :=
  (law05_awake).bind fun r1 =>
  (law05_made l_0).bind fun r2 =>
  (nearest_Sound r2).bind fun r3 =>
  if !r3 then
    some false
  else
    loopF (law05_NearestBack_l2 r1 r2) FU (-1)

def law05_NearestLeft_k2 (r1 : Bool) (_y6 : Unit) : Option Bool :=
  some r1

def law05_NearestLeft_k4 (again10 : Int → Option Bool) (v8 : Int) (_y13 : Unit) : Option Bool :=
  again10 (IntKind.wrap .i64 (v8 + 1))

def law05_NearestLeft_k5 (again10 : Int → Option Bool) (v8 : Int) (r16 : Api_Stamp) (x17 : Api_Dep) (y18 : Bool) : Option Bool :=
  if (decide (r16.N = x17.Stamp.N) && decide (r16.Site = x17.Stamp.Site)) == y18 then
    some false
  else
    law05_NearestLeft_k4 again10 v8 ()

def law05_NearestLeft_l6 (r2 : (List Api_Version)) (r3 : (List Api_Dep)) (again10 : Int → Option Bool) (v8 : Int) (r16 : Api_Stamp) (x17 : Api_Dep) (again23 : Bool × Int → Option Bool) (v21 : Bool × Int) : Option Bool :=
  if decide (v21.2 < (r3.length : Int)) then
    (idx r3 v21.2).bind fun x26 =>
    (nearest_Find r2 x26).bind fun r27 =>
    (idx r3 v8).bind fun x28 =>
    (ref04_Get r27.1.Past x28.Key).bind fun r29 =>
    if !decide (v21.2 = v8) then
      if r27.2 then
        (idx r3 v8).bind fun x32 =>
        (ref03_Less r29 x32.Stamp).bind fun r33 =>
        if !r33 then
          again23 (true, IntKind.wrap .i64 (v21.2 + 1))
        else
          again23 (v21.1, IntKind.wrap .i64 (v21.2 + 1))
      else
        again23 (v21.1, IntKind.wrap .i64 (v21.2 + 1))
    else
      again23 (v21.1, IntKind.wrap .i64 (v21.2 + 1))
  else
    law05_NearestLeft_k5 again10 v8 r16 x17 v21.1

def law05_NearestLeft_l3 (r1 : Bool) (r2 : (List Api_Version)) (r3 : (List Api_Dep)) (r4 : (List Api_Dep)) (again10 : Int → Option Bool) (v8 : Int) : Option Bool :=
  if decide (v8 < (r3.length : Int)) then
    (idx r3 v8).bind fun x15 =>
    (ref04_Get r4 x15.Key).bind fun r16 =>
    (idx r3 v8).bind fun x17 =>
    loopF (law05_NearestLeft_l6 r2 r3 again10 v8 r16 x17) FU (false, 0)
  else
    law05_NearestLeft_k2 r1 ()

def law05_NearestLeft_k1 (r1 : Bool) (r2 : (List Api_Version)) (r3 : (List Api_Dep)) (r4 : (List Api_Dep)) (_y5 : Unit) : Option Bool :=
  loopF (law05_NearestLeft_l3 r1 r2 r3 r4) FU 0

def law05_NearestLeft_k8 (again38 : Int → Option Bool) (v36 : Int) (_y41 : Unit) : Option Bool :=
  again38 (IntKind.wrap .i64 (v36 + 1))

def law05_NearestLeft_k9 (again38 : Int → Option Bool) (v36 : Int) (_y45 : Unit) : Option Bool :=
  law05_NearestLeft_k8 again38 v36 ()

def law05_NearestLeft_l10 (r4 : (List Api_Dep)) (again38 : Int → Option Bool) (v36 : Int) (r44 : (Api_Version × Bool)) (again49 : Bool × Int → Option Bool) (v47 : Bool × Int) : Option Bool :=
  if decide (v47.2 < (r4.length : Int)) then
    (idx r4 v47.2).bind fun x52 =>
    (ref04_Get r44.1.Past x52.Key).bind fun r53 =>
    if v47.1 then
      if !decide (v47.2 = v36) then
        (idx r4 v47.2).bind fun x56 =>
        (ref03_Less r53 x56.Stamp).bind fun r57 =>
        if !r57 then
          some false
        else
          again49 (true, IntKind.wrap .i64 (v47.2 + 1))
      else
        again49 (true, IntKind.wrap .i64 (v47.2 + 1))
    else
      again49 (false, IntKind.wrap .i64 (v47.2 + 1))
  else
    law05_NearestLeft_k9 again38 v36 ()

def law05_NearestLeft_l7 (r1 : Bool) (r2 : (List Api_Version)) (r3 : (List Api_Dep)) (r4 : (List Api_Dep)) (again38 : Int → Option Bool) (v36 : Int) : Option Bool :=
  if decide (v36 < (r4.length : Int)) then
    (idx r4 v36).bind fun x43 =>
    (nearest_Find r2 x43).bind fun r44 =>
    loopF (law05_NearestLeft_l10 r4 again38 v36 r44) FU (r44.2, 0)
  else
    law05_NearestLeft_k1 r1 r2 r3 r4 ()

def law05_NearestLeft (l_0 : (List Law05_Write)) : Option Bool :=
  (law05_awake).bind fun r1 =>
  (law05_made l_0).bind fun r2 =>
  (law05_all r2).bind fun r3 =>
  (nearest_Reduce r3 r2).bind fun r4 =>
  loopF (law05_NearestLeft_l7 r1 r2 r3 r4) FU 0

def law05_NearestRow_k1 (n_0 : Int) (r1 : Bool) (y2 : (List Law05_Write)) : Option Bool :=
  (law05_made y2).bind fun r3 =>
  (law05_all r3).bind fun r4 =>
  (nearest_Reduce r4 r3).bind fun r5 =>
  if r1 then
    if decide ((r3.length : Int) = (IntKind.wrap .i64 (1 + (IntKind.wrap .i64 (BitVec.ofInt (IntKind.bits .i64) n_0 &&& BitVec.ofInt (IntKind.bits .i64) 7).toNat)))) then
      if decide ((r4.length : Int) = (IntKind.wrap .i64 (1 + (IntKind.wrap .i64 (BitVec.ofInt (IntKind.bits .i64) n_0 &&& BitVec.ofInt (IntKind.bits .i64) 7).toNat)))) then
        if decide ((r5.length : Int) = 1) then
          (idx r5 0).bind fun x10 =>
          (idx r3 (IntKind.wrap .i64 ((IntKind.wrap .i64 (1 + (IntKind.wrap .i64 (BitVec.ofInt (IntKind.bits .i64) n_0 &&& BitVec.ofInt (IntKind.bits .i64) 7).toNat))) - 1))).bind fun x11 =>
          if seq x10.Key x11.Key then
            (nearest_Closed r4 r3).bind fun r13 =>
            some r13
          else
            some false
        else
          some false
      else
        some false
    else
      some false
  else
    some false

def law05_NearestRow_k3 (again17 : Int × (List Law05_Write) → Option Bool) (v15 : Int × (List Law05_Write)) (y20 : (List Int)) : Option Bool :=
  (app 40 v15.2 ([(Law05_Write.mk v15.1 0 y20)])).bind fun l21 =>
  again17 (IntKind.wrap .i64 (v15.1 + 1), l21)

def law05_NearestRow_l2 (n_0 : Int) (r1 : Bool) (again17 : Int × (List Law05_Write) → Option Bool) (v15 : Int × (List Law05_Write)) : Option Bool :=
  if decide (v15.1 < (IntKind.wrap .i64 (1 + (IntKind.wrap .i64 (BitVec.ofInt (IntKind.bits .i64) n_0 &&& BitVec.ofInt (IntKind.bits .i64) 7).toNat)))) then
    if decide (0 < v15.1) then
      law05_NearestRow_k3 again17 v15 ([IntKind.wrap .i64 (v15.1 - 1)])
    else
      law05_NearestRow_k3 again17 v15 ([] : (List Int))
  else
    law05_NearestRow_k1 n_0 r1 v15.2

def law05_NearestRow (n_0 : Int) : Option Bool :=
  (law05_awake).bind fun r1 =>
  loopF (law05_NearestRow_l2 n_0 r1) FU (0, ([] : (List Law05_Write)))

def law05_NearestExpands_k3 (r2 : (List Api_Version)) (y12 : Bool) : Option Bool :=
  if y12 then
    (nearest_Reduce ([] : (List Api_Dep)) r2).bind fun r14 =>
    some (decide ((r14.length : Int) = 0))
  else
    some false

def law05_NearestExpands_k2 (r2 : (List Api_Version)) (r9 : Bool) (y11 : Bool) : Option Bool :=
  if y11 then
    law05_NearestExpands_k3 r2 r9
  else
    law05_NearestExpands_k3 r2 false

def law05_NearestExpands_k1 (r2 : (List Api_Version)) (r7 : Bool) (r9 : Bool) (y10 : Bool) : Option Bool :=
  if y10 then
    law05_NearestExpands_k2 r2 r9 r7
  else
    law05_NearestExpands_k2 r2 r9 false

def law05_NearestExpands (l_0 : (List Law05_Write)) (m_1 : (List Api_Dep)) : Option Bool :=
  (law05_awake).bind fun r1 =>
  (law05_made l_0).bind fun r2 =>
  (law05_few m_1).bind fun r3 =>
  (nearest_Expand r3 r2).bind fun r4 =>
  (ref04_Covers r4 r3).bind fun r5 =>
  (law05_all r2).bind fun r6 =>
  (nearest_Closed r6 r2).bind fun r7 =>
  (nearest_Expand r6 r2).bind fun r8 =>
  (ref04_Same r8 r6).bind fun r9 =>
  if r1 then
    law05_NearestExpands_k1 r2 r7 r9 r5
  else
    law05_NearestExpands_k1 r2 r7 r9 false

def law05_NearestOwn_k1 (r1 : Bool) (_y3 : Unit) : Option Bool :=
  some r1

def law05_NearestOwn_l2 (r1 : Bool) (r2 : (List Api_Version)) (again7 : Int → Option Bool) (v5 : Int) : Option Bool :=
  if decide (v5 < (r2.length : Int)) then
    (idx r2 v5).bind fun x10 =>
    (idx r2 v5).bind fun x11 =>
    (idx r2 v5).bind fun x12 =>
    (ref04_Merge ([x12.Past, [(Api_Dep.mk x10.Key x11.Stamp)]])).bind fun r13 =>
    (nearest_Reduce r13 r2).bind fun r14 =>
    if !decide ((r14.length : Int) = 1) then
      some false
    else
      (idx r14 0).bind fun x16 =>
      if !(decide (x16.Key = x10.Key) && decide (x16.Stamp.N = x11.Stamp.N) && decide (x16.Stamp.Site = x11.Stamp.Site)) then
        some false
      else
        (nearest_Closed r13 r2).bind fun r18 =>
        if !r18 then
          some false
        else
          again7 (IntKind.wrap .i64 (v5 + 1))
  else
    law05_NearestOwn_k1 r1 ()

def law05_NearestOwn (l_0 : (List Law05_Write)) : Option Bool :=
  (law05_awake).bind fun r1 =>
  (law05_made l_0).bind fun r2 =>
  loopF (law05_NearestOwn_l2 r1 r2) FU 0
end Go.Ark
