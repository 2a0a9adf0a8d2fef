/- Typed functions, printed by a program of mine out of the translated code. -/
import Derived.Test.YtdngcojjipaajaaFT
import Derived.Test.YtdngcojjipaajaaFhistory
import Derived.Test.YtdngcojjipaajaaFref03
import Derived.Test.YtdngcojjipaajaaFref04
import Derived.Test.YtdngcojjipaajaaFref20
namespace Go.Ark
open Go Go.Ab

def law20_awake : Option Bool :=
  (history_Check ([(Api_Event.mk 1 0 (ByteArray.mk #[97]) (Api_Stamp.mk 1 0) ([] : (List Api_Dep))), (Api_Event.mk 2 1 (ByteArray.mk #[97]) (Api_Stamp.mk 1 0) ([(Api_Dep.mk (ByteArray.mk #[97]) (Api_Stamp.mk 2 0))]))])).bind fun r1 =>
  if decide (r1 = 1) then
    (sub ([(Api_Event.mk 1 0 (ByteArray.mk #[97]) (Api_Stamp.mk 1 0) ([] : (List Api_Dep))), (Api_Event.mk 2 1 (ByteArray.mk #[97]) (Api_Stamp.mk 1 0) ([(Api_Dep.mk (ByteArray.mk #[97]) (Api_Stamp.mk 2 0))]))]) 0 1).bind fun l3 =>
    (history_Check l3).bind fun r4 =>
    some (decide (r4 = (-1)))
  else
    some false

def law20_made_k1 (y1 : (List Api_Event)) : Option (List Api_Event) :=
  some y1

def law20_made_k4 (again5 : Int × (List (List Api_Dep)) × (List Api_Event) → Option (List Api_Event)) (v3 : Int × (List (List Api_Dep)) × (List Api_Event)) (y9 : (List (List Api_Dep)) × (List Api_Event)) : Option (List Api_Event) :=
  again5 (IntKind.wrap .i64 (v3.1 + 1), y9.1, y9.2)

def law20_made_k7 (again5 : Int × (List (List Api_Dep)) × (List Api_Event) → Option (List Api_Event)) (v3 : Int × (List (List Api_Dep)) × (List Api_Event)) (x11 : Law20_Act) (x13 : ByteArray) (y15 : (List Api_Dep) × Int × Int × Int) (r19 : (List Api_Dep)) (y20 : Bool) : Option (List Api_Event) :=
  if y20 then
    law20_made_k4 again5 v3 (v3.2.1, v3.2.2)
  else
    (app 72 v3.2.2 ([(Api_Event.mk y15.2.1 (IntKind.wrap .i64 (BitVec.ofInt (IntKind.bits .i64) x11.Client &&& BitVec.ofInt (IntKind.bits .i64) 3).toNat) x13 (Api_Stamp.mk y15.2.2.1 y15.2.2.2) r19)])).bind fun l22 =>
    (ref20_Behind l22 (IntKind.wrap .i64 ((l22.length : Int) - 1))).bind fun r23 =>
    (aidx 4 v3.2.1 (IntKind.wrap .i64 (BitVec.ofInt (IntKind.bits .i64) x11.Client &&& BitVec.ofInt (IntKind.bits .i64) 3).toNat)).bind fun _x24 =>
    (asets 4 v3.2.1 (IntKind.wrap .i64 (BitVec.ofInt (IntKind.bits .i64) x11.Client &&& BitVec.ofInt (IntKind.bits .i64) 3).toNat) r23).bind fun a25 =>
    law20_made_k4 again5 v3 (a25, l22)

def law20_made_k6 (again5 : Int × (List (List Api_Dep)) × (List Api_Event) → Option (List Api_Event)) (v3 : Int × (List (List Api_Dep)) × (List Api_Event)) (x11 : Law20_Act) (x13 : ByteArray) (y15 : (List Api_Dep) × Int × Int × Int) (y16 : Bool) : Option (List Api_Event) :=
  if y16 then
    (aidx 4 v3.2.1 (IntKind.wrap .i64 (BitVec.ofInt (IntKind.bits .i64) x11.Client &&& BitVec.ofInt (IntKind.bits .i64) 3).toNat)).bind fun x18 =>
    (ref04_Merge ([x18, y15.1])).bind fun r19 =>
    if decide (y15.2.1 = 2) then
      (ref04_Get r19 x13).bind fun r28 =>
      (ref03_Less (Api_Stamp.mk y15.2.2.1 y15.2.2.2) r28).bind fun r29 =>
      law20_made_k7 again5 v3 x11 x13 y15 r19 r29
    else
      law20_made_k7 again5 v3 x11 x13 y15 r19 false
  else
    law20_made_k4 again5 v3 (v3.2.1, v3.2.2)

def law20_made_k5 (l_0 : (List Law20_Act)) (again5 : Int × (List (List Api_Dep)) × (List Api_Event) → Option (List Api_Event)) (v3 : Int × (List (List Api_Dep)) × (List Api_Event)) (x11 : Law20_Act) (x13 : ByteArray) (y15 : (List Api_Dep) × Int × Int × Int) : Option (List Api_Event) :=
  (idx l_0 v3.1).bind fun x31 =>
  if x31.Write then
    law20_made_k6 again5 v3 x11 x13 y15 true
  else
    (ref04_Get y15.1 x13).bind fun r33 =>
    law20_made_k6 again5 v3 x11 x13 y15 (decide (r33.N ≤ y15.2.2.1))

def law20_made_k8 (l_0 : (List Law20_Act)) (again5 : Int × (List (List Api_Dep)) × (List Api_Event) → Option (List Api_Event)) (v3 : Int × (List (List Api_Dep)) × (List Api_Event)) (x11 : Law20_Act) (x13 : ByteArray) (y36 : Int) : Option (List Api_Event) :=
  law20_made_k5 l_0 again5 v3 x11 x13 (([] : (List Api_Dep)), 1, IntKind.wrap .i64 ((IntKind.wrap .i64 (y36 + 1)) + v3.1), IntKind.wrap .i64 (BitVec.ofInt (IntKind.bits .i64) x11.Client &&& BitVec.ofInt (IntKind.bits .i64) 3).toNat)

def law20_made_l9 (l_0 : (List Law20_Act)) (again5 : Int × (List (List Api_Dep)) × (List Api_Event) → Option (List Api_Event)) (v3 : Int × (List (List Api_Dep)) × (List Api_Event)) (x11 : Law20_Act) (x13 : ByteArray) (again40 : Int × Int → Option (List Api_Event)) (v38 : Int × Int) : Option (List Api_Event) :=
  (aidx 4 v3.2.1 (IntKind.wrap .i64 (BitVec.ofInt (IntKind.bits .i64) x11.Client &&& BitVec.ofInt (IntKind.bits .i64) 3).toNat)).bind fun x42 =>
  if decide (v38.1 < (x42.length : Int)) then
    (aidx 4 v3.2.1 (IntKind.wrap .i64 (BitVec.ofInt (IntKind.bits .i64) x11.Client &&& BitVec.ofInt (IntKind.bits .i64) 3).toNat)).bind fun x44 =>
    (idx x44 v38.1).bind fun x45 =>
    again40 (IntKind.wrap .i64 (v38.1 + 1), if x45.Stamp.N > v38.2 then x45.Stamp.N else v38.2)
  else
    law20_made_k8 l_0 again5 v3 x11 x13 v38.2

def law20_made_k12 (v3 : Int × (List (List Api_Dep)) × (List Api_Event)) (again50 : (List Api_Dep) × Int × Int × Int × Int → Option (List Api_Event)) (v48 : (List Api_Dep) × Int × Int × Int × Int) (y55 : Bool) : Option (List Api_Event) :=
  if y55 then
    (idx v3.2.2 v48.2.2.1).bind fun x57 =>
    (idx v3.2.2 v48.2.2.1).bind fun x58 =>
    again50 (x58.Seen, IntKind.wrap .i64 (v48.2.1 + 1), IntKind.wrap .i64 (v48.2.2.1 + 1), x57.Stamp.N, x57.Stamp.Site)
  else
    again50 (v48.1, IntKind.wrap .i64 (v48.2.1 + 1), IntKind.wrap .i64 (v48.2.2.1 + 1), v48.2.2.2.1, v48.2.2.2.2)

def law20_made_k11 (l_0 : (List Law20_Act)) (v3 : Int × (List (List Api_Dep)) × (List Api_Event)) (again50 : (List Api_Dep) × Int × Int × Int × Int → Option (List Api_Event)) (v48 : (List Api_Dep) × Int × Int × Int × Int) (y53 : Bool) : Option (List Api_Event) :=
  if y53 then
    if decide ((IntKind.wrap .i64 (v48.2.1 + 1)) = 1) then
      law20_made_k12 v3 again50 v48 true
    else
      (idx l_0 v3.1).bind fun x61 =>
      law20_made_k12 v3 again50 v48 (decide ((IntKind.wrap .i64 (BitVec.ofInt (IntKind.bits .i64) x61.Which &&& BitVec.ofInt (IntKind.bits .i64) 1).toNat) = 1))
  else
    again50 (v48.1, v48.2.1, IntKind.wrap .i64 (v48.2.2.1 + 1), v48.2.2.2.1, v48.2.2.2.2)

def law20_made_l10 (l_0 : (List Law20_Act)) (again5 : Int × (List (List Api_Dep)) × (List Api_Event) → Option (List Api_Event)) (v3 : Int × (List (List Api_Dep)) × (List Api_Event)) (x11 : Law20_Act) (x13 : ByteArray) (r47 : Api_Stamp) (again50 : (List Api_Dep) × Int × Int × Int × Int → Option (List Api_Event)) (v48 : (List Api_Dep) × Int × Int × Int × Int) : Option (List Api_Event) :=
  if decide (v48.2.2.1 < (v3.2.2.length : Int)) then
    (idx v3.2.2 v48.2.2.1).bind fun x63 =>
    if decide (x63.Kind = 1) then
      (idx v3.2.2 v48.2.2.1).bind fun x65 =>
      if seq x65.Key x13 then
        (idx v3.2.2 v48.2.2.1).bind fun x67 =>
        (ref03_Less x67.Stamp r47).bind fun r68 =>
        law20_made_k11 l_0 v3 again50 v48 (!r68)
      else
        law20_made_k11 l_0 v3 again50 v48 false
    else
      law20_made_k11 l_0 v3 again50 v48 false
  else
    law20_made_k5 l_0 again5 v3 x11 x13 (v48.1, 2, v48.2.2.2.1, v48.2.2.2.2)

def law20_made_k3 (l_0 : (List Law20_Act)) (again5 : Int × (List (List Api_Dep)) × (List Api_Event) → Option (List Api_Event)) (v3 : Int × (List (List Api_Dep)) × (List Api_Event)) (y7 : Bool) : Option (List Api_Event) :=
  if y7 then
    (idx l_0 v3.1).bind fun x11 =>
    (idx l_0 v3.1).bind fun x12 =>
    (aidx 4 ([(ByteArray.mk #[97]), (ByteArray.mk #[98]), (ByteArray.mk #[99]), (ByteArray.mk #[100])]) (IntKind.wrap .i64 (BitVec.ofInt (IntKind.bits .i64) x12.Key &&& BitVec.ofInt (IntKind.bits .i64) 3).toNat)).bind fun x13 =>
    (idx l_0 v3.1).bind fun x14 =>
    if x14.Write then
      loopF (law20_made_l9 l_0 again5 v3 x11 x13) FU (0, 0)
    else
      (aidx 4 v3.2.1 (IntKind.wrap .i64 (BitVec.ofInt (IntKind.bits .i64) x11.Client &&& BitVec.ofInt (IntKind.bits .i64) 3).toNat)).bind fun x46 =>
      (ref04_Get x46 x13).bind fun r47 =>
      loopF (law20_made_l10 l_0 again5 v3 x11 x13 r47) FU (([] : (List Api_Dep)), 0, 0, 0, 0)
  else
    law20_made_k1 v3.2.2

def law20_made_l2 (l_0 : (List Law20_Act)) (again5 : Int × (List (List Api_Dep)) × (List Api_Event) → Option (List Api_Event)) (v3 : Int × (List (List Api_Dep)) × (List Api_Event)) : Option (List Api_Event) :=
  if decide (v3.1 < (l_0.length : Int)) then
    law20_made_k3 l_0 again5 v3 (decide (v3.1 < 16))
  else
    law20_made_k3 l_0 again5 v3 false

def law20_made (l_0 : (List Law20_Act)) : Option (List Api_Event) :=
  loopF (law20_made_l2 l_0) FU (0, List.replicate 4 ([] : (List Api_Dep)), ([] : (List Api_Event)))

def law20_HistoryStale_k2 (l17 : (List Api_Event)) (y19 : Bool) : Option Bool :=
  if y19 then
    (history_Check l17).bind fun r21 =>
    some (decide (r21 = (-1)))
  else
    some false

def law20_HistoryStale_k1 (at_1 : Int) (r2 : (List Api_Event)) (l15 : (List Api_Event)) (l17 : (List Api_Event)) (y18 : Bool) : Option Bool :=
  if y18 then
    (history_Check l15).bind fun r24 =>
    law20_HistoryStale_k2 l17 (decide (r24 = (IntKind.wrap .i64 ((Int.tmod (IntKind.wrap .i64 ((Int.tmod at_1 (r2.length : Int)) + (r2.length : Int))) (r2.length : Int)) + 1))))
  else
    law20_HistoryStale_k2 l17 false

def law20_HistoryStale (l_0 : (List Law20_Act)) (at_1 : Int) : Option Bool :=
  (law20_awake).bind fun r1 =>
  (law20_made l_0).bind fun r2 =>
  if decide ((r2.length : Int) = 0) then
    some r1
  else
    chk (!decide ((r2.length : Int) = 0)) (
    chk (!decide ((r2.length : Int) = 0)) (
    (idx r2 (Int.tmod (IntKind.wrap .i64 ((Int.tmod at_1 (r2.length : Int)) + (r2.length : Int))) (r2.length : Int))).bind fun x6 =>
    (history_Behind r2 (Int.tmod (IntKind.wrap .i64 ((Int.tmod at_1 (r2.length : Int)) + (r2.length : Int))) (r2.length : Int))).bind fun r7 =>
    (ref04_Get r7 x6.Key).bind fun r8 =>
    if decide (r8.N = 0) then
      some r1
    else
      (sub r2 0 (IntKind.wrap .i64 ((Int.tmod (IntKind.wrap .i64 ((Int.tmod at_1 (r2.length : Int)) + (r2.length : Int))) (r2.length : Int)) + 1))).bind fun l10 =>
      (app 72 ([] : (List Api_Event)) l10).bind fun l11 =>
      (app 72 ([] : (List Api_Event)) l11).bind fun l12 =>
      (app 72 l12 ([(Api_Event.mk 2 x6.Client x6.Key (Api_Stamp.mk 0 0) r7)])).bind fun l13 =>
      (app 72 ([] : (List Api_Event)) l11).bind fun l14 =>
      (app 72 l14 ([(Api_Event.mk 2 x6.Client x6.Key (Api_Stamp.mk 1099511627776 5) r7)])).bind fun l15 =>
      (app 72 ([] : (List Api_Event)) l11).bind fun l16 =>
      (app 72 l16 ([(Api_Event.mk 2 x6.Client x6.Key r8 r7)])).bind fun l17 =>
      if r1 then
        (history_Check l13).bind fun r27 =>
        law20_HistoryStale_k1 at_1 r2 l15 l17 (decide (r27 = (IntKind.wrap .i64 ((Int.tmod (IntKind.wrap .i64 ((Int.tmod at_1 (r2.length : Int)) + (r2.length : Int))) (r2.length : Int)) + 1))))
      else
        law20_HistoryStale_k1 at_1 r2 l15 l17 false))

def law20_HistoryWrites_k2 (r1 : Bool) (y3 : Int) (y4 : Int) : Option Bool :=
  if r1 then
    some (decide (y3 = y4))
  else
    some false

def law20_HistoryWrites_l3 (r1 : Bool) (r2 : (List Api_Event)) (y3 : Int) (again9 : Int × Int → Option Bool) (v7 : Int × Int) : Option Bool :=
  if decide (v7.2 < (r2.length : Int)) then
    (idx r2 v7.2).bind fun x12 =>
    if decide (x12.Kind = 1) then
      again9 (IntKind.wrap .i64 (v7.1 + 1), IntKind.wrap .i64 (v7.2 + 1))
    else
      again9 (v7.1, IntKind.wrap .i64 (v7.2 + 1))
  else
    law20_HistoryWrites_k2 r1 y3 v7.1

def law20_HistoryWrites_k1 (r1 : Bool) (r2 : (List Api_Event)) (y3 : Int) : Option Bool :=
  loopF (law20_HistoryWrites_l3 r1 r2 y3) FU (0, 0)

def law20_HistoryWrites_k5 (again17 : Int × Int → Option Bool) (v15 : Int × Int) (y20 : Int) : Option Bool :=
  again17 (y20, IntKind.wrap .i64 (v15.2 + 1))

def law20_HistoryWrites_k7 (again17 : Int × Int → Option Bool) (v15 : Int × Int) (r23 : (List Api_Stamp)) (y27 : Bool) : Option Bool :=
  if !y27 then
    some false
  else
    law20_HistoryWrites_k5 again17 v15 (IntKind.wrap .i64 (v15.1 + (r23.length : Int)))

def law20_HistoryWrites_l8 (again17 : Int × Int → Option Bool) (v15 : Int × Int) (r23 : (List Api_Stamp)) (r25 : Api_Stamp) (again32 : Bool × Int → Option Bool) (v30 : Bool × Int) : Option Bool :=
  if decide (v30.2 < (r23.length : Int)) then
    (idx r23 v30.2).bind fun x35 =>
    (ref03_Less r25 x35).bind fun r36 =>
    if r36 then
      some false
    else
      if v30.1 then
        again32 (true, IntKind.wrap .i64 (v30.2 + 1))
      else
        (idx r23 v30.2).bind fun x39 =>
        again32 ((decide (x39.N = r25.N) && decide (x39.Site = r25.Site)), IntKind.wrap .i64 (v30.2 + 1))
  else
    law20_HistoryWrites_k7 again17 v15 r23 v30.1

def law20_HistoryWrites_k6 (again17 : Int × Int → Option Bool) (v15 : Int × Int) (r23 : (List Api_Stamp)) (r25 : Api_Stamp) (y26 : Bool) : Option Bool :=
  loopF (law20_HistoryWrites_l8 again17 v15 r23 r25) FU (y26, 0)

def law20_HistoryWrites_l4 (r1 : Bool) (r2 : (List Api_Event)) (again17 : Int × Int → Option Bool) (v15 : Int × Int) : Option Bool :=
  if decide (v15.2 < 4) then
    (aidx 4 ([(ByteArray.mk #[97]), (ByteArray.mk #[98]), (ByteArray.mk #[99]), (ByteArray.mk #[100])]) v15.2).bind fun x22 =>
    (history_Writes r2 x22).bind fun r23 =>
    (aidx 4 ([(ByteArray.mk #[97]), (ByteArray.mk #[98]), (ByteArray.mk #[99]), (ByteArray.mk #[100])]) v15.2).bind fun x24 =>
    (history_Greatest r2 x24).bind fun r25 =>
    if decide ((r23.length : Int) = 0) then
      law20_HistoryWrites_k6 again17 v15 r23 r25 (decide (r25.N = 0))
    else
      law20_HistoryWrites_k6 again17 v15 r23 r25 false
  else
    law20_HistoryWrites_k1 r1 r2 v15.1

def law20_HistoryWrites (l_0 : (List Law20_Act)) : Option Bool :=
  (law20_awake).bind fun r1 =>
  (law20_made l_0).bind fun r2 =>
  loopF (law20_HistoryWrites_l4 r1 r2) FU (0, 0)

def law20_HistoryRight_k2 (r1 : Bool) (_y6 : Unit) : Option Bool :=
  some r1

def law20_HistoryRight_l3 (r1 : Bool) (r2 : (List Api_Event)) (again10 : Int → Option Bool) (v8 : Int) : Option Bool :=
  if decide (v8 ≤ (r2.length : Int)) then
    (sub r2 0 v8).bind fun l13 =>
    (history_Check l13).bind fun r14 =>
    if !decide (r14 = (-1)) then
      some false
    else
      again10 (IntKind.wrap .i64 (v8 + 1))
  else
    law20_HistoryRight_k2 r1 ()

def law20_HistoryRight_k1 (r1 : Bool) (r2 : (List Api_Event)) (_y5 : Unit) : Option Bool :=
  loopF (law20_HistoryRight_l3 r1 r2) FU 0

def law20_HistoryRight_k5 (again19 : Int → Option Bool) (v17 : Int) (_y22 : Unit) : Option Bool :=
  again19 (IntKind.wrap .i64 (v17 + 1))

def law20_HistoryRight_k6 (again19 : Int → Option Bool) (v17 : Int) (_y25 : Unit) : Option Bool :=
  law20_HistoryRight_k5 again19 v17 ()

def law20_HistoryRight_l7 (again19 : Int → Option Bool) (v17 : Int) (r24 : (List Api_Event)) (again29 : Int → Option Bool) (v27 : Int) : Option Bool :=
  if decide (v27 < (r24.length : Int)) then
    (idx r24 v27).bind fun x32 =>
    (history_Behind r24 (IntKind.wrap .i64 (v27 - 1))).bind fun r33 =>
    (ref04_Covers x32.Seen r33).bind fun r34 =>
    if !r34 then
      some false
    else
      again29 (IntKind.wrap .i64 (v27 + 1))
  else
    law20_HistoryRight_k6 again19 v17 ()

def law20_HistoryRight_l4 (r1 : Bool) (r2 : (List Api_Event)) (again19 : Int → Option Bool) (v17 : Int) : Option Bool :=
  if decide (v17 < 4) then
    (history_Of r2 v17).bind fun r24 =>
    loopF (law20_HistoryRight_l7 again19 v17 r24) FU 1
  else
    law20_HistoryRight_k1 r1 r2 ()

def law20_HistoryRight (l_0 : (List Law20_Act)) : Option Bool :=
  (law20_awake).bind fun r1 =>
  (law20_made l_0).bind fun r2 =>
  (history_Check r2).bind fun r3 =>
  if !decide (r3 = (-1)) then
    some false
  else
    loopF (law20_HistoryRight_l4 r1 r2) FU 0

def law20_HistoryOf_k6 (r6 : (List Api_Event)) (y9 : Bool) : Option Bool :=
  if y9 then
    (history_Of r6 1).bind fun r11 =>
    some (decide ((r11.length : Int) = 0))
  else
    some false

def law20_HistoryOf_k5 (r6 : (List Api_Event)) (y8 : Bool) : Option Bool :=
  if y8 then
    (history_Of r6 2).bind fun r14 =>
    law20_HistoryOf_k6 r6 (decide ((r14.length : Int) = (r6.length : Int)))
  else
    law20_HistoryOf_k6 r6 false

def law20_HistoryOf_k4 (r6 : (List Api_Event)) (y7 : Bool) : Option Bool :=
  if y7 then
    (history_Check r6).bind fun r17 =>
    law20_HistoryOf_k5 r6 (decide (r17 = (-1)))
  else
    law20_HistoryOf_k5 r6 false

def law20_HistoryOf_k3 (r1 : Bool) (r2 : (List Api_Event)) (y3 : Int × (List (List Api_Event))) (y5 : (List Law20_Act)) : Option Bool :=
  (law20_made y5).bind fun r6 =>
  if r1 then
    law20_HistoryOf_k4 r6 (decide (y3.1 = (r2.length : Int)))
  else
    law20_HistoryOf_k4 r6 false

def law20_HistoryOf_k8 (l_0 : (List Law20_Act)) (r1 : Bool) (r2 : (List Api_Event)) (y3 : Int × (List (List Api_Event))) (again23 : Int × (List Law20_Act) → Option Bool) (v21 : Int × (List Law20_Act)) (y25 : Bool) : Option Bool :=
  if y25 then
    (idx l_0 v21.1).bind fun x27 =>
    (app 32 v21.2 ([(Law20_Act.mk x27.Write 2 x27.Key x27.Which)])).bind fun l28 =>
    again23 (IntKind.wrap .i64 (v21.1 + 1), l28)
  else
    law20_HistoryOf_k3 r1 r2 y3 v21.2

def law20_HistoryOf_l7 (l_0 : (List Law20_Act)) (r1 : Bool) (r2 : (List Api_Event)) (y3 : Int × (List (List Api_Event))) (again23 : Int × (List Law20_Act) → Option Bool) (v21 : Int × (List Law20_Act)) : Option Bool :=
  if decide (v21.1 < (l_0.length : Int)) then
    law20_HistoryOf_k8 l_0 r1 r2 y3 again23 v21 (decide (v21.1 < 16))
  else
    law20_HistoryOf_k8 l_0 r1 r2 y3 again23 v21 false

def law20_HistoryOf_k2 (l_0 : (List Law20_Act)) (r1 : Bool) (r2 : (List Api_Event)) (y3 : Int × (List (List Api_Event))) (_y4 : Unit) : Option Bool :=
  loopF (law20_HistoryOf_l7 l_0 r1 r2 y3) FU (0, ([] : (List Law20_Act)))

def law20_HistoryOf_k10 (r2 : (List Api_Event)) (y3 : Int × (List (List Api_Event))) (again34 : Int × (List Int) → Option Bool) (v32 : Int × (List Int)) (x37 : Api_Event) (y38 : Bool) : Option Bool :=
  if y38 then
    some false
  else
    (sub r2 v32.1 (IntKind.wrap .i64 (v32.1 + 1))).bind fun l40 =>
    (aidx 4 y3.2 x37.Client).bind fun x41 =>
    (aidx 4 v32.2 x37.Client).bind fun x42 =>
    (aidx 4 v32.2 x37.Client).bind fun x43 =>
    (sub x41 x42 (IntKind.wrap .i64 (x43 + 1))).bind fun l44 =>
    (ref20_Same l40 l44).bind fun r45 =>
    if !r45 then
      some false
    else
      (aidx 4 v32.2 x37.Client).bind fun x47 =>
      (aidx 4 v32.2 x37.Client).bind fun _x48 =>
      (asets 4 v32.2 x37.Client (IntKind.wrap .i64 (x47 + 1))).bind fun a49 =>
      again34 (IntKind.wrap .i64 (v32.1 + 1), a49)

def law20_HistoryOf_l9 (l_0 : (List Law20_Act)) (r1 : Bool) (r2 : (List Api_Event)) (y3 : Int × (List (List Api_Event))) (again34 : Int × (List Int) → Option Bool) (v32 : Int × (List Int)) : Option Bool :=
  if decide (v32.1 < (r2.length : Int)) then
    (idx r2 v32.1).bind fun x37 =>
    if decide (x37.Client < 0) then
      law20_HistoryOf_k10 r2 y3 again34 v32 x37 true
    else
      if decide (3 < x37.Client) then
        law20_HistoryOf_k10 r2 y3 again34 v32 x37 true
      else
        (aidx 4 v32.2 x37.Client).bind fun x53 =>
        (aidx 4 y3.2 x37.Client).bind fun x54 =>
        law20_HistoryOf_k10 r2 y3 again34 v32 x37 (decide ((x54.length : Int) ≤ x53))
  else
    law20_HistoryOf_k2 l_0 r1 r2 y3 ()

def law20_HistoryOf_k1 (l_0 : (List Law20_Act)) (r1 : Bool) (r2 : (List Api_Event)) (y3 : Int × (List (List Api_Event))) : Option Bool :=
  loopF (law20_HistoryOf_l9 l_0 r1 r2 y3) FU (0, List.replicate 4 0)

def law20_HistoryOf_l11 (l_0 : (List Law20_Act)) (r1 : Bool) (r2 : (List Api_Event)) (again58 : Int × Int × (List (List Api_Event)) → Option Bool) (v56 : Int × Int × (List (List Api_Event))) : Option Bool :=
  if decide (v56.2.1 < 4) then
    (history_Of r2 v56.2.1).bind fun r61 =>
    (aidx 4 v56.2.2 v56.2.1).bind fun _x62 =>
    (asets 4 v56.2.2 v56.2.1 r61).bind fun a63 =>
    (aidx 4 a63 v56.2.1).bind fun x64 =>
    again58 (IntKind.wrap .i64 (v56.1 + (x64.length : Int)), IntKind.wrap .i64 (v56.2.1 + 1), a63)
  else
    law20_HistoryOf_k1 l_0 r1 r2 (v56.1, v56.2.2)

def law20_HistoryOf (l_0 : (List Law20_Act)) : Option Bool :=
  (law20_awake).bind fun r1 =>
  (law20_made l_0).bind fun r2 =>
  loopF (law20_HistoryOf_l11 l_0 r1 r2) FU (0, 0, List.replicate 4 ([] : (List Api_Event)))

def law20_short (s_0 : ByteArray) : Option ByteArray :=
  if decide (12 < (s_0.size : Int)) then
    (ssub s_0 0 12).bind fun s2 =>
    some s2
  else
    some s_0

def law20_few_k1 (y1 : (List Api_Event)) : Option (List Api_Event) :=
  some y1

def law20_few_k4 (again5 : Int × (List Api_Event) → Option (List Api_Event)) (v3 : Int × (List Api_Event)) (y9 : (List Api_Event)) : Option (List Api_Event) :=
  again5 (IntKind.wrap .i64 (v3.1 + 1), y9)

def law20_few_k5 (again5 : Int × (List Api_Event) → Option (List Api_Event)) (v3 : Int × (List Api_Event)) (x11 : Api_Event) (r12 : ByteArray) (y13 : (List Api_Dep)) : Option (List Api_Event) :=
  (app 72 v3.2 ([(Api_Event.mk x11.Kind x11.Client r12 x11.Stamp y13)])).bind fun l14 =>
  law20_few_k4 again5 v3 l14

def law20_few_k7 (again5 : Int × (List Api_Event) → Option (List Api_Event)) (v3 : Int × (List Api_Event)) (x11 : Api_Event) (r12 : ByteArray) (again18 : (List Api_Dep) × Int → Option (List Api_Event)) (v16 : (List Api_Dep) × Int) (y20 : Bool) : Option (List Api_Event) :=
  if y20 then
    (idx x11.Seen v16.2).bind fun x22 =>
    (law20_short x22.Key).bind fun r23 =>
    (idx x11.Seen v16.2).bind fun x24 =>
    (ref04_Add v16.1 (Api_Dep.mk r23 x24.Stamp)).bind fun r25 =>
    again18 (r25, IntKind.wrap .i64 (v16.2 + 1))
  else
    law20_few_k5 again5 v3 x11 r12 v16.1

def law20_few_l6 (again5 : Int × (List Api_Event) → Option (List Api_Event)) (v3 : Int × (List Api_Event)) (x11 : Api_Event) (r12 : ByteArray) (again18 : (List Api_Dep) × Int → Option (List Api_Event)) (v16 : (List Api_Dep) × Int) : Option (List Api_Event) :=
  if decide (v16.2 < (x11.Seen.length : Int)) then
    law20_few_k7 again5 v3 x11 r12 again18 v16 (decide (v16.2 < 5))
  else
    law20_few_k7 again5 v3 x11 r12 again18 v16 false

def law20_few_k3 (l_0 : (List Api_Event)) (again5 : Int × (List Api_Event) → Option (List Api_Event)) (v3 : Int × (List Api_Event)) (y7 : Bool) : Option (List Api_Event) :=
  if y7 then
    (idx l_0 v3.1).bind fun x11 =>
    (law20_short x11.Key).bind fun r12 =>
    loopF (law20_few_l6 again5 v3 x11 r12) FU (([] : (List Api_Dep)), 0)
  else
    law20_few_k1 v3.2

def law20_few_l2 (l_0 : (List Api_Event)) (again5 : Int × (List Api_Event) → Option (List Api_Event)) (v3 : Int × (List Api_Event)) : Option (List Api_Event) :=
  if decide (v3.1 < (l_0.length : Int)) then
    law20_few_k3 l_0 again5 v3 (decide (v3.1 < 14))
  else
    law20_few_k3 l_0 again5 v3 false

def law20_few (l_0 : (List Api_Event)) : Option (List Api_Event) :=
  loopF (law20_few_l2 l_0) FU (0, ([] : (List Api_Event)))

def law20_tells_k3 (l_0 : (List Api_Event)) (key_1 : ByteArray) (r2 : (List Api_Stamp)) (y16 : Bool) : Option Bool :=
  if y16 then
    (history_Greatest l_0 key_1).bind fun r18 =>
    (ref03_Max r2).bind fun r19 =>
    some (decide (r18.N = r19.N) && decide (r18.Site = r19.Site))
  else
    some false

def law20_tells_k2 (l_0 : (List Api_Event)) (key_1 : ByteArray) (r2 : (List Api_Stamp)) (y15 : Bool) : Option Bool :=
  if y15 then
    (history_Check l_0).bind fun r22 =>
    (ref20_Check l_0).bind fun r23 =>
    law20_tells_k3 l_0 key_1 r2 (decide (r22 = r23))
  else
    law20_tells_k3 l_0 key_1 r2 false

def law20_tells_k1 (l_0 : (List Api_Event)) (key_1 : ByteArray) (q_2 : (List Int)) (r2 : (List Api_Stamp)) (_y4 : Unit) : Option Bool :=
  (aidx 2 q_2 0).bind fun x5 =>
  (history_Of l_0 x5).bind fun r6 =>
  (aidx 2 q_2 0).bind fun x7 =>
  (ref20_Of l_0 x7).bind fun r8 =>
  (ref20_Same r6 r8).bind fun r9 =>
  (aidx 2 q_2 1).bind fun x10 =>
  (history_Behind l_0 x10).bind fun r11 =>
  (aidx 2 q_2 1).bind fun x12 =>
  (ref20_Behind l_0 x12).bind fun r13 =>
  (ref04_Same r11 r13).bind fun r14 =>
  if r9 then
    law20_tells_k2 l_0 key_1 r2 r14
  else
    law20_tells_k2 l_0 key_1 r2 false

def law20_tells_l4 (l_0 : (List Api_Event)) (key_1 : ByteArray) (q_2 : (List Int)) (r1 : (List Api_Stamp)) (r2 : (List Api_Stamp)) (again29 : Int → Option Bool) (v27 : Int) : Option Bool :=
  if decide (v27 < (r1.length : Int)) then
    (idx r1 v27).bind fun x32 =>
    (idx r2 v27).bind fun x33 =>
    if !(decide (x32.N = x33.N) && decide (x32.Site = x33.Site)) then
      some false
    else
      again29 (IntKind.wrap .i64 (v27 + 1))
  else
    law20_tells_k1 l_0 key_1 q_2 r2 ()

def law20_tells (l_0 : (List Api_Event)) (key_1 : ByteArray) (q_2 : (List Int)) : Option Bool :=
  (history_Writes l_0 key_1).bind fun r1 =>
  (ref20_Writes l_0 key_1).bind fun r2 =>
  if !decide ((r1.length : Int) = (r2.length : Int)) then
    some false
  else
    loopF (law20_tells_l4 l_0 key_1 q_2 r1 r2) FU 0

def law20_HistoryTells (l_0 : (List Api_Event)) (key_1 : ByteArray) (q_2 : (List Int)) : Option Bool :=
  (law20_awake).bind fun r1 =>
  if r1 then
    (law20_few l_0).bind fun r3 =>
    chk (decide (q_2.length = 2)) (
    (law20_tells r3 key_1 q_2).bind fun r5 =>
    some r5)
  else
    some false
end Go.Ark
