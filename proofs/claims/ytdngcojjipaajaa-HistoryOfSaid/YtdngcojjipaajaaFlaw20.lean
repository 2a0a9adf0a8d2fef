/- Typed functions, printed by a program of mine out of the translated code. -/
import Derived.Test.YtdngcojjipaajaaFT
import Derived.Test.YtdngcojjipaajaaFhistory
import Derived.Test.YtdngcojjipaajaaFref03
import Derived.Test.YtdngcojjipaajaaFref04
import Derived.Test.YtdngcojjipaajaaFref20
namespace Go.Ark
open Go Go.Ab

def law20_awake : Option Bool :=
  (history_Check ([(Api_Event.mk 1 0 (ByteArray.mk #[97]) (Api_Stamp.mk 1 0) ([] : (List Api_Dep))), (Api_Event.mk 2 1 (ByteArray.mk #[97]) (Api_Stamp.mk 1 0) ([(Api_Dep.mk (ByteArray.mk #[97]) (Api_Stamp.mk 2 0))]))])).bind fun r1 =>
  if decide (r1 = 1) then
    (sub ([(Api_Event.mk 1 0 (ByteArray.mk #[97]) (Api_Stamp.mk 1 0) ([] : (List Api_Dep))), (Api_Event.mk 2 1 (ByteArray.mk #[97]) (Api_Stamp.mk 1 0) ([(Api_Dep.mk (ByteArray.mk #[97]) (Api_Stamp.mk 2 0))]))]) 0 1).bind fun l3 =>
    (history_Check l3).bind fun r4 =>
    some (decide (r4 = (-1)))
  else
    some false

def law20_made_k1 (y1 : (List Api_Event)) : Option (List Api_Event) :=
  some y1

def law20_made_k4 (again5 : Int × (List (List Api_Dep)) × (List Api_Event) → Option (List Api_Event)) (v3 : Int × (List (List Api_Dep)) × (List Api_Event)) (y9 : (List (List Api_Dep)) × (List Api_Event)) : Option (List Api_Event) :=
  again5 (IntKind.wrap .i64 (v3.1 + 1), y9.1, y9.2)

def law20_made_k7 (again5 : Int × (List (List Api_Dep)) × (List Api_Event) → Option (List Api_Event)) (v3 : Int × (List (List Api_Dep)) × (List Api_Event)) (x11 : Law20_Act) (x13 : ByteArray) (y15 : (List Api_Dep) × Int × Int × Int) (r19 : (List Api_Dep)) (y20 : Bool) : Option (List Api_Event) :=
  if y20 then
    law20_made_k4 again5 v3 (v3.2.1, v3.2.2)
  else
    (app 72 v3.2.2 ([(Api_Event.mk y15.2.1 (IntKind.wrap .i64 (BitVec.ofInt (IntKind.bits .i64) x11.Client &&& BitVec.ofInt (IntKind.bits .i64) 3).toNat) x13 (Api_Stamp.mk y15.2.2.1 y15.2.2.2) r19)])).bind fun l22 =>
    (ref20_Behind l22 (IntKind.wrap .i64 ((l22.length : Int) - 1))).bind fun r23 =>
    (aidx 4 v3.2.1 (IntKind.wrap .i64 (BitVec.ofInt (IntKind.bits .i64) x11.Client &&& BitVec.ofInt (IntKind.bits .i64) 3).toNat)).bind fun _x24 =>
    (asets 4 v3.2.1 (IntKind.wrap .i64 (BitVec.ofInt (IntKind.bits .i64) x11.Client &&& BitVec.ofInt (IntKind.bits .i64) 3).toNat) r23).bind fun a25 =>
    law20_made_k4 again5 v3 (a25, l22)

def law20_made_k6 (again5 : Int × (List (List Api_Dep)) × (List Api_Event) → Option (List Api_Event)) (v3 : Int × (List (List Api_Dep)) × (List Api_Event)) (x11 : Law20_Act) (x13 : ByteArray) (y15 : (List Api_Dep) × Int × Int × Int) (y16 : Bool) : Option (List Api_Event) :=
  if y16 then
    (aidx 4 v3.2.1 (IntKind.wrap .i64 (BitVec.ofInt (IntKind.bits .i64) x11.Client &&& BitVec.ofInt (IntKind.bits .i64) 3).toNat)).bind fun x18 =>
    (ref04_Merge ([x18, y15.1])).bind fun r19 =>
    if decide (y15.2.1 = 2) then
      (ref04_Get r19 x13).bind fun r28 =>
      (ref03_Less (Api_Stamp.mk y15.2.2.1 y15.2.2.2) r28).bind fun r29 =>
      law20_made_k7 again5 v3 x11 x13 y15 r19 r29
    else
      law20_made_k7 again5 v3 x11 x13 y15 r19 false
  else
    law20_made_k4 again5 v3 (v3.2.1, v3.2.2)

def law20_made_k5 (l_0 : (List Law20_Act)) (again5 : Int × (List (List Api_Dep)) × (List Api_Event) → Option (List Api_Event)) (v3 : Int × (List (List Api_Dep)) × (List Api_Event)) (x11 : Law20_Act) (x13 : ByteArray) (y15 : (List Api_Dep) × Int × Int × Int) : Option (List Api_Event) :=
  (idx l_0 v3.1).bind fun x31 =>
  if x31.Write then
    law20_made_k6 again5 v3 x11 x13 y15 true
  else
    (ref04_Get y15.1 x13).bind fun r33 =>
    law20_made_k6 again5 v3 x11 x13 y15 (decide (r33.N ≤ y15.2.2.1))

def law20_made_k8 (l_0 : (List Law20_Act)) (again5 : Int × (List (List Api_Dep)) × (List Api_Event) → Option (List Api_Event)) (v3 : Int × (List (List Api_Dep)) × (List Api_Event)) (x11 : Law20_Act) (x13 : ByteArray) (y36 : Int) : Option (List Api_Event) :=
  law20_made_k5 l_0 again5 v3 x11 x13 (([] : (List Api_Dep)), 1, IntKind.wrap .i64 ((IntKind.wrap .i64 (y36 + 1)) + v3.1), IntKind.wrap .i64 (BitVec.ofInt (IntKind.bits .i64) x11.Client &&& BitVec.ofInt (IntKind.bits .i64) 3).toNat)

def law20_made_l9 (l_0 : (List Law20_Act)) (again5 : Int × (List (List Api_Dep)) × (List Api_Event) → Option (List Api_Event)) (v3 : Int × (List (List Api_Dep)) × (List Api_Event)) (x11 : Law20_Act) (x13 : ByteArray) (again40 : Int × Int → Option (List Api_Event)) (v38 : Int × Int) : Option (List Api_Event) :=
  (aidx 4 v3.2.1 (IntKind.wrap .i64 (BitVec.ofInt (IntKind.bits .i64) x11.Client &&& BitVec.ofInt (IntKind.bits .i64) 3).toNat)).bind fun x42 =>
  if decide (v38.1 < (x42.length : Int)) then
    (aidx 4 v3.2.1 (IntKind.wrap .i64 (BitVec.ofInt (IntKind.bits .i64) x11.Client &&& BitVec.ofInt (IntKind.bits .i64) 3).toNat)).bind fun x44 =>
    (idx x44 v38.1).bind fun x45 =>
    again40 (IntKind.wrap .i64 (v38.1 + 1), if x45.Stamp.N > v38.2 then x45.Stamp.N else v38.2)
  else
    law20_made_k8 l_0 again5 v3 x11 x13 v38.2

def law20_made_k12 (v3 : Int × (List (List Api_Dep)) × (List Api_Event)) (again50 : (List Api_Dep) × Int × Int × Int × Int → Option (List Api_Event)) (v48 : (List Api_Dep) × Int × Int × Int × Int) (y55 : Bool) : Option (List Api_Event) :=
  if y55 then
    (idx v3.2.2 v48.2.2.1).bind fun x57 =>
    (idx v3.2.2 v48.2.2.1).bind fun x58 =>
    again50 (x58.Seen, IntKind.wrap .i64 (v48.2.1 + 1), IntKind.wrap .i64 (v48.2.2.1 + 1), x57.Stamp.N, x57.Stamp.Site)
  else
    again50 (v48.1, IntKind.wrap .i64 (v48.2.1 + 1), IntKind.wrap .i64 (v48.2.2.1 + 1), v48.2.2.2.1, v48.2.2.2.2)

def law20_made_k11 (l_0 : (List Law20_Act)) (v3 : Int × (List (List Api_Dep)) × (List Api_Event)) (again50 : (List Api_Dep) × Int × Int × Int × Int → Option (List Api_Event)) (v48 : (List Api_Dep) × Int × Int × Int × Int) (y53 : Bool) : Option (List Api_Event) :=
  if y53 then
    if decide ((IntKind.wrap .i64 (v48.2.1 + 1)) = 1) then
      law20_made_k12 v3 again50 v48 true
    else
      (idx l_0 v3.1).bind fun x61 =>
      law20_made_k12 v3 again50 v48 (decide ((IntKind.wrap .i64 (BitVec.ofInt (IntKind.bits .i64) x61.Which &&& BitVec.ofInt (IntKind.bits .i64) 1).toNat) = 1))
  else
    again50 (v48.1, v48.2.1, IntKind.wrap .i64 (v48.2.2.1 + 1), v48.2.2.2.1, v48.2.2.2.2)

def law20_made_l10 (l_0 : (List Law20_Act)) (again5 : Int × (List (List Api_Dep)) × (List Api_Event) → Option (List Api_Event)) (v3 : Int × (List (List Api_Dep)) × (List Api_Event)) (x11 : Law20_Act) (x13 : ByteArray) (r47 : Api_Stamp) (again50 : (List Api_Dep) × Int × Int × Int × Int → Option (List Api_Event)) (v48 : (List Api_Dep) × Int × Int × Int × Int) : Option (List Api_Event) :=
  if decide (v48.2.2.1 < (v3.2.2.length : Int)) then
    (idx v3.2.2 v48.2.2.1).bind fun x63 =>
    if decide (x63.Kind = 1) then
      (idx v3.2.2 v48.2.2.1).bind fun x65 =>
      if seq x65.Key x13 then
        (idx v3.2.2 v48.2.2.1).bind fun x67 =>
        (ref03_Less x67.Stamp r47).bind fun r68 =>
        law20_made_k11 l_0 v3 again50 v48 (!r68)
      else
        law20_made_k11 l_0 v3 again50 v48 false
    else
      law20_made_k11 l_0 v3 again50 v48 false
  else
    law20_made_k5 l_0 again5 v3 x11 x13 (v48.1, 2, v48.2.2.2.1, v48.2.2.2.2)

def law20_made_k3 (l_0 : (List Law20_Act)) (again5 : Int × (List (List Api_Dep)) × (List Api_Event) → Option (List Api_Event)) (v3 : Int × (List (List Api_Dep)) × (List Api_Event)) (y7 : Bool) : Option (List Api_Event) :=
  if y7 then
    (idx l_0 v3.1).bind fun x11 =>
    (idx l_0 v3.1).bind fun x12 =>
    (aidx 4 ([(ByteArray.mk #[97]), (ByteArray.mk #[98]), (ByteArray.mk #[99]), (ByteArray.mk #[100])]) (IntKind.wrap .i64 (BitVec.ofInt (IntKind.bits .i64) x12.Key &&& BitVec.ofInt (IntKind.bits .i64) 3).toNat)).bind fun x13 =>
    (idx l_0 v3.1).bind fun x14 =>
    if x14.Write then
      loopF (law20_made_l9 l_0 again5 v3 x11 x13) FU (0, 0)
    else
      (aidx 4 v3.2.1 (IntKind.wrap .i64 (BitVec.ofInt (IntKind.bits .i64) x11.Client &&& BitVec.ofInt (IntKind.bits .i64) 3).toNat)).bind fun x46 =>
      (ref04_Get x46 x13).bind fun r47 =>
      loopF (law20_made_l10 l_0 again5 v3 x11 x13 r47) FU (([] : (List Api_Dep)), 0, 0, 0, 0)
  else
    law20_made_k1 v3.2.2

def law20_made_l2 (l_0 : (List Law20_Act)) (again5 : Int × (List (List Api_Dep)) × (List Api_Event) → Option (List Api_Event)) (v3 : Int × (List (List Api_Dep)) × (List Api_Event)) : Option (List Api_Event) :=
  if decide (v3.1 < (l_0.length : Int)) then
    law20_made_k3 l_0 again5 v3 (decide (v3.1 < 16))
  else
    law20_made_k3 l_0 again5 v3 false

def law20_made (l_0 : (List Law20_Act)) : Option (List Api_Event) :=
  loopF (law20_made_l2 l_0) FU (0, List.replicate 4 ([] : (List Api_Dep)), ([] : (List Api_Event)))

def law20_HistoryOf_k6 (r6 : (List Api_Event)) (y9 : Bool) : Option Bool :=
  if y9 then
    (history_Of r6 1).bind fun r11 =>
    some (decide ((r11.length : Int) = 0))
  else
    some false

def law20_HistoryOf_k5 (r6 : (List Api_Event)) (y8 : Bool) : Option Bool :=
  if y8 then
    (history_Of r6 2).bind fun r14 =>
    law20_HistoryOf_k6 r6 (decide ((r14.length : Int) = (r6.length : Int)))
  else
    law20_HistoryOf_k6 r6 false

def law20_HistoryOf_k4 (r6 : (List Api_Event)) (y7 : Bool) : Option Bool :=
  if y7 then
    (history_Check r6).bind fun r17 =>
    law20_HistoryOf_k5 r6 (decide (r17 = (-1)))
  else
    law20_HistoryOf_k5 r6 false

def law20_HistoryOf_k3 (r1 : Bool) (r2 : (List Api_Event)) (y3 : Int × (List (List Api_Event))) (y5 : (List Law20_Act)) : Option Bool :=
  (law20_made y5).bind fun r6 =>
  if r1 then
    law20_HistoryOf_k4 r6 (decide (y3.1 = (r2.length : Int)))
  else
    law20_HistoryOf_k4 r6 false

def law20_HistoryOf_k8 (l_0 : (List Law20_Act)) (r1 : Bool) (r2 : (List Api_Event)) (y3 : Int × (List (List Api_Event))) (again23 : Int × (List Law20_Act) → Option Bool) (v21 : Int × (List Law20_Act)) (y25 : Bool) : Option Bool :=
  if y25 then
    (idx l_0 v21.1).bind fun x27 =>
    (app 32 v21.2 ([(Law20_Act.mk x27.Write 2 x27.Key x27.Which)])).bind fun l28 =>
    again23 (IntKind.wrap .i64 (v21.1 + 1), l28)
  else
    law20_HistoryOf_k3 r1 r2 y3 v21.2

def law20_HistoryOf_l7 (l_0 : (List Law20_Act)) (r1 : Bool) (r2 : (List Api_Event)) (y3 : Int × (List (List Api_Event))) (again23 : Int × (List Law20_Act) → Option Bool) (v21 : Int × (List Law20_Act)) : Option Bool :=
  if decide (v21.1 < (l_0.length : Int)) then
    law20_HistoryOf_k8 l_0 r1 r2 y3 again23 v21 (decide (v21.1 < 16))
  else
    law20_HistoryOf_k8 l_0 r1 r2 y3 again23 v21 false

def law20_HistoryOf_k2 (l_0 : (List Law20_Act)) (r1 : Bool) (r2 : (List Api_Event)) (y3 : Int × (List (List Api_Event))) (_y4 : Unit) : Option Bool :=
  loopF (law20_HistoryOf_l7 l_0 r1 r2 y3) FU (0, ([] : (List Law20_Act)))

def law20_HistoryOf_k10 (r2 : (List Api_Event)) (y3 : Int × (List (List Api_Event))) (again34 : Int × (List Int) → Option Bool) (v32 : Int × (List Int)) (x37 : Api_Event) (y38 : Bool) : Option Bool :=
  if y38 then
    some false
  else
    (sub r2 v32.1 (IntKind.wrap .i64 (v32.1 + 1))).bind fun l40 =>
    (aidx 4 y3.2 x37.Client).bind fun x41 =>
    (aidx 4 v32.2 x37.Client).bind fun x42 =>
    (aidx 4 v32.2 x37.Client).bind fun x43 =>
    (sub x41 x42 (IntKind.wrap .i64 (x43 + 1))).bind fun l44 =>
    (ref20_Same l40 l44).bind fun r45 =>
    if !r45 then
      some false
    else
      (aidx 4 v32.2 x37.Client).bind fun x47 =>
      (aidx 4 v32.2 x37.Client).bind fun _x48 =>
      (asets 4 v32.2 x37.Client (IntKind.wrap .i64 (x47 + 1))).bind fun a49 =>
      again34 (IntKind.wrap .i64 (v32.1 + 1), a49)

def law20_HistoryOf_l9 (l_0 : (List Law20_Act)) (r1 : Bool) (r2 : (List Api_Event)) (y3 : Int × (List (List Api_Event))) (again34 : Int × (List Int) → Option Bool) (v32 : Int × (List Int)) : Option Bool :=
  if decide (v32.1 < (r2.length : Int)) then
    (idx r2 v32.1).bind fun x37 =>
    if decide (x37.Client < 0) then
      law20_HistoryOf_k10 r2 y3 again34 v32 x37 true
    else
      if decide (3 < x37.Client) then
        law20_HistoryOf_k10 r2 y3 again34 v32 x37 true
      else
        (aidx 4 v32.2 x37.Client).bind fun x53 =>
        (aidx 4 y3.2 x37.Client).bind fun x54 =>
        law20_HistoryOf_k10 r2 y3 again34 v32 x37 (decide ((x54.length : Int) ≤ x53))
  else
    law20_HistoryOf_k2 l_0 r1 r2 y3 ()

def law20_HistoryOf_k1 (l_0 : (List Law20_Act)) (r1 : Bool) (r2 : (List Api_Event)) (y3 : Int × (List (List Api_Event))) : Option Bool :=
  loopF (law20_HistoryOf_l9 l_0 r1 r2 y3) FU (0, List.replicate 4 0)

def law20_HistoryOf_l11 (l_0 : (List Law20_Act)) (r1 : Bool) (r2 : (List Api_Event)) (again58 : Int × Int × (List (List Api_Event)) → Option Bool) (v56 : Int × Int × (List (List Api_Event))) : Option Bool :=
  if decide (v56.2.1 < 4) then
    (history_Of r2 v56.2.1).bind fun r61 =>
    (aidx 4 v56.2.2 v56.2.1).bind fun _x62 =>
    (asets 4 v56.2.2 v56.2.1 r61).bind fun a63 =>
    (aidx 4 a63 v56.2.1).bind fun x64 =>
    again58 (IntKind.wrap .i64 (v56.1 + (x64.length : Int)), IntKind.wrap .i64 (v56.2.1 + 1), a63)
  else
    law20_HistoryOf_k1 l_0 r1 r2 (v56.1, v56.2.2)

def law20_HistoryOf (l_0 : (List Law20_Act)) : Option Bool :=
  (law20_awake).bind fun r1 =>
  (law20_made l_0).bind fun r2 =>
  loopF (law20_HistoryOf_l11 l_0 r1 r2) FU (0, 0, List.replicate 4 ([] : (List Api_Event)))

end Go.Ark
