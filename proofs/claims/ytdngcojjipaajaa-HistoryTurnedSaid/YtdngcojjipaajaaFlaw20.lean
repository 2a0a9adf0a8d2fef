/- Typed functions, printed by a program of mine out of the translated code. -/
import Derived.Test.YtdngcojjipaajaaFT
import Derived.Test.YtdngcojjipaajaaFhistory
import Derived.Test.YtdngcojjipaajaaFref03
import Derived.Test.YtdngcojjipaajaaFref04
import Derived.Test.YtdngcojjipaajaaFref20
namespace Go.Ark
open Go Go.Ab

def law20_awake : Option Bool :=
  (history_Check ([(Api_Event.mk 1 0 (ByteArray.mk #[97]) (Api_Stamp.mk 1 0) ([] : (List Api_Dep))), (Api_Event.mk 2 1 (ByteArray.mk #[97]) (Api_Stamp.mk 1 0) ([(Api_Dep.mk (ByteArray.mk #[97]) (Api_Stamp.mk 2 0))]))])).bind fun r1 =>
  if decide (r1 = 1) then
    (sub ([(Api_Event.mk 1 0 (ByteArray.mk #[97]) (Api_Stamp.mk 1 0) ([] : (List Api_Dep))), (Api_Event.mk 2 1 (ByteArray.mk #[97]) (Api_Stamp.mk 1 0) ([(Api_Dep.mk (ByteArray.mk #[97]) (Api_Stamp.mk 2 0))]))]) 0 1).bind fun l3 =>
    (history_Check l3).bind fun r4 =>
    some (decide (r4 = (-1)))
  else
    some false

def law20_made_k1 (y1 : (List Api_Event)) : Option (List Api_Event) :=
  some y1

def law20_made_k4 (again5 : Int × (List (List Api_Dep)) × (List Api_Event) → Option (List Api_Event)) (v3 : Int × (List (List Api_Dep)) × (List Api_Event)) (y9 : (List (List Api_Dep)) × (List Api_Event)) : Option (List Api_Event) :=
  again5 (IntKind.wrap .i64 (v3.1 + 1), y9.1, y9.2)

def law20_made_k7 (again5 : Int × (List (List Api_Dep)) × (List Api_Event) → Option (List Api_Event)) (v3 : Int × (List (List Api_Dep)) × (List Api_Event)) (x11 : Law20_Act) (x13 : ByteArray) (y15 : (List Api_Dep) × Int × Int × Int) (r19 : (List Api_Dep)) (y20 : Bool) : Option (List Api_Event) :=
  if y20 then
    law20_made_k4 again5 v3 (v3.2.1, v3.2.2)
  else
    (app 72 v3.2.2 ([(Api_Event.mk y15.2.1 (IntKind.wrap .i64 (BitVec.ofInt (IntKind.bits .i64) x11.Client &&& BitVec.ofInt (IntKind.bits .i64) 3).toNat) x13 (Api_Stamp.mk y15.2.2.1 y15.2.2.2) r19)])).bind fun l22 =>
    (ref20_Behind l22 (IntKind.wrap .i64 ((l22.length : Int) - 1))).bind fun r23 =>
    (aidx 4 v3.2.1 (IntKind.wrap .i64 (BitVec.ofInt (IntKind.bits .i64) x11.Client &&& BitVec.ofInt (IntKind.bits .i64) 3).toNat)).bind fun _x24 =>
    (asets 4 v3.2.1 (IntKind.wrap .i64 (BitVec.ofInt (IntKind.bits .i64) x11.Client &&& BitVec.ofInt (IntKind.bits .i64) 3).toNat) r23).bind fun a25 =>
    law20_made_k4 again5 v3 (a25, l22)

def law20_made_k6 (again5 : Int × (List (List Api_Dep)) × (List Api_Event) → Option (List Api_Event)) (v3 : Int × (List (List Api_Dep)) × (List Api_Event)) (x11 : Law20_Act) (x13 : ByteArray) (y15 : (List Api_Dep) × Int × Int × Int) (y16 : Bool) : Option (List Api_Event) :=
  if y16 then
    (aidx 4 v3.2.1 (IntKind.wrap .i64 (BitVec.ofInt (IntKind.bits .i64) x11.Client &&& BitVec.ofInt (IntKind.bits .i64) 3).toNat)).bind fun x18 =>
    (ref04_Merge ([x18, y15.1])).bind fun r19 =>
    if decide (y15.2.1 = 2) then
      (ref04_Get r19 x13).bind fun r28 =>
      (ref03_Less (Api_Stamp.mk y15.2.2.1 y15.2.2.2) r28).bind fun r29 =>
      law20_made_k7 again5 v3 x11 x13 y15 r19 r29
    else
      law20_made_k7 again5 v3 x11 x13 y15 r19 false
  else
    law20_made_k4 again5 v3 (v3.2.1, v3.2.2)

def law20_made_k5 (l_0 : (List Law20_Act)) (again5 : Int × (List (List Api_Dep)) × (List Api_Event) → Option (List Api_Event)) (v3 : Int × (List (List Api_Dep)) × (List Api_Event)) (x11 : Law20_Act) (x13 : ByteArray) (y15 : (List Api_Dep) × Int × Int × Int) : Option (List Api_Event) :=
  (idx l_0 v3.1).bind fun x31 =>
  if x31.Write then
    law20_made_k6 again5 v3 x11 x13 y15 true
  else
    (ref04_Get y15.1 x13).bind fun r33 =>
    law20_made_k6 again5 v3 x11 x13 y15 (decide (r33.N ≤ y15.2.2.1))

def law20_made_k8 (l_0 : (List Law20_Act)) (again5 : Int × (List (List Api_Dep)) × (List Api_Event) → Option (List Api_Event)) (v3 : Int × (List (List Api_Dep)) × (List Api_Event)) (x11 : Law20_Act) (x13 : ByteArray) (y36 : Int) : Option (List Api_Event) :=
  law20_made_k5 l_0 again5 v3 x11 x13 (([] : (List Api_Dep)), 1, IntKind.wrap .i64 ((IntKind.wrap .i64 (y36 + 1)) + v3.1), IntKind.wrap .i64 (BitVec.ofInt (IntKind.bits .i64) x11.Client &&& BitVec.ofInt (IntKind.bits .i64) 3).toNat)

def law20_made_l9 (l_0 : (List Law20_Act)) (again5 : Int × (List (List Api_Dep)) × (List Api_Event) → Option (List Api_Event)) (v3 : Int × (List (List Api_Dep)) × (List Api_Event)) (x11 : Law20_Act) (x13 : ByteArray) (again40 : Int × Int → Option (List Api_Event)) (v38 : Int × Int) : Option (List Api_Event) :=
  (aidx 4 v3.2.1 (IntKind.wrap .i64 (BitVec.ofInt (IntKind.bits .i64) x11.Client &&& BitVec.ofInt (IntKind.bits .i64) 3).toNat)).bind fun x42 =>
  if decide (v38.1 < (x42.length : Int)) then
    (aidx 4 v3.2.1 (IntKind.wrap .i64 (BitVec.ofInt (IntKind.bits .i64) x11.Client &&& BitVec.ofInt (IntKind.bits .i64) 3).toNat)).bind fun x44 =>
    (idx x44 v38.1).bind fun x45 =>
    again40 (IntKind.wrap .i64 (v38.1 + 1), if x45.Stamp.N > v38.2 then x45.Stamp.N else v38.2)
  else
    law20_made_k8 l_0 again5 v3 x11 x13 v38.2

def law20_made_k12 (v3 : Int × (List (List Api_Dep)) × (List Api_Event)) (again50 : (List Api_Dep) × Int × Int × Int × Int → Option (List Api_Event)) (v48 : (List Api_Dep) × Int × Int × Int × Int) (y55 : Bool) : Option (List Api_Event) :=
  if y55 then
    (idx v3.2.2 v48.2.2.1).bind fun x57 =>
    (idx v3.2.2 v48.2.2.1).bind fun x58 =>
    again50 (x58.Seen, IntKind.wrap .i64 (v48.2.1 + 1), IntKind.wrap .i64 (v48.2.2.1 + 1), x57.Stamp.N, x57.Stamp.Site)
  else
    again50 (v48.1, IntKind.wrap .i64 (v48.2.1 + 1), IntKind.wrap .i64 (v48.2.2.1 + 1), v48.2.2.2.1, v48.2.2.2.2)

def law20_made_k11 (l_0 : (List Law20_Act)) (v3 : Int × (List (List Api_Dep)) × (List Api_Event)) (again50 : (List Api_Dep) × Int × Int × Int × Int → Option (List Api_Event)) (v48 : (List Api_Dep) × Int × Int × Int × Int) (y53 : Bool) : Option (List Api_Event) :=
  if y53 then
    if decide ((IntKind.wrap .i64 (v48.2.1 + 1)) = 1) then
      law20_made_k12 v3 again50 v48 true
    else
      (idx l_0 v3.1).bind fun x61 =>
      law20_made_k12 v3 again50 v48 (decide ((IntKind.wrap .i64 (BitVec.ofInt (IntKind.bits .i64) x61.Which &&& BitVec.ofInt (IntKind.bits .i64) 1).toNat) = 1))
  else
    again50 (v48.1, v48.2.1, IntKind.wrap .i64 (v48.2.2.1 + 1), v48.2.2.2.1, v48.2.2.2.2)

def law20_made_l10 (l_0 : (List Law20_Act)) (again5 : Int × (List (List Api_Dep)) × (List Api_Event) → Option (List Api_Event)) (v3 : Int × (List (List Api_Dep)) × (List Api_Event)) (x11 : Law20_Act) (x13 : ByteArray) (r47 : Api_Stamp) (again50 : (List Api_Dep) × Int × Int × Int × Int → Option (List Api_Event)) (v48 : (List Api_Dep) × Int × Int × Int × Int) : Option (List Api_Event) :=
  if decide (v48.2.2.1 < (v3.2.2.length : Int)) then
    (idx v3.2.2 v48.2.2.1).bind fun x63 =>
    if decide (x63.Kind = 1) then
      (idx v3.2.2 v48.2.2.1).bind fun x65 =>
      if seq x65.Key x13 then
        (idx v3.2.2 v48.2.2.1).bind fun x67 =>
        (ref03_Less x67.Stamp r47).bind fun r68 =>
        law20_made_k11 l_0 v3 again50 v48 (!r68)
      else
        law20_made_k11 l_0 v3 again50 v48 false
    else
      law20_made_k11 l_0 v3 again50 v48 false
  else
    law20_made_k5 l_0 again5 v3 x11 x13 (v48.1, 2, v48.2.2.2.1, v48.2.2.2.2)

def law20_made_k3 (l_0 : (List Law20_Act)) (again5 : Int × (List (List Api_Dep)) × (List Api_Event) → Option (List Api_Event)) (v3 : Int × (List (List Api_Dep)) × (List Api_Event)) (y7 : Bool) : Option (List Api_Event) :=
  if y7 then
    (idx l_0 v3.1).bind fun x11 =>
    (idx l_0 v3.1).bind fun x12 =>
    (aidx 4 ([(ByteArray.mk #[97]), (ByteArray.mk #[98]), (ByteArray.mk #[99]), (ByteArray.mk #[100])]) (IntKind.wrap .i64 (BitVec.ofInt (IntKind.bits .i64) x12.Key &&& BitVec.ofInt (IntKind.bits .i64) 3).toNat)).bind fun x13 =>
    (idx l_0 v3.1).bind fun x14 =>
    if x14.Write then
      loopF (law20_made_l9 l_0 again5 v3 x11 x13) FU (0, 0)
    else
      (aidx 4 v3.2.1 (IntKind.wrap .i64 (BitVec.ofInt (IntKind.bits .i64) x11.Client &&& BitVec.ofInt (IntKind.bits .i64) 3).toNat)).bind fun x46 =>
      (ref04_Get x46 x13).bind fun r47 =>
      loopF (law20_made_l10 l_0 again5 v3 x11 x13 r47) FU (([] : (List Api_Dep)), 0, 0, 0, 0)
  else
    law20_made_k1 v3.2.2

def law20_made_l2 (l_0 : (List Law20_Act)) (again5 : Int × (List (List Api_Dep)) × (List Api_Event) → Option (List Api_Event)) (v3 : Int × (List (List Api_Dep)) × (List Api_Event)) : Option (List Api_Event) :=
  if decide (v3.1 < (l_0.length : Int)) then
    law20_made_k3 l_0 again5 v3 (decide (v3.1 < 16))
  else
    law20_made_k3 l_0 again5 v3 false

def law20_made (l_0 : (List Law20_Act)) : Option (List Api_Event) :=
  loopF (law20_made_l2 l_0) FU (0, List.replicate 4 ([] : (List Api_Dep)), ([] : (List Api_Event)))

def law20_short (s_0 : ByteArray) : Option ByteArray :=
  if decide (12 < (s_0.size : Int)) then
    (ssub s_0 0 12).bind fun s2 =>
    some s2
  else
    some s_0

def law20_tells_k3 (l_0 : (List Api_Event)) (key_1 : ByteArray) (r2 : (List Api_Stamp)) (y16 : Bool) : Option Bool :=
  if y16 then
    (history_Greatest l_0 key_1).bind fun r18 =>
    (ref03_Max r2).bind fun r19 =>
    some (decide (r18.N = r19.N) && decide (r18.Site = r19.Site))
  else
    some false

def law20_tells_k2 (l_0 : (List Api_Event)) (key_1 : ByteArray) (r2 : (List Api_Stamp)) (y15 : Bool) : Option Bool :=
  if y15 then
    (history_Check l_0).bind fun r22 =>
    (ref20_Check l_0).bind fun r23 =>
    law20_tells_k3 l_0 key_1 r2 (decide (r22 = r23))
  else
    law20_tells_k3 l_0 key_1 r2 false

def law20_tells_k1 (l_0 : (List Api_Event)) (key_1 : ByteArray) (q_2 : (List Int)) (r2 : (List Api_Stamp)) (_y4 : Unit) : Option Bool :=
  (aidx 2 q_2 0).bind fun x5 =>
  (history_Of l_0 x5).bind fun r6 =>
  (aidx 2 q_2 0).bind fun x7 =>
  (ref20_Of l_0 x7).bind fun r8 =>
  (ref20_Same r6 r8).bind fun r9 =>
  (aidx 2 q_2 1).bind fun x10 =>
  (history_Behind l_0 x10).bind fun r11 =>
  (aidx 2 q_2 1).bind fun x12 =>
  (ref20_Behind l_0 x12).bind fun r13 =>
  (ref04_Same r11 r13).bind fun r14 =>
  if r9 then
    law20_tells_k2 l_0 key_1 r2 r14
  else
    law20_tells_k2 l_0 key_1 r2 false

def law20_tells_l4 (l_0 : (List Api_Event)) (key_1 : ByteArray) (q_2 : (List Int)) (r1 : (List Api_Stamp)) (r2 : (List Api_Stamp)) (again29 : Int → Option Bool) (v27 : Int) : Option Bool :=
  if decide (v27 < (r1.length : Int)) then
    (idx r1 v27).bind fun x32 =>
    (idx r2 v27).bind fun x33 =>
    if !(decide (x32.N = x33.N) && decide (x32.Site = x33.Site)) then
      some false
    else
      again29 (IntKind.wrap .i64 (v27 + 1))
  else
    law20_tells_k1 l_0 key_1 q_2 r2 ()

def law20_tells (l_0 : (List Api_Event)) (key_1 : ByteArray) (q_2 : (List Int)) : Option Bool :=
  (history_Writes l_0 key_1).bind fun r1 =>
  (ref20_Writes l_0 key_1).bind fun r2 =>
  if !decide ((r1.length : Int) = (r2.length : Int)) then
    some false
  else
    loopF (law20_tells_l4 l_0 key_1 q_2 r1 r2) FU 0

def law20_HistoryTurned_k1 (q_1 : Law20_Change) (key_2 : ByteArray) (r1 : Bool) (y3 : (List Api_Event)) : Option Bool :=
  if r1 then
    (law20_tells y3 key_2 ([q_1.To, q_1.At])).bind fun r5 =>
    some r5
  else
    some false

def law20_HistoryTurned_k2 (q_1 : Law20_Change) (key_2 : ByteArray) (r1 : Bool) (r2 : (List Api_Event)) (y11 : Int × Int × ByteArray × Int × Int × (List Api_Dep)) : Option Bool :=
  (sets r2 (Int.tmod (IntKind.wrap .i64 ((Int.tmod q_1.At (r2.length : Int)) + (r2.length : Int))) (r2.length : Int)) (Api_Event.mk y11.1 y11.2.1 y11.2.2.1 (Api_Stamp.mk y11.2.2.2.1 y11.2.2.2.2.1) y11.2.2.2.2.2)).bind fun l12 =>
  law20_HistoryTurned_k1 q_1 key_2 r1 l12

def law20_HistoryTurned (l_0 : (List Law20_Act)) (q_1 : Law20_Change) (key_2 : ByteArray) : Option Bool :=
  (law20_awake).bind fun r1 =>
  (law20_made l_0).bind fun r2 =>
  if decide (0 < (r2.length : Int)) then
    chk (!decide ((r2.length : Int) = 0)) (
    chk (!decide ((r2.length : Int) = 0)) (
    (idx r2 (Int.tmod (IntKind.wrap .i64 ((Int.tmod q_1.At (r2.length : Int)) + (r2.length : Int))) (r2.length : Int))).bind fun x10 =>
    if decide ((IntKind.wrap .i64 (BitVec.ofInt (IntKind.bits .i64) q_1.What &&& BitVec.ofInt (IntKind.bits .i64) 7).toNat) = 1) then
      law20_HistoryTurned_k2 q_1 key_2 r1 r2 (x10.Kind, x10.Client, x10.Key, q_1.Dep.Stamp.N, q_1.Dep.Stamp.Site, x10.Seen)
    else
      if decide ((IntKind.wrap .i64 (BitVec.ofInt (IntKind.bits .i64) q_1.What &&& BitVec.ofInt (IntKind.bits .i64) 7).toNat) = 2) then
        (law20_short q_1.Dep.Key).bind fun r16 =>
        law20_HistoryTurned_k2 q_1 key_2 r1 r2 (x10.Kind, x10.Client, r16, x10.Stamp.N, x10.Stamp.Site, x10.Seen)
      else
        if decide ((IntKind.wrap .i64 (BitVec.ofInt (IntKind.bits .i64) q_1.What &&& BitVec.ofInt (IntKind.bits .i64) 7).toNat) = 3) then
          law20_HistoryTurned_k2 q_1 key_2 r1 r2 (q_1.To, x10.Client, x10.Key, x10.Stamp.N, x10.Stamp.Site, x10.Seen)
        else
          if decide ((IntKind.wrap .i64 (BitVec.ofInt (IntKind.bits .i64) q_1.What &&& BitVec.ofInt (IntKind.bits .i64) 7).toNat) = 4) then
            law20_HistoryTurned_k2 q_1 key_2 r1 r2 (x10.Kind, q_1.To, x10.Key, x10.Stamp.N, x10.Stamp.Site, x10.Seen)
          else
            if decide ((IntKind.wrap .i64 (BitVec.ofInt (IntKind.bits .i64) q_1.What &&& BitVec.ofInt (IntKind.bits .i64) 7).toNat) = 5) then
              (law20_short q_1.Dep.Key).bind fun r20 =>
              (ref04_Add x10.Seen (Api_Dep.mk r20 q_1.Dep.Stamp)).bind fun r21 =>
              law20_HistoryTurned_k2 q_1 key_2 r1 r2 (x10.Kind, x10.Client, x10.Key, x10.Stamp.N, x10.Stamp.Site, r21)
            else
              if decide ((IntKind.wrap .i64 (BitVec.ofInt (IntKind.bits .i64) q_1.What &&& BitVec.ofInt (IntKind.bits .i64) 7).toNat) = 6) then
                law20_HistoryTurned_k2 q_1 key_2 r1 r2 (x10.Kind, x10.Client, x10.Key, x10.Stamp.N, x10.Stamp.Site, ([] : (List Api_Dep)))
              else
                law20_HistoryTurned_k2 q_1 key_2 r1 r2 (x10.Kind, x10.Client, x10.Key, x10.Stamp.N, x10.Stamp.Site, x10.Seen)))
  else
    law20_HistoryTurned_k1 q_1 key_2 r1 r2
end Go.Ark
