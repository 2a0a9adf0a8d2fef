/- Typed functions, printed by a program of mine out of the translated code. -/
import Derived.Test.YtdngcojjipaajaaFT
import Derived.Test.YtdngcojjipaajaaFhistory
import Derived.Test.YtdngcojjipaajaaFref03
import Derived.Test.YtdngcojjipaajaaFref04
import Derived.Test.YtdngcojjipaajaaFref20
namespace Go.Ark
open Go Go.Ab

def law20_awake : Option Bool :=
  (history_Check ([(Api_Event.mk 1 0 (ByteArray.mk #[97]) (Api_Stamp.mk 1 0) ([] : (List Api_Dep))), (Api_Event.mk 2 1 (ByteArray.mk #[97]) (Api_Stamp.mk 1 0) ([(Api_Dep.mk (ByteArray.mk #[97]) (Api_Stamp.mk 2 0))]))])).bind fun r1 =>
  if decide (r1 = 1) then
    (sub ([(Api_Event.mk 1 0 (ByteArray.mk #[97]) (Api_Stamp.mk 1 0) ([] : (List Api_Dep))), (Api_Event.mk 2 1 (ByteArray.mk #[97]) (Api_Stamp.mk 1 0) ([(Api_Dep.mk (ByteArray.mk #[97]) (Api_Stamp.mk 2 0))]))]) 0 1).bind fun l3 =>
    (history_Check l3).bind fun r4 =>
    some (decide (r4 = (-1)))
  else
    some false

def law20_short (s_0 : ByteArray) : Option ByteArray :=
  if decide (12 < (s_0.size : Int)) then
    (ssub s_0 0 12).bind fun s2 =>
    some s2
  else
    some s_0

def law20_few_k1 (y1 : (List Api_Event)) : Option (List Api_Event) :=
  some y1

def law20_few_k4 (again5 : Int × (List Api_Event) → Option (List Api_Event)) (v3 : Int × (List Api_Event)) (y9 : (List Api_Event)) : Option (List Api_Event) :=
  again5 (IntKind.wrap .i64 (v3.1 + 1), y9)

def law20_few_k5 (again5 : Int × (List Api_Event) → Option (List Api_Event)) (v3 : Int × (List Api_Event)) (x11 : Api_Event) (r12 : ByteArray) (y13 : (List Api_Dep)) : Option (List Api_Event) :=
  (app 72 v3.2 ([(Api_Event.mk x11.Kind x11.Client r12 x11.Stamp y13)])).bind fun l14 =>
  law20_few_k4 again5 v3 l14

def law20_few_k7 (again5 : Int × (List Api_Event) → Option (List Api_Event)) (v3 : Int × (List Api_Event)) (x11 : Api_Event) (r12 : ByteArray) (again18 : (List Api_Dep) × Int → Option (List Api_Event)) (v16 : (List Api_Dep) × Int) (y20 : Bool) : Option (List Api_Event) :=
  if y20 then
    (idx x11.Seen v16.2).bind fun x22 =>
    (law20_short x22.Key).bind fun r23 =>
    (idx x11.Seen v16.2).bind fun x24 =>
    (ref04_Add v16.1 (Api_Dep.mk r23 x24.Stamp)).bind fun r25 =>
    again18 (r25, IntKind.wrap .i64 (v16.2 + 1))
  else
    law20_few_k5 again5 v3 x11 r12 v16.1

def law20_few_l6 (again5 : Int × (List Api_Event) → Option (List Api_Event)) (v3 : Int × (List Api_Event)) (x11 : Api_Event) (r12 : ByteArray) (again18 : (List Api_Dep) × Int → Option (List Api_Event)) (v16 : (List Api_Dep) × Int) : Option (List Api_Event) :=
  if decide (v16.2 < (x11.Seen.length : Int)) then
    law20_few_k7 again5 v3 x11 r12 again18 v16 (decide (v16.2 < 5))
  else
    law20_few_k7 again5 v3 x11 r12 again18 v16 false

def law20_few_k3 (l_0 : (List Api_Event)) (again5 : Int × (List Api_Event) → Option (List Api_Event)) (v3 : Int × (List Api_Event)) (y7 : Bool) : Option (List Api_Event) :=
  if y7 then
    (idx l_0 v3.1).bind fun x11 =>
    (law20_short x11.Key).bind fun r12 =>
    loopF (law20_few_l6 again5 v3 x11 r12) FU (([] : (List Api_Dep)), 0)
  else
    law20_few_k1 v3.2

def law20_few_l2 (l_0 : (List Api_Event)) (again5 : Int × (List Api_Event) → Option (List Api_Event)) (v3 : Int × (List Api_Event)) : Option (List Api_Event) :=
  if decide (v3.1 < (l_0.length : Int)) then
    law20_few_k3 l_0 again5 v3 (decide (v3.1 < 14))
  else
    law20_few_k3 l_0 again5 v3 false

def law20_few (l_0 : (List Api_Event)) : Option (List Api_Event) :=
  loopF (law20_few_l2 l_0) FU (0, ([] : (List Api_Event)))

def law20_tells_k3 (l_0 : (List Api_Event)) (key_1 : ByteArray) (r2 : (List Api_Stamp)) (y16 : Bool) : Option Bool :=
  if y16 then
    (history_Greatest l_0 key_1).bind fun r18 =>
    (ref03_Max r2).bind fun r19 =>
    some (decide (r18.N = r19.N) && decide (r18.Site = r19.Site))
  else
    some false

def law20_tells_k2 (l_0 : (List Api_Event)) (key_1 : ByteArray) (r2 : (List Api_Stamp)) (y15 : Bool) : Option Bool :=
  if y15 then
    (history_Check l_0).bind fun r22 =>
    (ref20_Check l_0).bind fun r23 =>
    law20_tells_k3 l_0 key_1 r2 (decide (r22 = r23))
  else
    law20_tells_k3 l_0 key_1 r2 false

def law20_tells_k1 (l_0 : (List Api_Event)) (key_1 : ByteArray) (q_2 : (List Int)) (r2 : (List Api_Stamp)) (_y4 : Unit) : Option Bool :=
  (aidx 2 q_2 0).bind fun x5 =>
  (history_Of l_0 x5).bind fun r6 =>
  (aidx 2 q_2 0).bind fun x7 =>
  (ref20_Of l_0 x7).bind fun r8 =>
  (ref20_Same r6 r8).bind fun r9 =>
  (aidx 2 q_2 1).bind fun x10 =>
  (history_Behind l_0 x10).bind fun r11 =>
  (aidx 2 q_2 1).bind fun x12 =>
  (ref20_Behind l_0 x12).bind fun r13 =>
  (ref04_Same r11 r13).bind fun r14 =>
  if r9 then
    law20_tells_k2 l_0 key_1 r2 r14
  else
    law20_tells_k2 l_0 key_1 r2 false

def law20_tells_l4 (l_0 : (List Api_Event)) (key_1 : ByteArray) (q_2 : (List Int)) (r1 : (List Api_Stamp)) (r2 : (List Api_Stamp)) (again29 : Int → Option Bool) (v27 : Int) : Option Bool :=
  if decide (v27 < (r1.length : Int)) then
    (idx r1 v27).bind fun x32 =>
    (idx r2 v27).bind fun x33 =>
    if !(decide (x32.N = x33.N) && decide (x32.Site = x33.Site)) then
      some false
    else
      again29 (IntKind.wrap .i64 (v27 + 1))
  else
    law20_tells_k1 l_0 key_1 q_2 r2 ()

def law20_tells (l_0 : (List Api_Event)) (key_1 : ByteArray) (q_2 : (List Int)) : Option Bool :=
  (history_Writes l_0 key_1).bind fun r1 =>
  (ref20_Writes l_0 key_1).bind fun r2 =>
  if !decide ((r1.length : Int) = (r2.length : Int)) then
    some false
  else
    loopF (law20_tells_l4 l_0 key_1 q_2 r1 r2) FU 0

def law20_HistoryTells (l_0 : (List Api_Event)) (key_1 : ByteArray) (q_2 : (List Int)) : Option Bool :=
  (law20_awake).bind fun r1 =>
  if r1 then
    (law20_few l_0).bind fun r3 =>
    chk (decide (q_2.length = 2)) (
    (law20_tells r3 key_1 q_2).bind fun r5 =>
    some r5)
  else
    some false
end Go.Ark
