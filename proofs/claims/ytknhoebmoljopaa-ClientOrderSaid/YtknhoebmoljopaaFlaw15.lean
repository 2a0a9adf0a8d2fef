/- Typed functions, printed by a program of mine out of the translated code. -/
import Derived.Test.YtknhoebmoljopaaFT
import Derived.Test.YtknhoebmoljopaaFclient
import Derived.Test.YtknhoebmoljopaaFref02
import Derived.Test.YtknhoebmoljopaaFref03
import Derived.Test.YtknhoebmoljopaaFref04
import Derived.Test.YtknhoebmoljopaaFref15
namespace Go.Ark
open Go Go.Ab

def law15_awake_k2 (r2 : Api_Session) (y6 : Bool) : Option Bool :=
  if y6 then
    (client_May r2 ([] : (List Api_Dep)) ([(Api_Range.mk (ByteArray.mk #[98]) ByteArray.empty)])).bind fun r8 =>
    some r8
  else
    some false

def law15_awake_k1 (r2 : Api_Session) (r4 : (Api_Session × Int)) (y5 : Bool) : Option Bool :=
  if y5 then
    law15_awake_k2 r2 (decide (r4.1.Site = 1))
  else
    law15_awake_k2 r2 false

def law15_awake : Option Bool :=
  (client_New (-1)).bind fun r1 =>
  (client_Saw r1 ([(Api_Version.mk (ByteArray.mk #[97]) ByteArray.empty false (Api_Stamp.mk 3 0) ([] : (List Api_Dep)))])).bind fun r2 =>
  (client_Enter r2 1 ([(Api_Dep.mk (ByteArray.mk #[97]) (Api_Stamp.mk 2 0))]) ([(Api_Range.mk ByteArray.empty ByteArray.empty)])).bind fun r3 =>
  (client_Enter r2 1 ([(Api_Dep.mk (ByteArray.mk #[97]) (Api_Stamp.mk 3 0))]) ([(Api_Range.mk ByteArray.empty ByteArray.empty)])).bind fun r4 =>
  if decide (r3.2 = 17) then
    law15_awake_k1 r2 r4 (decide (r4.2 = 0))
  else
    law15_awake_k1 r2 r4 false

def law15_row_k1 (y1 : (List Api_Dep)) : Option (List Api_Dep) :=
  some y1

def law15_row_k4 (again5 : (List Api_Dep) × Int → Option (List Api_Dep)) (v3 : (List Api_Dep) × Int) (x9 : Api_Dep) (y10 : ByteArray) : Option (List Api_Dep) :=
  (ref04_Add v3.1 (Api_Dep.mk y10 x9.Stamp)).bind fun r11 =>
  again5 (r11, IntKind.wrap .i64 (v3.2 + 1))

def law15_row_k3 (l_0 : (List Api_Dep)) (again5 : (List Api_Dep) × Int → Option (List Api_Dep)) (v3 : (List Api_Dep) × Int) (y7 : Bool) : Option (List Api_Dep) :=
  if y7 then
    (idx l_0 v3.2).bind fun x9 =>
    if decide (12 < (x9.Key.size : Int)) then
      (ssub x9.Key 0 12).bind fun s14 =>
      law15_row_k4 again5 v3 x9 s14
    else
      law15_row_k4 again5 v3 x9 x9.Key
  else
    law15_row_k1 v3.1

def law15_row_l2 (l_0 : (List Api_Dep)) (again5 : (List Api_Dep) × Int → Option (List Api_Dep)) (v3 : (List Api_Dep) × Int) : Option (List Api_Dep) :=
  if decide (v3.2 < (l_0.length : Int)) then
    law15_row_k3 l_0 again5 v3 (decide (v3.2 < 6))
  else
    law15_row_k3 l_0 again5 v3 false

def law15_row (l_0 : (List Api_Dep)) : Option (List Api_Dep) :=
  loopF (law15_row_l2 l_0) FU (([] : (List Api_Dep)), 0)

def law15_few_k1 (y1 : (List Api_Version)) : Option (List Api_Version) :=
  some y1

def law15_few_k4 (again5 : Int × (List Api_Version) → Option (List Api_Version)) (v3 : Int × (List Api_Version)) (x9 : Api_Version) (y10 : ByteArray) : Option (List Api_Version) :=
  (law15_row x9.Past).bind fun r11 =>
  (app 80 v3.2 ([(Api_Version.mk y10 x9.Value x9.Gone x9.Stamp r11)])).bind fun l12 =>
  again5 (IntKind.wrap .i64 (v3.1 + 1), l12)

def law15_few_k3 (l_0 : (List Api_Version)) (again5 : Int × (List Api_Version) → Option (List Api_Version)) (v3 : Int × (List Api_Version)) (y7 : Bool) : Option (List Api_Version) :=
  if y7 then
    (idx l_0 v3.1).bind fun x9 =>
    if decide (12 < (x9.Key.size : Int)) then
      (ssub x9.Key 0 12).bind fun s15 =>
      law15_few_k4 again5 v3 x9 s15
    else
      law15_few_k4 again5 v3 x9 x9.Key
  else
    law15_few_k1 v3.2

def law15_few_l2 (l_0 : (List Api_Version)) (again5 : Int × (List Api_Version) → Option (List Api_Version)) (v3 : Int × (List Api_Version)) : Option (List Api_Version) :=
  if decide (v3.1 < (l_0.length : Int)) then
    law15_few_k3 l_0 again5 v3 (decide (v3.1 < 4))
  else
    law15_few_k3 l_0 again5 v3 false

def law15_few (l_0 : (List Api_Version)) : Option (List Api_Version) :=
  loopF (law15_few_l2 l_0) FU (0, ([] : (List Api_Version)))

def law15_ClientOrder_k1 (r1 : Bool) (r4 : Api_Session) (y5 : Int × (List Api_Dep) × Int × (List Api_Dep)) : Option Bool :=
  (ref15_Same (Api_Session.mk y5.1 y5.2.1) r4).bind fun r6 =>
  (ref15_Same (Api_Session.mk y5.2.2.1 y5.2.2.2) r4).bind fun r7 =>
  if r1 then
    if r6 then
      some r7
    else
      some false
  else
    some false

def law15_ClientOrder_l2 (r1 : Bool) (r3 : (List Api_Version)) (r4 : Api_Session) (again13 : Int × Int × (List Api_Dep) × Int × (List Api_Dep) → Option Bool) (v11 : Int × Int × (List Api_Dep) × Int × (List Api_Dep)) : Option Bool :=
  if decide (v11.1 < (r3.length : Int)) then
    (idx r3 v11.1).bind fun x16 =>
    (client_Saw (Api_Session.mk v11.2.1 v11.2.2.1) ([x16])).bind fun r17 =>
    (idx r3 (IntKind.wrap .i64 ((IntKind.wrap .i64 ((r3.length : Int) - 1)) - v11.1))).bind fun x18 =>
    (client_Saw (Api_Session.mk v11.2.2.2.1 v11.2.2.2.2) ([x18])).bind fun r19 =>
    again13 (IntKind.wrap .i64 (v11.1 + 1), r17.Site, r17.Past, r19.Site, r19.Past)
  else
    law15_ClientOrder_k1 r1 r4 (v11.2.1, v11.2.2.1, v11.2.2.2.1, v11.2.2.2.2)

def law15_ClientOrder (q_0 : Law15_Ask) : Option Bool :=
  (law15_awake).bind fun r1 =>
  (law15_row q_0.Past).bind fun r2 =>
  (law15_few q_0.Versions).bind fun r3 =>
  (client_Saw (Api_Session.mk 0 r2) r3).bind fun r4 =>
  loopF (law15_ClientOrder_l2 r1 r3 r4) FU (0, 0, r2, 0, r2)

def law15_ClientMay_k1 (y8 : Bool) : Option Bool :=
  some y8

def law15_ClientMay_k3 (r3 : (List Api_Dep)) (y16 : Bool) : Option Bool :=
  if y16 then
    (client_May (Api_Session.mk 0 ([] : (List Api_Dep))) r3 ([(Api_Range.mk ByteArray.empty ByteArray.empty)])).bind fun r18 =>
    some r18
  else
    some false

def law15_ClientMay_k2 (r_1 : Api_Range) (r2 : (List Api_Dep)) (r3 : (List Api_Dep)) (y15 : Bool) : Option Bool :=
  if y15 then
    (client_May (Api_Session.mk 0 r2) r3 ([r_1])).bind fun r21 =>
    law15_ClientMay_k3 r3 r21
  else
    law15_ClientMay_k3 r3 false

def law15_ClientMay (q_0 : Law15_Ask) (r_1 : Api_Range) (more_2 : (List Api_Dep)) : Option Bool :=
  (law15_awake).bind fun r1 =>
  (law15_row q_0.Past).bind fun r2 =>
  (law15_row q_0.Have).bind fun r3 =>
  (law15_row more_2).bind fun r4 =>
  (ref04_Merge ([r3, r4])).bind fun r5 =>
  (client_May (Api_Session.mk 0 r2) r3 ([(Api_Range.mk ByteArray.empty ByteArray.empty)])).bind fun r6 =>
  if !r6 then
    if r1 then
      (client_May (Api_Session.mk 0 r2) r3 ([] : (List Api_Range))).bind fun r11 =>
      if r11 then
        (ref04_Merge ([r3, r2])).bind fun r13 =>
        (client_May (Api_Session.mk 0 r2) r13 ([(Api_Range.mk ByteArray.empty ByteArray.empty)])).bind fun r14 =>
        law15_ClientMay_k1 r14
      else
        law15_ClientMay_k1 false
    else
      law15_ClientMay_k1 false
  else
    if r1 then
      (client_May (Api_Session.mk 0 r2) r5 ([(Api_Range.mk ByteArray.empty ByteArray.empty)])).bind fun r24 =>
      law15_ClientMay_k2 r_1 r2 r3 r24
    else
      law15_ClientMay_k2 r_1 r2 r3 false

def law15_ClientFits_k1 (v_1 : Api_Version) (r1 : Bool) (r2 : (List Api_Dep)) (_y3 : Unit) : Option Bool :=
  (ref04_Get r2 v_1.Key).bind fun r4 =>
  if r1 then
    (client_Fits (Api_Session.mk 0 r2) v_1).bind fun r6 =>
    (ref03_Less v_1.Stamp r4).bind fun r7 =>
    some (r6 == (!r7))
  else
    some false

def law15_ClientFits_k3 (r2 : (List Api_Dep)) (again11 : Int → Option Bool) (v9 : Int) (x14 : Api_Dep) (y16 : Bool) : Option Bool :=
  if y16 then
    some false
  else
    (client_Fits (Api_Session.mk 0 r2) (Api_Version.mk x14.Key ByteArray.empty false (Api_Stamp.mk (IntKind.wrap .i64 (x14.Stamp.N - 1)) x14.Stamp.Site) ([] : (List Api_Dep)))).bind fun r18 =>
    if r18 then
      some false
    else
      again11 (IntKind.wrap .i64 (v9 + 1))

def law15_ClientFits_l2 (v_1 : Api_Version) (r1 : Bool) (r2 : (List Api_Dep)) (again11 : Int → Option Bool) (v9 : Int) : Option Bool :=
  if decide (v9 < (r2.length : Int)) then
    (idx r2 v9).bind fun x14 =>
    (client_Fits (Api_Session.mk 0 r2) (Api_Version.mk x14.Key ByteArray.empty false x14.Stamp ([] : (List Api_Dep)))).bind fun r15 =>
    if !r15 then
      law15_ClientFits_k3 r2 again11 v9 x14 true
    else
      (client_Fits (Api_Session.mk 0 r2) (Api_Version.mk x14.Key ByteArray.empty false (Api_Stamp.mk (IntKind.wrap .i64 (x14.Stamp.N + 1)) x14.Stamp.Site) ([] : (List Api_Dep)))).bind fun r22 =>
      law15_ClientFits_k3 r2 again11 v9 x14 (!r22)
  else
    law15_ClientFits_k1 v_1 r1 r2 ()

def law15_ClientFits (q_0 : Law15_Ask) (v_1 : Api_Version) : Option Bool :=
  (law15_awake).bind fun r1 =>
  (law15_row q_0.Past).bind fun r2 =>
  loopF (law15_ClientFits_l2 v_1 r1 r2) FU 0

def law15_ranges (l_0 : (List Api_Range)) : Option (List Api_Range) :=
  if decide (4 < (l_0.length : Int)) then
    (sub l_0 0 4).bind fun l2 =>
    some l2
  else
    some l_0

def law15_ClientEnters_k2 (y12 : Bool) : Option Bool :=
  some y12

def law15_ClientEnters_k3 (r3 : Api_Session) (r4 : (List Api_Dep)) (r5 : (List Api_Range)) (y14 : Bool) : Option Bool :=
  if y14 then
    (client_May r3 r4 r5).bind fun r16 =>
    law15_ClientEnters_k2 (!r16)
  else
    law15_ClientEnters_k2 false

def law15_ClientEnters_k5 (r20 : (Api_Session × Int)) (r21 : Bool) (y22 : Bool) : Option Bool :=
  if y22 then
    if r21 then
      some (decide (r20.2 = 13))
    else
      some false
  else
    some false

def law15_ClientEnters_k4 (site_1 : Int) (r1 : Bool) (r3 : Api_Session) (r4 : (List Api_Dep)) (r5 : (List Api_Range)) (r6 : (Api_Session × Int)) (_y19 : Unit) : Option Bool :=
  (client_Enter r6.1 (Int.tmod (IntKind.wrap .i64 ((Int.tmod site_1 6) + 6)) 6) r4 r5).bind fun r20 =>
  (ref04_Same r6.1.Past r3.Past).bind fun r21 =>
  if r1 then
    law15_ClientEnters_k5 r20 r21 (decide (r6.1.Site = (Int.tmod (IntKind.wrap .i64 ((Int.tmod site_1 6) + 6)) 6)))
  else
    law15_ClientEnters_k5 r20 r21 false

def law15_ClientEnters_l6 (site_1 : Int) (r1 : Bool) (r3 : Api_Session) (r4 : (List Api_Dep)) (r5 : (List Api_Range)) (r6 : (Api_Session × Int)) (again30 : Int → Option Bool) (v28 : Int) : Option Bool :=
  if decide (v28 < (r3.Past.length : Int)) then
    (idx r3.Past v28).bind fun x33 =>
    (ref02_Find r5 x33.Key).bind fun r34 =>
    if decide (0 ≤ r34) then
      (ref04_Get r4 x33.Key).bind fun r36 =>
      (ref03_Less r36 x33.Stamp).bind fun r37 =>
      if r37 then
        some false
      else
        again30 (IntKind.wrap .i64 (v28 + 1))
    else
      again30 (IntKind.wrap .i64 (v28 + 1))
  else
    law15_ClientEnters_k4 site_1 r1 r3 r4 r5 r6 ()

def law15_ClientEnters_k1 (site_1 : Int) (r1 : Bool) (r3 : Api_Session) (r4 : (List Api_Dep)) (r5 : (List Api_Range)) (r6 : (Api_Session × Int)) (y9 : Bool) : Option Bool :=
  if y9 then
    some false
  else
    if !decide (r6.2 = 0) then
      if r1 then
        law15_ClientEnters_k3 r3 r4 r5 (decide (r6.2 = 17))
      else
        law15_ClientEnters_k3 r3 r4 r5 false
    else
      loopF (law15_ClientEnters_l6 site_1 r1 r3 r4 r5 r6) FU 0

def law15_ClientEnters (q_0 : Law15_Ask) (site_1 : Int) : Option Bool :=
  (law15_awake).bind fun r1 =>
  (law15_row q_0.Past).bind fun r2 =>
  (client_Leave (Api_Session.mk 0 r2)).bind fun r3 =>
  (law15_row q_0.Have).bind fun r4 =>
  (law15_ranges q_0.Own).bind fun r5 =>
  (client_Enter r3 (Int.tmod (IntKind.wrap .i64 ((Int.tmod site_1 6) + 6)) 6) r4 r5).bind fun r6 =>
  (client_New (-1)).bind fun r7 =>
  (client_Enter r7 (Int.tmod (IntKind.wrap .i64 ((Int.tmod site_1 6) + 6)) 6) r4 r5).bind fun r8 =>
  if !decide (r8.2 = 0) then
    law15_ClientEnters_k1 site_1 r1 r3 r4 r5 r6 true
  else
    law15_ClientEnters_k1 site_1 r1 r3 r4 r5 r6 (!decide (r8.1.Site = (Int.tmod (IntKind.wrap .i64 ((Int.tmod site_1 6) + 6)) 6)))
end Go.Ark
