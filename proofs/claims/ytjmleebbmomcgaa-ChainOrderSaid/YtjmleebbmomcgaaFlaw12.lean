/- Typed functions, printed by a program of mine out of the translated code. -/
import Derived.Test.YtjmleebbmomcgaaFT
import Derived.Test.YtjmleebbmomcgaaFchain
import Derived.Test.YtjmleebbmomcgaaFref03
import Derived.Test.YtjmleebbmomcgaaFref06
import Derived.Test.YtjmleebbmomcgaaFref12
namespace Go.Ark
open Go Go.Ab

def law12_ver (n_0 : Int) : Option Api_Version :=
  some (Api_Version.mk (ByteArray.mk #[97]) ByteArray.empty false (Api_Stamp.mk n_0 0) ([] : (List Api_Dep)))

def law12_awake : Option Bool :=
  (law12_ver 1).bind fun r1 =>
  (law12_ver 3).bind fun r2 =>
  (law12_ver 4).bind fun r3 =>
  (law12_ver 7).bind fun r4 =>
  (chain_Clean ([r1, r2, r3, r4]) (Api_Stamp.mk 5 0) ([(Api_Stamp.mk 1 0)])).bind fun r5 =>
  (law12_ver 1).bind fun r6 =>
  (law12_ver 4).bind fun r7 =>
  (law12_ver 7).bind fun r8 =>
  (ref12_Same r5 ([r6, r7, r8])).bind fun r9 =>
  if r9 then
    (chain_Check ([r1, r2, r3, r4])).bind fun r11 =>
    some r11
  else
    some false

def law12_ChainChecks_k1 (r1 : Bool) (y2 : (List Api_Version)) : Option Bool :=
  if r1 then
    (chain_Check y2).bind fun r4 =>
    (ref12_Check y2).bind fun r5 =>
    some (r4 == r5)
  else
    some false

def law12_ChainChecks_k4 (again9 : Int × (List Api_Version) → Option Bool) (v7 : Int × (List Api_Version)) (x13 : Api_Version) (y14 : ByteArray) : Option Bool :=
  (app 80 v7.2 ([(Api_Version.mk x13.Key y14 x13.Gone x13.Stamp ([] : (List Api_Dep)))])).bind fun l15 =>
  again9 (IntKind.wrap .i64 (v7.1 + 1), l15)

def law12_ChainChecks_k3 (l_0 : (List Api_Version)) (r1 : Bool) (again9 : Int × (List Api_Version) → Option Bool) (v7 : Int × (List Api_Version)) (y11 : Bool) : Option Bool :=
  if y11 then
    (idx l_0 v7.1).bind fun x13 =>
    if decide (40 < (x13.Value.size : Int)) then
      (ssub x13.Value 0 40).bind fun s18 =>
      law12_ChainChecks_k4 again9 v7 x13 s18
    else
      law12_ChainChecks_k4 again9 v7 x13 x13.Value
  else
    law12_ChainChecks_k1 r1 v7.2

def law12_ChainChecks_l2 (l_0 : (List Api_Version)) (r1 : Bool) (again9 : Int × (List Api_Version) → Option Bool) (v7 : Int × (List Api_Version)) : Option Bool :=
  if decide (v7.1 < (l_0.length : Int)) then
    law12_ChainChecks_k3 l_0 r1 again9 v7 (decide (v7.1 < 8))
  else
    law12_ChainChecks_k3 l_0 r1 again9 v7 false

def law12_ChainChecks (l_0 : (List Api_Version)) : Option Bool :=
  (law12_awake).bind fun r1 =>
  loopF (law12_ChainChecks_l2 l_0 r1) FU (0, ([] : (List Api_Version)))

def law12_made_k1 (y1 : (List Api_Version)) : Option (List Api_Version) :=
  some y1

def law12_made_k3 (l_0 : (List Api_Stamp)) (again5 : (List Api_Version) × Int → Option (List Api_Version)) (v3 : (List Api_Version) × Int) (y7 : Bool) : Option (List Api_Version) :=
  if y7 then
    (idx l_0 v3.2).bind fun x9 =>
    (ref12_Put v3.1 (Api_Version.mk (ByteArray.mk #[97]) (bytesOf ([IntKind.wrap .u8 (IntKind.wrap .i64 (97 + v3.2))])) false x9 ([] : (List Api_Dep)))).bind fun r10 =>
    again5 (r10.1, IntKind.wrap .i64 (v3.2 + 1))
  else
    law12_made_k1 v3.1

def law12_made_l2 (l_0 : (List Api_Stamp)) (again5 : (List Api_Version) × Int → Option (List Api_Version)) (v3 : (List Api_Version) × Int) : Option (List Api_Version) :=
  if decide (v3.2 < (l_0.length : Int)) then
    law12_made_k3 l_0 again5 v3 (decide (v3.2 < 16))
  else
    law12_made_k3 l_0 again5 v3 false

def law12_made (l_0 : (List Api_Stamp)) : Option (List Api_Version) :=
  loopF (law12_made_l2 l_0) FU (([] : (List Api_Version)), 0)

def law12_ChainClean_k6 (r2 : (List Api_Version)) (r4 : (List Api_Version)) (y15 : Bool) : Option Bool :=
  if y15 then
    if decide ((r4.length : Int) ≤ (r2.length : Int)) then
      (chain_Check r4).bind fun r18 =>
      some r18
    else
      some false
  else
    some false

def law12_ChainClean_k5 (r2 : (List Api_Version)) (r4 : (List Api_Version)) (r12 : Bool) (y14 : Bool) : Option Bool :=
  if y14 then
    law12_ChainClean_k6 r2 r4 r12
  else
    law12_ChainClean_k6 r2 r4 false

def law12_ChainClean_k4 (r2 : (List Api_Version)) (r4 : (List Api_Version)) (r5 : (Api_Version × Bool)) (r6 : (Api_Version × Bool)) (r12 : Bool) (y13 : Bool) : Option Bool :=
  if y13 then
    law12_ChainClean_k5 r2 r4 r12 (r5.2 == r6.2)
  else
    law12_ChainClean_k5 r2 r4 r12 false

def law12_ChainClean_k3 (q_1 : Law12_Ask) (r1 : Bool) (r2 : (List Api_Version)) (y3 : (List Api_Stamp)) (r4 : (List Api_Version)) (r5 : (Api_Version × Bool)) (r6 : (Api_Version × Bool)) (r7 : Bool) (_y10 : Unit) : Option Bool :=
  (chain_Clean r4 q_1.Stable y3).bind fun r11 =>
  (ref12_Same r11 r4).bind fun r12 =>
  if r1 then
    law12_ChainClean_k4 r2 r4 r5 r6 r12 r7
  else
    law12_ChainClean_k4 r2 r4 r5 r6 r12 false

def law12_ChainClean_k2 (q_1 : Law12_Ask) (at_2 : Api_Stamp) (r1 : Bool) (r2 : (List Api_Version)) (y3 : (List Api_Stamp)) (r4 : (List Api_Version)) (r5 : (Api_Version × Bool)) (r6 : (Api_Version × Bool)) (r7 : Bool) (_y8 : Unit) : Option Bool :=
  (ref03_Less at_2 q_1.Stable).bind fun r9 =>
  if !r9 then
    (chain_Below r2 at_2).bind fun r27 =>
    (chain_Below r4 at_2).bind fun r28 =>
    (ref06_Same r27.1 r28.1).bind fun r29 =>
    if !(r27.2 == r28.2) then
      some false
    else
      if !r29 then
        some false
      else
        law12_ChainClean_k3 q_1 r1 r2 y3 r4 r5 r6 r7 ()
  else
    law12_ChainClean_k3 q_1 r1 r2 y3 r4 r5 r6 r7 ()

def law12_ChainClean_l7 (q_1 : Law12_Ask) (at_2 : Api_Stamp) (r1 : Bool) (r2 : (List Api_Version)) (y3 : (List Api_Stamp)) (r4 : (List Api_Version)) (r5 : (Api_Version × Bool)) (r6 : (Api_Version × Bool)) (r7 : Bool) (again35 : Int → Option Bool) (v33 : Int) : Option Bool :=
  if decide (v33 < (y3.length : Int)) then
    (idx y3 v33).bind fun x38 =>
    (chain_At r2 x38).bind fun r39 =>
    (idx y3 v33).bind fun x40 =>
    (chain_At r4 x40).bind fun r41 =>
    (ref06_Same r39.1 r41.1).bind fun r42 =>
    if !(r39.2 == r41.2) then
      some false
    else
      if !r42 then
        some false
      else
        again35 (IntKind.wrap .i64 (v33 + 1))
  else
    law12_ChainClean_k2 q_1 at_2 r1 r2 y3 r4 r5 r6 r7 ()

def law12_ChainClean_k1 (q_1 : Law12_Ask) (at_2 : Api_Stamp) (r1 : Bool) (r2 : (List Api_Version)) (y3 : (List Api_Stamp)) : Option Bool :=
  (chain_Clean r2 q_1.Stable y3).bind fun r4 =>
  (chain_Head r2).bind fun r5 =>
  (chain_Head r4).bind fun r6 =>
  (ref06_Same r5.1 r6.1).bind fun r7 =>
  loopF (law12_ChainClean_l7 q_1 at_2 r1 r2 y3 r4 r5 r6 r7) FU 0

def law12_ChainClean (l_0 : (List Api_Stamp)) (q_1 : Law12_Ask) (at_2 : Api_Stamp) : Option Bool :=
  (law12_awake).bind fun r1 =>
  (law12_made l_0).bind fun r2 =>
  if decide (8 < (q_1.Pins.length : Int)) then
    (sub q_1.Pins 0 8).bind fun l47 =>
    law12_ChainClean_k1 q_1 at_2 r1 r2 l47
  else
    law12_ChainClean_k1 q_1 at_2 r1 r2 q_1.Pins

def law12_ChainBelow_k3 (y9 : Bool) : Option Bool :=
  some y9

def law12_ChainBelow_k2 (r1 : Bool) (r2 : (List Api_Version)) (r3 : (Api_Version × Bool)) (y5 : Bool) : Option Bool :=
  if y5 then
    some false
  else
    (chain_Head r2).bind fun r7 =>
    if !r7.2 then
      if r1 then
        law12_ChainBelow_k3 (!r3.2)
      else
        law12_ChainBelow_k3 false
    else
      (chain_Below r2 r7.1.Stamp).bind fun r12 =>
      (ref06_Same r7.1 r12.1).bind fun r13 =>
      if r1 then
        if r12.2 then
          some r13
        else
          some false
      else
        some false

def law12_ChainBelow_k1 (s_1 : Api_Stamp) (r1 : Bool) (r2 : (List Api_Version)) (r3 : (Api_Version × Bool)) (_y4 : Unit) : Option Bool :=
  if r3.2 then
    (ref03_Less s_1 r3.1.Stamp).bind fun r18 =>
    law12_ChainBelow_k2 r1 r2 r3 r18
  else
    law12_ChainBelow_k2 r1 r2 r3 false

def law12_ChainBelow_l4 (s_1 : Api_Stamp) (r1 : Bool) (r2 : (List Api_Version)) (r3 : (Api_Version × Bool)) (again22 : Int → Option Bool) (v20 : Int) : Option Bool :=
  if decide (v20 < (r2.length : Int)) then
    (idx r2 v20).bind fun x25 =>
    (ref03_Less s_1 x25.Stamp).bind fun r26 =>
    if !r26 then
      if !r3.2 then
        some false
      else
        (idx r2 v20).bind fun x29 =>
        (ref03_Less r3.1.Stamp x29.Stamp).bind fun r30 =>
        if r30 then
          some false
        else
          again22 (IntKind.wrap .i64 (v20 + 1))
    else
      again22 (IntKind.wrap .i64 (v20 + 1))
  else
    law12_ChainBelow_k1 s_1 r1 r2 r3 ()

def law12_ChainBelow (l_0 : (List Api_Stamp)) (s_1 : Api_Stamp) : Option Bool :=
  (law12_awake).bind fun r1 =>
  (law12_made l_0).bind fun r2 =>
  (chain_Below r2 s_1).bind fun r3 =>
  loopF (law12_ChainBelow_l4 s_1 r1 r2 r3) FU 0

def law12_ChainPins_k2 (r1 : Bool) (r2 : (List Api_Version)) (r5 : Bool) (r6 : (List Api_Version)) (r8 : Bool) (y9 : Int) : Option Bool :=
  if r1 then
    if r5 then
      if r8 then
        if decide ((r6.length : Int) = y9) then
          if decide (y9 = 0) then
            some true
          else
            (idx r6 0).bind fun x15 =>
            (idx r2 (IntKind.wrap .i64 ((r2.length : Int) - 1))).bind fun x16 =>
            some (decide (x15.Stamp.N = x16.Stamp.N) && decide (x15.Stamp.Site = x16.Stamp.Site))
        else
          some false
      else
        some false
    else
      some false
  else
    some false

def law12_ChainPins_k1 (r1 : Bool) (r2 : (List Api_Version)) (y3 : (List Api_Stamp)) : Option Bool :=
  (chain_Clean r2 (Api_Stamp.mk 1099511627777 0) y3).bind fun r4 =>
  (ref12_Same r4 r2).bind fun r5 =>
  (chain_Clean r2 (Api_Stamp.mk 1099511627777 0) ([] : (List Api_Stamp))).bind fun r6 =>
  (chain_Clean r2 (Api_Stamp.mk 0 0) ([] : (List Api_Stamp))).bind fun r7 =>
  (ref12_Same r7 r2).bind fun r8 =>
  if decide (0 < (r2.length : Int)) then
    law12_ChainPins_k2 r1 r2 r5 r6 r8 1
  else
    law12_ChainPins_k2 r1 r2 r5 r6 r8 0

def law12_ChainPins_l3 (r1 : Bool) (r2 : (List Api_Version)) (again22 : Int × (List Api_Stamp) → Option Bool) (v20 : Int × (List Api_Stamp)) : Option Bool :=
  if decide (v20.1 < (r2.length : Int)) then
    (idx r2 v20.1).bind fun x25 =>
    (app 16 v20.2 ([x25.Stamp])).bind fun l26 =>
    again22 (IntKind.wrap .i64 (v20.1 + 1), l26)
  else
    law12_ChainPins_k1 r1 r2 v20.2

def law12_ChainPins (l_0 : (List Api_Stamp)) : Option Bool :=
  (law12_awake).bind fun r1 =>
  (law12_made l_0).bind fun r2 =>
  loopF (law12_ChainPins_l3 r1 r2) FU (0, ([] : (List Api_Stamp)))

def law12_ChainOrder_k5 (y3 : (List Api_Version) × (List Api_Version) × Int × Int) (r4 : (Api_Version × Bool)) (y8 : Bool) : Option Bool :=
  if y8 then
    some (decide (r4.1.Stamp.N = y3.2.2.1) && decide (r4.1.Stamp.Site = y3.2.2.2))
  else
    some false

def law12_ChainOrder_k4 (y3 : (List Api_Version) × (List Api_Version) × Int × Int) (r4 : (Api_Version × Bool)) (y7 : Bool) : Option Bool :=
  if y7 then
    law12_ChainOrder_k5 y3 r4 (r4.2 == (decide (0 < y3.2.2.1)))
  else
    law12_ChainOrder_k5 y3 r4 false

def law12_ChainOrder_k3 (y3 : (List Api_Version) × (List Api_Version) × Int × Int) (r4 : (Api_Version × Bool)) (y6 : Bool) : Option Bool :=
  if y6 then
    (chain_Check y3.1).bind fun r14 =>
    law12_ChainOrder_k4 y3 r4 r14
  else
    law12_ChainOrder_k4 y3 r4 false

def law12_ChainOrder_k2 (r1 : Bool) (y3 : (List Api_Version) × (List Api_Version) × Int × Int) : Option Bool :=
  (chain_Head y3.1).bind fun r4 =>
  (ref12_Same y3.1 y3.2.1).bind fun r5 =>
  if r1 then
    law12_ChainOrder_k3 y3 r4 r5
  else
    law12_ChainOrder_k3 y3 r4 false

def law12_ChainOrder_k8 (l_0 : (List Api_Stamp)) (again20 : (List Api_Version) × (List Api_Version) × Int × Int × Int → Option Bool) (v18 : (List Api_Version) × (List Api_Version) × Int × Int × Int) (r24 : ((List Api_Version) × Bool)) (r30 : ((List Api_Version) × Bool)) (y31 : Bool) : Option Bool :=
  if y31 then
    (idx l_0 v18.2.2.1).bind fun x33 =>
    again20 (r24.1, r30.1, IntKind.wrap .i64 (v18.2.2.1 + 1), x33.N, x33.Site)
  else
    again20 (r24.1, r30.1, IntKind.wrap .i64 (v18.2.2.1 + 1), v18.2.2.2.1, v18.2.2.2.2)

def law12_ChainOrder_k7 (l_0 : (List Api_Stamp)) (y2 : Int) (again20 : (List Api_Version) × (List Api_Version) × Int × Int × Int → Option Bool) (v18 : (List Api_Version) × (List Api_Version) × Int × Int × Int) (r24 : ((List Api_Version) × Bool)) (r26 : Bool) (y27 : Bool) : Option Bool :=
  if y27 then
    some false
  else
    (idx l_0 (IntKind.wrap .i64 ((IntKind.wrap .i64 (y2 - 1)) - v18.2.2.1))).bind fun x29 =>
    (chain_Put v18.2.1 (Api_Version.mk (ByteArray.mk #[97]) ByteArray.empty false x29 ([] : (List Api_Dep)))).bind fun r30 =>
    if r26 then
      (idx l_0 v18.2.2.1).bind fun x36 =>
      (ref03_Less (Api_Stamp.mk v18.2.2.2.1 v18.2.2.2.2) x36).bind fun r37 =>
      law12_ChainOrder_k8 l_0 again20 v18 r24 r30 r37
    else
      law12_ChainOrder_k8 l_0 again20 v18 r24 r30 false

def law12_ChainOrder_l6 (l_0 : (List Api_Stamp)) (r1 : Bool) (y2 : Int) (again20 : (List Api_Version) × (List Api_Version) × Int × Int × Int → Option Bool) (v18 : (List Api_Version) × (List Api_Version) × Int × Int × Int) : Option Bool :=
  if decide (v18.2.2.1 < y2) then
    (idx l_0 v18.2.2.1).bind fun x23 =>
    (chain_Put v18.1 (Api_Version.mk (ByteArray.mk #[97]) ByteArray.empty false x23 ([] : (List Api_Dep)))).bind fun r24 =>
    (idx l_0 v18.2.2.1).bind fun x25 =>
    (ref03_Check x25).bind fun r26 =>
    if r24.2 then
      law12_ChainOrder_k7 l_0 y2 again20 v18 r24 r26 (!r26)
    else
      law12_ChainOrder_k7 l_0 y2 again20 v18 r24 r26 false
  else
    law12_ChainOrder_k2 r1 (v18.1, v18.2.1, v18.2.2.2.1, v18.2.2.2.2)

def law12_ChainOrder_k1 (l_0 : (List Api_Stamp)) (r1 : Bool) (y2 : Int) : Option Bool :=
  loopF (law12_ChainOrder_l6 l_0 r1 y2) FU (([] : (List Api_Version)), ([] : (List Api_Version)), 0, 0, 0)

def law12_ChainOrder (l_0 : (List Api_Stamp)) : Option Bool :=
  (law12_awake).bind fun r1 =>
  if decide (10 < (l_0.length : Int)) then
    law12_ChainOrder_k1 l_0 r1 10
  else
    law12_ChainOrder_k1 l_0 r1 (l_0.length : Int)
end Go.Ark
