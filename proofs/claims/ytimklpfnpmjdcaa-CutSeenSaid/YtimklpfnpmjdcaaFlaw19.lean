/- Typed functions, printed by a program of mine out of the translated code. -/
import Derived.Test.YtimklpfnpmjdcaaFT
import Derived.Test.YtimklpfnpmjdcaaFcut
import Derived.Test.YtimklpfnpmjdcaaFref02
import Derived.Test.YtimklpfnpmjdcaaFref03
import Derived.Test.YtimklpfnpmjdcaaFref04
import Derived.Test.YtimklpfnpmjdcaaFref19
namespace Go.Ark
open Go Go.Ab

def law19_awake_k1 (y2 : Bool) : Option Bool :=
  if y2 then
    (cut_After ([] : (List Api_Dep)) ([(Api_Version.mk (ByteArray.mk #[98]) ByteArray.empty false (Api_Stamp.mk 2 0) ([(Api_Dep.mk (ByteArray.mk #[97]) (Api_Stamp.mk 1 0))]))])).bind fun r4 =>
    some (decide ((r4.length : Int) = 2))
  else
    some false

def law19_awake : Option Bool :=
  (cut_Check ([(ByteArray.mk #[97]), (ByteArray.mk #[98])]) ([(Api_Version.mk (ByteArray.mk #[98]) ByteArray.empty false (Api_Stamp.mk 2 0) ([(Api_Dep.mk (ByteArray.mk #[97]) (Api_Stamp.mk 1 0))]))]) ([] : (List Api_Dep))).bind fun r1 =>
  if !r1 then
    (cut_Check ([(ByteArray.mk #[98])]) ([(Api_Version.mk (ByteArray.mk #[98]) ByteArray.empty false (Api_Stamp.mk 2 0) ([(Api_Dep.mk (ByteArray.mk #[97]) (Api_Stamp.mk 1 0))]))]) ([] : (List Api_Dep))).bind fun r7 =>
    law19_awake_k1 r7
  else
    law19_awake_k1 false

def law19_short (s_0 : ByteArray) : Option ByteArray :=
  if decide (12 < (s_0.size : Int)) then
    (ssub s_0 0 12).bind fun s2 =>
    some s2
  else
    some s_0

def law19_row_k1 (y1 : (List Api_Dep)) : Option (List Api_Dep) :=
  some y1

def law19_row_k3 (l_0 : (List Api_Dep)) (again5 : (List Api_Dep) × Int → Option (List Api_Dep)) (v3 : (List Api_Dep) × Int) (y7 : Bool) : Option (List Api_Dep) :=
  if y7 then
    (idx l_0 v3.2).bind fun x9 =>
    (law19_short x9.Key).bind fun r10 =>
    (idx l_0 v3.2).bind fun x11 =>
    (ref04_Add v3.1 (Api_Dep.mk r10 x11.Stamp)).bind fun r12 =>
    again5 (r12, IntKind.wrap .i64 (v3.2 + 1))
  else
    law19_row_k1 v3.1

def law19_row_l2 (l_0 : (List Api_Dep)) (again5 : (List Api_Dep) × Int → Option (List Api_Dep)) (v3 : (List Api_Dep) × Int) : Option (List Api_Dep) :=
  if decide (v3.2 < (l_0.length : Int)) then
    law19_row_k3 l_0 again5 v3 (decide (v3.2 < 6))
  else
    law19_row_k3 l_0 again5 v3 false

def law19_row (l_0 : (List Api_Dep)) : Option (List Api_Dep) :=
  loopF (law19_row_l2 l_0) FU (([] : (List Api_Dep)), 0)

def law19_few_k1 (y1 : (List Api_Version)) : Option (List Api_Version) :=
  some y1

def law19_few_k3 (l_0 : (List Api_Version)) (again5 : Int × (List Api_Version) → Option (List Api_Version)) (v3 : Int × (List Api_Version)) (y7 : Bool) : Option (List Api_Version) :=
  if y7 then
    (idx l_0 v3.1).bind fun x9 =>
    (law19_short x9.Key).bind fun r10 =>
    (law19_row x9.Past).bind fun r11 =>
    (app 80 v3.2 ([(Api_Version.mk r10 x9.Value x9.Gone x9.Stamp r11)])).bind fun l12 =>
    again5 (IntKind.wrap .i64 (v3.1 + 1), l12)
  else
    law19_few_k1 v3.2

def law19_few_l2 (l_0 : (List Api_Version)) (again5 : Int × (List Api_Version) → Option (List Api_Version)) (v3 : Int × (List Api_Version)) : Option (List Api_Version) :=
  if decide (v3.1 < (l_0.length : Int)) then
    law19_few_k3 l_0 again5 v3 (decide (v3.1 < 6))
  else
    law19_few_k3 l_0 again5 v3 false

def law19_few (l_0 : (List Api_Version)) : Option (List Api_Version) :=
  loopF (law19_few_l2 l_0) FU (0, ([] : (List Api_Version)))

def law19_keys (l_0 : (List ByteArray)) : Option (List ByteArray) :=
  if decide (6 < (l_0.length : Int)) then
    (sub l_0 0 6).bind fun l2 =>
    some l2
  else
    some l_0

def law19_CutTells_k4 (r2 : (List Api_Version)) (r3 : (List Api_Dep)) (r4 : (List ByteArray)) (y17 : Bool) : Option Bool :=
  if y17 then
    (cut_Check r4 r2 r3).bind fun r19 =>
    (ref19_Check r4 r2 r3).bind fun r20 =>
    some (r19 == r20)
  else
    some false

def law19_CutTells_k3 (r2 : (List Api_Version)) (r3 : (List Api_Dep)) (r4 : (List ByteArray)) (r13 : Bool) (y16 : Bool) : Option Bool :=
  if y16 then
    law19_CutTells_k4 r2 r3 r4 r13
  else
    law19_CutTells_k4 r2 r3 r4 false

def law19_CutTells_k2 (r2 : (List Api_Version)) (r3 : (List Api_Dep)) (r4 : (List ByteArray)) (r10 : Bool) (r13 : Bool) (y15 : Bool) : Option Bool :=
  if y15 then
    law19_CutTells_k3 r2 r3 r4 r13 r10
  else
    law19_CutTells_k3 r2 r3 r4 r13 false

def law19_CutTells_k1 (r1 : Bool) (r2 : (List Api_Version)) (r3 : (List Api_Dep)) (r4 : (List ByteArray)) (r7 : Bool) (r10 : Bool) (r13 : Bool) (_y14 : Unit) : Option Bool :=
  if r1 then
    law19_CutTells_k2 r2 r3 r4 r10 r13 r7
  else
    law19_CutTells_k2 r2 r3 r4 r10 r13 false

def law19_CutTells_l5 (r1 : Bool) (r2 : (List Api_Version)) (r3 : (List Api_Dep)) (r4 : (List ByteArray)) (r7 : Bool) (r10 : Bool) (r13 : Bool) (again30 : Int → Option Bool) (v28 : Int) : Option Bool :=
  if decide (v28 < (r4.length : Int)) then
    (idx r4 v28).bind fun x33 =>
    (cut_Of r2 x33).bind fun r34 =>
    (idx r4 v28).bind fun x35 =>
    (ref19_Of r2 x35).bind fun r36 =>
    if !(decide (r34.N = r36.N) && decide (r34.Site = r36.Site)) then
      some false
    else
      again30 (IntKind.wrap .i64 (v28 + 1))
  else
    law19_CutTells_k1 r1 r2 r3 r4 r7 r10 r13 ()

def law19_CutTells (l_0 : (List Api_Version)) (k_1 : (List ByteArray)) (seen_2 : (List Api_Dep)) : Option Bool :=
  (law19_awake).bind fun r1 =>
  (law19_few l_0).bind fun r2 =>
  (law19_row seen_2).bind fun r3 =>
  (law19_keys k_1).bind fun r4 =>
  (cut_Low r2 r3).bind fun r5 =>
  (ref19_Low r2 r3).bind fun r6 =>
  (ref04_Same r5 r6).bind fun r7 =>
  (cut_Late r4 r2 r3).bind fun r8 =>
  (ref19_Late r4 r2 r3).bind fun r9 =>
  (ref02_Same r8 r9).bind fun r10 =>
  (cut_After r3 r2).bind fun r11 =>
  (ref19_After r3 r2).bind fun r12 =>
  (ref04_Same r11 r12).bind fun r13 =>
  loopF (law19_CutTells_l5 r1 r2 r3 r4 r7 r10 r13) FU 0

def law19_CutMeans_k1 (r1 : Bool) (r2 : (List Api_Version)) (r3 : (List Api_Dep)) (r4 : (List ByteArray)) (y5 : Bool) : Option Bool :=
  if r1 then
    (cut_Check r4 r2 r3).bind fun r7 =>
    some (r7 == y5)
  else
    some false

def law19_CutMeans_k3 (again11 : Bool × Int → Option Bool) (v9 : Bool × Int) (y14 : Bool) : Option Bool :=
  again11 (y14, IntKind.wrap .i64 (v9.2 + 1))

def law19_CutMeans_k5 (again11 : Bool × Int → Option Bool) (v9 : Bool × Int) (y22 : Bool) : Option Bool :=
  law19_CutMeans_k3 again11 v9 y22

def law19_CutMeans_k7 (r2 : (List Api_Version)) (r4 : (List ByteArray)) (v9 : Bool × Int) (r17 : Api_Stamp) (again26 : Bool × Int → Option Bool) (v24 : Bool × Int) (y33 : Bool) : Option Bool :=
  (idx r2 v24.2).bind fun x34 =>
  (idx r4 v9.2).bind fun x35 =>
  if seq x34.Key x35 then
    (idx r2 v24.2).bind fun x37 =>
    (ref03_Less r17 x37.Stamp).bind fun r38 =>
    if r38 then
      some false
    else
      again26 (y33, IntKind.wrap .i64 (v24.2 + 1))
  else
    again26 (y33, IntKind.wrap .i64 (v24.2 + 1))

def law19_CutMeans_l6 (r2 : (List Api_Version)) (r4 : (List ByteArray)) (again11 : Bool × Int → Option Bool) (v9 : Bool × Int) (r17 : Api_Stamp) (again26 : Bool × Int → Option Bool) (v24 : Bool × Int) : Option Bool :=
  if decide (v24.2 < (r2.length : Int)) then
    (idx r2 v24.2).bind fun x29 =>
    (idx r4 v9.2).bind fun x30 =>
    (ref04_Get x29.Past x30).bind fun r31 =>
    (ref03_Less r17 r31).bind fun r32 =>
    if r32 then
      law19_CutMeans_k7 r2 r4 v9 r17 again26 v24 false
    else
      law19_CutMeans_k7 r2 r4 v9 r17 again26 v24 v24.1
  else
    law19_CutMeans_k5 again11 v9 v24.1

def law19_CutMeans_k4 (r2 : (List Api_Version)) (r4 : (List ByteArray)) (again11 : Bool × Int → Option Bool) (v9 : Bool × Int) (r17 : Api_Stamp) (y21 : Bool) : Option Bool :=
  loopF (law19_CutMeans_l6 r2 r4 again11 v9 r17) FU (y21, 0)

def law19_CutMeans_l2 (r1 : Bool) (r2 : (List Api_Version)) (r3 : (List Api_Dep)) (r4 : (List ByteArray)) (again11 : Bool × Int → Option Bool) (v9 : Bool × Int) : Option Bool :=
  if decide (v9.2 < (r4.length : Int)) then
    (idx r4 v9.2).bind fun x16 =>
    (cut_Of r2 x16).bind fun r17 =>
    (idx r4 v9.2).bind fun x18 =>
    (ref04_Get r3 x18).bind fun r19 =>
    (ref03_Less r17 r19).bind fun r20 =>
    if r20 then
      law19_CutMeans_k4 r2 r4 again11 v9 r17 false
    else
      law19_CutMeans_k4 r2 r4 again11 v9 r17 v9.1
  else
    law19_CutMeans_k1 r1 r2 r3 r4 v9.1

def law19_CutMeans (l_0 : (List Api_Version)) (k_1 : (List ByteArray)) (seen_2 : (List Api_Dep)) : Option Bool :=
  (law19_awake).bind fun r1 =>
  (law19_few l_0).bind fun r2 =>
  (law19_row seen_2).bind fun r3 =>
  (law19_keys k_1).bind fun r4 =>
  loopF (law19_CutMeans_l2 r1 r2 r3 r4) FU (true, 0)

def law19_CutFewer_k3 (r2 : (List Api_Version)) (r3 : (List Api_Dep)) (y10 : Bool) : Option Bool :=
  if y10 then
    (cut_Check ([] : (List ByteArray)) r2 r3).bind fun r12 =>
    some r12
  else
    some false

def law19_CutFewer_k2 (r1 : Bool) (r2 : (List Api_Version)) (r3 : (List Api_Dep)) (r8 : Bool) (_y9 : Unit) : Option Bool :=
  if r1 then
    law19_CutFewer_k3 r2 r3 r8
  else
    law19_CutFewer_k3 r2 r3 false

def law19_CutFewer_l4 (r1 : Bool) (r2 : (List Api_Version)) (r3 : (List Api_Dep)) (r7 : (List Api_Dep)) (r8 : Bool) (again18 : Int → Option Bool) (v16 : Int) : Option Bool :=
  if decide (v16 < (r2.length : Int)) then
    (idx r2 v16).bind fun x21 =>
    (ref02_Check x21.Key).bind fun r22 =>
    (idx r2 v16).bind fun x23 =>
    (ref03_Check x23.Stamp).bind fun r24 =>
    (idx r2 v16).bind fun x25 =>
    (ref04_Get r7 x25.Key).bind fun r26 =>
    (idx r2 v16).bind fun x27 =>
    (ref04_Covers r7 x27.Past).bind fun r28 =>
    if !r28 then
      some false
    else
      if r22 then
        if r24 then
          (idx r2 v16).bind fun x32 =>
          (ref03_Less r26 x32.Stamp).bind fun r33 =>
          if r33 then
            some false
          else
            again18 (IntKind.wrap .i64 (v16 + 1))
        else
          again18 (IntKind.wrap .i64 (v16 + 1))
      else
        again18 (IntKind.wrap .i64 (v16 + 1))
  else
    law19_CutFewer_k2 r1 r2 r3 r8 ()

def law19_CutFewer_k1 (r1 : Bool) (r2 : (List Api_Version)) (r3 : (List Api_Dep)) (_y6 : Unit) : Option Bool :=
  (cut_After r3 r2).bind fun r7 =>
  (ref04_Covers r7 r3).bind fun r8 =>
  loopF (law19_CutFewer_l4 r1 r2 r3 r7 r8) FU 0

def law19_CutFewer_k5 (r1 : Bool) (r2 : (List Api_Version)) (r3 : (List Api_Dep)) (r4 : (List ByteArray)) (_y37 : Unit) : Option Bool :=
  (cut_Check r4 r2 ([] : (List Api_Dep))).bind fun r38 =>
  if !r38 then
    some false
  else
    law19_CutFewer_k1 r1 r2 r3 ()

def law19_CutFewer_l6 (r1 : Bool) (r2 : (List Api_Version)) (r3 : (List Api_Dep)) (r4 : (List ByteArray)) (again43 : Int → Option Bool) (v41 : Int) : Option Bool :=
  if decide (v41 < (r4.length : Int)) then
    (sub r4 0 v41).bind fun l46 =>
    (app 16 ([] : List ByteArray) l46).bind fun l47 =>
    (sub r4 (IntKind.wrap .i64 (v41 + 1)) (r4.length : Int)).bind fun l48 =>
    (app 16 l47 l48).bind fun l49 =>
    (cut_Check l49 r2 r3).bind fun r50 =>
    if !r50 then
      some false
    else
      again43 (IntKind.wrap .i64 (v41 + 1))
  else
    law19_CutFewer_k5 r1 r2 r3 r4 ()

def law19_CutFewer (l_0 : (List Api_Version)) (k_1 : (List ByteArray)) (seen_2 : (List Api_Dep)) : Option Bool :=
  (law19_awake).bind fun r1 =>
  (law19_few l_0).bind fun r2 =>
  (law19_row seen_2).bind fun r3 =>
  (law19_keys k_1).bind fun r4 =>
  (cut_Check r4 r2 r3).bind fun r5 =>
  if r5 then
    loopF (law19_CutFewer_l6 r1 r2 r3 r4) FU 0
  else
    law19_CutFewer_k1 r1 r2 r3 ()

def law19_CutOne_k3 (r3 : (List Api_Dep)) (r4 : (List ByteArray)) (y8 : Bool) (y11 : Bool) : Option Bool :=
  if y11 then
    (cut_Check r4 ([] : (List Api_Version)) r3).bind fun r13 =>
    some (r13 == y8)
  else
    some false

def law19_CutOne_k2 (r1 : Bool) (r2 : (List Api_Version)) (r3 : (List Api_Dep)) (r4 : (List ByteArray)) (x5 : Api_Version) (y8 : Bool) (y10 : Bool) : Option Bool :=
  if r1 then
    (cut_Check ([x5.Key]) r2 r3).bind fun r16 =>
    law19_CutOne_k3 r3 r4 y8 (r16 == y10)
  else
    law19_CutOne_k3 r3 r4 y8 false

def law19_CutOne_k1 (r1 : Bool) (r2 : (List Api_Version)) (r3 : (List Api_Dep)) (r4 : (List ByteArray)) (x5 : Api_Version) (r6 : Api_Stamp) (r7 : Api_Stamp) (y8 : Bool) : Option Bool :=
  (ref19_Of r2 x5.Key).bind fun r9 =>
  (ref03_Less r9 r6).bind fun r18 =>
  if !r18 then
    (ref03_Less r9 r7).bind fun r20 =>
    law19_CutOne_k2 r1 r2 r3 r4 x5 y8 (!r20)
  else
    law19_CutOne_k2 r1 r2 r3 r4 x5 y8 false

def law19_CutOne_l4 (r1 : Bool) (r2 : (List Api_Version)) (r3 : (List Api_Dep)) (r4 : (List ByteArray)) (x5 : Api_Version) (r6 : Api_Stamp) (r7 : Api_Stamp) (again24 : Bool × Int → Option Bool) (v22 : Bool × Int) : Option Bool :=
  if decide (v22.2 < (r4.length : Int)) then
    (idx r4 v22.2).bind fun x27 =>
    (ref04_Get r3 x27).bind fun r28 =>
    if v22.1 then
      again24 (decide (r28.N = 0), IntKind.wrap .i64 (v22.2 + 1))
    else
      again24 (false, IntKind.wrap .i64 (v22.2 + 1))
  else
    law19_CutOne_k1 r1 r2 r3 r4 x5 r6 r7 v22.1

def law19_CutOne (v_0 : Api_Version) (k_1 : (List ByteArray)) (seen_2 : (List Api_Dep)) : Option Bool :=
  (law19_awake).bind fun r1 =>
  (law19_few ([v_0])).bind fun r2 =>
  (law19_row seen_2).bind fun r3 =>
  (law19_keys k_1).bind fun r4 =>
  (idx r2 0).bind fun x5 =>
  (ref04_Get r3 x5.Key).bind fun r6 =>
  (ref04_Get x5.Past x5.Key).bind fun r7 =>
  loopF (law19_CutOne_l4 r1 r2 r3 r4 x5 r6 r7) FU (true, 0)

def law19_CutGrows_k1 (y7 : Bool) : Option Bool :=
  some y7

def law19_CutGrows_k2 (r2 : (List Api_Version)) (r4 : (List ByteArray)) (r12 : (List Api_Dep)) (r14 : Bool) (y15 : Bool) : Option Bool :=
  if y15 then
    (cut_Check r4 r2 r12).bind fun r17 =>
    if r17 then
      some r14
    else
      some false
  else
    some false

def law19_CutGrows (l_0 : (List Api_Version)) (k_1 : (List ByteArray)) (seen_2 : (List Api_Dep)) : Option Bool :=
  (law19_awake).bind fun r1 =>
  (law19_few l_0).bind fun r2 =>
  (law19_row seen_2).bind fun r3 =>
  (law19_keys k_1).bind fun r4 =>
  (cut_Check r4 r2 r3).bind fun r5 =>
  if !r5 then
    if r1 then
      (cut_Late r4 r2 r3).bind fun r10 =>
      law19_CutGrows_k1 (decide (0 < (r10.length : Int)))
    else
      law19_CutGrows_k1 false
  else
    (cut_Low r2 r3).bind fun r11 =>
    (cut_After r3 r2).bind fun r12 =>
    (cut_After r12 r2).bind fun r13 =>
    (ref04_Same r13 r12).bind fun r14 =>
    if r1 then
      (cut_Check r4 r2 r11).bind fun r21 =>
      law19_CutGrows_k2 r2 r4 r12 r14 r21
    else
      law19_CutGrows_k2 r2 r4 r12 r14 false

def law19_CutSeen_k5 (r2 : (List Api_Dep)) (y3 : (List ByteArray) × (List Api_Version)) (y9 : Bool) : Option Bool :=
  if y9 then
    (cut_After ([] : (List Api_Dep)) y3.2).bind fun r11 =>
    (ref04_Same r11 r2).bind fun r12 =>
    some r12
  else
    some false

def law19_CutSeen_k4 (r2 : (List Api_Dep)) (y3 : (List ByteArray) × (List Api_Version)) (y8 : Bool) : Option Bool :=
  if y8 then
    (cut_After r2 y3.2).bind fun r15 =>
    (ref04_Same r15 r2).bind fun r16 =>
    law19_CutSeen_k5 r2 y3 r16
  else
    law19_CutSeen_k5 r2 y3 false

def law19_CutSeen_k3 (r2 : (List Api_Dep)) (y3 : (List ByteArray) × (List Api_Version)) (y7 : Bool) : Option Bool :=
  if y7 then
    (cut_Check y3.1 y3.2 r2).bind fun r19 =>
    law19_CutSeen_k4 r2 y3 r19
  else
    law19_CutSeen_k4 r2 y3 false

def law19_CutSeen_k2 (r1 : Bool) (r2 : (List Api_Dep)) (y3 : (List ByteArray) × (List Api_Version)) (r5 : Bool) (_y6 : Unit) : Option Bool :=
  if r1 then
    law19_CutSeen_k3 r2 y3 r5
  else
    law19_CutSeen_k3 r2 y3 false

def law19_CutSeen_l6 (r1 : Bool) (r2 : (List Api_Dep)) (y3 : (List ByteArray) × (List Api_Version)) (r5 : Bool) (again25 : Int → Option Bool) (v23 : Int) : Option Bool :=
  if decide (v23 < (y3.2.length : Int)) then
    (sub y3.2 0 v23).bind fun l28 =>
    (cut_Late y3.1 l28 r2).bind fun r29 =>
    if !decide ((r29.length : Int) = (IntKind.wrap .i64 ((y3.1.length : Int) - v23))) then
      some false
    else
      again25 (IntKind.wrap .i64 (v23 + 1))
  else
    law19_CutSeen_k2 r1 r2 y3 r5 ()

def law19_CutSeen_k1 (r1 : Bool) (r2 : (List Api_Dep)) (y3 : (List ByteArray) × (List Api_Version)) : Option Bool :=
  (cut_Late y3.1 ([] : (List Api_Version)) r2).bind fun r4 =>
  (ref02_Same r4 y3.1).bind fun r5 =>
  loopF (law19_CutSeen_l6 r1 r2 y3 r5) FU 0

def law19_CutSeen_l7 (r1 : Bool) (r2 : (List Api_Dep)) (again34 : Int × (List ByteArray) × (List Api_Version) → Option Bool) (v32 : Int × (List ByteArray) × (List Api_Version)) : Option Bool :=
  if decide (v32.1 < (r2.length : Int)) then
    (idx r2 v32.1).bind fun x37 =>
    (app 16 v32.2.1 ([x37.Key])).bind fun l38 =>
    (idx r2 v32.1).bind fun x39 =>
    (idx r2 v32.1).bind fun x40 =>
    (app 80 v32.2.2 ([(Api_Version.mk x39.Key ByteArray.empty false x40.Stamp ([] : (List Api_Dep)))])).bind fun l41 =>
    again34 (IntKind.wrap .i64 (v32.1 + 1), l38, l41)
  else
    law19_CutSeen_k1 r1 r2 (v32.2.1, v32.2.2)

def law19_CutSeen (seen_0 : (List Api_Dep)) : Option Bool :=
  (law19_awake).bind fun r1 =>
  (law19_row seen_0).bind fun r2 =>
  loopF (law19_CutSeen_l7 r1 r2) FU (0, ([] : (List ByteArray)), ([] : (List Api_Version)))
end Go.Ark
