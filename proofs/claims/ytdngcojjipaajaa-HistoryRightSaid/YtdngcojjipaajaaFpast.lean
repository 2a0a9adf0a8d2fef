/- Typed functions, printed by a program of mine out of the translated code. -/
import Derived.Test.YtdngcojjipaajaaFT
import Derived.Test.YtdngcojjipaajaaFkeys
import Derived.Test.YtdngcojjipaajaaFlib
import Derived.Test.YtdngcojjipaajaaFstamp
import Derived.Test.YtdngcojjipaajaaFvary
namespace Go.Ark
open Go Go.Ab

def past_may (d_0 : Api_Dep) : Option Bool :=
  (keys_Check d_0.Key).bind fun r1 =>
  if r1 then
    (stamp_Check d_0.Stamp).bind fun r3 =>
    some r3
  else
    some false

def past_Check_k1 (p_0 : (List Api_Dep)) (_y1 : Unit) : Option Bool :=
  some (decide ((p_0.length : Int) ≤ 24))

def past_Check_l2 (p_0 : (List Api_Dep)) (again5 : Int → Option Bool) (v3 : Int) : Option Bool :=
  if decide (v3 < (p_0.length : Int)) then
    (idx p_0 v3).bind fun x8 =>
    (past_may x8).bind fun r9 =>
    if !r9 then
      some false
    else
      if decide (0 < v3) then
        (idx p_0 (IntKind.wrap .i64 (v3 - 1))).bind fun x12 =>
        if !slt x12.Key x8.Key then
          some false
        else
          again5 (IntKind.wrap .i64 (v3 + 1))
      else
        again5 (IntKind.wrap .i64 (v3 + 1))
  else
    past_Check_k1 p_0 ()

def past_Check (p_0 : (List Api_Dep)) : Option Bool :=
  loopF (past_Check_l2 p_0) FU 0

def past_Read_k3 (y4 : Int × Bool × (List Api_Dep)) (y5 : Bool) : Option ((List Api_Dep) × Int × Bool) :=
  if y5 then
    some (([] : (List Api_Dep)), 0, false)
  else
    some (y4.2.2, y4.1, true)

def past_Read_k2 (y4 : Int × Bool × (List Api_Dep)) : Option ((List Api_Dep) × Int × Bool) :=
  if !y4.2.1 then
    past_Read_k3 y4 true
  else
    (past_Check y4.2.2).bind fun r9 =>
    past_Read_k3 y4 (!r9)

def past_Read_l4 (s_0 : ByteArray) (r1 : (Int × Int × Bool)) (again13 : Int × Bool × Int × (List Api_Dep) → Option ((List Api_Dep) × Int × Bool)) (v11 : Int × Bool × Int × (List Api_Dep)) : Option ((List Api_Dep) × Int × Bool) :=
  if decide (v11.2.2.1 < r1.1) then
    (vary_ReadText s_0 v11.1 32).bind fun r16 =>
    if !r16.2.2 then
      past_Read_k2 (r16.2.1, r16.2.2, v11.2.2.2)
    else
      (stamp_Read s_0 r16.2.1).bind fun r18 =>
      if !r18.2.2 then
        past_Read_k2 (r18.2.1, r18.2.2, v11.2.2.2)
      else
        (app 32 v11.2.2.2 ([(Api_Dep.mk r16.1 r18.1)])).bind fun l20 =>
        again13 (r18.2.1, r18.2.2, IntKind.wrap .u64 (v11.2.2.1 + 1), l20)
  else
    past_Read_k2 (v11.1, v11.2.1, v11.2.2.2)

def past_Read_k1 (s_0 : ByteArray) (r1 : (Int × Int × Bool)) (y2 : Bool) : Option ((List Api_Dep) × Int × Bool) :=
  if y2 then
    some (([] : (List Api_Dep)), 0, false)
  else
    loopF (past_Read_l4 s_0 r1) FU (r1.2.1, r1.2.2, 0, ([] : (List Api_Dep)))

def past_Read (s_0 : ByteArray) (at_1 : Int) : Option ((List Api_Dep) × Int × Bool) :=
  (vary_Read s_0 at_1).bind fun r1 =>
  if !r1.2.2 then
    past_Read_k1 s_0 r1 true
  else
    past_Read_k1 s_0 r1 (decide (24 < r1.1))

def past_Bytes_k1 (y5 : ByteArray) : Option ByteArray :=
  (bld_String y5).bind fun r6 =>
  some r6

def past_Bytes_l2 (p_0 : (List Api_Dep)) (again10 : Int × ByteArray → Option ByteArray) (v8 : Int × ByteArray) : Option ByteArray :=
  if decide (v8.1 < (p_0.length : Int)) then
    (idx p_0 v8.1).bind fun x13 =>
    (vary_Text x13.Key).bind fun r14 =>
    (stamp_Bytes x13.Stamp).bind fun r15 =>
    (scat r14 r15).bind fun s16 =>
    (bld_WriteString v8.2 s16).bind fun r17 =>
    again10 (IntKind.wrap .i64 (v8.1 + 1), r17)
  else
    past_Bytes_k1 v8.2

def past_Bytes (p_0 : (List Api_Dep)) : Option ByteArray :=
  (past_Check p_0).bind fun r1 =>
  if !r1 then
    some ByteArray.empty
  else
    (vary_Number (IntKind.wrap .u64 (p_0.length : Int))).bind fun r3 =>
    (bld_WriteString ByteArray.empty r3).bind fun r4 =>
    loopF (past_Bytes_l2 p_0) FU (0, r4)

def past_Same (p_0 : (List Api_Dep)) (q_1 : (List Api_Dep)) : Option Bool :=
  (slices_Equal_Dep p_0 q_1).bind fun r1 =>
  some r1

def past_find_1 (d_0 : Api_Dep) (key_1 : ByteArray) : Option Int :=
  (cmp_Compare_string d_0.Key key_1).bind fun r1 =>
  some r1

def past_find (p_0 : (List Api_Dep)) (key_1 : ByteArray) : Option (Int × Bool) :=
  (slices_BinarySearchFunc_string p_0 key_1 (fun x0 x1 => past_find_1 x0 x1)).bind fun r1 =>
  some (r1.1, r1.2)

def past_Get (p_0 : (List Api_Dep)) (key_1 : ByteArray) : Option Api_Stamp :=
  (past_find p_0 key_1).bind fun r1 =>
  if !r1.2 then
    some (Api_Stamp.mk 0 0)
  else
    (idx p_0 r1.1).bind fun x3 =>
    some x3.Stamp

def past_Covers_1 (d_0 : Api_Dep) (c0 : (List Api_Dep)) : Option Bool :=
  (past_Get c0 d_0.Key).bind fun r1 =>
  (stamp_Less r1 d_0.Stamp).bind fun r2 =>
  some r2

def past_Covers (p_0 : (List Api_Dep)) (q_1 : (List Api_Dep)) : Option Bool :=
  (slices_ContainsFunc_Dep q_1 (fun x0 => past_Covers_1 x0 p_0)).bind fun r1 =>
  some (!r1)

def past_Add (p_0 : (List Api_Dep)) (d_1 : Api_Dep) : Option (List Api_Dep) :=
  (past_find p_0 d_1.Key).bind fun r1 =>
  (past_may d_1).bind fun r2 =>
  if !r2 then
    some p_0
  else
    if !r1.2 then
      (slices_Clone_Dep p_0).bind fun r5 =>
      (slices_Insert_Dep r5 r1.1 ([d_1])).bind fun r6 =>
      some r6
    else
      (slices_Clone_Dep p_0).bind fun r7 =>
      (idx r7 r1.1).bind fun x8 =>
      (stamp_Max ([x8.Stamp, d_1.Stamp])).bind fun r9 =>
      (idx r7 r1.1).bind fun x10 =>
      (sets r7 r1.1 (Api_Dep.mk x10.Key r9)).bind fun l11 =>
      some l11

def past_Merge_k1 (y1 : (List Api_Dep)) : Option (List Api_Dep) :=
  some y1

def past_Merge_k3 (again5 : (List Api_Dep) × Int → Option (List Api_Dep)) (v3 : (List Api_Dep) × Int) (y8 : (List Api_Dep)) : Option (List Api_Dep) :=
  again5 (y8, IntKind.wrap .i64 (v3.2 + 1))

def past_Merge_k4 (again5 : (List Api_Dep) × Int → Option (List Api_Dep)) (v3 : (List Api_Dep) × Int) (y11 : (List Api_Dep)) : Option (List Api_Dep) :=
  past_Merge_k3 again5 v3 y11

def past_Merge_l5 (again5 : (List Api_Dep) × Int → Option (List Api_Dep)) (v3 : (List Api_Dep) × Int) (x10 : (List Api_Dep)) (again15 : (List Api_Dep) × Int → Option (List Api_Dep)) (v13 : (List Api_Dep) × Int) : Option (List Api_Dep) :=
  if decide (v13.2 < (x10.length : Int)) then
    (idx x10 v13.2).bind fun x18 =>
    (past_Add v13.1 x18).bind fun r19 =>
    again15 (r19, IntKind.wrap .i64 (v13.2 + 1))
  else
    past_Merge_k4 again5 v3 v13.1

def past_Merge_l2 (l_0 : (List (List Api_Dep))) (again5 : (List Api_Dep) × Int → Option (List Api_Dep)) (v3 : (List Api_Dep) × Int) : Option (List Api_Dep) :=
  if decide (v3.2 < (l_0.length : Int)) then
    (idx l_0 v3.2).bind fun x10 =>
    loopF (past_Merge_l5 again5 v3 x10) FU (v3.1, 0)
  else
    past_Merge_k1 v3.1

def past_Merge (l_0 : (List (List Api_Dep))) : Option (List Api_Dep) :=
  loopF (past_Merge_l2 l_0) FU (([] : (List Api_Dep)), 0)
end Go.Ark
