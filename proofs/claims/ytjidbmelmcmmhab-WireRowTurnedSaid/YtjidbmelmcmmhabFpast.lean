/- Typed functions, printed by a program of mine out of the translated code. -/
import Derived.Test.YtjidbmelmcmmhabFT
import Derived.Test.YtjidbmelmcmmhabFkeys
import Derived.Test.YtjidbmelmcmmhabFlib
import Derived.Test.YtjidbmelmcmmhabFstamp
import Derived.Test.YtjidbmelmcmmhabFvary
namespace Go.Ark
open Go Go.Ab

def past_may (d_0 : Api_Dep) : Option Bool :=
  (keys_Check d_0.Key).bind fun r1 =>
  if r1 then
    (stamp_Check d_0.Stamp).bind fun r3 =>
    some r3
  else
    some false

def past_Check_k1 (p_0 : (List Api_Dep)) (_y1 : Unit) : Option Bool :=
  some (decide ((p_0.length : Int) ≤ 24))

def past_Check_l2 (p_0 : (List Api_Dep)) (again5 : Int → Option Bool) (v3 : Int) : Option Bool :=
  if decide (v3 < (p_0.length : Int)) then
    (idx p_0 v3).bind fun x8 =>
    (past_may x8).bind fun r9 =>
    if !r9 then
      some false
    else
      if decide (0 < v3) then
        (idx p_0 (IntKind.wrap .i64 (v3 - 1))).bind fun x12 =>
        if !slt x12.Key x8.Key then
          some false
        else
          again5 (IntKind.wrap .i64 (v3 + 1))
      else
        again5 (IntKind.wrap .i64 (v3 + 1))
  else
    past_Check_k1 p_0 ()

def past_Check (p_0 : (List Api_Dep)) : Option Bool :=
  loopF (past_Check_l2 p_0) FU 0

def past_Read_k3 (y4 : Int × Bool × (List Api_Dep)) (y5 : Bool) : Option ((List Api_Dep) × Int × Bool) :=
  if y5 then
    some (([] : (List Api_Dep)), 0, false)
  else
    some (y4.2.2, y4.1, true)

def past_Read_k2 (y4 : Int × Bool × (List Api_Dep)) : Option ((List Api_Dep) × Int × Bool) :=
  if !y4.2.1 then
    past_Read_k3 y4 true
  else
    (past_Check y4.2.2).bind fun r9 =>
    past_Read_k3 y4 (!r9)

def past_Read_l4 (s_0 : ByteArray) (r1 : (Int × Int × Bool)) (again13 : Int × Bool × Int × (List Api_Dep) → Option ((List Api_Dep) × Int × Bool)) (v11 : Int × Bool × Int × (List Api_Dep)) : Option ((List Api_Dep) × Int × Bool) :=
  if decide (v11.2.2.1 < r1.1) then
    (vary_ReadText s_0 v11.1 32).bind fun r16 =>
    if !r16.2.2 then
      past_Read_k2 (r16.2.1, r16.2.2, v11.2.2.2)
    else
      (stamp_Read s_0 r16.2.1).bind fun r18 =>
      if !r18.2.2 then
        past_Read_k2 (r18.2.1, r18.2.2, v11.2.2.2)
      else
        (app 32 v11.2.2.2 ([(Api_Dep.mk r16.1 r18.1)])).bind fun l20 =>
        again13 (r18.2.1, r18.2.2, IntKind.wrap .u64 (v11.2.2.1 + 1), l20)
  else
    past_Read_k2 (v11.1, v11.2.1, v11.2.2.2)

def past_Read_k1 (s_0 : ByteArray) (r1 : (Int × Int × Bool)) (y2 : Bool) : Option ((List Api_Dep) × Int × Bool) :=
  if y2 then
    some (([] : (List Api_Dep)), 0, false)
  else
    loopF (past_Read_l4 s_0 r1) FU (r1.2.1, r1.2.2, 0, ([] : (List Api_Dep)))

def past_Read (s_0 : ByteArray) (at_1 : Int) : Option ((List Api_Dep) × Int × Bool) :=
  (vary_Read s_0 at_1).bind fun r1 =>
  if !r1.2.2 then
    past_Read_k1 s_0 r1 true
  else
    past_Read_k1 s_0 r1 (decide (24 < r1.1))

def past_Bytes_k1 (y5 : ByteArray) : Option ByteArray :=
  (bld_String y5).bind fun r6 =>
  some r6

def past_Bytes_l2 (p_0 : (List Api_Dep)) (again10 : Int × ByteArray → Option ByteArray) (v8 : Int × ByteArray) : Option ByteArray :=
  if decide (v8.1 < (p_0.length : Int)) then
    (idx p_0 v8.1).bind fun x13 =>
    (vary_Text x13.Key).bind fun r14 =>
    (stamp_Bytes x13.Stamp).bind fun r15 =>
    (scat r14 r15).bind fun s16 =>
    (bld_WriteString v8.2 s16).bind fun r17 =>
    again10 (IntKind.wrap .i64 (v8.1 + 1), r17)
  else
    past_Bytes_k1 v8.2

def past_Bytes (p_0 : (List Api_Dep)) : Option ByteArray :=
  (past_Check p_0).bind fun r1 =>
  if !r1 then
    some ByteArray.empty
  else
    (vary_Number (IntKind.wrap .u64 (p_0.length : Int))).bind fun r3 =>
    (bld_WriteString ByteArray.empty r3).bind fun r4 =>
    loopF (past_Bytes_l2 p_0) FU (0, r4)

def past_Same (p_0 : (List Api_Dep)) (q_1 : (List Api_Dep)) : Option Bool :=
  (slices_Equal_Dep p_0 q_1).bind fun r1 =>
  some r1

end Go.Ark
