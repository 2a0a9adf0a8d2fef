/- Typed functions, printed by a program of mine out of the translated code. -/
import Derived.Test.YtdngcojjipaajaaFT
import Derived.Test.YtdngcojjipaajaaFref01
import Derived.Test.YtdngcojjipaajaaFref02
import Derived.Test.YtdngcojjipaajaaFref03
namespace Go.Ark
open Go Go.Ab

def ref04_Add_k2 (d_1 : Api_Dep) (y5 : Bool × (List Api_Dep)) : Option (List Api_Dep) :=
  if !y5.1 then
    (app 32 y5.2 ([d_1])).bind fun l7 =>
    some l7
  else
    some y5.2

def ref04_Add_k6 (again11 : Bool × Int × (List Api_Dep) → Option (List Api_Dep)) (v9 : Bool × Int × (List Api_Dep)) (y15 : Bool × ByteArray × Int × Int) (y17 : Bool × (List Api_Dep)) : Option (List Api_Dep) :=
  (app 32 y17.2 ([(Api_Dep.mk y15.2.1 (Api_Stamp.mk y15.2.2.1 y15.2.2.2))])).bind fun l18 =>
  again11 (y17.1, IntKind.wrap .i64 (v9.2.1 + 1), l18)

def ref04_Add_k5 (d_1 : Api_Dep) (again11 : Bool × Int × (List Api_Dep) → Option (List Api_Dep)) (v9 : Bool × Int × (List Api_Dep)) (y15 : Bool × ByteArray × Int × Int) (y16 : Bool) : Option (List Api_Dep) :=
  if y16 then
    (app 32 v9.2.2 ([d_1])).bind fun l21 =>
    ref04_Add_k6 again11 v9 y15 (true, l21)
  else
    ref04_Add_k6 again11 v9 y15 (y15.1, v9.2.2)

def ref04_Add_k4 (d_1 : Api_Dep) (again11 : Bool × Int × (List Api_Dep) → Option (List Api_Dep)) (v9 : Bool × Int × (List Api_Dep)) (y15 : Bool × ByteArray × Int × Int) : Option (List Api_Dep) :=
  if !y15.1 then
    ref04_Add_k5 d_1 again11 v9 y15 (!(slt y15.2.1 d_1.Key || seq y15.2.1 d_1.Key))
  else
    ref04_Add_k5 d_1 again11 v9 y15 false

def ref04_Add_l3 (p_0 : (List Api_Dep)) (d_1 : Api_Dep) (again11 : Bool × Int × (List Api_Dep) → Option (List Api_Dep)) (v9 : Bool × Int × (List Api_Dep)) : Option (List Api_Dep) :=
  if decide (v9.2.1 < (p_0.length : Int)) then
    (idx p_0 v9.2.1).bind fun x14 =>
    if seq x14.Key d_1.Key then
      (ref03_Less x14.Stamp d_1.Stamp).bind fun r26 =>
      if r26 then
        ref04_Add_k4 d_1 again11 v9 (true, d_1.Key, d_1.Stamp.N, d_1.Stamp.Site)
      else
        ref04_Add_k4 d_1 again11 v9 (true, x14.Key, x14.Stamp.N, x14.Stamp.Site)
    else
      ref04_Add_k4 d_1 again11 v9 (v9.1, x14.Key, x14.Stamp.N, x14.Stamp.Site)
  else
    ref04_Add_k2 d_1 (v9.1, v9.2.2)

def ref04_Add_k1 (p_0 : (List Api_Dep)) (d_1 : Api_Dep) (y3 : Bool) : Option (List Api_Dep) :=
  if y3 then
    some p_0
  else
    loopF (ref04_Add_l3 p_0 d_1) FU (false, 0, ([] : (List Api_Dep)))

def ref04_Add (p_0 : (List Api_Dep)) (d_1 : Api_Dep) : Option (List Api_Dep) :=
  (ref02_Check d_1.Key).bind fun r1 =>
  (ref03_Check d_1.Stamp).bind fun r2 =>
  if !r1 then
    ref04_Add_k1 p_0 d_1 true
  else
    ref04_Add_k1 p_0 d_1 (!r2)

def ref04_Check_k1 (p_0 : (List Api_Dep)) (_y1 : Unit) : Option Bool :=
  some (decide ((p_0.length : Int) ≤ 24))

def ref04_Check_l2 (p_0 : (List Api_Dep)) (again5 : Int → Option Bool) (v3 : Int) : Option Bool :=
  if decide (v3 < (p_0.length : Int)) then
    (idx p_0 v3).bind fun x8 =>
    (ref02_Check x8.Key).bind fun r9 =>
    (idx p_0 v3).bind fun x10 =>
    (ref03_Check x10.Stamp).bind fun r11 =>
    if !r9 then
      some false
    else
      if !r11 then
        some false
      else
        if decide (0 < v3) then
          (idx p_0 (IntKind.wrap .i64 (v3 - 1))).bind fun x15 =>
          (idx p_0 v3).bind fun x16 =>
          if !slt x15.Key x16.Key then
            some false
          else
            again5 (IntKind.wrap .i64 (v3 + 1))
        else
          again5 (IntKind.wrap .i64 (v3 + 1))
  else
    ref04_Check_k1 p_0 ()

def ref04_Check (p_0 : (List Api_Dep)) : Option Bool :=
  loopF (ref04_Check_l2 p_0) FU 0

def ref04_Bytes_k1 (y4 : ByteArray) : Option ByteArray :=
  some y4

def ref04_Bytes_l2 (p_0 : (List Api_Dep)) (again8 : ByteArray × Int → Option ByteArray) (v6 : ByteArray × Int) : Option ByteArray :=
  if decide (v6.2 < (p_0.length : Int)) then
    (idx p_0 v6.2).bind fun x11 =>
    (ref01_Text x11.Key).bind fun r12 =>
    (scat v6.1 r12).bind fun s13 =>
    (idx p_0 v6.2).bind fun x14 =>
    (ref03_Bytes x14.Stamp).bind fun r15 =>
    (scat s13 r15).bind fun s16 =>
    again8 (s16, IntKind.wrap .i64 (v6.2 + 1))
  else
    ref04_Bytes_k1 v6.1

def ref04_Bytes (p_0 : (List Api_Dep)) : Option ByteArray :=
  (ref04_Check p_0).bind fun r1 =>
  if !r1 then
    some ByteArray.empty
  else
    (ref01_Number (IntKind.wrap .u64 (p_0.length : Int))).bind fun r3 =>
    loopF (ref04_Bytes_l2 p_0) FU (r3, 0)

def ref04_Same_k1 (_y2 : Unit) : Option Bool :=
  some true

def ref04_Same_l2 (p_0 : (List Api_Dep)) (q_1 : (List Api_Dep)) (again6 : Int → Option Bool) (v4 : Int) : Option Bool :=
  if decide (v4 < (p_0.length : Int)) then
    (idx p_0 v4).bind fun x9 =>
    (idx q_1 v4).bind fun x10 =>
    if !(decide (x9.Key = x10.Key) && decide (x9.Stamp.N = x10.Stamp.N) && decide (x9.Stamp.Site = x10.Stamp.Site)) then
      some false
    else
      again6 (IntKind.wrap .i64 (v4 + 1))
  else
    ref04_Same_k1 ()

def ref04_Same (p_0 : (List Api_Dep)) (q_1 : (List Api_Dep)) : Option Bool :=
  if !decide ((p_0.length : Int) = (q_1.length : Int)) then
    some false
  else
    loopF (ref04_Same_l2 p_0 q_1) FU 0

def ref04_Read_k2 (y4 : Int × (List Api_Dep)) : Option Ref04_Got :=
  (ref04_Check y4.2).bind fun r5 =>
  if !r5 then
    some (Ref04_Got.mk ([] : (List Api_Dep)) 0)
  else
    some (Ref04_Got.mk y4.2 y4.1)

def ref04_Read_l3 (s_0 : ByteArray) (r1 : Ref01_Got) (again10 : Int × Int × (List Api_Dep) → Option Ref04_Got) (v8 : Int × Int × (List Api_Dep)) : Option Ref04_Got :=
  if decide (v8.1 < r1.N) then
    (ref01_ReadText s_0 v8.2.1 32).bind fun r13 =>
    if decide (r13.End = 0) then
      some (Ref04_Got.mk ([] : (List Api_Dep)) 0)
    else
      (ref03_Read s_0 r13.End).bind fun r15 =>
      if decide (r15.End = 0) then
        some (Ref04_Got.mk ([] : (List Api_Dep)) 0)
      else
        (app 32 v8.2.2 ([(Api_Dep.mk r13.S r15.S)])).bind fun l17 =>
        again10 (IntKind.wrap .u64 (v8.1 + 1), r15.End, l17)
  else
    ref04_Read_k2 (v8.2.1, v8.2.2)

def ref04_Read_k1 (s_0 : ByteArray) (r1 : Ref01_Got) (y2 : Bool) : Option Ref04_Got :=
  if y2 then
    some (Ref04_Got.mk ([] : (List Api_Dep)) 0)
  else
    loopF (ref04_Read_l3 s_0 r1) FU (0, r1.End, ([] : List Api_Dep))

def ref04_Read (s_0 : ByteArray) (at_1 : Int) : Option Ref04_Got :=
  (ref01_Read s_0 at_1).bind fun r1 =>
  if decide (r1.End = 0) then
    ref04_Read_k1 s_0 r1 true
  else
    ref04_Read_k1 s_0 r1 (decide (24 < r1.N))

def ref04_Get_k1 (_y1 : Unit) : Option Api_Stamp :=
  some (Api_Stamp.mk 0 0)

def ref04_Get_l2 (p_0 : (List Api_Dep)) (key_1 : ByteArray) (again5 : Int → Option Api_Stamp) (v3 : Int) : Option Api_Stamp :=
  if decide (v3 < (p_0.length : Int)) then
    (idx p_0 v3).bind fun x8 =>
    if seq x8.Key key_1 then
      (idx p_0 v3).bind fun x10 =>
      some x10.Stamp
    else
      again5 (IntKind.wrap .i64 (v3 + 1))
  else
    ref04_Get_k1 ()

def ref04_Get (p_0 : (List Api_Dep)) (key_1 : ByteArray) : Option Api_Stamp :=
  loopF (ref04_Get_l2 p_0 key_1) FU 0

def ref04_Merge_k1 (y1 : (List Api_Dep)) : Option (List Api_Dep) :=
  some y1

def ref04_Merge_k3 (again5 : (List Api_Dep) × Int → Option (List Api_Dep)) (v3 : (List Api_Dep) × Int) (y8 : (List Api_Dep)) : Option (List Api_Dep) :=
  again5 (y8, IntKind.wrap .i64 (v3.2 + 1))

def ref04_Merge_k4 (again5 : (List Api_Dep) × Int → Option (List Api_Dep)) (v3 : (List Api_Dep) × Int) (y10 : (List Api_Dep)) : Option (List Api_Dep) :=
  ref04_Merge_k3 again5 v3 y10

def ref04_Merge_l5 (l_0 : (List (List Api_Dep))) (again5 : (List Api_Dep) × Int → Option (List Api_Dep)) (v3 : (List Api_Dep) × Int) (again14 : (List Api_Dep) × Int → Option (List Api_Dep)) (v12 : (List Api_Dep) × Int) : Option (List Api_Dep) :=
  (idx l_0 v3.2).bind fun x16 =>
  if decide (v12.2 < (x16.length : Int)) then
    (idx l_0 v3.2).bind fun x18 =>
    (idx x18 v12.2).bind fun x19 =>
    (ref04_Add v12.1 x19).bind fun r20 =>
    again14 (r20, IntKind.wrap .i64 (v12.2 + 1))
  else
    ref04_Merge_k4 again5 v3 v12.1

def ref04_Merge_l2 (l_0 : (List (List Api_Dep))) (again5 : (List Api_Dep) × Int → Option (List Api_Dep)) (v3 : (List Api_Dep) × Int) : Option (List Api_Dep) :=
  if decide (v3.2 < (l_0.length : Int)) then
    loopF (ref04_Merge_l5 l_0 again5 v3) FU (v3.1, 0)
  else
    ref04_Merge_k1 v3.1

def ref04_Merge (l_0 : (List (List Api_Dep))) : Option (List Api_Dep) :=
  loopF (ref04_Merge_l2 l_0) FU (([] : (List Api_Dep)), 0)

def ref04_Covers_k1 (_y1 : Unit) : Option Bool :=
  some true

def ref04_Covers_l2 (p_0 : (List Api_Dep)) (q_1 : (List Api_Dep)) (again5 : Int → Option Bool) (v3 : Int) : Option Bool :=
  if decide (v3 < (q_1.length : Int)) then
    (idx q_1 v3).bind fun x8 =>
    (ref04_Get p_0 x8.Key).bind fun r9 =>
    (idx q_1 v3).bind fun x10 =>
    (ref03_Less r9 x10.Stamp).bind fun r11 =>
    if r11 then
      some false
    else
      again5 (IntKind.wrap .i64 (v3 + 1))
  else
    ref04_Covers_k1 ()

def ref04_Covers (p_0 : (List Api_Dep)) (q_1 : (List Api_Dep)) : Option Bool :=
  loopF (ref04_Covers_l2 p_0 q_1) FU 0
end Go.Ark
