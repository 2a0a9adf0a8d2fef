/- Typed functions, printed by a program of mine out of the translated code. -/
import Derived.Test.YtjidbmelmcmmhabFT
import Derived.Test.YtjidbmelmcmmhabFlib
namespace Go.Ark
open Go Go.Ab

def vary_Read_k2 (_y3 : Unit) : Option (Int × Int × Bool) :=
  some (0, 0, false)

def vary_Read_k4 (at_1 : Int) (again7 : Int × Int → Option (Int × Int × Bool)) (v5 : Int × Int) (b10 : UInt8) (y11 : Bool) : Option (Int × Int × Bool) :=
  if y11 then
    vary_Read_k2 ()
  else
    chk (decide (0 ≤ (IntKind.wrap .i64 (7 * (IntKind.wrap .i64 (v5.2 - at_1)))))) (
    if decide ((IntKind.wrap .u64 (b10.toNat : Int)) < 128) then
      some (IntKind.wrap .u64 (BitVec.ofInt (IntKind.bits .u64) v5.1 ||| BitVec.ofInt (IntKind.bits .u64) (IntKind.wrap .u64 ((IntKind.wrap .u64 (BitVec.ofInt (IntKind.bits .u64) (IntKind.wrap .u64 (b10.toNat : Int)) &&& ~~~BitVec.ofInt (IntKind.bits .u64) 128).toNat) * 2 ^ min (Int.toNat (IntKind.wrap .i64 (7 * (IntKind.wrap .i64 (v5.2 - at_1))))) (IntKind.bits .u64)))).toNat, IntKind.wrap .i64 (v5.2 + 1), true)
    else
      again7 (IntKind.wrap .u64 (BitVec.ofInt (IntKind.bits .u64) v5.1 ||| BitVec.ofInt (IntKind.bits .u64) (IntKind.wrap .u64 ((IntKind.wrap .u64 (BitVec.ofInt (IntKind.bits .u64) (IntKind.wrap .u64 (b10.toNat : Int)) &&& ~~~BitVec.ofInt (IntKind.bits .u64) 128).toNat) * 2 ^ min (Int.toNat (IntKind.wrap .i64 (7 * (IntKind.wrap .i64 (v5.2 - at_1))))) (IntKind.bits .u64)))).toNat, IntKind.wrap .i64 (v5.2 + 1)))

def vary_Read_k5 (at_1 : Int) (again7 : Int × Int → Option (Int × Int × Bool)) (v5 : Int × Int) (b10 : UInt8) (y16 : Bool) : Option (Int × Int × Bool) :=
  if y16 then
    vary_Read_k4 at_1 again7 v5 b10 true
  else
    if decide ((IntKind.wrap .u64 (b10.toNat : Int)) = 0) then
      vary_Read_k4 at_1 again7 v5 b10 (decide (at_1 < v5.2))
    else
      vary_Read_k4 at_1 again7 v5 b10 false

def vary_Read_l3 (s_0 : ByteArray) (at_1 : Int) (again7 : Int × Int → Option (Int × Int × Bool)) (v5 : Int × Int) : Option (Int × Int × Bool) :=
  if decide (v5.2 < (s_0.size : Int)) then
    (sidx s_0 v5.2).bind fun b10 =>
    if decide (64 ≤ (IntKind.wrap .i64 (7 * (IntKind.wrap .i64 (v5.2 - at_1))))) then
      vary_Read_k5 at_1 again7 v5 b10 true
    else
      chk (decide (0 ≤ (IntKind.wrap .i64 (7 * (IntKind.wrap .i64 (v5.2 - at_1)))))) (
      chk (decide (0 ≤ (IntKind.wrap .i64 (7 * (IntKind.wrap .i64 (v5.2 - at_1)))))) (
      vary_Read_k5 at_1 again7 v5 b10 (!decide ((Int.fdiv (IntKind.wrap .u64 ((IntKind.wrap .u64 (BitVec.ofInt (IntKind.bits .u64) (IntKind.wrap .u64 (b10.toNat : Int)) &&& ~~~BitVec.ofInt (IntKind.bits .u64) 128).toNat) * 2 ^ min (Int.toNat (IntKind.wrap .i64 (7 * (IntKind.wrap .i64 (v5.2 - at_1))))) (IntKind.bits .u64))) (2 ^ min (Int.toNat (IntKind.wrap .i64 (7 * (IntKind.wrap .i64 (v5.2 - at_1))))) (IntKind.bits .u64))) = (IntKind.wrap .u64 (BitVec.ofInt (IntKind.bits .u64) (IntKind.wrap .u64 (b10.toNat : Int)) &&& ~~~BitVec.ofInt (IntKind.bits .u64) 128).toNat)))))
  else
    vary_Read_k2 ()

def vary_Read_k1 (s_0 : ByteArray) (at_1 : Int) (y1 : Bool) : Option (Int × Int × Bool) :=
  if y1 then
    some (0, 0, false)
  else
    loopF (vary_Read_l3 s_0 at_1) FU (0, at_1)

def vary_Read (s_0 : ByteArray) (at_1 : Int) : Option (Int × Int × Bool) :=
  if decide (at_1 < 0) then
    vary_Read_k1 s_0 at_1 true
  else
    vary_Read_k1 s_0 at_1 (decide ((s_0.size : Int) ≤ at_1))

def vary_ReadText_k1 (s_0 : ByteArray) (r1 : (Int × Int × Bool)) (y2 : Bool) : Option (ByteArray × Int × Bool) :=
  if y2 then
    some (ByteArray.empty, 0, false)
  else
    (ssub s_0 r1.2.1 (IntKind.wrap .i64 (r1.2.1 + (IntKind.wrap .i64 r1.1)))).bind fun s4 =>
    some (s4, IntKind.wrap .i64 (r1.2.1 + (IntKind.wrap .i64 r1.1)), true)

def vary_ReadText_k3 (s_0 : ByteArray) (r1 : (Int × Int × Bool)) (y7 : Bool) : Option (ByteArray × Int × Bool) :=
  if y7 then
    vary_ReadText_k1 s_0 r1 true
  else
    vary_ReadText_k1 s_0 r1 (decide ((IntKind.wrap .u64 (IntKind.wrap .i64 ((s_0.size : Int) - r1.2.1))) < r1.1))

def vary_ReadText_k2 (s_0 : ByteArray) (most_2 : Int) (r1 : (Int × Int × Bool)) (y6 : Bool) : Option (ByteArray × Int × Bool) :=
  if y6 then
    vary_ReadText_k3 s_0 r1 true
  else
    vary_ReadText_k3 s_0 r1 (decide ((IntKind.wrap .u64 most_2) < r1.1))

def vary_ReadText (s_0 : ByteArray) (at_1 : Int) (most_2 : Int) : Option (ByteArray × Int × Bool) :=
  (vary_Read s_0 at_1).bind fun r1 =>
  if !r1.2.2 then
    vary_ReadText_k2 s_0 most_2 r1 true
  else
    vary_ReadText_k2 s_0 most_2 r1 (decide (most_2 < 0))

def vary_put_k1 (y1 : Int × ByteArray) : Option ByteArray :=
  (bld_WriteByte y1.2 (IntKind.wrap .u8 y1.1)).bind fun r2 =>
  some r2

def vary_put_l2 (again6 : Int × ByteArray → Option ByteArray) (v4 : Int × ByteArray) : Option ByteArray :=
  if decide (128 ≤ v4.1) then
    (bld_WriteByte v4.2 (IntKind.wrap .u8 (BitVec.ofInt (IntKind.bits .u8) (IntKind.wrap .u8 v4.1) ||| BitVec.ofInt (IntKind.bits .u8) 128).toNat)).bind fun r9 =>
    again6 (Int.fdiv v4.1 (2 ^ min (Int.toNat 7) (IntKind.bits .u64)), r9)
  else
    vary_put_k1 (v4.1, v4.2)

def vary_put (b_0 : ByteArray) (n_1 : Int) : Option ByteArray :=
  loopF (vary_put_l2) FU (n_1, b_0)

def vary_Join_1 (n_0 : Int) (c0 : ByteArray) : Option ByteArray :=
  (vary_put c0 n_0).bind fun r1 =>
  some r1

def vary_Join_k1 (y1 : ByteArray) : Option ByteArray :=
  (bld_String y1).bind fun r2 =>
  some r2

def vary_Join_l2 (l_0 : (List Int)) (again6 : Int × ByteArray → Option ByteArray) (v4 : Int × ByteArray) : Option ByteArray :=
  if decide (v4.1 < (l_0.length : Int)) then
    (idx l_0 v4.1).bind fun x9 =>
    (vary_Join_1 x9 v4.2).bind fun r10 =>
    again6 (IntKind.wrap .i64 (v4.1 + 1), r10)
  else
    vary_Join_k1 v4.2

def vary_Join (l_0 : (List Int)) : Option ByteArray :=
  loopF (vary_Join_l2 l_0) FU (0, ByteArray.empty)

def vary_Number (n_0 : Int) : Option ByteArray :=
  (vary_Join ([n_0])).bind fun r1 =>
  some r1

def vary_Text (s_0 : ByteArray) : Option ByteArray :=
  (vary_Number (IntKind.wrap .u64 (s_0.size : Int))).bind fun r1 =>
  (scat r1 s_0).bind fun s2 =>
  some s2
end Go.Ark
