/- Typed functions, printed by a program of mine out of the translated code. -/
import Derived.Test.YtjidbmelmcmmhabFT
namespace Go.Ark
open Go Go.Ab

def ref01_Number_b (again0 : Int → Option ByteArray) (n_0 : Int) : Option ByteArray :=
  if decide (n_0 < 128) then
    some (bytesOf ([IntKind.wrap .u8 n_0]))
  else
    (again0 (IntKind.wrap .u64 (Int.tdiv n_0 128))).bind fun r2 =>
    (scat (bytesOf ([IntKind.wrap .u8 (IntKind.wrap .u64 (128 + (Int.tmod n_0 128)))])) r2).bind fun s3 =>
    some s3

def ref01_Number (n_0 : Int) : Option ByteArray := loopF (fun again0 v0 => ref01_Number_b again0 v0) FU n_0

def ref01_Text (s_0 : ByteArray) : Option ByteArray :=
  (ref01_Number (IntKind.wrap .u64 (s_0.size : Int))).bind fun r1 =>
  (scat r1 s_0).bind fun s2 =>
  some s2

def ref01_Read_k1 (_y2 : Unit) : Option Ref01_Got :=
  some (Ref01_Got.mk 0 0)

def ref01_Read_k3 (s_0 : ByteArray) (at_1 : Int) (again6 : Int × Int × Int → Option Ref01_Got) (v4 : Int × Int × Int) (y8 : Bool) : Option Ref01_Got :=
  if y8 then
    (sidx s_0 v4.2.2).bind fun b10 =>
    if decide ((IntKind.wrap .u64 (b10.toNat : Int)) < 128) then
      (ref01_Number (IntKind.wrap .u64 (v4.1 + (IntKind.wrap .u64 ((Int.tmod (IntKind.wrap .u64 (b10.toNat : Int)) 128) * v4.2.1))))).bind fun r12 =>
      (ssub s_0 at_1 (IntKind.wrap .i64 (v4.2.2 + 1))).bind fun s13 =>
      if !seq r12 s13 then
        some (Ref01_Got.mk 0 0)
      else
        some (Ref01_Got.mk (IntKind.wrap .u64 (v4.1 + (IntKind.wrap .u64 ((Int.tmod (IntKind.wrap .u64 (b10.toNat : Int)) 128) * v4.2.1)))) (IntKind.wrap .i64 (v4.2.2 + 1)))
    else
      again6 (IntKind.wrap .u64 (v4.1 + (IntKind.wrap .u64 ((Int.tmod (IntKind.wrap .u64 (b10.toNat : Int)) 128) * v4.2.1))), IntKind.wrap .u64 (v4.2.1 * 128), IntKind.wrap .i64 (v4.2.2 + 1))
  else
    ref01_Read_k1 ()

def ref01_Read_l2 (s_0 : ByteArray) (at_1 : Int) (again6 : Int × Int × Int → Option Ref01_Got) (v4 : Int × Int × Int) : Option Ref01_Got :=
  if decide (v4.2.2 < (s_0.size : Int)) then
    ref01_Read_k3 s_0 at_1 again6 v4 (decide (v4.2.2 < (IntKind.wrap .i64 (at_1 + 10))))
  else
    ref01_Read_k3 s_0 at_1 again6 v4 false

def ref01_Read (s_0 : ByteArray) (at_1 : Int) : Option Ref01_Got :=
  if decide (at_1 < 0) then
    some (Ref01_Got.mk 0 0)
  else
    loopF (ref01_Read_l2 s_0 at_1) FU (0, 1, at_1)

def ref01_ReadText_k1 (s_0 : ByteArray) (r1 : Ref01_Got) (y2 : Bool) : Option Ref01_GotText :=
  if y2 then
    some (Ref01_GotText.mk ByteArray.empty 0)
  else
    (ssub s_0 r1.End (IntKind.wrap .i64 (r1.End + (IntKind.wrap .i64 r1.N)))).bind fun s4 =>
    some (Ref01_GotText.mk s4 (IntKind.wrap .i64 (r1.End + (IntKind.wrap .i64 r1.N))))

def ref01_ReadText_k3 (s_0 : ByteArray) (r1 : Ref01_Got) (y7 : Bool) : Option Ref01_GotText :=
  if y7 then
    ref01_ReadText_k1 s_0 r1 true
  else
    ref01_ReadText_k1 s_0 r1 (decide ((IntKind.wrap .u64 (IntKind.wrap .i64 ((s_0.size : Int) - r1.End))) < r1.N))

def ref01_ReadText_k2 (s_0 : ByteArray) (most_2 : Int) (r1 : Ref01_Got) (y6 : Bool) : Option Ref01_GotText :=
  if y6 then
    ref01_ReadText_k3 s_0 r1 true
  else
    ref01_ReadText_k3 s_0 r1 (decide ((IntKind.wrap .u64 most_2) < r1.N))

def ref01_ReadText (s_0 : ByteArray) (at_1 : Int) (most_2 : Int) : Option Ref01_GotText :=
  (ref01_Read s_0 at_1).bind fun r1 =>
  if decide (r1.End = 0) then
    ref01_ReadText_k2 s_0 most_2 r1 true
  else
    ref01_ReadText_k2 s_0 most_2 r1 (decide (most_2 < 0))
end Go.Ark
