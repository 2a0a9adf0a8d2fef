/- Typed functions, printed by a program of mine out of the translated code. -/
import Derived.Test.YtdngcojjipaajaaFT
namespace Go.Ark
open Go Go.Ab

def keys_Runes_k1 (y1 : Int) : Option Int :=
  some y1

def keys_Runes_k3 (s_0 : ByteArray) (again5 : Int × Nat → Option Int) (v3 : Int × Nat) (y8 : Bool × Nat) : Option Int :=
  if y8.1 then
    some (-1)
  else
    if decide (((Utf8.decode s_0 v3.2).1 : Int) = 65533) then
      if decide ((IntKind.wrap .i64 ((s_0.size : Int) - (v3.2 : Int))) < 3) then
        some (-1)
      else
        (ssub s_0 (v3.2 : Int) (IntKind.wrap .i64 ((v3.2 : Int) + 3))).bind fun s12 =>
        if !seq s12 (ByteArray.mk #[239, 191, 189]) then
          some (-1)
        else
          again5 (IntKind.wrap .i64 (v3.1 + 1), y8.2)
    else
      again5 (IntKind.wrap .i64 (v3.1 + 1), y8.2)

def keys_Runes_l2 (s_0 : ByteArray) (again5 : Int × Nat → Option Int) (v3 : Int × Nat) : Option Int :=
  if decide (v3.2 < s_0.size) then
    if decide (((Utf8.decode s_0 v3.2).1 : Int) = 65533) then
      (sidx s_0 (v3.2 : Int)).bind fun b16 =>
      (sidx (ByteArray.mk #[239, 191, 189]) 0).bind fun b17 =>
      keys_Runes_k3 s_0 again5 v3 (!decide ((b16.toNat : Int) = (b17.toNat : Int)), v3.2 + (Utf8.decode s_0 v3.2).2)
    else
      keys_Runes_k3 s_0 again5 v3 (false, v3.2 + (Utf8.decode s_0 v3.2).2)
  else
    keys_Runes_k1 v3.1

def keys_Runes (s_0 : ByteArray) : Option Int :=
  loopF (keys_Runes_l2 s_0) FU (0, 0)

def keys_Check_k2 (y3 : Bool) : Option Bool :=
  some y3

def keys_Check_l3 (s_0 : ByteArray) (again7 : Bool × Nat → Option Bool) (v5 : Bool × Nat) : Option Bool :=
  if decide (v5.2 < s_0.size) then
    if !v5.1 then
      keys_Check_k2 v5.1
    else
      again7 (decide (33 ≤ ((Utf8.decode s_0 v5.2).1 : Int)), v5.2 + (Utf8.decode s_0 v5.2).2)
  else
    keys_Check_k2 v5.1

def keys_Check_k1 (s_0 : ByteArray) (y2 : Bool) : Option Bool :=
  loopF (keys_Check_l3 s_0) FU (y2, 0)

def keys_Check (s_0 : ByteArray) : Option Bool :=
  (keys_Runes s_0).bind fun r1 =>
  if decide (1 ≤ r1) then
    keys_Check_k1 s_0 (decide (r1 ≤ 8))
  else
    keys_Check_k1 s_0 false

end Go.Ark
