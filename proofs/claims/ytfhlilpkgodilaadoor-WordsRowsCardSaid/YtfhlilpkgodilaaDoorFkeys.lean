/- Typed functions, printed by a program of mine out of the translated code. -/
import Derived.Test.YtfhlilpkgodilaaDoorFT
namespace Go.Ark
open Go Go.Ab

def keys_Runes_k1 (y1 : Int) : Option Int :=
  some y1

def keys_Runes_k3 (s_0 : ByteArray) (again5 : Int × Nat → Option Int) (v3 : Int × Nat) (y8 : Bool × Nat) : Option Int :=
  if y8.1 then
    some (-1)
  else
    if decide (((Utf8.decode s_0 v3.2).1 : Int) = 65533) then
      if decide ((IntKind.wrap .i64 ((s_0.size : Int) - (v3.2 : Int))) < 3) then
        some (-1)
      else
        (ssub s_0 (v3.2 : Int) (IntKind.wrap .i64 ((v3.2 : Int) + 3))).bind fun s12 =>
        if !seq s12 (ByteArray.mk #[239, 191, 189]) then
          some (-1)
        else
          again5 (IntKind.wrap .i64 (v3.1 + 1), y8.2)
    else
      again5 (IntKind.wrap .i64 (v3.1 + 1), y8.2)

def keys_Runes_l2 (s_0 : ByteArray) (again5 : Int × Nat → Option Int) (v3 : Int × Nat) : Option Int :=
  if decide (v3.2 < s_0.size) then
    if decide (((Utf8.decode s_0 v3.2).1 : Int) = 65533) then
      (sidx s_0 (v3.2 : Int)).bind fun b16 =>
      (sidx (ByteArray.mk #[239, 191, 189]) 0).bind fun b17 =>
      keys_Runes_k3 s_0 again5 v3 (!decide ((b16.toNat : Int) = (b17.toNat : Int)), v3.2 + (Utf8.decode s_0 v3.2).2)
    else
      keys_Runes_k3 s_0 again5 v3 (false, v3.2 + (Utf8.decode s_0 v3.2).2)
  else
    keys_Runes_k1 v3.1

def keys_Runes (s_0 : ByteArray) : Option Int :=
  loopF (keys_Runes_l2 s_0) FU (0, 0)

def keys_Check_k2 (y3 : Bool) : Option Bool :=
  some y3

def keys_Check_l3 (s_0 : ByteArray) (again7 : Bool × Nat → Option Bool) (v5 : Bool × Nat) : Option Bool :=
  if decide (v5.2 < s_0.size) then
    if !v5.1 then
      keys_Check_k2 v5.1
    else
      again7 (decide (33 ≤ ((Utf8.decode s_0 v5.2).1 : Int)), v5.2 + (Utf8.decode s_0 v5.2).2)
  else
    keys_Check_k2 v5.1

def keys_Check_k1 (s_0 : ByteArray) (y2 : Bool) : Option Bool :=
  loopF (keys_Check_l3 s_0) FU (y2, 0)

def keys_Check (s_0 : ByteArray) : Option Bool :=
  (keys_Runes s_0).bind fun r1 =>
  if decide (1 ≤ r1) then
    keys_Check_k1 s_0 (decide (r1 ≤ 8))
  else
    keys_Check_k1 s_0 false

def keys_Good_1 (s_0 : ByteArray) : Option Bool :=
  if seq s_0 ByteArray.empty then
    some true
  else
    (keys_Check s_0).bind fun r2 =>
    some r2

def keys_Good_k1 (r_0 : Api_Range) (y2 : Bool) : Option Bool :=
  if y2 then
    if seq r_0.To ByteArray.empty then
      some true
    else
      some (slt r_0.From r_0.To)
  else
    some false

def keys_Good (r_0 : Api_Range) : Option Bool :=
  (keys_Good_1 r_0.From).bind fun r1 =>
  if r1 then
    (keys_Good_1 r_0.To).bind fun r7 =>
    keys_Good_k1 r_0 r7
  else
    keys_Good_k1 r_0 false

def keys_Whole_k1 (l_0 : (List Api_Range)) (y1 : ByteArray) : Option Bool :=
  if decide (0 < (l_0.length : Int)) then
    some (seq y1 ByteArray.empty)
  else
    some false

def keys_Whole_k3 (again6 : ByteArray × Int → Option Bool) (v4 : ByteArray × Int) (x9 : Api_Range) (y10 : Bool) : Option Bool :=
  if y10 then
    some false
  else
    again6 (x9.To, IntKind.wrap .i64 (v4.2 + 1))

def keys_Whole_k4 (again6 : ByteArray × Int → Option Bool) (v4 : ByteArray × Int) (x9 : Api_Range) (y14 : Bool) : Option Bool :=
  if y14 then
    keys_Whole_k3 again6 v4 x9 true
  else
    if decide (0 < v4.2) then
      keys_Whole_k3 again6 v4 x9 (seq v4.1 ByteArray.empty)
    else
      keys_Whole_k3 again6 v4 x9 false

def keys_Whole_l2 (l_0 : (List Api_Range)) (again6 : ByteArray × Int → Option Bool) (v4 : ByteArray × Int) : Option Bool :=
  if decide (v4.2 < (l_0.length : Int)) then
    (idx l_0 v4.2).bind fun x9 =>
    (keys_Good x9).bind fun r13 =>
    if !r13 then
      keys_Whole_k4 again6 v4 x9 true
    else
      keys_Whole_k4 again6 v4 x9 (!seq x9.From v4.1)
  else
    keys_Whole_k1 l_0 v4.1

def keys_Whole (l_0 : (List Api_Range)) : Option Bool :=
  loopF (keys_Whole_l2 l_0) FU (ByteArray.empty, 0)
end Go.Ark
