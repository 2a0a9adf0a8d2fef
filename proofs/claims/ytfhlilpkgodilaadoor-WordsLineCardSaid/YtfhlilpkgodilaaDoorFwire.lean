/- Typed functions, printed by a program of mine out of the translated code. -/
import Derived.Test.YtfhlilpkgodilaaDoorFT
import Derived.Test.YtfhlilpkgodilaaDoorFkeys
import Derived.Test.YtfhlilpkgodilaaDoorFlib
import Derived.Test.YtfhlilpkgodilaaDoorFvary
namespace Go.Ark
open Go Go.Ab

def wire_written_1 (p_0 : Int) : Option Bool :=
  if decide (p_0 < (-1)) then
    some true
  else
    some (decide (6 ≤ p_0))

def wire_written_2 (o_0 : Int) (c0 : Int) : Option Bool :=
  if decide (o_0 < 1) then
    some true
  else
    chk (decide (0 ≤ c0)) (
    some (!decide ((Int.fdiv o_0 (2 ^ min (Int.toNat c0) (IntKind.bits .i64))) = 0)))

def wire_written_k1 (c_0 : Api_Row) (y1 : Bool) : Option Bool :=
  if y1 then
    some false
  else
    (slices_ContainsFunc_int c_0.Parents (fun x0 => wire_written_1 x0)).bind fun r3 =>
    if !r3 then
      (slices_ContainsFunc_int c_0.Owners (fun x0 => wire_written_2 x0 (c_0.Parents.length : Int))).bind fun r5 =>
      some (!r5)
    else
      some false

def wire_written_k4 (c_0 : Api_Row) (y9 : Bool) : Option Bool :=
  if y9 then
    wire_written_k1 c_0 true
  else
    (keys_Whole c_0.Ranges).bind fun r11 =>
    wire_written_k1 c_0 (!r11)

def wire_written_k3 (c_0 : Api_Row) (y8 : Bool) : Option Bool :=
  if y8 then
    wire_written_k4 c_0 true
  else
    wire_written_k4 c_0 (!decide ((c_0.Owners.length : Int) = (c_0.Ranges.length : Int)))

def wire_written_k2 (c_0 : Api_Row) (y7 : Bool) : Option Bool :=
  if y7 then
    wire_written_k3 c_0 true
  else
    wire_written_k3 c_0 (decide (8 < (c_0.Ranges.length : Int)))

def wire_written (c_0 : Api_Row) : Option Bool :=
  if decide ((c_0.Parents.length : Int) < 1) then
    wire_written_k2 c_0 true
  else
    wire_written_k2 c_0 (decide (6 < (c_0.Parents.length : Int)))

def wire_RowBytes_k3 (y6 : ByteArray) (y9 : (List Int)) : Option ByteArray :=
  (bld_String y6).bind fun r10 =>
  (vary_Join y9).bind fun r11 =>
  (scat r10 r11).bind fun s12 =>
  some s12

def wire_RowBytes_l4 (c_0 : Api_Row) (y6 : ByteArray) (again16 : Int × (List Int) → Option ByteArray) (v14 : Int × (List Int)) : Option ByteArray :=
  if decide (v14.1 < (c_0.Parents.length : Int)) then
    (idx c_0.Parents v14.1).bind fun x19 =>
    (app 8 v14.2 ([IntKind.wrap .u64 (IntKind.wrap .i64 (x19 + 1))])).bind fun l20 =>
    again16 (IntKind.wrap .i64 (v14.1 + 1), l20)
  else
    wire_RowBytes_k3 y6 v14.2

def wire_RowBytes_k2 (c_0 : Api_Row) (y6 : ByteArray) (y7 : (List Int)) : Option ByteArray :=
  (app 8 y7 ([IntKind.wrap .u64 (c_0.Parents.length : Int)])).bind fun l8 =>
  loopF (wire_RowBytes_l4 c_0 y6) FU (0, l8)

def wire_RowBytes_l5 (c_0 : Api_Row) (y6 : ByteArray) (again24 : Int × (List Int) → Option ByteArray) (v22 : Int × (List Int)) : Option ByteArray :=
  if decide (v22.1 < (c_0.Owners.length : Int)) then
    (idx c_0.Owners v22.1).bind fun x27 =>
    (app 8 v22.2 ([IntKind.wrap .u64 x27])).bind fun l28 =>
    again24 (IntKind.wrap .i64 (v22.1 + 1), l28)
  else
    wire_RowBytes_k2 c_0 y6 v22.2

def wire_RowBytes_k1 (c_0 : Api_Row) (y6 : ByteArray) : Option ByteArray :=
  loopF (wire_RowBytes_l5 c_0 y6) FU (0, ([] : (List Int)))

def wire_RowBytes_l6 (c_0 : Api_Row) (l5 : (List Api_Range)) (again32 : Int × ByteArray → Option ByteArray) (v30 : Int × ByteArray) : Option ByteArray :=
  if decide (v30.1 < (l5.length : Int)) then
    (idx l5 v30.1).bind fun x35 =>
    (vary_Text x35.To).bind fun r36 =>
    (bld_WriteString v30.2 r36).bind fun r37 =>
    again32 (IntKind.wrap .i64 (v30.1 + 1), r37)
  else
    wire_RowBytes_k1 c_0 v30.2

def wire_RowBytes (c_0 : Api_Row) : Option ByteArray :=
  (wire_written c_0).bind fun r1 =>
  if !r1 then
    some ByteArray.empty
  else
    (vary_Number (IntKind.wrap .u64 (c_0.Ranges.length : Int))).bind fun r3 =>
    (bld_WriteString ByteArray.empty r3).bind fun r4 =>
    (sub c_0.Ranges 0 (IntKind.wrap .i64 ((c_0.Ranges.length : Int) - 1))).bind fun l5 =>
    loopF (wire_RowBytes_l6 c_0 l5) FU (0, r4)
end Go.Ark
