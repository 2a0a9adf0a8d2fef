/- Typed functions, printed by a program of mine out of the translated code. -/
import Derived.Test.YtfhlilpkgodilaaDoorFT
import Derived.Test.YtfhlilpkgodilaaDoorFlib
import Derived.Test.YtfhlilpkgodilaaDoorFvary
import Derived.Test.YtfhlilpkgodilaaDoorFwire
namespace Go.Ark
open Go Go.Ab

def script_Check_1 (n_0 : Int) : Option Bool :=
  if decide (n_0 < 0) then
    some true
  else
    some (decide (63 < n_0))

def script_Check_2 (s_0 : ByteArray) : Option Bool :=
  some (decide (32 < (s_0.size : Int)))

def script_numbers (o_0 : Api_Op) : Option (List Int) :=
  some ([o_0.Kind, o_0.Client, o_0.Site, o_0.To, o_0.At, o_0.How])

def script_empty (c_0 : Api_Row) : Option Bool :=
  some (decide ((IntKind.wrap .i64 ((IntKind.wrap .i64 ((c_0.Ranges.length : Int) + (c_0.Owners.length : Int))) + (c_0.Parents.length : Int))) = 0))

def script_Check_k6 (o_0 : Api_Op) (y6 : Bool) : Option Bool :=
  if y6 then
    (script_empty o_0.Row).bind fun r8 =>
    if r8 then
      some true
    else
      (wire_RowBytes o_0.Row).bind fun r10 =>
      some (!seq r10 ByteArray.empty)
  else
    some false

def script_Check_k5 (o_0 : Api_Op) (y5 : Bool) : Option Bool :=
  if y5 then
    (script_Check_2 o_0.Value).bind fun r13 =>
    script_Check_k6 o_0 (!r13)
  else
    script_Check_k6 o_0 false

def script_Check_k4 (o_0 : Api_Op) (y4 : Bool) : Option Bool :=
  if y4 then
    (script_Check_2 o_0.Key).bind fun r16 =>
    script_Check_k5 o_0 (!r16)
  else
    script_Check_k5 o_0 false

def script_Check_k3 (o_0 : Api_Op) (y3 : Bool) : Option Bool :=
  if y3 then
    (slices_ContainsFunc_string o_0.Keys (fun x0 => script_Check_2 x0)).bind fun r19 =>
    script_Check_k4 o_0 (!r19)
  else
    script_Check_k4 o_0 false

def script_Check_k2 (o_0 : Api_Op) (y2 : Bool) : Option Bool :=
  if y2 then
    script_Check_k3 o_0 (decide ((o_0.Keys.length : Int) ≤ 8))
  else
    script_Check_k3 o_0 false

def script_Check_k1 (o_0 : Api_Op) (y1 : Bool) : Option Bool :=
  if y1 then
    (script_numbers o_0).bind fun r24 =>
    (slices_ContainsFunc_int r24 (fun x0 => script_Check_1 x0)).bind fun r25 =>
    script_Check_k2 o_0 (!r25)
  else
    script_Check_k2 o_0 false

def script_Check (o_0 : Api_Op) : Option Bool :=
  if decide (1 ≤ o_0.Kind) then
    script_Check_k1 o_0 (decide (o_0.Kind ≤ 12))
  else
    script_Check_k1 o_0 false

def script_Bytes_k1 (y3 : ByteArray) : Option ByteArray :=
  (bld_String y3).bind fun r4 =>
  some r4

def script_Bytes_k3 (again8 : Int × ByteArray → Option ByteArray) (v6 : Int × ByteArray) (y11 : ByteArray) : Option ByteArray :=
  again8 (IntKind.wrap .i64 (v6.1 + 1), y11)

def script_Bytes_k5 (again8 : Int × ByteArray → Option ByteArray) (v6 : Int × ByteArray) (x13 : Api_Op) (y24 : ByteArray) : Option ByteArray :=
  (script_empty x13.Row).bind fun r25 =>
  if !r25 then
    (wire_RowBytes x13.Row).bind fun r27 =>
    (vary_Text r27).bind fun r28 =>
    (bld_WriteString y24 r28).bind fun r29 =>
    script_Bytes_k3 again8 v6 r29
  else
    (vary_Text ByteArray.empty).bind fun r30 =>
    (bld_WriteString y24 r30).bind fun r31 =>
    script_Bytes_k3 again8 v6 r31

def script_Bytes_l6 (again8 : Int × ByteArray → Option ByteArray) (v6 : Int × ByteArray) (x13 : Api_Op) (again35 : Int × ByteArray → Option ByteArray) (v33 : Int × ByteArray) : Option ByteArray :=
  if decide (v33.1 < (x13.Keys.length : Int)) then
    (idx x13.Keys v33.1).bind fun x38 =>
    (vary_Text x38).bind fun r39 =>
    (bld_WriteString v33.2 r39).bind fun r40 =>
    again35 (IntKind.wrap .i64 (v33.1 + 1), r40)
  else
    script_Bytes_k5 again8 v6 x13 v33.2

def script_Bytes_k4 (again8 : Int × ByteArray → Option ByteArray) (v6 : Int × ByteArray) (x13 : Api_Op) (y17 : ByteArray) : Option ByteArray :=
  (vary_Text x13.Key).bind fun r18 =>
  (vary_Text x13.Value).bind fun r19 =>
  (scat r18 r19).bind fun s20 =>
  (vary_Number (IntKind.wrap .u64 (x13.Keys.length : Int))).bind fun r21 =>
  (scat s20 r21).bind fun s22 =>
  (bld_WriteString y17 s22).bind fun r23 =>
  loopF (script_Bytes_l6 again8 v6 x13) FU (0, r23)

def script_Bytes_l7 (again8 : Int × ByteArray → Option ByteArray) (v6 : Int × ByteArray) (x13 : Api_Op) (r16 : (List Int)) (again44 : Int × ByteArray → Option ByteArray) (v42 : Int × ByteArray) : Option ByteArray :=
  if decide (v42.1 < (r16.length : Int)) then
    (idx r16 v42.1).bind fun x47 =>
    (vary_Number (IntKind.wrap .u64 x47)).bind fun r48 =>
    (bld_WriteString v42.2 r48).bind fun r49 =>
    again44 (IntKind.wrap .i64 (v42.1 + 1), r49)
  else
    script_Bytes_k4 again8 v6 x13 v42.2

def script_Bytes_l2 (l_0 : (List Api_Op)) (again8 : Int × ByteArray → Option ByteArray) (v6 : Int × ByteArray) : Option ByteArray :=
  if decide (v6.1 < (l_0.length : Int)) then
    (idx l_0 v6.1).bind fun x13 =>
    (script_Check x13).bind fun r14 =>
    if !r14 then
      some ByteArray.empty
    else
      (script_numbers x13).bind fun r16 =>
      loopF (script_Bytes_l7 again8 v6 x13 r16) FU (0, v6.2)
  else
    script_Bytes_k1 v6.2

def script_Bytes (l_0 : (List Api_Op)) : Option ByteArray :=
  (vary_Number (IntKind.wrap .u64 (l_0.length : Int))).bind fun r1 =>
  (bld_WriteString ByteArray.empty r1).bind fun r2 =>
  loopF (script_Bytes_l2 l_0) FU (0, r2)
end Go.Ark
