/- Typed functions, printed by a program of mine out of the translated code. -/
import Derived.Test.YtjidbmelmcmmhabFT
import Derived.Test.YtjidbmelmcmmhabFref02
import Derived.Test.YtjidbmelmcmmhabFref04
import Derived.Test.YtjidbmelmcmmhabFref06
import Derived.Test.YtjidbmelmcmmhabFwire
namespace Go.Ark
open Go Go.Ab

def law06_awake_k1 (r1 : (Api_Version × Bool)) (y3 : Bool) : Option Bool :=
  if y3 then
    (wire_Same (Api_Version.mk (ByteArray.mk #[97]) (ByteArray.mk #[98]) false (Api_Stamp.mk 3 2) ([] : (List Api_Dep))) r1.1).bind fun r5 =>
    some r5
  else
    some false

def law06_awake : Option Bool :=
  (wire_Read (ByteArray.mk #[1, 97, 0, 1, 98, 3, 2, 0])).bind fun r1 =>
  (wire_Bytes (Api_Version.mk (ByteArray.mk #[97]) (ByteArray.mk #[98]) false (Api_Stamp.mk 3 2) ([] : (List Api_Dep)))).bind fun r2 =>
  if seq r2 (ByteArray.mk #[1, 97, 0, 1, 98, 3, 2, 0]) then
    law06_awake_k1 r1 r1.2
  else
    law06_awake_k1 r1 false

def law06_Spec_row_k4 (y1 : (List Int)) (l3 : (List Api_Range)) (y5 : (List Int)) : Option Api_Row :=
  some (Api_Row.mk l3 y5 y1)

def law06_Spec_row_k6 (again9 : Int × (List Int) → Option Api_Row) (v7 : Int × (List Int)) (y12 : Int) : Option Api_Row :=
  (app 8 v7.2 ([IntKind.wrap .i64 (1 + y12)])).bind fun l13 =>
  again9 (IntKind.wrap .i64 (v7.1 + 1), l13)

def law06_Spec_row_l5 (q_0 : Law06_Spec) (y1 : (List Int)) (l3 : (List Api_Range)) (y4 : Int) (again9 : Int × (List Int) → Option Api_Row) (v7 : Int × (List Int)) : Option Api_Row :=
  if decide (v7.1 < (l3.length : Int)) then
    if decide (v7.1 < (q_0.Owners.length : Int)) then
      (idx q_0.Owners v7.1).bind fun x16 =>
      chk (!decide ((IntKind.wrap .i64 (y4 - 1)) = 0)) (
      chk (!decide ((IntKind.wrap .i64 (y4 - 1)) = 0)) (
      law06_Spec_row_k6 again9 v7 (Int.tmod (IntKind.wrap .i64 ((IntKind.wrap .i64 ((Int.tmod x16 (IntKind.wrap .i64 (y4 - 1))) + y4)) - 1)) (IntKind.wrap .i64 (y4 - 1)))))
    else
      law06_Spec_row_k6 again9 v7 0
  else
    law06_Spec_row_k4 y1 l3 v7.2

def law06_Spec_row_k3 (q_0 : Law06_Spec) (y1 : (List Int)) (l3 : (List Api_Range)) (y4 : Int) : Option Api_Row :=
  loopF (law06_Spec_row_l5 q_0 y1 l3 y4) FU (0, ([] : List Int))

def law06_Spec_row_l7 (q_0 : Law06_Spec) (y1 : (List Int)) (l3 : (List Api_Range)) (again22 : Int × Int → Option Api_Row) (v20 : Int × Int) : Option Api_Row :=
  if decide (v20.2 < (y1.length : Int)) then
    again22 (IntKind.wrap .i64 (v20.1 * 2), IntKind.wrap .i64 (v20.2 + 1))
  else
    law06_Spec_row_k3 q_0 y1 l3 v20.1

def law06_Spec_row_k2 (q_0 : Law06_Spec) (y1 : (List Int)) (y2 : ByteArray × (List Api_Range)) : Option Api_Row :=
  (app 32 y2.2 ([(Api_Range.mk y2.1 ByteArray.empty)])).bind fun l3 =>
  loopF (law06_Spec_row_l7 q_0 y1 l3) FU (1, 0)

def law06_Spec_row_k9 (q_0 : Law06_Spec) (y1 : (List Int)) (again28 : ByteArray × Int × (List Api_Range) → Option Api_Row) (v26 : ByteArray × Int × (List Api_Range)) (y30 : Bool) : Option Api_Row :=
  if y30 then
    (idx q_0.Ends v26.2.1).bind fun x32 =>
    if !(slt (bytesOf ([IntKind.wrap .u8 (IntKind.wrap .i64 (97 + (Int.tmod (IntKind.wrap .i64 ((Int.tmod x32 26) + 26)) 26)))])) v26.1 || seq (bytesOf ([IntKind.wrap .u8 (IntKind.wrap .i64 (97 + (Int.tmod (IntKind.wrap .i64 ((Int.tmod x32 26) + 26)) 26)))])) v26.1) then
      (app 32 v26.2.2 ([(Api_Range.mk v26.1 (bytesOf ([IntKind.wrap .u8 (IntKind.wrap .i64 (97 + (Int.tmod (IntKind.wrap .i64 ((Int.tmod x32 26) + 26)) 26)))])))])).bind fun l34 =>
      again28 (bytesOf ([IntKind.wrap .u8 (IntKind.wrap .i64 (97 + (Int.tmod (IntKind.wrap .i64 ((Int.tmod x32 26) + 26)) 26)))]), IntKind.wrap .i64 (v26.2.1 + 1), l34)
    else
      again28 (v26.1, IntKind.wrap .i64 (v26.2.1 + 1), v26.2.2)
  else
    law06_Spec_row_k2 q_0 y1 (v26.1, v26.2.2)

def law06_Spec_row_l8 (q_0 : Law06_Spec) (y1 : (List Int)) (again28 : ByteArray × Int × (List Api_Range) → Option Api_Row) (v26 : ByteArray × Int × (List Api_Range)) : Option Api_Row :=
  if decide (v26.2.1 < (q_0.Ends.length : Int)) then
    law06_Spec_row_k9 q_0 y1 again28 v26 (decide (v26.2.1 < 7))
  else
    law06_Spec_row_k9 q_0 y1 again28 v26 false

def law06_Spec_row_k1 (q_0 : Law06_Spec) (y1 : (List Int)) : Option Api_Row :=
  loopF (law06_Spec_row_l8 q_0 y1) FU (ByteArray.empty, 0, ([] : List Api_Range))

def law06_Spec_row_k11 (q_0 : Law06_Spec) (again40 : Int × (List Int) → Option Api_Row) (v38 : Int × (List Int)) (y42 : Bool) : Option Api_Row :=
  if y42 then
    (idx q_0.Parents v38.1).bind fun x44 =>
    (app 8 v38.2 ([IntKind.wrap .i64 ((Int.tmod (IntKind.wrap .i64 ((Int.tmod x44 7) + 7)) 7) - 1)])).bind fun l45 =>
    again40 (IntKind.wrap .i64 (v38.1 + 1), l45)
  else
    law06_Spec_row_k1 q_0 v38.2

def law06_Spec_row_l10 (q_0 : Law06_Spec) (again40 : Int × (List Int) → Option Api_Row) (v38 : Int × (List Int)) : Option Api_Row :=
  if decide (v38.1 < (q_0.Parents.length : Int)) then
    law06_Spec_row_k11 q_0 again40 v38 (decide (v38.1 < 5))
  else
    law06_Spec_row_k11 q_0 again40 v38 false

def law06_Spec_row (q_0 : Law06_Spec) : Option Api_Row :=
  loopF (law06_Spec_row_l10 q_0) FU (0, [(-1)])

def law06_WireEnds_k3 (r2 : Api_Row) (l10 : (List Int)) (y11 : Bool) : Option Bool :=
  if y11 then
    (wire_RowBytes (Api_Row.mk r2.Ranges l10 r2.Parents)).bind fun r13 =>
    some (seq r13 ByteArray.empty)
  else
    some false

def law06_WireEnds_k2 (r1 : Bool) (r2 : Api_Row) (y7 : ByteArray) : Option Bool :=
  (app 8 ([] : List Int) r2.Owners).bind fun l8 =>
  (idx l8 0).bind fun _x9 =>
  (sets l8 0 0).bind fun l10 =>
  if r1 then
    law06_WireEnds_k3 r2 l10 (seq y7 ByteArray.empty)
  else
    law06_WireEnds_k3 r2 l10 false

def law06_WireEnds_k5 (r4 : (Api_Row × Bool)) (again19 : ByteArray × Int → Option Bool) (v17 : ByteArray × Int) (y22 : Bool) : Option Bool :=
  if y22 then
    some false
  else
    (idx r4.1.Ranges v17.2).bind fun x24 =>
    again19 (x24.To, IntKind.wrap .i64 (v17.2 + 1))

def law06_WireEnds_l4 (r1 : Bool) (r2 : Api_Row) (r4 : (Api_Row × Bool)) (again19 : ByteArray × Int → Option Bool) (v17 : ByteArray × Int) : Option Bool :=
  if decide (v17.2 < (r4.1.Ranges.length : Int)) then
    (idx r4.1.Ranges v17.2).bind fun x26 =>
    if !seq x26.From v17.1 then
      law06_WireEnds_k5 r4 again19 v17 true
    else
      if decide (0 < v17.2) then
        law06_WireEnds_k5 r4 again19 v17 (seq v17.1 ByteArray.empty)
      else
        law06_WireEnds_k5 r4 again19 v17 false
  else
    law06_WireEnds_k2 r1 r2 v17.1

def law06_WireEnds_k1 (r1 : Bool) (r2 : Api_Row) (r4 : (Api_Row × Bool)) (y5 : Bool) : Option Bool :=
  if y5 then
    some false
  else
    loopF (law06_WireEnds_l4 r1 r2 r4) FU (ByteArray.empty, 0)

def law06_WireEnds (q_0 : Law06_Spec) : Option Bool :=
  (law06_awake).bind fun r1 =>
  (law06_Spec_row q_0).bind fun r2 =>
  (wire_RowBytes r2).bind fun r3 =>
  (wire_ReadRow r3).bind fun r4 =>
  if !r4.2 then
    law06_WireEnds_k1 r1 r2 r4 true
  else
    law06_WireEnds_k1 r1 r2 r4 (!decide ((r4.1.Ranges.length : Int) = (r2.Ranges.length : Int)))
end Go.Ark
