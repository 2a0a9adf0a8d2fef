/- Typed functions, printed by a program of mine out of the translated code. -/
import Derived.Test.YtjidbmelmcmmhabFT
import Derived.Test.YtjidbmelmcmmhabFref01
import Derived.Test.YtjidbmelmcmmhabFref02
import Derived.Test.YtjidbmelmcmmhabFref03
import Derived.Test.YtjidbmelmcmmhabFref04
namespace Go.Ark
open Go Go.Ab

def ref06_RowBytes_k3 (y6 : ByteArray) : Option ByteArray :=
  some y6

def ref06_RowBytes_l4 (c_0 : Api_Row) (again10 : ByteArray × Int → Option ByteArray) (v8 : ByteArray × Int) : Option ByteArray :=
  if decide (v8.2 < (c_0.Parents.length : Int)) then
    (idx c_0.Parents v8.2).bind fun x13 =>
    (ref01_Number (IntKind.wrap .u64 (IntKind.wrap .i64 (x13 + 1)))).bind fun r14 =>
    (scat v8.1 r14).bind fun s15 =>
    again10 (s15, IntKind.wrap .i64 (v8.2 + 1))
  else
    ref06_RowBytes_k3 v8.1

def ref06_RowBytes_k2 (c_0 : Api_Row) (y3 : ByteArray) : Option ByteArray :=
  (ref01_Number (IntKind.wrap .u64 (c_0.Parents.length : Int))).bind fun r4 =>
  (scat y3 r4).bind fun s5 =>
  loopF (ref06_RowBytes_l4 c_0) FU (s5, 0)

def ref06_RowBytes_l5 (c_0 : Api_Row) (again19 : ByteArray × Int → Option ByteArray) (v17 : ByteArray × Int) : Option ByteArray :=
  if decide (v17.2 < (c_0.Ranges.length : Int)) then
    (idx c_0.Owners v17.2).bind fun x22 =>
    (ref01_Number (IntKind.wrap .u64 x22)).bind fun r23 =>
    (scat v17.1 r23).bind fun s24 =>
    again19 (s24, IntKind.wrap .i64 (v17.2 + 1))
  else
    ref06_RowBytes_k2 c_0 v17.1

def ref06_RowBytes_k1 (c_0 : Api_Row) (y2 : ByteArray) : Option ByteArray :=
  loopF (ref06_RowBytes_l5 c_0) FU (y2, 0)

def ref06_RowBytes_l6 (c_0 : Api_Row) (again28 : ByteArray × Int → Option ByteArray) (v26 : ByteArray × Int) : Option ByteArray :=
  if decide ((IntKind.wrap .i64 (v26.2 + 1)) < (c_0.Ranges.length : Int)) then
    (idx c_0.Ranges v26.2).bind fun x31 =>
    (ref01_Text x31.To).bind fun r32 =>
    (scat v26.1 r32).bind fun s33 =>
    again28 (s33, IntKind.wrap .i64 (v26.2 + 1))
  else
    ref06_RowBytes_k1 c_0 v26.1

def ref06_RowBytes (c_0 : Api_Row) : Option ByteArray :=
  (ref01_Number (IntKind.wrap .u64 (c_0.Ranges.length : Int))).bind fun r1 =>
  loopF (ref06_RowBytes_l6 c_0) FU (r1, 0)

def ref06_ReadRow_k5 (s_0 : ByteArray) (y4 : Int × (List Api_Range)) (y5 : Int × (List Int)) (y9 : Int × (List Int)) : Option (Api_Row × Bool) :=
  some ((Api_Row.mk y4.2 y5.2 y9.2), decide (y9.1 = (s_0.size : Int)))

def ref06_ReadRow_k7 (again13 : Int × Int × (List Int) → Option (Api_Row × Bool)) (v11 : Int × Int × (List Int)) (r16 : Ref01_Got) (y17 : Bool) : Option (Api_Row × Bool) :=
  if y17 then
    some ((Api_Row.mk ([] : (List Api_Range)) ([] : (List Int)) ([] : (List Int))), false)
  else
    (app 8 v11.2.2 ([IntKind.wrap .i64 ((IntKind.wrap .i64 r16.N) - 1)])).bind fun l19 =>
    again13 (r16.End, IntKind.wrap .u64 (v11.2.1 + 1), l19)

def ref06_ReadRow_l6 (s_0 : ByteArray) (y4 : Int × (List Api_Range)) (y5 : Int × (List Int)) (r6 : Ref01_Got) (again13 : Int × Int × (List Int) → Option (Api_Row × Bool)) (v11 : Int × Int × (List Int)) : Option (Api_Row × Bool) :=
  if decide (v11.2.1 < r6.N) then
    (ref01_Read s_0 v11.1).bind fun r16 =>
    if decide (r16.End = 0) then
      ref06_ReadRow_k7 again13 v11 r16 true
    else
      ref06_ReadRow_k7 again13 v11 r16 (decide (6 < r16.N))
  else
    ref06_ReadRow_k5 s_0 y4 y5 (v11.1, v11.2.2)

def ref06_ReadRow_k4 (s_0 : ByteArray) (y4 : Int × (List Api_Range)) (y5 : Int × (List Int)) (r6 : Ref01_Got) (y7 : Bool) : Option (Api_Row × Bool) :=
  if y7 then
    some ((Api_Row.mk ([] : (List Api_Range)) ([] : (List Int)) ([] : (List Int))), false)
  else
    loopF (ref06_ReadRow_l6 s_0 y4 y5 r6) FU (r6.End, 0, ([] : List Int))

def ref06_ReadRow_k3 (s_0 : ByteArray) (y4 : Int × (List Api_Range)) (y5 : Int × (List Int)) : Option (Api_Row × Bool) :=
  (ref01_Read s_0 y5.1).bind fun r6 =>
  if decide (r6.End = 0) then
    ref06_ReadRow_k4 s_0 y4 y5 r6 true
  else
    ref06_ReadRow_k4 s_0 y4 y5 r6 (decide (6 < r6.N))

def ref06_ReadRow_k9 (again27 : Int × Int × (List Int) → Option (Api_Row × Bool)) (v25 : Int × Int × (List Int)) (r30 : Ref01_Got) (y31 : Bool) : Option (Api_Row × Bool) :=
  if y31 then
    some ((Api_Row.mk ([] : (List Api_Range)) ([] : (List Int)) ([] : (List Int))), false)
  else
    (app 8 v25.2.2 ([IntKind.wrap .i64 r30.N])).bind fun l33 =>
    again27 (r30.End, IntKind.wrap .u64 (v25.2.1 + 1), l33)

def ref06_ReadRow_l8 (s_0 : ByteArray) (r1 : Ref01_Got) (y4 : Int × (List Api_Range)) (again27 : Int × Int × (List Int) → Option (Api_Row × Bool)) (v25 : Int × Int × (List Int)) : Option (Api_Row × Bool) :=
  if decide (v25.2.1 < r1.N) then
    (ref01_Read s_0 v25.1).bind fun r30 =>
    if decide (r30.End = 0) then
      ref06_ReadRow_k9 again27 v25 r30 true
    else
      ref06_ReadRow_k9 again27 v25 r30 (decide (63 < r30.N))
  else
    ref06_ReadRow_k3 s_0 y4 (v25.1, v25.2.2)

def ref06_ReadRow_k2 (s_0 : ByteArray) (r1 : Ref01_Got) (y4 : Int × (List Api_Range)) : Option (Api_Row × Bool) :=
  loopF (ref06_ReadRow_l8 s_0 r1 y4) FU (y4.1, 0, ([] : List Int))

def ref06_ReadRow_k11 (again39 : Int × ByteArray × Int × (List Api_Range) → Option (Api_Row × Bool)) (v37 : Int × ByteArray × Int × (List Api_Range)) (y42 : Int × ByteArray × ByteArray) : Option (Api_Row × Bool) :=
  (app 32 v37.2.2.2 ([(Api_Range.mk v37.2.1 y42.2.2)])).bind fun l43 =>
  again39 (y42.1, y42.2.1, IntKind.wrap .u64 (v37.2.2.1 + 1), l43)

def ref06_ReadRow_l10 (s_0 : ByteArray) (r1 : Ref01_Got) (again39 : Int × ByteArray × Int × (List Api_Range) → Option (Api_Row × Bool)) (v37 : Int × ByteArray × Int × (List Api_Range)) : Option (Api_Row × Bool) :=
  if decide (v37.2.2.1 < r1.N) then
    if decide ((IntKind.wrap .u64 (v37.2.2.1 + 1)) < r1.N) then
      (ref01_ReadText s_0 v37.1 32).bind fun r46 =>
      if decide (r46.End = 0) then
        some ((Api_Row.mk ([] : (List Api_Range)) ([] : (List Int)) ([] : (List Int))), false)
      else
        ref06_ReadRow_k11 again39 v37 (r46.End, r46.S, r46.S)
    else
      ref06_ReadRow_k11 again39 v37 (v37.1, v37.2.1, ByteArray.empty)
  else
    ref06_ReadRow_k2 s_0 r1 (v37.1, v37.2.2.2)

def ref06_ReadRow_k1 (s_0 : ByteArray) (r1 : Ref01_Got) (y2 : Bool) : Option (Api_Row × Bool) :=
  if y2 then
    some ((Api_Row.mk ([] : (List Api_Range)) ([] : (List Int)) ([] : (List Int))), false)
  else
    loopF (ref06_ReadRow_l10 s_0 r1) FU (r1.End, ByteArray.empty, 0, ([] : List Api_Range))

def ref06_ReadRow_k12 (s_0 : ByteArray) (r1 : Ref01_Got) (y49 : Bool) : Option (Api_Row × Bool) :=
  if y49 then
    ref06_ReadRow_k1 s_0 r1 true
  else
    ref06_ReadRow_k1 s_0 r1 (decide (8 < r1.N))

def ref06_ReadRow (s_0 : ByteArray) : Option (Api_Row × Bool) :=
  (ref01_Read s_0 0).bind fun r1 =>
  if decide (r1.End = 0) then
    ref06_ReadRow_k12 s_0 r1 true
  else
    ref06_ReadRow_k12 s_0 r1 (decide (r1.N < 1))
end Go.Ark
