/- Typed functions, printed by a program of mine out of the translated code. -/
import Derived.Test.YtjidbmelmcmmhaaFT
import Derived.Test.YtjidbmelmcmmhaaFref01
import Derived.Test.YtjidbmelmcmmhaaFref02
import Derived.Test.YtjidbmelmcmmhaaFref03
import Derived.Test.YtjidbmelmcmmhaaFref04
namespace Go.Ark
open Go Go.Ab

def ref06_Same_k3 (a_0 : Api_Version) (b_1 : Api_Version) (y4 : Bool) : Option Bool :=
  if y4 then
    some (decide (a_0.Stamp.N = b_1.Stamp.N) && decide (a_0.Stamp.Site = b_1.Stamp.Site))
  else
    some false

def ref06_Same_k2 (a_0 : Api_Version) (b_1 : Api_Version) (y3 : Bool) : Option Bool :=
  if y3 then
    ref06_Same_k3 a_0 b_1 (a_0.Gone == b_1.Gone)
  else
    ref06_Same_k3 a_0 b_1 false

def ref06_Same_k1 (a_0 : Api_Version) (b_1 : Api_Version) (y2 : Bool) : Option Bool :=
  if y2 then
    ref06_Same_k2 a_0 b_1 (seq a_0.Value b_1.Value)
  else
    ref06_Same_k2 a_0 b_1 false

def ref06_Same (a_0 : Api_Version) (b_1 : Api_Version) : Option Bool :=
  (ref04_Same a_0.Past b_1.Past).bind fun r1 =>
  if r1 then
    ref06_Same_k1 a_0 b_1 (seq a_0.Key b_1.Key)
  else
    ref06_Same_k1 a_0 b_1 false

def ref06_Check_k3 (v_0 : Api_Version) (y6 : Bool) : Option Bool :=
  if y6 then
    if !v_0.Gone then
      some true
    else
      some (seq v_0.Value ByteArray.empty)
  else
    some false

def ref06_Check_k2 (v_0 : Api_Version) (y5 : Bool) : Option Bool :=
  if y5 then
    ref06_Check_k3 v_0 (decide ((v_0.Value.size : Int) ≤ 32))
  else
    ref06_Check_k3 v_0 false

def ref06_Check_k1 (v_0 : Api_Version) (r3 : Bool) (y4 : Bool) : Option Bool :=
  if y4 then
    ref06_Check_k2 v_0 r3
  else
    ref06_Check_k2 v_0 false

def ref06_Check (v_0 : Api_Version) : Option Bool :=
  (ref02_Check v_0.Key).bind fun r1 =>
  (ref03_Check v_0.Stamp).bind fun r2 =>
  (ref04_Check v_0.Past).bind fun r3 =>
  if r1 then
    ref06_Check_k1 v_0 r3 r2
  else
    ref06_Check_k1 v_0 r3 false

def ref06_Bytes_k1 (v_0 : Api_Version) (y3 : Int) : Option ByteArray :=
  (ref01_Text v_0.Key).bind fun r4 =>
  (ref01_Number y3).bind fun r5 =>
  (scat r4 r5).bind fun s6 =>
  (ref01_Text v_0.Value).bind fun r7 =>
  (scat s6 r7).bind fun s8 =>
  (ref03_Bytes v_0.Stamp).bind fun r9 =>
  (scat s8 r9).bind fun s10 =>
  (ref04_Bytes v_0.Past).bind fun r11 =>
  (scat s10 r11).bind fun s12 =>
  some s12

def ref06_Bytes (v_0 : Api_Version) : Option ByteArray :=
  (ref06_Check v_0).bind fun r1 =>
  if !r1 then
    some ByteArray.empty
  else
    if v_0.Gone then
      ref06_Bytes_k1 v_0 1
    else
      ref06_Bytes_k1 v_0 0

def ref06_RowBytes_k3 (y6 : ByteArray) : Option ByteArray :=
  some y6

def ref06_RowBytes_l4 (c_0 : Api_Row) (again10 : ByteArray × Int → Option ByteArray) (v8 : ByteArray × Int) : Option ByteArray :=
  if decide (v8.2 < (c_0.Parents.length : Int)) then
    (idx c_0.Parents v8.2).bind fun x13 =>
    (ref01_Number (IntKind.wrap .u64 (IntKind.wrap .i64 (x13 + 1)))).bind fun r14 =>
    (scat v8.1 r14).bind fun s15 =>
    again10 (s15, IntKind.wrap .i64 (v8.2 + 1))
  else
    ref06_RowBytes_k3 v8.1

def ref06_RowBytes_k2 (c_0 : Api_Row) (y3 : ByteArray) : Option ByteArray :=
  (ref01_Number (IntKind.wrap .u64 (c_0.Parents.length : Int))).bind fun r4 =>
  (scat y3 r4).bind fun s5 =>
  loopF (ref06_RowBytes_l4 c_0) FU (s5, 0)

def ref06_RowBytes_l5 (c_0 : Api_Row) (again19 : ByteArray × Int → Option ByteArray) (v17 : ByteArray × Int) : Option ByteArray :=
  if decide (v17.2 < (c_0.Ranges.length : Int)) then
    (idx c_0.Owners v17.2).bind fun x22 =>
    (ref01_Number (IntKind.wrap .u64 x22)).bind fun r23 =>
    (scat v17.1 r23).bind fun s24 =>
    again19 (s24, IntKind.wrap .i64 (v17.2 + 1))
  else
    ref06_RowBytes_k2 c_0 v17.1

def ref06_RowBytes_k1 (c_0 : Api_Row) (y2 : ByteArray) : Option ByteArray :=
  loopF (ref06_RowBytes_l5 c_0) FU (y2, 0)

def ref06_RowBytes_l6 (c_0 : Api_Row) (again28 : ByteArray × Int → Option ByteArray) (v26 : ByteArray × Int) : Option ByteArray :=
  if decide ((IntKind.wrap .i64 (v26.2 + 1)) < (c_0.Ranges.length : Int)) then
    (idx c_0.Ranges v26.2).bind fun x31 =>
    (ref01_Text x31.To).bind fun r32 =>
    (scat v26.1 r32).bind fun s33 =>
    again28 (s33, IntKind.wrap .i64 (v26.2 + 1))
  else
    ref06_RowBytes_k1 c_0 v26.1

def ref06_RowBytes (c_0 : Api_Row) : Option ByteArray :=
  (ref01_Number (IntKind.wrap .u64 (c_0.Ranges.length : Int))).bind fun r1 =>
  loopF (ref06_RowBytes_l6 c_0) FU (r1, 0)
end Go.Ark
