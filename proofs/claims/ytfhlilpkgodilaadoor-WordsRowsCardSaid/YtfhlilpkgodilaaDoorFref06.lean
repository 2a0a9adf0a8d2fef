/- Typed functions, printed by a program of mine out of the translated code. -/
import Derived.Test.YtfhlilpkgodilaaDoorFT
import Derived.Test.YtfhlilpkgodilaaDoorFref01
import Derived.Test.YtfhlilpkgodilaaDoorFref02
import Derived.Test.YtfhlilpkgodilaaDoorFref03
import Derived.Test.YtfhlilpkgodilaaDoorFref04
namespace Go.Ark
open Go Go.Ab

def ref06_RowBytes_k3 (y6 : ByteArray) : Option ByteArray :=
  some y6

def ref06_RowBytes_l4 (c_0 : Api_Row) (again10 : ByteArray × Int → Option ByteArray) (v8 : ByteArray × Int) : Option ByteArray :=
  if decide (v8.2 < (c_0.Parents.length : Int)) then
    (idx c_0.Parents v8.2).bind fun x13 =>
    (ref01_Number (IntKind.wrap .u64 (IntKind.wrap .i64 (x13 + 1)))).bind fun r14 =>
    (scat v8.1 r14).bind fun s15 =>
    again10 (s15, IntKind.wrap .i64 (v8.2 + 1))
  else
    ref06_RowBytes_k3 v8.1

def ref06_RowBytes_k2 (c_0 : Api_Row) (y3 : ByteArray) : Option ByteArray :=
  (ref01_Number (IntKind.wrap .u64 (c_0.Parents.length : Int))).bind fun r4 =>
  (scat y3 r4).bind fun s5 =>
  loopF (ref06_RowBytes_l4 c_0) FU (s5, 0)

def ref06_RowBytes_l5 (c_0 : Api_Row) (again19 : ByteArray × Int → Option ByteArray) (v17 : ByteArray × Int) : Option ByteArray :=
  if decide (v17.2 < (c_0.Ranges.length : Int)) then
    (idx c_0.Owners v17.2).bind fun x22 =>
    (ref01_Number (IntKind.wrap .u64 x22)).bind fun r23 =>
    (scat v17.1 r23).bind fun s24 =>
    again19 (s24, IntKind.wrap .i64 (v17.2 + 1))
  else
    ref06_RowBytes_k2 c_0 v17.1

def ref06_RowBytes_k1 (c_0 : Api_Row) (y2 : ByteArray) : Option ByteArray :=
  loopF (ref06_RowBytes_l5 c_0) FU (y2, 0)

def ref06_RowBytes_l6 (c_0 : Api_Row) (again28 : ByteArray × Int → Option ByteArray) (v26 : ByteArray × Int) : Option ByteArray :=
  if decide ((IntKind.wrap .i64 (v26.2 + 1)) < (c_0.Ranges.length : Int)) then
    (idx c_0.Ranges v26.2).bind fun x31 =>
    (ref01_Text x31.To).bind fun r32 =>
    (scat v26.1 r32).bind fun s33 =>
    again28 (s33, IntKind.wrap .i64 (v26.2 + 1))
  else
    ref06_RowBytes_k1 c_0 v26.1

def ref06_RowBytes (c_0 : Api_Row) : Option ByteArray :=
  (ref01_Number (IntKind.wrap .u64 (c_0.Ranges.length : Int))).bind fun r1 =>
  loopF (ref06_RowBytes_l6 c_0) FU (r1, 0)

end Go.Ark
