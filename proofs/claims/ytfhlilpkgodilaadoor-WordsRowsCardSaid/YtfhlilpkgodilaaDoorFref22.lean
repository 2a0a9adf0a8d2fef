/- Typed functions, printed by a program of mine out of the translated code. -/
import Derived.Test.YtfhlilpkgodilaaDoorFT
import Derived.Test.YtfhlilpkgodilaaDoorFref01
import Derived.Test.YtfhlilpkgodilaaDoorFref06
namespace Go.Ark
open Go Go.Ab

def ref22_one_k2 (o_0 : Api_Op) (y8 : ByteArray) : Option ByteArray :=
  if decide ((o_0.Row.Ranges.length : Int) = 0) then
    (ref01_Text ByteArray.empty).bind fun r10 =>
    (scat y8 r10).bind fun s11 =>
    some s11
  else
    (ref06_RowBytes o_0.Row).bind fun r12 =>
    (ref01_Text r12).bind fun r13 =>
    (scat y8 r13).bind fun s14 =>
    some s14

def ref22_one_l3 (o_0 : Api_Op) (again18 : ByteArray × Int → Option ByteArray) (v16 : ByteArray × Int) : Option ByteArray :=
  if decide (v16.2 < (o_0.Keys.length : Int)) then
    (idx o_0.Keys v16.2).bind fun x21 =>
    (ref01_Text x21).bind fun r22 =>
    (scat v16.1 r22).bind fun s23 =>
    again18 (s23, IntKind.wrap .i64 (v16.2 + 1))
  else
    ref22_one_k2 o_0 v16.1

def ref22_one_k1 (o_0 : Api_Op) (y1 : ByteArray) : Option ByteArray :=
  (ref01_Text o_0.Key).bind fun r2 =>
  (scat y1 r2).bind fun s3 =>
  (ref01_Text o_0.Value).bind fun r4 =>
  (scat s3 r4).bind fun s5 =>
  (ref01_Number (IntKind.wrap .u64 (o_0.Keys.length : Int))).bind fun r6 =>
  (scat s5 r6).bind fun s7 =>
  loopF (ref22_one_l3 o_0) FU (s7, 0)

def ref22_one_l4 (o_0 : Api_Op) (again27 : ByteArray × Int → Option ByteArray) (v25 : ByteArray × Int) : Option ByteArray :=
  if decide (v25.2 < 6) then
    (aidx 6 ([o_0.Kind, o_0.Client, o_0.Site, o_0.To, o_0.At, o_0.How]) v25.2).bind fun x30 =>
    (ref01_Number (IntKind.wrap .u64 x30)).bind fun r31 =>
    (scat v25.1 r31).bind fun s32 =>
    again27 (s32, IntKind.wrap .i64 (v25.2 + 1))
  else
    ref22_one_k1 o_0 v25.1

def ref22_one (o_0 : Api_Op) : Option ByteArray :=
  loopF (ref22_one_l4 o_0) FU (ByteArray.empty, 0)

def ref22_SameOp (a_0 : Api_Op) (b_1 : Api_Op) : Option Bool :=
  (ref22_one a_0).bind fun r1 =>
  (ref22_one b_1).bind fun r2 =>
  some (seq r1 r2)

end Go.Ark
