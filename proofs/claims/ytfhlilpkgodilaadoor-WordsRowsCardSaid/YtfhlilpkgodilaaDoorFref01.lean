/- Typed functions, printed by a program of mine out of the translated code. -/
import Derived.Test.YtfhlilpkgodilaaDoorFT
namespace Go.Ark
open Go Go.Ab

def ref01_Number_b (again0 : Int → Option ByteArray) (n_0 : Int) : Option ByteArray :=
  if decide (n_0 < 128) then
    some (bytesOf ([IntKind.wrap .u8 n_0]))
  else
    (again0 (IntKind.wrap .u64 (Int.tdiv n_0 128))).bind fun r2 =>
    (scat (bytesOf ([IntKind.wrap .u8 (IntKind.wrap .u64 (128 + (Int.tmod n_0 128)))])) r2).bind fun s3 =>
    some s3

def ref01_Number (n_0 : Int) : Option ByteArray := loopF (fun again0 v0 => ref01_Number_b again0 v0) FU n_0

def ref01_Text (s_0 : ByteArray) : Option ByteArray :=
  (ref01_Number (IntKind.wrap .u64 (s_0.size : Int))).bind fun r1 =>
  (scat r1 s_0).bind fun s2 =>
  some s2

end Go.Ark
