/- Typed functions, printed by a program of mine out of the translated code. -/
import Derived.Test.YtfhlilpkgodilaaDoorFT
import Derived.Test.YtfhlilpkgodilaaDoorFlib
namespace Go.Ark
open Go Go.Ab

def vary_put_k1 (y1 : Int × ByteArray) : Option ByteArray :=
  (bld_WriteByte y1.2 (IntKind.wrap .u8 y1.1)).bind fun r2 =>
  some r2

def vary_put_l2 (again6 : Int × ByteArray → Option ByteArray) (v4 : Int × ByteArray) : Option ByteArray :=
  if decide (128 ≤ v4.1) then
    (bld_WriteByte v4.2 (IntKind.wrap .u8 (BitVec.ofInt (IntKind.bits .u8) (IntKind.wrap .u8 v4.1) ||| BitVec.ofInt (IntKind.bits .u8) 128).toNat)).bind fun r9 =>
    again6 (Int.fdiv v4.1 (2 ^ min (Int.toNat 7) (IntKind.bits .u64)), r9)
  else
    vary_put_k1 (v4.1, v4.2)

def vary_put (b_0 : ByteArray) (n_1 : Int) : Option ByteArray :=
  loopF (vary_put_l2) FU (n_1, b_0)

def vary_Join_1 (n_0 : Int) (c0 : ByteArray) : Option ByteArray :=
  (vary_put c0 n_0).bind fun r1 =>
  some r1

def vary_Join_k1 (y1 : ByteArray) : Option ByteArray :=
  (bld_String y1).bind fun r2 =>
  some r2

def vary_Join_l2 (l_0 : (List Int)) (again6 : Int × ByteArray → Option ByteArray) (v4 : Int × ByteArray) : Option ByteArray :=
  if decide (v4.1 < (l_0.length : Int)) then
    (idx l_0 v4.1).bind fun x9 =>
    (vary_Join_1 x9 v4.2).bind fun r10 =>
    again6 (IntKind.wrap .i64 (v4.1 + 1), r10)
  else
    vary_Join_k1 v4.2

def vary_Join (l_0 : (List Int)) : Option ByteArray :=
  loopF (vary_Join_l2 l_0) FU (0, ByteArray.empty)

def vary_Number (n_0 : Int) : Option ByteArray :=
  (vary_Join ([n_0])).bind fun r1 =>
  some r1

def vary_Text (s_0 : ByteArray) : Option ByteArray :=
  (vary_Number (IntKind.wrap .u64 (s_0.size : Int))).bind fun r1 =>
  (scat r1 s_0).bind fun s2 =>
  some s2
end Go.Ark
