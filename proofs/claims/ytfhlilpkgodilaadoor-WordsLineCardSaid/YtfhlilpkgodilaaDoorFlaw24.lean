/- Typed functions, printed by a program of mine out of the translated code. -/
import Derived.Test.YtfhlilpkgodilaaDoorFT
import Derived.Test.YtfhlilpkgodilaaDoorFref22
import Derived.Test.YtfhlilpkgodilaaDoorFref24
import Derived.Test.YtfhlilpkgodilaaDoorFwords
namespace Go.Ark
open Go Go.Ab

def law24_awake_k4 (r1 : ((List Api_Op) × Int)) (y5 : Bool) : Option Bool :=
  if y5 then
    (words_Text r1.1).bind fun r7 =>
    some (seq r7 (ByteArray.mk #[112, 117, 116, 32, 48, 32, 34, 97, 34, 32, 34, 120, 92, 48, 97, 34, 10]))
  else
    some false

def law24_awake_k3 (r1 : ((List Api_Op) × Int)) (y4 : Bool) : Option Bool :=
  if y4 then
    (idx r1.1 0).bind fun x10 =>
    (words_Check x10).bind fun r11 =>
    law24_awake_k4 r1 r11
  else
    law24_awake_k4 r1 false

def law24_awake_k2 (r1 : ((List Api_Op) × Int)) (y3 : Bool) : Option Bool :=
  if y3 then
    (idx r1.1 0).bind fun x14 =>
    law24_awake_k3 r1 (seq x14.Value (ByteArray.mk #[120, 10]))
  else
    law24_awake_k3 r1 false

def law24_awake_k1 (r1 : ((List Api_Op) × Int)) (y2 : Bool) : Option Bool :=
  if y2 then
    (idx r1.1 0).bind fun x17 =>
    law24_awake_k2 r1 (seq x17.Key (ByteArray.mk #[97]))
  else
    law24_awake_k2 r1 false

def law24_awake : Option Bool :=
  (words_Parse (ByteArray.mk #[112, 117, 116, 32, 48, 32, 97, 32, 34, 120, 92, 48, 97, 34, 10, 35, 32, 110, 111, 32, 115, 116, 101, 112, 10])).bind fun r1 =>
  if decide (r1.2 = 0) then
    law24_awake_k1 r1 (decide ((r1.1.length : Int) = 1))
  else
    law24_awake_k1 r1 false

def law24_WordsLine_k4 (r7 : ((List Api_Op) × Int)) (y10 : Bool) : Option Bool :=
  if y10 then
    some (decide ((r7.1.length : Int) = 0))
  else
    some false

def law24_WordsLine_k3 (n_0 : Int) (r7 : ((List Api_Op) × Int)) (y9 : Bool) : Option Bool :=
  if y9 then
    law24_WordsLine_k4 r7 (decide (r7.2 = (IntKind.wrap .i64 ((Int.tmod (IntKind.wrap .i64 ((Int.tmod n_0 10) + 10)) 10) + 1))))
  else
    law24_WordsLine_k4 r7 false

def law24_WordsLine_k2 (n_0 : Int) (y2 : ByteArray × Int) (r3 : ((List Api_Op) × Int)) (r7 : ((List Api_Op) × Int)) (y8 : Bool) : Option Bool :=
  if y8 then
    law24_WordsLine_k3 n_0 r7 (decide ((r3.1.length : Int) = y2.2))
  else
    law24_WordsLine_k3 n_0 r7 false

def law24_WordsLine_k1 (n_0 : Int) (which_1 : Int) (r1 : Bool) (y2 : ByteArray × Int) : Option Bool :=
  (words_Parse y2.1).bind fun r3 =>
  (aidx 8 ([(ByteArray.mk #[112, 117, 116, 32, 48, 32, 97]), (ByteArray.mk #[106, 117, 109, 112]), (ByteArray.mk #[103, 101, 116, 32, 120, 32, 97]), (ByteArray.mk #[103, 101, 116, 32, 54, 52, 32, 97]), (ByteArray.mk #[103, 101, 116, 32, 48, 48, 32, 97]), (ByteArray.mk #[112, 105, 99, 107, 32, 48, 32, 49, 32, 50]), (ByteArray.mk #[114, 111, 119, 32, 49, 32, 109, 32, 50]), (ByteArray.mk #[34, 112, 117, 116, 34, 32, 48, 32, 97, 32, 98])]) (IntKind.wrap .i64 (BitVec.ofInt (IntKind.bits .i64) which_1 &&& BitVec.ofInt (IntKind.bits .i64) 7).toNat)).bind fun x4 =>
  (scat y2.1 x4).bind fun s5 =>
  (scat s5 (ByteArray.mk #[10, 99, 108, 101, 97, 110])).bind fun s6 =>
  (words_Parse s6).bind fun r7 =>
  if r1 then
    law24_WordsLine_k2 n_0 y2 r3 r7 (decide (r3.2 = 0))
  else
    law24_WordsLine_k2 n_0 y2 r3 r7 false

def law24_WordsLine_k6 (again21 : ByteArray × Int × Int → Option Bool) (v19 : ByteArray × Int × Int) (s26 : ByteArray) (y27 : Bool) : Option Bool :=
  if y27 then
    again21 (s26, IntKind.wrap .i64 (v19.2.1 + 1), IntKind.wrap .i64 (v19.2.2 + 1))
  else
    again21 (s26, v19.2.1, IntKind.wrap .i64 (v19.2.2 + 1))

def law24_WordsLine_k7 (again21 : ByteArray × Int × Int → Option Bool) (v19 : ByteArray × Int × Int) (s26 : ByteArray) (y30 : Bool) : Option Bool :=
  if y30 then
    law24_WordsLine_k6 again21 v19 s26 true
  else
    law24_WordsLine_k6 again21 v19 s26 (decide ((IntKind.wrap .i64 (BitVec.ofInt (IntKind.bits .i64) v19.2.2 &&& BitVec.ofInt (IntKind.bits .i64) 3).toNat) = 3))

def law24_WordsLine_l5 (n_0 : Int) (which_1 : Int) (r1 : Bool) (again21 : ByteArray × Int × Int → Option Bool) (v19 : ByteArray × Int × Int) : Option Bool :=
  if decide (v19.2.2 < (Int.tmod (IntKind.wrap .i64 ((Int.tmod n_0 10) + 10)) 10)) then
    (aidx 4 ([(ByteArray.mk #[103, 101, 116, 32, 49, 32, 97]), ByteArray.empty, (ByteArray.mk #[35, 32, 120]), (ByteArray.mk #[99, 108, 101, 97, 110])]) (IntKind.wrap .i64 (BitVec.ofInt (IntKind.bits .i64) v19.2.2 &&& BitVec.ofInt (IntKind.bits .i64) 3).toNat)).bind fun x24 =>
    (scat v19.1 x24).bind fun s25 =>
    (scat s25 (ByteArray.mk #[10])).bind fun s26 =>
    if decide ((IntKind.wrap .i64 (BitVec.ofInt (IntKind.bits .i64) v19.2.2 &&& BitVec.ofInt (IntKind.bits .i64) 1).toNat) = 0) then
      law24_WordsLine_k7 again21 v19 s26 (decide ((IntKind.wrap .i64 (BitVec.ofInt (IntKind.bits .i64) v19.2.2 &&& BitVec.ofInt (IntKind.bits .i64) 3).toNat) = 0))
    else
      law24_WordsLine_k7 again21 v19 s26 false
  else
    law24_WordsLine_k1 n_0 which_1 r1 (v19.1, v19.2.1)

def law24_WordsLine (n_0 : Int) (which_1 : Int) : Option Bool :=
  (law24_awake).bind fun r1 =>
  loopF (law24_WordsLine_l5 n_0 which_1 r1) FU (ByteArray.empty, 0, 0)

end Go.Ark
