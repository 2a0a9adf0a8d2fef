/- Typed functions, printed by a program of mine out of the translated code. -/
import Derived.Test.YtfhlilpkgodilaaDoorFT
import Derived.Test.YtfhlilpkgodilaaDoorFref22
import Derived.Test.YtfhlilpkgodilaaDoorFref24
import Derived.Test.YtfhlilpkgodilaaDoorFwords
namespace Go.Ark
open Go Go.Ab

def law24_awake_k4 (r1 : ((List Api_Op) × Int)) (y5 : Bool) : Option Bool :=
  if y5 then
    (words_Text r1.1).bind fun r7 =>
    some (seq r7 (ByteArray.mk #[112, 117, 116, 32, 48, 32, 34, 97, 34, 32, 34, 120, 92, 48, 97, 34, 10]))
  else
    some false

def law24_awake_k3 (r1 : ((List Api_Op) × Int)) (y4 : Bool) : Option Bool :=
  if y4 then
    (idx r1.1 0).bind fun x10 =>
    (words_Check x10).bind fun r11 =>
    law24_awake_k4 r1 r11
  else
    law24_awake_k4 r1 false

def law24_awake_k2 (r1 : ((List Api_Op) × Int)) (y3 : Bool) : Option Bool :=
  if y3 then
    (idx r1.1 0).bind fun x14 =>
    law24_awake_k3 r1 (seq x14.Value (ByteArray.mk #[120, 10]))
  else
    law24_awake_k3 r1 false

def law24_awake_k1 (r1 : ((List Api_Op) × Int)) (y2 : Bool) : Option Bool :=
  if y2 then
    (idx r1.1 0).bind fun x17 =>
    law24_awake_k2 r1 (seq x17.Key (ByteArray.mk #[97]))
  else
    law24_awake_k2 r1 false

def law24_awake : Option Bool :=
  (words_Parse (ByteArray.mk #[112, 117, 116, 32, 48, 32, 97, 32, 34, 120, 92, 48, 97, 34, 10, 35, 32, 110, 111, 32, 115, 116, 101, 112, 10])).bind fun r1 =>
  if decide (r1.2 = 0) then
    law24_awake_k1 r1 (decide ((r1.1.length : Int) = 1))
  else
    law24_awake_k1 r1 false

def law24_short (s_0 : ByteArray) (n_1 : Int) : Option ByteArray :=
  if decide (n_1 < (s_0.size : Int)) then
    (ssub s_0 0 n_1).bind fun s2 =>
    some s2
  else
    some s_0

def law24_WordsQuote_k6 (r2 : ByteArray) (r3 : ByteArray) (r4 : ByteArray) (y18 : Bool) : Option Bool :=
  if y18 then
    (words_Quote r3).bind fun r20 =>
    some ((seq r20 r4) == (seq r2 r3))
  else
    some false

def law24_WordsQuote_k5 (r2 : ByteArray) (r3 : ByteArray) (r4 : ByteArray) (r13 : ((List ByteArray) × Bool)) (y17 : Bool) : Option Bool :=
  if y17 then
    law24_WordsQuote_k6 r2 r3 r4 (!r13.2)
  else
    law24_WordsQuote_k6 r2 r3 r4 false

def law24_WordsQuote_k4 (r2 : ByteArray) (r3 : ByteArray) (r4 : ByteArray) (r10 : ((List ByteArray) × Bool)) (r13 : ((List ByteArray) × Bool)) (y16 : Bool) : Option Bool :=
  if y16 then
    (idx r10.1 1).bind fun x25 =>
    (scat (ByteArray.mk #[34]) r3).bind fun s26 =>
    law24_WordsQuote_k5 r2 r3 r4 r13 (seq x25 s26)
  else
    law24_WordsQuote_k5 r2 r3 r4 r13 false

def law24_WordsQuote_k3 (r2 : ByteArray) (r3 : ByteArray) (r4 : ByteArray) (r10 : ((List ByteArray) × Bool)) (r13 : ((List ByteArray) × Bool)) (y15 : Bool) : Option Bool :=
  if y15 then
    (idx r10.1 0).bind fun x29 =>
    (scat (ByteArray.mk #[34]) r2).bind fun s30 =>
    law24_WordsQuote_k4 r2 r3 r4 r10 r13 (seq x29 s30)
  else
    law24_WordsQuote_k4 r2 r3 r4 r10 r13 false

def law24_WordsQuote_k2 (r2 : ByteArray) (r3 : ByteArray) (r4 : ByteArray) (r10 : ((List ByteArray) × Bool)) (r13 : ((List ByteArray) × Bool)) (y14 : Bool) : Option Bool :=
  if y14 then
    law24_WordsQuote_k3 r2 r3 r4 r10 r13 (decide ((r10.1.length : Int) = 2))
  else
    law24_WordsQuote_k3 r2 r3 r4 r10 r13 false

def law24_WordsQuote_k1 (r1 : Bool) (r2 : ByteArray) (r3 : ByteArray) (r4 : ByteArray) (_y5 : Unit) : Option Bool :=
  (scat (ByteArray.mk #[32]) r4).bind fun s6 =>
  (scat s6 (ByteArray.mk #[9])).bind fun s7 =>
  (words_Quote r3).bind fun r8 =>
  (scat s7 r8).bind fun s9 =>
  (words_Words s9).bind fun r10 =>
  (words_Quote r3).bind fun r11 =>
  (scat r4 r11).bind fun s12 =>
  (words_Words s12).bind fun r13 =>
  if r1 then
    law24_WordsQuote_k2 r2 r3 r4 r10 r13 r10.2
  else
    law24_WordsQuote_k2 r2 r3 r4 r10 r13 false

def law24_WordsQuote_l7 (r1 : Bool) (r2 : ByteArray) (r3 : ByteArray) (r4 : ByteArray) (again38 : Int → Option Bool) (v36 : Int) : Option Bool :=
  if decide (v36 < (r4.size : Int)) then
    (sidx r4 v36).bind fun b41 =>
    if decide ((b41.toNat : Int) < 32) then
      some false
    else
      (sidx r4 v36).bind fun b43 =>
      if decide (126 < (b43.toNat : Int)) then
        some false
      else
        again38 (IntKind.wrap .i64 (v36 + 1))
  else
    law24_WordsQuote_k1 r1 r2 r3 r4 ()

def law24_WordsQuote (s_0 : ByteArray) (t_1 : ByteArray) : Option Bool :=
  (law24_awake).bind fun r1 =>
  (law24_short s_0 60).bind fun r2 =>
  (law24_short t_1 60).bind fun r3 =>
  (words_Quote r2).bind fun r4 =>
  loopF (law24_WordsQuote_l7 r1 r2 r3 r4) FU 0

end Go.Ark
