/- Typed functions, printed by a program of mine out of the translated code. -/
import Derived.Test.YtfhlilpkgodilaaDoorFT
import Derived.Test.YtfhlilpkgodilaaDoorFref22
import Derived.Test.YtfhlilpkgodilaaDoorFref24
import Derived.Test.YtfhlilpkgodilaaDoorFwords
namespace Go.Ark
open Go Go.Ab

def law24_awake_k4 (r1 : ((List Api_Op) × Int)) (y5 : Bool) : Option Bool :=
  if y5 then
    (words_Text r1.1).bind fun r7 =>
    some (seq r7 (ByteArray.mk #[112, 117, 116, 32, 48, 32, 34, 97, 34, 32, 34, 120, 92, 48, 97, 34, 10]))
  else
    some false

def law24_awake_k3 (r1 : ((List Api_Op) × Int)) (y4 : Bool) : Option Bool :=
  if y4 then
    (idx r1.1 0).bind fun x10 =>
    (words_Check x10).bind fun r11 =>
    law24_awake_k4 r1 r11
  else
    law24_awake_k4 r1 false

def law24_awake_k2 (r1 : ((List Api_Op) × Int)) (y3 : Bool) : Option Bool :=
  if y3 then
    (idx r1.1 0).bind fun x14 =>
    law24_awake_k3 r1 (seq x14.Value (ByteArray.mk #[120, 10]))
  else
    law24_awake_k3 r1 false

def law24_awake_k1 (r1 : ((List Api_Op) × Int)) (y2 : Bool) : Option Bool :=
  if y2 then
    (idx r1.1 0).bind fun x17 =>
    law24_awake_k2 r1 (seq x17.Key (ByteArray.mk #[97]))
  else
    law24_awake_k2 r1 false

def law24_awake : Option Bool :=
  (words_Parse (ByteArray.mk #[112, 117, 116, 32, 48, 32, 97, 32, 34, 120, 92, 48, 97, 34, 10, 35, 32, 110, 111, 32, 115, 116, 101, 112, 10])).bind fun r1 =>
  if decide (r1.2 = 0) then
    law24_awake_k1 r1 (decide ((r1.1.length : Int) = 1))
  else
    law24_awake_k1 r1 false

def law24_same_k1 (_y2 : Unit) : Option Bool :=
  some true

def law24_same_l2 (a_0 : (List Api_Op)) (b_1 : (List Api_Op)) (again6 : Int → Option Bool) (v4 : Int) : Option Bool :=
  if decide (v4 < (a_0.length : Int)) then
    (idx a_0 v4).bind fun x9 =>
    (idx b_1 v4).bind fun x10 =>
    (ref22_SameOp x9 x10).bind fun r11 =>
    if !r11 then
      some false
    else
      again6 (IntKind.wrap .i64 (v4 + 1))
  else
    law24_same_k1 ()

def law24_same (a_0 : (List Api_Op)) (b_1 : (List Api_Op)) : Option Bool :=
  if !decide ((a_0.length : Int) = (b_1.length : Int)) then
    some false
  else
    loopF (law24_same_l2 a_0 b_1) FU 0

def law24_WordsRows_k4 (r7 : ((List Api_Op) × Int)) (r8 : Bool) (y9 : Bool) : Option Bool :=
  if y9 then
    if decide (r7.2 = 0) then
      some r8
    else
      some false
  else
    some false

def law24_WordsRows_k3 (r1 : Bool) (y2 : Int × (List Int)) (l4 : (List Api_Range)) (y5 : (List Int)) : Option Bool :=
  (words_Text ([(Api_Op.mk 12 0 0 0 0 0 ByteArray.empty ByteArray.empty ([] : (List ByteArray)) (Api_Row.mk l4 y5 y2.2))])).bind fun r6 =>
  (words_Parse r6).bind fun r7 =>
  (law24_same r7.1 ([(Api_Op.mk 12 0 0 0 0 0 ByteArray.empty ByteArray.empty ([] : (List ByteArray)) (Api_Row.mk l4 y5 y2.2))])).bind fun r8 =>
  if r1 then
    (words_Check (Api_Op.mk 12 0 0 0 0 0 ByteArray.empty ByteArray.empty ([] : (List ByteArray)) (Api_Row.mk l4 y5 y2.2))).bind fun r14 =>
    law24_WordsRows_k4 r7 r8 r14
  else
    law24_WordsRows_k4 r7 r8 false

def law24_WordsRows_k6 (again18 : Int × (List Int) → Option Bool) (v16 : Int × (List Int)) (y21 : Int) : Option Bool :=
  (app 8 v16.2 ([IntKind.wrap .i64 (1 + y21)])).bind fun l22 =>
  again18 (IntKind.wrap .i64 (v16.1 + 1), l22)

def law24_WordsRows_l5 (owners_1 : (List Int)) (r1 : Bool) (y2 : Int × (List Int)) (l4 : (List Api_Range)) (again18 : Int × (List Int) → Option Bool) (v16 : Int × (List Int)) : Option Bool :=
  if decide (v16.1 < (l4.length : Int)) then
    if decide (v16.1 < (owners_1.length : Int)) then
      (idx owners_1 v16.1).bind fun x25 =>
      chk (!decide ((IntKind.wrap .i64 (y2.1 - 1)) = 0)) (
      chk (!decide ((IntKind.wrap .i64 (y2.1 - 1)) = 0)) (
      law24_WordsRows_k6 again18 v16 (Int.tmod (IntKind.wrap .i64 ((IntKind.wrap .i64 ((Int.tmod x25 (IntKind.wrap .i64 (y2.1 - 1))) + y2.1)) - 1)) (IntKind.wrap .i64 (y2.1 - 1)))))
    else
      law24_WordsRows_k6 again18 v16 0
  else
    law24_WordsRows_k3 r1 y2 l4 v16.2

def law24_WordsRows_k2 (owners_1 : (List Int)) (r1 : Bool) (y2 : Int × (List Int)) (y3 : ByteArray × (List Api_Range)) : Option Bool :=
  (app 32 y3.2 ([(Api_Range.mk y3.1 ByteArray.empty)])).bind fun l4 =>
  loopF (law24_WordsRows_l5 owners_1 r1 y2 l4) FU (0, ([] : List Int))

def law24_WordsRows_k8 (ends_0 : (List Int)) (owners_1 : (List Int)) (r1 : Bool) (y2 : Int × (List Int)) (again31 : ByteArray × Int × (List Api_Range) → Option Bool) (v29 : ByteArray × Int × (List Api_Range)) (y33 : Bool) : Option Bool :=
  if y33 then
    (idx ends_0 v29.2.1).bind fun x35 =>
    if !(slt (bytesOf ([IntKind.wrap .u8 (IntKind.wrap .i64 (33 + (Int.tmod (IntKind.wrap .i64 ((Int.tmod x35 90) + 90)) 90)))])) v29.1 || seq (bytesOf ([IntKind.wrap .u8 (IntKind.wrap .i64 (33 + (Int.tmod (IntKind.wrap .i64 ((Int.tmod x35 90) + 90)) 90)))])) v29.1) then
      (app 32 v29.2.2 ([(Api_Range.mk v29.1 (bytesOf ([IntKind.wrap .u8 (IntKind.wrap .i64 (33 + (Int.tmod (IntKind.wrap .i64 ((Int.tmod x35 90) + 90)) 90)))])))])).bind fun l37 =>
      again31 (bytesOf ([IntKind.wrap .u8 (IntKind.wrap .i64 (33 + (Int.tmod (IntKind.wrap .i64 ((Int.tmod x35 90) + 90)) 90)))]), IntKind.wrap .i64 (v29.2.1 + 1), l37)
    else
      again31 (v29.1, IntKind.wrap .i64 (v29.2.1 + 1), v29.2.2)
  else
    law24_WordsRows_k2 owners_1 r1 y2 (v29.1, v29.2.2)

def law24_WordsRows_l7 (ends_0 : (List Int)) (owners_1 : (List Int)) (r1 : Bool) (y2 : Int × (List Int)) (again31 : ByteArray × Int × (List Api_Range) → Option Bool) (v29 : ByteArray × Int × (List Api_Range)) : Option Bool :=
  if decide (v29.2.1 < (ends_0.length : Int)) then
    law24_WordsRows_k8 ends_0 owners_1 r1 y2 again31 v29 (decide (v29.2.1 < 7))
  else
    law24_WordsRows_k8 ends_0 owners_1 r1 y2 again31 v29 false

def law24_WordsRows_k1 (ends_0 : (List Int)) (owners_1 : (List Int)) (r1 : Bool) (y2 : Int × (List Int)) : Option Bool :=
  loopF (law24_WordsRows_l7 ends_0 owners_1 r1 y2) FU (ByteArray.empty, 0, ([] : List Api_Range))

def law24_WordsRows_l9 (ends_0 : (List Int)) (owners_1 : (List Int)) (sites_2 : Int) (r1 : Bool) (again43 : Int × Int × (List Int) → Option Bool) (v41 : Int × Int × (List Int)) : Option Bool :=
  if decide (v41.2.1 < (IntKind.wrap .i64 (1 + (Int.tmod (IntKind.wrap .i64 ((Int.tmod sites_2 6) + 6)) 6)))) then
    (app 8 v41.2.2 ([IntKind.wrap .i64 (v41.2.1 - 1)])).bind fun l46 =>
    again43 (IntKind.wrap .i64 (v41.1 * 2), IntKind.wrap .i64 (v41.2.1 + 1), l46)
  else
    law24_WordsRows_k1 ends_0 owners_1 r1 (v41.1, v41.2.2)

def law24_WordsRows (ends_0 : (List Int)) (owners_1 : (List Int)) (sites_2 : Int) : Option Bool :=
  (law24_awake).bind fun r1 =>
  loopF (law24_WordsRows_l9 ends_0 owners_1 sites_2 r1) FU (1, 0, ([] : List Int))

end Go.Ark
