/- Typed functions, printed by a program of mine out of the translated code. -/
import Derived.Test.YtfhlilpkgodilaaDoorFT
import Derived.Test.YtfhlilpkgodilaaDoorFref22
import Derived.Test.YtfhlilpkgodilaaDoorFref24
import Derived.Test.YtfhlilpkgodilaaDoorFwords
namespace Go.Ark
open Go Go.Ab

def law24_awake_k4 (r1 : ((List Api_Op) × Int)) (y5 : Bool) : Option Bool :=
  if y5 then
    (words_Text r1.1).bind fun r7 =>
    some (seq r7 (ByteArray.mk #[112, 117, 116, 32, 48, 32, 34, 97, 34, 32, 34, 120, 92, 48, 97, 34, 10]))
  else
    some false

def law24_awake_k3 (r1 : ((List Api_Op) × Int)) (y4 : Bool) : Option Bool :=
  if y4 then
    (idx r1.1 0).bind fun x10 =>
    (words_Check x10).bind fun r11 =>
    law24_awake_k4 r1 r11
  else
    law24_awake_k4 r1 false

def law24_awake_k2 (r1 : ((List Api_Op) × Int)) (y3 : Bool) : Option Bool :=
  if y3 then
    (idx r1.1 0).bind fun x14 =>
    law24_awake_k3 r1 (seq x14.Value (ByteArray.mk #[120, 10]))
  else
    law24_awake_k3 r1 false

def law24_awake_k1 (r1 : ((List Api_Op) × Int)) (y2 : Bool) : Option Bool :=
  if y2 then
    (idx r1.1 0).bind fun x17 =>
    law24_awake_k2 r1 (seq x17.Key (ByteArray.mk #[97]))
  else
    law24_awake_k2 r1 false

def law24_awake : Option Bool :=
  (words_Parse (ByteArray.mk #[112, 117, 116, 32, 48, 32, 97, 32, 34, 120, 92, 48, 97, 34, 10, 35, 32, 110, 111, 32, 115, 116, 101, 112, 10])).bind fun r1 =>
  if decide (r1.2 = 0) then
    law24_awake_k1 r1 (decide ((r1.1.length : Int) = 1))
  else
    law24_awake_k1 r1 false

def law24_short (s_0 : ByteArray) (n_1 : Int) : Option ByteArray :=
  if decide (n_1 < (s_0.size : Int)) then
    (ssub s_0 0 n_1).bind fun s2 =>
    some s2
  else
    some s_0

def law24_few_k4 (o_0 : Api_Op) (y2 : (List ByteArray)) (r3 : ByteArray) (r4 : ByteArray) (y5 : (List Api_Range)) (y6 : (List Int)) : Option Api_Op :=
  if decide (9 < (o_0.Row.Parents.length : Int)) then
    (sub o_0.Row.Parents 0 9).bind fun l8 =>
    some (Api_Op.mk o_0.Kind o_0.Client o_0.Site o_0.To o_0.At o_0.How r3 r4 y2 (Api_Row.mk y5 y6 l8))
  else
    some (Api_Op.mk o_0.Kind o_0.Client o_0.Site o_0.To o_0.At o_0.How r3 r4 y2 (Api_Row.mk y5 y6 o_0.Row.Parents))

def law24_few_k3 (o_0 : Api_Op) (y2 : (List ByteArray)) (r3 : ByteArray) (r4 : ByteArray) (y5 : (List Api_Range)) : Option Api_Op :=
  if decide (9 < (o_0.Row.Owners.length : Int)) then
    (sub o_0.Row.Owners 0 9).bind fun l11 =>
    law24_few_k4 o_0 y2 r3 r4 y5 l11
  else
    law24_few_k4 o_0 y2 r3 r4 y5 o_0.Row.Owners

def law24_few_k6 (o_0 : Api_Op) (y2 : (List ByteArray)) (r3 : ByteArray) (r4 : ByteArray) (again15 : Int × (List Api_Range) → Option Api_Op) (v13 : Int × (List Api_Range)) (y17 : Bool) : Option Api_Op :=
  if y17 then
    (idx o_0.Row.Ranges v13.1).bind fun x19 =>
    (law24_short x19.From 40).bind fun r20 =>
    (idx o_0.Row.Ranges v13.1).bind fun x21 =>
    (law24_short x21.To 40).bind fun r22 =>
    (app 32 v13.2 ([(Api_Range.mk r20 r22)])).bind fun l23 =>
    again15 (IntKind.wrap .i64 (v13.1 + 1), l23)
  else
    law24_few_k3 o_0 y2 r3 r4 v13.2

def law24_few_l5 (o_0 : Api_Op) (y2 : (List ByteArray)) (r3 : ByteArray) (r4 : ByteArray) (again15 : Int × (List Api_Range) → Option Api_Op) (v13 : Int × (List Api_Range)) : Option Api_Op :=
  if decide (v13.1 < (o_0.Row.Ranges.length : Int)) then
    law24_few_k6 o_0 y2 r3 r4 again15 v13 (decide (v13.1 < 9))
  else
    law24_few_k6 o_0 y2 r3 r4 again15 v13 false

def law24_few_k2 (o_0 : Api_Op) (y2 : (List ByteArray)) : Option Api_Op :=
  (law24_short o_0.Key 40).bind fun r3 =>
  (law24_short o_0.Value 40).bind fun r4 =>
  loopF (law24_few_l5 o_0 y2 r3 r4) FU (0, ([] : (List Api_Range)))

def law24_few_l7 (o_0 : Api_Op) (y1 : (List ByteArray)) (again29 : Int × (List ByteArray) → Option Api_Op) (v27 : Int × (List ByteArray)) : Option Api_Op :=
  if decide (v27.1 < (y1.length : Int)) then
    (idx y1 v27.1).bind fun x32 =>
    (law24_short x32 40).bind fun r33 =>
    (app 16 v27.2 ([r33])).bind fun l34 =>
    again29 (IntKind.wrap .i64 (v27.1 + 1), l34)
  else
    law24_few_k2 o_0 v27.2

def law24_few_k1 (o_0 : Api_Op) (y1 : (List ByteArray)) : Option Api_Op :=
  loopF (law24_few_l7 o_0 y1) FU (0, ([] : (List ByteArray)))

def law24_few (o_0 : Api_Op) : Option Api_Op :=
  if decide (9 < (o_0.Keys.length : Int)) then
    (sub o_0.Keys 0 9).bind fun l37 =>
    law24_few_k1 o_0 l37
  else
    law24_few_k1 o_0 o_0.Keys

def law24_same_k1 (_y2 : Unit) : Option Bool :=
  some true

def law24_same_l2 (a_0 : (List Api_Op)) (b_1 : (List Api_Op)) (again6 : Int → Option Bool) (v4 : Int) : Option Bool :=
  if decide (v4 < (a_0.length : Int)) then
    (idx a_0 v4).bind fun x9 =>
    (idx b_1 v4).bind fun x10 =>
    (ref22_SameOp x9 x10).bind fun r11 =>
    if !r11 then
      some false
    else
      again6 (IntKind.wrap .i64 (v4 + 1))
  else
    law24_same_k1 ()

def law24_same (a_0 : (List Api_Op)) (b_1 : (List Api_Op)) : Option Bool :=
  if !decide ((a_0.length : Int) = (b_1.length : Int)) then
    some false
  else
    loopF (law24_same_l2 a_0 b_1) FU 0

def law24_WordsBack_k2 (r5 : ((List Api_Op) × Int)) (r6 : Bool) (r7 : Bool) (y8 : Bool) : Option Bool :=
  if y8 then
    if decide (r5.2 = 0) then
      if r6 then
        some r7
      else
        some false
    else
      some false
  else
    some false

def law24_WordsBack_k1 (r1 : Bool) (y2 : ByteArray × (List Api_Op)) : Option Bool :=
  (words_Text y2.2).bind fun r3 =>
  (words_Parse r3).bind fun r4 =>
  (words_Parse y2.1).bind fun r5 =>
  (law24_same r4.1 y2.2).bind fun r6 =>
  (law24_same r5.1 y2.2).bind fun r7 =>
  if r1 then
    law24_WordsBack_k2 r5 r6 r7 (decide (r4.2 = 0))
  else
    law24_WordsBack_k2 r5 r6 r7 false

def law24_WordsBack_k4 (l_0 : (List Api_Op)) (r1 : Bool) (again17 : ByteArray × Int × (List Api_Op) → Option Bool) (v15 : ByteArray × Int × (List Api_Op)) (y19 : Bool) : Option Bool :=
  if y19 then
    (idx l_0 v15.2.1).bind fun x21 =>
    (law24_few x21).bind fun r22 =>
    (words_Check r22).bind fun r23 =>
    if r23 then
      (app 176 v15.2.2 ([r22])).bind fun l25 =>
      (words_Text ([r22])).bind fun r26 =>
      (scat v15.1 r26).bind fun s27 =>
      (scat s27 (ByteArray.mk #[10, 32, 32, 35, 32])).bind fun s28 =>
      (scat s28 (ByteArray.mk #[255, 34, 10])).bind fun s29 =>
      again17 (s29, IntKind.wrap .i64 (v15.2.1 + 1), l25)
    else
      again17 (v15.1, IntKind.wrap .i64 (v15.2.1 + 1), v15.2.2)
  else
    law24_WordsBack_k1 r1 (v15.1, v15.2.2)

def law24_WordsBack_l3 (l_0 : (List Api_Op)) (r1 : Bool) (again17 : ByteArray × Int × (List Api_Op) → Option Bool) (v15 : ByteArray × Int × (List Api_Op)) : Option Bool :=
  if decide (v15.2.1 < (l_0.length : Int)) then
    law24_WordsBack_k4 l_0 r1 again17 v15 (decide (v15.2.1 < 5))
  else
    law24_WordsBack_k4 l_0 r1 again17 v15 false

def law24_WordsBack (l_0 : (List Api_Op)) : Option Bool :=
  (law24_awake).bind fun r1 =>
  loopF (law24_WordsBack_l3 l_0 r1) FU ((ByteArray.mk #[32, 9, 10]), 0, ([] : (List Api_Op)))

end Go.Ark
