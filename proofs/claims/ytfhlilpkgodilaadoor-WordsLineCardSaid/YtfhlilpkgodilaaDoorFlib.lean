/- Typed functions, printed by a program of mine out of the translated code. -/
import Derived.Test.YtfhlilpkgodilaaDoorFT
import Derived.Lib.SlTrimSet
import Derived.Lib.Split
import Derived.Lib.ValidU
import Derived.Lib.Bytealg
namespace Go.Ark
open Go Go.Ab

def strings_Split (s_0 : ByteArray) (sep_1 : ByteArray) : Option (List ByteArray) :=
  if s_0.size < 4294967281 ∧ 1 ≤ sep_1.size then some (Lib.splitB sep_1 0 (Lib.countB s_0 sep_1) s_0) else none

def strings_TrimLeft (s_0 : ByteArray) (cutset_1 : ByteArray) : Option ByteArray :=
  if cutset_1.size < 4294967281 ∧ cutset_1.data.toList.all (fun b => decide (b.toNat < 128)) = true then some ⟨(Lib.trimLeftS s_0.data.toList cutset_1.data.toList).toArray⟩ else none

def unicode_utf8_ValidString (s_0 : ByteArray) : Option Bool :=
  if s_0.size ≤ 9223372036854775807 then some (Lib.validD s_0.data.toList) else none

def strings_IndexByte (s_0 : ByteArray) (c_1 : Int) : Option Int :=
  some (Lib.indexByte s_0.data.toList c_1.toNat.toUInt8)

def internal_stringslite_HasPrefix (s_0 : ByteArray) (prefix_1 : ByteArray) : Option Bool :=
  if decide ((prefix_1.size : Int) ≤ (s_0.size : Int)) then
    (ssub s_0 0 (prefix_1.size : Int)).bind fun s2 =>
    some (seq s2 prefix_1)
  else
    some false

def internal_stringslite_TrimPrefix (s_0 : ByteArray) (prefix_1 : ByteArray) : Option ByteArray :=
  (internal_stringslite_HasPrefix s_0 prefix_1).bind fun r1 =>
  if r1 then
    (ssub s_0 (prefix_1.size : Int) (s_0.size : Int)).bind fun s3 =>
    some s3
  else
    some s_0

def strings_TrimPrefix (s_0 : ByteArray) (prefix_1 : ByteArray) : Option ByteArray :=
  (internal_stringslite_TrimPrefix s_0 prefix_1).bind fun r1 =>
  some r1

def slices_IndexFunc_int_k1 (_y1 : Unit) : Option Int :=
  some (-1)

def slices_IndexFunc_int_l2 (s_0 : (List Int)) (f_1 : (Int → Option Bool)) (again5 : Int → Option Int) (v3 : Int) : Option Int :=
  if decide (v3 < (s_0.length : Int)) then
    (idx s_0 v3).bind fun x8 =>
    (f_1 x8).bind fun r9 =>
    if r9 then
      some v3
    else
      again5 (IntKind.wrap .i64 (v3 + 1))
  else
    slices_IndexFunc_int_k1 ()

def slices_IndexFunc_int (s_0 : (List Int)) (f_1 : (Int → Option Bool)) : Option Int :=
  loopF (slices_IndexFunc_int_l2 s_0 f_1) FU 0

def slices_ContainsFunc_int (s_0 : (List Int)) (f_1 : (Int → Option Bool)) : Option Bool :=
  (slices_IndexFunc_int s_0 f_1).bind fun r1 =>
  some (decide (0 ≤ r1))



def bld_WriteByte (s : ByteArray) (c : Int) : Option ByteArray := if 0 ≤ c ∧ c < 256 ∧ s.size + 1 ≤ 140737488355328 then some (s ++ ByteArray.mk #[UInt8.ofNat c.toNat]) else none

def bld_String (s : ByteArray) : Option ByteArray := some s

def bld_WriteString (s t : ByteArray) : Option ByteArray := if s.size + t.size ≤ 140737488355328 then some (s ++ t) else none

def slices_IndexFunc_string_k1 (_y1 : Unit) : Option Int :=
  some (-1)

def slices_IndexFunc_string_l2 (s_0 : (List ByteArray)) (f_1 : (ByteArray → Option Bool)) (again5 : Int → Option Int) (v3 : Int) : Option Int :=
  if decide (v3 < (s_0.length : Int)) then
    (idx s_0 v3).bind fun x8 =>
    (f_1 x8).bind fun r9 =>
    if r9 then
      some v3
    else
      again5 (IntKind.wrap .i64 (v3 + 1))
  else
    slices_IndexFunc_string_k1 ()

def slices_IndexFunc_string (s_0 : (List ByteArray)) (f_1 : (ByteArray → Option Bool)) : Option Int :=
  loopF (slices_IndexFunc_string_l2 s_0 f_1) FU 0

def slices_ContainsFunc_string (s_0 : (List ByteArray)) (f_1 : (ByteArray → Option Bool)) : Option Bool :=
  (slices_IndexFunc_string s_0 f_1).bind fun r1 =>
  some (decide (0 ≤ r1))





def strings_Join_k3 (y10 : ByteArray) : Option ByteArray :=
  (bld_String y10).bind fun r11 =>
  some r11

def strings_Join_l4 (sep_1 : ByteArray) (l9 : (List ByteArray)) (again15 : Int × ByteArray → Option ByteArray) (v13 : Int × ByteArray) : Option ByteArray :=
  if decide (v13.1 < (l9.length : Int)) then
    (idx l9 v13.1).bind fun x18 =>
    (bld_WriteString v13.2 sep_1).bind fun r19 =>
    (bld_WriteString r19 x18).bind fun r20 =>
    again15 (IntKind.wrap .i64 (v13.1 + 1), r20)
  else
    strings_Join_k3 v13.2

def strings_Join_k2 (elems_0 : (List ByteArray)) (sep_1 : ByteArray) (y5 : Int) : Option ByteArray :=
  chk (decide (0 ≤ y5 ∧ y5 ≤ 140737488355328)) (
  (idx elems_0 0).bind fun x7 =>
  (bld_WriteString ByteArray.empty x7).bind fun r8 =>
  (sub elems_0 1 (elems_0.length : Int)).bind fun l9 =>
  loopF (strings_Join_l4 sep_1 l9) FU (0, r8))

def strings_Join_k6 (again24 : Int × Int → Option ByteArray) (v22 : Int × Int) (x27 : ByteArray) (_y28 : Unit) : Option ByteArray :=
  again24 (IntKind.wrap .i64 (v22.1 + (x27.size : Int)), IntKind.wrap .i64 (v22.2 + 1))

def strings_Join_l5 (elems_0 : (List ByteArray)) (sep_1 : ByteArray) (again24 : Int × Int → Option ByteArray) (v22 : Int × Int) : Option ByteArray :=
  if decide (v22.2 < (elems_0.length : Int)) then
    (idx elems_0 v22.2).bind fun x27 =>
    if decide ((IntKind.wrap .i64 (9223372036854775807 - v22.1)) < (x27.size : Int)) then
      none
    else
      strings_Join_k6 again24 v22 x27 ()
  else
    strings_Join_k2 elems_0 sep_1 v22.1

def strings_Join_k1 (elems_0 : (List ByteArray)) (sep_1 : ByteArray) (y4 : Int) : Option ByteArray :=
  loopF (strings_Join_l5 elems_0 sep_1) FU (y4, 0)

def strings_Join_k7 (elems_0 : (List ByteArray)) (sep_1 : ByteArray) (_y34 : Unit) : Option ByteArray :=
  strings_Join_k1 elems_0 sep_1 (IntKind.wrap .i64 (0 + (IntKind.wrap .i64 ((sep_1.size : Int) * (IntKind.wrap .i64 ((elems_0.length : Int) - 1))))))

def strings_Join (elems_0 : (List ByteArray)) (sep_1 : ByteArray) : Option ByteArray :=
  if decide ((elems_0.length : Int) = 0) then
    some ByteArray.empty
  else
    if decide ((elems_0.length : Int) = 1) then
      (idx elems_0 0).bind fun x3 =>
      some x3
    else
      if decide (0 < (sep_1.size : Int)) then
        chk (!decide ((IntKind.wrap .i64 ((elems_0.length : Int) - 1)) = 0)) (
        if decide ((IntKind.wrap .i64 (Int.tdiv 9223372036854775807 (IntKind.wrap .i64 ((elems_0.length : Int) - 1)))) ≤ (sep_1.size : Int)) then
          none
        else
          strings_Join_k7 elems_0 sep_1 ())
      else
        strings_Join_k1 elems_0 sep_1 0

def slices_Equal_string_k1 (_y2 : Unit) : Option Bool :=
  some true

def slices_Equal_string_l2 (s1_0 : (List ByteArray)) (s2_1 : (List ByteArray)) (again6 : Int → Option Bool) (v4 : Int) : Option Bool :=
  if decide (v4 < (s1_0.length : Int)) then
    (idx s1_0 v4).bind fun x9 =>
    (idx s2_1 v4).bind fun x10 =>
    if !seq x9 x10 then
      some false
    else
      again6 (IntKind.wrap .i64 (v4 + 1))
  else
    slices_Equal_string_k1 ()

def slices_Equal_string (s1_0 : (List ByteArray)) (s2_1 : (List ByteArray)) : Option Bool :=
  if !decide ((s1_0.length : Int) = (s2_1.length : Int)) then
    some false
  else
    loopF (slices_Equal_string_l2 s1_0 s2_1) FU 0
end Go.Ark
