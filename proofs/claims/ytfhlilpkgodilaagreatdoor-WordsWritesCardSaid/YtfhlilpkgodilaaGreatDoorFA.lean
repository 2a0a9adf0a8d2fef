import Derived.Test.YtfhlilpkgodilaaGreatDoorAbB
import Derived.Lib.SlTrimSet
import Derived.Lib.Split
import Derived.Lib.ValidU
import Derived.Lib.Bytealg
/- Types, and how they lie in cells, printed by a program of mine. -/
namespace Go.Ark
open Go Go.Ab

abbrev vI (n : Int) : DV := .v (.int .i64 n)
abbrev vS (s : ByteArray) : DV := .v (.string s)
abbrev vB (b : Bool) : DV := .v (.bool b)
abbrev oI (n : Int) : SV := .one (bI .i64 n)
abbrev oS (s : ByteArray) : SV := .one (bS s)
abbrev oB (b : Bool) : SV := .one (bB b)

structure Words_reader where
  words : (List ByteArray)
  bad : Bool
  deriving DecidableEq

abbrev encS (x : ByteArray) : List DV := [.v (.string x)]

abbrev encWords_reader (x : Words_reader) : List DV := [.sl 1 (List.map encS x.words), .v (.bool x.bad)]

structure Api_Range where
  From : ByteArray
  To : ByteArray
  deriving DecidableEq

abbrev encApi_Range (x : Api_Range) : List DV := [.v (.string x.From), .v (.string x.To)]

structure Api_Row where
  Ranges : (List Api_Range)
  Owners : (List Int)
  Parents : (List Int)
  deriving DecidableEq

abbrev encI_i64 (x : Int) : List DV := [.v (.int .i64 x)]

abbrev encApi_Row (x : Api_Row) : List DV := [.sl 2 (List.map encApi_Range x.Ranges), .sl 1 (List.map encI_i64 x.Owners), .sl 1 (List.map encI_i64 x.Parents)]

structure Api_Op where
  Kind : Int
  Client : Int
  Site : Int
  To : Int
  At : Int
  How : Int
  Key : ByteArray
  Value : ByteArray
  Keys : (List ByteArray)
  Row : Api_Row
  deriving DecidableEq

abbrev encApi_Op (x : Api_Op) : List DV := [.v (.int .i64 x.Kind), .v (.int .i64 x.Client), .v (.int .i64 x.Site), .v (.int .i64 x.To), .v (.int .i64 x.At), .v (.int .i64 x.How), .v (.string x.Key), .v (.string x.Value), .sl 1 (List.map encS x.Keys), .sl 2 (List.map encApi_Range x.Row.Ranges), .sl 1 (List.map encI_i64 x.Row.Owners), .sl 1 (List.map encI_i64 x.Row.Parents)]

abbrev encI_u8 (x : Int) : List DV := [.v (.int .u8 x)]

abbrev encI_u64 (x : Int) : List DV := [.v (.int .u64 x)]

def wfApi_Range (x : Api_Range) : Prop := (x.From.size ≤ reachBytes) ∧ (x.To.size ≤ reachBytes)

def wfApi_Row (x : Api_Row) : Prop := (x.Ranges.length ≤ reachBytes ∧ ∀ y, y ∈ x.Ranges → wfApi_Range y) ∧ (x.Owners.length ≤ reachBytes ∧ ∀ y, y ∈ x.Owners → (Lit.int .i64 y).wf = true) ∧ (x.Parents.length ≤ reachBytes ∧ ∀ y, y ∈ x.Parents → (Lit.int .i64 y).wf = true)

def wfApi_Op (x : Api_Op) : Prop := ((Lit.int .i64 x.Kind).wf = true) ∧ ((Lit.int .i64 x.Client).wf = true) ∧ ((Lit.int .i64 x.Site).wf = true) ∧ ((Lit.int .i64 x.To).wf = true) ∧ ((Lit.int .i64 x.At).wf = true) ∧ ((Lit.int .i64 x.How).wf = true) ∧ (x.Key.size ≤ reachBytes) ∧ (x.Value.size ≤ reachBytes) ∧ (x.Keys.length ≤ reachBytes ∧ ∀ y, y ∈ x.Keys → y.size ≤ reachBytes) ∧ (wfApi_Row x.Row)

structure Ref24_Got where
  S : ByteArray
  N : Int
  deriving DecidableEq

abbrev encRef24_Got (x : Ref24_Got) : List DV := [.v (.string x.S), .v (.int .i64 x.N)]

structure Ref24_Step where
  O : Api_Op
  Is : Bool
  deriving DecidableEq

abbrev encRef24_Step (x : Ref24_Step) : List DV := [.v (.int .i64 x.O.Kind), .v (.int .i64 x.O.Client), .v (.int .i64 x.O.Site), .v (.int .i64 x.O.To), .v (.int .i64 x.O.At), .v (.int .i64 x.O.How), .v (.string x.O.Key), .v (.string x.O.Value), .sl 1 (List.map encS x.O.Keys), .sl 2 (List.map encApi_Range x.O.Row.Ranges), .sl 1 (List.map encI_i64 x.O.Row.Owners), .sl 1 (List.map encI_i64 x.O.Row.Parents), .v (.bool x.Is)]

end Go.Ark

/- Typed functions, printed by a program of mine out of the translated code. -/
namespace Go.Ark
open Go Go.Ab

def strings_Split (s_0 : ByteArray) (sep_1 : ByteArray) : Option (List ByteArray) :=
  if s_0.size < 4294967281 ∧ 1 ≤ sep_1.size then some (Lib.splitB sep_1 0 (Lib.countB s_0 sep_1) s_0) else none

def strings_TrimLeft (s_0 : ByteArray) (cutset_1 : ByteArray) : Option ByteArray :=
  if cutset_1.size < 4294967281 ∧ cutset_1.data.toList.all (fun b => decide (b.toNat < 128)) = true then some ⟨(Lib.trimLeftS s_0.data.toList cutset_1.data.toList).toArray⟩ else none

def unicode_utf8_ValidString (s_0 : ByteArray) : Option Bool :=
  if s_0.size ≤ 9223372036854775807 then some (Lib.validD s_0.data.toList) else none

def strings_IndexByte (s_0 : ByteArray) (c_1 : Int) : Option Int :=
  some (Lib.indexByte s_0.data.toList c_1.toNat.toUInt8)

def internal_stringslite_HasPrefix (s_0 : ByteArray) (prefix_1 : ByteArray) : Option Bool :=
  if decide ((prefix_1.size : Int) ≤ (s_0.size : Int)) then
    (ssub s_0 0 (prefix_1.size : Int)).bind fun s2 =>
    some (seq s2 prefix_1)
  else
    some false

def internal_stringslite_TrimPrefix (s_0 : ByteArray) (prefix_1 : ByteArray) : Option ByteArray :=
  (internal_stringslite_HasPrefix s_0 prefix_1).bind fun r1 =>
  if r1 then
    (ssub s_0 (prefix_1.size : Int) (s_0.size : Int)).bind fun s3 =>
    some s3
  else
    some s_0

def strings_TrimPrefix (s_0 : ByteArray) (prefix_1 : ByteArray) : Option ByteArray :=
  (internal_stringslite_TrimPrefix s_0 prefix_1).bind fun r1 =>
  some r1

def slices_IndexFunc_int_k1 (_y1 : Unit) : Option Int :=
  some (-1)

def slices_IndexFunc_int_l2 (s_0 : (List Int)) (f_1 : (Int → Option Bool)) (again5 : Int → Option Int) (v3 : Int) : Option Int :=
  if decide (v3 < (s_0.length : Int)) then
    (idx s_0 v3).bind fun x8 =>
    (f_1 x8).bind fun r9 =>
    if r9 then
      some v3
    else
      again5 (IntKind.wrap .i64 (v3 + 1))
  else
    slices_IndexFunc_int_k1 ()

def slices_IndexFunc_int (s_0 : (List Int)) (f_1 : (Int → Option Bool)) : Option Int :=
  loopF (slices_IndexFunc_int_l2 s_0 f_1) FU 0

def slices_ContainsFunc_int (s_0 : (List Int)) (f_1 : (Int → Option Bool)) : Option Bool :=
  (slices_IndexFunc_int s_0 f_1).bind fun r1 =>
  some (decide (0 ≤ r1))



def bld_WriteByte (s : ByteArray) (c : Int) : Option ByteArray := if 0 ≤ c ∧ c < 256 ∧ s.size + 1 ≤ 140737488355328 then some (s ++ ByteArray.mk #[UInt8.ofNat c.toNat]) else none

def bld_String (s : ByteArray) : Option ByteArray := some s

def bld_WriteString (s t : ByteArray) : Option ByteArray := if s.size + t.size ≤ 140737488355328 then some (s ++ t) else none

def slices_IndexFunc_string_k1 (_y1 : Unit) : Option Int :=
  some (-1)

def slices_IndexFunc_string_l2 (s_0 : (List ByteArray)) (f_1 : (ByteArray → Option Bool)) (again5 : Int → Option Int) (v3 : Int) : Option Int :=
  if decide (v3 < (s_0.length : Int)) then
    (idx s_0 v3).bind fun x8 =>
    (f_1 x8).bind fun r9 =>
    if r9 then
      some v3
    else
      again5 (IntKind.wrap .i64 (v3 + 1))
  else
    slices_IndexFunc_string_k1 ()

def slices_IndexFunc_string (s_0 : (List ByteArray)) (f_1 : (ByteArray → Option Bool)) : Option Int :=
  loopF (slices_IndexFunc_string_l2 s_0 f_1) FU 0

def slices_ContainsFunc_string (s_0 : (List ByteArray)) (f_1 : (ByteArray → Option Bool)) : Option Bool :=
  (slices_IndexFunc_string s_0 f_1).bind fun r1 =>
  some (decide (0 ≤ r1))





def strings_Join_k3 (y10 : ByteArray) : Option ByteArray :=
  (bld_String y10).bind fun r11 =>
  some r11

def strings_Join_l4 (sep_1 : ByteArray) (l9 : (List ByteArray)) (again15 : Int × ByteArray → Option ByteArray) (v13 : Int × ByteArray) : Option ByteArray :=
  if decide (v13.1 < (l9.length : Int)) then
    (idx l9 v13.1).bind fun x18 =>
    (bld_WriteString v13.2 sep_1).bind fun r19 =>
    (bld_WriteString r19 x18).bind fun r20 =>
    again15 (IntKind.wrap .i64 (v13.1 + 1), r20)
  else
    strings_Join_k3 v13.2

def strings_Join_k2 (elems_0 : (List ByteArray)) (sep_1 : ByteArray) (y5 : Int) : Option ByteArray :=
  chk (decide (0 ≤ y5 ∧ y5 ≤ 140737488355328)) (
  (idx elems_0 0).bind fun x7 =>
  (bld_WriteString ByteArray.empty x7).bind fun r8 =>
  (sub elems_0 1 (elems_0.length : Int)).bind fun l9 =>
  loopF (strings_Join_l4 sep_1 l9) FU (0, r8))

def strings_Join_k6 (again24 : Int × Int → Option ByteArray) (v22 : Int × Int) (x27 : ByteArray) (_y28 : Unit) : Option ByteArray :=
  again24 (IntKind.wrap .i64 (v22.1 + (x27.size : Int)), IntKind.wrap .i64 (v22.2 + 1))

def strings_Join_l5 (elems_0 : (List ByteArray)) (sep_1 : ByteArray) (again24 : Int × Int → Option ByteArray) (v22 : Int × Int) : Option ByteArray :=
  if decide (v22.2 < (elems_0.length : Int)) then
    (idx elems_0 v22.2).bind fun x27 =>
    if decide ((IntKind.wrap .i64 (9223372036854775807 - v22.1)) < (x27.size : Int)) then
      none
    else
      strings_Join_k6 again24 v22 x27 ()
  else
    strings_Join_k2 elems_0 sep_1 v22.1

def strings_Join_k1 (elems_0 : (List ByteArray)) (sep_1 : ByteArray) (y4 : Int) : Option ByteArray :=
  loopF (strings_Join_l5 elems_0 sep_1) FU (y4, 0)

def strings_Join_k7 (elems_0 : (List ByteArray)) (sep_1 : ByteArray) (_y34 : Unit) : Option ByteArray :=
  strings_Join_k1 elems_0 sep_1 (IntKind.wrap .i64 (0 + (IntKind.wrap .i64 ((sep_1.size : Int) * (IntKind.wrap .i64 ((elems_0.length : Int) - 1))))))

def strings_Join (elems_0 : (List ByteArray)) (sep_1 : ByteArray) : Option ByteArray :=
  if decide ((elems_0.length : Int) = 0) then
    some ByteArray.empty
  else
    if decide ((elems_0.length : Int) = 1) then
      (idx elems_0 0).bind fun x3 =>
      some x3
    else
      if decide (0 < (sep_1.size : Int)) then
        chk (!decide ((IntKind.wrap .i64 ((elems_0.length : Int) - 1)) = 0)) (
        if decide ((IntKind.wrap .i64 (Int.tdiv 9223372036854775807 (IntKind.wrap .i64 ((elems_0.length : Int) - 1)))) ≤ (sep_1.size : Int)) then
          none
        else
          strings_Join_k7 elems_0 sep_1 ())
      else
        strings_Join_k1 elems_0 sep_1 0

def slices_Equal_string_k1 (_y2 : Unit) : Option Bool :=
  some true

def slices_Equal_string_l2 (s1_0 : (List ByteArray)) (s2_1 : (List ByteArray)) (again6 : Int → Option Bool) (v4 : Int) : Option Bool :=
  if decide (v4 < (s1_0.length : Int)) then
    (idx s1_0 v4).bind fun x9 =>
    (idx s2_1 v4).bind fun x10 =>
    if !seq x9 x10 then
      some false
    else
      again6 (IntKind.wrap .i64 (v4 + 1))
  else
    slices_Equal_string_k1 ()

def slices_Equal_string (s1_0 : (List ByteArray)) (s2_1 : (List ByteArray)) : Option Bool :=
  if !decide ((s1_0.length : Int) = (s2_1.length : Int)) then
    some false
  else
    loopF (slices_Equal_string_l2 s1_0 s2_1) FU 0
end Go.Ark

/- Typed functions, printed by a program of mine out of the translated code. -/
namespace Go.Ark
open Go Go.Ab

def vary_put_k1 (y1 : Int × ByteArray) : Option ByteArray :=
  (bld_WriteByte y1.2 (IntKind.wrap .u8 y1.1)).bind fun r2 =>
  some r2

def vary_put_l2 (again6 : Int × ByteArray → Option ByteArray) (v4 : Int × ByteArray) : Option ByteArray :=
  if decide (128 ≤ v4.1) then
    (bld_WriteByte v4.2 (IntKind.wrap .u8 (BitVec.ofInt (IntKind.bits .u8) (IntKind.wrap .u8 v4.1) ||| BitVec.ofInt (IntKind.bits .u8) 128).toNat)).bind fun r9 =>
    again6 (Int.fdiv v4.1 (2 ^ min (Int.toNat 7) (IntKind.bits .u64)), r9)
  else
    vary_put_k1 (v4.1, v4.2)

def vary_put (b_0 : ByteArray) (n_1 : Int) : Option ByteArray :=
  loopF (vary_put_l2) FU (n_1, b_0)

def vary_Join_1 (n_0 : Int) (c0 : ByteArray) : Option ByteArray :=
  (vary_put c0 n_0).bind fun r1 =>
  some r1

def vary_Join_k1 (y1 : ByteArray) : Option ByteArray :=
  (bld_String y1).bind fun r2 =>
  some r2

def vary_Join_l2 (l_0 : (List Int)) (again6 : Int × ByteArray → Option ByteArray) (v4 : Int × ByteArray) : Option ByteArray :=
  if decide (v4.1 < (l_0.length : Int)) then
    (idx l_0 v4.1).bind fun x9 =>
    (vary_Join_1 x9 v4.2).bind fun r10 =>
    again6 (IntKind.wrap .i64 (v4.1 + 1), r10)
  else
    vary_Join_k1 v4.2

def vary_Join (l_0 : (List Int)) : Option ByteArray :=
  loopF (vary_Join_l2 l_0) FU (0, ByteArray.empty)

def vary_Number (n_0 : Int) : Option ByteArray :=
  (vary_Join ([n_0])).bind fun r1 =>
  some r1

def vary_Text (s_0 : ByteArray) : Option ByteArray :=
  (vary_Number (IntKind.wrap .u64 (s_0.size : Int))).bind fun r1 =>
  (scat r1 s_0).bind fun s2 =>
  some s2
end Go.Ark

/- Typed functions, printed by a program of mine out of the translated code. -/
namespace Go.Ark
open Go Go.Ab

def keys_Runes_k1 (y1 : Int) : Option Int :=
  some y1

def keys_Runes_k3 (s_0 : ByteArray) (again5 : Int × Nat → Option Int) (v3 : Int × Nat) (y8 : Bool × Nat) : Option Int :=
  if y8.1 then
    some (-1)
  else
    if decide (((Utf8.decode s_0 v3.2).1 : Int) = 65533) then
      if decide ((IntKind.wrap .i64 ((s_0.size : Int) - (v3.2 : Int))) < 3) then
        some (-1)
      else
        (ssub s_0 (v3.2 : Int) (IntKind.wrap .i64 ((v3.2 : Int) + 3))).bind fun s12 =>
        if !seq s12 (ByteArray.mk #[239, 191, 189]) then
          some (-1)
        else
          again5 (IntKind.wrap .i64 (v3.1 + 1), y8.2)
    else
      again5 (IntKind.wrap .i64 (v3.1 + 1), y8.2)

def keys_Runes_l2 (s_0 : ByteArray) (again5 : Int × Nat → Option Int) (v3 : Int × Nat) : Option Int :=
  if decide (v3.2 < s_0.size) then
    if decide (((Utf8.decode s_0 v3.2).1 : Int) = 65533) then
      (sidx s_0 (v3.2 : Int)).bind fun b16 =>
      (sidx (ByteArray.mk #[239, 191, 189]) 0).bind fun b17 =>
      keys_Runes_k3 s_0 again5 v3 (!decide ((b16.toNat : Int) = (b17.toNat : Int)), v3.2 + (Utf8.decode s_0 v3.2).2)
    else
      keys_Runes_k3 s_0 again5 v3 (false, v3.2 + (Utf8.decode s_0 v3.2).2)
  else
    keys_Runes_k1 v3.1

def keys_Runes (s_0 : ByteArray) : Option Int :=
  loopF (keys_Runes_l2 s_0) FU (0, 0)

def keys_Check_k2 (y3 : Bool) : Option Bool :=
  some y3

def keys_Check_l3 (s_0 : ByteArray) (again7 : Bool × Nat → Option Bool) (v5 : Bool × Nat) : Option Bool :=
  if decide (v5.2 < s_0.size) then
    if !v5.1 then
      keys_Check_k2 v5.1
    else
      again7 (decide (33 ≤ ((Utf8.decode s_0 v5.2).1 : Int)), v5.2 + (Utf8.decode s_0 v5.2).2)
  else
    keys_Check_k2 v5.1

def keys_Check_k1 (s_0 : ByteArray) (y2 : Bool) : Option Bool :=
  loopF (keys_Check_l3 s_0) FU (y2, 0)

def keys_Check (s_0 : ByteArray) : Option Bool :=
  (keys_Runes s_0).bind fun r1 =>
  if decide (1 ≤ r1) then
    keys_Check_k1 s_0 (decide (r1 ≤ 8))
  else
    keys_Check_k1 s_0 false

def keys_Good_1 (s_0 : ByteArray) : Option Bool :=
  if seq s_0 ByteArray.empty then
    some true
  else
    (keys_Check s_0).bind fun r2 =>
    some r2

def keys_Good_k1 (r_0 : Api_Range) (y2 : Bool) : Option Bool :=
  if y2 then
    if seq r_0.To ByteArray.empty then
      some true
    else
      some (slt r_0.From r_0.To)
  else
    some false

def keys_Good (r_0 : Api_Range) : Option Bool :=
  (keys_Good_1 r_0.From).bind fun r1 =>
  if r1 then
    (keys_Good_1 r_0.To).bind fun r7 =>
    keys_Good_k1 r_0 r7
  else
    keys_Good_k1 r_0 false

def keys_Whole_k1 (l_0 : (List Api_Range)) (y1 : ByteArray) : Option Bool :=
  if decide (0 < (l_0.length : Int)) then
    some (seq y1 ByteArray.empty)
  else
    some false

def keys_Whole_k3 (again6 : ByteArray × Int → Option Bool) (v4 : ByteArray × Int) (x9 : Api_Range) (y10 : Bool) : Option Bool :=
  if y10 then
    some false
  else
    again6 (x9.To, IntKind.wrap .i64 (v4.2 + 1))

def keys_Whole_k4 (again6 : ByteArray × Int → Option Bool) (v4 : ByteArray × Int) (x9 : Api_Range) (y14 : Bool) : Option Bool :=
  if y14 then
    keys_Whole_k3 again6 v4 x9 true
  else
    if decide (0 < v4.2) then
      keys_Whole_k3 again6 v4 x9 (seq v4.1 ByteArray.empty)
    else
      keys_Whole_k3 again6 v4 x9 false

def keys_Whole_l2 (l_0 : (List Api_Range)) (again6 : ByteArray × Int → Option Bool) (v4 : ByteArray × Int) : Option Bool :=
  if decide (v4.2 < (l_0.length : Int)) then
    (idx l_0 v4.2).bind fun x9 =>
    (keys_Good x9).bind fun r13 =>
    if !r13 then
      keys_Whole_k4 again6 v4 x9 true
    else
      keys_Whole_k4 again6 v4 x9 (!seq x9.From v4.1)
  else
    keys_Whole_k1 l_0 v4.1

def keys_Whole (l_0 : (List Api_Range)) : Option Bool :=
  loopF (keys_Whole_l2 l_0) FU (ByteArray.empty, 0)
end Go.Ark

/- Typed functions, printed by a program of mine out of the translated code. -/
namespace Go.Ark
open Go Go.Ab

def wire_written_1 (p_0 : Int) : Option Bool :=
  if decide (p_0 < (-1)) then
    some true
  else
    some (decide (6 ≤ p_0))

def wire_written_2 (o_0 : Int) (c0 : Int) : Option Bool :=
  if decide (o_0 < 1) then
    some true
  else
    chk (decide (0 ≤ c0)) (
    some (!decide ((Int.fdiv o_0 (2 ^ min (Int.toNat c0) (IntKind.bits .i64))) = 0)))

def wire_written_k1 (c_0 : Api_Row) (y1 : Bool) : Option Bool :=
  if y1 then
    some false
  else
    (slices_ContainsFunc_int c_0.Parents (fun x0 => wire_written_1 x0)).bind fun r3 =>
    if !r3 then
      (slices_ContainsFunc_int c_0.Owners (fun x0 => wire_written_2 x0 (c_0.Parents.length : Int))).bind fun r5 =>
      some (!r5)
    else
      some false

def wire_written_k4 (c_0 : Api_Row) (y9 : Bool) : Option Bool :=
  if y9 then
    wire_written_k1 c_0 true
  else
    (keys_Whole c_0.Ranges).bind fun r11 =>
    wire_written_k1 c_0 (!r11)

def wire_written_k3 (c_0 : Api_Row) (y8 : Bool) : Option Bool :=
  if y8 then
    wire_written_k4 c_0 true
  else
    wire_written_k4 c_0 (!decide ((c_0.Owners.length : Int) = (c_0.Ranges.length : Int)))

def wire_written_k2 (c_0 : Api_Row) (y7 : Bool) : Option Bool :=
  if y7 then
    wire_written_k3 c_0 true
  else
    wire_written_k3 c_0 (decide (8 < (c_0.Ranges.length : Int)))

def wire_written (c_0 : Api_Row) : Option Bool :=
  if decide ((c_0.Parents.length : Int) < 1) then
    wire_written_k2 c_0 true
  else
    wire_written_k2 c_0 (decide (6 < (c_0.Parents.length : Int)))

def wire_RowBytes_k3 (y6 : ByteArray) (y9 : (List Int)) : Option ByteArray :=
  (bld_String y6).bind fun r10 =>
  (vary_Join y9).bind fun r11 =>
  (scat r10 r11).bind fun s12 =>
  some s12

def wire_RowBytes_l4 (c_0 : Api_Row) (y6 : ByteArray) (again16 : Int × (List Int) → Option ByteArray) (v14 : Int × (List Int)) : Option ByteArray :=
  if decide (v14.1 < (c_0.Parents.length : Int)) then
    (idx c_0.Parents v14.1).bind fun x19 =>
    (app 8 v14.2 ([IntKind.wrap .u64 (IntKind.wrap .i64 (x19 + 1))])).bind fun l20 =>
    again16 (IntKind.wrap .i64 (v14.1 + 1), l20)
  else
    wire_RowBytes_k3 y6 v14.2

def wire_RowBytes_k2 (c_0 : Api_Row) (y6 : ByteArray) (y7 : (List Int)) : Option ByteArray :=
  (app 8 y7 ([IntKind.wrap .u64 (c_0.Parents.length : Int)])).bind fun l8 =>
  loopF (wire_RowBytes_l4 c_0 y6) FU (0, l8)

def wire_RowBytes_l5 (c_0 : Api_Row) (y6 : ByteArray) (again24 : Int × (List Int) → Option ByteArray) (v22 : Int × (List Int)) : Option ByteArray :=
  if decide (v22.1 < (c_0.Owners.length : Int)) then
    (idx c_0.Owners v22.1).bind fun x27 =>
    (app 8 v22.2 ([IntKind.wrap .u64 x27])).bind fun l28 =>
    again24 (IntKind.wrap .i64 (v22.1 + 1), l28)
  else
    wire_RowBytes_k2 c_0 y6 v22.2

def wire_RowBytes_k1 (c_0 : Api_Row) (y6 : ByteArray) : Option ByteArray :=
  loopF (wire_RowBytes_l5 c_0 y6) FU (0, ([] : (List Int)))

def wire_RowBytes_l6 (c_0 : Api_Row) (l5 : (List Api_Range)) (again32 : Int × ByteArray → Option ByteArray) (v30 : Int × ByteArray) : Option ByteArray :=
  if decide (v30.1 < (l5.length : Int)) then
    (idx l5 v30.1).bind fun x35 =>
    (vary_Text x35.To).bind fun r36 =>
    (bld_WriteString v30.2 r36).bind fun r37 =>
    again32 (IntKind.wrap .i64 (v30.1 + 1), r37)
  else
    wire_RowBytes_k1 c_0 v30.2

def wire_RowBytes (c_0 : Api_Row) : Option ByteArray :=
  (wire_written c_0).bind fun r1 =>
  if !r1 then
    some ByteArray.empty
  else
    (vary_Number (IntKind.wrap .u64 (c_0.Ranges.length : Int))).bind fun r3 =>
    (bld_WriteString ByteArray.empty r3).bind fun r4 =>
    (sub c_0.Ranges 0 (IntKind.wrap .i64 ((c_0.Ranges.length : Int) - 1))).bind fun l5 =>
    loopF (wire_RowBytes_l6 c_0 l5) FU (0, r4)
end Go.Ark

/- Typed functions, printed by a program of mine out of the translated code. -/
namespace Go.Ark
open Go Go.Ab

def script_Check_1 (n_0 : Int) : Option Bool :=
  if decide (n_0 < 0) then
    some true
  else
    some (decide (63 < n_0))

def script_Check_2 (s_0 : ByteArray) : Option Bool :=
  some (decide (32 < (s_0.size : Int)))

def script_numbers (o_0 : Api_Op) : Option (List Int) :=
  some ([o_0.Kind, o_0.Client, o_0.Site, o_0.To, o_0.At, o_0.How])

def script_empty (c_0 : Api_Row) : Option Bool :=
  some (decide ((IntKind.wrap .i64 ((IntKind.wrap .i64 ((c_0.Ranges.length : Int) + (c_0.Owners.length : Int))) + (c_0.Parents.length : Int))) = 0))

def script_Check_k6 (o_0 : Api_Op) (y6 : Bool) : Option Bool :=
  if y6 then
    (script_empty o_0.Row).bind fun r8 =>
    if r8 then
      some true
    else
      (wire_RowBytes o_0.Row).bind fun r10 =>
      some (!seq r10 ByteArray.empty)
  else
    some false

def script_Check_k5 (o_0 : Api_Op) (y5 : Bool) : Option Bool :=
  if y5 then
    (script_Check_2 o_0.Value).bind fun r13 =>
    script_Check_k6 o_0 (!r13)
  else
    script_Check_k6 o_0 false

def script_Check_k4 (o_0 : Api_Op) (y4 : Bool) : Option Bool :=
  if y4 then
    (script_Check_2 o_0.Key).bind fun r16 =>
    script_Check_k5 o_0 (!r16)
  else
    script_Check_k5 o_0 false

def script_Check_k3 (o_0 : Api_Op) (y3 : Bool) : Option Bool :=
  if y3 then
    (slices_ContainsFunc_string o_0.Keys (fun x0 => script_Check_2 x0)).bind fun r19 =>
    script_Check_k4 o_0 (!r19)
  else
    script_Check_k4 o_0 false

def script_Check_k2 (o_0 : Api_Op) (y2 : Bool) : Option Bool :=
  if y2 then
    script_Check_k3 o_0 (decide ((o_0.Keys.length : Int) ≤ 8))
  else
    script_Check_k3 o_0 false

def script_Check_k1 (o_0 : Api_Op) (y1 : Bool) : Option Bool :=
  if y1 then
    (script_numbers o_0).bind fun r24 =>
    (slices_ContainsFunc_int r24 (fun x0 => script_Check_1 x0)).bind fun r25 =>
    script_Check_k2 o_0 (!r25)
  else
    script_Check_k2 o_0 false

def script_Check (o_0 : Api_Op) : Option Bool :=
  if decide (1 ≤ o_0.Kind) then
    script_Check_k1 o_0 (decide (o_0.Kind ≤ 12))
  else
    script_Check_k1 o_0 false

def script_Bytes_k1 (y3 : ByteArray) : Option ByteArray :=
  (bld_String y3).bind fun r4 =>
  some r4

def script_Bytes_k3 (again8 : Int × ByteArray → Option ByteArray) (v6 : Int × ByteArray) (y11 : ByteArray) : Option ByteArray :=
  again8 (IntKind.wrap .i64 (v6.1 + 1), y11)

def script_Bytes_k5 (again8 : Int × ByteArray → Option ByteArray) (v6 : Int × ByteArray) (x13 : Api_Op) (y24 : ByteArray) : Option ByteArray :=
  (script_empty x13.Row).bind fun r25 =>
  if !r25 then
    (wire_RowBytes x13.Row).bind fun r27 =>
    (vary_Text r27).bind fun r28 =>
    (bld_WriteString y24 r28).bind fun r29 =>
    script_Bytes_k3 again8 v6 r29
  else
    (vary_Text ByteArray.empty).bind fun r30 =>
    (bld_WriteString y24 r30).bind fun r31 =>
    script_Bytes_k3 again8 v6 r31

def script_Bytes_l6 (again8 : Int × ByteArray → Option ByteArray) (v6 : Int × ByteArray) (x13 : Api_Op) (again35 : Int × ByteArray → Option ByteArray) (v33 : Int × ByteArray) : Option ByteArray :=
  if decide (v33.1 < (x13.Keys.length : Int)) then
    (idx x13.Keys v33.1).bind fun x38 =>
    (vary_Text x38).bind fun r39 =>
    (bld_WriteString v33.2 r39).bind fun r40 =>
    again35 (IntKind.wrap .i64 (v33.1 + 1), r40)
  else
    script_Bytes_k5 again8 v6 x13 v33.2

def script_Bytes_k4 (again8 : Int × ByteArray → Option ByteArray) (v6 : Int × ByteArray) (x13 : Api_Op) (y17 : ByteArray) : Option ByteArray :=
  (vary_Text x13.Key).bind fun r18 =>
  (vary_Text x13.Value).bind fun r19 =>
  (scat r18 r19).bind fun s20 =>
  (vary_Number (IntKind.wrap .u64 (x13.Keys.length : Int))).bind fun r21 =>
  (scat s20 r21).bind fun s22 =>
  (bld_WriteString y17 s22).bind fun r23 =>
  loopF (script_Bytes_l6 again8 v6 x13) FU (0, r23)

def script_Bytes_l7 (again8 : Int × ByteArray → Option ByteArray) (v6 : Int × ByteArray) (x13 : Api_Op) (r16 : (List Int)) (again44 : Int × ByteArray → Option ByteArray) (v42 : Int × ByteArray) : Option ByteArray :=
  if decide (v42.1 < (r16.length : Int)) then
    (idx r16 v42.1).bind fun x47 =>
    (vary_Number (IntKind.wrap .u64 x47)).bind fun r48 =>
    (bld_WriteString v42.2 r48).bind fun r49 =>
    again44 (IntKind.wrap .i64 (v42.1 + 1), r49)
  else
    script_Bytes_k4 again8 v6 x13 v42.2

def script_Bytes_l2 (l_0 : (List Api_Op)) (again8 : Int × ByteArray → Option ByteArray) (v6 : Int × ByteArray) : Option ByteArray :=
  if decide (v6.1 < (l_0.length : Int)) then
    (idx l_0 v6.1).bind fun x13 =>
    (script_Check x13).bind fun r14 =>
    if !r14 then
      some ByteArray.empty
    else
      (script_numbers x13).bind fun r16 =>
      loopF (script_Bytes_l7 again8 v6 x13 r16) FU (0, v6.2)
  else
    script_Bytes_k1 v6.2

def script_Bytes (l_0 : (List Api_Op)) : Option ByteArray :=
  (vary_Number (IntKind.wrap .u64 (l_0.length : Int))).bind fun r1 =>
  (bld_WriteString ByteArray.empty r1).bind fun r2 =>
  loopF (script_Bytes_l2 l_0) FU (0, r2)
end Go.Ark

/- Typed functions, printed by a program of mine out of the translated code. -/
namespace Go.Ark
open Go Go.Ab

def words_silent (line_0 : ByteArray) : Option Bool :=
  (strings_TrimLeft line_0 (ByteArray.mk #[32, 9])).bind fun r1 =>
  if seq r1 ByteArray.empty then
    some true
  else
    (sidx r1 0).bind fun b3 =>
    some (decide ((b3.toNat : Int) = 35))

def words_bare_k1 (s_0 : ByteArray) (y1 : Int) : Option (ByteArray × Int) :=
  (ssub s_0 0 y1).bind fun s2 =>
  (unicode_utf8_ValidString s2).bind fun r3 =>
  if !r3 then
    some (ByteArray.empty, 0)
  else
    (ssub s_0 0 y1).bind fun s5 =>
    some (s5, y1)

def words_bare_k3 (s_0 : ByteArray) (again9 : Nat → Option (ByteArray × Int)) (v7 : Nat) (y12 : Bool × Nat) : Option (ByteArray × Int) :=
  if y12.1 then
    words_bare_k1 s_0 (v7 : Int)
  else
    if decide (((Utf8.decode s_0 v7).1 : Int) < 32) then
      some (ByteArray.empty, 0)
    else
      if decide (((Utf8.decode s_0 v7).1 : Int) = 127) then
        some (ByteArray.empty, 0)
      else
        if decide (((Utf8.decode s_0 v7).1 : Int) = 34) then
          some (ByteArray.empty, 0)
        else
          again9 y12.2

def words_bare_l2 (s_0 : ByteArray) (again9 : Nat → Option (ByteArray × Int)) (v7 : Nat) : Option (ByteArray × Int) :=
  if decide (v7 < s_0.size) then
    if decide (((Utf8.decode s_0 v7).1 : Int) = 32) then
      words_bare_k3 s_0 again9 v7 (true, v7 + (Utf8.decode s_0 v7).2)
    else
      words_bare_k3 s_0 again9 v7 (decide (((Utf8.decode s_0 v7).1 : Int) = 9), v7 + (Utf8.decode s_0 v7).2)
  else
    words_bare_k1 s_0 (s_0.size : Int)

def words_bare (s_0 : ByteArray) : Option (ByteArray × Int) :=
  loopF (words_bare_l2 s_0) FU 0

def words_plain_k1 (c_0 : Int) (y1 : Bool) : Option Bool :=
  if y1 then
    if !decide (c_0 = 34) then
      some (!decide (c_0 = 92))
    else
      some false
  else
    some false

def words_plain (c_0 : Int) : Option Bool :=
  if decide (32 ≤ c_0) then
    words_plain_k1 c_0 (decide (c_0 ≤ 126))
  else
    words_plain_k1 c_0 false

def words_quoted_k1 (_y1 : Unit) : Option (ByteArray × Int) :=
  some (ByteArray.empty, 0)

def words_quoted_k3 (v3 : Int × (List Int)) (y10 : Bool) : Option (ByteArray × Int) :=
  if y10 then
    some (ByteArray.empty, 0)
  else
    some (bytesOf v3.2, IntKind.wrap .i64 (v3.1 + 1))

def words_quoted_k5 (again5 : Int × (List Int) → Option (ByteArray × Int)) (v3 : Int × (List Int)) (r19 : Int) (r21 : Int) (y22 : Bool) : Option (ByteArray × Int) :=
  if y22 then
    some (ByteArray.empty, 0)
  else
    (app 1 v3.2 ([IntKind.wrap .u8 (IntKind.wrap .i64 ((IntKind.wrap .i64 (r19 * 16)) + r21))])).bind fun l24 =>
    again5 (IntKind.wrap .i64 (v3.1 + 3), l24)

def words_quoted_k4 (s_0 : ByteArray) (again5 : Int × (List Int) → Option (ByteArray × Int)) (v3 : Int × (List Int)) (b8 : UInt8) (y16 : Bool) : Option (ByteArray × Int) :=
  if y16 then
    (sidx s_0 (IntKind.wrap .i64 (v3.1 + 1))).bind fun b18 =>
    (strings_IndexByte (ByteArray.mk #[48, 49, 50, 51, 52, 53, 54, 55, 56, 57, 97, 98, 99, 100, 101, 102]) (b18.toNat : Int)).bind fun r19 =>
    (sidx s_0 (IntKind.wrap .i64 (v3.1 + 2))).bind fun b20 =>
    (strings_IndexByte (ByteArray.mk #[48, 49, 50, 51, 52, 53, 54, 55, 56, 57, 97, 98, 99, 100, 101, 102]) (b20.toNat : Int)).bind fun r21 =>
    if decide (r19 < 0) then
      words_quoted_k5 again5 v3 r19 r21 true
    else
      words_quoted_k5 again5 v3 r19 r21 (decide (r21 < 0))
  else
    (words_plain (b8.toNat : Int)).bind fun r27 =>
    if r27 then
      (app 1 v3.2 ([(b8.toNat : Int)])).bind fun l29 =>
      again5 (IntKind.wrap .i64 (v3.1 + 1), l29)
    else
      some (ByteArray.empty, 0)

def words_quoted_l2 (s_0 : ByteArray) (again5 : Int × (List Int) → Option (ByteArray × Int)) (v3 : Int × (List Int)) : Option (ByteArray × Int) :=
  if decide (v3.1 < (s_0.size : Int)) then
    (sidx s_0 v3.1).bind fun b8 =>
    if decide ((b8.toNat : Int) = 34) then
      if decide ((IntKind.wrap .i64 (v3.1 + 1)) < (s_0.size : Int)) then
        (sidx s_0 (IntKind.wrap .i64 (v3.1 + 1))).bind fun b14 =>
        (strings_IndexByte (ByteArray.mk #[32, 9]) (b14.toNat : Int)).bind fun r15 =>
        words_quoted_k3 v3 (decide (r15 < 0))
      else
        words_quoted_k3 v3 false
    else
      if decide ((b8.toNat : Int) = 92) then
        words_quoted_k4 s_0 again5 v3 b8 (decide (3 ≤ (IntKind.wrap .i64 ((s_0.size : Int) - v3.1))))
      else
        words_quoted_k4 s_0 again5 v3 b8 false
  else
    words_quoted_k1 ()

def words_quoted (s_0 : ByteArray) : Option (ByteArray × Int) :=
  loopF (words_quoted_l2 s_0) FU (1, [34])

def words_Words_l1 (again3 : ByteArray × (List ByteArray) → Option ((List ByteArray) × Bool)) (v1 : ByteArray × (List ByteArray)) : Option ((List ByteArray) × Bool) :=
  (strings_TrimLeft v1.1 (ByteArray.mk #[32, 9])).bind fun r5 =>
  if seq r5 ByteArray.empty then
    some (v1.2, true)
  else
    (sidx r5 0).bind fun b7 =>
    if decide ((b7.toNat : Int) = 34) then
      (words_quoted r5).bind fun r9 =>
      if decide (r9.2 = 0) then
        some (([] : (List ByteArray)), false)
      else
        (app 16 v1.2 ([r9.1])).bind fun l11 =>
        (ssub r5 r9.2 (r5.size : Int)).bind fun s12 =>
        again3 (s12, l11)
    else
      (words_bare r5).bind fun r13 =>
      if decide (r13.2 = 0) then
        some (([] : (List ByteArray)), false)
      else
        (app 16 v1.2 ([r13.1])).bind fun l15 =>
        (ssub r5 r13.2 (r5.size : Int)).bind fun s16 =>
        again3 (s16, l15)

def words_Words (line_0 : ByteArray) : Option ((List ByteArray) × Bool) :=
  loopF (words_Words_l1) FU (line_0, ([] : (List ByteArray)))

def words_name (kind_0 : Int) : Option ByteArray :=
  if decide (kind_0 = 1) then
    some (ByteArray.mk #[112, 117, 116])
  else
    if decide (kind_0 = 2) then
      some (ByteArray.mk #[100, 101, 108])
    else
      if decide (kind_0 = 3) then
        some (ByteArray.mk #[103, 101, 116])
      else
        if decide (kind_0 = 4) then
          some (ByteArray.mk #[108, 101, 97, 118, 101])
        else
          if decide (kind_0 = 5) then
            some (ByteArray.mk #[101, 110, 116, 101, 114])
          else
            if decide (kind_0 = 6) then
              some (ByteArray.mk #[98, 101, 103, 105, 110])
            else
              if decide (kind_0 = 7) then
                some (ByteArray.mk #[101, 110, 100])
              else
                if decide (kind_0 = 8) then
                  some (ByteArray.mk #[112, 105, 99, 107])
                else
                  if decide (kind_0 = 9) then
                    some (ByteArray.mk #[97, 103, 97, 105, 110])
                  else
                    if decide (kind_0 = 10) then
                      some (ByteArray.mk #[115, 116, 101, 112])
                    else
                      if decide (kind_0 = 11) then
                        some (ByteArray.mk #[99, 108, 101, 97, 110])
                      else
                        if decide (kind_0 = 12) then
                          some (ByteArray.mk #[114, 111, 119])
                        else
                          some ByteArray.empty

def words_kind_k1 (_y1 : Unit) : Option Int :=
  some 0

def words_kind_l2 (word_0 : ByteArray) (again5 : Int → Option Int) (v3 : Int) : Option Int :=
  if decide (v3 ≤ 12) then
    (words_name v3).bind fun r8 =>
    if seq r8 word_0 then
      some v3
    else
      again5 (IntKind.wrap .i64 (v3 + 1))
  else
    words_kind_k1 ()

def words_kind (word_0 : ByteArray) : Option Int :=
  loopF (words_kind_l2 word_0) FU 1

def words_reader_next (r_0 : Words_reader) : Option (Words_reader × ByteArray) :=
  if decide ((r_0.words.length : Int) = 0) then
    some ((Words_reader.mk r_0.words true), ByteArray.empty)
  else
    (idx r_0.words 0).bind fun x2 =>
    (sub r_0.words 1 (r_0.words.length : Int)).bind fun l3 =>
    some ((Words_reader.mk l3 r_0.bad), x2)

def words_decimal_k2 (y3 : Int) : Option (Int × Bool) :=
  some (y3, decide (y3 ≤ 63))

def words_decimal_k4 (s_0 : ByteArray) (again7 : Int × Int → Option (Int × Bool)) (v5 : Int × Int) (y10 : Bool) : Option (Int × Bool) :=
  if y10 then
    some (0, false)
  else
    (sidx s_0 v5.2).bind fun b12 =>
    again7 (IntKind.wrap .i64 ((IntKind.wrap .i64 (v5.1 * 10)) + (IntKind.wrap .i64 (IntKind.wrap .u8 ((b12.toNat : Int) - 48)))), IntKind.wrap .i64 (v5.2 + 1))

def words_decimal_l3 (s_0 : ByteArray) (again7 : Int × Int → Option (Int × Bool)) (v5 : Int × Int) : Option (Int × Bool) :=
  if decide (v5.2 < (s_0.size : Int)) then
    (sidx s_0 v5.2).bind fun b14 =>
    if decide ((b14.toNat : Int) < 48) then
      words_decimal_k4 s_0 again7 v5 true
    else
      (sidx s_0 v5.2).bind fun b16 =>
      words_decimal_k4 s_0 again7 v5 (decide (57 < (b16.toNat : Int)))
  else
    words_decimal_k2 v5.1

def words_decimal_k1 (s_0 : ByteArray) (y1 : Bool) : Option (Int × Bool) :=
  if y1 then
    some (0, false)
  else
    loopF (words_decimal_l3 s_0) FU (0, 0)

def words_decimal_k5 (s_0 : ByteArray) (y18 : Bool) : Option (Int × Bool) :=
  if y18 then
    words_decimal_k1 s_0 true
  else
    if decide ((s_0.size : Int) = 2) then
      (sidx s_0 0).bind fun b21 =>
      words_decimal_k1 s_0 (decide ((b21.toNat : Int) = 48))
    else
      words_decimal_k1 s_0 false

def words_decimal (s_0 : ByteArray) : Option (Int × Bool) :=
  if seq s_0 ByteArray.empty then
    words_decimal_k5 s_0 true
  else
    words_decimal_k5 s_0 (decide (2 < (s_0.size : Int)))

def words_reader_number (r_0 : Words_reader) : Option (Words_reader × Int) :=
  (words_reader_next r_0).bind fun r1 =>
  (words_decimal r1.2).bind fun r2 =>
  if r1.1.bad then
    some ((Words_reader.mk r1.1.words true), r2.1)
  else
    some ((Words_reader.mk r1.1.words (!r2.2)), r2.1)

def words_reader_text (r_0 : Words_reader) : Option (Words_reader × ByteArray) :=
  (words_reader_next r_0).bind fun r1 =>
  (strings_TrimPrefix r1.2 (ByteArray.mk #[34])).bind fun r2 =>
  if r1.1.bad then
    some ((Words_reader.mk r1.1.words true), r2)
  else
    some ((Words_reader.mk r1.1.words (decide (32 < (r2.size : Int)))), r2)

def words_reader_more (r_0 : Words_reader) : Option (Words_reader × Bool) :=
  if decide (0 < (r_0.words.length : Int)) then
    some (r_0, !r_0.bad)
  else
    some (r_0, false)

def words_reader_row_k2 (y1 : (List ByteArray) × Bool × (List Api_Range) × (List Int)) (y2 : (List ByteArray) × Bool × (List Int)) : Option (Words_reader × Api_Row) :=
  if y2.2.1 then
    some ((Words_reader.mk y2.1 true), (Api_Row.mk y1.2.2.1 y1.2.2.2 y2.2.2))
  else
    (wire_RowBytes (Api_Row.mk y1.2.2.1 y1.2.2.2 y2.2.2)).bind fun r4 =>
    some ((Words_reader.mk y2.1 (seq r4 ByteArray.empty)), (Api_Row.mk y1.2.2.1 y1.2.2.2 y2.2.2))

def words_reader_row_l3 (y1 : (List ByteArray) × Bool × (List Api_Range) × (List Int)) (again8 : (List ByteArray) × Bool × (List Int) → Option (Words_reader × Api_Row)) (v6 : (List ByteArray) × Bool × (List Int)) : Option (Words_reader × Api_Row) :=
  (words_reader_more (Words_reader.mk v6.1 v6.2.1)).bind fun r10 =>
  if r10.2 then
    (idx r10.1.words 0).bind fun x12 =>
    if seq x12 (ByteArray.mk #[45]) then
      (words_reader_next r10.1).bind fun r14 =>
      (app 8 v6.2.2 ([(-1)])).bind fun l15 =>
      again8 (r14.1.words, r14.1.bad, l15)
    else
      (words_reader_number r10.1).bind fun r16 =>
      (app 8 v6.2.2 ([r16.2])).bind fun l17 =>
      again8 (r16.1.words, r16.1.bad, l17)
  else
    words_reader_row_k2 y1 (r10.1.words, r10.1.bad, v6.2.2)

def words_reader_row_k1 (y1 : (List ByteArray) × Bool × (List Api_Range) × (List Int)) : Option (Words_reader × Api_Row) :=
  loopF (words_reader_row_l3 y1) FU (y1.1, y1.2.1, ([] : List Int))

def words_reader_row_k5 (again21 : ByteArray × (List ByteArray) × Bool × (List Api_Range) × (List Int) → Option (Words_reader × Api_Row)) (v19 : ByteArray × (List ByteArray) × Bool × (List Api_Range) × (List Int)) (l25 : (List Int)) (y26 : Bool × (List ByteArray) × Bool) : Option (Words_reader × Api_Row) :=
  if y26.1 then
    words_reader_row_k1 (y26.2.1, true, v19.2.2.2.1, l25)
  else
    (idx y26.2.1 0).bind fun x28 =>
    if seq x28 (ByteArray.mk #[47]) then
      (words_reader_next (Words_reader.mk y26.2.1 y26.2.2)).bind fun r30 =>
      (app 32 v19.2.2.2.1 ([(Api_Range.mk v19.1 ByteArray.empty)])).bind fun l31 =>
      words_reader_row_k1 (r30.1.words, r30.1.bad, l31, l25)
    else
      (words_reader_text (Words_reader.mk y26.2.1 y26.2.2)).bind fun r32 =>
      (app 32 v19.2.2.2.1 ([(Api_Range.mk v19.1 r32.2)])).bind fun l33 =>
      again21 (r32.2, r32.1.words, r32.1.bad, l33, l25)

def words_reader_row_l4 (again21 : ByteArray × (List ByteArray) × Bool × (List Api_Range) × (List Int) → Option (Words_reader × Api_Row)) (v19 : ByteArray × (List ByteArray) × Bool × (List Api_Range) × (List Int)) : Option (Words_reader × Api_Row) :=
  if !v19.2.2.1 then
    (words_reader_number (Words_reader.mk v19.2.1 v19.2.2.1)).bind fun r24 =>
    (app 8 v19.2.2.2.2 ([r24.2])).bind fun l25 =>
    if r24.1.bad then
      words_reader_row_k5 again21 v19 l25 (true, r24.1.words, r24.1.bad)
    else
      (words_reader_more r24.1).bind fun r36 =>
      words_reader_row_k5 again21 v19 l25 (!r36.2, r36.1.words, r36.1.bad)
  else
    words_reader_row_k1 (v19.2.1, v19.2.2.1, v19.2.2.2.1, v19.2.2.2.2)

def words_reader_row (r_0 : Words_reader) : Option (Words_reader × Api_Row) :=
  loopF (words_reader_row_l4) FU (ByteArray.empty, r_0.words, r_0.bad, ([] : List Api_Range), ([] : List Int))

def words_step_k4 (r3 : Int) (y5 : Int × Int × (List ByteArray) × Bool) (y6 : Int × Int × Int × Int × ByteArray × ByteArray × (List Api_Range) × (List Int) × (List Int) × (List ByteArray) × Bool × (List ByteArray)) (y7 : Bool) : Option (Api_Op × Bool) :=
  if y7 then
    some ((Api_Op.mk 0 0 0 0 0 0 ByteArray.empty ByteArray.empty ([] : (List ByteArray)) (Api_Row.mk ([] : (List Api_Range)) ([] : (List Int)) ([] : (List Int)))), false)
  else
    some ((Api_Op.mk r3 y5.1 y6.1 y6.2.1 y6.2.2.1 y6.2.2.2.1 y6.2.2.2.2.1 y6.2.2.2.2.2.1 y6.2.2.2.2.2.2.2.2.2.2.2 (Api_Row.mk y6.2.2.2.2.2.2.1 y6.2.2.2.2.2.2.2.1 y6.2.2.2.2.2.2.2.2.1)), true)

def words_step_k3 (r3 : Int) (y5 : Int × Int × (List ByteArray) × Bool) (y6 : Int × Int × Int × Int × ByteArray × ByteArray × (List Api_Range) × (List Int) × (List Int) × (List ByteArray) × Bool × (List ByteArray)) : Option (Api_Op × Bool) :=
  if y6.2.2.2.2.2.2.2.2.2.2.1 then
    words_step_k4 r3 y5 y6 true
  else
    words_step_k4 r3 y5 y6 (decide (0 < (y6.2.2.2.2.2.2.2.2.2.1.length : Int)))

def words_step_k6 (r3 : Int) (y5 : Int × Int × (List ByteArray) × Bool) (y21 : (List ByteArray) × Bool × (List ByteArray)) : Option (Api_Op × Bool) :=
  if y21.2.1 then
    words_step_k3 r3 y5 (y5.2.1, 0, 0, 0, ByteArray.empty, ByteArray.empty, ([] : (List Api_Range)), ([] : (List Int)), ([] : (List Int)), y21.1, true, y21.2.2)
  else
    words_step_k3 r3 y5 (y5.2.1, 0, 0, 0, ByteArray.empty, ByteArray.empty, ([] : (List Api_Range)), ([] : (List Int)), ([] : (List Int)), y21.1, decide (8 < (y21.2.2.length : Int)), y21.2.2)

def words_step_l7 (r3 : Int) (y5 : Int × Int × (List ByteArray) × Bool) (again26 : (List ByteArray) × Bool × (List ByteArray) → Option (Api_Op × Bool)) (v24 : (List ByteArray) × Bool × (List ByteArray)) : Option (Api_Op × Bool) :=
  (words_reader_more (Words_reader.mk v24.1 v24.2.1)).bind fun r28 =>
  if r28.2 then
    (words_reader_text r28.1).bind fun r30 =>
    (app 16 v24.2.2 ([r30.2])).bind fun l31 =>
    again26 (r30.1.words, r30.1.bad, l31)
  else
    words_step_k6 r3 y5 (r28.1.words, r28.1.bad, v24.2.2)

def words_step_k5 (r3 : Int) (y5 : Int × Int × (List ByteArray) × Bool) (y15 : Bool) : Option (Api_Op × Bool) :=
  if y15 then
    (words_reader_text (Words_reader.mk y5.2.2.1 y5.2.2.2)).bind fun r17 =>
    words_step_k3 r3 y5 (y5.2.1, 0, 0, 0, r17.2, ByteArray.empty, ([] : (List Api_Range)), ([] : (List Int)), ([] : (List Int)), r17.1.words, r17.1.bad, ([] : List ByteArray))
  else
    if decide (r3 = 5) then
      (words_reader_number (Words_reader.mk y5.2.2.1 y5.2.2.2)).bind fun r19 =>
      words_step_k3 r3 y5 (r19.2, 0, 0, 0, ByteArray.empty, ByteArray.empty, ([] : (List Api_Range)), ([] : (List Int)), ([] : (List Int)), r19.1.words, r19.1.bad, ([] : List ByteArray))
    else
      if decide (r3 = 6) then
        loopF (words_step_l7 r3 y5) FU (y5.2.2.1, y5.2.2.2, ([] : List ByteArray))
      else
        if decide (r3 = 8) then
          (words_reader_number (Words_reader.mk y5.2.2.1 y5.2.2.2)).bind fun r33 =>
          (words_reader_number r33.1).bind fun r34 =>
          (words_reader_number r34.1).bind fun r35 =>
          words_step_k3 r3 y5 (y5.2.1, r33.2, r34.2, r35.2, ByteArray.empty, ByteArray.empty, ([] : (List Api_Range)), ([] : (List Int)), ([] : (List Int)), r35.1.words, r35.1.bad, ([] : List ByteArray))
        else
          if decide (r3 = 9) then
            (words_reader_number (Words_reader.mk y5.2.2.1 y5.2.2.2)).bind fun r37 =>
            words_step_k3 r3 y5 (y5.2.1, r37.2, 0, 0, ByteArray.empty, ByteArray.empty, ([] : (List Api_Range)), ([] : (List Int)), ([] : (List Int)), r37.1.words, r37.1.bad, ([] : List ByteArray))
          else
            if decide (r3 = 12) then
              (words_reader_row (Words_reader.mk y5.2.2.1 y5.2.2.2)).bind fun r39 =>
              words_step_k3 r3 y5 (y5.2.1, 0, 0, 0, ByteArray.empty, ByteArray.empty, r39.2.Ranges, r39.2.Owners, r39.2.Parents, r39.1.words, r39.1.bad, ([] : List ByteArray))
            else
              words_step_k3 r3 y5 (y5.2.1, 0, 0, 0, ByteArray.empty, ByteArray.empty, ([] : (List Api_Range)), ([] : (List Int)), ([] : (List Int)), y5.2.2.1, y5.2.2.2, ([] : List ByteArray))

def words_step_k2 (r3 : Int) (y5 : Int × Int × (List ByteArray) × Bool) : Option (Api_Op × Bool) :=
  if decide (r3 = 1) then
    (words_reader_text (Words_reader.mk y5.2.2.1 y5.2.2.2)).bind fun r13 =>
    (words_reader_text r13.1).bind fun r14 =>
    words_step_k3 r3 y5 (y5.2.1, 0, 0, 0, r13.2, r14.2, ([] : (List Api_Range)), ([] : (List Int)), ([] : (List Int)), r14.1.words, r14.1.bad, ([] : List ByteArray))
  else
    if decide (r3 = 2) then
      words_step_k5 r3 y5 (decide (r3 = 2))
    else
      words_step_k5 r3 y5 (decide (r3 = 3))

def words_step_k8 (l1 : (List ByteArray)) (r3 : Int) (y45 : Bool) : Option (Api_Op × Bool) :=
  if y45 then
    (words_reader_number (Words_reader.mk l1 false)).bind fun r47 =>
    words_step_k2 r3 (0, r47.2, r47.1.words, r47.1.bad)
  else
    if decide (r3 = 0) then
      some ((Api_Op.mk 0 0 0 0 0 0 ByteArray.empty ByteArray.empty ([] : (List ByteArray)) (Api_Row.mk ([] : (List Api_Range)) ([] : (List Int)) ([] : (List Int)))), false)
    else
      words_step_k2 r3 (0, 0, l1, false)

def words_step_k1 (l1 : (List ByteArray)) (r3 : Int) (y4 : Bool) : Option (Api_Op × Bool) :=
  if y4 then
    (words_reader_number (Words_reader.mk l1 false)).bind fun r44 =>
    words_step_k2 r3 (r44.2, 0, r44.1.words, r44.1.bad)
  else
    if decide (r3 = 8) then
      words_step_k8 l1 r3 (decide (r3 = 8))
    else
      if decide (r3 = 9) then
        words_step_k8 l1 r3 (decide (r3 = 9))
      else
        words_step_k8 l1 r3 (decide (r3 = 10))

def words_step (w_0 : (List ByteArray)) : Option (Api_Op × Bool) :=
  (sub w_0 1 (w_0.length : Int)).bind fun l1 =>
  (idx w_0 0).bind fun x2 =>
  (words_kind x2).bind fun r3 =>
  if decide (r3 = 1) then
    words_step_k1 l1 r3 (decide (r3 = 1))
  else
    if decide (r3 = 2) then
      words_step_k1 l1 r3 (decide (r3 = 2))
    else
      if decide (r3 = 3) then
        words_step_k1 l1 r3 (decide (r3 = 3))
      else
        if decide (r3 = 4) then
          words_step_k1 l1 r3 (decide (r3 = 4))
        else
          if decide (r3 = 5) then
            words_step_k1 l1 r3 (decide (r3 = 5))
          else
            if decide (r3 = 6) then
              words_step_k1 l1 r3 (decide (r3 = 6))
            else
              words_step_k1 l1 r3 (decide (r3 = 7))

def words_Parse_k1 (y2 : (List Api_Op)) : Option ((List Api_Op) × Int) :=
  some (y2, 0)

def words_Parse_l2 (r1 : (List ByteArray)) (again6 : Int × (List Api_Op) → Option ((List Api_Op) × Int)) (v4 : Int × (List Api_Op)) : Option ((List Api_Op) × Int) :=
  if decide (v4.1 < (r1.length : Int)) then
    (idx r1 v4.1).bind fun x9 =>
    (words_silent x9).bind fun r10 =>
    if r10 then
      again6 (IntKind.wrap .i64 (v4.1 + 1), v4.2)
    else
      (words_Words x9).bind fun r12 =>
      if !r12.2 then
        some (([] : (List Api_Op)), IntKind.wrap .i64 (v4.1 + 1))
      else
        (words_step r12.1).bind fun r14 =>
        if !r14.2 then
          some (([] : (List Api_Op)), IntKind.wrap .i64 (v4.1 + 1))
        else
          (app 176 v4.2 ([r14.1])).bind fun l16 =>
          again6 (IntKind.wrap .i64 (v4.1 + 1), l16)
  else
    words_Parse_k1 v4.2

def words_Parse (s_0 : ByteArray) : Option ((List Api_Op) × Int) :=
  (strings_Split s_0 (ByteArray.mk #[10])).bind fun r1 =>
  loopF (words_Parse_l2 r1) FU (0, ([] : (List Api_Op)))

def words_small (n_0 : Int) : Option ByteArray :=
  if decide (n_0 < 10) then
    some (bytesOf ([IntKind.wrap .u8 (48 + (IntKind.wrap .u8 n_0))]))
  else
    some (bytesOf ([IntKind.wrap .u8 (48 + (IntKind.wrap .u8 (IntKind.wrap .i64 (Int.tdiv n_0 10)))), IntKind.wrap .u8 (48 + (IntKind.wrap .u8 (Int.tmod n_0 10)))]))

def words_Quote_k1 (y1 : (List Int)) : Option ByteArray :=
  (app 1 y1 ([34])).bind fun l2 =>
  some (bytesOf l2)

def words_Quote_l2 (s_0 : ByteArray) (again6 : Int × (List Int) → Option ByteArray) (v4 : Int × (List Int)) : Option ByteArray :=
  if decide (v4.1 < (s_0.size : Int)) then
    (sidx s_0 v4.1).bind fun b9 =>
    (words_plain (b9.toNat : Int)).bind fun r10 =>
    if r10 then
      (sidx s_0 v4.1).bind fun b12 =>
      (app 1 v4.2 ([(b12.toNat : Int)])).bind fun l13 =>
      again6 (IntKind.wrap .i64 (v4.1 + 1), l13)
    else
      (sidx s_0 v4.1).bind fun b14 =>
      (sidx (ByteArray.mk #[48, 49, 50, 51, 52, 53, 54, 55, 56, 57, 97, 98, 99, 100, 101, 102]) (IntKind.wrap .u8 (Int.tdiv (b14.toNat : Int) 16))).bind fun b15 =>
      (sidx s_0 v4.1).bind fun b16 =>
      (sidx (ByteArray.mk #[48, 49, 50, 51, 52, 53, 54, 55, 56, 57, 97, 98, 99, 100, 101, 102]) (Int.tmod (b16.toNat : Int) 16)).bind fun b17 =>
      (app 1 v4.2 ([92, (b15.toNat : Int), (b17.toNat : Int)])).bind fun l18 =>
      again6 (IntKind.wrap .i64 (v4.1 + 1), l18)
  else
    words_Quote_k1 v4.2

def words_Quote (s_0 : ByteArray) : Option ByteArray :=
  loopF (words_Quote_l2 s_0) FU (0, [34])

def words_put (line_0 : ByteArray) (words_1 : (List ByteArray)) : Option ByteArray :=
  (app 16 ([line_0]) words_1).bind fun l1 =>
  (strings_Join l1 (ByteArray.mk #[32])).bind fun r2 =>
  some r2

def words_rowLine_k2 (y3 : ByteArray) : Option ByteArray :=
  some y3

def words_rowLine_l3 (c_1 : Api_Row) (again7 : ByteArray × Int → Option ByteArray) (v5 : ByteArray × Int) : Option ByteArray :=
  if decide (v5.2 < (c_1.Parents.length : Int)) then
    (idx c_1.Parents v5.2).bind fun x10 =>
    if decide (x10 < 0) then
      (words_put v5.1 ([(ByteArray.mk #[45])])).bind fun r12 =>
      again7 (r12, IntKind.wrap .i64 (v5.2 + 1))
    else
      (words_small x10).bind fun r13 =>
      (words_put v5.1 ([r13])).bind fun r14 =>
      again7 (r14, IntKind.wrap .i64 (v5.2 + 1))
  else
    words_rowLine_k2 v5.1

def words_rowLine_k1 (c_1 : Api_Row) (y1 : ByteArray) : Option ByteArray :=
  (words_put y1 ([(ByteArray.mk #[47])])).bind fun r2 =>
  loopF (words_rowLine_l3 c_1) FU (r2, 0)

def words_rowLine_l4 (c_1 : Api_Row) (again18 : ByteArray × Int → Option ByteArray) (v16 : ByteArray × Int) : Option ByteArray :=
  if decide (v16.2 < (c_1.Owners.length : Int)) then
    (idx c_1.Owners v16.2).bind fun x21 =>
    (words_small x21).bind fun r22 =>
    (words_put v16.1 ([r22])).bind fun r23 =>
    if decide ((IntKind.wrap .i64 (v16.2 + 1)) < (c_1.Ranges.length : Int)) then
      (idx c_1.Ranges v16.2).bind fun x25 =>
      (words_Quote x25.To).bind fun r26 =>
      (words_put r23 ([r26])).bind fun r27 =>
      again18 (r27, IntKind.wrap .i64 (v16.2 + 1))
    else
      again18 (r23, IntKind.wrap .i64 (v16.2 + 1))
  else
    words_rowLine_k1 c_1 v16.1

def words_rowLine (s_0 : ByteArray) (c_1 : Api_Row) : Option ByteArray :=
  loopF (words_rowLine_l4 c_1) FU (s_0, 0)

def words_line_k1 (y2 : ByteArray) : Option ByteArray :=
  (scat y2 (ByteArray.mk #[10])).bind fun s3 =>
  some s3

def words_line_k4 (y26 : ByteArray) : Option ByteArray :=
  words_line_k1 y26

def words_line_l5 (o_0 : Api_Op) (again30 : ByteArray × Int → Option ByteArray) (v28 : ByteArray × Int) : Option ByteArray :=
  if decide (v28.2 < (o_0.Keys.length : Int)) then
    (idx o_0.Keys v28.2).bind fun x33 =>
    (words_Quote x33).bind fun r34 =>
    (words_put v28.1 ([r34])).bind fun r35 =>
    again30 (r35, IntKind.wrap .i64 (v28.2 + 1))
  else
    words_line_k4 v28.1

def words_line_k3 (o_0 : Api_Op) (r1 : ByteArray) (y15 : Bool) : Option ByteArray :=
  if y15 then
    (words_small o_0.Client).bind fun r17 =>
    (words_put r1 ([r17])).bind fun r18 =>
    words_line_k1 r18
  else
    if decide (o_0.Kind = 5) then
      (words_small o_0.Client).bind fun r20 =>
      (words_small o_0.Site).bind fun r21 =>
      (words_put r1 ([r20, r21])).bind fun r22 =>
      words_line_k1 r22
    else
      if decide (o_0.Kind = 6) then
        (words_small o_0.Client).bind fun r24 =>
        (words_put r1 ([r24])).bind fun r25 =>
        loopF (words_line_l5 o_0) FU (r25, 0)
      else
        if decide (o_0.Kind = 8) then
          (words_small o_0.Site).bind fun r37 =>
          (words_small o_0.To).bind fun r38 =>
          (words_small o_0.At).bind fun r39 =>
          (words_small o_0.How).bind fun r40 =>
          (words_put r1 ([r37, r38, r39, r40])).bind fun r41 =>
          words_line_k1 r41
        else
          if decide (o_0.Kind = 9) then
            (words_small o_0.Site).bind fun r43 =>
            (words_small o_0.To).bind fun r44 =>
            (words_put r1 ([r43, r44])).bind fun r45 =>
            words_line_k1 r45
          else
            if decide (o_0.Kind = 10) then
              (words_small o_0.Site).bind fun r47 =>
              (words_put r1 ([r47])).bind fun r48 =>
              words_line_k1 r48
            else
              if decide (o_0.Kind = 12) then
                (words_rowLine r1 o_0.Row).bind fun r50 =>
                words_line_k1 r50
              else
                words_line_k1 r1

def words_line_k2 (o_0 : Api_Op) (r1 : ByteArray) (y10 : Bool) : Option ByteArray :=
  if y10 then
    (words_small o_0.Client).bind fun r12 =>
    (words_Quote o_0.Key).bind fun r13 =>
    (words_put r1 ([r12, r13])).bind fun r14 =>
    words_line_k1 r14
  else
    if decide (o_0.Kind = 4) then
      words_line_k3 o_0 r1 (decide (o_0.Kind = 4))
    else
      words_line_k3 o_0 r1 (decide (o_0.Kind = 7))

def words_line (o_0 : Api_Op) : Option ByteArray :=
  (words_name o_0.Kind).bind fun r1 =>
  if decide (o_0.Kind = 1) then
    (words_small o_0.Client).bind fun r6 =>
    (words_Quote o_0.Key).bind fun r7 =>
    (words_Quote o_0.Value).bind fun r8 =>
    (words_put r1 ([r6, r7, r8])).bind fun r9 =>
    words_line_k1 r9
  else
    if decide (o_0.Kind = 2) then
      words_line_k2 o_0 r1 (decide (o_0.Kind = 2))
    else
      words_line_k2 o_0 r1 (decide (o_0.Kind = 3))

def words_same (a_0 : Api_Op) (b_1 : Api_Op) : Option Bool :=
  (script_Bytes ([a_0])).bind fun r1 =>
  (script_Bytes ([b_1])).bind fun r2 =>
  if seq r1 r2 then
    (slices_Equal_string a_0.Keys b_1.Keys).bind fun r4 =>
    some r4
  else
    some false

def words_Check_k1 (o_0 : Api_Op) (y1 : Bool) : Option Bool :=
  if y1 then
    some false
  else
    (words_line o_0).bind fun r3 =>
    (words_Parse r3).bind fun r4 =>
    if decide (r4.2 = 0) then
      if decide ((r4.1.length : Int) = 1) then
        (idx r4.1 0).bind fun x7 =>
        (words_same x7 o_0).bind fun r8 =>
        some r8
      else
        some false
    else
      some false

def words_Check (o_0 : Api_Op) : Option Bool :=
  (script_Check o_0).bind fun r10 =>
  if !r10 then
    words_Check_k1 o_0 true
  else
    words_Check_k1 o_0 ((decide ((o_0.Row.Ranges.length : Int) = 0)) == (decide (o_0.Kind = 12)))

def words_Text_k1 (y1 : ByteArray) : Option ByteArray :=
  (bld_String y1).bind fun r2 =>
  some r2

def words_Text_l2 (l_0 : (List Api_Op)) (again6 : Int × ByteArray → Option ByteArray) (v4 : Int × ByteArray) : Option ByteArray :=
  if decide (v4.1 < (l_0.length : Int)) then
    (idx l_0 v4.1).bind fun x9 =>
    (words_Check x9).bind fun r10 =>
    if !r10 then
      some ByteArray.empty
    else
      (words_line x9).bind fun r12 =>
      (bld_WriteString v4.2 r12).bind fun r13 =>
      again6 (IntKind.wrap .i64 (v4.1 + 1), r13)
  else
    words_Text_k1 v4.2

def words_Text (l_0 : (List Api_Op)) : Option ByteArray :=
  loopF (words_Text_l2 l_0) FU (0, ByteArray.empty)
end Go.Ark

/- Typed functions, printed by a program of mine out of the translated code. -/
namespace Go.Ark
open Go Go.Ab

def ref01_Number_b (again0 : Int → Option ByteArray) (n_0 : Int) : Option ByteArray :=
  if decide (n_0 < 128) then
    some (bytesOf ([IntKind.wrap .u8 n_0]))
  else
    (again0 (IntKind.wrap .u64 (Int.tdiv n_0 128))).bind fun r2 =>
    (scat (bytesOf ([IntKind.wrap .u8 (IntKind.wrap .u64 (128 + (Int.tmod n_0 128)))])) r2).bind fun s3 =>
    some s3

def ref01_Number (n_0 : Int) : Option ByteArray := loopF (fun again0 v0 => ref01_Number_b again0 v0) FU n_0

def ref01_Text (s_0 : ByteArray) : Option ByteArray :=
  (ref01_Number (IntKind.wrap .u64 (s_0.size : Int))).bind fun r1 =>
  (scat r1 s_0).bind fun s2 =>
  some s2
end Go.Ark

/- Typed functions, printed by a program of mine out of the translated code. -/
namespace Go.Ark
open Go Go.Ab

def ref02_long_k2 (c_0 : Int) (y4 : Bool) : Option Int :=
  if y4 then
    some 3
  else
    if decide (240 ≤ c_0) then
      if decide (c_0 ≤ 244) then
        some 4
      else
        some 0
    else
      some 0

def ref02_long_k1 (c_0 : Int) (y2 : Bool) : Option Int :=
  if y2 then
    some 2
  else
    if decide (224 ≤ c_0) then
      ref02_long_k2 c_0 (decide (c_0 ≤ 239))
    else
      ref02_long_k2 c_0 false

def ref02_long (c_0 : Int) : Option Int :=
  if decide (c_0 < 128) then
    some 1
  else
    if decide (194 ≤ c_0) then
      ref02_long_k1 c_0 (decide (c_0 ≤ 223))
    else
      ref02_long_k1 c_0 false

def ref02_Runes_k1 (y1 : Int) : Option Int :=
  some y1

def ref02_Runes_k5 (again5 : Int × Int → Option Int) (v3 : Int × Int) (r9 : Int) (y13 : Bool) : Option Int :=
  if y13 then
    some (-1)
  else
    again5 (IntKind.wrap .i64 (v3.1 + 1), IntKind.wrap .i64 (v3.2 + r9))

def ref02_Runes_k8 (s_0 : ByteArray) (again5 : Int × Int → Option Int) (v3 : Int × Int) (r9 : Int) (y19 : Bool) : Option Int :=
  if y19 then
    ref02_Runes_k5 again5 v3 r9 true
  else
    (sidx s_0 v3.2).bind fun b21 =>
    if decide ((b21.toNat : Int) = 244) then
      (sidx s_0 (IntKind.wrap .i64 (v3.2 + 1))).bind fun b23 =>
      ref02_Runes_k5 again5 v3 r9 (decide (143 < (b23.toNat : Int)))
    else
      ref02_Runes_k5 again5 v3 r9 false

def ref02_Runes_k7 (s_0 : ByteArray) (again5 : Int × Int → Option Int) (v3 : Int × Int) (r9 : Int) (y18 : Bool) : Option Int :=
  if y18 then
    ref02_Runes_k8 s_0 again5 v3 r9 true
  else
    (sidx s_0 v3.2).bind fun b26 =>
    if decide ((b26.toNat : Int) = 240) then
      (sidx s_0 (IntKind.wrap .i64 (v3.2 + 1))).bind fun b28 =>
      ref02_Runes_k8 s_0 again5 v3 r9 (decide ((b28.toNat : Int) < 144))
    else
      ref02_Runes_k8 s_0 again5 v3 r9 false

def ref02_Runes_k6 (s_0 : ByteArray) (again5 : Int × Int → Option Int) (v3 : Int × Int) (r9 : Int) (y17 : Bool) : Option Int :=
  if y17 then
    ref02_Runes_k7 s_0 again5 v3 r9 true
  else
    (sidx s_0 v3.2).bind fun b31 =>
    if decide ((b31.toNat : Int) = 237) then
      (sidx s_0 (IntKind.wrap .i64 (v3.2 + 1))).bind fun b33 =>
      ref02_Runes_k7 s_0 again5 v3 r9 (decide (159 < (b33.toNat : Int)))
    else
      ref02_Runes_k7 s_0 again5 v3 r9 false

def ref02_Runes_k4 (s_0 : ByteArray) (again5 : Int × Int → Option Int) (v3 : Int × Int) (r9 : Int) (_y12 : Unit) : Option Int :=
  (sidx s_0 v3.2).bind fun b16 =>
  if decide ((b16.toNat : Int) = 224) then
    (sidx s_0 (IntKind.wrap .i64 (v3.2 + 1))).bind fun b36 =>
    ref02_Runes_k6 s_0 again5 v3 r9 (decide ((b36.toNat : Int) < 160))
  else
    ref02_Runes_k6 s_0 again5 v3 r9 false

def ref02_Runes_l9 (s_0 : ByteArray) (again5 : Int × Int → Option Int) (v3 : Int × Int) (r9 : Int) (again40 : Int → Option Int) (v38 : Int) : Option Int :=
  if decide (v38 < r9) then
    (sidx s_0 (IntKind.wrap .i64 (v3.2 + v38))).bind fun b43 =>
    if decide ((b43.toNat : Int) < 128) then
      some (-1)
    else
      (sidx s_0 (IntKind.wrap .i64 (v3.2 + v38))).bind fun b45 =>
      if decide (191 < (b45.toNat : Int)) then
        some (-1)
      else
        again40 (IntKind.wrap .i64 (v38 + 1))
  else
    ref02_Runes_k4 s_0 again5 v3 r9 ()

def ref02_Runes_k3 (s_0 : ByteArray) (again5 : Int × Int → Option Int) (v3 : Int × Int) (r9 : Int) (y10 : Bool) : Option Int :=
  if y10 then
    some (-1)
  else
    loopF (ref02_Runes_l9 s_0 again5 v3 r9) FU 1

def ref02_Runes_l2 (s_0 : ByteArray) (again5 : Int × Int → Option Int) (v3 : Int × Int) : Option Int :=
  if decide (v3.2 < (s_0.size : Int)) then
    (sidx s_0 v3.2).bind fun b8 =>
    (ref02_long (b8.toNat : Int)).bind fun r9 =>
    if decide (r9 = 0) then
      ref02_Runes_k3 s_0 again5 v3 r9 true
    else
      ref02_Runes_k3 s_0 again5 v3 r9 (decide ((IntKind.wrap .i64 ((s_0.size : Int) - v3.2)) < r9))
  else
    ref02_Runes_k1 v3.1

def ref02_Runes (s_0 : ByteArray) : Option Int :=
  loopF (ref02_Runes_l2 s_0) FU (0, 0)

def ref02_Check_k1 (r1 : Int) (_y2 : Unit) : Option Bool :=
  if decide (1 ≤ r1) then
    some (decide (r1 ≤ 8))
  else
    some false

def ref02_Check_l2 (s_0 : ByteArray) (r1 : Int) (again7 : Int → Option Bool) (v5 : Int) : Option Bool :=
  if decide (v5 < (s_0.size : Int)) then
    (sidx s_0 v5).bind fun b10 =>
    if decide ((b10.toNat : Int) < 33) then
      some false
    else
      again7 (IntKind.wrap .i64 (v5 + 1))
  else
    ref02_Check_k1 r1 ()

def ref02_Check (s_0 : ByteArray) : Option Bool :=
  (ref02_Runes s_0).bind fun r1 =>
  loopF (ref02_Check_l2 s_0 r1) FU 0

def ref02_Good_k2 (r_0 : Api_Range) (y4 : Bool) : Option Bool :=
  if y4 then
    if seq r_0.To ByteArray.empty then
      some true
    else
      some (slt r_0.From r_0.To)
  else
    some false

def ref02_Good_k1 (r_0 : Api_Range) (r2 : Bool) (y3 : Bool) : Option Bool :=
  if y3 then
    if seq r_0.To ByteArray.empty then
      ref02_Good_k2 r_0 true
    else
      ref02_Good_k2 r_0 r2
  else
    ref02_Good_k2 r_0 false

def ref02_Good (r_0 : Api_Range) : Option Bool :=
  (ref02_Check r_0.From).bind fun r1 =>
  (ref02_Check r_0.To).bind fun r2 =>
  if seq r_0.From ByteArray.empty then
    ref02_Good_k1 r_0 r2 true
  else
    ref02_Good_k1 r_0 r2 r1

def ref02_Whole_k1 (l_0 : (List Api_Range)) (_y1 : Unit) : Option Bool :=
  if decide (0 < (l_0.length : Int)) then
    (idx l_0 (IntKind.wrap .i64 ((l_0.length : Int) - 1))).bind fun x3 =>
    some (seq x3.To ByteArray.empty)
  else
    some false

def ref02_Whole_l2 (l_0 : (List Api_Range)) (again7 : Int → Option Bool) (v5 : Int) : Option Bool :=
  if decide (v5 < (l_0.length : Int)) then
    (idx l_0 v5).bind fun x10 =>
    (ref02_Good x10).bind fun r11 =>
    if !r11 then
      some false
    else
      if decide (v5 = 0) then
        (idx l_0 v5).bind fun x14 =>
        if !seq x14.From ByteArray.empty then
          some false
        else
          if decide (0 < v5) then
            (idx l_0 v5).bind fun x17 =>
            (idx l_0 (IntKind.wrap .i64 (v5 - 1))).bind fun x18 =>
            if !seq x17.From x18.To then
              some false
            else
              (idx l_0 v5).bind fun x20 =>
              if seq x20.From ByteArray.empty then
                some false
              else
                again7 (IntKind.wrap .i64 (v5 + 1))
          else
            again7 (IntKind.wrap .i64 (v5 + 1))
      else
        if decide (0 < v5) then
          (idx l_0 v5).bind fun x23 =>
          (idx l_0 (IntKind.wrap .i64 (v5 - 1))).bind fun x24 =>
          if !seq x23.From x24.To then
            some false
          else
            (idx l_0 v5).bind fun x26 =>
            if seq x26.From ByteArray.empty then
              some false
            else
              again7 (IntKind.wrap .i64 (v5 + 1))
        else
          again7 (IntKind.wrap .i64 (v5 + 1))
  else
    ref02_Whole_k1 l_0 ()

def ref02_Whole (l_0 : (List Api_Range)) : Option Bool :=
  loopF (ref02_Whole_l2 l_0) FU 0
end Go.Ark

/- Typed functions, printed by a program of mine out of the translated code. -/
namespace Go.Ark
open Go Go.Ab

def ref06_RowBytes_k3 (y6 : ByteArray) : Option ByteArray :=
  some y6

def ref06_RowBytes_l4 (c_0 : Api_Row) (again10 : ByteArray × Int → Option ByteArray) (v8 : ByteArray × Int) : Option ByteArray :=
  if decide (v8.2 < (c_0.Parents.length : Int)) then
    (idx c_0.Parents v8.2).bind fun x13 =>
    (ref01_Number (IntKind.wrap .u64 (IntKind.wrap .i64 (x13 + 1)))).bind fun r14 =>
    (scat v8.1 r14).bind fun s15 =>
    again10 (s15, IntKind.wrap .i64 (v8.2 + 1))
  else
    ref06_RowBytes_k3 v8.1

def ref06_RowBytes_k2 (c_0 : Api_Row) (y3 : ByteArray) : Option ByteArray :=
  (ref01_Number (IntKind.wrap .u64 (c_0.Parents.length : Int))).bind fun r4 =>
  (scat y3 r4).bind fun s5 =>
  loopF (ref06_RowBytes_l4 c_0) FU (s5, 0)

def ref06_RowBytes_l5 (c_0 : Api_Row) (again19 : ByteArray × Int → Option ByteArray) (v17 : ByteArray × Int) : Option ByteArray :=
  if decide (v17.2 < (c_0.Ranges.length : Int)) then
    (idx c_0.Owners v17.2).bind fun x22 =>
    (ref01_Number (IntKind.wrap .u64 x22)).bind fun r23 =>
    (scat v17.1 r23).bind fun s24 =>
    again19 (s24, IntKind.wrap .i64 (v17.2 + 1))
  else
    ref06_RowBytes_k2 c_0 v17.1

def ref06_RowBytes_k1 (c_0 : Api_Row) (y2 : ByteArray) : Option ByteArray :=
  loopF (ref06_RowBytes_l5 c_0) FU (y2, 0)

def ref06_RowBytes_l6 (c_0 : Api_Row) (again28 : ByteArray × Int → Option ByteArray) (v26 : ByteArray × Int) : Option ByteArray :=
  if decide ((IntKind.wrap .i64 (v26.2 + 1)) < (c_0.Ranges.length : Int)) then
    (idx c_0.Ranges v26.2).bind fun x31 =>
    (ref01_Text x31.To).bind fun r32 =>
    (scat v26.1 r32).bind fun s33 =>
    again28 (s33, IntKind.wrap .i64 (v26.2 + 1))
  else
    ref06_RowBytes_k1 c_0 v26.1

def ref06_RowBytes (c_0 : Api_Row) : Option ByteArray :=
  (ref01_Number (IntKind.wrap .u64 (c_0.Ranges.length : Int))).bind fun r1 =>
  loopF (ref06_RowBytes_l6 c_0) FU (r1, 0)

def ref06_RowCheck_k4 (_y6 : Unit) : Option Bool :=
  some true

def ref06_RowCheck_l5 (c_0 : Api_Row) (again10 : Int → Option Bool) (v8 : Int) : Option Bool :=
  if decide (v8 < (c_0.Parents.length : Int)) then
    (idx c_0.Parents v8).bind fun x13 =>
    if decide (x13 < (-1)) then
      some false
    else
      (idx c_0.Parents v8).bind fun x15 =>
      if decide (5 < x15) then
        some false
      else
        again10 (IntKind.wrap .i64 (v8 + 1))
  else
    ref06_RowCheck_k4 ()

def ref06_RowCheck_k3 (c_0 : Api_Row) (_y5 : Unit) : Option Bool :=
  loopF (ref06_RowCheck_l5 c_0) FU 0

def ref06_RowCheck_l6 (c_0 : Api_Row) (y4 : Int) (again20 : Int → Option Bool) (v18 : Int) : Option Bool :=
  if decide (v18 < (c_0.Owners.length : Int)) then
    (idx c_0.Owners v18).bind fun x23 =>
    if decide (x23 < 1) then
      some false
    else
      (idx c_0.Owners v18).bind fun x25 =>
      if decide (y4 ≤ x25) then
        some false
      else
        again20 (IntKind.wrap .i64 (v18 + 1))
  else
    ref06_RowCheck_k3 c_0 ()

def ref06_RowCheck_k2 (c_0 : Api_Row) (y4 : Int) : Option Bool :=
  loopF (ref06_RowCheck_l6 c_0 y4) FU 0

def ref06_RowCheck_l7 (c_0 : Api_Row) (again30 : Int × Int → Option Bool) (v28 : Int × Int) : Option Bool :=
  if decide (v28.2 < (c_0.Parents.length : Int)) then
    again30 (IntKind.wrap .i64 (v28.1 * 2), IntKind.wrap .i64 (v28.2 + 1))
  else
    ref06_RowCheck_k2 c_0 v28.1

def ref06_RowCheck_k1 (c_0 : Api_Row) (y2 : Bool) : Option Bool :=
  if y2 then
    some false
  else
    loopF (ref06_RowCheck_l7 c_0) FU (1, 0)

def ref06_RowCheck_k9 (c_0 : Api_Row) (y35 : Bool) : Option Bool :=
  if y35 then
    ref06_RowCheck_k1 c_0 true
  else
    if decide ((c_0.Parents.length : Int) < 1) then
      ref06_RowCheck_k1 c_0 true
    else
      ref06_RowCheck_k1 c_0 (decide (6 < (c_0.Parents.length : Int)))

def ref06_RowCheck_k8 (c_0 : Api_Row) (y34 : Bool) : Option Bool :=
  if y34 then
    ref06_RowCheck_k9 c_0 true
  else
    ref06_RowCheck_k9 c_0 (!decide ((c_0.Owners.length : Int) = (c_0.Ranges.length : Int)))

def ref06_RowCheck (c_0 : Api_Row) : Option Bool :=
  (ref02_Whole c_0.Ranges).bind fun r1 =>
  if !r1 then
    ref06_RowCheck_k8 c_0 true
  else
    ref06_RowCheck_k8 c_0 (decide (8 < (c_0.Ranges.length : Int)))
end Go.Ark

/- Typed functions, printed by a program of mine out of the translated code. -/
namespace Go.Ark
open Go Go.Ab

def ref22_one_k2 (o_0 : Api_Op) (y8 : ByteArray) : Option ByteArray :=
  if decide ((o_0.Row.Ranges.length : Int) = 0) then
    (ref01_Text ByteArray.empty).bind fun r10 =>
    (scat y8 r10).bind fun s11 =>
    some s11
  else
    (ref06_RowBytes o_0.Row).bind fun r12 =>
    (ref01_Text r12).bind fun r13 =>
    (scat y8 r13).bind fun s14 =>
    some s14

def ref22_one_l3 (o_0 : Api_Op) (again18 : ByteArray × Int → Option ByteArray) (v16 : ByteArray × Int) : Option ByteArray :=
  if decide (v16.2 < (o_0.Keys.length : Int)) then
    (idx o_0.Keys v16.2).bind fun x21 =>
    (ref01_Text x21).bind fun r22 =>
    (scat v16.1 r22).bind fun s23 =>
    again18 (s23, IntKind.wrap .i64 (v16.2 + 1))
  else
    ref22_one_k2 o_0 v16.1

def ref22_one_k1 (o_0 : Api_Op) (y1 : ByteArray) : Option ByteArray :=
  (ref01_Text o_0.Key).bind fun r2 =>
  (scat y1 r2).bind fun s3 =>
  (ref01_Text o_0.Value).bind fun r4 =>
  (scat s3 r4).bind fun s5 =>
  (ref01_Number (IntKind.wrap .u64 (o_0.Keys.length : Int))).bind fun r6 =>
  (scat s5 r6).bind fun s7 =>
  loopF (ref22_one_l3 o_0) FU (s7, 0)

def ref22_one_l4 (o_0 : Api_Op) (again27 : ByteArray × Int → Option ByteArray) (v25 : ByteArray × Int) : Option ByteArray :=
  if decide (v25.2 < 6) then
    (aidx 6 ([o_0.Kind, o_0.Client, o_0.Site, o_0.To, o_0.At, o_0.How]) v25.2).bind fun x30 =>
    (ref01_Number (IntKind.wrap .u64 x30)).bind fun r31 =>
    (scat v25.1 r31).bind fun s32 =>
    again27 (s32, IntKind.wrap .i64 (v25.2 + 1))
  else
    ref22_one_k1 o_0 v25.1

def ref22_one (o_0 : Api_Op) : Option ByteArray :=
  loopF (ref22_one_l4 o_0) FU (ByteArray.empty, 0)

def ref22_SameOp (a_0 : Api_Op) (b_1 : Api_Op) : Option Bool :=
  (ref22_one a_0).bind fun r1 =>
  (ref22_one b_1).bind fun r2 =>
  some (seq r1 r2)

def ref22_row (c_0 : Api_Row) : Option Bool :=
  if decide ((IntKind.wrap .i64 ((IntKind.wrap .i64 ((c_0.Ranges.length : Int) + (c_0.Owners.length : Int))) + (c_0.Parents.length : Int))) = 0) then
    some true
  else
    (ref06_RowCheck c_0).bind fun r2 =>
    some r2

def ref22_Check_k6 (o_0 : Api_Op) (y7 : Bool) : Option Bool :=
  if y7 then
    some (decide ((o_0.Keys.length : Int) ≤ 8))
  else
    some false

def ref22_Check_k5 (o_0 : Api_Op) (y6 : Bool) : Option Bool :=
  if y6 then
    ref22_Check_k6 o_0 (decide ((o_0.Value.size : Int) ≤ 32))
  else
    ref22_Check_k6 o_0 false

def ref22_Check_k4 (o_0 : Api_Op) (y5 : Bool) : Option Bool :=
  if y5 then
    ref22_Check_k5 o_0 (decide ((o_0.Key.size : Int) ≤ 32))
  else
    ref22_Check_k5 o_0 false

def ref22_Check_k3 (o_0 : Api_Op) (y4 : Bool) : Option Bool :=
  if y4 then
    ref22_Check_k4 o_0 (decide (o_0.Kind ≤ 12))
  else
    ref22_Check_k4 o_0 false

def ref22_Check_k2 (o_0 : Api_Op) (_y2 : Unit) : Option Bool :=
  (ref22_row o_0.Row).bind fun r3 =>
  if r3 then
    ref22_Check_k3 o_0 (decide (1 ≤ o_0.Kind))
  else
    ref22_Check_k3 o_0 false

def ref22_Check_l7 (o_0 : Api_Op) (again20 : Int → Option Bool) (v18 : Int) : Option Bool :=
  if decide (v18 < (o_0.Keys.length : Int)) then
    (idx o_0.Keys v18).bind fun x23 =>
    if decide (32 < (x23.size : Int)) then
      some false
    else
      again20 (IntKind.wrap .i64 (v18 + 1))
  else
    ref22_Check_k2 o_0 ()

def ref22_Check_k1 (o_0 : Api_Op) (_y1 : Unit) : Option Bool :=
  loopF (ref22_Check_l7 o_0) FU 0

def ref22_Check_l8 (o_0 : Api_Op) (again28 : Int → Option Bool) (v26 : Int) : Option Bool :=
  if decide (v26 < 5) then
    (aidx 5 ([o_0.Client, o_0.Site, o_0.To, o_0.At, o_0.How]) v26).bind fun x31 =>
    if decide (x31 < 0) then
      some false
    else
      (aidx 5 ([o_0.Client, o_0.Site, o_0.To, o_0.At, o_0.How]) v26).bind fun x33 =>
      if decide (63 < x33) then
        some false
      else
        again28 (IntKind.wrap .i64 (v26 + 1))
  else
    ref22_Check_k1 o_0 ()

def ref22_Check (o_0 : Api_Op) : Option Bool :=
  loopF (ref22_Check_l8 o_0) FU 0
end Go.Ark

/- Typed functions, printed by a program of mine out of the translated code. -/
namespace Go.Ark
open Go Go.Ab

def ref24_names : Option (List ByteArray) :=
  some ([ByteArray.empty, (ByteArray.mk #[112, 117, 116]), (ByteArray.mk #[100, 101, 108]), (ByteArray.mk #[103, 101, 116]), (ByteArray.mk #[108, 101, 97, 118, 101]), (ByteArray.mk #[101, 110, 116, 101, 114]), (ByteArray.mk #[98, 101, 103, 105, 110]), (ByteArray.mk #[101, 110, 100]), (ByteArray.mk #[112, 105, 99, 107]), (ByteArray.mk #[97, 103, 97, 105, 110]), (ByteArray.mk #[115, 116, 101, 112]), (ByteArray.mk #[99, 108, 101, 97, 110]), (ByteArray.mk #[114, 111, 119])])

def ref24_small (n_0 : Int) : Option ByteArray :=
  if decide (n_0 < 10) then
    some (bytesOf ([IntKind.wrap .u8 (IntKind.wrap .i64 (48 + n_0))]))
  else
    some (bytesOf ([IntKind.wrap .u8 (IntKind.wrap .i64 (48 + (Int.tmod (IntKind.wrap .i64 (Int.tdiv n_0 10)) 10))), IntKind.wrap .u8 (IntKind.wrap .i64 (48 + (Int.tmod n_0 10)))]))

def ref24_plain_k1 (c_0 : Int) (y1 : Bool) : Option Bool :=
  if y1 then
    if !decide (c_0 = 34) then
      some (!decide (c_0 = 92))
    else
      some false
  else
    some false

def ref24_plain (c_0 : Int) : Option Bool :=
  if decide (32 ≤ c_0) then
    ref24_plain_k1 c_0 (decide (c_0 ≤ 126))
  else
    ref24_plain_k1 c_0 false

def ref24_Quote_k1 (y1 : ByteArray) : Option ByteArray :=
  (scat y1 (ByteArray.mk #[34])).bind fun s2 =>
  some s2

def ref24_Quote_l2 (s_0 : ByteArray) (again6 : ByteArray × Int → Option ByteArray) (v4 : ByteArray × Int) : Option ByteArray :=
  if decide (v4.2 < (s_0.size : Int)) then
    (sidx s_0 v4.2).bind fun b9 =>
    (ref24_plain (b9.toNat : Int)).bind fun r10 =>
    if r10 then
      (ssub s_0 v4.2 (IntKind.wrap .i64 (v4.2 + 1))).bind fun s12 =>
      (scat v4.1 s12).bind fun s13 =>
      again6 (s13, IntKind.wrap .i64 (v4.2 + 1))
    else
      (scat v4.1 (ByteArray.mk #[92])).bind fun s14 =>
      (ssub (ByteArray.mk #[48, 49, 50, 51, 52, 53, 54, 55, 56, 57, 97, 98, 99, 100, 101, 102]) (IntKind.wrap .u8 (Int.tdiv (b9.toNat : Int) 16)) (IntKind.wrap .u8 ((IntKind.wrap .u8 (Int.tdiv (b9.toNat : Int) 16)) + 1))).bind fun s15 =>
      (scat s14 s15).bind fun s16 =>
      (ssub (ByteArray.mk #[48, 49, 50, 51, 52, 53, 54, 55, 56, 57, 97, 98, 99, 100, 101, 102]) (Int.tmod (b9.toNat : Int) 16) (IntKind.wrap .u8 ((Int.tmod (b9.toNat : Int) 16) + 1))).bind fun s17 =>
      (scat s16 s17).bind fun s18 =>
      again6 (s18, IntKind.wrap .i64 (v4.2 + 1))
  else
    ref24_Quote_k1 v4.1

def ref24_Quote (s_0 : ByteArray) : Option ByteArray :=
  loopF (ref24_Quote_l2 s_0) FU ((ByteArray.mk #[34]), 0)

def ref24_line_k1 (y3 : ByteArray) : Option ByteArray :=
  (scat y3 (ByteArray.mk #[10])).bind fun s4 =>
  some s4

def ref24_line_k4 (y40 : ByteArray) : Option ByteArray :=
  ref24_line_k1 y40

def ref24_line_l5 (o_0 : Api_Op) (again44 : ByteArray × Int → Option ByteArray) (v42 : ByteArray × Int) : Option ByteArray :=
  if decide (v42.2 < (o_0.Keys.length : Int)) then
    (scat v42.1 (ByteArray.mk #[32])).bind fun s47 =>
    (idx o_0.Keys v42.2).bind fun x48 =>
    (ref24_Quote x48).bind fun r49 =>
    (scat s47 r49).bind fun s50 =>
    again44 (s50, IntKind.wrap .i64 (v42.2 + 1))
  else
    ref24_line_k4 v42.1

def ref24_line_k7 (y78 : ByteArray) : Option ByteArray :=
  ref24_line_k1 y78

def ref24_line_l8 (o_0 : Api_Op) (again82 : ByteArray × Int → Option ByteArray) (v80 : ByteArray × Int) : Option ByteArray :=
  if decide (v80.2 < (o_0.Row.Parents.length : Int)) then
    (idx o_0.Row.Parents v80.2).bind fun x85 =>
    if decide (x85 < 0) then
      (scat v80.1 (ByteArray.mk #[32, 45])).bind fun s87 =>
      again82 (s87, IntKind.wrap .i64 (v80.2 + 1))
    else
      (scat v80.1 (ByteArray.mk #[32])).bind fun s88 =>
      (idx o_0.Row.Parents v80.2).bind fun x89 =>
      (ref24_small x89).bind fun r90 =>
      (scat s88 r90).bind fun s91 =>
      again82 (s91, IntKind.wrap .i64 (v80.2 + 1))
  else
    ref24_line_k7 v80.1

def ref24_line_k6 (o_0 : Api_Op) (y76 : ByteArray) : Option ByteArray :=
  (scat y76 (ByteArray.mk #[32, 47])).bind fun s77 =>
  loopF (ref24_line_l8 o_0) FU (s77, 0)

def ref24_line_l9 (o_0 : Api_Op) (again95 : ByteArray × Int → Option ByteArray) (v93 : ByteArray × Int) : Option ByteArray :=
  if decide (v93.2 < (o_0.Row.Owners.length : Int)) then
    (scat v93.1 (ByteArray.mk #[32])).bind fun s98 =>
    (idx o_0.Row.Owners v93.2).bind fun x99 =>
    (ref24_small x99).bind fun r100 =>
    (scat s98 r100).bind fun s101 =>
    if decide ((IntKind.wrap .i64 (v93.2 + 1)) < (o_0.Row.Owners.length : Int)) then
      (scat s101 (ByteArray.mk #[32])).bind fun s103 =>
      (idx o_0.Row.Ranges v93.2).bind fun x104 =>
      (ref24_Quote x104.To).bind fun r105 =>
      (scat s103 r105).bind fun s106 =>
      again95 (s106, IntKind.wrap .i64 (v93.2 + 1))
    else
      again95 (s101, IntKind.wrap .i64 (v93.2 + 1))
  else
    ref24_line_k6 o_0 v93.1

def ref24_line_k3 (o_0 : Api_Op) (x2 : ByteArray) (y24 : Bool) : Option ByteArray :=
  if y24 then
    (scat x2 (ByteArray.mk #[32])).bind fun s26 =>
    (ref24_small o_0.Client).bind fun r27 =>
    (scat s26 r27).bind fun s28 =>
    ref24_line_k1 s28
  else
    if decide (o_0.Kind = 5) then
      (scat x2 (ByteArray.mk #[32])).bind fun s30 =>
      (ref24_small o_0.Client).bind fun r31 =>
      (scat s30 r31).bind fun s32 =>
      (scat s32 (ByteArray.mk #[32])).bind fun s33 =>
      (ref24_small o_0.Site).bind fun r34 =>
      (scat s33 r34).bind fun s35 =>
      ref24_line_k1 s35
    else
      if decide (o_0.Kind = 6) then
        (scat x2 (ByteArray.mk #[32])).bind fun s37 =>
        (ref24_small o_0.Client).bind fun r38 =>
        (scat s37 r38).bind fun s39 =>
        loopF (ref24_line_l5 o_0) FU (s39, 0)
      else
        if decide (o_0.Kind = 8) then
          (scat x2 (ByteArray.mk #[32])).bind fun s52 =>
          (ref24_small o_0.Site).bind fun r53 =>
          (scat s52 r53).bind fun s54 =>
          (scat s54 (ByteArray.mk #[32])).bind fun s55 =>
          (ref24_small o_0.To).bind fun r56 =>
          (scat s55 r56).bind fun s57 =>
          (scat s57 (ByteArray.mk #[32])).bind fun s58 =>
          (ref24_small o_0.At).bind fun r59 =>
          (scat s58 r59).bind fun s60 =>
          (scat s60 (ByteArray.mk #[32])).bind fun s61 =>
          (ref24_small o_0.How).bind fun r62 =>
          (scat s61 r62).bind fun s63 =>
          ref24_line_k1 s63
        else
          if decide (o_0.Kind = 9) then
            (scat x2 (ByteArray.mk #[32])).bind fun s65 =>
            (ref24_small o_0.Site).bind fun r66 =>
            (scat s65 r66).bind fun s67 =>
            (scat s67 (ByteArray.mk #[32])).bind fun s68 =>
            (ref24_small o_0.To).bind fun r69 =>
            (scat s68 r69).bind fun s70 =>
            ref24_line_k1 s70
          else
            if decide (o_0.Kind = 10) then
              (scat x2 (ByteArray.mk #[32])).bind fun s72 =>
              (ref24_small o_0.Site).bind fun r73 =>
              (scat s72 r73).bind fun s74 =>
              ref24_line_k1 s74
            else
              if decide (o_0.Kind = 12) then
                loopF (ref24_line_l9 o_0) FU (x2, 0)
              else
                ref24_line_k1 x2

def ref24_line_k2 (o_0 : Api_Op) (x2 : ByteArray) (y16 : Bool) : Option ByteArray :=
  if y16 then
    (scat x2 (ByteArray.mk #[32])).bind fun s18 =>
    (ref24_small o_0.Client).bind fun r19 =>
    (scat s18 r19).bind fun s20 =>
    (scat s20 (ByteArray.mk #[32])).bind fun s21 =>
    (ref24_Quote o_0.Key).bind fun r22 =>
    (scat s21 r22).bind fun s23 =>
    ref24_line_k1 s23
  else
    if decide (o_0.Kind = 4) then
      ref24_line_k3 o_0 x2 (decide (o_0.Kind = 4))
    else
      ref24_line_k3 o_0 x2 (decide (o_0.Kind = 7))

def ref24_line (o_0 : Api_Op) : Option ByteArray :=
  (ref24_names).bind fun r1 =>
  (aidx 13 r1 o_0.Kind).bind fun x2 =>
  if decide (o_0.Kind = 1) then
    (scat x2 (ByteArray.mk #[32])).bind fun s7 =>
    (ref24_small o_0.Client).bind fun r8 =>
    (scat s7 r8).bind fun s9 =>
    (scat s9 (ByteArray.mk #[32])).bind fun s10 =>
    (ref24_Quote o_0.Key).bind fun r11 =>
    (scat s10 r11).bind fun s12 =>
    (scat s12 (ByteArray.mk #[32])).bind fun s13 =>
    (ref24_Quote o_0.Value).bind fun r14 =>
    (scat s13 r14).bind fun s15 =>
    ref24_line_k1 s15
  else
    if decide (o_0.Kind = 2) then
      ref24_line_k2 o_0 x2 (decide (o_0.Kind = 2))
    else
      ref24_line_k2 o_0 x2 (decide (o_0.Kind = 3))

def ref24_lines_k1 (s_0 : ByteArray) (y1 : Int × (List ByteArray)) : Option (List ByteArray) :=
  (ssub s_0 y1.1 (s_0.size : Int)).bind fun s2 =>
  (app 16 y1.2 ([s2])).bind fun l3 =>
  some l3

def ref24_lines_l2 (s_0 : ByteArray) (again7 : Int × Int × (List ByteArray) → Option (List ByteArray)) (v5 : Int × Int × (List ByteArray)) : Option (List ByteArray) :=
  if decide (v5.2.1 < (s_0.size : Int)) then
    (sidx s_0 v5.2.1).bind fun b10 =>
    if decide ((b10.toNat : Int) = 10) then
      (ssub s_0 v5.1 v5.2.1).bind fun s12 =>
      (app 16 v5.2.2 ([s12])).bind fun l13 =>
      again7 (IntKind.wrap .i64 (v5.2.1 + 1), IntKind.wrap .i64 (v5.2.1 + 1), l13)
    else
      again7 (v5.1, IntKind.wrap .i64 (v5.2.1 + 1), v5.2.2)
  else
    ref24_lines_k1 s_0 (v5.1, v5.2.2)

def ref24_lines (s_0 : ByteArray) : Option (List ByteArray) :=
  loopF (ref24_lines_l2 s_0) FU (0, 0, ([] : (List ByteArray)))

def ref24_silent_k1 (_y1 : Unit) : Option Bool :=
  some true

def ref24_silent_k3 (line_0 : ByteArray) (again5 : Int → Option Bool) (v3 : Int) (y8 : Bool) : Option Bool :=
  if y8 then
    (sidx line_0 v3).bind fun b10 =>
    some (decide ((b10.toNat : Int) = 35))
  else
    again5 (IntKind.wrap .i64 (v3 + 1))

def ref24_silent_l2 (line_0 : ByteArray) (again5 : Int → Option Bool) (v3 : Int) : Option Bool :=
  if decide (v3 < (line_0.size : Int)) then
    (sidx line_0 v3).bind fun b12 =>
    if !decide ((b12.toNat : Int) = 32) then
      (sidx line_0 v3).bind fun b14 =>
      ref24_silent_k3 line_0 again5 v3 (!decide ((b14.toNat : Int) = 9))
    else
      ref24_silent_k3 line_0 again5 v3 false
  else
    ref24_silent_k1 ()

def ref24_silent (line_0 : ByteArray) : Option Bool :=
  loopF (ref24_silent_l2 line_0) FU 0

def ref24_digit_k2 (c_0 : Int) (y3 : Bool) : Option Int :=
  if y3 then
    some (IntKind.wrap .i64 ((IntKind.wrap .i64 (IntKind.wrap .u8 (c_0 - 97))) + 10))
  else
    some (-1)

def ref24_digit_k1 (c_0 : Int) (y1 : Bool) : Option Int :=
  if y1 then
    some (IntKind.wrap .i64 (IntKind.wrap .u8 (c_0 - 48)))
  else
    if decide (97 ≤ c_0) then
      ref24_digit_k2 c_0 (decide (c_0 ≤ 102))
    else
      ref24_digit_k2 c_0 false

def ref24_digit (c_0 : Int) : Option Int :=
  if decide (48 ≤ c_0) then
    ref24_digit_k1 c_0 (decide (c_0 ≤ 57))
  else
    ref24_digit_k1 c_0 false

def ref24_quoted_k2 (y1 : Int × (List Int)) (y2 : Bool) : Option Ref24_Got :=
  if y2 then
    some (Ref24_Got.mk ByteArray.empty 0)
  else
    (scat (ByteArray.mk #[34]) (bytesOf y1.2)).bind fun s4 =>
    some (Ref24_Got.mk s4 (IntKind.wrap .i64 (y1.1 + 1)))

def ref24_quoted_k3 (s_0 : ByteArray) (y1 : Int × (List Int)) (y7 : Bool) : Option Ref24_Got :=
  if y7 then
    (sidx s_0 (IntKind.wrap .i64 (y1.1 + 1))).bind fun b9 =>
    ref24_quoted_k2 y1 (!decide ((b9.toNat : Int) = 9))
  else
    ref24_quoted_k2 y1 false

def ref24_quoted_k1 (s_0 : ByteArray) (y1 : Int × (List Int)) : Option Ref24_Got :=
  if decide ((s_0.size : Int) ≤ y1.1) then
    ref24_quoted_k2 y1 true
  else
    if decide ((IntKind.wrap .i64 (y1.1 + 1)) < (s_0.size : Int)) then
      (sidx s_0 (IntKind.wrap .i64 (y1.1 + 1))).bind fun b12 =>
      ref24_quoted_k3 s_0 y1 (!decide ((b12.toNat : Int) = 32))
    else
      ref24_quoted_k3 s_0 y1 false

def ref24_quoted_k6 (s_0 : ByteArray) (again16 : Int × (List Int) → Option Ref24_Got) (v14 : Int × (List Int)) (y22 : Bool) : Option Ref24_Got :=
  if y22 then
    some (Ref24_Got.mk ByteArray.empty 0)
  else
    (sidx s_0 (IntKind.wrap .i64 (v14.1 + 1))).bind fun b24 =>
    (ref24_digit (b24.toNat : Int)).bind fun r25 =>
    (sidx s_0 (IntKind.wrap .i64 (v14.1 + 2))).bind fun b26 =>
    (ref24_digit (b26.toNat : Int)).bind fun r27 =>
    (app 1 v14.2 ([IntKind.wrap .u8 (IntKind.wrap .i64 ((IntKind.wrap .i64 (16 * r25)) + r27))])).bind fun l28 =>
    again16 (IntKind.wrap .i64 (v14.1 + 3), l28)

def ref24_quoted_k7 (s_0 : ByteArray) (again16 : Int × (List Int) → Option Ref24_Got) (v14 : Int × (List Int)) (y30 : Bool) : Option Ref24_Got :=
  if y30 then
    ref24_quoted_k6 s_0 again16 v14 true
  else
    (sidx s_0 (IntKind.wrap .i64 (v14.1 + 2))).bind fun b32 =>
    (ref24_digit (b32.toNat : Int)).bind fun r33 =>
    ref24_quoted_k6 s_0 again16 v14 (decide (r33 < 0))

def ref24_quoted_k5 (s_0 : ByteArray) (again16 : Int × (List Int) → Option Ref24_Got) (v14 : Int × (List Int)) (y18 : Bool) : Option Ref24_Got :=
  if y18 then
    (sidx s_0 v14.1).bind fun b20 =>
    if decide ((b20.toNat : Int) = 92) then
      if decide ((IntKind.wrap .i64 ((s_0.size : Int) - v14.1)) < 3) then
        ref24_quoted_k7 s_0 again16 v14 true
      else
        (sidx s_0 (IntKind.wrap .i64 (v14.1 + 1))).bind fun b36 =>
        (ref24_digit (b36.toNat : Int)).bind fun r37 =>
        ref24_quoted_k7 s_0 again16 v14 (decide (r37 < 0))
    else
      (sidx s_0 v14.1).bind fun b38 =>
      (ref24_plain (b38.toNat : Int)).bind fun r39 =>
      if !r39 then
        some (Ref24_Got.mk ByteArray.empty 0)
      else
        (sidx s_0 v14.1).bind fun b41 =>
        (app 1 v14.2 ([(b41.toNat : Int)])).bind fun l42 =>
        again16 (IntKind.wrap .i64 (v14.1 + 1), l42)
  else
    ref24_quoted_k1 s_0 (v14.1, v14.2)

def ref24_quoted_l4 (s_0 : ByteArray) (again16 : Int × (List Int) → Option Ref24_Got) (v14 : Int × (List Int)) : Option Ref24_Got :=
  if decide (v14.1 < (s_0.size : Int)) then
    (sidx s_0 v14.1).bind fun b45 =>
    ref24_quoted_k5 s_0 again16 v14 (!decide ((b45.toNat : Int) = 34))
  else
    ref24_quoted_k5 s_0 again16 v14 false

def ref24_quoted (s_0 : ByteArray) : Option Ref24_Got :=
  loopF (ref24_quoted_l4 s_0) FU (1, ([] : (List Int)))

def ref24_one_k1 (s_0 : ByteArray) (y4 : Int) : Option Ref24_Got :=
  (ssub s_0 0 y4).bind fun s5 =>
  (ref02_Runes s5).bind fun r6 =>
  if decide (r6 < 0) then
    some (Ref24_Got.mk ByteArray.empty 0)
  else
    (ssub s_0 0 y4).bind fun s8 =>
    some (Ref24_Got.mk s8 y4)

def ref24_one_k4 (again12 : Int → Option Ref24_Got) (v10 : Int) (y16 : Bool) : Option Ref24_Got :=
  if y16 then
    some (Ref24_Got.mk ByteArray.empty 0)
  else
    again12 (IntKind.wrap .i64 (v10 + 1))

def ref24_one_k5 (s_0 : ByteArray) (again12 : Int → Option Ref24_Got) (v10 : Int) (y20 : Bool) : Option Ref24_Got :=
  if y20 then
    ref24_one_k4 again12 v10 true
  else
    (sidx s_0 v10).bind fun b22 =>
    ref24_one_k4 again12 v10 (decide ((b22.toNat : Int) = 34))

def ref24_one_k3 (s_0 : ByteArray) (again12 : Int → Option Ref24_Got) (v10 : Int) (y14 : Bool) : Option Ref24_Got :=
  if y14 then
    (sidx s_0 v10).bind fun b19 =>
    if decide ((b19.toNat : Int) < 33) then
      ref24_one_k5 s_0 again12 v10 true
    else
      (sidx s_0 v10).bind fun b25 =>
      ref24_one_k5 s_0 again12 v10 (decide ((b25.toNat : Int) = 127))
  else
    ref24_one_k1 s_0 v10

def ref24_one_k6 (s_0 : ByteArray) (again12 : Int → Option Ref24_Got) (v10 : Int) (y27 : Bool) : Option Ref24_Got :=
  if y27 then
    (sidx s_0 v10).bind fun b29 =>
    ref24_one_k3 s_0 again12 v10 (!decide ((b29.toNat : Int) = 9))
  else
    ref24_one_k3 s_0 again12 v10 false

def ref24_one_l2 (s_0 : ByteArray) (again12 : Int → Option Ref24_Got) (v10 : Int) : Option Ref24_Got :=
  if decide (v10 < (s_0.size : Int)) then
    (sidx s_0 v10).bind fun b32 =>
    ref24_one_k6 s_0 again12 v10 (!decide ((b32.toNat : Int) = 32))
  else
    ref24_one_k6 s_0 again12 v10 false

def ref24_one (s_0 : ByteArray) : Option Ref24_Got :=
  (sidx s_0 0).bind fun b1 =>
  if decide ((b1.toNat : Int) = 34) then
    (ref24_quoted s_0).bind fun r3 =>
    some r3
  else
    loopF (ref24_one_l2 s_0) FU 0

def ref24_Words_k2 (line_0 : ByteArray) (again3 : Int × (List ByteArray) → Option ((List ByteArray) × Bool)) (v1 : Int × (List ByteArray)) (y5 : Int) : Option ((List ByteArray) × Bool) :=
  if decide (y5 = (line_0.size : Int)) then
    some (v1.2, true)
  else
    (ssub line_0 y5 (line_0.size : Int)).bind fun s7 =>
    (ref24_one s7).bind fun r8 =>
    if decide (r8.N = 0) then
      some (([] : (List ByteArray)), false)
    else
      (app 16 v1.2 ([r8.S])).bind fun l10 =>
      again3 (IntKind.wrap .i64 (y5 + r8.N), l10)

def ref24_Words_l3 (line_0 : ByteArray) (again3 : Int × (List ByteArray) → Option ((List ByteArray) × Bool)) (v1 : Int × (List ByteArray)) (again14 : Int → Option ((List ByteArray) × Bool)) (v12 : Int) : Option ((List ByteArray) × Bool) :=
  if decide (v12 < (line_0.size : Int)) then
    (sidx line_0 v12).bind fun b17 =>
    if decide ((b17.toNat : Int) = 32) then
      again14 (IntKind.wrap .i64 (v12 + 1))
    else
      (sidx line_0 v12).bind fun b19 =>
      if decide ((b19.toNat : Int) = 9) then
        again14 (IntKind.wrap .i64 (v12 + 1))
      else
        ref24_Words_k2 line_0 again3 v1 v12
  else
    ref24_Words_k2 line_0 again3 v1 v12

def ref24_Words_l1 (line_0 : ByteArray) (again3 : Int × (List ByteArray) → Option ((List ByteArray) × Bool)) (v1 : Int × (List ByteArray)) : Option ((List ByteArray) × Bool) :=
  loopF (ref24_Words_l3 line_0 again3 v1) FU v1.1

def ref24_Words (line_0 : ByteArray) : Option ((List ByteArray) × Bool) :=
  loopF (ref24_Words_l1 line_0) FU (0, ([] : (List ByteArray)))

def ref24_number_k2 (y3 : Int) : Option Int :=
  if decide (63 < y3) then
    some (-1)
  else
    some y3

def ref24_number_k4 (s_0 : ByteArray) (again8 : Int × Int → Option Int) (v6 : Int × Int) (y11 : Bool) : Option Int :=
  if y11 then
    some (-1)
  else
    (sidx s_0 v6.2).bind fun b13 =>
    again8 (IntKind.wrap .i64 ((IntKind.wrap .i64 (10 * v6.1)) + (IntKind.wrap .i64 (IntKind.wrap .u8 ((b13.toNat : Int) - 48)))), IntKind.wrap .i64 (v6.2 + 1))

def ref24_number_l3 (s_0 : ByteArray) (again8 : Int × Int → Option Int) (v6 : Int × Int) : Option Int :=
  if decide (v6.2 < (s_0.size : Int)) then
    (sidx s_0 v6.2).bind fun b15 =>
    if decide ((b15.toNat : Int) < 48) then
      ref24_number_k4 s_0 again8 v6 true
    else
      (sidx s_0 v6.2).bind fun b17 =>
      ref24_number_k4 s_0 again8 v6 (decide (57 < (b17.toNat : Int)))
  else
    ref24_number_k2 v6.1

def ref24_number_k1 (s_0 : ByteArray) (y1 : Bool) : Option Int :=
  if y1 then
    some (-1)
  else
    loopF (ref24_number_l3 s_0) FU (0, 0)

def ref24_number_k5 (s_0 : ByteArray) (y19 : Bool) : Option Int :=
  if y19 then
    ref24_number_k1 s_0 true
  else
    if decide ((s_0.size : Int) = 2) then
      (sidx s_0 0).bind fun b22 =>
      ref24_number_k1 s_0 (decide ((b22.toNat : Int) = 48))
    else
      ref24_number_k1 s_0 false

def ref24_number (s_0 : ByteArray) : Option Int :=
  if decide ((s_0.size : Int) < 1) then
    ref24_number_k5 s_0 true
  else
    ref24_number_k5 s_0 (decide (2 < (s_0.size : Int)))

def ref24_text_k2 (y2 : ByteArray) : Option (ByteArray × Bool) :=
  some (y2, decide ((y2.size : Int) ≤ 32))

def ref24_text_k1 (s_0 : ByteArray) (y1 : Bool) : Option (ByteArray × Bool) :=
  if y1 then
    (ssub s_0 1 (s_0.size : Int)).bind fun s5 =>
    ref24_text_k2 s5
  else
    ref24_text_k2 s_0

def ref24_text (s_0 : ByteArray) : Option (ByteArray × Bool) :=
  if decide (0 < (s_0.size : Int)) then
    (sidx s_0 0).bind fun b8 =>
    ref24_text_k1 s_0 (decide ((b8.toNat : Int) = 34))
  else
    ref24_text_k1 s_0 false

def ref24_row_k2 (y1 : Int × (List Api_Range) × (List Int)) (y2 : (List Int)) : Option Ref24_Step :=
  (ref06_RowCheck (Api_Row.mk y1.2.1 y1.2.2 y2)).bind fun r3 =>
  some (Ref24_Step.mk (Api_Op.mk 12 0 0 0 0 0 ByteArray.empty ByteArray.empty ([] : (List ByteArray)) (Api_Row.mk y1.2.1 y1.2.2 y2)) r3)

def ref24_row_k4 (again7 : Int × (List Int) → Option Ref24_Step) (v5 : Int × (List Int)) (r11 : Int) (y12 : Bool) : Option Ref24_Step :=
  if y12 then
    some (Ref24_Step.mk (Api_Op.mk 0 0 0 0 0 0 ByteArray.empty ByteArray.empty ([] : (List ByteArray)) (Api_Row.mk ([] : (List Api_Range)) ([] : (List Int)) ([] : (List Int)))) false)
  else
    (app 8 v5.2 ([r11])).bind fun l14 =>
    again7 (IntKind.wrap .i64 (v5.1 + 1), l14)

def ref24_row_l3 (w_0 : (List ByteArray)) (y1 : Int × (List Api_Range) × (List Int)) (again7 : Int × (List Int) → Option Ref24_Step) (v5 : Int × (List Int)) : Option Ref24_Step :=
  if decide (v5.1 < (w_0.length : Int)) then
    (idx w_0 v5.1).bind fun x10 =>
    (ref24_number x10).bind fun r11 =>
    if decide (r11 < 0) then
      (idx w_0 v5.1).bind fun x17 =>
      ref24_row_k4 again7 v5 r11 (!seq x17 (ByteArray.mk #[45]))
    else
      ref24_row_k4 again7 v5 r11 false
  else
    ref24_row_k2 y1 v5.2

def ref24_row_k1 (w_0 : (List ByteArray)) (y1 : Int × (List Api_Range) × (List Int)) : Option Ref24_Step :=
  loopF (ref24_row_l3 w_0 y1) FU (y1.1, ([] : List Int))

def ref24_row_k6 (w_0 : (List ByteArray)) (again21 : Int × ByteArray × (List Api_Range) × (List Int) → Option Ref24_Step) (v19 : Int × ByteArray × (List Api_Range) × (List Int)) (y23 : Bool) : Option Ref24_Step :=
  if y23 then
    some (Ref24_Step.mk (Api_Op.mk 0 0 0 0 0 0 ByteArray.empty ByteArray.empty ([] : (List ByteArray)) (Api_Row.mk ([] : (List Api_Range)) ([] : (List Int)) ([] : (List Int)))) false)
  else
    (idx w_0 v19.1).bind fun x25 =>
    (ref24_number x25).bind fun r26 =>
    (app 8 v19.2.2.2 ([r26])).bind fun l27 =>
    if decide ((w_0.length : Int) ≤ (IntKind.wrap .i64 (v19.1 + 1))) then
      some (Ref24_Step.mk (Api_Op.mk 0 0 0 0 0 0 ByteArray.empty ByteArray.empty ([] : (List ByteArray)) (Api_Row.mk ([] : (List Api_Range)) ([] : (List Int)) ([] : (List Int)))) false)
    else
      (idx w_0 (IntKind.wrap .i64 (v19.1 + 1))).bind fun x29 =>
      if seq x29 (ByteArray.mk #[47]) then
        (app 32 v19.2.2.1 ([(Api_Range.mk v19.2.1 ByteArray.empty)])).bind fun l31 =>
        ref24_row_k1 w_0 (IntKind.wrap .i64 ((IntKind.wrap .i64 (v19.1 + 1)) + 1), l31, l27)
      else
        (idx w_0 (IntKind.wrap .i64 (v19.1 + 1))).bind fun x32 =>
        (ref24_text x32).bind fun r33 =>
        if !r33.2 then
          some (Ref24_Step.mk (Api_Op.mk 0 0 0 0 0 0 ByteArray.empty ByteArray.empty ([] : (List ByteArray)) (Api_Row.mk ([] : (List Api_Range)) ([] : (List Int)) ([] : (List Int)))) false)
        else
          (app 32 v19.2.2.1 ([(Api_Range.mk v19.2.1 r33.1)])).bind fun l35 =>
          again21 (IntKind.wrap .i64 ((IntKind.wrap .i64 (v19.1 + 1)) + 1), r33.1, l35, l27)

def ref24_row_l5 (w_0 : (List ByteArray)) (again21 : Int × ByteArray × (List Api_Range) × (List Int) → Option Ref24_Step) (v19 : Int × ByteArray × (List Api_Range) × (List Int)) : Option Ref24_Step :=
  if decide ((w_0.length : Int) ≤ v19.1) then
    ref24_row_k6 w_0 again21 v19 true
  else
    (idx w_0 v19.1).bind fun x38 =>
    (ref24_number x38).bind fun r39 =>
    ref24_row_k6 w_0 again21 v19 (decide (r39 < 0))

def ref24_row (w_0 : (List ByteArray)) : Option Ref24_Step :=
  loopF (ref24_row_l5 w_0) FU (0, ByteArray.empty, ([] : List Api_Range), ([] : List Int))

def ref24_step_k5 (y2 : Int) (y11 : Int × Int × Int × Int × Int × ByteArray × ByteArray × (List ByteArray)) : Option Ref24_Step :=
  some (Ref24_Step.mk (Api_Op.mk y2 y11.1 y11.2.1 y11.2.2.1 y11.2.2.2.1 y11.2.2.2.2.1 y11.2.2.2.2.2.1 y11.2.2.2.2.2.2.1 y11.2.2.2.2.2.2.2 (Api_Row.mk ([] : (List Api_Range)) ([] : (List Int)) ([] : (List Int)))) (decide ((y11.2.2.2.2.2.2.2.length : Int) ≤ 8)))

def ref24_step_k7 (y2 : Int) (y8 : (List Int)) (y10 : (List ByteArray)) (y21 : Bool) : Option Ref24_Step :=
  if y21 then
    (aidx 4 y8 0).bind fun x23 =>
    ref24_step_k5 y2 (x23, 0, 0, 0, 0, ByteArray.empty, ByteArray.empty, ([] : (List ByteArray)))
  else
    if decide (y2 = 5) then
      (aidx 4 y8 0).bind fun x25 =>
      (aidx 4 y8 1).bind fun x26 =>
      ref24_step_k5 y2 (x25, x26, 0, 0, 0, ByteArray.empty, ByteArray.empty, ([] : (List ByteArray)))
    else
      if decide (y2 = 6) then
        (aidx 4 y8 0).bind fun x28 =>
        ref24_step_k5 y2 (x28, 0, 0, 0, 0, ByteArray.empty, ByteArray.empty, y10)
      else
        if decide (y2 = 8) then
          (aidx 4 y8 0).bind fun x30 =>
          (aidx 4 y8 1).bind fun x31 =>
          (aidx 4 y8 2).bind fun x32 =>
          (aidx 4 y8 3).bind fun x33 =>
          ref24_step_k5 y2 (0, x30, x31, x32, x33, ByteArray.empty, ByteArray.empty, ([] : (List ByteArray)))
        else
          if decide (y2 = 9) then
            (aidx 4 y8 0).bind fun x35 =>
            (aidx 4 y8 1).bind fun x36 =>
            ref24_step_k5 y2 (0, x35, x36, 0, 0, ByteArray.empty, ByteArray.empty, ([] : (List ByteArray)))
          else
            if decide (y2 = 10) then
              (aidx 4 y8 0).bind fun x38 =>
              ref24_step_k5 y2 (0, x38, 0, 0, 0, ByteArray.empty, ByteArray.empty, ([] : (List ByteArray)))
            else
              ref24_step_k5 y2 (0, 0, 0, 0, 0, ByteArray.empty, ByteArray.empty, ([] : (List ByteArray)))

def ref24_step_k6 (y2 : Int) (y8 : (List Int)) (y10 : (List ByteArray)) (y17 : Bool) : Option Ref24_Step :=
  if y17 then
    (aidx 4 y8 0).bind fun x19 =>
    (idx y10 0).bind fun x20 =>
    ref24_step_k5 y2 (x19, 0, 0, 0, 0, x20, ByteArray.empty, ([] : (List ByteArray)))
  else
    if decide (y2 = 4) then
      ref24_step_k7 y2 y8 y10 (decide (y2 = 4))
    else
      ref24_step_k7 y2 y8 y10 (decide (y2 = 7))

def ref24_step_k4 (y2 : Int) (y8 : (List Int)) (y10 : (List ByteArray)) : Option Ref24_Step :=
  if decide (y2 = 1) then
    (aidx 4 y8 0).bind fun x14 =>
    (idx y10 0).bind fun x15 =>
    (idx y10 1).bind fun x16 =>
    ref24_step_k5 y2 (x14, 0, 0, 0, 0, x15, x16, ([] : (List ByteArray)))
  else
    if decide (y2 = 2) then
      ref24_step_k6 y2 y8 y10 (decide (y2 = 2))
    else
      ref24_step_k6 y2 y8 y10 (decide (y2 = 3))

def ref24_step_l8 (w_0 : (List ByteArray)) (y2 : Int) (y8 : (List Int)) (again46 : Int × (List ByteArray) → Option Ref24_Step) (v44 : Int × (List ByteArray)) : Option Ref24_Step :=
  if decide (v44.1 < (w_0.length : Int)) then
    (idx w_0 v44.1).bind fun x49 =>
    (ref24_text x49).bind fun r50 =>
    if !r50.2 then
      some (Ref24_Step.mk (Api_Op.mk 0 0 0 0 0 0 ByteArray.empty ByteArray.empty ([] : (List ByteArray)) (Api_Row.mk ([] : (List Api_Range)) ([] : (List Int)) ([] : (List Int)))) false)
    else
      (app 16 v44.2 ([r50.1])).bind fun l52 =>
      again46 (IntKind.wrap .i64 (v44.1 + 1), l52)
  else
    ref24_step_k4 y2 y8 v44.2

def ref24_step_k3 (w_0 : (List ByteArray)) (y2 : Int) (y8 : (List Int)) : Option Ref24_Step :=
  (aidx 13 ([0, 1, 1, 1, 1, 2, 1, 1, 4, 2, 1, 0, 0]) y2).bind fun x9 =>
  loopF (ref24_step_l8 w_0 y2 y8) FU (IntKind.wrap .i64 (1 + x9), ([] : (List ByteArray)))

def ref24_step_l9 (w_0 : (List ByteArray)) (y2 : Int) (again56 : Int × (List Int) → Option Ref24_Step) (v54 : Int × (List Int)) : Option Ref24_Step :=
  (aidx 13 ([0, 1, 1, 1, 1, 2, 1, 1, 4, 2, 1, 0, 0]) y2).bind fun x58 =>
  if decide (v54.1 < x58) then
    (idx w_0 (IntKind.wrap .i64 (1 + v54.1))).bind fun x60 =>
    (ref24_number x60).bind fun r61 =>
    (aidx 4 v54.2 v54.1).bind fun _x62 =>
    (asets 4 v54.2 v54.1 r61).bind fun a63 =>
    (aidx 4 a63 v54.1).bind fun x64 =>
    if decide (x64 < 0) then
      some (Ref24_Step.mk (Api_Op.mk 0 0 0 0 0 0 ByteArray.empty ByteArray.empty ([] : (List ByteArray)) (Api_Row.mk ([] : (List Api_Range)) ([] : (List Int)) ([] : (List Int)))) false)
    else
      again56 (IntKind.wrap .i64 (v54.1 + 1), a63)
  else
    ref24_step_k3 w_0 y2 v54.2

def ref24_step_k2 (w_0 : (List ByteArray)) (y2 : Int) (y6 : Bool) : Option Ref24_Step :=
  if y6 then
    some (Ref24_Step.mk (Api_Op.mk 0 0 0 0 0 0 ByteArray.empty ByteArray.empty ([] : (List ByteArray)) (Api_Row.mk ([] : (List Api_Range)) ([] : (List Int)) ([] : (List Int)))) false)
  else
    loopF (ref24_step_l9 w_0 y2) FU (0, List.replicate 4 0)

def ref24_step_k1 (w_0 : (List ByteArray)) (y2 : Int) : Option Ref24_Step :=
  if decide (y2 = 12) then
    (sub w_0 1 (w_0.length : Int)).bind fun l4 =>
    (ref24_row l4).bind fun r5 =>
    some r5
  else
    if decide (y2 = 0) then
      ref24_step_k2 w_0 y2 true
    else
      if !decide (y2 = 6) then
        (aidx 13 ([0, 1, 1, 1, 1, 2, 1, 1, 4, 2, 1, 0, 0]) y2).bind fun x69 =>
        (aidx 13 ([0, 2, 1, 1, 0, 0, 0, 0, 0, 0, 0, 0, 0]) y2).bind fun x70 =>
        if !decide ((w_0.length : Int) = (IntKind.wrap .i64 ((IntKind.wrap .i64 (1 + x69)) + x70))) then
          ref24_step_k2 w_0 y2 true
        else
          (aidx 13 ([0, 1, 1, 1, 1, 2, 1, 1, 4, 2, 1, 0, 0]) y2).bind fun x72 =>
          ref24_step_k2 w_0 y2 (decide ((w_0.length : Int) < (IntKind.wrap .i64 (1 + x72))))
      else
        (aidx 13 ([0, 1, 1, 1, 1, 2, 1, 1, 4, 2, 1, 0, 0]) y2).bind fun x73 =>
        ref24_step_k2 w_0 y2 (decide ((w_0.length : Int) < (IntKind.wrap .i64 (1 + x73))))

def ref24_step_l10 (w_0 : (List ByteArray)) (r1 : (List ByteArray)) (again77 : Int × Int → Option Ref24_Step) (v75 : Int × Int) : Option Ref24_Step :=
  if decide (v75.2 < 13) then
    (idx w_0 0).bind fun x80 =>
    (aidx 13 r1 v75.2).bind fun x81 =>
    if seq x80 x81 then
      again77 (v75.2, IntKind.wrap .i64 (v75.2 + 1))
    else
      again77 (v75.1, IntKind.wrap .i64 (v75.2 + 1))
  else
    ref24_step_k1 w_0 v75.1

def ref24_step (w_0 : (List ByteArray)) : Option Ref24_Step :=
  (ref24_names).bind fun r1 =>
  loopF (ref24_step_l10 w_0 r1) FU (0, 1)

def ref24_Parse_k1 (y2 : (List Api_Op)) : Option ((List Api_Op) × Int) :=
  some (y2, 0)

def ref24_Parse_l2 (r1 : (List ByteArray)) (again6 : Int × (List Api_Op) → Option ((List Api_Op) × Int)) (v4 : Int × (List Api_Op)) : Option ((List Api_Op) × Int) :=
  if decide (v4.1 < (r1.length : Int)) then
    (idx r1 v4.1).bind fun x9 =>
    (ref24_silent x9).bind fun r10 =>
    if r10 then
      again6 (IntKind.wrap .i64 (v4.1 + 1), v4.2)
    else
      (idx r1 v4.1).bind fun x12 =>
      (ref24_Words x12).bind fun r13 =>
      if !r13.2 then
        some (([] : (List Api_Op)), IntKind.wrap .i64 (v4.1 + 1))
      else
        (ref24_step r13.1).bind fun r15 =>
        if !r15.Is then
          some (([] : (List Api_Op)), IntKind.wrap .i64 (v4.1 + 1))
        else
          (app 176 v4.2 ([r15.O])).bind fun l17 =>
          again6 (IntKind.wrap .i64 (v4.1 + 1), l17)
  else
    ref24_Parse_k1 v4.2

def ref24_Parse (s_0 : ByteArray) : Option ((List Api_Op) × Int) :=
  (ref24_lines s_0).bind fun r1 =>
  loopF (ref24_Parse_l2 r1) FU (0, ([] : (List Api_Op)))

def ref24_Check_k1 (o_0 : Api_Op) (y3 : Bool) : Option Bool :=
  if y3 then
    some false
  else
    (ref24_line o_0).bind fun r5 =>
    (ref24_Parse r5).bind fun r6 =>
    if decide (r6.2 = 0) then
      if decide ((r6.1.length : Int) = 1) then
        (idx r6.1 0).bind fun x9 =>
        (ref22_SameOp x9 o_0).bind fun r10 =>
        some r10
      else
        some false
    else
      some false

def ref24_Check_k2 (o_0 : Api_Op) (y12 : Bool) : Option Bool :=
  if y12 then
    ref24_Check_k1 o_0 true
  else
    if !decide (o_0.Kind = 12) then
      ref24_Check_k1 o_0 (decide (0 < (o_0.Row.Ranges.length : Int)))
    else
      ref24_Check_k1 o_0 false

def ref24_Check (o_0 : Api_Op) : Option Bool :=
  (ref22_Check o_0).bind fun r1 =>
  if !r1 then
    some false
  else
    if decide (o_0.Kind = 12) then
      ref24_Check_k2 o_0 (decide ((o_0.Row.Ranges.length : Int) = 0))
    else
      ref24_Check_k2 o_0 false

def ref24_Text_k1 (y1 : ByteArray) : Option ByteArray :=
  some y1

def ref24_Text_l2 (l_0 : (List Api_Op)) (again5 : ByteArray × Int → Option ByteArray) (v3 : ByteArray × Int) : Option ByteArray :=
  if decide (v3.2 < (l_0.length : Int)) then
    (idx l_0 v3.2).bind fun x8 =>
    (ref24_Check x8).bind fun r9 =>
    if !r9 then
      some ByteArray.empty
    else
      (idx l_0 v3.2).bind fun x11 =>
      (ref24_line x11).bind fun r12 =>
      (scat v3.1 r12).bind fun s13 =>
      again5 (s13, IntKind.wrap .i64 (v3.2 + 1))
  else
    ref24_Text_k1 v3.1

def ref24_Text (l_0 : (List Api_Op)) : Option ByteArray :=
  loopF (ref24_Text_l2 l_0) FU (ByteArray.empty, 0)
end Go.Ark

/- Typed functions, printed by a program of mine out of the translated code. -/
namespace Go.Ark
open Go Go.Ab

def law24_awake_k4 (r1 : ((List Api_Op) × Int)) (y5 : Bool) : Option Bool :=
  if y5 then
    (words_Text r1.1).bind fun r7 =>
    some (seq r7 (ByteArray.mk #[112, 117, 116, 32, 48, 32, 34, 97, 34, 32, 34, 120, 92, 48, 97, 34, 10]))
  else
    some false

def law24_awake_k3 (r1 : ((List Api_Op) × Int)) (y4 : Bool) : Option Bool :=
  if y4 then
    (idx r1.1 0).bind fun x10 =>
    (words_Check x10).bind fun r11 =>
    law24_awake_k4 r1 r11
  else
    law24_awake_k4 r1 false

def law24_awake_k2 (r1 : ((List Api_Op) × Int)) (y3 : Bool) : Option Bool :=
  if y3 then
    (idx r1.1 0).bind fun x14 =>
    law24_awake_k3 r1 (seq x14.Value (ByteArray.mk #[120, 10]))
  else
    law24_awake_k3 r1 false

def law24_awake_k1 (r1 : ((List Api_Op) × Int)) (y2 : Bool) : Option Bool :=
  if y2 then
    (idx r1.1 0).bind fun x17 =>
    law24_awake_k2 r1 (seq x17.Key (ByteArray.mk #[97]))
  else
    law24_awake_k2 r1 false

def law24_awake : Option Bool :=
  (words_Parse (ByteArray.mk #[112, 117, 116, 32, 48, 32, 97, 32, 34, 120, 92, 48, 97, 34, 10, 35, 32, 110, 111, 32, 115, 116, 101, 112, 10])).bind fun r1 =>
  if decide (r1.2 = 0) then
    law24_awake_k1 r1 (decide ((r1.1.length : Int) = 1))
  else
    law24_awake_k1 r1 false

def law24_short (s_0 : ByteArray) (n_1 : Int) : Option ByteArray :=
  if decide (n_1 < (s_0.size : Int)) then
    (ssub s_0 0 n_1).bind fun s2 =>
    some s2
  else
    some s_0

def law24_few_k4 (o_0 : Api_Op) (y2 : (List ByteArray)) (r3 : ByteArray) (r4 : ByteArray) (y5 : (List Api_Range)) (y6 : (List Int)) : Option Api_Op :=
  if decide (9 < (o_0.Row.Parents.length : Int)) then
    (sub o_0.Row.Parents 0 9).bind fun l8 =>
    some (Api_Op.mk o_0.Kind o_0.Client o_0.Site o_0.To o_0.At o_0.How r3 r4 y2 (Api_Row.mk y5 y6 l8))
  else
    some (Api_Op.mk o_0.Kind o_0.Client o_0.Site o_0.To o_0.At o_0.How r3 r4 y2 (Api_Row.mk y5 y6 o_0.Row.Parents))

def law24_few_k3 (o_0 : Api_Op) (y2 : (List ByteArray)) (r3 : ByteArray) (r4 : ByteArray) (y5 : (List Api_Range)) : Option Api_Op :=
  if decide (9 < (o_0.Row.Owners.length : Int)) then
    (sub o_0.Row.Owners 0 9).bind fun l11 =>
    law24_few_k4 o_0 y2 r3 r4 y5 l11
  else
    law24_few_k4 o_0 y2 r3 r4 y5 o_0.Row.Owners

def law24_few_k6 (o_0 : Api_Op) (y2 : (List ByteArray)) (r3 : ByteArray) (r4 : ByteArray) (again15 : Int × (List Api_Range) → Option Api_Op) (v13 : Int × (List Api_Range)) (y17 : Bool) : Option Api_Op :=
  if y17 then
    (idx o_0.Row.Ranges v13.1).bind fun x19 =>
    (law24_short x19.From 40).bind fun r20 =>
    (idx o_0.Row.Ranges v13.1).bind fun x21 =>
    (law24_short x21.To 40).bind fun r22 =>
    (app 32 v13.2 ([(Api_Range.mk r20 r22)])).bind fun l23 =>
    again15 (IntKind.wrap .i64 (v13.1 + 1), l23)
  else
    law24_few_k3 o_0 y2 r3 r4 v13.2

def law24_few_l5 (o_0 : Api_Op) (y2 : (List ByteArray)) (r3 : ByteArray) (r4 : ByteArray) (again15 : Int × (List Api_Range) → Option Api_Op) (v13 : Int × (List Api_Range)) : Option Api_Op :=
  if decide (v13.1 < (o_0.Row.Ranges.length : Int)) then
    law24_few_k6 o_0 y2 r3 r4 again15 v13 (decide (v13.1 < 9))
  else
    law24_few_k6 o_0 y2 r3 r4 again15 v13 false

def law24_few_k2 (o_0 : Api_Op) (y2 : (List ByteArray)) : Option Api_Op :=
  (law24_short o_0.Key 40).bind fun r3 =>
  (law24_short o_0.Value 40).bind fun r4 =>
  loopF (law24_few_l5 o_0 y2 r3 r4) FU (0, ([] : (List Api_Range)))

def law24_few_l7 (o_0 : Api_Op) (y1 : (List ByteArray)) (again29 : Int × (List ByteArray) → Option Api_Op) (v27 : Int × (List ByteArray)) : Option Api_Op :=
  if decide (v27.1 < (y1.length : Int)) then
    (idx y1 v27.1).bind fun x32 =>
    (law24_short x32 40).bind fun r33 =>
    (app 16 v27.2 ([r33])).bind fun l34 =>
    again29 (IntKind.wrap .i64 (v27.1 + 1), l34)
  else
    law24_few_k2 o_0 v27.2

def law24_few_k1 (o_0 : Api_Op) (y1 : (List ByteArray)) : Option Api_Op :=
  loopF (law24_few_l7 o_0 y1) FU (0, ([] : (List ByteArray)))

def law24_few (o_0 : Api_Op) : Option Api_Op :=
  if decide (9 < (o_0.Keys.length : Int)) then
    (sub o_0.Keys 0 9).bind fun l37 =>
    law24_few_k1 o_0 l37
  else
    law24_few_k1 o_0 o_0.Keys

def law24_WordsWrites_k1 (r1 : Bool) (y2 : (List Api_Op)) : Option Bool :=
  if r1 then
    (words_Text y2).bind fun r4 =>
    (ref24_Text y2).bind fun r5 =>
    some (seq r4 r5)
  else
    some false

def law24_WordsWrites_k3 (l_0 : (List Api_Op)) (r1 : Bool) (again9 : Int × (List Api_Op) → Option Bool) (v7 : Int × (List Api_Op)) (y11 : Bool) : Option Bool :=
  if y11 then
    (idx l_0 v7.1).bind fun x13 =>
    (law24_few x13).bind fun r14 =>
    (words_Check r14).bind fun r15 =>
    (ref24_Check r14).bind fun r16 =>
    if !(r15 == r16) then
      some false
    else
      (app 176 v7.2 ([r14])).bind fun l18 =>
      again9 (IntKind.wrap .i64 (v7.1 + 1), l18)
  else
    law24_WordsWrites_k1 r1 v7.2

def law24_WordsWrites_l2 (l_0 : (List Api_Op)) (r1 : Bool) (again9 : Int × (List Api_Op) → Option Bool) (v7 : Int × (List Api_Op)) : Option Bool :=
  if decide (v7.1 < (l_0.length : Int)) then
    law24_WordsWrites_k3 l_0 r1 again9 v7 (decide (v7.1 < 5))
  else
    law24_WordsWrites_k3 l_0 r1 again9 v7 false

def law24_WordsWrites (l_0 : (List Api_Op)) : Option Bool :=
  (law24_awake).bind fun r1 =>
  loopF (law24_WordsWrites_l2 l_0 r1) FU (0, ([] : (List Api_Op)))
end Go.Ark

/- Typed functions, printed by a program of mine out of the translated code. -/
namespace Go.Ark
open Go Go.Ab

end Go.Ark

/- Typed functions, printed by a program of mine out of the translated code. -/
namespace Go.Ark
open Go Go.Ab

end Go.Ark

/- Typed functions, printed by a program of mine out of the translated code. -/
namespace Go.Ark
open Go Go.Ab

end Go.Ark

/- Typed functions, printed by a program of mine out of the translated code. -/
namespace Go.Ark
open Go Go.Ab

end Go.Ark
