/- Plain laws: numbers and texts, as bytes and out of bytes. Conditions: none but those that stand in each law. -/
import Derived.Test.YtfhlilpkgodilaaDoorP0
import Derived.Test.YtfhlilpkgodilaaDoorFvary
import Derived.Test.YtfhlilpkgodilaaDoorFref01
namespace Go.Ark
open Go Go.Ab Go.RowKit

/-! texts and their bytes -/
abbrev bl (s : ByteArray) : List UInt8 := s.data.toList
def ofL (l : List UInt8) : ByteArray := ⟨l.toArray⟩
theorem bl_ofL (l : List UInt8) : bl (ofL l) = l := by simp [bl, ofL]
theorem ofL_bl (s : ByteArray) : ofL (bl s) = s := by cases s; simp [bl, ofL]
theorem bl_inj {s t : ByteArray} (h : bl s = bl t) : s = t := by rw [← ofL_bl s, ← ofL_bl t, h]
theorem bl_app (s t : ByteArray) : bl (s ++ t) = bl s ++ bl t := by simp [bl, ByteArray.data_append]
theorem bl_len (s : ByteArray) : (bl s).length = s.size := by simp [bl]
theorem ofL_app (l m : List UInt8) : ofL l ++ ofL m = ofL (l ++ m) := bl_inj (by rw [bl_app, bl_ofL, bl_ofL, bl_ofL])
theorem ofL_size (l : List UInt8) : (ofL l).size = l.length := by rw [← bl_len, bl_ofL]
theorem bl_extract (s : ByteArray) (a b : Nat) : bl (s.extract a b) = ((bl s).take b).drop a := by
  unfold bl
  rw [ByteArray.data_extract, Array.toList_extract, List.extract_eq_take_drop, List.drop_take]
theorem scat_L {s t : ByteArray} (h : s.size + t.size ≤ 9223372036854775807) : scat s t = some (s ++ t) := by unfold scat; rw [if_pos h]
/-! a number's bytes -/
def numLf : Nat → Nat → List UInt8
  | 0, n => [UInt8.ofNat n]
  | f + 1, n => if n < 128 then [UInt8.ofNat n] else UInt8.ofNat (128 + n % 128) :: numLf f (n / 128)
def numL (n : Nat) : List UInt8 := numLf 10 n
def joinL (l : List Int) : List UInt8 := l.flatMap fun x => numL x.toNat
end Go.Ark
