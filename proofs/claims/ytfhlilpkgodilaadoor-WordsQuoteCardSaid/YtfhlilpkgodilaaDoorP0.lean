/- Plain laws, no program in sight: numbers, texts, lists by numbers, loops by rounds. Conditions: none but those that stand in each law. -/
import Derived.Test.YtfhlilpkgodilaaDoorFT
import Derived.Laws.StructEq
import Derived.OpenShut
namespace Go.Ark
open Go Go.Ab Go.RowKit

theorem wrap64 {n : Int} (h1 : -9223372036854775808 ≤ n) (h2 : n ≤ 9223372036854775807) : IntKind.wrap .i64 n = n := by
  simp only [IntKind.wrap, IntKind.signed, IntKind.bits]
  simp
  split <;> omega

/-! texts -/
theorem seq_eq (s t : ByteArray) : seq s t = decide (s = t) := by
  have h : seq s t = (s.data == t.data) := (beq_toListBytes s t).symm
  rw [h]
  by_cases h : s = t
  · subst h; simp
  · have : s.data ≠ t.data := fun c => h (by cases s; cases t; simp_all)
    simp [h, this]

/-! lists by numbers -/
theorem sidx_at {s : ByteArray} {i : Nat} (h : i < s.size) : sidx s (i : Int) = some s[i] := by
  simp only [sidx, Int.natCast_nonneg, if_true, Int.toNat_natCast]
  exact getElem?_pos s i h

end Go.Ark
