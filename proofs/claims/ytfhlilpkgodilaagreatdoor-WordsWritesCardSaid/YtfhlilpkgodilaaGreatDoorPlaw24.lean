import Derived.Test.YtfhlilpkgodilaaGreatDoorPwords2
import Derived.Test.YtfhlilpkgodilaaGreatDoorFA
import Derived.KernelRfl
/- Plain laws: chapter 24: the example, short texts. Conditions: none but those that stand in each law. -/
namespace Go.Ark
open Go Go.Ab Go.RowKit

theorem awake_t : law24_awake = some true := by kernel_rfl
theorem short_eq (s : ByteArray) (n : Nat) : ∃ t, law24_short s (n : Int) = some t ∧ t.size ≤ n := by
  unfold law24_short
  by_cases h : (n : Int) < (s.size : Int)
  · rw [if_pos (by simpa using h)]
    rw [ssub_bl s n (by omega)]
    exact ⟨_, rfl, by rw [ofL_size]; simp; omega⟩
  · rw [if_neg (by simpa using h)]
    exact ⟨s, rfl, by omega⟩
end Go.Ark
