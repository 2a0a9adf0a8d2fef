import Derived.Test.YtfhlilpkgodilaaGreatDoorP0
import Derived.Test.YtfhlilpkgodilaaGreatDoorFA
/- Plain laws of the slice functions: printed by a program of mine, one copy for each element type. Conditions: none but those that stand in each law. -/
namespace Go.Ark
open Go Go.Ab

def fidx {α : Type} (p : α → Bool) (s : List α) : Int := match s.findIdx? p with | some i => (i : Int) | none => -1

theorem fidx_some {α : Type} {p : α → Bool} {s : List α} {i : Nat} (hi : i < s.length) (h1 : p s[i] = true) (h2 : ∀ j (hj : j < s.length), j < i → p s[j] = false) : fidx p s = i := by
  have : s.findIdx? p = some i := List.findIdx?_eq_some_iff_getElem.2 ⟨hi, h1, fun j hj => by simp [h2 j (by omega) hj]⟩
  simp [fidx, this]
theorem fidx_none {α : Type} {p : α → Bool} {s : List α} (h : ∀ j (hj : j < s.length), p s[j] = false) : fidx p s = -1 := by
  have : s.findIdx? p = none := List.findIdx?_eq_none_iff.2 fun x hx => by obtain ⟨j, hj, rfl⟩ := List.getElem_of_mem hx; exact h j hj
  simp [fidx, this]
theorem fidx_cases {α : Type} (p : α → Bool) (s : List α) : (∃ i, ∃ h : i < s.length, p s[i] = true ∧ (∀ j (hj : j < s.length), j < i → p s[j] = false) ∧ fidx p s = i) ∨ ((∀ x, x ∈ s → p x = false) ∧ fidx p s = -1) := by
  cases h : s.findIdx? p with
  | none =>
    right
    have := List.findIdx?_eq_none_iff.1 h
    exact ⟨this, by simp [fidx, h]⟩
  | some i =>
    left
    obtain ⟨hi, h1, h2⟩ := List.findIdx?_eq_some_iff_getElem.1 h
    exact ⟨i, hi, h1, fun j hj hji => by have := h2 j hji; simpa using this, by simp [fidx, h]⟩
theorem fidx_any {α : Type} (p : α → Bool) (s : List α) : decide (0 ≤ fidx p s) = s.any p := by
  rcases fidx_cases p s with ⟨i, h, h1, _, h3⟩ | ⟨h1, h2⟩
  · rw [h3]
    have : s.any p = true := List.any_eq_true.2 ⟨s[i], List.getElem_mem h, h1⟩
    simp [this]
  · rw [h2]
    have : s.any p = false := List.any_eq_false.2 fun x hx => by simp [h1 x hx]
    simp [this]

end Go.Ark
