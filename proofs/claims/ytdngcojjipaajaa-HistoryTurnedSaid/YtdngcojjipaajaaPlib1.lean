/- Plain laws of the slice functions: printed by a program of mine, one copy for each element type. Conditions: none but those that stand in each law. -/
import Derived.Test.YtdngcojjipaajaaP0
import Derived.Test.YtdngcojjipaajaaFlib
namespace Go.Ark
open Go Go.Ab

def fidx {α : Type} (p : α → Bool) (s : List α) : Int := match s.findIdx? p with | some i => (i : Int) | none => -1

theorem fidx_some {α : Type} {p : α → Bool} {s : List α} {i : Nat} (hi : i < s.length) (h1 : p s[i] = true) (h2 : ∀ j (hj : j < s.length), j < i → p s[j] = false) : fidx p s = i := by
  have : s.findIdx? p = some i := List.findIdx?_eq_some_iff_getElem.2 ⟨hi, h1, fun j hj => by simp [h2 j (by omega) hj]⟩
  simp [fidx, this]
theorem fidx_none {α : Type} {p : α → Bool} {s : List α} (h : ∀ j (hj : j < s.length), p s[j] = false) : fidx p s = -1 := by
  have : s.findIdx? p = none := List.findIdx?_eq_none_iff.2 fun x hx => by obtain ⟨j, hj, rfl⟩ := List.getElem_of_mem hx; exact h j hj
  simp [fidx, this]
theorem fidx_cases {α : Type} (p : α → Bool) (s : List α) : (∃ i, ∃ h : i < s.length, p s[i] = true ∧ (∀ j (hj : j < s.length), j < i → p s[j] = false) ∧ fidx p s = i) ∨ ((∀ x, x ∈ s → p x = false) ∧ fidx p s = -1) := by
  cases h : s.findIdx? p with
  | none =>
    right
    have := List.findIdx?_eq_none_iff.1 h
    exact ⟨this, by simp [fidx, h]⟩
  | some i =>
    left
    obtain ⟨hi, h1, h2⟩ := List.findIdx?_eq_some_iff_getElem.1 h
    exact ⟨i, hi, h1, fun j hj hji => by have := h2 j hji; simpa using this, by simp [fidx, h]⟩
theorem fidx_any {α : Type} (p : α → Bool) (s : List α) : decide (0 ≤ fidx p s) = s.any p := by
  rcases fidx_cases p s with ⟨i, h, h1, _, h3⟩ | ⟨h1, h2⟩
  · rw [h3]
    have : s.any p = true := List.any_eq_true.2 ⟨s[i], List.getElem_mem h, h1⟩
    simp [this]
  · rw [h2]
    have : s.any p = false := List.any_eq_false.2 fun x hx => by simp [h1 x hx]
    simp [this]

theorem slices_IndexFunc_Dep_eq {s : List Api_Dep} {f : Api_Dep → Option Bool} {p : Api_Dep → Bool} (hf : ∀ x, x ∈ s → f x = some (p x)) (hl : s.length ≤ 140737488355328) : slices_IndexFunc_Dep s f = some (fidx p s) := by
  unfold slices_IndexFunc_Dep
  refine loopF_inv (fun v => 0 ≤ v ∧ v ≤ (s.length : Int) ∧ ∀ j (hj : j < s.length), (j : Int) < v → p s[j] = false) (fun v => (s.length - v).toNat) (fun _ => some (fidx p s)) ?_ FU _ ⟨Int.le_refl _, by omega, fun j _ h => by omega⟩ ?_
  · rintro again v ⟨h1, h2, h3⟩ hag
    unfold slices_IndexFunc_Dep_l2
    by_cases c : v < (s.length : Int)
    · obtain ⟨i, rfl⟩ : ∃ i : Nat, v = i := ⟨v.toNat, by omega⟩
      have hi : i < s.length := by omega
      rw [if_pos (by simpa using c), idx_at hi]
      simp only [Option.bind_some, hf _ (List.getElem_mem hi)]
      cases hp : p s[i] with
      | true => simp only [if_true]; rw [fidx_some hi hp (fun j hj h => h3 j hj (by omega))]
      | false =>
        simp only [Bool.false_eq_true, if_false]
        rw [wrap64 (by omega) (by omega)]
        refine hag _ ⟨by omega, by omega, fun j hj h => ?_⟩ (by omega)
        rcases Nat.lt_or_ge j i with h4 | h4
        · exact h3 j hj (by omega)
        · rw [show s[j] = s[i] from by congr 1; omega]; exact hp
    · rw [if_neg (by simpa using c)]
      simp only [slices_IndexFunc_Dep_k1]
      rw [fidx_none fun j hj => h3 j hj (by omega)]
  · have := FU_big
    omega

theorem slices_Clone_Dep_eq {s : List Api_Dep} (hl : s.length ≤ 1099511627776) (hl2 : s.length * 32 ≤ 140737488355328) : slices_Clone_Dep s = some s := by
  unfold slices_Clone_Dep
  rw [app_ok (by simpa using hl) (by simpa using hl2)]
  rfl

theorem cmp_eq (x y : ByteArray) : cmp_Compare_string x y = some (if slt x y then -1 else if slt y x then 1 else 0) := by
  have hx : cmp_isNaN_string x = some false := by simp [cmp_isNaN_string, seq_eq]
  have hy : cmp_isNaN_string y = some false := by simp [cmp_isNaN_string, seq_eq]
  unfold cmp_Compare_string
  rw [hx, hy]
  simp only [Option.bind_some, Bool.false_eq_true, if_false]
  cases h1 : slt x y
  · simp only [Bool.false_eq_true, if_false, Bool.false_or, seq_eq]
    cases h2 : slt y x
    · have := slt_tri h1 h2; simp [this]
    · have := slt_ne h2; simp; exact fun c => this c.symm
  · simp

end Go.Ark
