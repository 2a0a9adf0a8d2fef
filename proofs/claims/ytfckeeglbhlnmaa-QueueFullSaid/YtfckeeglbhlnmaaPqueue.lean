/- Plain laws: what a queue misses, and what comes out. Conditions: none but those that stand in each law. -/
import Derived.Test.YtfckeeglbhlnmaaPpast
import Derived.Test.YtfckeeglbhlnmaaFqueue
namespace Go.Ark
open Go Go.Ab Go.RowKit

def missP (past : List Api_Dep) (have_ : List Api_Dep) (own : List Api_Range) : List Api_Dep := (past.filter fun d => ownP own d.Key).filter fun d => lessP (getP have_ d.Key) d.Stamp

theorem queue_Misses_eq {v : Api_Version} {h : List Api_Dep} {own : List Api_Range} (hv : v.Past.length ≤ 1099511627776) (hs : sortedP h) (hh : h.length ≤ 140737488355328) (hl : own.length ≤ 140737488355328) : queue_Misses v h own = some (missP v.Past h own) := by
  unfold queue_Misses
  rw [past_Only_eq hv hl]
  simp only [Option.bind_some]
  rw [slices_DeleteFunc_Dep_eq (p := fun d => !lessP (getP h d.Key) d.Stamp) (fun x _ => by
    unfold queue_Misses_1
    rw [past_Get_eq hs hh]
    simp only [Option.bind_some, stamp_Less_eq]) (Nat.le_trans (List.length_filter_le _ _) (by omega))]
  simp [missP]

theorem queue_Check_eq {v : Api_Version} {h : List Api_Dep} {own : List Api_Range} (hv : v.Past.length ≤ 1099511627776) (hs : sortedP h) (hh : h.length ≤ 140737488355328) (hl : own.length ≤ 140737488355328) : queue_Check v h own = some (decide (missP v.Past h own = [])) := by
  unfold queue_Check
  rw [queue_Misses_eq hv hs hh hl]
  simp only [Option.bind_some]
  congr 1
  cases missP v.Past h own with
  | nil => simp
  | cons a b => simp; omega

/-- the first one that misses nothing comes out -/
theorem queue_Next_eq {l : List Api_Version} {h : List Api_Dep} {own : List Api_Range} (hll : l.length ≤ 1099511627776) (hv : ∀ v, v ∈ l → v.Past.length ≤ 1099511627776) (hs : sortedP h) (hh : h.length ≤ 140737488355328) (hl : own.length ≤ 140737488355328) :
    (∃ i, ∃ hi : i < l.length, (∀ j (hj : j < l.length), j < i → missP l[j].Past h own ≠ []) ∧ missP l[i].Past h own = [] ∧ queue_Next l h own = some (l[i], l.take i ++ l.drop (i + 1), true)) ∨
    ((∀ v, v ∈ l → missP v.Past h own ≠ []) ∧ queue_Next l h own = some (Api_Version.mk ByteArray.empty ByteArray.empty false (Api_Stamp.mk 0 0) [], l, false)) := by
  have main : ∀ res, ((∃ i, ∃ hi : i < l.length, (∀ j (hj : j < l.length), j < i → missP l[j].Past h own ≠ []) ∧ missP l[i].Past h own = [] ∧ res = some (l[i], l.take i ++ l.drop (i + 1), true)) ∨
    ((∀ v, v ∈ l → missP v.Past h own ≠ []) ∧ res = some (Api_Version.mk ByteArray.empty ByteArray.empty false (Api_Stamp.mk 0 0) [], l, false))) → queue_Next l h own = res := by
    intro res hres
    unfold queue_Next
    refine loopF_inv (fun v => 0 ≤ v ∧ v ≤ (l.length : Int) ∧ ∀ j (hj : j < l.length), (j : Int) < v → missP l[j].Past h own ≠ []) (fun v => (l.length - v).toNat) (fun _ => res) ?_ FU _ ⟨Int.le_refl _, by omega, fun j _ h => by omega⟩ ?_
    · rintro again v ⟨h1, h2, h3⟩ hag
      unfold queue_Next_l2
      by_cases c : v < (l.length : Int)
      · obtain ⟨i, rfl⟩ : ∃ i : Nat, v = i := ⟨v.toNat, by omega⟩
        have hi : i < l.length := by omega
        rw [if_pos (by simpa using c), idx_at hi]
        simp only [Option.bind_some, queue_Check_eq (hv _ (List.getElem_mem hi)) hs hh hl]
        rw [wrap64 (by omega) (by omega)]
        by_cases hm : missP l[i].Past h own = []
        · simp only [hm, decide_true, Bool.not_true, Bool.false_eq_true, if_false]
          have e1 : sub l 0 (i : Int) = some (l.take i) := by simp only [sub]; rw [if_pos ⟨by omega, by omega, by omega⟩]; simp
          have e2 : sub l ((i : Int) + 1) (l.length : Int) = some (l.drop (i + 1)) := by
            simp only [sub]; rw [if_pos ⟨by omega, by omega, by omega⟩]
            simp only [Int.toNat_natCast, List.take_length]
            congr 1
          rw [e1, e2]
          simp only [Option.bind_some]
          rw [app_ok (by simp; omega) (by simp; omega)]
          simp only [Option.bind_some]
          rcases hres with ⟨i', hi', h4, h5, rfl⟩ | ⟨h4, _⟩
          · have : i = i' := by
              rcases Nat.lt_trichotomy i i' with h6 | h6 | h6
              · exact absurd hm (h4 i hi h6)
              · exact h6
              · exact absurd h5 (h3 i' hi' (by omega))
            subst this; rfl
          · exact absurd hm (h4 _ (List.getElem_mem hi))
        · simp only [decide_eq_false hm, Bool.not_false, if_true]
          refine hag _ ⟨by omega, by omega, fun j hj h => ?_⟩ (by omega)
          rcases Nat.lt_or_ge j i with h4 | h4
          · exact h3 j hj (by omega)
          · have e : j = i := by omega
            subst e; exact hm
      · rw [if_neg (by simpa using c)]
        simp only [queue_Next_k1]
        rcases hres with ⟨i', hi', h4, h5, rfl⟩ | ⟨_, rfl⟩
        · exact absurd h5 (h3 i' hi' (by omega))
        · rfl
    · have := FU_big
      omega
  by_cases hex : ∃ v, v ∈ l ∧ missP v.Past h own = []
  · left
    rcases fidx_cases (fun v : Api_Version => decide (missP v.Past h own = [])) l with ⟨i, hi, h1, h2, _⟩ | ⟨h1, _⟩
    · have h3 : ∀ j (hj : j < l.length), j < i → missP l[j].Past h own ≠ [] := fun j hj hji => by simpa using h2 j hj hji
      exact ⟨i, hi, h3, by simpa using h1, main _ (.inl ⟨i, hi, h3, by simpa using h1, rfl⟩)⟩
    · obtain ⟨v, hv, hm⟩ := hex
      have := h1 v hv
      simp [hm] at this
  · right
    have : ∀ v, v ∈ l → missP v.Past h own ≠ [] := fun v hv c => hex ⟨v, hv, c⟩
    exact ⟨this, main _ (.inr ⟨this, rfl⟩)⟩

end Go.Ark
