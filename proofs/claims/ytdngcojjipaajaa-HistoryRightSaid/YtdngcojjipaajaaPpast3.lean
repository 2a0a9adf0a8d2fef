/- Plain laws: what is later than a stamp in pasts that were put together; pasts with the same stamps are the same. Conditions: none but those that stand in each law. -/
import Derived.Test.YtdngcojjipaajaaPpast2
namespace Go.Ark
open Go Go.Ab Go.RowKit

/-- a past is put together of its deps, one by one -/
theorem foldP_append : ∀ {p acc : List Api_Dep}, sortedP (acc ++ p) → (∀ d, d ∈ p → okDep d = true) → foldP acc p = acc ++ p
  | [], acc, _, _ => by simp [foldP]
  | x :: p, acc, hs, ho => by
    have hx : addP acc x = acc ++ [x] := by
      unfold addP
      have hsa : sortedP acc := (List.pairwise_append.1 hs).1
      rw [if_pos (ho x (by simp)), addGo_sorted hsa, insD_new (n := acc.length) (Nat.le_refl _) (fun j hj _ => (List.pairwise_append.1 hs).2.2 _ (List.getElem_mem hj) x (by simp)) (fun j hj h => by omega) fun y hy => slt_ne ((List.pairwise_append.1 hs).2.2 y hy x (by simp))]
      simp
    show foldP (addP acc x) p = acc ++ x :: p
    rw [hx, foldP_append (by simpa using hs) fun d hd => ho d (by simp [hd])]
    simp
theorem foldP_self {p : List Api_Dep} (hs : sortedP p) (ho : ∀ d, d ∈ p → okDep d = true) : foldP [] p = p := by
  rw [foldP_append (by simpa using hs) ho]; rfl

/-! the greatest stamps -/
theorem less_maxS {s a b : Api_Stamp} : lessP s (maxS a b) = true ↔ lessP s a = true ∨ lessP s b = true := by
  unfold maxS
  split
  · rename_i c
    exact ⟨.inr, fun h => h.elim (fun h => lessP_trans h c) id⟩
  · rename_i c
    exact ⟨.inl, fun h => h.elim id fun h => less_of_leS' h (by simpa [leS] using c)⟩

/-! what is later than a stamp, in pasts that were put together -/
theorem less_foldP {s : Api_Stamp} {k : ByteArray} : ∀ {p acc : List Api_Dep}, sortedP acc → lessP s (getP (foldP acc p) k) = true → lessP s (getP acc k) = true ∨ ∃ d, d ∈ p ∧ d.Key = k ∧ lessP s d.Stamp = true
  | [], _, _, h => .inl h
  | x :: p, acc, hs, h => by
    rcases less_foldP (p := p) (acc := addP acc x) (addP_sorted hs) h with h | ⟨d, h1, h2⟩
    · rw [getP_addP hs] at h
      split at h
      · rename_i c
        rcases less_maxS.1 h with h | h
        · exact .inl h
        · exact .inr ⟨x, by simp, c.2, h⟩
      · exact .inl h
    · exact .inr ⟨d, by simp [h1], h2⟩
theorem less_foldP' {s : Api_Stamp} {k : ByteArray} {p acc : List Api_Dep} (hs : sortedP acc) (ho : ∀ d, d ∈ p → okDep d = true) (h : lessP s (getP acc k) = true ∨ ∃ d, d ∈ p ∧ d.Key = k ∧ lessP s d.Stamp = true) : lessP s (getP (foldP acc p) k) = true := by
  rcases h with h | ⟨d, h1, rfl, h3⟩
  · exact less_of_leS' h (getP_foldP_le p hs k)
  · exact less_of_leS' h3 (getP_foldP_mem p hs h1 (ho d h1))
theorem not_less_zero {s : Api_Stamp} (h : leS ⟨0, 0⟩ s) : lessP s ⟨0, 0⟩ = false := h
theorem less_getP {s : Api_Stamp} (h0 : leS ⟨0, 0⟩ s) {k : ByteArray} {p : List Api_Dep} (hs : sortedP p) : (∃ d, d ∈ p ∧ d.Key = k ∧ lessP s d.Stamp = true) ↔ lessP s (getP p k) = true := by
  constructor
  · rintro ⟨d, h1, rfl, h3⟩
    rw [getP_mem hs h1]; exact h3
  · intro h
    rcases getP_cases p k with ⟨d, h1, h2, h3⟩ | ⟨_, h2⟩
    · exact ⟨d, h1, h2, by rw [← h3]; exact h⟩
    · rw [h2, not_less_zero h0] at h; cases h
/-- what is later than a stamp, and may be -/
def gives (p : List Api_Dep) (k : ByteArray) (s : Api_Stamp) : Prop := ∃ d, d ∈ p ∧ okDep d = true ∧ d.Key = k ∧ lessP s d.Stamp = true
theorem less_fold_iff {s : Api_Stamp} {k : ByteArray} : ∀ {p acc : List Api_Dep}, sortedP acc → (lessP s (getP (foldP acc p) k) = true ↔ lessP s (getP acc k) = true ∨ gives p k s)
  | [], acc, _ => by
    show lessP s (getP acc k) = true ↔ _
    simp [gives]
  | x :: p, acc, hs => by
    show lessP s (getP (foldP (addP acc x) p) k) = true ↔ _
    rw [less_fold_iff (p := p) (acc := addP acc x) (addP_sorted hs), getP_addP hs]
    unfold gives
    constructor
    · rintro (h | ⟨d, h1, h2⟩)
      · split at h
        · rename_i c
          rcases less_maxS.1 h with h | h
          · exact .inl h
          · exact .inr ⟨x, by simp, c.1, c.2, h⟩
        · exact .inl h
      · exact .inr ⟨d, by simp [h1], h2⟩
    · rintro (h | ⟨d, h1, h2, h3, h4⟩)
      · left
        split
        · exact less_maxS.2 (.inl h)
        · exact h
      · rcases List.mem_cons.1 h1 with rfl | h1
        · left
          rw [if_pos ⟨h2, h3⟩]
          exact less_maxS.2 (.inr h4)
        · exact .inr ⟨d, h1, h2, h3, h4⟩

theorem getP_zero_le {p : List Api_Dep} (ho : ∀ d, d ∈ p → okDep d = true) (k : ByteArray) : leS ⟨0, 0⟩ (getP p k) := zero_le_getP ho k
theorem getP_ext {p q : List Api_Dep} (hp : ∀ d, d ∈ p → okDep d = true) (hq : ∀ d, d ∈ q → okDep d = true) {k : ByteArray} (h : ∀ s, leS ⟨0, 0⟩ s → (lessP s (getP p k) = true ↔ lessP s (getP q k) = true)) : getP p k = getP q k := by
  have h1 := h _ (getP_zero_le hp k)
  have h2 := h _ (getP_zero_le hq k)
  rw [lessP_irrefl] at h1 h2
  refine lessP_tri ?_ ?_
  · cases c : lessP (getP p k) (getP q k) with
    | false => rfl
    | true => exact absurd (h1.2 c) (by simp)
  · cases c : lessP (getP q k) (getP p k) with
    | false => rfl
    | true => exact absurd (h2.1 c) (by simp)

theorem okDep_pos {d : Api_Dep} (h : okDep d = true) : d.Stamp ≠ ⟨0, 0⟩ := fun e => by
  have := zero_leS (okDep_stamp h)
  rw [e, lessP_irrefl] at this; cases this
theorem mem_getP {p : List Api_Dep} (hs : sortedP p) (_ho : ∀ d, d ∈ p → okDep d = true) {d : Api_Dep} (hd : okDep d = true) : d ∈ p ↔ getP p d.Key = d.Stamp := by
  constructor
  · exact getP_mem hs
  · intro h
    rcases getP_cases p d.Key with ⟨x, h1, h2, h3⟩ | ⟨_, h2⟩
    · have : x = d := by
        rw [h] at h3
        cases x; cases d
        simp at h2 h3
        rw [h2, h3]
      rw [← this]; exact h1
    · rw [h2] at h; exact absurd h.symm (okDep_pos hd)
theorem past_sorted_ext : ∀ {a b : List Api_Dep}, sortedP a → sortedP b → (∀ v, v ∈ a ↔ v ∈ b) → a = b
  | [], [], _, _, _ => rfl
  | [], y :: b, _, _, h => absurd ((h y).2 (by simp)) (by simp)
  | x :: a, [], _, _, h => absurd ((h x).1 (by simp)) (by simp)
  | x :: a, y :: b, ha, hb, h => by
    obtain ⟨a1, a2⟩ := List.pairwise_cons.1 ha
    obtain ⟨b1, b2⟩ := List.pairwise_cons.1 hb
    have hxy : x = y := by
      rcases List.mem_cons.1 ((h x).1 (by simp)) with e | hx
      · exact e
      · rcases List.mem_cons.1 ((h y).2 (by simp)) with e | hy
        · exact e.symm
        · have h1 := a1 y hy
          have h2 := slt_asymm (b1 x hx)
          rw [h1] at h2; cases h2
    subst hxy
    rw [past_sorted_ext a2 b2 fun v => ?_]
    have hv := h v
    simp only [List.mem_cons] at hv
    constructor
    · intro hva
      rcases hv.1 (.inr hva) with rfl | h1
      · have := a1 _ hva; rw [slt_irrefl] at this; cases this
      · exact h1
    · intro hvb
      rcases hv.2 (.inr hvb) with rfl | h1
      · have := b1 _ hvb; rw [slt_irrefl] at this; cases this
      · exact h1
theorem past_ext {p q : List Api_Dep} (hp : sortedP p) (hq : sortedP q) (op : ∀ d, d ∈ p → okDep d = true) (oq : ∀ d, d ∈ q → okDep d = true) (h : ∀ k s, leS ⟨0, 0⟩ s → (lessP s (getP p k) = true ↔ lessP s (getP q k) = true)) : p = q :=
  past_sorted_ext hp hq fun d => by
    have e : getP p d.Key = getP q d.Key := getP_ext op oq (h d.Key)
    constructor
    · intro hd; exact (mem_getP hq oq (op d hd)).2 (by rw [← e]; exact getP_mem hp hd)
    · intro hd; exact (mem_getP hp op (oq d hd)).2 (by rw [e]; exact getP_mem hq hd)
end Go.Ark
