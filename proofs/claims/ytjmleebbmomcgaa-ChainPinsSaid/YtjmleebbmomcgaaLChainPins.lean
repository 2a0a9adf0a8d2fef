/- The plain law of ChainPins: what is pinned is kept; without pins the head alone is kept. Conditions: none but those that stand in each law. -/
import Derived.Test.YtjmleebbmomcgaaPchain2
namespace Go.Ark
open Go Go.Ab Go.RowKit

theorem okVersion_stamp {v : Api_Version} (h : okVersion v = true) : okStamp v.Stamp = true := by
  simp only [okVersion, Bool.and_eq_true] at h; exact h.2.1

theorem clean_one {c : List Api_Version} (hI : CI c) : (c = [] ∧ cleanP c ⟨1099511627777, 0⟩ [] = []) ∨ ∃ v, lastP c = (v, true) ∧ cleanP c ⟨1099511627777, 0⟩ [] = [v] := by
  rcases nil_or_snoc c with rfl | ⟨l, v, rfl⟩
  · exact .inl ⟨rfl, rfl⟩
  · right
    refine ⟨v, lastP_concat _ _, ?_⟩
    have hless : ∀ x, x ∈ l ++ [v] → lessP x.Stamp ⟨1099511627777, 0⟩ = true := fun x hx => by
      have := okVersion_stamp (hI.2 x hx).2.2
      simp only [okStamp, Bool.and_eq_true, decide_eq_true_eq] at this
      rw [lessP_iff]; exact .inl (by simp only; omega)
    have hb : belowP (l ++ [v]) ⟨1099511627777, 0⟩ = (v, true) := by
      unfold belowP
      rw [List.filter_eq_self.2 fun x hx => by rw [lessP_asymm (hless x hx)]; rfl]
      exact lastP_concat _ _
    have hk : ∀ x, x ∈ l ++ [v] → keepsP (l ++ [v]) ⟨1099511627777, 0⟩ [] x = decide (x = v) := fun x hx => by
      unfold keepsP
      rw [hb, lastP_concat, hless x hx]
      by_cases e : x = v
      · subst e; simp
      · have : ¬ v = x := fun h => e h.symm
        simp [e, this]
    unfold cleanP
    rw [List.filter_congr hk, List.filter_append, List.filter_eq_nil_iff.2]
    · simp
    · intro x hx
      have := (List.pairwise_append.1 hI.1).2.2 x hx v (by simp)
      simp only [decide_eq_true_eq]
      intro e
      rw [e, lessP_irrefl] at this; cases this

theorem law12_ChainPins_plain (l_0 : (List Api_Stamp)) (_h0 : l_0.length ≤ reachBytes ∧ ∀ x, x ∈ l_0 → wfApi_Stamp x) : law12_ChainPins l_0 = some true := by
  obtain ⟨c, hc, hI, hl⟩ := law12_made_tot l_0
  have hp := CI_past hI
  have hpl := CI_pastlen hI
  unfold law12_ChainPins
  rw [law12_awake_eq, hc]
  simp only [Option.bind_some]
  have hk1 : law12_ChainPins_k1 true c (c.map (·.Stamp)) = some true := by
    unfold law12_ChainPins_k1
    have hall : cleanP c ⟨1099511627777, 0⟩ (c.map (·.Stamp)) = c := List.filter_eq_self.2 fun v hv => keepsP_pin (List.mem_map_of_mem hv)
    have hnone : cleanP c ⟨0, 0⟩ [] = c := List.filter_eq_self.2 fun v hv => keepsP_late (by
      have := zero_leS (okVersion_stamp (hI.2 v hv).2.2)
      exact lessP_asymm this)
    rw [chain_Clean_eq (by omega) hI.1 hp (by simp; omega), chain_Clean_eq (by omega) hI.1 hp (by simp), chain_Clean_eq (by omega) hI.1 hp (by simp), hall, hnone]
    simp only [Option.bind_some]
    rw [ref12_Same_eq (by omega) hpl]
    simp only [Option.bind_some, decide_true]
    unfold law12_ChainPins_k2
    rcases clean_one hI with ⟨rfl, h2⟩ | ⟨v, h1, h2⟩
    · rw [h2]; simp
    · obtain ⟨c', rfl⟩ := lastP_some h1
      rw [h2]
      simp only [List.length_append, List.length_cons, List.length_nil] at hl ⊢
      rw [if_pos (by simp), wrap64 (by omega) (by omega), show (((c'.length + (0 + 1) : Nat) : Int) - 1) = ((c'.length : Nat) : Int) by omega, idx_at (by simp)]
      have e0 : idx [v] 0 = some v := rfl
      rw [e0]
      simp
  refine loopF_inv (fun (v : Int × List Api_Stamp) => 0 ≤ v.1 ∧ v.1 ≤ (c.length : Int) ∧ v.2 = (c.take v.1.toNat).map (·.Stamp)) (fun v => ((c.length : Int) - v.1).toNat) (fun _ => some true) ?_ FU (0, []) ⟨Int.le_refl _, by simp, by simp⟩ (by have := FU_big; simp only; omega)
  rintro again ⟨i', pins⟩ ⟨h1, h2, h3⟩ hag
  simp only at h1 h2 h3
  obtain ⟨i, rfl⟩ : ∃ i : Nat, i' = i := ⟨i'.toNat, by omega⟩
  simp only [Int.toNat_natCast] at h3
  unfold law12_ChainPins_l3
  simp only
  by_cases g : (i : Int) < (c.length : Int)
  · have hi : i < c.length := by omega
    have hpn : pins.length = i := by rw [h3]; simp; omega
    rw [if_pos (by simpa using g), idx_at hi]
    simp only [Option.bind_some]
    rw [app_ok (by simp; omega) (by simp; omega), wrap64 (by omega) (by omega)]
    simp only [Option.bind_some]
    refine hag _ ⟨by simp only; omega, by simp only; omega, ?_⟩ (by simp only; omega)
    simp only [show ((i : Int) + 1).toNat = i + 1 by omega]
    rw [h3, List.take_add_one, List.getElem?_eq_getElem hi, List.map_append]
    rfl
  · rw [if_neg (by simpa using g), h3, List.take_of_length_le (by omega)]
    exact hk1
end Go.Ark
