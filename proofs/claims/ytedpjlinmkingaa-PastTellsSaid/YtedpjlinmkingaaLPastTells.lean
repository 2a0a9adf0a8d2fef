/- The plain law of PastTells: pasts are asked, added to and put together as the reference does it. Conditions: none but those that stand in each law. -/
import Derived.Test.YtedpjlinmkingaaPlaw04
namespace Go.Ark
open Go Go.Ab Go.RowKit

/-- once more changes nothing -/
theorem merge_again {p o : List Api_Dep} (hp : ∀ d, d ∈ p → okDep d = true) : mergeP [p, o, p] = mergeP [p, o] := by
  show foldP (foldP (foldP [] p) o) p = foldP (foldP [] p) o
  have h0 : sortedP (foldP [] p) := foldP_sorted p [] List.Pairwise.nil
  refine foldP_covered (foldP_sorted o _ h0) fun d hd => ?_
  exact leS_trans (getP_foldP_mem p List.Pairwise.nil hd (hp d hd)) (getP_foldP_le o h0 d.Key)

theorem law04_PastTells_plain (l_0 : (List Api_Dep)) (m_1 : (List Api_Dep)) (q_2 : Law04_Ask) (_h0 : l_0.length ≤ reachBytes ∧ ∀ x, x ∈ l_0 → wfApi_Dep x) (_h1 : m_1.length ≤ reachBytes ∧ ∀ x, x ∈ m_1 → wfApi_Dep x) (h2 : wfLaw04_Ask q_2) : law04_PastTells l_0 m_1 q_2 = some true := by
  obtain ⟨p, hp, hI, hl⟩ := law04_made_tot l_0
  obtain ⟨o, ho, hO, hm⟩ := law04_made_tot m_1
  have hk : q_2.Dep.Key.size ≤ 9223372036854775807 := Nat.le_trans h2.1.1 (by decide)
  have hal := addP_length p q_2.Dep
  have hkp : ∀ (p : List Api_Dep), PI p → ∀ d, d ∈ p → d.Key.size ≤ 9223372036854775807 := fun p hI d hd => Nat.le_trans (hI.2.2 d hd) (by decide)
  have hmain : ∀ r : List Api_Range, r.length ≤ 140737488355328 → law04_PastTells_k1 q_2 true p o r = some true := by
    intro r hr
    have hlen2 : (mergeP [p, o]).length ≤ 24 := by
      have := mergeFold_length [p, o] []
      simp only [List.map_cons, List.map_nil, List.sum_cons, List.sum_nil, List.length_nil] at this
      unfold mergeP; omega
    unfold law04_PastTells_k1
    rw [past_Add_eq hI.1 hI.2.1 (by omega) hk, ref04_Add_eq (by omega) hk]
    simp only [Option.bind_some]
    rw [ref04_Same_eq (by omega), decide_eq_true rfl]
    simp only [Option.bind_some]
    rw [past_Merge_eq (l := [p, o, p]) (fun q hq => by simp at hq; rcases hq with rfl | rfl | rfl <;> exact hkp _ (by assumption)) (by simp; omega) (by simp),
      ref04_Merge_eq (l := [p, o]) (fun q hq => by simp at hq; rcases hq with rfl | rfl <;> exact hkp _ (by assumption)) (by simp; omega) (by simp), merge_again hI.2.1]
    simp only [Option.bind_some]
    rw [ref04_Same_eq (by omega), decide_eq_true rfl]
    simp only [Option.bind_some]
    rw [past_Only_eq (by omega) hr, ref04_Only_eq (by omega) hr]
    simp only [Option.bind_some]
    rw [ref04_Same_eq (Nat.le_trans (List.length_filter_le _ _) (by omega)), decide_eq_true rfl]
    simp only [Option.bind_some, if_true]
    rw [past_Get_eq hI.1 (by omega), ref04_Get_eq (by omega)]
    simp only [Option.bind_some, stampEq, decide_true, if_true]
    rw [past_Covers_eq hI.1 (by omega) (by omega), ref04_Covers_eq (by omega) (by omega)]
    simp only [Option.bind_some, beq_self_eq_true, if_true]
    rw [past_Same_eq (by omega), ref04_Same_eq (by omega)]
    simp only [Option.bind_some, beq_self_eq_true, if_true]
    rw [past_Check_eq (by omega) (hkp p hI)]
    have : okPast p = true := by
      unfold okPast
      rw [chainP_iff.2 ⟨hI.2.1, hI.1, by intro k h; cases h⟩, decide_eq_true (by omega)]
      rfl
    rw [this]
    rfl
  unfold law04_PastTells
  rw [law04_awake_eq, hp, ho]
  simp only [Option.bind_some]
  have hrl : q_2.Ranges.length ≤ 140737488355328 := Nat.le_trans h2.2.1 (by decide)
  by_cases c : 5 < q_2.Ranges.length
  · rw [if_pos (decide_eq_true (by omega))]
    have : sub q_2.Ranges 0 5 = some (q_2.Ranges.take 5) := by
      unfold sub
      rw [if_pos ⟨by omega, by omega, by omega⟩]
      simp
    rw [this]
    simp only [Option.bind_some]
    exact hmain _ (by rw [List.length_take]; omega)
  · rw [if_neg (by rw [decide_eq_true_eq]; omega)]
    exact hmain _ hrl
end Go.Ark
