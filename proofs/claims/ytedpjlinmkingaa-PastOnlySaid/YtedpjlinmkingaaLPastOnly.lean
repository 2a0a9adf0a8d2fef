/- The plain law of PastOnly: those of a range are just the deps whose keys lie there. Conditions: none but those that stand in each law. -/
import Derived.Test.YtedpjlinmkingaaPlaw04
namespace Go.Ark
open Go Go.Ab Go.RowKit

theorem own_one (r : Api_Range) (k : ByteArray) : ownP [r] k = (!slt k r.From && (decide (r.To = ByteArray.empty) || slt k r.To)) := by
  simp [ownP, hasP]
theorem own_all (k : ByteArray) : ownP [⟨ByteArray.empty, ByteArray.empty⟩] k = true := by
  rw [own_one, slt_empty]; simp
theorem sortedP_filter {p : List Api_Dep} (hs : sortedP p) (f : Api_Dep → Bool) : sortedP (p.filter f) := hs.filter f

theorem law04_PastOnly_plain (l_0 : (List Api_Dep)) (r_1 : Api_Range) (_h0 : l_0.length ≤ reachBytes ∧ ∀ x, x ∈ l_0 → wfApi_Dep x) (_h1 : wfApi_Range r_1) : law04_PastOnly l_0 r_1 = some true := by
  obtain ⟨p, hp, hI, hl⟩ := law04_made_tot l_0
  unfold law04_PastOnly
  rw [law04_awake_eq, hp]
  simp only [Option.bind_some]
  rw [past_Only_eq (by omega) (by simp)]
  simp only [Option.bind_some]
  have hfl := List.length_filter_le (fun d : Api_Dep => ownP [r_1] d.Key) p
  have hfs := sortedP_filter hI.1 (fun d : Api_Dep => ownP [r_1] d.Key)
  have hget : ∀ d, d ∈ p → getP (p.filter fun d => ownP [r_1] d.Key) d.Key = if ownP [r_1] d.Key = true then d.Stamp else ⟨0, 0⟩ := fun d hd => by
    split
    · rename_i c
      exact getP_mem hfs (List.mem_filter.2 ⟨hd, c⟩)
    · rename_i c
      refine getP_none fun x hx hk => ?_
      have := (List.mem_filter.1 hx).2
      rw [hk] at this
      exact c this
  refine loopF_inv (fun (i : Int) => 0 ≤ i ∧ i ≤ (p.length : Int)) (fun i => ((p.length : Int) - i).toNat) (fun _ => some true) ?_ FU 0 ⟨Int.le_refl _, by omega⟩ (by have := FU_big; omega)
  rintro again i' ⟨g1, g2⟩ hag
  obtain ⟨i, rfl⟩ : ∃ i : Nat, i' = i := ⟨i'.toNat, by omega⟩
  unfold law04_PastOnly_l5
  by_cases c : (i : Int) < (p.length : Int)
  · have hi : i < p.length := by omega
    rw [if_pos (by simpa using c), idx_at hi]
    simp only [Option.bind_some, seq_eq]
    have hk6 : ∀ b : Bool, b = ownP [r_1] p[i].Key → law04_PastOnly_k6 p (p.filter fun d => ownP [r_1] d.Key) again (i : Int) b = some true := by
      rintro b rfl
      unfold law04_PastOnly_k6
      rw [idx_at hi]
      simp only [Option.bind_some]
      rw [past_Get_eq hfs (by omega), hget _ (List.getElem_mem hi)]
      simp only [Option.bind_some]
      have hgo : again ((i : Int) + 1) = some true := hag _ ⟨by omega, by omega⟩ (by omega)
      cases ownP [r_1] p[i].Key with
      | true =>
        simp only [if_true]
        unfold law04_PastOnly_k7
        rw [wrap64 (by omega) (by omega)]
        simpa using hgo
      | false =>
        simp only [Bool.false_eq_true, if_false]
        unfold law04_PastOnly_k7
        rw [wrap64 (by omega) (by omega)]
        simpa using hgo
    cases h1 : slt p[i].Key r_1.From with
    | true =>
      simp only [Bool.not_true, Bool.false_eq_true, if_false]
      exact hk6 false (by rw [own_one, h1]; rfl)
    | false =>
      simp only [Bool.not_false, if_true]
      by_cases h2 : r_1.To = ByteArray.empty
      · rw [if_pos (decide_eq_true h2)]
        exact hk6 true (by rw [own_one, h1, decide_eq_true h2]; rfl)
      · rw [if_neg (by simpa using h2)]
        exact hk6 _ (by rw [own_one, h1, decide_eq_false h2]; rfl)
  · rw [if_neg (by simpa using c)]
    unfold law04_PastOnly_k1
    simp only [if_true]
    have hcov : coversP p (p.filter fun d => ownP [r_1] d.Key) = true := by
      unfold coversP
      refine List.all_eq_true.2 fun d hd => ?_
      rw [getP_mem hI.1 (List.mem_filter.1 hd).1, lessP_irrefl]
      rfl
    rw [past_Covers_eq hI.1 (by omega) (by omega), hcov]
    simp only [Option.bind_some]
    unfold law04_PastOnly_k2
    rw [if_pos rfl, decide_eq_true (by omega)]
    unfold law04_PastOnly_k3
    rw [if_pos rfl, past_Only_eq (by omega) (by simp)]
    simp only [Option.bind_some]
    rw [List.filter_eq_self.2 fun d _ => own_all d.Key, past_Same_eq (by omega)]
    simp only [Option.bind_some, decide_true]
    unfold law04_PastOnly_k4
    rw [if_pos rfl, past_Only_eq (by omega) (by simp)]
    simp only [Option.bind_some]
    have : (p.filter fun d => ownP [] d.Key) = [] := List.filter_eq_nil_iff.2 fun d _ => by simp [ownP]
    rw [this]
    rfl
end Go.Ark
