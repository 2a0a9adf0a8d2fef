/- The plain law of NearestBack: what was reduced and expanded again, is it. Conditions: none but those that stand in each law. -/
import Derived.Test.YtildciopogbhcaaPlaw05
namespace Go.Ark
open Go Go.Ab Go.RowKit

theorem law05_NearestBack_plain (l_0 : (List Law05_Write)) (h0 : l_0.length ≤ reachBytes ∧ ∀ x, x ∈ l_0 → wfLaw05_Write x) : law05_NearestBack l_0 = some true := by
  obtain ⟨v, hv, h⟩ := law05_made_is h0
  have hlen := h.len
  unfold law05_NearestBack
  rw [law05_awake_eq, hv]
  simp only [Option.bind_some]
  rw [h.sound]
  simp only [Option.bind_some, Bool.not_true, Bool.false_eq_true, if_false]
  refine loopF_inv (fun (q : Int) => -1 ≤ q ∧ q ≤ (v.length : Int)) (fun q => ((v.length : Int) - q).toNat) (fun _ => some true) ?_ FU (-1) ⟨Int.le_refl _, by omega⟩ (by have := FU_big; omega)
  rintro again q ⟨h1, h2⟩ hag
  unfold law05_NearestBack_l2
  by_cases c : q < (v.length : Int)
  · rw [if_pos (by simpa using c), law05_all_eq h]
    simp only [Option.bind_some]
    have hk3 : ∀ p : List Api_Dep, PO p → p.length ≤ 8 → (∀ d, d ∈ p → d.Key ∈ keys8) → law05_NearestBack_k3 v again q p = some true := by
      intro p hp hpl hpk
      unfold law05_NearestBack_k3
      rw [wrap64 (by omega) (by omega), hag (q + 1) ⟨by omega, by omega⟩ (by omega), h.closedE hp.1 (by omega)]
      simp only [Option.bind_some]
      cases hc : closedP p v with
      | false => simp
      | true =>
        simp only [Bool.not_true, Bool.false_eq_true, if_false]
        have hrl : (redP p v).length ≤ p.length := List.length_filter_le _ _
        rw [h.reduce hp.1 (by omega)]
        simp only [Option.bind_some]
        rw [h.expand (by omega) fun d hd => k8_size (hpk d (redP_sub hd)), h.w.back hp hc]
        simp only [Option.bind_some]
        rw [ref04_Same_eq (by omega), decide_eq_true rfl]
        simp only [Option.bind_some, Bool.not_true, Bool.false_eq_true, if_false]
        unfold law05_NearestBack_k4
        rw [decide_eq_false (p := (p.length : Int) < ((redP p v).length : Int)) (by omega), wrap64 (by omega) (by omega), hag (q + 1) ⟨by omega, by omega⟩ (by omega)]
        simp only [Bool.false_eq_true, if_false]
        by_cases c0 : (0 : Int) < (p.length : Int)
        · rw [if_pos (by simpa using c0), if_neg]
          intro e
          rw [decide_eq_true_eq] at e
          refine h.w.some hp hc (fun e2 => ?_) (List.length_eq_zero_iff.1 (by omega))
          rw [e2] at c0; simp at c0
        · rw [if_neg (by simpa using c0)]
    by_cases c1 : 0 ≤ q
    · rw [if_pos (by simpa using c1), idx_int c1 c]
      simp only [Option.bind_some]
      have hm : v[q.toNat]'(by omega) ∈ v := List.getElem_mem _
      exact hk3 _ (h.w.past _ hm) (h.vlen hm) fun d hd => h.vk hm hd
    · rw [if_neg (by simpa using c1)]
      exact hk3 _ (pastOf_PO v) (h.plen fun _ hc => hc) fun d hd => (h.pk (fun _ hc => hc) hd).1
  · rw [if_neg (by simpa using c)]
    rfl
end Go.Ark
