/- The plain law of NearestOwn: of a past with the write itself put to it, it alone is left. Conditions: none but those that stand in each law. -/
import Derived.Test.YtildciopogbhcaaPlaw05
namespace Go.Ark
open Go Go.Ab Go.RowKit

theorem law05_NearestOwn_plain (l_0 : (List Law05_Write)) (h0 : l_0.length ≤ reachBytes ∧ ∀ x, x ∈ l_0 → wfLaw05_Write x) : law05_NearestOwn l_0 = some true := by
  obtain ⟨v, hv, h⟩ := law05_made_is h0
  have hlen := h.len
  unfold law05_NearestOwn
  rw [law05_awake_eq, hv]
  simp only [Option.bind_some]
  refine loopF_inv (fun (q : Int) => 0 ≤ q ∧ q ≤ (v.length : Int)) (fun q => ((v.length : Int) - q).toNat) (fun _ => some true) ?_ FU 0 ⟨Int.le_refl _, by omega⟩ (by have := FU_big; omega)
  rintro again q ⟨h1, h2⟩ hag
  unfold law05_NearestOwn_l2
  by_cases c : q < (v.length : Int)
  · rw [if_pos (by simpa using c), idx_int h1 c]
    simp only [Option.bind_some]
    have hm : v[q.toNat]'(by omega) ∈ v := List.getElem_mem _
    generalize v[q.toNat]'(by omega) = u at hm
    have hul := h.vlen hm
    rw [ref04_Merge_eq (l := [u.Past, [Api_Dep.mk u.Key u.Stamp]]) (fun p hp d hd => by
      simp only [List.mem_cons, List.not_mem_nil, or_false] at hp
      rcases hp with rfl | rfl
      · exact k8_size (h.vk hm hd)
      · simp at hd; subst hd; exact k8_size (h.key _ hm)) (by simp; omega) (by simp)]
    simp only [Option.bind_some]
    have e : mergeP [u.Past, [Api_Dep.mk u.Key u.Stamp]] = ownPast u := rfl
    have hol : (ownPast u).length ≤ 9 := by
      have := mergeFold_length [u.Past, [Api_Dep.mk u.Key u.Stamp]] []
      simp only [List.length_nil, List.map_cons, List.map_nil, List.sum_cons, List.sum_nil, List.length_cons] at this
      show (List.foldl foldP [] _).length ≤ 9
      exact Nat.le_trans this (by omega)
    have hos : sortedP (ownPast u) := (mergeP_PO _).1
    rw [e, h.reduce hos (Nat.le_trans hol (by decide)), h.w.own_red hm]
    simp only [Option.bind_some]
    rw [if_neg (by simp), idx_int (by omega) (by simp)]
    simp only [Option.bind_some, depOf, Int.toNat_zero, List.getElem_cons_zero]
    rw [if_neg (by simp), h.closedE hos (Nat.le_trans hol (by decide)), h.w.own_closed hm]
    simp only [Option.bind_some, Bool.not_true, Bool.false_eq_true, if_false]
    rw [wrap64 (by omega) (by omega)]
    exact hag _ ⟨by omega, by omega⟩ (by omega)
  · rw [if_neg (by simpa using c)]
    rfl
end Go.Ark
