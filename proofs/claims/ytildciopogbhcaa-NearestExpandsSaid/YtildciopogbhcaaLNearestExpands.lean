/- The plain law of NearestExpands: what was expanded covers what it was made of. Conditions: none but those that stand in each law. -/
import Derived.Test.YtildciopogbhcaaPlaw05
namespace Go.Ark
open Go Go.Ab Go.RowKit

theorem law05_NearestExpands_plain (l_0 : (List Law05_Write)) (m_1 : (List Api_Dep)) (h0 : l_0.length ≤ reachBytes ∧ ∀ x, x ∈ l_0 → wfLaw05_Write x) (_h1 : m_1.length ≤ reachBytes ∧ ∀ x, x ∈ m_1 → wfApi_Dep x) : law05_NearestExpands l_0 m_1 = some true := by
  obtain ⟨v, hv, h⟩ := law05_made_is h0
  obtain ⟨p, hp, hpo, hpk, hpl⟩ := law05_few_tot m_1
  have hal : (pastOf v).length ≤ 8 := h.plen fun _ hc => hc
  have hlen := h.len
  unfold law05_NearestExpands
  rw [law05_awake_eq, hv, hp]
  simp only [Option.bind_some]
  have hel : (expP p v).length ≤ 1000000 := by
    have h1 := mergeFold_length (p :: p.map fun d => (findV v d).1.Past) []
    have h2 : ∀ q : List Api_Dep, ((q.map fun d => (findV v d).1.Past).map List.length).sum ≤ q.length * 1000 := by
      intro q
      induction q with
      | nil => simp
      | cons d q ih =>
        simp only [List.map_cons, List.sum_cons, List.length_cons]
        have := (h.sv.find d).2
        omega
    have h3 := h2 p
    rw [List.map_cons, List.sum_cons, List.length_nil] at h1
    show (List.foldl foldP [] _).length ≤ _
    omega
  rw [h.expand (by omega) fun d hd => by have := hpk d hd; omega]
  simp only [Option.bind_some]
  rw [ref04_Covers_eq (by omega) (by omega), exp_covers hpo, law05_all_eq h]
  simp only [Option.bind_some]
  rw [h.closedE (pastOf_PO v).1 (by omega), h.expand (by omega) fun d hd => k8_size (h.pk (fun _ hc => hc) hd).1, h.w.all_closed, h.w.exp_closed (pastOf_PO v) h.w.all_closed]
  simp only [Option.bind_some]
  rw [ref04_Same_eq (by omega), decide_eq_true rfl]
  simp only [Option.bind_some, if_true]
  unfold law05_NearestExpands_k1 law05_NearestExpands_k2 law05_NearestExpands_k3
  simp only [if_true]
  rw [h.reduce List.Pairwise.nil (by simp)]
  rfl
end Go.Ark
