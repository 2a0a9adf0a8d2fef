/- The plain law of CutTells: what is late, low and seen behind is as the reference says. Conditions: none but those that stand in each law. -/
import Derived.Test.YtimklpfnpmjdcaaPlaw19
namespace Go.Ark
open Go Go.Ab Go.RowKit

theorem law19_CutTells_plain (l_0 : (List Api_Version)) (k_1 : (List ByteArray)) (seen_2 : (List Api_Dep)) (_h0 : l_0.length ≤ reachBytes ∧ ∀ x, x ∈ l_0 → wfApi_Version x) (_h1 : k_1.length ≤ reachBytes ∧ ∀ x, x ∈ k_1 → x.size ≤ reachBytes) (_h2 : seen_2.length ≤ reachBytes ∧ ∀ x, x ∈ seen_2 → wfApi_Dep x) : law19_CutTells l_0 k_1 seen_2 = some true := by
  obtain ⟨v, hv, hV, _⟩ := law19_few_tot l_0
  obtain ⟨p, hp, hP⟩ := law19_row_tot seen_2
  have hs := small_of hV hP
  have hk : (k_1.take 6).length ≤ 6 := by rw [List.length_take]; omega
  have h3 := lowP_len (seen := p) hV
  have h4 := after_len (seen := p) hV
  have h5 := hP.2.2.2
  have h6 := hV.1
  unfold law19_CutTells
  rw [law19_awake_eq, hv, hp, law19_keys_eq]
  simp only [Option.bind_some]
  generalize k_1.take 6 = k at hk
  rw [cut_Low_eq hs, ref19_Low_eq hs]
  simp only [Option.bind_some]
  rw [ref04_Same_eq (by omega), cut_Late_eq hs (by omega), ref19_Late_eq hs (by omega)]
  simp only [Option.bind_some]
  rw [ref02_Same_eq (p := lateP k v p) (Nat.le_trans (List.length_filter_le _ _) (by omega)), cut_After_eq hs, ref19_After_eq hs]
  simp only [Option.bind_some]
  rw [ref04_Same_eq (by omega)]
  simp only [Option.bind_some, decide_true]
  refine loopF_inv (fun (i : Int) => 0 ≤ i ∧ i ≤ (k.length : Int)) (fun i => ((k.length : Int) - i).toNat) (fun _ => some true) ?_ FU 0 ⟨Int.le_refl _, by omega⟩ (by have := FU_big; omega)
  rintro again i' ⟨g1, g2⟩ hag
  obtain ⟨i, rfl⟩ : ∃ i : Nat, i' = i := ⟨i'.toNat, by omega⟩
  unfold law19_CutTells_l5
  by_cases c : (i : Int) < (k.length : Int)
  · have hi : i < k.length := by omega
    rw [if_pos (by simpa using c), idx_at hi]
    simp only [Option.bind_some]
    rw [cut_Of_eq (by omega), ref19_Of_eq (by omega)]
    simp only [Option.bind_some, decide_true, Bool.and_self, Bool.not_true, Bool.false_eq_true, if_false]
    rw [wrap64 (by omega) (by omega)]
    exact hag _ ⟨by omega, by omega⟩ (by omega)
  · rw [if_neg (by simpa using c)]
    unfold law19_CutTells_k1 law19_CutTells_k2 law19_CutTells_k3 law19_CutTells_k4
    simp only [if_true]
    rw [cut_Check_eq hs (by omega), ref19_Check_eq hs (by omega)]
    simp
end Go.Ark
