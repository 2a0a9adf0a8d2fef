/- The plain law of PastChecks: which pasts may be, and their bytes. Conditions: none but those that stand in each law. -/
import Derived.Test.YtedpjlinmkingaaPbytes
import Derived.Test.YtedpjlinmkingaaPlaw04
namespace Go.Ark
open Go Go.Ab Go.RowKit

theorem law04_PastChecks_plain (l_0 : (List Api_Dep)) (_h0 : l_0.length ≤ reachBytes ∧ ∀ x, x ∈ l_0 → wfApi_Dep x) : law04_PastChecks l_0 = some true := by
  unfold law04_PastChecks
  rw [law04_awake_eq]
  simp only [Option.bind_some]
  have hend : ∀ p : List Api_Dep, p.length ≤ 30 → (∀ d, d ∈ p → d.Key.size ≤ 20) → law04_PastChecks_k1 true p = some true := by
    intro p hp hk
    unfold law04_PastChecks_k1
    simp only [if_true]
    rw [past_Check_eq (by omega) (fun d hd => by have := hk d hd; omega), ref04_Check_eq (by omega) (fun d hd => by have := hk d hd; omega)]
    simp only [Option.bind_some, beq_self_eq_true]
    unfold law04_PastChecks_k2
    simp only [if_true]
    rw [past_Bytes_eq (by omega) (fun d hd => by have := hk d hd; omega), ref04_Bytes_eq (by omega) (fun d hd => by have := hk d hd; omega)]
    simp only [Option.bind_some, seq_eq, decide_true]
  refine loopF_inv (fun (v : Int × List Api_Dep) => 0 ≤ v.1 ∧ v.1 ≤ 30 ∧ (v.2.length : Int) = v.1 ∧ ∀ d, d ∈ v.2 → d.Key.size ≤ 20) (fun v => (30 - v.1).toNat) (fun _ => some true) ?_ FU (0, []) ⟨Int.le_refl _, by simp, by simp, fun d h => by simp at h⟩ (by have := FU_big; simp only; omega)
  rintro again ⟨i, p⟩ ⟨h1, h2, h3, h4⟩ hag
  simp only at h1 h2 h3 h4
  unfold law04_PastChecks_l3 law04_PastChecks_k4
  simp only
  by_cases c1 : i < (l_0.length : Int)
  · rw [if_pos (by simpa using c1)]
    by_cases c2 : i < 30
    · rw [if_pos (by simpa using c2), idx_int h1 c1]
      simp only [Option.bind_some]
      generalize l_0[i.toNat]'(by omega) = d
      have hk5 : ∀ k : ByteArray, k.size ≤ 20 → law04_PastChecks_k5 again (i, p) d k = some true := fun k hk => by
        unfold law04_PastChecks_k5
        simp only
        rw [app_ok (by simp; omega) (by simp; omega), wrap64 (n := i + 1) (by omega) (by omega)]
        simp only [Option.bind_some]
        refine hag _ ⟨by simp only; omega, by simp only; omega, by simp only [List.length_append, List.length_cons, List.length_nil]; omega, fun x hx => ?_⟩ (by simp only; omega)
        rcases List.mem_append.1 hx with hx | hx
        · exact h4 x hx
        · simp at hx; subst hx; exact hk
      by_cases c3 : (20 : Int) < (d.Key.size : Int)
      · rw [if_pos (by simpa using c3)]
        have hsub : ssub d.Key 0 20 = some (d.Key.extract 0 20) := by
          simp only [ssub]; rw [if_pos ⟨by omega, by omega, by omega⟩]; rfl
        rw [hsub]
        simp only [Option.bind_some]
        exact hk5 _ (by rw [ByteArray.size_extract]; omega)
      · rw [if_neg (by simpa using c3)]
        exact hk5 _ (by omega)
    · rw [if_neg (by simpa using c2)]; exact hend p (by omega) h4
  · rw [if_neg (by simpa using c1), if_neg (by simp)]; exact hend p (by omega) h4
end Go.Ark
