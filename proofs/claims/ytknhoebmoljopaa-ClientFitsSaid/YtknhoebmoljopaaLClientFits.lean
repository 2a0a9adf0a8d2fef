/- The plain law of ClientFits: what was seen last of a key fits, and all that is later; what is older does not. Conditions: none but those that stand in each law. -/
import Derived.Test.YtknhoebmoljopaaPlaw15
namespace Go.Ark
open Go Go.Ab Go.RowKit

theorem client_Fits_eq {s : Api_Session} (hs : sortedP s.Past) (hl : s.Past.length ≤ 1000000) (v : Api_Version) : client_Fits s v = some (!lessP v.Stamp (getP s.Past v.Key)) := by
  unfold client_Fits
  rw [past_Get_eq hs (by omega)]
  simp only [Option.bind_some, stamp_Less_eq]

theorem law15_ClientFits_plain (q_0 : Law15_Ask) (v_1 : Api_Version) (_h0 : wfLaw15_Ask q_0) (_h1 : wfApi_Version v_1) : law15_ClientFits q_0 v_1 = some true := by
  obtain ⟨p, hp, hP⟩ := law15_row_tot q_0.Past
  have hpl := hP.2.2.2
  unfold law15_ClientFits
  rw [law15_awake_eq, hp]
  simp only [Option.bind_some]
  refine loopF_inv (fun (i : Int) => 0 ≤ i ∧ i ≤ (p.length : Int)) (fun i => ((p.length : Int) - i).toNat) (fun _ => some true) ?_ FU 0 ⟨Int.le_refl _, by omega⟩ (by have := FU_big; omega)
  rintro again i' ⟨g1, g2⟩ hag
  obtain ⟨i, rfl⟩ : ∃ i : Nat, i' = i := ⟨i'.toNat, by omega⟩
  unfold law15_ClientFits_l2
  by_cases c : (i : Int) < (p.length : Int)
  · have hi : i < p.length := by omega
    have hg : getP p p[i].Key = p[i].Stamp := getP_at hP.1 hi
    have hok := okDep_stamp (hP.2.1 _ (List.getElem_mem hi))
    unfold okStamp at hok
    simp only [Bool.and_eq_true, decide_eq_true_eq] at hok
    rw [if_pos (by simpa using c), idx_at hi]
    simp only [Option.bind_some]
    rw [client_Fits_eq (s := ⟨0, p⟩) hP.1 (by simp only; omega)]
    simp only [Option.bind_some, hg, lessP_irrefl, Bool.not_false, Bool.not_true, Bool.false_eq_true, if_false]
    rw [client_Fits_eq (s := ⟨0, p⟩) hP.1 (by simp only; omega), wrap64 (n := p[i].Stamp.N + 1) (by omega) (by omega)]
    simp only [Option.bind_some, hg]
    have hl1 : lessP ⟨p[i].Stamp.N + 1, p[i].Stamp.Site⟩ p[i].Stamp = false := lessP_asymm (lessP_iff.2 (.inl (by simp only; omega)))
    rw [hl1]
    unfold law15_ClientFits_k3
    simp only [Bool.not_false, Bool.not_true, Bool.false_eq_true, if_false]
    rw [client_Fits_eq (s := ⟨0, p⟩) hP.1 (by simp only; omega), wrap64 (n := p[i].Stamp.N - 1) (by omega) (by omega)]
    simp only [Option.bind_some, hg]
    have hl2 : lessP ⟨p[i].Stamp.N - 1, p[i].Stamp.Site⟩ p[i].Stamp = true := lessP_iff.2 (.inl (by simp only; omega))
    rw [hl2, wrap64 (n := (i : Int) + 1) (by omega) (by omega)]
    simp only [Bool.not_true, Bool.false_eq_true, if_false]
    exact hag _ ⟨by omega, by omega⟩ (by omega)
  · rw [if_neg (by simpa using c)]
    unfold law15_ClientFits_k1
    rw [ref04_Get_eq (by omega)]
    simp only [Option.bind_some, if_true]
    rw [client_Fits_eq (s := ⟨0, p⟩) hP.1 (by simp only; omega)]
    simp only [Option.bind_some, ref03_Less_eq, beq_self_eq_true]
end Go.Ark
