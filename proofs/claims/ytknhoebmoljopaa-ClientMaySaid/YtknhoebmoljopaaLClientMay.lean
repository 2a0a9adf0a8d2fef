/- The plain law of ClientMay: who may be where some is there, may be there where more is. Conditions: none but those that stand in each law. -/
import Derived.Test.YtknhoebmoljopaaPlaw15
namespace Go.Ark
open Go Go.Ab Go.RowKit

theorem law15_ClientMay_plain (q_0 : Law15_Ask) (r_1 : Api_Range) (more_2 : (List Api_Dep)) (_h0 : wfLaw15_Ask q_0) (_h1 : wfApi_Range r_1) (_h2 : more_2.length ≤ reachBytes ∧ ∀ x, x ∈ more_2 → wfApi_Dep x) : law15_ClientMay q_0 r_1 more_2 = some true := by
  obtain ⟨p, hp, hP⟩ := law15_row_tot q_0.Past
  obtain ⟨w, hw, hW⟩ := law15_row_tot q_0.Have
  obtain ⟨m, hm, hM⟩ := law15_row_tot more_2
  have hpl := hP.2.2.2
  have hwl := hW.2.2.2
  have hml := hM.2.2.2
  have hkey : ∀ {x : List Api_Dep}, RI x → ∀ d, d ∈ x → d.Key.size ≤ 9223372036854775807 := fun hx d hd => Nat.le_trans (hx.2.2.1 d hd) (by decide)
  unfold law15_ClientMay
  rw [law15_awake_eq, hp, hw, hm]
  simp only [Option.bind_some]
  rw [ref04_Merge_eq (l := [w, m]) (fun x hx => by simp at hx; rcases hx with rfl | rfl; exact hkey hW; exact hkey hM) (by simp; omega) (by simp)]
  simp only [Option.bind_some]
  rw [client_May_eq (s := ⟨0, p⟩) (by simp only; omega) hW.1 (by omega) (by simp)]
  simp only [Option.bind_some, only_all]
  have hmw : mergeP [w, m] = foldP w m := by
    show foldP (foldP [] w) m = _
    rw [foldP_self hW.1 hW.2.1]
  have hmp : mergeP [w, p] = foldP w p := by
    show foldP (foldP [] w) p = _
    rw [foldP_self hW.1 hW.2.1]
  have hlm := foldP_length m w
  have hlp := foldP_length p w
  cases c : coversP w p with
  | false =>
    simp only [Bool.not_false, if_true]
    rw [client_May_eq (s := ⟨0, p⟩) (by simp only; omega) hW.1 (by omega) (by simp)]
    have : (p.filter fun d => ownP [] d.Key) = [] := List.filter_eq_nil_iff.2 fun d _ => by simp [ownP]
    simp only [Option.bind_some]
    rw [this, show coversP w [] = true from rfl, if_pos rfl, ref04_Merge_eq (l := [w, p]) (fun x hx => by simp at hx; rcases hx with rfl | rfl; exact hkey hW; exact hkey hP) (by simp; omega) (by simp), hmp]
    simp only [Option.bind_some]
    rw [client_May_eq (s := ⟨0, p⟩) (by simp only; omega) (foldP_sorted _ _ hW.1) (by omega) (by simp)]
    simp only [Option.bind_some, only_all]
    unfold law15_ClientMay_k1
    rw [coversP_iff.2 fun d hd => getP_foldP_mem p hW.1 hd (hP.2.1 d hd)]
  | true =>
    simp only [Bool.not_true, Bool.false_eq_true, if_false, if_true]
    rw [hmw, client_May_eq (s := ⟨0, p⟩) (by simp only; omega) (foldP_sorted _ _ hW.1) (by omega) (by simp)]
    simp only [Option.bind_some, only_all]
    rw [coversP_iff.2 fun d hd => leS_trans (coversP_iff.1 c d hd) (getP_foldP_le m hW.1 d.Key)]
    unfold law15_ClientMay_k2
    rw [if_pos rfl, client_May_eq (s := ⟨0, p⟩) (by simp only; omega) hW.1 (by omega) (by simp), coversP_iff.2 fun d hd => coversP_iff.1 c d (List.mem_filter.1 hd).1]
    simp only [Option.bind_some]
    unfold law15_ClientMay_k3
    rw [if_pos rfl, client_May_eq (s := ⟨0, []⟩) (by simp) hW.1 (by omega) (by simp)]
    rfl
end Go.Ark
