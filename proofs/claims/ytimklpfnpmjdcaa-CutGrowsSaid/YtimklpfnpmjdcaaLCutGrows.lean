/- The plain law of CutGrows: with what is low put to what was seen, a cut is one still. Conditions: none but those that stand in each law. -/
import Derived.Test.YtimklpfnpmjdcaaPlaw19
namespace Go.Ark
open Go Go.Ab Go.RowKit

theorem law19_CutGrows_plain (l_0 : (List Api_Version)) (k_1 : (List ByteArray)) (seen_2 : (List Api_Dep)) (_h0 : l_0.length ≤ reachBytes ∧ ∀ x, x ∈ l_0 → wfApi_Version x) (_h1 : k_1.length ≤ reachBytes ∧ ∀ x, x ∈ k_1 → x.size ≤ reachBytes) (_h2 : seen_2.length ≤ reachBytes ∧ ∀ x, x ∈ seen_2 → wfApi_Dep x) : law19_CutGrows l_0 k_1 seen_2 = some true := by
  obtain ⟨v, hv, hV, _⟩ := law19_few_tot l_0
  obtain ⟨p, hp, hP⟩ := law19_row_tot seen_2
  have hs := small_of hV hP
  have hk : (k_1.take 6).length ≤ 6 := by rw [List.length_take]; omega
  have h3 := lowP_len (seen := p) hV
  have h4 := after_len (seen := p) hV
  have h5 := hP.2.2.2
  have h6 := hV.1
  unfold law19_CutGrows
  rw [law19_awake_eq, hv, hp, law19_keys_eq]
  simp only [Option.bind_some]
  generalize k_1.take 6 = k at hk
  rw [cut_Check_eq hs (by omega)]
  simp only [Option.bind_some]
  by_cases c : lateP k v p = []
  · rw [decide_eq_true c]
    simp only [Bool.not_true, Bool.false_eq_true, if_false, if_true]
    have hsl : smallL v (lowP v p) := small_of' hV (by omega) (low_keys hV hP.2.2.1)
    have hsa : smallL v (afterP p v) := small_of' hV (by omega) (after_keys hV hP.2.2.1)
    rw [cut_Low_eq hs, cut_After_eq hs]
    simp only [Option.bind_some]
    rw [cut_After_eq hsa, cut_Check_eq hsl (by omega)]
    simp only [Option.bind_some]
    have hlow : lowP v (lowP v p) = lowP v p := by
      show (v.map (·.Past)).foldl foldP (foldP [] (lowP v p)) = lowP v p
      rw [foldP_self (lowP_sorted v p) (lowP_ok v p), folds_cov (lowP_sorted v p) fun x hx d hd => low_past hx hd ((hV.2 x hx).2.2.1 d hd)]
    have hlow2 : lowP v (afterP p v) = afterP p v := by
      show (v.map (·.Past)).foldl foldP (foldP [] (afterP p v)) = afterP p v
      rw [foldP_self (after_sorted v p) (after_ok v p), folds_cov (after_sorted v p) fun x hx d hd => leS_trans (low_past hx hd ((hV.2 x hx).2.2.1 d hd)) (after_low v p _)]
    have hc1 : lateP k v (lowP v p) = [] := by
      unfold lateP at c ⊢
      rw [hlow]; exact c
    have haft : afterP (afterP p v) v = afterP p v := by
      show foldP (lowP v (afterP p v)) _ = _
      rw [hlow2]
      refine foldP_cov (after_sorted v p) fun d hd ho => ?_
      obtain ⟨x, hx, rfl⟩ := List.mem_map.1 hd
      exact after_mem hx ho
    have hc2 : lateP k v (afterP p v) = [] := by
      unfold lateP at c ⊢
      rw [hlow2]
      refine List.filter_eq_nil_iff.2 fun y hy h => ?_
      rcases less_foldP (lowP_sorted v p) h with h | ⟨d, hd, hdk, h⟩
      · exact List.filter_eq_nil_iff.1 c y hy h
      · obtain ⟨x, hx, rfl⟩ := List.mem_map.1 hd
        have hle : leS x.Stamp (ofP v y) := by rw [← hdk]; exact le_ofP hx
        rw [show lessP (ofP v y) x.Stamp = false from hle] at h; cases h
    rw [haft, ref04_Same_eq (by omega), decide_eq_true hc1]
    simp only [Option.bind_some, decide_true]
    unfold law19_CutGrows_k2
    simp only [if_true]
    rw [cut_Check_eq hsa (by omega), decide_eq_true hc2]
    simp
  · rw [decide_eq_false c]
    simp only [Bool.not_false, if_true]
    rw [cut_Late_eq hs (by omega)]
    simp only [Option.bind_some]
    unfold law19_CutGrows_k1
    have : 0 < (lateP k v p).length := List.length_pos_iff.2 c
    rw [decide_eq_true (by omega)]
end Go.Ark
