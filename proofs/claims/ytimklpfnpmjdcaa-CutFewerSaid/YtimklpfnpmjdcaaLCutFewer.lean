/- The plain law of CutFewer: what is a cut for more keys is one for fewer, and for whom has seen less. Conditions: none but those that stand in each law. -/
import Derived.Test.YtimklpfnpmjdcaaPlaw19
namespace Go.Ark
open Go Go.Ab Go.RowKit

theorem late_sub {k m : List ByteArray} {v : List Api_Version} {p : List Api_Dep} (h : lateP k v p = []) (hm : ∀ x, x ∈ m → x ∈ k) : lateP m v p = [] := by
  unfold lateP at h ⊢
  rw [List.filter_eq_nil_iff] at h ⊢
  exact fun x hx => h x (hm x hx)
theorem late_nil {k : List ByteArray} {v : List Api_Version} {p : List Api_Dep} (hv : FI v) (hp : RI p) (h : lateP k v p = []) : lateP k v [] = [] := by
  rw [List.eq_nil_iff_forall_not_mem] at h ⊢
  intro y hy
  rw [lateP_mem hv List.Pairwise.nil (fun d hd => by simp at hd)] at hy
  refine h y ((lateP_mem hv hp.1 hp.2.1).2 ⟨hy.1, .inr ?_⟩)
  rcases hy.2 with hy | hy
  · rw [show getP [] y = ⟨0, 0⟩ from rfl, not_less_zero (zero_le_ofP v y)] at hy; cases hy
  · exact hy

theorem law19_CutFewer_plain (l_0 : (List Api_Version)) (k_1 : (List ByteArray)) (seen_2 : (List Api_Dep)) (_h0 : l_0.length ≤ reachBytes ∧ ∀ x, x ∈ l_0 → wfApi_Version x) (_h1 : k_1.length ≤ reachBytes ∧ ∀ x, x ∈ k_1 → x.size ≤ reachBytes) (_h2 : seen_2.length ≤ reachBytes ∧ ∀ x, x ∈ seen_2 → wfApi_Dep x) : law19_CutFewer l_0 k_1 seen_2 = some true := by
  obtain ⟨v, hv, hV, _⟩ := law19_few_tot l_0
  obtain ⟨p, hp, hP⟩ := law19_row_tot seen_2
  have hs := small_of hV hP
  have hs0 := small_of hV RI_nil
  have hk : (k_1.take 6).length ≤ 6 := by rw [List.length_take]; omega
  have h4 := after_len (seen := p) hV
  have h5 := hP.2.2.2
  have h6 := hV.1
  unfold law19_CutFewer
  rw [law19_awake_eq, hv, hp, law19_keys_eq]
  simp only [Option.bind_some]
  generalize k_1.take 6 = k at hk
  have hk1 : law19_CutFewer_k1 true v p () = some true := by
    unfold law19_CutFewer_k1
    rw [cut_After_eq hs]
    simp only [Option.bind_some]
    rw [ref04_Covers_eq (by omega) (by omega)]
    simp only [Option.bind_some]
    have hcp : coversP (afterP p v) p = true := by
      unfold coversP
      refine List.all_eq_true.2 fun d hd => ?_
      have := leS_trans (low_seen (v := v) hd (hP.2.1 d hd)) (after_low v p d.Key)
      rw [show lessP (getP (afterP p v) d.Key) d.Stamp = false from this]; rfl
    rw [hcp]
    refine loopF_inv (fun (i : Int) => 0 ≤ i ∧ i ≤ (v.length : Int)) (fun i => ((v.length : Int) - i).toNat) (fun _ => some true) ?_ FU 0 ⟨Int.le_refl _, by omega⟩ (by have := FU_big; omega)
    rintro again i' ⟨g1, g2⟩ hag
    obtain ⟨i, rfl⟩ : ∃ i : Nat, i' = i := ⟨i'.toNat, by omega⟩
    unfold law19_CutFewer_l4
    by_cases c : (i : Int) < (v.length : Int)
    · have hi : i < v.length := by omega
      have hx := hV.2 v[i] (List.getElem_mem hi)
      have hxl := hx.2.2.2.2
      rw [if_pos (by simpa using c), idx_at hi]
      simp only [Option.bind_some]
      rw [ref02_Check_eq (by omega), ref03_Check_eq, ref04_Get_eq (by omega)]
      simp only [Option.bind_some]
      rw [ref04_Covers_eq (by omega) (by omega)]
      have hcx : coversP (afterP p v) v[i].Past = true := by
        unfold coversP
        refine List.all_eq_true.2 fun d hd => ?_
        have := leS_trans (low_past (p := p) (List.getElem_mem hi) hd (hx.2.2.1 d hd)) (after_low v p d.Key)
        rw [show lessP (getP (afterP p v) d.Key) d.Stamp = false from this]; rfl
      rw [hcx, wrap64 (by omega) (by omega)]
      have hgo : again ((i : Int) + 1) = some true := hag _ ⟨by omega, by omega⟩ (by omega)
      simp only [Option.bind_some, Bool.not_true, Bool.false_eq_true, if_false, ref03_Less_eq]
      cases ha : okKey v[i].Key with
      | false => simp only [Bool.false_eq_true, if_false]; exact hgo
      | true =>
        cases hb : okStamp v[i].Stamp with
        | false => simp only [Bool.false_eq_true, if_false, if_true]; exact hgo
        | true =>
          simp only [if_true]
          have := after_mem (p := p) (List.getElem_mem hi) (show okDep ⟨v[i].Key, v[i].Stamp⟩ = true by simp [okDep, ha, hb])
          rw [show lessP (getP (afterP p v) v[i].Key) v[i].Stamp = false from this]
          simpa using hgo
    · rw [if_neg (by simpa using c)]
      unfold law19_CutFewer_k2 law19_CutFewer_k3
      simp only [if_true]
      rw [cut_Check_eq hs (by simp)]
      rfl
  rw [cut_Check_eq hs (by omega)]
  simp only [Option.bind_some]
  by_cases c : lateP k v p = []
  · rw [if_pos (decide_eq_true c)]
    refine loopF_inv (fun (i : Int) => 0 ≤ i ∧ i ≤ (k.length : Int)) (fun i => ((k.length : Int) - i).toNat) (fun _ => some true) ?_ FU 0 ⟨Int.le_refl _, by omega⟩ (by have := FU_big; omega)
    rintro again i' ⟨g1, g2⟩ hag
    obtain ⟨i, rfl⟩ : ∃ i : Nat, i' = i := ⟨i'.toNat, by omega⟩
    unfold law19_CutFewer_l6
    by_cases c1 : (i : Int) < (k.length : Int)
    · have hi : i < k.length := by omega
      rw [if_pos (by simpa using c1), wrap64 (by omega) (by omega)]
      have hs1 : sub k 0 (i : Int) = some (k.take i) := by
        unfold sub; rw [if_pos ⟨by omega, by omega, by omega⟩]; simp
      have hs2 : sub k ((i : Int) + 1) (k.length : Int) = some (k.drop (i + 1)) := by
        unfold sub; rw [if_pos ⟨by omega, by omega, by omega⟩]
        rw [show ((i : Int) + 1).toNat = i + 1 by omega, show ((k.length : Int)).toNat = k.length by omega, List.take_length]
      have hl1 : (k.take i).length ≤ 6 := by rw [List.length_take]; omega
      have hl2 : (k.drop (i + 1)).length ≤ 6 := by rw [List.length_drop]; omega
      rw [hs1, hs2]
      simp only [Option.bind_some]
      rw [app_ok (by simp only [List.length_nil]; omega) (by simp only [List.length_nil]; omega)]
      simp only [Option.bind_some, List.nil_append]
      rw [app_ok (by omega) (by omega)]
      simp only [Option.bind_some]
      rw [cut_Check_eq hs (by rw [List.length_append]; omega), decide_eq_true (late_sub c fun x hx => ?_)]
      · simp only [Option.bind_some, Bool.not_true, Bool.false_eq_true, if_false]
        exact hag _ ⟨by omega, by omega⟩ (by omega)
      · rcases List.mem_append.1 hx with hx | hx
        · exact List.mem_of_mem_take hx
        · exact List.mem_of_mem_drop hx
    · rw [if_neg (by simpa using c1)]
      unfold law19_CutFewer_k5
      rw [cut_Check_eq hs0 (by omega), decide_eq_true (late_nil hV hP c)]
      simp only [Option.bind_some, Bool.not_true, Bool.false_eq_true, if_false]
      exact hk1
  · rw [if_neg (by simpa using c)]
    exact hk1
end Go.Ark
