/- The plain law of CutMeans: a cut is one, if nothing later of its keys hangs behind it. Conditions: none but those that stand in each law. -/
import Derived.Test.YtimklpfnpmjdcaaPlaw19
namespace Go.Ark
open Go Go.Ab Go.RowKit

/-- this key is not late -/
def fineK (v : List Api_Version) (p : List Api_Dep) (k : ByteArray) : Bool := !lessP (ofP v k) (getP p k) && v.all fun x => !lessP (ofP v k) (getP x.Past k)

theorem late_fine {keys : List ByteArray} {v : List Api_Version} {p : List Api_Dep} (hv : FI v) (hp : RI p) : decide (lateP keys v p = []) = keys.all (fineK v p) := by
  rw [Bool.eq_iff_iff, decide_eq_true_eq, List.all_eq_true, List.eq_nil_iff_forall_not_mem]
  refine forall_congr' fun k => ?_
  rw [lateP_mem hv hp.1 hp.2.1]
  unfold fineK
  simp only [Bool.and_eq_true, Bool.not_eq_true', List.all_eq_true]
  constructor
  · intro h hk
    refine ⟨?_, fun x hx => ?_⟩
    · cases c : lessP (ofP v k) (getP p k) with
      | false => rfl
      | true => exact absurd ⟨hk, .inl c⟩ h
    · cases c : lessP (ofP v k) (getP x.Past k) with
      | false => rfl
      | true => exact absurd ⟨hk, .inr ⟨x, hx, c⟩⟩ h
  · rintro h ⟨hk, c | ⟨x, hx, c⟩⟩
    · rw [(h hk).1] at c; cases c
    · rw [(h hk).2 x hx] at c; cases c

theorem law19_CutMeans_plain (l_0 : (List Api_Version)) (k_1 : (List ByteArray)) (seen_2 : (List Api_Dep)) (_h0 : l_0.length ≤ reachBytes ∧ ∀ x, x ∈ l_0 → wfApi_Version x) (_h1 : k_1.length ≤ reachBytes ∧ ∀ x, x ∈ k_1 → x.size ≤ reachBytes) (_h2 : seen_2.length ≤ reachBytes ∧ ∀ x, x ∈ seen_2 → wfApi_Dep x) : law19_CutMeans l_0 k_1 seen_2 = some true := by
  obtain ⟨v, hv, hV, _⟩ := law19_few_tot l_0
  obtain ⟨p, hp, hP⟩ := law19_row_tot seen_2
  have hs := small_of hV hP
  have hk : (k_1.take 6).length ≤ 6 := by rw [List.length_take]; omega
  have h5 := hP.2.2.2
  have h6 := hV.1
  unfold law19_CutMeans
  rw [law19_awake_eq, hv, hp, law19_keys_eq]
  simp only [Option.bind_some]
  generalize k_1.take 6 = k at hk
  refine loopF_inv (fun (q : Bool × Int) => 0 ≤ q.2 ∧ q.2 ≤ (k.length : Int) ∧ (q.1 && (k.drop q.2.toNat).all (fineK v p)) = k.all (fineK v p)) (fun q => ((k.length : Int) - q.2).toNat) (fun _ => some true) ?_ FU (true, 0) ⟨Int.le_refl _, by simp, by simp⟩ (by have := FU_big; simp only; omega)
  rintro again ⟨want, i'⟩ ⟨g1, g2, g3⟩ hag
  simp only at g1 g2 g3
  obtain ⟨i, rfl⟩ : ∃ i : Nat, i' = i := ⟨i'.toNat, by omega⟩
  simp only [Int.toNat_natCast] at g3
  have e : ((i : Int) + 1).toNat = i + 1 := by omega
  unfold law19_CutMeans_l2
  simp only
  by_cases c : (i : Int) < (k.length : Int)
  · have hi : i < k.length := by omega
    rw [if_pos (by simpa using c), idx_at hi]
    simp only [Option.bind_some]
    rw [cut_Of_eq (by omega), ref04_Get_eq (by omega)]
    simp only [Option.bind_some, ref03_Less_eq]
    rw [List.drop_eq_getElem_cons hi, List.all_cons] at g3
    have hk4 : ∀ w : Bool, w = (want && !lessP (ofP v k[i]) (getP p k[i])) → law19_CutMeans_k4 v k again (want, (i : Int)) (ofP v k[i]) w = some true := by
      intro w hw
      unfold law19_CutMeans_k4
      refine loopF_inv (fun (q : Bool × Int) => 0 ≤ q.2 ∧ q.2 ≤ (v.length : Int) ∧ (q.1 && (v.drop q.2.toNat).all fun x => !lessP (ofP v k[i]) (getP x.Past k[i])) = (want && fineK v p k[i])) (fun q => ((v.length : Int) - q.2).toNat) (fun _ => some true) ?_ FU (w, 0) ⟨Int.le_refl _, by simp, by simp only [Int.toNat_zero, List.drop_zero]; rw [hw, Bool.and_assoc]; rfl⟩ (by have := FU_big; simp only; omega)
      rintro again2 ⟨w2, j'⟩ ⟨q1, q2, q3⟩ hag2
      simp only at q1 q2 q3
      obtain ⟨j, rfl⟩ : ∃ j : Nat, j' = j := ⟨j'.toNat, by omega⟩
      simp only [Int.toNat_natCast] at q3
      have e2 : ((j : Int) + 1).toNat = j + 1 := by omega
      unfold law19_CutMeans_l6
      simp only
      by_cases c2 : (j : Int) < (v.length : Int)
      · have hj : j < v.length := by omega
        rw [if_pos (by simpa using c2), idx_at hj, idx_at hi]
        simp only [Option.bind_some]
        have := (hV.2 v[j] (List.getElem_mem hj)).2.2.2.2
        rw [ref04_Get_eq (by omega)]
        simp only [Option.bind_some, ref03_Less_eq]
        rw [List.drop_eq_getElem_cons hj, List.all_cons] at q3
        have hk7 : ∀ w3 : Bool, w3 = (w2 && !lessP (ofP v k[i]) (getP v[j].Past k[i])) → law19_CutMeans_k7 v k (want, (i : Int)) (ofP v k[i]) again2 (w2, (j : Int)) w3 = some true := by
          intro w3 hw3
          unfold law19_CutMeans_k7
          simp only [idx_at hj, idx_at hi, Option.bind_some, seq_eq, ref03_Less_eq]
          rw [wrap64 (by omega) (by omega)]
          have hgo : again2 (w3, (j : Int) + 1) = some true := hag2 _ ⟨by simp only; omega, by simp only; omega, by simp only [e2]; rw [hw3, Bool.and_assoc]; exact q3⟩ (by simp only; omega)
          by_cases c3 : v[j].Key = k[i]
          · rw [if_pos (by simpa using c3)]
            have : lessP (ofP v k[i]) v[j].Stamp = false := by rw [← c3]; exact le_ofP (List.getElem_mem hj)
            rw [this]
            simpa using hgo
          · rw [if_neg (by simpa using c3)]
            exact hgo
        cases hq : lessP (ofP v k[i]) (getP v[j].Past k[i]) with
        | true => simp only [if_true]; exact hk7 false (by rw [hq]; simp)
        | false => simp only [Bool.false_eq_true, if_false]; exact hk7 w2 (by rw [hq]; simp)
      · rw [if_neg (by simpa using c2)]
        rw [List.drop_of_length_le (by omega)] at q3
        have q3 : w2 = (want && fineK v p k[i]) := by simpa using q3
        unfold law19_CutMeans_k5 law19_CutMeans_k3
        simp only
        rw [wrap64 (by omega) (by omega)]
        exact hag _ ⟨by simp only; omega, by simp only; omega, by simp only [e]; rw [q3, Bool.and_assoc]; exact g3⟩ (by simp only; omega)
    cases hq : lessP (ofP v k[i]) (getP p k[i]) with
    | true => simp only [if_true]; exact hk4 false (by rw [hq]; simp)
    | false => simp only [Bool.false_eq_true, if_false]; exact hk4 want (by rw [hq]; simp)
  · rw [if_neg (by simpa using c)]
    rw [List.drop_of_length_le (by omega)] at g3
    have g3 : want = k.all (fineK v p) := by simpa using g3
    unfold law19_CutMeans_k1
    simp only [if_true]
    rw [cut_Check_eq hs (by omega), late_fine hV hP, g3]
    simp
end Go.Ark
