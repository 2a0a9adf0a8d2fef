/- The plain law of CutOne: one version by itself, and none. Conditions: none but those that stand in each law. -/
import Derived.Test.YtimklpfnpmjdcaaPlaw19
namespace Go.Ark
open Go Go.Ab Go.RowKit

theorem late_none {keys : List ByteArray} {p : List Api_Dep} (hp : RI p) : decide (lateP keys [] p = []) = keys.all fun k => decide ((getP p k).N = 0) := by
  have hV : FI [] := ⟨by simp, fun x hx => by simp at hx⟩
  rw [Bool.eq_iff_iff, decide_eq_true_eq, List.all_eq_true, List.eq_nil_iff_forall_not_mem]
  refine forall_congr' fun k => ?_
  rw [lateP_mem hV hp.1 hp.2.1, decide_eq_true_eq]
  have h0 : ofP [] k = ⟨0, 0⟩ := rfl
  rw [h0]
  rcases getP_cases p k with ⟨d, h1, rfl, h3⟩ | ⟨_, h2⟩
  · have hok := okDep_stamp (hp.2.1 d h1)
    have hz := zero_leS hok
    have hn : 1 ≤ d.Stamp.N := by
      unfold okStamp at hok
      simp only [Bool.and_eq_true, decide_eq_true_eq] at hok
      exact hok.1
    rw [h3, hz]
    constructor
    · intro h hk; exact absurd ⟨hk, .inl rfl⟩ h
    · rintro h ⟨hk, _⟩; have := h hk; omega
  · rw [h2]
    constructor
    · intro _ _; rfl
    · rintro _ ⟨_, h | ⟨x, hx, _⟩⟩
      · rw [lessP_irrefl] at h; cases h
      · simp at hx

theorem law19_CutOne_plain (v_0 : Api_Version) (k_1 : (List ByteArray)) (seen_2 : (List Api_Dep)) (_h0 : wfApi_Version v_0) (_h1 : k_1.length ≤ reachBytes ∧ ∀ x, x ∈ k_1 → x.size ≤ reachBytes) (_h2 : seen_2.length ≤ reachBytes ∧ ∀ x, x ∈ seen_2 → wfApi_Dep x) : law19_CutOne v_0 k_1 seen_2 = some true := by
  obtain ⟨v, hv, hV, h1⟩ := law19_few_tot [v_0]
  obtain ⟨p, hp, hP⟩ := law19_row_tot seen_2
  obtain ⟨x, rfl⟩ : ∃ x, v = [x] := List.length_eq_one_iff.1 (h1 rfl)
  have hs := small_of hV hP
  have hV0 : FI [] := ⟨by simp, fun x hx => by simp at hx⟩
  have hs0 := small_of hV0 hP
  have hk : (k_1.take 6).length ≤ 6 := by rw [List.length_take]; omega
  have h5 := hP.2.2.2
  have h7 := (hV.2 x (by simp)).2
  have h8 := h7.2.2.2
  unfold law19_CutOne
  rw [law19_awake_eq, hv, hp, law19_keys_eq]
  simp only [Option.bind_some]
  generalize k_1.take 6 = k at hk
  rw [show idx [x] 0 = some x by simp [idx]]
  simp only [Option.bind_some]
  rw [ref04_Get_eq (by omega), ref04_Get_eq (by omega)]
  simp only [Option.bind_some]
  refine loopF_inv (fun (q : Bool × Int) => 0 ≤ q.2 ∧ q.2 ≤ (k.length : Int) ∧ (q.1 && (k.drop q.2.toNat).all fun y => decide ((getP p y).N = 0)) = k.all fun y => decide ((getP p y).N = 0)) (fun q => ((k.length : Int) - q.2).toNat) (fun _ => some true) ?_ FU (true, 0) ⟨Int.le_refl _, by simp, by simp⟩ (by have := FU_big; simp only; omega)
  rintro again ⟨none', i'⟩ ⟨g1, g2, g3⟩ hag
  simp only at g1 g2 g3
  obtain ⟨i, rfl⟩ : ∃ i : Nat, i' = i := ⟨i'.toNat, by omega⟩
  simp only [Int.toNat_natCast] at g3
  have e : ((i : Int) + 1).toNat = i + 1 := by omega
  unfold law19_CutOne_l4
  simp only
  by_cases c : (i : Int) < (k.length : Int)
  · have hi : i < k.length := by omega
    rw [if_pos (by simpa using c), idx_at hi]
    simp only [Option.bind_some]
    rw [ref04_Get_eq (by omega), wrap64 (by omega) (by omega)]
    simp only [Option.bind_some]
    rw [List.drop_eq_getElem_cons hi, List.all_cons] at g3
    cases none' with
    | true =>
      simp only [if_true]
      exact hag _ ⟨by simp only; omega, by simp only; omega, by simp only [e]; simpa using g3⟩ (by simp only; omega)
    | false =>
      simp only [Bool.false_eq_true, if_false]
      exact hag _ ⟨by simp only; omega, by simp only; omega, by simp only [e]; simpa using g3⟩ (by simp only; omega)
  · rw [if_neg (by simpa using c)]
    rw [List.drop_of_length_le (by omega)] at g3
    have g3 : none' = k.all fun y => decide ((getP p y).N = 0) := by simpa using g3
    unfold law19_CutOne_k1
    rw [ref19_Of_eq (by simp)]
    simp only [Option.bind_some, ref03_Less_eq]
    have hlate : decide (lateP [x.Key] [x] p = []) = (!lessP (ofP [x] x.Key) (getP p x.Key) && !lessP (ofP [x] x.Key) (getP x.Past x.Key)) := by
      rw [Bool.eq_iff_iff, decide_eq_true_eq, List.eq_nil_iff_forall_not_mem]
      simp only [Bool.and_eq_true, Bool.not_eq_true']
      constructor
      · intro h
        have h := h x.Key
        rw [lateP_mem hV hP.1 hP.2.1] at h
        constructor
        · cases c : lessP (ofP [x] x.Key) (getP p x.Key) with
          | false => rfl
          | true => exact absurd ⟨by simp, .inl c⟩ h
        · cases c : lessP (ofP [x] x.Key) (getP x.Past x.Key) with
          | false => rfl
          | true => exact absurd ⟨by simp, .inr ⟨x, by simp, c⟩⟩ h
      · rintro ⟨h1, h2⟩ y hy
        rw [lateP_mem hV hP.1 hP.2.1] at hy
        obtain ⟨hyk, hy⟩ := hy
        have hyk : y = x.Key := by simpa using hyk
        subst hyk
        rcases hy with hy | ⟨z, hz, hy⟩
        · rw [h1] at hy; cases hy
        · have hz : z = x := by simpa using hz
          subst hz
          rw [h2] at hy; cases hy
    have hk2 : ∀ b : Bool, b = (!lessP (ofP [x] x.Key) (getP p x.Key) && !lessP (ofP [x] x.Key) (getP x.Past x.Key)) → law19_CutOne_k2 true [x] p k x none' b = some true := by
      rintro b rfl
      unfold law19_CutOne_k2
      simp only [if_true]
      rw [cut_Check_eq hs (by simp), hlate]
      simp only [Option.bind_some, beq_self_eq_true]
      unfold law19_CutOne_k3
      simp only [if_true]
      rw [cut_Check_eq hs0 (by omega), late_none hP, g3]
      simp
    cases hq : lessP (ofP [x] x.Key) (getP p x.Key) with
    | true => simp only [Bool.not_true, Bool.false_eq_true, if_false]; exact hk2 false (by rw [hq]; simp)
    | false => simp only [Bool.not_false, if_true]; exact hk2 _ (by rw [hq]; simp)
end Go.Ark
