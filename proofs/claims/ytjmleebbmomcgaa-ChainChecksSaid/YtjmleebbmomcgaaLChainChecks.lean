/- The plain law of ChainChecks: the program's check of a chain is the document's. Conditions: none but those that stand in each law. -/
import Derived.Test.YtjmleebbmomcgaaPchain2
namespace Go.Ark
open Go Go.Ab Go.RowKit

theorem ref12_Check_eq {l : List Api_Version} (hl : l.length ≤ 140737488355328) (hsm : ∀ v, v ∈ l → smallV v) : ref12_Check l = some (checkV l) := by
  rcases Nat.eq_zero_or_pos l.length with h0 | h0
  · have : l = [] := List.length_eq_zero_iff.1 h0
    subst this
    have := FU_big
    unfold ref12_Check
    rw [show FU = FU - 1 + 1 by omega, loopF]
    rfl
  rw [checkV_at h0]
  unfold ref12_Check
  refine loopF_inv (fun (v : Int) => 0 ≤ v ∧ v ≤ (l.length : Int) ∧ checkGo l[0].Key none l = checkGo l[0].Key (if 0 < v then (l[v.toNat - 1]?).map (·.Stamp) else none) (l.drop v.toNat)) (fun v => ((l.length : Int) - v).toNat) (fun _ => some (checkGo l[0].Key none l)) ?_ FU 0 ⟨Int.le_refl _, by simp, by simp⟩ (by have := FU_big; omega)
  rintro again v ⟨h1, h2, h4⟩ hag
  obtain ⟨i, rfl⟩ : ∃ i : Nat, v = i := ⟨v.toNat, by omega⟩
  simp only [Int.toNat_natCast] at h4
  unfold ref12_Check_l2 ref12_Check_k1 ref12_Check_k3
  by_cases c : (i : Int) < (l.length : Int)
  · have hi : i < l.length := by omega
    have hgo : checkGo l[0].Key none l = checkGo l[0].Key (some l[i].Stamp) (l.drop (i + 1)) → again (IntKind.wrap .i64 ((i : Int) + 1)) = some (checkGo l[0].Key none l) := fun hc => by
      rw [wrap64 (by omega) (by omega)]
      refine hag _ ⟨by omega, by omega, ?_⟩ (by omega)
      rw [if_pos (by omega), show ((i : Int) + 1).toNat = i + 1 by omega, Nat.add_sub_cancel, List.getElem?_eq_getElem hi]
      exact hc
    rw [List.drop_eq_getElem_cons hi, checkGo_cons] at h4
    rw [if_pos (by simpa using c), idx_at hi]
    have e0 : idx l 0 = some l[0] := idx_at (i := 0) h0
    simp only [Option.bind_some, ref06_Check_eq (hsm _ (List.getElem_mem hi)), e0, seq_eq]
    cases hv : okVersion l[i] with
    | false => rw [hv] at h4; simp [h4]
    | true =>
      rw [hv] at h4
      simp only [Bool.not_true, Bool.false_eq_true, if_false, Bool.true_and] at h4 ⊢
      by_cases hk : l[i].Key = l[0].Key
      · rw [decide_eq_true hk] at h4 ⊢
        simp only [Bool.not_true, Bool.false_eq_true, if_false, Bool.true_and] at h4 ⊢
        by_cases c0 : 0 < (i : Int)
        · obtain ⟨q, rfl⟩ : ∃ q, i = q + 1 := ⟨i - 1, by omega⟩
          rw [if_pos c0, Nat.add_sub_cancel, List.getElem?_eq_getElem (by omega)] at h4
          rw [if_pos (by simp), wrap64 (n := ((q + 1 : Nat) : Int) - 1) (by omega) (by omega), show (((q + 1 : Nat) : Int) - 1) = (q : Int) by omega, idx_at (show q < l.length by omega)]
          simp only [Option.bind_some, Option.map_some, ref03_Less_eq] at h4 ⊢
          cases hs : lessP (l[q]'(by omega)).Stamp l[q + 1].Stamp with
          | false => rw [hs] at h4; simp [h4]
          | true =>
            rw [hs] at h4
            simp only [Bool.not_true, Bool.false_eq_true, if_false, Bool.true_and] at h4 ⊢
            exact hgo h4
        · rw [if_neg c0] at h4
          rw [if_neg (by simpa using c0)]
          exact hgo (by simpa using h4)
      · rw [decide_eq_false hk] at h4 ⊢
        simp [h4]
  · rw [if_neg (by simpa using c)]
    have : i = l.length := by omega
    subst this
    rw [List.drop_length] at h4
    rw [h4]
    cases (if 0 < ((l.length : Nat) : Int) then (l[l.length - 1]?).map (·.Stamp) else none) <;> rfl

theorem law12_ChainChecks_plain (l_0 : (List Api_Version)) (h0 : l_0.length ≤ reachBytes ∧ ∀ x, x ∈ l_0 → wfApi_Version x) : law12_ChainChecks l_0 = some true := by
  unfold law12_ChainChecks
  rw [law12_awake_eq]
  simp only [Option.bind_some]
  have hk1 : ∀ m : List Api_Version, m.length ≤ 8 → (∀ v, v ∈ m → smallV v) → law12_ChainChecks_k1 true m = some true := by
    intro m hm hs
    unfold law12_ChainChecks_k1
    rw [if_pos rfl, chain_Check_eq (by omega) hs, ref12_Check_eq (by omega) hs]
    simp
  refine loopF_inv (fun (v : Int × List Api_Version) => 0 ≤ v.1 ∧ v.1 ≤ 8 ∧ (v.2.length : Int) ≤ v.1 ∧ ∀ x, x ∈ v.2 → smallV x) (fun v => (8 - v.1).toNat) (fun _ => some true) ?_ FU (0, []) ⟨Int.le_refl _, by simp, by simp, fun x h => by simp at h⟩ (by have := FU_big; simp only; omega)
  rintro again ⟨i, m⟩ ⟨h1, h2, h3, h4⟩ hag
  simp only at h1 h2 h3 h4
  have hend := hk1 m (by omega) h4
  unfold law12_ChainChecks_l2 law12_ChainChecks_k3
  simp only
  by_cases c : i < (l_0.length : Int)
  · rw [if_pos (by simpa using c)]
    by_cases c2 : i < 8
    · rw [if_pos (by simpa using c2), idx_int h1 c]
      simp only [Option.bind_some]
      have hx := h0.2 _ (List.getElem_mem (show i.toNat < l_0.length by omega))
      generalize l_0[i.toNat]'(by omega) = x at hx
      have hk4 : ∀ val : ByteArray, law12_ChainChecks_k4 again (i, m) x val = some true := by
        intro val
        unfold law12_ChainChecks_k4
        simp only
        rw [app_ok (by simp; omega) (by simp; omega), wrap64 (by omega) (by omega)]
        simp only [Option.bind_some]
        refine hag _ ⟨by simp only; omega, by simp only; omega, by simp only [List.length_append, List.length_cons, List.length_nil]; omega, fun y hy => ?_⟩ (by simp only; omega)
        rcases List.mem_append.1 hy with hy | hy
        · exact h4 y hy
        · simp at hy; subst hy
          exact ⟨Nat.le_trans hx.1 (by decide), by simp, by simp⟩
      by_cases c4 : 40 < (x.Value.size : Int)
      · rw [if_pos (by simpa using c4)]
        have hsub : ssub x.Value 0 40 = some (x.Value.extract 0 40) := by
          simp only [ssub]; rw [if_pos ⟨by omega, by omega, by omega⟩]; rfl
        rw [hsub]
        exact hk4 _
      · rw [if_neg (by simpa using c4)]
        exact hk4 _
    · rw [if_neg (by simpa using c2)]; exact hend
  · rw [if_neg (by simpa using c), if_neg (by simp)]; exact hend
end Go.Ark
