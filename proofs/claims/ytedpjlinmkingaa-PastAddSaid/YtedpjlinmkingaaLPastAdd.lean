/- The plain law of PastAdd: what is added is got if it is not below what was there, and all else stays. Conditions: none but those that stand in each law. -/
import Derived.Test.YtedpjlinmkingaaPlaw04
namespace Go.Ark
open Go Go.Ab Go.RowKit

theorem okPast_one (d : Api_Dep) : okPast [d] = okDep d := by simp [okPast, chainP_cons, chainP_nil]

theorem coversP_addP {p : List Api_Dep} (hs : sortedP p) (d : Api_Dep) : coversP (addP p d) p = true := by
  unfold coversP
  refine List.all_eq_true.2 fun x hx => ?_
  have h := getP_addP_le hs d x.Key
  rw [getP_mem hs hx] at h
  rw [show lessP (getP (addP p d) x.Key) x.Stamp = false from h]
  rfl

theorem law04_PastAdd_plain (l_0 : (List Api_Dep)) (d_1 : Api_Dep) (other_2 : ByteArray) (_h0 : l_0.length ≤ reachBytes ∧ ∀ x, x ∈ l_0 → wfApi_Dep x) (h1 : wfApi_Dep d_1) (_h2 : other_2.size ≤ reachBytes) : law04_PastAdd l_0 d_1 other_2 = some true := by
  obtain ⟨p, hp, hI, hl⟩ := law04_made_tot l_0
  have hk : d_1.Key.size ≤ 9223372036854775807 := Nat.le_trans h1.1 (by decide)
  have hal := addP_length p d_1
  have hs' := addP_sorted (d := d_1) hI.1
  unfold law04_PastAdd
  rw [law04_awake_eq, hp]
  simp only [Option.bind_some]
  rw [past_Add_eq hI.1 hI.2.1 (by omega) hk, past_Get_eq hI.1 (by omega)]
  simp only [Option.bind_some]
  rw [past_Get_eq hs' (by omega), past_Check_eq (p := [d_1]) (by simp) (fun d hd => by simp at hd; rw [hd]; exact hk), okPast_one]
  simp only [Option.bind_some, if_true]
  cases hok : okDep d_1 with
  | false =>
    have : addP p d_1 = p := by unfold addP; rw [hok]; rfl
    simp only [Bool.not_false, if_true]
    rw [past_Same_eq (by omega), this]
    simp [law04_PastAdd_k1]
  | true =>
    simp only [Bool.not_true, Bool.false_eq_true, if_false]
    have hg : getP (addP p d_1) d_1.Key = maxS (getP p d_1.Key) d_1.Stamp := by rw [getP_addP hI.1, if_pos ⟨hok, rfl⟩]
    have hcov : addP (addP p d_1) d_1 = addP p d_1 := addP_covered hs' (by rw [hg]; exact le_maxS_right _ _)
    have hk5 : law04_PastAdd_k5 d_1 p (addP p d_1) true = some true := by
      unfold law04_PastAdd_k5
      rw [if_pos rfl, past_Covers_eq hs' (by omega) (by omega), coversP_addP hI.1]
      simp only [Option.bind_some]
      unfold law04_PastAdd_k6
      rw [if_pos rfl, past_Add_eq hs' (addP_ok hI.2.1 d_1) (by omega) hk, hcov]
      simp only [Option.bind_some]
      rw [past_Same_eq (by omega)]
      simp
    have hk4 : law04_PastAdd_k4 d_1 other_2 p (addP p d_1) true = some true := by
      unfold law04_PastAdd_k4
      rw [if_pos rfl, seq_eq]
      by_cases c : other_2 = d_1.Key
      · rw [if_pos (by simpa using c)]; exact hk5
      · rw [if_neg (by simpa using c), past_Get_eq hs' (by omega), past_Get_eq hI.1 (by omega)]
        simp only [Option.bind_some, stampEq]
        rw [getP_addP hI.1, if_neg (fun h => c h.2.symm), decide_eq_true rfl]
        exact hk5
    have hk2 : law04_PastAdd_k2 d_1 other_2 true p (addP p d_1) (getP p d_1.Key) (getP (addP p d_1) d_1.Key) (lessP (getP p d_1.Key) d_1.Stamp) = some true := by
      unfold law04_PastAdd_k2
      rw [hg]
      unfold maxS
      cases lessP (getP p d_1.Key) d_1.Stamp with
      | true =>
        simp only [if_true]
        unfold law04_PastAdd_k3
        simp only [if_true, decide_true, Bool.and_self]
        exact hk4
      | false =>
        simp only [Bool.false_eq_true, if_false]
        unfold law04_PastAdd_k3
        simp only [if_true, decide_true, Bool.and_self]
        exact hk4
    unfold lessP at hk2
    by_cases c : (getP p d_1.Key).N < d_1.Stamp.N
    · rw [if_pos (by simpa using c)]
      rw [decide_eq_true c, Bool.true_or] at hk2
      exact hk2
    · rw [if_neg (by simpa using c)]
      rw [decide_eq_false c, Bool.false_or] at hk2
      by_cases c2 : (getP p d_1.Key).N = d_1.Stamp.N
      · rw [if_pos (by simpa using c2)]
        rw [decide_eq_true c2, Bool.true_and] at hk2
        exact hk2
      · rw [if_neg (by simpa using c2)]
        rw [decide_eq_false c2, Bool.false_and] at hk2
        exact hk2
end Go.Ark
