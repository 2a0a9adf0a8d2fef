/- The plain law of PinsBack: what was put is dropped again, and all is as it was; twice it is not. Conditions: none but those that stand in each law. -/
import Derived.Test.YtimnigdjffpnbaaPlaw16
namespace Go.Ark
open Go Go.Ab Go.RowKit

theorem ref16_SameDeps_refl {a : List Api_Dep} (h : a.length ≤ 1000000) : ref16_SameDeps a a = some true := by
  unfold ref16_SameDeps
  rw [if_neg (by simp)]
  refine loopF_inv (fun (i : Int) => 0 ≤ i ∧ i ≤ (a.length : Int)) (fun i => ((a.length : Int) - i).toNat) (fun _ => some true) ?_ FU 0 ⟨Int.le_refl _, by omega⟩ (by have := FU_big; omega)
  rintro again i' ⟨g1, g2⟩ hag
  obtain ⟨i, rfl⟩ : ∃ i : Nat, i' = i := ⟨i'.toNat, by omega⟩
  unfold ref16_SameDeps_l2
  by_cases c : (i : Int) < (a.length : Int)
  · rw [if_pos (by simpa using c), idx_at (show i < a.length by omega)]
    simp only [Option.bind_some, decide_true, Bool.and_self, Bool.not_true, Bool.false_eq_true, if_false]
    rw [wrap64 (by omega) (by omega)]
    exact hag _ ⟨by omega, by omega⟩ (by omega)
  · rw [if_neg (by simpa using c)]
    rfl
theorem ref16_Same_refl {a : List Api_Pin} (h : a.length ≤ 1000000) (hd : ∀ x, x ∈ a → x.Deps.length ≤ 1000000) : ref16_Same a a = some true := by
  unfold ref16_Same
  rw [if_neg (by simp)]
  refine loopF_inv (fun (i : Int) => 0 ≤ i ∧ i ≤ (a.length : Int)) (fun i => ((a.length : Int) - i).toNat) (fun _ => some true) ?_ FU 0 ⟨Int.le_refl _, by omega⟩ (by have := FU_big; omega)
  rintro again i' ⟨g1, g2⟩ hag
  obtain ⟨i, rfl⟩ : ∃ i : Nat, i' = i := ⟨i'.toNat, by omega⟩
  unfold ref16_Same_l2
  by_cases c : (i : Int) < (a.length : Int)
  · rw [if_pos (by simpa using c), idx_at (show i < a.length by omega)]
    simp only [Option.bind_some]
    rw [ref16_SameDeps_refl (hd _ (List.getElem_mem _))]
    simp only [Option.bind_some, decide_true, Bool.not_true, Bool.false_eq_true, if_false]
    rw [wrap64 (by omega) (by omega)]
    exact hag _ ⟨by omega, by omega⟩ (by omega)
  · rw [if_neg (by simpa using c)]
    rfl

theorem drop_ins {v : Api_Pin} : ∀ {l : List Api_Pin}, (∀ x, x ∈ l → x.ID ≠ v.ID) → dropI (insI v l) v.ID = l
  | [], _ => by simp [insI, dropI]
  | x :: l, h => by
    have hall : ∀ y, y ∈ x :: l → (!decide (y.ID = v.ID)) = true := fun y hy => by simpa using h y hy
    rw [insI]
    split
    · unfold dropI
      rw [List.filter_cons, if_neg (by simp), List.filter_eq_self.2 hall]
    · unfold dropI
      rw [List.filter_cons, if_pos (hall x (by simp))]
      have := drop_ins (v := v) (l := l) fun y hy => h y (by simp [hy])
      unfold dropI at this
      rw [this]

theorem few_tot {p : Api_Pin} (_h : p.Deps.length ≤ reachBytes) : ∃ w, law16_few p = some w ∧ w.ID = p.ID ∧ w.Deps.length ≤ 5 := by
  unfold law16_few
  by_cases c : 5 < p.Deps.length
  · rw [if_pos (decide_eq_true (by omega))]
    unfold sub
    rw [if_pos ⟨by omega, by omega, by omega⟩]
    exact ⟨_, rfl, rfl, by simp only [Int.toNat_zero, List.drop_zero, List.length_take]; omega⟩
  · rw [if_neg (by rw [decide_eq_true_eq]; omega)]
    exact ⟨_, rfl, rfl, by omega⟩

theorem and15 (n : Int) : 1 ≤ IntKind.wrap .i64 (1 + (IntKind.wrap .i64 (BitVec.ofInt (IntKind.bits .i64) n &&& BitVec.ofInt (IntKind.bits .i64) 15).toNat)) := by
  have h : (BitVec.ofInt (IntKind.bits .i64) n &&& BitVec.ofInt (IntKind.bits .i64) 15).toNat ≤ 15 := by
    rw [BitVec.toNat_and]
    exact Nat.le_trans Nat.and_le_right (by decide)
  rw [wrap64 (n := ((BitVec.ofInt (IntKind.bits .i64) n &&& BitVec.ofInt (IntKind.bits .i64) 15).toNat : Int)) (by omega) (by omega), wrap64 (by omega) (by omega)]
  omega

theorem law16_PinsBack_plain (l_0 : (List Int)) (p_1 : Api_Pin) (_h0 : l_0.length ≤ reachBytes ∧ ∀ x, x ∈ l_0 → (Lit.int .i64 x).wf = true) (h1 : wfApi_Pin p_1) : law16_PinsBack l_0 p_1 = some true := by
  obtain ⟨w, hw, hwid, hwd⟩ := few_tot h1.2.1
  have hk1 : ∀ m : List Api_Pin, sortedI m → m.length ≤ 7 → (∀ x, x ∈ m → x.Deps = []) → law16_PinsBack_k1 p_1 true m = some true := by
    intro m hs hl hd
    unfold law16_PinsBack_k1
    rw [hw]
    simp only [Option.bind_some]
    rw [pins_Put_eq hs (by omega)]
    simp only [Option.bind_some]
    obtain ⟨y, hy, _⟩ := pins_Get_eq hs (by omega) w.ID
    by_cases c1 : w.ID < 1
    · rw [if_pos c1]
      simp only [decide_eq_false (show ¬ (1 : Int) = 0 by decide), Bool.not_false, if_true]
      rw [hy]
      simp only [Option.bind_some]
      rw [if_pos (decide_eq_true c1)]
      unfold law16_PinsBack_k3
      simp only [decide_true, if_true]
      rfl
    · rw [if_neg c1]
      cases hh : hasI m w.ID with
      | true =>
        simp only [if_true, decide_eq_false (show ¬ (13 : Int) = 0 by decide), Bool.not_false]
        rw [hy, hh]
        simp only [Option.bind_some]
        rw [if_neg (by simpa using c1)]
        unfold law16_PinsBack_k3
        simp only [Bool.false_eq_true, if_false, if_true, decide_true]
        rfl
      | false =>
        simp only [Bool.false_eq_true, if_false]
        rw [if_neg (show ¬ 8 ≤ m.length by omega)]
        simp only [decide_true, Bool.not_true, Bool.false_eq_true, if_false]
        have hns := insI_sorted hs (hasI_false hh)
        have hnl := insI_length w m
        obtain ⟨z, hz, hz2⟩ := pins_Get_eq hns (by omega) w.ID
        have hin : hasI (insI w m) w.ID = true := hasI_true (insI_mem.2 (.inl rfl))
        obtain ⟨hz3, hz4⟩ := hz2 hin
        have hzw : z = w := by
          rcases insI_mem.1 hz3 with e | e
          · exact e
          · exact absurd hz4 (hasI_false hh z e)
        subst hzw
        rw [hz, hin, pins_Drop_eq hns (by omega), hin]
        simp only [Option.bind_some, if_true]
        rw [drop_ins (hasI_false hh), pins_Drop_eq hs (by omega), hh]
        simp only [Option.bind_some, Bool.false_eq_true, if_false]
        rw [ref16_SameDeps_refl (by omega), ref16_Same_refl (by omega) (fun x hx => by rw [hd x hx]; simp)]
        simp only [Option.bind_some]
        unfold law16_PinsBack_k4 law16_PinsBack_k5
        simp only [if_true, decide_true]
        unfold law16_PinsBack_k6 law16_PinsBack_k7
        simp only [if_true, decide_true]
        unfold law16_PinsBack_k8
        rw [if_pos rfl, hnl, wrap64 (by omega) (by omega)]
        rw [decide_eq_true (by omega)]
  unfold law16_PinsBack
  rw [law16_awake_eq]
  simp only [Option.bind_some]
  refine loopF_inv (fun (v : List Api_Pin × Int) => 0 ≤ v.2 ∧ v.2 ≤ 7 ∧ sortedI v.1 ∧ (v.1.length : Int) ≤ v.2 ∧ ∀ x, x ∈ v.1 → x.Deps = []) (fun v => (7 - v.2).toNat) (fun _ => some true) ?_ FU ([], 0) ⟨Int.le_refl _, by simp, List.Pairwise.nil, by simp, fun x h => by simp at h⟩ (by have := FU_big; simp only; omega)
  rintro again ⟨m, i⟩ ⟨g1, g2, g3, g4, g5⟩ hag
  simp only at g1 g2 g3 g4 g5
  unfold law16_PinsBack_l9 law16_PinsBack_k10
  simp only
  by_cases c : i < (l_0.length : Int)
  · rw [if_pos (by simpa using c)]
    by_cases c2 : i < 7
    · rw [if_pos (by simpa using c2), idx_int g1 c]
      simp only [Option.bind_some]
      have hid := and15 (l_0[i.toNat]'(by omega))
      generalize IntKind.wrap .i64 (1 + (IntKind.wrap .i64 (BitVec.ofInt (IntKind.bits .i64) (l_0[i.toNat]'(by omega)) &&& BitVec.ofInt (IntKind.bits .i64) 15).toNat)) = id at hid
      rw [pins_Put_eq g3 (by omega), if_neg (show ¬ id < 1 by omega), wrap64 (n := i + 1) (by omega) (by omega)]
      simp only [Option.bind_some]
      have hsame : again (m, i + 1) = some true := hag _ ⟨by simp only; omega, by simp only; omega, g3, by simp only; omega, g5⟩ (by simp only; omega)
      cases hh : hasI m id with
      | true =>
        simp only [if_true]
        rw [if_neg (by decide)]
        exact hsame
      | false =>
        simp only [Bool.false_eq_true, if_false]
        rw [if_neg (show ¬ 8 ≤ m.length by omega)]
        simp only [decide_true, if_true]
        refine hag _ ⟨by simp only; omega, by simp only; omega, insI_sorted g3 (hasI_false hh), by simp only; rw [insI_length]; omega, fun x hx => ?_⟩ (by simp only; omega)
        rcases insI_mem.1 hx with rfl | hx
        · rfl
        · exact g5 x hx
    · rw [if_neg (by simpa using c2)]
      exact hk1 m g3 (by omega) g5
  · rw [if_neg (by simpa using c), if_neg (by simp)]
    exact hk1 m g3 (by omega) g5
end Go.Ark
