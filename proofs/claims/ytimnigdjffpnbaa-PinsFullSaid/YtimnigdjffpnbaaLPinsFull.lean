/- The plain law of PinsFull: eight are held at most; with one dropped there is room for one more. Conditions: none but those that stand in each law. -/
import Derived.Test.YtimnigdjffpnbaaPlaw16
namespace Go.Ark
open Go Go.Ab Go.RowKit

def fullL : Nat → List Api_Pin
  | 0 => []
  | m + 1 => ⟨100 - (m : Int), []⟩ :: fullL m
theorem fullL_length : ∀ m : Nat, (fullL m).length = m
  | 0 => rfl
  | m + 1 => by rw [fullL, List.length_cons, fullL_length m]
theorem fullL_mem {x : Api_Pin} : ∀ {m : Nat}, x ∈ fullL m ↔ ∃ j : Nat, j < m ∧ x = ⟨100 - (j : Int), []⟩
  | 0 => by simp [fullL]
  | m + 1 => by
    rw [fullL, List.mem_cons, fullL_mem (m := m)]
    constructor
    · rintro (h | ⟨j, h1, h2⟩)
      · exact ⟨m, by omega, h⟩
      · exact ⟨j, by omega, h2⟩
    · rintro ⟨j, h1, h2⟩
      by_cases c : j = m
      · subst c; exact .inl h2
      · exact .inr ⟨j, by omega, h2⟩
theorem fullL_sorted : ∀ m : Nat, sortedI (fullL m)
  | 0 => List.Pairwise.nil
  | m + 1 => List.pairwise_cons.2 ⟨fun y hy => by obtain ⟨j, h1, rfl⟩ := fullL_mem.1 hy; simp only; omega, fullL_sorted m⟩
theorem fullL_ins : ∀ m : Nat, insI ⟨100 - (m : Int), []⟩ (fullL m) = fullL (m + 1)
  | 0 => rfl
  | m + 1 => by
    rw [fullL, insI, if_pos (by simp only; omega)]
    rfl

theorem law16_PinsFull_plain (n_0 : Int) (which_1 : Int) (_h0 : (Lit.int .i64 n_0).wf = true) (_h1 : (Lit.int .i64 which_1).wf = true) : law16_PinsFull n_0 which_1 = some true := by
  have hmany := turned n_0 (m := 13) (by decide) (by decide)
  have hk1 : ∀ m : Nat, m ≤ 8 → (m = 0 → Int.tmod (IntKind.wrap .i64 ((Int.tmod n_0 13) + 13)) 13 = 0) → law16_PinsFull_k1 n_0 which_1 true (fullL m) = some true := by
    intro m hm h0
    unfold law16_PinsFull_k1
    rw [fullL_length]
    by_cases c : m = 0
    · rw [if_pos (by subst c; rfl), if_pos rfl, h0 c]
      rfl
    · have hne : (m : Int) ≠ 0 := by omega
      have hk := turned which_1 (m := (m : Int)) (by omega) (by omega)
      rw [if_neg (by simpa using c)]
      simp only [decide_eq_false hne, Bool.not_false]
      unfold chk
      simp only [if_true]
      generalize Int.tmod (IntKind.wrap .i64 ((Int.tmod which_1 (m : Int)) + (m : Int))) (m : Int) = k at hk
      obtain ⟨j, rfl⟩ : ∃ j : Nat, k = j := ⟨k.toNat, by omega⟩
      have hmem : (⟨100 - (j : Int), []⟩ : Api_Pin) ∈ fullL m := fullL_mem.2 ⟨j, by omega, rfl⟩
      have hhas : hasI (fullL m) (100 - (j : Int)) = true := hasI_true hmem
      have hds : sortedI (dropI (fullL m) (100 - (j : Int))) := (fullL_sorted m).filter _
      have hdl : (dropI (fullL m) (100 - (j : Int))).length + 1 = m := by
        obtain ⟨i, hi, hlo, hhi, he, hiff⟩ := pins_find_eq (fullL_sorted m) (by rw [fullL_length]; omega) (100 - (j : Int))
        obtain ⟨h1, h2⟩ := hiff.1 hhas
        rw [← h2, ← dropI_at (fullL_sorted m) h1, List.length_append, List.length_take, List.length_drop, fullL_length]
        rw [fullL_length] at h1
        omega
      have hbig : ∀ x, x ∈ dropI (fullL m) (100 - (j : Int)) → 7 < x.ID := fun x hx => by
        obtain ⟨q, h1, rfl⟩ := fullL_mem.1 (List.mem_filter.1 hx).1
        simp only; omega
      rw [wrap64 (n := 100 - (j : Int)) (by omega) (by omega), pins_Drop_eq (fullL_sorted m) (by rw [fullL_length]; omega), hhas]
      simp only [if_true, Option.bind_some]
      generalize dropI (fullL m) (100 - (j : Int)) = q at hds hdl hbig
      rw [pins_Put_eq hds (by omega), if_neg (by decide), if_neg (by rw [hasI_none fun x hx => by have := hbig x hx; simp only; omega]; simp), if_neg (by omega)]
      simp only [Option.bind_some, decide_true]
      unfold law16_PinsFull_k3
      simp only [if_true, decide_true]
      unfold law16_PinsFull_k4
      rw [if_pos rfl, insI_length, fullL_length, hdl, decide_eq_true rfl]
      unfold law16_PinsFull_k5
      have hins : insI ⟨7, []⟩ q = ⟨7, []⟩ :: q := by
        cases q with
        | nil => rfl
        | cons x q => rw [insI, if_pos (hbig x (by simp))]
      rw [if_pos rfl, hins]
      rfl
  unfold law16_PinsFull
  rw [law16_awake_eq]
  simp only [Option.bind_some]
  refine loopF_inv (fun (v : List Api_Pin × Int) => 0 ≤ v.2 ∧ v.2 ≤ Int.tmod (IntKind.wrap .i64 ((Int.tmod n_0 13) + 13)) 13 ∧ v.1 = fullL (min v.2.toNat 8)) (fun v => (Int.tmod (IntKind.wrap .i64 ((Int.tmod n_0 13) + 13)) 13 - v.2).toNat) (fun _ => some true) ?_ FU ([], 0) ⟨Int.le_refl _, by simp only; omega, rfl⟩ (by have := FU_big; simp only; omega)
  rintro again ⟨p, i'⟩ ⟨g1, g2, g3⟩ hag
  simp only at g1 g2 g3
  obtain ⟨i, rfl⟩ : ∃ i : Nat, i' = i := ⟨i'.toNat, by omega⟩
  simp only [Int.toNat_natCast] at g3
  subst g3
  have e : ((i : Int) + 1).toNat = i + 1 := by omega
  unfold law16_PinsFull_l6
  simp only
  by_cases c : (i : Int) < Int.tmod (IntKind.wrap .i64 ((Int.tmod n_0 13) + 13)) 13
  · rw [if_pos (by simpa using c), wrap64 (n := 100 - (i : Int)) (by omega) (by omega), pins_Put_eq (fullL_sorted _) (by rw [fullL_length]; omega), fullL_length]
    simp only [Option.bind_some]
    rw [if_neg (show ¬ (100 - (i : Int) < 1) by omega), if_neg (show ¬ hasI (fullL (min i 8)) (100 - (i : Int)) = true by
      rw [hasI_none fun x hx => by obtain ⟨j, h1, rfl⟩ := fullL_mem.1 hx; simp only; omega]
      simp)]
    by_cases c2 : i < 8
    · rw [if_neg (show ¬ 8 ≤ min i 8 by omega), show min i 8 = i by omega, fullL_ins]
      simp only [decide_true, decide_eq_true (show (i : Int) < 8 by omega), beq_self_eq_true, Bool.not_true, Bool.false_eq_true, if_false]
      unfold law16_PinsFull_k7
      simp only [Bool.false_eq_true, if_false, decide_true, if_true]
      rw [wrap64 (n := (i : Int) + 1) (by omega) (by omega)]
      exact hag _ ⟨by simp only; omega, by simp only; omega, by simp only [e]; rw [show min (i + 1) 8 = i + 1 by omega]⟩ (by simp only; omega)
    · rw [if_pos (show 8 ≤ min i 8 by omega)]
      simp only [decide_eq_false (show ¬ (i : Int) < 8 by omega), decide_eq_false (show ¬ (15 : Int) = 0 by decide), beq_self_eq_true, Bool.not_true, Bool.false_eq_true, if_false, Bool.not_false, if_true, decide_true]
      unfold law16_PinsFull_k7
      simp only [Bool.false_eq_true, if_false]
      rw [if_neg (by decide), wrap64 (n := (i : Int) + 1) (by omega) (by omega)]
      exact hag _ ⟨by simp only; omega, by simp only; omega, by simp only [e]; rw [show min (i + 1) 8 = min i 8 by omega]⟩ (by simp only; omega)
  · rw [if_neg (by simpa using c)]
    exact hk1 _ (by omega) (fun h => by omega)
end Go.Ark
