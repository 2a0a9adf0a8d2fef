/- Plain laws: what pins hold together; the document's pins. Conditions: none but those that stand in each law. -/
import Derived.Test.YtimnigdjffpnbaaPlaw16
namespace Go.Ark
open Go Go.Ab Go.RowKit

theorem sameDeps_refl {a : List Api_Dep} (h : a.length ≤ 1000000) : ref16_SameDeps a a = some true := by
  unfold ref16_SameDeps
  rw [if_neg (by simp)]
  refine loopF_inv (fun (i : Int) => 0 ≤ i ∧ i ≤ (a.length : Int)) (fun i => ((a.length : Int) - i).toNat) (fun _ => some true) ?_ FU 0 ⟨Int.le_refl _, by omega⟩ (by have := FU_big; omega)
  rintro again i' ⟨g1, g2⟩ hag
  obtain ⟨i, rfl⟩ : ∃ i : Nat, i' = i := ⟨i'.toNat, by omega⟩
  unfold ref16_SameDeps_l2
  by_cases c : (i : Int) < (a.length : Int)
  · rw [if_pos (by simpa using c), idx_at (show i < a.length by omega)]
    simp only [Option.bind_some, decide_true, Bool.and_self, Bool.not_true, Bool.false_eq_true, if_false]
    rw [wrap64 (by omega) (by omega)]
    exact hag _ ⟨by omega, by omega⟩ (by omega)
  · rw [if_neg (by simpa using c)]
    rfl
theorem same_refl {a : List Api_Pin} (h : a.length ≤ 1000000) (hd : ∀ x, x ∈ a → x.Deps.length ≤ 1000000) : ref16_Same a a = some true := by
  unfold ref16_Same
  rw [if_neg (by simp)]
  refine loopF_inv (fun (i : Int) => 0 ≤ i ∧ i ≤ (a.length : Int)) (fun i => ((a.length : Int) - i).toNat) (fun _ => some true) ?_ FU 0 ⟨Int.le_refl _, by omega⟩ (by have := FU_big; omega)
  rintro again i' ⟨g1, g2⟩ hag
  obtain ⟨i, rfl⟩ : ∃ i : Nat, i' = i := ⟨i'.toNat, by omega⟩
  unfold ref16_Same_l2
  by_cases c : (i : Int) < (a.length : Int)
  · rw [if_pos (by simpa using c), idx_at (show i < a.length by omega)]
    simp only [Option.bind_some]
    rw [sameDeps_refl (hd _ (List.getElem_mem _))]
    simp only [Option.bind_some, decide_true, Bool.not_true, Bool.false_eq_true, if_false]
    rw [wrap64 (by omega) (by omega)]
    exact hag _ ⟨by omega, by omega⟩ (by omega)
  · rw [if_neg (by simpa using c)]
    rfl

theorem few16_tot {p : Api_Pin} (_h : p.Deps.length ≤ reachBytes) : ∃ w, law16_few p = some w ∧ w.ID = p.ID ∧ w.Deps.length ≤ 5 := by
  unfold law16_few
  by_cases c : 5 < p.Deps.length
  · rw [if_pos (decide_eq_true (by omega))]
    unfold sub
    rw [if_pos ⟨by omega, by omega, by omega⟩]
    exact ⟨_, rfl, rfl, by simp only [Int.toNat_zero, List.drop_zero, List.length_take]; omega⟩
  · rw [if_neg (by rw [decide_eq_true_eq]; omega)]
    exact ⟨_, rfl, rfl, by omega⟩


/-- what all pins hold, up to its order, when one more is put in -/
theorem flatP_ins (v : Api_Pin) : ∀ l : List Api_Pin, (flatP (insI v l)).Perm (v.Deps ++ flatP l)
  | [] => by simp [insI, flatP]
  | x :: l => by
    rw [insI]
    split
    · simp [flatP]
    · have ih := flatP_ins v l
      have h1 : (flatP (x :: insI v l)) = x.Deps ++ flatP (insI v l) := rfl
      have h2 : flatP (x :: l) = x.Deps ++ flatP l := rfl
      rw [h1, h2]
      exact (ih.append_left _).trans (by rw [← List.append_assoc, ← List.append_assoc]; exact List.Perm.append_right _ List.perm_append_comm)
theorem flatP_ins_len (v : Api_Pin) (l : List Api_Pin) : (flatP (insI v l)).length = v.Deps.length + (flatP l).length := by
  rw [(flatP_ins v l).length_eq, List.length_append]
theorem ofP_app (key : ByteArray) (a b : List Api_Dep) : ofP key (a ++ b) = ofP key a ++ ofP key b := by simp [ofP]
theorem ofP_len (key : ByteArray) (l : List Api_Dep) : (ofP key l).length ≤ l.length := by unfold ofP; rw [List.length_map]; exact List.length_filter_le _ _
theorem ofP_perm (key : ByteArray) {a b : List Api_Dep} (h : a.Perm b) : (ofP key a).length = (ofP key b).length := ((h.filter _).map _).length_eq
theorem ofP_ins_len (key : ByteArray) (v : Api_Pin) (l : List Api_Pin) : (ofP key (flatP (insI v l))).length = (ofP key v.Deps).length + (ofP key (flatP l)).length := by
  rw [ofP_perm key (flatP_ins v l), ofP_app, List.length_append]
theorem ofP_hit {key : ByteArray} {x : Api_Dep} (h : x.Key = key) : ofP key [x] = [x.Stamp] := by simp [ofP, h]
theorem ofP_miss {key : ByteArray} {x : Api_Dep} (h : x.Key ≠ key) : ofP key [x] = [] := by simp [ofP, h]
theorem flatP_len {n m : Nat} : ∀ {l : List Api_Pin}, (∀ x, x ∈ l → x.Deps.length ≤ n) → l.length ≤ m → (flatP l).length ≤ m * n
  | [], _, _ => by simp [flatP]
  | x :: l, h, hm => by
    obtain ⟨k, rfl⟩ : ∃ k, m = k + 1 := ⟨m - 1, by simp at hm; omega⟩
    have h1 := flatP_len (m := k) (l := l) (fun y hy => h y (by simp [hy])) (by simpa using hm)
    have h2 := h x (by simp)
    have e : flatP (x :: l) = x.Deps ++ flatP l := rfl
    rw [e, List.length_append, Nat.add_mul]
    omega
theorem pins_All_eq {l : List Api_Pin} (h : (flatP l).length ≤ 1000000) : pins_All l = some (flatP l) := if_pos h
theorem pins_Of_eq {l : List Api_Pin} (h : (flatP l).length ≤ 1000000) (key : ByteArray) : pins_Of l key = some (ofP key (flatP l)) := if_pos h
theorem take_snoc {α : Type} {l : List α} {j : Nat} (h : j < l.length) : l.take (j + 1) = l.take j ++ [l[j]] := by
  rw [List.take_add_one, List.getElem?_eq_getElem h]; rfl
end Go.Ark
