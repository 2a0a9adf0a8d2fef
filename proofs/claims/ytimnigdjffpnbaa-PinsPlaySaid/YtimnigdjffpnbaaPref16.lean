/- Plain laws: the document's pins are the program's. Conditions: none but those that stand in each law. -/
import Derived.Test.YtimnigdjffpnbaaPpins3
import Derived.Test.YtimnigdjffpnbaaFref16
namespace Go.Ark
open Go Go.Ab Go.RowKit

theorem ref16_At_none {l : List Api_Pin} (hl : l.length ≤ 1000000) {id : Int} (h : hasI l id = false) : ref16_At l id = some (-1) := by
  unfold ref16_At
  refine loopF_inv (fun (i : Int) => 0 ≤ i ∧ i ≤ (l.length : Int)) (fun i => ((l.length : Int) - i).toNat) (fun _ => some (-1)) ?_ FU 0 ⟨Int.le_refl _, by omega⟩ (by have := FU_big; omega)
  rintro again i' ⟨g1, g2⟩ hag
  obtain ⟨i, rfl⟩ : ∃ i : Nat, i' = i := ⟨i'.toNat, by omega⟩
  unfold ref16_At_l2
  by_cases c : (i : Int) < (l.length : Int)
  · have hi : i < l.length := by omega
    rw [if_pos (by simpa using c), idx_at hi]
    simp only [Option.bind_some]
    rw [if_neg (by rw [decide_eq_true_eq]; exact hasI_false h _ (List.getElem_mem hi)), wrap64 (by omega) (by omega)]
    exact hag _ ⟨by omega, by omega⟩ (by omega)
  · rw [if_neg (by simpa using c)]
    rfl
theorem ref16_At_some {l : List Api_Pin} (hs : sortedI l) (hl : l.length ≤ 1000000) {k : Nat} (hk : k < l.length) : ref16_At l l[k].ID = some (k : Int) := by
  unfold ref16_At
  refine loopF_inv (fun (i : Int) => 0 ≤ i ∧ i ≤ (k : Int)) (fun i => ((k : Int) - i).toNat) (fun _ => some (k : Int)) ?_ FU 0 ⟨Int.le_refl _, by omega⟩ (by have := FU_big; omega)
  rintro again i' ⟨g1, g2⟩ hag
  obtain ⟨i, rfl⟩ : ∃ i : Nat, i' = i := ⟨i'.toNat, by omega⟩
  have hi : i < l.length := by omega
  unfold ref16_At_l2
  rw [if_pos (decide_eq_true (by omega)), idx_at hi]
  simp only [Option.bind_some]
  by_cases c : i = k
  · subst c; simp
  · have := sortedI_lt hs (show i < k by omega) hk
    rw [if_neg (by rw [decide_eq_true_eq]; omega), wrap64 (by omega) (by omega)]
    exact hag _ ⟨by omega, by omega⟩ (by omega)
theorem hasI_get {l : List Api_Pin} {id : Int} (h : hasI l id = true) : ∃ k, ∃ hk : k < l.length, l[k].ID = id := by
  obtain ⟨x, hx, e⟩ := List.any_eq_true.1 h
  obtain ⟨k, hk, rfl⟩ := List.getElem_of_mem hx
  exact ⟨k, hk, by simpa using e⟩

theorem dropI_app (a b : List Api_Pin) (id : Int) : dropI (a ++ b) id = dropI a id ++ dropI b id := by simp [dropI]
theorem ref16_Drop_eq {l : List Api_Pin} (hs : sortedI l) (hl : l.length ≤ 1000000) (id : Int) : ref16_Drop l id = some (if hasI l id = true then (dropI l id, 0) else ([], 12)) := by
  unfold ref16_Drop
  cases h : hasI l id with
  | false => rw [ref16_At_none hl h]; simp
  | true =>
    obtain ⟨k, hk, rfl⟩ := hasI_get h
    rw [ref16_At_some hs hl hk]
    simp only [Option.bind_some, if_true]
    rw [if_neg (by rw [decide_eq_true_eq]; omega)]
    refine loopF_inv (fun (v : Int × List Api_Pin) => ∃ j : Nat, v.1 = (j : Int) ∧ j ≤ l.length ∧ v.2 = dropI (l.take j) l[k].ID) (fun v => (l.length - v.1.toNat : Nat)) (fun _ => some (dropI l l[k].ID, 0)) ?_ FU (0, []) ⟨0, rfl, Nat.zero_le _, by simp [dropI]⟩ (by have := FU_big; simp only; omega)
    rintro again ⟨j', acc⟩ ⟨j, rfl, hj, rfl⟩ hag
    simp only at hag
    unfold ref16_Drop_l2
    simp only
    by_cases c : j < l.length
    · have hd : (dropI (l.take j) l[k].ID).length ≤ j := Nat.le_trans (List.length_filter_le _ _) (List.length_take_le _ _)
      have hsn : dropI (l.take (j + 1)) l[k].ID = dropI (l.take j) l[k].ID ++ dropI [l[j]] l[k].ID := by rw [take_snoc c, dropI_app]
      rw [if_pos (decide_eq_true (by omega)), wrap64 (n := (j : Int) + 1) (by omega) (by omega)]
      by_cases c2 : j = k
      · subst c2
        rw [if_neg (by simp)]
        exact hag _ ⟨j + 1, by simp, by omega, by rw [hsn]; simp [dropI]⟩ (by simp only; omega)
      · have hne : l[j].ID ≠ l[k].ID := by
          rcases Nat.lt_or_gt_of_ne c2 with h1 | h1
          · have := sortedI_lt hs h1 hk; omega
          · have := sortedI_lt hs h1 c; omega
        rw [if_pos (by simp; omega), idx_at c]
        simp only [Option.bind_some]
        rw [app_ok (by simp; omega) (by simp; omega)]
        simp only [Option.bind_some]
        exact hag _ ⟨j + 1, by simp, by omega, by rw [hsn]; simp [dropI, hne]⟩ (by simp only; omega)
    · obtain rfl : j = l.length := by omega
      rw [if_neg (by simp), List.take_length]
      rfl

theorem insI_app_last {p : Api_Pin} : ∀ {a b : List Api_Pin}, (∀ x, x ∈ a → x.ID < p.ID) → insI p (a ++ b) = a ++ insI p b
  | [], b, _ => rfl
  | x :: a, b, h => by
    have := h x (by simp)
    rw [List.cons_append, insI, if_neg (by omega), insI_app_last fun y hy => h y (by simp [hy])]; rfl
theorem insI_app_front {p : Api_Pin} : ∀ {a b : List Api_Pin}, (∃ x, x ∈ a ∧ p.ID < x.ID) → insI p (a ++ b) = insI p a ++ b
  | [], b, ⟨x, h, _⟩ => by simp at h
  | y :: a, b, ⟨x, h, h2⟩ => by
    rw [List.cons_append, insI, insI]
    by_cases c : p.ID < y.ID
    · rw [if_pos c, if_pos c]; rfl
    · rw [if_neg c, if_neg c, insI_app_front]
      · rfl
      · rcases List.mem_cons.1 h with rfl | h
        · exact absurd h2 c
        · exact ⟨x, h, h2⟩
theorem ref16_Put_eq {l : List Api_Pin} (hs : sortedI l) (hl : l.length ≤ 1000000) (p : Api_Pin) :
    ref16_Put l p = some (if p.ID < 1 then ([], 1) else if hasI l p.ID = true then ([], 13) else if 8 ≤ l.length then ([], 15) else (insI p l, 0)) := by
  unfold ref16_Put
  by_cases c1 : p.ID < 1
  · rw [if_pos (decide_eq_true c1), if_pos c1]
  rw [if_neg (by simpa using c1), if_neg c1]
  cases h : hasI l p.ID with
  | true =>
    obtain ⟨k, hk, e⟩ := hasI_get h
    rw [← e, ref16_At_some hs hl hk]
    simp only [Option.bind_some, if_true]
    rw [if_pos (decide_eq_true (by omega))]
  | false =>
    rw [ref16_At_none hl h]
    simp only [Option.bind_some, Bool.false_eq_true, if_false]
    rw [if_neg (by decide)]
    by_cases c3 : 8 ≤ l.length
    · rw [if_pos (decide_eq_true (by omega)), if_pos c3]
    · rw [if_neg (by rw [decide_eq_true_eq]; omega), if_neg c3]
      refine loopF_inv (fun (v : Bool × Int × List Api_Pin) => ∃ j : Nat, v.2.1 = (j : Int) ∧ j ≤ l.length ∧ ((v.1 = false ∧ v.2.2 = l.take j ∧ ∀ x, x ∈ l.take j → x.ID < p.ID) ∨ (v.1 = true ∧ v.2.2 = insI p (l.take j) ∧ ∃ x, x ∈ l.take j ∧ p.ID < x.ID))) (fun v => (l.length - v.2.1.toNat : Nat)) (fun _ => some (insI p l, 0)) ?_ FU (false, 0, []) ⟨0, rfl, Nat.zero_le _, .inl ⟨rfl, by simp, fun x hx => by simp at hx⟩⟩ (by have := FU_big; simp only; omega)
      rintro again ⟨b, j', acc⟩ ⟨j, rfl, hj, hv⟩ hag
      simp only at hag hv
      unfold ref16_Put_l2 ref16_Put_k3 ref16_Put_k4
      simp only
      have htl := List.length_take_le j l
      by_cases c : j < l.length
      · have hne := hasI_false h l[j] (List.getElem_mem c)
        rw [if_pos (decide_eq_true (by omega)), wrap64 (n := (j : Int) + 1) (by omega) (by omega), idx_at c]
        simp only [Option.bind_some]
        rcases hv with ⟨rfl, rfl, hlt⟩ | ⟨rfl, rfl, hex⟩
        · simp only [Bool.not_false, if_true, Bool.false_eq_true, if_false]
          by_cases c4 : p.ID < l[j].ID
          · rw [if_pos (decide_eq_true c4), app_ok (by simp; omega) (by simp; omega)]
            simp only [Option.bind_some]
            rw [app_ok (by simp; omega) (by simp; omega)]
            simp only [Option.bind_some]
            refine hag _ ⟨j + 1, by simp, by omega, .inr ⟨rfl, ?_, l[j], by rw [take_snoc c]; exact List.mem_append_right _ (List.mem_singleton.2 rfl), c4⟩⟩ (by simp only; omega)
            rw [take_snoc c, insI_app_last hlt, insI, if_pos c4]
            simp
          · rw [if_neg (by simpa using c4), app_ok (by simp; omega) (by simp; omega)]
            simp only [Option.bind_some]
            refine hag _ ⟨j + 1, by simp, by omega, .inl ⟨rfl, (take_snoc c).symm, fun x hx => ?_⟩⟩ (by simp only; omega)
            rw [take_snoc c] at hx
            rcases List.mem_append.1 hx with hx | hx
            · exact hlt x hx
            · have : x = l[j] := by simpa using hx
              subst this; omega
        · have hil := insI_length p (l.take j)
          simp only [Bool.not_true, Bool.false_eq_true, if_false]
          rw [app_ok (by simp; omega) (by simp; omega)]
          simp only [Option.bind_some]
          refine hag _ ⟨j + 1, by simp, by omega, .inr ⟨rfl, by rw [take_snoc c, insI_app_front hex], ?_⟩⟩ (by simp only; omega)
          obtain ⟨x, hx, h2⟩ := hex
          exact ⟨x, by rw [take_snoc c]; exact List.mem_append_left _ hx, h2⟩
      · obtain rfl : j = l.length := by omega
        rw [if_neg (by simp)]
        unfold ref16_Put_k1
        rw [List.take_length] at hv
        rcases hv with ⟨rfl, rfl, hlt⟩ | ⟨rfl, rfl, -⟩
        · simp only [Bool.not_false, if_true]
          rw [app_ok (by simp; omega) (by simp; omega)]
          have := insI_app_last (b := []) hlt
          rw [List.append_nil] at this
          rw [this]; rfl
        · simp

theorem flatP_snoc {l : List Api_Pin} {j : Nat} (h : j < l.length) : flatP (l.take (j + 1)) = flatP (l.take j) ++ l[j].Deps := by
  rw [take_snoc h]; unfold flatP; rw [List.flatMap_append, List.flatMap_singleton]
theorem flatP_take_le (l : List Api_Pin) (j : Nat) : (flatP (l.take j)).length ≤ (flatP l).length := by
  have h : flatP l = flatP (l.take j) ++ flatP (l.drop j) := by
    unfold flatP; rw [← List.flatMap_append, List.take_append_drop]
  rw [h, List.length_append]; omega
theorem ref16_All_eq {l : List Api_Pin} (hl : l.length ≤ 1000000) (h : (flatP l).length ≤ 1000000) : ref16_All l = some (flatP l) := by
  unfold ref16_All
  refine loopF_inv (fun (v : Int × List Api_Dep) => ∃ j : Nat, v.1 = (j : Int) ∧ j ≤ l.length ∧ v.2 = flatP (l.take j)) (fun v => (l.length - v.1.toNat : Nat)) (fun _ => some (flatP l)) ?_ FU (0, []) ⟨0, rfl, Nat.zero_le _, by simp [flatP]⟩ (by have := FU_big; simp only; omega)
  rintro again ⟨j', acc⟩ ⟨j, rfl, hj, rfl⟩ hag
  simp only at hag
  unfold ref16_All_l2
  simp only
  by_cases c : j < l.length
  · have h1 := flatP_take_le l (j + 1)
    have h2 := flatP_snoc c
    have h3 : (flatP (l.take (j + 1))).length = (flatP (l.take j)).length + l[j].Deps.length := by rw [h2, List.length_append]
    rw [if_pos (decide_eq_true (by omega)), wrap64 (n := (j : Int) + 1) (by omega) (by omega), idx_at c]
    simp only [Option.bind_some]
    rw [app_ok (by omega) (by omega)]
    simp only [Option.bind_some]
    exact hag _ ⟨j + 1, by simp, by omega, by rw [h2]⟩ (by simp only; omega)
  · obtain rfl : j = l.length := by omega
    rw [if_neg (by simp), List.take_length]
    rfl
theorem ref16_Of_eq {l : List Api_Pin} (hl : l.length ≤ 1000000) (h : (flatP l).length ≤ 1000000) (key : ByteArray) : ref16_Of l key = some (ofP key (flatP l)) := by
  unfold ref16_Of
  rw [ref16_All_eq hl h]
  simp only [Option.bind_some]
  generalize flatP l = r at h
  refine loopF_inv (fun (v : Int × List Api_Stamp) => ∃ j : Nat, v.1 = (j : Int) ∧ j ≤ r.length ∧ v.2 = ofP key (r.take j)) (fun v => (r.length - v.1.toNat : Nat)) (fun _ => some (ofP key r)) ?_ FU (0, []) ⟨0, rfl, Nat.zero_le _, by simp [ofP]⟩ (by have := FU_big; simp only; omega)
  rintro again ⟨j', acc⟩ ⟨j, rfl, hj, rfl⟩ hag
  simp only at hag
  unfold ref16_Of_l2
  simp only
  by_cases c : j < r.length
  · have h1 := ofP_len key (r.take j)
    have h4 := List.length_take_le j r
    have h2 : ofP key (r.take (j + 1)) = ofP key (r.take j) ++ ofP key [r[j]] := by rw [take_snoc c, ofP_app]
    rw [if_pos (decide_eq_true (by omega)), wrap64 (n := (j : Int) + 1) (by omega) (by omega), idx_at c]
    simp only [Option.bind_some, seq_eq]
    by_cases c2 : r[j].Key = key
    · rw [if_pos (decide_eq_true c2), app_ok (by simp; omega) (by simp; omega)]
      simp only [Option.bind_some]
      exact hag _ ⟨j + 1, by simp, by omega, by rw [h2, ofP_hit c2]⟩ (by simp only; omega)
    · rw [if_neg (by simpa using c2)]
      exact hag _ ⟨j + 1, by simp, by omega, by rw [h2, ofP_miss c2]; simp⟩ (by simp only; omega)
  · obtain rfl : j = r.length := by omega
    rw [if_neg (by simp), List.take_length]
    rfl
end Go.Ark
