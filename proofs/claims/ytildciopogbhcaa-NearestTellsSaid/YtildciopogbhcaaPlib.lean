/- Plain laws of the slice functions: printed by a program of mine, one copy for each element type. Conditions: none but those that stand in each law. -/
import Derived.Test.YtildciopogbhcaaP0
import Derived.Test.YtildciopogbhcaaFlib
namespace Go.Ark
open Go Go.Ab

def fidx {α : Type} (p : α → Bool) (s : List α) : Int := match s.findIdx? p with | some i => (i : Int) | none => -1

theorem fidx_some {α : Type} {p : α → Bool} {s : List α} {i : Nat} (hi : i < s.length) (h1 : p s[i] = true) (h2 : ∀ j (hj : j < s.length), j < i → p s[j] = false) : fidx p s = i := by
  have : s.findIdx? p = some i := List.findIdx?_eq_some_iff_getElem.2 ⟨hi, h1, fun j hj => by simp [h2 j (by omega) hj]⟩
  simp [fidx, this]
theorem fidx_none {α : Type} {p : α → Bool} {s : List α} (h : ∀ j (hj : j < s.length), p s[j] = false) : fidx p s = -1 := by
  have : s.findIdx? p = none := List.findIdx?_eq_none_iff.2 fun x hx => by obtain ⟨j, hj, rfl⟩ := List.getElem_of_mem hx; exact h j hj
  simp [fidx, this]
theorem fidx_cases {α : Type} (p : α → Bool) (s : List α) : (∃ i, ∃ h : i < s.length, p s[i] = true ∧ (∀ j (hj : j < s.length), j < i → p s[j] = false) ∧ fidx p s = i) ∨ ((∀ x, x ∈ s → p x = false) ∧ fidx p s = -1) := by
  cases h : s.findIdx? p with
  | none =>
    right
    have := List.findIdx?_eq_none_iff.1 h
    exact ⟨this, by simp [fidx, h]⟩
  | some i =>
    left
    obtain ⟨hi, h1, h2⟩ := List.findIdx?_eq_some_iff_getElem.1 h
    exact ⟨i, hi, h1, fun j hj hji => by have := h2 j hji; simpa using this, by simp [fidx, h]⟩
theorem fidx_any {α : Type} (p : α → Bool) (s : List α) : decide (0 ≤ fidx p s) = s.any p := by
  rcases fidx_cases p s with ⟨i, h, h1, _, h3⟩ | ⟨h1, h2⟩
  · rw [h3]
    have : s.any p = true := List.any_eq_true.2 ⟨s[i], List.getElem_mem h, h1⟩
    simp [this]
  · rw [h2]
    have : s.any p = false := List.any_eq_false.2 fun x hx => by simp [h1 x hx]
    simp [this]

theorem slices_IndexFunc_Range_eq {s : List Api_Range} {f : Api_Range → Option Bool} {p : Api_Range → Bool} (hf : ∀ x, x ∈ s → f x = some (p x)) (hl : s.length ≤ 140737488355328) : slices_IndexFunc_Range s f = some (fidx p s) := by
  unfold slices_IndexFunc_Range
  refine loopF_inv (fun v => 0 ≤ v ∧ v ≤ (s.length : Int) ∧ ∀ j (hj : j < s.length), (j : Int) < v → p s[j] = false) (fun v => (s.length - v).toNat) (fun _ => some (fidx p s)) ?_ FU _ ⟨Int.le_refl _, by omega, fun j _ h => by omega⟩ ?_
  · rintro again v ⟨h1, h2, h3⟩ hag
    unfold slices_IndexFunc_Range_l2
    by_cases c : v < (s.length : Int)
    · obtain ⟨i, rfl⟩ : ∃ i : Nat, v = i := ⟨v.toNat, by omega⟩
      have hi : i < s.length := by omega
      rw [if_pos (by simpa using c), idx_at hi]
      simp only [Option.bind_some, hf _ (List.getElem_mem hi)]
      cases hp : p s[i] with
      | true => simp only [if_true]; rw [fidx_some hi hp (fun j hj h => h3 j hj (by omega))]
      | false =>
        simp only [Bool.false_eq_true, if_false]
        rw [wrap64 (by omega) (by omega)]
        refine hag _ ⟨by omega, by omega, fun j hj h => ?_⟩ (by omega)
        rcases Nat.lt_or_ge j i with h4 | h4
        · exact h3 j hj (by omega)
        · rw [show s[j] = s[i] from by congr 1; omega]; exact hp
    · rw [if_neg (by simpa using c)]
      simp only [slices_IndexFunc_Range_k1]
      rw [fidx_none fun j hj => h3 j hj (by omega)]
  · have := FU_big
    omega

theorem slices_IndexFunc_Dep_eq {s : List Api_Dep} {f : Api_Dep → Option Bool} {p : Api_Dep → Bool} (hf : ∀ x, x ∈ s → f x = some (p x)) (hl : s.length ≤ 140737488355328) : slices_IndexFunc_Dep s f = some (fidx p s) := by
  unfold slices_IndexFunc_Dep
  refine loopF_inv (fun v => 0 ≤ v ∧ v ≤ (s.length : Int) ∧ ∀ j (hj : j < s.length), (j : Int) < v → p s[j] = false) (fun v => (s.length - v).toNat) (fun _ => some (fidx p s)) ?_ FU _ ⟨Int.le_refl _, by omega, fun j _ h => by omega⟩ ?_
  · rintro again v ⟨h1, h2, h3⟩ hag
    unfold slices_IndexFunc_Dep_l2
    by_cases c : v < (s.length : Int)
    · obtain ⟨i, rfl⟩ : ∃ i : Nat, v = i := ⟨v.toNat, by omega⟩
      have hi : i < s.length := by omega
      rw [if_pos (by simpa using c), idx_at hi]
      simp only [Option.bind_some, hf _ (List.getElem_mem hi)]
      cases hp : p s[i] with
      | true => simp only [if_true]; rw [fidx_some hi hp (fun j hj h => h3 j hj (by omega))]
      | false =>
        simp only [Bool.false_eq_true, if_false]
        rw [wrap64 (by omega) (by omega)]
        refine hag _ ⟨by omega, by omega, fun j hj h => ?_⟩ (by omega)
        rcases Nat.lt_or_ge j i with h4 | h4
        · exact h3 j hj (by omega)
        · rw [show s[j] = s[i] from by congr 1; omega]; exact hp
    · rw [if_neg (by simpa using c)]
      simp only [slices_IndexFunc_Dep_k1]
      rw [fidx_none fun j hj => h3 j hj (by omega)]
  · have := FU_big
    omega

theorem slices_DeleteFunc_Dep_eq {s : List Api_Dep} {f : Api_Dep → Option Bool} {p : Api_Dep → Bool} (hf : ∀ x, x ∈ s → f x = some (p x)) (hl : s.length ≤ 140737488355328) : slices_DeleteFunc_Dep s f = some (s.filter fun x => !p x) := by
  unfold slices_DeleteFunc_Dep
  rw [slices_IndexFunc_Dep_eq hf hl]
  simp only [Option.bind_some]
  rcases fidx_cases p s with ⟨k, hk, hpk, hlo, he⟩ | ⟨hno, he⟩
  · rw [he, if_neg (by simp), wrap64 (by omega) (by omega)]
    refine loopF_inv (fun v => 0 ≤ v.1 ∧ v.1 < v.2.1 ∧ v.2.1 ≤ (s.length : Int) ∧ v.2.2.length = s.length ∧ v.2.2.take v.1.toNat = (s.take v.2.1.toNat).filter (fun x => !p x) ∧ v.2.2.drop v.2.1.toNat = s.drop v.2.1.toNat)
      (fun v => ((s.length : Int) - v.2.1).toNat) (fun _ => some (s.filter fun x => !p x)) ?_ FU _ ?_ ?_
    · rintro again ⟨a, b, row⟩ ⟨h1, h2, h3, h4, h5, h6⟩ hag
      simp only at h1 h2 h3 h4 h5 h6
      obtain ⟨i, rfl⟩ : ∃ i : Nat, a = i := ⟨a.toNat, by omega⟩
      obtain ⟨j, rfl⟩ : ∃ j : Nat, b = j := ⟨b.toNat, by omega⟩
      simp only [Int.toNat_natCast] at h5 h6
      unfold slices_DeleteFunc_Dep_l2
      simp only
      by_cases c : j < s.length
      · have hx : row[j]'(by omega) = s[j] := by
          have e1 : (row.drop j)[0]? = (s.drop j)[0]? := by rw [h6]
          simp only [List.getElem?_drop, Nat.add_zero] at e1
          rw [List.getElem?_eq_getElem (by omega), List.getElem?_eq_getElem c] at e1
          exact Option.some.inj e1
        have htake : (s.take (j + 1)).filter (fun x => !p x) = (s.take j).filter (fun x => !p x) ++ if p s[j] then [] else [s[j]] := by
          rw [List.take_add_one, List.getElem?_eq_getElem c, List.filter_append]
          cases hp : p s[j] <;> simp [hp]
        rw [if_pos (by simp; omega), idx_at (show j < row.length by omega), hx]
        simp only [Option.bind_some, hf _ (List.getElem_mem c)]
        have e2 : IntKind.wrap .i64 ((j : Int) + 1) = ((j + 1 : Nat) : Int) := by rw [wrap64 (by omega) (by omega)]; omega
        have e3 : IntKind.wrap .i64 ((i : Int) + 1) = ((i + 1 : Nat) : Int) := by rw [wrap64 (by omega) (by omega)]; omega
        have hdrop : row.drop (j + 1) = s.drop (j + 1) := by rw [← List.drop_drop, h6, List.drop_drop]
        cases hp : p s[j] with
        | true =>
          simp only [Bool.not_true, Bool.false_eq_true, if_false, e2]
          exact hag _ ⟨by simp only; omega, by simp only; omega, by simp only; omega, h4, by simp only [Int.toNat_natCast]; rw [htake, hp, h5]; simp, by simp only [Int.toNat_natCast]; exact hdrop⟩ (by simp only; omega)
        | false =>
          simp only [Bool.not_false, if_true, e2, e3]
          have hset : sets row (i : Int) s[j] = some (row.set i s[j]) := by simp only [sets]; rw [if_pos ⟨by omega, by omega⟩]; simp
          rw [hset]
          simp only [Option.bind_some]
          refine hag _ ⟨by simp only; omega, by simp only; omega, by simp only; omega, by simp only [List.length_set]; exact h4, ?_, ?_⟩ (by simp only; omega)
          · simp only [Int.toNat_natCast]
            rw [htake, hp, ← h5, List.take_add_one, List.getElem?_set]
            simp only [if_true]
            rw [if_pos (by omega), List.take_set, List.set_eq_of_length_le (by simp; omega)]
            simp
          · simp only [Int.toNat_natCast]
            rw [List.drop_set_of_lt (by omega)]
            exact hdrop
      · have hj : j = s.length := by omega
        subst hj
        rw [if_neg (by simp; omega)]
        simp only [slices_DeleteFunc_Dep_k1]
        have hz : ∀ z : Api_Dep, zeroes row (i : Int) z = some (row.take i ++ List.replicate (row.length - i) z) := fun z => by simp only [zeroes]; rw [if_pos ⟨by omega, by omega⟩]; simp
        rw [hz]
        simp only [Option.bind_some]
        have hs : ∀ z : Api_Dep, sub (row.take i ++ List.replicate (row.length - i) z) 0 (i : Int) = some (row.take i) := fun z => by
          simp only [sub]
          rw [if_pos ⟨by omega, by omega, by simp; omega⟩]
          simp only [Int.toNat_zero, List.drop_zero, Int.toNat_natCast]
          rw [List.take_append_of_le_length (by simp; omega), List.take_take, Nat.min_self]
        rw [hs]
        simp only [Option.bind_some]
        rw [h5, List.take_length]
    · refine ⟨by simp only; omega, by simp only; omega, by simp only; omega, rfl, ?_, rfl⟩
      simp only [Int.toNat_natCast]
      rw [show ((k : Int) + 1).toNat = k + 1 by omega, List.take_add_one, List.getElem?_eq_getElem hk, List.filter_append]
      have : (s.take k).filter (fun x => !p x) = s.take k := List.filter_eq_self.2 fun x hx => by
        obtain ⟨q, hq, rfl⟩ := List.getElem_of_mem hx
        simp only [List.length_take] at hq
        simp only [List.getElem_take]
        rw [hlo q (by omega) (by omega)]; rfl
      rw [this]
      simp [hpk]
    · have := FU_big
      simp only
      omega
  · rw [he, if_pos (by decide)]
    rw [List.filter_eq_self.2 fun x hx => by simp [hno x hx]]

theorem slices_Clone_Dep_eq {s : List Api_Dep} (hl : s.length ≤ 1099511627776) (hl2 : s.length * 32 ≤ 140737488355328) : slices_Clone_Dep s = some s := by
  unfold slices_Clone_Dep
  rw [app_ok (by simpa using hl) (by simpa using hl2)]
  rfl

theorem slices_IndexFunc_Version_eq {s : List Api_Version} {f : Api_Version → Option Bool} {p : Api_Version → Bool} (hf : ∀ x, x ∈ s → f x = some (p x)) (hl : s.length ≤ 140737488355328) : slices_IndexFunc_Version s f = some (fidx p s) := by
  unfold slices_IndexFunc_Version
  refine loopF_inv (fun v => 0 ≤ v ∧ v ≤ (s.length : Int) ∧ ∀ j (hj : j < s.length), (j : Int) < v → p s[j] = false) (fun v => (s.length - v).toNat) (fun _ => some (fidx p s)) ?_ FU _ ⟨Int.le_refl _, by omega, fun j _ h => by omega⟩ ?_
  · rintro again v ⟨h1, h2, h3⟩ hag
    unfold slices_IndexFunc_Version_l2
    by_cases c : v < (s.length : Int)
    · obtain ⟨i, rfl⟩ : ∃ i : Nat, v = i := ⟨v.toNat, by omega⟩
      have hi : i < s.length := by omega
      rw [if_pos (by simpa using c), idx_at hi]
      simp only [Option.bind_some, hf _ (List.getElem_mem hi)]
      cases hp : p s[i] with
      | true => simp only [if_true]; rw [fidx_some hi hp (fun j hj h => h3 j hj (by omega))]
      | false =>
        simp only [Bool.false_eq_true, if_false]
        rw [wrap64 (by omega) (by omega)]
        refine hag _ ⟨by omega, by omega, fun j hj h => ?_⟩ (by omega)
        rcases Nat.lt_or_ge j i with h4 | h4
        · exact h3 j hj (by omega)
        · rw [show s[j] = s[i] from by congr 1; omega]; exact hp
    · rw [if_neg (by simpa using c)]
      simp only [slices_IndexFunc_Version_k1]
      rw [fidx_none fun j hj => h3 j hj (by omega)]
  · have := FU_big
    omega

theorem slices_DeleteFunc_Version_eq {s : List Api_Version} {f : Api_Version → Option Bool} {p : Api_Version → Bool} (hf : ∀ x, x ∈ s → f x = some (p x)) (hl : s.length ≤ 140737488355328) : slices_DeleteFunc_Version s f = some (s.filter fun x => !p x) := by
  unfold slices_DeleteFunc_Version
  rw [slices_IndexFunc_Version_eq hf hl]
  simp only [Option.bind_some]
  rcases fidx_cases p s with ⟨k, hk, hpk, hlo, he⟩ | ⟨hno, he⟩
  · rw [he, if_neg (by simp), wrap64 (by omega) (by omega)]
    refine loopF_inv (fun v => 0 ≤ v.1 ∧ v.1 < v.2.1 ∧ v.2.1 ≤ (s.length : Int) ∧ v.2.2.length = s.length ∧ v.2.2.take v.1.toNat = (s.take v.2.1.toNat).filter (fun x => !p x) ∧ v.2.2.drop v.2.1.toNat = s.drop v.2.1.toNat)
      (fun v => ((s.length : Int) - v.2.1).toNat) (fun _ => some (s.filter fun x => !p x)) ?_ FU _ ?_ ?_
    · rintro again ⟨a, b, row⟩ ⟨h1, h2, h3, h4, h5, h6⟩ hag
      simp only at h1 h2 h3 h4 h5 h6
      obtain ⟨i, rfl⟩ : ∃ i : Nat, a = i := ⟨a.toNat, by omega⟩
      obtain ⟨j, rfl⟩ : ∃ j : Nat, b = j := ⟨b.toNat, by omega⟩
      simp only [Int.toNat_natCast] at h5 h6
      unfold slices_DeleteFunc_Version_l2
      simp only
      by_cases c : j < s.length
      · have hx : row[j]'(by omega) = s[j] := by
          have e1 : (row.drop j)[0]? = (s.drop j)[0]? := by rw [h6]
          simp only [List.getElem?_drop, Nat.add_zero] at e1
          rw [List.getElem?_eq_getElem (by omega), List.getElem?_eq_getElem c] at e1
          exact Option.some.inj e1
        have htake : (s.take (j + 1)).filter (fun x => !p x) = (s.take j).filter (fun x => !p x) ++ if p s[j] then [] else [s[j]] := by
          rw [List.take_add_one, List.getElem?_eq_getElem c, List.filter_append]
          cases hp : p s[j] <;> simp [hp]
        rw [if_pos (by simp; omega), idx_at (show j < row.length by omega), hx]
        simp only [Option.bind_some, hf _ (List.getElem_mem c)]
        have e2 : IntKind.wrap .i64 ((j : Int) + 1) = ((j + 1 : Nat) : Int) := by rw [wrap64 (by omega) (by omega)]; omega
        have e3 : IntKind.wrap .i64 ((i : Int) + 1) = ((i + 1 : Nat) : Int) := by rw [wrap64 (by omega) (by omega)]; omega
        have hdrop : row.drop (j + 1) = s.drop (j + 1) := by rw [← List.drop_drop, h6, List.drop_drop]
        cases hp : p s[j] with
        | true =>
          simp only [Bool.not_true, Bool.false_eq_true, if_false, e2]
          exact hag _ ⟨by simp only; omega, by simp only; omega, by simp only; omega, h4, by simp only [Int.toNat_natCast]; rw [htake, hp, h5]; simp, by simp only [Int.toNat_natCast]; exact hdrop⟩ (by simp only; omega)
        | false =>
          simp only [Bool.not_false, if_true, e2, e3]
          have hset : sets row (i : Int) s[j] = some (row.set i s[j]) := by simp only [sets]; rw [if_pos ⟨by omega, by omega⟩]; simp
          rw [hset]
          simp only [Option.bind_some]
          refine hag _ ⟨by simp only; omega, by simp only; omega, by simp only; omega, by simp only [List.length_set]; exact h4, ?_, ?_⟩ (by simp only; omega)
          · simp only [Int.toNat_natCast]
            rw [htake, hp, ← h5, List.take_add_one, List.getElem?_set]
            simp only [if_true]
            rw [if_pos (by omega), List.take_set, List.set_eq_of_length_le (by simp; omega)]
            simp
          · simp only [Int.toNat_natCast]
            rw [List.drop_set_of_lt (by omega)]
            exact hdrop
      · have hj : j = s.length := by omega
        subst hj
        rw [if_neg (by simp; omega)]
        simp only [slices_DeleteFunc_Version_k1]
        have hz : ∀ z : Api_Version, zeroes row (i : Int) z = some (row.take i ++ List.replicate (row.length - i) z) := fun z => by simp only [zeroes]; rw [if_pos ⟨by omega, by omega⟩]; simp
        rw [hz]
        simp only [Option.bind_some]
        have hs : ∀ z : Api_Version, sub (row.take i ++ List.replicate (row.length - i) z) 0 (i : Int) = some (row.take i) := fun z => by
          simp only [sub]
          rw [if_pos ⟨by omega, by omega, by simp; omega⟩]
          simp only [Int.toNat_zero, List.drop_zero, Int.toNat_natCast]
          rw [List.take_append_of_le_length (by simp; omega), List.take_take, Nat.min_self]
        rw [hs]
        simp only [Option.bind_some]
        rw [h5, List.take_length]
    · refine ⟨by simp only; omega, by simp only; omega, by simp only; omega, rfl, ?_, rfl⟩
      simp only [Int.toNat_natCast]
      rw [show ((k : Int) + 1).toNat = k + 1 by omega, List.take_add_one, List.getElem?_eq_getElem hk, List.filter_append]
      have : (s.take k).filter (fun x => !p x) = s.take k := List.filter_eq_self.2 fun x hx => by
        obtain ⟨q, hq, rfl⟩ := List.getElem_of_mem hx
        simp only [List.length_take] at hq
        simp only [List.getElem_take]
        rw [hlo q (by omega) (by omega)]; rfl
      rw [this]
      simp [hpk]
    · have := FU_big
      simp only
      omega
  · rw [he, if_pos (by decide)]
    rw [List.filter_eq_self.2 fun x hx => by simp [hno x hx]]

theorem slices_Clone_Version_eq {s : List Api_Version} (hl : s.length ≤ 1099511627776) (hl2 : s.length * 80 ≤ 140737488355328) : slices_Clone_Version s = some s := by
  unfold slices_Clone_Version
  rw [app_ok (by simpa using hl) (by simpa using hl2)]
  rfl
theorem cmp_eq (x y : ByteArray) : cmp_Compare_string x y = some (if slt x y then -1 else if slt y x then 1 else 0) := by
  have hx : cmp_isNaN_string x = some false := by simp [cmp_isNaN_string, seq_eq]
  have hy : cmp_isNaN_string y = some false := by simp [cmp_isNaN_string, seq_eq]
  unfold cmp_Compare_string
  rw [hx, hy]
  simp only [Option.bind_some, Bool.false_eq_true, if_false]
  cases h1 : slt x y
  · simp only [Bool.false_eq_true, if_false, Bool.false_or, seq_eq]
    cases h2 : slt y x
    · have := slt_tri h1 h2; simp [this]
    · have := slt_ne h2; simp; exact fun c => this c.symm
  · simp

end Go.Ark
