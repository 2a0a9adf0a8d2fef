/- Plain laws of the slice functions on events: printed by a program of mine. Conditions: none but those that stand in each law. -/
import Derived.Test.YtdngcojjipaajaaPlib1
namespace Go.Ark
open Go Go.Ab

theorem slices_IndexFunc_Event_eq {s : List Api_Event} {f : Api_Event → Option Bool} {p : Api_Event → Bool} (hf : ∀ x, x ∈ s → f x = some (p x)) (hl : s.length ≤ 140737488355328) : slices_IndexFunc_Event s f = some (fidx p s) := by
  unfold slices_IndexFunc_Event
  refine loopF_inv (fun v => 0 ≤ v ∧ v ≤ (s.length : Int) ∧ ∀ j (hj : j < s.length), (j : Int) < v → p s[j] = false) (fun v => (s.length - v).toNat) (fun _ => some (fidx p s)) ?_ FU _ ⟨Int.le_refl _, by omega, fun j _ h => by omega⟩ ?_
  · rintro again v ⟨h1, h2, h3⟩ hag
    unfold slices_IndexFunc_Event_l2
    by_cases c : v < (s.length : Int)
    · obtain ⟨i, rfl⟩ : ∃ i : Nat, v = i := ⟨v.toNat, by omega⟩
      have hi : i < s.length := by omega
      rw [if_pos (by simpa using c), idx_at hi]
      simp only [Option.bind_some, hf _ (List.getElem_mem hi)]
      cases hp : p s[i] with
      | true => simp only [if_true]; rw [fidx_some hi hp (fun j hj h => h3 j hj (by omega))]
      | false =>
        simp only [Bool.false_eq_true, if_false]
        rw [wrap64 (by omega) (by omega)]
        refine hag _ ⟨by omega, by omega, fun j hj h => ?_⟩ (by omega)
        rcases Nat.lt_or_ge j i with h4 | h4
        · exact h3 j hj (by omega)
        · rw [show s[j] = s[i] from by congr 1; omega]; exact hp
    · rw [if_neg (by simpa using c)]
      simp only [slices_IndexFunc_Event_k1]
      rw [fidx_none fun j hj => h3 j hj (by omega)]
  · have := FU_big
    omega

theorem slices_DeleteFunc_Event_eq {s : List Api_Event} {f : Api_Event → Option Bool} {p : Api_Event → Bool} (hf : ∀ x, x ∈ s → f x = some (p x)) (hl : s.length ≤ 140737488355328) : slices_DeleteFunc_Event s f = some (s.filter fun x => !p x) := by
  unfold slices_DeleteFunc_Event
  rw [slices_IndexFunc_Event_eq hf hl]
  simp only [Option.bind_some]
  rcases fidx_cases p s with ⟨k, hk, hpk, hlo, he⟩ | ⟨hno, he⟩
  · rw [he, if_neg (by simp), wrap64 (by omega) (by omega)]
    refine loopF_inv (fun v => 0 ≤ v.1 ∧ v.1 < v.2.1 ∧ v.2.1 ≤ (s.length : Int) ∧ v.2.2.length = s.length ∧ v.2.2.take v.1.toNat = (s.take v.2.1.toNat).filter (fun x => !p x) ∧ v.2.2.drop v.2.1.toNat = s.drop v.2.1.toNat)
      (fun v => ((s.length : Int) - v.2.1).toNat) (fun _ => some (s.filter fun x => !p x)) ?_ FU _ ?_ ?_
    · rintro again ⟨a, b, row⟩ ⟨h1, h2, h3, h4, h5, h6⟩ hag
      simp only at h1 h2 h3 h4 h5 h6
      obtain ⟨i, rfl⟩ : ∃ i : Nat, a = i := ⟨a.toNat, by omega⟩
      obtain ⟨j, rfl⟩ : ∃ j : Nat, b = j := ⟨b.toNat, by omega⟩
      simp only [Int.toNat_natCast] at h5 h6
      unfold slices_DeleteFunc_Event_l2
      simp only
      by_cases c : j < s.length
      · have hx : row[j]'(by omega) = s[j] := by
          have e1 : (row.drop j)[0]? = (s.drop j)[0]? := by rw [h6]
          simp only [List.getElem?_drop, Nat.add_zero] at e1
          rw [List.getElem?_eq_getElem (by omega), List.getElem?_eq_getElem c] at e1
          exact Option.some.inj e1
        have htake : (s.take (j + 1)).filter (fun x => !p x) = (s.take j).filter (fun x => !p x) ++ if p s[j] then [] else [s[j]] := by
          rw [List.take_add_one, List.getElem?_eq_getElem c, List.filter_append]
          cases hp : p s[j] <;> simp [hp]
        rw [if_pos (by simp; omega), idx_at (show j < row.length by omega), hx]
        simp only [Option.bind_some, hf _ (List.getElem_mem c)]
        have e2 : IntKind.wrap .i64 ((j : Int) + 1) = ((j + 1 : Nat) : Int) := by rw [wrap64 (by omega) (by omega)]; omega
        have e3 : IntKind.wrap .i64 ((i : Int) + 1) = ((i + 1 : Nat) : Int) := by rw [wrap64 (by omega) (by omega)]; omega
        have hdrop : row.drop (j + 1) = s.drop (j + 1) := by rw [← List.drop_drop, h6, List.drop_drop]
        cases hp : p s[j] with
        | true =>
          simp only [Bool.not_true, Bool.false_eq_true, if_false, e2]
          exact hag _ ⟨by simp only; omega, by simp only; omega, by simp only; omega, h4, by simp only [Int.toNat_natCast]; rw [htake, hp, h5]; simp, by simp only [Int.toNat_natCast]; exact hdrop⟩ (by simp only; omega)
        | false =>
          simp only [Bool.not_false, if_true, e2, e3]
          have hset : sets row (i : Int) s[j] = some (row.set i s[j]) := by simp only [sets]; rw [if_pos ⟨by omega, by omega⟩]; simp
          rw [hset]
          simp only [Option.bind_some]
          refine hag _ ⟨by simp only; omega, by simp only; omega, by simp only; omega, by simp only [List.length_set]; exact h4, ?_, ?_⟩ (by simp only; omega)
          · simp only [Int.toNat_natCast]
            rw [htake, hp, ← h5, List.take_add_one, List.getElem?_set]
            simp only [if_true]
            rw [if_pos (by omega), List.take_set, List.set_eq_of_length_le (by simp; omega)]
            simp
          · simp only [Int.toNat_natCast]
            rw [List.drop_set_of_lt (by omega)]
            exact hdrop
      · have hj : j = s.length := by omega
        subst hj
        rw [if_neg (by simp; omega)]
        simp only [slices_DeleteFunc_Event_k1]
        have hz : ∀ z : Api_Event, zeroes row (i : Int) z = some (row.take i ++ List.replicate (row.length - i) z) := fun z => by simp only [zeroes]; rw [if_pos ⟨by omega, by omega⟩]; simp
        rw [hz]
        simp only [Option.bind_some]
        have hs : ∀ z : Api_Event, sub (row.take i ++ List.replicate (row.length - i) z) 0 (i : Int) = some (row.take i) := fun z => by
          simp only [sub]
          rw [if_pos ⟨by omega, by omega, by simp; omega⟩]
          simp only [Int.toNat_zero, List.drop_zero, Int.toNat_natCast]
          rw [List.take_append_of_le_length (by simp; omega), List.take_take, Nat.min_self]
        rw [hs]
        simp only [Option.bind_some]
        rw [h5, List.take_length]
    · refine ⟨by simp only; omega, by simp only; omega, by simp only; omega, rfl, ?_, rfl⟩
      simp only [Int.toNat_natCast]
      rw [show ((k : Int) + 1).toNat = k + 1 by omega, List.take_add_one, List.getElem?_eq_getElem hk, List.filter_append]
      have : (s.take k).filter (fun x => !p x) = s.take k := List.filter_eq_self.2 fun x hx => by
        obtain ⟨q, hq, rfl⟩ := List.getElem_of_mem hx
        simp only [List.length_take] at hq
        simp only [List.getElem_take]
        rw [hlo q (by omega) (by omega)]; rfl
      rw [this]
      simp [hpk]
    · have := FU_big
      simp only
      omega
  · rw [he, if_pos (by decide)]
    rw [List.filter_eq_self.2 fun x hx => by simp [hno x hx]]

theorem slices_Clone_Event_eq {s : List Api_Event} (hl : s.length ≤ 1099511627776) (hl2 : s.length * 72 ≤ 140737488355328) : slices_Clone_Event s = some s := by
  unfold slices_Clone_Event
  rw [app_ok (by simpa using hl) (by simpa using hl2)]
  rfl
end Go.Ark
