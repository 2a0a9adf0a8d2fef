import Derived.Test.YtfhlilpkgodilaaGreatDoorPwcheck
/- WordsBack: steps that were written are read, the same. Conditions: none. -/
namespace Go.Ark
open Go Go.Ab Go.RowKit

theorem few_par {o : Api_Op} {k : List ByteArray} {a b : ByteArray} {r : List Api_Range} {w : List Int} (hk : k.length ≤ 9 ∧ ∀ s, s ∈ k → s.size ≤ 40) (ha : a.size ≤ 40) (hb : b.size ≤ 40) (hr : r.length ≤ 9 ∧ ∀ x, x ∈ r → x.From.size ≤ 40 ∧ x.To.size ≤ 40) (hw : w.length ≤ 9) :
    ∃ q, law24_few_k4 o k a b r w = some q ∧ smallOp q := by
  unfold law24_few_k4
  by_cases c : (9 : Int) < (o.Row.Parents.length : Int)
  · rw [if_pos (decide_eq_true c)]
    have hs : sub o.Row.Parents 0 9 = some (o.Row.Parents.take 9) := by
      unfold sub
      rw [if_pos ⟨by omega, by omega, by omega⟩]
      rfl
    rw [hs, Option.bind_some]
    exact ⟨_, rfl, hk, ha, hb, hr, hw, by simp; omega⟩
  · rw [if_neg (by simpa using c)]
    exact ⟨_, rfl, hk, ha, hb, hr, hw, by show o.Row.Parents.length ≤ 9; omega⟩
theorem few_own {o : Api_Op} {k : List ByteArray} {a b : ByteArray} {r : List Api_Range} (hk : k.length ≤ 9 ∧ ∀ s, s ∈ k → s.size ≤ 40) (ha : a.size ≤ 40) (hb : b.size ≤ 40) (hr : r.length ≤ 9 ∧ ∀ x, x ∈ r → x.From.size ≤ 40 ∧ x.To.size ≤ 40) :
    ∃ q, law24_few_k3 o k a b r = some q ∧ smallOp q := by
  unfold law24_few_k3
  by_cases c : (9 : Int) < (o.Row.Owners.length : Int)
  · rw [if_pos (decide_eq_true c)]
    have hs : sub o.Row.Owners 0 9 = some (o.Row.Owners.take 9) := by
      unfold sub
      rw [if_pos ⟨by omega, by omega, by omega⟩]
      rfl
    rw [hs, Option.bind_some]
    exact few_par hk ha hb hr (by simp; omega)
  · rw [if_neg (by simpa using c)]
    exact few_par hk ha hb hr (by omega)
theorem few_ranges {o : Api_Op} {k : List ByteArray} (hk : k.length ≤ 9 ∧ ∀ s, s ∈ k → s.size ≤ 40) : ∃ q, law24_few_k2 o k = some q ∧ smallOp q := by
  unfold law24_few_k2
  obtain ⟨a, ha, la⟩ := short_eq o.Key 40
  obtain ⟨b, hb, lb⟩ := short_eq o.Value 40
  rw [show law24_short o.Key 40 = some a from ha, Option.bind_some, show law24_short o.Value 40 = some b from hb, Option.bind_some]
  refine loopF_tot (body := law24_few_l5 o k a b) (fun v => 0 ≤ v.1 ∧ v.1 ≤ (o.Row.Ranges.length : Int) ∧ v.1 ≤ 9 ∧ (v.2.length : Int) = v.1 ∧ ∀ x, x ∈ v.2 → x.From.size ≤ 40 ∧ x.To.size ≤ 40) (fun v => (9 - v.1).toNat) smallOp ?_ FU (0, []) ⟨by simp, by simp, by simp, by simp, by simp⟩ (by simp [FU])
  rintro again ⟨i, r⟩ ⟨h1, h2, h3, h4, h5⟩ hag
  simp only at h1 h2 h3 h4 h5
  unfold law24_few_l5
  by_cases c : i < (o.Row.Ranges.length : Int)
  · rw [if_pos (decide_eq_true c)]
    unfold law24_few_k6
    by_cases c9 : i < 9
    · rw [if_pos (decide_eq_true c9)]
      obtain ⟨j, rfl⟩ : ∃ j : Nat, i = j := ⟨i.toNat, by omega⟩
      have hj : j < o.Row.Ranges.length := by omega
      obtain ⟨x, hx, lx⟩ := short_eq o.Row.Ranges[j].From 40
      obtain ⟨y, hy, ly⟩ := short_eq o.Row.Ranges[j].To 40
      simp only [idx_at hj, Option.bind_some]
      rw [show law24_short o.Row.Ranges[j].From 40 = some x from hx, Option.bind_some, show law24_short o.Row.Ranges[j].To 40 = some y from hy, Option.bind_some, app32 (by show r.length + 1 ≤ 1000000; omega), Option.bind_some, wrap64 (by omega) (by omega)]
      refine hag _ ⟨by simp only; omega, by simp only; omega, by simp only; omega, by simp; omega, fun z hz => ?_⟩ (by simp only; omega)
      rcases List.mem_append.1 hz with hz | hz
      · exact h5 z hz
      · have : z = ⟨x, y⟩ := by simpa using hz
        subst this
        exact ⟨lx, ly⟩
    · rw [if_neg (by simpa using c9)]
      exact few_own hk la lb ⟨by show r.length ≤ 9; omega, h5⟩
  · rw [if_neg (by simpa using c)]
    unfold law24_few_k6
    rw [if_neg (by simp)]
    exact few_own hk la lb ⟨by show r.length ≤ 9; omega, h5⟩
theorem few_keys {o : Api_Op} {k : List ByteArray} (hk : k.length ≤ 9) : ∃ q, law24_few_k1 o k = some q ∧ smallOp q := by
  unfold law24_few_k1
  refine loopF_tot (body := law24_few_l7 o k) (fun v => 0 ≤ v.1 ∧ v.1 ≤ (k.length : Int) ∧ (v.2.length : Int) = v.1 ∧ ∀ x, x ∈ v.2 → x.size ≤ 40) (fun v => (k.length - v.1).toNat) smallOp ?_ FU (0, []) ⟨by simp, by simp, by simp, by simp⟩ (by have := FU_big; simp only; omega)
  rintro again ⟨i, r⟩ ⟨h1, h2, h4, h5⟩ hag
  simp only at h1 h2 h4 h5
  unfold law24_few_l7
  by_cases c : i < (k.length : Int)
  · obtain ⟨j, rfl⟩ : ∃ j : Nat, i = j := ⟨i.toNat, by omega⟩
    have hj : j < k.length := by omega
    obtain ⟨x, hx, lx⟩ := short_eq k[j] 40
    rw [if_pos (decide_eq_true c), idx_at hj, Option.bind_some, show law24_short k[j] 40 = some x from hx, Option.bind_some, app16 (by show r.length + 1 ≤ 1000000; omega), Option.bind_some, wrap64 (by omega) (by omega)]
    refine hag _ ⟨by simp only; omega, by simp only; omega, by simp; omega, fun z hz => ?_⟩ (by simp only; omega)
    rcases List.mem_append.1 hz with hz | hz
    · exact h5 z hz
    · have : z = x := by simpa using hz
      subst this
      exact lx
  · rw [if_neg (by simpa using c)]
    exact few_ranges ⟨by show r.length ≤ 9; omega, h5⟩
theorem few_eq (o : Api_Op) : ∃ q, law24_few o = some q ∧ smallOp q := by
  unfold law24_few
  by_cases c : (9 : Int) < (o.Keys.length : Int)
  · rw [if_pos (decide_eq_true c)]
    have hs : sub o.Keys 0 9 = some (o.Keys.take 9) := by
      unfold sub
      rw [if_pos ⟨by omega, by omega, by omega⟩]
      rfl
    rw [hs, Option.bind_some]
    exact few_keys (by simp; omega)
  · rw [if_neg (by simpa using c)]
    exact few_keys (by omega)

/-! the text with lines between -/
abbrev endS : ByteArray × Option Api_Op := (ofL [], none)
end Go.Ark
