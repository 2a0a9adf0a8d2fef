/- WordsRows: a row that is written has a line, and comes back. Conditions: none. -/
import Derived.Test.YtfhlilpkgodilaaDoorPwcheck
namespace Go.Ark
open Go Go.Ab Go.RowKit

def chB (n : Nat) : ByteArray := bytesOf [((33 + n : Nat) : Int)]
theorem ch_all : ∀ n : Nat, n < 90 → okKey (chB n) = true ∧ chB n ≠ ByteArray.empty := by decide +kernel
theorem ch_of (x : Int) : ∃ n, n < 90 ∧ bytesOf ([IntKind.wrap .u8 (IntKind.wrap .i64 (33 + (Int.tmod (IntKind.wrap .i64 ((Int.tmod x 90) + 90)) 90)))]) = chB n := by
  have h1 : Int.tmod x 90 < 90 := Int.tmod_lt_of_pos x (by decide)
  have h2 : -90 < Int.tmod x 90 := by
    have := Int.lt_tmod_of_pos x (b := 90) (by decide)
    omega
  have hw : IntKind.wrap .i64 ((Int.tmod x 90) + 90) = Int.tmod x 90 + 90 := wrap64 (by omega) (by omega)
  rw [hw, Int.tmod_eq_emod_of_nonneg (by omega)]
  obtain ⟨m, hm⟩ : ∃ m : Nat, (Int.tmod x 90 + 90) % 90 = m := ⟨((Int.tmod x 90 + 90) % 90).toNat, by omega⟩
  have hm9 : m < 90 := by omega
  rw [hm, wrap64 (by omega) (by omega), show (33 : Int) + (m : Int) = ((33 + m : Nat) : Int) by omega, wrapu8, Nat.mod_eq_of_lt (by omega)]
  exact ⟨m, hm9, rfl⟩
def sitesN (n : Int) : Int := IntKind.wrap .i64 (1 + (Int.tmod (IntKind.wrap .i64 ((Int.tmod n 6) + 6)) 6))
theorem sites_of (x : Int) : ∃ n : Nat, 1 ≤ n ∧ n ≤ 6 ∧ sitesN x = n := by
  have h1 : Int.tmod x 6 < 6 := Int.tmod_lt_of_pos x (by decide)
  have h2 : -6 < Int.tmod x 6 := by
    have := Int.lt_tmod_of_pos x (b := 6) (by decide)
    omega
  have hw : IntKind.wrap .i64 ((Int.tmod x 6) + 6) = Int.tmod x 6 + 6 := wrap64 (by omega) (by omega)
  unfold sitesN
  rw [hw, Int.tmod_eq_emod_of_nonneg (by omega), wrap64 (by omega) (by omega)]
  exact ⟨(1 + (Int.tmod x 6 + 6) % 6).toNat, by omega, by omega, by omega⟩
theorem own_of (x : Int) {a : Int} (h1 : 2 ≤ a) (h2 : a ≤ 64) : ∃ k : Int, Int.tmod (IntKind.wrap .i64 ((IntKind.wrap .i64 ((Int.tmod x (a - 1)) + a)) - 1)) (a - 1) = k ∧ 0 ≤ k ∧ k < a - 1 := by
  have q1 : Int.tmod x (a - 1) < a - 1 := Int.tmod_lt_of_pos x (by omega)
  have q2 : -(a - 1) < Int.tmod x (a - 1) := by
    have := Int.lt_tmod_of_pos x (b := a - 1) (by omega)
    omega
  rw [wrap64 (n := Int.tmod x (a - 1) + a) (by omega) (by omega), wrap64 (by omega) (by omega), Int.tmod_eq_emod_of_nonneg (by omega)]
  exact ⟨_, rfl, Int.emod_nonneg _ (by omega), Int.emod_lt_of_pos _ (by omega)⟩

def rowOp (c : Api_Row) : Api_Op := ⟨12, 0, 0, 0, 0, 0, ByteArray.empty, ByteArray.empty, [], c⟩
theorem rowOp_ok {c : Api_Row} (h : okRow c = true) : okOp (rowOp c) := by
  have z : okN 0 := ⟨by omega, by omega⟩
  have e : ByteArray.empty.size ≤ 32 := by decide
  exact ⟨⟨by show (1 : Int) ≤ 12; decide, by show (12 : Int) ≤ 12; decide⟩, z, z, z, z, z, ⟨by simp [rowOp], by simp [rowOp]⟩, e, e, fun _ => h, fun hk => absurd rfl hk⟩
theorem rowOp_canon (c : Api_Row) : canon (rowOp c) = rowOp c := by
  unfold canon rowOp
  simp
theorem rowOp_good {c : Api_Row} (h : okRow c = true) : goodOp (rowOp c) := by
  have hok := rowOp_ok h
  obtain ⟨r, hr, _, h2⟩ := words_Check_of hok.small hok
  exact ⟨hok, by rw [hr, h2 (rowOp_canon c) rfl], by rw [rowOp_canon]⟩

theorem rows_end {a : Int} {R : List Api_Range} {O P : List Int} (h : okRow ⟨R, O, P⟩ = true) : law24_WordsRows_k3 true (a, P) R O = some true := by
  have hg := rowOp_good h
  have ht := words_Text_eq (l := [rowOp ⟨R, O, P⟩]) (by simpa using hg) (by simp)
  have e : [rowOp ⟨R, O, P⟩].flatMap lineB = bodyL (rowOp ⟨R, O, P⟩) ++ [10] := by simp [lineB]
  have hp := parse_one hg.ok
  have hs := same_eq (l := [rowOp ⟨R, O, P⟩]) (by simpa using hg) (by simp)
  rw [List.map_cons, List.map_nil] at hs
  unfold law24_WordsRows_k3
  show ((words_Text [rowOp ⟨R, O, P⟩]).bind fun r6 => (words_Parse r6).bind fun r7 => (law24_same r7.1 [rowOp ⟨R, O, P⟩]).bind fun r8 => if true = true then (words_Check (rowOp ⟨R, O, P⟩)).bind fun r14 => law24_WordsRows_k4 r7 r8 r14 else law24_WordsRows_k4 r7 r8 false) = some true
  rw [ht, Option.bind_some, e, hp, Option.bind_some, hs, Option.bind_some, if_pos rfl, hg.check, Option.bind_some]
  rfl

theorem rows_owners {owners : List Int} {n : Nat} (hn : 1 ≤ n ∧ n ≤ 6) {R : List Api_Range} {P : List Int} (hP : P.length = n ∧ ∀ p, p ∈ P → parOK p = true) (hR : R.length ≤ 8) (hw : wholeP R = true) :
    loopF (law24_WordsRows_l5 owners true ((2 : Int) ^ n, P) R) FU (0, ([] : List Int)) = some true := by
  have ha : (2 : Int) ≤ 2 ^ n ∧ (2 : Int) ^ n ≤ 64 := by
    obtain ⟨h1, h2⟩ := hn
    have : n = 1 ∨ n = 2 ∨ n = 3 ∨ n = 4 ∨ n = 5 ∨ n = 6 := by omega
    rcases this with rfl | rfl | rfl | rfl | rfl | rfl <;> decide
  refine loopF_inv (body := law24_WordsRows_l5 owners true ((2 : Int) ^ n, P) R) (fun v => 0 ≤ v.1 ∧ v.1 ≤ (R.length : Int) ∧ (v.2.length : Int) = v.1 ∧ ∀ o, o ∈ v.2 → 1 ≤ o ∧ o < 2 ^ n) (fun v => (R.length - v.1).toNat) (fun _ => some true) ?_ FU _ ⟨by simp, by simp, by simp, by simp⟩ (by have := FU_big; simp only; omega)
  rintro again ⟨i, O⟩ ⟨h1, h2, h3, h4⟩ hag
  simp only at h1 h2 h3 h4
  have hk6 : ∀ k : Int, 0 ≤ k → k < 2 ^ n - 1 → i < (R.length : Int) → law24_WordsRows_k6 again (i, O) k = some true := fun k hk0 hk1 hi => by
    unfold law24_WordsRows_k6
    rw [app8 (by show O.length + 1 ≤ 1000000; omega), Option.bind_some, wrap64 (n := 1 + k) (by omega) (by omega), wrap64 (by omega) (by omega)]
    refine hag _ ⟨by simp only; omega, by simp only; omega, by simp; omega, fun o ho => ?_⟩ (by simp only; omega)
    rcases List.mem_append.1 ho with ho | ho
    · exact h4 o ho
    · have : o = 1 + k := by simpa using ho
      omega
  unfold law24_WordsRows_l5
  by_cases c : i < (R.length : Int)
  · rw [if_pos (decide_eq_true c)]
    by_cases c2 : i < (owners.length : Int)
    · obtain ⟨j, rfl⟩ : ∃ j : Nat, i = j := ⟨i.toNat, by omega⟩
      have hw1 : IntKind.wrap .i64 ((2 : Int) ^ n - 1) = 2 ^ n - 1 := wrap64 (by omega) (by omega)
      have hc0 : (!decide ((2 : Int) ^ n - 1 = 0)) = true := by
        rw [decide_eq_false (by omega : ¬ (2 : Int) ^ n - 1 = 0)]; rfl
      rw [if_pos (decide_eq_true c2), idx_at (show j < owners.length by omega), Option.bind_some]
      simp only [hw1, hc0, chk, if_true]
      obtain ⟨k, hk, k0, k1⟩ := own_of owners[j] ha.1 ha.2
      rw [hk]
      exact hk6 k k0 k1 c
    · rw [if_neg (by simpa using c2)]
      exact hk6 0 (by omega) (by omega) c
  · rw [if_neg (by simpa using c)]
    refine rows_end ?_
    rw [okRow_iff]
    have hp := hP.2
    refine ⟨⟨by show 1 ≤ P.length; omega, by show P.length ≤ 6; omega, hR, by show O.length = R.length; omega⟩, hw, fun o ho => ?_, fun p hp' => ?_⟩
    · show 1 ≤ o ∧ o < 2 ^ P.length
      rw [hP.1]
      exact h4 o ho
    · have := hp p hp'
      simpa only [parOK, Bool.and_eq_true, decide_eq_true_eq] using this

/-- ranges so far: whatever goes on from where they end is whole with them -/
structure RangesOK (b : Bool) (a : ByteArray) (R : List Api_Range) : Prop where
  a0 : a = ByteArray.empty ∨ okKey a = true
  b0 : b = true → a ≠ ByteArray.empty
  on : ∀ l, wholeG b a l = true → wholeG false ByteArray.empty (R ++ l) = true
theorem rows_ranges {ends owners : List Int} {n : Nat} (hn : 1 ≤ n ∧ n ≤ 6) {P : List Int} (hP : P.length = n ∧ ∀ p, p ∈ P → parOK p = true) : law24_WordsRows_k1 ends owners true ((2 : Int) ^ n, P) = some true := by
  unfold law24_WordsRows_k1
  refine loopF_inv (body := law24_WordsRows_l7 ends owners true ((2 : Int) ^ n, P)) (fun v => 0 ≤ v.2.1 ∧ v.2.1 ≤ 7 ∧ v.2.1 ≤ (ends.length : Int) ∧ (v.2.2.length : Int) ≤ v.2.1 ∧ ∃ b, RangesOK b v.1 v.2.2) (fun v => (7 - v.2.1).toNat) (fun _ => some true) ?_ FU _ ⟨by simp, by simp, by simp, by simp, false, .inl rfl, (fun h => by cases h), fun l hl => hl⟩ (by simp [FU])
  rintro again ⟨a, i, R⟩ ⟨h1, h2, h3, h4, b, h5⟩ hag
  simp only at h1 h2 h3 h4 h5
  have hend : law24_WordsRows_k2 owners true ((2 : Int) ^ n, P) (a, R) = some true := by
    unfold law24_WordsRows_k2
    rw [app32 (by show R.length + 1 ≤ 1000000; omega), Option.bind_some]
    refine rows_owners hn hP (by show (R ++ [_]).length ≤ 8; rw [List.length_append]; simp only [List.length_cons, List.length_nil]; omega) (h5.on _ ?_)
    rw [wholeG_cons, wholeG_nil]
    have hb : (b && decide (a = ByteArray.empty)) = false := by
      cases hb : b with
      | false => rfl
      | true => rw [decide_eq_false (h5.b0 hb)]; rfl
    have hg : goodR ⟨a, ByteArray.empty⟩ = true := by
      unfold goodR
      rcases h5.a0 with h | h
      · simp [h]
      · simp [h]
    rw [hb, hg]
    simp
  unfold law24_WordsRows_l7 law24_WordsRows_k8
  by_cases c : i < (ends.length : Int)
  · rw [if_pos (decide_eq_true c)]
    by_cases c7 : i < 7
    · rw [if_pos (decide_eq_true c7)]
      obtain ⟨j, rfl⟩ : ∃ j : Nat, i = j := ⟨i.toNat, by omega⟩
      rw [idx_at (show j < ends.length by omega), Option.bind_some]
      obtain ⟨m, hm, hw⟩ := ch_of ends[j]
      obtain ⟨k1, k2⟩ := ch_all m hm
      simp only [hw]
      cases hs : (!(slt (chB m) a || seq (chB m) a)) with
      | false =>
        rw [if_neg (by simp), wrap64 (by omega) (by omega)]
        exact hag _ ⟨by simp only; omega, by simp only; omega, by simp only; omega, by simp only; omega, b, h5⟩ (by simp only; omega)
      | true =>
        have hlt : slt a (chB m) = true := by
          simp only [Bool.not_eq_true', Bool.or_eq_false_iff, seq_eq, decide_eq_false_iff_not] at hs
          cases hq : slt a (chB m) with
          | true => rfl
          | false => exact absurd (slt_tri hs.1 hq) hs.2
        rw [if_pos rfl, app32 (by show R.length + 1 ≤ 1000000; omega), Option.bind_some, wrap64 (by omega) (by omega)]
        refine hag _ ⟨by simp only; omega, by simp only; omega, by simp only; omega, by simp; omega, true, .inr k1, fun _ => k2, fun l hl => ?_⟩ (by simp only; omega)
        rw [List.append_assoc]
        refine h5.on _ ?_
        have hb : (b && decide (a = ByteArray.empty)) = false := by
          cases hb : b with
          | false => rfl
          | true => rw [decide_eq_false (h5.b0 hb)]; rfl
        have hg : goodR ⟨a, chB m⟩ = true := by
          unfold goodR
          rcases h5.a0 with h | h
          · simp [h, k1, h ▸ hlt]
          · simp [h, k1, hlt]
        rw [List.cons_append, List.nil_append, wholeG_cons, hb, hg]
        simpa using hl
    · rw [if_neg (by simpa using c7)]
      exact hend
  · rw [if_neg (by simpa using c), if_neg (by simp)]
    exact hend

theorem law24_WordsRows_plain (ends_0 : (List Int)) (owners_1 : (List Int)) (sites_2 : Int) (_h0 : ends_0.length ≤ reachBytes ∧ ∀ y, y ∈ ends_0 → (Lit.int .i64 y).wf = true) (_h1 : owners_1.length ≤ reachBytes ∧ ∀ y, y ∈ owners_1 → (Lit.int .i64 y).wf = true) (_h2 : (Lit.int .i64 sites_2).wf = true) : law24_WordsRows ends_0 owners_1 sites_2 = some true := by
  obtain ⟨n, hn1, hn2, hn⟩ := sites_of sites_2
  unfold law24_WordsRows
  rw [awake_t, Option.bind_some]
  refine loopF_inv (body := law24_WordsRows_l9 ends_0 owners_1 sites_2 true) (fun v => ∃ j : Nat, v.2.1 = j ∧ j ≤ n ∧ v.1 = 2 ^ j ∧ v.2.2.length = j ∧ ∀ p, p ∈ v.2.2 → parOK p = true) (fun v => (6 - v.2.1).toNat) (fun _ => some true) ?_ FU _ ⟨0, rfl, by omega, rfl, rfl, by simp⟩ (by simp [FU])
  rintro again ⟨a, i, P⟩ ⟨j, h1, h2, h3, h4, h5⟩ hag
  simp only at h1 h2 h3 h4 h5
  subst h1 h3
  unfold law24_WordsRows_l9
  dsimp only
  rw [show IntKind.wrap .i64 (1 + (Int.tmod (IntKind.wrap .i64 ((Int.tmod sites_2 6) + 6)) 6)) = (n : Int) from hn]
  by_cases c : (j : Int) < (n : Int)
  · have ha : (2 : Int) ^ j ≤ 64 ∧ 0 ≤ (2 : Int) ^ j := by
      have : j = 0 ∨ j = 1 ∨ j = 2 ∨ j = 3 ∨ j = 4 ∨ j = 5 ∨ j = 6 := by omega
      rcases this with rfl | rfl | rfl | rfl | rfl | rfl | rfl <;> decide
    rw [if_pos (decide_eq_true c), app8 (by show P.length + 1 ≤ 1000000; omega), Option.bind_some, wrap64 (n := (j : Int) - 1) (by omega) (by omega), wrap64 (n := (2 : Int) ^ j * 2) (by omega) (by omega), wrap64 (by omega) (by omega)]
    refine hag _ ⟨j + 1, by simp, by omega, by simp only [Int.pow_succ], by simp; omega, fun p hp => ?_⟩ (by simp only; omega)
    rcases List.mem_append.1 hp with hp | hp
    · exact h5 p hp
    · have : p = (j : Int) - 1 := by simpa using hp
      subst this
      simp only [parOK, Bool.and_eq_true, decide_eq_true_eq]
      omega
  · have hj : j = n := by omega
    subst hj
    rw [if_neg (by simp)]
    exact rows_ranges ⟨hn1, hn2⟩ ⟨h4, h5⟩
end Go.Ark
