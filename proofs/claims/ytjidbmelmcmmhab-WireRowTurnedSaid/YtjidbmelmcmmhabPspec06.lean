/- Plain laws: the row that plain numbers mean may be. Conditions: none but those that stand in each law. -/
import Derived.Test.YtjidbmelmcmmhabPrrow3
import Derived.Test.YtjidbmelmcmmhabFlaw06
namespace Go.Ark
open Go Go.Ab Go.RowKit

theorem tmod_in (x : Int) {m : Int} (h0 : 0 < m) (h1 : m ≤ 1000000) : 0 ≤ Int.tmod (IntKind.wrap .i64 (Int.tmod x m + m)) m ∧ Int.tmod (IntKind.wrap .i64 (Int.tmod x m + m)) m < m := turnedI x h0 h1
theorem letters : ∀ n : Nat, n < 26 → okKey (bytesOf [((97 + n : Nat) : Int)]) = true ∧ bytesOf [((97 + n : Nat) : Int)] ≠ ByteArray.empty := by decide +kernel
theorem whole_more : ∀ {acc : List Api_Range} {b : Bool} {a f w : ByteArray}, okKey w = true → w ≠ ByteArray.empty → slt f w = true → wholeG b a (acc ++ [⟨f, ByteArray.empty⟩]) = true → wholeG b a (acc ++ [⟨f, w⟩] ++ [⟨w, ByteArray.empty⟩]) = true
  | [], b, a, f, w, h1, h2, h3, h => by
    simp only [List.nil_append, List.cons_append] at h ⊢
    rw [wholeG_cons, wholeG_nil] at h
    rw [wholeG_cons, wholeG_cons, wholeG_nil]
    simp only [Bool.and_eq_true, decide_eq_true_eq, Bool.not_eq_true'] at h ⊢
    obtain ⟨g1, g2, g3, -⟩ := h
    unfold goodR at g1 ⊢
    simp only [Bool.and_eq_true, Bool.or_eq_true, decide_eq_true_eq] at g1 ⊢
    refine ⟨⟨g1.1, .inr h1, .inr h3⟩, g2, g3, ⟨⟨.inr h1, .inl trivial, .inl trivial⟩, trivial, ?_, trivial, trivial⟩⟩
    simp [h2]
  | r :: acc, b, a, f, w, h1, h2, h3, h => by
    rw [List.cons_append, wholeG_cons] at h
    rw [List.cons_append, List.cons_append, wholeG_cons]
    simp only [Bool.and_eq_true] at h ⊢
    exact ⟨h.1, h.2.1, h.2.2.1, whole_more h1 h2 h3 h.2.2.2⟩

theorem law06_Spec_row_tot (q : Law06_Spec) : ∃ c, law06_Spec_row q = some c ∧ okRow c = true := by
  unfold law06_Spec_row
  refine loopF_tot (fun (v : Int × List Int) => 0 ≤ v.1 ∧ v.1 ≤ 5 ∧ v.2.length = v.1.toNat + 1 ∧ ∀ p, p ∈ v.2 → -1 ≤ p ∧ p ≤ 5) (fun v => (5 - v.1).toNat) (fun c => okRow c = true) ?_ FU (0, [-1]) ⟨Int.le_refl _, by simp, rfl, fun p hp => by simp at hp; omega⟩ (by have := FU_big; simp only; omega)
  rintro again ⟨v, ps⟩ ⟨h1, h2, h3, h4⟩ hag
  simp only at h1 h2 h3 h4
  -- behind the parents
  have hk1 : ∃ c, law06_Spec_row_k1 q ps = some c ∧ okRow c = true := by
    unfold law06_Spec_row_k1
    refine loopF_tot (fun (v : ByteArray × Int × List Api_Range) => 0 ≤ v.2.1 ∧ v.2.1 ≤ 7 ∧ v.2.2.length ≤ v.2.1.toNat ∧ wholeP (v.2.2 ++ [⟨v.1, ByteArray.empty⟩]) = true) (fun v => (7 - v.2.1).toNat) (fun c => okRow c = true) ?_ FU (ByteArray.empty, 0, []) ⟨Int.le_refl _, by simp, by simp, by decide +kernel⟩ (by have := FU_big; simp only; omega)
    rintro again2 ⟨at_, u, rs⟩ ⟨g1, g2, g3, g4⟩ hag2
    simp only at g1 g2 g3 g4
    -- behind the ends
    have hk2 : ∃ c, law06_Spec_row_k2 q ps (at_, rs) = some c ∧ okRow c = true := by
      unfold law06_Spec_row_k2
      simp only
      rw [app_ok (by simp; omega) (by simp; omega), Option.bind_some]
      have hrl : (rs ++ [(⟨at_, ByteArray.empty⟩ : Api_Range)]).length ≤ 8 := by simp; omega
      generalize rs ++ [(⟨at_, ByteArray.empty⟩ : Api_Range)] = R at g4 hrl
      have hpl : 1 ≤ ps.length ∧ ps.length ≤ 6 := by omega
      have hk3 : ∃ c, law06_Spec_row_k3 q ps R ((2 : Int) ^ ps.length) = some c ∧ okRow c = true := by
        have hpow : (2 : Int) ≤ 2 ^ ps.length ∧ (2 : Int) ^ ps.length ≤ 64 := by
          have e1 : (2 : Nat) ^ ps.length ≤ 2 ^ 6 := Nat.pow_le_pow_right (by decide) hpl.2
          have e2 : (2 : Nat) ^ 1 ≤ 2 ^ ps.length := Nat.pow_le_pow_right (by decide) hpl.1
          have h64 : (2 : Nat) ^ 6 = 64 := rfl
          have e3 : ((2 ^ ps.length : Nat) : Int) ≤ 64 := by omega
          have e4 : (2 : Int) ≤ ((2 ^ ps.length : Nat) : Int) := by omega
          exact ⟨by simpa using e4, by simpa using e3⟩
        generalize hall : (2 : Int) ^ ps.length = all at hpow
        unfold law06_Spec_row_k3
        refine loopF_tot (fun (v : Int × List Int) => 0 ≤ v.1 ∧ v.1 ≤ (R.length : Int) ∧ v.2.length = v.1.toNat ∧ ∀ o, o ∈ v.2 → 1 ≤ o ∧ o < all) (fun v => ((R.length : Int) - v.1).toNat) (fun c => okRow c = true) ?_ FU (0, []) ⟨Int.le_refl _, by simp, rfl, fun p hp => by simp at hp⟩ (by have := FU_big; simp only; omega)
        rintro again3 ⟨z, os⟩ ⟨f1, f2, f3, f4⟩ hag3
        simp only at f1 f2 f3 f4
        unfold law06_Spec_row_l5
        simp only
        by_cases c : z < (R.length : Int)
        · rw [if_pos (by simpa using c)]
          have hk6 : ∀ o : Int, 0 ≤ o → o < all - 1 → ∃ c, law06_Spec_row_k6 again3 (z, os) o = some c ∧ okRow c = true := by
            intro o ho1 ho2
            unfold law06_Spec_row_k6
            simp only
            rw [wrap64 (n := 1 + o) (by omega) (by omega), app_ok (by simp; omega) (by simp; omega), Option.bind_some, wrap64 (by omega) (by omega)]
            refine hag3 _ ⟨by simp only; omega, by simp only; omega, by simp; omega, fun p hp => ?_⟩ (by simp only; omega)
            rcases List.mem_append.1 hp with hp | hp
            · exact f4 p hp
            · simp at hp; omega
          by_cases c2 : z < (q.Owners.length : Int)
          · rw [if_pos (by simpa using c2), idx_int f1 c2, Option.bind_some]
            generalize q.Owners[z.toNat]'(by omega) = x
            have hne : (!decide (IntKind.wrap .i64 (all - 1) = 0)) = true := by
              rw [wrap64 (by omega) (by omega), decide_eq_false (by omega)]; rfl
            simp only [chk, hne, if_true]
            rw [wrap64 (n := all - 1) (by omega) (by omega)]
            have t1 := Int.lt_tmod_of_pos x (show (0 : Int) < all - 1 by omega)
            have t2 := Int.tmod_lt_of_pos x (show (0 : Int) < all - 1 by omega)
            rw [wrap64 (n := Int.tmod x (all - 1) + all) (by omega) (by omega), wrap64 (n := Int.tmod x (all - 1) + all - 1) (by omega) (by omega)]
            exact hk6 _ (Int.tmod_nonneg _ (by omega)) (Int.tmod_lt_of_pos _ (by omega))
          · rw [if_neg (by simpa using c2)]
            exact hk6 0 (by omega) (by omega)
        · rw [if_neg (by simpa using c)]
          unfold law06_Spec_row_k4
          refine ⟨_, rfl, okRow_iff.2 ⟨⟨hpl.1, hpl.2, hrl, by show os.length = R.length; omega⟩, g4, fun o ho => ?_, h4⟩⟩
          show 1 ≤ o ∧ o < 2 ^ ps.length
          rw [hall]
          exact f4 o ho
      refine loopF_tot (fun (v : Int × Int) => 0 ≤ v.2 ∧ v.2 ≤ (ps.length : Int) ∧ v.1 = 2 ^ v.2.toNat) (fun v => ((ps.length : Int) - v.2).toNat) (fun c => okRow c = true) ?_ FU (1, 0) ⟨Int.le_refl _, by simp, rfl⟩ (by have := FU_big; simp only; omega)
      rintro again3 ⟨a, z⟩ ⟨f1, f2, f3⟩ hag3
      simp only at f1 f2 f3
      obtain ⟨i, rfl⟩ : ∃ i : Nat, z = i := ⟨z.toNat, by omega⟩
      simp only [Int.toNat_natCast] at f3
      subst f3
      unfold law06_Spec_row_l7
      simp only
      by_cases c : (i : Int) < (ps.length : Int)
      · have hb : (2 : Int) ^ i ≤ 64 ∧ (0 : Int) ≤ 2 ^ i := by
          have e1 : (2 : Nat) ^ i ≤ 2 ^ 6 := Nat.pow_le_pow_right (by decide) (by omega)
          have h64 : (2 : Nat) ^ 6 = 64 := rfl
          have e3 : ((2 ^ i : Nat) : Int) ≤ 64 := by omega
          have e4 : (0 : Int) ≤ ((2 ^ i : Nat) : Int) := Int.natCast_nonneg _
          exact ⟨by simpa using e3, by simpa using e4⟩
        obtain ⟨t, ht⟩ : ∃ t : Int, t = 2 ^ i := ⟨_, rfl⟩
        rw [← ht] at hb
        rw [if_pos (by simpa using c), ← ht, wrap64 (n := t * 2) (by omega) (by omega), wrap64 (by omega) (by omega)]
        refine hag3 _ ⟨by simp only; omega, by simp only; omega, ?_⟩ (by simp only; omega)
        simp only [show ((i : Int) + 1).toNat = i + 1 by omega]
        rw [ht]
        exact (Int.pow_succ _ _).symm
      · rw [if_neg (by simpa using c)]
        have : i = ps.length := by omega
        subst this
        exact hk3
    unfold law06_Spec_row_l8 law06_Spec_row_k9
    simp only
    by_cases c : u < (q.Ends.length : Int)
    · rw [if_pos (by simpa using c)]
      by_cases c7 : u < 7
      · rw [if_pos (by simpa using c7), idx_int g1 c, Option.bind_some]
        generalize q.Ends[u.toNat]'(by omega) = x
        have hm := tmod_in x (m := 26) (by omega) (by omega)
        generalize Int.tmod (IntKind.wrap .i64 (Int.tmod x 26 + 26)) 26 = m at hm
        obtain ⟨n, rfl⟩ : ∃ n : Nat, m = n := ⟨m.toNat, by omega⟩
        have hw : IntKind.wrap .u8 (IntKind.wrap .i64 (97 + (n : Int))) = ((97 + n : Nat) : Int) := by
          rw [wrap64 (by omega) (by omega), show (97 : Int) + (n : Int) = ((97 + n : Nat) : Int) by omega, wrapu8, Nat.mod_eq_of_lt (by omega)]
        obtain ⟨k1, k2⟩ := letters n (by omega)
        rw [hw, wrap64 (n := u + 1) (by omega) (by omega)]
        generalize bytesOf [((97 + n : Nat) : Int)] = w at k1 k2
        rw [seq_eq]
        by_cases c2 : slt w at_ = true
        · rw [c2]
          simp only [Bool.true_or, Bool.not_true, Bool.false_eq_true, if_false]
          exact hag2 _ ⟨by simp only; omega, by simp only; omega, by simp only; omega, g4⟩ (by simp only; omega)
        · have c2 : slt w at_ = false := by simpa using c2
          rw [c2]
          by_cases c3 : w = at_
          · rw [decide_eq_true c3]
            simp only [Bool.or_true, Bool.not_true, Bool.false_eq_true, if_false]
            exact hag2 _ ⟨by simp only; omega, by simp only; omega, by simp only; omega, g4⟩ (by simp only; omega)
          · rw [decide_eq_false c3]
            simp only [Bool.or_false, Bool.not_false, if_true]
            rw [app_ok (by simp; omega) (by simp; omega), Option.bind_some]
            have hlt : slt at_ w = true := by
              cases h5 : slt at_ w with
              | true => rfl
              | false => exact absurd (slt_tri c2 h5) c3
            exact hag2 _ ⟨by simp only; omega, by simp only; omega, by simp; omega, whole_more k1 k2 hlt g4⟩ (by simp only; omega)
      · rw [if_neg (by simpa using c7)]
        exact hk2
    · rw [if_neg (by simpa using c), if_neg (by decide)]
      exact hk2
  unfold law06_Spec_row_l10 law06_Spec_row_k11
  simp only
  by_cases c : v < (q.Parents.length : Int)
  · rw [if_pos (by simpa using c)]
    by_cases c5 : v < 5
    · rw [if_pos (by simpa using c5), idx_int h1 c, Option.bind_some]
      generalize q.Parents[v.toNat]'(by omega) = x
      have hm := tmod_in x (m := 7) (by omega) (by omega)
      generalize Int.tmod (IntKind.wrap .i64 (Int.tmod x 7 + 7)) 7 = m at hm
      rw [wrap64 (n := m - 1) (by omega) (by omega), app_ok (by simp; omega) (by simp; omega), Option.bind_some, wrap64 (by omega) (by omega)]
      refine hag _ ⟨by simp only; omega, by simp only; omega, by simp; omega, fun p hp => ?_⟩ (by simp only; omega)
      rcases List.mem_append.1 hp with hp | hp
      · exact h4 p hp
      · simp at hp; omega
    · rw [if_neg (by simpa using c5)]
      exact hk1
  · rw [if_neg (by simpa using c), if_neg (by decide)]
    exact hk1
end Go.Ark
