/- Plain laws: numbers and texts read out of bytes. Conditions: none but those that stand in each law. -/
import Derived.Test.YtjidbmelmcmmhabPvary
namespace Go.Ark
open Go Go.Ab Go.RowKit

/-- the number whose bytes stand first, and how many they are; j of them were read, and tell n -/
def rdN : List UInt8 → Nat → Nat → Option (Nat × Nat)
  | [], _, _ => none
  | c :: l, j, n =>
    if 7 * j < 64 ∧ c.toNat % 128 * 2 ^ (7 * j) < 18446744073709551616 ∧ ¬ (c.toNat = 0 ∧ 0 < j) then
      if c.toNat < 128 then some (n + c.toNat % 128 * 2 ^ (7 * j), j + 1) else rdN l (j + 1) (n + c.toNat % 128 * 2 ^ (7 * j))
    else none

theorem rdN_len : ∀ {l : List UInt8} {j n m k : Nat}, rdN l j n = some (m, k) → j < k ∧ k ≤ j + l.length
  | [], _, _, _, _, h => (by cases h)
  | c :: l, j, n, m, k, h => by
    rw [rdN] at h
    split at h
    · split at h
      · cases h; simp
      · have := rdN_len h; simp; omega
    · cases h
theorem rdN_lt : ∀ {l : List UInt8} {j n m k : Nat}, n < 2 ^ (7 * j) → rdN l j n = some (m, k) → m < 18446744073709551616
  | [], _, _, _, _, _, h => (by cases h)
  | c :: l, j, n, m, k, hn, h => by
    rw [rdN] at h
    have hp : 2 ^ (7 * (j + 1)) = 128 * 2 ^ (7 * j) := by rw [show 7 * (j + 1) = 7 * j + 7 by omega, Nat.pow_add, Nat.mul_comm]
    split at h
    · rename_i c1
      split at h
      · cases h
        have hj : j ≤ 9 := by omega
        -- the sum of what is below and a multiple
        have : (18446744073709551616 : Nat) = 2 ^ (64 - 7 * j) * 2 ^ (7 * j) := by rw [← Nat.pow_add, show 64 - 7 * j + 7 * j = 64 by omega]
        rw [this] at c1 ⊢
        have h2 : c.toNat % 128 < 2 ^ (64 - 7 * j) := Nat.lt_of_mul_lt_mul_right c1.2.1
        have h3 : (c.toNat % 128 + 1) * 2 ^ (7 * j) ≤ 2 ^ (64 - 7 * j) * 2 ^ (7 * j) := Nat.mul_le_mul_right _ h2
        rw [Nat.add_mul, Nat.one_mul] at h3
        omega
      · refine rdN_lt ?_ h
        have h4 : (c.toNat % 128 + 1) * 2 ^ (7 * j) ≤ 128 * 2 ^ (7 * j) := Nat.mul_le_mul_right _ (by omega)
        rw [Nat.add_mul, Nat.one_mul] at h4
        omega
    · cases h

theorem ofNat_toNat {c : Nat} (h : c < 256) : (UInt8.ofNat c).toNat = c := by
  rw [UInt8.toNat_ofNat']
  exact Nat.mod_eq_of_lt h
/-- a number's bytes are read -/
theorem rdN_num : ∀ (f m j n : Nat) (r : List UInt8), m < 128 ^ (f + 1) → m * 2 ^ (7 * j) < 18446744073709551616 → (0 < j → m ≠ 0) → 7 * j < 64 → rdN (numLf f m ++ r) j n = some (n + m * 2 ^ (7 * j), j + (numLf f m).length)
  | 0, m, j, n, r, h1, h2, h3, h4 => by
    have h1 : m < 128 := by simpa using h1
    rw [numLf, List.cons_append, rdN, ofNat_toNat (by omega), Nat.mod_eq_of_lt h1, if_pos ⟨h4, h2, fun c => h3 c.2 c.1⟩, if_pos h1]
    rfl
  | f + 1, m, j, n, r, h1, h2, h3, h4 => by
    have e : numLf (f + 1) m = if m < 128 then [UInt8.ofNat m] else UInt8.ofNat (128 + m % 128) :: numLf f (m / 128) := rfl
    rw [e]
    by_cases c : m < 128
    · rw [if_pos c, List.cons_append, rdN, ofNat_toNat (by omega), Nat.mod_eq_of_lt c, if_pos ⟨h4, h2, fun d => h3 d.2 d.1⟩, if_pos c]
      rfl
    · have hp : 2 ^ (7 * (j + 1)) = 128 * 2 ^ (7 * j) := by rw [show 7 * (j + 1) = 7 * j + 7 by omega, Nat.pow_add, Nat.mul_comm]
      have hm : m = 128 * (m / 128) + m % 128 := (Nat.div_add_mod m 128).symm
      have hpos : 1 ≤ 2 ^ (7 * j) := Nat.one_le_two_pow
      have hmul : m * 2 ^ (7 * j) = m / 128 * 2 ^ (7 * (j + 1)) + m % 128 * 2 ^ (7 * j) := by
        rw [hp, ← Nat.mul_assoc, Nat.mul_comm (m / 128) 128, ← Nat.add_mul, ← hm]
      have h5 : m / 128 * 2 ^ (7 * (j + 1)) < 18446744073709551616 := by omega
      have hq : 1 ≤ m / 128 := by omega
      have h6 : 7 * (j + 1) < 64 := by
        apply Classical.byContradiction
        intro c6
        have h7 : 2 ^ 64 ≤ 2 ^ (7 * (j + 1)) := Nat.pow_le_pow_right (by decide) (by omega)
        have h8 : 1 * 2 ^ (7 * (j + 1)) ≤ m / 128 * 2 ^ (7 * (j + 1)) := Nat.mul_le_mul_right _ hq
        have : (2 : Nat) ^ 64 = 18446744073709551616 := by decide
        omega
      have h9 : m % 128 * 2 ^ (7 * j) < 18446744073709551616 := by omega
      rw [if_neg c, List.cons_append, rdN, ofNat_toNat (by omega), show (128 + m % 128) % 128 = m % 128 by omega, if_pos ⟨h4, h9, fun d => by omega⟩, if_neg (by omega)]
      rw [rdN_num f (m / 128) (j + 1) _ r (by rw [Nat.pow_succ] at h1; exact Nat.div_lt_of_lt_mul (by rw [Nat.mul_comm]; exact h1)) h5 (fun _ => by omega) h6]
      simp only [List.length_cons, Option.some.injEq, Prod.mk.injEq]
      constructor <;> omega
theorem rdN_numL {m : Nat} (h : m < 18446744073709551616) (r : List UInt8) : rdN (numL m ++ r) 0 0 = some (m, (numL m).length) := by
  have := rdN_num 10 m 0 0 r (by have : (128 : Nat) ^ (10 + 1) = 151115727451828646838272 := by decide
                                 omega) (by simpa using h) (fun c => by omega) (by omega)
  unfold numL
  rw [this]
  simp

/-! the program reads so -/
theorem low7 (c : UInt8) : IntKind.wrap .u64 (BitVec.ofInt (IntKind.bits .u64) (IntKind.wrap .u64 (c.toNat : Int)) &&& ~~~BitVec.ofInt (IntKind.bits .u64) 128).toNat = ((c.toNat % 128 : Nat) : Int) := by
  have key : ∀ m : Fin 256, IntKind.wrap .u64 (BitVec.ofInt (IntKind.bits .u64) (IntKind.wrap .u64 ((m.val : Nat) : Int)) &&& ~~~BitVec.ofInt (IntKind.bits .u64) 128).toNat = ((m.val % 128 : Nat) : Int) := by decide +kernel
  exact key ⟨c.toNat, c.toNat_lt⟩
theorem or_add {n a j : Nat} (hn : n < 2 ^ (7 * j)) (h : n + a * 2 ^ (7 * j) < 18446744073709551616) : IntKind.wrap .u64 (BitVec.ofInt (IntKind.bits .u64) (n : Int) ||| BitVec.ofInt (IntKind.bits .u64) ((a * 2 ^ (7 * j) : Nat) : Int)).toNat = ((n + a * 2 ^ (7 * j) : Nat) : Int) := by
  have e : ∀ m : Nat, m < 18446744073709551616 → (BitVec.ofInt (IntKind.bits .u64) (m : Int)).toNat = m := fun m hm => by
    rw [BitVec.ofInt_natCast, BitVec.toNat_ofNat]
    exact Nat.mod_eq_of_lt hm
  rw [BitVec.toNat_or, e n (by omega), e _ (by omega), Nat.or_comm, Nat.mul_comm a, ← Nat.two_pow_add_eq_or_of_lt hn, Nat.add_comm, Nat.mul_comm]
  rw [Nat.mul_comm] at h
  rw [Nat.mul_comm a] 
  exact wrapu64 (by omega) (by omega)
theorem shl64 {a j : Nat} (hj : j ≤ 9) : IntKind.wrap .u64 ((a : Int) * 2 ^ min (Int.toNat ((7 * j : Nat) : Int)) (IntKind.bits .u64)) = ((a * 2 ^ (7 * j) % 18446744073709551616 : Nat) : Int) := by
  have e : min (Int.toNat ((7 * j : Nat) : Int)) (IntKind.bits .u64) = 7 * j := by
    rw [Int.toNat_natCast]
    exact Nat.min_eq_left (by show 7 * j ≤ 64; omega)
  rw [e, show ((a : Int) * 2 ^ (7 * j)) = ((a * 2 ^ (7 * j) : Nat) : Int) by simp]
  simp only [IntKind.wrap, IntKind.signed, IntKind.bits]
  simp
theorem back64 {a j : Nat} (hj : j ≤ 9) : Int.fdiv ((a * 2 ^ (7 * j) % 18446744073709551616 : Nat) : Int) (2 ^ min (Int.toNat ((7 * j : Nat) : Int)) (IntKind.bits .u64)) = ((a * 2 ^ (7 * j) % 18446744073709551616 / 2 ^ (7 * j) : Nat) : Int) := by
  have e : min (Int.toNat ((7 * j : Nat) : Int)) (IntKind.bits .u64) = 7 * j := by
    rw [Int.toNat_natCast]
    exact Nat.min_eq_left (by show 7 * j ≤ 64; omega)
  rw [e, Int.fdiv_eq_ediv_of_nonneg _ (by exact Int.le_of_lt (Int.pow_pos (by decide)))]
  simp
theorem fits64 {a j : Nat} : a * 2 ^ (7 * j) % 18446744073709551616 / 2 ^ (7 * j) = a ↔ a * 2 ^ (7 * j) < 18446744073709551616 := by
  have hpos : 0 < 2 ^ (7 * j) := Nat.two_pow_pos _
  constructor
  · intro h
    apply Classical.byContradiction
    intro c
    have h1 : a * 2 ^ (7 * j) % 18446744073709551616 < 18446744073709551616 := Nat.mod_lt _ (by decide)
    have h2 := Nat.div_mul_le_self (a * 2 ^ (7 * j) % 18446744073709551616) (2 ^ (7 * j))
    rw [h] at h2
    omega
  · intro h
    rw [Nat.mod_eq_of_lt h]
    exact Nat.mul_div_cancel _ hpos

def resN (at_ : Nat) : Option (Nat × Nat) → Int × Int × Bool
  | some (n, k) => ((n : Int), ((at_ + k : Nat) : Int), true)
  | none => (0, 0, false)

theorem resN_some (a n k : Nat) : resN a (some (n, k)) = ((n : Int), ((a + k : Nat) : Int), true) := rfl
theorem vary_Read_eq (s : ByteArray) (at_ : Nat) (hs : s.size ≤ 1000000000000) : vary_Read s (at_ : Int) = some (resN at_ (rdN ((bl s).drop at_) 0 0)) := by
  unfold vary_Read
  rw [if_neg (by simp)]
  unfold vary_Read_k1
  by_cases c : s.size ≤ at_
  · rw [if_pos (by simpa using c), List.drop_of_length_le (by rw [bl_len]; omega)]
    rfl
  · rw [if_neg (by simpa using c)]
    refine (loopF_inv (fun (v : Int × Int) => ∃ j n : Nat, v = ((n : Int), ((at_ + j : Nat) : Int)) ∧ at_ + j ≤ s.size ∧ j ≤ 10 ∧ n < 2 ^ (7 * j)) (fun v => ((s.size : Int) - v.2).toNat) (fun v => some (resN at_ (rdN ((bl s).drop v.2.toNat) (v.2.toNat - at_) v.1.toNat))) ?_ FU (0, (at_ : Int)) ⟨0, 0, by simp, by omega, by omega, by simp⟩ (by have := FU_big; simp only; omega)).trans (by simp)
    rintro again v ⟨j, n, rfl, h1, h2, h3⟩ hag
    simp only [Int.toNat_natCast, Nat.add_sub_cancel_left]
    unfold vary_Read_l3
    simp only
    have esh : IntKind.wrap .i64 (7 * (IntKind.wrap .i64 (((at_ + j : Nat) : Int) - (at_ : Int)))) = ((7 * j : Nat) : Int) := by
      rw [show ((at_ + j : Nat) : Int) - (at_ : Int) = (j : Int) by omega, wrap64 (n := (j : Int)) (by omega) (by omega), wrap64 (by omega) (by omega)]; omega
    by_cases c1 : at_ + j < s.size
    · have hget : (bl s).drop (at_ + j) = s[at_ + j] :: (bl s).drop (at_ + j + 1) := by
        rw [List.drop_eq_getElem_cons (by rw [bl_len]; exact c1)]; rfl
      rw [if_pos (by rw [decide_eq_true_eq]; omega), sidx_at c1, hget]
      simp only [Option.bind_some]
      generalize s[at_ + j] = b
      have hb := b.toNat_lt
      rw [esh, rdN]
      have hfail : some (resN at_ none) = vary_Read_k2 () := rfl
      by_cases c2 : 7 * j < 64
      · have hj : j ≤ 9 := by omega
        rw [if_neg (by simp; omega)]
        simp only [chk, show decide ((0 : Int) ≤ ((7 * j : Nat) : Int)) = true by simp; omega, if_true]
        rw [low7, shl64 hj, back64 hj]
        unfold vary_Read_k5
        by_cases c3 : b.toNat % 128 * 2 ^ (7 * j) < 18446744073709551616
        · have hq : b.toNat % 128 * 2 ^ (7 * j) % 18446744073709551616 / 2 ^ (7 * j) = b.toNat % 128 := fits64.2 c3
          rw [hq]
          simp only [decide_true, Bool.not_true, Bool.false_eq_true, if_false]
          have ewb : IntKind.wrap .u64 (b.toNat : Int) = (b.toNat : Int) := wrapu64 (by omega) (by omega)
          rw [ewb]
          have hk4 : ∀ y : Bool, y = decide (b.toNat = 0 ∧ 0 < j) → vary_Read_k4 (at_ : Int) again ((n : Int), ((at_ + j : Nat) : Int)) b y = some (resN at_ (if 7 * j < 64 ∧ b.toNat % 128 * 2 ^ (7 * j) < 18446744073709551616 ∧ ¬ (b.toNat = 0 ∧ 0 < j) then if b.toNat < 128 then some (n + b.toNat % 128 * 2 ^ (7 * j), j + 1) else rdN ((bl s).drop (at_ + j + 1)) (j + 1) (n + b.toNat % 128 * 2 ^ (7 * j)) else none)) := by
            intro y hy
            unfold vary_Read_k4
            by_cases c4 : b.toNat = 0 ∧ 0 < j
            · rw [if_pos (by rw [hy]; simpa using c4), if_neg (fun d => d.2.2 c4)]; rfl
            · have hcond : 7 * j < 64 ∧ b.toNat % 128 * 2 ^ (7 * j) < 18446744073709551616 ∧ ¬ (b.toNat = 0 ∧ 0 < j) := ⟨c2, c3, c4⟩
              rw [if_neg (by rw [hy]; simpa using c4), if_pos hcond]
              simp only
              rw [esh]
              simp only [chk, show decide ((0 : Int) ≤ ((7 * j : Nat) : Int)) = true by simp; omega, if_true]
              rw [low7, shl64 hj, Nat.mod_eq_of_lt c3]
              have hnl : n + b.toNat % 128 * 2 ^ (7 * j) < 18446744073709551616 := by
                have : (18446744073709551616 : Nat) = 2 ^ (64 - 7 * j) * 2 ^ (7 * j) := by rw [← Nat.pow_add, show 64 - 7 * j + 7 * j = 64 by omega]
                rw [this] at c3 ⊢
                have h5 : b.toNat % 128 < 2 ^ (64 - 7 * j) := Nat.lt_of_mul_lt_mul_right c3
                have h6 : (b.toNat % 128 + 1) * 2 ^ (7 * j) ≤ 2 ^ (64 - 7 * j) * 2 ^ (7 * j) := Nat.mul_le_mul_right _ h5
                rw [Nat.add_mul, Nat.one_mul] at h6
                omega
              rw [or_add h3 hnl, wrap64 (by omega) (by omega)]
              by_cases c5 : b.toNat < 128
              · rw [if_pos (by rw [ewb, decide_eq_true_eq]; omega), if_pos c5]
                simp only [resN]
                congr 3
              · rw [if_neg (by rw [ewb, decide_eq_true_eq]; omega), if_neg c5]
                have hp : 2 ^ (7 * (j + 1)) = 128 * 2 ^ (7 * j) := by rw [show 7 * (j + 1) = 7 * j + 7 by omega, Nat.pow_add, Nat.mul_comm]
                have h4 : (b.toNat % 128 + 1) * 2 ^ (7 * j) ≤ 128 * 2 ^ (7 * j) := Nat.mul_le_mul_right _ (by omega)
                rw [Nat.add_mul, Nat.one_mul] at h4
                rw [hag (((n + b.toNat % 128 * 2 ^ (7 * j) : Nat) : Int), ((at_ + j : Nat) : Int) + 1) ⟨j + 1, n + b.toNat % 128 * 2 ^ (7 * j), by simp only [Prod.mk.injEq, true_and]; omega, by omega, by omega, by omega⟩ (by simp only; omega)]
                have e1 : (((at_ + j : Nat) : Int) + 1).toNat = at_ + j + 1 := by omega
                simp only [e1, Int.toNat_natCast]
                rw [show at_ + j + 1 - at_ = j + 1 by omega]
          by_cases c6 : b.toNat = 0
          · rw [if_pos (by simpa using c6)]
            exact hk4 _ (by simp [c6]; omega)
          · rw [if_neg (by simpa using c6)]
            exact hk4 _ (by simp [c6])
        · have hq : ¬ b.toNat % 128 * 2 ^ (7 * j) % 18446744073709551616 / 2 ^ (7 * j) = b.toNat % 128 := fun e => c3 (fits64.1 e)
          rw [if_pos (by simp only [Bool.not_eq_true', decide_eq_false_iff_not]; omega), if_neg (fun d => c3 d.2.1)]
          rfl
      · rw [if_pos (by simp; omega), if_neg (fun d => c2 d.1)]
        rfl
    · rw [if_neg (by rw [decide_eq_true_eq]; omega), List.drop_of_length_le (by rw [bl_len]; omega)]
      rfl
end Go.Ark
