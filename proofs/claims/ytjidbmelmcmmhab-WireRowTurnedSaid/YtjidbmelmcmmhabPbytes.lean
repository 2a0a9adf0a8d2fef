/- Plain laws: stamps and pasts, as bytes and out of bytes. Conditions: none but those that stand in each law. -/
import Derived.Test.YtjidbmelmcmmhabPvread
import Derived.Test.YtjidbmelmcmmhabPpast3
namespace Go.Ark
open Go Go.Ab Go.RowKit

/-! a key that may be has 32 bytes at most -/
theorem runeW_le4 (s : ByteArray) (i : Nat) : runeW s i ≤ 4 := by
  unfold runeW
  repeat' split
  all_goals omega
theorem runesP_ge {s : ByteArray} : ∀ (m i : Nat) (n : Int), s.size - i ≤ m → 0 ≤ n → (runesP s n i = -1 ∨ (n ≤ runesP s n i ∧ ((s.size - i : Nat) : Int) ≤ 4 * (runesP s n i - n)))
  | 0, i, n, h, hn => by
    rw [runesP_end (by omega)]
    exact .inr ⟨Int.le_refl _, by omega⟩
  | m + 1, i, n, h, hn => by
    by_cases c : i < s.size
    · by_cases hw : runeW s i = 0
      · exact .inl (runesP_bad c hw)
      · rw [runesP_ok c hw]
        have h4 := runeW_le4 s i
        have h5 := runeW_le c
        have h8 := Nat.pos_of_ne_zero hw
        rcases runesP_ge (s := s) m (i + runeW s i) (n + 1) (by omega) (by omega) with h6 | ⟨h6, h7⟩
        · exact .inl h6
        · exact .inr ⟨by omega, by omega⟩
    · rw [runesP_end c]
      exact .inr ⟨Int.le_refl _, by omega⟩
theorem okKey_size {s : ByteArray} (h : okKey s = true) : s.size ≤ 32 := by
  unfold okKey at h
  simp only [Bool.and_eq_true, decide_eq_true_eq] at h
  rcases runesP_ge (s := s) s.size 0 0 (by omega) (Int.le_refl _) with h1 | ⟨_, h2⟩
  · omega
  · omega

/-! stamps -/
/-! pasts -/
/-! reading -/
def rdT (most : Nat) (l : List UInt8) : Option (List UInt8 × Nat) := match rdN l 0 0 with
  | some (n, k) => if n ≤ most ∧ n ≤ l.length - k then some ((l.drop k).take n, k + n) else none
  | none => none
def resT (at_ : Nat) : Option (List UInt8 × Nat) → ByteArray × Int × Bool
  | some (t, k) => (ofL t, ((at_ + k : Nat) : Int), true)
  | none => (ByteArray.empty, 0, false)
theorem resT_some (a k : Nat) (t : List UInt8) : resT a (some (t, k)) = (ofL t, ((a + k : Nat) : Int), true) := rfl
theorem vary_ReadText_eq (s : ByteArray) (at_ most : Nat) (hs : s.size ≤ 1000000000000) (hm : most ≤ 1000000) : vary_ReadText s (at_ : Int) (most : Int) = some (resT at_ (rdT most ((bl s).drop at_))) := by
  unfold vary_ReadText
  rw [vary_Read_eq s at_ hs]
  simp only [Option.bind_some]
  unfold rdT
  cases h : rdN ((bl s).drop at_) 0 0 with
  | none => rfl
  | some x =>
    obtain ⟨n, k⟩ := x
    have h1 := rdN_len h
    have h2 := rdN_lt (by decide) h
    have hll : ((bl s).drop at_).length = s.size - at_ := by rw [List.length_drop, bl_len]
    rw [hll] at h1 ⊢
    rw [resN_some]
    simp only [Bool.not_true, Bool.false_eq_true, if_false]
    rw [show decide ((most : Int) < 0) = false by simp]
    unfold vary_ReadText_k2
    simp only [Bool.false_eq_true, if_false]
    rw [wrapu64 (n := (most : Int)) (by omega) (by omega)]
    unfold vary_ReadText_k3
    by_cases c1 : n ≤ most
    · rw [if_neg (fun e => absurd (of_decide_eq_true e) (by omega)), wrap64 (n := (s.size : Int) - ((at_ + k : Nat) : Int)) (by omega) (by omega), wrapu64 (n := (s.size : Int) - ((at_ + k : Nat) : Int)) (by omega) (by omega)]
      unfold vary_ReadText_k1
      by_cases c2 : n ≤ s.size - at_ - k
      · rw [if_neg (fun e => absurd (of_decide_eq_true e) (by omega)), if_pos ⟨c1, c2⟩]
        simp only
        rw [wrap64 (n := (n : Int)) (by omega) (by omega), wrap64 (n := ((at_ + k : Nat) : Int) + (n : Int)) (by omega) (by omega)]
        have hsub : ssub s ((at_ + k : Nat) : Int) (((at_ + k : Nat) : Int) + (n : Int)) = some (ofL ((((bl s).drop at_).drop k).take n)) := by
          unfold ssub
          rw [if_pos ⟨by omega, by omega, by omega⟩]
          refine congrArg some (bl_inj ?_)
          rw [bl_extract, bl_ofL, Int.toNat_natCast, show (((at_ + k : Nat) : Int) + (n : Int)).toNat = at_ + k + n by omega, List.drop_drop, List.drop_take]
          congr 1
          omega
        rw [hsub]
        simp only [Option.bind_some, resT, Option.some.injEq, Prod.mk.injEq, true_and, and_true]
        omega
      · rw [if_pos (decide_eq_true (by omega)), if_neg (fun d => c2 d.2)]
        rfl
    · rw [if_pos (decide_eq_true (by omega)), if_neg (fun d => c1 d.1)]
      rfl
theorem rdT_len {most : Nat} {l t : List UInt8} {k : Nat} (h : rdT most l = some (t, k)) : 1 ≤ k ∧ k ≤ l.length ∧ t.length ≤ most := by
  unfold rdT at h
  cases hn : rdN l 0 0 with
  | none => rw [hn] at h; cases h
  | some y =>
    obtain ⟨n, j⟩ := y
    rw [hn] at h
    have hk := rdN_len hn
    simp only at h
    split at h
    · rename_i c
      cases h
      refine ⟨by omega, by omega, ?_⟩
      rw [List.length_take]; omega
    · cases h
end Go.Ark
