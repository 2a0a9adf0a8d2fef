import Derived.Test.YtfhlilpkgodilaaGreatDoorPvread
import Derived.Test.YtfhlilpkgodilaaGreatDoorPpast3
/- Plain laws: stamps and pasts, as bytes and out of bytes. Conditions: none but those that stand in each law. -/
namespace Go.Ark
open Go Go.Ab Go.RowKit

/-! a key that may be has 32 bytes at most -/
theorem runeW_le4 (s : ByteArray) (i : Nat) : runeW s i ≤ 4 := by
  unfold runeW
  repeat' split
  all_goals omega
theorem runesP_ge {s : ByteArray} : ∀ (m i : Nat) (n : Int), s.size - i ≤ m → 0 ≤ n → (runesP s n i = -1 ∨ (n ≤ runesP s n i ∧ ((s.size - i : Nat) : Int) ≤ 4 * (runesP s n i - n)))
  | 0, i, n, h, hn => by
    rw [runesP_end (by omega)]
    exact .inr ⟨Int.le_refl _, by omega⟩
  | m + 1, i, n, h, hn => by
    by_cases c : i < s.size
    · by_cases hw : runeW s i = 0
      · exact .inl (runesP_bad c hw)
      · rw [runesP_ok c hw]
        have h4 := runeW_le4 s i
        have h5 := runeW_le c
        have h8 := Nat.pos_of_ne_zero hw
        rcases runesP_ge (s := s) m (i + runeW s i) (n + 1) (by omega) (by omega) with h6 | ⟨h6, h7⟩
        · exact .inl h6
        · exact .inr ⟨by omega, by omega⟩
    · rw [runesP_end c]
      exact .inr ⟨Int.le_refl _, by omega⟩
theorem okKey_size {s : ByteArray} (h : okKey s = true) : s.size ≤ 32 := by
  unfold okKey at h
  simp only [Bool.and_eq_true, decide_eq_true_eq] at h
  rcases runesP_ge (s := s) s.size 0 0 (by omega) (Int.le_refl _) with h1 | ⟨_, h2⟩
  · omega
  · omega

/-! stamps -/
/-! pasts -/
/-! reading -/
end Go.Ark
