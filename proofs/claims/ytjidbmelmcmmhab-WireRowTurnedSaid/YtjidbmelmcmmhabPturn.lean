/- Plain laws: bytes of which one is turned. Conditions: none but those that stand in each law. -/
import Derived.Test.YtjidbmelmcmmhabPrread
namespace Go.Ark
open Go Go.Ab Go.RowKit

theorem turnedI (a : Int) {m : Int} (h0 : 0 < m) (h1 : m ≤ 1000000) : 0 ≤ Int.tmod (IntKind.wrap .i64 ((Int.tmod a m) + m)) m ∧ Int.tmod (IntKind.wrap .i64 ((Int.tmod a m) + m)) m < m := by
  have g1 := Int.lt_tmod_of_pos a h0
  have g2 := Int.tmod_lt_of_pos a h0
  rw [wrap64 (by omega) (by omega)]
  exact ⟨Int.tmod_nonneg _ (by omega), Int.tmod_lt_of_pos _ h0⟩
theorem u8range (n : Int) : 0 ≤ IntKind.wrap .u8 n ∧ IntKind.wrap .u8 n < 256 := by
  simp only [IntKind.wrap, IntKind.signed, IntKind.bits]
  simp
  omega
theorem chk_if {R : Type} {b : Bool} {x : Option R} (h : b = true) : chk b x = x := by unfold chk; rw [if_pos h]
end Go.Ark
