/- Plain laws: bytes of which one is turned. Conditions: none but those that stand in each law. -/
import Derived.Test.YtedpjlinmkingaaPrread
namespace Go.Ark
open Go Go.Ab Go.RowKit

theorem turnedI (a : Int) {m : Int} (h0 : 0 < m) (h1 : m ≤ 1000000) : 0 ≤ Int.tmod (IntKind.wrap .i64 ((Int.tmod a m) + m)) m ∧ Int.tmod (IntKind.wrap .i64 ((Int.tmod a m) + m)) m < m := by
  have g1 := Int.lt_tmod_of_pos a h0
  have g2 := Int.tmod_lt_of_pos a h0
  rw [wrap64 (by omega) (by omega)]
  exact ⟨Int.tmod_nonneg _ (by omega), Int.tmod_lt_of_pos _ h0⟩
theorem u8range (n : Int) : 0 ≤ IntKind.wrap .u8 n ∧ IntKind.wrap .u8 n < 256 := by
  simp only [IntKind.wrap, IntKind.signed, IntKind.bits]
  simp
  omega
theorem chk_if {R : Type} {b : Bool} {x : Option R} (h : b = true) : chk b x = x := by unfold chk; rw [if_pos h]
theorem three {q : List Int} (h : q.length = 3 ∧ ∀ x, x ∈ q → (Lit.int .i64 x).wf = true) : ∃ a b c, q = [a, b, c] ∧ (-9223372036854775808 ≤ a ∧ a ≤ 9223372036854775807) := by
  match q, h with
  | [a, b, c], h =>
    have := h.2 a (by simp)
    simp [Lit.wf] at this
    exact ⟨a, b, c, rfl, this⟩
theorem flatD_len2 : ∀ {q : List Api_Dep}, (∀ d, d ∈ q → d.Key.size ≤ 1000) → (q.flatMap depL).length ≤ 1033 * q.length
  | [], _ => by simp
  | d :: q, hq => by
    have h1 := flatD_len2 (q := q) fun x hx => hq x (by simp [hx])
    have h2 := depL_len (d := d) (hq d (by simp))
    simp only [List.flatMap_cons, List.length_append, List.length_cons]
    omega
theorem pastL_len2 {p : List Api_Dep} (hk : ∀ d, d ∈ p → d.Key.size ≤ 1000) : 1 ≤ (pastL p).length ∧ (pastL p).length ≤ 11 + 1033 * p.length := by
  have h1 := numL_len p.length
  have h2 := flatD_len2 hk
  simp only [pastL, List.length_append]
  omega
end Go.Ark
