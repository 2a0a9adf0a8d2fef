/- Plain laws: the document's reading of numbers, texts, stamps and pasts is the program's. Conditions: none but those that stand in each law. -/
import Derived.Test.YtjidbmelmcmmhabPbytes
namespace Go.Ark
open Go Go.Ab Go.RowKit

/-- the bytes of a number, one by one -/
inductive Digs : Nat → List UInt8 → Prop
  | last (q : Nat) (h : q < 128) : Digs q [UInt8.ofNat q]
  | more (q : Nat) (l : List UInt8) (h : 128 ≤ q) (t : Digs (q / 128) l) : Digs q (UInt8.ofNat (128 + q % 128) :: l)
theorem Digs.numLf {q : Nat} {l : List UInt8} (h : Digs q l) : ∀ {f : Nat}, l.length ≤ f + 1 → numLf f q = l := by
  induction h with
  | last q h =>
    intro f _
    cases f with
    | zero => rfl
    | succ f => rw [Go.Ark.numLf, if_pos h]
  | more q l h t ih =>
    intro f hf
    cases f with
    | zero =>
      cases t <;> simp at hf
    | succ f => rw [Go.Ark.numLf, if_neg (by omega), ih (by simpa using hf)]
theorem rdN_le10 : ∀ {l : List UInt8} {j n m k : Nat}, rdN l j n = some (m, k) → k ≤ 10
  | [], _, _, _, _, h => (by cases h)
  | c :: l, j, n, m, k, h => by
    rw [rdN] at h
    split at h
    · split at h
      · cases h; omega
      · exact rdN_le10 h
    · cases h
theorem rdN_digs : ∀ {l : List UInt8} {j n m k : Nat}, rdN l j n = some (m, k) → ∃ q, m = n + q * 2 ^ (7 * j) ∧ (0 < j → q ≠ 0) ∧ Digs q (l.take (k - j))
  | [], _, _, _, _, h => (by cases h)
  | c :: l, j, n, m, k, h => by
    have hc := c.toNat_lt
    rw [rdN] at h
    split at h
    · rename_i c1
      split at h
      · rename_i c2
        cases h
        rw [Nat.mod_eq_of_lt c2]
        refine ⟨c.toNat, rfl, fun hj e => c1.2.2 ⟨e, hj⟩, ?_⟩
        have h2 := Digs.last c.toNat c2
        rw [show j + 1 - j = 1 by omega]
        simpa using h2
      · rename_i c2
        obtain ⟨q, h1, h2, h3⟩ := rdN_digs h
        have hlen := rdN_len h
        have hq := h2 (by omega)
        have hp : 2 ^ (7 * (j + 1)) = 128 * 2 ^ (7 * j) := by rw [show 7 * (j + 1) = 7 * j + 7 by omega, Nat.pow_add, Nat.mul_comm]
        refine ⟨128 * q + c.toNat % 128, ?_, fun _ => by omega, ?_⟩
        · rw [h1, hp, Nat.add_mul, ← Nat.mul_assoc, Nat.mul_comm q 128]; omega
        · have e : k - j = (k - (j + 1)) + 1 := by omega
          rw [e, List.take_succ_cons]
          have h4 := Digs.more (128 * q + c.toNat % 128) (l.take (k - (j + 1))) (by omega) (by rw [show (128 * q + c.toNat % 128) / 128 = q by omega]; exact h3)
          rw [show 128 + (128 * q + c.toNat % 128) % 128 = c.toNat by omega] at h4
          simpa using h4
    · cases h
/-- what is read was written so -/
theorem rdN_sound {l : List UInt8} {m k : Nat} (h : rdN l 0 0 = some (m, k)) : l.take k = numL m ∧ k = (numL m).length := by
  obtain ⟨q, h1, -, h3⟩ := rdN_digs h
  have hk := rdN_len h
  have h10 := rdN_le10 h
  have : m = q := by rw [h1]; simp
  subst this
  have h4 := h3.numLf (f := 10) (by simp only [Nat.sub_zero, List.length_take]; omega)
  have h5 : l.take k = numL m := by rw [Nat.sub_zero] at h4; exact h4.symm
  refine ⟨h5, ?_⟩
  rw [← h5, List.length_take]; omega

end Go.Ark
