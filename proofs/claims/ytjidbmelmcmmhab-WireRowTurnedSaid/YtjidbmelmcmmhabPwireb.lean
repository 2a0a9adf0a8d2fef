/- Plain laws: versions as bytes, and out of bytes. Conditions: none but those that stand in each law. -/
import Derived.Test.YtjidbmelmcmmhabPbytes
import Derived.Test.YtjidbmelmcmmhabPwire1
import Derived.Test.YtjidbmelmcmmhabPpast2
namespace Go.Ark
open Go Go.Ab Go.RowKit

/-! texts joined, with nothing between them -/
/-! one part behind the other -/
abbrev Rdr (α : Type) := List UInt8 → Option (α × Nat)
def seqR {α β : Type} (p : Rdr α) (f : α → Rdr β) : Rdr β := fun l => match p l with
  | some (x, k) => match f x (l.drop k) with
    | some (y, j) => some (y, k + j)
    | none => none
  | none => none
def Mono {α : Type} (p : Rdr α) : Prop := ∀ l x k, p l = some (x, k) → k ≤ l.length ∧ ∀ r, p (l ++ r) = some (x, k)
theorem Mono.seq {α β : Type} {p : Rdr α} {f : α → Rdr β} (hp : Mono p) (hf : ∀ x, Mono (f x)) : Mono (seqR p f) := by
  intro l y k h
  unfold seqR at h ⊢
  cases h1 : p l with
  | none => rw [h1] at h; cases h
  | some z =>
    obtain ⟨x, i⟩ := z
    rw [h1] at h
    obtain ⟨q1, q2⟩ := hp l x i h1
    simp only at h
    cases h2 : f x (l.drop i) with
    | none => rw [h2] at h; cases h
    | some w =>
      obtain ⟨y', j⟩ := w
      rw [h2] at h
      simp only [Option.some.injEq, Prod.mk.injEq] at h
      obtain ⟨rfl, rfl⟩ := h
      obtain ⟨q3, q4⟩ := hf x _ _ _ h2
      rw [List.length_drop] at q3
      refine ⟨by omega, fun r => ?_⟩
      simp only [q2 r]
      rw [List.drop_append_of_le_length q1, q4 r]
end Go.Ark
