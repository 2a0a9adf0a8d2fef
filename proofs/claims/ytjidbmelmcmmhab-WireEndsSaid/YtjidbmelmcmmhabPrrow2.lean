/- Plain laws: the program's and the document's reading of rows are that of the parts. Conditions: none but those that stand in each law. -/
import Derived.Test.YtjidbmelmcmmhabPrrow
namespace Go.Ark
open Go Go.Ab Go.RowKit

def noRow : Api_Row := ⟨[], [], []⟩
section
variable (F : Api_Row → Nat → Api_Row × Bool) (L : List UInt8)
def tPar (rs : List Api_Range) (os : List Int) (m at_ : Nat) : Api_Row × Bool := match rdMany 6 m (L.drop at_) with
  | some (ps, k) => F ⟨rs, os, ps.map fun (p : Nat) => (p : Int) - 1⟩ (at_ + k)
  | none => (noRow, false)
def tM (rs : List Api_Range) (os : List Int) (at_ : Nat) : Api_Row × Bool := match rdK 6 (L.drop at_) with
  | some (m, k) => tPar F L rs os m (at_ + k)
  | none => (noRow, false)
def tOwn (rs : List Api_Range) (n at_ : Nat) : Api_Row × Bool := match rdMany 63 n (L.drop at_) with
  | some (os, k) => tM F L rs (os.map Int.ofNat) (at_ + k)
  | none => (noRow, false)
def tEnds (rs : List Api_Range) (from_ : ByteArray) (m n at_ : Nat) : Api_Row × Bool := match rdEnds m (L.drop at_) with
  | some (es, k) => tOwn F L (rs ++ mkG from_ es) n (at_ + k)
  | none => (noRow, false)
def runF : Option (Api_Row × Nat) → Api_Row × Bool
  | some (c, k) => F c k
  | none => (noRow, false)
theorem runF_some (c : Api_Row) (k : Nat) : runF F (some (c, k)) = F c k := rfl
def tAll : Api_Row × Bool := match rdK 8 L with
  | some (n, k) => if n = 0 then (noRow, false) else tEnds F L [] ByteArray.empty (n - 1) n k
  | none => (noRow, false)
theorem tAll_eq : tAll F L = runF F (rdRow L) := by
  unfold tAll rdRow runF
  cases h1 : rdK 8 L with
  | none => unfold seqR; rw [h1]
  | some z =>
    obtain ⟨n, k⟩ := z
    unfold seqR
    rw [h1]
    simp only
    by_cases hn : n = 0
    · rw [if_pos hn, if_pos hn]
    · rw [if_neg hn, if_neg hn]
      unfold tEnds
      cases h2 : rdEnds (n - 1) (L.drop k) with
      | none => rfl
      | some z =>
        obtain ⟨es, k2⟩ := z
        simp only [List.nil_append]
        unfold tOwn
        rw [List.drop_drop]
        cases h3 : rdMany 63 n (L.drop (k + k2)) with
        | none => rfl
        | some z =>
          obtain ⟨os, k3⟩ := z
          simp only
          unfold tM
          rw [List.drop_drop]
          cases h4 : rdK 6 (L.drop (k + k2 + k3)) with
          | none => rfl
          | some z =>
            obtain ⟨m, k4⟩ := z
            simp only
            unfold tPar
            rw [List.drop_drop]
            cases h5 : rdMany 6 m (L.drop (k + k2 + k3 + k4)) with
            | none => rfl
            | some z =>
              obtain ⟨ps, k5⟩ := z
              simp only
              rw [show k + k2 + k3 + k4 + k5 = k + (k2 + (k3 + (k4 + (k5 + 0)))) by omega]
end
theorem rdMany_succ (most m : Nat) (l : List UInt8) : rdMany most (m + 1) l = match rdK most l with
    | some (x, k) => (match rdMany most m (l.drop k) with
      | some (xs, j) => some (x :: xs, k + j)
      | none => none)
    | none => none := by
  rw [rdMany]
  unfold seqR
  cases rdK most l with
  | none => rfl
  | some z =>
    obtain ⟨x, k⟩ := z
    simp only
    cases rdMany most m (l.drop k) with
    | none => rfl
    | some w => rfl
theorem rdEnds_succ (m : Nat) (l : List UInt8) : rdEnds (m + 1) l = match rdT 32 l with
    | some (t, k) => (match rdEnds m (l.drop k) with
      | some (es, j) => some (ofL t :: es, k + j)
      | none => none)
    | none => none := by
  rw [rdEnds]
  unfold seqR
  cases rdT 32 l with
  | none => rfl
  | some z =>
    obtain ⟨x, k⟩ := z
    simp only
    cases rdEnds m (l.drop k) with
    | none => rfl
    | some w => rfl

/-! ### the document -/
theorem rdK_none {most : Nat} {l : List UInt8} : rdK most l = none ↔ rdN l 0 0 = none ∨ ∃ n k, rdN l 0 0 = some (n, k) ∧ most < n := by
  unfold rdK
  cases h : rdN l 0 0 with
  | none => simp
  | some z =>
    obtain ⟨n, k⟩ := z
    simp only [Option.some.injEq, Prod.mk.injEq, reduceCtorEq, false_or]
    by_cases c : n ≤ most
    · rw [if_pos c]
      constructor
      · intro h; cases h
      · rintro ⟨n', k', ⟨rfl, rfl⟩, h⟩; omega
    · rw [if_neg c]
      exact ⟨fun _ => ⟨n, k, ⟨rfl, rfl⟩, by omega⟩, fun _ => rfl⟩
end Go.Ark
