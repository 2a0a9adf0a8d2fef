/- The plain law of NearestRow: in a row of writes the last one tells of all. Conditions: none but those that stand in each law. -/
import Derived.Test.YtildciopogbhcaaPlaw05
namespace Go.Ark
open Go Go.Ab Go.RowKit

theorem law05_NearestRow_plain (n_0 : Int) (_h0 : (Lit.int .i64 n_0).wf = true) : law05_NearestRow n_0 = some true := by
  have h := and7_le n_0
  have key : ∀ m : Nat, m ≤ 7 → (BitVec.ofInt (IntKind.bits .i64) n_0 &&& BitVec.ofInt (IntKind.bits .i64) 7).toNat = m → law05_NearestRow n_0 = law05_NearestRow (m : Int) := by
    intro m hm e
    have e2 : (BitVec.ofInt (IntKind.bits .i64) (m : Int) &&& BitVec.ofInt (IntKind.bits .i64) 7).toNat = m := by
      have : ∀ k : Fin 8, (BitVec.ofInt (IntKind.bits .i64) (k.val : Int) &&& BitVec.ofInt (IntKind.bits .i64) 7).toNat = k.val := by decide +kernel
      exact this ⟨m, by omega⟩
    unfold law05_NearestRow law05_NearestRow_l2 law05_NearestRow_k1 law05_NearestRow_k3
    rw [e, e2]
  have fin : ∀ k : Fin 8, law05_NearestRow (k.val : Int) = some true := by decide +kernel
  rw [key _ h rfl]
  exact fin ⟨_, Nat.lt_succ_of_le h⟩
end Go.Ark
