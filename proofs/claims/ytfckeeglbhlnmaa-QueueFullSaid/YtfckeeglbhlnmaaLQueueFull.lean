/- The plain law of QueueFull: what is asked hangs on the rest by 31 alone: each of the 31 is reckoned. Conditions: none. -/
import Derived.Test.YtfckeeglbhlnmaaPlaw14
namespace Go.Ark
open Go Go.Ab Go.RowKit

def manyF (n : Int) : Int := Int.tmod (IntKind.wrap .i64 ((Int.tmod n 31) + 31)) 31

theorem manyF_rest (n : Int) : ∃ m : Fin 31, manyF n = (m.val : Int) ∧ manyF (m.val : Int) = (m.val : Int) := by
  have h1 : Int.tmod n 31 < 31 := Int.tmod_lt_of_pos _ (by decide)
  have h2 : -31 < Int.tmod n 31 := by
    have := Int.tmod_lt_of_pos (-n) (show (0 : Int) < 31 by decide)
    rw [Int.neg_tmod] at this
    omega
  have h3 : 0 ≤ manyF n := by
    unfold manyF
    rw [wrap64 (by omega) (by omega)]
    exact Int.tmod_nonneg _ (by omega)
  have h4 : manyF n < 31 := Int.tmod_lt_of_pos _ (by decide)
  refine ⟨⟨(manyF n).toNat, by omega⟩, by simp only; omega, ?_⟩
  generalize (⟨(manyF n).toNat, by omega⟩ : Fin 31) = m
  revert m
  decide +kernel

theorem queueFull_same {n m : Int} (h : manyF n = manyF m) : law14_QueueFull n = law14_QueueFull m := by
  have h : Int.tmod (IntKind.wrap .i64 ((Int.tmod n 31) + 31)) 31 = Int.tmod (IntKind.wrap .i64 ((Int.tmod m 31) + 31)) 31 := h
  have h1 : ∀ r y, law14_QueueFull_k1 n r y = law14_QueueFull_k1 m r y := fun r y => by
    unfold law14_QueueFull_k1
    rw [h]
  have h2 : ∀ r, law14_QueueFull_l7 n r = law14_QueueFull_l7 m r := fun r => by
    funext again v
    unfold law14_QueueFull_l7
    rw [h, h1]
  unfold law14_QueueFull
  simp only [h2]

theorem queueFull_all : ∀ m : Fin 31, law14_QueueFull (m.val : Int) = some true := by decide +kernel

theorem law14_QueueFull_plain (n_0 : Int) (_h0 : (Lit.int .i64 n_0).wf = true) : law14_QueueFull n_0 = some true := by
  obtain ⟨m, h1, h2⟩ := manyF_rest n_0
  rw [queueFull_same (h1.trans h2.symm)]
  exact queueFull_all m
end Go.Ark
