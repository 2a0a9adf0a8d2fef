/- Plain laws: versions that are made by steps, each behind those that it saw. Conditions: none but those that stand in each law. -/
import Derived.Test.YtdngcojjipaajaaPpast2
namespace Go.Ark
open Go Go.Ab Go.RowKit

def and3 (n : Int) : Int := IntKind.wrap .i64 (BitVec.ofInt (IntKind.bits .i64) n &&& BitVec.ofInt (IntKind.bits .i64) 3).toNat
theorem and3_le (n : Int) : 0 ≤ and3 n ∧ and3 n ≤ 3 := by
  have h : (BitVec.ofInt (IntKind.bits .i64) n &&& BitVec.ofInt (IntKind.bits .i64) 3).toNat ≤ 3 := by
    rw [BitVec.toNat_and]
    exact Nat.le_trans Nat.and_le_right (by decide)
  unfold and3
  rw [wrap64 (by omega) (by omega)]
  omega

def maxN (p : List Api_Dep) : Int := p.foldl (fun n d => if n < d.Stamp.N then d.Stamp.N else n) 0
theorem maxN_go (p : List Api_Dep) : ∀ n, n ≤ p.foldl (fun n d => if n < d.Stamp.N then d.Stamp.N else n) n ∧ (∀ m, n ≤ m → (∀ d, d ∈ p → d.Stamp.N ≤ m) → p.foldl (fun n d => if n < d.Stamp.N then d.Stamp.N else n) n ≤ m) ∧ ∀ d, d ∈ p → d.Stamp.N ≤ p.foldl (fun n d => if n < d.Stamp.N then d.Stamp.N else n) n := by
  induction p with
  | nil => intro n; exact ⟨Int.le_refl _, fun m h _ => h, fun d h => by simp at h⟩
  | cons x p ih =>
    intro n
    simp only [List.foldl_cons]
    by_cases c : n < x.Stamp.N
    · rw [if_pos c]
      obtain ⟨h1, h2, h3⟩ := ih x.Stamp.N
      refine ⟨by omega, fun m hm hd => h2 m (hd x (by simp)) fun d hd' => hd d (by simp [hd']), fun d hd => ?_⟩
      rcases List.mem_cons.1 hd with rfl | hd
      · exact h1
      · exact h3 d hd
    · rw [if_neg c]
      obtain ⟨h1, h2, h3⟩ := ih n
      refine ⟨h1, fun m hm hd => h2 m hm fun d hd' => hd d (by simp [hd']), fun d hd => ?_⟩
      rcases List.mem_cons.1 hd with rfl | hd
      · omega
      · exact h3 d hd
theorem maxN_le {p : List Api_Dep} {m : Int} (h0 : 0 ≤ m) (h : ∀ d, d ∈ p → d.Stamp.N ≤ m) : maxN p ≤ m := (maxN_go p 0).2.1 m h0 h
theorem maxN_ge {p : List Api_Dep} : 0 ≤ maxN p := (maxN_go p 0).1
theorem le_maxN {p : List Api_Dep} {d : Api_Dep} (h : d ∈ p) : d.Stamp.N ≤ maxN p := (maxN_go p 0).2.2 d h

end Go.Ark
