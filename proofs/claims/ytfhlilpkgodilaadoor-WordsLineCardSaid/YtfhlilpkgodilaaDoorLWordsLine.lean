/- WordsLine: ten numbers of lines, eight wrong ones: all are tried by the kernel. Conditions: none. -/
import Derived.Test.YtfhlilpkgodilaaDoorFlaw24
import Derived.Test.YtfhlilpkgodilaaDoorP0
import Derived.KernelRfl
namespace Go.Ark
open Go Go.Ab

def tenOf (n : Int) : Int := Int.tmod (IntKind.wrap .i64 ((Int.tmod n 10) + 10)) 10
def eightOf (n : Int) : Int := IntKind.wrap .i64 (BitVec.ofInt (IntKind.bits .i64) n &&& BitVec.ofInt (IntKind.bits .i64) 7).toNat

theorem tenOf_mem (n : Int) : ∃ k, k < 10 ∧ tenOf n = ((k : Nat) : Int) := by
  have h1 : Int.tmod n 10 < 10 := Int.tmod_lt_of_pos n (by decide)
  have h2 : -10 < Int.tmod n 10 := by
    have := Int.lt_tmod_of_pos n (b := 10) (by decide)
    omega
  have hw : IntKind.wrap .i64 ((Int.tmod n 10) + 10) = Int.tmod n 10 + 10 := by
    unfold IntKind.wrap
    simp [IntKind.signed, IntKind.bits]
    omega
  have h3 : 0 ≤ Int.tmod n 10 + 10 := by omega
  unfold tenOf
  rw [hw, Int.tmod_eq_emod_of_nonneg h3]
  exact ⟨((Int.tmod n 10 + 10) % 10).toNat, by omega, by omega⟩

theorem eightOf_mem (n : Int) : ∃ k, k < 8 ∧ eightOf n = ((k : Nat) : Int) := by
  have h : (BitVec.ofInt (IntKind.bits .i64) n &&& BitVec.ofInt (IntKind.bits .i64) 7).toNat < 8 := by
    rw [BitVec.toNat_and]
    have : (BitVec.ofInt (IntKind.bits .i64) 7).toNat = 7 := by decide
    rw [this]
    exact Nat.lt_succ_of_le Nat.and_le_right
  refine ⟨_, h, ?_⟩
  unfold eightOf IntKind.wrap
  simp only [IntKind.signed]
  generalize (BitVec.ofInt (IntKind.bits .i64) n &&& BitVec.ofInt (IntKind.bits .i64) 7).toNat = m at h ⊢
  simp [IntKind.bits]
  omega

theorem tenOf_small : ∀ k, k < 10 → tenOf ((k : Nat) : Int) = k := by decide
theorem eightOf_small : ∀ k, k < 8 → eightOf ((k : Nat) : Int) = k := by decide

theorem wordsLine_small (n w : Int) (k j : Nat) (hk : k < 10) (hj : j < 8) (h1 : tenOf n = k) (h2 : eightOf w = j) : law24_WordsLine n w = law24_WordsLine k j := by
  have e1 := tenOf_small k hk
  have e2 := eightOf_small j hj
  unfold tenOf at h1 e1
  unfold eightOf at h2 e2
  unfold law24_WordsLine law24_WordsLine_l5 law24_WordsLine_k7 law24_WordsLine_k6 law24_WordsLine_k1 law24_WordsLine_k2 law24_WordsLine_k3
  simp only [h1, h2, e1, e2]

theorem wordsLine_0 : ((List.range 8).all fun j => decide (law24_WordsLine 0 ((j : Nat) : Int) = some true)) = true := by kernel_rfl
theorem wordsLine_1 : ((List.range 8).all fun j => decide (law24_WordsLine 1 ((j : Nat) : Int) = some true)) = true := by kernel_rfl
theorem wordsLine_2 : ((List.range 8).all fun j => decide (law24_WordsLine 2 ((j : Nat) : Int) = some true)) = true := by kernel_rfl
theorem wordsLine_3 : ((List.range 8).all fun j => decide (law24_WordsLine 3 ((j : Nat) : Int) = some true)) = true := by kernel_rfl
theorem wordsLine_4 : ((List.range 8).all fun j => decide (law24_WordsLine 4 ((j : Nat) : Int) = some true)) = true := by kernel_rfl
theorem wordsLine_5 : ((List.range 8).all fun j => decide (law24_WordsLine 5 ((j : Nat) : Int) = some true)) = true := by kernel_rfl
theorem wordsLine_6 : ((List.range 8).all fun j => decide (law24_WordsLine 6 ((j : Nat) : Int) = some true)) = true := by kernel_rfl
theorem wordsLine_7 : ((List.range 8).all fun j => decide (law24_WordsLine 7 ((j : Nat) : Int) = some true)) = true := by kernel_rfl
theorem wordsLine_8 : ((List.range 8).all fun j => decide (law24_WordsLine 8 ((j : Nat) : Int) = some true)) = true := by kernel_rfl
theorem wordsLine_9 : ((List.range 8).all fun j => decide (law24_WordsLine 9 ((j : Nat) : Int) = some true)) = true := by kernel_rfl
theorem wordsLine_all (k : Nat) (hk : k < 10) (j : Nat) (hj : j < 8) : law24_WordsLine ((k : Nat) : Int) ((j : Nat) : Int) = some true := by
  have h : ((List.range 8).all fun j => decide (law24_WordsLine ((k : Nat) : Int) ((j : Nat) : Int) = some true)) = true := by
    match k, hk with
    | 0, _ => exact wordsLine_0
    | 1, _ => exact wordsLine_1
    | 2, _ => exact wordsLine_2
    | 3, _ => exact wordsLine_3
    | 4, _ => exact wordsLine_4
    | 5, _ => exact wordsLine_5
    | 6, _ => exact wordsLine_6
    | 7, _ => exact wordsLine_7
    | 8, _ => exact wordsLine_8
    | 9, _ => exact wordsLine_9
  exact of_decide_eq_true (List.all_eq_true.1 h j (List.mem_range.2 hj))

theorem law24_WordsLine_plain (n_0 : Int) (which_1 : Int) (_h0 : (Lit.int .i64 n_0).wf = true) (_h1 : (Lit.int .i64 which_1).wf = true) : law24_WordsLine n_0 which_1 = some true := by
  obtain ⟨k, hk, h1⟩ := tenOf_mem n_0
  obtain ⟨j, hj, h2⟩ := eightOf_mem which_1
  rw [wordsLine_small n_0 which_1 k j hk hj h1 h2, wordsLine_all k hk j hj]
end Go.Ark
