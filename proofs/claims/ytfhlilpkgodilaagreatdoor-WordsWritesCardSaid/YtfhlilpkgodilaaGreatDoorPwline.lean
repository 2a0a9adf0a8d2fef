import Derived.Test.YtfhlilpkgodilaaGreatDoorPwords2
import Derived.Test.YtfhlilpkgodilaaGreatDoorProws
/- Plain laws: words: lines of steps, as bytes. Conditions: none but those that stand in each law. -/
namespace Go.Ark
open Go Go.Ab Go.RowKit

def sp32 : ByteArray := ByteArray.mk #[32]
theorem sp32_size : sp32.size = 1 := rfl
theorem bl_sp32 : bl sp32 = [32] := rfl
def spL (l : List ByteArray) : List UInt8 := l.flatMap fun s => 32 :: bl s

theorem strings_Join_sp {l : List ByteArray} (h2 : 2 ≤ l.length) (hl : l.length ≤ 100) (hs : ∀ s, s ∈ l → s.size ≤ 1000000) : strings_Join l sp32 = some (ofL (bl (l[0]'(by omega)) ++ spL (l.drop 1))) := by
  have hw1 : IntKind.wrap .i64 ((l.length : Int) - 1) = (l.length : Int) - 1 := wrap64 (by omega) (by omega)
  unfold strings_Join
  rw [if_neg (fun e => absurd (of_decide_eq_true e) (by omega)), if_neg (fun e => absurd (of_decide_eq_true e) (by omega)), if_pos (by decide)]
  have hdiv : 90000000000000000 ≤ Int.tdiv 9223372036854775807 ((l.length : Int) - 1) ∧ Int.tdiv 9223372036854775807 ((l.length : Int) - 1) ≤ 9223372036854775807 := by
    rw [Int.tdiv_eq_ediv_of_nonneg (by omega)]
    refine ⟨(Int.le_ediv_iff_mul_le (by omega)).2 ?_, ?_⟩
    · have : (90000000000000000 : Int) * ((l.length : Int) - 1) ≤ 90000000000000000 * 99 := Int.mul_le_mul_of_nonneg_left (by omega) (by omega)
      omega
    · have : (9223372036854775807 : Int) / ((l.length : Int) - 1) ≤ 9223372036854775807 := Int.ediv_le_self _ (by omega)
      exact this
  have hn0 : (!decide ((l.length : Int) - 1 = 0)) = true := by
    rw [decide_eq_false (by omega : ¬ (l.length : Int) - 1 = 0)]; rfl
  rw [hw1, hn0]
  simp only [chk, if_true]
  rw [wrap64 (by omega) (by omega), if_neg (fun e => absurd (of_decide_eq_true e) (by rw [sp32_size]; omega))]
  unfold strings_Join_k7
  have hk2 : ∀ y : Int, 0 ≤ y → y ≤ 140737488355328 → strings_Join_k2 l sp32 y = some (ofL (bl (l[0]'(by omega)) ++ spL (l.drop 1))) := by
    intro y hy0 hy1
    unfold strings_Join_k2
    simp only [chk, decide_eq_true (show 0 ≤ y ∧ y ≤ 140737488355328 from ⟨hy0, hy1⟩), if_true]
    have hi0 : idx l 0 = some (l[0]'(by omega)) := idx_at (i := 0) (by omega)
    have hb0 := hs _ (List.getElem_mem (show 0 < l.length by omega))
    rw [hi0]
    simp only [Option.bind_some]
    rw [bld_WriteString_eq (by simp; omega)]
    simp only [Option.bind_some]
    have hsub : sub l 1 (l.length : Int) = some (l.drop 1) := by
      unfold sub
      rw [if_pos ⟨by omega, by omega, by omega⟩]
      simp
    rw [hsub]
    simp only [Option.bind_some]
    refine (loopL (body := strings_Join_l4 sp32 (l.drop 1)) (l.drop 1) (fun (s : ByteArray) i => (i, s)) (fun rest s => some (s ++ ofL (spL rest))) (fun i s => s.size ≤ 1000001 * (i + 1)) ?_ ?_ (s0 := ByteArray.empty ++ l[0]'(by omega)) ?_ (by simp; omega)).trans ?_
    · intro again s _
      unfold strings_Join_l4 strings_Join_k3
      simp only [Int.lt_irrefl, decide_false, Bool.false_eq_true, if_false]
      simp only [bld_String, Option.bind_some, spL, List.flatMap_nil]
      rw [app_ofL, List.append_nil, ofL_bl]
    · intro again i s hi hI hag
      have hx := hs _ (List.mem_of_mem_drop (List.getElem_mem hi))
      have hi' : i < 100 := by rw [List.length_drop] at hi; omega
      unfold strings_Join_l4
      simp only
      rw [if_pos (decide_eq_true (by omega)), idx_at hi]
      simp only [Option.bind_some]
      rw [bld_WriteString_eq (by rw [sp32_size]; omega)]
      simp only [Option.bind_some]
      rw [bld_WriteString_eq (by rw [ByteArray.size_append, sp32_size]; omega), wrap64 (by omega) (by omega)]
      simp only [Option.bind_some]
      rw [hag _ (by rw [ByteArray.size_append, ByteArray.size_append, sp32_size]; omega)]
      exact congrArg some (bl_inj (by simp only [bl_app, bl_ofL, spL, List.flatMap_cons, List.append_assoc, bl_sp32, List.nil_append, List.cons_append]))
    · simp only [ByteArray.size_append, ByteArray.size_empty]
      omega
    · refine congrArg some (bl_inj ?_)
      rw [bl_app, bl_app, bl_ofL, bl_ofL]
      simp [bl]
  have hw2 : IntKind.wrap .i64 (0 + IntKind.wrap .i64 ((sp32.size : Int) * ((l.length : Int) - 1))) = (l.length : Int) - 1 := by
    have e : (sp32.size : Int) * ((l.length : Int) - 1) = (l.length : Int) - 1 := by rw [sp32_size]; simp
    rw [e, hw1, Int.zero_add, hw1]
  rw [hw1, hw2]
  unfold strings_Join_k1
  refine (loopL (body := strings_Join_l5 l sp32) l (fun (s : Int) i => (s, i)) (fun _ _ => some (ofL (bl (l[0]'(by omega)) ++ spL (l.drop 1)))) (fun i s => 0 ≤ s ∧ s ≤ 1000000 * (i : Int) + 100) ?_ ?_ (s0 := (l.length : Int) - 1) ⟨by omega, by omega⟩ (by omega))
  · intro again s hs'
    unfold strings_Join_l5
    simp only [Int.lt_irrefl, decide_false, Bool.false_eq_true, if_false]
    exact hk2 s hs'.1 (by omega)
  · intro again i s hi hI hag
    have hx := hs _ (List.getElem_mem hi)
    unfold strings_Join_l5 strings_Join_k6
    simp only
    rw [if_pos (decide_eq_true (by omega)), idx_at hi]
    simp only [Option.bind_some]
    rw [wrap64 (n := 9223372036854775807 - s) (by omega) (by omega), if_neg (fun e => absurd (of_decide_eq_true e) (by omega)), wrap64 (n := s + (l[i].size : Int)) (by omega) (by omega), wrap64 (n := (i : Int) + 1) (by omega) (by omega)]
    exact hag _ ⟨by omega, by omega⟩

theorem words_put_eq {s : ByteArray} {ws : List ByteArray} (h1 : 1 ≤ ws.length) (hl : ws.length ≤ 50) (h0 : s.size ≤ 1000000) (hs : ∀ w, w ∈ ws → w.size ≤ 1000000) : words_put s ws = some (ofL (bl s ++ spL ws)) := by
  unfold words_put
  rw [app16 (by simp; omega)]
  simp only [Option.bind_some]
  have := strings_Join_sp (l := [s] ++ ws) (by simp; omega) (by simp; omega) (fun x hx => by
    rcases List.mem_cons.1 hx with rfl | hx
    · exact h0
    · exact hs x hx)
  rw [show ByteArray.mk #[32] = sp32 from rfl, this]
  rfl

/-! numbers -/
def smallL (n : Nat) : List UInt8 := if n < 10 then [UInt8.ofNat (48 + n)] else [UInt8.ofNat (48 + n / 10), UInt8.ofNat (48 + n % 10)]
theorem small_all : ∀ n : Nat, n < 64 → words_small (n : Int) = some (ofL (smallL n)) ∧ words_decimal (ofL (smallL n)) = some ((n : Int), true) ∧ (smallL n ≠ [] ∧ (∀ b, b ∈ smallL n → grB b = true)) ∧ smallL n ≠ [45] ∧ smallL n ≠ [47] := by decide +kernel
def okN (n : Int) : Prop := 0 ≤ n ∧ n ≤ 63
def numW (n : Int) : Wd := ⟨false, smallL n.toNat⟩
theorem words_small_eq {n : Int} (h : okN n) : words_small n = some (ofL (wdL (numW n))) := by
  have := (small_all n.toNat (by have := h.2; have := h.1; omega)).1
  rw [show ((n.toNat : Nat) : Int) = n from Int.toNat_of_nonneg h.1] at this
  exact this
theorem decimal_eq {n : Int} (h : okN n) : words_decimal (ofL (wdW (numW n))) = some (n, true) := by
  have := (small_all n.toNat (by have := h.2; have := h.1; omega)).2.1
  rw [show ((n.toNat : Nat) : Int) = n from Int.toNat_of_nonneg h.1] at this
  exact this
theorem numW_ok {n : Int} (h : okN n) : wdOK (numW n) := fun _ => (small_all n.toNat (by have := h.2; have := h.1; omega)).2.2.1
def txtW (s : ByteArray) : Wd := ⟨true, bl s⟩
theorem txtW_ok (s : ByteArray) : wdOK (txtW s) := fun h => by cases h
theorem words_Quote_w {s : ByteArray} (hs : s.size ≤ 1000) : words_Quote s = some (ofL (wdL (txtW s))) := words_Quote_eq hs
end Go.Ark
