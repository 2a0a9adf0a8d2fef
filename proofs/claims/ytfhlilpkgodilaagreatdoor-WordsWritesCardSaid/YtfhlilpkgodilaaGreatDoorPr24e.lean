import Derived.Test.YtfhlilpkgodilaaGreatDoorPr24d
/- Plain laws: the document's answer for words: steps out of words. Conditions: none but those that stand in each law. -/
namespace Go.Ark
open Go Go.Ab Go.RowKit

def r24_numbers (k : Nat) : Nat := [0, 1, 1, 1, 1, 2, 1, 1, 4, 2, 1, 0, 0].getD k 0
theorem r24_numbers_eq : ∀ k : Nat, k < 13 → aidx 13 ([0, 1, 1, 1, 1, 2, 1, 1, 4, 2, 1, 0, 0] : List Int) (k : Int) = some ((r24_numbers k : Nat) : Int) ∧ r24_numbers k ≤ 4 := by decide
theorem r24_names_cmp : ∀ k : Nat, k < 13 → ∀ i : Nat, i < 13 → 1 ≤ k → 1 ≤ i → ∃ x, aidx 13 ([ByteArray.empty, (ByteArray.mk #[112, 117, 116]), (ByteArray.mk #[100, 101, 108]), (ByteArray.mk #[103, 101, 116]), (ByteArray.mk #[108, 101, 97, 118, 101]), (ByteArray.mk #[101, 110, 116, 101, 114]), (ByteArray.mk #[98, 101, 103, 105, 110]), (ByteArray.mk #[101, 110, 100]), (ByteArray.mk #[112, 105, 99, 107]), (ByteArray.mk #[97, 103, 97, 105, 110]), (ByteArray.mk #[115, 116, 101, 112]), (ByteArray.mk #[99, 108, 101, 97, 110]), (ByteArray.mk #[114, 111, 119])]) (i : Int) = some x ∧ seq (ofL (nameL k)) x = decide (i = k) := by
  intro k hk i hi h1 h2
  refine ⟨ofL (nameL i), ?_, ?_⟩
  · have : ∀ k : Nat, k < 13 → aidx 13 ([ByteArray.empty, (ByteArray.mk #[112, 117, 116]), (ByteArray.mk #[100, 101, 108]), (ByteArray.mk #[103, 101, 116]), (ByteArray.mk #[108, 101, 97, 118, 101]), (ByteArray.mk #[101, 110, 116, 101, 114]), (ByteArray.mk #[98, 101, 103, 105, 110]), (ByteArray.mk #[101, 110, 100]), (ByteArray.mk #[112, 105, 99, 107]), (ByteArray.mk #[97, 103, 97, 105, 110]), (ByteArray.mk #[115, 116, 101, 112]), (ByteArray.mk #[99, 108, 101, 97, 110]), (ByteArray.mk #[114, 111, 119])]) (k : Int) = some (ofL (nameL k)) := by decide +kernel
    exact this i hi
  · have : ∀ k : Nat, k < 13 → ∀ i : Nat, i < 13 → (nameL k = nameL i ↔ i = k) := by decide
    rw [seq_eq, Bool.eq_iff_iff, decide_eq_true_eq, decide_eq_true_eq, ← this k hk i hi]
    exact ⟨fun h => by have := congrArg bl h; rwa [bl_ofL, bl_ofL] at this, fun h => by rw [h]⟩

theorem r24_nums_read {w : List ByteArray} {k : Nat} (hk : k < 13) (_hw : w.length ≤ 100000) {w0 : ByteArray} {rest : List ByteArray} : ∀ (n : Nat) (r done : List Int), w = w0 :: (wts ((done ++ r).map numW) ++ rest) → (done ++ r).length = r24_numbers k → (∀ x, x ∈ r → okN x) → r.length < n →
    loopF (ref24_step_l9 w (k : Int)) n ((done.length : Int), done ++ List.replicate (4 - done.length) 0) = ref24_step_k3 w (k : Int) ((done ++ r) ++ List.replicate (4 - (done ++ r).length) 0) := by
  intro n
  induction n with
  | zero => intro r done _ _ _ h; omega
  | succ n ih =>
    intro r done hwe hl hx h
    have hN := r24_numbers_eq k hk
    rw [loopF, ref24_step_l9, hN.1, Option.bind_some]
    cases r with
    | nil =>
      rw [List.append_nil] at hl
      rw [if_neg (by simp; omega), List.append_nil]
    | cons q r =>
      have hq := hx q (by simp)
      simp only [List.length_append, List.length_cons] at hl h
      have hwe2 : w = (w0 :: wts (done.map numW)) ++ wt (numW q) :: (wts (r.map numW) ++ rest) := by
        rw [hwe]; simp [wts]
      have i0 : idx w ((done.length + 1 : Nat) : Int) = some (wt (numW q)) := by
        rw [hwe2]
        exact idx_mid _ _ _ (by simp [wts])
      have hd4 : done.length < 4 := by omega
      have hrep : List.replicate (4 - done.length) (0 : Int) = 0 :: List.replicate (4 - (done.length + 1)) 0 := by
        rw [show 4 - done.length = (4 - (done.length + 1)) + 1 by omega, List.replicate_succ]
      have a0 : aidx 4 (done ++ List.replicate (4 - done.length) (0 : Int)) (done.length : Int) = some 0 := by
        unfold aidx
        rw [if_pos ⟨by omega, by omega⟩, Int.toNat_natCast, hrep]
        simp
      have a1 : asets 4 (done ++ List.replicate (4 - done.length) (0 : Int)) (done.length : Int) q = some ((done ++ [q]) ++ List.replicate (4 - (done ++ [q]).length) 0) := by
        unfold asets
        rw [if_pos ⟨by omega, by omega, by rw [List.length_append, List.length_replicate]; omega⟩, Int.toNat_natCast, hrep]
        simp
      have a2 : aidx 4 ((done ++ [q]) ++ List.replicate (4 - (done ++ [q]).length) (0 : Int)) (done.length : Int) = some q := by
        unfold aidx
        rw [if_pos ⟨by omega, by omega⟩, Int.toNat_natCast]
        simp
      have hw1 : IntKind.wrap .i64 (1 + (done.length : Int)) = ((done.length + 1 : Nat) : Int) := by rw [wrap64 (by omega) (by omega)]; omega
      have hw2 : IntKind.wrap .i64 ((done.length : Int) + 1) = ((done ++ [q]).length : Int) := by rw [wrap64 (by omega) (by omega)]; simp
      have hi := ih r (done ++ [q]) (by rw [hwe]; simp) (by simp only [List.length_append, List.length_cons, List.length_nil]; omega) (fun x hx' => hx x (by simp [hx'])) (by omega)
      rw [if_pos (by rw [decide_eq_true_eq]; show (done.length : Int) < _; omega)]
      dsimp only
      rw [hw1, i0, Option.bind_some, r24_number_eq hq, Option.bind_some, a0, Option.bind_some, a1, Option.bind_some, a2, Option.bind_some, if_neg (by rw [decide_eq_true_eq]; have := hq.1; omega), hw2, hi]
      simp

theorem r24_texts_read {w : List ByteArray} {y2 : Int} {y8 : List Int} (hw : w.length ≤ 100000) : ∀ (n : Nat) (r acc pre : List ByteArray), w = pre ++ wts (r.map txtW) → (∀ s, s ∈ r → s.size ≤ 32) → r.length < n → acc.length + r.length ≤ 1000 →
    loopF (ref24_step_l8 w y2 y8) n ((pre.length : Int), acc) = ref24_step_k4 y2 y8 (acc ++ r) := by
  intro n
  induction n with
  | zero => intro r acc pre _ _ h; omega
  | succ n ih =>
    intro r acc pre hpre hs h hl
    rw [loopF, ref24_step_l8]
    cases r with
    | nil =>
      have hz : w.length = pre.length := by rw [hpre]; simp [wts]
      rw [if_neg (by simp; omega)]
      simp
    | cons s r =>
      simp only [List.length_cons] at h hl
      have hpre2 : w = pre ++ wt (txtW s) :: wts (r.map txtW) := hpre
      have hz : w.length = pre.length + (r.length + 1) := by rw [hpre2]; simp [wts]
      have hi : idx w (pre.length : Int) = some (wt (txtW s)) := by rw [hpre2]; exact idx_mid _ _ _ rfl
      have hwr : IntKind.wrap .i64 ((pre.length : Int) + 1) = ((pre ++ [wt (txtW s)]).length : Int) := by rw [wrap64 (by omega) (by omega)]; simp
      rw [if_pos (by simp; omega), hi, Option.bind_some, r24_text_eq (hs s (by simp)), Option.bind_some, if_neg (by simp), app16 (by show acc.length + 1 ≤ 1000000; omega), Option.bind_some]
      dsimp only
      rw [hwr, ih r (acc ++ [s]) (pre ++ [wt (txtW s)]) (by rw [hpre2]; simp) (fun x hx => hs x (by simp [hx])) (by omega) (by simp only [List.length_append, List.length_cons, List.length_nil]; omega)]
      simp

/-- numbers, then texts -/
theorem r24_args {k : Nat} (hk : k < 13) {w0 : ByteArray} {ns : List Int} {ts : List ByteArray} (hn : ns.length = r24_numbers k) (hN : ∀ x, x ∈ ns → okN x) (ht : ts.length ≤ 8 ∧ ∀ s, s ∈ ts → s.size ≤ 32) :
    loopF (ref24_step_l9 (w0 :: (wts (ns.map numW) ++ wts (ts.map txtW))) (k : Int)) FU (0, List.replicate 4 0) = ref24_step_k4 (k : Int) (ns ++ List.replicate (4 - ns.length) 0) ts := by
  have hnk := r24_numbers_eq k hk
  have hwl : (w0 :: (wts (ns.map numW) ++ wts (ts.map txtW))).length ≤ 100000 := by simp [wts]; omega
  have e1 := r24_nums_read (w0 := w0) (rest := wts (ts.map txtW)) hk hwl FU ns [] rfl hn hN (by unfold FU; omega)
  refine Eq.trans e1 ?_
  unfold ref24_step_k3
  rw [hnk.1, Option.bind_some, wrap64 (by omega) (by omega)]
  have e2 := r24_texts_read (w := w0 :: (wts (ns.map numW) ++ wts (ts.map txtW))) (y2 := (k : Int)) (y8 := ([] ++ ns) ++ List.replicate (4 - ([] ++ ns).length) 0) hwl FU ts [] (w0 :: wts (ns.map numW)) (by simp) ht.2 (by unfold FU; omega) (by simp; omega)
  have hp : (1 : Int) + ((r24_numbers k : Nat) : Int) = ((w0 :: wts (ns.map numW)).length : Int) := by simp [wts]; omega
  rw [hp]
  refine Eq.trans e2 ?_
  simp
end Go.Ark
