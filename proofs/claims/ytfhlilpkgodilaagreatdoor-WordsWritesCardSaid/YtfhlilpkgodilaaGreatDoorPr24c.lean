import Derived.Test.YtfhlilpkgodilaaGreatDoorPr24b
/- Plain laws: the document's answer for words: a line's words, numbers, texts. Conditions: none but those that stand in each law. -/
namespace Go.Ark
open Go Go.Ab Go.RowKit

def headOK : List UInt8 → Prop
  | [] => True
  | b :: _ => isBl b = false
theorem r24_skip {line : ByteArray} {again : Int × List ByteArray → Option (List ByteArray × Bool)} {v : Int × List ByteArray} (hs : line.size ≤ 100000) {X : List UInt8} (hX : headOK X) : ∀ (n : Nat) (pre done : List UInt8), bl line = done ++ (pre ++ X) → (∀ b, b ∈ pre → isBl b = true) → pre.length < n →
    loopF (ref24_Words_l3 line again v) n (done.length : Int) = ref24_Words_k2 line again v ((done.length + pre.length : Nat) : Int) := by
  intro n
  induction n with
  | zero => intro pre done _ _ h; omega
  | succ n ih =>
    intro pre done hb hp h
    cases pre with
    | nil =>
      rw [loopF, ref24_Words_l3]
      cases X with
      | nil =>
        have hz : line.size = done.length := by rw [← bl_len, hb]; simp
        rw [if_neg (by simp; omega)]
        simp
      | cons b X =>
        have hz : line.size = done.length + (X.length + 1) := by rw [← bl_len, hb]; simp
        have hc : sidx line (done.length : Int) = some b := by rw [sidx_bl, hb]; simp
        have hX : isBl b = false := hX
        rw [isBl_iff] at hX
        simp only [Bool.or_eq_false_iff, decide_eq_false_iff_not] at hX
        have e1 : ¬ (b.toNat : Int) = 32 := fun e => hX.1 (by rw [← UInt8.toNat_inj]; exact_mod_cast e)
        have e2 : ¬ (b.toNat : Int) = 9 := fun e => hX.2 (by rw [← UInt8.toNat_inj]; exact_mod_cast e)
        rw [if_pos (by simp; omega), hc, Option.bind_some, if_neg (by simpa using e1), Option.bind_some, if_neg (by simpa using e2)]
        simp
    | cons c pre =>
      have hz : line.size = done.length + (pre.length + 1 + X.length) := by rw [← bl_len, hb]; simp; omega
      have hc : sidx line (done.length : Int) = some c := by rw [sidx_bl, hb]; simp
      have hw : IntKind.wrap .i64 ((done.length : Int) + 1) = ((done ++ [c]).length : Int) := by rw [wrap64 (by omega) (by omega)]; simp
      have hcb := hp c (by simp)
      rw [isBl_iff] at hcb
      simp only [Bool.or_eq_true, decide_eq_true_eq] at hcb
      have hi := ih pre (done ++ [c]) (by rw [hb]; simp) (fun b hb' => hp b (by simp [hb'])) (by simp at h; omega)
      have he : ((done.length + (c :: pre).length : Nat) : Int) = (((done ++ [c]).length + pre.length : Nat) : Int) := by simp; omega
      rw [loopF, ref24_Words_l3, if_pos (by simp; omega), hc, Option.bind_some, he, ← hi, hw]
      rcases hcb with e | e
      · subst e
        rw [if_pos (by decide)]
      · subst e
        rw [if_neg (by decide), Option.bind_some, if_pos (by decide)]

theorem r24_words_loop {line : ByteArray} (hs : line.size ≤ 100000) : ∀ (n : Nat) (r : List (List UInt8 × Wd)) (done : List UInt8) (out : List ByteArray), bl line = done ++ wdsL r → wdsOK r → (∀ x, x ∈ r → wdR x.2) → r.length < n → out.length + r.length ≤ 100000 →
    loopF (ref24_Words_l1 line) n ((done.length : Int), out) = some (out ++ r.map (fun x => ofL (wdW x.2)), true) := by
  intro n
  induction n with
  | zero => intro r done out _ _ _ h; omega
  | succ n ih =>
    intro r done out hb hok hR h ho
    rw [loopF, ref24_Words_l1]
    cases r with
    | nil =>
      have hb' : bl line = done ++ ([] ++ []) := by rw [hb]; simp [wdsL]
      have hz : line.size = done.length := by rw [← bl_len, hb]; simp [wdsL]
      have := r24_skip (again := loopF (ref24_Words_l1 line) n) (v := ((done.length : Int), out)) hs (X := []) trivial FU [] done hb' (by simp) (by unfold FU; simp)
      refine Eq.trans this ?_
      unfold ref24_Words_k2
      rw [if_pos (by simp; omega)]
      simp
    | cons x r =>
      obtain ⟨p, w⟩ := x
      obtain ⟨hw1, hp, hne, hok2⟩ := hok
      obtain ⟨b, t, hwd, hbl, _⟩ := wdL_head hw1
      have hr := wds_ends hok2 hne
      have hX : headOK (wdL w ++ wdsL r) := by rw [hwd]; exact hbl
      have hz : line.size = done.length + (p.length + ((wdL w).length + (wdsL r).length)) := by
        rw [← bl_len, hb]; simp [wdsL]
      have hwl : 1 ≤ (wdL w).length := by rw [hwd]; simp
      have hol : out.length + (r.length + 1) ≤ 100000 := by simpa using ho
      have := r24_skip (again := loopF (ref24_Words_l1 line) n) (v := ((done.length : Int), out)) hs hX FU p done (by rw [hb]; rfl) hp (by unfold FU; omega)
      refine Eq.trans this ?_
      have hsub : ssub line ((done.length + p.length : Nat) : Int) (line.size : Int) = some (ofL (wdL w ++ wdsL r)) := by
        rw [ssub_from line _ (by omega), hb]
        congr 2
        rw [show wdsL ((p, w) :: r) = p ++ (wdL w ++ wdsL r) from rfl, ← List.append_assoc, List.drop_append_of_le_length (by simp), List.drop_of_length_le (by simp)]
        rfl
      have hone := r24_one_eq (rest := wdsL r) hw1 (hR (p, w) (by simp)) (by rw [List.length_append]; omega) hr
      unfold ref24_Words_k2
      rw [if_neg (by simp; omega), hsub, Option.bind_some, hone, Option.bind_some, if_neg (by rw [decide_eq_true_eq]; show ¬ ((wdL w).length : Int) = 0; omega), app16 (by show out.length + 1 ≤ 1000000; omega), Option.bind_some]
      dsimp only
      have hpos : IntKind.wrap .i64 (((done.length + p.length : Nat) : Int) + ((wdL w).length : Int)) = ((done ++ (p ++ wdL w)).length : Int) := by
        rw [wrap64 (by omega) (by omega)]
        simp only [List.length_append]
        omega
      rw [hpos, ih r (done ++ (p ++ wdL w)) _ (by rw [hb]; simp [wdsL]) hok2 (fun x hx => hR x (by simp [hx])) (by simp at h; omega) (by rw [List.length_append]; simp only [List.length_cons, List.length_nil]; omega)]
      simp

theorem r24_Words_eq {r : List (List UInt8 × Wd)} (hok : wdsOK r) (hR : ∀ x, x ∈ r → wdR x.2) (hs : (wdsL r).length ≤ 100000) (hr : r.length ≤ 100000) : ref24_Words (ofL (wdsL r)) = some (r.map (fun x => ofL (wdW x.2)), true) := by
  unfold ref24_Words
  have := r24_words_loop (line := ofL (wdsL r)) (by rw [ofL_size]; exact hs) FU r [] [] (by rw [bl_ofL]; rfl) hok hR (by unfold FU; omega) (by simpa using hr)
  simpa using this

/-! numbers, texts -/
theorem r24_num_all : ∀ n : Nat, n < 64 → ref24_number (ofL (smallL n)) = some (n : Int) ∧ (ref02_Runes (ofL (smallL n))).any (fun m => decide (0 ≤ m)) = true := by decide +kernel
theorem r24_name_all : ∀ k : Nat, k < 13 → 1 ≤ k → (ref02_Runes (ofL (nameL k))).any (fun m => decide (0 ≤ m)) = true := by decide +kernel
theorem r24_dash : ref24_number (ofL [45]) = some (-1) ∧ (ref02_Runes (ofL [45])).any (fun m => decide (0 ≤ m)) = true ∧ (ref02_Runes (ofL [47])).any (fun m => decide (0 ≤ m)) = true := by decide +kernel
theorem runeOK_of {l : List UInt8} (h : (ref02_Runes (ofL l)).any (fun m => decide (0 ≤ m)) = true) : runeOK l := by
  cases hr : ref02_Runes (ofL l) with
  | none => rw [hr] at h; cases h
  | some m => rw [hr] at h; exact ⟨m, by simpa using h, hr⟩
theorem r24_number_eq {n : Int} (h : okN n) : ref24_number (wt (numW n)) = some n := by
  have := (r24_num_all n.toNat (by have := h.2; have := h.1; omega)).1
  rw [show ((n.toNat : Nat) : Int) = n from Int.toNat_of_nonneg h.1] at this
  exact this
theorem numW_R {n : Int} (h : okN n) : wdR (numW n) := fun _ => runeOK_of (r24_num_all n.toNat (by have := h.2; have := h.1; omega)).2
theorem txtW_R (s : ByteArray) : wdR (txtW s) := fun h => by cases h
theorem r24_text_eq {s : ByteArray} (h : s.size ≤ 32) : ref24_text (wt (txtW s)) = some (s, true) := by
  have hz : (ofL (34 :: bl s)).size = s.size + 1 := by rw [ofL_size, List.length_cons, bl_len]
  have h0 : sidx (ofL (34 :: bl s)) 0 = some 34 := by
    show sidx _ ((0 : Nat) : Int) = _
    rw [sidx_bl, bl_ofL]
    rfl
  have h1 : ssub (ofL (34 :: bl s)) 1 ((ofL (34 :: bl s)).size : Int) = some s := by
    have := ssub_from (ofL (34 :: bl s)) 1 (by omega)
    rw [bl_ofL] at this
    refine Eq.trans this ?_
    rw [List.drop_succ_cons, List.drop_zero, ofL_bl]
  rw [show wt (txtW s) = ofL (34 :: bl s) from rfl]
  unfold ref24_text
  rw [if_pos (decide_eq_true (by rw [hz]; omega)), h0, Option.bind_some]
  unfold ref24_text_k1
  rw [if_pos (by decide), h1, Option.bind_some]
  unfold ref24_text_k2
  rw [decide_eq_true (by omega)]
end Go.Ark
