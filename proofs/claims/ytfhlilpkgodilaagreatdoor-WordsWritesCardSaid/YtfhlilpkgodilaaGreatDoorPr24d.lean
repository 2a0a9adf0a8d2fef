import Derived.Test.YtfhlilpkgodilaaGreatDoorPr24c
import Derived.Test.YtfhlilpkgodilaaGreatDoorPr22
/- Plain laws: the document's answer for words: rows out of words. Conditions: none but those that stand in each law. -/
namespace Go.Ark
open Go Go.Ab Go.RowKit

theorem idx_mid {α : Type} (a : List α) (x : α) (b : List α) {i : Int} (h : i = (a.length : Nat)) : idx (a ++ x :: b) i = some x := by
  subst h
  rw [idx_at (by simp)]
  simp
theorem r24_pars_read {w : List ByteArray} {y1 : Int × List Api_Range × List Int} (hw : w.length ≤ 100000) : ∀ (n : Nat) (r ps : List Int) (pre : List ByteArray), w = pre ++ wts (r.map parW) → (∀ p, p ∈ r → parOK p = true) → r.length < n → ps.length + r.length ≤ 1000 →
    loopF (ref24_row_l3 w y1) n ((pre.length : Int), ps) = ref24_row_k2 y1 (ps ++ r) := by
  intro n
  induction n with
  | zero => intro r ps pre _ _ h; omega
  | succ n ih =>
    intro r ps pre hpre hp h hl
    rw [loopF, ref24_row_l3]
    cases r with
    | nil =>
      have hz : w.length = pre.length := by rw [hpre]; simp [wts]
      rw [if_neg (by simp; omega)]
      simp
    | cons p r =>
      have hm := hp p (by simp)
      simp only [parOK, Bool.and_eq_true, decide_eq_true_eq] at hm
      simp only [List.length_cons] at h hl
      have hpre2 : w = pre ++ wt (parW p) :: wts (r.map parW) := hpre
      have hz : w.length = pre.length + (r.length + 1) := by rw [hpre2]; simp [wts]
      have hi : idx w (pre.length : Int) = some (wt (parW p)) := by rw [hpre2]; exact idx_mid _ _ _ rfl
      have hstep : ∀ q : Int, q = p → ref24_row_k4 (loopF (ref24_row_l3 w y1) n) ((pre.length : Int), ps) q false = ref24_row_k2 y1 (ps ++ p :: r) := fun q hq => by
        subst hq
        unfold ref24_row_k4
        rw [if_neg (by simp), app8 (by show ps.length + 1 ≤ 1000000; omega), Option.bind_some]
        dsimp only
        have hwr : IntKind.wrap .i64 ((pre.length : Int) + 1) = ((pre ++ [wt (parW q)]).length : Int) := by rw [wrap64 (by omega) (by omega)]; simp
        rw [hwr, ih r (ps ++ [q]) (pre ++ [wt (parW q)]) (by rw [hpre2]; simp) (fun x hx => hp x (by simp [hx])) (by omega) (by rw [List.length_append]; simp only [List.length_cons, List.length_nil]; omega)]
        simp
      rw [if_pos (by simp; omega), hi, Option.bind_some]
      by_cases hn : p < 0
      · have e : p = -1 := by omega
        have hx : wt (parW p) = ofL [45] := by rw [show parW p = ⟨false, [45]⟩ from if_pos hn]; rfl
        rw [hx, r24_dash.1, Option.bind_some, if_pos (by decide), Option.bind_some, seq_eq, show (!decide (ofL [45] = ByteArray.mk #[45])) = false from (congrArg Bool.not (decide_eq_true (show ofL [45] = ByteArray.mk #[45] from rfl)))]
        exact hstep (-1) e.symm
      · have hok : okN p := ⟨by omega, by omega⟩
        have e : parW p = numW p := if_neg hn
        rw [e, r24_number_eq hok, Option.bind_some, if_neg (by simpa using hn)]
        exact hstep p rfl

theorem r24_owns_read {ps : List Int} (hps : ps.length ≤ 100) {w : List ByteArray} (hwl : w.length ≤ 100000) : ∀ (n : Nat) (z : List (Int × Api_Range)) (b : Bool) (a : ByteArray) (R : List Api_Range) (O : List Int) (pre : List ByteArray), w = pre ++ wts (ownWds z ++ slash :: ps.map parW) → z ≠ [] → wholeG b a (z.map (·.2)) = true → (∀ x, x ∈ z → okN x.1 ∧ x.2.To.size ≤ 32) →
    z.length < n → R.length + z.length ≤ 1000 → O.length + z.length ≤ 1000 →
    ∃ pre2 : List ByteArray, w = pre2 ++ wts (ps.map parW) ∧ loopF (ref24_row_l5 w) n ((pre.length : Int), a, R, O) = ref24_row_k1 w ((pre2.length : Int), R ++ z.map (·.2), O ++ z.map (·.1)) := by
  intro n
  induction n with
  | zero => intro z _ _ _ _ _ _ _ _ _ h; omega
  | succ n IH =>
  intro z b a R O pre hpre hne0 hw hx h hR hO
  match z, hpre, hne0, hw, hx, h, hR, hO with
  | [], _, hne0, _, _, _, _, _ => exact absurd rfl hne0
  | [(o, r)], hpre, _, hw, hx, _, hR, hO =>
    obtain ⟨ho, _⟩ := hx (o, r) (by simp)
    have ho : okN o := ho
    simp only [List.map_cons, List.map_nil, wholeG_cons, wholeG_nil, Bool.and_eq_true, decide_eq_true_eq] at hw
    obtain ⟨_, hf, _, _, ht⟩ := hw
    simp only [List.length_cons, List.length_nil] at hR hO
    have hr : Api_Range.mk a ByteArray.empty = r := by cases r; simp_all
    have hpre2 : w = pre ++ wt (numW o) :: (ofL [47] :: wts (ps.map parW)) := hpre
    have hz : w.length = pre.length + (ps.length + 2) := by rw [hpre2]; simp [wts]
    have i0 : idx w (pre.length : Int) = some (wt (numW o)) := by rw [hpre2]; exact idx_mid _ _ _ rfl
    have hw1 : IntKind.wrap .i64 ((pre.length : Int) + 1) = ((pre.length + 1 : Nat) : Int) := by rw [wrap64 (by omega) (by omega)]; simp
    have hw2 : IntKind.wrap .i64 (((pre.length + 1 : Nat) : Int) + 1) = (((pre ++ [wt (numW o), ofL [47]]).length : Nat) : Int) := by rw [wrap64 (by omega) (by omega)]; simp; omega
    have i1 : idx w ((pre.length + 1 : Nat) : Int) = some (ofL [47]) := by
      rw [hpre2, show pre ++ wt (numW o) :: (ofL [47] :: wts (ps.map parW)) = (pre ++ [wt (numW o)]) ++ ofL [47] :: wts (ps.map parW) by simp]
      exact idx_mid _ _ _ (by simp)
    refine ⟨pre ++ [wt (numW o), ofL [47]], by rw [hpre2]; simp, ?_⟩
    rw [loopF, ref24_row_l5]
    dsimp only
    rw [if_neg (by rw [decide_eq_true_eq]; omega), i0, Option.bind_some, r24_number_eq ho, Option.bind_some, decide_eq_false (by have := ho.1; omega : ¬ o < 0)]
    unfold ref24_row_k6
    rw [if_neg (by simp)]
    dsimp only
    rw [i0, Option.bind_some, r24_number_eq ho, Option.bind_some, app8 (by show O.length + 1 ≤ 1000000; omega), Option.bind_some, hw1, if_neg (by rw [decide_eq_true_eq]; omega), i1, Option.bind_some, seq_eq, if_pos (by rw [decide_eq_true_eq]; rfl), app32 (by show R.length + 1 ≤ 1000000; omega), Option.bind_some, hw2, hr]
    simp only [List.map_cons, List.map_nil]
  | (o, r) :: x :: z, hpre, _, hw, hx, h, hR, hO =>
    obtain ⟨ho, ht⟩ := hx (o, r) (by simp)
    have ho : okN o := ho
    rw [List.map_cons, wholeG_cons] at hw
    simp only [Bool.and_eq_true, decide_eq_true_eq] at hw
    obtain ⟨_, hf, _, hw⟩ := hw
    simp only [List.length_cons] at h hR hO
    have ht : r.To.size ≤ 32 := ht
    have hr : Api_Range.mk a r.To = r := by cases r; simp_all
    have hpre2 : w = pre ++ wt (numW o) :: (wt (txtW r.To) :: wts (ownWds (x :: z) ++ slash :: ps.map parW)) := hpre
    have hz : pre.length + 2 ≤ w.length := by rw [hpre2]; simp
    have i0 : idx w (pre.length : Int) = some (wt (numW o)) := by rw [hpre2]; exact idx_mid _ _ _ rfl
    have hw1 : IntKind.wrap .i64 ((pre.length : Int) + 1) = ((pre.length + 1 : Nat) : Int) := by rw [wrap64 (by omega) (by omega)]; simp
    have hw2 : IntKind.wrap .i64 (((pre.length + 1 : Nat) : Int) + 1) = (((pre ++ [wt (numW o), wt (txtW r.To)]).length : Nat) : Int) := by rw [wrap64 (by omega) (by omega)]; simp; omega
    have i1 : idx w ((pre.length + 1 : Nat) : Int) = some (wt (txtW r.To)) := by
      rw [hpre2, show pre ++ wt (numW o) :: (wt (txtW r.To) :: wts (ownWds (x :: z) ++ slash :: ps.map parW)) = (pre ++ [wt (numW o)]) ++ wt (txtW r.To) :: wts (ownWds (x :: z) ++ slash :: ps.map parW) by simp]
      exact idx_mid _ _ _ (by simp)
    have hne : ¬ wt (txtW r.To) = ByteArray.mk #[47] := fun c => by
      have := congrArg bl c
      rw [wt, bl_ofL] at this
      exact absurd (List.cons.inj this).1 (by decide)
    obtain ⟨pre3, hp3, ih⟩ := IH (x :: z) true r.To (R ++ [r]) (O ++ [o]) (pre ++ [wt (numW o), wt (txtW r.To)]) (by rw [hpre2]; simp) (by simp) hw (fun y hy => hx y (List.mem_cons_of_mem _ hy)) (by simp only [List.length_cons]; omega) (by simp only [List.length_append, List.length_cons, List.length_nil]; omega) (by simp only [List.length_append, List.length_cons, List.length_nil]; omega)
    refine ⟨pre3, hp3, ?_⟩
    rw [loopF, ref24_row_l5]
    dsimp only
    rw [if_neg (by rw [decide_eq_true_eq]; omega), i0, Option.bind_some, r24_number_eq ho, Option.bind_some, decide_eq_false (by have := ho.1; omega : ¬ o < 0)]
    unfold ref24_row_k6
    rw [if_neg (by simp)]
    dsimp only
    rw [i0, Option.bind_some, r24_number_eq ho, Option.bind_some, app8 (by show O.length + 1 ≤ 1000000; omega), Option.bind_some, hw1, if_neg (by rw [decide_eq_true_eq]; omega), i1, Option.bind_some, seq_eq, if_neg (by simpa using hne), Option.bind_some, r24_text_eq ht, Option.bind_some, if_neg (by simp), app32 (by show R.length + 1 ≤ 1000000; omega), Option.bind_some, hw2, hr, ih]
    simp only [List.map_cons, List.append_assoc, List.cons_append, List.nil_append]

theorem r24_row_read {c : Api_Row} (h : okRow c = true) : ref24_row (wts (rowWds c)) = some ⟨⟨12, 0, 0, 0, 0, 0, ByteArray.empty, ByteArray.empty, [], c⟩, true⟩ := by
  obtain ⟨⟨h1, h2, h3, h4⟩, h5, _, _⟩ := okRow_iff.1 h
  have hn := okRow_ne h
  have hzl : (c.Owners.zip c.Ranges).length = c.Ranges.length := by rw [List.length_zip]; omega
  have hz0 : c.Owners.zip c.Ranges ≠ [] := fun e => by rw [e] at hzl; simp at hzl; omega
  have hrl := (rowWds_sz h).2
  have hwl : (wts (rowWds c)).length ≤ 100000 := by unfold wts; rw [List.length_map]; omega
  unfold ref24_row
  obtain ⟨pre2, hp2, e1⟩ := r24_owns_read (ps := c.Parents) (by omega) hwl FU (c.Owners.zip c.Ranges) false ByteArray.empty [] [] [] rfl hz0 (by rw [zip_snd h4]; exact h5) (zip_ok h) (by unfold FU; omega) (by simp; omega) (by simp; omega)
  rw [zip_fst h4, zip_snd h4] at e1
  refine Eq.trans e1 ?_
  unfold ref24_row_k1
  have e2 := r24_pars_read (y1 := ((pre2.length : Int), [] ++ c.Ranges, [] ++ c.Owners)) hwl FU c.Parents [] pre2 hp2 (parOK_of h) (by unfold FU; omega) (by simp; omega)
  refine Eq.trans e2 ?_
  unfold ref24_row_k2
  have hc : Api_Row.mk ([] ++ c.Ranges) ([] ++ c.Owners) ([] ++ c.Parents) = c := by cases c; rfl
  simp only [hc]
  rw [ref06_RowCheck_eq (okRow_S h), Option.bind_some, h]
end Go.Ark
