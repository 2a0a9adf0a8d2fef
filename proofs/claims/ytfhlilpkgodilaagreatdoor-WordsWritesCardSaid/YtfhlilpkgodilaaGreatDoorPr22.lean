import Derived.Test.YtfhlilpkgodilaaGreatDoorPscript2
/- Plain laws: the document's answers: which rows and which steps may be. Conditions: none but those that stand in each law. -/
namespace Go.Ark
open Go Go.Ab Go.RowKit

theorem ref06_RowCheck_eq {c : Api_Row} (h : RowS c) : ref06_RowCheck c = some (okRow c) := by
  have hw := ref02_Whole_eq h.ranges h.keys
  have h1 := h.parents; have h2 := h.owners
  have k3 : ref06_RowCheck_k3 c () = some (c.Parents.all parOK) := by
    unfold ref06_RowCheck_k3
    refine loopL (body := ref06_RowCheck_l5 c) c.Parents (fun (_ : Unit) i => i) (fun rest _ => some (rest.all parOK)) (fun _ _ => True) ?_ ?_ (s0 := ()) trivial (by omega)
    · intro again _ _
      unfold ref06_RowCheck_l5
      rw [if_neg (by simp)]
      rfl
    · intro again i _ hi _ hag
      unfold ref06_RowCheck_l5
      rw [if_pos (decide_eq_true (by omega)), idx_at hi, Option.bind_some]
      by_cases c1 : c.Parents[i] < -1
      · have e : parOK c.Parents[i] = false := by unfold parOK; rw [decide_eq_false (by omega)]; rfl
        rw [if_pos (decide_eq_true c1), List.all_cons, e]; rfl
      · rw [if_neg (by simpa using c1), Option.bind_some]
        by_cases c2 : 5 < c.Parents[i]
        · have e : parOK c.Parents[i] = false := by unfold parOK; rw [decide_eq_false (by omega : ¬ c.Parents[i] ≤ 5)]; simp
          rw [if_pos (decide_eq_true c2), List.all_cons, e]; rfl
        · have e : parOK c.Parents[i] = true := by unfold parOK; rw [decide_eq_true (by omega), decide_eq_true (by omega)]; rfl
          rw [if_neg (by simpa using c2), wrap64 (by omega) (by omega), List.all_cons, e, Bool.true_and]
          exact hag () trivial
  have k2 : ∀ n : Nat, ref06_RowCheck_k2 c ((2 : Int) ^ n) = some (c.Owners.all (ownOK n) && c.Parents.all parOK) := fun n => by
    unfold ref06_RowCheck_k2
    refine loopL (body := ref06_RowCheck_l6 c ((2 : Int) ^ n)) c.Owners (fun (_ : Unit) i => i) (fun rest _ => some (rest.all (ownOK n) && c.Parents.all parOK)) (fun _ _ => True) ?_ ?_ (s0 := ()) trivial (by omega)
    · intro again _ _
      unfold ref06_RowCheck_l6
      rw [if_neg (by simp), k3]
      rfl
    · intro again i _ hi _ hag
      unfold ref06_RowCheck_l6
      rw [if_pos (decide_eq_true (by omega)), idx_at hi, Option.bind_some]
      by_cases c1 : c.Owners[i] < 1
      · have e : ownOK n c.Owners[i] = false := by unfold ownOK; rw [decide_eq_false (by omega)]; rfl
        rw [if_pos (decide_eq_true c1), List.all_cons, e]; rfl
      · rw [if_neg (by simpa using c1), Option.bind_some]
        by_cases c2 : (2 : Int) ^ n ≤ c.Owners[i]
        · have e : ownOK n c.Owners[i] = false := by unfold ownOK; rw [decide_eq_false (by omega : ¬ c.Owners[i] < 2 ^ n)]; simp
          rw [if_pos (decide_eq_true c2), List.all_cons, e]; rfl
        · have e : ownOK n c.Owners[i] = true := by unfold ownOK; rw [decide_eq_true (by omega), decide_eq_true (by omega)]; rfl
          rw [if_neg (by simpa using c2), wrap64 (by omega) (by omega), List.all_cons, e, Bool.true_and]
          exact hag () trivial
  have l7 : c.Parents.length ≤ 6 → loopF (ref06_RowCheck_l7 c) FU (1, 0) = some (c.Owners.all (ownOK c.Parents.length) && c.Parents.all parOK) := fun h6 => by
    refine loopF_inv (body := ref06_RowCheck_l7 c) (fun v => ∃ j : Nat, v.2 = j ∧ j ≤ c.Parents.length ∧ v.1 = 2 ^ j) (fun v => (c.Parents.length - v.2).toNat) (fun _ => some (c.Owners.all (ownOK c.Parents.length) && c.Parents.all parOK)) ?_ FU _ ⟨0, rfl, by omega, rfl⟩ (by have := FU_big; simp only; omega)
    rintro again ⟨a, i⟩ ⟨j, g1, g2, g3⟩ hag
    simp only at g1 g2 g3
    subst g1 g3
    unfold ref06_RowCheck_l7
    by_cases c1 : (j : Int) < (c.Parents.length : Int)
    · have ha : (2 : Int) ^ j ≤ 64 ∧ 0 ≤ (2 : Int) ^ j := by
        have : j = 0 ∨ j = 1 ∨ j = 2 ∨ j = 3 ∨ j = 4 ∨ j = 5 ∨ j = 6 := by omega
        rcases this with rfl | rfl | rfl | rfl | rfl | rfl | rfl <;> decide
      rw [if_pos (decide_eq_true c1)]
      dsimp only
      rw [wrap64 (n := (2 : Int) ^ j * 2) (by omega) (by omega), wrap64 (by omega) (by omega)]
      exact hag _ ⟨j + 1, by simp, by omega, by simp only [Int.pow_succ]⟩ (by simp only; omega)
    · have e : j = c.Parents.length := by omega
      rw [if_neg (by simpa using c1)]
      dsimp only
      rw [e, k2]
  have k9 : ∀ y, ref06_RowCheck_k9 c y = some (!y && (decide (1 ≤ c.Parents.length ∧ c.Parents.length ≤ 6) && (c.Owners.all (ownOK c.Parents.length) && c.Parents.all parOK))) := fun y => by
    unfold ref06_RowCheck_k9 ref06_RowCheck_k1
    cases y with
    | true => rfl
    | false =>
      by_cases a1 : 1 ≤ c.Parents.length
      · rw [if_neg (by simp), if_neg (by simp; omega)]
        by_cases a2 : c.Parents.length ≤ 6
        · rw [if_neg (by simp; omega), l7 a2, decide_eq_true (show 1 ≤ c.Parents.length ∧ c.Parents.length ≤ 6 from ⟨a1, a2⟩)]; rfl
        · rw [if_pos (by simp; omega), decide_eq_false (show ¬ (1 ≤ c.Parents.length ∧ c.Parents.length ≤ 6) from fun q => a2 q.2)]; rfl
      · rw [if_neg (by simp), if_pos (by simp; omega), if_pos rfl, decide_eq_false (show ¬ (1 ≤ c.Parents.length ∧ c.Parents.length ≤ 6) from fun q => a1 q.1)]; rfl
  unfold ref06_RowCheck ref06_RowCheck_k8
  rw [hw, Option.bind_some]
  simp only [k9]
  unfold okRow
  cases hwp : wholeP c.Ranges with
  | false => simp
  | true =>
    rw [if_neg (by simp)]
    by_cases a3 : c.Ranges.length ≤ 8
    · rw [if_neg (by simp; omega)]
      congr 1
      rw [Bool.eq_iff_iff]
      simp only [Bool.and_eq_true, decide_eq_true_eq, Bool.not_not, List.all_eq_true]
      constructor
      · rintro ⟨b1, ⟨b2, b3⟩, b4, b5⟩
        exact ⟨⟨b2, b3, a3, by omega⟩, trivial, b4, b5⟩
      · rintro ⟨⟨b1, b2, b3, b4⟩, _, b5, b6⟩
        exact ⟨by omega, ⟨b1, b2⟩, b5, b6⟩
    · rw [if_pos (by simp; omega), show decide (1 ≤ c.Parents.length ∧ c.Parents.length ≤ 6 ∧ c.Ranges.length ≤ 8 ∧ c.Owners.length = c.Ranges.length) = false from decide_eq_false (fun q => a3 q.2.2.1)]; simp

theorem ref22_row_eq {c : Api_Row} (h : RowS c) : ref22_row c = some (emptyRow c || okRow c) := by
  have h1 := h.ranges; have h2 := h.owners; have h3 := h.parents
  have e := script_empty_eq h
  unfold script_empty at e
  unfold ref22_row
  rw [Option.some.inj e]
  cases emptyRow c with
  | true => rfl
  | false => rw [if_neg (by simp), ref06_RowCheck_eq h, Option.bind_some]; rfl

theorem ref22_Check_eq {o : Api_Op} (h : smallOp o) : ref22_Check o = some (okS o) := by
  have hk := h.keys
  have k6 : ∀ y, ref22_Check_k6 o y = some (y && decide (o.Keys.length ≤ 8)) := fun y => by
    unfold ref22_Check_k6
    cases y with
    | false => rfl
    | true =>
      rw [if_pos rfl]
      congr 1
      rw [Bool.true_and, Bool.eq_iff_iff, decide_eq_true_eq, decide_eq_true_eq]; omega
  have q1 : decide ((o.Value.size : Int) ≤ 32) = decide (o.Value.size ≤ 32) := by rw [Bool.eq_iff_iff, decide_eq_true_eq, decide_eq_true_eq]; omega
  have q2 : decide ((o.Key.size : Int) ≤ 32) = decide (o.Key.size ≤ 32) := by rw [Bool.eq_iff_iff, decide_eq_true_eq, decide_eq_true_eq]; omega
  have k5 : ∀ y, ref22_Check_k5 o y = some (y && (decide (o.Value.size ≤ 32) && decide (o.Keys.length ≤ 8))) := fun y => by
    unfold ref22_Check_k5
    rw [k6, k6, q1]
    cases y <;> rfl
  have k4 : ∀ y, ref22_Check_k4 o y = some (y && (decide (o.Key.size ≤ 32) && (decide (o.Value.size ≤ 32) && decide (o.Keys.length ≤ 8)))) := fun y => by
    unfold ref22_Check_k4
    rw [k5, k5, q2]
    cases y <;> rfl
  have k3 : ∀ y, ref22_Check_k3 o y = some (y && (decide (o.Kind ≤ 12) && (decide (o.Key.size ≤ 32) && (decide (o.Value.size ≤ 32) && decide (o.Keys.length ≤ 8))))) := fun y => by
    unfold ref22_Check_k3
    rw [k4, k4]
    cases y <;> rfl
  generalize hT : (decide (o.Kind ≤ 12) && (decide (o.Key.size ≤ 32) && (decide (o.Value.size ≤ 32) && decide (o.Keys.length ≤ 8)))) = T at k3
  have k2 : ref22_Check_k2 o () = some ((emptyRow o.Row || okRow o.Row) && (decide (1 ≤ o.Kind) && T)) := by
    unfold ref22_Check_k2
    rw [ref22_row_eq h.row, Option.bind_some, k3, k3]
    cases (emptyRow o.Row || okRow o.Row) <;> rfl
  have l7 : ref22_Check_k1 o () = some (!(o.Keys.any fun s => decide (32 < s.size)) && ((emptyRow o.Row || okRow o.Row) && (decide (1 ≤ o.Kind) && T))) := by
    unfold ref22_Check_k1
    refine loopL (body := ref22_Check_l7 o) o.Keys (fun (_ : Unit) i => i) (fun rest _ => some (!(rest.any fun s => decide (32 < s.size)) && ((emptyRow o.Row || okRow o.Row) && (decide (1 ≤ o.Kind) && T)))) (fun _ _ => True) ?_ ?_ (s0 := ()) trivial (by omega)
    · intro again _ _
      unfold ref22_Check_l7
      rw [if_neg (by simp), k2]
      rfl
    · intro again i _ hi _ hag
      unfold ref22_Check_l7
      rw [if_pos (decide_eq_true (by omega)), idx_at hi, Option.bind_some]
      by_cases c1 : 32 < o.Keys[i].size
      · rw [if_pos (decide_eq_true (by omega)), List.any_cons, decide_eq_true c1]; rfl
      · rw [if_neg (by rw [decide_eq_true_eq]; omega), wrap64 (by omega) (by omega), List.any_cons, decide_eq_false c1, Bool.false_or]
        exact hag () trivial
  have l8 : ref22_Check o = some (!([o.Client, o.Site, o.To, o.At, o.How].any wildN) && (!(o.Keys.any fun s => decide (32 < s.size)) && ((emptyRow o.Row || okRow o.Row) && (decide (1 ≤ o.Kind) && T)))) := by
    unfold ref22_Check
    refine loopL (body := ref22_Check_l8 o) [o.Client, o.Site, o.To, o.At, o.How] (fun (_ : Unit) i => i) (fun rest _ => some (!(rest.any wildN) && (!(o.Keys.any fun s => decide (32 < s.size)) && ((emptyRow o.Row || okRow o.Row) && (decide (1 ≤ o.Kind) && T))))) (fun _ _ => True) ?_ ?_ (s0 := ()) trivial (by simp)
    · intro again _ _
      unfold ref22_Check_l8
      rw [if_neg (by simp), l7]
      rfl
    · intro again i _ hi _ hag
      have hi5 : i < 5 := hi
      have ha : aidx 5 [o.Client, o.Site, o.To, o.At, o.How] (i : Int) = some ([o.Client, o.Site, o.To, o.At, o.How][i]) := by
        unfold aidx
        rw [if_pos ⟨by omega, by omega⟩, Int.toNat_natCast, List.getElem?_eq_getElem hi]
      generalize [o.Client, o.Site, o.To, o.At, o.How][i] = n at ha ⊢
      unfold ref22_Check_l8
      rw [if_pos (decide_eq_true (by omega)), ha, Option.bind_some]
      by_cases c1 : n < 0
      · have e : wildN n = true := by unfold wildN; rw [decide_eq_true c1]; rfl
        rw [if_pos (decide_eq_true c1), List.any_cons, e]; rfl
      · rw [if_neg (by simpa using c1), Option.bind_some]
        by_cases c2 : 63 < n
        · have e : wildN n = true := by unfold wildN; rw [decide_eq_true c2]; simp
          rw [if_pos (decide_eq_true c2), List.any_cons, e]; rfl
        · have e : wildN n = false := by unfold wildN; rw [decide_eq_false c1, decide_eq_false c2]; rfl
          rw [if_neg (by simpa using c2), wrap64 (by omega) (by omega), List.any_cons, e, Bool.false_or]
          exact hag () trivial
  rw [l8]
  congr 1
  unfold okS
  rw [← hT]
  have hw : (1 ≤ o.Kind ∧ o.Kind ≤ 12) → wildN o.Kind = false := fun hk => by
    unfold wildN; rw [decide_eq_false (by omega), decide_eq_false (by omega)]; rfl
  rw [Bool.eq_iff_iff]
  simp only [List.any_cons, List.any_nil, Bool.or_false, Bool.and_eq_true, Bool.not_eq_true', decide_eq_true_eq, Bool.or_eq_false_iff]
  constructor
  · rintro ⟨a1, a2, a3, a4, a5, a6, a7, a8⟩
    exact ⟨⟨a4, a5⟩, ⟨hw ⟨a4, a5⟩, a1⟩, a8, a2, a6, a7, a3⟩
  · rintro ⟨⟨a4, a5⟩, ⟨_, a1⟩, a8, a2, a6, a7, a3⟩
    exact ⟨a1, a2, a3, a4, a5, a6, a7, a8⟩
end Go.Ark
