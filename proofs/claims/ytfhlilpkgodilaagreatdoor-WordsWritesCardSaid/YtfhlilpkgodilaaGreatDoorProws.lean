import Derived.Test.YtfhlilpkgodilaaGreatDoorPbytes
import Derived.Test.YtfhlilpkgodilaaGreatDoorFA
/- Plain laws: rows: which are whole, which are written, their bytes. Conditions: none but those that stand in each law. -/
namespace Go.Ark
open Go Go.Ab Go.RowKit

/-! ### ranges -/
def goodR (r : Api_Range) : Bool := (decide (r.From = ByteArray.empty) || okKey r.From) && ((decide (r.To = ByteArray.empty) || okKey r.To) && (decide (r.To = ByteArray.empty) || slt r.From r.To))
theorem keys_Good_eq {r : Api_Range} (h1 : r.From.size ≤ 9223372036854775807) (h2 : r.To.size ≤ 9223372036854775807) : keys_Good r = some (goodR r) := by
  have hg : ∀ s : ByteArray, s.size ≤ 9223372036854775807 → keys_Good_1 s = some (decide (s = ByteArray.empty) || okKey s) := fun s hs => by
    unfold keys_Good_1
    rw [seq_eq, keys_Check_eq hs]
    cases decide (s = ByteArray.empty) <;> simp
  unfold keys_Good
  rw [hg _ h1, hg _ h2]
  unfold keys_Good_k1 goodR
  rw [seq_eq]
  simp only [Option.bind_some]
  cases (decide (r.From = ByteArray.empty) || okKey r.From) <;> cases (decide (r.To = ByteArray.empty) || okKey r.To) <;> cases decide (r.To = ByteArray.empty) <;> simp
theorem ref02_Good_eq {r : Api_Range} (h1 : r.From.size ≤ 9223372036854775807) (h2 : r.To.size ≤ 9223372036854775807) : ref02_Good r = some (goodR r) := by
  unfold ref02_Good
  rw [ref02_Check_eq h1, ref02_Check_eq h2]
  unfold ref02_Good_k1 ref02_Good_k2 goodR
  simp only [seq_eq, Option.bind_some]
  cases decide (r.From = ByteArray.empty) <;> cases okKey r.From <;> cases decide (r.To = ByteArray.empty) <;> cases okKey r.To <;> simp

def wholeG : Bool → ByteArray → List Api_Range → Bool
  | later, at_, [] => later && decide (at_ = ByteArray.empty)
  | later, at_, r :: l => goodR r && (decide (r.From = at_) && (!(later && decide (at_ = ByteArray.empty)) && wholeG true r.To l))
def wholeP (l : List Api_Range) : Bool := wholeG false ByteArray.empty l
def smallR (l : List Api_Range) : Prop := ∀ r, r ∈ l → r.From.size ≤ 9223372036854775807 ∧ r.To.size ≤ 9223372036854775807
theorem wholeG_nil (b : Bool) (a : ByteArray) : wholeG b a [] = (b && decide (a = ByteArray.empty)) := rfl
theorem wholeG_cons (b : Bool) (a : ByteArray) (r : Api_Range) (l : List Api_Range) : wholeG b a (r :: l) = (goodR r && (decide (r.From = a) && (!(b && decide (a = ByteArray.empty)) && wholeG true r.To l))) := rfl
theorem keys_Whole_eq {l : List Api_Range} (hl : l.length ≤ 1000000) (hs : smallR l) : keys_Whole l = some (wholeP l) := by
  unfold keys_Whole
  refine loopF_inv (fun (v : ByteArray × Int) => 0 ≤ v.2 ∧ v.2 ≤ (l.length : Int) ∧ wholeP l = wholeG (decide (0 < v.2)) v.1 (l.drop v.2.toNat)) (fun v => ((l.length : Int) - v.2).toNat) (fun _ => some (wholeP l)) ?_ FU (ByteArray.empty, 0) ⟨Int.le_refl _, by simp, by simp [wholeP]⟩ (by have := FU_big; simp only; omega)
  rintro again ⟨at_, v⟩ ⟨h1, h2, h3⟩ hag
  simp only at h1 h2 h3
  obtain ⟨i, rfl⟩ : ∃ i : Nat, v = i := ⟨v.toNat, by omega⟩
  simp only [Int.toNat_natCast] at h3
  unfold keys_Whole_l2
  simp only
  by_cases c : (i : Int) < (l.length : Int)
  · have hi : i < l.length := by omega
    obtain ⟨q1, q2⟩ := hs _ (List.getElem_mem hi)
    rw [List.drop_eq_getElem_cons hi, wholeG_cons] at h3
    rw [if_pos (by simpa using c), idx_at hi, Option.bind_some, keys_Good_eq q1 q2, Option.bind_some]
    unfold keys_Whole_k4 keys_Whole_k3
    simp only [seq_eq]
    cases hg : goodR l[i] with
    | false => rw [hg, Bool.false_and] at h3; simp [h3]
    | true =>
      rw [hg, Bool.true_and] at h3
      simp only [Bool.not_true, Bool.false_eq_true, if_false]
      cases hf : decide (l[i].From = at_) with
      | false => rw [hf, Bool.false_and] at h3; simp [h3]
      | true =>
        rw [hf, Bool.true_and] at h3
        simp only [Bool.not_true, Bool.false_eq_true, if_false]
        have hgo : wholeP l = wholeG true l[i].To (l.drop (i + 1)) → again (l[i].To, IntKind.wrap .i64 ((i : Int) + 1)) = some (wholeP l) := fun h => by
          rw [wrap64 (by omega) (by omega)]
          refine hag _ ⟨by simp only; omega, by simp only; omega, ?_⟩ (by simp only; omega)
          simp only [show ((i : Int) + 1).toNat = i + 1 by omega]
          rw [decide_eq_true (by omega)]
          exact h
        by_cases c0 : (0 : Int) < (i : Int)
        · rw [decide_eq_true c0, Bool.true_and] at h3
          rw [decide_eq_true c0, if_pos rfl]
          cases he : decide (at_ = ByteArray.empty) with
          | true => rw [he] at h3; simp only [Bool.not_true, Bool.false_and] at h3; simp [h3]
          | false =>
            rw [he] at h3
            simp only [Bool.not_false, Bool.true_and] at h3
            simp only [Bool.false_eq_true, if_false]
            exact hgo h3
        · rw [decide_eq_false c0] at h3 ⊢
          simp only [Bool.false_and, Bool.not_false, Bool.true_and] at h3
          simp only [Bool.false_eq_true, if_false]
          exact hgo h3
  · rw [if_neg (by simpa using c)]
    have : i = l.length := by omega
    subst this
    rw [List.drop_length, wholeG_nil] at h3
    unfold keys_Whole_k1
    rw [seq_eq, h3]
    cases decide ((0 : Int) < (l.length : Int)) <;> rfl
theorem ref02_Whole_eq {l : List Api_Range} (hl : l.length ≤ 1000000) (hs : smallR l) : ref02_Whole l = some (wholeP l) := by
  unfold ref02_Whole
  refine loopF_inv (fun (v : Int) => 0 ≤ v ∧ v ≤ (l.length : Int) ∧ wholeP l = wholeG (decide (0 < v)) (if 0 < v then ((l[v.toNat - 1]?).map (·.To)).getD ByteArray.empty else ByteArray.empty) (l.drop v.toNat)) (fun v => ((l.length : Int) - v).toNat) (fun _ => some (wholeP l)) ?_ FU 0 ⟨Int.le_refl _, by omega, by simp [wholeP]⟩ (by have := FU_big; omega)
  rintro again v ⟨h1, h2, h3⟩ hag
  obtain ⟨i, rfl⟩ : ∃ i : Nat, v = i := ⟨v.toNat, by omega⟩
  simp only [Int.toNat_natCast] at h3
  unfold ref02_Whole_l2
  by_cases c : (i : Int) < (l.length : Int)
  · have hi : i < l.length := by omega
    obtain ⟨q1, q2⟩ := hs _ (List.getElem_mem hi)
    rw [List.drop_eq_getElem_cons hi, wholeG_cons] at h3
    rw [if_pos (by simpa using c), idx_at hi, Option.bind_some, ref02_Good_eq q1 q2, Option.bind_some]
    simp only [seq_eq, Option.bind_some]
    have hgo : wholeP l = wholeG true l[i].To (l.drop (i + 1)) → again (IntKind.wrap .i64 ((i : Int) + 1)) = some (wholeP l) := fun h => by
      rw [wrap64 (by omega) (by omega)]
      refine hag _ ⟨by omega, by omega, ?_⟩ (by omega)
      rw [show ((i : Int) + 1).toNat = i + 1 by omega, decide_eq_true (by omega), if_pos (by omega), Nat.add_sub_cancel, List.getElem?_eq_getElem hi]
      exact h
    cases hg : goodR l[i] with
    | false => rw [hg, Bool.false_and] at h3; simp [h3]
    | true =>
      rw [hg, Bool.true_and] at h3
      simp only [Bool.not_true, Bool.false_eq_true, if_false]
      cases i with
      | zero =>
        rw [if_pos (by simp)]
        simp only [show ¬ ((0 : Int) < ((0 : Nat) : Int)) by omega, decide_false, if_false, Bool.false_and, Bool.not_false, Bool.true_and] at h3
        simp only [show ¬ ((0 : Int) < ((0 : Nat) : Int)) by omega, decide_false, Bool.false_eq_true, if_false]
        cases hf : decide (l[0].From = ByteArray.empty) with
        | false => rw [hf, Bool.false_and] at h3; simp [h3]
        | true =>
          rw [hf, Bool.true_and] at h3
          simp only [Bool.not_true, Bool.false_eq_true, if_false]
          exact hgo h3
      | succ j =>
        have hj : j < l.length := by omega
        rw [if_neg (by simp; omega)]
        simp only [show (0 : Int) < ((j + 1 : Nat) : Int) by omega, decide_true, if_true, Nat.add_sub_cancel, List.getElem?_eq_getElem hj, Option.map_some, Option.getD_some, Bool.true_and] at h3
        simp only [show (0 : Int) < ((j + 1 : Nat) : Int) by omega, decide_true, if_true]
        rw [wrap64 (by omega) (by omega), show (((j + 1 : Nat) : Int) - 1) = (j : Int) by omega, idx_at hj, Option.bind_some]
        by_cases hf : l[j + 1].From = l[j].To
        · rw [decide_eq_true hf, Bool.true_and] at h3
          rw [if_neg (by simpa using hf)]
          rw [← hf] at h3
          cases he : decide (l[j + 1].From = ByteArray.empty) with
          | true => rw [he] at h3; simp only [Bool.not_true, Bool.false_and] at h3; simp [h3]
          | false =>
            rw [he] at h3
            simp only [Bool.not_false, Bool.true_and] at h3
            simp only [Bool.false_eq_true, if_false]
            exact hgo h3
        · rw [decide_eq_false hf, Bool.false_and] at h3
          rw [if_pos (by simpa using hf), h3]
  · rw [if_neg (by simpa using c)]
    have : i = l.length := by omega
    subst this
    rw [List.drop_length, wholeG_nil] at h3
    unfold ref02_Whole_k1
    by_cases c0 : (0 : Int) < (l.length : Int)
    · rw [if_pos (by simpa using c0), wrap64 (by omega) (by omega), show ((l.length : Int) - 1) = ((l.length - 1 : Nat) : Int) by omega, idx_at (by omega), Option.bind_some, seq_eq, h3]
      rw [decide_eq_true c0, if_pos c0, List.getElem?_eq_getElem (by omega)]
      rfl
    · rw [if_neg (by simpa using c0), h3, decide_eq_false c0]
      rfl
theorem wholeG_ne {b : Bool} {a : ByteArray} {l : List Api_Range} (h : wholeG b a l = true) : b = true ∨ l ≠ [] := by
  cases l with
  | nil => rw [wholeG_nil, Bool.and_eq_true] at h; exact .inl h.1
  | cons r l => exact .inr (by simp)
theorem whole_small {l : List Api_Range} : ∀ {b : Bool} {a : ByteArray}, wholeG b a l = true → ∀ r, r ∈ l → r.From.size ≤ 32 ∧ r.To.size ≤ 32 := by
  induction l with
  | nil => intro b a _ r hr; simp at hr
  | cons x l ih =>
    intro b a h r hr
    rw [wholeG_cons] at h
    simp only [Bool.and_eq_true] at h
    rcases List.mem_cons.1 hr with rfl | hr
    · have hg := h.1
      unfold goodR at hg
      simp only [Bool.and_eq_true, Bool.or_eq_true, decide_eq_true_eq] at hg
      have hk : ∀ s : ByteArray, (s = ByteArray.empty ∨ okKey s = true) → s.size ≤ 32 := fun s hs => hs.elim (fun e => by rw [e]; decide) okKey_size
      exact ⟨hk _ hg.1, hk _ hg.2.1⟩
    · exact ih h.2.2.2 r hr

/-! ### which rows are written -/
def ownOK (n : Nat) (o : Int) : Bool := decide (1 ≤ o) && decide (o < 2 ^ n)
def parOK (p : Int) : Bool := decide (-1 ≤ p) && decide (p ≤ 5)
def okRow (c : Api_Row) : Bool := decide (1 ≤ c.Parents.length ∧ c.Parents.length ≤ 6 ∧ c.Ranges.length ≤ 8 ∧ c.Owners.length = c.Ranges.length) && (wholeP c.Ranges && (c.Owners.all (ownOK c.Parents.length) && c.Parents.all parOK))
theorem okRow_iff {c : Api_Row} : okRow c = true ↔ (1 ≤ c.Parents.length ∧ c.Parents.length ≤ 6 ∧ c.Ranges.length ≤ 8 ∧ c.Owners.length = c.Ranges.length) ∧ wholeP c.Ranges = true ∧ (∀ o, o ∈ c.Owners → 1 ≤ o ∧ o < 2 ^ c.Parents.length) ∧ ∀ p, p ∈ c.Parents → -1 ≤ p ∧ p ≤ 5 := by
  unfold okRow ownOK parOK
  simp only [Bool.and_eq_true, decide_eq_true_eq, List.all_eq_true]
theorem fdiv_pow {o : Int} (h : 0 ≤ o) (n : Nat) : Int.fdiv o (2 ^ n) = 0 ↔ o < 2 ^ n := by
  have hp : (0 : Int) < 2 ^ n := Int.pow_pos (by decide)
  rw [Int.fdiv_eq_ediv_of_nonneg _ (by omega)]
  constructor
  · intro h1
    have := Int.emod_add_mul_ediv o (2 ^ n)
    have h2 := Int.emod_lt_of_pos o hp
    rw [h1] at this
    omega
  · intro h1; exact Int.ediv_eq_zero_of_lt h h1
theorem slices_IndexFunc_int_eq {s : List Int} {f : Int → Option Bool} {p : Int → Bool} (hf : ∀ x, x ∈ s → f x = some (p x)) (hl : s.length ≤ 140737488355328) : slices_IndexFunc_int s f = some (fidx p s) := by
  unfold slices_IndexFunc_int
  refine loopF_inv (fun i => 0 ≤ i ∧ i ≤ (s.length : Int) ∧ ∀ j (hj : j < s.length), (j : Int) < i → p s[j] = false) (fun i => (s.length - i).toNat) (fun _ => some (fidx p s)) ?_ FU _ ⟨Int.le_refl _, by omega, fun j _ h => by omega⟩ (by have := FU_big; omega)
  rintro again i ⟨h1, h2, h3⟩ hag
  unfold slices_IndexFunc_int_l2
  by_cases c : i < (s.length : Int)
  · obtain ⟨i, rfl⟩ : ∃ k : Nat, i = k := ⟨i.toNat, by omega⟩
    have hi : i < s.length := by omega
    rw [if_pos (by simpa using c), idx_at hi]
    simp only [Option.bind_some]
    rw [hf _ (List.getElem_mem hi)]
    simp only [Option.bind_some]
    cases hp : p s[i] with
    | true => simp only [if_true]; rw [fidx_some hi hp (fun j hj h => h3 j hj (by omega))]
    | false =>
      simp only [Bool.false_eq_true, if_false]
      rw [wrap64 (by omega) (by omega)]
      refine hag _ ⟨by omega, by omega, fun j hj h => ?_⟩ (by omega)
      by_cases e : j = i
      · subst e; exact hp
      · exact h3 j hj (by omega)
  · rw [if_neg (by simpa using c)]
    unfold slices_IndexFunc_int_k1
    rw [fidx_none fun j hj => h3 j hj (by omega)]
theorem contains_int_eq {s : List Int} {f : Int → Option Bool} {p : Int → Bool} (hf : ∀ x, x ∈ s → f x = some (p x)) (hl : s.length ≤ 140737488355328) : slices_ContainsFunc_int s f = some (s.any p) := by
  unfold slices_ContainsFunc_int
  rw [slices_IndexFunc_int_eq hf hl, Option.bind_some, fidx_any]
/-- sizes that a machine holds -/
structure RowS (c : Api_Row) : Prop where
  ranges : c.Ranges.length ≤ 1000000
  owners : c.Owners.length ≤ 1000000
  parents : c.Parents.length ≤ 1000000
  keys : smallR c.Ranges
theorem wire_written_eq {c : Api_Row} (h : RowS c) : wire_written c = some (okRow c) := by
  have hw := keys_Whole_eq h.ranges h.keys
  have h1 := h.parents; have h2 := h.owners
  have hpar : slices_ContainsFunc_int c.Parents (fun x0 => wire_written_1 x0) = some (!c.Parents.all parOK) := by
    rw [contains_int_eq (p := fun p => !parOK p) (fun x _ => ?_) (by omega), ← List.not_all_eq_any_not]
    unfold wire_written_1 parOK
    by_cases c1 : x < -1
    · rw [if_pos (by simpa using c1), decide_eq_false (by omega)]; rfl
    · rw [if_neg (by simpa using c1), decide_eq_true (show (-1 : Int) ≤ x by omega), Bool.true_and]
      congr 1
      by_cases c2 : x ≤ 5
      · rw [decide_eq_true c2, decide_eq_false (by omega)]; rfl
      · rw [decide_eq_false c2, decide_eq_true (by omega)]; rfl
  have hown : c.Parents.length ≤ 6 → slices_ContainsFunc_int c.Owners (fun x0 => wire_written_2 x0 (c.Parents.length : Int)) = some (!c.Owners.all (ownOK c.Parents.length)) := fun h6 => by
    rw [contains_int_eq (p := fun o => !ownOK c.Parents.length o) (fun x _ => ?_) (by omega), ← List.not_all_eq_any_not]
    unfold wire_written_2 ownOK
    by_cases c1 : x < 1
    · rw [if_pos (by simpa using c1), decide_eq_false (by omega)]; rfl
    · have hmin : min (Int.toNat (c.Parents.length : Int)) (IntKind.bits .i64) = c.Parents.length := by
        rw [Int.toNat_natCast]
        exact Nat.min_eq_left (Nat.le_trans h6 (by decide))
      rw [if_neg (by simpa using c1), chk, if_pos (decide_eq_true (by omega)), decide_eq_true (show (1 : Int) ≤ x by omega), Bool.true_and, hmin]
      congr 2
      exact decide_eq_decide.2 (fdiv_pow (by omega) _)
  unfold wire_written wire_written_k2 wire_written_k3 wire_written_k4 wire_written_k1
  rw [hw, hpar]
  simp only [Option.bind_some]
  unfold okRow
  by_cases a1 : 1 ≤ c.Parents.length
  · rw [if_neg (by simp; omega)]
    by_cases a2 : c.Parents.length ≤ 6
    · rw [if_neg (by simp; omega), hown a2]
      simp only [Option.bind_some]
      by_cases a3 : c.Ranges.length ≤ 8
      · rw [if_neg (by simp; omega)]
        by_cases a4 : c.Owners.length = c.Ranges.length
        · rw [if_neg (by simp; omega), decide_eq_true ⟨a1, a2, a3, a4⟩, Bool.true_and]
          cases wholeP c.Ranges <;> cases c.Parents.all parOK <;> cases c.Owners.all (ownOK c.Parents.length) <;> rfl
        · rw [if_pos (by simp; omega), show decide (1 ≤ c.Parents.length ∧ c.Parents.length ≤ 6 ∧ c.Ranges.length ≤ 8 ∧ c.Owners.length = c.Ranges.length) = false from decide_eq_false (fun q => a4 q.2.2.2)]; simp
      · rw [if_pos (by simp; omega), show decide (1 ≤ c.Parents.length ∧ c.Parents.length ≤ 6 ∧ c.Ranges.length ≤ 8 ∧ c.Owners.length = c.Ranges.length) = false from decide_eq_false (fun q => a3 q.2.2.1)]; simp
    · rw [if_pos (by simp; omega), show decide (1 ≤ c.Parents.length ∧ c.Parents.length ≤ 6 ∧ c.Ranges.length ≤ 8 ∧ c.Owners.length = c.Ranges.length) = false from decide_eq_false (fun q => a2 q.2.1)]; simp
  · rw [if_pos (by simp; omega), show decide (1 ≤ c.Parents.length ∧ c.Parents.length ≤ 6 ∧ c.Ranges.length ≤ 8 ∧ c.Owners.length = c.Ranges.length) = false from decide_eq_false (fun q => a1 q.1)]; simp
end Go.Ark
