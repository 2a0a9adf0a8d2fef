/- Plain laws: ranges of keys; pasts that are asked and thinned out; what a queue misses. Conditions: none but those that stand in each law. -/
import Derived.Test.YtfckeeglbhlnmaaQLPl2
namespace Go.Ark
open Go Go.Ab

def hasP (r : Api_Range) (k : ByteArray) : Bool := !slt k r.From && (decide (r.To = ByteArray.empty) || slt k r.To)
def ownP (l : List Api_Range) (k : ByteArray) : Bool := l.any fun r => hasP r k

theorem keys_Has_eq (r : Api_Range) (k : ByteArray) : keys_Has r k = some (hasP r k) := by
  unfold keys_Has hasP
  rw [seq_eq]
  cases slt k r.From <;> by_cases h : r.To = ByteArray.empty <;> simp [h]
theorem ref02_Has_eq (r : Api_Range) (k : ByteArray) : ref02_Has r k = some (hasP r k) := by
  unfold ref02_Has hasP
  rw [seq_eq]
  cases slt k r.From <;> by_cases h : r.To = ByteArray.empty <;> simp [h]

theorem keys_Find_eq {l : List Api_Range} (hl : l.length ≤ 140737488355328) (k : ByteArray) : keys_Find l k = some (fidx (fun r => hasP r k) l) := by
  unfold keys_Find
  rw [slices_IndexFunc_Range_eq (p := fun r => hasP r k) (fun x _ => by unfold keys_Find_1; rw [keys_Has_eq]; rfl) hl]
  rfl

theorem ref02_Find_eq {s : List Api_Range} (hl : s.length ≤ 140737488355328) (k : ByteArray) : ref02_Find s k = some (fidx (fun r => hasP r k) s) := by
  unfold ref02_Find
  refine loopF_inv (fun v => 0 ≤ v ∧ v ≤ (s.length : Int) ∧ ∀ j (hj : j < s.length), (j : Int) < v → hasP s[j] k = false) (fun v => (s.length - v).toNat) (fun _ => some (fidx (fun r => hasP r k) s)) ?_ FU _ ⟨Int.le_refl _, by omega, fun j _ h => by omega⟩ ?_
  · rintro again v ⟨h1, h2, h3⟩ hag
    unfold ref02_Find_l3
    by_cases c : v < (s.length : Int)
    · obtain ⟨i, rfl⟩ : ∃ i : Nat, v = i := ⟨v.toNat, by omega⟩
      have hi : i < s.length := by omega
      rw [if_pos (by simpa using c), idx_at hi]
      simp only [Option.bind_some, ref02_Has_eq]
      cases hp : hasP s[i] k with
      | true => simp only [if_true]; rw [fidx_some hi hp (fun j hj h => h3 j hj (by omega))]
      | false =>
        simp only [Bool.false_eq_true, if_false]
        rw [wrap64 (by omega) (by omega)]
        refine hag _ ⟨by omega, by omega, fun j hj h => ?_⟩ (by omega)
        rcases Nat.lt_or_ge j i with h4 | h4
        · exact h3 j hj (by omega)
        · rw [show s[j] = s[i] from by congr 1; omega]; exact hp
    · rw [if_neg (by simpa using c)]
      simp only [ref02_Find_k2]
      rw [fidx_none fun j hj => h3 j hj (by omega)]
  · have := FU_big
    omega

theorem past_Only_eq {p : List Api_Dep} {l : List Api_Range} (hp : p.length ≤ 1099511627776) (hl : l.length ≤ 140737488355328) : past_Only p l = some (p.filter fun d => ownP l d.Key) := by
  unfold past_Only
  rw [slices_Clone_Dep_eq hp (by omega)]
  simp only [Option.bind_some]
  rw [slices_DeleteFunc_Dep_eq (p := fun d => !ownP l d.Key) (fun x _ => by
    unfold past_Only_1
    rw [keys_Find_eq hl]
    simp only [Option.bind_some, ownP, ← fidx_any]
    congr 1
    by_cases c : 0 ≤ fidx (fun r => hasP r x.Key) l
    · simp [c]
    · simp [c]; omega) (by omega)]
  simp

theorem ref04_Only_eq {s : List Api_Dep} {l : List Api_Range} (hp : s.length ≤ 1099511627776) (hl : l.length ≤ 140737488355328) : ref04_Only s l = some (s.filter fun d => ownP l d.Key) := by
  unfold ref04_Only
  refine loopF_inv (fun (v : Int × List Api_Dep) => 0 ≤ v.1 ∧ v.1 ≤ (s.length : Int) ∧ v.2 = (s.take v.1.toNat).filter fun d => ownP l d.Key) (fun v => ((s.length : Int) - v.1).toNat) (fun _ => some (s.filter fun d => ownP l d.Key)) ?_ FU (0, []) ⟨Int.le_refl _, by simp, by simp⟩ ?_
  · rintro again ⟨v, r⟩ ⟨h1, h2, h3⟩ hag
    simp only at h1 h2 h3
    unfold ref04_Only_l3
    simp only
    by_cases c : v < (s.length : Int)
    · obtain ⟨i, rfl⟩ : ∃ i : Nat, v = i := ⟨v.toNat, by omega⟩
      have hi : i < s.length := by omega
      simp only [Int.toNat_natCast] at h3
      have e : IntKind.wrap .i64 ((i : Int) + 1) = ((i + 1 : Nat) : Int) := by rw [wrap64 (by omega) (by omega)]; omega
      have htake : (s.take (i + 1)).filter (fun d => ownP l d.Key) = r ++ if ownP l s[i].Key then [s[i]] else [] := by
        rw [List.take_add_one, List.getElem?_eq_getElem hi, List.filter_append, h3]
        cases hp : ownP l s[i].Key <;> simp [hp]
      have hrl : r.length ≤ i := by rw [h3]; refine Nat.le_trans (List.length_filter_le _ _) (by simp; omega)
      rw [if_pos (by simpa using c), idx_at hi]
      simp only [Option.bind_some, ref02_Find_eq hl, fidx_any, e]
      show (if ownP l s[i].Key = true then _ else _) = _
      cases hp : ownP l s[i].Key with
      | true =>
        simp only [if_true]
        rw [app_ok (by simp; omega) (by simp; omega)]
        simp only [Option.bind_some]
        exact hag _ ⟨by simp only; omega, by simp only; omega, by simp only [Int.toNat_natCast]; rw [htake, hp]; rfl⟩ (by simp only; omega)
      | false =>
        simp only [Bool.false_eq_true, if_false]
        exact hag _ ⟨by simp only; omega, by simp only; omega, by simp only [Int.toNat_natCast]; rw [htake, hp]; simp⟩ (by simp only; omega)
    · rw [if_neg (by simpa using c)]
      simp only [ref04_Only_k2]
      rw [h3, show v.toNat = s.length by omega, List.take_length]
  · have := FU_big
    simp only
    omega

theorem getP_first {p : List Api_Dep} {i : Nat} (hi : i < p.length) (h : ∀ j (hj : j < p.length), j < i → p[j].Key ≠ p[i].Key) : getP p p[i].Key = p[i].Stamp := by
  induction p generalizing i with
  | nil => simp at hi
  | cons d p ih =>
    cases i with
    | zero => simp [getP]
    | succ i =>
      have hi' : i < p.length := by simpa using hi
      have hne := h 0 (by simp) (by omega)
      simp only [List.getElem_cons_zero, List.getElem_cons_succ] at hne ⊢
      rw [getP, if_neg hne]
      exact ih hi' fun j hj hji => by have := h (j + 1) (by simpa using hj) (by omega); simpa using this

theorem ref04_Get_eq {s : List Api_Dep} (hl : s.length ≤ 140737488355328) (k : ByteArray) : ref04_Get s k = some (getP s k) := by
  unfold ref04_Get
  refine loopF_inv (fun v => 0 ≤ v ∧ v ≤ (s.length : Int) ∧ ∀ j (hj : j < s.length), (j : Int) < v → s[j].Key ≠ k) (fun v => (s.length - v).toNat) (fun _ => some (getP s k)) ?_ FU _ ⟨Int.le_refl _, by omega, fun j _ h => by omega⟩ ?_
  · rintro again v ⟨h1, h2, h3⟩ hag
    unfold ref04_Get_l3
    by_cases c : v < (s.length : Int)
    · obtain ⟨i, rfl⟩ : ∃ i : Nat, v = i := ⟨v.toNat, by omega⟩
      have hi : i < s.length := by omega
      rw [if_pos (by simpa using c), idx_at hi]
      simp only [Option.bind_some, seq_eq]
      by_cases hp : s[i].Key = k
      · rw [if_pos (by simpa using hp)]
        subst hp
        rw [getP_first hi fun j hj h => h3 j hj (by omega)]
      · rw [if_neg (by simpa using hp), wrap64 (by omega) (by omega)]
        refine hag _ ⟨by omega, by omega, fun j hj h => ?_⟩ (by omega)
        rcases Nat.lt_or_ge j i with h4 | h4
        · exact h3 j hj (by omega)
        · rw [show s[j] = s[i] from by congr 1; omega]; exact hp
    · rw [if_neg (by simpa using c)]
      simp only [ref04_Get_k2]
      rw [getP_none]
      intro d hd
      obtain ⟨j, hj, rfl⟩ := List.getElem_of_mem hd
      exact h3 j hj (by omega)
  · have := FU_big
    omega

def coversP (p q : List Api_Dep) : Bool := q.all fun d => !lessP (getP p d.Key) d.Stamp

theorem ref04_Covers_eq {p s : List Api_Dep} (hp : p.length ≤ 140737488355328) (hl : s.length ≤ 140737488355328) : ref04_Covers p s = some (coversP p s) := by
  unfold ref04_Covers
  refine loopF_inv (fun v => 0 ≤ v ∧ v ≤ (s.length : Int) ∧ ∀ j (hj : j < s.length), (j : Int) < v → lessP (getP p s[j].Key) s[j].Stamp = false) (fun v => (s.length - v).toNat) (fun _ => some (coversP p s)) ?_ FU _ ⟨Int.le_refl _, by omega, fun j _ h => by omega⟩ ?_
  · rintro again v ⟨h1, h2, h3⟩ hag
    unfold ref04_Covers_l3
    by_cases c : v < (s.length : Int)
    · obtain ⟨i, rfl⟩ : ∃ i : Nat, v = i := ⟨v.toNat, by omega⟩
      have hi : i < s.length := by omega
      rw [if_pos (by simpa using c), idx_at hi]
      simp only [Option.bind_some, ref04_Get_eq hp, ref03_Less_eq]
      cases hq : lessP (getP p s[i].Key) s[i].Stamp with
      | true =>
        simp only [if_true]
        have : coversP p s = false := List.all_eq_false.2 ⟨s[i], List.getElem_mem hi, by simp [hq]⟩
        rw [this]
      | false =>
        simp only [Bool.false_eq_true, if_false]
        rw [wrap64 (by omega) (by omega)]
        refine hag _ ⟨by omega, by omega, fun j hj h => ?_⟩ (by omega)
        rcases Nat.lt_or_ge j i with h4 | h4
        · exact h3 j hj (by omega)
        · have e : j = i := by omega
          subst e; exact hq
    · rw [if_neg (by simpa using c)]
      simp only [ref04_Covers_k2]
      have : coversP p s = true := List.all_eq_true.2 fun d hd => by
        obtain ⟨j, hj, rfl⟩ := List.getElem_of_mem hd
        simp [h3 j hj (by omega)]
      rw [this]
  · have := FU_big
    omega

def missP (past : List Api_Dep) (have_ : List Api_Dep) (own : List Api_Range) : List Api_Dep := (past.filter fun d => ownP own d.Key).filter fun d => lessP (getP have_ d.Key) d.Stamp

theorem queue_Misses_eq {v : Api_Version} {h : List Api_Dep} {own : List Api_Range} (hv : v.Past.length ≤ 1099511627776) (hs : sortedP h) (hh : h.length ≤ 140737488355328) (hl : own.length ≤ 140737488355328) : queue_Misses v h own = some (missP v.Past h own) := by
  unfold queue_Misses
  rw [past_Only_eq hv hl]
  simp only [Option.bind_some]
  rw [slices_DeleteFunc_Dep_eq (p := fun d => !lessP (getP h d.Key) d.Stamp) (fun x _ => by
    unfold queue_Misses_1
    rw [past_Get_eq hs hh]
    simp only [Option.bind_some, stamp_Less_eq]) (Nat.le_trans (List.length_filter_le _ _) (by omega))]
  simp [missP]

theorem queue_Check_eq {v : Api_Version} {h : List Api_Dep} {own : List Api_Range} (hv : v.Past.length ≤ 1099511627776) (hs : sortedP h) (hh : h.length ≤ 140737488355328) (hl : own.length ≤ 140737488355328) : queue_Check v h own = some (decide (missP v.Past h own = [])) := by
  unfold queue_Check
  rw [queue_Misses_eq hv hs hh hl]
  simp only [Option.bind_some]
  congr 1
  cases missP v.Past h own with
  | nil => simp
  | cons a b => simp; omega

/-- the first one that misses nothing comes out -/
theorem queue_Next_eq {l : List Api_Version} {h : List Api_Dep} {own : List Api_Range} (hll : l.length ≤ 1099511627776) (hv : ∀ v, v ∈ l → v.Past.length ≤ 1099511627776) (hs : sortedP h) (hh : h.length ≤ 140737488355328) (hl : own.length ≤ 140737488355328) :
    (∃ i, ∃ hi : i < l.length, (∀ j (hj : j < l.length), j < i → missP l[j].Past h own ≠ []) ∧ missP l[i].Past h own = [] ∧ queue_Next l h own = some (l[i], l.take i ++ l.drop (i + 1), true)) ∨
    ((∀ v, v ∈ l → missP v.Past h own ≠ []) ∧ queue_Next l h own = some (Api_Version.mk ByteArray.empty ByteArray.empty false (Api_Stamp.mk 0 0) [], l, false)) := by
  have main : ∀ res, ((∃ i, ∃ hi : i < l.length, (∀ j (hj : j < l.length), j < i → missP l[j].Past h own ≠ []) ∧ missP l[i].Past h own = [] ∧ res = some (l[i], l.take i ++ l.drop (i + 1), true)) ∨
    ((∀ v, v ∈ l → missP v.Past h own ≠ []) ∧ res = some (Api_Version.mk ByteArray.empty ByteArray.empty false (Api_Stamp.mk 0 0) [], l, false))) → queue_Next l h own = res := by
    intro res hres
    unfold queue_Next
    refine loopF_inv (fun v => 0 ≤ v ∧ v ≤ (l.length : Int) ∧ ∀ j (hj : j < l.length), (j : Int) < v → missP l[j].Past h own ≠ []) (fun v => (l.length - v).toNat) (fun _ => res) ?_ FU _ ⟨Int.le_refl _, by omega, fun j _ h => by omega⟩ ?_
    · rintro again v ⟨h1, h2, h3⟩ hag
      unfold queue_Next_l3
      by_cases c : v < (l.length : Int)
      · obtain ⟨i, rfl⟩ : ∃ i : Nat, v = i := ⟨v.toNat, by omega⟩
        have hi : i < l.length := by omega
        rw [if_pos (by simpa using c), idx_at hi]
        simp only [Option.bind_some, queue_Check_eq (hv _ (List.getElem_mem hi)) hs hh hl]
        rw [wrap64 (by omega) (by omega)]
        by_cases hm : missP l[i].Past h own = []
        · simp only [hm, decide_true, Bool.not_true, Bool.false_eq_true, if_false]
          have e1 : sub l 0 (i : Int) = some (l.take i) := by simp only [sub]; rw [if_pos ⟨by omega, by omega, by omega⟩]; simp
          have e2 : sub l ((i : Int) + 1) (l.length : Int) = some (l.drop (i + 1)) := by
            simp only [sub]; rw [if_pos ⟨by omega, by omega, by omega⟩]
            simp only [Int.toNat_natCast, List.take_length]
            congr 1
          rw [e1, e2]
          simp only [Option.bind_some]
          rw [app_ok (by simp; omega) (by simp; omega)]
          simp only [Option.bind_some]
          rcases hres with ⟨i', hi', h4, h5, rfl⟩ | ⟨h4, _⟩
          · have : i = i' := by
              rcases Nat.lt_trichotomy i i' with h6 | h6 | h6
              · exact absurd hm (h4 i hi h6)
              · exact h6
              · exact absurd h5 (h3 i' hi' (by omega))
            subst this; rfl
          · exact absurd hm (h4 _ (List.getElem_mem hi))
        · simp only [decide_eq_false hm, Bool.not_false, if_true]
          refine hag _ ⟨by omega, by omega, fun j hj h => ?_⟩ (by omega)
          rcases Nat.lt_or_ge j i with h4 | h4
          · exact h3 j hj (by omega)
          · have e : j = i := by omega
            subst e; exact hm
      · rw [if_neg (by simpa using c)]
        simp only [queue_Next_k2]
        rcases hres with ⟨i', hi', h4, h5, rfl⟩ | ⟨_, rfl⟩
        · exact absurd h5 (h3 i' hi' (by omega))
        · rfl
    · have := FU_big
      omega
  by_cases hex : ∃ v, v ∈ l ∧ missP v.Past h own = []
  · left
    rcases fidx_cases (fun v : Api_Version => decide (missP v.Past h own = [])) l with ⟨i, hi, h1, h2, _⟩ | ⟨h1, _⟩
    · have h3 : ∀ j (hj : j < l.length), j < i → missP l[j].Past h own ≠ [] := fun j hj hji => by simpa using h2 j hj hji
      exact ⟨i, hi, h3, by simpa using h1, main _ (.inl ⟨i, hi, h3, by simpa using h1, rfl⟩)⟩
    · obtain ⟨v, hv, hm⟩ := hex
      have := h1 v hv
      simp [hm] at this
  · right
    have : ∀ v, v ∈ l → missP v.Past h own ≠ [] := fun v hv c => hex ⟨v, hv, c⟩
    exact ⟨this, main _ (.inr ⟨this, rfl⟩)⟩

end Go.Ark
