/- Plain laws: the writes to a key, the events of a client, the greatest write; rows of events that are the same. Conditions: none but those that stand in each law. -/
import Derived.Test.YtdngcojjipaajaaPhist2
namespace Go.Ark
open Go Go.Ab Go.RowKit

def wrK (l : List Api_Event) (k : ByteArray) : List Api_Stamp := (l.filter fun e => decide (e.Kind = 1) && decide (e.Key = k)).map (·.Stamp)
theorem wrK_len (l : List Api_Event) (k : ByteArray) : (wrK l k).length ≤ l.length := by
  unfold wrK
  rw [List.length_map]
  exact List.length_filter_le _ _
theorem wrK_snoc (l : List Api_Event) (e : Api_Event) (k : ByteArray) : wrK (l ++ [e]) k = if e.Kind = 1 ∧ e.Key = k then wrK l k ++ [e.Stamp] else wrK l k := by
  unfold wrK
  rw [List.filter_append, List.map_append]
  by_cases c : e.Kind = 1 ∧ e.Key = k
  · rw [if_pos c]; simp [c.1, c.2]
  · rw [if_neg c]
    have : [e].filter (fun e => decide (e.Kind = 1) && decide (e.Key = k)) = [] := by
      refine List.filter_eq_nil_iff.2 fun x hx h => ?_
      simp at hx; subst hx
      simp at h
      exact c h
    rw [this]; simp
theorem history_Writes_eq {l : List Api_Event} (hl : l.length ≤ 1000000) (k : ByteArray) : history_Writes l k = some (wrK l k) := by
  unfold history_Writes
  refine loopF_inv (fun (v : Int × List Api_Stamp) => 0 ≤ v.1 ∧ v.1 ≤ (l.length : Int) ∧ v.2 = wrK (l.take v.1.toNat) k) (fun v => ((l.length : Int) - v.1).toNat) (fun _ => some (wrK l k)) ?_ FU (0, []) ⟨Int.le_refl _, by simp, by simp [wrK]⟩ (by have := FU_big; simp only; omega)
  rintro again ⟨v, o⟩ ⟨h1, h2, h3⟩ hag
  simp only at h1 h2 h3
  obtain ⟨i, rfl⟩ : ∃ i : Nat, v = i := ⟨v.toNat, by omega⟩
  simp only [Int.toNat_natCast] at h3
  unfold history_Writes_l2
  simp only
  by_cases c : (i : Int) < (l.length : Int)
  · have hi : i < l.length := by omega
    have hw := wrK_snoc (l.take i) l[i] k
    rw [← take_snoc' hi] at hw
    have hlen := wrK_len (l.take i) k
    rw [List.length_take] at hlen
    rw [if_pos (by simpa using c), idx_at hi, Option.bind_some]
    have hk3 : ∀ b, b = decide (l[i].Kind = 1 ∧ l[i].Key = k) → history_Writes_k3 again ((i : Int), o) l[i] b = some (wrK l k) := by
      intro b hb
      unfold history_Writes_k3
      simp only
      rw [wrap64 (by omega) (by omega)]
      subst h3
      cases b with
      | true =>
        rw [if_pos (by simpa using hb.symm)] at hw
        rw [if_pos rfl, app_ok (by simp; omega) (by simp; omega), Option.bind_some]
        exact hag _ ⟨by simp only; omega, by simp only; omega, by simp only [show ((i : Int) + 1).toNat = i + 1 by omega]; exact hw.symm⟩ (by simp only; omega)
      | false =>
        rw [if_neg (by simpa using hb.symm)] at hw
        rw [if_neg (by decide)]
        exact hag _ ⟨by simp only; omega, by simp only; omega, by simp only [show ((i : Int) + 1).toNat = i + 1 by omega]; exact hw.symm⟩ (by simp only; omega)
    by_cases k1 : l[i].Kind = 1
    · rw [if_pos (by simpa using k1), seq_eq]
      exact hk3 _ (by simp [k1])
    · rw [if_neg (by simpa using k1)]
      exact hk3 _ (by simp [k1])
  · rw [if_neg (by simpa using c)]
    have : i = l.length := by omega
    subst this
    rw [List.take_length] at h3
    rw [h3]
    rfl
theorem ref20_Writes_eq {l : List Api_Event} (hl : l.length ≤ 1000000) (k : ByteArray) : ref20_Writes l k = some (wrK l k) := by
  unfold ref20_Writes
  refine loopF_inv (fun (v : Int × List Api_Stamp) => 0 ≤ v.1 ∧ v.1 ≤ (l.length : Int) ∧ v.2 = wrK (l.take v.1.toNat) k) (fun v => ((l.length : Int) - v.1).toNat) (fun _ => some (wrK l k)) ?_ FU (0, []) ⟨Int.le_refl _, by simp, by simp [wrK]⟩ (by have := FU_big; simp only; omega)
  rintro again ⟨v, o⟩ ⟨h1, h2, h3⟩ hag
  simp only at h1 h2 h3
  obtain ⟨i, rfl⟩ : ∃ i : Nat, v = i := ⟨v.toNat, by omega⟩
  simp only [Int.toNat_natCast] at h3
  unfold ref20_Writes_l2
  simp only
  by_cases c : (i : Int) < (l.length : Int)
  · have hi : i < l.length := by omega
    have hw := wrK_snoc (l.take i) l[i] k
    rw [← take_snoc' hi] at hw
    have hlen := wrK_len (l.take i) k
    rw [List.length_take] at hlen
    rw [if_pos (by simpa using c), idx_at hi, Option.bind_some]
    have hk3 : ∀ b, b = decide (l[i].Kind = 1 ∧ l[i].Key = k) → ref20_Writes_k3 l again ((i : Int), o) b = some (wrK l k) := by
      intro b hb
      unfold ref20_Writes_k3
      simp only
      rw [wrap64 (by omega) (by omega), idx_at hi]
      subst h3
      cases b with
      | true =>
        rw [if_pos (by simpa using hb.symm)] at hw
        rw [if_pos rfl, Option.bind_some, app_ok (by simp; omega) (by simp; omega), Option.bind_some]
        exact hag _ ⟨by simp only; omega, by simp only; omega, by simp only [show ((i : Int) + 1).toNat = i + 1 by omega]; exact hw.symm⟩ (by simp only; omega)
      | false =>
        rw [if_neg (by simpa using hb.symm)] at hw
        rw [if_neg (by decide)]
        exact hag _ ⟨by simp only; omega, by simp only; omega, by simp only [show ((i : Int) + 1).toNat = i + 1 by omega]; exact hw.symm⟩ (by simp only; omega)
    by_cases k1 : l[i].Kind = 1
    · rw [if_pos (by simpa using k1), Option.bind_some, seq_eq]
      exact hk3 _ (by simp [k1])
    · rw [if_neg (by simpa using k1)]
      exact hk3 _ (by simp [k1])
  · rw [if_neg (by simpa using c)]
    have : i = l.length := by omega
    subst this
    rw [List.take_length] at h3
    rw [h3]
    rfl
theorem history_Greatest_eq {l : List Api_Event} (hl : l.length ≤ 1000000) (k : ByteArray) : history_Greatest l k = some ((wrK l k).foldl maxS ⟨0, 0⟩) := by
  unfold history_Greatest
  have := wrK_len l k
  rw [history_Writes_eq hl, Option.bind_some, stamp_Max_eq (by omega)]
  rfl

def ofC (l : List Api_Event) (c : Int) : List Api_Event := l.filter fun e => decide (e.Client = c)
theorem ofC_snoc (l : List Api_Event) (e : Api_Event) (c : Int) : ofC (l ++ [e]) c = if e.Client = c then ofC l c ++ [e] else ofC l c := by
  unfold ofC
  rw [List.filter_append]
  by_cases h : e.Client = c
  · simp [h]
  · simp [h]
theorem ofC_len (l : List Api_Event) (c : Int) : (ofC l c).length ≤ l.length := List.length_filter_le _ _
theorem history_Of_eq {l : List Api_Event} (hl : l.length ≤ 1000000) (c : Int) : history_Of l c = some (ofC l c) := by
  unfold history_Of
  rw [slices_Clone_Event_eq (by omega) (by omega), Option.bind_some, slices_DeleteFunc_Event_eq (f := fun x0 => history_Of_1 x0 c) (p := fun e => !decide (e.Client = c)) (fun x _ => rfl) (by omega)]
  simp only [Option.bind_some, Bool.not_not]
  rfl
theorem ref20_Of_eq {l : List Api_Event} (hl : l.length ≤ 1000000) (cl : Int) : ref20_Of l cl = some (ofC l cl) := by
  unfold ref20_Of
  refine loopF_inv (fun (v : Int × List Api_Event) => 0 ≤ v.1 ∧ v.1 ≤ (l.length : Int) ∧ v.2 = ofC (l.take v.1.toNat) cl) (fun v => ((l.length : Int) - v.1).toNat) (fun _ => some (ofC l cl)) ?_ FU (0, []) ⟨Int.le_refl _, by simp, by simp [ofC]⟩ (by have := FU_big; simp only; omega)
  rintro again ⟨v, o⟩ ⟨h1, h2, h3⟩ hag
  simp only at h1 h2 h3
  obtain ⟨i, rfl⟩ : ∃ i : Nat, v = i := ⟨v.toNat, by omega⟩
  simp only [Int.toNat_natCast] at h3
  unfold ref20_Of_l2
  simp only
  by_cases c : (i : Int) < (l.length : Int)
  · have hi : i < l.length := by omega
    have hw := ofC_snoc (l.take i) l[i] cl
    rw [← take_snoc' hi] at hw
    have hlen := ofC_len (l.take i) cl
    rw [List.length_take] at hlen
    rw [if_pos (by simpa using c), idx_at hi]
    simp only [Option.bind_some]
    rw [wrap64 (by omega) (by omega)]
    subst h3
    by_cases k1 : l[i].Client = cl
    · rw [if_pos k1] at hw
      rw [if_pos (by simpa using k1), app_ok (by simp; omega) (by simp; omega), Option.bind_some]
      exact hag _ ⟨by simp only; omega, by simp only; omega, by simp only [show ((i : Int) + 1).toNat = i + 1 by omega]; exact hw.symm⟩ (by simp only; omega)
    · rw [if_neg k1] at hw
      rw [if_neg (by simpa using k1)]
      exact hag _ ⟨by simp only; omega, by simp only; omega, by simp only [show ((i : Int) + 1).toNat = i + 1 by omega]; exact hw.symm⟩ (by simp only; omega)
  · rw [if_neg (by simpa using c)]
    have : i = l.length := by omega
    subst this
    rw [List.take_length] at h3
    rw [h3]
    rfl

theorem evEq (a b : Api_Event) : decide (a = b) = (decide (a.Seen = b.Seen) && (decide (a.Kind = b.Kind) && (decide (a.Client = b.Client) && (decide (a.Key = b.Key) && decide (a.Stamp = b.Stamp))))) := by
  obtain ⟨a1, a2, a3, a4, a5⟩ := a
  obtain ⟨b1, b2, b3, b4, b5⟩ := b
  simp only [Api_Event.mk.injEq]
  by_cases h1 : a1 = b1 <;> by_cases h2 : a2 = b2 <;> by_cases h3 : a3 = b3 <;> by_cases h4 : a4 = b4 <;> by_cases h5 : a5 = b5 <;> simp [h1, h2, h3, h4, h5]
theorem ref20_Same_eq {a b : List Api_Event} (ha : a.length ≤ 1000000) (hs : ∀ e, e ∈ a → e.Seen.length ≤ 140737488355328) : ref20_Same a b = some (decide (a = b)) := by
  unfold ref20_Same
  by_cases c0 : a.length = b.length
  · rw [if_neg (by simp [c0])]
    refine loopF_inv (fun (v : Int) => 0 ≤ v ∧ v ≤ (a.length : Int) ∧ a.take v.toNat = b.take v.toNat) (fun v => ((a.length : Int) - v).toNat) (fun _ => some (decide (a = b))) ?_ FU 0 ⟨Int.le_refl _, by simp, by simp⟩ (by have := FU_big; omega)
    rintro again v ⟨h1, h2, h3⟩ hag
    obtain ⟨i, rfl⟩ : ∃ i : Nat, v = i := ⟨v.toNat, by omega⟩
    simp only [Int.toNat_natCast] at h3
    unfold ref20_Same_l2
    by_cases c : (i : Int) < (a.length : Int)
    · have hi : i < a.length := by omega
      have hj : i < b.length := by omega
      rw [if_pos (by simpa using c), idx_at hi, idx_at hj]
      simp only [Option.bind_some, seq_eq, stampEq]
      rw [ref04_Same_eq (hs _ (List.getElem_mem hi)), Option.bind_some, wrap64 (by omega) (by omega)]
      have hne : a[i] ≠ b[i] → a ≠ b := fun h e => by subst e; exact h rfl
      have he := evEq a[i] b[i]
      have hno : decide (a[i] = b[i]) = false → some false = some (decide (a = b)) := fun h => by rw [decide_eq_false (hne (of_decide_eq_false h))]
      by_cases k1 : a[i].Seen = b[i].Seen
      · rw [if_neg (by simpa using k1)]
        by_cases k2 : a[i].Kind = b[i].Kind
        · rw [if_neg (by simpa using k2)]
          by_cases k3 : a[i].Client = b[i].Client
          · rw [if_neg (by simpa using k3)]
            by_cases k4 : a[i].Key = b[i].Key
            · rw [if_neg (by simpa using k4)]
              by_cases k5 : a[i].Stamp = b[i].Stamp
              · rw [if_neg (by simpa using k5)]
                refine hag _ ⟨by omega, by omega, ?_⟩ (by omega)
                rw [show ((i : Int) + 1).toNat = i + 1 by omega, take_snoc' hi, take_snoc' hj, h3]
                rw [of_decide_eq_true (he.trans (by simp [k1, k2, k3, k4, k5]))]
              · rw [if_pos (by simpa using k5)]
                exact hno (he.trans (by simp [k5]))
            · rw [if_pos (by simpa using k4)]
              exact hno (he.trans (by simp [k4]))
          · rw [if_pos (by simpa using k3)]
            exact hno (he.trans (by simp [k3]))
        · rw [if_pos (by simpa using k2)]
          exact hno (he.trans (by simp [k2]))
      · rw [if_pos (by simpa using k1)]
        exact hno (he.trans (by simp [k1]))
    · rw [if_neg (by simpa using c)]
      have : i = a.length := by omega
      subst this
      rw [List.take_length, c0, List.take_length] at h3
      rw [decide_eq_true h3]
      rfl
  · rw [if_pos (by simp; omega), decide_eq_false]
    intro e
    rw [e] at c0
    exact c0 rfl
end Go.Ark
