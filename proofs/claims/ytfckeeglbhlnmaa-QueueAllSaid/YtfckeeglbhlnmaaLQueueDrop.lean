/- The plain law of QueueDrop: what is left is what lies in the ranges, in its order. Conditions: none but those that stand in each law. -/
import Derived.Test.YtfckeeglbhlnmaaPlaw14
import Derived.Test.YtfckeeglbhlnmaaPwire
namespace Go.Ark
open Go Go.Ab Go.RowKit

theorem queue_Drop_eq {l : List Api_Version} {own : List Api_Range} (hl : l.length ≤ 1099511627) (ho : own.length ≤ 140737488355328) : queue_Drop l own = some (l.filter fun v => ownP own v.Key) := by
  unfold queue_Drop
  rw [slices_Clone_Version_eq (by omega) (by omega)]
  simp only [Option.bind_some]
  rw [slices_DeleteFunc_Version_eq (p := fun v => !ownP own v.Key) (fun x _ => by
    unfold queue_Drop_1
    rw [keys_Find_eq ho]
    simp only [Option.bind_some, ownP, ← fidx_any]
    congr 1
    by_cases c : 0 ≤ fidx (fun r => hasP r x.Key) own
    · simp [c]
    · simp [c]; omega) (by omega)]
  simp

theorem take_filter_snoc {α : Type} {p : α → Bool} {l : List α} {i : Nat} (hi : i < l.length) : (l.take (i + 1)).filter p = (l.take i).filter p ++ (if p l[i] then [l[i]] else []) := by
  rw [List.take_add_one, List.getElem?_eq_getElem hi, List.filter_append]
  cases hp : p l[i] <;> simp [hp]

theorem filter_at {α : Type} {p : α → Bool} {l : List α} {i : Nat} (hi : i < l.length) (hp : p l[i] = true) : (l.filter p)[((l.take i).filter p).length]? = some l[i] := by
  have h : l = l.take i ++ l[i] :: l.drop (i + 1) := by rw [← List.drop_eq_getElem_cons hi, List.take_append_drop]
  have h2 : l.filter p = (l.take i).filter p ++ (l[i] :: (l.drop (i + 1)).filter p) := by
    conv => lhs; rw [h]
    rw [List.filter_append, List.filter_cons, if_pos hp]
  rw [h2, List.getElem?_append_right (Nat.le_refl _)]
  simp

theorem law14_QueueDrop_plain (l_0 : (List Law14_Write)) (which_1 : Int) (h0 : l_0.length ≤ reachBytes ∧ ∀ x, x ∈ l_0 → wfLaw14_Write x) (_h1 : (Lit.int .i64 which_1).wf = true) : law14_QueueDrop l_0 which_1 = some true := by
  obtain ⟨vs, hvs, _, hb⟩ := made_ind (fun _ => True) trivial (fun _ _ _ _ _ _ _ _ _ _ _ _ => trivial) (l := l_0) (Nat.le_trans h0.1 (by decide)) fun x hx => ⟨Nat.le_trans (h0.2 x hx).2.2.1 (by decide), fun y hy => bounds_i64 ((h0.2 x hx).2.2.2 y hy)⟩
  obtain ⟨rs, hrs, hrl⟩ := law14_ranges_tot which_1
  have hv14 := hb.1
  have hvb : ∀ v, v ∈ vs → v.Past.length ≤ 140737488355328 := fun v hv => by have := (hb.2 v hv).1; have := pow5 hb.1; omega
  unfold law14_QueueDrop
  rw [law14_awake_eq, hvs, hrs]
  simp only [Option.bind_some]
  rw [queue_Drop_eq (by omega) (by omega)]
  simp only [Option.bind_some]
  refine loopF_inv (fun (v : Int × Int) => 0 ≤ v.2 ∧ v.2 ≤ (vs.length : Int) ∧ v.1 = (((vs.take v.2.toNat).filter fun v => ownP rs v.Key).length : Int)) (fun v => ((vs.length : Int) - v.2).toNat) (fun _ => some true) ?_ FU (0, 0) ⟨Int.le_refl _, by simp, by simp⟩ (by have := FU_big; simp only; omega)
  rintro again ⟨k, w⟩ ⟨h1, h2, h3⟩ hag
  simp only at h1 h2 h3
  obtain ⟨i, rfl⟩ : ∃ i : Nat, w = i := ⟨w.toNat, by omega⟩
  simp only [Int.toNat_natCast] at h3
  have hk : k ≤ 14 := by
    have := List.length_filter_le (fun v : Api_Version => ownP rs v.Key) (vs.take i)
    rw [List.length_take] at this
    omega
  unfold law14_QueueDrop_l2
  simp only
  by_cases c : (i : Int) < (vs.length : Int)
  · have hi : i < vs.length := by omega
    rw [if_pos (by simpa using c)]
    have e : IntKind.wrap .i64 ((i : Int) + 1) = ((i + 1 : Nat) : Int) := by rw [wrap64 (by omega) (by omega)]; omega
    have hk4 : law14_QueueDrop_k4 vs (vs.filter fun v => ownP rs v.Key) again (k, (i : Int)) (ownP rs vs[i].Key) = some true := by
      unfold law14_QueueDrop_k4 law14_QueueDrop_k3
      have hgo : ∀ k', k' = ((((vs.take (i + 1)).filter fun v => ownP rs v.Key).length : Nat) : Int) → again (k', IntKind.wrap .i64 ((i : Int) + 1)) = some true := fun k' hk' => by
        rw [e]
        exact hag _ ⟨by simp only; omega, by simp only; omega, by simp only [Int.toNat_natCast]; exact hk'⟩ (by simp only; omega)
      rw [take_filter_snoc hi] at hgo
      cases ho : ownP rs vs[i].Key with
      | false =>
        rw [ho] at hgo
        simp only [Bool.not_false, if_true]
        exact hgo k (by simpa using h3)
      | true =>
        rw [ho] at hgo
        have hat := filter_at (p := fun v : Api_Version => ownP rs v.Key) hi ho
        have hlt := (List.getElem?_eq_some_iff.1 hat).1
        simp only [Bool.not_true, Bool.false_eq_true, if_false]
        rw [if_neg (by simp; omega), h3, idx_at hlt]
        rw [List.getElem?_eq_getElem hlt] at hat
        simp only [Option.bind_some, idx_at hi, Option.some.inj hat]
        rw [ref06_Same_eq (hvb _ (List.getElem_mem hi))]
        simp only [Option.bind_some, decide_true, Bool.not_true, Bool.false_eq_true, if_false]
        rw [wrap64 (by omega) (by omega)]
        exact hgo _ (by simp)
    refine loopF_inv (fun (v : Bool × Int) => 0 ≤ v.2 ∧ v.2 ≤ (rs.length : Int) ∧ v.1 = (rs.take v.2.toNat).any fun r => hasP r vs[i].Key) (fun v => ((rs.length : Int) - v.2).toNat) (fun _ => some true) ?_ FU (false, 0) ⟨Int.le_refl _, by simp, by simp⟩ (by have := FU_big; simp only; omega)
    rintro again2 ⟨f, q⟩ ⟨h4, h5, h6⟩ hag2
    simp only at h4 h5 h6
    obtain ⟨j, rfl⟩ : ∃ j : Nat, q = j := ⟨q.toNat, by omega⟩
    simp only [Int.toNat_natCast] at h6
    unfold law14_QueueDrop_l5
    simp only
    by_cases c2 : (j : Int) < (rs.length : Int)
    · have hj : j < rs.length := by omega
      rw [if_pos (by simpa using c2), wrap64 (by omega) (by omega)]
      have htk : (rs.take (j + 1)).any (fun r => hasP r vs[i].Key) = (f || hasP rs[j] vs[i].Key) := by
        rw [List.take_add_one, List.getElem?_eq_getElem hj, List.any_append, h6]; simp
      have hgo : ∀ b, b = (f || hasP rs[j] vs[i].Key) → again2 (b, (j : Int) + 1) = some true := fun b hb => by
        refine hag2 _ ⟨by simp only; omega, by simp only; omega, ?_⟩ (by simp only; omega)
        simp only [show ((j : Int) + 1).toNat = j + 1 by omega]
        rw [htk, hb]
      cases f with
      | true => simp only [if_true]; exact hgo _ (by simp)
      | false =>
        simp only [Bool.false_eq_true, if_false, idx_at hi, idx_at hj, Option.bind_some, seq_eq]
        have hh : hasP rs[j] vs[i].Key = (!slt vs[i].Key rs[j].From && (decide (rs[j].To = ByteArray.empty) || slt vs[i].Key rs[j].To)) := rfl
        cases hs : slt vs[i].Key rs[j].From with
        | true => simp only [Bool.not_true, Bool.false_eq_true, if_false]; exact hgo _ (by simp [hh, hs])
        | false =>
          simp only [Bool.not_false, if_true]
          by_cases ht : rs[j].To = ByteArray.empty
          · rw [if_pos (by simpa using ht)]; exact hgo _ (by simp [hh, hs, ht])
          · rw [if_neg (by simpa using ht)]; exact hgo _ (by simp [hh, hs, ht])
    · rw [if_neg (by simpa using c2), h6, show j = rs.length by omega, List.take_length]
      exact hk4
  · rw [if_neg (by simpa using c)]
    have : i = vs.length := by omega
    subst this
    rw [List.take_length] at h3
    unfold law14_QueueDrop_k1
    rw [queue_Drop_eq (by omega) (by simp)]
    simp only [Option.bind_some]
    have hall : (vs.filter fun v => ownP [Api_Range.mk ByteArray.empty ByteArray.empty] v.Key) = vs := by
      refine List.filter_eq_self.2 fun v _ => ?_
      simp [ownP, hasP, slt_empty]
    rw [hall, ref12_Same_eq (by omega) hvb]
    simp [h3]
end Go.Ark
