/- The plain law of QueueLeft: whatever is left misses something that is not there; what comes out misses nothing. Conditions: none but those that stand in each law. -/
import Derived.Test.YtfckeeglbhlnmaaPlaw14
namespace Go.Ark
open Go Go.Ab Go.RowKit

theorem miss_covers {past h : List Api_Dep} {own : List Api_Range} (hm : missP past h own = []) : coversP h (past.filter fun d => ownP own d.Key) = true := by
  refine List.all_eq_true.2 fun d hd => ?_
  cases hl : lessP (getP h d.Key) d.Stamp with
  | false => rfl
  | true =>
    have : d ∈ missP past h own := List.mem_filter.2 ⟨hd, hl⟩
    rw [hm] at this; simp at this

theorem queueLeft_plain {l : List Law14_Write} (out which : Int) (hl : l.length ≤ 9223372036854775807) (hsaw : ∀ x, x ∈ l → x.Saw.length ≤ 9223372036854775807 ∧ ∀ y, y ∈ x.Saw → -9223372036854775808 ≤ y ∧ y ≤ 9223372036854775807) :
    law14_QueueLeft l out which = some true := by
  obtain ⟨vs, hvs, _, hb⟩ := made_ind (fun _ => True) trivial (fun _ _ _ _ _ _ _ _ _ _ _ _ => trivial) hl hsaw
  obtain ⟨rs, hrs, hrl⟩ := law14_ranges_tot which
  unfold law14_QueueLeft
  have hv14 := hb.1
  rw [law14_awake_eq, hvs, hrs]
  simp only [Option.bind_some]
  have hvb : ∀ v, v ∈ vs → v.Past.length ≤ 6103515625 ∧ v.Key.size ≤ 1 := fun v hv => ⟨Nat.le_trans (hb.2 v hv).1 (pow5 hb.1), (hb.2 v hv).2.1⟩
  -- what is left at the end
  have hk4 : ∀ (rest : List Api_Version) (h : List Api_Dep), rest.length ≤ 14 → (∀ v, v ∈ rest → v ∈ vs) → sortedP h → h.length ≤ 15 → (∀ v, v ∈ rest → missP v.Past h rs ≠ []) → law14_QueueLeft_k2 true rs (rest, h) = some true := by
    intro rest h hr hin hs hh hmiss
    unfold law14_QueueLeft_k2
    refine loopF_inv (fun (v : Int) => 0 ≤ v ∧ v ≤ (rest.length : Int)) (fun v => ((rest.length : Int) - v).toNat) (fun _ => some true) ?_ FU 0 ⟨Int.le_refl _, by omega⟩ (by have := FU_big; omega)
    rintro again v ⟨h1, h2⟩ hag
    unfold law14_QueueLeft_l4
    simp only
    by_cases c : v < (rest.length : Int)
    · obtain ⟨i, rfl⟩ : ∃ i : Nat, v = i := ⟨v.toNat, by omega⟩
      have hi : i < rest.length := by omega
      have hm := List.getElem_mem hi
      have hp := (hvb _ (hin _ hm)).1
      rw [if_pos (by simpa using c), idx_at hi]
      simp only [Option.bind_some]
      rw [queue_Misses_eq (by omega) hs (by omega) (by omega)]
      simp only [Option.bind_some]
      cases hx : missP rest[i].Past h rs with
      | nil => exact absurd hx (hmiss _ hm)
      | cons d ds =>
        have hmem : d ∈ missP rest[i].Past h rs := by rw [hx]; simp
        have hless : lessP (getP h d.Key) d.Stamp = true := (List.mem_filter.1 hmem).2
        rw [if_neg (by simp; omega)]
        have e0 : idx (d :: ds) 0 = some d := by simp [idx]
        simp only [e0, Option.bind_some, ref04_Get_eq (show h.length ≤ 140737488355328 by omega), ref03_Less_eq, hless, Bool.not_true, Bool.false_eq_true, if_false]
        rw [wrap64 (by omega) (by omega)]
        exact hag _ ⟨by omega, by omega⟩ (by omega)
    · rw [if_neg (by simpa using c)]
      rfl
  -- what comes out
  have hk2 : ∀ ws : List Api_Version, ws.length ≤ 14 → (∀ v, v ∈ ws → v ∈ vs) → law14_QueueLeft_k1 true rs ws = some true := by
    intro ws hw hin
    unfold law14_QueueLeft_k1
    refine loopF_inv (fun (v : List Api_Version × List Api_Dep × Int) => 0 ≤ v.2.2 ∧ (v.1.length : Int) + v.2.2 ≤ 14 ∧ (∀ x, x ∈ v.1 → x ∈ vs) ∧ sortedP v.2.1 ∧ (v.2.1.length : Int) ≤ v.2.2) (fun v => (15 - v.2.2).toNat) (fun _ => some true) ?_ FU (ws, [], 0)
      ⟨Int.le_refl _, by simp only; omega, hin, List.Pairwise.nil, by simp⟩ (by have := FU_big; simp only; omega)
    rintro again ⟨rest, h, i⟩ ⟨h1, h2, h3, h4, h5⟩ hag
    simp only at h1 h2 h3 h4 h5
    unfold law14_QueueLeft_l5
    simp only
    rw [if_pos (by simp; omega)]
    rcases queue_Next_eq (l := rest) (h := h) (own := rs) (by omega) (fun v hv => by have := (hvb v (h3 v hv)).1; omega) h4 (by omega) (by omega) with ⟨j, hj, hfst, hm, he⟩ | ⟨hmiss, he⟩
    · rw [he]
      simp only [Option.bind_some, Bool.not_true, Bool.false_eq_true, if_false]
      have hmem := h3 _ (List.getElem_mem hj)
      obtain ⟨hp, hk⟩ := hvb _ hmem
      rw [ref04_Only_eq (by omega) (by omega)]
      simp only [Option.bind_some]
      rw [ref04_Covers_eq (by omega) (Nat.le_trans (List.length_filter_le _ _) (by omega)), miss_covers hm]
      simp only [Option.bind_some, Bool.not_true, Bool.false_eq_true, if_false]
      rw [ref04_Add_eq (by omega) (by simp only; omega), wrap64 (by omega) (by omega)]
      simp only [Option.bind_some]
      have h8 := addP_length h (Api_Dep.mk rest[j].Key rest[j].Stamp)
      refine hag _ ⟨by simp only; omega, by simp only [List.length_append, List.length_take, List.length_drop]; omega, fun x hx => ?_, addP_sorted h4, by simp only; omega⟩ (by simp only; omega)
      rcases List.mem_append.1 hx with hx | hx
      · exact h3 x (List.mem_of_mem_take hx)
      · exact h3 x (List.mem_of_mem_drop hx)
    · rw [he]
      simp only [Option.bind_some, Bool.not_false, if_true]
      exact hk4 rest h (by omega) h3 h4 (by omega) hmiss
  refine loopF_inv (fun (v : Int × List Api_Version) => 0 ≤ v.1 ∧ v.1 ≤ (vs.length : Int) ∧ (v.2.length : Int) ≤ v.1 ∧ ∀ x, x ∈ v.2 → x ∈ vs) (fun v => ((vs.length : Int) - v.1).toNat) (fun _ => some true) ?_ FU (0, [])
    ⟨Int.le_refl _, by simp, by simp, fun x h => by simp at h⟩ (by have := FU_big; simp only; omega)
  rintro again ⟨v, ws⟩ ⟨h1, h2, h3, h4⟩ hag
  simp only at h1 h2 h3 h4
  unfold law14_QueueLeft_l6
  simp only
  by_cases c : v < (vs.length : Int)
  · rw [if_pos (by simpa using c), wrap64 (n := v + 1) (by omega) (by omega)]
    split
    · rw [wrap64 (n := (vs.length : Int) - 1) (by omega) (by omega), wrap64 (by omega) (by omega), idx_int (by omega) (by omega)]
      simp only [Option.bind_some]
      rw [app_ok (by simp; omega) (by simp; omega)]
      simp only [Option.bind_some]
      refine hag _ ⟨by simp only; omega, by simp only; omega, by simp; omega, fun x hx => ?_⟩ (by simp only; omega)
      rcases List.mem_append.1 hx with hx | hx
      · exact h4 x hx
      · simp at hx; subst hx; exact List.getElem_mem _
    · exact hag _ ⟨by simp only; omega, by simp only; omega, by simp only; omega, h4⟩ (by simp only; omega)
  · rw [if_neg (by simpa using c)]
    exact hk2 ws (by omega) h4

theorem law14_QueueLeft_plain (l_0 : (List Law14_Write)) (out_1 : Int) (which_2 : Int) (h0 : l_0.length ≤ maxLen ∧ ∀ x, x ∈ l_0 → wfLaw14_Write x) (_h1 : (Lit.int .i64 out_1).wf = true) (_h2 : (Lit.int .i64 which_2).wf = true) : law14_QueueLeft l_0 out_1 which_2 = some true :=
  queueLeft_plain out_1 which_2 (Nat.le_trans h0.1 (by decide)) fun x hx => ⟨Nat.le_trans (h0.2 x hx).2.2.1 (by decide), fun y hy => bounds_i64 ((h0.2 x hx).2.2.2 y hy)⟩
end Go.Ark
