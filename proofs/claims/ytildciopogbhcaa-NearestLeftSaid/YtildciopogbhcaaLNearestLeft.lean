/- The plain law of NearestLeft: of what is left none tells of another; each that is left out some one tells of. Conditions: none but those that stand in each law. -/
import Derived.Test.YtildciopogbhcaaPlaw05
namespace Go.Ark
open Go Go.Ab Go.RowKit

theorem law05_NearestLeft_plain (l_0 : (List Law05_Write)) (h0 : l_0.length ≤ reachBytes ∧ ∀ x, x ∈ l_0 → wfLaw05_Write x) : law05_NearestLeft l_0 = some true := by
  obtain ⟨v, hv, h⟩ := law05_made_is h0
  have hlen := h.len
  have hal : (pastOf v).length ≤ 8 := h.plen fun _ hc => hc
  have hpo := pastOf_PO v
  unfold law05_NearestLeft
  rw [law05_awake_eq, hv]
  simp only [Option.bind_some]
  rw [law05_all_eq h]
  simp only [Option.bind_some]
  rw [h.reduce hpo.1 (by omega)]
  simp only [Option.bind_some]
  generalize pastOf v = p at hal hpo
  have hro := redP_PO hpo v
  have hrl : (redP p v).length ≤ p.length := List.length_filter_le _ _
  -- each that is left out some one tells of
  have hk1 : law05_NearestLeft_k1 true v p (redP p v) () = some true := by
    unfold law05_NearestLeft_k1
    refine (loopL (body := law05_NearestLeft_l3 true v p (redP p v)) p (fun (_ : Unit) i => i) (fun _ _ => some true) (fun _ _ => True) ?_ ?_ (s0 := ()) trivial (by omega))
    · intro again _ _
      unfold law05_NearestLeft_l3 law05_NearestLeft_k2
      simp
    · intro again i _ hi _ hag
      unfold law05_NearestLeft_l3
      rw [if_pos (by simpa using hi), idx_at hi]
      simp only [Option.bind_some]
      rw [ref04_Get_eq (by omega)]
      simp only [Option.bind_some]
      refine (loopL (body := law05_NearestLeft_l6 v p again (i : Int) (getP (redP p v) p[i].Key) p[i]) p (fun (s : Bool) k => (s, k)) (fun rest s => law05_NearestLeft_k5 again (i : Int) (getP (redP p v) p[i].Key) p[i] (s || rest.any fun x => decide (x ≠ p[i]) && tellsP v x p[i])) (fun _ _ => True) ?_ ?_ (s0 := false) trivial (by omega)).trans ?_
      · intro again2 s _
        unfold law05_NearestLeft_l6
        simp
      · intro again2 k s hk _ hag2
        have hf := (h.sv.find p[k]).2
        unfold law05_NearestLeft_l6
        simp only
        rw [if_pos (by simpa using hk), idx_at hk]
        simp only [Option.bind_some]
        rw [nearest_Find_eq (by omega)]
        simp only [Option.bind_some, idx_at hi]
        rw [ref04_Get_eq (by omega), wrap64 (by omega) (by omega)]
        simp only [Option.bind_some, ref03_Less_eq]
        rw [hag2 true trivial, hag2 s trivial, List.any_cons]
        by_cases c : k = i
        · subst c
          simp
        · have hne : p[k] ≠ p[i] := fun e => c ((sorted_inj hpo.1 hk hi).1 e)
          rw [if_pos (by simp; omega), decide_eq_true hne, Bool.true_and]
          unfold tellsP
          cases (findV v p[k]).2 with
          | false => simp
          | true =>
            simp only [if_true, Bool.true_and]
            cases lessP (getP (findV v p[k]).1.Past p[i].Key) p[i].Stamp <;> simp
      · show law05_NearestLeft_k5 again (i : Int) _ _ (false || toldP p v p[i]) = _
        unfold law05_NearestLeft_k5 law05_NearestLeft_k4
        rw [stampEq, wrap64 (by omega) (by omega), hag () trivial, Bool.false_or]
        have hm := List.getElem_mem hi
        have hiff := mem_getP hro.1 hro.2 (hpo.2 _ hm)
        cases ht : toldP p v p[i] with
        | true =>
          rw [decide_eq_false fun e => ?_]
          · rfl
          · have := (List.mem_filter.1 (hiff.2 e)).2
            rw [ht] at this; cases this
        | false =>
          rw [decide_eq_true (hiff.1 (List.mem_filter.2 ⟨hm, by rw [ht]; rfl⟩))]
          rfl
  -- of what is left none tells of another
  refine (loopL (body := law05_NearestLeft_l7 true v p (redP p v)) (redP p v) (fun (_ : Unit) i => i) (fun _ _ => some true) (fun _ _ => True) ?_ ?_ (s0 := ()) trivial (by omega))
  · intro again _ _
    unfold law05_NearestLeft_l7
    rw [if_neg (by simp)]
    exact hk1
  · intro again i _ hi _ hag
    unfold law05_NearestLeft_l7
    rw [if_pos (by simpa using hi), idx_at hi]
    simp only [Option.bind_some]
    rw [nearest_Find_eq (by omega)]
    simp only [Option.bind_some]
    have hf := (h.sv.find (redP p v)[i]).2
    have hmi := List.getElem_mem hi
    refine (loopL (body := law05_NearestLeft_l10 (redP p v) again (i : Int) (findV v (redP p v)[i])) (redP p v) (fun (s : Bool) k => (s, k)) (fun _ _ => some true) (fun _ s => s = (findV v (redP p v)[i]).2) ?_ ?_ (s0 := (findV v (redP p v)[i]).2) rfl (by omega))
    · intro again2 s _
      unfold law05_NearestLeft_l10 law05_NearestLeft_k9 law05_NearestLeft_k8
      simp only [Int.lt_irrefl, decide_false, Bool.false_eq_true, if_false]
      rw [wrap64 (by omega) (by omega)]
      exact hag () trivial
    · intro again2 k s hk hs hag2
      subst hs
      have hmk := List.getElem_mem hk
      unfold law05_NearestLeft_l10
      simp only
      rw [if_pos (by simpa using hk), idx_at hk]
      simp only [Option.bind_some]
      rw [ref04_Get_eq (by omega), wrap64 (by omega) (by omega)]
      simp only [Option.bind_some, ref03_Less_eq]
      have hag3 := hag2 _ rfl
      cases hi2 : (findV v (redP p v)[i]).2 with
      | false =>
        rw [hi2] at hag3
        simp only [Bool.false_eq_true, if_false]
        exact hag3
      | true =>
        rw [hi2] at hag3
        simp only [if_true]
        by_cases c : k = i
        · subst c
          rw [if_neg (by simp)]
          exact hag3
        · have hne : (redP p v)[i] ≠ (redP p v)[k] := fun e => c ((sorted_inj hro.1 hi hk).1 e).symm
          rw [if_pos (by simp; omega)]
          cases hl : lessP (getP (findV v (redP p v)[i]).1.Past (redP p v)[k].Key) (redP p v)[k].Stamp with
          | true =>
            simp only [Bool.not_true, Bool.false_eq_true, if_false]
            exact hag3
          | false =>
            exfalso
            have h1 := (List.mem_filter.1 hmk).2
            have : toldP p v (redP p v)[k] = true := List.any_eq_true.2 ⟨(redP p v)[i], redP_sub hmi, by
              rw [Bool.and_eq_true]
              exact ⟨decide_eq_true hne, by unfold tellsP; rw [hi2, hl]; rfl⟩⟩
            rw [this] at h1; cases h1
end Go.Ark
