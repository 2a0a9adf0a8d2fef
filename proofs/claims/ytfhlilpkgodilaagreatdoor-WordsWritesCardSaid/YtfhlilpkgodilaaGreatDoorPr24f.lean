import Derived.Test.YtfhlilpkgodilaaGreatDoorPr24e
/- Plain laws: the document's answer for words: steps, lines, texts. Conditions: none but those that stand in each law. -/
namespace Go.Ark
open Go Go.Ab Go.RowKit

theorem r24_kind {w : List ByteArray} {k : Nat} (hk : 1 ≤ k ∧ k < 13) (h0 : idx w 0 = some (ofL (nameL k))) : ref24_step w = ref24_step_k1 w (k : Int) := by
  unfold ref24_step ref24_names
  rw [Option.bind_some]
  refine loopF_inv (body := ref24_step_l10 w _) (fun v => ∃ i : Nat, v.2 = i ∧ 1 ≤ i ∧ i ≤ 13 ∧ v.1 = if k < i then (k : Int) else 0) (fun v => (13 - v.2).toNat) (fun _ => ref24_step_k1 w (k : Int)) ?_ FU _ ⟨1, rfl, by omega, by omega, by rw [if_neg (by omega)]⟩ (by simp [FU])
  rintro again ⟨a, i⟩ ⟨j, h1, h2, h3, h4⟩ hag
  simp only at h1 h2 h3 h4
  subst h1
  unfold ref24_step_l10
  by_cases c : (j : Int) < 13
  · obtain ⟨x, hx, hs⟩ := r24_names_cmp k hk.2 j (by omega) hk.1 h2
    rw [if_pos (decide_eq_true c), h0, Option.bind_some, hx, Option.bind_some, hs]
    dsimp only
    rw [wrap64 (by omega) (by omega)]
    by_cases e : j = k
    · rw [decide_eq_true e, if_pos rfl]
      exact hag _ ⟨j + 1, by simp, by omega, by omega, by simp only; rw [if_pos (by omega), e]⟩ (by simp only; omega)
    · rw [decide_eq_false e, if_neg (by simp)]
      refine hag _ ⟨j + 1, by simp, by omega, by omega, ?_⟩ (by simp only; omega)
      simp only
      rw [h4]
      by_cases q : k < j
      · rw [if_pos q, if_pos (by omega)]
      · rw [if_neg q, if_neg (by omega)]
  · have e : j = 13 := by omega
    subst e
    rw [if_neg (by simp)]
    dsimp only
    rw [h4, if_pos hk.2]

def argN (o : Api_Op) : List Int :=
  if o.Kind = 1 ∨ o.Kind = 2 ∨ o.Kind = 3 ∨ o.Kind = 4 ∨ o.Kind = 6 ∨ o.Kind = 7 then [o.Client] else if o.Kind = 5 then [o.Client, o.Site] else if o.Kind = 8 then [o.Site, o.To, o.At, o.How] else if o.Kind = 9 then [o.Site, o.To] else if o.Kind = 10 then [o.Site] else []
def argT (o : Api_Op) : List ByteArray :=
  if o.Kind = 1 then [o.Key, o.Value] else if o.Kind = 2 ∨ o.Kind = 3 then [o.Key] else if o.Kind = 6 then o.Keys else []

theorem r24_step_eq {o : Api_Op} (h : okOp o) : ref24_step (ofL (nameL o.Kind.toNat) :: wts (argW o)) = some ⟨canon o, true⟩ := by
  obtain ⟨k, hk⟩ : ∃ k : Nat, o.Kind = k := ⟨o.Kind.toNat, by have := h.k; omega⟩
  have hk1 : 1 ≤ k := by have := h.k; omega
  have hk2 : k < 13 := by have := h.k; omega
  have hkn : o.Kind.toNat = k := by rw [hk]; rfl
  have hks := h.ks
  have q1 := h.key; have q2 := h.val
  rw [hkn, r24_kind ⟨hk1, hk2⟩ rfl]
  by_cases h12 : k = 12
  · subst h12
    have hr := h.row (by rw [hk]; rfl)
    have hrl := (rowWds_sz hr).2
    have ea : wts (argW o) = wts (rowWds o.Row) := by simp [argW, hk]
    have hsub : sub (ofL (nameL 12) :: wts (rowWds o.Row)) 1 ((ofL (nameL 12) :: wts (rowWds o.Row)).length : Int) = some (wts (rowWds o.Row)) := by
      unfold sub
      rw [if_pos ⟨by omega, by simp; omega, by omega⟩]
      simp
    have hc : canon o = ⟨12, 0, 0, 0, 0, 0, ByteArray.empty, ByteArray.empty, [], o.Row⟩ := by simp [canon, hk]
    unfold ref24_step_k1
    rw [if_pos (by decide), ea, hsub, Option.bind_some, r24_row_read hr, hc]
    rfl
  · have ha : argW o = (argN o).map numW ++ (argT o).map txtW := by
      match k, hk1, hk2, h12 with
      | 1, _, _, _ => simp [argW, argN, argT, hk]
      | 2, _, _, _ => simp [argW, argN, argT, hk]
      | 3, _, _, _ => simp [argW, argN, argT, hk]
      | 4, _, _, _ => simp [argW, argN, argT, hk]
      | 5, _, _, _ => simp [argW, argN, argT, hk]
      | 6, _, _, _ => simp [argW, argN, argT, hk]
      | 7, _, _, _ => simp [argW, argN, argT, hk]
      | 8, _, _, _ => simp [argW, argN, argT, hk]
      | 9, _, _, _ => simp [argW, argN, argT, hk]
      | 10, _, _, _ => simp [argW, argN, argT, hk]
      | 11, _, _, _ => simp [argW, argN, argT, hk]
      | 12, _, _, h12 => exact absurd rfl h12
    have hNl : (argN o).length = r24_numbers k := by
      match k, hk1, hk2, h12 with
      | 1, _, _, _ => simp [argN, hk, r24_numbers]
      | 2, _, _, _ => simp [argN, hk, r24_numbers]
      | 3, _, _, _ => simp [argN, hk, r24_numbers]
      | 4, _, _, _ => simp [argN, hk, r24_numbers]
      | 5, _, _, _ => simp [argN, hk, r24_numbers]
      | 6, _, _, _ => simp [argN, hk, r24_numbers]
      | 7, _, _, _ => simp [argN, hk, r24_numbers]
      | 8, _, _, _ => simp [argN, hk, r24_numbers]
      | 9, _, _, _ => simp [argN, hk, r24_numbers]
      | 10, _, _, _ => simp [argN, hk, r24_numbers]
      | 11, _, _, _ => simp [argN, hk, r24_numbers]
      | 12, _, _, h12 => exact absurd rfl h12
    have hNok : ∀ x, x ∈ argN o → okN x := by
      have e1 := h.cl; have e2 := h.si; have e3 := h.to; have e4 := h.at'; have e5 := h.how
      unfold argN
      repeat' split
      all_goals simp [*]
    have hTok : (argT o).length ≤ 8 ∧ ∀ s, s ∈ argT o → s.size ≤ 32 := by
      unfold argT
      repeat' split
      · exact ⟨by simp, by simp [q1, q2]⟩
      · exact ⟨by simp, by simp [q1]⟩
      · exact hks
      · exact ⟨by simp, by simp⟩
    have hread := r24_args (w0 := ofL (nameL k)) hk2 hNl hNok hTok
    have hwts : wts (argW o) = wts ((argN o).map numW) ++ wts ((argT o).map txtW) := by rw [ha]; simp [wts]
    have hlen : (ofL (nameL k) :: wts (argW o)).length = 1 + r24_numbers k + (argT o).length := by rw [hwts, ← hNl]; simp [wts]; omega
    have hnk := r24_numbers_eq k hk2
    have k2 : ref24_step_k2 (ofL (nameL k) :: wts (argW o)) (k : Int) false = ref24_step_k4 (k : Int) (argN o ++ List.replicate (4 - (argN o).length) 0) (argT o) := by
      unfold ref24_step_k2
      rw [if_neg (by simp), hwts]
      exact hread
    have hTn : k ≠ 6 → ∃ x, aidx 13 ([0, 2, 1, 1, 0, 0, 0, 0, 0, 0, 0, 0, 0] : List Int) (k : Int) = some x ∧ x = ((argT o).length : Int) := by
      intro h6
      match k, hk1, hk2, h12, h6 with
      | 1, _, _, _, _ => exact ⟨2, rfl, by simp [argT, hk]⟩
      | 2, _, _, _, _ => exact ⟨1, rfl, by simp [argT, hk]⟩
      | 3, _, _, _, _ => exact ⟨1, rfl, by simp [argT, hk]⟩
      | 4, _, _, _, _ => exact ⟨0, rfl, by simp [argT, hk]⟩
      | 5, _, _, _, _ => exact ⟨0, rfl, by simp [argT, hk]⟩
      | 6, _, _, _, h6 => exact absurd rfl h6
      | 7, _, _, _, _ => exact ⟨0, rfl, by simp [argT, hk]⟩
      | 8, _, _, _, _ => exact ⟨0, rfl, by simp [argT, hk]⟩
      | 9, _, _, _, _ => exact ⟨0, rfl, by simp [argT, hk]⟩
      | 10, _, _, _, _ => exact ⟨0, rfl, by simp [argT, hk]⟩
      | 11, _, _, _, _ => exact ⟨0, rfl, by simp [argT, hk]⟩
      | 12, _, _, h12, _ => exact absurd rfl h12
    have hk1' : ref24_step_k1 (ofL (nameL k) :: wts (argW o)) (k : Int) = ref24_step_k4 (k : Int) (argN o ++ List.replicate (4 - (argN o).length) 0) (argT o) := by
      have hTl := hTok.1
      unfold ref24_step_k1
      rw [if_neg (by rw [decide_eq_true_eq]; omega), if_neg (by rw [decide_eq_true_eq]; omega)]
      by_cases h6 : k = 6
      · subst h6
        rw [if_neg (by decide), hnk.1, Option.bind_some, wrap64 (by omega) (by omega), decide_eq_false (by rw [hlen]; omega), k2]
      · obtain ⟨x, hx, hxe⟩ := hTn h6
        have hne : (!decide ((k : Int) = 6)) = true := by rw [decide_eq_false (by omega)]; rfl
        rw [if_pos hne, hnk.1, Option.bind_some, hx, Option.bind_some, wrap64 (n := 1 + ((r24_numbers k : Nat) : Int)) (by omega) (by omega), wrap64 (by omega) (by omega), hxe]
        have hle : (!decide (((ofL (nameL k) :: wts (argW o)).length : Int) = 1 + ((r24_numbers k : Nat) : Int) + ((argT o).length : Int))) = false := by
          rw [decide_eq_true (by rw [hlen]; omega)]; rfl
        rw [hle, if_neg (by simp), Option.bind_some, wrap64 (n := 1 + ((r24_numbers k : Nat) : Int)) (by omega) (by omega), decide_eq_false (by rw [hlen]; omega), k2]
    rw [hk1']
    match k, hk1, hk2, h12 with
    | 1, _, _, _ => simp [argN, argT, hk, ref24_step_k4, ref24_step_k5, canon, aidx, idx]
    | 2, _, _, _ => simp [argN, argT, hk, ref24_step_k4, ref24_step_k5, ref24_step_k6, canon, aidx, idx]
    | 3, _, _, _ => simp [argN, argT, hk, ref24_step_k4, ref24_step_k5, ref24_step_k6, canon, aidx, idx]
    | 4, _, _, _ => simp [argN, hk, ref24_step_k4, ref24_step_k5, ref24_step_k6, ref24_step_k7, canon, aidx]
    | 5, _, _, _ => simp [argN, hk, ref24_step_k4, ref24_step_k5, ref24_step_k6, ref24_step_k7, canon, aidx]
    | 6, _, _, _ => simp [argN, argT, hk, ref24_step_k4, ref24_step_k5, ref24_step_k6, ref24_step_k7, canon, aidx]; omega
    | 7, _, _, _ => simp [argN, hk, ref24_step_k4, ref24_step_k5, ref24_step_k6, ref24_step_k7, canon, aidx]
    | 8, _, _, _ => simp [argN, hk, ref24_step_k4, ref24_step_k5, ref24_step_k6, ref24_step_k7, canon, aidx]
    | 9, _, _, _ => simp [argN, hk, ref24_step_k4, ref24_step_k5, ref24_step_k6, ref24_step_k7, canon, aidx]
    | 10, _, _, _ => simp [argN, hk, ref24_step_k4, ref24_step_k5, ref24_step_k6, ref24_step_k7, canon, aidx]
    | 11, _, _, _ => simp [hk, ref24_step_k4, ref24_step_k5, ref24_step_k6, ref24_step_k7, canon]
    | 12, _, _, h12 => exact absurd rfl h12
end Go.Ark
