import Derived.Test.YtfhlilpkgodilaaGreatDoorPr24f
/- Plain laws: the document's answer for words: which steps have lines, and that both answers agree. Conditions: none but those that stand in each law. -/
namespace Go.Ark
open Go Go.Ab Go.RowKit

theorem r24_lines_loop {s : ByteArray} (hs : s.size ≤ 100000) {A : List UInt8} (hA : ∀ b, b ∈ A → b ≠ 10) (hb0 : bl s = A ++ [10]) : ∀ (n : Nat) (r done : List UInt8), A = done ++ r → r.length + 1 < n →
    loopF (ref24_lines_l2 s) n (0, (done.length : Int), ([] : List ByteArray)) = some [ofL A, ofL []] := by
  intro n
  induction n with
  | zero => intro r done _ h; omega
  | succ n ih =>
    intro r done hd h
    have hz : s.size = A.length + 1 := by rw [← bl_len, hb0]; simp
    have hdl : A.length = done.length + r.length := by rw [hd]; simp
    rw [loopF, ref24_lines_l2]
    cases r with
    | nil =>
      have e0 : A = done := by rw [hd]; simp
      have hc : sidx s (done.length : Int) = some 10 := by rw [sidx_bl, hb0, e0]; simp
      have hsub : ssub s 0 (done.length : Int) = some (ofL A) := by
        rw [ssub_bl s done.length (by omega), hb0, e0]
        simp
      have hw : IntKind.wrap .i64 ((done.length : Int) + 1) = (s.size : Int) := by
        simp only [List.length_nil] at hdl
        rw [wrap64 (by omega) (by omega), hz]; omega
      have hlast : ssub s (s.size : Int) (s.size : Int) = some (ofL []) := by
        rw [ssub_from s s.size (Nat.le_refl _)]
        rw [List.drop_of_length_le (by rw [bl_len]; exact Nat.le_refl _)]
      rw [if_pos (by simp at hdl; simp; omega), hc, Option.bind_some, if_pos (by decide)]
      dsimp only
      rw [hsub, Option.bind_some, app16 (by simp), Option.bind_some, hw]
      cases n with
      | zero => simp at h
      | succ n =>
        rw [loopF, ref24_lines_l2, if_neg (by simp)]
        unfold ref24_lines_k1
        dsimp only
        rw [hlast, Option.bind_some, app16 (by simp), Option.bind_some]
        rfl
    | cons c r =>
      have hc : sidx s (done.length : Int) = some c := by rw [sidx_bl, hb0, hd]; simp
      have hne := hA c (by rw [hd]; simp)
      have hcn : ¬ (c.toNat : Int) = 10 := fun e => hne (by rw [← UInt8.toNat_inj]; exact_mod_cast e)
      have hw : IntKind.wrap .i64 ((done.length : Int) + 1) = ((done ++ [c]).length : Int) := by
        simp only [List.length_cons] at hdl
        rw [wrap64 (by omega) (by omega)]; simp
      rw [if_pos (by simp only [List.length_cons] at hdl; simp; omega), hc, Option.bind_some, if_neg (by simpa using hcn)]
      dsimp only
      rw [hw]
      exact ih r (done ++ [c]) (by rw [hd]; simp) (by simp only [List.length_cons] at h; omega)
theorem r24_lines_eq {A : List UInt8} (hA : ∀ b, b ∈ A → b ≠ 10) (hl : A.length ≤ 90000) : ref24_lines (ofL (A ++ [10])) = some [ofL A, ofL []] := by
  unfold ref24_lines
  exact r24_lines_loop (s := ofL (A ++ [10])) (by rw [ofL_size]; simp; omega) hA (bl_ofL _) FU A [] rfl (by unfold FU; omega)

theorem opWd_R {o : Api_Op} (h : okOp o) : ∀ w, w ∈ argW o → wdR w := by
  have k1 := numW_R h.cl; have k2 := numW_R h.si; have k3 := numW_R h.to; have k4 := numW_R h.at'; have k5 := numW_R h.how
  have q1 := txtW_R o.Key; have q2 := txtW_R o.Value
  unfold argW
  split
  · simp [k1, q1, q2]
  split
  · simp [k1, q1]
  split
  · simp [k1]
  split
  · simp [k1, k2]
  split
  · intro w hw
    rcases List.mem_cons.1 hw with rfl | hw
    · exact k1
    · obtain ⟨s, _, rfl⟩ := List.mem_map.1 hw
      exact txtW_R s
  split
  · simp [k2, k3, k4, k5]
  split
  · simp [k2, k3]
  split
  · simp [k2]
  split
  · rename_i hk
    have hr := h.row hk
    intro w hw
    simp only [rowWds, List.mem_append, List.mem_cons, List.mem_map] at hw
    rcases hw with hw | rfl | ⟨p, hp, rfl⟩
    · have : ∀ (l : List (Int × Api_Range)), (∀ x, x ∈ l → okN x.1) → ∀ w, w ∈ ownWds l → wdR w := by
        intro l
        induction l with
        | nil => intro _ w hw; simp [ownWds] at hw
        | cons x l ih =>
          intro hx w hw
          obtain ⟨o, r⟩ := x
          cases l with
          | nil =>
            have : w = numW o := by simpa [ownWds] using hw
            subst this
            exact numW_R (hx (o, r) (by simp))
          | cons x l =>
            simp only [ownWds, List.mem_cons] at hw
            rcases hw with rfl | rfl | hw
            · exact numW_R (hx (o, r) (by simp))
            · exact txtW_R _
            · exact ih (fun y hy => hx y (List.mem_cons_of_mem _ hy)) w hw
      exact this _ (fun x hx => (zip_ok hr x hx).1) w hw
    · intro _; exact runeOK_of r24_dash.2.2
    · have := parOK_of hr p hp
      simp only [parOK, Bool.and_eq_true, decide_eq_true_eq] at this
      unfold parW
      split
      · intro _; exact runeOK_of r24_dash.2.1
      · exact numW_R ⟨by omega, by omega⟩
  · simp

theorem r24_parse_one {o : Api_Op} (h : okOp o) : ref24_Parse (ofL (bodyL o ++ [10])) = some ([canon o], 0) := by
  obtain ⟨k, hk⟩ : ∃ k : Nat, o.Kind = k := ⟨o.Kind.toNat, by have := h.k; omega⟩
  have hk1 : 1 ≤ k := by have := h.k; omega
  have hk2 : k < 13 := by have := h.k; omega
  obtain ⟨_, ⟨hn1, hn2⟩, hn3, hn4⟩ := (name_all k hk2).2 hk1
  obtain ⟨ha, hal⟩ := argW_ok h
  have hkn : o.Kind.toNat = k := by rw [hk]; rfl
  have hlen := body_len h
  have hb : bodyL o = wdsL (([], ⟨false, nameL k⟩) :: (argW o).map fun w => ([32], w)) := by
    unfold bodyL
    rw [hkn, spW_wds]
    simp [wdsL, wdL]
  have hok : wdsOK (([], ⟨false, nameL k⟩) :: (argW o).map fun w => ([32], w)) :=
    ⟨fun _ => ⟨hn1, hn2⟩, by simp, by simp, wdsOK_map fun w hw => (ha w hw).1⟩
  have hR : ∀ x, x ∈ (([], ⟨false, nameL k⟩) :: (argW o).map fun w => (([32] : List UInt8), w)) → wdR x.2 := by
    intro x hx
    rcases List.mem_cons.1 hx with rfl | hx
    · intro _; exact runeOK_of (r24_name_all k hk2 hk1)
    · obtain ⟨w, hw, rfl⟩ := List.mem_map.1 hx
      exact opWd_R h w hw
  have hw := r24_Words_eq hok hR (by rw [← hb]; omega) (by simp; omega)
  rw [← hb] at hw
  have hst := r24_step_eq h
  rw [hkn] at hst
  have hws : (([], ⟨false, nameL k⟩) :: (argW o).map fun w => (([32] : List UInt8), w)).map (fun x => ofL (wdW x.2)) = ofL (nameL k) :: wts (argW o) := by
    rw [List.map_cons, List.map_map]; rfl
  rw [hws] at hw
  obtain ⟨c, t, hct⟩ : ∃ c t, nameL k = c :: t := by
    cases hnk : nameL k with
    | nil => exact absurd hnk hn1
    | cons c t => exact ⟨c, t, rfl⟩
  have hcg := (grB_iff c).1 (hn2 c (by rw [hct]; simp))
  have hc35 : ¬ (c.toNat : Int) = 35 := fun e => hn4 (by rw [hct, show c = 35 by rw [← UInt8.toNat_inj]; exact_mod_cast e]; rfl)
  have hbc : bodyL o = c :: (t ++ spW (argW o)) := by unfold bodyL; rw [hkn, hct]; rfl
  have hsil : ref24_silent (ofL (bodyL o)) = some false := by
    have h0 : sidx (ofL (bodyL o)) 0 = some c := by
      show sidx _ ((0 : Nat) : Int) = _
      rw [sidx_bl, bl_ofL, hbc]
      rfl
    obtain ⟨m, hm⟩ : ∃ m, FU = m + 1 := ⟨FU - 1, by unfold FU; omega⟩
    unfold ref24_silent
    rw [hm, loopF, ref24_silent_l2, if_pos (by rw [ofL_size, hbc]; simp; omega), h0, Option.bind_some, if_pos (by simp; omega), Option.bind_some]
    unfold ref24_silent_k3
    rw [if_pos (by simp; omega), h0, Option.bind_some, decide_eq_false hc35]
  have hsil0 : ref24_silent (ofL []) = some true := by
    obtain ⟨m, hm⟩ : ∃ m, FU = m + 1 := ⟨FU - 1, by unfold FU; omega⟩
    unfold ref24_silent
    rw [hm, loopF, ref24_silent_l2, if_neg (by rw [ofL_size]; simp)]
    rfl
  unfold ref24_Parse
  rw [r24_lines_eq (body_vis h) (by omega), Option.bind_some]
  obtain ⟨m, hm⟩ : ∃ m, FU = m + 1 + 1 + 1 := ⟨FU - 3, by unfold FU; omega⟩
  rw [hm, loopF, ref24_Parse_l2, if_pos (by simp), show idx [ofL (bodyL o), ofL []] 0 = some (ofL (bodyL o)) from rfl, Option.bind_some, hsil, Option.bind_some, if_neg (by simp), Option.bind_some, hw, Option.bind_some, if_neg (by simp), hst, Option.bind_some, if_neg (by simp), app176 (by simp), Option.bind_some, wrap64 (by omega) (by omega)]
  rw [loopF, ref24_Parse_l2, if_pos (by simp), show idx [ofL (bodyL o), ofL []] (0 + 1) = some (ofL []) from rfl, Option.bind_some, hsil0, Option.bind_some, if_pos rfl, wrap64 (by omega) (by omega)]
  rw [loopF, ref24_Parse_l2, if_neg (by simp)]
  rfl
end Go.Ark
