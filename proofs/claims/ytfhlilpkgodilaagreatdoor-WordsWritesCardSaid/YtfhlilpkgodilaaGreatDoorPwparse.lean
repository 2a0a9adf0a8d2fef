import Derived.Test.YtfhlilpkgodilaaGreatDoorPwstep2
import Derived.Lib.SplitLaws
import Derived.Lib.CountLaws
import Derived.Lib.IndexBytes
/- Plain laws: words: lines, parsed. Conditions: none but those that stand in each law. -/
namespace Go.Ark
open Go Go.Ab Go.RowKit

def nl10 : ByteArray := ByteArray.mk #[10]
def linesB (s : ByteArray) : List ByteArray := Lib.splitB nl10 0 (Lib.countB s nl10) s
theorem index_at {A B : List UInt8} (h : ∀ b, b ∈ A → b ≠ 10) : Lib.indexByte (A ++ 10 :: B) 10 = A.length := by
  induction A with
  | nil => rfl
  | cons a A ih =>
    have h1 := ih fun b hb => h b (by simp [hb])
    have h2 : (a == 10) = false := by simpa using h a (by simp)
    simp only [List.cons_append, Lib.indexByte, h2, h1]
    have h3 : (((A.length : Nat) : Int) == -1) = false := by simp
    simp [h3]
theorem index_no {A : List UInt8} (h : ∀ b, b ∈ A → b ≠ 10) : Lib.indexByte A 10 = -1 := by
  induction A with
  | nil => rfl
  | cons a A ih =>
    have h1 := ih fun b hb => h b (by simp [hb])
    have h2 : (a == 10) = false := by simpa using h a (by simp)
    simp [Lib.indexByte, h2, h1]
theorem indexB_nl (s : ByteArray) : Lib.indexB s nl10 = Lib.indexByte (bl s) 10 := Lib.index_one _ _
theorem lines_cons {A B : List UInt8} (h : ∀ b, b ∈ A → b ≠ 10) : linesB (ofL (A ++ 10 :: B)) = ofL A :: linesB (ofL B) := by
  have hi : Lib.indexB (ofL (A ++ 10 :: B)) nl10 = (A.length : Nat) := by rw [indexB_nl, bl_ofL, index_at h]
  have he : (ofL (A ++ 10 :: B)).extract (A.length + nl10.size) (ofL (A ++ 10 :: B)).size = ofL B := by
    apply bl_inj
    rw [bl_extract, bl_ofL, bl_ofL, ofL_size, List.take_length, show A.length + nl10.size = A.length + 1 from rfl]
    simp
  have he0 : (ofL (A ++ 10 :: B)).extract 0 (A.length + 0) = ofL A := by
    apply bl_inj
    rw [bl_extract, bl_ofL, bl_ofL]
    simp
  unfold linesB
  rw [Lib.countB_hit _ _ _ (by decide) hi, he, Nat.add_comm, Lib.splitB_hit _ _ _ _ _ hi, he, he0]
theorem lines_end {A : List UInt8} (h : ∀ b, b ∈ A → b ≠ 10) : linesB (ofL A) = [ofL A] := by
  have hi : Lib.indexB (ofL A) nl10 = -1 := by rw [indexB_nl, bl_ofL, index_no h]
  unfold linesB
  rw [Lib.splitB_miss _ _ _ _ hi]
theorem split_eq {s : ByteArray} (h : s.size ≤ 1000000) : strings_Split s (ByteArray.mk #[10]) = some (linesB s) := by
  unfold strings_Split
  rw [if_pos ⟨by omega, by decide⟩]
  rfl

/-- a line, and what it says -/
def lineIs (x : ByteArray × Option Api_Op) : Prop := match x.2 with
  | none => words_silent x.1 = some true
  | some o => words_silent x.1 = some false ∧ ∃ ws, words_Words x.1 = some (ws, true) ∧ words_step ws = some (o, true)
theorem app176 {acc ys : List Api_Op} (h : acc.length + ys.length ≤ 1000000) : app 176 acc ys = some (acc ++ ys) := by
  unfold app
  rw [if_pos]
  simp only [List.length_append]
  omega
theorem parse_lines {l : List (ByteArray × Option Api_Op)} (h : ∀ x, x ∈ l → lineIs x) (hl : l.length ≤ 100000) {s : ByteArray} (hs : s.size ≤ 1000000) (hb : linesB s = l.map (·.1)) : words_Parse s = some (l.filterMap (·.2), 0) := by
  unfold words_Parse
  rw [split_eq hs, Option.bind_some, hb]
  refine (loopL (body := words_Parse_l2 (l.map (·.1))) l (fun (s : List Api_Op) i => (i, s)) (fun rest s => some (s ++ rest.filterMap (·.2), 0)) (fun i s => s.length ≤ i) ?_ ?_ (s0 := []) (by simp) (by omega)).trans (by simp)
  · intro again s _
    unfold words_Parse_l2 words_Parse_k1
    rw [if_neg (by simp)]
    simp
  · intro again i s hi hI hag
    have hx := h _ (List.getElem_mem hi)
    have hidx : idx (l.map (·.1)) (i : Int) = some (l[i]).1 := by
      rw [idx_at (by simpa using hi)]
      simp
    unfold words_Parse_l2
    rw [if_pos (decide_eq_true (by rw [List.length_map]; omega)), hidx, Option.bind_some]
    cases ho : (l[i]).2 with
    | none =>
      simp only [lineIs, ho] at hx
      rw [hx, Option.bind_some, if_pos rfl, wrap64 (by omega) (by omega), hag s (by omega)]
      rw [List.filterMap_cons_none (by exact ho)]
    | some o =>
      simp only [lineIs, ho] at hx
      obtain ⟨h1, ws, h2, h3⟩ := hx
      rw [h1, Option.bind_some, if_neg (by simp), h2, Option.bind_some, if_neg (by simp), h3, Option.bind_some, if_neg (by simp), app176 (by show s.length + 1 ≤ 1000000; omega), Option.bind_some, wrap64 (by omega) (by omega), hag (s ++ [o]) (by simp; omega)]
      rw [List.filterMap_cons_some (by exact ho)]
      simp

/-! lines that say nothing, lines that say a step -/
theorem silent_blank {A : List UInt8} (h : ∀ b, b ∈ A → isBl b = true) : lineIs (ofL A, none) := by
  have hd : (bl (ofL A)).dropWhile isBl = [] := by
    have := List.dropWhile_append_of_pos (l₂ := []) h
    rw [bl_ofL]
    simpa using this
  have he : seq (ofL []) ByteArray.empty = true := by decide +kernel
  show words_silent (ofL A) = some true
  unfold words_silent
  rw [trim_eq, Option.bind_some, hd, he, if_pos rfl]
def bodyL (o : Api_Op) : List UInt8 := nameL o.Kind.toNat ++ spW (argW o)
theorem argW_ok {o : Api_Op} (h : okOp o) : (∀ w, w ∈ argW o → wdOK w ∧ szW w) ∧ (argW o).length ≤ 30 := by
  have z1 := numW_sz h.cl; have z2 := numW_sz h.si; have z3 := numW_sz h.to; have z4 := numW_sz h.at'; have z5 := numW_sz h.how
  have k1 := numW_ok h.cl; have k2 := numW_ok h.si; have k3 := numW_ok h.to; have k4 := numW_ok h.at'; have k5 := numW_ok h.how
  have y1 := txtW_sz (s := o.Key) (by have := h.key; omega); have y2 := txtW_sz (s := o.Value) (by have := h.val; omega)
  have q1 := txtW_ok o.Key; have q2 := txtW_ok o.Value
  unfold argW
  split
  · simp [z1, y1, y2, k1, q1, q2]
  split
  · simp [z1, y1, k1, q1]
  split
  · simp [z1, k1]
  split
  · simp [z1, z2, k1, k2]
  split
  · have hk := h.ks
    refine ⟨fun w hw => ?_, by simp; omega⟩
    rcases List.mem_cons.1 hw with rfl | hw
    · exact ⟨k1, z1⟩
    · obtain ⟨s, hs, rfl⟩ := List.mem_map.1 hw
      exact ⟨txtW_ok s, txtW_sz (by have := hk.2 s hs; omega)⟩
  split
  · simp [z2, z3, z4, z5, k2, k3, k4, k5]
  split
  · simp [z2, z3, k2, k3]
  split
  · simp [z2, k2]
  split
  · rename_i hk
    have hr := h.row hk
    have hs := rowWds_sz hr
    refine ⟨fun w hw => ⟨?_, hs.1 w hw⟩, by omega⟩
    simp only [rowWds, List.mem_append, List.mem_cons, List.mem_map] at hw
    rcases hw with hw | rfl | ⟨p, hp, rfl⟩
    · have : ∀ (l : List (Int × Api_Range)), (∀ x, x ∈ l → okN x.1) → ∀ w, w ∈ ownWds l → wdOK w := by
        intro l
        induction l with
        | nil => intro _ w hw; simp [ownWds] at hw
        | cons x l ih =>
          intro hx w hw
          obtain ⟨o, r⟩ := x
          cases l with
          | nil =>
            have : w = numW o := by simpa [ownWds] using hw
            subst this
            exact numW_ok (hx (o, r) (by simp))
          | cons x l =>
            simp only [ownWds, List.mem_cons] at hw
            rcases hw with rfl | rfl | hw
            · exact numW_ok (hx (o, r) (by simp))
            · exact txtW_ok _
            · exact ih (fun y hy => hx y (List.mem_cons_of_mem _ hy)) w hw
      exact this _ (fun x hx => (zip_ok hr x hx).1) w hw
    · intro _; exact ⟨by simp [slash], by decide⟩
    · have := parOK_of hr p hp
      simp only [parOK, Bool.and_eq_true, decide_eq_true_eq] at this
      unfold parW
      split
      · intro _; exact ⟨by simp, by decide⟩
      · exact numW_ok ⟨by omega, by omega⟩
  · simp
theorem spW_wds (ws : List Wd) : spW ws = wdsL (ws.map fun w => ([32], w)) := by
  induction ws with
  | nil => rfl
  | cons w ws ih => simp only [spW, List.flatMap_cons, List.map_cons, wdsL] at ih ⊢; rw [ih]; rfl
theorem wdsOK_map {ws : List Wd} (h : ∀ w, w ∈ ws → wdOK w) : wdsOK (ws.map fun w => ([32], w)) := by
  induction ws with
  | nil => trivial
  | cons w ws ih => exact ⟨h w (by simp), by decide, by simp, ih fun x hx => h x (by simp [hx])⟩
theorem body_is {o : Api_Op} (h : okOp o) : lineIs (ofL (bodyL o), some (canon o)) := by
  obtain ⟨k, hk⟩ : ∃ k : Nat, o.Kind = k := ⟨o.Kind.toNat, by have := h.k; omega⟩
  have hk1 : 1 ≤ k := by have := h.k; omega
  have hk2 : k < 13 := by have := h.k; omega
  obtain ⟨_, ⟨hn1, hn2⟩, hn3, hn4⟩ := (name_all k hk2).2 hk1
  obtain ⟨ha, hal⟩ := argW_ok h
  have hsz := spW_len fun w hw => (ha w hw).2
  have hkn : o.Kind.toNat = k := by rw [hk]; rfl
  have hb : bodyL o = wdsL (([], ⟨false, nameL k⟩) :: (argW o).map fun w => ([32], w)) := by
    unfold bodyL
    rw [hkn, spW_wds]
    simp [wdsL, wdL]
  have hok : wdsOK (([], ⟨false, nameL k⟩) :: (argW o).map fun w => ([32], w)) :=
    ⟨fun _ => ⟨hn1, hn2⟩, by simp, by simp, wdsOK_map fun w hw => (ha w hw).1⟩
  have hlen : (bodyL o).length ≤ 40000 := by
    unfold bodyL
    rw [hkn, List.length_append]
    omega
  have hw := words_Words_eq hok (by rw [← hb]; omega) (by simp; omega)
  rw [← hb] at hw
  obtain ⟨c, t, hct⟩ : ∃ c t, nameL k = c :: t := by
    cases hnk : nameL k with
    | nil => exact absurd hnk hn1
    | cons c t => exact ⟨c, t, rfl⟩
  have hcg := (grB_iff c).1 (hn2 c (by rw [hct]; simp))
  have hc35 : c ≠ 35 := fun e => hn4 (by rw [hct, e]; rfl)
  have hbl : isBl c = false := by
    rw [isBl_iff]
    have e1 : c ≠ 32 := fun e => by rw [e] at hcg; exact absurd hcg.1 (by decide)
    have e2 : c ≠ 9 := fun e => by rw [e] at hcg; exact absurd hcg.1 (by decide)
    simp [e1, e2]
  have hbc : bodyL o = c :: (t ++ spW (argW o)) := by unfold bodyL; rw [hkn, hct]; rfl
  refine ⟨?_, _, hw, ?_⟩
  · have hd : (bl (ofL (bodyL o))).dropWhile isBl = bodyL o := by rw [bl_ofL, hbc]; simp [hbl]
    have hne : seq (ofL (bodyL o)) ByteArray.empty = false := by
      rw [seq_eq, decide_eq_false]
      intro e
      have := congrArg bl e
      rw [bl_ofL, hbc] at this
      cases this
    have h0 : sidx (ofL (bodyL o)) 0 = some c := by
      show sidx _ ((0 : Nat) : Int) = _
      rw [sidx_bl, bl_ofL, hbc]
      rfl
    have h35 : ¬ (c.toNat : Int) = 35 := fun e => hc35 (by rw [← UInt8.toNat_inj]; exact_mod_cast e)
    show words_silent (ofL (bodyL o)) = some false
    unfold words_silent
    rw [trim_eq, Option.bind_some, hd, hne, if_neg (by simp), h0, Option.bind_some, decide_eq_false h35]
  · have := words_step_eq h
    rw [hkn] at this
    rw [List.map_cons, List.map_map]
    exact this
end Go.Ark
