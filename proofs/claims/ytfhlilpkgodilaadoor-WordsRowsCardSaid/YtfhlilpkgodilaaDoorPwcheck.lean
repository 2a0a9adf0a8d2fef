/- Plain laws: words: which steps have lines; texts of steps. Conditions: none but those that stand in each law. -/
import Derived.Test.YtfhlilpkgodilaaDoorPscript2
import Derived.Test.YtfhlilpkgodilaaDoorPlaw24
namespace Go.Ark
open Go Go.Ab Go.RowKit

theorem canon_ok {o : Api_Op} (h : okOp o) : okOp (canon o) := by
  have hk := h.k
  have z : okN 0 := ⟨by omega, by omega⟩
  have e : ByteArray.empty.size ≤ 32 := by decide
  have r0 : ∀ {k : Int}, k ≠ 12 → (k = 12 → okRow ⟨[], [], []⟩ = true) ∧ (k ≠ 12 → (⟨[], [], []⟩ : Api_Row) = ⟨[], [], []⟩) := fun hk => ⟨fun c => absurd c hk, fun _ => rfl⟩
  have nk : ([] : List ByteArray).length ≤ 8 ∧ ∀ s, s ∈ ([] : List ByteArray) → s.size ≤ 32 := ⟨by simp, by simp⟩
  unfold canon
  split
  · exact ⟨hk, h.cl, z, z, z, z, nk, h.key, h.val, (r0 (k := o.Kind) (by omega)).1, (r0 (k := o.Kind) (by omega)).2⟩
  split
  · exact ⟨hk, h.cl, z, z, z, z, nk, h.key, e, (r0 (k := o.Kind) (by omega)).1, (r0 (k := o.Kind) (by omega)).2⟩
  split
  · exact ⟨hk, h.cl, z, z, z, z, nk, e, e, (r0 (k := o.Kind) (by omega)).1, (r0 (k := o.Kind) (by omega)).2⟩
  split
  · exact ⟨hk, h.cl, h.si, z, z, z, nk, e, e, (r0 (k := o.Kind) (by omega)).1, (r0 (k := o.Kind) (by omega)).2⟩
  split
  · exact ⟨hk, h.cl, z, z, z, z, h.ks, e, e, (r0 (k := o.Kind) (by omega)).1, (r0 (k := o.Kind) (by omega)).2⟩
  split
  · exact ⟨hk, z, h.si, h.to, h.at', h.how, nk, e, e, (r0 (k := o.Kind) (by omega)).1, (r0 (k := o.Kind) (by omega)).2⟩
  split
  · exact ⟨hk, z, h.si, h.to, z, z, nk, e, e, (r0 (k := o.Kind) (by omega)).1, (r0 (k := o.Kind) (by omega)).2⟩
  split
  · exact ⟨hk, z, h.si, z, z, z, nk, e, e, (r0 (k := o.Kind) (by omega)).1, (r0 (k := o.Kind) (by omega)).2⟩
  split
  · rename_i hc
    exact ⟨hk, z, z, z, z, z, nk, e, e, fun _ => h.row hc, fun c => absurd hc c⟩
  · exact ⟨hk, z, z, z, z, z, nk, e, e, (r0 (k := o.Kind) (by omega)).1, (r0 (k := o.Kind) (by omega)).2⟩

/-! bytes of lines: none ends a line -/
theorem hexB_vis : ∀ n, n < 16 → 32 ≤ (hexB n).toNat ∧ (hexB n).toNat ≤ 126 := by decide
theorem escL_vis {c b : UInt8} (h : b ∈ escL c) : 32 ≤ b.toNat ∧ b.toNat ≤ 126 := by
  unfold escL at h
  split at h
  · rename_i hp
    simp only [plB, Bool.and_eq_true, decide_eq_true_eq] at hp
    have : b = c := by simpa using h
    subst this
    exact ⟨hp.1, hp.2.1⟩
  · have := c.toNat_lt
    simp only [List.mem_cons, List.mem_nil_iff, or_false] at h
    rcases h with h | h | h
    · subst h; decide
    · subst h; exact hexB_vis _ (by omega)
    · subst h; exact hexB_vis _ (by omega)
theorem quoteL_vis {l : List UInt8} {b : UInt8} (h : b ∈ quoteL l) : 32 ≤ b.toNat ∧ b.toNat ≤ 126 := by
  simp only [quoteL, List.mem_cons, List.mem_append, List.mem_flatMap, List.mem_nil_iff, or_false] at h
  rcases h with h | ⟨c, _, h⟩ | h
  · subst h; decide
  · exact escL_vis h
  · subst h; decide
theorem wdL_vis {w : Wd} (h : wdOK w) {b : UInt8} (hb : b ∈ wdL w) : 32 ≤ b.toNat := by
  unfold wdL at hb
  split at hb
  · exact (quoteL_vis hb).1
  · rename_i hq
    have := (grB_iff b).1 ((h (by simpa using hq)).2 b hb)
    omega
theorem body_vis {o : Api_Op} (h : okOp o) : ∀ b, b ∈ bodyL o → b ≠ 10 := by
  obtain ⟨k, hk⟩ : ∃ k : Nat, o.Kind = k := ⟨o.Kind.toNat, by have := h.k; omega⟩
  have hk1 : 1 ≤ k := by have := h.k; omega
  have hk2 : k < 13 := by have := h.k; omega
  have hn := ((name_all k hk2).2 hk1).2.1.2
  have hkn : o.Kind.toNat = k := by rw [hk]; rfl
  have ha := (argW_ok h).1
  intro b hb e
  subst e
  have h10 : (10 : UInt8).toNat = 10 := rfl
  unfold bodyL at hb
  rw [hkn] at hb
  rcases List.mem_append.1 hb with hb | hb
  · have := (grB_iff 10).1 (hn 10 hb); omega
  · simp only [spW, List.mem_flatMap, List.mem_cons] at hb
    obtain ⟨w, hw, hb | hb⟩ := hb
    · exact absurd hb (by decide)
    · have := wdL_vis (ha w hw).1 hb; omega
theorem body_len {o : Api_Op} (h : okOp o) : (bodyL o).length ≤ 30100 := by
  have ha := argW_ok h
  have hs := spW_len fun w hw => (ha.1 w hw).2
  have hk := h.k
  obtain ⟨k, hkk⟩ : ∃ k : Nat, o.Kind = k := ⟨o.Kind.toNat, by omega⟩
  have hn := ((name_all k (by omega)).2 (by omega)).2.2.1
  have hkn : o.Kind.toNat = k := by rw [hkk]; rfl
  unfold bodyL
  rw [hkn, List.length_append]
  omega
theorem line_eq {o : Api_Op} (h : okOp o) : words_line o = some (ofL (bodyL o ++ [10])) := words_line_eq h

/-- a line of a step, and nothing else -/
theorem parse_one {o : Api_Op} (h : okOp o) : words_Parse (ofL (bodyL o ++ [10])) = some ([canon o], 0) := by
  have hl := body_len h
  have := parse_lines (l := [(ofL (bodyL o), some (canon o)), (ofL [], none)]) (by
    intro x hx
    simp only [List.mem_cons, List.mem_nil_iff, or_false] at hx
    rcases hx with rfl | rfl
    · exact body_is h
    · exact silent_blank (by simp)) (by simp) (s := ofL (bodyL o ++ [10])) (by rw [ofL_size, List.length_append]; simp; omega) (by
    rw [lines_cons (body_vis h), lines_end (by simp)]; rfl)
  rw [this]
  rfl

theorem words_same_tot {o : Api_Op} (h : okOp o) : ∃ r, words_same (canon o) o = some r ∧ (r = true → opL (canon o) = opL o) ∧ (canon o = o → o.Keys = [] → r = true) := by
  unfold words_same
  rw [script_Bytes_eq (canon_ok h), Option.bind_some, script_Bytes_eq h, Option.bind_some, seq_eq]
  by_cases c : ofL (numL 1 ++ opL (canon o)) = ofL (numL 1 ++ opL o)
  · have hc := (canon_ok h).ks.1
    obtain ⟨r, hr⟩ := equal_string_tot (a := (canon o).Keys) (b := o.Keys) (by omega)
    rw [decide_eq_true c, if_pos rfl, hr]
    refine ⟨r, rfl, fun _ => ?_, fun e hk => ?_⟩
    · have := congrArg bl c
      rw [bl_ofL, bl_ofL] at this
      exact List.append_cancel_left this
    · rw [e, hk] at hr
      exact Option.some.inj (hr.symm.trans rfl)
  · rw [decide_eq_false c, if_neg (by simp)]
    exact ⟨false, rfl, fun h => (by cases h), fun e _ => (by rw [e] at c; exact absurd rfl c)⟩

/-- a step that has a line -/
structure goodOp (o : Api_Op) : Prop where
  ok : okOp o
  check : words_Check o = some true
  same : opL (canon o) = opL o
theorem words_Check_of {o : Api_Op} (h : smallOp o) (hok : okOp o) : ∃ r, words_Check o = some r ∧ (r = true → opL (canon o) = opL o) ∧ (canon o = o → o.Keys = [] → r = true) := by
  have hx : ((decide ((o.Row.Ranges.length : Int) = 0)) == (decide (o.Kind = 12))) = false := by
    by_cases hk : o.Kind = 12
    · have := okRow_ne (hok.row hk)
      rw [decide_eq_false (by omega : ¬ (o.Row.Ranges.length : Int) = 0), decide_eq_true hk]; rfl
    · rw [hok.no hk, decide_eq_false hk]; rfl
  obtain ⟨r, hr, h1, h2⟩ := words_same_tot hok
  refine ⟨r, ?_, h1, h2⟩
  unfold words_Check words_Check_k1
  rw [script_Check_eq h, Option.bind_some, hok.okS, if_neg (by simp), hx, if_neg (by simp), line_eq hok, Option.bind_some, parse_one hok, Option.bind_some, if_pos (by simp), if_pos (by simp), show idx [canon o] 0 = some (canon o) from rfl, Option.bind_some, hr]
  rfl
/-! texts of steps -/
def lineB (o : Api_Op) : List UInt8 := bodyL o ++ [10]
theorem words_Text_eq {l : List Api_Op} (h : ∀ o, o ∈ l → goodOp o) (hl : l.length ≤ 10) : words_Text l = some (ofL (l.flatMap lineB)) := by
  unfold words_Text
  rw [show ByteArray.empty = ofL [] from rfl]
  refine (loopL (body := words_Text_l2 l) l (fun (s : List UInt8) i => (i, ofL s)) (fun rest s => some (ofL (s ++ rest.flatMap lineB))) (fun i s => s.length ≤ 30101 * i) ?_ ?_ (s0 := []) (by simp) (by omega)).trans (by simp)
  · intro again s _
    unfold words_Text_l2 words_Text_k1
    rw [if_neg (by simp)]
    simp [bld_String]
  · intro again i s hi hI hag
    have hg := h _ (List.getElem_mem hi)
    have hb := body_len hg.ok
    unfold words_Text_l2
    rw [if_pos (decide_eq_true (by omega)), idx_at hi, Option.bind_some, hg.check, Option.bind_some, if_neg (by simp), line_eq hg.ok, Option.bind_some, bld_WriteString_eq (by rw [ofL_size, ofL_size, List.length_append]; simp; omega), Option.bind_some, ofL_app, wrap64 (by omega) (by omega),
      hag _ (by simp only [List.length_append, List.length_cons, List.length_nil]; omega)]
    simp only [List.flatMap_cons, lineB, List.append_assoc]
theorem same_eq {l : List Api_Op} (h : ∀ o, o ∈ l → goodOp o) (hl : l.length ≤ 10) : law24_same (l.map canon) l = some true := by
  unfold law24_same
  rw [if_neg (by simp)]
  refine loopL (body := law24_same_l2 (l.map canon) l) l (fun (_ : Unit) i => i) (fun _ _ => some true) (fun _ _ => True) ?_ ?_ (s0 := ()) trivial (by omega)
  · intro again _ _
    unfold law24_same_l2
    rw [if_neg (by simp)]
    rfl
  · intro again i _ hi _ hag
    have hg := h _ (List.getElem_mem hi)
    have h1 : idx (l.map canon) (i : Int) = some (canon l[i]) := by
      rw [idx_at (by simpa using hi)]
      simp
    unfold law24_same_l2
    rw [if_pos (decide_eq_true (by rw [List.length_map]; omega)), h1, Option.bind_some, idx_at hi, Option.bind_some, sameOp_eq (canon_ok hg.ok) hg.ok, Option.bind_some, decide_eq_true hg.same, if_neg (by simp), wrap64 (by omega) (by omega)]
    exact hag () trivial
end Go.Ark
