import Derived.Test.YtfhlilpkgodilaaGreatDoorPscript2
import Derived.Test.YtfhlilpkgodilaaGreatDoorPlaw24
/- Plain laws: words: which steps have lines; texts of steps. Conditions: none but those that stand in each law. -/
namespace Go.Ark
open Go Go.Ab Go.RowKit

theorem canon_ok {o : Api_Op} (h : okOp o) : okOp (canon o) := by
  have hk := h.k
  have z : okN 0 := ⟨by omega, by omega⟩
  have e : ByteArray.empty.size ≤ 32 := by decide
  have r0 : ∀ {k : Int}, k ≠ 12 → (k = 12 → okRow ⟨[], [], []⟩ = true) ∧ (k ≠ 12 → (⟨[], [], []⟩ : Api_Row) = ⟨[], [], []⟩) := fun hk => ⟨fun c => absurd c hk, fun _ => rfl⟩
  have nk : ([] : List ByteArray).length ≤ 8 ∧ ∀ s, s ∈ ([] : List ByteArray) → s.size ≤ 32 := ⟨by simp, by simp⟩
  unfold canon
  split
  · exact ⟨hk, h.cl, z, z, z, z, nk, h.key, h.val, (r0 (k := o.Kind) (by omega)).1, (r0 (k := o.Kind) (by omega)).2⟩
  split
  · exact ⟨hk, h.cl, z, z, z, z, nk, h.key, e, (r0 (k := o.Kind) (by omega)).1, (r0 (k := o.Kind) (by omega)).2⟩
  split
  · exact ⟨hk, h.cl, z, z, z, z, nk, e, e, (r0 (k := o.Kind) (by omega)).1, (r0 (k := o.Kind) (by omega)).2⟩
  split
  · exact ⟨hk, h.cl, h.si, z, z, z, nk, e, e, (r0 (k := o.Kind) (by omega)).1, (r0 (k := o.Kind) (by omega)).2⟩
  split
  · exact ⟨hk, h.cl, z, z, z, z, h.ks, e, e, (r0 (k := o.Kind) (by omega)).1, (r0 (k := o.Kind) (by omega)).2⟩
  split
  · exact ⟨hk, z, h.si, h.to, h.at', h.how, nk, e, e, (r0 (k := o.Kind) (by omega)).1, (r0 (k := o.Kind) (by omega)).2⟩
  split
  · exact ⟨hk, z, h.si, h.to, z, z, nk, e, e, (r0 (k := o.Kind) (by omega)).1, (r0 (k := o.Kind) (by omega)).2⟩
  split
  · exact ⟨hk, z, h.si, z, z, z, nk, e, e, (r0 (k := o.Kind) (by omega)).1, (r0 (k := o.Kind) (by omega)).2⟩
  split
  · rename_i hc
    exact ⟨hk, z, z, z, z, z, nk, e, e, fun _ => h.row hc, fun c => absurd hc c⟩
  · exact ⟨hk, z, z, z, z, z, nk, e, e, (r0 (k := o.Kind) (by omega)).1, (r0 (k := o.Kind) (by omega)).2⟩

/-! bytes of lines: none ends a line -/
theorem hexB_vis : ∀ n, n < 16 → 32 ≤ (hexB n).toNat ∧ (hexB n).toNat ≤ 126 := by decide
theorem escL_vis {c b : UInt8} (h : b ∈ escL c) : 32 ≤ b.toNat ∧ b.toNat ≤ 126 := by
  unfold escL at h
  split at h
  · rename_i hp
    simp only [plB, Bool.and_eq_true, decide_eq_true_eq] at hp
    have : b = c := by simpa using h
    subst this
    exact ⟨hp.1, hp.2.1⟩
  · have := c.toNat_lt
    simp only [List.mem_cons, List.mem_nil_iff, or_false] at h
    rcases h with h | h | h
    · subst h; decide
    · subst h; exact hexB_vis _ (by omega)
    · subst h; exact hexB_vis _ (by omega)
theorem quoteL_vis {l : List UInt8} {b : UInt8} (h : b ∈ quoteL l) : 32 ≤ b.toNat ∧ b.toNat ≤ 126 := by
  simp only [quoteL, List.mem_cons, List.mem_append, List.mem_flatMap, List.mem_nil_iff, or_false] at h
  rcases h with h | ⟨c, _, h⟩ | h
  · subst h; decide
  · exact escL_vis h
  · subst h; decide
theorem wdL_vis {w : Wd} (h : wdOK w) {b : UInt8} (hb : b ∈ wdL w) : 32 ≤ b.toNat := by
  unfold wdL at hb
  split at hb
  · exact (quoteL_vis hb).1
  · rename_i hq
    have := (grB_iff b).1 ((h (by simpa using hq)).2 b hb)
    omega
theorem body_vis {o : Api_Op} (h : okOp o) : ∀ b, b ∈ bodyL o → b ≠ 10 := by
  obtain ⟨k, hk⟩ : ∃ k : Nat, o.Kind = k := ⟨o.Kind.toNat, by have := h.k; omega⟩
  have hk1 : 1 ≤ k := by have := h.k; omega
  have hk2 : k < 13 := by have := h.k; omega
  have hn := ((name_all k hk2).2 hk1).2.1.2
  have hkn : o.Kind.toNat = k := by rw [hk]; rfl
  have ha := (argW_ok h).1
  intro b hb e
  subst e
  have h10 : (10 : UInt8).toNat = 10 := rfl
  unfold bodyL at hb
  rw [hkn] at hb
  rcases List.mem_append.1 hb with hb | hb
  · have := (grB_iff 10).1 (hn 10 hb); omega
  · simp only [spW, List.mem_flatMap, List.mem_cons] at hb
    obtain ⟨w, hw, hb | hb⟩ := hb
    · exact absurd hb (by decide)
    · have := wdL_vis (ha w hw).1 hb; omega
theorem body_len {o : Api_Op} (h : okOp o) : (bodyL o).length ≤ 30100 := by
  have ha := argW_ok h
  have hs := spW_len fun w hw => (ha.1 w hw).2
  have hk := h.k
  obtain ⟨k, hkk⟩ : ∃ k : Nat, o.Kind = k := ⟨o.Kind.toNat, by omega⟩
  have hn := ((name_all k (by omega)).2 (by omega)).2.2.1
  have hkn : o.Kind.toNat = k := by rw [hkk]; rfl
  unfold bodyL
  rw [hkn, List.length_append]
  omega
theorem line_eq {o : Api_Op} (h : okOp o) : words_line o = some (ofL (bodyL o ++ [10])) := words_line_eq h

/-- a line of a step, and nothing else -/
theorem parse_one {o : Api_Op} (h : okOp o) : words_Parse (ofL (bodyL o ++ [10])) = some ([canon o], 0) := by
  have hl := body_len h
  have := parse_lines (l := [(ofL (bodyL o), some (canon o)), (ofL [], none)]) (by
    intro x hx
    simp only [List.mem_cons, List.mem_nil_iff, or_false] at hx
    rcases hx with rfl | rfl
    · exact body_is h
    · exact silent_blank (by simp)) (by simp) (s := ofL (bodyL o ++ [10])) (by rw [ofL_size, List.length_append]; simp; omega) (by
    rw [lines_cons (body_vis h), lines_end (by simp)]; rfl)
  rw [this]
  rfl

/-- a step that has a line -/
structure goodOp (o : Api_Op) : Prop where
  ok : okOp o
  check : words_Check o = some true
  same : opL (canon o) = opL o
/-! texts of steps -/
def lineB (o : Api_Op) : List UInt8 := bodyL o ++ [10]
end Go.Ark
