/- The abstract machine: new blocks, stores, rows that grow. Conditions: none but those that stand in each law. -/
import Derived.Test.YtfckeeglbhlnmaaAb3
namespace Go.Ab
open Go Go.RowKit

def upd (β : Nat → Option Nat) (k : Nat) (b : Option Nat) : Nat → Option Nat := fun k' => if k' = k then b else β k'

/-- a content of one cell -/
def BV.sg : BV → Prop
  | .x v => v.oneCell' = true
  | .g (.agg _) => False
  | .own _ _ => False
  | _ => True

theorem BR.one {P : Program} {nt : Nat} {C : Cx P nt} {hp : HL} {β : Nat → Option Nat} {w : World} {c : BV} {u : Value} (h : BR C hp β w c u) (hc : c.sg) : u.oneCell' = true := by
  cases c with
  | x v => cases h; exact hc
  | g a => cases a with
    | d d => exact RD.one h
    | agg cs => exact hc.elim
  | ptr k off => obtain ⟨_, b, _, rfl⟩ := h; rfl
  | ep cs => obtain ⟨b, o, rfl, _⟩ := h; rfl
  | own k es => exact hc.elim
  | cp size es => exact RD.one h.1
  | clo f caps => obtain ⟨us, rfl, _⟩ := h; rfl
  | sem Φ => obtain ⟨f, caps, rfl, _⟩ := h; rfl

/-- a new block (or a row without one) under a new number: what was there stays -/
theorem RelB.new {P : Program} {nt : Nat} {C : Cx P nt} {sl : SL} {hp : HL} {β : Nat → Option Nat} {a : Act} {w w1 : World} (r : RelB C ⟨sl, hp⟩ β a w) {k : Nat} {e : HE} {bo : Option Nat}
    (hk : hget hp k = none) (hw : Below w.heap.size w w1) (hbo : ∀ b, bo = some b → b = w.heap.size ∧ b < w1.heap.size)
    (hH : (∀ c u, BR C hp β w c u → BR C ((k, some e) :: hp) (upd β k bo) w1 c u) →
      (∀ u d, RD (Mu C hp β) w u d → RD (Mu C ((k, some e) :: hp) (upd β k bo)) w1 u d) → HR C ((k, some e) :: hp) (upd β k bo) w1 k e) :
    RelB C ⟨sl, (k, some e) :: hp⟩ (upd β k bo) a w1 ∧ (∀ c u, BR C hp β w c u → BR C ((k, some e) :: hp) (upd β k bo) w1 c u) := by
  have hne : ∀ k' e', hget hp k' = some e' → k' ≠ k := fun k' e' h c => by rw [c, hk] at h; cases h
  have hget' : ∀ k' e', hget hp k' = some e' → hget ((k, some e) :: hp) k' = some e' ∧ upd β k bo k' = β k' := fun k' e' h => by
    have := hne k' e' h
    exact ⟨by rw [hget_cons, if_neg (fun c => this c.symm)]; exact h, by simp [upd, this]⟩
  have hst : ∀ b o x, ¬ Mu C hp β b o → w.cell? ⟨b, o, none⟩ = some x → w1.cell? ⟨b, o, none⟩ = some x ∧ ¬ Mu C ((k, some e) :: hp) (upd β k bo) b o := by
    intro b o x hn hx
    have hlt := cell_lt hx
    refine ⟨by rw [hw.cell (p := ⟨b, o, none⟩) hlt]; exact hx, ?_⟩
    rintro (hM | ⟨k', e', he', hb', hm'⟩)
    · exact hn (.inl hM)
    · rw [hget_cons] at he'
      by_cases hkk : k = k'
      · subst hkk
        simp only [upd, if_true] at hb'
        have := (hbo b hb').1
        omega
      · rw [if_neg hkk] at he'
        simp only [upd, if_neg (fun c => hkk (Eq.symm c))] at hb'
        exact hn (.inr ⟨k', e', he', hb', hm'⟩)
  have hBR : ∀ c u, BR C hp β w c u → BR C ((k, some e) :: hp) (upd β k bo) w1 c u := by
    intro c u h
    refine BR.kept hst (fun k' _ e' he' hr => ⟨⟨e', (hget' k' e' he').1, hr⟩, (hget' k' e' he').2⟩) (fun k' es0 hc h => ?_) h
    subst hc
    obtain ⟨T, size, es, ex, hh, hl, hr⟩ := h
    refine ⟨T, size, es, ex, (hget' k' _ hh).1, hl, fun hq => (hr hq).imp (fun ⟨h1, h2⟩ => ⟨(hget' k' _ hh).2.trans h1, h2⟩) ?_⟩
    rintro ⟨b, cap, cur, h1, h2, h3, h4, h5, h6⟩
    exact ⟨b, cap, cur, (hget' k' _ hh).2.trans h1, h2, h3, h4, by rw [hw.block b (Array.getElem?_eq_some_iff.1 h5).1]; exact h5, h6⟩
  have hRD : ∀ u d, RD (Mu C hp β) w u d → RD (Mu C ((k, some e) :: hp) (upd β k bo)) w1 u d := fun u d h => h.mono hst
  refine ⟨⟨r.keep.below hw, r.low, ?_, ?_, ?_, ?_, r.size, r.df⟩, hBR⟩
  · intro k1 k2 e1 e2 b h1 h2 hb1 hb2
    simp only [hget_cons] at h1 h2
    by_cases c1 : k = k1 <;> by_cases c2 : k = k2
    · omega
    · subst c1
      rw [if_neg c2] at h2
      simp only [upd, if_true] at hb1
      simp only [upd, if_neg (fun c => c2 (Eq.symm c))] at hb2
      have h3 := (hbo b hb1).1
      have h4 := (r.own k2 e2 b h2 hb2).2
      omega
    · subst c2
      rw [if_neg c1] at h1
      simp only [upd, if_true] at hb2
      simp only [upd, if_neg (fun c => c1 (Eq.symm c))] at hb1
      have h3 := (hbo b hb2).1
      have h4 := (r.own k1 e1 b h1 hb1).2
      omega
    · rw [if_neg c1] at h1
      rw [if_neg c2] at h2
      simp only [upd, if_neg (fun c => c1 (Eq.symm c))] at hb1
      simp only [upd, if_neg (fun c => c2 (Eq.symm c))] at hb2
      exact r.inj k1 k2 e1 e2 b h1 h2 hb1 hb2
  · intro k1 e1 b h1 hb1
    simp only [hget_cons] at h1
    by_cases c1 : k = k1
    · subst c1
      simp only [upd, if_true] at hb1
      obtain ⟨h3, h4⟩ := hbo b hb1
      exact ⟨.inl (h3 ▸ r.keep.size), h4⟩
    · rw [if_neg c1] at h1
      simp only [upd, if_neg (fun c => c1 (Eq.symm c))] at hb1
      exact ⟨(r.own k1 e1 b h1 hb1).1, Nat.lt_of_lt_of_le (r.own k1 e1 b h1 hb1).2 hw.size⟩
  · intro k1 e1 h1
    simp only [hget_cons] at h1
    by_cases c1 : k = k1
    · subst c1
      rw [if_pos rfl] at h1
      cases h1
      exact hH hBR hRD
    · rw [if_neg c1] at h1
      have h2 := hget' k1 e1 h1
      have h3 := r.hp k1 e1 h1
      cases e1 with
      | blk T cs =>
        obtain ⟨b, arr, q1, q2, q3, q4⟩ := h3
        exact ⟨b, arr, h2.2.trans q1, by rw [hw.block b (Array.getElem?_eq_some_iff.1 q2).1]; exact q2, q3, fun j c hc => let ⟨u, hu, ho, hr⟩ := q4 j c hc; ⟨u, hu, ho, hBR c u hr⟩⟩
      | row T size es ex =>
        obtain ⟨hz, hs, hr⟩ := h3
        refine ⟨hz, hs, hr.imp (fun ⟨q1, q2⟩ => ⟨h2.2.trans q1, q2⟩) ?_⟩
        rintro ⟨b, cur, q1, q2, q3, q4⟩
        exact ⟨b, cur, h2.2.trans q1, by rw [hw.block b (Array.getElem?_eq_some_iff.1 q2).1]; exact q2, q3, fun i cs j d hi hj => let ⟨u, hu, hr⟩ := q4 i cs j d hi hj; ⟨u, hu, hr.mono hst⟩⟩
      | it s pos =>
        obtain ⟨b, q1, q2⟩ := h3
        exact ⟨b, h2.2.trans q1, by rw [hw.block b (Array.getElem?_eq_some_iff.1 q2).1]; exact q2⟩
  · intro t sv hs
    have h1 := r.sl t sv hs
    cases sv with
    | one b => exact hBR _ _ h1
    | tup l =>
      obtain ⟨us, q1, q2, q3⟩ := h1
      exact ⟨us, q1, q2, fun i b hi => let ⟨x, hx, hr⟩ := q3 i b hi; ⟨x, hx, hBR _ _ hr⟩⟩
    | dead => trivial

/-- a block of the call's own (number k) is written, or another one takes its place: what was there stays, if what is not to be written again is not -/
theorem RelB.chg {P : Program} {nt : Nat} {C : Cx P nt} {sl : SL} {hp : HL} {β : Nat → Option Nat} {a : Act} {w w1 : World} (r : RelB C ⟨sl, hp⟩ β a w) {k : Nat} {e0 e : HE} {bo : Option Nat}
    (hk : hget hp k = some e0)
    (hos : w1.os = w.os) (htape : w1.tape = w.tape) (hout : w1.output = w.output) (hsize : w.heap.size ≤ w1.heap.size) (hblock : ∀ i, i < w.heap.size → some i ≠ β k → w1.heap[i]? = w.heap[i]?)
    (hcell : ∀ b o x, β k = some b → w.cell? ⟨b, o, none⟩ = some x → ¬ e0.mutAt o → w1.cell? ⟨b, o, none⟩ = some x)
    (hbo : (bo = β k ∧ ∀ o, e.mutAt o → e0.mutAt o) ∨ (bo = some w.heap.size ∧ w.heap.size < w1.heap.size))
    (hrow : e.isRow = e0.isRow ∧ (e0.isRow = false → bo = β k))
    (hown : ∀ es0 u, BR C hp β w (.own k es0) u → BR C ((k, some e) :: hp) (upd β k bo) w1 (.own k es0) u)
    (hH : (∀ c u, BR C hp β w c u → BR C ((k, some e) :: hp) (upd β k bo) w1 c u) →
      (∀ u d, RD (Mu C hp β) w u d → RD (Mu C ((k, some e) :: hp) (upd β k bo)) w1 u d) → HR C ((k, some e) :: hp) (upd β k bo) w1 k e) :
    RelB C ⟨sl, (k, some e) :: hp⟩ (upd β k bo) a w1 ∧
      (∀ c u, BR C hp β w c u → BR C ((k, some e) :: hp) (upd β k bo) w1 c u) ∧
      (∀ u d, RD (Mu C hp β) w u d → RD (Mu C ((k, some e) :: hp) (upd β k bo)) w1 u d) := by
  have hget' : ∀ k' e', k' ≠ k → hget hp k' = some e' → hget ((k, some e) :: hp) k' = some e' ∧ upd β k bo k' = β k' := fun k' e' hn h =>
    ⟨by rw [hget_cons, if_neg (fun c => hn c.symm)]; exact h, by simp [upd, hn]⟩
  -- in an equation of blocks, the other numbers' blocks are as they were
  have hoth : ∀ k' e' b o, k' ≠ k → hget hp k' = some e' → β k' = some b → w.heap[b]? = some o → w1.heap[b]? = some o := fun k' e' b o hn h hb ho => by
    rw [hblock b (Array.getElem?_eq_some_iff.1 ho).1 (fun c => hn (r.inj k' k e' e0 b h hk hb c.symm))]
    exact ho
  have hst : ∀ b o x, ¬ Mu C hp β b o → w.cell? ⟨b, o, none⟩ = some x → w1.cell? ⟨b, o, none⟩ = some x ∧ ¬ Mu C ((k, some e) :: hp) (upd β k bo) b o := by
    intro b o x hn hx
    have hlt := cell_lt hx
    constructor
    · by_cases hb : some b = β k
      · exact hcell b o x hb.symm hx (fun c => hn (.inr ⟨k, e0, hk, hb.symm, c⟩))
      · rw [World.cell?_of_block (w := w) (a := ⟨b, o, none⟩) (hblock b hlt hb)]; exact hx
    · rintro (hM | ⟨k', e', he', hb', hm'⟩)
      · exact hn (.inl hM)
      · rw [hget_cons] at he'
        by_cases hkk : k = k'
        · subst hkk
          rw [if_pos rfl] at he'
          cases he'
          simp only [upd, if_true] at hb'
          rcases hbo with ⟨h1, h2⟩ | ⟨h1, h2⟩
          · exact hn (.inr ⟨k, e0, hk, h1 ▸ hb', h2 o hm'⟩)
          · rw [h1] at hb'
            cases hb'
            omega
        · rw [if_neg hkk] at he'
          simp only [upd, if_neg (fun c => hkk (Eq.symm c))] at hb'
          exact hn (.inr ⟨k', e', he', hb', hm'⟩)
  have hRD : ∀ u d, RD (Mu C hp β) w u d → RD (Mu C ((k, some e) :: hp) (upd β k bo)) w1 u d := fun u d h => h.mono hst
  have hBR : ∀ c u, BR C hp β w c u → BR C ((k, some e) :: hp) (upd β k bo) w1 c u := by
    intro c u h
    refine BR.kept hst (fun k' _ e' he' hr => ?_) (fun k' es0 hc h => ?_) h
    · by_cases c : k' = k
      · subst c
        rw [hk] at he'
        cases he'
        exact ⟨⟨e, by rw [hget_cons, if_pos rfl], hrow.1.trans hr⟩, by simp [upd, hrow.2 hr]⟩
      · exact ⟨⟨e', (hget' k' e' c he').1, hr⟩, (hget' k' e' c he').2⟩
    · subst hc
      by_cases c : k' = k
      · subst c
        exact hown es0 u h
      · obtain ⟨T, size, es, ex, hh, hl, hr⟩ := h
        have h2 := hget' k' _ c hh
        refine ⟨T, size, es, ex, h2.1, hl, fun hq => (hr hq).imp (fun ⟨h1, h3⟩ => ⟨h2.2.trans h1, h3⟩) ?_⟩
        rintro ⟨b, cap, cur, q1, q2, q3, q4, q5, q6⟩
        exact ⟨b, cap, cur, h2.2.trans q1, q2, q3, q4, hoth k' _ b _ c hh q1 q5, q6⟩
  refine ⟨⟨?_, r.low, ?_, ?_, ?_, ?_, r.size, r.df⟩, hBR, hRD⟩
  · refine ⟨hos.trans r.keep.os, htape.trans r.keep.tape, hout.trans r.keep.output, Nat.le_trans r.keep.size hsize, fun i hi hK => ?_⟩
    rw [hblock i (Nat.lt_of_lt_of_le hi r.keep.size) (fun c => ?_)]
    · exact r.keep.block i hi hK
    · rcases (r.own k e0 i hk c.symm).1 with h1 | h1
      · omega
      · exact hK h1
  · intro k1 k2 e1 e2 b h1 h2 hb1 hb2
    simp only [hget_cons] at h1 h2
    by_cases c1 : k = k1 <;> by_cases c2 : k = k2
    · omega
    · subst c1
      rw [if_neg c2] at h2
      simp only [upd, if_true] at hb1
      simp only [upd, if_neg (fun c => c2 (Eq.symm c))] at hb2
      rcases hbo with ⟨h3, _⟩ | ⟨h3, _⟩
      · exact r.inj k k2 e0 e2 b hk h2 (h3 ▸ hb1) hb2
      · rw [h3] at hb1
        cases hb1
        have h4 := (r.own k2 e2 _ h2 hb2).2
        omega
    · subst c2
      rw [if_neg c1] at h1
      simp only [upd, if_true] at hb2
      simp only [upd, if_neg (fun c => c1 (Eq.symm c))] at hb1
      rcases hbo with ⟨h3, _⟩ | ⟨h3, _⟩
      · exact r.inj k1 k e1 e0 b h1 hk hb1 (h3 ▸ hb2)
      · rw [h3] at hb2
        cases hb2
        have h4 := (r.own k1 e1 _ h1 hb1).2
        omega
    · rw [if_neg c1] at h1
      rw [if_neg c2] at h2
      simp only [upd, if_neg (fun c => c1 (Eq.symm c))] at hb1
      simp only [upd, if_neg (fun c => c2 (Eq.symm c))] at hb2
      exact r.inj k1 k2 e1 e2 b h1 h2 hb1 hb2
  · intro k1 e1 b h1 hb1
    simp only [hget_cons] at h1
    by_cases c1 : k = k1
    · subst c1
      simp only [upd, if_true] at hb1
      rcases hbo with ⟨h3, _⟩ | ⟨h3, h4⟩
      · have := r.own k e0 b hk (h3 ▸ hb1)
        exact ⟨this.1, Nat.lt_of_lt_of_le this.2 hsize⟩
      · rw [h3] at hb1
        cases hb1
        exact ⟨.inl r.keep.size, h4⟩
    · rw [if_neg c1] at h1
      simp only [upd, if_neg (fun c => c1 (Eq.symm c))] at hb1
      exact ⟨(r.own k1 e1 b h1 hb1).1, Nat.lt_of_lt_of_le (r.own k1 e1 b h1 hb1).2 hsize⟩
  · intro k1 e1 h1
    simp only [hget_cons] at h1
    by_cases c1 : k = k1
    · subst c1
      rw [if_pos rfl] at h1
      cases h1
      exact hH hBR hRD
    · rw [if_neg c1] at h1
      have c1' : k1 ≠ k := fun c => c1 c.symm
      have h2 := hget' k1 e1 c1' h1
      have h3 := r.hp k1 e1 h1
      cases e1 with
      | blk T cs =>
        obtain ⟨b, arr, q1, q2, q3, q4⟩ := h3
        exact ⟨b, arr, h2.2.trans q1, hoth k1 _ b _ c1' h1 q1 q2, q3, fun j c hc => let ⟨u, hu, ho, hr⟩ := q4 j c hc; ⟨u, hu, ho, hBR c u hr⟩⟩
      | row T size es ex =>
        obtain ⟨hz, hs, hr⟩ := h3
        refine ⟨hz, hs, hr.imp (fun ⟨q1, q2⟩ => ⟨h2.2.trans q1, q2⟩) ?_⟩
        rintro ⟨b, cur, q1, q2, q3, q4⟩
        exact ⟨b, cur, h2.2.trans q1, hoth k1 _ b _ c1' h1 q1 q2, q3, fun i cs j d hi hj => let ⟨u, hu, hr⟩ := q4 i cs j d hi hj; ⟨u, hu, hr.mono hst⟩⟩
      | it s pos =>
        obtain ⟨b, q1, q2⟩ := h3
        exact ⟨b, h2.2.trans q1, hoth k1 _ b _ c1' h1 q1 q2⟩
  · intro t sv hs
    have h1 := r.sl t sv hs
    cases sv with
    | one b => exact hBR _ _ h1
    | tup l =>
      obtain ⟨us, q1, q2, q3⟩ := h1
      exact ⟨us, q1, q2, fun i b hi => let ⟨x, hx, hr⟩ := q3 i b hi; ⟨x, hx, hBR _ _ hr⟩⟩
    | dead => trivial

end Go.Ab
