/- An abstract machine over plain data, for walks: the state (slots and blocks of data), what it says of a frame and a world, and the frame laws. Conditions: none; nothing of a program stands here. -/
import Derived.WalkKit
import Derived.Orders
import Derived.Scope
namespace Go.Ab
open Go Go.RowKit

/-- plain data: one cell, or a slice whose elements have 'size' cells each -/
inductive DV where
  | v (x : Value)
  | sl (size : Nat) (es : List (List DV))

/-- what a slot may hold of plain data: one cell's, or a struct's cells -/
inductive AG where
  | d (d : DV)
  | agg (cs : List DV)

inductive BV where
  | x (v : Value)
  | g (a : AG)
  | ptr (k off : Nat)
  | ep (cs : List DV)
  | own (k : Nat) (es : List (List DV))
  | cp (size : Nat) (es : List (List DV))
  | clo (f : Nat) (caps : List Nat)
  | sem (Φ : List AG → Value → Prop)

inductive SV where
  | one (b : BV)
  | tup (l : List BV)
  | dead

inductive HE where
  | blk (T : Nat) (cs : List BV)
  | row (T size : Nat) (es : List (List DV)) (ex : Bool)
  | it (s : ByteArray) (pos : Nat)

def HE.isRow : HE → Bool
  | .row _ _ _ _ => true
  | _ => false

abbrev SL := List (Nat × SV)
abbrev HL := List (Nat × Option HE)

def sget : SL → Nat → Option SV
  | [], _ => none
  | (k, c) :: s, n => bif Nat.beq k n then some c else sget s n

def hget : HL → Nat → Option HE
  | [], _ => none
  | (k, c) :: s, n => bif Nat.beq k n then c else hget s n

theorem sget_cons (k : Nat) (c : SV) (s : SL) (n : Nat) : sget ((k, c) :: s) n = if k = n then some c else sget s n := by
  simp only [sget]
  by_cases h : k = n
  · subst h; simp
  · have : Nat.beq k n = false := by
      cases hb : Nat.beq k n with
      | false => rfl
      | true => exact absurd (Nat.eq_of_beq_eq_true hb) h
    simp [this, h]

theorem hget_cons (k : Nat) (c : Option HE) (s : HL) (n : Nat) : hget ((k, c) :: s) n = if k = n then c else hget s n := by
  simp only [hget]
  by_cases h : k = n
  · subst h; simp
  · have : Nat.beq k n = false := by
      cases hb : Nat.beq k n with
      | false => rfl
      | true => exact absurd (Nat.eq_of_beq_eq_true hb) h
    simp [this, h]

/-- the value u reads in the world w as the datum, by cells outside M -/
inductive RD (M : Nat → Nat → Prop) (w : World) : Value → DV → Prop
  | v (x : Value) (h : x.oneCell' = true) : RD M w x (.v x)
  | sl (a : Option Addr) (cap size : Nat) (es : List (List DV)) (vals : Nat → Nat → Value) (b o : Nat)
      (hc : es.length ≤ cap) (hm : cap ≤ maxLen) (ha : es ≠ [] → a = some ⟨b, o, none⟩)
      (hs : ∀ cs, cs ∈ es → cs.length = size)
      (hv : ∀ i cs j d, es[i]? = some cs → cs[j]? = some d → w.cell? ⟨b, o + (i * size + j), none⟩ = some (vals i j) ∧ ¬ M b (o + (i * size + j)))
      (hr : ∀ i cs j d, es[i]? = some cs → cs[j]? = some d → RD M w (vals i j) d) :
      RD M w (.slice a es.length cap) (.sl size es)

theorem RD.one {M : Nat → Nat → Prop} {w : World} {u : Value} {d : DV} (h : RD M w u d) : u.oneCell' = true := by
  cases h with
  | v _ h => exact h
  | sl => rfl

theorem RD.mono {M M' : Nat → Nat → Prop} {w w' : World}
    (h : ∀ b o x, ¬ M b o → w.cell? ⟨b, o, none⟩ = some x → w'.cell? ⟨b, o, none⟩ = some x ∧ ¬ M' b o)
    {u : Value} {d : DV} (r : RD M w u d) : RD M' w' u d := by
  induction r with
  | v x hx => exact .v x hx
  | sl a cap size es vals b o hc hm ha hs hv hr ih =>
    exact .sl a cap size es vals b o hc hm ha hs (fun i cs j d h1 h2 => h _ _ _ (hv i cs j d h1 h2).2 (hv i cs j d h1 h2).1) ih

theorem RD.v_inv {M : Nat → Nat → Prop} {w : World} {u x : Value} (h : RD M w u (.v x)) : u = x := by
  cases h; rfl

structure Cx (P : Program) (nt : Nat) where
  w0 : World
  M : Nat → Nat → Prop
  K : Nat → Prop

def HE.mutAt (o : Nat) : HE → Prop
  | .blk _ _ => True
  | .row _ size es ex => ex = true ∨ es.length * size ≤ o
  | .it _ _ => True

/-- the cells that may still be written -/
def Mu {P : Program} {nt : Nat} (C : Cx P nt) (hp : HL) (β : Nat → Option Nat) (b o : Nat) : Prop :=
  C.M b o ∨ ∃ k e, hget hp k = some e ∧ β k = some b ∧ e.mutAt o

/-- nothing that was there has turned, but the blocks of K -/
structure KeepW (K : Nat → Prop) (w0 w : World) : Prop where
  os : w.os = w0.os
  tape : w.tape = w0.tape
  output : w.output = w0.output
  size : w0.heap.size ≤ w.heap.size
  block : ∀ k, k < w0.heap.size → ¬ K k → w.heap[k]? = w0.heap[k]?

abbrev Keep {P : Program} {nt : Nat} (C : Cx P nt) (w : World) : Prop := KeepW C.K C.w0 w

def GR (M : Nat → Nat → Prop) (w : World) (u : Value) : AG → Prop
  | .d d => RD M w u d
  | .agg cs => ∃ us : Array Value, u = .agg us ∧ us.size = cs.length ∧ ∀ (j : Nat) (d : DV), cs[j]? = some d → ∃ x, us[j]? = some x ∧ RD M w x d

def CallF (P : Program) (f : Nat) : Prop := ∀ (args : Array Value) (w : World), (callFunc f args).run P w = .ok (.enter f args) w

/-- a function value that answers as Φ says, in whatever world comes after -/
def SemFn (P : Program) (w : World) (K : Nat → Prop) (u : Value) (Φ : List AG → Value → Prop) : Prop :=
  ∃ f caps, u = .func (.func f) #[] caps ∧ CallF P f ∧ ∀ w', KeepW K w w' → ∀ (M : Nat → Nat → Prop) (vs : List Value) (args : List AG) (r : Value),
    vs.length = args.length →
    (∀ (i : Nat) (v : Value) (g : AG), vs[i]? = some v → args[i]? = some g → GR M w' v g) →
    Φ args r → Calls P f (vs.toArray ++ caps) w' fun e w'' => e = .returned r ∧ Below w'.heap.size w' w''

theorem GR.mono {M M' : Nat → Nat → Prop} {w w' : World}
    (h : ∀ b o x, ¬ M b o → w.cell? ⟨b, o, none⟩ = some x → w'.cell? ⟨b, o, none⟩ = some x ∧ ¬ M' b o)
    {u : Value} {g : AG} (r : GR M w u g) : GR M' w' u g := by
  cases g with
  | d d => exact RD.mono h r
  | agg cs =>
    obtain ⟨us, h1, h2, h3⟩ := r
    exact ⟨us, h1, h2, fun j d hd => let ⟨x, hx, hr⟩ := h3 j d hd; ⟨x, hx, hr.mono h⟩⟩

/-- what a slot's (or a cell's) content says of its value -/
def BR {P : Program} {nt : Nat} (C : Cx P nt) (hp : HL) (β : Nat → Option Nat) (w : World) : BV → Value → Prop
  | .x v, u => u = v
  | .g a, u => GR (Mu C hp β) w u a
  | .ptr k off, u => (∃ e, hget hp k = some e ∧ e.isRow = false) ∧ ∃ b, β k = some b ∧ u = .pointer (some ⟨b, off, none⟩)
  | .ep cs, u => ∃ b o, u = .pointer (some ⟨b, o, none⟩) ∧ ∀ (j : Nat) (d : DV), cs[j]? = some d → ∃ x, w.cell? ⟨b, o + j, none⟩ = some x ∧ ¬ Mu C hp β b (o + j) ∧ RD (Mu C hp β) w x d
  | .own k es0, u => ∃ T size es ex, hget hp k = some (.row T size es ex) ∧ es0.length ≤ es.length ∧ (es0.length = es.length →
      ((β k = none ∧ es = [] ∧ ∃ a, u = .slice a 0 0) ∨
       (∃ b cap cur, β k = some b ∧ u = .slice (some ⟨b, 0, none⟩) es.length cap ∧ es.length ≤ cap ∧ cap ≤ maxLen ∧ w.heap[b]? = some (.cells cur T (0, 0)) ∧ cur.size = cap * size)))
  | .cp size es, u => RD (Mu C hp β) w u (.sl size es) ∧ ∃ a n, u = .slice a n n
  | .clo f caps, u => ∃ us : List Value, u = .func (.func f) #[] us.toArray ∧ us.length = caps.length ∧
      ∀ (i k : Nat), caps[i]? = some k → (∃ e, hget hp k = some e ∧ e.isRow = false) ∧ ∃ b, β k = some b ∧ us[i]? = some (.pointer (some ⟨b, 0, none⟩))
  | .sem Φ, u => SemFn P C.w0 C.K u Φ

def SR {P : Program} {nt : Nat} (C : Cx P nt) (hp : HL) (β : Nat → Option Nat) (w : World) : SV → Value → Prop
  | .one b, u => BR C hp β w b u
  | .tup l, u => ∃ us : Array Value, u = .tuple us ∧ us.size = l.length ∧ ∀ (i : Nat) (b : BV), l[i]? = some b → ∃ x, us[i]? = some x ∧ BR C hp β w b x
  | .dead, _ => True

def HR {P : Program} {nt : Nat} (C : Cx P nt) (hp : HL) (β : Nat → Option Nat) (w : World) (k : Nat) : HE → Prop
  | .blk T cs => ∃ b arr, β k = some b ∧ w.heap[b]? = some (.cells arr T (0, 0)) ∧ arr.size = cs.length ∧
      ∀ (j : Nat) (c : BV), cs[j]? = some c → ∃ u, arr[j]? = some u ∧ u.oneCell' = true ∧ BR C hp β w c u
  | .row T size es _ => 0 < size ∧ (∀ cs, cs ∈ es → cs.length = size) ∧ ((β k = none ∧ es = []) ∨ ∃ b cur, β k = some b ∧ w.heap[b]? = some (.cells cur T (0, 0)) ∧ es.length * size ≤ cur.size ∧
      ∀ (i : Nat) (cs : List DV) (j : Nat) (d : DV), es[i]? = some cs → cs[j]? = some d → ∃ u, cur[i * size + j]? = some u ∧ RD (Mu C hp β) w u d)
  | .it s pos => ∃ b, β k = some b ∧ w.heap[b]? = some (.stringIter s pos)

structure St where
  sl : SL
  hp : HL

structure RelB {P : Program} {nt : Nat} (C : Cx P nt) (st : St) (β : Nat → Option Nat) (a : Act) (w : World) : Prop where
  keep : Keep C w
  low : ∀ b o, C.M b o → b < C.w0.heap.size ∧ ¬ C.K b
  inj : ∀ k k' e e' b, hget st.hp k = some e → hget st.hp k' = some e' → β k = some b → β k' = some b → k = k'
  own : ∀ k e b, hget st.hp k = some e → β k = some b → (C.w0.heap.size ≤ b ∨ C.K b) ∧ b < w.heap.size
  hp : ∀ k e, hget st.hp k = some e → HR C st.hp β w k e
  sl : ∀ t sv, sget st.sl t = some sv → SR C st.hp β w sv (a.tmps.getD t undef)
  size : a.tmps.size = nt
  df : a.defers = []

def Rel {P : Program} {nt : Nat} (C : Cx P nt) (st : St) (a : Act) (w : World) : Prop := ∃ β, RelB C st β a w

theorem RelB.mut_lt {P : Program} {nt : Nat} {C : Cx P nt} {st : St} {β : Nat → Option Nat} {a : Act} {w : World} (r : RelB C st β a w) {b o : Nat} (h : Mu C st.hp β b o) : b < w.heap.size := by
  rcases h with h | ⟨k, e, he, hb, _⟩
  · exact Nat.lt_of_lt_of_le (r.low b o h).1 r.keep.size
  · exact (r.own k e b he hb).2

theorem Keep.below {P : Program} {nt : Nat} {C : Cx P nt} {w w' : World} (h : Keep C w) (hb : Below w.heap.size w w') : Keep C w' :=
  ⟨hb.os.trans h.os, hb.tape.trans h.tape, hb.output.trans h.output, Nat.le_trans h.size hb.size,
   fun k hk hK => (hb.block k (Nat.lt_of_lt_of_le hk h.size)).trans (h.block k hk hK)⟩

theorem cell_lt {w : World} {b o : Nat} {x : Value} (h : w.cell? ⟨b, o, none⟩ = some x) : b < w.heap.size := World.block_lt_of_cell? w ⟨b, o, none⟩ h

/-- what stays behind a step that leaves all blocks alone: readings of data -/
theorem below_kept {M : Nat → Nat → Prop} {w w' : World} (hb : Below w.heap.size w w') :
    ∀ b o x, ¬ M b o → w.cell? ⟨b, o, none⟩ = some x → w'.cell? ⟨b, o, none⟩ = some x ∧ ¬ M b o :=
  fun b o x hn hx => ⟨by rw [hb.cell (p := ⟨b, o, none⟩) (cell_lt hx)]; exact hx, hn⟩

/-- BR from one world (and set of blocks) to another -/
theorem BR.kept {P : Program} {nt : Nat} {C : Cx P nt} {hp hp' : HL} {β β' : Nat → Option Nat} {w w' : World}
    (h : ∀ b o x, ¬ Mu C hp β b o → w.cell? ⟨b, o, none⟩ = some x → w'.cell? ⟨b, o, none⟩ = some x ∧ ¬ Mu C hp' β' b o)
    {c : BV} {u : Value}
    (hk : ∀ k, (match c with | .ptr k' _ => k' = k | .clo _ l => k ∈ l | _ => False) → ∀ e, hget hp k = some e → e.isRow = false → (∃ e', hget hp' k = some e' ∧ e'.isRow = false) ∧ β' k = β k)
    (ho : ∀ k es, c = .own k es → BR C hp β w c u → BR C hp' β' w' c u)
    (r : BR C hp β w c u) : BR C hp' β' w' c u := by
  cases c with
  | x v => exact r
  | g a => exact GR.mono h r
  | ptr k off =>
    obtain ⟨⟨e, he, hr⟩, b, hb, hu⟩ := r
    obtain ⟨h1, h2⟩ := hk k rfl e he hr
    exact ⟨h1, b, h2.trans hb, hu⟩
  | ep cs =>
    obtain ⟨b, o, hu, hc⟩ := r
    exact ⟨b, o, hu, fun j d hd => let ⟨x, hx, hm, hr⟩ := hc j d hd; ⟨x, (h _ _ _ hm hx).1, (h _ _ _ hm hx).2, hr.mono h⟩⟩
  | own k es => exact ho k es rfl r
  | cp size es => exact ⟨r.1.mono h, r.2⟩
  | clo f caps =>
    obtain ⟨us, hu, hl, hc⟩ := r
    refine ⟨us, hu, hl, fun i k hik => ?_⟩
    obtain ⟨⟨e, he, hr⟩, b, hb, hx⟩ := hc i k hik
    obtain ⟨h1, h2⟩ := hk k (List.mem_of_getElem? hik) e he hr
    exact ⟨h1, b, h2.trans hb, hx⟩
  | sem Φ => exact r

theorem BR.below {P : Program} {nt : Nat} {C : Cx P nt} {hp : HL} {β : Nat → Option Nat} {w w' : World} (hb : Below w.heap.size w w') {c : BV} {u : Value} (r : BR C hp β w c u) : BR C hp β w' c u := by
  refine BR.kept (below_kept hb) (fun k _ e he hr => ⟨⟨e, he, hr⟩, rfl⟩) (fun k es0 hk r => ?_) r
  subst hk
  obtain ⟨T, size, es, ex, hh, hl, hr⟩ := r
  refine ⟨T, size, es, ex, hh, hl, fun hq => (hr hq).imp id ?_⟩
  rintro ⟨b, cap, cur, h1, h2, h3, h4, h5, h6⟩
  exact ⟨b, cap, cur, h1, h2, h3, h4, by rw [hb.block b (Array.getElem?_eq_some_iff.1 h5).1]; exact h5, h6⟩

theorem SR.below {P : Program} {nt : Nat} {C : Cx P nt} {hp : HL} {β : Nat → Option Nat} {w w' : World} (hb : Below w.heap.size w w') {c : SV} {u : Value} (r : SR C hp β w c u) : SR C hp β w' c u := by
  cases c with
  | one b => exact BR.below hb r
  | tup l =>
    obtain ⟨us, h1, h2, h3⟩ := r
    exact ⟨us, h1, h2, fun i b hi => let ⟨x, hx, hr⟩ := h3 i b hi; ⟨x, hx, BR.below hb hr⟩⟩
  | dead => trivial

theorem HR.below {P : Program} {nt : Nat} {C : Cx P nt} {hp : HL} {β : Nat → Option Nat} {w w' : World} (hb : Below w.heap.size w w') {k : Nat} {e : HE} (r : HR C hp β w k e) : HR C hp β w' k e := by
  cases e with
  | blk T cs =>
    obtain ⟨b, arr, h1, h2, h3, h4⟩ := r
    exact ⟨b, arr, h1, by rw [hb.block b (Array.getElem?_eq_some_iff.1 h2).1]; exact h2, h3, fun j c hc => let ⟨u, hu, ho, hr⟩ := h4 j c hc; ⟨u, hu, ho, BR.below hb hr⟩⟩
  | row T size es ex =>
    obtain ⟨hz, hs, hr⟩ := r
    refine ⟨hz, hs, hr.imp id ?_⟩
    rintro ⟨b, cur, h1, h2, h3, h4⟩
    exact ⟨b, cur, h1, by rw [hb.block b (Array.getElem?_eq_some_iff.1 h2).1]; exact h2, h3, fun i cs j d hi hj => let ⟨u, hu, hr⟩ := h4 i cs j d hi hj; ⟨u, hu, hr.mono (below_kept hb)⟩⟩
  | it s pos =>
    obtain ⟨b, h1, h2⟩ := r
    exact ⟨b, h1, by rw [hb.block b (Array.getElem?_eq_some_iff.1 h2).1]; exact h2⟩

theorem getD_put (a : Act) (dst t : Nat) (v : Value) : (a.put (some dst) v).tmps.getD t undef = if dst = t ∧ dst < a.tmps.size then v else a.tmps.getD t undef := by
  simp only [Act.put, Array.getD_eq_getD_getElem?, Array.getElem?_setIfInBounds]
  by_cases h : dst = t
  · subst h
    by_cases h2 : dst < a.tmps.size
    · simp [h2]
    · simp [h2]
  · simp [h]

/-- one slot is set, and all blocks are as they were -/
theorem RelB.put {P : Program} {nt : Nat} {C : Cx P nt} {sl : SL} {hp : HL} {β : Nat → Option Nat} {a : Act} {w w' : World} (r : RelB C ⟨sl, hp⟩ β a w) (hb : Below w.heap.size w w') {dst : Nat} (hd : dst < nt)
    {sv : SV} {v : Value} (hv : SR C hp β w' sv v) : RelB C ⟨(dst, sv) :: sl, hp⟩ β (a.put (some dst) v) w' where
  keep := r.keep.below hb
  low := r.low
  inj := r.inj
  own := fun k e b he hk => ⟨(r.own k e b he hk).1, Nat.lt_of_lt_of_le (r.own k e b he hk).2 hb.size⟩
  hp := fun k e he => (r.hp k e he).below hb
  sl := by
    intro t sv' hs
    rw [getD_put]
    simp only [sget_cons] at hs
    by_cases h : dst = t
    · subst h
      rw [if_pos rfl] at hs
      cases hs
      rw [if_pos ⟨rfl, by rw [r.size]; exact hd⟩]
      exact hv
    · rw [if_neg h] at hs
      rw [if_neg (fun c => h c.1)]
      exact (r.sl t sv' hs).below hb
  size := by simp [Act.put, r.size]
  df := r.df

theorem RelB.put_none {P : Program} {nt : Nat} {C : Cx P nt} {st : St} {β : Nat → Option Nat} {a : Act} {w w' : World} (r : RelB C st β a w) (hb : Below w.heap.size w w') : RelB C st β a w' where
  keep := r.keep.below hb
  low := r.low
  inj := r.inj
  own := fun k e b he hk => ⟨(r.own k e b he hk).1, Nat.lt_of_lt_of_le (r.own k e b he hk).2 hb.size⟩
  hp := fun k e he => (r.hp k e he).below hb
  sl := fun t sv hs => (r.sl t sv hs).below hb
  size := r.size
  df := r.df

end Go.Ab
