import Derived.WalkKit
import Derived.Orders
import Derived.Scope
import Derived.Lib.AppendStr
import Derived.ChangeArms
import Derived.ChangeSame
import Derived.Carry
import Derived.Handed
import Derived.OpenShut
import Derived.ProofKit
import Derived.JoinedCond
/- An abstract machine over plain data, for walks: the state (slots and blocks of data), what it says of a frame and a world, and the frame laws. Conditions: none; nothing of a program stands here. -/
namespace Go.Ab
open Go Go.RowKit

/-- plain data: one cell, or a slice whose elements have 'size' cells each -/
inductive DV where
  | v (x : Value)
  | sl (size : Nat) (es : List (List DV))

/-- what a slot may hold of plain data: one cell's, or a struct's cells -/
inductive AG where
  | d (d : DV)
  | agg (cs : List DV)

inductive BV where
  | x (v : Value)
  | g (a : AG)
  | ptr (k off : Nat)
  | ep (cs : List DV)
  | own (k : Nat) (es : List (List DV))
  | cp (size : Nat) (es : List (List DV))
  | clo (f : Nat) (caps : List Nat)
  | sem (Φ : List AG → Value → Prop)
  | rp (k : Nat) (es : List (List DV)) (off : Nat)
  | pv (k : Nat) (Ψ : Nat → Value → Prop)
  | any (n : Nat)
  | ro (Φ : (Nat → Nat → Prop) → World → Value → Prop)
  | yg (a : AG)

inductive SV where
  | one (b : BV)
  | tup (l : List BV)
  | dead

inductive HE where
  | blk (T : Nat) (cs : List BV)
  | row (T size : Nat) (es : List (List DV)) (ex : Bool)
  | it (s : ByteArray) (pos : Nat)
  | bld (T E kk : Nat) (s : ByteArray)
  | hid (row : Bool) (own : Nat)
  | pr (Φ : Obj → Prop)
  | map (es : List (Value × AG))

def HE.isRow : HE → Bool
  | .row _ _ _ _ => true
  | .hid r _ => r
  | _ => false

abbrev SL := List (Nat × SV)
abbrev HL := List (Nat × Option HE)

def sget : SL → Nat → Option SV
  | [], _ => none
  | (k, c) :: s, n => bif Nat.beq k n then some c else sget s n

def hget : HL → Nat → Option HE
  | [], _ => none
  | (k, c) :: s, n => bif Nat.beq k n then c else hget s n

theorem sget_cons (k : Nat) (c : SV) (s : SL) (n : Nat) : sget ((k, c) :: s) n = if k = n then some c else sget s n := by
  simp only [sget]
  by_cases h : k = n
  · subst h; simp
  · have : Nat.beq k n = false := by
      cases hb : Nat.beq k n with
      | false => rfl
      | true => exact absurd (Nat.eq_of_beq_eq_true hb) h
    simp [this, h]

theorem hget_cons (k : Nat) (c : Option HE) (s : HL) (n : Nat) : hget ((k, c) :: s) n = if k = n then c else hget s n := by
  simp only [hget]
  by_cases h : k = n
  · subst h; simp
  · have : Nat.beq k n = false := by
      cases hb : Nat.beq k n with
      | false => rfl
      | true => exact absurd (Nat.eq_of_beq_eq_true hb) h
    simp [this, h]

theorem ownsRow_lt {w : World} {base : Nat} {e : TypeId} {size : Nat} {v : Value} {n : Nat} {xs : List Value} (h : w.ownsRow base e size v n xs) {g : Nat} (hg : v.ownBlock = some g) : g < w.heap.size := by
  rcases h.2 with ⟨rfl, _⟩ | ⟨g', cap, cur, rfl, _, h2, _⟩
  · cases hg
  · simp only [Value.ownBlock, Option.some.injEq] at hg
    subst hg
    exact (Array.getElem?_eq_some_iff.1 h2).1
theorem ownsRow_of_block {w w' : World} {base : Nat} {e : TypeId} {size : Nat} {v : Value} {n : Nat} {xs : List Value} (h : w.ownsRow base e size v n xs) (hb : ∀ g, v.ownBlock = some g → w'.heap[g]? = w.heap[g]?) : w'.ownsRow base e size v n xs := by
  refine ⟨h.1, h.2.imp id ?_⟩
  rintro ⟨g, cap, cur, h1, h2, h3, h4⟩
  exact ⟨g, cap, cur, h1, h2, by rw [hb g (by rw [h1]; rfl)]; exact h3, h4⟩

/-- the value u reads in the world w as the datum, by cells outside M -/
inductive RD (M : Nat → Nat → Prop) (w : World) : Value → DV → Prop
  | v (x : Value) (h : x.oneCell' = true) : RD M w x (.v x)
  | sl (a : Option Addr) (cap size : Nat) (es : List (List DV)) (vals : Nat → Nat → Value) (b o : Nat)
      (hc : es.length ≤ cap) (hm : cap ≤ maxLen) (ha : es ≠ [] → a = some ⟨b, o, none⟩)
      (hs : ∀ cs, cs ∈ es → cs.length = size)
      (hv : ∀ i cs j d, es[i]? = some cs → cs[j]? = some d → w.cell? ⟨b, o + (i * size + j), none⟩ = some (vals i j) ∧ ¬ M b (o + (i * size + j)))
      (hr : ∀ i cs j d, es[i]? = some cs → cs[j]? = some d → RD M w (vals i j) d) :
      RD M w (.slice a es.length cap) (.sl size es)

theorem RD.one {M : Nat → Nat → Prop} {w : World} {u : Value} {d : DV} (h : RD M w u d) : u.oneCell' = true := by
  cases h with
  | v _ h => exact h
  | sl => rfl

theorem RD.mono {M M' : Nat → Nat → Prop} {w w' : World}
    (h : ∀ b o x, ¬ M b o → w.cell? ⟨b, o, none⟩ = some x → w'.cell? ⟨b, o, none⟩ = some x ∧ ¬ M' b o)
    {u : Value} {d : DV} (r : RD M w u d) : RD M' w' u d := by
  induction r with
  | v x hx => exact .v x hx
  | sl a cap size es vals b o hc hm ha hs hv hr ih =>
    exact .sl a cap size es vals b o hc hm ha hs (fun i cs j d h1 h2 => h _ _ _ (hv i cs j d h1 h2).2 (hv i cs j d h1 h2).1) ih

theorem RD.v_inv {M : Nat → Nat → Prop} {w : World} {u x : Value} (h : RD M w u (.v x)) : u = x := by
  cases h; rfl

structure Cx (P : Program) (nt : Nat) where
  w0 : World
  M : Nat → Nat → Prop
  K : Nat → Prop
  F : Option Nat := none

def HE.mutAt (o : Nat) : HE → Prop
  | .blk _ _ => True
  | .row _ size es ex => ex = true ∨ es.length * size ≤ o
  | .it _ _ => True
  | .bld _ _ _ _ => True
  | .hid _ _ => True
  | .pr _ => True
  | .map _ => True

/-- the cells that may still be written -/
def Mu {P : Program} {nt : Nat} (C : Cx P nt) (hp : HL) (β : Nat → Option Nat) (b o : Nat) : Prop :=
  C.M b o ∨ ∃ k e, hget hp k = some e ∧ β k = some b ∧ e.mutAt o

/-- nothing that was there has turned, but the blocks of K -/
structure KeepW (K : Nat → Prop) (w0 w : World) : Prop where
  os : w.os = w0.os
  tape : w.tape = w0.tape
  output : w.output = w0.output
  size : w0.heap.size ≤ w.heap.size
  block : ∀ k, k < w0.heap.size → ¬ K k → w.heap[k]? = w0.heap[k]?

abbrev Keep {P : Program} {nt : Nat} (C : Cx P nt) (w : World) : Prop := KeepW C.K C.w0 w

def GR (M : Nat → Nat → Prop) (w : World) (u : Value) : AG → Prop
  | .d d => RD M w u d
  | .agg cs => ∃ us : Array Value, u = .agg us ∧ us.size = cs.length ∧ ∀ (j : Nat) (d : DV), cs[j]? = some d → ∃ x, us[j]? = some x ∧ RD M w x d

def CallF (P : Program) (f : Nat) : Prop := ∀ (args : Array Value) (w : World), (callFunc f args).run P w = .ok (.enter f args) w

/-- a function value that answers as Φ says, in whatever world comes after -/
def SemFn (P : Program) (w : World) (K : Nat → Prop) (u : Value) (Φ : List AG → Value → Prop) : Prop :=
  ∃ f caps, u = .func (.func f) #[] caps ∧ CallF P f ∧ ∀ w', KeepW K w w' → ∀ (M : Nat → Nat → Prop) (vs : List Value) (args : List AG) (r : Value),
    vs.length = args.length →
    (∀ (i : Nat) (v : Value) (g : AG), vs[i]? = some v → args[i]? = some g → GR M w' v g) →
    Φ args r → Calls P f (vs.toArray ++ caps) w' fun e w'' => e = .returned r ∧ Below w'.heap.size w' w''

theorem GR.mono {M M' : Nat → Nat → Prop} {w w' : World}
    (h : ∀ b o x, ¬ M b o → w.cell? ⟨b, o, none⟩ = some x → w'.cell? ⟨b, o, none⟩ = some x ∧ ¬ M' b o)
    {u : Value} {g : AG} (r : GR M w u g) : GR M' w' u g := by
  cases g with
  | d d => exact RD.mono h r
  | agg cs =>
    obtain ⟨us, h1, h2, h3⟩ := r
    exact ⟨us, h1, h2, fun j d hd => let ⟨x, hx, hr⟩ := h3 j d hd; ⟨x, hx, hr.mono h⟩⟩

/-- what a slot's (or a cell's) content says of its value -/
def BR {P : Program} {nt : Nat} (C : Cx P nt) (hp : HL) (β : Nat → Option Nat) (w : World) : BV → Value → Prop
  | .x v, u => u = v
  | .g a, u => GR (Mu C hp β) w u a
  | .ptr k off, u => (∃ e, hget hp k = some e ∧ e.isRow = false) ∧ ∃ b, β k = some b ∧ u = .pointer (some ⟨b, off, none⟩)
  | .ep cs, u => ∃ b o, u = .pointer (some ⟨b, o, none⟩) ∧ ∀ (j : Nat) (d : DV), cs[j]? = some d → ∃ x, w.cell? ⟨b, o + j, none⟩ = some x ∧ ¬ Mu C hp β b (o + j) ∧ RD (Mu C hp β) w x d
  | .own k es0, u => ∃ T size es ex, hget hp k = some (.row T size es ex) ∧ es0.length ≤ es.length ∧ (es0.length = es.length →
      ((β k = none ∧ es = [] ∧ ∃ a, u = .slice a 0 0) ∨
       (∃ b cap cur, β k = some b ∧ u = .slice (some ⟨b, 0, none⟩) es.length cap ∧ es.length ≤ cap ∧ cap ≤ maxLen ∧ w.heap[b]? = some (.cells cur T (0, 0)) ∧ cur.size = cap * size)))
  | .cp size es, u => RD (Mu C hp β) w u (.sl size es) ∧ ∃ a n, u = .slice a n n
  | .clo f caps, u => ∃ us : List Value, u = .func (.func f) #[] us.toArray ∧ us.length = caps.length ∧
      ∀ (i k : Nat), caps[i]? = some k → (∃ e, hget hp k = some e ∧ e.isRow = false) ∧ ∃ b, β k = some b ∧ us[i]? = some (.pointer (some ⟨b, 0, none⟩))
  | .sem Φ, u => SemFn P C.w0 C.K u Φ
  | .rp k es0 off, u => ∃ s : Value, (∃ T size es ex, hget hp k = some (.row T size es ex) ∧ es0.length ≤ es.length ∧ (es0.length = es.length →
      ((β k = none ∧ es = [] ∧ ∃ a, s = .slice a 0 0) ∨
       (∃ b cap cur, β k = some b ∧ s = .slice (some ⟨b, 0, none⟩) es.length cap ∧ es.length ≤ cap ∧ cap ≤ maxLen ∧ w.heap[b]? = some (.cells cur T (0, 0)) ∧ cur.size = cap * size)))) ∧
      ∃ b l c, s = .slice (some ⟨b, 0, none⟩) l c ∧ u = .pointer (some ⟨b, off, none⟩)
  | .pv k Ψ, u => (∃ e, hget hp k = some e ∧ e.isRow = false) ∧ ∃ b, β k = some b ∧ Ψ b u ∧ u.oneCell' = true
  | .any n, u => n = 0 ∨ ∃ us : Array Value, u = .agg us ∧ us.size = n ∧ ∀ (j : Nat) (x : Value), us[j]? = some x → x.oneCell' = true
  | .ro Φ, u => Φ (fun b o => C.M b o ∨ C.K b) C.w0 u
  | .yg a, u => GR (fun b o => Mu C hp β b o ∨ b < C.w0.heap.size) w u a

def SR {P : Program} {nt : Nat} (C : Cx P nt) (hp : HL) (β : Nat → Option Nat) (w : World) : SV → Value → Prop
  | .one b, u => BR C hp β w b u
  | .tup l, u => ∃ us : Array Value, u = .tuple us ∧ us.size = l.length ∧ ∀ (i : Nat) (b : BV), l[i]? = some b → ∃ x, us[i]? = some x ∧ BR C hp β w b x
  | .dead, _ => True

def HR {P : Program} {nt : Nat} (C : Cx P nt) (hp : HL) (β : Nat → Option Nat) (w : World) (k : Nat) : HE → Prop
  | .blk T cs => ∃ b arr, β k = some b ∧ w.heap[b]? = some (.cells arr T (0, 0)) ∧ arr.size = cs.length ∧
      ∀ (j : Nat) (c : BV), cs[j]? = some c → ∃ u, arr[j]? = some u ∧ u.oneCell' = true ∧ BR C hp β w c u
  | .row T size es _ => 0 < size ∧ (∀ cs, cs ∈ es → cs.length = size) ∧ ((β k = none ∧ es = []) ∨ ∃ b cur, β k = some b ∧ w.heap[b]? = some (.cells cur T (0, 0)) ∧ es.length * size ≤ cur.size ∧
      ∀ (i : Nat) (cs : List DV) (j : Nat) (d : DV), es[i]? = some cs → cs[j]? = some d → ∃ u, cur[i * size + j]? = some u ∧ RD (Mu C hp β) w u d)
  | .it s pos => ∃ b, β k = some b ∧ w.heap[b]? = some (.stringIter s pos)
  | .bld T E kk s => hget hp kk = some (.hid true k) ∧ ∃ b p v, β k = some b ∧ (p = .pointer none ∨ p = .pointer (some ⟨b, 0, none⟩)) ∧ w.heap[b]? = some (.cells #[p, v] T (0, 0)) ∧ w.ownsRow 0 E 1 v s.size (Lib.strCells s) ∧ v.ownBlock = β kk
  | .hid _ _ => True
  | .pr Φ => ∃ b o, β k = some b ∧ w.heap[b]? = some o ∧ Φ o
  | .map es => ∃ b ents, β k = some b ∧ w.heap[b]? = some (.map ents ents.size) ∧ ents.size = es.length ∧ ∀ (i : Nat) (e : Value × AG), es[i]? = some e → ∃ x, ents[i]? = some x ∧ x.key = e.1 ∧ x.born = i ∧ GR (Mu C hp β) w x.val e.2

structure St where
  sl : SL
  hp : HL

structure RelB {P : Program} {nt : Nat} (C : Cx P nt) (st : St) (β : Nat → Option Nat) (a : Act) (w : World) : Prop where
  keep : Keep C w
  low : ∀ b o, C.M b o → b < C.w0.heap.size ∧ ¬ C.K b
  inj : ∀ k k' e e' b, hget st.hp k = some e → hget st.hp k' = some e' → β k = some b → β k' = some b → k = k'
  own : ∀ k e b, hget st.hp k = some e → β k = some b → (C.w0.heap.size ≤ b ∨ C.K b) ∧ b < w.heap.size
  hp : ∀ k e, hget st.hp k = some e → HR C st.hp β w k e
  sl : ∀ t sv, sget st.sl t = some sv → SR C st.hp β w sv (a.tmps.getD t undef)
  size : a.tmps.size = nt
  df : a.defers = []
  fx : ∀ b, C.F = some b → β 0 = some b ∧ ∀ e, hget st.hp 0 = some e → e.isRow = false

def Rel {P : Program} {nt : Nat} (C : Cx P nt) (st : St) (a : Act) (w : World) : Prop := ∃ β, RelB C st β a w

theorem RelB.mut_lt {P : Program} {nt : Nat} {C : Cx P nt} {st : St} {β : Nat → Option Nat} {a : Act} {w : World} (r : RelB C st β a w) {b o : Nat} (h : Mu C st.hp β b o) : b < w.heap.size := by
  rcases h with h | ⟨k, e, he, hb, _⟩
  · exact Nat.lt_of_lt_of_le (r.low b o h).1 r.keep.size
  · exact (r.own k e b he hb).2

theorem Keep.below {P : Program} {nt : Nat} {C : Cx P nt} {w w' : World} (h : Keep C w) (hb : Below w.heap.size w w') : Keep C w' :=
  ⟨hb.os.trans h.os, hb.tape.trans h.tape, hb.output.trans h.output, Nat.le_trans h.size hb.size,
   fun k hk hK => (hb.block k (Nat.lt_of_lt_of_le hk h.size)).trans (h.block k hk hK)⟩

theorem cell_lt {w : World} {b o : Nat} {x : Value} (h : w.cell? ⟨b, o, none⟩ = some x) : b < w.heap.size := World.block_lt_of_cell? w ⟨b, o, none⟩ h

/-- what stays behind a step that leaves all blocks alone: readings of data -/
theorem below_kept {M : Nat → Nat → Prop} {w w' : World} (hb : Below w.heap.size w w') :
    ∀ b o x, ¬ M b o → w.cell? ⟨b, o, none⟩ = some x → w'.cell? ⟨b, o, none⟩ = some x ∧ ¬ M b o :=
  fun b o x hn hx => ⟨by rw [hb.cell (p := ⟨b, o, none⟩) (cell_lt hx)]; exact hx, hn⟩

/-- BR from one world (and set of blocks) to another -/
theorem BR.kept {P : Program} {nt : Nat} {C : Cx P nt} {hp hp' : HL} {β β' : Nat → Option Nat} {w w' : World}
    (h : ∀ b o x, ¬ Mu C hp β b o → w.cell? ⟨b, o, none⟩ = some x → w'.cell? ⟨b, o, none⟩ = some x ∧ ¬ Mu C hp' β' b o)
    {c : BV} {u : Value}
    (hk : ∀ k, (match c with | .ptr k' _ => k' = k | .pv k' _ => k' = k | .clo _ l => k ∈ l | _ => False) → ∀ e, hget hp k = some e → e.isRow = false → (∃ e', hget hp' k = some e' ∧ e'.isRow = false) ∧ β' k = β k)
    (ho : ∀ k es u, (c = .own k es ∨ ∃ off, c = .rp k es off) → BR C hp β w (.own k es) u → BR C hp' β' w' (.own k es) u)
    (r : BR C hp β w c u) : BR C hp' β' w' c u := by
  cases c with
  | x v => exact r
  | g a => exact GR.mono h r
  | ptr k off =>
    obtain ⟨⟨e, he, hr⟩, b, hb, hu⟩ := r
    obtain ⟨h1, h2⟩ := hk k rfl e he hr
    exact ⟨h1, b, h2.trans hb, hu⟩
  | ep cs =>
    obtain ⟨b, o, hu, hc⟩ := r
    exact ⟨b, o, hu, fun j d hd => let ⟨x, hx, hm, hr⟩ := hc j d hd; ⟨x, (h _ _ _ hm hx).1, (h _ _ _ hm hx).2, hr.mono h⟩⟩
  | own k es => exact ho k es u (.inl rfl) r
  | cp size es => exact ⟨r.1.mono h, r.2⟩
  | clo f caps =>
    obtain ⟨us, hu, hl, hc⟩ := r
    refine ⟨us, hu, hl, fun i k hik => ?_⟩
    obtain ⟨⟨e, he, hr⟩, b, hb, hx⟩ := hc i k hik
    obtain ⟨h1, h2⟩ := hk k (List.mem_of_getElem? hik) e he hr
    exact ⟨h1, b, h2.trans hb, hx⟩
  | sem Φ => exact r
  | rp k es off =>
    obtain ⟨s, h1, h2⟩ := r
    exact ⟨s, ho k es s (.inr ⟨off, rfl⟩) h1, h2⟩
  | pv k Ψ =>
    obtain ⟨⟨e, he, hr⟩, b, hb, hu⟩ := r
    obtain ⟨h1, h2⟩ := hk k rfl e he hr
    exact ⟨h1, b, h2.trans hb, hu⟩
  | any n => exact r
  | ro Φ => exact r
  | yg a =>
    refine GR.mono (fun b o x hn hx => ?_) r
    obtain ⟨h1, h2⟩ := h b o x (fun c => hn (.inl c)) hx
    exact ⟨h1, fun c => c.elim h2 fun c => hn (.inr c)⟩

theorem BR.below {P : Program} {nt : Nat} {C : Cx P nt} {hp : HL} {β : Nat → Option Nat} {w w' : World} (hb : Below w.heap.size w w') {c : BV} {u : Value} (r : BR C hp β w c u) : BR C hp β w' c u := by
  refine BR.kept (below_kept hb) (fun k _ e he hr => ⟨⟨e, he, hr⟩, rfl⟩) (fun k es0 u _ r => ?_) r
  obtain ⟨T, size, es, ex, hh, hl, hr⟩ := r
  refine ⟨T, size, es, ex, hh, hl, fun hq => (hr hq).imp id ?_⟩
  rintro ⟨b, cap, cur, h1, h2, h3, h4, h5, h6⟩
  exact ⟨b, cap, cur, h1, h2, h3, h4, by rw [hb.block b (Array.getElem?_eq_some_iff.1 h5).1]; exact h5, h6⟩

theorem SR.below {P : Program} {nt : Nat} {C : Cx P nt} {hp : HL} {β : Nat → Option Nat} {w w' : World} (hb : Below w.heap.size w w') {c : SV} {u : Value} (r : SR C hp β w c u) : SR C hp β w' c u := by
  cases c with
  | one b => exact BR.below hb r
  | tup l =>
    obtain ⟨us, h1, h2, h3⟩ := r
    exact ⟨us, h1, h2, fun i b hi => let ⟨x, hx, hr⟩ := h3 i b hi; ⟨x, hx, BR.below hb hr⟩⟩
  | dead => trivial

theorem HR.below {P : Program} {nt : Nat} {C : Cx P nt} {hp : HL} {β : Nat → Option Nat} {w w' : World} (hb : Below w.heap.size w w') {k : Nat} {e : HE} (r : HR C hp β w k e) : HR C hp β w' k e := by
  cases e with
  | blk T cs =>
    obtain ⟨b, arr, h1, h2, h3, h4⟩ := r
    exact ⟨b, arr, h1, by rw [hb.block b (Array.getElem?_eq_some_iff.1 h2).1]; exact h2, h3, fun j c hc => let ⟨u, hu, ho, hr⟩ := h4 j c hc; ⟨u, hu, ho, BR.below hb hr⟩⟩
  | row T size es ex =>
    obtain ⟨hz, hs, hr⟩ := r
    refine ⟨hz, hs, hr.imp id ?_⟩
    rintro ⟨b, cur, h1, h2, h3, h4⟩
    exact ⟨b, cur, h1, by rw [hb.block b (Array.getElem?_eq_some_iff.1 h2).1]; exact h2, h3, fun i cs j d hi hj => let ⟨u, hu, hr⟩ := h4 i cs j d hi hj; ⟨u, hu, hr.mono (below_kept hb)⟩⟩
  | it s pos =>
    obtain ⟨b, h1, h2⟩ := r
    exact ⟨b, h1, by rw [hb.block b (Array.getElem?_eq_some_iff.1 h2).1]; exact h2⟩
  | pr Φ =>
    obtain ⟨b, o, h1, h2, h3⟩ := r
    exact ⟨b, o, h1, by rw [hb.block b (Array.getElem?_eq_some_iff.1 h2).1]; exact h2, h3⟩
  | map es =>
    obtain ⟨b, ents, h1, h2, h3, h4⟩ := r
    exact ⟨b, ents, h1, by rw [hb.block b (Array.getElem?_eq_some_iff.1 h2).1]; exact h2, h3, fun i e he => let ⟨x, q1, q2, q3, q4⟩ := h4 i e he; ⟨x, q1, q2, q3, q4.mono (below_kept hb)⟩⟩
  | bld T E kk s =>
    obtain ⟨hk, b, p, v, h1, h2, h3, h4, h5⟩ := r
    exact ⟨hk, b, p, v, h1, h2, by rw [hb.block b (Array.getElem?_eq_some_iff.1 h3).1]; exact h3, ownsRow_of_block h4 (fun g hg => hb.block g (ownsRow_lt h4 hg)), h5⟩
  | hid _ _ => trivial

theorem getD_put (a : Act) (dst t : Nat) (v : Value) : (a.put (some dst) v).tmps.getD t undef = if dst = t ∧ dst < a.tmps.size then v else a.tmps.getD t undef := by
  simp only [Act.put, Array.getD_eq_getD_getElem?, Array.getElem?_setIfInBounds]
  by_cases h : dst = t
  · subst h
    by_cases h2 : dst < a.tmps.size
    · simp [h2]
    · simp [h2]
  · simp [h]

/-- one slot is set, and all blocks are as they were -/
theorem RelB.put {P : Program} {nt : Nat} {C : Cx P nt} {sl : SL} {hp : HL} {β : Nat → Option Nat} {a : Act} {w w' : World} (r : RelB C ⟨sl, hp⟩ β a w) (hb : Below w.heap.size w w') {dst : Nat} (hd : dst < nt)
    {sv : SV} {v : Value} (hv : SR C hp β w' sv v) : RelB C ⟨(dst, sv) :: sl, hp⟩ β (a.put (some dst) v) w' where
  keep := r.keep.below hb
  low := r.low
  inj := r.inj
  own := fun k e b he hk => ⟨(r.own k e b he hk).1, Nat.lt_of_lt_of_le (r.own k e b he hk).2 hb.size⟩
  hp := fun k e he => (r.hp k e he).below hb
  sl := by
    intro t sv' hs
    rw [getD_put]
    simp only [sget_cons] at hs
    by_cases h : dst = t
    · subst h
      rw [if_pos rfl] at hs
      cases hs
      rw [if_pos ⟨rfl, by rw [r.size]; exact hd⟩]
      exact hv
    · rw [if_neg h] at hs
      rw [if_neg (fun c => h c.1)]
      exact (r.sl t sv' hs).below hb
  size := by simp [Act.put, r.size]
  df := r.df
  fx := r.fx

theorem RelB.put_none {P : Program} {nt : Nat} {C : Cx P nt} {st : St} {β : Nat → Option Nat} {a : Act} {w w' : World} (r : RelB C st β a w) (hb : Below w.heap.size w w') : RelB C st β a w' where
  keep := r.keep.below hb
  low := r.low
  inj := r.inj
  own := fun k e b he hk => ⟨(r.own k e b he hk).1, Nat.lt_of_lt_of_le (r.own k e b he hk).2 hb.size⟩
  hp := fun k e he => (r.hp k e he).below hb
  sl := fun t sv hs => (r.sl t sv hs).below hb
  size := r.size
  df := r.df
  fx := r.fx

end Go.Ab

/- The abstract machine, its operations that make a value and leave memory alone: one law each. Conditions: none but those that stand in each law. -/
namespace Go.Ab
open Go Go.RowKit

def HasS (sl : SL) : List (Nat × SV) → Prop
  | [] => True
  | (t, s) :: r => sget sl t = some s ∧ HasS sl r

def HasH (hp : HL) : List (Nat × Option HE) → Prop
  | [] => True
  | (t, s) :: r => hget hp t = s ∧ HasH hp r

theorem HasS.app {sl : SL} {l r : List (Nat × SV)} (h : HasS sl (l ++ r)) : HasS sl l ∧ HasS sl r := by
  induction l with
  | nil => exact ⟨trivial, h⟩
  | cons x l ih =>
    obtain ⟨t, s⟩ := x
    obtain ⟨h1, h2⟩ := h
    obtain ⟨h3, h4⟩ := ih h2
    exact ⟨⟨h1, h3⟩, h4⟩

/-- an operand's content, and what must be known of the slots -/
inductive Ev : Operand → BV → List (Nat × SV) → Prop
  | t (t : Nat) (c : BV) : Ev (.tmp t) c [(t, .one c)]
  | c (v : Value) (h : v.oneCell' = true) : Ev (.const v) (.g (.d (.v v))) []
  | n (size : Nat) : Ev (.const (.slice none 0 0)) (.g (.d (.sl size []))) []
  | x (v : Value) : Ev (.const v) (.x v) []
  | f (f : Nat) : Ev (.func f) (.clo f []) []

theorem RD.nil {M : Nat → Nat → Prop} {w : World} (a : Option Addr) (cap size : Nat) (h : cap ≤ maxLen) : RD M w (.slice a 0 cap) (.sl size []) :=
  RD.sl a cap size [] (fun _ _ => undef) 0 0 (Nat.zero_le _) h (fun c => absurd rfl c) (fun _ h => by cases h) (fun i cs j d h => by simp at h) (fun i cs j d h => by simp at h)

theorem Ev.ok {P : Program} {nt : Nat} {C : Cx P nt} {sl : SL} {hp : HL} {β : Nat → Option Nat} {a : Act} {w : World} {x : Operand} {c : BV} {R : List (Nat × SV)}
    (hx : Ev x c R) (hs : HasS sl R) (r : RelB C ⟨sl, hp⟩ β a w) : BR C hp β w c (a.eval x) := by
  cases hx with
  | t t => exact r.sl t _ hs.1
  | c v h => exact RD.v v h
  | n size => exact RD.nil none 0 size (Nat.zero_le _)
  | x v => rfl
  | f f => exact ⟨[], rfl, rfl, fun i k h => by simp at h⟩

theorem Ev.tup {P : Program} {nt : Nat} {C : Cx P nt} {sl : SL} {hp : HL} {β : Nat → Option Nat} {a : Act} {w : World} {t : Nat} {c : SV}
    (hs : sget sl t = some c) (r : RelB C ⟨sl, hp⟩ β a w) : SR C hp β w c (a.eval (.tmp t)) := r.sl t _ hs

def Step {P : Program} {nt : Nat} (C : Cx P nt) (o : Oper) (st st' : St) : Prop :=
  ∀ a w K Q, Rel C st a w → (∀ a w, Rel C st' a w → K a w) → o.wp P a w K Q

structure OpL {P : Program} {nt : Nat} (C : Cx P nt) (o : Oper) (Rs : List (Nat × SV)) (Rh : List (Nat × Option HE)) (Ws : List (Nat × SV)) (Wh : List (Nat × Option HE)) : Prop where
  go : ∀ sl hp, HasS sl Rs → HasH hp Rh → Step C o ⟨sl, hp⟩ ⟨Ws ++ sl, Wh ++ hp⟩

theorem opl_pure {P : Program} {nt : Nat} {C : Cx P nt} {o : Oper} {dst : Nat} {Rs : List (Nat × SV)} {Rh : List (Nat × Option HE)} {sv : SV} (hd : Nat.blt dst nt = true) (hdst : o.dst = some dst)
    (h : ∀ sl hp β a w, HasS sl Rs → HasH hp Rh → RelB C ⟨sl, hp⟩ β a w → ∃ v, (execOp a.eval o).run P w = .ok (.value v) w ∧ SR C hp β w sv v) :
    OpL C o Rs Rh [(dst, sv)] [] := by
  refine ⟨fun sl hp hs hh a w K Q ⟨β, r⟩ hK => ?_⟩
  obtain ⟨v, hv, hr⟩ := h sl hp β a w hs hh r
  unfold Oper.wp
  rw [hv]
  refine hK _ _ ⟨β, ?_⟩
  rw [hdst]
  exact r.put (Below.refl _ _) (by simpa using hd) hr

abbrev Oo (dst : Nat) (op : Op) (ty : TypeId) (pos : String) (af : Array Edge) (gd : Option (Nat × Bool)) : Oper := ⟨some dst, op, ty, pos, af, gd⟩

abbrev dv (v : Value) : BV := .g (.d (.v v))
abbrev bI (k : IntKind) (n : Int) : BV := .g (.d (.v (.int k n)))
abbrev bB (b : Bool) : BV := .g (.d (.v (.bool b)))
abbrev bS (s : ByteArray) : BV := .g (.d (.v (.string s)))

section
variable {P : Program} {nt : Nat} {C : Cx P nt} {dst : Nat} {ty : TypeId} {pos : String} {af : Array Edge} {gd : Option (Nat × Bool)} {x y z : Operand} {R R1 R2 R3 : List (Nat × SV)}

theorem op_move {c : BV} (hx : Ev x c R) (hd : Nat.blt dst nt = true) : OpL C (Oo dst (.move x) ty pos af gd) R [] [(dst, .one c)] [] :=
  opl_pure hd rfl fun sl hp β a w hs _ r => ⟨a.eval x, by simp [execOp], hx.ok hs r⟩

theorem op_assign {c : BV} (hx : Ev x c R) (hd : Nat.blt dst nt = true) : OpL C (Oo dst (.assign x) ty pos af gd) R [] [(dst, .one c)] [] :=
  opl_pure hd rfl fun sl hp β a w hs _ r => ⟨a.eval x, by simp [execOp], hx.ok hs r⟩

theorem BR.v_inv {hp : HL} {β : Nat → Option Nat} {w : World} {u v : Value} (h : BR C hp β w (dv v) u) : u = v := RD.v_inv h

theorem run_eqGuard_plain {P : Program} {op : BinOp} {t : TypeId} {x y : Operand} {u v : Value} {w : World} (hu : u.oneCell' = true) (hn : u ≠ .nilIface) : (eqGuard op t x y u v).run P w = .ok () w := by
  unfold eqGuard
  cases op <;> cases u <;> simp_all [Value.oneCell']

/-- a binary operator on two single cells -/
theorem op_bin {op : BinOp} {T T' : TypeId} {u v r : Value} (hx : Ev x (dv u) R1) (hy : Ev y (dv v) R2) (hd : Nat.blt dst nt = true) (hr : r.oneCell' = true) (hn : u ≠ .nilIface)
    (h : ∀ w, (binOp op T u v).run P w = .ok r w) : OpL C (Oo dst (.binOp op T x y T') ty pos af gd) (R1 ++ R2) [] [(dst, .one (dv r))] [] :=
  opl_pure hd rfl fun sl hp β a w hs _ rr => by
    have h1 := hx.ok hs.app.1 rr
    have e1 := BR.v_inv h1
    have e2 := BR.v_inv (hy.ok hs.app.2 rr)
    have hg := run_eqGuard_plain (P := P) (op := op) (t := T) (x := x) (y := y) (v := v) (w := w) (e1 ▸ RD.one h1) hn
    refine ⟨r, ?_, RD.v r hr⟩
    have := h w
    simp only [execOp, e1, e2, Sem.run_bind, hg, Result.andThen, this, Sem.run_pure]

theorem run_equal_bool {P : Program} {T : TypeId} {a b : Bool} {w : World} (hT : P.underlying T = some .bool) : (Op.equal T (.bool a) (.bool b)).run P w = .ok (a == b) w := by
  have : Op.equal T (.bool a) (.bool b) = Op.equalIn (9999 + 1) T (.bool a) (.bool b) := rfl
  rw [this, Op.equalIn]
  simp [Sem.run_bind, run_underlying hT]

section ints
variable {T T' : TypeId} {k : IntKind} {m n : Int}
theorem op_add (hx : Ev x (bI k m) R1) (hy : Ev y (bI k n) R2) (hd : Nat.blt dst nt = true) : OpL C (Oo dst (.binOp .add T x y T') ty pos af gd) (R1 ++ R2) [] [(dst, .one (bI k (k.wrap (m + n))))] [] :=
  op_bin hx hy hd rfl (fun h => (by cases h)) fun w => by simp [binOp, Op.intArith]
theorem op_sub (hx : Ev x (bI k m) R1) (hy : Ev y (bI k n) R2) (hd : Nat.blt dst nt = true) : OpL C (Oo dst (.binOp .sub T x y T') ty pos af gd) (R1 ++ R2) [] [(dst, .one (bI k (k.wrap (m - n))))] [] :=
  op_bin hx hy hd rfl (fun h => (by cases h)) fun w => by simp [binOp, Op.intArith]
theorem op_mul (hx : Ev x (bI k m) R1) (hy : Ev y (bI k n) R2) (hd : Nat.blt dst nt = true) : OpL C (Oo dst (.binOp .mul T x y T') ty pos af gd) (R1 ++ R2) [] [(dst, .one (bI k (k.wrap (m * n))))] [] :=
  op_bin hx hy hd rfl (fun h => (by cases h)) fun w => by simp [binOp, Op.intArith]
theorem op_quo (hn : n ≠ 0) (hx : Ev x (bI k m) R1) (hy : Ev y (bI k n) R2) (hd : Nat.blt dst nt = true) : OpL C (Oo dst (.binOp .quo T x y T') ty pos af gd) (R1 ++ R2) [] [(dst, .one (bI k (k.wrap (m.tdiv n))))] [] :=
  op_bin hx hy hd rfl (fun h => (by cases h)) fun w => by simp [binOp, Op.intDiv, hn]
theorem op_rem (hn : n ≠ 0) (hx : Ev x (bI k m) R1) (hy : Ev y (bI k n) R2) (hd : Nat.blt dst nt = true) : OpL C (Oo dst (.binOp .rem T x y T') ty pos af gd) (R1 ++ R2) [] [(dst, .one (bI k (m.tmod n)))] [] :=
  op_bin hx hy hd rfl (fun h => (by cases h)) fun w => by simp [binOp, Op.intDiv, hn]
theorem op_or (hx : Ev x (bI k m) R1) (hy : Ev y (bI k n) R2) (hd : Nat.blt dst nt = true) : OpL C (Oo dst (.binOp .or T x y T') ty pos af gd) (R1 ++ R2) [] [(dst, .one (bI k (k.wrap (BitVec.ofInt k.bits m ||| BitVec.ofInt k.bits n).toNat)))] [] :=
  op_bin hx hy hd rfl (fun h => (by cases h)) fun w => by simp [binOp, Op.intBits]
theorem op_shr {k' : IntKind} (hn : 0 ≤ n) (hx : Ev x (bI k m) R1) (hy : Ev y (bI k' n) R2) (hd : Nat.blt dst nt = true) : OpL C (Oo dst (.binOp .shr T x y T') ty pos af gd) (R1 ++ R2) [] [(dst, .one (bI k (m.fdiv (2 ^ min n.toNat k.bits))))] [] :=
  op_bin hx hy hd rfl (fun h => (by cases h)) fun w => by simp [binOp, Op.shift, show ¬ n < 0 by omega]
theorem op_lss (hx : Ev x (bI k m) R1) (hy : Ev y (bI k n) R2) (hd : Nat.blt dst nt = true) : OpL C (Oo dst (.binOp .lss T x y T') ty pos af gd) (R1 ++ R2) [] [(dst, .one (bB (decide (m < n))))] [] :=
  op_bin hx hy hd rfl (fun h => (by cases h)) fun w => by simp [binOp, Op.intCmp]
theorem op_leq (hx : Ev x (bI k m) R1) (hy : Ev y (bI k n) R2) (hd : Nat.blt dst nt = true) : OpL C (Oo dst (.binOp .leq T x y T') ty pos af gd) (R1 ++ R2) [] [(dst, .one (bB (decide (m ≤ n))))] [] :=
  op_bin hx hy hd rfl (fun h => (by cases h)) fun w => by simp [binOp, Op.intCmp]
theorem op_gtr (hx : Ev x (bI k m) R1) (hy : Ev y (bI k n) R2) (hd : Nat.blt dst nt = true) : OpL C (Oo dst (.binOp .gtr T x y T') ty pos af gd) (R1 ++ R2) [] [(dst, .one (bB (decide (n < m))))] [] :=
  op_bin hx hy hd rfl (fun h => (by cases h)) fun w => by simp [binOp, Op.intCmp]
theorem op_geq (hx : Ev x (bI k m) R1) (hy : Ev y (bI k n) R2) (hd : Nat.blt dst nt = true) : OpL C (Oo dst (.binOp .geq T x y T') ty pos af gd) (R1 ++ R2) [] [(dst, .one (bB (decide (n ≤ m))))] [] :=
  op_bin hx hy hd rfl (fun h => (by cases h)) fun w => by simp [binOp, Op.intCmp]
theorem op_eqI (hx : Ev x (bI k m) R1) (hy : Ev y (bI k n) R2) (hd : Nat.blt dst nt = true) : OpL C (Oo dst (.binOp .eql T x y T') ty pos af gd) (R1 ++ R2) [] [(dst, .one (bB (decide (m = n))))] [] :=
  op_bin hx hy hd rfl (fun h => (by cases h)) fun w => by simp [binOp, Op.intCmp]; try rfl
theorem op_neI (hx : Ev x (bI k m) R1) (hy : Ev y (bI k n) R2) (hd : Nat.blt dst nt = true) : OpL C (Oo dst (.binOp .neq T x y T') ty pos af gd) (R1 ++ R2) [] [(dst, .one (bB (!decide (m = n))))] [] :=
  op_bin hx hy hd rfl (fun h => (by cases h)) fun w => by simp [binOp, Op.intCmp]; try rfl
end ints

/-- two texts are the same; one is less -/
def seq (s t : ByteArray) : Bool := s.toList == t.toList
def slt (s t : ByteArray) : Bool := Op.bytesLess s.toList t.toList

section strings
variable {T T' : TypeId} {s t : ByteArray}
theorem op_eqS (hx : Ev x (bS s) R1) (hy : Ev y (bS t) R2) (hd : Nat.blt dst nt = true) : OpL C (Oo dst (.binOp .eql T x y T') ty pos af gd) (R1 ++ R2) [] [(dst, .one (bB (seq s t)))] [] :=
  op_bin hx hy hd rfl (fun h => (by cases h)) fun w => by simp [binOp, Op.stringOp, seq]
theorem op_neS (hx : Ev x (bS s) R1) (hy : Ev y (bS t) R2) (hd : Nat.blt dst nt = true) : OpL C (Oo dst (.binOp .neq T x y T') ty pos af gd) (R1 ++ R2) [] [(dst, .one (bB (!seq s t)))] [] :=
  op_bin hx hy hd rfl (fun h => (by cases h)) fun w => by simp [binOp, Op.stringOp, seq]
theorem op_ltS (hx : Ev x (bS s) R1) (hy : Ev y (bS t) R2) (hd : Nat.blt dst nt = true) : OpL C (Oo dst (.binOp .lss T x y T') ty pos af gd) (R1 ++ R2) [] [(dst, .one (bB (slt s t)))] [] :=
  op_bin hx hy hd rfl (fun h => (by cases h)) fun w => by simp [binOp, Op.stringOp, slt]
theorem op_cat (h : s.size + t.size ≤ 9223372036854775807) (hx : Ev x (bS s) R1) (hy : Ev y (bS t) R2) (hd : Nat.blt dst nt = true) : OpL C (Oo dst (.binOp .add T x y T') ty pos af gd) (R1 ++ R2) [] [(dst, .one (bS (s ++ t)))] [] :=
  op_bin hx hy hd rfl (fun h => (by cases h)) fun w => by
    have : ¬ ((9223372036854775807 : Int) < (s.size : Int) + (t.size : Int)) := by omega
    simp [binOp, Op.stringOp, this]
end strings

section bools
variable {T T' : TypeId} {b c : Bool}
theorem op_eqB (hT : P.underlying T = some .bool) (hx : Ev x (bB b) R1) (hy : Ev y (bB c) R2) (hd : Nat.blt dst nt = true) : OpL C (Oo dst (.binOp .eql T x y T') ty pos af gd) (R1 ++ R2) [] [(dst, .one (bB (b == c)))] [] :=
  op_bin hx hy hd rfl (fun h => (by cases h)) fun w => by simp only [binOp, Sem.run_bind, run_equal_bool hT, Result.andThen, Sem.run_pure]
theorem op_neB (hT : P.underlying T = some .bool) (hx : Ev x (bB b) R1) (hy : Ev y (bB c) R2) (hd : Nat.blt dst nt = true) : OpL C (Oo dst (.binOp .neq T x y T') ty pos af gd) (R1 ++ R2) [] [(dst, .one (bB (!(b == c))))] [] :=
  op_bin hx hy hd rfl (fun h => (by cases h)) fun w => by simp only [binOp, Sem.run_bind, run_equal_bool hT, Result.andThen, Sem.run_pure]
theorem op_not (hx : Ev x (bB b) R) (hd : Nat.blt dst nt = true) : OpL C (Oo dst (.unOp .not T x) ty pos af gd) R [] [(dst, .one (bB (!b)))] [] :=
  opl_pure hd rfl fun sl hp β a w hs _ r => ⟨.bool !b, by simp [execOp, BR.v_inv (hx.ok hs r), Op.unary], RD.v _ rfl⟩
theorem op_pickT {c : BV} (hx : Ev x (bB true) R1) (hy : Ev y c R2) (hd : Nat.blt dst nt = true) : OpL C (Oo dst (.pick x y z) ty pos af gd) (R1 ++ R2) [] [(dst, .one c)] [] :=
  opl_pure hd rfl fun sl hp β a w hs _ r => ⟨a.eval y, by simp [execOp, BR.v_inv (hx.ok hs.app.1 r), asBool], hy.ok hs.app.2 r⟩
theorem op_pickF {c : BV} (hx : Ev x (bB false) R1) (hz : Ev z c R2) (hd : Nat.blt dst nt = true) : OpL C (Oo dst (.pick x y z) ty pos af gd) (R1 ++ R2) [] [(dst, .one c)] [] :=
  opl_pure hd rfl fun sl hp β a w hs _ r => ⟨a.eval z, by simp [execOp, BR.v_inv (hx.ok hs.app.1 r), asBool], hz.ok hs.app.2 r⟩
theorem op_convI {S : TypeId} {k k' : IntKind} {m : Int} (hS : P.underlying S = some (.int k')) (hT : P.underlying T = some (.int k)) (hx : Ev x (bI k' m) R) (hd : Nat.blt dst nt = true) :
    OpL C (Oo dst (.convert S T x) ty pos af gd) R [] [(dst, .one (bI k (k.wrap m)))] [] :=
  opl_pure hd rfl fun sl hp β a w hs _ r => ⟨.int k (k.wrap m), by simp [execOp, BR.v_inv (hx.ok hs r), convert, run_underlying hS, run_underlying hT  , Conv.intToInt], RD.v _ rfl⟩
end bools

end
end Go.Ab

/- The abstract machine, its operations on memory: one law each. Conditions: none but those that stand in each law. -/
namespace Go.Ab
open Go Go.RowKit

/-- what the table says of a type -/
def Info (P : Program) (t : Nat) (z : Value) (size bytes : Nat) : Prop := ∃ i, P.info? t = some i ∧ i.zero = some z ∧ i.size = size ∧ i.bytes = bytes

theorem Info.of {P : Program} {t : Nat} {z : Value} {size bytes : Nat} (h : (P.info? t).map (fun i => (i.zero, i.size, i.bytes)) = some (some z, size, bytes)) : Info P t z size bytes := by
  cases hi : P.info? t with
  | none => rw [hi] at h; cases h
  | some i => rw [hi] at h; simp at h; exact ⟨i, hi, h.1, h.2.1, h.2.2⟩

def aggD : TypeDesc → Bool
  | .struct _ | .array _ _ => true
  | _ => false

section
variable {P : Program} {t : Nat} {z : Value} {size bytes : Nat} {w : World}
theorem Info.sizeOf (h : Info P t z size bytes) : (sizeOf t).run P w = .ok size w := by
  obtain ⟨i, h1, _, h3, _⟩ := h
  simp [Go.sizeOf, typeInfo, h1, h3]
theorem Info.zero (h : Info P t z size bytes) : (zeroValue t).run P w = .ok z w := by
  obtain ⟨i, h1, h2, _, _⟩ := h
  simp [zeroValue, typeInfo, h1, h2]
theorem run_isAgg {d : TypeDesc} (h : P.underlying t = some d) : (isAgg t).run P w = .ok (aggD d) w := by
  cases d <;> simp [isAgg, run_underlying h, aggD]
end

section
variable {P : Program} {nt : Nat} {C : Cx P nt} {dst : Nat} {ty : TypeId} {pos : String} {af : Array Edge} {gd : Option (Nat × Bool)} {x y z : Operand} {R R1 R2 R3 : List (Nat × SV)}

theorem run_fieldAt {P : Program} {S : TypeId} {fs : Array Field} {f : Nat} {fld : Field} {zz : Value} {size bytes b o : Nat} {w : World} (hS : P.underlying S = some (.struct fs)) (hf : fs[f]? = some fld)
    (hI : Info P fld.type zz size bytes) (hz : size ≠ 0) : (Instr.fieldAt S (.pointer (some ⟨b, o, none⟩)) f).run P w = .ok (.pointer (some ⟨b, o + fld.offset, none⟩)) w := by
  simp [Instr.fieldAt, run_underlying hS, hf, Instr.sureAddr, fieldPlace, hI.sizeOf, hz, Addr.add_lit]

theorem op_fieldP {S : TypeId} {fs : Array Field} {f : Nat} {fld : Field} {zz : Value} {size bytes k off off' : Nat} (hS : P.underlying S = some (.struct fs)) (hf : fs[f]? = some fld)
    (hI : Info P fld.type zz size bytes) (hz : size ≠ 0) (he : off + fld.offset = off') (hx : Ev x (.ptr k off) R) (hd : Nat.blt dst nt = true) :
    OpL C (Oo dst (.fieldAddr S x f) ty pos af gd) R [] [(dst, .one (.ptr k off'))] [] :=
  opl_pure hd rfl fun sl hp β a w hs _ r => by
    obtain ⟨he', b, hb, hu⟩ := hx.ok hs r
    refine ⟨.pointer (some ⟨b, off', none⟩), ?_, he', b, hb, rfl⟩
    simp [execOp, hu, run_fieldAt hS hf hI hz, he]

theorem op_fieldE {S : TypeId} {fs : Array Field} {f : Nat} {fld : Field} {zz : Value} {size bytes : Nat} {cs cs' : List DV} (hS : P.underlying S = some (.struct fs)) (hf : fs[f]? = some fld)
    (hI : Info P fld.type zz size bytes) (hz : size ≠ 0) (he : cs.drop fld.offset = cs') (hx : Ev x (.ep cs) R) (hd : Nat.blt dst nt = true) :
    OpL C (Oo dst (.fieldAddr S x f) ty pos af gd) R [] [(dst, .one (.ep cs'))] [] :=
  opl_pure hd rfl fun sl hp β a w hs _ r => by
    obtain ⟨b, o, hu, hc⟩ := hx.ok hs r
    refine ⟨.pointer (some ⟨b, o + fld.offset, none⟩), ?_, b, o + fld.offset, rfl, fun j d hj => ?_⟩
    · simp [execOp, hu, run_fieldAt hS hf hI hz]
    · subst he
      rw [List.getElem?_drop] at hj
      simpa [Nat.add_assoc] using hc _ d hj

theorem op_nilCheckP {k off : Nat} (hx : Ev x (.ptr k off) R) (hd : Nat.blt dst nt = true) : OpL C (Oo dst (.nilCheck x) ty pos af gd) R [] [(dst, .one (.ptr k off))] [] :=
  opl_pure hd rfl fun sl hp β a w hs _ r => by
    obtain ⟨he', b, hb, hu⟩ := hx.ok hs r
    exact ⟨.pointer (some ⟨b, off, none⟩), by simp [execOp, hu], he', b, hb, rfl⟩

theorem op_load1P {t : TypeId} {d : TypeDesc} {k off : Nat} {T : Nat} {cs : List BV} {c : BV} (hU : P.underlying t = some d) (hA : aggD d = false) (hc : cs[off]? = some c)
    (hx : Ev x (.ptr k off) R) (hd : Nat.blt dst nt = true) : OpL C (Oo dst (.load t x) ty pos af gd) R [(k, some (.blk T cs))] [(dst, .one c)] [] :=
  opl_pure hd rfl fun sl hp β a w hs hh r => by
    obtain ⟨_, b, hb, hu⟩ := hx.ok hs r
    obtain ⟨b', arr, hb', hheap, hsz, hcell⟩ := r.hp k _ hh.1
    rw [hb] at hb'
    cases hb'
    obtain ⟨u, hu', _, hr⟩ := hcell off c hc
    have hcl : w.cell? ⟨b, off, none⟩ = some u := by rw [cell_of_row w b off arr T _ hheap]; exact hu'
    exact ⟨u, by simp [execOp, hu, Instr.loadAt, Instr.sureAddr, loadVar, run_isAgg hU, hA, hcl], hr⟩

theorem op_load1E {t : TypeId} {d : TypeDesc} {cs : List DV} {c : DV} (hU : P.underlying t = some d) (hA : aggD d = false) (hc : cs[0]? = some c)
    (hx : Ev x (.ep cs) R) (hd : Nat.blt dst nt = true) : OpL C (Oo dst (.load t x) ty pos af gd) R [] [(dst, .one (.g (.d c)))] [] :=
  opl_pure hd rfl fun sl hp β a w hs hh r => by
    obtain ⟨b, o, hu, hcell⟩ := hx.ok hs r
    obtain ⟨u, hu', _, hr⟩ := hcell 0 c hc
    exact ⟨u, by simp [execOp, hu, Instr.loadAt, Instr.sureAddr, loadVar, run_isAgg hU, hA, show w.cell? ⟨b, o, none⟩ = some u from hu'], hr⟩

/-- cells that are plain data -/
abbrev dat (ds : List DV) : List BV := ds.map fun d => BV.g (.d d)

theorem run_loadAgg {P : Program} {t : TypeId} {d : TypeDesc} {zz : Value} {n bytes b o : Nat} {w : World} (hU : P.underlying t = some d) (hA : aggD d = true) (hI : Info P t zz n bytes)
    (f : Nat → Value) (h : ∀ j, j < n → w.cell? ⟨b, o + j, none⟩ = some (f j)) : (Instr.loadAt t (.pointer (some ⟨b, o, none⟩))).run P w = .ok (.agg ((List.range n).map f).toArray) w := by
  simp [Instr.loadAt, Instr.sureAddr, loadVar, run_isAgg hU, hA, hI.sizeOf, run_loadCells (P := P) w ⟨b, o, none⟩ n f (fun j hj => by rw [Addr.add_lit]; exact h j hj)]

theorem op_loadAP {t : TypeId} {d : TypeDesc} {zz : Value} {bytes k off : Nat} {T : Nat} {cs : List BV} {ds : List DV} (hU : P.underlying t = some d) (hA : aggD d = true) (hI : Info P t zz ds.length bytes)
    (hc : (cs.drop off).take ds.length = dat ds) (hx : Ev x (.ptr k off) R) (hd : Nat.blt dst nt = true) : OpL C (Oo dst (.load t x) ty pos af gd) R [(k, some (.blk T cs))] [(dst, .one (.g (.agg ds)))] [] :=
  opl_pure hd rfl fun sl hp β a w hs hh r => by
    obtain ⟨_, b, hb, hu⟩ := hx.ok hs r
    obtain ⟨b', arr, hb', hheap, hsz, hcell⟩ := r.hp k _ hh.1
    rw [hb] at hb'
    cases hb'
    have key : ∀ j dd, ds[j]? = some dd → ∃ u, arr[off + j]? = some u ∧ RD (Mu C hp β) w u dd := by
      intro j dd hj
      have hl : j < ds.length := (List.getElem?_eq_some_iff.1 hj).1
      have : cs[off + j]? = some (.g (.d dd)) := by
        have e : ((cs.drop off).take ds.length)[j]? = (dat ds)[j]? := by rw [hc]
        rw [List.getElem?_take, if_pos hl, List.getElem?_drop] at e
        rw [e]; simp [dat, hj]
      obtain ⟨u, h1, _, h3⟩ := hcell _ _ this
      exact ⟨u, h1, h3⟩
    have key2 : ∀ j, j < ds.length → w.cell? ⟨b, off + j, none⟩ = some ((fun j => arr.getD (off + j) undef) j) := by
      intro j hj
      obtain ⟨u, h1, _⟩ := key j ds[j] (by simp [hj])
      rw [cell_of_row w b _ arr T _ hheap]
      simp [h1]
    refine ⟨.agg ((List.range ds.length).map (fun j => arr.getD (off + j) undef)).toArray, ?_, _, rfl, by simp, fun j dd hj => ?_⟩
    · simp only [execOp, hu, Sem.run_bind]
      rw [run_loadAgg hU hA hI _ key2]
      rfl
    · obtain ⟨u, h1, h2⟩ := key j dd hj
      have hl : j < ds.length := (List.getElem?_eq_some_iff.1 hj).1
      exact ⟨u, by simp [hl, h1], h2⟩

theorem op_loadAE {t : TypeId} {d : TypeDesc} {zz : Value} {bytes : Nat} {cs ds : List DV} (hU : P.underlying t = some d) (hA : aggD d = true) (hI : Info P t zz ds.length bytes)
    (hc : cs.take ds.length = ds) (hx : Ev x (.ep cs) R) (hd : Nat.blt dst nt = true) : OpL C (Oo dst (.load t x) ty pos af gd) R [] [(dst, .one (.g (.agg ds)))] [] :=
  opl_pure hd rfl fun sl hp β a w hs hh r => by
    obtain ⟨b, o, hu, hcell⟩ := hx.ok hs r
    have key : ∀ j dd, ds[j]? = some dd → ∃ u, w.cell? ⟨b, o + j, none⟩ = some u ∧ RD (Mu C hp β) w u dd := by
      intro j dd hj
      have hl : j < ds.length := (List.getElem?_eq_some_iff.1 hj).1
      have : cs[j]? = some dd := by
        have e : (cs.take ds.length)[j]? = ds[j]? := by rw [hc]
        rw [List.getElem?_take, if_pos hl] at e
        rw [e, hj]
      obtain ⟨u, h1, _, h3⟩ := hcell _ _ this
      exact ⟨u, h1, h3⟩
    have key2 : ∀ j, j < ds.length → w.cell? ⟨b, o + j, none⟩ = some ((fun j => (w.cell? ⟨b, o + j, none⟩).getD undef) j) := by
      intro j hj
      obtain ⟨u, h1, _⟩ := key j ds[j] (by simp [hj])
      simp [h1]
    refine ⟨.agg ((List.range ds.length).map (fun j => (w.cell? ⟨b, o + j, none⟩).getD undef)).toArray, ?_, _, rfl, by simp, fun j dd hj => ?_⟩
    · simp only [execOp, hu, Sem.run_bind]
      rw [run_loadAgg hU hA hI _ key2]
      rfl
    · obtain ⟨u, h1, h2⟩ := key j dd hj
      have hl : j < ds.length := (List.getElem?_eq_some_iff.1 hj).1
      exact ⟨u, by simp [hl, h1], h2⟩

theorem op_index {T E : TypeId} {zz : Value} {size bytes : Nat} {es : List (List DV)} {cs : List DV} {k : IntKind} {i : Int} (hT : P.underlying T = some (.slice E)) (hI : Info P E zz size bytes)
    (h0 : 0 ≤ i) (hi : es[i.toNat]? = some cs) (hx : Ev x (.g (.d (.sl size es))) R1) (hy : Ev y (bI k i) R2) (hd : Nat.blt dst nt = true) :
    OpL C (Oo dst (.indexAddr T x y) ty pos af gd) (R1 ++ R2) [] [(dst, .one (.ep cs))] [] :=
  opl_pure hd rfl fun sl hp β a w hs hh r => by
    have h1 := hx.ok hs.app.1 r
    have h2 := BR.v_inv (hy.ok hs.app.2 r)
    have hlt : i.toNat < es.length := (List.getElem?_eq_some_iff.1 hi).1
    generalize hxx : a.eval x = u at h1
    cases h1 with
    | sl ad cap sz es vals b o hc hm ha hsz hv hr =>
      have hne : es ≠ [] := fun c => by simp [c] at hlt
      obtain rfl := ha hne
      refine ⟨.pointer (some ⟨b, o + i.toNat * size, none⟩), ?_, b, o + i.toNat * size, rfl, fun j d hj => ?_⟩
      · have hb : 0 ≤ i ∧ i < (es.length : Int) := ⟨h0, by omega⟩
        simp only [execOp, h2, hxx, Instr.indexAt, asIntOf, Sem.run_bind, Sem.run_pure, Result.andThen_ok, run_underlying hT, Bool.and_false, hb, and_self, if_true, hI.sizeOf, Addr.add_lit, Bool.false_eq_true, if_false]
      · rw [Nat.add_assoc]
        exact ⟨_, (hv _ _ j d hi hj).1, (hv _ _ j d hi hj).2, hr _ _ j d hi hj⟩

end
end Go.Ab

/- The abstract machine: new blocks, stores, rows that grow. Conditions: none but those that stand in each law. -/
namespace Go.Ab
open Go Go.RowKit

def upd (β : Nat → Option Nat) (k : Nat) (b : Option Nat) : Nat → Option Nat := fun k' => if k' = k then b else β k'

/-- a content of one cell -/
def BV.sg : BV → Prop
  | .x v => v.oneCell' = true
  | .g (.agg _) => False
  | .own _ _ => False
  | .any _ => False
  | .ro _ => False
  | .yg _ => False
  | _ => True

theorem BR.one {P : Program} {nt : Nat} {C : Cx P nt} {hp : HL} {β : Nat → Option Nat} {w : World} {c : BV} {u : Value} (h : BR C hp β w c u) (hc : c.sg) : u.oneCell' = true := by
  cases c with
  | x v => cases h; exact hc
  | g a => cases a with
    | d d => exact RD.one h
    | agg cs => exact hc.elim
  | ptr k off => obtain ⟨_, b, _, rfl⟩ := h; rfl
  | ep cs => obtain ⟨b, o, rfl, _⟩ := h; rfl
  | own k es => exact hc.elim
  | cp size es => exact RD.one h.1
  | clo f caps => obtain ⟨us, rfl, _⟩ := h; rfl
  | sem Φ => obtain ⟨f, caps, rfl, _⟩ := h; rfl
  | rp k es off => obtain ⟨s, _, b, l, c, _, rfl⟩ := h; rfl
  | pv k Ψ => obtain ⟨_, b, _, _, h⟩ := h; exact h
  | any n => exact hc.elim
  | ro Φ => exact hc.elim
  | yg a => exact hc.elim

/-- a new block (or a row without one) under a new number: what was there stays -/
theorem RelB.new {P : Program} {nt : Nat} {C : Cx P nt} {sl : SL} {hp : HL} {β : Nat → Option Nat} {a : Act} {w w1 : World} (r : RelB C ⟨sl, hp⟩ β a w) {k : Nat} {e : HE} {bo : Option Nat}
    (hk : hget hp k = none) (hk0 : Nat.blt 0 k = true) (hw : Below w.heap.size w w1) (hbo : ∀ b, bo = some b → b = w.heap.size ∧ b < w1.heap.size)
    (hH : (∀ c u, BR C hp β w c u → BR C ((k, some e) :: hp) (upd β k bo) w1 c u) →
      (∀ u d, RD (Mu C hp β) w u d → RD (Mu C ((k, some e) :: hp) (upd β k bo)) w1 u d) → HR C ((k, some e) :: hp) (upd β k bo) w1 k e) :
    RelB C ⟨sl, (k, some e) :: hp⟩ (upd β k bo) a w1 ∧ (∀ c u, BR C hp β w c u → BR C ((k, some e) :: hp) (upd β k bo) w1 c u) := by
  have hne : ∀ k' e', hget hp k' = some e' → k' ≠ k := fun k' e' h c => by rw [c, hk] at h; cases h
  have hget' : ∀ k' e', hget hp k' = some e' → hget ((k, some e) :: hp) k' = some e' ∧ upd β k bo k' = β k' := fun k' e' h => by
    have := hne k' e' h
    exact ⟨by rw [hget_cons, if_neg (fun c => this c.symm)]; exact h, by simp [upd, this]⟩
  have hst : ∀ b o x, ¬ Mu C hp β b o → w.cell? ⟨b, o, none⟩ = some x → w1.cell? ⟨b, o, none⟩ = some x ∧ ¬ Mu C ((k, some e) :: hp) (upd β k bo) b o := by
    intro b o x hn hx
    have hlt := cell_lt hx
    refine ⟨by rw [hw.cell (p := ⟨b, o, none⟩) hlt]; exact hx, ?_⟩
    rintro (hM | ⟨k', e', he', hb', hm'⟩)
    · exact hn (.inl hM)
    · rw [hget_cons] at he'
      by_cases hkk : k = k'
      · subst hkk
        simp only [upd, if_true] at hb'
        have := (hbo b hb').1
        omega
      · rw [if_neg hkk] at he'
        simp only [upd, if_neg (fun c => hkk (Eq.symm c))] at hb'
        exact hn (.inr ⟨k', e', he', hb', hm'⟩)
  have hBR : ∀ c u, BR C hp β w c u → BR C ((k, some e) :: hp) (upd β k bo) w1 c u := by
    intro c u h
    refine BR.kept hst (fun k' _ e' he' hr => ⟨⟨e', (hget' k' e' he').1, hr⟩, (hget' k' e' he').2⟩) (fun k' es0 u _ h => ?_) h
    obtain ⟨T, size, es, ex, hh, hl, hr⟩ := h
    refine ⟨T, size, es, ex, (hget' k' _ hh).1, hl, fun hq => (hr hq).imp (fun ⟨h1, h2⟩ => ⟨(hget' k' _ hh).2.trans h1, h2⟩) ?_⟩
    rintro ⟨b, cap, cur, h1, h2, h3, h4, h5, h6⟩
    exact ⟨b, cap, cur, (hget' k' _ hh).2.trans h1, h2, h3, h4, by rw [hw.block b (Array.getElem?_eq_some_iff.1 h5).1]; exact h5, h6⟩
  have hRD : ∀ u d, RD (Mu C hp β) w u d → RD (Mu C ((k, some e) :: hp) (upd β k bo)) w1 u d := fun u d h => h.mono hst
  refine ⟨⟨r.keep.below hw, r.low, ?_, ?_, ?_, ?_, r.size, r.df, fun b hb => ?_⟩, hBR⟩
  · intro k1 k2 e1 e2 b h1 h2 hb1 hb2
    simp only [hget_cons] at h1 h2
    by_cases c1 : k = k1 <;> by_cases c2 : k = k2
    · omega
    · subst c1
      rw [if_neg c2] at h2
      simp only [upd, if_true] at hb1
      simp only [upd, if_neg (fun c => c2 (Eq.symm c))] at hb2
      have h3 := (hbo b hb1).1
      have h4 := (r.own k2 e2 b h2 hb2).2
      omega
    · subst c2
      rw [if_neg c1] at h1
      simp only [upd, if_true] at hb2
      simp only [upd, if_neg (fun c => c1 (Eq.symm c))] at hb1
      have h3 := (hbo b hb2).1
      have h4 := (r.own k1 e1 b h1 hb1).2
      omega
    · rw [if_neg c1] at h1
      rw [if_neg c2] at h2
      simp only [upd, if_neg (fun c => c1 (Eq.symm c))] at hb1
      simp only [upd, if_neg (fun c => c2 (Eq.symm c))] at hb2
      exact r.inj k1 k2 e1 e2 b h1 h2 hb1 hb2
  · intro k1 e1 b h1 hb1
    simp only [hget_cons] at h1
    by_cases c1 : k = k1
    · subst c1
      simp only [upd, if_true] at hb1
      obtain ⟨h3, h4⟩ := hbo b hb1
      exact ⟨.inl (h3 ▸ r.keep.size), h4⟩
    · rw [if_neg c1] at h1
      simp only [upd, if_neg (fun c => c1 (Eq.symm c))] at hb1
      exact ⟨(r.own k1 e1 b h1 hb1).1, Nat.lt_of_lt_of_le (r.own k1 e1 b h1 hb1).2 hw.size⟩
  · intro k1 e1 h1
    simp only [hget_cons] at h1
    by_cases c1 : k = k1
    · subst c1
      rw [if_pos rfl] at h1
      cases h1
      exact hH hBR hRD
    · rw [if_neg c1] at h1
      have h2 := hget' k1 e1 h1
      have h3 := r.hp k1 e1 h1
      cases e1 with
      | blk T cs =>
        obtain ⟨b, arr, q1, q2, q3, q4⟩ := h3
        exact ⟨b, arr, h2.2.trans q1, by rw [hw.block b (Array.getElem?_eq_some_iff.1 q2).1]; exact q2, q3, fun j c hc => let ⟨u, hu, ho, hr⟩ := q4 j c hc; ⟨u, hu, ho, hBR c u hr⟩⟩
      | row T size es ex =>
        obtain ⟨hz, hs, hr⟩ := h3
        refine ⟨hz, hs, hr.imp (fun ⟨q1, q2⟩ => ⟨h2.2.trans q1, q2⟩) ?_⟩
        rintro ⟨b, cur, q1, q2, q3, q4⟩
        exact ⟨b, cur, h2.2.trans q1, by rw [hw.block b (Array.getElem?_eq_some_iff.1 q2).1]; exact q2, q3, fun i cs j d hi hj => let ⟨u, hu, hr⟩ := q4 i cs j d hi hj; ⟨u, hu, hr.mono hst⟩⟩
      | it s pos =>
        obtain ⟨b, q1, q2⟩ := h3
        exact ⟨b, h2.2.trans q1, by rw [hw.block b (Array.getElem?_eq_some_iff.1 q2).1]; exact q2⟩
      | pr Φ =>
        obtain ⟨b, o, q1, q2, q3⟩ := h3
        exact ⟨b, o, h2.2.trans q1, by rw [hw.block b (Array.getElem?_eq_some_iff.1 q2).1]; exact q2, q3⟩
      | map es =>
        obtain ⟨b, ents, q1, q2, q3, q4⟩ := h3
        exact ⟨b, ents, h2.2.trans q1, by rw [hw.block b (Array.getElem?_eq_some_iff.1 q2).1]; exact q2, q3, fun i e he => let ⟨x, p1, p2, p3, p4⟩ := q4 i e he; ⟨x, p1, p2, p3, p4.mono hst⟩⟩
      | bld T E kk s =>
        obtain ⟨q0, b, p, v, q1, q2, q3, q4, q5⟩ := h3
        have q0' := hget' kk _ q0
        exact ⟨q0'.1, b, p, v, h2.2.trans q1, q2, by rw [hw.block b (Array.getElem?_eq_some_iff.1 q3).1]; exact q3, ownsRow_of_block q4 (fun g hg => hw.block g (ownsRow_lt q4 hg)), q5.trans q0'.2.symm⟩
      | hid _ _ => trivial
  · intro t sv hs
    have h1 := r.sl t sv hs
    cases sv with
    | one b => exact hBR _ _ h1
    | tup l =>
      obtain ⟨us, q1, q2, q3⟩ := h1
      exact ⟨us, q1, q2, fun i b hi => let ⟨x, hx, hr⟩ := q3 i b hi; ⟨x, hx, hBR _ _ hr⟩⟩
    | dead => trivial
  · obtain ⟨f1, f2⟩ := r.fx b hb
    have hk0 : k ≠ 0 := fun c => by subst c; simp at hk0
    exact ⟨by simp only [upd, if_neg (Ne.symm hk0)]; exact f1, fun e1 he => by rw [hget_cons, if_neg hk0] at he; exact f2 e1 he⟩

/-- a block of the call's own (number k) is written, or another one takes its place: what was there stays, if what is not to be written again is not -/
theorem RelB.chg {P : Program} {nt : Nat} {C : Cx P nt} {sl : SL} {hp : HL} {β : Nat → Option Nat} {a : Act} {w w1 : World} (r : RelB C ⟨sl, hp⟩ β a w) {k : Nat} {e0 e : HE} {bo : Option Nat}
    (hk : hget hp k = some e0)
    (hos : w1.os = w.os) (htape : w1.tape = w.tape) (hout : w1.output = w.output) (hsize : w.heap.size ≤ w1.heap.size) (hblock : ∀ i, i < w.heap.size → some i ≠ β k → w1.heap[i]? = w.heap[i]?)
    (hcell : ∀ b o x, β k = some b → w.cell? ⟨b, o, none⟩ = some x → ¬ e0.mutAt o → w1.cell? ⟨b, o, none⟩ = some x)
    (hbo : (bo = β k ∧ ∀ o, e.mutAt o → e0.mutAt o) ∨ (∃ nb, bo = some nb ∧ w.heap.size ≤ nb ∧ nb < w1.heap.size))
    (hrow : e.isRow = e0.isRow ∧ (e0.isRow = false → bo = β k))
    (hown : ∀ es0 u, BR C hp β w (.own k es0) u → BR C ((k, some e) :: hp) (upd β k bo) w1 (.own k es0) u)
    (hH : (∀ c u, BR C hp β w c u → BR C ((k, some e) :: hp) (upd β k bo) w1 c u) →
      (∀ u d, RD (Mu C hp β) w u d → RD (Mu C ((k, some e) :: hp) (upd β k bo)) w1 u d) → HR C ((k, some e) :: hp) (upd β k bo) w1 k e) (hhid : ∀ j, e0 ≠ .hid true j := by intro j c; cases c) :
    RelB C ⟨sl, (k, some e) :: hp⟩ (upd β k bo) a w1 ∧
      (∀ c u, BR C hp β w c u → BR C ((k, some e) :: hp) (upd β k bo) w1 c u) ∧
      (∀ u d, RD (Mu C hp β) w u d → RD (Mu C ((k, some e) :: hp) (upd β k bo)) w1 u d) := by
  have hget' : ∀ k' e', k' ≠ k → hget hp k' = some e' → hget ((k, some e) :: hp) k' = some e' ∧ upd β k bo k' = β k' := fun k' e' hn h =>
    ⟨by rw [hget_cons, if_neg (fun c => hn c.symm)]; exact h, by simp [upd, hn]⟩
  have hid : ∀ k' j, hget hp k' = some (.hid true j) → k' ≠ k := fun k' j h c => by subst c; rw [hk] at h; cases h; exact hhid j rfl
  -- in an equation of blocks, the other numbers' blocks are as they were
  have hoth : ∀ k' e' b o, k' ≠ k → hget hp k' = some e' → β k' = some b → w.heap[b]? = some o → w1.heap[b]? = some o := fun k' e' b o hn h hb ho => by
    rw [hblock b (Array.getElem?_eq_some_iff.1 ho).1 (fun c => hn (r.inj k' k e' e0 b h hk hb c.symm))]
    exact ho
  have hst : ∀ b o x, ¬ Mu C hp β b o → w.cell? ⟨b, o, none⟩ = some x → w1.cell? ⟨b, o, none⟩ = some x ∧ ¬ Mu C ((k, some e) :: hp) (upd β k bo) b o := by
    intro b o x hn hx
    have hlt := cell_lt hx
    constructor
    · by_cases hb : some b = β k
      · exact hcell b o x hb.symm hx (fun c => hn (.inr ⟨k, e0, hk, hb.symm, c⟩))
      · rw [World.cell?_of_block (w := w) (a := ⟨b, o, none⟩) (hblock b hlt hb)]; exact hx
    · rintro (hM | ⟨k', e', he', hb', hm'⟩)
      · exact hn (.inl hM)
      · rw [hget_cons] at he'
        by_cases hkk : k = k'
        · subst hkk
          rw [if_pos rfl] at he'
          cases he'
          simp only [upd, if_true] at hb'
          rcases hbo with ⟨h1, h2⟩ | ⟨nb, h1, h2, _⟩
          · exact hn (.inr ⟨k, e0, hk, h1 ▸ hb', h2 o hm'⟩)
          · rw [h1] at hb'
            cases hb'
            omega
        · rw [if_neg hkk] at he'
          simp only [upd, if_neg (fun c => hkk (Eq.symm c))] at hb'
          exact hn (.inr ⟨k', e', he', hb', hm'⟩)
  have hRD : ∀ u d, RD (Mu C hp β) w u d → RD (Mu C ((k, some e) :: hp) (upd β k bo)) w1 u d := fun u d h => h.mono hst
  have hBR : ∀ c u, BR C hp β w c u → BR C ((k, some e) :: hp) (upd β k bo) w1 c u := by
    intro c u h
    refine BR.kept hst (fun k' _ e' he' hr => ?_) (fun k' es0 u _ h => ?_) h
    · by_cases c : k' = k
      · subst c
        rw [hk] at he'
        cases he'
        exact ⟨⟨e, by rw [hget_cons, if_pos rfl], hrow.1.trans hr⟩, by simp [upd, hrow.2 hr]⟩
      · exact ⟨⟨e', (hget' k' e' c he').1, hr⟩, (hget' k' e' c he').2⟩
    · by_cases c : k' = k
      · subst c
        exact hown es0 u h
      · obtain ⟨T, size, es, ex, hh, hl, hr⟩ := h
        have h2 := hget' k' _ c hh
        refine ⟨T, size, es, ex, h2.1, hl, fun hq => (hr hq).imp (fun ⟨h1, h3⟩ => ⟨h2.2.trans h1, h3⟩) ?_⟩
        rintro ⟨b, cap, cur, q1, q2, q3, q4, q5, q6⟩
        exact ⟨b, cap, cur, h2.2.trans q1, q2, q3, q4, hoth k' _ b _ c hh q1 q5, q6⟩
  refine ⟨⟨?_, r.low, ?_, ?_, ?_, ?_, r.size, r.df, fun b hb => ?_⟩, hBR, hRD⟩
  · refine ⟨hos.trans r.keep.os, htape.trans r.keep.tape, hout.trans r.keep.output, Nat.le_trans r.keep.size hsize, fun i hi hK => ?_⟩
    rw [hblock i (Nat.lt_of_lt_of_le hi r.keep.size) (fun c => ?_)]
    · exact r.keep.block i hi hK
    · rcases (r.own k e0 i hk c.symm).1 with h1 | h1
      · omega
      · exact hK h1
  · intro k1 k2 e1 e2 b h1 h2 hb1 hb2
    simp only [hget_cons] at h1 h2
    by_cases c1 : k = k1 <;> by_cases c2 : k = k2
    · omega
    · subst c1
      rw [if_neg c2] at h2
      simp only [upd, if_true] at hb1
      simp only [upd, if_neg (fun c => c2 (Eq.symm c))] at hb2
      rcases hbo with ⟨h3, _⟩ | ⟨nb, h3, h3', _⟩
      · exact r.inj k k2 e0 e2 b hk h2 (h3 ▸ hb1) hb2
      · rw [h3] at hb1
        cases hb1
        have h4 := (r.own k2 e2 _ h2 hb2).2
        omega
    · subst c2
      rw [if_neg c1] at h1
      simp only [upd, if_true] at hb2
      simp only [upd, if_neg (fun c => c1 (Eq.symm c))] at hb1
      rcases hbo with ⟨h3, _⟩ | ⟨nb, h3, h3', _⟩
      · exact r.inj k1 k e1 e0 b h1 hk hb1 (h3 ▸ hb2)
      · rw [h3] at hb2
        cases hb2
        have h4 := (r.own k1 e1 _ h1 hb1).2
        omega
    · rw [if_neg c1] at h1
      rw [if_neg c2] at h2
      simp only [upd, if_neg (fun c => c1 (Eq.symm c))] at hb1
      simp only [upd, if_neg (fun c => c2 (Eq.symm c))] at hb2
      exact r.inj k1 k2 e1 e2 b h1 h2 hb1 hb2
  · intro k1 e1 b h1 hb1
    simp only [hget_cons] at h1
    by_cases c1 : k = k1
    · subst c1
      simp only [upd, if_true] at hb1
      rcases hbo with ⟨h3, _⟩ | ⟨nb, h3, h3', h4⟩
      · have := r.own k e0 b hk (h3 ▸ hb1)
        exact ⟨this.1, Nat.lt_of_lt_of_le this.2 hsize⟩
      · rw [h3] at hb1
        cases hb1
        exact ⟨.inl (Nat.le_trans r.keep.size h3'), h4⟩
    · rw [if_neg c1] at h1
      simp only [upd, if_neg (fun c => c1 (Eq.symm c))] at hb1
      exact ⟨(r.own k1 e1 b h1 hb1).1, Nat.lt_of_lt_of_le (r.own k1 e1 b h1 hb1).2 hsize⟩
  · intro k1 e1 h1
    simp only [hget_cons] at h1
    by_cases c1 : k = k1
    · subst c1
      rw [if_pos rfl] at h1
      cases h1
      exact hH hBR hRD
    · rw [if_neg c1] at h1
      have c1' : k1 ≠ k := fun c => c1 c.symm
      have h2 := hget' k1 e1 c1' h1
      have h3 := r.hp k1 e1 h1
      cases e1 with
      | blk T cs =>
        obtain ⟨b, arr, q1, q2, q3, q4⟩ := h3
        exact ⟨b, arr, h2.2.trans q1, hoth k1 _ b _ c1' h1 q1 q2, q3, fun j c hc => let ⟨u, hu, ho, hr⟩ := q4 j c hc; ⟨u, hu, ho, hBR c u hr⟩⟩
      | row T size es ex =>
        obtain ⟨hz, hs, hr⟩ := h3
        refine ⟨hz, hs, hr.imp (fun ⟨q1, q2⟩ => ⟨h2.2.trans q1, q2⟩) ?_⟩
        rintro ⟨b, cur, q1, q2, q3, q4⟩
        exact ⟨b, cur, h2.2.trans q1, hoth k1 _ b _ c1' h1 q1 q2, q3, fun i cs j d hi hj => let ⟨u, hu, hr⟩ := q4 i cs j d hi hj; ⟨u, hu, hr.mono hst⟩⟩
      | it s pos =>
        obtain ⟨b, q1, q2⟩ := h3
        exact ⟨b, h2.2.trans q1, hoth k1 _ b _ c1' h1 q1 q2⟩
      | pr Φ =>
        obtain ⟨b, o, q1, q2, q3⟩ := h3
        exact ⟨b, o, h2.2.trans q1, hoth k1 _ b _ c1' h1 q1 q2, q3⟩
      | map es =>
        obtain ⟨b, ents, q1, q2, q3, q4⟩ := h3
        exact ⟨b, ents, h2.2.trans q1, hoth k1 _ b _ c1' h1 q1 q2, q3, fun i e he => let ⟨x, p1, p2, p3, p4⟩ := q4 i e he; ⟨x, p1, p2, p3, p4.mono hst⟩⟩
      | bld T E kk s =>
        obtain ⟨q0, b, p, v, q1, q2, q3, q4, q5⟩ := h3
        have ckk : kk ≠ k := hid kk _ q0
        have q0' := hget' kk _ ckk q0
        exact ⟨q0'.1, b, p, v, h2.2.trans q1, q2, hoth k1 _ b _ c1' h1 q1 q3, ownsRow_of_block q4 (fun g hg => by
          obtain ⟨o, ho⟩ : ∃ o, w.heap[g]? = some o := ⟨_, Array.getElem?_eq_getElem (ownsRow_lt q4 hg)⟩
          rw [ho]; exact hoth kk _ g o ckk q0 (q5.symm.trans hg) ho), q5.trans q0'.2.symm⟩
      | hid _ _ => trivial
  · intro t sv hs
    have h1 := r.sl t sv hs
    cases sv with
    | one b => exact hBR _ _ h1
    | tup l =>
      obtain ⟨us, q1, q2, q3⟩ := h1
      exact ⟨us, q1, q2, fun i b hi => let ⟨x, hx, hr⟩ := q3 i b hi; ⟨x, hx, hBR _ _ hr⟩⟩
    | dead => trivial
  · obtain ⟨f1, f2⟩ := r.fx b hb
    by_cases c : k = 0
    · subst c
      have h1 := f2 e0 hk
      exact ⟨by simp only [upd, if_true]; rw [hrow.2 h1]; exact f1, fun e1 he => by rw [hget_cons, if_pos rfl] at he; cases he; exact hrow.1.trans h1⟩
    · exact ⟨by simp only [upd, if_neg (Ne.symm c)]; exact f1, fun e1 he => by rw [hget_cons, if_neg c] at he; exact f2 e1 he⟩

end Go.Ab

/- The abstract machine: allocation, boxes, stores, lengths, parts, structs. Conditions: none but those that stand in each law. -/
namespace Go.Ab
open Go Go.RowKit

/-- a zero value's cell and its content -/
inductive ZC : Value → BV → Prop
  | v (x : Value) (h : x.oneCell' = true) : ZC x (dv x)
  | n (size : Nat) : ZC (.slice none 0 0) (.g (.d (.sl size [])))
  | x (v : Value) (h : v.oneCell' = true) : ZC v (.x v)

def ZL : List Value → List BV → Prop
  | [], [] => True
  | v :: vs, c :: cs => ZC v c ∧ ZL vs cs
  | _, _ => False

theorem ZC.br {P : Program} {nt : Nat} {C : Cx P nt} {hp : HL} {β : Nat → Option Nat} {w : World} {v : Value} {c : BV} (h : ZC v c) : BR C hp β w c v ∧ v.oneCell' = true := by
  cases h with
  | v x h => exact ⟨RD.v v h, h⟩
  | n size => exact ⟨RD.nil none 0 size (Nat.zero_le _), rfl⟩
  | x v h => exact ⟨rfl, h⟩

theorem ZL.br {P : Program} {nt : Nat} {C : Cx P nt} {hp : HL} {β : Nat → Option Nat} {w : World} : ∀ {vs : List Value} {cs : List BV}, ZL vs cs → vs.length = cs.length ∧ ∀ (j : Nat) (c : BV), cs[j]? = some c → ∃ u, vs[j]? = some u ∧ u.oneCell' = true ∧ BR C hp β w c u
  | [], [], _ => ⟨rfl, fun j c h => by simp at h⟩
  | v :: vs, c :: cs, ⟨h1, h2⟩ => by
    obtain ⟨h3, h4⟩ := ZL.br (C := C) (hp := hp) (β := β) (w := w) h2
    refine ⟨by simp [h3], fun j c' hj => ?_⟩
    cases j with
    | zero => simp at hj; subst hj; exact ⟨v, rfl, (h1.br (C := C) (hp := hp) (β := β) (w := w)).2, h1.br.1⟩
    | succ j => simpa using h4 j c' (by simpa using hj)

theorem below_alloc (w : World) (o : Obj) : Below w.heap.size w (w.alloc o) := ⟨rfl, rfl, rfl, by simp, fun k hk => heap_alloc_old w o hk⟩

section
variable {P : Program} {nt : Nat} {C : Cx P nt} {dst : Nat} {ty : TypeId} {pos : String} {af : Array Edge} {gd : Option (Nat × Bool)} {x y z : Operand} {R R1 R2 R3 : List (Nat × SV)}

/-- a new block of cells whose contents are known -/
theorem RelB.newBlk {sl : SL} {hp : HL} {β : Nat → Option Nat} {a : Act} {w : World} (r : RelB C ⟨sl, hp⟩ β a w) {k : Nat} (hk : hget hp k = none) (hk0 : Nat.blt 0 k = true) {arr : Array Value} {T : Nat} {cs : List BV}
    (hl : arr.size = cs.length) (hc : ∀ (j : Nat) (c : BV), cs[j]? = some c → ∃ u, arr[j]? = some u ∧ u.oneCell' = true ∧ BR C hp β w c u) (hd : dst < nt) :
    Rel C ⟨(dst, .one (.ptr k 0)) :: sl, (k, some (.blk T cs)) :: hp⟩ (a.put (some dst) (.pointer (some ⟨w.heap.size, 0, none⟩))) (w.alloc (.cells arr T)) := by
  have h := (r.new (e := .blk T cs) (bo := some w.heap.size) hk hk0 (below_alloc w (.cells arr T)) (fun b hb => by cases hb; exact ⟨rfl, by simp⟩) fun hBR _ =>
    ⟨w.heap.size, arr, by simp [upd], heap_alloc_new w _, hl, fun j c hj => let ⟨u, h1, h2, h3⟩ := hc j c hj; ⟨u, h1, h2, hBR c u h3⟩⟩).1
  refine ⟨_, h.put (Below.refl _ _) hd ⟨⟨.blk T cs, by rw [hget_cons, if_pos rfl], rfl⟩, w.heap.size, by simp [upd], rfl⟩⟩

theorem op_alloc {T : TypeId} {zv : Value} {n bytes k : Nat} {cs : List BV} (hI : Info P T zv n bytes) (hz : ZL zv.cells.toList cs) (hd : Nat.blt dst nt = true) (hk0 : Nat.blt 0 k = true := by rfl) :
    OpL C (Oo dst (.alloc T) ty pos af gd) [] [(k, none)] [(dst, .one (.ptr k 0))] [(k, some (.blk T cs))] := by
  refine ⟨fun sl hp hs hh a w K Q ⟨β, r⟩ hK => ?_⟩
  have hb := ZL.br (C := C) (hp := hp) (β := β) (w := w) hz
  unfold Oper.wp
  have : (execOp a.eval (Oo dst (.alloc T) ty pos af gd)).run P w = .ok (.value (.pointer (some ⟨w.heap.size, 0, none⟩))) (w.alloc (.cells zv.cells T)) := by
    simp [execOp, Instr.alloc, hI.zero, newVar, newRow]
  rw [this]
  exact hK _ _ (r.newBlk hh.1 hk0 (by simpa using hb.1) (by simpa using hb.2) (by simpa using hd))

theorem op_boxA {T : TypeId} {k : Nat} {ds : List DV} (hx : Ev x (.g (.agg ds)) R) (hd : Nat.blt dst nt = true) (hk0 : Nat.blt 0 k = true := by rfl) :
    OpL C (Oo dst (.box T x) ty pos af gd) R [(k, none)] [(dst, .one (.ptr k 0))] [(k, some (.blk T (dat ds)))] := by
  refine ⟨fun sl hp hs hh a w K Q ⟨β, r⟩ hK => ?_⟩
  obtain ⟨us, hu, hl, hc⟩ := hx.ok hs r
  unfold Oper.wp
  have : (execOp a.eval (Oo dst (.box T x) ty pos af gd)).run P w = .ok (.value (.pointer (some ⟨w.heap.size, 0, none⟩))) (w.alloc (.cells us T)) := by
    simp [execOp, Instr.box, newVar, newRow, hu, Value.cells]
  rw [this]
  refine hK _ _ (r.newBlk hh.1 hk0 (by simp [hl, dat]) (fun j c' hj => ?_) (by simpa using hd))
  simp only [dat, List.getElem?_map, Option.map_eq_some_iff] at hj
  obtain ⟨d, hd, rfl⟩ := hj
  obtain ⟨u, h1, h2⟩ := hc j d hd
  exact ⟨u, h1, h2.one, h2⟩

/-- contents of the same block after a store at 'off' -/
def splice (cs : List BV) (off : Nat) (l : List BV) : List BV := cs.take off ++ l ++ cs.drop (off + l.length)

theorem splice_get {α : Type} (cs : List α) (off : Nat) (l : List α) (h : off + l.length ≤ cs.length) (j : Nat) :
    (cs.take off ++ l ++ cs.drop (off + l.length))[j]? = if off ≤ j ∧ j < off + l.length then l[j - off]? else cs[j]? := by
  rw [List.append_assoc, List.getElem?_append]
  have h1 : (cs.take off).length = off := by rw [List.length_take]; omega
  rw [h1]
  split
  · rw [List.getElem?_take, if_pos (by assumption), if_neg (by omega)]
  · rw [List.getElem?_append]
    split
    · rw [if_pos (by omega)]
    · rw [List.getElem?_drop, if_neg (by omega)]
      congr 1
      omega

theorem op_storeG {S : TypeId} {k off T : Nat} {cs l : List BV} {vs : Act → List Value} {pos : String} {ty : TypeId} {dst0 : Option Nat}
    (hoff : off + l.length ≤ cs.length)
    (hx : Ev x (.ptr k off) R1)
    (hrun : ∀ (sl : SL) (hp : HL) β a w, HasS sl (R1 ++ R2) → RelB C ⟨sl, hp⟩ β a w → (vs a).length = l.length ∧
      (∀ ad : Addr, (Instr.storeAt S (.pointer (some ad)) (a.eval y)).run P w = (storeCells ad (vs a)).run P w) ∧
      ∀ (j : Nat) (c : BV), l[j]? = some c → ∃ u, (vs a)[j]? = some u ∧ u.oneCell' = true ∧ BR C hp β w c u)
    (hd0 : dst0 = none) :
    OpL C ⟨dst0, .store S x y, ty, pos, af, gd⟩ (R1 ++ R2) [(k, some (.blk T cs))] [] [(k, some (.blk T (splice cs off l)))] := by
  refine ⟨fun sl hp hs hh a w K Q ⟨β, r⟩ hK => ?_⟩
  obtain ⟨_, b, hb, hu⟩ := hx.ok hs.app.1 r
  obtain ⟨hvl, hst, hvc⟩ := hrun sl hp β a w hs r
  obtain ⟨b', arr, hb', hheap, hsz, hcell⟩ := r.hp k _ hh.1
  rw [hb] at hb'
  cases hb'
  have hone : ∀ v, v ∈ vs a → v.oneCell' = true := by
    intro v hv
    obtain ⟨j, hj, rfl⟩ := List.getElem_of_mem hv
    obtain ⟨u, h1, h2, _⟩ := hvc j l[j] (by simp)
    simp [List.getElem?_eq_getElem hj] at h1
    rw [h1]; exact h2
  have hsc := run_storeCells_at P b off T (vs a) 0 arr w hheap (by omega) hone
  simp only [Nat.add_zero] at hsc
  generalize hw1 : w.setRow b (List.take off arr.toList ++ vs a ++ List.drop (off + (vs a).length) arr.toList).toArray = w1 at hsc
  have hnew : w1.heap[b]? = some (.cells (List.take off arr.toList ++ vs a ++ List.drop (off + (vs a).length) arr.toList).toArray T) := by
    rw [← hw1]; exact setRow_heap w b arr _ T _ hheap
  have hoth : ∀ i, i ≠ b → w1.heap[i]? = w.heap[i]? := fun i hi => by rw [← hw1]; exact setRow_other w b i _ hi
  have hsize : w1.heap.size = w.heap.size := by rw [← hw1]; simp [World.setRow]
  unfold Oper.wp
  have : (execOp a.eval ⟨dst0, .store S x y, ty, pos, af, gd⟩).run P w = .ok .skip w1 := by
    simp only [execOp, hu, Sem.run_bind, hst, hsc, Result.andThen_ok, Sem.run_pure]
  rw [this]
  subst hd0
  refine hK _ _ ⟨upd β k (β k), ?_⟩
  have hlen : (splice cs off l).length = cs.length := by
    simp only [splice, List.length_append, List.length_take, List.length_drop]
    omega
  refine (r.chg (e := .blk T (splice cs off l)) (bo := β k) hh.1 (by rw [← hw1]; rfl) (by rw [← hw1]; rfl) (by rw [← hw1]; rfl) (by omega) (fun i _ hi => hoth i (fun c => hi (by rw [c, hb]))) (fun _ _ _ _ _ c => absurd trivial c)
    (.inl ⟨rfl, fun _ h => h⟩) ⟨rfl, fun _ => rfl⟩ (fun es0 u h => ?_) (fun hBR _ => ?_)).1
  · obtain ⟨_, _, _, _, h1, _⟩ := h
    rw [hh.1] at h1; cases h1
  · refine ⟨b, _, by simp [upd, hb], hnew, ?_, fun j c hj => ?_⟩
    · rw [hlen]; simp only [List.size_toArray, List.length_append, List.length_take, List.length_drop, Array.length_toList]; omega
    · rw [splice, splice_get cs off l hoff] at hj
      have harr : (List.take off arr.toList ++ vs a ++ List.drop (off + (vs a).length) arr.toList).toArray[j]? = if off ≤ j ∧ j < off + l.length then (vs a)[j - off]? else arr[j]? := by
        rw [List.getElem?_toArray, splice_get arr.toList off (vs a) (by simp; omega), hvl]; simp
      rw [harr]
      split at hj
      · rename_i hin
        rw [if_pos hin]
        obtain ⟨u, h1, h2, h3⟩ := hvc _ _ hj
        exact ⟨u, h1, h2, hBR c u h3⟩
      · rename_i hin
        rw [if_neg hin]
        obtain ⟨u, h1, h2, h3⟩ := hcell _ _ hj
        exact ⟨u, h1, h2, hBR c u h3⟩

theorem op_store1 {S : TypeId} {k off T : Nat} {zz : Value} {bytes : Nat} {cs cs' : List BV} {c : BV} (hc : c.sg)
    (hI : Info P S zz 1 bytes) (hoff : Nat.blt off cs.length = true) (he : splice cs off [c] = cs') (hx : Ev x (.ptr k off) R1) (hy : Ev y c R2) :
    OpL C ⟨none, .store S x y, ty, pos, af, gd⟩ (R1 ++ R2) [(k, some (.blk T cs))] [] [(k, some (.blk T cs'))] := by
  subst he
  refine op_storeG (vs := fun a => [a.eval y]) (by simp at hoff ⊢; omega) hx (fun sl hp β a w hs r => ?_) rfl
  have h1 := hy.ok hs.app.2 r
  have h2 := BR.one h1 hc
  have h3 : (a.eval y).cells = #[a.eval y] := by generalize a.eval y = u at h2; cases u <;> simp_all [Value.cells, Value.oneCell']
  refine ⟨rfl, fun ad => ?_, fun j c' hj => ?_⟩
  · simp [Instr.storeAt, Instr.sureAddr, storeVar, h3, hI.sizeOf]
  · cases j with
    | zero => simp at hj; subst hj; exact ⟨_, rfl, h2, h1⟩
    | succ j => simp at hj

theorem op_storeA {S : TypeId} {k off T : Nat} {zz : Value} {bytes : Nat} {cs cs' : List BV} {ds : List DV}
    (hI : Info P S zz ds.length bytes) (hoff : Nat.ble (off + ds.length) cs.length = true) (he : splice cs off (dat ds) = cs') (hx : Ev x (.ptr k off) R1) (hy : Ev y (.g (.agg ds)) R2) :
    OpL C ⟨none, .store S x y, ty, pos, af, gd⟩ (R1 ++ R2) [(k, some (.blk T cs))] [] [(k, some (.blk T cs'))] := by
  subst he
  refine op_storeG (vs := fun a => (a.eval y).cells.toList) (by simp [dat] at hoff ⊢; omega) hx (fun sl hp β a w hs r => ?_) rfl
  obtain ⟨us, hu, hl, hc⟩ := hy.ok hs.app.2 r
  refine ⟨by simp [hu, Value.cells, hl, dat], fun ad => ?_, fun j c' hj => ?_⟩
  · simp [Instr.storeAt, Instr.sureAddr, storeVar, hu, Value.cells, hl, hI.sizeOf]
  · simp only [dat, List.getElem?_map, Option.map_eq_some_iff] at hj
    obtain ⟨d, hd, rfl⟩ := hj
    obtain ⟨u, h1, h2⟩ := hc j d hd
    exact ⟨u, by simp [hu, Value.cells, h1], h2.one, h2⟩

abbrev cLen (arg : Operand) (T : TypeId) : Op := .call { callee := .builtin .len, args := #[arg], argTypes := #[T] }

theorem op_lenD {T E size : Nat} {es : List (List DV)} (hT : P.underlying T = some (.slice E)) (hx : Ev x (.g (.d (.sl size es))) R) (hd : Nat.blt dst nt = true) :
    OpL C (Oo dst (cLen x T) ty pos af gd) R [] [(dst, .one (bI .i64 (es.length : Int)))] [] :=
  opl_pure hd rfl fun sl hp β a w hs _ r => by
    have h1 := hx.ok hs r
    generalize hxx : a.eval x = u at h1
    cases h1
    exact ⟨.int .i64 es.length, by simp [execOp, resolve, invoke, builtin, Builtin.len_, run_underlying hT, hxx, goInt], RD.v _ rfl⟩

theorem op_lenS {T : Nat} {s : ByteArray} (hT : P.underlying T = some .string) (hx : Ev x (bS s) R) (hd : Nat.blt dst nt = true) :
    OpL C (Oo dst (cLen x T) ty pos af gd) R [] [(dst, .one (bI .i64 (s.size : Int)))] [] :=
  opl_pure hd rfl fun sl hp β a w hs _ r => by
    have h1 := BR.v_inv (hx.ok hs r)
    exact ⟨.int .i64 s.size, by simp [execOp, resolve, invoke, builtin, Builtin.len_, run_underlying hT, h1, goInt], RD.v _ rfl⟩

theorem op_lenO {T E T' size k : Nat} {es : List (List DV)} {ex : Bool} (hT : P.underlying T = some (.slice E)) (hx : Ev x (.own k es) R) (hd : Nat.blt dst nt = true) :
    OpL C (Oo dst (cLen x T) ty pos af gd) R [(k, some (.row T' size es ex))] [(dst, .one (bI .i64 (es.length : Int)))] [] :=
  opl_pure hd rfl fun sl hp β a w hs hh r => by
    obtain ⟨_, _, es1, _, he, _, h1⟩ := hx.ok hs r
    rw [hh.1] at he
    cases he
    rcases h1 rfl with ⟨_, rfl, ad, hu⟩ | ⟨b, cap, cur, _, hu, _⟩
    · exact ⟨.int .i64 0, by simp [execOp, resolve, invoke, builtin, Builtin.len_, run_underlying hT, hu, goInt], RD.v _ rfl⟩
    · exact ⟨.int .i64 es.length, by simp [execOp, resolve, invoke, builtin, Builtin.len_, run_underlying hT, hu, goInt], RD.v _ rfl⟩

theorem op_extract {t i : Nat} {l : List BV} {c : BV} (hi : l[i]? = some c) (hd : Nat.blt dst nt = true) :
    OpL C (Oo dst (.extract (.tmp t) i) ty pos af gd) [(t, .tup l)] [] [(dst, .one c)] [] :=
  opl_pure hd rfl fun sl hp β a w hs _ r => by
    obtain ⟨us, hu, _, h3⟩ := Ev.tup hs.1 r
    obtain ⟨u, h4, h5⟩ := h3 i c hi
    exact ⟨u, by simp [execOp, Instr.extract, hu, h4], h5⟩

theorem op_makeFunc1 {f k1 : Nat} (hx : Ev x (.ptr k1 0) R) (hd : Nat.blt dst nt = true) : OpL C (Oo dst (.makeFunc (.func f) #[] #[x]) ty pos af gd) R [] [(dst, .one (.clo f [k1]))] [] :=
  opl_pure hd rfl fun sl hp β a w hs _ r => by
    obtain ⟨h1, b, hb, hu⟩ := hx.ok hs r
    refine ⟨.func (.func f) #[] #[a.eval x], by simp [execOp, Instr.makeFunc], [a.eval x], rfl, rfl, fun i k h => ?_⟩
    cases i with
    | zero => simp at h; subst h; exact ⟨h1, b, hb, by simp [hu]⟩
    | succ i => simp at h

end
end Go.Ab

/- The abstract machine: structs and slices that are built, rows that grow, pieces of texts and slices. Conditions: none but those that stand in each law. -/
namespace Go.Ab
open Go Go.RowKit

def AG.cells : AG → List DV
  | .d x => [x]
  | .agg cs => cs

/-- values that read as what is known of them -/
def VR (M : Nat → Nat → Prop) (w : World) (vals : Array Value) (ds : List (Option DV)) : Prop :=
  vals.size = ds.length ∧ ∀ (j : Nat) (d : DV), ds[j]? = some (some d) → ∃ u, vals[j]? = some u ∧ RD M w u d

def dfill (place : Nat → Option (Nat × Nat)) (cells : List (Option DV)) : List (Nat × AG) → Option (List (Option DV))
  | [] => some cells
  | (i, v) :: rest => match place i with
    | none => none
    | some (off, size) => bif !(Nat.beq v.cells.length size) || Nat.blt cells.length (off + size) then none
      else dfill place (cells.take off ++ v.cells.map some ++ cells.drop (off + size)) rest

theorem foldl_set (off : Nat) : ∀ (l : List Value) (s : Nat) (cells : Array Value),
    ((l.zipIdx s).foldl (fun cs (p : Value × Nat) => cs.setIfInBounds (off + p.2) p.1) cells).size = cells.size ∧
    ∀ j, j < cells.size → ((l.zipIdx s).foldl (fun cs (p : Value × Nat) => cs.setIfInBounds (off + p.2) p.1) cells)[j]? = if off + s ≤ j ∧ j < off + s + l.length then l[j - (off + s)]? else cells[j]?
  | [], s, cells => ⟨rfl, fun j _ => by rw [if_neg (fun c => by simp at c; omega)]; rfl⟩
  | v :: l, s, cells => by
    obtain ⟨h1, h2⟩ := foldl_set off l (s + 1) (cells.setIfInBounds (off + s) v)
    simp only [List.zipIdx_cons, List.foldl_cons]
    refine ⟨by rw [h1]; simp, fun j hj => ?_⟩
    rw [h2 j (by simpa using hj)]
    by_cases c : j = off + s
    · subst c
      rw [if_neg (by omega), if_pos (by simp)]
      simp [hj]
    · by_cases c2 : off + (s + 1) ≤ j ∧ j < off + (s + 1) + l.length
      · rw [if_pos c2, if_pos (by simp; omega)]
        rw [show j - (off + s) = (j - (off + (s + 1))) + 1 by omega]
        simp
      · rw [if_neg c2, if_neg (by simp; omega), Array.getElem?_setIfInBounds, if_neg (fun e => c e.symm)]

theorem fill_vr {M : Nat → Nat → Prop} {w : World} {place : Nat → Option (Nat × Nat)} : ∀ {parts : List (Nat × AG)} {vparts : List (Nat × Value)} {cells : List (Option DV)} {vals : Array Value} {ds : List (Option DV)},
    VR M w vals cells → vparts.length = parts.length → (∀ (i : Nat) (p : Nat × AG), parts[i]? = some p → ∃ u, vparts[i]? = some (p.1, u) ∧ GR M w u p.2) →
    dfill place cells parts = some ds → ∃ vals', Instr.fill place vals vparts = some vals' ∧ VR M w vals' ds
  | [], vparts, cells, vals, ds, hv, hl, _, h => by
    simp at hl; subst hl
    simp only [dfill, Option.some.injEq] at h; subst h
    exact ⟨vals, rfl, hv⟩
  | (i, g) :: parts, vparts, cells, vals, ds, hv, hl, hp, h => by
    obtain ⟨u, hu, hg⟩ := hp 0 (i, g) rfl
    cases vparts with
    | nil => simp at hl
    | cons q vparts =>
      simp at hu; subst hu
      simp only [dfill] at h
      cases hpl : place i with
      | none => rw [hpl] at h; simp at h
      | some os =>
        obtain ⟨off, size⟩ := os
        rw [hpl] at h
        simp only [cond_eq_ite] at h
        split at h
        · cases h
        · rename_i hc
          simp only [Bool.or_eq_true, Bool.not_eq_true', Nat.blt_eq, not_or, Bool.not_eq_false, Nat.not_lt] at hc
          obtain ⟨hc1, hc2⟩ := hc
          have hc1 := Nat.eq_of_beq_eq_true hc1
          have hcells : u.cells.size = size ∧ ∀ (j : Nat) (d : DV), g.cells[j]? = some d → ∃ x, u.cells[j]? = some x ∧ RD M w x d := by
            cases g with
            | d d =>
              have ho := RD.one hg
              have : u.cells = #[u] := by cases u <;> simp_all [Value.cells, Value.oneCell']
              rw [this]
              refine ⟨by simpa [AG.cells] using hc1, fun j d' hj => ?_⟩
              cases j with
              | zero => simp [AG.cells] at hj; subst hj; exact ⟨u, rfl, hg⟩
              | succ j => simp [AG.cells] at hj
            | agg cs =>
              obtain ⟨us, rfl, h1, h2⟩ := hg
              exact ⟨by simp only [Value.cells]; rw [h1]; exact hc1, h2⟩
          have hfs := foldl_set off u.cells.toList 0 vals
          have hvs := hv.1
          have hnext : VR M w (u.cells.zipIdx.foldl (fun cs (p : Value × Nat) => cs.setIfInBounds (off + p.2) p.1) vals) (cells.take off ++ g.cells.map some ++ cells.drop (off + size)) := by
            have e : u.cells.zipIdx.foldl (fun cs (p : Value × Nat) => cs.setIfInBounds (off + p.2) p.1) vals = (u.cells.toList.zipIdx 0).foldl (fun cs (p : Value × Nat) => cs.setIfInBounds (off + p.2) p.1) vals := by
              rw [← Array.foldl_toList, Array.toList_zipIdx]
            have hlen : (g.cells.map some).length = size := by simpa using hc1
            have hgc : g.cells.length = size := hc1
            rw [e]
            refine ⟨?_, fun j d hj => ?_⟩
            · rw [hfs.1, hvs]
              simp only [List.length_append, List.length_take, List.length_drop, List.length_map]
              omega
            · rw [← hlen, splice_get cells off (g.cells.map some) (by omega)] at hj
              have hjl : j < vals.size := by
                rw [hvs]
                by_cases c : off ≤ j ∧ j < off + (g.cells.map some).length
                · omega
                · rw [if_neg c] at hj
                  exact (List.getElem?_eq_some_iff.1 hj).1
              rw [hfs.2 j hjl]
              simp only [Nat.add_zero, Array.length_toList, hcells.1]
              rw [hlen] at hj
              split at hj
              · rename_i c
                rw [if_pos c]
                simp only [List.getElem?_map, Option.map_eq_some_iff, Option.some.injEq] at hj
                obtain ⟨d', hd', rfl⟩ := hj
                simpa using hcells.2 _ _ hd'
              · rename_i c
                rw [if_neg c]
                exact hv.2 j d hj
          obtain ⟨vals', hf, hv'⟩ := fill_vr hnext (by simpa using hl) (fun i' p hp' => hp (i' + 1) p (by simpa using hp')) h
          refine ⟨vals', ?_, hv'⟩
          have hb : ¬ (u.cells.size ≠ size ∨ off + u.cells.size > vals.size) := by rw [hcells.1, hvs]; omega
          simp only [Instr.fill, hpl]
          rw [if_neg (by simpa using hb)]
          exact hf

/-- the operands of a build -/
inductive EvP : List (Nat × Operand) → List (Nat × AG) → List (Nat × SV) → Prop
  | nil : EvP [] [] []
  | cons {i : Nat} {x : Operand} {g : AG} {R Rs : List (Nat × SV)} {xs : List (Nat × Operand)} {gs : List (Nat × AG)} (h : Ev x (.g g) R) (t : EvP xs gs Rs) : EvP ((i, x) :: xs) ((i, g) :: gs) (R ++ Rs)

theorem EvP.ok {P : Program} {nt : Nat} {C : Cx P nt} {sl : SL} {hp : HL} {β : Nat → Option Nat} {a : Act} {w : World} {xs : List (Nat × Operand)} {gs : List (Nat × AG)} {R : List (Nat × SV)}
    (hx : EvP xs gs R) (hs : HasS sl R) (r : RelB C ⟨sl, hp⟩ β a w) : xs.length = gs.length ∧ ∀ (i : Nat) (p : Nat × AG), gs[i]? = some p → ∃ u, (xs.map fun q => (q.1, a.eval q.2))[i]? = some (p.1, u) ∧ GR (Mu C hp β) w u p.2 := by
  induction hx with
  | nil => exact ⟨rfl, fun i p h => by simp at h⟩
  | cons h t ih =>
    obtain ⟨h1, h2⟩ := hs.app
    obtain ⟨h3, h4⟩ := ih h2
    refine ⟨by simp [h3], fun i p hi => ?_⟩
    cases i with
    | zero => simp at hi; subst hi; exact ⟨_, rfl, h.ok h1 r⟩
    | succ i => simpa using h4 i p (by simpa using hi)

def ZD : List Value → List DV → Prop
  | [], [] => True
  | v :: vs, d :: ds => ZC v (.g (.d d)) ∧ ZD vs ds
  | _, _ => False

theorem ZD.vr {M : Nat → Nat → Prop} {w : World} : ∀ {vs : List Value} {ds : List DV}, ZD vs ds → VR M w vs.toArray (ds.map some)
  | [], [], _ => ⟨rfl, fun j d h => by simp at h⟩
  | v :: vs, d :: ds, ⟨h1, h2⟩ => by
    obtain ⟨h3, h4⟩ := ZD.vr (M := M) (w := w) h2
    refine ⟨by simpa using h3, fun j d' hj => ?_⟩
    cases j with
    | zero =>
      simp at hj; subst hj
      refine ⟨v, by simp, ?_⟩
      generalize hc : BV.g (.d d) = c at h1
      cases h1 with
      | v x h => cases hc; exact RD.v v h
      | n size => cases hc; exact RD.nil none 0 size (Nat.zero_le _)
      | x v h => cases hc
    | succ j => simpa using h4 j d' (by simpa using hj)

def Places (P : Program) (fs : Array Field) (pl : Array (Nat × Nat)) : Prop := ∀ w, (fs.mapM fun f => do pure (f.offset, ← sizeOf f.type) : Sem (Array (Nat × Nat))).run P w = .ok pl w

section
variable {P : Program} {nt : Nat} {C : Cx P nt} {dst : Nat} {ty : TypeId} {pos : String} {af : Array Edge} {gd : Option (Nat × Bool)} {x y z : Operand} {R R1 R2 R3 : List (Nat × SV)}

theorem op_build {T : TypeId} {fs : Array Field} {zz : Value} {size bytes : Nat} {pl : Array (Nat × Nat)} {zs ds : List DV} {xs : List (Nat × Operand)} {gs : List (Nat × AG)}
    (hT : P.underlying T = some (.struct fs)) (hI : Info P T zz size bytes) (hpl : Places P fs pl) (hz : ZD zz.cells.toList zs)
    (hx : EvP xs gs R) (he : dfill (pl[·]?) (zs.map some) gs = some (ds.map some)) (hd : Nat.blt dst nt = true) :
    OpL C (Oo dst (.build T xs.toArray) ty pos af gd) R [] [(dst, .one (.g (.agg ds)))] [] :=
  opl_pure hd rfl fun sl hp β a w hs _ r => by
    obtain ⟨h1, h2⟩ := hx.ok hs r
    obtain ⟨vals, hf, hv⟩ := fill_vr (vparts := xs.map fun q => (q.1, a.eval q.2)) (ZD.vr (M := Mu C hp β) (w := w) hz) (by simpa using h1) h2 he
    refine ⟨.agg vals, ?_, vals, rfl, by simpa using hv.1, fun j d hj => hv.2 j d (by simp [hj])⟩
    have hpl' := hpl w
    have hf' : Instr.fill (fun x => pl[x]?) zz.cells (List.map (fun x => (x.fst, a.eval x.snd)) xs) = some vals := by simpa using hf
    simp only [execOp, Instr.build, Sem.run_bind, hI.zero, Result.andThen_ok, run_underlying hT, hpl', List.map_toArray, hf', Sem.run_pure]

/-- what leaves all blocks alone, and makes a value in a new world -/
theorem opl_below {P : Program} {nt : Nat} {C : Cx P nt} {o : Oper} {dst : Nat} {Rs : List (Nat × SV)} {Rh : List (Nat × Option HE)} {sv : SV} (hd : Nat.blt dst nt = true) (hdst : o.dst = some dst)
    (h : ∀ sl hp β a w, HasS sl Rs → HasH hp Rh → RelB C ⟨sl, hp⟩ β a w → ∃ v w', (execOp a.eval o).run P w = .ok (.value v) w' ∧ Below w.heap.size w w' ∧ SR C hp β w' sv v) :
    OpL C o Rs Rh [(dst, sv)] [] := by
  refine ⟨fun sl hp hs hh a w K Q ⟨β, r⟩ hK => ?_⟩
  obtain ⟨v, w', hv, hb, hr⟩ := h sl hp β a w hs hh r
  unfold Oper.wp
  rw [hv]
  refine hK _ _ ⟨β, ?_⟩
  rw [hdst]
  exact r.put hb (by simpa using hd) hr

theorem flatten_get {α : Type} (size : Nat) : ∀ (es : List (List α)), (∀ cs, cs ∈ es → cs.length = size) → ∀ i cs j d, es[i]? = some cs → cs[j]? = some d → es.flatten[i * size + j]? = some d
  | [], _, i, cs, j, d, h, _ => by simp at h
  | e :: es, hs, i, cs, j, d, hi, hj => by
    have he : e.length = size := hs e (by simp)
    cases i with
    | zero =>
      simp at hi; subst hi
      have : j < e.length := (List.getElem?_eq_some_iff.1 hj).1
      simp only [Nat.zero_mul, Nat.zero_add, List.flatten_cons, List.getElem?_append_left this]
      exact hj
    | succ i =>
      have := flatten_get size es (fun c hc => hs c (by simp [hc])) i cs j d (by simpa using hi) hj
      rw [List.flatten_cons, List.getElem?_append_right (by rw [he, Nat.succ_mul]; omega), he, Nat.succ_mul]
      rw [show i * size + size + j - size = i * size + j by omega]
      exact this

theorem below_new {M : Nat → Nat → Prop} {w : World} (hM : ∀ o, ¬ M w.heap.size o) {E size len : Nat} {vals : Array Value} {es : List (List DV)} (hl : es.length = len)
    (hcap : len ≤ maxLen) (hs : ∀ cs, cs ∈ es → cs.length = size) (hv : VR M w vals (es.flatten.map some)) : RD M (w.alloc (.cells vals E)) (.slice (some ⟨w.heap.size, 0, none⟩) len len) (.sl size es) := by
  subst hl
  have key : ∀ i cs j d, es[i]? = some cs → cs[j]? = some d → ∃ u, vals[i * size + j]? = some u ∧ RD M w u d := fun i cs j d hi hj => by
    refine hv.2 _ d ?_
    rw [List.getElem?_map, flatten_get size es hs i cs j d hi hj]; rfl
  refine RD.sl _ _ size es (fun i j => vals.getD (i * size + j) undef) w.heap.size 0 (Nat.le_refl _) hcap (fun _ => rfl) hs (fun i cs j d hi hj => ?_) (fun i cs j d hi hj => ?_)
  · obtain ⟨u, h1, _⟩ := key i cs j d hi hj
    refine ⟨?_, hM _⟩
    rw [cell_of_row _ _ _ vals E (0, 0) (heap_alloc_new w _)]
    simp [h1]
  · obtain ⟨u, h1, h2⟩ := key i cs j d hi hj
    have e : vals.getD (i * size + j) undef = u := by simp [h1]
    show RD M (w.alloc (.cells vals E)) (vals.getD (i * size + j) undef) d
    rw [e]
    exact h2.mono (below_kept (below_alloc w _))

theorem op_buildSlice {T E : TypeId} {zz : Value} {size bytes len : Nat} {es : List (List DV)} {xs : List (Nat × Operand)} {gs : List (Nat × AG)}
    (hT : P.underlying T = some (.slice E)) (hI : Info P E zz size bytes) (hbig : Nat.ble (len * size) 16777216 = true) (hlen : Nat.ble len 16777216 = true)
    (hx : EvP xs gs R) (he : dfill (fun i => some (i * size, size)) (List.replicate (len * size) none) gs = some (es.flatten.map some)) (hel : Nat.beq es.length len = true) (hes : ∀ cs, cs ∈ es → cs.length = size) (hd : Nat.blt dst nt = true) :
    OpL C (Oo dst (.buildSlice T len xs.toArray) ty pos af gd) R [] [(dst, .one (.g (.d (.sl size es))))] [] :=
  opl_below hd rfl fun sl hp β a w hs _ r => by
    have hel := Nat.eq_of_beq_eq_true hel
    have hbig' : ¬ (16777216 < len * size) := by simp at hbig; omega
    obtain ⟨h1, h2⟩ := hx.ok hs r
    generalize hz0 : (if len * size = 0 then (#[] : Array Value) else zz.cells) = z0
    have hvr0 : VR (Mu C hp β) w ((Array.range (len * size)).map (z0[· % z0.size]!)) (List.replicate (len * size) none) := ⟨by simp, fun j d hj => by rw [List.getElem?_replicate] at hj; split at hj <;> simp at hj⟩
    obtain ⟨vals, hf, hv⟩ := fill_vr (vparts := xs.map fun q => (q.1, a.eval q.2)) hvr0 (by simpa using h1) h2 he
    refine ⟨.slice (some ⟨w.heap.size, 0, none⟩) len len, w.alloc (.cells vals E), ?_, below_alloc w _, ?_⟩
    · simp only [execOp, Instr.buildSlice, Sem.run_bind, run_underlying hT, Result.andThen_ok, hI.sizeOf]
      rw [if_neg (by simpa using hbig')]
      by_cases h0 : len * size = 0
      · rw [if_pos h0] at hz0
        subst hz0
        rw [if_pos h0]
        simp only [Sem.run_bind, Sem.run_pure, Result.andThen_ok, List.map_toArray, hf, newRow, run_newObj]
        rfl
      · rw [if_neg h0] at hz0
        subst hz0
        rw [if_neg h0]
        simp only [Sem.run_bind, Sem.run_pure, Result.andThen_ok, hI.zero, List.map_toArray, hf, newRow, run_newObj]
        rfl
    · refine below_new (fun o c => ?_) hel (by simp at hlen; unfold maxLen; omega) hes hv
      exact Nat.lt_irrefl _ (r.mut_lt c)

end
end Go.Ab

/- The abstract machine: rows that are appended to. Conditions: none but those that stand in each law. -/
namespace Go.Ab
open Go Go.RowKit

theorem BR.ext {P : Program} {nt : Nat} {C : Cx P nt} {hp hp' : HL} {β : Nat → Option Nat} {w : World} (h : ∀ k, hget hp' k = hget hp k) {c : BV} {u : Value} (r : BR C hp β w c u) : BR C hp' β w c u := by
  have hmu : ∀ b o, Mu C hp' β b o → Mu C hp β b o := by
    rintro b o (hM | ⟨k, e, he, hb, hm⟩)
    · exact .inl hM
    · exact .inr ⟨k, e, (h k).symm.trans he, hb, hm⟩
  refine BR.kept (fun b o x hn hx => ⟨hx, fun c => hn (hmu b o c)⟩) (fun k _ e he hr => ⟨⟨e, (h k).trans he, hr⟩, rfl⟩) (fun k es0 u _ r => ?_) r
  obtain ⟨T, size, es, ex, hh, hl, hr⟩ := r
  exact ⟨T, size, es, ex, (h k).trans hh, hl, hr⟩

theorem RelB.ext {P : Program} {nt : Nat} {C : Cx P nt} {st st' : St} {β : Nat → Option Nat} {a : Act} {w : World} (r : RelB C st β a w) (hs : ∀ t sv, sget st'.sl t = some sv → sget st.sl t = some sv) (h : ∀ k, hget st'.hp k = hget st.hp k) : RelB C st' β a w := by
  have hmu : ∀ b o, Mu C st'.hp β b o → Mu C st.hp β b o := by
    rintro b o (hM | ⟨k, e, he, hb, hm⟩)
    · exact .inl hM
    · exact .inr ⟨k, e, (h k).symm.trans he, hb, hm⟩
  have hst : ∀ b o x, ¬ Mu C st.hp β b o → w.cell? ⟨b, o, none⟩ = some x → w.cell? ⟨b, o, none⟩ = some x ∧ ¬ Mu C st'.hp β b o := fun b o x hn hx => ⟨hx, fun c => hn (hmu b o c)⟩
  refine ⟨r.keep, r.low, fun k k' e e' b h1 h2 => r.inj k k' e e' b ((h k).symm.trans h1) ((h k').symm.trans h2), fun k e b h1 => r.own k e b ((h k).symm.trans h1), fun k e h1 => ?_, fun t sv ht => ?_, r.size, r.df, fun b hb => ⟨(r.fx b hb).1, fun e he => (r.fx b hb).2 e ((h 0).symm.trans he)⟩⟩
  · have h2 := r.hp k e ((h k).symm.trans h1)
    cases e with
    | blk T cs =>
      obtain ⟨b, arr, q1, q2, q3, q4⟩ := h2
      exact ⟨b, arr, q1, q2, q3, fun j c hc => let ⟨u, hu, ho, hr⟩ := q4 j c hc; ⟨u, hu, ho, hr.ext h⟩⟩
    | row T size es ex =>
      obtain ⟨hz, hs, hr⟩ := h2
      exact ⟨hz, hs, hr.imp id fun ⟨b, cur, q1, q2, q3, q4⟩ => ⟨b, cur, q1, q2, q3, fun i cs j d hi hj => let ⟨u, hu, hr⟩ := q4 i cs j d hi hj; ⟨u, hu, hr.mono hst⟩⟩⟩
    | it s pos => exact h2
    | pr Φ => exact h2
    | map es =>
      obtain ⟨b, ents, q1, q2, q3, q4⟩ := h2
      exact ⟨b, ents, q1, q2, q3, fun i e he => let ⟨x, p1, p2, p3, p4⟩ := q4 i e he; ⟨x, p1, p2, p3, p4.mono hst⟩⟩
    | bld T E kk s => exact ⟨(h kk).trans h2.1, h2.2⟩
    | hid _ _ => trivial
  · have h1 := r.sl t sv (hs t sv ht)
    cases sv with
    | one b => exact BR.ext h h1
    | tup l =>
      obtain ⟨us, q1, q2, q3⟩ := h1
      exact ⟨us, q1, q2, fun i b hi => let ⟨x, hx, hr⟩ := q3 i b hi; ⟨x, hx, hr.ext h⟩⟩
    | dead => trivial

section
variable {P : Program} {nt : Nat} {C : Cx P nt} {dst : Nat} {ty : TypeId} {pos : String} {af : Array Edge} {gd : Option (Nat × Bool)} {x y z : Operand} {R R1 R2 R3 : List (Nat × SV)}

/-- a nil slice that will be appended to -/
theorem op_assignRow {E size k : Nat} {ex : Bool} (hz : Nat.blt 0 size = true) (hd : Nat.blt dst nt = true) (hk0 : Nat.blt 0 k = true := by rfl) :
    OpL C (Oo dst (.assign (.const (.slice none 0 0))) ty pos af gd) [] [(k, none)] [(dst, .one (.own k []))] [(k, some (.row E size [] ex))] := by
  refine ⟨fun sl hp hs hh a w K Q ⟨β, r⟩ hK => ?_⟩
  unfold Oper.wp
  have : (execOp a.eval (Oo dst (.assign (.const (.slice none 0 0))) ty pos af gd)).run P w = .ok (.value (.slice none 0 0)) w := by simp [execOp, Act.eval]
  rw [this]
  have h := (r.new (e := .row E size [] ex) (bo := none) hh.1 hk0 (Below.refl _ w) (fun b hb => by cases hb) fun _ _ => ⟨by simpa using hz, fun cs h => by simp at h, .inl ⟨by simp [upd], rfl⟩⟩).1
  exact hK _ _ ⟨_, h.put (Below.refl _ _) (by simpa using hd) ⟨E, size, [], ex, by rw [hget_cons, if_pos rfl], Nat.le_refl _, fun _ => .inl ⟨by simp [upd], rfl, none, rfl⟩⟩⟩

abbrev cApp (s x : Operand) (T : TypeId) : Op := .call { callee := .builtin .append, args := #[s, x], argTypes := #[T, T] }

theorem run_app {P : Program} {ρ : Operand → Value} {s x : Operand} {T dst ty : Nat} {pos : String} {af : Array Edge} {gd : Option (Nat × Bool)} {w w' : World} {v : Value}
    (h : (Builtin.append_ #[T, T] ty #[ρ s, ρ x]).run P w = .ok v w') : (execOp ρ (Oo dst (cApp s x T) ty pos af gd)).run P w = .ok (.value v) w' := by
  simp [execOp, resolve, invoke, builtin, h]

theorem run_append_zero {P : Program} {T E ty n cap c size bytes : Nat} {zz : Value} {base a' : Option Addr} {w : World} (hT : P.underlying T = some (.slice E)) (hI : Info P E zz size bytes) (hn : n ≤ cap) :
    (Builtin.append_ #[T, T] ty #[.slice base n cap, .slice a' 0 c]).run P w = .ok (.slice base n cap) w := by
  have hf : (Builtin.firstCells size 0 (.slice a' 0 c)).run P w = .ok #[] w := by
    cases a' <;> simp [Builtin.firstCells, loadCells, loadCellsFrom]
  cases base <;> simp [Builtin.append_, run_underlying hT, hI.sizeOf, Builtin.lenOf, hn, hf, storeCells]

/-- the cells of a reading, in a row -/
theorem RD.flat {M : Nat → Nat → Prop} {w : World} {u : Value} {size : Nat} {es : List (List DV)} (hz : 0 < size) (h : RD M w u (.sl size es)) :
    ∃ (a : Option Addr) (cap : Nat) (nv : List Value), u = .slice a es.length cap ∧ es.length ≤ cap ∧ cap ≤ maxLen ∧ (∀ cs, cs ∈ es → cs.length = size) ∧ nv.length = es.length * size ∧ (∀ v, v ∈ nv → v.oneCell' = true) ∧
      (∀ i cs j d, es[i]? = some cs → cs[j]? = some d → ∃ v, nv[i * size + j]? = some v ∧ RD M w v d) ∧
      (es ≠ [] → ∃ ad : Addr, a = some ad ∧ ∀ j v, nv[j]? = some v → w.cell? (ad.add j) = some v) := by
  cases h with
  | sl a cap size es vals b o hc hm ha hs hv hr =>
    have hin : ∀ q, q < es.length * size → ∃ cs d, es[q / size]? = some cs ∧ cs[q % size]? = some d := by
      intro q hq
      have h1 : q / size < es.length := Nat.div_lt_of_lt_mul (by rw [Nat.mul_comm]; exact hq)
      have h2 : q % size < size := Nat.mod_lt _ hz
      have h3 : es[q / size].length = size := hs _ (List.getElem_mem h1)
      refine ⟨es[q / size], (es[q / size])[q % size]'(by omega), by simp [h1], by simp [h3, h2]⟩
    have hq : ∀ i cs j d, es[i]? = some cs → cs[j]? = some d → i * size + j < es.length * size ∧ (i * size + j) / size = i ∧ (i * size + j) % size = j := by
      intro i cs j d hi hj
      have h1 : i < es.length := (List.getElem?_eq_some_iff.1 hi).1
      have h2 : j < cs.length := (List.getElem?_eq_some_iff.1 hj).1
      have h3 : cs.length = size := hs cs (List.mem_of_getElem? hi)
      have h4 : (i + 1) * size ≤ es.length * size := Nat.mul_le_mul_right _ h1
      rw [Nat.add_mul] at h4
      refine ⟨by omega, ?_, ?_⟩
      · rw [Nat.mul_comm, Nat.mul_add_div hz, Nat.div_eq_of_lt (by omega)]; rfl
      · rw [Nat.mul_comm, Nat.mul_add_mod, Nat.mod_eq_of_lt (by omega)]
    refine ⟨a, cap, (List.range (es.length * size)).map fun q => vals (q / size) (q % size), rfl, hc, hm, hs, by simp, fun v hv' => ?_, fun i cs j d hi hj => ?_, fun hne => ⟨⟨b, o, none⟩, ha hne, fun j v hj => ?_⟩⟩
    · simp only [List.mem_map, List.mem_range] at hv'
      obtain ⟨q, hq, rfl⟩ := hv'
      obtain ⟨cs, d, h1, h2⟩ := hin q hq
      exact (hr _ _ _ _ h1 h2).one
    · obtain ⟨h1, h2, h3⟩ := hq i cs j d hi hj
      exact ⟨vals i j, by simp [h1, h2, h3], hr i cs j d hi hj⟩
    · simp only [List.getElem?_map, Option.map_eq_some_iff] at hj
      obtain ⟨q, hq, rfl⟩ := hj
      obtain ⟨hlt, hqq⟩ := List.getElem?_eq_some_iff.1 hq
      simp only [List.length_range] at hlt
      simp only [List.getElem_range] at hqq
      subst hqq
      obtain ⟨cs, d, h1, h2⟩ := hin j hlt
      rw [Addr.add_lit]
      have := (hv _ _ _ _ h1 h2).1
      rw [show j / size * size + j % size = j by rw [Nat.mul_comm]; exact Nat.div_add_mod j size] at this
      exact this

/-- the parts of a row behind an append -/
theorem row_parts {M : Nat → Nat → Prop} {w : World} {size : Nat} {es news es' : List (List DV)} {olds nv rest : List Value} (he : es ++ news = es')
    (hol : olds.length = es.length * size)
    (h1 : ∀ i cs j d, es[i]? = some cs → cs[j]? = some d → ∃ v, olds[i * size + j]? = some v ∧ RD M w v d)
    (h2 : ∀ i cs j d, news[i]? = some cs → cs[j]? = some d → ∃ v, nv[i * size + j]? = some v ∧ RD M w v d) :
    ∀ i cs j d, es'[i]? = some cs → cs[j]? = some d → ∃ v, (olds ++ nv ++ rest)[i * size + j]? = some v ∧ RD M w v d := by
  intro i cs j d hi hj
  subst he
  by_cases c : i < es.length
  · rw [List.getElem?_append_left c] at hi
    obtain ⟨v, h3, h4⟩ := h1 i cs j d hi hj
    exact ⟨v, by rw [List.append_assoc, List.getElem?_append_left (List.getElem?_eq_some_iff.1 h3).1]; exact h3, h4⟩
  · rw [List.getElem?_append_right (by omega)] at hi
    obtain ⟨v, h3, h4⟩ := h2 _ cs j d hi hj
    refine ⟨v, ?_, h4⟩
    have hle : es.length * size ≤ i * size := Nat.mul_le_mul_right _ (by omega)
    rw [List.append_assoc, List.getElem?_append_right (by omega), hol, show i * size + j - es.length * size = (i - es.length) * size + j by rw [Nat.sub_mul]; omega,
      List.getElem?_append_left (List.getElem?_eq_some_iff.1 h3).1]
    exact h3

theorem op_appendO {T E : TypeId} {zz : Value} {size bytes k : Nat} {es news es' : List (List DV)} {ex : Bool} (hT : P.underlying T = some (.slice E)) (hI : Info P E zz size bytes) (hzs : Nat.beq zz.cells.size size = true)
    (he : es ++ news = es') (hb1 : es'.length ≤ 1099511627776) (hb2 : es'.length * bytes ≤ 140737488355328)
    (hx : Ev x (.own k es) R1) (hy : Ev y (.g (.d (.sl size news))) R2) (hd : Nat.blt dst nt = true) :
    OpL C (Oo dst (cApp x y T) ty pos af gd) (R1 ++ R2) [(k, some (.row E size es ex))] [(dst, .one (.own k es'))] [(k, some (.row E size es' ex))] := by
  refine ⟨fun sl hp hs hh a w K Q ⟨β, r⟩ hK => ?_⟩
  have hzs := Nat.eq_of_beq_eq_true hzs
  obtain ⟨hz, hsz, hrow⟩ := r.hp k _ hh.1
  obtain ⟨_, _, _, _, heq, _, hu⟩ := hx.ok hs.app.1 r
  rw [hh.1] at heq
  cases heq
  have hu := hu rfl
  have hlen : es'.length = es.length + news.length := by rw [← he]; simp
  obtain ⟨a', c', nv, hxv, hcc, hcm, hnsz, hnl, hn1, hnr, hna⟩ := RD.flat hz (hy.ok hs.app.2 r)
  have hsz' : ∀ cs, cs ∈ es' → cs.length = size := by
    intro cs hcs
    rw [← he] at hcs
    rcases List.mem_append.1 hcs with h | h
    · exact hsz cs h
    · exact hnsz cs h
  unfold Oper.wp
  by_cases hm0 : news = []
  · -- nothing is appended
    subst hm0
    have hee : es' = es := by rw [← he]; simp
    subst hee
    have hrun : ∃ base n cap, a.eval x = .slice base n cap ∧ n ≤ cap := by
      rcases hu with ⟨_, _, ad, hu⟩ | ⟨b, cap, cur, _, hu, hle, _⟩
      · exact ⟨ad, 0, 0, hu, Nat.le_refl _⟩
      · exact ⟨_, _, cap, hu, hle⟩
    obtain ⟨base, n, cap, hbv, hle⟩ := hrun
    rw [run_app (v := a.eval x) (w' := w) (by rw [hbv, hxv]; exact run_append_zero hT hI hle)]
    have hg : ∀ k', hget ((k, some (HE.row E size es' ex)) :: hp) k' = hget hp k' := fun k' => by
      rw [hget_cons]; split
      · rename_i c; rw [← c, hh.1]
      · rfl
    refine hK _ _ ⟨β, ?_⟩
    exact (r.put (sv := .one (.own k es')) (Below.refl _ _) (by simpa using hd) (hx.ok hs.app.1 r)).ext (fun t sv h => h) hg
  · -- something is
    obtain ⟨ad, rfl, hcells⟩ := hna hm0
    have hnpos : 0 < news.length := List.length_pos_iff.2 hm0
    obtain ⟨i, hi1, hi2, hi3, hi4⟩ := hI
    subst hi3
    subst hi4
    -- what is common to the ways: the new world, and the block
    have fin : ∀ (w1 : World) (bb cap1 : Nat) (olds rest : List Value), 
        (Builtin.append_ #[T, T] ty #[a.eval x, a.eval y]).run P w = .ok (.slice (some ⟨bb, 0, none⟩) es'.length cap1) w1 →
        w1.os = w.os → w1.tape = w.tape → w1.output = w.output → w.heap.size ≤ w1.heap.size → (∀ i, i < w.heap.size → some i ≠ β k → w1.heap[i]? = w.heap[i]?) →
        (∀ b o x, β k = some b → w.cell? ⟨b, o, none⟩ = some x → ¬ (HE.row E i.size es ex).mutAt o → w1.cell? ⟨b, o, none⟩ = some x) →
        (some bb = β k ∨ (bb = w.heap.size ∧ w.heap.size < w1.heap.size)) →
        w1.heap[bb]? = some (.cells (olds ++ nv ++ rest).toArray E) → olds.length = es.length * i.size → (olds ++ nv ++ rest).length = cap1 * i.size → es'.length ≤ cap1 → cap1 ≤ maxLen →
        (∀ i' cs j d, es[i']? = some cs → cs[j]? = some d → ∃ v, olds[i' * i.size + j]? = some v ∧ RD (Mu C hp β) w v d) →
        Oper.upon P (Oo dst (cApp x y T) ty pos af gd) a K Q ((execOp a.eval (Oo dst (cApp x y T) ty pos af gd)).run P w) := by
      intro w1 bb cap1 olds rest hrun hos htape hout hsize hblock hcell hbo hheap hol hsz1 hle hcm1 hold
      rw [run_app hrun]
      have hparts := row_parts (rest := rest) he hol hold hnr
      have hch := r.chg (e := .row E i.size es' ex) (bo := some bb) hh.1 hos htape hout hsize hblock hcell
        (by
          rcases hbo with h | ⟨h, h'⟩
          · refine .inl ⟨h, fun o ho => ho.imp id fun h3 => ?_⟩
            have : es.length * i.size ≤ es'.length * i.size := Nat.mul_le_mul_right _ (by omega)
            omega
          · exact .inr ⟨bb, rfl, by omega, by omega⟩)
        ⟨rfl, fun h => by cases h⟩
        (fun es0 u h => by
          obtain ⟨_, _, _, _, h1, h2, _⟩ := h
          rw [hh.1] at h1
          cases h1
          exact ⟨E, i.size, es', ex, by rw [hget_cons, if_pos rfl], by omega, fun hq => by omega⟩)
        (fun _ hRD => ⟨hz, hsz', .inr ⟨bb, _, by simp [upd], hheap, by
            rw [List.size_toArray, hsz1]; exact Nat.mul_le_mul_right _ hle, fun i' cs j d hi' hj => by
            obtain ⟨v, h1, h2⟩ := hparts i' cs j d hi' hj
            exact ⟨v, by rw [List.getElem?_toArray]; exact h1, hRD _ _ h2⟩⟩⟩)
      refine hK _ _ ⟨_, hch.1.put (Below.refl _ _) (by simpa using hd) ?_⟩
      exact ⟨E, i.size, es', ex, by rw [hget_cons, if_pos rfl], Nat.le_refl _, fun _ => .inr ⟨bb, cap1, _, by simp [upd], rfl, hle, hcm1, hheap, by rw [List.size_toArray]; exact hsz1⟩⟩
    have hmax : es'.length ≤ maxLen := by unfold maxLen; omega
    have hzc : (i.zero.getD undef).cells.size = i.size := by rw [hi2]; exact hzs
    -- a new block
    have grow : ∀ (olds : List Value) (old : Nat), olds.length = es.length * i.size → 
        (Builtin.append_ #[T, T] ty #[a.eval x, a.eval y]).run P w = .ok (.slice (some ⟨w.heap.size, 0, none⟩) es'.length (grownCap w es'.length old E))
          (w.drew.alloc (.cells (olds.toArray ++ nv.toArray ++ Builtin.zeroCells zz.cells (grownCap w es'.length old E - es'.length)) E)) →
        (∀ i' cs j d, es[i']? = some cs → cs[j]? = some d → ∃ v, olds[i' * i.size + j]? = some v ∧ RD (Mu C hp β) w v d) →
        Oper.upon P (Oo dst (cApp x y T) ty pos af gd) a K Q ((execOp a.eval (Oo dst (cApp x y T) ty pos af gd)).run P w) := by
      intro olds old hol hrun hold
      have hge := grownCap_ge w es'.length old E
      have hcm1 : grownCap w es'.length old E ≤ maxLen := grownCap_le_maxLen w es'.length old E hmax
      have hbel : ∀ i', i' < w.heap.size → (w.drew.alloc (.cells (olds.toArray ++ nv.toArray ++ Builtin.zeroCells zz.cells (grownCap w es'.length old E - es'.length)) E)).heap[i']? = w.heap[i']? :=
        fun i' hi' => heap_alloc_old w.drew _ hi'
      refine fin _ w.heap.size _ olds (Builtin.zeroCells zz.cells (grownCap w es'.length old E - es'.length)).toList hrun rfl rfl rfl (by simp) (fun i' hi' _ => hbel i' hi') (fun b o x hb hx _ => ?_) (.inr ⟨rfl, by simp⟩) ?_ hol ?_ hge hcm1 hold
      · rw [World.cell?_of_block (w := w) (a := ⟨b, o, none⟩) (hbel b (cell_lt hx))]; exact hx
      · have := heap_alloc_new w.drew (.cells (olds.toArray ++ nv.toArray ++ Builtin.zeroCells zz.cells (grownCap w es'.length old E - es'.length)) E)
        rw [show w.drew.heap.size = w.heap.size from rfl] at this
        rw [this]
        congr 2
        simp
      · simp only [List.length_append, Array.length_toList, size_zeroCells, hzs, hol, hnl]
        rw [← Nat.add_mul, ← Nat.add_mul]
        congr 1
        omega
    rcases hu with ⟨hbn, hes, ado, hu⟩ | ⟨b, cap, cur, hb, hu, hle, hcm2, hheap, hcs⟩
    · subst hes
      simp only [List.nil_append] at he
      subst he
      have hbytes : Builtin.nextslicecap news.length 0 * i.bytes ≤ 281474976710656 := growslice_fits (by omega) hb2
      cases ado with
      | none =>
        have hr := run_append_nil (P := P) w T ty E i zz hT hi1 hi2 ad news.length c' nv hnl hcells hnpos (by unfold maxLen at hmax; omega) (by omega)
        refine grow [] 0 (by simp) ?_ (fun i' cs j d h => by simp at h)
        rw [hu, hxv, hr]
        simp
      | some ad0 =>
        have hr := run_append_grow (P := P) w T ty E i zz hT hi1 hi2 ad0 0 0 [] (by simp) (fun j v h => by simp at h) ad news.length c' nv hnl hcells (by omega) (by unfold maxLen at hmax; omega) (by simpa using hbytes)
        refine grow [] 0 (by simp) ?_ (fun i' cs j d h => by simp at h)
        rw [hu, hxv, hr]
        simp
    · have hcellsO : ∃ cur', w.heap[b]? = some (.cells cur' E) ∧ es.length * i.size ≤ cur'.size ∧ ∀ (i' : Nat) (cs : List DV) (j : Nat) (d : DV), es[i']? = some cs → cs[j]? = some d → ∃ u, cur'[i' * i.size + j]? = some u ∧ RD (Mu C hp β) w u d := by
        rcases hrow with ⟨h1, _⟩ | ⟨b', cur', h1, h2, h3, h4⟩
        · rw [hb] at h1; cases h1
        · rw [hb] at h1; cases h1
          exact ⟨cur', h2, h3, h4⟩
      obtain ⟨cur', hheap', hcle, hcell⟩ := hcellsO
      rw [hheap] at hheap'
      cases hheap'
      have hol : (cur.toList.take (es.length * i.size)).length = es.length * i.size := by
        have hL : cur.toList.length = cur.size := Array.length_toList
        rw [List.length_take, hL]; omega
      have hold : ∀ i' cs j d, es[i']? = some cs → cs[j]? = some d → ∃ v, (cur.toList.take (es.length * i.size))[i' * i.size + j]? = some v ∧ RD (Mu C hp β) w v d := by
        intro i' cs j d hi' hj
        obtain ⟨v, h1, h2⟩ := hcell i' cs j d hi' hj
        refine ⟨v, ?_, h2⟩
        have hi'' : i' < es.length := (List.getElem?_eq_some_iff.1 hi').1
        have hj'' : j < cs.length := (List.getElem?_eq_some_iff.1 hj).1
        have : cs.length = i.size := hsz cs (List.mem_of_getElem? hi')
        have h4 : (i' + 1) * i.size ≤ es.length * i.size := Nat.mul_le_mul_right _ hi''
        rw [Nat.add_mul] at h4
        rw [List.getElem?_take, if_pos (by omega)]
        simpa using h1
      by_cases hroom : es.length + news.length ≤ cap
      · have hfit : es.length * i.size + nv.length ≤ cur.size := by rw [hnl, hcs, ← Nat.add_mul]; exact Nat.mul_le_mul_right _ hroom
        have hr := run_append_room (P := P) w T ty E i hT hi1 b es.length cap cur hheap ad news.length c' nv hnl hcells hn1 hroom hfit
        refine fin (w.setRow b (cur.toList.take (es.length * i.size) ++ nv ++ cur.toList.drop (es.length * i.size + nv.length)).toArray) b cap (cur.toList.take (es.length * i.size)) (cur.toList.drop (es.length * i.size + nv.length)) (by rw [hu, hxv, hr, hlen]) rfl rfl rfl (by simp [World.setRow])
          (fun i' hi' hne => setRow_other w b i' _ (fun c => hne (by rw [c, hb]))) (fun b' o x hb' hx hnm => ?_) (.inl hb.symm) (setRow_heap w b cur _ E _ hheap) hol ?_ (by omega) hcm2 hold
        · rw [hb] at hb'
          cases hb'
          simp only [HE.mutAt, not_or, Nat.not_le] at hnm
          rw [cell_of_row _ _ _ _ E _ (setRow_heap w b cur _ E _ hheap)]
          rw [cell_of_row _ _ _ _ E _ hheap] at hx
          rw [List.getElem?_toArray, List.append_assoc, List.getElem?_append_left (by omega), List.getElem?_take, if_pos hnm.2]
          simpa using hx
        · have hL : cur.toList.length = cur.size := Array.length_toList
          simp only [List.length_append, List.length_take, List.length_drop, hL]
          omega
      · have holds : ∀ j v, (cur.toList.take (es.length * i.size))[j]? = some v → w.cell? ((⟨b, 0, none⟩ : Addr).add j) = some v := by
          intro j v hj
          rw [Addr.add_lit, Nat.zero_add, cell_of_row _ _ _ _ E _ hheap]
          rw [List.getElem?_take] at hj
          split at hj
          · simpa using hj
          · cases hj
        have hr := run_append_grow (P := P) w T ty E i zz hT hi1 hi2 ⟨b, 0, none⟩ es.length cap _ hol holds ad news.length c' nv hnl hcells (by omega) (by unfold maxLen at hmax; omega) (growslice_fits (by omega) (by rw [← hlen]; exact hb2))
        exact grow _ cap hol (by rw [hu, hxv, hr, ← hlen]) hold

end
end Go.Ab

/- The abstract machine: calls by contract; what a contract says. Conditions: none but those that stand in each law. -/
namespace Go.Ab
open Go Go.RowKit

/-- what a function is handed a pointer to: a block of plain data; a strings.Builder; one that is used up -/
inductive HS where
  | dat (T : Nat) (ds : List DV)
  | bld (T E : Nat) (s : ByteArray)
  | gone

inductive RG where
  | pt (h : HS)
  | g (a : AG)
  | ep (cs : List DV)
  | sem (Φ : List AG → Value → Prop)
  | row (T size : Nat) (es : List (List DV))
  | ro (Φ : (Nat → Nat → Prop) → World → Value → Prop)

inductive RS where
  | one (g : AG)
  | tup (l : List AG)
  | new (T size : Nat) (es : List (List DV))

/-- a row that belongs to nobody else: its block is one of K's -/
def RowR (M : Nat → Nat → Prop) (B : Nat → Prop) (w : World) (T size : Nat) (es : List (List DV)) (u : Value) : Prop :=
  0 < size ∧ (∀ cs, cs ∈ es → cs.length = size) ∧ ((es = [] ∧ ∃ a, u = .slice a 0 0) ∨
    ∃ b cap cur, B b ∧ b < w.heap.size ∧ u = .slice (some ⟨b, 0, none⟩) es.length cap ∧ es.length ≤ cap ∧ cap ≤ maxLen ∧ w.heap[b]? = some (.cells cur T (0, 0)) ∧ cur.size = cap * size ∧
      ∀ (i : Nat) (cs : List DV) (j : Nat) (d : DV), es[i]? = some cs → cs[j]? = some d → ∃ v, cur[i * size + j]? = some v ∧ RD (fun b' o => M b' o ∨ b' = b) w v d)

def ArgR (P : Program) (M : Nat → Nat → Prop) (K : Nat → Prop) (w : World) : RG → Value → Prop
  | .pt _, _ => False
  | .g a, u => GR (fun b o => M b o ∨ K b) w u a
  | .ep cs, u => ∃ b o, u = .pointer (some ⟨b, o, none⟩) ∧ ∀ (j : Nat) (d : DV), cs[j]? = some d → ∃ x, w.cell? ⟨b, o + j, none⟩ = some x ∧ ¬ (M b (o + j) ∨ K b) ∧ RD (fun b o => M b o ∨ K b) w x d
  | .sem Φ, u => SemFn P w K u Φ
  | .row T size es, u => RowR M K w T size es u
  | .ro Φ, u => Φ (fun b o => M b o ∨ K b) w u

def ResR (M : Nat → Nat → Prop) (K : Nat → Prop) (w w' : World) : RS → Value → Prop
  | .one g, v => GR M w' v g
  | .tup l, v => ∃ us : Array Value, v = .tuple us ∧ us.size = l.length ∧ ∀ (i : Nat) (g : AG), l[i]? = some g → ∃ x, us[i]? = some x ∧ GR M w' x g
  | .new T size es, v => RowR M (fun b => w.heap.size ≤ b ∨ K b) w' T size es v

/-- WHAT A FUNCTION DOES, as data: called with values that read so, it hands back a value that reads so, and turns nothing that was there (but a row that it was handed to keep) -/
structure Ct (P : Program) (f : Nat) (args : List RG) (res : RS) : Prop where
  go : ∀ (M : Nat → Nat → Prop) (K : Nat → Prop) (w : World) (vs : List Value), (∀ b o, M b o → b < w.heap.size ∧ ¬ K b) →
    (∀ b, K b → ∃ (i T size : Nat) (es : List (List DV)) (cap : Nat), args[i]? = some (.row T size es) ∧ vs[i]? = some (.slice (some ⟨b, 0, none⟩) es.length cap)) →
    vs.length = args.length → (∀ (i : Nat) (g : RG) (v : Value), args[i]? = some g → vs[i]? = some v → ArgR P M K w g v) →
    Calls P f vs.toArray w fun e w' => ∃ v, e = .returned v ∧ KeepW K w w' ∧ ResR M K w w' res v

theorem KeepW.toBelow {w w' : World} (h : KeepW (fun _ => False) w w') : Below w.heap.size w w' :=
  ⟨h.os, h.tape, h.output, h.size, fun k hk => h.block k hk id⟩

/-- data read outside more, reads outside less -/
theorem RD.less {M M' : Nat → Nat → Prop} {w : World} {u : Value} {d : DV} (h : ∀ b o, M' b o → M b o) (r : RD M w u d) : RD M' w u d := r.mono fun b o _ hn hx => ⟨hx, fun c => hn (h b o c)⟩
theorem GR.less {M M' : Nat → Nat → Prop} {w : World} {u : Value} {g : AG} (h : ∀ b o, M' b o → M b o) (r : GR M w u g) : GR M' w u g := r.mono fun b o _ hn hx => ⟨hx, fun c => hn (h b o c)⟩

/-- operands of a call, plain data -/
inductive EvL : List Operand → List RG → List (Nat × SV) → Prop
  | nil : EvL [] [] []
  | cons {x : Operand} {g : AG} {R Rs : List (Nat × SV)} {xs : List Operand} {gs : List RG} (h : Ev x (.g g) R) (t : EvL xs gs Rs) : EvL (x :: xs) (.g g :: gs) (R ++ Rs)

theorem EvL.ok {P : Program} {nt : Nat} {C : Cx P nt} {sl : SL} {hp : HL} {β : Nat → Option Nat} {a : Act} {w : World} {xs : List Operand} {gs : List RG} {R : List (Nat × SV)}
    (hx : EvL xs gs R) (hs : HasS sl R) (r : RelB C ⟨sl, hp⟩ β a w) : (xs.map a.eval).length = gs.length ∧ ∀ (i : Nat) (g : RG) (v : Value), gs[i]? = some g → (xs.map a.eval)[i]? = some v → ArgR P (Mu C hp β) (fun _ => False) w g v := by
  induction hx with
  | nil => exact ⟨rfl, fun i g v h => by simp at h⟩
  | cons h t ih =>
    obtain ⟨h1, h2⟩ := hs.app
    obtain ⟨h3, h4⟩ := ih h2
    refine ⟨by simpa using h3, fun i g v hg hv => ?_⟩
    cases i with
    | zero =>
      simp at hg hv
      subst hg hv
      exact GR.less (fun b o c => c.resolve_right id) (h.ok h1 r)
    | succ i => exact h4 i g v (by simpa using hg) (by simpa using hv)

abbrev cCall (f : Nat) (xs : List Operand) (tys : Array TypeId) : Op := .call { callee := .value (.func f), args := xs.toArray, argTypes := tys }
abbrev cCallT (t : Nat) (xs : List Operand) (tys : Array TypeId) : Op := .call { callee := .value (.tmp t), args := xs.toArray, argTypes := tys }

theorem run_call {P : Program} {a : Act} {f : Nat} {xs : List Operand} {tys : Array TypeId} {dst : Option Nat} {ty : TypeId} {pos : String} {af : Array Edge} {gd : Option (Nat × Bool)} {w : World} (hc : CallF P f) :
    (execOp a.eval ⟨dst, cCall f xs tys, ty, pos, af, gd⟩).run P w = .ok (.enter f (xs.map a.eval).toArray) w := by
  have := hc (xs.map a.eval).toArray w
  simp only [execOp, resolve, Act.eval, Deferred.ofValue, invoke, Sem.run_bind, Sem.run_pure, Result.andThen_ok, List.map_toArray]
  simpa using this

theorem run_callT {P : Program} {a : Act} {t f : Nat} {caps : Array Value} {xs : List Operand} {tys : Array TypeId} {dst : Option Nat} {ty : TypeId} {pos : String} {af : Array Edge} {gd : Option (Nat × Bool)} {w : World} (hc : CallF P f)
    (ht : a.eval (.tmp t) = .func (.func f) #[] caps) :
    (execOp a.eval ⟨dst, cCallT t xs tys, ty, pos, af, gd⟩).run P w = .ok (.enter f ((xs.map a.eval).toArray ++ caps)) w := by
  have := hc ((xs.map a.eval).toArray ++ caps) w
  simp only [execOp, resolve, ht, Deferred.ofValue, invoke, Sem.run_bind, Sem.run_pure, Result.andThen_ok, List.map_toArray]
  simpa using this

def RS.sv : RS → SV
  | .one g => .one (.g g)
  | .tup l => .tup (l.map .g)
  | .new _ _ _ => .dead

theorem RS.sv_ok {P : Program} {nt : Nat} {C : Cx P nt} {hp : HL} {β : Nat → Option Nat} {w w' : World} {K : Nat → Prop} {res : RS} {v : Value} (h : ResR (Mu C hp β) K w w' res v) : SR C hp β w' res.sv v := by
  cases res with
  | one g => exact h
  | tup l =>
    obtain ⟨us, h1, h2, h3⟩ := h
    refine ⟨us, h1, by simpa using h2, fun i b hb => ?_⟩
    simp only [List.getElem?_map, Option.map_eq_some_iff] at hb
    obtain ⟨g, hg, rfl⟩ := hb
    exact h3 i g hg
  | new T size es => trivial

section
variable {P : Program} {nt : Nat} {C : Cx P nt} {dst : Nat} {ty : TypeId} {pos : String} {af : Array Edge} {gd : Option (Nat × Bool)} {x y z : Operand} {R R1 R2 R3 : List (Nat × SV)}

/-- a call with plain data -/
theorem op_call {f : Nat} {xs : List Operand} {tys : Array TypeId} {args : List RG} {res : RS} {sv : SV} (hc : CallF P f) (hct : Ct P f args res) (hsv : res.sv = sv) (hx : EvL xs args R) (hd : Nat.blt dst nt = true) :
    OpL C (Oo dst (cCall f xs tys) ty pos af gd) R [] [(dst, sv)] [] := by
  refine ⟨fun sl hp hs hh a w K Q ⟨β, r⟩ hK => ?_⟩
  obtain ⟨h1, h2⟩ := hx.ok hs r
  have hcall := hct.go (Mu C hp β) (fun _ => False) w (xs.map a.eval) (fun b o h => ⟨r.mut_lt h, id⟩) (fun b h => h.elim) h1 h2
  unfold Oper.wp
  rw [run_call hc]
  refine hcall.mono ?_
  rintro e w' ⟨v, rfl, hk, hr⟩
  refine hK _ _ ⟨β, r.put hk.toBelow (by simpa using hd) ?_⟩
  rw [← hsv]
  exact RS.sv_ok hr

end
end Go.Ab

/- The abstract machine: calls that only read, function values, pieces of texts and slices. Conditions: none but those that stand in each law. -/
namespace Go.Ab
open Go Go.RowKit

/-- the blocks that a closure holds: plain data -/
inductive EvC : List Nat → List RG → List (Nat × Option HE) → Prop
  | nil : EvC [] [] []
  | cons {k T : Nat} {cs : List BV} {ds : List DV} {ks : List Nat} {gs : List RG} {Rh : List (Nat × Option HE)} (he : cs = dat ds) (t : EvC ks gs Rh) : EvC (k :: ks) (.ep ds :: gs) ((k, some (.blk T cs)) :: Rh)

theorem HasH.app {hp : HL} {l r : List (Nat × Option HE)} (h : HasH hp (l ++ r)) : HasH hp l ∧ HasH hp r := by
  induction l with
  | nil => exact ⟨trivial, h⟩
  | cons x l ih =>
    obtain ⟨t, s⟩ := x
    obtain ⟨h1, h2⟩ := h
    obtain ⟨h3, h4⟩ := ih h2
    exact ⟨⟨h1, h3⟩, h4⟩

theorem EvC.get {hp : HL} {ks : List Nat} {gs : List RG} {Rh : List (Nat × Option HE)} (h : EvC ks gs Rh) (hh : HasH hp Rh) :
    gs.length = ks.length ∧ ∀ (i k : Nat), ks[i]? = some k → ∃ T ds, gs[i]? = some (.ep ds) ∧ hget hp k = some (.blk T (dat ds)) := by
  induction h with
  | nil => exact ⟨rfl, fun i k h => by simp at h⟩
  | cons he t ih =>
    obtain ⟨h1, h2⟩ := hh
    obtain ⟨h3, h4⟩ := ih h2
    refine ⟨by simp [h3], fun i k hi => ?_⟩
    cases i with
    | zero => simp at hi; subst hi; subst he; exact ⟨_, _, rfl, h1⟩
    | succ i => exact h4 i k (by simpa using hi)

/-- a pointer to a block of the call's own, lent for reading: in this world, and in each later one in which the block still stands -/
theorem blk_ep {P : Program} {nt : Nat} {C : Cx P nt} {sl : SL} {hp : HL} {β : Nat → Option Nat} {a : Act} {w w' : World} (r : RelB C ⟨sl, hp⟩ β a w) {k b off T : Nat} {cs : List BV} {ds : List DV} (hk : hget hp k = some (.blk T cs)) (hb : β k = some b) (he : cs.drop off = dat ds)
    {K : Nat → Prop} (hw : KeepW K w w') (hK : ∀ b, K b → ∃ k T size es ex, hget hp k = some (.row T size es ex) ∧ β k = some b) (hK2 : ∀ b, K b → ∀ o, Mu C hp β b o) :
    ArgR P (fun _ _ => False) (fun _ => False) w' (.ep ds) (.pointer (some ⟨b, off, none⟩)) := by
  have hnb : ¬ K b := fun c => by
    obtain ⟨k', T', size, es, ex, h1, h2⟩ := hK b c
    have := r.inj k' k _ _ b h1 hk h2 hb
    subst this
    rw [hk] at h1; cases h1
  obtain ⟨b', arr, h1, h2, h3, h4⟩ := r.hp k _ hk
  rw [hb] at h1; cases h1
  refine ⟨b, off, rfl, fun j d hj => ?_⟩
  have hcj : cs[off + j]? = some (.g (.d d)) := by rw [← List.getElem?_drop, he]; simp [dat, hj]
  obtain ⟨u, h5, h6, h7⟩ := h4 _ _ hcj
  have hlt : b < w.heap.size := (Array.getElem?_eq_some_iff.1 h2).1
  refine ⟨u, ?_, fun c => c.elim id id, RD.mono (M := Mu C hp β) (w := w) (fun b' o x hn hx => ⟨?_, fun c => c.elim id id⟩) h7⟩
  · rw [cell_of_row w' b (off + j) arr T (0, 0) (by rw [hw.block b hlt hnb]; exact h2)]
    exact h5
  · rw [World.cell?_of_block (w := w) (a := ⟨b', o, none⟩) (hw.block b' (cell_lt hx) (fun c => hn (hK2 b' c o)))]
    exact hx

theorem clo_sem {P : Program} {nt : Nat} {C : Cx P nt} {sl : SL} {hp : HL} {β : Nat → Option Nat} {a : Act} {w : World} (r : RelB C ⟨sl, hp⟩ β a w) {f : Nat} {ks : List Nat} {gs : List RG} {Rh : List (Nat × Option HE)} {u : Value} {Φ : List AG → Value → Prop}
    (hu : BR C hp β w (.clo f ks) u) (hc : EvC ks gs Rh) (hh : HasH hp Rh) {K : Nat → Prop} (hK : ∀ b, K b → ∃ k T size es ex, hget hp k = some (.row T size es ex) ∧ β k = some b) (hK2 : ∀ b, K b → ∀ o, Mu C hp β b o)
    (hcf : CallF P f) (hΦ : ∀ args v, Φ args v → Ct P f (args.map .g ++ gs) (.one (.d (.v v)))) : SemFn P w K u Φ := by
  obtain ⟨us, hu, hl, hcap⟩ := hu
  obtain ⟨hgl, hget⟩ := hc.get hh
  refine ⟨f, us.toArray, hu, hcf, fun w' hw' M vs args v hvl hvs hp => ?_⟩
  have h := (hΦ args v hp).go (fun _ _ => False) (fun _ => False) w' (vs ++ us) (fun _ _ h => h.elim) (fun _ h => h.elim) (by simp [hvl, hl, hgl]) (fun i g x hg hx => ?_)
  · rw [List.append_toArray]
    refine h.mono ?_
    rintro e w'' ⟨x, rfl, hk, hr⟩
    exact ⟨congrArg _ (RD.v_inv hr), hk.toBelow⟩
  · by_cases c : i < vs.length
    · rw [List.getElem?_append_left c] at hx
      rw [List.getElem?_append_left (by simp; omega)] at hg
      simp only [List.getElem?_map, Option.map_eq_some_iff] at hg
      obtain ⟨g', hg', rfl⟩ := hg
      exact GR.less (fun _ _ c => c.elim False.elim False.elim) (hvs i x g' hx hg')
    · rw [List.getElem?_append_right (by omega)] at hx
      rw [List.getElem?_append_right (by simp; omega)] at hg
      simp only [List.length_map, ← hvl] at hg
      have hlt : i - vs.length < ks.length := by rw [← hl]; exact (List.getElem?_eq_some_iff.1 hx).1
      obtain ⟨T, ds, h1, h2⟩ := hget (i - vs.length) ks[i - vs.length] (by simp [hlt])
      obtain ⟨_, b, hb, hx'⟩ := hcap (i - vs.length) ks[i - vs.length] (by simp [hlt])
      rw [hg] at h1
      cases h1
      rw [hx] at hx'
      cases hx'
      exact blk_ep r h2 hb (by simp) hw' hK hK2

/-- operands of a call that hands back plain numbers, truth values and texts: what is the call's own may be lent -/
inductive EvQ (P : Program) : Operand → RG → List (Nat × SV) → List (Nat × Option HE) → Prop
  | g {x : Operand} {g : AG} {R : List (Nat × SV)} (h : Ev x (.g g) R) : EvQ P x (.g g) R []
  | ep {x : Operand} {cs : List DV} {R : List (Nat × SV)} (h : Ev x (.ep cs) R) : EvQ P x (.ep cs) R []
  | ptr {x : Operand} {k off T : Nat} {cs : List BV} {ds : List DV} {R : List (Nat × SV)} (h : Ev x (.ptr k off) R) (he : cs.drop off = dat ds) : EvQ P x (.ep ds) R [(k, some (.blk T cs))]
  | own {x : Operand} {k T size : Nat} {es : List (List DV)} {ex : Bool} {R : List (Nat × SV)} (h : Ev x (.own k es) R) : EvQ P x (.g (.d (.sl size es))) R [(k, some (.row T size es ex))]
  | cp {x : Operand} {size : Nat} {es : List (List DV)} {R : List (Nat × SV)} (h : Ev x (.cp size es) R) : EvQ P x (.g (.d (.sl size es))) R []
  | sem {x : Operand} {Φ : List AG → Value → Prop} {R : List (Nat × SV)} (h : Ev x (.sem Φ) R) : EvQ P x (.sem Φ) R []
  | clo {x : Operand} {f : Nat} {ks : List Nat} {gs : List RG} {Φ : List AG → Value → Prop} {R : List (Nat × SV)} {Rh : List (Nat × Option HE)} (h : Ev x (.clo f ks) R) (hc : EvC ks gs Rh) (hcf : CallF P f)
      (hΦ : ∀ args v, Φ args v → Ct P f (args.map .g ++ gs) (.one (.d (.v v)))) : EvQ P x (.sem Φ) R Rh

theorem SemFn.later {P : Program} {w w' : World} {K : Nat → Prop} {u : Value} {Φ : List AG → Value → Prop} (h : SemFn P w K u Φ) (hw : KeepW K w w') : SemFn P w' (fun _ => False) u Φ := by
  obtain ⟨f, caps, hu, hcf, hf⟩ := h
  exact ⟨f, caps, hu, hcf, fun w'' hb' => hf w'' ⟨hb'.os.trans hw.os, hb'.tape.trans hw.tape, hb'.output.trans hw.output, Nat.le_trans hw.size hb'.size, fun k hk hK => (hb'.block k (Nat.lt_of_lt_of_le hk hw.size) id).trans (hw.block k hk hK)⟩⟩

/-- a row that the call owns, read as a slice -/
theorem own_data {P : Program} {nt : Nat} {C : Cx P nt} {sl : SL} {hp : HL} {β : Nat → Option Nat} {a : Act} {w : World} (r : RelB C ⟨sl, hp⟩ β a w) {k T size : Nat} {es : List (List DV)} {ex : Bool} {u : Value} (hk : hget hp k = some (.row T size es ex)) (hu : BR C hp β w (.own k es) u)
    {M : Nat → Nat → Prop} (hM : ∀ b o, M b o → Mu C hp β b o) (hM2 : ∀ b o, β k = some b → o < es.length * size → ¬ M b o) : RD M w u (.sl size es) := by
  obtain ⟨_, _, _, _, h1, _, h2⟩ := hu
  rw [hk] at h1
  cases h1
  rcases h2 rfl with ⟨_, rfl, ad, rfl⟩ | ⟨b, cap, cur, hb, rfl, hle, hcm, hheap, hcs⟩
  · exact RD.nil ad 0 size (Nat.zero_le _)
  · obtain ⟨hz, hs, hr⟩ := r.hp k _ hk
    rcases hr with ⟨h1, _⟩ | ⟨b', cur', h1, h3, h4, h5⟩
    · rw [hb] at h1; cases h1
    · rw [hb] at h1; cases h1
      rw [hheap] at h3; cases h3
      refine RD.sl _ cap size es (fun i j => cur.getD (i * size + j) undef) b 0 hle hcm (fun _ => rfl) hs (fun i cs j d hi hj => ?_) (fun i cs j d hi hj => ?_)
      · obtain ⟨v, h6, _⟩ := h5 i cs j d hi hj
        have hi' : i < es.length := (List.getElem?_eq_some_iff.1 hi).1
        have hj' : j < cs.length := (List.getElem?_eq_some_iff.1 hj).1
        have hl : cs.length = size := hs cs (List.mem_of_getElem? hi)
        have h7 : (i + 1) * size ≤ es.length * size := Nat.mul_le_mul_right _ hi'
        rw [Nat.add_mul] at h7
        refine ⟨?_, hM2 b _ hb (by omega)⟩
        rw [cell_of_row _ _ _ _ T _ hheap, Nat.zero_add]
        simp [h6]
      · obtain ⟨v, h6, h7⟩ := h5 i cs j d hi hj
        have e : cur.getD (i * size + j) undef = v := by simp [h6]
        show RD M w (cur.getD (i * size + j) undef) d
        rw [e]
        exact h7.less hM

theorem EvQ.ok {P : Program} {nt : Nat} {C : Cx P nt} {sl : SL} {hp : HL} {β : Nat → Option Nat} {a : Act} {w : World} {x : Operand} {g : RG} {R : List (Nat × SV)} {Rh : List (Nat × Option HE)}
    (hx : EvQ P x g R Rh) (hs : HasS sl R) (hh : HasH hp Rh) (r : RelB C ⟨sl, hp⟩ β a w) : ArgR P (fun _ _ => False) (fun _ => False) w g (a.eval x) := by
  have hrefl : KeepW (fun _ => False) w w := ⟨rfl, rfl, rfl, Nat.le_refl _, fun _ _ _ => rfl⟩
  cases hx with
  | g h => exact GR.less (fun _ _ c => c.elim False.elim False.elim) (h.ok hs r)
  | ep h =>
    obtain ⟨b, o, hu, hc⟩ := h.ok hs r
    exact ⟨b, o, hu, fun j d hj => let ⟨x, h1, _, h3⟩ := hc j d hj; ⟨x, h1, fun c => c.elim id id, h3.less (fun _ _ c => c.elim False.elim False.elim)⟩⟩
  | ptr h he =>
    obtain ⟨_, b, hb, hu⟩ := h.ok hs r
    rw [hu]
    exact blk_ep r hh.1 hb he hrefl (fun _ c => c.elim) (fun _ c => c.elim)
  | own h => exact own_data r hh.1 (h.ok hs r) (fun _ _ c => c.elim False.elim False.elim) (fun _ _ _ _ c => c.elim id id)
  | cp h => exact (h.ok hs r).1.less (fun _ _ c => c.elim False.elim False.elim)
  | sem h => exact (show SemFn P C.w0 C.K _ _ from h.ok hs r).later r.keep
  | clo h hc hcf hΦ => exact clo_sem r (h.ok hs r) hc hh (fun _ c => c.elim) (fun _ c => c.elim) hcf hΦ

inductive EvQL (P : Program) : List Operand → List RG → List (Nat × SV) → List (Nat × Option HE) → Prop
  | nil : EvQL P [] [] [] []
  | cons {x : Operand} {g : RG} {R Rs : List (Nat × SV)} {Rh Rhs : List (Nat × Option HE)} {xs : List Operand} {gs : List RG} (h : EvQ P x g R Rh) (t : EvQL P xs gs Rs Rhs) : EvQL P (x :: xs) (g :: gs) (R ++ Rs) (Rh ++ Rhs)

theorem EvQL.ok {P : Program} {nt : Nat} {C : Cx P nt} {sl : SL} {hp : HL} {β : Nat → Option Nat} {a : Act} {w : World} {xs : List Operand} {gs : List RG} {R : List (Nat × SV)} {Rh : List (Nat × Option HE)}
    (hx : EvQL P xs gs R Rh) (hs : HasS sl R) (hh : HasH hp Rh) (r : RelB C ⟨sl, hp⟩ β a w) :
    (xs.map a.eval).length = gs.length ∧ ∀ (i : Nat) (g : RG) (v : Value), gs[i]? = some g → (xs.map a.eval)[i]? = some v → ArgR P (fun _ _ => False) (fun _ => False) w g v := by
  induction hx with
  | nil => exact ⟨rfl, fun i g v h => by simp at h⟩
  | cons h t ih =>
    obtain ⟨h1, h2⟩ := hs.app
    obtain ⟨h1', h2'⟩ := hh.app
    obtain ⟨h3, h4⟩ := ih h2 h2'
    refine ⟨by simpa using h3, fun i g v hg hv => ?_⟩
    cases i with
    | zero =>
      simp at hg hv
      subst hg hv
      exact h.ok h1 h1' r
    | succ i => exact h4 i g v (by simpa using hg) (by simpa using hv)

def DV.sc : DV → Bool
  | .v _ => true
  | .sl _ _ => false
def AG.sc : AG → Bool
  | .d x => x.sc
  | .agg cs => cs.all DV.sc
def RS.sc : RS → Bool
  | .one g => g.sc
  | .tup l => l.all AG.sc
  | .new _ _ _ => false

theorem DV.sc_ok {M M' : Nat → Nat → Prop} {w : World} {u : Value} {d : DV} (h : d.sc = true) (r : RD M w u d) : RD M' w u d := by
  cases r with
  | v _ hx => exact RD.v _ hx
  | sl => cases h
theorem AG.sc_ok {M M' : Nat → Nat → Prop} {w : World} {u : Value} {g : AG} (h : g.sc = true) (r : GR M w u g) : GR M' w u g := by
  cases g with
  | d d => exact DV.sc_ok h r
  | agg cs =>
    obtain ⟨us, h1, h2, h3⟩ := r
    refine ⟨us, h1, h2, fun j d hd => let ⟨x, hx, hr⟩ := h3 j d hd; ⟨x, hx, DV.sc_ok ?_ hr⟩⟩
    exact List.all_eq_true.1 h d (List.mem_of_getElem? hd)
theorem RS.sc_ok {M M' : Nat → Nat → Prop} {K : Nat → Prop} {w w' : World} {v : Value} {res : RS} (h : res.sc = true) (r : ResR M K w w' res v) : ResR M' K w w' res v := by
  cases res with
  | one g => exact AG.sc_ok h r
  | tup l =>
    obtain ⟨us, h1, h2, h3⟩ := r
    exact ⟨us, h1, h2, fun i g hg => let ⟨x, hx, hr⟩ := h3 i g hg; ⟨x, hx, AG.sc_ok (List.all_eq_true.1 h g (List.mem_of_getElem? hg)) hr⟩⟩
  | new T size es => cases h

section
variable {P : Program} {nt : Nat} {C : Cx P nt} {dst : Nat} {ty : TypeId} {pos : String} {af : Array Edge} {gd : Option (Nat × Bool)} {x y z : Operand} {R R1 R2 R3 : List (Nat × SV)} {Rh : List (Nat × Option HE)}

/-- a call that only reads -/
theorem op_callQ {f : Nat} {xs : List Operand} {tys : Array TypeId} {args : List RG} {res : RS} {sv : SV} (hc : CallF P f) (hct : Ct P f args res) (hsc : res.sc = true) (hsv : res.sv = sv) (hx : EvQL P xs args R Rh) (hd : Nat.blt dst nt = true) :
    OpL C (Oo dst (cCall f xs tys) ty pos af gd) R Rh [(dst, sv)] [] := by
  refine ⟨fun sl hp hs hh a w K Q ⟨β, r⟩ hK => ?_⟩
  obtain ⟨h1, h2⟩ := hx.ok hs hh r
  have hcall := hct.go (fun _ _ => False) (fun _ => False) w (xs.map a.eval) (fun b o h => h.elim) (fun b h => h.elim) h1 h2
  unfold Oper.wp
  rw [run_call hc]
  refine hcall.mono ?_
  rintro e w' ⟨v, rfl, hk, hr⟩
  refine hK _ _ ⟨β, r.put hk.toBelow (by simpa using hd) ?_⟩
  rw [← hsv]
  exact RS.sv_ok (RS.sc_ok hsc hr)

/-- a call of a function value that came in -/
theorem op_callSem {t : Nat} {xs : List Operand} {tys : Array TypeId} {args : List AG} {v : Value} {Φ : List AG → Value → Prop} (hΦ : Φ args v) (hv : v.oneCell' = true) (hx : EvL xs (args.map .g) R) (hd : Nat.blt dst nt = true) :
    OpL C (Oo dst (cCallT t xs tys) ty pos af gd) ((t, .one (.sem Φ)) :: R) [] [(dst, .one (dv v))] [] := by
  refine ⟨fun sl hp hs hh a w K Q ⟨β, r⟩ hK => ?_⟩
  obtain ⟨h1, h2⟩ := hx.ok hs.2 r
  obtain ⟨f, caps, hu, hcf, hf⟩ := (show SemFn P C.w0 C.K _ _ from (Ev.t t _).ok (R := [(t, .one (.sem Φ))]) ⟨hs.1, trivial⟩ r)
  have hcall := hf w r.keep (Mu C hp β) (xs.map a.eval) args v (by simpa using h1) (fun i u g hu hg => GR.less (fun b o c => .inl c) (h2 i (.g g) u (by simp [hg]) hu)) hΦ
  unfold Oper.wp
  rw [run_callT hcf hu]
  refine hcall.mono ?_
  rintro e w' ⟨rfl, hb⟩
  exact hK _ _ ⟨β, r.put (sv := .one (dv v)) hb (by simpa using hd) (RD.v v hv)⟩

/-- a call of a function value of the call's own -/
theorem op_callClo {t f : Nat} {ks : List Nat} {gs args : List RG} {xs : List Operand} {tys : Array TypeId} {res : RS} {sv : SV} {Rh' : List (Nat × Option HE)} (hc : CallF P f) (hct : Ct P f (args ++ gs) res) (hsc : res.sc = true) (hsv : res.sv = sv)
    (hcl : EvC ks gs Rh') (hx : EvQL P xs args R Rh) (hd : Nat.blt dst nt = true) :
    OpL C (Oo dst (cCallT t xs tys) ty pos af gd) ((t, .one (.clo f ks)) :: R) (Rh' ++ Rh) [(dst, sv)] [] := by
  refine ⟨fun sl hp hs hh a w K Q ⟨β, r⟩ hK => ?_⟩
  obtain ⟨h1, h2⟩ := hx.ok hs.2 hh.app.2 r
  obtain ⟨us, hu, hl, hcap⟩ := (Ev.t t _).ok (R := [(t, .one (.clo f ks))]) ⟨hs.1, trivial⟩ r
  obtain ⟨hgl, hget⟩ := hcl.get hh.app.1
  have hcall := hct.go (fun _ _ => False) (fun _ => False) w (xs.map a.eval ++ us) (fun b o h => h.elim) (fun b h => h.elim) (by simp only [List.length_append, h1, hl, hgl]) (fun i g v hg hv => ?_)
  · unfold Oper.wp
    rw [run_callT hc hu, List.append_toArray]
    refine hcall.mono ?_
    rintro e w' ⟨v, rfl, hk, hr⟩
    refine hK _ _ ⟨β, r.put hk.toBelow (by simpa using hd) ?_⟩
    rw [← hsv]
    exact RS.sv_ok (RS.sc_ok hsc hr)
  · by_cases c : i < args.length
    · rw [List.getElem?_append_left c] at hg
      rw [List.getElem?_append_left (by rw [h1]; exact c)] at hv
      exact h2 i g v hg hv
    · rw [List.getElem?_append_right (by omega)] at hg
      rw [List.getElem?_append_right (by rw [h1]; omega), h1] at hv
      have hlt : i - args.length < ks.length := by rw [← hgl]; exact (List.getElem?_eq_some_iff.1 hg).1
      obtain ⟨T, ds, h5, h6⟩ := hget (i - args.length) ks[i - args.length] (by simp [hlt])
      obtain ⟨_, b, hb, hx'⟩ := hcap (i - args.length) ks[i - args.length] (by simp [hlt])
      rw [hg] at h5
      cases h5
      rw [hv] at hx'
      cases hx'
      exact blk_ep r h6 hb (by simp) ⟨rfl, rfl, rfl, Nat.le_refl _, fun _ _ _ => rfl⟩ (K := fun _ => False) (fun _ c => c.elim) (fun _ c => c.elim)
end
end Go.Ab

/- The abstract machine: control, what a function hands back, contracts out of walks. Conditions: none but those that stand in each law. -/
namespace Go.Ab
open Go Go.RowKit

inductive KI where
  | s
  | c (x : Code)
  | b (id : Nat)
  | l (ops : Array Oper) (rest : List Oper)
  | q (K : Act → World → Prop)

def runK (P : Program) (it : KI) (Q : Exit → Act → World → Prop) (a : Act) (w : World) : Prop :=
  match it with
  | .s => Q .normal a w
  | .c x => x.wp P Q a w
  | .b _ => Q .normal a w
  | .l ops rest => wpList P ops Q rest a w
  | .q K => K a w

def Qof (P : Program) (Q0 : Exit → Act → World → Prop) : List KI → Exit → Act → World → Prop
  | [] => Q0
  | .b id :: k => Exit.inBlock id (Qof P Q0 k)
  | .s :: k => Exit.noGoto (Qof P Q0 k)
  | it :: k => Exit.then (runK P it (Qof P Q0 k)) (Qof P Q0 k)

/-- from the state st on, what stands on the stack leads to Q0 -/
structure G {P : Program} {nt : Nat} (C : Cx P nt) (Q0 : Exit → Act → World → Prop) (k : List KI) (st : St) : Prop where
  go : ∀ a w, Rel C st a w → Qof P Q0 k .normal a w
structure GX {P : Program} {nt : Nat} (C : Cx P nt) (Q0 : Exit → Act → World → Prop) (id : Nat) (k : List KI) (st : St) : Prop where
  go : ∀ a w, Rel C st a w → Qof P Q0 k (.exit id) a w

theorem Qof_ret {P : Program} {Q0 : Exit → Act → World → Prop} {a : Act} {w : World} : ∀ {k : List KI}, Q0 .ret a w → Qof P Q0 k .ret a w
  | [], h => h
  | .b _ :: k, h => Qof_ret (k := k) h
  | .s :: k, h => Qof_ret (k := k) h
  | .c _ :: k, h => Qof_ret (k := k) h
  | .l _ _ :: k, h => Qof_ret (k := k) h
  | .q _ :: k, h => Qof_ret (k := k) h

section
variable {P : Program} {nt : Nat} {C : Cx P nt} {Q0 : Exit → Act → World → Prop} {k : List KI} {st st' : St}

theorem G.seq {x y : Code} (h : G C Q0 (.c x :: .c y :: k) st) : G C Q0 (.c (.seq x y) :: k) st := ⟨fun a w r => wp_seq (h.go a w r)⟩
theorem G.block {id : Nat} {x : Code} (h : G C Q0 (.c x :: .b id :: k) st) : G C Q0 (.c (.block id x) :: k) st := ⟨fun a w r => wp_block (h.go a w r)⟩
theorem G.endBlock {id : Nat} (h : G C Q0 k st) : G C Q0 (.b id :: k) st := ⟨fun a w r => h.go a w r⟩
theorem G.scope {x : Code} (h : G C Q0 (.c x :: .s :: k) st) : G C Q0 (.c (.scope x) :: k) st := ⟨fun a w r => wp_scope_straight (h.go a w r)⟩
theorem G.skip (h : G C Q0 k st) : G C Q0 (.c .skip :: k) st := ⟨fun a w r => wp_skip (h.go a w r)⟩
theorem G.label {l : Nat} (h : G C Q0 k st) : G C Q0 (.c (.label l) :: k) st := ⟨fun a w r => wp_label (h.go a w r)⟩
theorem G.exit {id : Nat} (h : GX C Q0 id k st) : G C Q0 (.c (.exit id) :: k) st := ⟨fun a w r => wp_exit (h.go a w r)⟩
theorem GX.c {id : Nat} {x : Code} (h : GX C Q0 id k st) : GX C Q0 id (.c x :: k) st := ⟨fun a w r => h.go a w r⟩
theorem GX.s {id : Nat} (h : GX C Q0 id k st) : GX C Q0 id (.s :: k) st := ⟨fun a w r => h.go a w r⟩
theorem GX.q {id : Nat} {K : Act → World → Prop} (h : GX C Q0 id k st) : GX C Q0 id (.q K :: k) st := ⟨fun a w r => h.go a w r⟩
theorem GX.bNo {id id' : Nat} (hn : Nat.beq id id' = false) (h : GX C Q0 id k st) : GX C Q0 id (.b id' :: k) st := ⟨fun a w r => by
  have hne : ¬ (id = id') := fun c => by subst c; simp at hn
  show Exit.inBlock id' (Qof P Q0 k) (.exit id) a w
  simp only [Exit.inBlock, hne, if_false]
  exact h.go a w r⟩
theorem GX.bYes {id : Nat} (h : G C Q0 k st) : GX C Q0 id (.b id :: k) st := ⟨fun a w r => by
  show Exit.inBlock id (Qof P Q0 k) (.exit id) a w
  simp only [Exit.inBlock, if_true]
  exact h.go a w r⟩

theorem G.cond {t : Nat} {b : Bool} {x y : Code} (hs : sget st.sl t = some (.one (bB b))) (h1 : b = true → G C Q0 (.c x :: k) st) (h2 : b = false → G C Q0 (.c y :: k) st) : G C Q0 (.c (.cond (.tmp t) x y) :: k) st := ⟨fun a w r => by
  obtain ⟨β, r⟩ := r
  have hv : a.eval (.tmp t) = .bool b := RD.v_inv (r.sl t _ hs)
  exact wp_cond_split hv (fun h => (h1 h).go a w ⟨β, r⟩) (fun h => (h2 h).go a w ⟨β, r⟩)⟩

theorem G.condT {t : Nat} {x y : Code} (hs : sget st.sl t = some (.one (bB true))) (h1 : G C Q0 (.c x :: k) st) : G C Q0 (.c (.cond (.tmp t) x y) :: k) st := G.cond hs (fun _ => h1) (fun h => by cases h)
theorem G.condF {t : Nat} {x y : Code} (hs : sget st.sl t = some (.one (bB false))) (h1 : G C Q0 (.c y :: k) st) : G C Q0 (.c (.cond (.tmp t) x y) :: k) st := G.cond hs (fun h => by cases h) (fun _ => h1)

theorem wp_loop_fuel {P : Program} {c : Code} {Q : Exit → Act → World → Prop} {a : Act} {w : World} (I : Nat → Act → World → Prop) (n : Nat) (h0 : I n a w)
    (round : ∀ n a w, I n a w → c.wp P (Exit.then (fun a' w' => ∃ m, m < n ∧ I m a' w') Q) a w) : (Code.loop c).wp P Q a w := by
  intro b k cs
  have key : ∀ n a w, I n a w → ∃ e a' w', Q e a' w' ∧ Arrives P (lone (b.at a (.code c :: .inLoop c :: k)) cs w) b k cs e a' w' := by
    intro n
    induction n using Nat.strongRecOn with
    | _ n ih =>
      intro a w hI
      have hr := round n a w hI b (.inLoop c :: k) cs
      obtain ⟨e, a₁, w₁, hq, harr⟩ := hr
      have out : ∀ e', e = e' → e' ≠ .normal → ∃ e a' w', Q e a' w' ∧ Arrives P (lone (b.at a (.code c :: .inLoop c :: k)) cs w) b k cs e a' w' := by
        intro e' he hn
        subst he
        refine ⟨e, a₁, w₁, ?_, Arrives.pass (x := .inLoop c) rfl (fun _ _ => .inl hn) harr⟩
        cases e <;> first | exact hq | exact absurd rfl hn
      cases e with
      | normal =>
        obtain ⟨m, hm, hIm⟩ := hq
        obtain ⟨e₂, a₂, w₂, hq₂, harr₂⟩ := ih m hm a₁ w₁ hIm
        exact ⟨e₂, a₂, w₂, hq₂, .of_steps (Steps.trans harr (.one step_inLoop)) harr₂⟩
      | _ => exact out _ rfl (by simp)
  obtain ⟨e, a', w', hq, harr⟩ := key n a w h0
  exact ⟨e, a', w', hq, .of_steps (.one step_loop) harr⟩

/-- a loop: by how many rounds it may still take -/
theorem G.loop {x : Code} (I : Nat → St → Prop) (n : Nat) (h0 : I n st)
    (round : ∀ n st, I n st → G C Q0 (.c x :: .q (fun a w => ∃ m, m < n ∧ ∃ st', I m st' ∧ Rel C st' a w) :: k) st) : G C Q0 (.c (.loop x) :: k) st := ⟨fun _a _w r =>
  wp_loop_fuel (fun n a w => ∃ st', I n st' ∧ Rel C st' a w) n ⟨st, h0, r⟩ fun n a w ⟨st', hI, r'⟩ => (round n st' hI).go a w r'⟩

theorem G.again {I : Nat → St → Prop} {n m : Nat} (hm : m < n) (hI : I m st) : G C Q0 (.q (fun a w => ∃ m, m < n ∧ ∃ st', I m st' ∧ Rel C st' a w) :: k) st := ⟨fun _ _ r => ⟨m, hm, st, hI, r⟩⟩

theorem G.region {id : Nat} {l : List Oper} (h : G C Q0 (.l l.toArray l :: k) st) : G C Q0 (.c (.region id l.toArray false) :: k) st := ⟨fun a w r => wp_region_lit (h.go a w r)⟩
theorem G.endOps {ops : Array Oper} (h : G C Q0 k st) : G C Q0 (.l ops [] :: k) st := ⟨fun a w r => wpList_nil (P := P) (ops := ops) (Q := Qof P Q0 k) (h.go a w r)⟩

theorem G.op {ops : Array Oper} {rest : List Oper} {o : Oper} {sl sl' : SL} {hp hp' : HL} {Rs Ws : List (Nat × SV)} {Rh Wh : List (Nat × Option HE)}
    (h : OpL C o Rs Rh Ws Wh) (hg : o.guard = none) (hs : HasS sl Rs) (hh : HasH hp Rh) (e1 : Ws ++ sl = sl') (e2 : Wh ++ hp = hp')
    (hk : G C Q0 (.l ops rest :: k) ⟨sl', hp'⟩) : G C Q0 (.l ops (o :: rest) :: k) ⟨sl, hp⟩ := ⟨fun a w r => by
  subst e1 e2
  exact wpList_plain hg fun K hK => h.go sl hp hs hh a w K _ r fun a w r => hK a w (hk.go a w r)⟩

theorem RelB.undefd {sl : SL} {hp : HL} {β : Nat → Option Nat} {a : Act} {w : World} (r : RelB C ⟨sl, hp⟩ β a w) (dst : Nat) : RelB C ⟨(dst, .one (.x Go.undef)) :: sl, hp⟩ β (a.put (some dst) Go.undef) w := by
  refine ⟨r.keep, r.low, r.inj, r.own, r.hp, fun t sv hs => ?_, by simp [Act.put, r.size], r.df, r.fx⟩
  simp only [sget_cons] at hs
  rw [getD_put]
  by_cases h : dst = t
  · rw [if_pos h] at hs
    cases hs
    subst h
    show _ = Go.undef
    split
    · rfl
    · rename_i c
      have : a.tmps.size ≤ dst := by simp only [true_and, Nat.not_lt] at c; exact c
      simp [this]
  · rw [if_neg h] at hs
    rw [if_neg (fun c => h c.1)]
    exact r.sl t sv hs

theorem yielded_of {sl : SL} {hp : HL} {β : Nat → Option Nat} {a : Act} {w : World} (r : RelB C ⟨sl, hp⟩ β a w) {ops : Array Oper} {j t : Nat} {b : Bool} (hj : (ops[j]?).bind (·.dst) = some t) (hs : sget sl t = some (.one (bB b))) :
    yielded ops a.tmps j = some b := by
  have h1 : a.tmps.getD t Go.undef = .bool b := RD.v_inv (r.sl t _ hs)
  have h2 : a.tmps[t]? = some (.bool b) := by
    rw [Array.getD_eq_getD_getElem?] at h1
    cases h3 : a.tmps[t]? with
    | none => rw [h3] at h1; simp [undef] at h1
    | some v => rw [h3] at h1; simp at h1; rw [h1]
  simp [yielded, hj, h2]

/-- an operation under a guard that holds -/
theorem G.opG {ops : Array Oper} {rest : List Oper} {o : Oper} {sl sl' : SL} {hp hp' : HL} {Rs Ws : List (Nat × SV)} {Rh Wh : List (Nat × Option HE)} {j t : Nat} {b : Bool}
    (h : OpL C o Rs Rh Ws Wh) (hg : o.guard = some (j, b)) (hj : (ops[j]?).bind (·.dst) = some t) (ht : sget sl t = some (.one (bB b))) (hs : HasS sl Rs) (hh : HasH hp Rh) (e1 : Ws ++ sl = sl') (e2 : Wh ++ hp = hp')
    (hk : G C Q0 (.l ops rest :: k) ⟨sl', hp'⟩) : G C Q0 (.l ops (o :: rest) :: k) ⟨sl, hp⟩ := ⟨fun a w ⟨β, r⟩ => by
  subst e1 e2
  have hy := yielded_of r hj ht
  exact wpList_step fun K hK => by
    simp only [Region.wanted, hg, hy, beq_self_eq_true, if_true]
    exact h.go sl hp hs hh a w K _ ⟨β, r⟩ fun a w r => hK a w (hk.go a w r)⟩

theorem yielded_undef {sl : SL} {hp : HL} {β : Nat → Option Nat} {a : Act} {w : World} (r : RelB C ⟨sl, hp⟩ β a w) {ops : Array Oper} {j t : Nat} (hj : (ops[j]?).bind (·.dst) = some t) (hs : sget sl t = some (.one (.x Go.undef))) :
    yielded ops a.tmps j = none := by
  have h1 : a.tmps.getD t Go.undef = Go.undef := r.sl t _ hs
  rw [Array.getD_eq_getD_getElem?] at h1
  cases h3 : a.tmps[t]? with
  | none => simp [yielded, hj, h3]
  | some v => rw [h3] at h1; simp at h1; subst h1; simp [yielded, hj, h3, Go.undef]

/-- an operation under a guard that was itself passed over -/
theorem G.opU {ops : Array Oper} {rest : List Oper} {o : Oper} {sl : SL} {hp : HL} {dst j t : Nat} {c : Bool}
    (hd : o.dst = some dst) (hg : o.guard = some (j, c)) (hj : (ops[j]?).bind (·.dst) = some t) (ht : sget sl t = some (.one (.x Go.undef)))
    (hk : G C Q0 (.l ops rest :: k) ⟨(dst, .one (.x Go.undef)) :: sl, hp⟩) : G C Q0 (.l ops (o :: rest) :: k) ⟨sl, hp⟩ := ⟨fun a w ⟨β, r⟩ => by
  have hy := yielded_undef r hj ht
  exact wpList_step fun K hK => by
    have : (none == some c) = false := rfl
    simp only [Region.wanted, hg, hy, this, Bool.false_eq_true, if_false, hd]
    exact hK _ _ (hk.go _ _ ⟨β, r.undefd dst⟩)⟩

/-- an operation under a guard that does not hold -/
theorem G.opN {ops : Array Oper} {rest : List Oper} {o : Oper} {sl sl' : SL} {hp : HL} {dst j t : Nat} {b c : Bool}
    (hd : o.dst = some dst) (hg : o.guard = some (j, c)) (hbc : (b == c) = false) (hj : (ops[j]?).bind (·.dst) = some t) (ht : sget sl t = some (.one (bB b))) (e1 : (dst, .one (.x Go.undef)) :: sl = sl')
    (hk : G C Q0 (.l ops rest :: k) ⟨sl', hp⟩) : G C Q0 (.l ops (o :: rest) :: k) ⟨sl, hp⟩ := ⟨fun a w ⟨β, r⟩ => by
  subst e1
  have hy := yielded_of r hj ht
  exact wpList_step fun K hK => by
    have : (some b == some c) = false := by simpa using hbc
    simp only [Region.wanted, hg, hy, this, Bool.false_eq_true, if_false, hd]
    exact hK _ _ (hk.go _ _ ⟨β, r.undefd dst⟩)⟩

def BV.ids : BV → List Nat
  | .ptr k _ => [k]
  | .pv k _ => [k]
  | .own k _ => [k]
  | .rp k _ _ => [k]
  | .clo _ l => l
  | _ => []
def SV.ids : SV → List Nat
  | .one b => b.ids
  | .tup l => l.flatMap BV.ids
  | .dead => []
def HE.ids : HE → List Nat
  | .blk _ cs => cs.flatMap BV.ids
  | .bld _ _ kk _ => [kk]
  | _ => []
def hasId (hp : HL) (k : Nat) : Bool := (hget hp k).isSome
def wellId (sl : SL) (hp : HL) : Bool := sl.all (fun p => p.2.ids.all (hasId hp)) && hp.all (fun p => match p.2 with | some e => e.ids.all (hasId hp) | none => true)

theorem sget_mem {sl : SL} {t : Nat} {sv : SV} (h : sget sl t = some sv) : (t, sv) ∈ sl := by
  induction sl with
  | nil => cases h
  | cons p sl ih =>
    obtain ⟨k, c⟩ := p
    rw [sget_cons] at h
    by_cases hk : k = t
    · subst hk; rw [if_pos rfl] at h; cases h; exact List.mem_cons_self
    · rw [if_neg hk] at h; exact List.mem_cons_of_mem _ (ih h)
theorem hget_mem {hp : HL} {t : Nat} {e : HE} (h : hget hp t = some e) : (t, some e) ∈ hp := by
  induction hp with
  | nil => cases h
  | cons p sl ih =>
    obtain ⟨k, c⟩ := p
    rw [hget_cons] at h
    by_cases hk : k = t
    · subst hk; rw [if_pos rfl] at h; subst h; exact List.mem_cons_self
    · rw [if_neg hk] at h; exact List.mem_cons_of_mem _ (ih h)
theorem HasS.mem {sl l : SL} (h : HasS sl l) {t : Nat} {sv : SV} (hm : (t, sv) ∈ l) : sget sl t = some sv := by
  induction l with
  | nil => cases hm
  | cons p l ih =>
    obtain ⟨k, c⟩ := p
    rcases List.mem_cons.1 hm with h1 | h1
    · cases h1; exact h.1
    · exact ih h.2 h1
theorem HasH.mem {hp l : HL} (h : HasH hp l) {t : Nat} {e : Option HE} (hm : (t, e) ∈ l) : hget hp t = e := by
  induction l with
  | nil => cases hm
  | cons p l ih =>
    obtain ⟨k, c⟩ := p
    rcases List.mem_cons.1 hm with h1 | h1
    · cases h1; exact h.1
    · exact ih h.2 h1

/-- slots and blocks that are not wanted any more are left out -/
theorem RelB.keepOnly {sl sl' : SL} {hp hp' : HL} {β : Nat → Option Nat} {a : Act} {w : World} (r : RelB C ⟨sl, hp⟩ β a w) (hs : HasS sl sl') (hh : HasH hp hp') (hsc : wellId sl' hp' = true) : RelB C ⟨sl', hp'⟩ β a w := by
  have hget' : ∀ k e, hget hp' k = some e → hget hp k = some e := fun k e h => hh.mem (hget_mem h)
  have hmu : ∀ b o, Mu C hp' β b o → Mu C hp β b o := by
    rintro b o (hM | ⟨k, e, he, hb, hm⟩)
    · exact .inl hM
    · exact .inr ⟨k, e, hget' k e he, hb, hm⟩
  have hst : ∀ b o x, ¬ Mu C hp β b o → w.cell? ⟨b, o, none⟩ = some x → w.cell? ⟨b, o, none⟩ = some x ∧ ¬ Mu C hp' β b o := fun b o x hn hx => ⟨hx, fun c => hn (hmu b o c)⟩
  simp only [wellId, Bool.and_eq_true, List.all_eq_true] at hsc
  have hBR : ∀ c u, (∀ k, k ∈ c.ids → hasId hp' k = true) → BR C hp β w c u → BR C hp' β w c u := by
    intro c u hi h
    have hup : ∀ k e, k ∈ c.ids → hget hp k = some e → hget hp' k = some e := fun k e hk he => by
      have := hi k hk
      simp only [hasId, Option.isSome_iff_exists] at this
      obtain ⟨e', he'⟩ := this
      rw [hget' k e' he'] at he
      cases he
      exact he'
    refine BR.kept hst (fun k hk e he hr => ⟨⟨e, hup k e ?_ he, hr⟩, rfl⟩) (fun k es0 u hc h => ?_) h
    · cases c <;> simp_all [BV.ids]
    · obtain ⟨T, size, es, ex, h1, h2⟩ := h
      exact ⟨T, size, es, ex, hup k _ (by rcases hc with rfl | ⟨_, rfl⟩ <;> simp [BV.ids]) h1, h2⟩
  refine ⟨r.keep, r.low, fun k k' e e' b h1 h2 => r.inj k k' e e' b (hget' _ _ h1) (hget' _ _ h2), fun k e b h1 => r.own k e b (hget' _ _ h1), fun k e h1 => ?_, fun t sv ht => ?_, r.size, r.df, fun b hb => ⟨(r.fx b hb).1, fun e he => (r.fx b hb).2 e (hget' 0 e he)⟩⟩
  · have h2 := r.hp k e (hget' _ _ h1)
    cases e with
    | blk T cs =>
      obtain ⟨b, arr, q1, q2, q3, q4⟩ := h2
      refine ⟨b, arr, q1, q2, q3, fun j c hc => let ⟨u, hu, ho, hr⟩ := q4 j c hc; ⟨u, hu, ho, hBR c u (fun k' hk' => ?_) hr⟩⟩
      have := hsc.2 _ (hget_mem h1)
      simp only [HE.ids, List.all_eq_true] at this
      exact this k' (List.mem_flatMap.2 ⟨c, List.mem_of_getElem? hc, hk'⟩)
    | row T size es ex =>
      obtain ⟨hz, hs, hr⟩ := h2
      exact ⟨hz, hs, hr.imp id fun ⟨b, cur, q1, q2, q3, q4⟩ => ⟨b, cur, q1, q2, q3, fun i cs j d hi hj => let ⟨u, hu, hr⟩ := q4 i cs j d hi hj; ⟨u, hu, hr.mono hst⟩⟩⟩
    | it s pos => exact h2
    | pr Φ => exact h2
    | map es =>
      obtain ⟨b, ents, q1, q2, q3, q4⟩ := h2
      exact ⟨b, ents, q1, q2, q3, fun i e he => let ⟨x, p1, p2, p3, p4⟩ := q4 i e he; ⟨x, p1, p2, p3, p4.mono hst⟩⟩
    | bld T E kk s =>
      obtain ⟨q0, q1⟩ := h2
      have := hsc.2 _ (hget_mem h1)
      simp only [HE.ids, List.all_cons, List.all_nil, Bool.and_true, hasId, Option.isSome_iff_exists] at this
      obtain ⟨e', he'⟩ := this
      have h3 := hget' kk e' he'
      rw [q0] at h3
      cases h3
      exact ⟨he', q1⟩
    | hid _ _ => trivial
  · have h1 := r.sl t sv (hs.mem (sget_mem ht))
    have h2 := hsc.1 _ (sget_mem ht)
    cases sv with
    | one b => exact hBR b _ (fun k hk => h2 k hk) h1
    | tup l =>
      obtain ⟨us, q1, q2, q3⟩ := h1
      refine ⟨us, q1, q2, fun i b hi => let ⟨x, hx, hr⟩ := q3 i b hi; ⟨x, hx, hBR b x (fun k hk => ?_) hr⟩⟩
      exact h2 k (List.mem_flatMap.2 ⟨b, List.mem_of_getElem? hi, hk⟩)
    | dead => trivial

theorem G.keep {sl sl' : SL} {hp hp' : HL} (hs : HasS sl sl') (hh : HasH hp hp') (hsc : wellId sl' hp' = true) (h : G C Q0 k ⟨sl', hp'⟩) : G C Q0 k ⟨sl, hp⟩ := ⟨fun a w ⟨β, r⟩ => h.go a w ⟨β, r.keepOnly hs hh hsc⟩⟩

theorem Rel.keepOnly {sl sl' : SL} {hp hp' : HL} {a : Act} {w : World} (r : Rel C ⟨sl, hp⟩ a w) (hs : HasS sl sl') (hh : HasH hp hp') (hsc : wellId sl' hp' = true) : Rel C ⟨sl', hp'⟩ a w := let ⟨β, r⟩ := r; ⟨β, r.keepOnly hs hh hsc⟩

theorem RelB.slot {sl : SL} {hp : HL} {β : Nat → Option Nat} {a : Act} {w : World} (r : RelB C ⟨sl, hp⟩ β a w) {t : Nat} {sv : SV} (h : SR C hp β w sv (a.tmps.getD t undef)) : RelB C ⟨(t, sv) :: sl, hp⟩ β a w := by
  refine ⟨r.keep, r.low, r.inj, r.own, r.hp, fun t' sv' hs => ?_, r.size, r.df, r.fx⟩
  simp only [sget_cons] at hs
  by_cases c : t = t'
  · subst c; rw [if_pos rfl] at hs; cases hs; exact h
  · rw [if_neg c] at hs; exact r.sl t' sv' hs

/-- a row that is only appended to, seen as the slice that it is now -/
theorem G.view {sl : SL} {hp : HL} {t k' T size : Nat} {es : List (List DV)} (hs : sget sl t = some (.one (.own k' es))) (hh : hget hp k' = some (.row T size es false)) (h : G C Q0 k ⟨(t, .one (.g (.d (.sl size es)))) :: sl, hp⟩) : G C Q0 k ⟨sl, hp⟩ :=
  ⟨fun a w ⟨β, r⟩ => h.go a w ⟨β, r.slot (own_data r hh (r.sl t _ hs) (fun _ _ h => h) (fun b o hb ho hm => by
    rcases hm with hM | ⟨k1, e1, h1, h2, h3⟩
    · obtain ⟨h4, h5⟩ := r.low b o hM
      rcases (r.own k' _ b hh hb).1 with h6 | h6
      · omega
      · exact h5 h6
    · obtain rfl := r.inj k1 k' e1 _ b h1 hh h2 hb
      rw [hh] at h1; cases h1
      simp only [HE.mutAt, Bool.false_eq_true, false_or] at h3
      omega))⟩⟩

end
end Go.Ab

/- The abstract machine: a contract out of a walk; what is handed back. Conditions: none but those that stand in each law. -/
namespace Go.Ab
open Go Go.RowKit

def RG.sv : RG → SV
  | .g a => .one (.g a)
  | .ep cs => .one (.ep cs)
  | .sem Φ => .one (.sem Φ)
  | .ro Φ => .one (.ro Φ)
  | .row _ _ _ => .dead
  | .pt _ => .dead

def RG.isRow : RG → Bool
  | .row _ _ _ => true
  | .pt _ => true
  | _ => false

def slots0 : Nat → List RG → SL
  | _, [] => []
  | i, g :: r => (i, g.sv) :: slots0 (i + 1) r

theorem slots0_get : ∀ {l : List RG} {i t : Nat} {sv : SV}, sget (slots0 i l) t = some sv → i ≤ t ∧ ∃ g, l[t - i]? = some g ∧ sv = g.sv
  | [], i, t, sv, h => by cases h
  | g :: l, i, t, sv, h => by
    simp only [slots0, sget_cons] at h
    by_cases c : i = t
    · subst c
      rw [if_pos rfl] at h
      cases h
      exact ⟨Nat.le_refl _, g, by simp, rfl⟩
    · rw [if_neg c] at h
      obtain ⟨h1, g', h2, h3⟩ := slots0_get h
      refine ⟨by omega, g', ?_, h3⟩
      rw [show t - i = (t - (i + 1)) + 1 by omega]
      simpa using h2

def PostR (M : Nat → Nat → Prop) (K : Nat → Prop) (w : World) (res : RS) : Ending → World → Prop := fun e w' => ∃ v, e = .returned v ∧ KeepW K w w' ∧ ResR M K w w' res v

theorem Ct.intro {P : Program} {f : Nat} {fn : Func} {code : Code} {args : List RG} {res : RS} {n : Nat} (hf : P.funcs[f]? = some fn) (hb : fn.body = some code) (hn : fn.ntmps = n) (hle : Nat.ble args.length n = true)
    (hrow : args.all (fun g => !g.isRow) = true)
    (h : ∀ M w, G (⟨w, M, fun _ => False, none⟩ : Cx P n) (bodyPost P fn (PostR M (fun _ => False) w res)) [.c code] ⟨slots0 0 args, []⟩) : Ct P f args res := by
  refine ⟨fun M K w vs hM hK hl hargs => ?_⟩
  have hK0 : K = fun _ => False := by
    funext b
    refine propext ⟨fun c => ?_, fun c => c.elim⟩
    obtain ⟨i, T, size, es, cap, h1, _⟩ := hK b c
    have := List.all_eq_true.1 hrow _ (List.mem_of_getElem? h1)
    simp [RG.isRow] at this
  subst hK0
  have hle' : vs.length ≤ n := by rw [hl]; simpa using hle
  refine calls_of_wp hf hb ?_
  refine (h M w).go _ w ⟨fun _ => none, ⟨⟨rfl, rfl, rfl, Nat.le_refl _, fun _ _ _ => rfl⟩, hM, (fun _ _ _ _ _ h => by cases h), (fun _ _ _ h => by cases h), (fun _ _ h => by cases h), fun t sv hs => ?_, ?_, rfl, fun _ hb => by cases hb⟩⟩
  · obtain ⟨_, g, h1, rfl⟩ := slots0_get hs
    rw [Nat.sub_zero] at h1
    have hlt : t < vs.length := by rw [hl]; exact (List.getElem?_eq_some_iff.1 h1).1
    have hv : (vs.toArray ++ Array.replicate (fn.ntmps - vs.toArray.size) undef).getD t undef = vs[t] := by
      simp [Array.getElem?_append, hlt]
    show SR _ _ _ _ _ ((vs.toArray ++ Array.replicate (fn.ntmps - vs.toArray.size) undef).getD t undef)
    rw [hv]
    have ha := hargs t g vs[t] h1 (by simp [hlt])
    have hmu : ∀ b o, Mu (⟨w, M, fun _ => False, none⟩ : Cx P n) [] (fun _ => none) b o → M b o ∨ False := by
      rintro b o (c | ⟨_, _, c, _⟩)
      · exact .inl c
      · cases c
    cases g with
    | g a => exact GR.less hmu ha
    | ep cs =>
      obtain ⟨b, o, hu, hc⟩ := ha
      exact ⟨b, o, hu, fun j d hj => let ⟨x, q1, q2, q3⟩ := hc j d hj; ⟨x, q1, fun c => q2 (hmu _ _ c), q3.less hmu⟩⟩
    | sem Φ => exact ha
    | ro Φ => exact ha
    | row T size es => trivial
    | pt h => trivial
  · simp [hn]; omega

/-- a result's variable, and what it holds -/
inductive RVar (P : Program) : ResultVar → AG → List (Nat × SV) → List (Nat × Option HE) → Prop
  | tmp (t : Nat) (g : AG) : RVar P (.tmp t) g [(t, .one (.g g))] []
  | cell1 {t T T' k : Nat} {d : TypeDesc} {cs : List BV} {x : DV} (hU : P.underlying T = some d) (hA : aggD d = false) (hc : cs[0]? = some (.g (.d x))) : RVar P (.cell t T) (.d x) [(t, .one (.ptr k 0))] [(k, some (.blk T' cs))]
  | cellA {t T T' k bytes : Nat} {d : TypeDesc} {zz : Value} {cs : List BV} {ds : List DV} (hU : P.underlying T = some d) (hA : aggD d = true) (hI : Info P T zz ds.length bytes) (hc : cs.take ds.length = dat ds) :
      RVar P (.cell t T) (.agg ds) [(t, .one (.ptr k 0))] [(k, some (.blk T' cs))]

def resF (tmps : Array Value) : ResultVar → Sem Value
  | .tmp t => pure (tmps.getD t undef)
  | .cell a t => do loadVar t (← asAddr (tmps.getD a undef))

theorem results_eq (fn : Func) (tmps : Array Value) : results fn tmps = (fn.results.mapM (resF tmps) >>= fun vs => pure (if h : vs.size = 1 then vs[0] else .tuple vs)) := rfl

section
variable {P : Program} {nt : Nat} {C : Cx P nt} {k : List KI}

theorem RVar.ok {sl : SL} {hp : HL} {β : Nat → Option Nat} {a : Act} {w : World} {rv : ResultVar} {g : AG} {R : List (Nat × SV)} {Rh : List (Nat × Option HE)} (hx : RVar P rv g R Rh) (hs : HasS sl R) (hh : HasH hp Rh) (r : RelB C ⟨sl, hp⟩ β a w) :
    ∃ v, (resF a.tmps rv).run P w = .ok v w ∧ GR (Mu C hp β) w v g := by
  cases hx with
  | tmp t g => exact ⟨_, rfl, r.sl t _ hs.1⟩
  | @cell1 t T T' k d cs x hU hA hc =>
    obtain ⟨_, b, hb, hu⟩ := (r.sl t _ hs.1 : BR C hp β w (.ptr k 0) _)
    obtain ⟨b', arr, hb', hheap, hsz, hcell⟩ := r.hp k _ hh.1
    rw [hb] at hb'
    cases hb'
    obtain ⟨u, hu', _, hr⟩ := hcell 0 _ hc
    have hcl : w.cell? ⟨b, 0, none⟩ = some u := by rw [cell_of_row w b 0 arr T' _ hheap]; exact hu'
    have hu2 : a.tmps.getD t undef = .pointer (some ⟨b, 0, none⟩) := hu
    exact ⟨u, by simp only [resF, hu2, asAddr, Sem.run_bind, Sem.run_pure, Result.andThen_ok, loadVar, run_isAgg hU, hA, Bool.false_eq_true, if_false]; simp [hcl], hr⟩
  | @cellA t T T' k bytes d zz cs ds hU hA hI hc =>
    obtain ⟨_, b, hb, hu⟩ := (r.sl t _ hs.1 : BR C hp β w (.ptr k 0) _)
    obtain ⟨b', arr, hb', hheap, hsz, hcell⟩ := r.hp k _ hh.1
    rw [hb] at hb'
    cases hb'
    have key : ∀ (j : Nat) (dd : DV), ds[j]? = some dd → ∃ u, arr[j]? = some u ∧ RD (Mu C hp β) w u dd := by
      intro j dd hj
      have hl : j < ds.length := (List.getElem?_eq_some_iff.1 hj).1
      have : cs[j]? = some (.g (.d dd)) := by
        have e : (cs.take ds.length)[j]? = (dat ds)[j]? := by rw [hc]
        rw [List.getElem?_take, if_pos hl] at e
        rw [e]; simp [dat, hj]
      obtain ⟨u, h1, _, h3⟩ := hcell _ _ this
      exact ⟨u, h1, h3⟩
    have hu2 : a.tmps.getD t undef = .pointer (some ⟨b, 0, none⟩) := hu
    have hl := run_loadAgg (P := P) (b := b) (o := 0) (w := w) hU hA hI (fun j => arr.getD j undef) (fun j hj => by
      obtain ⟨u, h1, _⟩ := key j ds[j] (by simp [hj])
      rw [Nat.zero_add, cell_of_row w b _ arr T' _ hheap]
      simp [h1])
    refine ⟨.agg ((List.range ds.length).map (fun j => arr.getD j undef)).toArray, ?_, _, rfl, by simp, fun j dd hj => ?_⟩
    · simp only [resF, hu2, asAddr, Sem.run_bind, Sem.run_pure, Result.andThen_ok]
      simp only [Instr.loadAt, Instr.sureAddr, Sem.run_bind, Sem.run_pure, Result.andThen_ok] at hl
      exact hl
    · obtain ⟨u, h1, h2⟩ := key j dd hj
      have hl : j < ds.length := (List.getElem?_eq_some_iff.1 hj).1
      exact ⟨u, by simp [hl, h1], h2⟩

theorem toM {hp : HL} {β : Nat → Option Nat} {w : World} {v : Value} {g : AG} (h : GR (Mu C hp β) w v g) : GR C.M w v g := h.less fun _ _ c => .inl c

theorem G.ret1 {fn : Func} {sl : SL} {hp : HL} {rv : ResultVar} {g : AG} {R : List (Nat × SV)} {Rh : List (Nat × Option HE)} (hres : fn.results = #[rv]) (hr : RVar P rv g R Rh) (hs : HasS sl R) (hh : HasH hp Rh) :
    G C (bodyPost P fn (PostR C.M C.K C.w0 (.one g))) (.c .ret :: k) ⟨sl, hp⟩ := .mk <| fun a w ⟨β, r⟩ => by
  obtain ⟨v, h1, h2⟩ := hr.ok hs hh r
  refine wp_ret (Qof_ret ⟨r.df, v, ?_, v, rfl, r.keep, toM h2⟩)
  rw [results_eq, hres]
  simp [h1]

theorem G.ret2 {fn : Func} {sl : SL} {hp : HL} {rv rv' : ResultVar} {g g' : AG} {R R' : List (Nat × SV)} {Rh Rh' : List (Nat × Option HE)} (hres : fn.results = #[rv, rv']) (hr : RVar P rv g R Rh) (hr' : RVar P rv' g' R' Rh')
    (hs : HasS sl (R ++ R')) (hh : HasH hp (Rh ++ Rh')) : G C (bodyPost P fn (PostR C.M C.K C.w0 (.tup [g, g']))) (.c .ret :: k) ⟨sl, hp⟩ := .mk <| fun a w ⟨β, r⟩ => by
  obtain ⟨v, h1, h2⟩ := hr.ok hs.app.1 hh.app.1 r
  obtain ⟨v', h1', h2'⟩ := hr'.ok hs.app.2 hh.app.2 r
  refine wp_ret (Qof_ret ⟨r.df, .tuple #[v, v'], ?_, .tuple #[v, v'], rfl, r.keep, #[v, v'], rfl, rfl, fun i g'' hi => ?_⟩)
  · rw [results_eq, hres]
    simp [h1, h1']
  · match i with
    | 0 => simp at hi; subst hi; exact ⟨v, rfl, toM h2⟩
    | 1 => simp at hi; subst hi; exact ⟨v', rfl, toM h2'⟩
    | i + 2 => simp at hi

end
end Go.Ab

/- The abstract machine: a region whose order the tape draws. What each operation reads and writes is told; whoever reads what another one writes stands behind it, or ahead of it, in every order; so all orders come to one state. Conditions: none but those that stand in each law. -/
namespace Go.Ab
open Go Go.RowKit

structure Eff where
  Rs : List (Nat × SV)
  Rh : List (Nat × Option HE)
  Ws : List (Nat × SV)
  Wh : List (Nat × Option HE)

/-- operation number i, whether its guard holds or not -/
structure OpW {P : Program} {nt : Nat} (C : Cx P nt) (ops : Array Oper) (i : Nat) (e : Eff) : Prop where
  go : ∀ sl hp, HasS sl e.Rs → HasH hp e.Rh → ∀ a w K Q, Rel C ⟨sl, hp⟩ a w → (∀ a w, Rel C ⟨e.Ws ++ sl, e.Wh ++ hp⟩ a w → K a w) → wpOp P ops Q i K a w

section
variable {P : Program} {nt : Nat} {C : Cx P nt} {ops : Array Oper} {i : Nat} {o : Oper} {Rs Ws : List (Nat × SV)} {Rh Wh : List (Nat × Option HE)}

theorem OpW.plain (h : OpL C o Rs Rh Ws Wh) (ho : ops[i]? = some o) (hg : o.guard = none) : OpW C ops i ⟨Rs, Rh, Ws, Wh⟩ :=
  ⟨fun sl hp hs hh a w K Q r hK => by
    unfold wpOp
    rw [ho]
    simp only [Region.wanted, hg, if_true]
    exact .inl (h.go sl hp hs hh a w K Q r hK)⟩

theorem OpW.yes {j t : Nat} {b : Bool} (h : OpL C o Rs Rh Ws Wh) (ho : ops[i]? = some o) (hg : o.guard = some (j, b)) (hj : (ops[j]?).bind (·.dst) = some t) : OpW C ops i ⟨(t, .one (bB b)) :: Rs, Rh, Ws, Wh⟩ :=
  ⟨fun sl hp hs hh a w K Q ⟨β, r⟩ hK => by
    have hy := yielded_of r hj hs.1
    unfold wpOp
    rw [ho]
    simp only [Region.wanted, hg, hy, beq_self_eq_true, if_true]
    exact .inl (h.go sl hp hs.2 hh a w K Q ⟨β, r⟩ hK)⟩

theorem OpW.no {dst j t : Nat} {b c : Bool} (ho : ops[i]? = some o) (hd : o.dst = some dst) (hg : o.guard = some (j, c)) (hbc : (b == c) = false) (hj : (ops[j]?).bind (·.dst) = some t) : OpW C ops i ⟨[(t, .one (bB b))], [], [(dst, .one (.x Go.undef))], []⟩ :=
  ⟨fun sl hp hs hh a w K Q ⟨β, r⟩ hK => by
    have hy := yielded_of r hj hs.1
    have : (some b == some c) = false := by simpa using hbc
    unfold wpOp
    rw [ho]
    simp only [Region.wanted, hg, hy, this, Bool.false_eq_true, if_false, hd]
    exact hK _ _ ⟨β, r.undefd dst⟩⟩

theorem OpW.un {dst j t : Nat} {c : Bool} (ho : ops[i]? = some o) (hd : o.dst = some dst) (hg : o.guard = some (j, c)) (hj : (ops[j]?).bind (·.dst) = some t) : OpW C ops i ⟨[(t, .one (.x Go.undef))], [], [(dst, .one (.x Go.undef))], []⟩ :=
  ⟨fun sl hp hs hh a w K Q ⟨β, r⟩ hK => by
    have hy := yielded_undef r hj hs.1
    have : (none == some c) = false := rfl
    unfold wpOp
    rw [ho]
    simp only [Region.wanted, hg, hy, this, Bool.false_eq_true, if_false, hd]
    exact hK _ _ ⟨β, r.undefd dst⟩⟩
end

def wS (effs : List Eff) (t : Nat) : Option Nat := effs.findIdx? fun e => e.Ws.any fun p => Nat.beq p.1 t
def wrH (t : Nat) (e : Eff) : Bool := e.Wh.any fun p => Nat.beq p.1 t
/-- what the last one of D's operations that writes block t leaves there -/
def lastH : List Eff → Nat → (Nat → Bool) → Nat → Option (Option HE)
  | [], _, _, _ => none
  | e :: r, i, D, t => match lastH r (i + 1) D t with
    | some x => some x
    | none => if D i && wrH t e then some (hget e.Wh t) else none

theorem lastH_congr {D D' : Nat → Bool} {t : Nat} : ∀ {l : List Eff} {i : Nat}, (∀ j e, l[j]? = some e → wrH t e = true → D (i + j) = D' (i + j)) → lastH l i D t = lastH l i D' t
  | [], i, h => rfl
  | e :: r, i, h => by
    have ih := lastH_congr (D := D) (D' := D') (t := t) (l := r) (i := i + 1) (fun j e' hj hw => by have := h (j + 1) e' (by simpa using hj) hw; rw [show i + 1 + j = i + (j + 1) by omega]; exact this)
    simp only [lastH, ih]
    cases lastH r (i + 1) D' t with
    | some x => rfl
    | none =>
      cases hw : wrH t e with
      | false => simp
      | true => have := h 0 e rfl hw; rw [Nat.add_zero] at this; simp [this]

theorem lastH_none {D : Nat → Bool} {t : Nat} : ∀ {l : List Eff} {i : Nat}, (∀ j e, l[j]? = some e → wrH t e = true → D (i + j) = false) → lastH l i D t = none
  | [], i, h => rfl
  | e :: r, i, h => by
    have ih := lastH_none (D := D) (t := t) (l := r) (i := i + 1) (fun j e' hj hw => by have := h (j + 1) e' (by simpa using hj) hw; rw [show i + 1 + j = i + (j + 1) by omega]; exact this)
    simp only [lastH, ih]
    cases hw : wrH t e with
    | false => simp
    | true => have := h 0 e rfl hw; rw [Nat.add_zero] at this; simp [this]

theorem lastH_top {D : Nat → Bool} {t : Nat} {e : Eff} : ∀ {l : List Eff} {i k : Nat}, l[k]? = some e → wrH t e = true → D (i + k) = true → (∀ j e', k < j → l[j]? = some e' → wrH t e' = true → D (i + j) = false) → lastH l i D t = some (hget e.Wh t)
  | [], i, k, h, _, _, _ => by simp at h
  | x :: r, i, k, h, hw, hD, hlater => by
    cases k with
    | zero =>
      simp at h; subst h
      have := lastH_none (D := D) (t := t) (l := r) (i := i + 1) (fun j e' hj hw => by have := hlater (j + 1) e' (by omega) (by simpa using hj) hw; rw [show i + 1 + j = i + (j + 1) by omega]; exact this)
      rw [Nat.add_zero] at hD
      simp only [lastH, this, hD, hw, Bool.and_self, if_true]
    | succ k =>
      have := lastH_top (D := D) (t := t) (e := e) (l := r) (i := i + 1) (k := k) (by simpa using h) hw (by rw [show i + 1 + k = i + (k + 1) by omega]; exact hD) (fun j e' hkj hj hw => by have := hlater (j + 1) e' (by omega) (by simpa using hj) hw; rw [show i + 1 + j = i + (j + 1) by omega]; exact this)
      simp only [lastH, this]

def mem (l : List Nat) (i : Nat) : Bool := l.any (Nat.beq i)

theorem mem_iff {l : List Nat} {i : Nat} : mem l i = true ↔ i ∈ l := by
  simp only [mem, List.any_eq_true]
  constructor
  · rintro ⟨x, hx, h⟩; rw [Nat.eq_of_beq_eq_true h]; exact hx
  · intro h; exact ⟨i, h, Nat.beq_refl i⟩

/-- all that stands ahead of operation i: 'deps' tells it -/
def depsOk (ops : Array Oper) (deps : List (List Nat)) : Bool :=
  Nat.beq deps.length ops.size && (List.range ops.size).all fun i =>
    match ops[i]? with
    | none => false
    | some o =>
      (o.after.toList.all fun e => !Region.binds .any e || Nat.blt e.on i) &&
      (deps.getD i []).all fun j => o.after.toList.any fun e => Region.binds .any e && (Nat.beq e.on j || mem (deps.getD e.on []) j)

def readS (effs : List Eff) (deps : List (List Nat)) (sl : SL) (i : Nat) : List (Nat × SV) → Prop
  | [] => True
  | (t, sv) :: r => (match wS effs t with
    | none => sget sl t = some sv
    | some j => if mem (deps.getD i []) j then sget (effs.getD j ⟨[], [], [], []⟩).Ws t = some sv else mem (deps.getD j []) i = true ∧ sget sl t = some sv) ∧ readS effs deps sl i r

/-- each operation that writes block t is for sure ahead of operation i, or for sure not -/
def okH (effs : List Eff) (deps : List (List Nat)) (i t : Nat) : Bool := (List.range effs.length).all fun j => !(wrH t (effs.getD j ⟨[], [], [], []⟩)) || (mem (deps.getD i []) j || (Nat.beq j i || mem (deps.getD j []) i))

def readH (effs : List Eff) (deps : List (List Nat)) (hp : HL) (i : Nat) : List (Nat × Option HE) → Prop
  | [] => True
  | (t, sv) :: r => (okH effs deps i t = true ∧ (lastH effs 0 (mem (deps.getD i [])) t).getD (hget hp t) = sv) ∧ readH effs deps hp i r

def allRead (effs : List Eff) (deps : List (List Nat)) (sl : SL) (hp : HL) : Nat → List Eff → Prop
  | _, [] => True
  | i, e :: r => readS effs deps sl i e.Rs ∧ readH effs deps hp i e.Rh ∧ allRead effs deps sl hp (i + 1) r

def allOps {P : Program} {nt : Nat} (C : Cx P nt) (ops : Array Oper) : Nat → List Eff → Prop
  | _, [] => True
  | i, e :: r => OpW C ops i e ∧ allOps C ops (i + 1) r

theorem allOps_get {P : Program} {nt : Nat} {C : Cx P nt} {ops : Array Oper} : ∀ {l : List Eff} {k i : Nat} {e : Eff}, allOps C ops k l → l[i]? = some e → OpW C ops (k + i) e
  | [], k, i, e, _, h => by simp at h
  | x :: l, k, i, e, h, hi => by
    cases i with
    | zero => simp at hi; subst hi; exact h.1
    | succ i => rw [show k + (i + 1) = k + 1 + i by omega]; exact allOps_get h.2 (by simpa using hi)

theorem allRead_get {effs : List Eff} {deps : List (List Nat)} {sl : SL} {hp : HL} : ∀ {l : List Eff} {k i : Nat} {e : Eff}, allRead effs deps sl hp k l → l[i]? = some e → readS effs deps sl (k + i) e.Rs ∧ readH effs deps hp (k + i) e.Rh
  | [], k, i, e, _, h => by simp at h
  | x :: l, k, i, e, h, hi => by
    cases i with
    | zero => simp at hi; subst hi; exact ⟨h.1, h.2.1⟩
    | succ i => rw [show k + (i + 1) = k + 1 + i by omega]; exact allRead_get h.2.2 (by simpa using hi)

/-- each slot is written by one operation at most; those that write a block stand one behind the other -/
def single (effs : List Eff) (deps : List (List Nat)) : Bool :=
  (List.range effs.length).all fun i => ((effs.getD i ⟨[], [], [], []⟩).Ws.all fun p => wS effs p.1 == some i) &&
    ((effs.getD i ⟨[], [], [], []⟩).Wh.all fun p => (List.range i).all fun j => !(wrH p.1 (effs.getD j ⟨[], [], [], []⟩)) || mem (deps.getD i []) j)

/-- the content of a slot when the operations of D have been carried out -/
def curS (effs : List Eff) (sl : SL) (D : Nat → Bool) (t : Nat) : Option SV := match wS effs t with
  | some j => if D j then sget (effs.getD j ⟨[], [], [], []⟩).Ws t else sget sl t
  | none => sget sl t
def curH (effs : List Eff) (hp : HL) (D : Nat → Bool) (t : Nat) : Option HE := (lastH effs 0 D t).getD (hget hp t)

theorem sget_app (l sl : SL) (t : Nat) : sget (l ++ sl) t = if l.any (fun p => Nat.beq p.1 t) then sget l t else sget sl t := by
  induction l with
  | nil => rfl
  | cons p l ih =>
    obtain ⟨k, c⟩ := p
    rw [List.cons_append, sget_cons, sget_cons, List.any_cons]
    by_cases h : k = t
    · subst h; simp
    · have : Nat.beq k t = false := by
        cases hb : Nat.beq k t with
        | false => rfl
        | true => exact absurd (Nat.eq_of_beq_eq_true hb) h
      simp only [this, Bool.false_or, if_neg h, ih]

theorem hget_app (l hp : HL) (t : Nat) : hget (l ++ hp) t = if l.any (fun p => Nat.beq p.1 t) then hget l t else hget hp t := by
  induction l with
  | nil => rfl
  | cons p l ih =>
    obtain ⟨k, c⟩ := p
    rw [List.cons_append, hget_cons, hget_cons, List.any_cons]
    by_cases h : k = t
    · subst h; simp
    · have : Nat.beq k t = false := by
        cases hb : Nat.beq k t with
        | false => rfl
        | true => exact absurd (Nat.eq_of_beq_eq_true hb) h
      simp only [this, Bool.false_or, if_neg h, ih]

theorem wS_some {effs : List Eff} {deps : List (List Nat)} (h1 : single effs deps = true) {i t : Nat} {e : Eff} (hi : effs[i]? = some e) (ht : e.Ws.any (fun p => Nat.beq p.1 t) = true) : wS effs t = some i := by
  simp only [single, List.all_eq_true, Bool.and_eq_true] at h1
  have hlt : i < effs.length := (List.getElem?_eq_some_iff.1 hi).1
  have := (h1 i (List.mem_range.2 hlt)).1
  rw [List.getD_eq_getElem?_getD, hi] at this
  obtain ⟨p, hp, hpt⟩ := List.any_eq_true.1 ht
  have hq := this p hp
  rw [Nat.eq_of_beq_eq_true hpt] at hq
  simpa using hq

theorem wH_order {effs : List Eff} {deps : List (List Nat)} (h1 : single effs deps = true) {i j t : Nat} {e e' : Eff} (hi : effs[i]? = some e) (ht : wrH t e = true) (hji : j < i) (hj : effs[j]? = some e') (ht' : wrH t e' = true) : mem (deps.getD i []) j = true := by
  simp only [single, List.all_eq_true, Bool.and_eq_true] at h1
  have hlt : i < effs.length := (List.getElem?_eq_some_iff.1 hi).1
  have := (h1 i (List.mem_range.2 hlt)).2
  rw [List.getD_eq_getElem?_getD, hi] at this
  obtain ⟨p, hp, hpt⟩ := List.any_eq_true.1 ht
  have hq := this p hp j (List.mem_range.2 hji)
  rw [Nat.eq_of_beq_eq_true hpt, List.getD_eq_getElem?_getD, hj] at hq
  simpa [ht'] using hq

theorem wS_any {effs : List Eff} {j t : Nat} (h : wS effs t = some j) : ∃ e, effs[j]? = some e ∧ e.Ws.any (fun p => Nat.beq p.1 t) = true := by
  obtain ⟨hlt, h2, _⟩ := List.findIdx?_eq_some_iff_getElem.1 h
  exact ⟨effs[j], by simp, h2⟩

section
variable {P : Program} {nt : Nat} {C : Cx P nt} {Q0 : Exit → Act → World → Prop} {k : List KI}

theorem drawn_any {ops : Array Oper} {effs : List Eff} {deps : List (List Nat)} {sl : SL} {hp : HL} {Q : Exit → Act → World → Prop}
    (hd : depsOk ops deps = true) (hl : effs.length = ops.size) (h1 : single effs deps = true) (hr : allRead effs deps sl hp 0 effs) (ho : allOps C ops 0 effs)
    (hQ : ∀ a w sl' hp', Rel C ⟨sl', hp'⟩ a w → (∀ t, sget sl' t = curS effs sl (fun _ => true) t) → (∀ t, hget hp' t = curH effs hp (fun _ => true) t) → Q .normal a w) :
    ∀ (fuel : Nat) (listed : Array Bool) (a : Act) (w : World) (sl' : SL) (hp' : HL), listed.size = ops.size → (List.range ops.size).countP (fun i => !listed.getD i true) = fuel →
      (∀ i o, ops[i]? = some o → listed.getD i true = true → ∀ e ∈ o.after, Region.binds .any e = true → listed.getD e.on false = true) →
      Rel C ⟨sl', hp'⟩ a w → (∀ t, sget sl' t = curS effs sl (fun i => listed.getD i false) t) → (∀ t, hget hp' t = curH effs hp (fun i => listed.getD i false) t) → wpAny P .any ops Q fuel listed a w := by
  simp only [depsOk, Bool.and_eq_true, List.all_eq_true, List.mem_range] at hd
  obtain ⟨hdl, hd⟩ := hd
  -- a listed operation has all of its 'deps' listed
  have closed : ∀ (listed : Array Bool), (∀ i o, ops[i]? = some o → listed.getD i true = true → ∀ e ∈ o.after, Region.binds .any e = true → listed.getD e.on false = true) →
      ∀ n i, i < n → i < ops.size → (∀ o, ops[i]? = some o → ∀ e ∈ o.after, Region.binds .any e = true → listed.getD e.on false = true) → ∀ j, mem (deps.getD i []) j = true → listed.getD j false = true := by
    intro listed hcl n
    induction n with
    | zero => intro i h; omega
    | succ n ih =>
      intro i hin hi hdir j hj
      have hdi := hd i hi
      have hoi : ops[i]? = some ops[i] := by simp [hi]
      rw [hoi] at hdi
      simp only [Bool.and_eq_true, List.all_eq_true] at hdi
      obtain ⟨hlt, hdep⟩ := hdi
      have := hdep j (mem_iff.1 hj)
      obtain ⟨e, he, hb⟩ := List.any_eq_true.1 this
      simp only [Bool.and_eq_true, Bool.or_eq_true] at hb
      have hem : e ∈ ops[i].after := Array.mem_toList_iff.1 he
      have hon := hdir _ hoi e hem hb.1
      rcases hb.2 with h2 | h2
      · rw [Nat.eq_of_beq_eq_true h2] at hon; exact hon
      · have hlt' := hlt e he
        simp only [hb.1, Bool.not_true, Bool.false_or, Nat.blt_eq] at hlt'
        refine ih e.on (by omega) (by omega) (fun o ho' e' he' hb' => hcl e.on o ho' ?_ e' he' hb') j h2
        have : e.on < listed.size := by
          cases hc : listed[e.on]? with
          | none => simp [hc] at hon
          | some b => exact (Array.getElem?_eq_some_iff.1 hc).1
        simp only [Array.getD_eq_getD_getElem?, Array.getElem?_eq_getElem this, Option.getD_some] at hon ⊢
        exact hon
  intro fuel
  induction fuel with
  | zero =>
    intro listed a w sl' hp' hsz hcount hcl hrel hs hh
    have hall : ∀ i, i < ops.size → listed.getD i true = true := by
      intro i hi
      have := List.countP_eq_zero.1 hcount i (List.mem_range.2 hi)
      simpa using this
    refine ⟨?_, hQ a w sl' hp' hrel (fun t => ?_) (fun t => ?_)⟩
    · rw [Region.ready, List.filter_eq_nil_iff]
      intro i hi
      simp [hall i (List.mem_range.1 hi)]
    · rw [hs t]
      simp only [curS]
      cases hw : wS effs t with
      | none => rfl
      | some j =>
        obtain ⟨e, he, _⟩ := wS_any hw
        have hj : j < ops.size := by rw [← hl]; exact (List.getElem?_eq_some_iff.1 he).1
        have := hall j hj
        have h2 : listed.getD j false = true := by
          simp only [Array.getD_eq_getD_getElem?, Array.getElem?_eq_getElem (show j < listed.size by omega), Option.getD_some] at this ⊢
          exact this
        simp only [h2]
    · rw [hh t]
      simp only [curH]
      rw [lastH_congr (D' := fun _ => true) (fun j e he _ => ?_)]
      have hj : j < ops.size := by rw [← hl]; exact (List.getElem?_eq_some_iff.1 he).1
      have := hall j hj
      rw [Nat.zero_add]
      simp only [Array.getD_eq_getD_getElem?, Array.getElem?_eq_getElem (show j < listed.size by omega), Option.getD_some] at this ⊢
      exact this
  | succ fuel ih =>
    intro listed a w sl' hp' hsz hcount hcl hrel hs hh
    refine ⟨fun hempty => ?_, fun i hi => ?_⟩
    · -- something is left, and the first of what is left is ready
      exfalso
      have hex : ∃ i, i < ops.size ∧ listed.getD i true = false := by
        have : 0 < (List.range ops.size).countP (fun i => !listed.getD i true) := by omega
        obtain ⟨i, hi, h⟩ := List.countP_pos_iff.1 this
        exact ⟨i, List.mem_range.1 hi, by simpa using h⟩
      have hmin : ∀ n, ∀ i, i < n → i < ops.size → listed.getD i true = false → False := by
        intro n
        induction n with
        | zero => intro i h; omega
        | succ n ihn =>
          intro i hin hi hli
          have hoi : ops[i]? = some ops[i] := by simp [hi]
          have hnr : ¬ i ∈ Region.ready .any ops listed := by rw [hempty]; simp
          have hdi := hd i hi
          rw [hoi] at hdi
          simp only [Bool.and_eq_true, List.all_eq_true] at hdi
          have hbad : ∃ e ∈ ops[i].after, Region.binds .any e = true ∧ listed.getD e.on false = false := by
            refine Classical.byContradiction fun hno => hnr ?_
            rw [Region.ready, List.mem_filter]
            refine ⟨List.mem_range.2 hi, ?_⟩
            rw [hoi]
            simp only [hli, Bool.not_false, Option.map_some, Option.getD_some, Bool.true_and, Array.all_eq_true]
            intro q hq
            have hmem : ops[i].after[q] ∈ ops[i].after := Array.getElem_mem hq
            cases hb : Region.binds .any ops[i].after[q] with
            | false => simp
            | true =>
              cases hx : listed.getD ops[i].after[q].on false with
              | true => simp
              | false => exact absurd ⟨_, hmem, hb, hx⟩ hno
          obtain ⟨e, he, hb, hx⟩ := hbad
          have hlt' := hdi.1 e (Array.mem_toList_iff.2 he)
          simp only [hb, Bool.not_true, Bool.false_or, Nat.blt_eq] at hlt'
          refine ihn e.on (by omega) (by omega) ?_
          have : e.on < listed.size := by omega
          simp only [Array.getD_eq_getD_getElem?, Array.getElem?_eq_getElem this, Option.getD_some] at hx ⊢
          exact hx
      obtain ⟨i, h2, h3⟩ := hex
      exact hmin (i + 1) i (by omega) h2 h3
    · -- operation i comes up
      rw [Region.ready, List.mem_filter] at hi
      obtain ⟨hir, hi2⟩ := hi
      have hilt : i < ops.size := List.mem_range.1 hir
      have hoi : ops[i]? = some ops[i] := by simp [hilt]
      rw [hoi] at hi2
      simp only [Option.map_some, Option.getD_some, Bool.and_eq_true, Bool.not_eq_true', Array.all_eq_true] at hi2
      obtain ⟨hni, hdirect⟩ := hi2
      have hdir : ∀ o, ops[i]? = some o → ∀ e ∈ o.after, Region.binds .any e = true → listed.getD e.on false = true := by
        intro o ho' e he hb
        rw [hoi] at ho'; cases ho'
        obtain ⟨q, hq, rfl⟩ := Array.mem_iff_getElem.1 he
        have := hdirect q hq
        simpa [hb] using this
      have hilt' : i < listed.size := by omega
      have hni' : listed.getD i false = false := by
        simp only [Array.getD_eq_getD_getElem?, Array.getElem?_eq_getElem hilt', Option.getD_some] at hni ⊢
        exact hni
      have hdone : ∀ j, mem (deps.getD i []) j = true → listed.getD j false = true := closed listed hcl (i + 1) i (by omega) hilt hdir
      -- who has i ahead of it is not listed
      have hnot : ∀ j, j < ops.size → mem (deps.getD j []) i = true → listed.getD j false = false := by
        intro j hj hm
        cases hc : listed.getD j false with
        | false => rfl
        | true =>
          have hjt : listed.getD j true = true := by
            have : j < listed.size := by omega
            simp only [Array.getD_eq_getD_getElem?, Array.getElem?_eq_getElem this, Option.getD_some] at hc ⊢
            exact hc
          have := closed listed hcl (j + 1) j (by omega) hj (fun o ho' e he hb => hcl j o ho' hjt e he hb) i hm
          rw [hni'] at this; cases this
      obtain ⟨e, he⟩ : ∃ e, effs[i]? = some e := ⟨effs[i], by simp [hl, hilt]⟩
      have hop := allOps_get ho he
      have hrd := allRead_get hr he
      rw [Nat.zero_add] at hop hrd
      have hHS : ∀ l, readS effs deps sl i l → HasS sl' l := by
        intro l
        induction l with
        | nil => intro _; trivial
        | cons p l ihl =>
          obtain ⟨t, sv⟩ := p
          rintro ⟨q1, q2⟩
          refine ⟨?_, ihl q2⟩
          rw [hs t]
          simp only [curS]
          cases hw : wS effs t with
          | none => rw [hw] at q1; exact q1
          | some j =>
            rw [hw] at q1
            simp only at q1 ⊢
            split at q1
            · rename_i c; rw [if_pos (hdone j c)]; exact q1
            · obtain ⟨e', he', _⟩ := wS_any hw
              have hj : j < ops.size := by rw [← hl]; exact (List.getElem?_eq_some_iff.1 he').1
              rw [if_neg (by rw [hnot j hj q1.1]; simp)]; exact q1.2
      have hHH : ∀ l, readH effs deps hp i l → HasH hp' l := by
        intro l
        induction l with
        | nil => intro _; trivial
        | cons p l ihl =>
          obtain ⟨t, sv⟩ := p
          rintro ⟨q1, q2⟩
          refine ⟨?_, ihl q2⟩
          rw [hh t, ← q1.2]
          simp only [curH]
          rw [lastH_congr (D' := mem (deps.getD i [])) (fun j e' he' hw => ?_)]
          have hj : j < effs.length := (List.getElem?_eq_some_iff.1 he').1
          have hok := List.all_eq_true.1 q1.1 j (List.mem_range.2 hj)
          rw [List.getD_eq_getElem?_getD, he'] at hok
          simp only [Option.getD_some, hw, Bool.not_true, Bool.false_or, Bool.or_eq_true] at hok
          rw [Nat.zero_add]
          cases hm : mem (deps.getD i []) j with
          | true => exact hdone j hm
          | false =>
            rcases hok with hq | hq | hq
            · rw [hm] at hq; cases hq
            · rw [Nat.eq_of_beq_eq_true hq]; exact hni'
            · exact hnot j (by rw [← hl]; exact hj) hq
      have hgetset : ∀ j, (listed.setIfInBounds i true).getD j false = if j = i then true else listed.getD j false := by
        intro j
        simp only [Array.getD_eq_getD_getElem?, Array.getElem?_setIfInBounds]
        by_cases c : i = j
        · subst c; simp [hilt']
        · rw [if_neg c, if_neg (fun c' => c c'.symm)]
      have hgetset' : ∀ j, (listed.setIfInBounds i true).getD j true = if j = i then true else listed.getD j true := by
        intro j
        simp only [Array.getD_eq_getD_getElem?, Array.getElem?_setIfInBounds]
        by_cases c : i = j
        · subst c; simp [hilt']
        · rw [if_neg c, if_neg (fun c' => c c'.symm)]
      refine hop.go sl' hp' (hHS _ hrd.1) (hHH _ hrd.2) a w _ _ hrel fun a' w' hrel' => ?_
      refine ih (listed.setIfInBounds i true) a' w' _ _ (by simpa using hsz) ?_ ?_ hrel' (fun t => ?_) (fun t => ?_)
      · -- one fewer is left
        have e1 : ∀ (l : List Nat), l.Nodup → i ∈ l → l.countP (fun j => !listed.getD j true) = l.countP (fun j => !(listed.setIfInBounds i true).getD j true) + 1 := by
          intro l
          induction l with
          | nil => intro _ h; cases h
          | cons x l ihl =>
            intro hnd hm
            rw [List.countP_cons, List.countP_cons, hgetset']
            rw [List.nodup_cons] at hnd
            by_cases c : x = i
            · subst c
              have : ∀ j ∈ l, (!listed.getD j true) = (!(listed.setIfInBounds x true).getD j true) := by
                intro j hj
                rw [hgetset', if_neg (fun c : j = x => hnd.1 (c ▸ hj))]
              rw [List.countP_congr (fun j hj => by rw [this j hj])]
              simp [hni]
            · have hm' : i ∈ l := (List.mem_cons.1 hm).resolve_left (fun c' => c c'.symm)
              rw [ihl hnd.2 hm', if_neg c]
              omega
        have := e1 (List.range ops.size) List.nodup_range hir
        omega
      · intro j o ho' hj e' he' hb
        rw [hgetset]
        split
        · rfl
        · rw [hgetset'] at hj
          by_cases c : j = i
          · subst c; exact hdir o ho' e' he' hb
          · rw [if_neg c] at hj; exact hcl j o ho' hj e' he' hb
      · rw [sget_app]
        simp only [curS]
        by_cases c : e.Ws.any (fun p => Nat.beq p.1 t) = true
        · rw [if_pos c, wS_some h1 he c]
          simp only [hgetset, if_true]
          rw [List.getD_eq_getElem?_getD, he]; rfl
        · rw [if_neg c, hs t]
          simp only [curS]
          cases hw : wS effs t with
          | none => rfl
          | some j =>
            have hji : j ≠ i := fun c' => by
              subst c'
              obtain ⟨e', he', h3⟩ := wS_any hw
              rw [he] at he'; cases he'; exact c h3
            simp only [hgetset, if_neg hji]
      · rw [hget_app]
        simp only [curH]
        by_cases c : e.Wh.any (fun p => Nat.beq p.1 t) = true
        · rw [if_pos c, lastH_top he c (by rw [Nat.zero_add, hgetset]; simp) (fun j e' hij hj hw => ?_)]
          · rfl
          · rw [Nat.zero_add, hgetset, if_neg (by omega)]
            have hjl : j < ops.size := by rw [← hl]; exact (List.getElem?_eq_some_iff.1 hj).1
            exact hnot j hjl (wH_order h1 hj hw hij he c)
        · rw [if_neg c, hh t]
          simp only [curH]
          rw [lastH_congr (fun j e' hj hw => ?_)]
          rw [Nat.zero_add, hgetset]
          by_cases hji : j = i
          · subst hji; rw [he] at hj; cases hj; exact absurd hw c
          · rw [if_neg hji]

/-- what is in the slots in the end: a list of slots and blocks that are looked up there -/
def endS (effs : List Eff) (sl : SL) : SL → Prop
  | [] => True
  | (t, sv) :: r => curS effs sl (fun _ => true) t = some sv ∧ endS effs sl r
def endH (effs : List Eff) (hp : HL) : HL → Prop
  | [] => True
  | (t, sv) :: r => curH effs hp (fun _ => true) t = sv ∧ endH effs hp r

theorem G.drawn {id : Nat} {l : List Oper} {effs : List Eff} {deps : List (List Nat)} {sl sl' : SL} {hp hp' : HL} (hm : P.follows .mixedOrders = true)
    (hd : depsOk l.toArray deps = true) (hl : effs.length = l.length) (h1 : single effs deps = true) (hr : allRead effs deps sl hp 0 effs) (ho : allOps C l.toArray 0 effs)
    (hs : endS effs sl sl') (hh : endH effs hp hp') (hw : wellId sl' hp' = true) (hk : G C Q0 k ⟨sl', hp'⟩) : G C Q0 (.c (.region id l.toArray true) :: k) ⟨sl, hp⟩ := ⟨fun a w ⟨β, r⟩ => by
  refine wp_region_any hm ?_
  have hrel : Rel C ⟨sl, hp⟩ a { w with drawn := w.drawn + 1 } := ⟨β, r.put_none ⟨rfl, rfl, rfl, Nat.le_refl _, fun _ _ => rfl⟩⟩
  have hrep : ∀ i, (Array.replicate l.toArray.size false).getD i false = false := fun i => by
    simp only [Array.getD_eq_getD_getElem?, Array.getElem?_replicate]
    split <;> rfl
  refine drawn_any hd (by simpa using hl) h1 hr ho (fun a w sl1 hp1 r1 e1 e2 => ?_) _ _ a _ sl hp (by simp) ?_ ?_ hrel (fun t => ?_) (fun t => ?_)
  · have hS : ∀ l, endS effs sl l → HasS sl1 l := by
      intro l
      induction l with
      | nil => intro _; trivial
      | cons p l ih => obtain ⟨t, sv⟩ := p; rintro ⟨q1, q2⟩; exact ⟨(e1 t).trans q1, ih q2⟩
    have hH : ∀ l, endH effs hp l → HasH hp1 l := by
      intro l
      induction l with
      | nil => intro _; trivial
      | cons p l ih => obtain ⟨t, sv⟩ := p; rintro ⟨q1, q2⟩; exact ⟨(e2 t).trans q1, ih q2⟩
    exact hk.go a w (r1.keepOnly (hS _ hs) (hH _ hh) hw)
  · have : ∀ (l' : List Nat), (∀ i ∈ l', i < l.toArray.size) → l'.countP (fun i => !(Array.replicate l.toArray.size false).getD i true) = l'.length := by
      intro l' hl'
      rw [List.countP_eq_length]
      intro i hi
      have := hl' i hi
      simp only [Array.getD_eq_getD_getElem?, Array.getElem?_replicate, if_pos this]
      rfl
    rw [this _ (fun i hi => List.mem_range.1 hi)]
    simp
  · intro i o hio hli
    have hi : i < l.toArray.size := (Array.getElem?_eq_some_iff.1 hio).1
    simp only [Array.getD_eq_getD_getElem?, Array.getElem?_replicate, if_pos hi] at hli
    cases hli
  · simp only [curS]
    cases wS effs t with
    | none => rfl
    | some j => simp only [hrep, Bool.false_eq_true, if_false]
  · simp only [curH]
    rw [lastH_none (fun j e hj hw => hrep _)]
    rfl⟩
end
end Go.Ab

/- The abstract machine: pieces of slices and texts, a byte of a text, an append to a slice without room, structs held against each other, bytes made a text. Conditions: none but those that stand in each law. -/
namespace Go.Ab
open Go Go.RowKit

inductive EvO : Option Operand → Option Int → List (Nat × SV) → Prop
  | none : EvO none none []
  | some {x : Operand} {i : Int} {R : List (Nat × SV)} (h : Ev x (bI .i64 i) R) : EvO (some x) (some i) R

theorem EvO.ok {P : Program} {nt : Nat} {C : Cx P nt} {sl : SL} {hp : HL} {β : Nat → Option Nat} {a : Act} {w : World} {x : Option Operand} {i : Option Int} {R : List (Nat × SV)}
    (hx : EvO x i R) (hs : HasS sl R) (r : RelB C ⟨sl, hp⟩ β a w) : x.map a.eval = i.map (Value.int .i64) := by
  cases hx with
  | none => rfl
  | some h => simp [BR.v_inv (h.ok hs r)]

theorem run_bounds {P : Program} {w : World} {b : Bool} {len cap : Nat} {lo hi : Option Int} (h0 : 0 ≤ lo.getD 0) (h1 : lo.getD 0 ≤ hi.getD len) (h2 : hi.getD len ≤ len) (h3 : len ≤ cap) :
    (Instr.sliceBounds b len cap (lo.map (Value.int .i64)) (hi.map (Value.int .i64)) none).run P w = .ok ((lo.getD 0).toNat, (hi.getD len).toNat, cap) w := by
  cases lo <;> cases hi <;> simp only [Option.getD_some, Option.getD_none] at h0 h1 h2 <;> simp only [Instr.sliceBounds, Option.map_none, Option.map_some, Instr.sliceBound, asIntOf, Sem.run_bind, Sem.run_pure, Result.andThen_ok, Option.getD_some, Option.getD_none]
  · simp
  · rename_i v
    have : 0 ≤ v ∧ v ≤ (cap : Int) := ⟨h1, by omega⟩
    simp [this]
  · rename_i v
    have : 0 ≤ v ∧ v ≤ (len : Int) := ⟨h0, h1⟩
    simp [this]
  · rename_i v v'
    have a1 : 0 ≤ v' ∧ v' ≤ (cap : Int) := ⟨by omega, by omega⟩
    have a2 : 0 ≤ v ∧ v ≤ ((v'.toNat : Nat) : Int) := ⟨h0, by omega⟩
    simp only [a1, a2, and_self, if_true, Sem.run_pure, Result.andThen_ok, Option.isSome_none, Bool.false_eq_true, if_false]

section
variable {P : Program} {nt : Nat} {C : Cx P nt} {dst : Nat} {ty : TypeId} {pos : String} {af : Array Edge} {gd : Option (Nat × Bool)} {x y z : Operand} {R R1 R2 R3 : List (Nat × SV)}

theorem take_drop_get {α : Type} (es : List α) (l h : Nat) (i : Nat) (c : α) (hi : ((es.take h).drop l)[i]? = some c) : es[l + i]? = some c ∧ l + i < h := by
  rw [List.getElem?_drop, List.getElem?_take] at hi
  split at hi
  · exact ⟨hi, by assumption⟩
  · cases hi

theorem RD.sub {M : Nat → Nat → Prop} {w : World} {a : Option Addr} {cap size : Nat} {es : List (List DV)} (h : RD M w (.slice a es.length cap) (.sl size es)) {l hh cap' : Nat} (h1 : l ≤ hh) (h2 : hh ≤ es.length) (hc' : hh ≤ cap') (hcap : cap' ≤ cap) :
    RD M w (.slice (if cap' = l then a else a.map (·.add (l * size))) (hh - l) (cap' - l)) (.sl size ((es.take hh).drop l)) := by
  generalize hu : Value.slice a es.length cap = u at h
  cases h with
  | sl a' capx _ _ vals b o hc hm ha hs hv hr =>
    simp only [Value.slice.injEq] at hu
    obtain ⟨rfl, _, rfl⟩ := hu
    have hlen : ((es.take hh).drop l).length = hh - l := by rw [List.length_drop, List.length_take, Nat.min_eq_left h2]
    rw [← hlen]
    refine RD.sl _ (cap' - l) size _ (fun i j => vals (l + i) j) b (o + l * size) (by rw [hlen]; omega) (by omega) (fun hne => ?_) (fun cs hcs => hs cs (List.mem_of_mem_take (List.mem_of_mem_drop hcs))) (fun i cs j d hi hj => ?_) (fun i cs j d hi hj => ?_)
    · have hpos : 0 < ((es.take hh).drop l).length := List.length_pos_iff.2 hne
      rw [hlen] at hpos
      rw [if_neg (by omega), ha (fun c => by simp [c] at h2; omega)]
      simp [Addr.add_lit]
    · obtain ⟨h3, _⟩ := take_drop_get es l hh i cs hi
      have := hv (l + i) cs j d h3 hj
      rw [show o + ((l + i) * size + j) = o + l * size + (i * size + j) by rw [Nat.add_mul]; omega] at this
      exact this
    · obtain ⟨h3, _⟩ := take_drop_get es l hh i cs hi
      exact hr (l + i) cs j d h3 hj

theorem op_sliceD {T E size bytes : Nat} {zz : Value} {es es' : List (List DV)} {ox oy : Option Operand} {lo hi : Option Int} (hT : P.underlying T = some (.slice E)) (hI : Info P E zz size bytes)
    (h0 : 0 ≤ lo.getD 0) (h1 : lo.getD 0 ≤ hi.getD es.length) (h2 : hi.getD es.length ≤ es.length) (he : (es.take (hi.getD es.length).toNat).drop (lo.getD 0).toNat = es')
    (hx : Ev x (.g (.d (.sl size es))) R1) (hlo : EvO ox lo R2) (hhi : EvO oy hi R3) (hd : Nat.blt dst nt = true) :
    OpL C (Oo dst (.slice T x ox oy none) ty pos af gd) (R1 ++ (R2 ++ R3)) [] [(dst, .one (.g (.d (.sl size es'))))] [] :=
  opl_pure hd rfl fun sl hp β a w hs _ r => by
    have h3 : RD (Mu C hp β) w _ _ := hx.ok hs.app.1 r
    have e1 := hlo.ok hs.app.2.app.1 r
    have e2 := hhi.ok hs.app.2.app.2 r
    obtain ⟨ad, cap, hu, hle⟩ : ∃ ad cap, a.eval x = .slice ad es.length cap ∧ es.length ≤ cap := by
      generalize hxx : a.eval x = u at h3
      cases h3; exact ⟨_, _, rfl, by assumption⟩
    rw [hu] at h3
    have hsub := h3.sub (l := (lo.getD 0).toNat) (hh := (hi.getD es.length).toNat) (cap' := cap) (by omega) (by omega) (by omega) (Nat.le_refl _)
    rw [he] at hsub
    refine ⟨_, ?_, hsub⟩
    simp only [execOp, hu, e1, e2, Option.map_none, Instr.sliceAt, Sem.run_bind, run_underlying hT, Result.andThen_ok, Instr.slice, run_bounds h0 h1 h2 hle, hI.sizeOf, Sem.run_pure]

theorem op_sliceS {T : Nat} {s : ByteArray} {ox oy : Option Operand} {lo hi : Option Int} (hT : P.underlying T = some .string)
    (h0 : 0 ≤ lo.getD 0) (h1 : lo.getD 0 ≤ hi.getD s.size) (h2 : hi.getD s.size ≤ s.size)
    (hx : Ev x (bS s) R1) (hlo : EvO ox lo R2) (hhi : EvO oy hi R3) (hd : Nat.blt dst nt = true) :
    OpL C (Oo dst (.slice T x ox oy none) ty pos af gd) (R1 ++ (R2 ++ R3)) [] [(dst, .one (bS (s.extract (lo.getD 0).toNat (hi.getD s.size).toNat)))] [] :=
  opl_pure hd rfl fun sl hp β a w hs _ r => by
    have hu := BR.v_inv (hx.ok hs.app.1 r)
    have e1 := hlo.ok hs.app.2.app.1 r
    have e2 := hhi.ok hs.app.2.app.2 r
    refine ⟨_, ?_, RD.v _ rfl⟩
    simp only [execOp, hu, e1, e2, Option.map_none, Instr.sliceAt, Sem.run_bind, run_underlying hT, Result.andThen_ok, Instr.slice, Option.isSome_none, Bool.false_eq_true, if_false, run_bounds h0 h1 h2 (Nat.le_refl _), Sem.run_pure]

theorem op_indexS {T : Nat} {s : ByteArray} {k : IntKind} {i : Int} {b : UInt8} (hT : P.underlying T = some .string) (h0 : 0 ≤ i) (hi : s[i.toNat]? = some b) (hx : Ev x (bS s) R1) (hy : Ev y (bI k i) R2) (hd : Nat.blt dst nt = true) :
    OpL C (Oo dst (.index T x y) ty pos af gd) (R1 ++ R2) [] [(dst, .one (bI .u8 (b.toNat : Int)))] [] :=
  opl_pure hd rfl fun sl hp β a w hs _ r => by
    have hu := BR.v_inv (hx.ok hs.app.1 r)
    have hv := BR.v_inv (hy.ok hs.app.2 r)
    exact ⟨.int .u8 b.toNat, by simp [execOp, hu, hv, Instr.index, asIntOf, run_underlying hT, h0, hi], RD.v _ rfl⟩

/-- an append to a slice that has no room: what comes out is new, or what was there -/
theorem op_appendC {T E : TypeId} {zz : Value} {size bytes : Nat} {es news es' : List (List DV)} (hT : P.underlying T = some (.slice E)) (hI : Info P E zz size bytes) (hzs : Nat.beq zz.cells.size size = true) (hsz0 : Nat.blt 0 size = true)
    (he : es ++ news = es') (hb1 : es'.length ≤ 1099511627776) (hb2 : es'.length * bytes ≤ 140737488355328)
    (hx : Ev x (.cp size es) R1) (hy : Ev y (.g (.d (.sl size news))) R2) (hd : Nat.blt dst nt = true) :
    OpL C (Oo dst (cApp x y T) ty pos af gd) (R1 ++ R2) [] [(dst, .one (.g (.d (.sl size es'))))] [] :=
  opl_below hd rfl fun sl hp β a w hs _ r => by
    have hzs := Nat.eq_of_beq_eq_true hzs
    have hz : 0 < size := by simpa using hsz0
    obtain ⟨hxr, ado, n0, hu0⟩ := hx.ok hs.app.1 r
    have hlen : es'.length = es.length + news.length := by rw [← he]; simp
    obtain ⟨a0, c0, ov, hxv, _, _, hosz, hol, _, hor, hoa⟩ := RD.flat hz hxr
    obtain ⟨a', c', nv, hyv, hcc, hcm, hnsz, hnl, hn1, hnr, hna⟩ := RD.flat hz (hy.ok hs.app.2 r)
    rw [hu0] at hxv
    simp only [Value.slice.injEq] at hxv
    obtain ⟨rfl, rfl, rfl⟩ := hxv
    by_cases hm0 : news = []
    · subst hm0
      have hee : es' = es := by rw [← he]; simp
      subst hee
      exact ⟨_, w, run_app (by rw [hu0, hyv]; exact run_append_zero hT hI (Nat.le_refl _)), Below.refl _ _, by rw [← hu0]; exact hxr⟩
    · obtain ⟨ad, rfl, hcells⟩ := hna hm0
      have hnpos : 0 < news.length := List.length_pos_iff.2 hm0
      obtain ⟨i, hi1, hi2, hi3, hi4⟩ := hI
      subst hi3
      subst hi4
      have hmax : es'.length ≤ maxLen := by unfold maxLen; omega
      have hsz' : ∀ cs, cs ∈ es' → cs.length = i.size := by
        intro cs hcs
        rw [← he] at hcs
        rcases List.mem_append.1 hcs with h | h
        · exact hosz cs h
        · exact hnsz cs h
      have fin : (Builtin.append_ #[T, T] ty #[a.eval x, a.eval y]).run P w = .ok (.slice (some ⟨w.heap.size, 0, none⟩) es'.length (grownCap w es'.length es.length E))
          (w.drew.alloc (.cells (ov.toArray ++ nv.toArray ++ Builtin.zeroCells zz.cells (grownCap w es'.length es.length E - es'.length)) E)) →
          ∃ v w', (execOp a.eval (Oo dst (cApp x y T) ty pos af gd)).run P w = .ok (.value v) w' ∧ Below w.heap.size w w' ∧ SR C hp β w' (.one (.g (.d (.sl i.size es')))) v := by
        intro hrun
        have hbel : Below w.heap.size w (w.drew.alloc (.cells (ov.toArray ++ nv.toArray ++ Builtin.zeroCells zz.cells (grownCap w es'.length es.length E - es'.length)) E)) := ⟨rfl, rfl, rfl, by simp, fun k hk => heap_alloc_old w.drew _ hk⟩
        have hnew : (w.drew.alloc (.cells (ov.toArray ++ nv.toArray ++ Builtin.zeroCells zz.cells (grownCap w es'.length es.length E - es'.length)) E)).heap[w.heap.size]? = some (.cells (ov.toArray ++ nv.toArray ++ Builtin.zeroCells zz.cells (grownCap w es'.length es.length E - es'.length)) E (0, 0)) := heap_alloc_new w.drew _
        have hparts := row_parts (rest := (Builtin.zeroCells zz.cells (grownCap w es'.length es.length E - es'.length)).toList) he hol hor hnr
        refine ⟨_, _, run_app hrun, hbel, ?_⟩
        refine RD.sl _ _ i.size es' (fun i' j => (ov ++ nv ++ (Builtin.zeroCells zz.cells (grownCap w es'.length es.length E - es'.length)).toList).getD (i' * i.size + j) undef) w.heap.size 0 (grownCap_ge w _ _ E) (grownCap_le_maxLen w _ _ E hmax) (fun _ => rfl) hsz' (fun i' cs j d hi' hj => ?_) (fun i' cs j d hi' hj => ?_)
        · obtain ⟨v, h1, _⟩ := hparts i' cs j d hi' hj
          refine ⟨?_, fun c => Nat.lt_irrefl _ (r.mut_lt c)⟩
          rw [cell_of_row _ _ _ _ E _ hnew, Nat.zero_add]
          have e : (ov.toArray ++ nv.toArray ++ Builtin.zeroCells zz.cells (grownCap w es'.length es.length E - es'.length)) = (ov ++ nv ++ (Builtin.zeroCells zz.cells (grownCap w es'.length es.length E - es'.length)).toList).toArray := by simp
          rw [e, List.getElem?_toArray, h1, List.getD_eq_getElem?_getD, h1]
          rfl
        · obtain ⟨v, h1, h2⟩ := hparts i' cs j d hi' hj
          rw [List.getD_eq_getElem?_getD, h1]
          exact h2.mono (below_kept hbel)
      cases ado with
      | none =>
        have hes : es = [] := by
          refine Classical.byContradiction fun c => ?_
          obtain ⟨ad', h, _⟩ := hoa c
          cases h
        subst hes
        simp only [List.nil_append] at he
        subst he
        have hov : ov = [] := List.eq_nil_of_length_eq_zero (by simpa using hol)
        subst hov
        have hbytes : Builtin.nextslicecap news.length 0 * i.bytes ≤ 281474976710656 := growslice_fits (by omega) hb2
        have hr := run_append_nil (P := P) w T ty E i zz hT hi1 hi2 ad news.length c' nv hnl hcells hnpos (by unfold maxLen at hmax; omega) (by omega)
        refine fin ?_
        rw [hu0, hyv]
        simpa using hr
      | some ad0 =>
        have holds : ∀ j v, ov[j]? = some v → w.cell? (ad0.add j) = some v := by
          intro j v hj
          have hne : es ≠ [] := fun c => by subst c; have : ov = [] := List.eq_nil_of_length_eq_zero (by simpa using hol); subst this; simp at hj
          obtain ⟨ad', h, h2⟩ := hoa hne
          cases h
          exact h2 j v hj
        have hr := run_append_grow (P := P) w T ty E i zz hT hi1 hi2 ad0 es.length es.length ov hol holds ad news.length c' nv hnl hcells (by omega) (by unfold maxLen at hmax; omega) (growslice_fits (by omega) (by rw [← hlen]; exact hb2))
        exact fin (by rw [hu0, hyv, hr, ← hlen])

def bytesOf (ns : List Int) : ByteArray := ⟨(ns.map fun n => UInt8.ofNat n.toNat).toArray⟩

theorem op_toText {S E T : TypeId} {ns : List Int} {es : List (List DV)} (hS : P.underlying S = some (.slice E)) (hE : P.underlying E = some (.int .u8)) (hT : P.underlying T = some .string) (he : es = ns.map fun n => [.v (.int .u8 n)]) (hx : Ev x (.g (.d (.sl 1 es))) R) (hd : Nat.blt dst nt = true) :
    OpL C (Oo dst (.convert S T x) ty pos af gd) R [] [(dst, .one (bS (bytesOf ns)))] [] :=
  opl_pure hd rfl fun sl hp β a w hs _ r => by
    obtain ⟨ad, cap, nv, hu, _, _, _, hnl, _, hr, hc⟩ := RD.flat (by omega) (hx.ok hs r)
    have hnv : nv = ns.map (Value.int .u8) := by
      refine List.ext_getElem? fun j => ?_
      by_cases c : j < ns.length
      · obtain ⟨v, h1, h2⟩ := hr j [.v (.int .u8 ns[j])] 0 (.v (.int .u8 ns[j])) (by simp [he, c]) rfl
        rw [RD.v_inv h2] at h1
        simpa [c] using h1
      · have : nv.length ≤ j := by rw [hnl, he]; simp; omega
        simp [this, Nat.le_of_not_lt c]
    have hel : es.length = ns.length := by rw [he]; simp
    refine ⟨.string (bytesOf ns), ?_, RD.v _ rfl⟩
    have loop : ∀ (f : Value → ByteArray → Sem (ForInStep ByteArray)) (_ : ∀ n s, f (.int .u8 n) s = pure (.yield (s.push (UInt8.ofNat n.toNat)))) (l : List Int) (acc : ByteArray),
        (forIn (l.map (Value.int .u8)).toArray acc f).run P w = .ok ⟨acc.data ++ (l.map fun n => UInt8.ofNat n.toNat).toArray⟩ w := by
      intro f hf l
      induction l with
      | nil => intro acc; simp
      | cons n l ih =>
        intro acc
        have := ih (acc.push (UInt8.ofNat n.toNat))
        simp only [List.map_cons, List.forIn_toArray, List.forIn_cons, Sem.run_bind, Sem.run_pure, Result.andThen_ok, hf] at this ⊢
        rw [this]
        simp [ByteArray.push]
    have hl : ad.isSome = true ∨ es = [] := by
      by_cases c : es = []
      · exact .inr c
      · obtain ⟨ad', h, _⟩ := hc c; exact .inl (by simp [h])
    cases had : ad with
    | none =>
      rw [had] at hl
      have h0 : es = [] := by simpa using hl
      have hn0 : ns = [] := List.eq_nil_of_length_eq_zero (by rw [← hel, h0]; rfl)
      subst hn0
      simp [execOp, hu, had, convert, run_underlying hS, run_underlying hT, run_underlying hE, Conv.bytesToString, bytesOf]
      rfl
    | some ad1 =>
      have hload : (loadCells ad1 es.length).run P w = .ok (ns.map (Value.int .u8)).toArray w := by
        by_cases c : es = []
        · have hn0 : ns = [] := List.eq_nil_of_length_eq_zero (by rw [← hel, c]; rfl)
          subst hn0
          simp [c, loadCells, loadCellsFrom]
        · obtain ⟨ad', h, h2⟩ := hc c
          rw [had] at h; cases h
          have := run_loadCells (P := P) w ad1 es.length (fun j => nv.getD j undef) (fun j hj => h2 j _ (by simp [List.getD_eq_getElem?_getD, hnl, hj]))
          rw [this]
          congr 2
          refine List.ext_getElem? fun j => ?_
          by_cases cj : j < ns.length
          · simp [hnv, hel, cj]
          · simp [hnv, hel, Nat.le_of_not_lt cj]
      simp only [execOp, hu, had, convert, run_underlying hS, run_underlying hT, run_underlying hE, Conv.bytesToString, Sem.run_bind, Result.andThen_ok, hload]
      rw [loop _ (fun _ _ => rfl) ns ByteArray.empty]
      simp only [Result.andThen_ok, Sem.run_pure]
      have : (ByteArray.empty.data ++ (ns.map fun n => UInt8.ofNat n.toNat).toArray) = (ns.map fun n => UInt8.ofNat n.toNat).toArray := by
        show (#[] : Array UInt8) ++ _ = _
        simp
      rw [this]
      rfl
end
end Go.Ab

/- The abstract machine: joins and loops for walks that a program writes; the words in which functions are told (options, loops by rounds). Conditions: none but those that stand in each law. -/
namespace Go.Ab
open Go Go.RowKit

/-- as many rounds as there are -/
def loopF {T R : Type} (body : (T → Option R) → T → Option R) : Nat → T → Option R
  | 0, _ => none
  | n + 1, v => body (loopF body n) v

/-- more rounds than any walk takes -/
def FU : Nat := 2 ^ 70

def idx {α : Type} (xs : List α) (i : Int) : Option α := if 0 ≤ i then xs[i.toNat]? else none
def app {α : Type} (bytes : Nat) (xs ys : List α) : Option (List α) := if (xs ++ ys).length ≤ 1099511627776 ∧ (xs ++ ys).length * bytes ≤ 140737488355328 then some (xs ++ ys) else none
def sub {α : Type} (xs : List α) (lo hi : Int) : Option (List α) := if 0 ≤ lo ∧ lo ≤ hi ∧ hi ≤ xs.length then some ((xs.take hi.toNat).drop lo.toNat) else none
def ssub (s : ByteArray) (lo hi : Int) : Option ByteArray := if 0 ≤ lo ∧ lo ≤ hi ∧ hi ≤ s.size then some (s.extract lo.toNat hi.toNat) else none
def sidx (s : ByteArray) (i : Int) : Option UInt8 := if 0 ≤ i then s[i.toNat]? else none
def scat (s t : ByteArray) : Option ByteArray := if s.size + t.size ≤ 9223372036854775807 then some (s ++ t) else none
def chk {R : Type} (b : Bool) (x : Option R) : Option R := if b = true then x else none

theorem bindS {α β : Type} {x : Option α} {f : α → Option β} {r : β} (h : x.bind f = some r) : ∃ v, x = some v ∧ f v = some r := Option.bind_eq_some_iff.1 h
theorem ifS {α : Type} {b : Bool} {X Y : Option α} {r : α} {p : Prop} (hF : (if b = true then X else Y) = some r) (h1 : b = true → X = some r → p) (h2 : b = false → Y = some r → p) : p := by
  cases b
  · exact h2 rfl (by simpa using hF)
  · exact h1 rfl (by simpa using hF)
theorem chkS {α : Type} {b : Bool} {X : Option α} {r : α} (hF : chk b X = some r) : b = true ∧ X = some r := by
  unfold chk at hF
  cases b
  · simp at hF
  · exact ⟨rfl, by simpa using hF⟩

theorem idx_ok {α : Type} {xs : List α} {i : Int} {x : α} (h : idx xs i = some x) : 0 ≤ i ∧ xs[i.toNat]? = some x := by
  unfold idx at h
  split at h
  · exact ⟨by assumption, h⟩
  · cases h
theorem idx_get {α β : Type} {xs : List α} {i : Int} {x : α} (h : idx xs i = some x) (f : α → β) : (xs.map f)[i.toNat]? = some (f x) := by rw [List.getElem?_map, (idx_ok h).2]; rfl
theorem app_eq {α : Type} {n : Nat} {xs ys zs : List α} (h : app n xs ys = some zs) : zs = xs ++ ys ∧ zs.length ≤ 1099511627776 ∧ zs.length * n ≤ 140737488355328 := by
  unfold app at h
  split at h
  · rename_i c; cases h; exact ⟨rfl, c⟩
  · cases h
theorem app_map {α β : Type} {n : Nat} {xs ys zs : List α} (h : app n xs ys = some zs) (f : α → β) : xs.map f ++ ys.map f = zs.map f := by rw [(app_eq h).1, List.map_append]
theorem app_b1 {α β : Type} {n : Nat} {xs ys zs : List α} (h : app n xs ys = some zs) (f : α → β) : (zs.map f).length ≤ 1099511627776 := by rw [List.length_map]; exact (app_eq h).2.1
theorem app_b2 {α β : Type} {n : Nat} {xs ys zs : List α} (h : app n xs ys = some zs) (f : α → β) : (zs.map f).length * n ≤ 140737488355328 := by rw [List.length_map]; exact (app_eq h).2.2
theorem sub_ok {α β : Type} {xs zs : List α} {lo hi : Int} (h : sub xs lo hi = some zs) (f : α → β) : 0 ≤ lo ∧ lo ≤ hi ∧ hi ≤ (xs.map f).length ∧ ((xs.map f).take hi.toNat).drop lo.toNat = zs.map f := by
  unfold sub at h
  split at h
  · rename_i c
    cases h
    exact ⟨c.1, c.2.1, by rw [List.length_map]; exact c.2.2, by rw [List.map_drop, List.map_take]⟩
  · cases h
theorem sub_okE {α β : Type} {xs zs : List α} {lo : Int} (h : sub xs lo xs.length = some zs) (f : α → β) : 0 ≤ lo ∧ lo ≤ (xs.map f).length ∧ ((xs.map f).take ((xs.map f).length : Int).toNat).drop lo.toNat = zs.map f := by
  obtain ⟨h1, h2, h3, h4⟩ := sub_ok h f
  refine ⟨h1, by rw [List.length_map]; exact h2, ?_⟩
  rw [List.length_map]; exact h4
theorem ssub_ok {s t : ByteArray} {lo hi : Int} (h : ssub s lo hi = some t) : 0 ≤ lo ∧ lo ≤ hi ∧ hi ≤ s.size ∧ s.extract lo.toNat hi.toNat = t := by
  unfold ssub at h
  split at h
  · rename_i c
    cases h
    exact ⟨c.1, c.2.1, c.2.2, rfl⟩
  · cases h
theorem sidx_ok {s : ByteArray} {i : Int} {b : UInt8} (h : sidx s i = some b) : 0 ≤ i ∧ s[i.toNat]? = some b := by
  unfold sidx at h
  split at h
  · exact ⟨by assumption, h⟩
  · cases h
theorem scat_ok {s t u : ByteArray} (h : scat s t = some u) : s.size + t.size ≤ 9223372036854775807 ∧ s ++ t = u := by
  unfold scat at h
  split at h
  · cases h; exact ⟨by assumption, rfl⟩
  · cases h

section
variable {P : Program} {nt : Nat} {C : Cx P nt} {Q0 : Exit → Act → World → Prop} {k : List KI} {it : KI}

/-- the ways through 'it' meet again behind it -/
theorem G.joinC {T : Type} {st : St} (S : T → St) (hyp : T → Prop) (h1 : ∀ x, hyp x → G C Q0 k (S x)) (h2 : (∀ x, hyp x → G C Q0 k (S x)) → G C Q0 (it :: k) st) : G C Q0 (it :: k) st := h2 h1

theorem G.loopF {T R : Type} {st : St} {x : Code} {body : (T → Option R) → T → Option R} {n : Nat} {v : T} {r : R} (S : T → St) (hF : loopF body n v = some r) (hst : S v = st)
    (round : ∀ (K : Act → World → Prop) (again : T → Option R) (v : T), (∀ v', again v' = some r → G C Q0 (.q K :: k) (S v')) → body again v = some r → G C Q0 (.c x :: .q K :: k) (S v)) : G C Q0 (.c (.loop x) :: k) st := by
  subst hst
  refine G.loop (fun n st => ∃ v, st = S v ∧ Go.Ab.loopF body n v = some r) n ⟨v, rfl, hF⟩ ?_
  rintro n st ⟨v, rfl, hF⟩
  cases n with
  | zero => cases hF
  | succ n => exact round _ (Go.Ab.loopF body n) v (fun v' h => G.again (Nat.lt_succ_self n) ⟨v', rfl, h⟩) hF

/-- a truth value that is known -/
theorem G.known {sl : SL} {hp : HL} {t : Nat} {b c : Bool} (hb : b = c) (hs : sget sl t = some (.one (bB b))) (h : G C Q0 k ⟨(t, .one (bB c)) :: sl, hp⟩) : G C Q0 k ⟨sl, hp⟩ :=
  ⟨fun a w ⟨β, r⟩ => h.go a w ⟨β, r.slot (sv := .one (bB c)) (hb ▸ r.sl t _ hs)⟩⟩

theorem OpL.cast {o : Oper} {dst : Nat} {Rs : List (Nat × SV)} {Rh : List (Nat × Option HE)} {c c' : BV} (h : OpL C o Rs Rh [(dst, .one c)] []) (e : c = c') : OpL C o Rs Rh [(dst, .one c')] [] := e ▸ h

theorem G.op1 {ops : Array Oper} {rest : List Oper} {o : Oper} {sl : SL} {hp : HL} {dst : Nat} {sv : SV} {Rs : List (Nat × SV)} {Rh : List (Nat × Option HE)}
    (h : OpL C o Rs Rh [(dst, sv)] []) (hg : o.guard = none) (hs : HasS sl Rs) (hh : HasH hp Rh) (hk : G C Q0 (.l ops rest :: k) ⟨(dst, sv) :: sl, hp⟩) : G C Q0 (.l ops (o :: rest) :: k) ⟨sl, hp⟩ := G.op h hg hs hh rfl rfl hk
theorem G.op2 {ops : Array Oper} {rest : List Oper} {o : Oper} {sl : SL} {hp : HL} {dst kk : Nat} {sv : SV} {e : Option HE} {Rs : List (Nat × SV)} {Rh : List (Nat × Option HE)}
    (h : OpL C o Rs Rh [(dst, sv)] [(kk, e)]) (hg : o.guard = none) (hs : HasS sl Rs) (hh : HasH hp Rh) (hk : G C Q0 (.l ops rest :: k) ⟨(dst, sv) :: sl, (kk, e) :: hp⟩) : G C Q0 (.l ops (o :: rest) :: k) ⟨sl, hp⟩ := G.op h hg hs hh rfl rfl hk
theorem G.op3 {ops : Array Oper} {rest : List Oper} {o : Oper} {sl : SL} {hp : HL} {kk : Nat} {e : Option HE} {Rs : List (Nat × SV)} {Rh : List (Nat × Option HE)}
    (h : OpL C o Rs Rh [] [(kk, e)]) (hg : o.guard = none) (hs : HasS sl Rs) (hh : HasH hp Rh) (hk : G C Q0 (.l ops rest :: k) ⟨sl, (kk, e) :: hp⟩) : G C Q0 (.l ops (o :: rest) :: k) ⟨sl, hp⟩ := G.op h hg hs hh rfl rfl hk
theorem G.opG1 {ops : Array Oper} {rest : List Oper} {o : Oper} {sl : SL} {hp : HL} {dst : Nat} {sv : SV} {Rs : List (Nat × SV)} {Rh : List (Nat × Option HE)} {j t : Nat} {b : Bool}
    (h : OpL C o Rs Rh [(dst, sv)] []) (hg : o.guard = some (j, b)) (hj : (ops[j]?).bind (·.dst) = some t) (ht : sget sl t = some (.one (bB b))) (hs : HasS sl Rs) (hh : HasH hp Rh) (hk : G C Q0 (.l ops rest :: k) ⟨(dst, sv) :: sl, hp⟩) : G C Q0 (.l ops (o :: rest) :: k) ⟨sl, hp⟩ := G.opG h hg hj ht hs hh rfl rfl hk
theorem G.opN1 {ops : Array Oper} {rest : List Oper} {o : Oper} {sl : SL} {hp : HL} {dst j t : Nat} {b c : Bool}
    (hd : o.dst = some dst) (hg : o.guard = some (j, c)) (hbc : (b == c) = false) (hj : (ops[j]?).bind (·.dst) = some t) (ht : sget sl t = some (.one (bB b)))
    (hk : G C Q0 (.l ops rest :: k) ⟨(dst, .one (.x Go.undef)) :: sl, hp⟩) : G C Q0 (.l ops (o :: rest) :: k) ⟨sl, hp⟩ := G.opN hd hg hbc hj ht rfl hk
end

/-- functions handed in: as data -/
def sem1 {X Y : Type} (enc : X → AG) (val : Y → Value) (p : X → Option Y) : List AG → Value → Prop := fun args v => ∃ x y, args = [enc x] ∧ p x = some y ∧ v = val y
end Go.Ab

/- The abstract machine: rows that are the call's own alone: elements read and stored in place, cleared, cut off; a slice held against nil. Conditions: none but those that stand in each law. -/
namespace Go.Ab
open Go Go.RowKit

section
variable {P : Program} {nt : Nat} {C : Cx P nt} {Q0 : Exit → Act → World → Prop} {k : List KI} {dst : Nat} {ty : TypeId} {pos : String} {af : Array Edge} {gd : Option (Nat × Bool)} {x y z : Operand} {R R1 R2 R3 : List (Nat × SV)}

/-- any content moves -/
theorem op_moveS {t : Nat} {sv : SV} (hd : Nat.blt dst nt = true) : OpL C (Oo dst (.move (.tmp t)) ty pos af gd) [(t, sv)] [] [(dst, sv)] [] :=
  opl_pure hd rfl fun sl hp β a w hs _ r => ⟨a.eval (.tmp t), by simp [execOp], r.sl t _ hs.1⟩
end
end Go.Ab

/- The abstract machine: a row of the call's own handed over to a call that keeps it, and what comes back; rows cut and cleared. Conditions: none but those that stand in each law. -/
namespace Go.Ab
open Go Go.RowKit

section
variable {P : Program} {nt : Nat} {C : Cx P nt}

/-- fewer slots -/
theorem RelB.slots {sl sl' : SL} {hp : HL} {β : Nat → Option Nat} {a : Act} {w : World} (r : RelB C ⟨sl, hp⟩ β a w) (hs : HasS sl sl') : RelB C ⟨sl', hp⟩ β a w :=
  ⟨r.keep, r.low, r.inj, r.own, r.hp, fun t sv h => r.sl t sv (hs.mem (sget_mem h)), r.size, r.df, r.fx⟩

/-- operands of a call that a row is handed to -/
inductive EvX (P : Program) : List Operand → List RG → List (Nat × SV) → List (Nat × Option HE) → Prop
  | nil : EvX P [] [] [] []
  | g {x : Operand} {g : AG} {R Rs : List (Nat × SV)} {Rhs : List (Nat × Option HE)} {xs : List Operand} {gs : List RG} (h : Ev x (.g g) R) (t : EvX P xs gs Rs Rhs) : EvX P (x :: xs) (.g g :: gs) (R ++ Rs) Rhs
  | sem {x : Operand} {Φ : List AG → Value → Prop} {R Rs : List (Nat × SV)} {Rhs : List (Nat × Option HE)} {xs : List Operand} {gs : List RG} (h : Ev x (.sem Φ) R) (t : EvX P xs gs Rs Rhs) : EvX P (x :: xs) (.sem Φ :: gs) (R ++ Rs) Rhs
  | clo {x : Operand} {f : Nat} {ks : List Nat} {gs0 : List RG} {Φ : List AG → Value → Prop} {R Rs : List (Nat × SV)} {Rh Rhs : List (Nat × Option HE)} {xs : List Operand} {gs : List RG} (h : Ev x (.clo f ks) R) (hc : EvC ks gs0 Rh) (hcf : CallF P f)
      (hΦ : ∀ args v, Φ args v → Ct P f (args.map .g ++ gs0) (.one (.d (.v v)))) (t : EvX P xs gs Rs Rhs) : EvX P (x :: xs) (.sem Φ :: gs) (R ++ Rs) (Rh ++ Rhs)

theorem EvX.ok {sl : SL} {hp : HL} {β : Nat → Option Nat} {a : Act} {w : World} {xs : List Operand} {gs : List RG} {R : List (Nat × SV)} {Rh : List (Nat × Option HE)} {kk T size : Nat} {es : List (List DV)}
    (hx : EvX P xs gs R Rh) (hs : HasS sl R) (hh : HasH hp Rh) (r : RelB C ⟨sl, hp⟩ β a w) (hk : hget hp kk = some (.row T size es true)) :
    (xs.map a.eval).length = gs.length ∧ ∀ (i : Nat) (g : RG) (v : Value), gs[i]? = some g → (xs.map a.eval)[i]? = some v → ArgR P (fun b o => Mu C hp β b o ∧ β kk ≠ some b) (fun b => β kk = some b) w g v := by
  have hmu : ∀ b o, (Mu C hp β b o ∧ β kk ≠ some b) ∨ β kk = some b → Mu C hp β b o := fun b o c => c.elim (fun c => c.1) fun c => .inr ⟨kk, _, hk, c, .inl rfl⟩
  induction hx with
  | nil => exact ⟨rfl, fun i g v h => by simp at h⟩
  | g h t ih =>
    obtain ⟨h3, h4⟩ := ih hs.app.2 hh
    refine ⟨by simpa using h3, fun i g v hg hv => ?_⟩
    cases i with
    | zero => simp at hg hv; subst hg hv; exact GR.less hmu (h.ok hs.app.1 r)
    | succ i => exact h4 i g v (by simpa using hg) (by simpa using hv)
  | sem h t ih =>
    obtain ⟨h3, h4⟩ := ih hs.app.2 hh
    refine ⟨by simpa using h3, fun i g v hg hv => ?_⟩
    cases i with
    | zero =>
      simp at hg hv; subst hg hv
      obtain ⟨f, caps, hu, hcf, hf⟩ := (h.ok hs.app.1 r : SemFn P C.w0 C.K _ _)
      refine ⟨f, caps, hu, hcf, fun w'' hb' => hf w'' ⟨hb'.os.trans r.keep.os, hb'.tape.trans r.keep.tape, hb'.output.trans r.keep.output, Nat.le_trans r.keep.size hb'.size, fun q hq hK => ?_⟩⟩
      rw [hb'.block q (Nat.lt_of_lt_of_le hq r.keep.size) (fun c => ?_)]
      · exact r.keep.block q hq hK
      · rcases (r.own kk _ q hk c).1 with h6 | h6
        · omega
        · exact hK h6
    | succ i => exact h4 i g v (by simpa using hg) (by simpa using hv)
  | clo h hc hcf hΦ t ih =>
    obtain ⟨h3, h4⟩ := ih hs.app.2 hh.app.2
    refine ⟨by simpa using h3, fun i g v hg hv => ?_⟩
    cases i with
    | zero =>
      simp at hg hv; subst hg hv
      exact clo_sem r (h.ok hs.app.1 r) hc hh.app.1 (fun b hb => ⟨kk, T, size, es, true, hk, hb⟩) (fun b hb o => hmu b o (.inr hb)) hcf hΦ
    | succ i => exact h4 i g v (by simpa using hg) (by simpa using hv)

end

section
variable {P : Program} {nt : Nat} {C : Cx P nt} {Q0 : Exit → Act → World → Prop} {k : List KI} {dst : Nat} {ty : TypeId} {pos : String} {af : Array Edge} {x y z : Operand} {R R1 R2 R3 : List (Nat × SV)}

end
end Go.Ab

/- The abstract machine: rows of the call's own alone, spliced, cleared and cut; a contract of a call that keeps a row. Conditions: none but those that stand in each law. -/
namespace Go.Ab
open Go Go.RowKit

def spliceR (es : List (List DV)) (lo : Nat) (news : List (List DV)) : List (List DV) := es.take lo ++ news ++ es.drop (lo + news.length)

theorem spliceR_length {es news : List (List DV)} {lo : Nat} (h : lo + news.length ≤ es.length) : (spliceR es lo news).length = es.length := by
  simp only [spliceR, List.length_append, List.length_take, List.length_drop]; omega

theorem spliceR_at {es news : List (List DV)} {lo : Nat} (h : lo + news.length ≤ es.length) (i : Nat) : (spliceR es lo news)[i]? = if lo ≤ i ∧ i < lo + news.length then news[i - lo]? else es[i]? := by
  simp only [spliceR]
  by_cases c1 : i < lo
  · rw [List.append_assoc, List.getElem?_append_left (by simp; omega), List.getElem?_take, if_pos c1, if_neg (by omega)]
  · by_cases c2 : i < lo + news.length
    · rw [List.append_assoc, List.getElem?_append_right (by simp; omega), List.getElem?_append_left (by simp; omega), if_pos ⟨by omega, c2⟩]
      congr 1; simp; omega
    · rw [List.getElem?_append_right (by simp; omega), List.getElem?_drop, if_neg (by omega)]
      congr 1; simp; omega

section
variable {P : Program} {nt : Nat} {C : Cx P nt}

/-- elements of a row are written over -/
theorem RelB.spliced {sl : SL} {hp : HL} {β : Nat → Option Nat} {a : Act} {w : World} (r : RelB C ⟨sl, hp⟩ β a w) {kk E size b lo : Nat} {es news : List (List DV)} {cur : Array Value} {vs : List Value}
    (hh : hget hp kk = some (.row E size es true)) (hb : β kk = some b) (hheap : w.heap[b]? = some (.cells cur E (0, 0))) (hlo : lo + news.length ≤ es.length) (hvl : vs.length = news.length * size) (hns : ∀ cs, cs ∈ news → cs.length = size)
    (hv : ∀ (i : Nat) (cs : List DV) (j : Nat) (d : DV), news[i]? = some cs → cs[j]? = some d → ∃ v, vs[i * size + j]? = some v ∧ RD (Mu C hp β) w v d) (hone : ∀ v, v ∈ vs → v.oneCell' = true) :
    (storeCells ⟨b, lo * size, none⟩ vs).run P w = .ok () (w.setRow b (List.take (lo * size) cur.toList ++ vs ++ List.drop (lo * size + vs.length) cur.toList).toArray) ∧
    RelB C ⟨sl, (kk, some (.row E size (spliceR es lo news) true)) :: hp⟩ (upd β kk (β kk)) a (w.setRow b (List.take (lo * size) cur.toList ++ vs ++ List.drop (lo * size + vs.length) cur.toList).toArray) := by
  obtain ⟨hsz0, hsz, hr⟩ := r.hp kk _ hh
  rcases hr with ⟨h1, _⟩ | ⟨b', cur', q1, q2, hcl, hel⟩
  · rw [hb] at h1; cases h1
  rw [hb] at q1; cases q1
  rw [hheap] at q2; cases q2
  have hfit : lo * size + vs.length ≤ cur.size := by
    have : (lo + news.length) * size ≤ es.length * size := Nat.mul_le_mul_right _ hlo
    rw [Nat.add_mul] at this
    omega
  have hst := run_storeCells_at P b (lo * size) E vs 0 cur w hheap (by simpa using hfit) hone
  simp only [Nat.add_zero] at hst
  refine ⟨hst, ?_⟩
  generalize hw1 : w.setRow b (List.take (lo * size) cur.toList ++ vs ++ List.drop (lo * size + vs.length) cur.toList).toArray = w1 at hst
  have hnew : w1.heap[b]? = some (.cells (List.take (lo * size) cur.toList ++ vs ++ List.drop (lo * size + vs.length) cur.toList).toArray E) := by rw [← hw1]; exact setRow_heap w b cur _ E _ hheap
  have hoth : ∀ q, q ≠ b → w1.heap[q]? = w.heap[q]? := fun q hq => by rw [← hw1]; exact setRow_other w b q _ hq
  have hsize : w1.heap.size = w.heap.size := by rw [← hw1]; simp [World.setRow]
  have hcurL : cur.toList.length = cur.size := Array.length_toList
  have hcur : ∀ q : Nat, (List.take (lo * size) cur.toList ++ vs ++ List.drop (lo * size + vs.length) cur.toList).toArray[q]? = if lo * size ≤ q ∧ q < lo * size + vs.length then vs[q - lo * size]? else cur[q]? := by
    intro q
    rw [List.getElem?_toArray, splice_get cur.toList (lo * size) vs (by omega)]
    simp
  have hcurs : (List.take (lo * size) cur.toList ++ vs ++ List.drop (lo * size + vs.length) cur.toList).toArray.size = cur.size := by
    simp only [List.size_toArray, List.length_append, List.length_take, List.length_drop, hcurL]
    omega
  have hlen := spliceR_length hlo
  refine (r.chg (e := .row E size (spliceR es lo news) true) (bo := β kk) hh (by rw [← hw1]; rfl) (by rw [← hw1]; rfl) (by rw [← hw1]; rfl) (by omega) (fun q _ hq => hoth q (fun c => hq (by rw [c, hb]))) (fun _ o x _ _ hnm => absurd (.inl rfl) hnm)
    (.inl ⟨rfl, fun o ho => .inl rfl⟩) ⟨rfl, fun _ => rfl⟩ (fun es0 u h => ?_) (fun _ hRD => ?_)).1
  · obtain ⟨_, _, _, _, h5, h6, h7⟩ := h
    rw [hh] at h5; cases h5
    refine ⟨E, size, spliceR es lo news, true, by rw [hget_cons, if_pos rfl], by rw [hlen]; exact h6, fun hq => ?_⟩
    rw [hlen] at hq ⊢
    rcases h7 hq with ⟨h8, _⟩ | ⟨b', cap', cur', h8, h9, h10, h11, h12, h13⟩
    · rw [hb] at h8; cases h8
    · rw [hb] at h8; cases h8
      rw [hheap] at h12; cases h12
      exact .inr ⟨b, cap', _, by simp [upd, hb], h9, h10, h11, hnew, by rw [hcurs]; exact h13⟩
  · refine ⟨hsz0, fun cs hcs' => ?_, .inr ⟨b, _, by simp [upd, hb], hnew, by rw [hlen, hcurs]; exact hcl, fun i cs j d hi hj => ?_⟩⟩
    · rcases List.mem_append.1 hcs' with h5 | h5
      · rcases List.mem_append.1 h5 with h5 | h5
        · exact hsz cs (List.mem_of_mem_take h5)
        · exact hns cs h5
      · exact hsz cs (List.mem_of_mem_drop h5)
    · rw [spliceR_at hlo] at hi
      rw [hcur]
      by_cases c : lo ≤ i ∧ i < lo + news.length
      · rw [if_pos c] at hi
        obtain ⟨v, h3, h4⟩ := hv _ cs j d hi hj
        have hj' : j < size := by rw [← hns cs (List.mem_of_getElem? hi)]; exact (List.getElem?_eq_some_iff.1 hj).1
        have e1 : (i - lo) * size + j = i * size + j - lo * size := by
          have : lo * size ≤ i * size := Nat.mul_le_mul_right _ c.1
          rw [Nat.sub_mul]; omega
        have h5 : (i - lo + 1) * size ≤ news.length * size := Nat.mul_le_mul_right _ (by omega)
        rw [Nat.add_mul, Nat.sub_mul] at h5
        have : lo * size ≤ i * size := Nat.mul_le_mul_right _ c.1
        rw [if_pos ⟨by omega, by omega⟩, ← e1]
        exact ⟨v, h3, hRD _ _ h4⟩
      · rw [if_neg c] at hi
        obtain ⟨v, h3, h4⟩ := hel i cs j d hi hj
        have hj' : j < size := by rw [← hsz cs (List.mem_of_getElem? hi)]; exact (List.getElem?_eq_some_iff.1 hj).1
        have : ¬ (lo * size ≤ i * size + j ∧ i * size + j < lo * size + vs.length) := by
          rintro ⟨q1, q2⟩
          rw [hvl] at q2
          rcases Nat.lt_or_ge i lo with c' | c'
          · have : (i + 1) * size ≤ lo * size := Nat.mul_le_mul_right _ c'
            rw [Nat.add_mul] at this; omega
          · have : (lo + news.length) * size ≤ i * size := Nat.mul_le_mul_right _ (by omega)
            rw [Nat.add_mul] at this; omega
        rw [if_neg this]
        exact ⟨v, h3, hRD _ _ h4⟩

end

section
variable {P : Program} {nt : Nat} {C : Cx P nt} {Q0 : Exit → Act → World → Prop} {k : List KI} {dst : Nat} {ty : TypeId} {pos : String} {af : Array Edge} {x y z : Operand} {R R1 R2 R3 : List (Nat × SV)}

end

end Go.Ab

/- The abstract machine: rows read where they lie; words for rows that are written over. Conditions: none but those that stand in each law. -/
namespace Go.Ab
open Go Go.RowKit

section
variable {P : Program} {nt : Nat} {C : Cx P nt} {dst : Nat} {ty : TypeId} {pos : String} {af : Array Edge} {gd : Option (Nat × Bool)}

variable {Q0 : Exit → Act → World → Prop} {k : List KI}
theorem G.arr {sl sl' : SL} {hp hp' : HL} (h : G C Q0 k ⟨sl', hp'⟩) (hs : HasS sl sl') (hh : HasH hp hp') (hsc : wellId sl' hp' = true) : G C Q0 k ⟨sl, hp⟩ := G.keep hs hh hsc h

end

end Go.Ab

/- A law's given arguments, opened: what the statement's reading says of them, as data of my own. Conditions: none but those that stand in each law. -/
namespace Go.Ab
open Go Go.RowKit Go.ChangeShapes Go.WideShapes Go.ChangeAt

/-- pair by pair -/
inductive F2 {α β : Type} (R : α → β → Prop) : List α → List β → Prop
  | nil : F2 R [] []
  | cons {a : α} {b : β} {xs : List α} {ys : List β} (h : R a b) (t : F2 R xs ys) : F2 R (a :: xs) (b :: ys)

/-- whatever is read as type t by the statement's reading, is one of X's, as my own reading has it -/
def Opens (P : Program) (t : TypeId) (X : Type) (enc : X → List DV) (wf : X → Prop) : Prop :=
  ∀ (H : Type) (e : TypeId × Value → H) (w : World) (base : Nat) (sp : Nat → Bool) (held : Bool) (fuel : Nat) (cs : List Value) (x : DataW H × List MemPlace),
    DataW.trod e P w base sp held fuel t cs = some x → (x.1.weights P t).all (· ≤ reachBytes) = true → ∃ v : X, wf v ∧ F2 (RD (fun _ _ => False) w) cs (enc v)

theorem weightsAll_mem {H : Type} {P : Program} {e : TypeId} : ∀ {ds : List (DataW H)}, (DataW.weightsAll P e ds).all (· ≤ reachBytes) = true → ∀ d, d ∈ ds → (d.weights P e).all (· ≤ reachBytes) = true
  | [], _, d, hd => by simp at hd
  | x :: ds, h, d, hd => by
    rw [DataW.weightsAll, List.all_append, Bool.and_eq_true] at h
    rcases List.mem_cons.1 hd with rfl | hd
    · exact h.1
    · exact weightsAll_mem h.2 d hd
theorem weightsEach_get {H : Type} {P : Program} : ∀ {ts : List TypeId} {ds : List (DataW H)}, (DataW.weightsEach P ts ds).all (· ≤ reachBytes) = true → ∀ (i : Nat) (t : TypeId) (d : DataW H), ts[i]? = some t → ds[i]? = some d → (d.weights P t).all (· ≤ reachBytes) = true
  | [], _, _, i, t, d, ht, _ => by simp at ht
  | _ :: _, [], _, i, t, d, _, hd => by simp at hd
  | t0 :: ts, d0 :: ds, h, i, t, d, ht, hd => by
    rw [DataW.weightsEach, List.all_append, Bool.and_eq_true] at h
    cases i with
    | zero => simp at ht hd; subst ht hd; exact h.1
    | succ i => exact weightsEach_get h.2 i t d (by simpa using ht) (by simpa using hd)

theorem Opens.int {P : Program} {t : TypeId} {k : IntKind} (ht : P.underlying t = some (.int k)) : Opens P t Int (fun x => [.v (.int k x)]) (fun x => (Lit.int k x).wf = true) := by
  intro H e w base sp held fuel cs x h _
  cases fuel with
  | zero => simp [DataW.trod] at h
  | succ n =>
    unfold DataW.trod at h
    rw [ht] at h
    split at h <;> simp_all
    obtain ⟨⟨rfl, hw⟩, _⟩ := h
    exact ⟨_, hw, .cons (RD.v _ rfl) .nil⟩

theorem Opens.bool {P : Program} {t : TypeId} (ht : P.underlying t = some .bool) : Opens P t Bool (fun x => [.v (.bool x)]) (fun _ => True) := by
  intro H e w base sp held fuel cs x h _
  cases fuel with
  | zero => simp [DataW.trod] at h
  | succ n =>
    unfold DataW.trod at h
    rw [ht] at h
    split at h
    · exact ⟨_, trivial, .cons (RD.v _ rfl) .nil⟩
    all_goals simp_all

theorem Opens.string {P : Program} {t : TypeId} (ht : P.underlying t = some .string) : Opens P t ByteArray (fun x => [.v (.string x)]) (fun x => x.size ≤ reachBytes) := by
  intro H e w base sp held fuel cs x h hz
  cases fuel with
  | zero => simp [DataW.trod] at h
  | succ n =>
    unfold DataW.trod at h
    rw [ht] at h
    split at h <;> simp_all
    obtain ⟨_, rfl⟩ := h
    refine ⟨_, ?_, .cons (RD.v _ rfl) .nil⟩
    have := of_decide_eq_true (by simpa [DataW.weights] using hz)
    exact this

theorem exists_list {X : Type} (n : Nat) (p : Nat → X → Prop) (h : ∀ i, i < n → ∃ x, p i x) : ∃ l : List X, l.length = n ∧ ∀ i x, l[i]? = some x → p i x := by
  induction n with
  | zero => exact ⟨[], rfl, fun i x h => by simp at h⟩
  | succ n ih =>
    obtain ⟨l, h1, h2⟩ := ih fun i hi => h i (by omega)
    obtain ⟨x, hx⟩ := h n (by omega)
    refine ⟨l ++ [x], by simp [h1], fun i y hy => ?_⟩
    by_cases c : i < l.length
    · rw [List.getElem?_append_left c] at hy; exact h2 i y hy
    · rw [List.getElem?_append_right (by omega)] at hy
      have : i - l.length = 0 := by
        have := (List.getElem?_eq_some_iff.1 hy).1
        simp at this; omega
      rw [this] at hy
      simp at hy
      subst hy
      rw [show i = n by omega]; exact hx

theorem forall2_get {α β : Type} {R : α → β → Prop} : ∀ {xs : List α} {ys : List β}, F2 R xs ys → xs.length = ys.length ∧ ∀ (j : Nat) (y : β), ys[j]? = some y → ∃ x, xs[j]? = some x ∧ R x y
  | _, _, .nil => ⟨rfl, fun j y h => by simp at h⟩
  | _, _, .cons h t => by
    obtain ⟨h1, h2⟩ := forall2_get t
    refine ⟨by simp [h1], fun j y hj => ?_⟩
    cases j with
    | zero => simp at hj; subst hj; exact ⟨_, rfl, h⟩
    | succ j => simpa using h2 j y (by simpa using hj)

theorem mapM_cells {w : World} {base n : Nat} {a : Addr} {cs : List Value} (h : w.cells? base a n = some cs) : cs.length = n ∧ ∀ j, j < n → w.cell? (a.add j) = cs[j]? := by
  unfold World.cells? at h
  split at h
  · refine ⟨by simpa using mapM_some_length h, fun j hj => ?_⟩
    have := mapM_some_get h j j (by simp [hj])
    exact this
  · cases h

theorem Opens.slice {P : Program} {t e : TypeId} {size : Nat} {X : Type} {enc : X → List DV} {wf : X → Prop} (ht : P.underlying t = some (.slice e)) (h : Opens P e X enc wf) (hc : P.cellsOf e = size) (hs : ∀ v, (enc v).length = size) (hpos : Nat.blt 0 size = true) (hby : Nat.blt 0 (P.bytesOf e) = true) :
    Opens P t (List X) (fun l => [.sl size (l.map enc)]) (fun l => l.length ≤ reachBytes ∧ ∀ x, x ∈ l → wf x) := by
  intro H en w base sp held fuel cs x hx hz
  rcases DataW.trod_slice ht hx with ⟨rfl, _⟩ | ⟨a, len, cap, elems, rest, n, _, rfl, rfl, hb, hl, hm, hlen, hel, _, _⟩
  · exact ⟨[], ⟨Nat.zero_le _, fun x h => by simp at h⟩, .cons (RD.nil none 0 size (Nat.zero_le _)) .nil⟩
  · have hpos : 0 < size := by simpa using hpos
    have hby : 0 < P.bytesOf e := by simpa using hby
    simp only [DataW.weights, ht, List.all_cons, List.all_append, Bool.and_eq_true, decide_eq_true_eq, List.length_map] at hz
    obtain ⟨hz1, hz2, _⟩ := hz
    have hlr : len ≤ reachBytes := by
      refine Nat.le_trans ?_ hz1
      have : elems.length + rest.length ≤ (elems.length + rest.length) * P.bytesOf e := Nat.le_mul_of_pos_right _ hby
      omega
    have key : ∀ i, i < len → ∃ v : X, wf v ∧ ∃ csi, w.cells? base (a.add (i * size)) size = some csi ∧ F2 (RD (fun _ _ => False) w) csi (enc v) := by
      intro i hi
      have h1 := hel i hi
      rw [hc] at h1
      have h2 : elems[i]? = some elems[i] := by simp [hlen, hi]
      rw [h2] at h1
      obtain ⟨csi, h3, h4⟩ := Option.bind_eq_some_iff.1 h1
      obtain ⟨v, h5, h6⟩ := h H en w base sp held n csi _ h4 (weightsAll_mem hz2 _ (List.mem_map_of_mem (List.getElem_mem _)))
      exact ⟨v, h5, csi, h3, h6⟩
    obtain ⟨l, hll, hlp⟩ := exists_list len _ key
    refine ⟨l, ⟨by rw [hll]; exact hlr, fun x hx => ?_⟩, .cons ?_ .nil⟩
    · obtain ⟨i, hi, rfl⟩ := List.getElem_of_mem hx
      exact (hlp i l[i] (by simp [hi])).1
    · have hmem : ∀ i x, l[i]? = some x → ∀ j d, (enc x)[j]? = some d → ∃ u, w.cell? ((a.add (i * size)).add j) = some u ∧ RD (fun _ _ => False) w u d := by
        intro i x hi j d hj
        obtain ⟨_, csi, h3, h6⟩ := hlp i x hi
        obtain ⟨h7, h8⟩ := mapM_cells h3
        obtain ⟨u, h9, h10⟩ := (forall2_get h6).2 j d hj
        have : j < size := by rw [← hs x]; exact (List.getElem?_eq_some_iff.1 hj).1
        exact ⟨u, by rw [h8 j this]; exact h9, h10⟩
      have hspot : l ≠ [] → a = ⟨a.block, a.off, none⟩ := by
        intro hne
        obtain ⟨x, hx⟩ : ∃ x, l[0]? = some x := ⟨l[0]'(List.length_pos_iff.2 hne), by simp [List.length_pos_iff.2 hne]⟩
        obtain ⟨u, h9, _⟩ := hmem 0 x hx 0 ((enc x)[0]'(by rw [hs]; exact hpos)) (by simp [hs, hpos])
        have e1 : (a.add (0 * size)).add 0 = a := by simp [Addr.add]
        rw [e1] at h9
        obtain ⟨b, o, s⟩ := a
        cases s with
        | none => rfl
        | some s => simp only [World.cell?] at h9; split at h9 <;> simp at h9
      have hlm : (l.map enc).length = len := by simp [hll]
      rw [← hlm]
      refine RD.sl (some a) cap size (l.map enc) (fun i j => (w.cell? ⟨a.block, a.off + (i * size + j), none⟩).getD undef) a.block a.off (by omega) hm (fun hne => by rw [hspot (by simpa using hne)]) (fun cs hcs => ?_) (fun i cs j d hi hj => ?_) (fun i cs j d hi hj => ?_)
      · obtain ⟨x, _, rfl⟩ := List.mem_map.1 hcs; exact hs x
      all_goals
        rw [List.getElem?_map, Option.map_eq_some_iff] at hi
        obtain ⟨x, hx, rfl⟩ := hi
        obtain ⟨u, h9, h10⟩ := hmem i x hx j d hj
        have hne : l ≠ [] := fun c => by rw [c] at hx; simp at hx
        have e1 : (a.add (i * size)).add j = ⟨a.block, a.off + (i * size + j), none⟩ := by
          have := hspot hne
          rw [this, Addr.add_lit, Addr.add_lit]
          simp [Nat.add_assoc]
        rw [e1] at h9
      · exact ⟨by simp [h9], id⟩
      · simpa [h9] using h10

/-- the fields of a struct, from one on -/
def OpenF (P : Program) (fs : List Field) (off : Nat) (X : Type) (enc : X → List DV) (wf : X → Prop) : Prop :=
  ∀ (H : Type) (e : TypeId × Value → H) (w : World) (base : Nat) (sp : Nat → Bool) (held : Bool) (fuel : Nat) (cs : List Value),
    (∀ f, f ∈ fs → ∃ x, DataW.trod e P w base sp held fuel f.type ((cs.drop f.offset).take (P.cellsOf f.type)) = some x ∧ (x.1.weights P f.type).all (· ≤ reachBytes) = true) → cs.length = off + (fs.map fun f => P.cellsOf f.type).sum →
    ∃ v : X, wf v ∧ F2 (RD (fun _ _ => False) w) (cs.drop off) (enc v)

theorem OpenF.nil {P : Program} {off : Nat} : OpenF P [] off Unit (fun _ => []) (fun _ => True) := by
  intro H e w base sp held fuel cs _ hl
  refine ⟨(), trivial, ?_⟩
  rw [List.drop_of_length_le (by simp at hl; omega)]
  exact .nil

theorem forall2_append {α β : Type} {R : α → β → Prop} {xs xs' : List α} {ys ys' : List β} (h : F2 R xs ys) (h' : F2 R xs' ys') : F2 R (xs ++ xs') (ys ++ ys') := by
  induction h with
  | nil => exact h'
  | cons a b ih => exact .cons a ih

theorem OpenF.cons {P : Program} {f : Field} {fs : List Field} {off size off' : Nat} {A B : Type} {encA : A → List DV} {encB : B → List DV} {wfA : A → Prop} {wfB : B → Prop}
    (ha : Opens P f.type A encA wfA) (hb : OpenF P fs off' B encB wfB) (ho : f.offset = off) (hc : P.cellsOf f.type = size) (ho' : off + size = off') :
    OpenF P (f :: fs) off (A × B) (fun x => encA x.1 ++ encB x.2) (fun x => wfA x.1 ∧ wfB x.2) := by
  subst ho hc ho'
  intro H e w base sp held fuel cs hall hl
  obtain ⟨x, hx, hxz⟩ := hall f (by simp)
  obtain ⟨v, h1, h2⟩ := ha H e w base sp held fuel _ x hx hxz
  obtain ⟨u, h3, h4⟩ := hb H e w base sp held fuel cs (fun g hg => hall g (by simp [hg])) (by rw [hl, List.map_cons, List.sum_cons]; omega)
  refine ⟨(v, u), ⟨h1, h3⟩, ?_⟩
  have : cs.drop f.offset = (cs.drop f.offset).take (P.cellsOf f.type) ++ cs.drop (f.offset + P.cellsOf f.type) := by
    rw [← List.drop_drop]; exact (List.take_append_drop _ _).symm
  rw [this]
  exact forall2_append h2 h4

theorem Opens.struct {P : Program} {t : TypeId} {fs : Array Field} {X Y : Type} {encX : X → List DV} {encY : Y → List DV} {wf : X → Prop} (ht : P.underlying t = some (.struct fs)) (h : OpenF P fs.toList 0 X encX wf)
    (hc : P.cellsOf t = (fs.toList.map fun f => P.cellsOf f.type).sum) (g : X → Y) (wfY : Y → Prop) (hg : ∀ x, encY (g x) = encX x) (hw : ∀ x, wf x → wfY (g x)) : Opens P t Y encY wfY := by
  intro H e w base sp held fuel cs x hx hz
  obtain ⟨xs, n, rfl, rfl, hlen, hxl, hf⟩ := DataW.trod_struct ht hx
  simp only [DataW.weights, ht] at hz
  obtain ⟨v, h1, h2⟩ := h H e w base sp held n cs (fun f hm => by
    obtain ⟨i, hi, rfl⟩ := List.getElem_of_mem hm
    have hi' : i < fs.size := by simpa using hi
    have := hf i fs[i] (by simp [hi'])
    refine ⟨xs[i]'(by omega), ?_, ?_⟩
    · rw [Array.getElem_toList, this]
      simp [hxl, hi']
    · exact weightsEach_get hz i _ _ (by simp [hi']) (by simp [hxl, hi'])) (by rw [hlen, hc]; omega)
  exact ⟨g v, hw v h1, by rw [hg]; simpa using h2⟩

theorem F2.sing {α β : Type} {R : α → β → Prop} {x : α} {y : β} (h : F2 R [x] [y]) : R x y := by
  cases h; assumption

section
variable {P : Program} {H : Type} {e : TypeId × Value → H} {w : World} {base b0 : Nat} {r : Reach} {sp : Nat → Bool} {held : Bool} {v : Value} {d : DataW H} {ps : List MemPlace} {t : TypeId}

theorem Opens.argSlice {el : Nat} {X : Type} {dv : X → DV} {wf : X → Prop} (h : Opens P t X (fun x => [dv x]) wf) (ht : P.underlying t = some (.slice el))
    (hv : Value.okWide P w r b0 t v) (hd : DataW.Trod e P w base sp held t v d ps) (hz : (d.weights P t).all (· ≤ reachBytes) = true) : ∃ x : X, wf x ∧ ArgR P (fun _ _ => False) (fun _ => False) w (.g (.d (dv x))) v := by
  obtain ⟨_, _, _, rfl⟩ := okWide_slice ht hv
  obtain ⟨fuel, hf⟩ := hd
  obtain ⟨x, h1, h2⟩ := h H e w base sp held fuel _ _ hf hz
  exact ⟨x, h1, RD.less (fun _ _ c => c.elim id id) (show RD _ _ _ _ from F2.sing h2)⟩
end

theorem args1 {P : Program} {M : Nat → Nat → Prop} {K : Nat → Prop} {w : World} {g0 : RG} {v0 : Value} (h0 : ArgR P M K w g0 v0) :
    ∀ (i : Nat) (g : RG) (v : Value), [g0][i]? = some g → [v0][i]? = some v → ArgR P M K w g v := by
  intro i g v hg hv
  match i with
  | 0 => simp at hg hv; subst hg hv; exact h0
  | i + 1 => simp at hg
/-- the closed facts of a row, one by one: each is reckoned by itself, so that none takes the room of all -/
theorem joined_mk {P : Program} {f : FuncId} {fn : Func} {s : ChangeSpec} {c : OpenClaim}
    (k1 : (c.wf (OpenSpec.ofChange s)) = true)
    (k2 : (laidOutB P) = true)
    (k3 : (mapsRowed P) = true)
    (k4 : (fn.params.all (P.readableRec ·)) = true)
    (k5 : (namedTie P c.named s.vars) = true)
    (k6 : ((c.stops == [])) = true)
    (k7 : ((P.stops == [])) = true)
    (k8 : ((c.knobs == [])) = true)
    (k9 : ((P.stopKnobs == [])) = true)
    (k10 : ((c.inPlace == P.inPlace f)) = true)
    (k11 : ((c.unfollowed == P.unfollowed f)) = true)
    (k12 : ((c.recurses == P.recurses f)) = true)
    (k13 : ((c.named == P.varsNamed f)) = true)
    (k14 : ((c.maps == (fn.params.toList ++ s.plain.varTypes P).any (P.mapsRec ·))) = true)
    (k15 : ((c.ifaces == (fn.params.toList ++ s.plain.varTypes P).any (P.ifacesRec ·))) = true)
    (k16 : ((c.mapsOut == P.mapsAmong fn.resultTypes.toList)) = true)
    (k17 : ((c.loops == (fn.params.toList ++ s.plain.varTypes P).any (P.loopsFrom ·))) = true)
    (k18 : ((c.wideKeys == (fn.params.toList ++ s.plain.varTypes P ++ fn.resultTypes.toList).any (P.wideKeysFrom ·))) = true)
    (k19 : (s.vars.all (P.varReadable ·)) = true)
    (k20 : (fn.resultTypes.all (fun t => P.readableRec t && decide (t < P.types.size))) = true)
    (k21 : ((c.ifacesOut == fn.resultTypes.toList.any (P.ifacesRec ·))) = true)
    (k22 : ((c.loopsOut == fn.resultTypes.toList.any (P.loopsFrom ·))) = true)
    (k23 : ((c.plainKeys == P.plainKeys)) = true)
    (k24 : (c.shortTexts.isNone) = true)
    (k25 : (P.stopsHeard) = true)
    (k26 : (P.mayEnter) = true)
    (k27 : ((c.lifted == P.liftsFinal)) = true)
    (k28 : ((P.make == some c.make)) = true)
    (k29 : ((c.kinds == (if c.domain.isEmpty then [] else fn.params.toList.map fun t => match P.underlying t with | some (.int k) => some k | _ => none))) = true)
    (k30 : ((c.pinned == c.pinnedBy)) = true)
    (k31 : ((c.veiled == (fn.params.toList ++ s.plain.varTypes P ++ fn.resultTypes.toList).any (P.veiledRec ·))) = true)
    (k32 : (c.veiledFits P fn.params.toList (fn.params.toList ++ s.plain.varTypes P ++ fn.resultTypes.toList)) = true) : joinedFacts P f fn s c = true := by
  simp only [joinedFacts, Bool.and_eq_true]
  exact ⟨⟨⟨⟨⟨⟨⟨⟨⟨⟨⟨⟨⟨⟨⟨⟨⟨⟨⟨⟨⟨⟨⟨⟨⟨⟨⟨⟨⟨⟨⟨k1, k2⟩, k3⟩, k4⟩, k5⟩, k6⟩, k7⟩, k8⟩, k9⟩, k10⟩, k11⟩, k12⟩, k13⟩, k14⟩, k15⟩, k16⟩, k17⟩, k18⟩, k19⟩, k20⟩, k21⟩, k22⟩, k23⟩, k24⟩, k25⟩, k26⟩, k27⟩, k28⟩, k29⟩, k30⟩, k31⟩, k32⟩
end Go.Ab
