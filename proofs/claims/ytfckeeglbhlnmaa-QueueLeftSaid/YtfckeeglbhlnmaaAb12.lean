/- The abstract machine: a region whose order the tape draws. What each operation reads and writes is told; whoever reads what another one writes stands behind it, or ahead of it, in every order; so all orders come to one state. Conditions: none but those that stand in each law. -/
import Derived.Test.YtfckeeglbhlnmaaAb11
namespace Go.Ab
open Go Go.RowKit

structure Eff where
  Rs : List (Nat × SV)
  Rh : List (Nat × Option HE)
  Ws : List (Nat × SV)
  Wh : List (Nat × Option HE)

/-- operation number i, whether its guard holds or not -/
structure OpW {P : Program} {nt : Nat} (C : Cx P nt) (ops : Array Oper) (i : Nat) (e : Eff) : Prop where
  go : ∀ sl hp, HasS sl e.Rs → HasH hp e.Rh → ∀ a w K Q, Rel C ⟨sl, hp⟩ a w → (∀ a w, Rel C ⟨e.Ws ++ sl, e.Wh ++ hp⟩ a w → K a w) → wpOp P ops Q i K a w

section
variable {P : Program} {nt : Nat} {C : Cx P nt} {ops : Array Oper} {i : Nat} {o : Oper} {Rs Ws : List (Nat × SV)} {Rh Wh : List (Nat × Option HE)}

theorem OpW.plain (h : OpL C o Rs Rh Ws Wh) (ho : ops[i]? = some o) (hg : o.guard = none) : OpW C ops i ⟨Rs, Rh, Ws, Wh⟩ :=
  ⟨fun sl hp hs hh a w K Q r hK => by
    unfold wpOp
    rw [ho]
    simp only [Region.wanted, hg, if_true]
    exact .inl (h.go sl hp hs hh a w K Q r hK)⟩

theorem OpW.yes {j t : Nat} {b : Bool} (h : OpL C o Rs Rh Ws Wh) (ho : ops[i]? = some o) (hg : o.guard = some (j, b)) (hj : (ops[j]?).bind (·.dst) = some t) : OpW C ops i ⟨(t, .one (bB b)) :: Rs, Rh, Ws, Wh⟩ :=
  ⟨fun sl hp hs hh a w K Q ⟨β, r⟩ hK => by
    have hy := yielded_of r hj hs.1
    unfold wpOp
    rw [ho]
    simp only [Region.wanted, hg, hy, beq_self_eq_true, if_true]
    exact .inl (h.go sl hp hs.2 hh a w K Q ⟨β, r⟩ hK)⟩

theorem OpW.no {dst j t : Nat} {b c : Bool} (ho : ops[i]? = some o) (hd : o.dst = some dst) (hg : o.guard = some (j, c)) (hbc : (b == c) = false) (hj : (ops[j]?).bind (·.dst) = some t) : OpW C ops i ⟨[(t, .one (bB b))], [], [(dst, .one (.x Go.undef))], []⟩ :=
  ⟨fun sl hp hs hh a w K Q ⟨β, r⟩ hK => by
    have hy := yielded_of r hj hs.1
    have : (some b == some c) = false := by simpa using hbc
    unfold wpOp
    rw [ho]
    simp only [Region.wanted, hg, hy, this, Bool.false_eq_true, if_false, hd]
    exact hK _ _ ⟨β, r.undefd dst⟩⟩

theorem OpW.un {dst j t : Nat} {c : Bool} (ho : ops[i]? = some o) (hd : o.dst = some dst) (hg : o.guard = some (j, c)) (hj : (ops[j]?).bind (·.dst) = some t) : OpW C ops i ⟨[(t, .one (.x Go.undef))], [], [(dst, .one (.x Go.undef))], []⟩ :=
  ⟨fun sl hp hs hh a w K Q ⟨β, r⟩ hK => by
    have hy := yielded_undef r hj hs.1
    have : (none == some c) = false := rfl
    unfold wpOp
    rw [ho]
    simp only [Region.wanted, hg, hy, this, Bool.false_eq_true, if_false, hd]
    exact hK _ _ ⟨β, r.undefd dst⟩⟩
end

def wS (effs : List Eff) (t : Nat) : Option Nat := effs.findIdx? fun e => e.Ws.any fun p => Nat.beq p.1 t
def wrH (t : Nat) (e : Eff) : Bool := e.Wh.any fun p => Nat.beq p.1 t
/-- what the last one of D's operations that writes block t leaves there -/
def lastH : List Eff → Nat → (Nat → Bool) → Nat → Option (Option HE)
  | [], _, _, _ => none
  | e :: r, i, D, t => match lastH r (i + 1) D t with
    | some x => some x
    | none => if D i && wrH t e then some (hget e.Wh t) else none

theorem lastH_congr {D D' : Nat → Bool} {t : Nat} : ∀ {l : List Eff} {i : Nat}, (∀ j e, l[j]? = some e → wrH t e = true → D (i + j) = D' (i + j)) → lastH l i D t = lastH l i D' t
  | [], i, h => rfl
  | e :: r, i, h => by
    have ih := lastH_congr (D := D) (D' := D') (t := t) (l := r) (i := i + 1) (fun j e' hj hw => by have := h (j + 1) e' (by simpa using hj) hw; rw [show i + 1 + j = i + (j + 1) by omega]; exact this)
    simp only [lastH, ih]
    cases lastH r (i + 1) D' t with
    | some x => rfl
    | none =>
      cases hw : wrH t e with
      | false => simp
      | true => have := h 0 e rfl hw; rw [Nat.add_zero] at this; simp [this]

theorem lastH_none {D : Nat → Bool} {t : Nat} : ∀ {l : List Eff} {i : Nat}, (∀ j e, l[j]? = some e → wrH t e = true → D (i + j) = false) → lastH l i D t = none
  | [], i, h => rfl
  | e :: r, i, h => by
    have ih := lastH_none (D := D) (t := t) (l := r) (i := i + 1) (fun j e' hj hw => by have := h (j + 1) e' (by simpa using hj) hw; rw [show i + 1 + j = i + (j + 1) by omega]; exact this)
    simp only [lastH, ih]
    cases hw : wrH t e with
    | false => simp
    | true => have := h 0 e rfl hw; rw [Nat.add_zero] at this; simp [this]

theorem lastH_top {D : Nat → Bool} {t : Nat} {e : Eff} : ∀ {l : List Eff} {i k : Nat}, l[k]? = some e → wrH t e = true → D (i + k) = true → (∀ j e', k < j → l[j]? = some e' → wrH t e' = true → D (i + j) = false) → lastH l i D t = some (hget e.Wh t)
  | [], i, k, h, _, _, _ => by simp at h
  | x :: r, i, k, h, hw, hD, hlater => by
    cases k with
    | zero =>
      simp at h; subst h
      have := lastH_none (D := D) (t := t) (l := r) (i := i + 1) (fun j e' hj hw => by have := hlater (j + 1) e' (by omega) (by simpa using hj) hw; rw [show i + 1 + j = i + (j + 1) by omega]; exact this)
      rw [Nat.add_zero] at hD
      simp only [lastH, this, hD, hw, Bool.and_self, if_true]
    | succ k =>
      have := lastH_top (D := D) (t := t) (e := e) (l := r) (i := i + 1) (k := k) (by simpa using h) hw (by rw [show i + 1 + k = i + (k + 1) by omega]; exact hD) (fun j e' hkj hj hw => by have := hlater (j + 1) e' (by omega) (by simpa using hj) hw; rw [show i + 1 + j = i + (j + 1) by omega]; exact this)
      simp only [lastH, this]

def mem (l : List Nat) (i : Nat) : Bool := l.any (Nat.beq i)

theorem mem_iff {l : List Nat} {i : Nat} : mem l i = true ↔ i ∈ l := by
  simp only [mem, List.any_eq_true]
  constructor
  · rintro ⟨x, hx, h⟩; rw [Nat.eq_of_beq_eq_true h]; exact hx
  · intro h; exact ⟨i, h, Nat.beq_refl i⟩

/-- all that stands ahead of operation i: 'deps' tells it -/
def depsOk (ops : Array Oper) (deps : List (List Nat)) : Bool :=
  Nat.beq deps.length ops.size && (List.range ops.size).all fun i =>
    match ops[i]? with
    | none => false
    | some o =>
      (o.after.toList.all fun e => !Region.binds .any e || Nat.blt e.on i) &&
      (deps.getD i []).all fun j => o.after.toList.any fun e => Region.binds .any e && (Nat.beq e.on j || mem (deps.getD e.on []) j)

def readS (effs : List Eff) (deps : List (List Nat)) (sl : SL) (i : Nat) : List (Nat × SV) → Prop
  | [] => True
  | (t, sv) :: r => (match wS effs t with
    | none => sget sl t = some sv
    | some j => if mem (deps.getD i []) j then sget (effs.getD j ⟨[], [], [], []⟩).Ws t = some sv else mem (deps.getD j []) i = true ∧ sget sl t = some sv) ∧ readS effs deps sl i r

/-- each operation that writes block t is for sure ahead of operation i, or for sure not -/
def okH (effs : List Eff) (deps : List (List Nat)) (i t : Nat) : Bool := (List.range effs.length).all fun j => !(wrH t (effs.getD j ⟨[], [], [], []⟩)) || (mem (deps.getD i []) j || (Nat.beq j i || mem (deps.getD j []) i))

def readH (effs : List Eff) (deps : List (List Nat)) (hp : HL) (i : Nat) : List (Nat × Option HE) → Prop
  | [] => True
  | (t, sv) :: r => (okH effs deps i t = true ∧ (lastH effs 0 (mem (deps.getD i [])) t).getD (hget hp t) = sv) ∧ readH effs deps hp i r

def allRead (effs : List Eff) (deps : List (List Nat)) (sl : SL) (hp : HL) : Nat → List Eff → Prop
  | _, [] => True
  | i, e :: r => readS effs deps sl i e.Rs ∧ readH effs deps hp i e.Rh ∧ allRead effs deps sl hp (i + 1) r

def allOps {P : Program} {nt : Nat} (C : Cx P nt) (ops : Array Oper) : Nat → List Eff → Prop
  | _, [] => True
  | i, e :: r => OpW C ops i e ∧ allOps C ops (i + 1) r

theorem allOps_get {P : Program} {nt : Nat} {C : Cx P nt} {ops : Array Oper} : ∀ {l : List Eff} {k i : Nat} {e : Eff}, allOps C ops k l → l[i]? = some e → OpW C ops (k + i) e
  | [], k, i, e, _, h => by simp at h
  | x :: l, k, i, e, h, hi => by
    cases i with
    | zero => simp at hi; subst hi; exact h.1
    | succ i => rw [show k + (i + 1) = k + 1 + i by omega]; exact allOps_get h.2 (by simpa using hi)

theorem allRead_get {effs : List Eff} {deps : List (List Nat)} {sl : SL} {hp : HL} : ∀ {l : List Eff} {k i : Nat} {e : Eff}, allRead effs deps sl hp k l → l[i]? = some e → readS effs deps sl (k + i) e.Rs ∧ readH effs deps hp (k + i) e.Rh
  | [], k, i, e, _, h => by simp at h
  | x :: l, k, i, e, h, hi => by
    cases i with
    | zero => simp at hi; subst hi; exact ⟨h.1, h.2.1⟩
    | succ i => rw [show k + (i + 1) = k + 1 + i by omega]; exact allRead_get h.2.2 (by simpa using hi)

/-- each slot is written by one operation at most; those that write a block stand one behind the other -/
def single (effs : List Eff) (deps : List (List Nat)) : Bool :=
  (List.range effs.length).all fun i => ((effs.getD i ⟨[], [], [], []⟩).Ws.all fun p => wS effs p.1 == some i) &&
    ((effs.getD i ⟨[], [], [], []⟩).Wh.all fun p => (List.range i).all fun j => !(wrH p.1 (effs.getD j ⟨[], [], [], []⟩)) || mem (deps.getD i []) j)

/-- the content of a slot when the operations of D have been carried out -/
def curS (effs : List Eff) (sl : SL) (D : Nat → Bool) (t : Nat) : Option SV := match wS effs t with
  | some j => if D j then sget (effs.getD j ⟨[], [], [], []⟩).Ws t else sget sl t
  | none => sget sl t
def curH (effs : List Eff) (hp : HL) (D : Nat → Bool) (t : Nat) : Option HE := (lastH effs 0 D t).getD (hget hp t)

theorem sget_app (l sl : SL) (t : Nat) : sget (l ++ sl) t = if l.any (fun p => Nat.beq p.1 t) then sget l t else sget sl t := by
  induction l with
  | nil => rfl
  | cons p l ih =>
    obtain ⟨k, c⟩ := p
    rw [List.cons_append, sget_cons, sget_cons, List.any_cons]
    by_cases h : k = t
    · subst h; simp
    · have : Nat.beq k t = false := by
        cases hb : Nat.beq k t with
        | false => rfl
        | true => exact absurd (Nat.eq_of_beq_eq_true hb) h
      simp only [this, Bool.false_or, if_neg h, ih]

theorem hget_app (l hp : HL) (t : Nat) : hget (l ++ hp) t = if l.any (fun p => Nat.beq p.1 t) then hget l t else hget hp t := by
  induction l with
  | nil => rfl
  | cons p l ih =>
    obtain ⟨k, c⟩ := p
    rw [List.cons_append, hget_cons, hget_cons, List.any_cons]
    by_cases h : k = t
    · subst h; simp
    · have : Nat.beq k t = false := by
        cases hb : Nat.beq k t with
        | false => rfl
        | true => exact absurd (Nat.eq_of_beq_eq_true hb) h
      simp only [this, Bool.false_or, if_neg h, ih]

theorem wS_some {effs : List Eff} {deps : List (List Nat)} (h1 : single effs deps = true) {i t : Nat} {e : Eff} (hi : effs[i]? = some e) (ht : e.Ws.any (fun p => Nat.beq p.1 t) = true) : wS effs t = some i := by
  simp only [single, List.all_eq_true, Bool.and_eq_true] at h1
  have hlt : i < effs.length := (List.getElem?_eq_some_iff.1 hi).1
  have := (h1 i (List.mem_range.2 hlt)).1
  rw [List.getD_eq_getElem?_getD, hi] at this
  obtain ⟨p, hp, hpt⟩ := List.any_eq_true.1 ht
  have hq := this p hp
  rw [Nat.eq_of_beq_eq_true hpt] at hq
  simpa using hq

theorem wH_order {effs : List Eff} {deps : List (List Nat)} (h1 : single effs deps = true) {i j t : Nat} {e e' : Eff} (hi : effs[i]? = some e) (ht : wrH t e = true) (hji : j < i) (hj : effs[j]? = some e') (ht' : wrH t e' = true) : mem (deps.getD i []) j = true := by
  simp only [single, List.all_eq_true, Bool.and_eq_true] at h1
  have hlt : i < effs.length := (List.getElem?_eq_some_iff.1 hi).1
  have := (h1 i (List.mem_range.2 hlt)).2
  rw [List.getD_eq_getElem?_getD, hi] at this
  obtain ⟨p, hp, hpt⟩ := List.any_eq_true.1 ht
  have hq := this p hp j (List.mem_range.2 hji)
  rw [Nat.eq_of_beq_eq_true hpt, List.getD_eq_getElem?_getD, hj] at hq
  simpa [ht'] using hq

theorem wS_any {effs : List Eff} {j t : Nat} (h : wS effs t = some j) : ∃ e, effs[j]? = some e ∧ e.Ws.any (fun p => Nat.beq p.1 t) = true := by
  obtain ⟨hlt, h2, _⟩ := List.findIdx?_eq_some_iff_getElem.1 h
  exact ⟨effs[j], by simp, h2⟩

section
variable {P : Program} {nt : Nat} {C : Cx P nt} {Q0 : Exit → Act → World → Prop} {k : List KI}

theorem drawn_any {ops : Array Oper} {effs : List Eff} {deps : List (List Nat)} {sl : SL} {hp : HL} {Q : Exit → Act → World → Prop}
    (hd : depsOk ops deps = true) (hl : effs.length = ops.size) (h1 : single effs deps = true) (hr : allRead effs deps sl hp 0 effs) (ho : allOps C ops 0 effs)
    (hQ : ∀ a w sl' hp', Rel C ⟨sl', hp'⟩ a w → (∀ t, sget sl' t = curS effs sl (fun _ => true) t) → (∀ t, hget hp' t = curH effs hp (fun _ => true) t) → Q .normal a w) :
    ∀ (fuel : Nat) (listed : Array Bool) (a : Act) (w : World) (sl' : SL) (hp' : HL), listed.size = ops.size → (List.range ops.size).countP (fun i => !listed.getD i true) = fuel →
      (∀ i o, ops[i]? = some o → listed.getD i true = true → ∀ e ∈ o.after, Region.binds .any e = true → listed.getD e.on false = true) →
      Rel C ⟨sl', hp'⟩ a w → (∀ t, sget sl' t = curS effs sl (fun i => listed.getD i false) t) → (∀ t, hget hp' t = curH effs hp (fun i => listed.getD i false) t) → wpAny P .any ops Q fuel listed a w := by
  simp only [depsOk, Bool.and_eq_true, List.all_eq_true, List.mem_range] at hd
  obtain ⟨hdl, hd⟩ := hd
  -- a listed operation has all of its 'deps' listed
  have closed : ∀ (listed : Array Bool), (∀ i o, ops[i]? = some o → listed.getD i true = true → ∀ e ∈ o.after, Region.binds .any e = true → listed.getD e.on false = true) →
      ∀ n i, i < n → i < ops.size → (∀ o, ops[i]? = some o → ∀ e ∈ o.after, Region.binds .any e = true → listed.getD e.on false = true) → ∀ j, mem (deps.getD i []) j = true → listed.getD j false = true := by
    intro listed hcl n
    induction n with
    | zero => intro i h; omega
    | succ n ih =>
      intro i hin hi hdir j hj
      have hdi := hd i hi
      have hoi : ops[i]? = some ops[i] := by simp [hi]
      rw [hoi] at hdi
      simp only [Bool.and_eq_true, List.all_eq_true] at hdi
      obtain ⟨hlt, hdep⟩ := hdi
      have := hdep j (mem_iff.1 hj)
      obtain ⟨e, he, hb⟩ := List.any_eq_true.1 this
      simp only [Bool.and_eq_true, Bool.or_eq_true] at hb
      have hem : e ∈ ops[i].after := Array.mem_toList_iff.1 he
      have hon := hdir _ hoi e hem hb.1
      rcases hb.2 with h2 | h2
      · rw [Nat.eq_of_beq_eq_true h2] at hon; exact hon
      · have hlt' := hlt e he
        simp only [hb.1, Bool.not_true, Bool.false_or, Nat.blt_eq] at hlt'
        refine ih e.on (by omega) (by omega) (fun o ho' e' he' hb' => hcl e.on o ho' ?_ e' he' hb') j h2
        have : e.on < listed.size := by
          cases hc : listed[e.on]? with
          | none => simp [hc] at hon
          | some b => exact (Array.getElem?_eq_some_iff.1 hc).1
        simp only [Array.getD_eq_getD_getElem?, Array.getElem?_eq_getElem this, Option.getD_some] at hon ⊢
        exact hon
  intro fuel
  induction fuel with
  | zero =>
    intro listed a w sl' hp' hsz hcount hcl hrel hs hh
    have hall : ∀ i, i < ops.size → listed.getD i true = true := by
      intro i hi
      have := List.countP_eq_zero.1 hcount i (List.mem_range.2 hi)
      simpa using this
    refine ⟨?_, hQ a w sl' hp' hrel (fun t => ?_) (fun t => ?_)⟩
    · rw [Region.ready, List.filter_eq_nil_iff]
      intro i hi
      simp [hall i (List.mem_range.1 hi)]
    · rw [hs t]
      simp only [curS]
      cases hw : wS effs t with
      | none => rfl
      | some j =>
        obtain ⟨e, he, _⟩ := wS_any hw
        have hj : j < ops.size := by rw [← hl]; exact (List.getElem?_eq_some_iff.1 he).1
        have := hall j hj
        have h2 : listed.getD j false = true := by
          simp only [Array.getD_eq_getD_getElem?, Array.getElem?_eq_getElem (show j < listed.size by omega), Option.getD_some] at this ⊢
          exact this
        simp only [h2]
    · rw [hh t]
      simp only [curH]
      rw [lastH_congr (D' := fun _ => true) (fun j e he _ => ?_)]
      have hj : j < ops.size := by rw [← hl]; exact (List.getElem?_eq_some_iff.1 he).1
      have := hall j hj
      rw [Nat.zero_add]
      simp only [Array.getD_eq_getD_getElem?, Array.getElem?_eq_getElem (show j < listed.size by omega), Option.getD_some] at this ⊢
      exact this
  | succ fuel ih =>
    intro listed a w sl' hp' hsz hcount hcl hrel hs hh
    refine ⟨fun hempty => ?_, fun i hi => ?_⟩
    · -- something is left, and the first of what is left is ready
      exfalso
      have hex : ∃ i, i < ops.size ∧ listed.getD i true = false := by
        have : 0 < (List.range ops.size).countP (fun i => !listed.getD i true) := by omega
        obtain ⟨i, hi, h⟩ := List.countP_pos_iff.1 this
        exact ⟨i, List.mem_range.1 hi, by simpa using h⟩
      have hmin : ∀ n, ∀ i, i < n → i < ops.size → listed.getD i true = false → False := by
        intro n
        induction n with
        | zero => intro i h; omega
        | succ n ihn =>
          intro i hin hi hli
          have hoi : ops[i]? = some ops[i] := by simp [hi]
          have hnr : ¬ i ∈ Region.ready .any ops listed := by rw [hempty]; simp
          have hdi := hd i hi
          rw [hoi] at hdi
          simp only [Bool.and_eq_true, List.all_eq_true] at hdi
          have hbad : ∃ e ∈ ops[i].after, Region.binds .any e = true ∧ listed.getD e.on false = false := by
            refine Classical.byContradiction fun hno => hnr ?_
            rw [Region.ready, List.mem_filter]
            refine ⟨List.mem_range.2 hi, ?_⟩
            rw [hoi]
            simp only [hli, Bool.not_false, Option.map_some, Option.getD_some, Bool.true_and, Array.all_eq_true]
            intro q hq
            have hmem : ops[i].after[q] ∈ ops[i].after := Array.getElem_mem hq
            cases hb : Region.binds .any ops[i].after[q] with
            | false => simp
            | true =>
              cases hx : listed.getD ops[i].after[q].on false with
              | true => simp
              | false => exact absurd ⟨_, hmem, hb, hx⟩ hno
          obtain ⟨e, he, hb, hx⟩ := hbad
          have hlt' := hdi.1 e (Array.mem_toList_iff.2 he)
          simp only [hb, Bool.not_true, Bool.false_or, Nat.blt_eq] at hlt'
          refine ihn e.on (by omega) (by omega) ?_
          have : e.on < listed.size := by omega
          simp only [Array.getD_eq_getD_getElem?, Array.getElem?_eq_getElem this, Option.getD_some] at hx ⊢
          exact hx
      obtain ⟨i, h2, h3⟩ := hex
      exact hmin (i + 1) i (by omega) h2 h3
    · -- operation i comes up
      rw [Region.ready, List.mem_filter] at hi
      obtain ⟨hir, hi2⟩ := hi
      have hilt : i < ops.size := List.mem_range.1 hir
      have hoi : ops[i]? = some ops[i] := by simp [hilt]
      rw [hoi] at hi2
      simp only [Option.map_some, Option.getD_some, Bool.and_eq_true, Bool.not_eq_true', Array.all_eq_true] at hi2
      obtain ⟨hni, hdirect⟩ := hi2
      have hdir : ∀ o, ops[i]? = some o → ∀ e ∈ o.after, Region.binds .any e = true → listed.getD e.on false = true := by
        intro o ho' e he hb
        rw [hoi] at ho'; cases ho'
        obtain ⟨q, hq, rfl⟩ := Array.mem_iff_getElem.1 he
        have := hdirect q hq
        simpa [hb] using this
      have hilt' : i < listed.size := by omega
      have hni' : listed.getD i false = false := by
        simp only [Array.getD_eq_getD_getElem?, Array.getElem?_eq_getElem hilt', Option.getD_some] at hni ⊢
        exact hni
      have hdone : ∀ j, mem (deps.getD i []) j = true → listed.getD j false = true := closed listed hcl (i + 1) i (by omega) hilt hdir
      -- who has i ahead of it is not listed
      have hnot : ∀ j, j < ops.size → mem (deps.getD j []) i = true → listed.getD j false = false := by
        intro j hj hm
        cases hc : listed.getD j false with
        | false => rfl
        | true =>
          have hjt : listed.getD j true = true := by
            have : j < listed.size := by omega
            simp only [Array.getD_eq_getD_getElem?, Array.getElem?_eq_getElem this, Option.getD_some] at hc ⊢
            exact hc
          have := closed listed hcl (j + 1) j (by omega) hj (fun o ho' e he hb => hcl j o ho' hjt e he hb) i hm
          rw [hni'] at this; cases this
      obtain ⟨e, he⟩ : ∃ e, effs[i]? = some e := ⟨effs[i], by simp [hl, hilt]⟩
      have hop := allOps_get ho he
      have hrd := allRead_get hr he
      rw [Nat.zero_add] at hop hrd
      have hHS : ∀ l, readS effs deps sl i l → HasS sl' l := by
        intro l
        induction l with
        | nil => intro _; trivial
        | cons p l ihl =>
          obtain ⟨t, sv⟩ := p
          rintro ⟨q1, q2⟩
          refine ⟨?_, ihl q2⟩
          rw [hs t]
          simp only [curS]
          cases hw : wS effs t with
          | none => rw [hw] at q1; exact q1
          | some j =>
            rw [hw] at q1
            simp only at q1 ⊢
            split at q1
            · rename_i c; rw [if_pos (hdone j c)]; exact q1
            · obtain ⟨e', he', _⟩ := wS_any hw
              have hj : j < ops.size := by rw [← hl]; exact (List.getElem?_eq_some_iff.1 he').1
              rw [if_neg (by rw [hnot j hj q1.1]; simp)]; exact q1.2
      have hHH : ∀ l, readH effs deps hp i l → HasH hp' l := by
        intro l
        induction l with
        | nil => intro _; trivial
        | cons p l ihl =>
          obtain ⟨t, sv⟩ := p
          rintro ⟨q1, q2⟩
          refine ⟨?_, ihl q2⟩
          rw [hh t, ← q1.2]
          simp only [curH]
          rw [lastH_congr (D' := mem (deps.getD i [])) (fun j e' he' hw => ?_)]
          have hj : j < effs.length := (List.getElem?_eq_some_iff.1 he').1
          have hok := List.all_eq_true.1 q1.1 j (List.mem_range.2 hj)
          rw [List.getD_eq_getElem?_getD, he'] at hok
          simp only [Option.getD_some, hw, Bool.not_true, Bool.false_or, Bool.or_eq_true] at hok
          rw [Nat.zero_add]
          cases hm : mem (deps.getD i []) j with
          | true => exact hdone j hm
          | false =>
            rcases hok with hq | hq | hq
            · rw [hm] at hq; cases hq
            · rw [Nat.eq_of_beq_eq_true hq]; exact hni'
            · exact hnot j (by rw [← hl]; exact hj) hq
      have hgetset : ∀ j, (listed.setIfInBounds i true).getD j false = if j = i then true else listed.getD j false := by
        intro j
        simp only [Array.getD_eq_getD_getElem?, Array.getElem?_setIfInBounds]
        by_cases c : i = j
        · subst c; simp [hilt']
        · rw [if_neg c, if_neg (fun c' => c c'.symm)]
      have hgetset' : ∀ j, (listed.setIfInBounds i true).getD j true = if j = i then true else listed.getD j true := by
        intro j
        simp only [Array.getD_eq_getD_getElem?, Array.getElem?_setIfInBounds]
        by_cases c : i = j
        · subst c; simp [hilt']
        · rw [if_neg c, if_neg (fun c' => c c'.symm)]
      refine hop.go sl' hp' (hHS _ hrd.1) (hHH _ hrd.2) a w _ _ hrel fun a' w' hrel' => ?_
      refine ih (listed.setIfInBounds i true) a' w' _ _ (by simpa using hsz) ?_ ?_ hrel' (fun t => ?_) (fun t => ?_)
      · -- one fewer is left
        have e1 : ∀ (l : List Nat), l.Nodup → i ∈ l → l.countP (fun j => !listed.getD j true) = l.countP (fun j => !(listed.setIfInBounds i true).getD j true) + 1 := by
          intro l
          induction l with
          | nil => intro _ h; cases h
          | cons x l ihl =>
            intro hnd hm
            rw [List.countP_cons, List.countP_cons, hgetset']
            rw [List.nodup_cons] at hnd
            by_cases c : x = i
            · subst c
              have : ∀ j ∈ l, (!listed.getD j true) = (!(listed.setIfInBounds x true).getD j true) := by
                intro j hj
                rw [hgetset', if_neg (fun c : j = x => hnd.1 (c ▸ hj))]
              rw [List.countP_congr (fun j hj => by rw [this j hj])]
              simp [hni]
            · have hm' : i ∈ l := (List.mem_cons.1 hm).resolve_left (fun c' => c c'.symm)
              rw [ihl hnd.2 hm', if_neg c]
              omega
        have := e1 (List.range ops.size) List.nodup_range hir
        omega
      · intro j o ho' hj e' he' hb
        rw [hgetset]
        split
        · rfl
        · rw [hgetset'] at hj
          by_cases c : j = i
          · subst c; exact hdir o ho' e' he' hb
          · rw [if_neg c] at hj; exact hcl j o ho' hj e' he' hb
      · rw [sget_app]
        simp only [curS]
        by_cases c : e.Ws.any (fun p => Nat.beq p.1 t) = true
        · rw [if_pos c, wS_some h1 he c]
          simp only [hgetset, if_true]
          rw [List.getD_eq_getElem?_getD, he]; rfl
        · rw [if_neg c, hs t]
          simp only [curS]
          cases hw : wS effs t with
          | none => rfl
          | some j =>
            have hji : j ≠ i := fun c' => by
              subst c'
              obtain ⟨e', he', h3⟩ := wS_any hw
              rw [he] at he'; cases he'; exact c h3
            simp only [hgetset, if_neg hji]
      · rw [hget_app]
        simp only [curH]
        by_cases c : e.Wh.any (fun p => Nat.beq p.1 t) = true
        · rw [if_pos c, lastH_top he c (by rw [Nat.zero_add, hgetset]; simp) (fun j e' hij hj hw => ?_)]
          · rfl
          · rw [Nat.zero_add, hgetset, if_neg (by omega)]
            have hjl : j < ops.size := by rw [← hl]; exact (List.getElem?_eq_some_iff.1 hj).1
            exact hnot j hjl (wH_order h1 hj hw hij he c)
        · rw [if_neg c, hh t]
          simp only [curH]
          rw [lastH_congr (fun j e' hj hw => ?_)]
          rw [Nat.zero_add, hgetset]
          by_cases hji : j = i
          · subst hji; rw [he] at hj; cases hj; exact absurd hw c
          · rw [if_neg hji]

/-- what is in the slots in the end: a list of slots and blocks that are looked up there -/
def endS (effs : List Eff) (sl : SL) : SL → Prop
  | [] => True
  | (t, sv) :: r => curS effs sl (fun _ => true) t = some sv ∧ endS effs sl r
def endH (effs : List Eff) (hp : HL) : HL → Prop
  | [] => True
  | (t, sv) :: r => curH effs hp (fun _ => true) t = sv ∧ endH effs hp r

theorem G.drawn {id : Nat} {l : List Oper} {effs : List Eff} {deps : List (List Nat)} {sl sl' : SL} {hp hp' : HL} (hm : P.follows .mixedOrders = true)
    (hd : depsOk l.toArray deps = true) (hl : effs.length = l.length) (h1 : single effs deps = true) (hr : allRead effs deps sl hp 0 effs) (ho : allOps C l.toArray 0 effs)
    (hs : endS effs sl sl') (hh : endH effs hp hp') (hw : wellId sl' hp' = true) (hk : G C Q0 k ⟨sl', hp'⟩) : G C Q0 (.c (.region id l.toArray true) :: k) ⟨sl, hp⟩ := ⟨fun a w ⟨β, r⟩ => by
  refine wp_region_any hm ?_
  have hrel : Rel C ⟨sl, hp⟩ a { w with drawn := w.drawn + 1 } := ⟨β, r.put_none ⟨rfl, rfl, rfl, Nat.le_refl _, fun _ _ => rfl⟩⟩
  have hrep : ∀ i, (Array.replicate l.toArray.size false).getD i false = false := fun i => by
    simp only [Array.getD_eq_getD_getElem?, Array.getElem?_replicate]
    split <;> rfl
  refine drawn_any hd (by simpa using hl) h1 hr ho (fun a w sl1 hp1 r1 e1 e2 => ?_) _ _ a _ sl hp (by simp) ?_ ?_ hrel (fun t => ?_) (fun t => ?_)
  · have hS : ∀ l, endS effs sl l → HasS sl1 l := by
      intro l
      induction l with
      | nil => intro _; trivial
      | cons p l ih => obtain ⟨t, sv⟩ := p; rintro ⟨q1, q2⟩; exact ⟨(e1 t).trans q1, ih q2⟩
    have hH : ∀ l, endH effs hp l → HasH hp1 l := by
      intro l
      induction l with
      | nil => intro _; trivial
      | cons p l ih => obtain ⟨t, sv⟩ := p; rintro ⟨q1, q2⟩; exact ⟨(e2 t).trans q1, ih q2⟩
    exact hk.go a w (r1.keepOnly (hS _ hs) (hH _ hh) hw)
  · have : ∀ (l' : List Nat), (∀ i ∈ l', i < l.toArray.size) → l'.countP (fun i => !(Array.replicate l.toArray.size false).getD i true) = l'.length := by
      intro l' hl'
      rw [List.countP_eq_length]
      intro i hi
      have := hl' i hi
      simp only [Array.getD_eq_getD_getElem?, Array.getElem?_replicate, if_pos this]
      rfl
    rw [this _ (fun i hi => List.mem_range.1 hi)]
    simp
  · intro i o hio hli
    have hi : i < l.toArray.size := (Array.getElem?_eq_some_iff.1 hio).1
    simp only [Array.getD_eq_getD_getElem?, Array.getElem?_replicate, if_pos hi] at hli
    cases hli
  · simp only [curS]
    cases wS effs t with
    | none => rfl
    | some j => simp only [hrep, Bool.false_eq_true, if_false]
  · simp only [curH]
    rw [lastH_none (fun j e hj hw => hrep _)]
    rfl⟩
end
end Go.Ab
