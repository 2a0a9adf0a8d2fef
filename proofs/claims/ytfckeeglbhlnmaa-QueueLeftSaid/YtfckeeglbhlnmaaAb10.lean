/- The abstract machine: control, what a function hands back, contracts out of walks. Conditions: none but those that stand in each law. -/
import Derived.Test.YtfckeeglbhlnmaaAb9
namespace Go.Ab
open Go Go.RowKit

inductive KI where
  | s
  | c (x : Code)
  | b (id : Nat)
  | l (ops : Array Oper) (rest : List Oper)
  | q (K : Act → World → Prop)

def runK (P : Program) (it : KI) (Q : Exit → Act → World → Prop) (a : Act) (w : World) : Prop :=
  match it with
  | .s => Q .normal a w
  | .c x => x.wp P Q a w
  | .b _ => Q .normal a w
  | .l ops rest => wpList P ops Q rest a w
  | .q K => K a w

def Qof (P : Program) (Q0 : Exit → Act → World → Prop) : List KI → Exit → Act → World → Prop
  | [] => Q0
  | .b id :: k => Exit.inBlock id (Qof P Q0 k)
  | .s :: k => Exit.noGoto (Qof P Q0 k)
  | it :: k => Exit.then (runK P it (Qof P Q0 k)) (Qof P Q0 k)

/-- from the state st on, what stands on the stack leads to Q0 -/
structure G {P : Program} {nt : Nat} (C : Cx P nt) (Q0 : Exit → Act → World → Prop) (k : List KI) (st : St) : Prop where
  go : ∀ a w, Rel C st a w → Qof P Q0 k .normal a w
structure GX {P : Program} {nt : Nat} (C : Cx P nt) (Q0 : Exit → Act → World → Prop) (id : Nat) (k : List KI) (st : St) : Prop where
  go : ∀ a w, Rel C st a w → Qof P Q0 k (.exit id) a w

theorem Qof_ret {P : Program} {Q0 : Exit → Act → World → Prop} {a : Act} {w : World} : ∀ {k : List KI}, Q0 .ret a w → Qof P Q0 k .ret a w
  | [], h => h
  | .b _ :: k, h => Qof_ret (k := k) h
  | .s :: k, h => Qof_ret (k := k) h
  | .c _ :: k, h => Qof_ret (k := k) h
  | .l _ _ :: k, h => Qof_ret (k := k) h
  | .q _ :: k, h => Qof_ret (k := k) h

section
variable {P : Program} {nt : Nat} {C : Cx P nt} {Q0 : Exit → Act → World → Prop} {k : List KI} {st st' : St}

theorem G.seq {x y : Code} (h : G C Q0 (.c x :: .c y :: k) st) : G C Q0 (.c (.seq x y) :: k) st := ⟨fun a w r => wp_seq (h.go a w r)⟩
theorem G.block {id : Nat} {x : Code} (h : G C Q0 (.c x :: .b id :: k) st) : G C Q0 (.c (.block id x) :: k) st := ⟨fun a w r => wp_block (h.go a w r)⟩
theorem G.endBlock {id : Nat} (h : G C Q0 k st) : G C Q0 (.b id :: k) st := ⟨fun a w r => h.go a w r⟩
theorem G.scope {x : Code} (h : G C Q0 (.c x :: .s :: k) st) : G C Q0 (.c (.scope x) :: k) st := ⟨fun a w r => wp_scope_straight (h.go a w r)⟩
theorem G.endScope (h : G C Q0 k st) : G C Q0 (.s :: k) st := ⟨fun a w r => h.go a w r⟩
theorem G.skip (h : G C Q0 k st) : G C Q0 (.c .skip :: k) st := ⟨fun a w r => wp_skip (h.go a w r)⟩
theorem G.label {l : Nat} (h : G C Q0 k st) : G C Q0 (.c (.label l) :: k) st := ⟨fun a w r => wp_label (h.go a w r)⟩
theorem G.exit {id : Nat} (h : GX C Q0 id k st) : G C Q0 (.c (.exit id) :: k) st := ⟨fun a w r => wp_exit (h.go a w r)⟩
theorem GX.c {id : Nat} {x : Code} (h : GX C Q0 id k st) : GX C Q0 id (.c x :: k) st := ⟨fun a w r => h.go a w r⟩
theorem GX.s {id : Nat} (h : GX C Q0 id k st) : GX C Q0 id (.s :: k) st := ⟨fun a w r => h.go a w r⟩
theorem GX.q {id : Nat} {K : Act → World → Prop} (h : GX C Q0 id k st) : GX C Q0 id (.q K :: k) st := ⟨fun a w r => h.go a w r⟩
theorem GX.bNo {id id' : Nat} (hn : Nat.beq id id' = false) (h : GX C Q0 id k st) : GX C Q0 id (.b id' :: k) st := ⟨fun a w r => by
  have hne : ¬ (id = id') := fun c => by subst c; simp at hn
  show Exit.inBlock id' (Qof P Q0 k) (.exit id) a w
  simp only [Exit.inBlock, hne, if_false]
  exact h.go a w r⟩
theorem GX.bYes {id : Nat} (h : G C Q0 k st) : GX C Q0 id (.b id :: k) st := ⟨fun a w r => by
  show Exit.inBlock id (Qof P Q0 k) (.exit id) a w
  simp only [Exit.inBlock, if_true]
  exact h.go a w r⟩

theorem G.cond {t : Nat} {b : Bool} {x y : Code} (hs : sget st.sl t = some (.one (bB b))) (h1 : b = true → G C Q0 (.c x :: k) st) (h2 : b = false → G C Q0 (.c y :: k) st) : G C Q0 (.c (.cond (.tmp t) x y) :: k) st := ⟨fun a w r => by
  obtain ⟨β, r⟩ := r
  have hv : a.eval (.tmp t) = .bool b := RD.v_inv (r.sl t _ hs)
  exact wp_cond_split hv (fun h => (h1 h).go a w ⟨β, r⟩) (fun h => (h2 h).go a w ⟨β, r⟩)⟩

theorem G.condT {t : Nat} {x y : Code} (hs : sget st.sl t = some (.one (bB true))) (h1 : G C Q0 (.c x :: k) st) : G C Q0 (.c (.cond (.tmp t) x y) :: k) st := G.cond hs (fun _ => h1) (fun h => by cases h)
theorem G.condF {t : Nat} {x y : Code} (hs : sget st.sl t = some (.one (bB false))) (h1 : G C Q0 (.c y :: k) st) : G C Q0 (.c (.cond (.tmp t) x y) :: k) st := G.cond hs (fun h => by cases h) (fun _ => h1)

theorem wp_loop_fuel {P : Program} {c : Code} {Q : Exit → Act → World → Prop} {a : Act} {w : World} (I : Nat → Act → World → Prop) (n : Nat) (h0 : I n a w)
    (round : ∀ n a w, I n a w → c.wp P (Exit.then (fun a' w' => ∃ m, m < n ∧ I m a' w') Q) a w) : (Code.loop c).wp P Q a w := by
  intro b k cs
  have key : ∀ n a w, I n a w → ∃ e a' w', Q e a' w' ∧ Arrives P (lone (b.at a (.code c :: .inLoop c :: k)) cs w) b k cs e a' w' := by
    intro n
    induction n using Nat.strongRecOn with
    | _ n ih =>
      intro a w hI
      have hr := round n a w hI b (.inLoop c :: k) cs
      obtain ⟨e, a₁, w₁, hq, harr⟩ := hr
      have out : ∀ e', e = e' → e' ≠ .normal → ∃ e a' w', Q e a' w' ∧ Arrives P (lone (b.at a (.code c :: .inLoop c :: k)) cs w) b k cs e a' w' := by
        intro e' he hn
        subst he
        refine ⟨e, a₁, w₁, ?_, Arrives.pass (x := .inLoop c) rfl (fun _ _ => .inl hn) harr⟩
        cases e <;> first | exact hq | exact absurd rfl hn
      cases e with
      | normal =>
        obtain ⟨m, hm, hIm⟩ := hq
        obtain ⟨e₂, a₂, w₂, hq₂, harr₂⟩ := ih m hm a₁ w₁ hIm
        exact ⟨e₂, a₂, w₂, hq₂, .of_steps (Steps.trans harr (.one step_inLoop)) harr₂⟩
      | _ => exact out _ rfl (by simp)
  obtain ⟨e, a', w', hq, harr⟩ := key n a w h0
  exact ⟨e, a', w', hq, .of_steps (.one step_loop) harr⟩

/-- a loop: by how many rounds it may still take -/
theorem G.loop {x : Code} (I : Nat → St → Prop) (n : Nat) (h0 : I n st)
    (round : ∀ n st, I n st → G C Q0 (.c x :: .q (fun a w => ∃ m, m < n ∧ ∃ st', I m st' ∧ Rel C st' a w) :: k) st) : G C Q0 (.c (.loop x) :: k) st := ⟨fun a w r =>
  wp_loop_fuel (fun n a w => ∃ st', I n st' ∧ Rel C st' a w) n ⟨st, h0, r⟩ fun n a w ⟨st', hI, r'⟩ => (round n st' hI).go a w r'⟩

theorem G.again {I : Nat → St → Prop} {n m : Nat} (hm : m < n) (hI : I m st) : G C Q0 (.q (fun a w => ∃ m, m < n ∧ ∃ st', I m st' ∧ Rel C st' a w) :: k) st := ⟨fun _ _ r => ⟨m, hm, st, hI, r⟩⟩

theorem G.region {id : Nat} {l : List Oper} (h : G C Q0 (.l l.toArray l :: k) st) : G C Q0 (.c (.region id l.toArray false) :: k) st := ⟨fun a w r => wp_region_lit (h.go a w r)⟩
theorem G.endOps {ops : Array Oper} (h : G C Q0 k st) : G C Q0 (.l ops [] :: k) st := ⟨fun a w r => wpList_nil (P := P) (ops := ops) (Q := Qof P Q0 k) (h.go a w r)⟩

theorem G.op {ops : Array Oper} {rest : List Oper} {o : Oper} {sl sl' : SL} {hp hp' : HL} {Rs Ws : List (Nat × SV)} {Rh Wh : List (Nat × Option HE)}
    (h : OpL C o Rs Rh Ws Wh) (hg : o.guard = none) (hs : HasS sl Rs) (hh : HasH hp Rh) (e1 : Ws ++ sl = sl') (e2 : Wh ++ hp = hp')
    (hk : G C Q0 (.l ops rest :: k) ⟨sl', hp'⟩) : G C Q0 (.l ops (o :: rest) :: k) ⟨sl, hp⟩ := ⟨fun a w r => by
  subst e1 e2
  exact wpList_plain hg fun K hK => h.go sl hp hs hh a w K _ r fun a w r => hK a w (hk.go a w r)⟩

theorem RelB.undefd {sl : SL} {hp : HL} {β : Nat → Option Nat} {a : Act} {w : World} (r : RelB C ⟨sl, hp⟩ β a w) (dst : Nat) : RelB C ⟨(dst, .one (.x Go.undef)) :: sl, hp⟩ β (a.put (some dst) Go.undef) w := by
  refine ⟨r.keep, r.low, r.inj, r.own, r.hp, fun t sv hs => ?_, by simp [Act.put, r.size], r.df⟩
  simp only [sget_cons] at hs
  rw [getD_put]
  by_cases h : dst = t
  · rw [if_pos h] at hs
    cases hs
    subst h
    show _ = Go.undef
    split
    · rfl
    · rename_i c
      have : a.tmps.size ≤ dst := by simp only [true_and, Nat.not_lt] at c; exact c
      simp [this]
  · rw [if_neg h] at hs
    rw [if_neg (fun c => h c.1)]
    exact r.sl t sv hs

theorem yielded_of {sl : SL} {hp : HL} {β : Nat → Option Nat} {a : Act} {w : World} (r : RelB C ⟨sl, hp⟩ β a w) {ops : Array Oper} {j t : Nat} {b : Bool} (hj : (ops[j]?).bind (·.dst) = some t) (hs : sget sl t = some (.one (bB b))) :
    yielded ops a.tmps j = some b := by
  have h1 : a.tmps.getD t Go.undef = .bool b := RD.v_inv (r.sl t _ hs)
  have h2 : a.tmps[t]? = some (.bool b) := by
    rw [Array.getD_eq_getD_getElem?] at h1
    cases h3 : a.tmps[t]? with
    | none => rw [h3] at h1; simp [undef] at h1
    | some v => rw [h3] at h1; simp at h1; rw [h1]
  simp [yielded, hj, h2]

/-- an operation under a guard that holds -/
theorem G.opG {ops : Array Oper} {rest : List Oper} {o : Oper} {sl sl' : SL} {hp hp' : HL} {Rs Ws : List (Nat × SV)} {Rh Wh : List (Nat × Option HE)} {j t : Nat} {b : Bool}
    (h : OpL C o Rs Rh Ws Wh) (hg : o.guard = some (j, b)) (hj : (ops[j]?).bind (·.dst) = some t) (ht : sget sl t = some (.one (bB b))) (hs : HasS sl Rs) (hh : HasH hp Rh) (e1 : Ws ++ sl = sl') (e2 : Wh ++ hp = hp')
    (hk : G C Q0 (.l ops rest :: k) ⟨sl', hp'⟩) : G C Q0 (.l ops (o :: rest) :: k) ⟨sl, hp⟩ := ⟨fun a w ⟨β, r⟩ => by
  subst e1 e2
  have hy := yielded_of r hj ht
  exact wpList_step fun K hK => by
    simp only [Region.wanted, hg, hy, beq_self_eq_true, if_true]
    exact h.go sl hp hs hh a w K _ ⟨β, r⟩ fun a w r => hK a w (hk.go a w r)⟩

theorem yielded_undef {sl : SL} {hp : HL} {β : Nat → Option Nat} {a : Act} {w : World} (r : RelB C ⟨sl, hp⟩ β a w) {ops : Array Oper} {j t : Nat} (hj : (ops[j]?).bind (·.dst) = some t) (hs : sget sl t = some (.one (.x Go.undef))) :
    yielded ops a.tmps j = none := by
  have h1 : a.tmps.getD t Go.undef = Go.undef := r.sl t _ hs
  rw [Array.getD_eq_getD_getElem?] at h1
  cases h3 : a.tmps[t]? with
  | none => simp [yielded, hj, h3]
  | some v => rw [h3] at h1; simp at h1; subst h1; simp [yielded, hj, h3, Go.undef]

/-- an operation under a guard that was itself passed over -/
theorem G.opU {ops : Array Oper} {rest : List Oper} {o : Oper} {sl : SL} {hp : HL} {dst j t : Nat} {c : Bool}
    (hd : o.dst = some dst) (hg : o.guard = some (j, c)) (hj : (ops[j]?).bind (·.dst) = some t) (ht : sget sl t = some (.one (.x Go.undef)))
    (hk : G C Q0 (.l ops rest :: k) ⟨(dst, .one (.x Go.undef)) :: sl, hp⟩) : G C Q0 (.l ops (o :: rest) :: k) ⟨sl, hp⟩ := ⟨fun a w ⟨β, r⟩ => by
  have hy := yielded_undef r hj ht
  exact wpList_step fun K hK => by
    have : (none == some c) = false := rfl
    simp only [Region.wanted, hg, hy, this, Bool.false_eq_true, if_false, hd]
    exact hK _ _ (hk.go _ _ ⟨β, r.undefd dst⟩)⟩

/-- an operation under a guard that does not hold -/
theorem G.opN {ops : Array Oper} {rest : List Oper} {o : Oper} {sl sl' : SL} {hp : HL} {dst j t : Nat} {b c : Bool}
    (hd : o.dst = some dst) (hg : o.guard = some (j, c)) (hbc : (b == c) = false) (hj : (ops[j]?).bind (·.dst) = some t) (ht : sget sl t = some (.one (bB b))) (e1 : (dst, .one (.x Go.undef)) :: sl = sl')
    (hk : G C Q0 (.l ops rest :: k) ⟨sl', hp⟩) : G C Q0 (.l ops (o :: rest) :: k) ⟨sl, hp⟩ := ⟨fun a w ⟨β, r⟩ => by
  subst e1
  have hy := yielded_of r hj ht
  exact wpList_step fun K hK => by
    have : (some b == some c) = false := by simpa using hbc
    simp only [Region.wanted, hg, hy, this, Bool.false_eq_true, if_false, hd]
    exact hK _ _ (hk.go _ _ ⟨β, r.undefd dst⟩)⟩

def BV.ids : BV → List Nat
  | .ptr k _ => [k]
  | .own k _ => [k]
  | .clo _ l => l
  | _ => []
def SV.ids : SV → List Nat
  | .one b => b.ids
  | .tup l => l.flatMap BV.ids
  | .dead => []
def HE.ids : HE → List Nat
  | .blk _ cs => cs.flatMap BV.ids
  | _ => []
def hasId (hp : HL) (k : Nat) : Bool := (hget hp k).isSome
def wellId (sl : SL) (hp : HL) : Bool := sl.all (fun p => p.2.ids.all (hasId hp)) && hp.all (fun p => match p.2 with | some e => e.ids.all (hasId hp) | none => true)

theorem sget_mem {sl : SL} {t : Nat} {sv : SV} (h : sget sl t = some sv) : (t, sv) ∈ sl := by
  induction sl with
  | nil => cases h
  | cons p sl ih =>
    obtain ⟨k, c⟩ := p
    rw [sget_cons] at h
    by_cases hk : k = t
    · subst hk; rw [if_pos rfl] at h; cases h; exact List.mem_cons_self
    · rw [if_neg hk] at h; exact List.mem_cons_of_mem _ (ih h)
theorem hget_mem {hp : HL} {t : Nat} {e : HE} (h : hget hp t = some e) : (t, some e) ∈ hp := by
  induction hp with
  | nil => cases h
  | cons p sl ih =>
    obtain ⟨k, c⟩ := p
    rw [hget_cons] at h
    by_cases hk : k = t
    · subst hk; rw [if_pos rfl] at h; subst h; exact List.mem_cons_self
    · rw [if_neg hk] at h; exact List.mem_cons_of_mem _ (ih h)
theorem HasS.mem {sl l : SL} (h : HasS sl l) {t : Nat} {sv : SV} (hm : (t, sv) ∈ l) : sget sl t = some sv := by
  induction l with
  | nil => cases hm
  | cons p l ih =>
    obtain ⟨k, c⟩ := p
    rcases List.mem_cons.1 hm with h1 | h1
    · cases h1; exact h.1
    · exact ih h.2 h1
theorem HasH.mem {hp l : HL} (h : HasH hp l) {t : Nat} {e : Option HE} (hm : (t, e) ∈ l) : hget hp t = e := by
  induction l with
  | nil => cases hm
  | cons p l ih =>
    obtain ⟨k, c⟩ := p
    rcases List.mem_cons.1 hm with h1 | h1
    · cases h1; exact h.1
    · exact ih h.2 h1

/-- slots and blocks that are not wanted any more are left out -/
theorem RelB.keepOnly {sl sl' : SL} {hp hp' : HL} {β : Nat → Option Nat} {a : Act} {w : World} (r : RelB C ⟨sl, hp⟩ β a w) (hs : HasS sl sl') (hh : HasH hp hp') (hsc : wellId sl' hp' = true) : RelB C ⟨sl', hp'⟩ β a w := by
  have hget' : ∀ k e, hget hp' k = some e → hget hp k = some e := fun k e h => hh.mem (hget_mem h)
  have hmu : ∀ b o, Mu C hp' β b o → Mu C hp β b o := by
    rintro b o (hM | ⟨k, e, he, hb, hm⟩)
    · exact .inl hM
    · exact .inr ⟨k, e, hget' k e he, hb, hm⟩
  have hst : ∀ b o x, ¬ Mu C hp β b o → w.cell? ⟨b, o, none⟩ = some x → w.cell? ⟨b, o, none⟩ = some x ∧ ¬ Mu C hp' β b o := fun b o x hn hx => ⟨hx, fun c => hn (hmu b o c)⟩
  simp only [wellId, Bool.and_eq_true, List.all_eq_true] at hsc
  have hBR : ∀ c u, (∀ k, k ∈ c.ids → hasId hp' k = true) → BR C hp β w c u → BR C hp' β w c u := by
    intro c u hi h
    have hup : ∀ k e, k ∈ c.ids → hget hp k = some e → hget hp' k = some e := fun k e hk he => by
      have := hi k hk
      simp only [hasId, Option.isSome_iff_exists] at this
      obtain ⟨e', he'⟩ := this
      rw [hget' k e' he'] at he
      cases he
      exact he'
    refine BR.kept hst (fun k hk e he hr => ⟨⟨e, hup k e ?_ he, hr⟩, rfl⟩) (fun k es0 hc h => ?_) h
    · cases c <;> simp_all [BV.ids]
    · subst hc
      obtain ⟨T, size, es, ex, h1, h2⟩ := h
      exact ⟨T, size, es, ex, hup k _ (by simp [BV.ids]) h1, h2⟩
  refine ⟨r.keep, r.low, fun k k' e e' b h1 h2 => r.inj k k' e e' b (hget' _ _ h1) (hget' _ _ h2), fun k e b h1 => r.own k e b (hget' _ _ h1), fun k e h1 => ?_, fun t sv ht => ?_, r.size, r.df⟩
  · have h2 := r.hp k e (hget' _ _ h1)
    cases e with
    | blk T cs =>
      obtain ⟨b, arr, q1, q2, q3, q4⟩ := h2
      refine ⟨b, arr, q1, q2, q3, fun j c hc => let ⟨u, hu, ho, hr⟩ := q4 j c hc; ⟨u, hu, ho, hBR c u (fun k' hk' => ?_) hr⟩⟩
      have := hsc.2 _ (hget_mem h1)
      simp only [HE.ids, List.all_eq_true] at this
      exact this k' (List.mem_flatMap.2 ⟨c, List.mem_of_getElem? hc, hk'⟩)
    | row T size es ex =>
      obtain ⟨hz, hs, hr⟩ := h2
      exact ⟨hz, hs, hr.imp id fun ⟨b, cur, q1, q2, q3, q4⟩ => ⟨b, cur, q1, q2, q3, fun i cs j d hi hj => let ⟨u, hu, hr⟩ := q4 i cs j d hi hj; ⟨u, hu, hr.mono hst⟩⟩⟩
    | it s pos => exact h2
  · have h1 := r.sl t sv (hs.mem (sget_mem ht))
    have h2 := hsc.1 _ (sget_mem ht)
    cases sv with
    | one b => exact hBR b _ (fun k hk => h2 k hk) h1
    | tup l =>
      obtain ⟨us, q1, q2, q3⟩ := h1
      refine ⟨us, q1, q2, fun i b hi => let ⟨x, hx, hr⟩ := q3 i b hi; ⟨x, hx, hBR b x (fun k hk => ?_) hr⟩⟩
      exact h2 k (List.mem_flatMap.2 ⟨b, List.mem_of_getElem? hi, hk⟩)
    | dead => trivial

theorem G.keep {sl sl' : SL} {hp hp' : HL} (hs : HasS sl sl') (hh : HasH hp hp') (hsc : wellId sl' hp' = true) (h : G C Q0 k ⟨sl', hp'⟩) : G C Q0 k ⟨sl, hp⟩ := ⟨fun a w ⟨β, r⟩ => h.go a w ⟨β, r.keepOnly hs hh hsc⟩⟩

theorem Rel.keepOnly {sl sl' : SL} {hp hp' : HL} {a : Act} {w : World} (r : Rel C ⟨sl, hp⟩ a w) (hs : HasS sl sl') (hh : HasH hp hp') (hsc : wellId sl' hp' = true) : Rel C ⟨sl', hp'⟩ a w := let ⟨β, r⟩ := r; ⟨β, r.keepOnly hs hh hsc⟩

theorem RelB.slot {sl : SL} {hp : HL} {β : Nat → Option Nat} {a : Act} {w : World} (r : RelB C ⟨sl, hp⟩ β a w) {t : Nat} {sv : SV} (h : SR C hp β w sv (a.tmps.getD t undef)) : RelB C ⟨(t, sv) :: sl, hp⟩ β a w := by
  refine ⟨r.keep, r.low, r.inj, r.own, r.hp, fun t' sv' hs => ?_, r.size, r.df⟩
  simp only [sget_cons] at hs
  by_cases c : t = t'
  · subst c; rw [if_pos rfl] at hs; cases hs; exact h
  · rw [if_neg c] at hs; exact r.sl t' sv' hs

/-- a row that is only appended to, seen as the slice that it is now -/
theorem G.view {sl : SL} {hp : HL} {t k' T size : Nat} {es : List (List DV)} (hs : sget sl t = some (.one (.own k' es))) (hh : hget hp k' = some (.row T size es false)) (h : G C Q0 k ⟨(t, .one (.g (.d (.sl size es)))) :: sl, hp⟩) : G C Q0 k ⟨sl, hp⟩ :=
  ⟨fun a w ⟨β, r⟩ => h.go a w ⟨β, r.slot (own_data r hh (r.sl t _ hs) (fun _ _ h => h) (fun b o hb ho hm => by
    rcases hm with hM | ⟨k1, e1, h1, h2, h3⟩
    · obtain ⟨h4, h5⟩ := r.low b o hM
      rcases (r.own k' _ b hh hb).1 with h6 | h6
      · omega
      · exact h5 h6
    · obtain rfl := r.inj k1 k' e1 _ b h1 hh h2 hb
      rw [hh] at h1; cases h1
      simp only [HE.mutAt, Bool.false_eq_true, false_or] at h3
      omega))⟩⟩

theorem G.viewC {sl : SL} {hp : HL} {t size : Nat} {es : List (List DV)} (hs : sget sl t = some (.one (.cp size es))) (h : G C Q0 k ⟨(t, .one (.g (.d (.sl size es)))) :: sl, hp⟩) : G C Q0 k ⟨sl, hp⟩ :=
  ⟨fun a w ⟨β, r⟩ => h.go a w ⟨β, r.slot (r.sl t _ hs).1⟩⟩

/-- from now on a row is only appended to -/
theorem G.share {sl : SL} {hp : HL} {k' T size : Nat} {es : List (List DV)} {ex : Bool} (hh : hget hp k' = some (.row T size es ex)) (h : G C Q0 k ⟨sl, (k', some (.row T size es false)) :: hp⟩) : G C Q0 k ⟨sl, hp⟩ := ⟨fun a w ⟨β, r⟩ => by
  refine h.go a w ⟨upd β k' (β k'), (r.chg (e := .row T size es false) (bo := β k') hh rfl rfl rfl (Nat.le_refl _) (fun _ _ _ => rfl) (fun _ _ _ _ h _ => h) (.inl ⟨rfl, fun o ho => .inr (by simpa [HE.mutAt] using ho)⟩) ⟨rfl, fun _ => rfl⟩ (fun es0 u hu => ?_) (fun _ hRD => ?_)).1⟩
  · obtain ⟨T', size', es', ex', h1, h2, h3⟩ := hu
    rw [hh] at h1; cases h1
    exact ⟨T, size, es, false, by rw [hget_cons, if_pos rfl], h2, fun hq => by simpa [upd] using h3 hq⟩
  · obtain ⟨hz, hs, hr⟩ := r.hp k' _ hh
    exact ⟨hz, hs, hr.imp (fun ⟨q1, q2⟩ => ⟨by simp [upd, q1], q2⟩) fun ⟨b, cur, q1, q2, q3, q4⟩ => ⟨b, cur, by simp [upd, q1], q2, q3, fun i cs j d hi hj => let ⟨u, hu, hr⟩ := q4 i cs j d hi hj; ⟨u, hu, hRD _ _ hr⟩⟩⟩⟩

end
end Go.Ab
