/- The abstract machine: calls by contract; what a contract says. Conditions: none but those that stand in each law. -/
import Derived.Test.YtfckeeglbhlnmaaAb7
namespace Go.Ab
open Go Go.RowKit

inductive RG where
  | g (a : AG)
  | ep (cs : List DV)
  | sem (Φ : List AG → Value → Prop)
  | row (T size : Nat) (es : List (List DV))

inductive RS where
  | one (g : AG)
  | tup (l : List AG)
  | new (T size : Nat) (es : List (List DV))

/-- a row that belongs to nobody else: its block is one of K's -/
def RowR (M : Nat → Nat → Prop) (B : Nat → Prop) (w : World) (T size : Nat) (es : List (List DV)) (u : Value) : Prop :=
  0 < size ∧ (∀ cs, cs ∈ es → cs.length = size) ∧ ((es = [] ∧ ∃ a, u = .slice a 0 0) ∨
    ∃ b cap cur, B b ∧ b < w.heap.size ∧ u = .slice (some ⟨b, 0, none⟩) es.length cap ∧ es.length ≤ cap ∧ cap ≤ maxLen ∧ w.heap[b]? = some (.cells cur T (0, 0)) ∧ cur.size = cap * size ∧
      ∀ (i : Nat) (cs : List DV) (j : Nat) (d : DV), es[i]? = some cs → cs[j]? = some d → ∃ v, cur[i * size + j]? = some v ∧ RD (fun b' o => M b' o ∨ b' = b) w v d)

def ArgR (P : Program) (M : Nat → Nat → Prop) (K : Nat → Prop) (w : World) : RG → Value → Prop
  | .g a, u => GR (fun b o => M b o ∨ K b) w u a
  | .ep cs, u => ∃ b o, u = .pointer (some ⟨b, o, none⟩) ∧ ∀ (j : Nat) (d : DV), cs[j]? = some d → ∃ x, w.cell? ⟨b, o + j, none⟩ = some x ∧ ¬ (M b (o + j) ∨ K b) ∧ RD (fun b o => M b o ∨ K b) w x d
  | .sem Φ, u => SemFn P w K u Φ
  | .row T size es, u => RowR M K w T size es u

def ResR (M : Nat → Nat → Prop) (K : Nat → Prop) (w w' : World) : RS → Value → Prop
  | .one g, v => GR M w' v g
  | .tup l, v => ∃ us : Array Value, v = .tuple us ∧ us.size = l.length ∧ ∀ (i : Nat) (g : AG), l[i]? = some g → ∃ x, us[i]? = some x ∧ GR M w' x g
  | .new T size es, v => RowR M (fun b => w.heap.size ≤ b ∨ K b) w' T size es v

/-- WHAT A FUNCTION DOES, as data: called with values that read so, it hands back a value that reads so, and turns nothing that was there (but a row that it was handed to keep) -/
structure Ct (P : Program) (f : Nat) (args : List RG) (res : RS) : Prop where
  go : ∀ (M : Nat → Nat → Prop) (K : Nat → Prop) (w : World) (vs : List Value), (∀ b o, M b o → b < w.heap.size ∧ ¬ K b) →
    (∀ b, K b → ∃ (i T size : Nat) (es : List (List DV)) (cap : Nat), args[i]? = some (.row T size es) ∧ vs[i]? = some (.slice (some ⟨b, 0, none⟩) es.length cap)) →
    vs.length = args.length → (∀ (i : Nat) (g : RG) (v : Value), args[i]? = some g → vs[i]? = some v → ArgR P M K w g v) →
    Calls P f vs.toArray w fun e w' => ∃ v, e = .returned v ∧ KeepW K w w' ∧ ResR M K w w' res v

theorem KeepW.toBelow {w w' : World} (h : KeepW (fun _ => False) w w') : Below w.heap.size w w' :=
  ⟨h.os, h.tape, h.output, h.size, fun k hk => h.block k hk id⟩

/-- data read outside more, reads outside less -/
theorem RD.less {M M' : Nat → Nat → Prop} {w : World} {u : Value} {d : DV} (h : ∀ b o, M' b o → M b o) (r : RD M w u d) : RD M' w u d := r.mono fun b o _ hn hx => ⟨hx, fun c => hn (h b o c)⟩
theorem GR.less {M M' : Nat → Nat → Prop} {w : World} {u : Value} {g : AG} (h : ∀ b o, M' b o → M b o) (r : GR M w u g) : GR M' w u g := r.mono fun b o _ hn hx => ⟨hx, fun c => hn (h b o c)⟩

/-- operands of a call, plain data -/
inductive EvL : List Operand → List RG → List (Nat × SV) → Prop
  | nil : EvL [] [] []
  | cons {x : Operand} {g : AG} {R Rs : List (Nat × SV)} {xs : List Operand} {gs : List RG} (h : Ev x (.g g) R) (t : EvL xs gs Rs) : EvL (x :: xs) (.g g :: gs) (R ++ Rs)

theorem EvL.ok {P : Program} {nt : Nat} {C : Cx P nt} {sl : SL} {hp : HL} {β : Nat → Option Nat} {a : Act} {w : World} {xs : List Operand} {gs : List RG} {R : List (Nat × SV)}
    (hx : EvL xs gs R) (hs : HasS sl R) (r : RelB C ⟨sl, hp⟩ β a w) : (xs.map a.eval).length = gs.length ∧ ∀ (i : Nat) (g : RG) (v : Value), gs[i]? = some g → (xs.map a.eval)[i]? = some v → ArgR P (Mu C hp β) (fun _ => False) w g v := by
  induction hx with
  | nil => exact ⟨rfl, fun i g v h => by simp at h⟩
  | cons h t ih =>
    obtain ⟨h1, h2⟩ := hs.app
    obtain ⟨h3, h4⟩ := ih h2
    refine ⟨by simpa using h3, fun i g v hg hv => ?_⟩
    cases i with
    | zero =>
      simp at hg hv
      subst hg hv
      exact GR.less (fun b o c => c.resolve_right id) (h.ok h1 r)
    | succ i => exact h4 i g v (by simpa using hg) (by simpa using hv)

abbrev cCall (f : Nat) (xs : List Operand) (tys : Array TypeId) : Op := .call { callee := .value (.func f), args := xs.toArray, argTypes := tys }
abbrev cCallT (t : Nat) (xs : List Operand) (tys : Array TypeId) : Op := .call { callee := .value (.tmp t), args := xs.toArray, argTypes := tys }

theorem run_call {P : Program} {a : Act} {f : Nat} {xs : List Operand} {tys : Array TypeId} {dst : Option Nat} {ty : TypeId} {pos : String} {af : Array Edge} {gd : Option (Nat × Bool)} {w : World} (hc : CallF P f) :
    (execOp a.eval ⟨dst, cCall f xs tys, ty, pos, af, gd⟩).run P w = .ok (.enter f (xs.map a.eval).toArray) w := by
  have := hc (xs.map a.eval).toArray w
  simp only [execOp, resolve, Act.eval, Deferred.ofValue, invoke, Sem.run_bind, Sem.run_pure, Result.andThen_ok, List.map_toArray]
  simpa using this

theorem run_callT {P : Program} {a : Act} {t f : Nat} {caps : Array Value} {xs : List Operand} {tys : Array TypeId} {dst : Option Nat} {ty : TypeId} {pos : String} {af : Array Edge} {gd : Option (Nat × Bool)} {w : World} (hc : CallF P f)
    (ht : a.eval (.tmp t) = .func (.func f) #[] caps) :
    (execOp a.eval ⟨dst, cCallT t xs tys, ty, pos, af, gd⟩).run P w = .ok (.enter f ((xs.map a.eval).toArray ++ caps)) w := by
  have := hc ((xs.map a.eval).toArray ++ caps) w
  simp only [execOp, resolve, ht, Deferred.ofValue, invoke, Sem.run_bind, Sem.run_pure, Result.andThen_ok, List.map_toArray]
  simpa using this

def RS.sv : RS → SV
  | .one g => .one (.g g)
  | .tup l => .tup (l.map .g)
  | .new _ _ _ => .dead

theorem RS.sv_ok {P : Program} {nt : Nat} {C : Cx P nt} {hp : HL} {β : Nat → Option Nat} {w w' : World} {K : Nat → Prop} {res : RS} {v : Value} (h : ResR (Mu C hp β) K w w' res v) : SR C hp β w' res.sv v := by
  cases res with
  | one g => exact h
  | tup l =>
    obtain ⟨us, h1, h2, h3⟩ := h
    refine ⟨us, h1, by simpa using h2, fun i b hb => ?_⟩
    simp only [List.getElem?_map, Option.map_eq_some_iff] at hb
    obtain ⟨g, hg, rfl⟩ := hb
    exact h3 i g hg
  | new T size es => trivial

section
variable {P : Program} {nt : Nat} {C : Cx P nt} {dst : Nat} {ty : TypeId} {pos : String} {af : Array Edge} {gd : Option (Nat × Bool)} {x y z : Operand} {R R1 R2 R3 : List (Nat × SV)}

/-- a call with plain data -/
theorem op_call {f : Nat} {xs : List Operand} {tys : Array TypeId} {args : List RG} {res : RS} {sv : SV} (hc : CallF P f) (hct : Ct P f args res) (hsv : res.sv = sv) (hx : EvL xs args R) (hd : Nat.blt dst nt = true) :
    OpL C (Oo dst (cCall f xs tys) ty pos af gd) R [] [(dst, sv)] [] := by
  refine ⟨fun sl hp hs hh a w K Q ⟨β, r⟩ hK => ?_⟩
  obtain ⟨h1, h2⟩ := hx.ok hs r
  have hcall := hct.go (Mu C hp β) (fun _ => False) w (xs.map a.eval) (fun b o h => ⟨r.mut_lt h, id⟩) (fun b h => h.elim) h1 h2
  unfold Oper.wp
  rw [run_call hc]
  refine hcall.mono ?_
  rintro e w' ⟨v, rfl, hk, hr⟩
  refine hK _ _ ⟨β, r.put hk.toBelow (by simpa using hd) ?_⟩
  rw [← hsv]
  exact RS.sv_ok hr

/-- a call with plain data that hands back a row of its own making: it is the caller's now -/
theorem op_callNew {f T size k : Nat} {xs : List Operand} {tys : Array TypeId} {args : List RG} {es : List (List DV)} (hc : CallF P f) (hct : Ct P f args (.new T size es)) (hx : EvL xs args R) (hd : Nat.blt dst nt = true) :
    OpL C (Oo dst (cCall f xs tys) ty pos af gd) R [(k, none)] [(dst, .one (.own k es))] [(k, some (.row T size es true))] := by
  refine ⟨fun sl hp hs hh a w K Q ⟨β, r⟩ hK => ?_⟩
  obtain ⟨h1, h2⟩ := hx.ok hs r
  have hcall := hct.go (Mu C hp β) (fun _ => False) w (xs.map a.eval) (fun b o h => ⟨r.mut_lt h, id⟩) (fun b h => h.elim) h1 h2
  unfold Oper.wp
  rw [run_call hc]
  refine hcall.mono ?_
  rintro e w' ⟨v, rfl, hk, hz, hs', hr⟩
  have hb := hk.toBelow
  have r' := r.put_none hb
  refine hK _ _ ?_
  rcases hr with ⟨rfl, ad, hv⟩ | ⟨b, cap, cur, hB, hlt, hv, hle, hcm, hheap, hcs, hel⟩
  · have h := (r'.new (e := .row T size [] true) (bo := none) hh.1 (Below.refl _ w') (fun b hb => by cases hb) fun _ _ => ⟨hz, hs', .inl ⟨by simp [upd], rfl⟩⟩).1
    exact ⟨_, h.put (Below.refl _ _) (by simpa using hd) ⟨T, size, [], true, by rw [hget_cons, if_pos rfl], Nat.le_refl _, fun _ => .inl ⟨by simp [upd], rfl, ad, hv⟩⟩⟩
  · have hB' : w.heap.size ≤ b := hB.resolve_right id
    -- the row's block was not there ahead of the call: it is brought in as a new one
    have hmuw : ∀ b' o, Mu C hp β b' o → b' < w.heap.size := fun b' o h => r.mut_lt h
    refine ⟨upd β k (some b), ?_⟩
    have hne : ∀ k' e', hget hp k' = some e' → k' ≠ k := fun k' e' h c => by rw [c, hh.1] at h; cases h
    have hget' : ∀ k' e', hget hp k' = some e' → hget ((k, some (HE.row T size es true)) :: hp) k' = some e' ∧ upd β k (some b) k' = β k' := fun k' e' h => by
      have := hne k' e' h
      exact ⟨by rw [hget_cons, if_neg (fun c => this c.symm)]; exact h, by simp [upd, this]⟩
    have hmu' : ∀ b' o, Mu C ((k, some (HE.row T size es true)) :: hp) (upd β k (some b)) b' o → Mu C hp β b' o ∨ b' = b := by
      rintro b' o (hM | ⟨k', e', he', hb', hm'⟩)
      · exact .inl (.inl hM)
      · rw [hget_cons] at he'
        by_cases hkk : k = k'
        · subst hkk; simp only [upd, if_true, Option.some.injEq] at hb'; exact .inr hb'.symm
        · rw [if_neg hkk] at he'
          simp only [upd, if_neg (fun c => hkk (Eq.symm c))] at hb'
          exact .inl (.inr ⟨k', e', he', hb', hm'⟩)
    -- cells that were there ahead of the call
    have hst : ∀ b' o x, ¬ Mu C hp β b' o → w.cell? ⟨b', o, none⟩ = some x → w'.cell? ⟨b', o, none⟩ = some x ∧ ¬ Mu C ((k, some (HE.row T size es true)) :: hp) (upd β k (some b)) b' o := by
      intro b' o x hn hx
      have hlt' := cell_lt hx
      refine ⟨by rw [hb.cell (p := ⟨b', o, none⟩) hlt']; exact hx, fun c => ?_⟩
      rcases hmu' b' o c with c | c
      · exact hn c
      · omega
    have hBR : ∀ c u, BR C hp β w c u → BR C ((k, some (HE.row T size es true)) :: hp) (upd β k (some b)) w' c u := by
      intro c u h
      refine BR.kept hst (fun k' _ e' he' hr => ⟨⟨e', (hget' k' e' he').1, hr⟩, (hget' k' e' he').2⟩) (fun k' es0 hc h => ?_) h
      subst hc
      obtain ⟨T', size', es', ex', hh', hl', hr'⟩ := h
      refine ⟨T', size', es', ex', (hget' k' _ hh').1, hl', fun hq => (hr' hq).imp (fun ⟨h1, h2⟩ => ⟨(hget' k' _ hh').2.trans h1, h2⟩) ?_⟩
      rintro ⟨b', cap', cur', q1, q2, q3, q4, q5, q6⟩
      exact ⟨b', cap', cur', (hget' k' _ hh').2.trans q1, q2, q3, q4, by rw [hb.block b' (Array.getElem?_eq_some_iff.1 q5).1]; exact q5, q6⟩
    have hbase : RelB C ⟨sl, (k, some (HE.row T size es true)) :: hp⟩ (upd β k (some b)) a w' := by
      refine ⟨r.keep.below hb, r.low, ?_, ?_, ?_, ?_, r.size, r.df⟩
      · intro k1 k2 e1 e2 b' q1 q2 q3 q4
        simp only [hget_cons] at q1 q2
        by_cases c1 : k = k1 <;> by_cases c2 : k = k2
        · omega
        · subst c1
          rw [if_neg c2] at q2
          simp only [upd, if_true, Option.some.injEq] at q3
          simp only [upd, if_neg (fun c => c2 (Eq.symm c))] at q4
          have := (r.own k2 e2 b' q2 q4).2
          omega
        · subst c2
          rw [if_neg c1] at q1
          simp only [upd, if_true, Option.some.injEq] at q4
          simp only [upd, if_neg (fun c => c1 (Eq.symm c))] at q3
          have := (r.own k1 e1 b' q1 q3).2
          omega
        · rw [if_neg c1] at q1
          rw [if_neg c2] at q2
          simp only [upd, if_neg (fun c => c1 (Eq.symm c))] at q3
          simp only [upd, if_neg (fun c => c2 (Eq.symm c))] at q4
          exact r.inj k1 k2 e1 e2 b' q1 q2 q3 q4
      · intro k1 e1 b' q1 q3
        simp only [hget_cons] at q1
        by_cases c1 : k = k1
        · subst c1
          simp only [upd, if_true, Option.some.injEq] at q3
          subst q3
          exact ⟨.inl (Nat.le_trans r.keep.size hB'), hlt⟩
        · rw [if_neg c1] at q1
          simp only [upd, if_neg (fun c => c1 (Eq.symm c))] at q3
          exact ⟨(r.own k1 e1 b' q1 q3).1, Nat.lt_of_lt_of_le (r.own k1 e1 b' q1 q3).2 hb.size⟩
      · intro k1 e1 q1
        simp only [hget_cons] at q1
        by_cases c1 : k = k1
        · subst c1
          rw [if_pos rfl] at q1
          cases q1
          refine ⟨hz, hs', .inr ⟨b, cur, by simp [upd], hheap, by rw [hcs]; exact Nat.mul_le_mul_right _ hle, fun i cs j d hi hj => ?_⟩⟩
          obtain ⟨u, q2, q3⟩ := hel i cs j d hi hj
          refine ⟨u, q2, q3.less fun b' o c => ?_⟩
          exact hmu' b' o c
        · rw [if_neg c1] at q1
          have q2 := hget' k1 e1 q1
          have q3 := r.hp k1 e1 q1
          cases e1 with
          | blk T cs =>
            obtain ⟨b', arr, p1, p2, p3, p4⟩ := q3
            exact ⟨b', arr, q2.2.trans p1, by rw [hb.block b' (Array.getElem?_eq_some_iff.1 p2).1]; exact p2, p3, fun j c hc => let ⟨u, hu, ho, hr⟩ := p4 j c hc; ⟨u, hu, ho, hBR c u hr⟩⟩
          | row T' size' es' ex' =>
            obtain ⟨hz', hs'', hr'⟩ := q3
            refine ⟨hz', hs'', hr'.imp (fun ⟨p1, p2⟩ => ⟨q2.2.trans p1, p2⟩) ?_⟩
            rintro ⟨b', cur', p1, p2, p3, p4⟩
            exact ⟨b', cur', q2.2.trans p1, by rw [hb.block b' (Array.getElem?_eq_some_iff.1 p2).1]; exact p2, p3, fun i cs j d hi hj => let ⟨u, hu, hr⟩ := p4 i cs j d hi hj; ⟨u, hu, hr.mono hst⟩⟩
          | it s pos =>
            obtain ⟨b', p1, p2⟩ := q3
            exact ⟨b', q2.2.trans p1, by rw [hb.block b' (Array.getElem?_eq_some_iff.1 p2).1]; exact p2⟩
      · intro t sv ht
        have h1 := r.sl t sv ht
        cases sv with
        | one b => exact hBR _ _ h1
        | tup l =>
          obtain ⟨us, q1, q2, q3⟩ := h1
          exact ⟨us, q1, q2, fun i b hi => let ⟨x, hx, hr⟩ := q3 i b hi; ⟨x, hx, hBR _ _ hr⟩⟩
        | dead => trivial

    exact hbase.put (Below.refl _ _) (by simpa using hd) ⟨T, size, es, true, by rw [hget_cons, if_pos rfl], Nat.le_refl _, fun _ => .inr ⟨b, cap, cur, by simp [upd], hv, hle, hcm, hheap, hcs⟩⟩

end
end Go.Ab
