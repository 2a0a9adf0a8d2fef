/- The abstract machine: a row of the call's own handed over to a call that keeps it, and what comes back; rows cut and cleared. Conditions: none but those that stand in each law. -/
import Derived.Test.YtfckeeglbhlnmaaAb15
namespace Go.Ab
open Go Go.RowKit

def noId (k : Nat) (sl : SL) (hp : HL) : Bool := sl.all (fun p => p.2.ids.all (fun i => !Nat.beq i k)) && hp.all (fun p => match p.2 with | some e => e.ids.all (fun i => !Nat.beq i k) | none => true)

theorem noId_ne {k i : Nat} (h : (!Nat.beq i k) = true) : i ≠ k := fun c => by subst c; simp at h

section
variable {P : Program} {nt : Nat} {C : Cx P nt}

/-- fewer slots -/
theorem RelB.slots {sl sl' : SL} {hp : HL} {β : Nat → Option Nat} {a : Act} {w : World} (r : RelB C ⟨sl, hp⟩ β a w) (hs : HasS sl sl') : RelB C ⟨sl', hp⟩ β a w :=
  ⟨r.keep, r.low, r.inj, r.own, r.hp, fun t sv h => r.sl t sv (hs.mem (sget_mem h)), r.size, r.df⟩

/-- a row that no slot and no cell names is another one now -/
theorem RelB.swap {sl : SL} {hp : HL} {β : Nat → Option Nat} {a : Act} {w w1 : World} (r : RelB C ⟨sl, hp⟩ β a w) {k : Nat} {e0 e : HE} {bo : Option Nat}
    (hk : hget hp k = some e0) (hrow0 : e0.isRow = true) (hno : noId k sl hp = true)
    (hos : w1.os = w.os) (htape : w1.tape = w.tape) (hout : w1.output = w.output) (hsize : w.heap.size ≤ w1.heap.size) (hblock : ∀ i, i < w.heap.size → some i ≠ β k → w1.heap[i]? = w.heap[i]?)
    (hcell : ∀ b o x, β k = some b → w.cell? ⟨b, o, none⟩ = some x → ¬ e0.mutAt o → w1.cell? ⟨b, o, none⟩ = some x)
    (hbo : ∀ b, bo = some b → (β k = some b ∧ ∀ o, e.mutAt o → e0.mutAt o) ∨ (w.heap.size ≤ b ∧ b < w1.heap.size))
    (hH : (∀ u d, RD (Mu C hp β) w u d → RD (Mu C ((k, some e) :: hp) (upd β k bo)) w1 u d) → HR C ((k, some e) :: hp) (upd β k bo) w1 k e) :
    RelB C ⟨sl, (k, some e) :: hp⟩ (upd β k bo) a w1 := by
  have hget' : ∀ k' e', k' ≠ k → hget hp k' = some e' → hget ((k, some e) :: hp) k' = some e' ∧ upd β k bo k' = β k' := fun k' e' hn h =>
    ⟨by rw [hget_cons, if_neg (fun c => hn c.symm)]; exact h, by simp [upd, hn]⟩
  have hoth : ∀ k' e' b o, k' ≠ k → hget hp k' = some e' → β k' = some b → w.heap[b]? = some o → w1.heap[b]? = some o := fun k' e' b o hn h hb ho => by
    rw [hblock b (Array.getElem?_eq_some_iff.1 ho).1 (fun c => hn (r.inj k' k e' e0 b h hk hb c.symm))]
    exact ho
  have hst : ∀ b o x, ¬ Mu C hp β b o → w.cell? ⟨b, o, none⟩ = some x → w1.cell? ⟨b, o, none⟩ = some x ∧ ¬ Mu C ((k, some e) :: hp) (upd β k bo) b o := by
    intro b o x hn hx
    have hlt := cell_lt hx
    constructor
    · by_cases hb : some b = β k
      · exact hcell b o x hb.symm hx (fun c => hn (.inr ⟨k, e0, hk, hb.symm, c⟩))
      · rw [World.cell?_of_block (w := w) (a := ⟨b, o, none⟩) (hblock b hlt hb)]; exact hx
    · rintro (hM | ⟨k', e', he', hb', hm'⟩)
      · exact hn (.inl hM)
      · rw [hget_cons] at he'
        by_cases hkk : k = k'
        · subst hkk
          rw [if_pos rfl] at he'
          cases he'
          simp only [upd, if_true] at hb'
          rcases hbo b hb' with ⟨h1, h2⟩ | ⟨h1, h2⟩
          · exact hn (.inr ⟨k, e0, hk, h1, h2 o hm'⟩)
          · omega
        · rw [if_neg hkk] at he'
          simp only [upd, if_neg (fun c => hkk (Eq.symm c))] at hb'
          exact hn (.inr ⟨k', e', he', hb', hm'⟩)
  have hRD : ∀ u d, RD (Mu C hp β) w u d → RD (Mu C ((k, some e) :: hp) (upd β k bo)) w1 u d := fun u d h => h.mono hst
  have hBR : ∀ c u, (∀ i, i ∈ c.ids → (!Nat.beq i k) = true) → BR C hp β w c u → BR C ((k, some e) :: hp) (upd β k bo) w1 c u := by
    intro c u hid h
    refine BR.kept hst (fun k' hk' e' he' hr => ?_) (fun k' es0 hc h => ?_) h
    · have c : k' ≠ k := fun c => by subst c; rw [hk] at he'; cases he'; rw [hrow0] at hr; cases hr
      exact ⟨⟨e', (hget' k' e' c he').1, hr⟩, (hget' k' e' c he').2⟩
    · subst hc
      have c : k' ≠ k := noId_ne (hid k' (by simp [BV.ids]))
      obtain ⟨T, size, es, ex, hh, hl, hr⟩ := h
      have h2 := hget' k' _ c hh
      refine ⟨T, size, es, ex, h2.1, hl, fun hq => (hr hq).imp (fun ⟨h1, h3⟩ => ⟨h2.2.trans h1, h3⟩) ?_⟩
      rintro ⟨b, cap, cur, q1, q2, q3, q4, q5, q6⟩
      exact ⟨b, cap, cur, h2.2.trans q1, q2, q3, q4, hoth k' _ b _ c hh q1 q5, q6⟩
  simp only [noId, Bool.and_eq_true, List.all_eq_true] at hno
  refine ⟨?_, r.low, ?_, ?_, ?_, ?_, r.size, r.df⟩
  · refine ⟨hos.trans r.keep.os, htape.trans r.keep.tape, hout.trans r.keep.output, Nat.le_trans r.keep.size hsize, fun i hi hK => ?_⟩
    rw [hblock i (Nat.lt_of_lt_of_le hi r.keep.size) (fun c => ?_)]
    · exact r.keep.block i hi hK
    · rcases (r.own k e0 i hk c.symm).1 with h1 | h1
      · omega
      · exact hK h1
  · intro k1 k2 e1 e2 b h1 h2 hb1 hb2
    simp only [hget_cons] at h1 h2
    by_cases c1 : k = k1 <;> by_cases c2 : k = k2
    · omega
    · subst c1
      rw [if_neg c2] at h2
      simp only [upd, if_true] at hb1
      simp only [upd, if_neg (fun c => c2 (Eq.symm c))] at hb2
      rcases hbo b hb1 with ⟨h3, _⟩ | ⟨h3, _⟩
      · exact r.inj k k2 e0 e2 b hk h2 h3 hb2
      · have h4 := (r.own k2 e2 _ h2 hb2).2
        omega
    · subst c2
      rw [if_neg c1] at h1
      simp only [upd, if_true] at hb2
      simp only [upd, if_neg (fun c => c1 (Eq.symm c))] at hb1
      rcases hbo b hb2 with ⟨h3, _⟩ | ⟨h3, _⟩
      · exact r.inj k1 k e1 e0 b h1 hk hb1 h3
      · have h4 := (r.own k1 e1 _ h1 hb1).2
        omega
    · rw [if_neg c1] at h1
      rw [if_neg c2] at h2
      simp only [upd, if_neg (fun c => c1 (Eq.symm c))] at hb1
      simp only [upd, if_neg (fun c => c2 (Eq.symm c))] at hb2
      exact r.inj k1 k2 e1 e2 b h1 h2 hb1 hb2
  · intro k1 e1 b h1 hb1
    simp only [hget_cons] at h1
    by_cases c1 : k = k1
    · subst c1
      simp only [upd, if_true] at hb1
      rcases hbo b hb1 with ⟨h3, _⟩ | ⟨h3, h4⟩
      · have := r.own k e0 b hk h3
        exact ⟨this.1, Nat.lt_of_lt_of_le this.2 hsize⟩
      · exact ⟨.inl (Nat.le_trans r.keep.size h3), h4⟩
    · rw [if_neg c1] at h1
      simp only [upd, if_neg (fun c => c1 (Eq.symm c))] at hb1
      exact ⟨(r.own k1 e1 b h1 hb1).1, Nat.lt_of_lt_of_le (r.own k1 e1 b h1 hb1).2 hsize⟩
  · intro k1 e1 h1
    simp only [hget_cons] at h1
    by_cases c1 : k = k1
    · subst c1
      rw [if_pos rfl] at h1
      cases h1
      exact hH hRD
    · rw [if_neg c1] at h1
      have c1' : k1 ≠ k := fun c => c1 c.symm
      have h2 := hget' k1 e1 c1' h1
      have h3 := r.hp k1 e1 h1
      cases e1 with
      | blk T cs =>
        obtain ⟨b, arr, q1, q2, q3, q4⟩ := h3
        refine ⟨b, arr, h2.2.trans q1, hoth k1 _ b _ c1' h1 q1 q2, q3, fun j c hc => let ⟨u, hu, ho, hr⟩ := q4 j c hc; ⟨u, hu, ho, hBR c u (fun i hi => ?_) hr⟩⟩
        have := hno.2 _ (hget_mem h1)
        simp only [HE.ids, List.all_eq_true] at this
        exact this i (List.mem_flatMap.2 ⟨c, List.mem_of_getElem? hc, hi⟩)
      | row T size es ex =>
        obtain ⟨hz, hs, hr⟩ := h3
        refine ⟨hz, hs, hr.imp (fun ⟨q1, q2⟩ => ⟨h2.2.trans q1, q2⟩) ?_⟩
        rintro ⟨b, cur, q1, q2, q3, q4⟩
        exact ⟨b, cur, h2.2.trans q1, hoth k1 _ b _ c1' h1 q1 q2, q3, fun i cs j d hi hj => let ⟨u, hu, hr⟩ := q4 i cs j d hi hj; ⟨u, hu, hr.mono hst⟩⟩
      | it s pos =>
        obtain ⟨b, q1, q2⟩ := h3
        exact ⟨b, h2.2.trans q1, hoth k1 _ b _ c1' h1 q1 q2⟩
  · intro t sv hs
    have h1 := r.sl t sv hs
    have h2 := hno.1 _ (sget_mem hs)
    cases sv with
    | one b => exact hBR _ _ (fun i hi => h2 i hi) h1
    | tup l =>
      obtain ⟨us, q1, q2, q3⟩ := h1
      exact ⟨us, q1, q2, fun i b hi => let ⟨x, hx, hr⟩ := q3 i b hi; ⟨x, hx, hBR _ _ (fun j hj => h2 j (List.mem_flatMap.2 ⟨b, List.mem_of_getElem? hi, hj⟩)) hr⟩⟩
    | dead => trivial

/-- operands of a call that a row is handed to -/
inductive EvX (P : Program) : List Operand → List RG → List (Nat × SV) → List (Nat × Option HE) → Prop
  | nil : EvX P [] [] [] []
  | g {x : Operand} {g : AG} {R Rs : List (Nat × SV)} {Rhs : List (Nat × Option HE)} {xs : List Operand} {gs : List RG} (h : Ev x (.g g) R) (t : EvX P xs gs Rs Rhs) : EvX P (x :: xs) (.g g :: gs) (R ++ Rs) Rhs
  | sem {x : Operand} {Φ : List AG → Value → Prop} {R Rs : List (Nat × SV)} {Rhs : List (Nat × Option HE)} {xs : List Operand} {gs : List RG} (h : Ev x (.sem Φ) R) (t : EvX P xs gs Rs Rhs) : EvX P (x :: xs) (.sem Φ :: gs) (R ++ Rs) Rhs
  | clo {x : Operand} {f : Nat} {ks : List Nat} {gs0 : List RG} {Φ : List AG → Value → Prop} {R Rs : List (Nat × SV)} {Rh Rhs : List (Nat × Option HE)} {xs : List Operand} {gs : List RG} (h : Ev x (.clo f ks) R) (hc : EvC ks gs0 Rh) (hcf : CallF P f)
      (hΦ : ∀ args v, Φ args v → Ct P f (args.map .g ++ gs0) (.one (.d (.v v)))) (t : EvX P xs gs Rs Rhs) : EvX P (x :: xs) (.sem Φ :: gs) (R ++ Rs) (Rh ++ Rhs)

theorem EvX.ok {sl : SL} {hp : HL} {β : Nat → Option Nat} {a : Act} {w : World} {xs : List Operand} {gs : List RG} {R : List (Nat × SV)} {Rh : List (Nat × Option HE)} {kk T size : Nat} {es : List (List DV)}
    (hx : EvX P xs gs R Rh) (hs : HasS sl R) (hh : HasH hp Rh) (r : RelB C ⟨sl, hp⟩ β a w) (hk : hget hp kk = some (.row T size es true)) :
    (xs.map a.eval).length = gs.length ∧ ∀ (i : Nat) (g : RG) (v : Value), gs[i]? = some g → (xs.map a.eval)[i]? = some v → ArgR P (fun b o => Mu C hp β b o ∧ β kk ≠ some b) (fun b => β kk = some b) w g v := by
  have hmu : ∀ b o, (Mu C hp β b o ∧ β kk ≠ some b) ∨ β kk = some b → Mu C hp β b o := fun b o c => c.elim (fun c => c.1) fun c => .inr ⟨kk, _, hk, c, .inl rfl⟩
  induction hx with
  | nil => exact ⟨rfl, fun i g v h => by simp at h⟩
  | g h t ih =>
    obtain ⟨h3, h4⟩ := ih hs.app.2 hh
    refine ⟨by simpa using h3, fun i g v hg hv => ?_⟩
    cases i with
    | zero => simp at hg hv; subst hg hv; exact GR.less hmu (h.ok hs.app.1 r)
    | succ i => exact h4 i g v (by simpa using hg) (by simpa using hv)
  | sem h t ih =>
    obtain ⟨h3, h4⟩ := ih hs.app.2 hh
    refine ⟨by simpa using h3, fun i g v hg hv => ?_⟩
    cases i with
    | zero =>
      simp at hg hv; subst hg hv
      obtain ⟨f, caps, hu, hcf, hf⟩ := (h.ok hs.app.1 r : SemFn P C.w0 C.K _ _)
      refine ⟨f, caps, hu, hcf, fun w'' hb' => hf w'' ⟨hb'.os.trans r.keep.os, hb'.tape.trans r.keep.tape, hb'.output.trans r.keep.output, Nat.le_trans r.keep.size hb'.size, fun q hq hK => ?_⟩⟩
      rw [hb'.block q (Nat.lt_of_lt_of_le hq r.keep.size) (fun c => ?_)]
      · exact r.keep.block q hq hK
      · rcases (r.own kk _ q hk c).1 with h6 | h6
        · omega
        · exact hK h6
    | succ i => exact h4 i g v (by simpa using hg) (by simpa using hv)
  | clo h hc hcf hΦ t ih =>
    obtain ⟨h3, h4⟩ := ih hs.app.2 hh.app.2
    refine ⟨by simpa using h3, fun i g v hg hv => ?_⟩
    cases i with
    | zero =>
      simp at hg hv; subst hg hv
      exact clo_sem r (h.ok hs.app.1 r) hc hh.app.1 (fun b hb => ⟨kk, T, size, es, true, hk, hb⟩) (fun b hb o => hmu b o (.inr hb)) hcf hΦ
    | succ i => exact h4 i g v (by simpa using hg) (by simpa using hv)

end

section
variable {P : Program} {nt : Nat} {C : Cx P nt} {Q0 : Exit → Act → World → Prop} {k : List KI} {dst : Nat} {ty : TypeId} {pos : String} {af : Array Edge} {x y z : Operand} {R R1 R2 R3 : List (Nat × SV)}

/-- a row of the call's own alone is handed to a call that keeps it; what comes back takes its place -/
theorem G.callRow {ops : Array Oper} {rest : List Oper} {sl sl' : SL} {hp : HL} {f T size kk : Nat} {xs : List Operand} {tys : Array TypeId} {args : List RG} {es es' : List (List DV)} {Rh : List (Nat × Option HE)} (hc : CallF P f) (hct : Ct P f (.row T size es :: args) (.new T size es'))
    (hx : Ev x (.own kk es) R1) (hxs : EvX P xs args R2 Rh) (hd : Nat.blt dst nt = true) (hs : HasS sl (R1 ++ R2)) (hh : HasH hp ((kk, some (.row T size es true)) :: Rh)) (hsl : HasS sl sl') (hno : noId kk sl' hp = true)
    (hk : G C Q0 (.l ops rest :: k) ⟨(dst, .one (.own kk es')) :: sl', (kk, some (.row T size es' true)) :: hp⟩) :
    G C Q0 (.l ops (Oo dst (cCall f (x :: xs) tys) ty pos af none :: rest) :: k) ⟨sl, hp⟩ := ⟨fun a w ⟨β, r⟩ => by
  have hu := hx.ok hs.app.1 r
  obtain ⟨_, _, _, _, h1, _, h2⟩ := id hu
  rw [hh.1] at h1; cases h1
  have h2 := h2 rfl
  obtain ⟨hz, hsz, hr⟩ := r.hp kk _ hh.1
  have hmuk : ∀ b, β kk = some b → ∀ o, Mu C hp β b o := fun b hb o => .inr ⟨kk, _, hh.1, hb, .inl rfl⟩
  have hmu : ∀ b b' o, β kk = some b → ((Mu C hp β b' o ∧ β kk ≠ some b') ∨ b' = b) → Mu C hp β b' o := fun b b' o hb c => c.elim (fun c => c.1) fun c => by subst c; exact hmuk _ hb o
  obtain ⟨hxl, hxa⟩ := hxs.ok hs.app.2 hh.2 r hh.1
  have hcall := hct.go (fun b o => Mu C hp β b o ∧ β kk ≠ some b) (fun b => β kk = some b) w (a.eval x :: xs.map a.eval) (fun b o c => ⟨r.mut_lt c.1, c.2⟩)
    (fun b hb => by
      rcases h2 with ⟨h3, _⟩ | ⟨b', cap, cur, h3, h4, _⟩
      · rw [hb] at h3; cases h3
      · rw [hb] at h3; cases h3
        exact ⟨0, T, size, es, cap, rfl, by simp [h4]⟩)
    (by simpa using hxl)
    (fun i g v hg hv => by
      cases i with
      | succ i => exact hxa i g v (by simpa using hg) (by simpa using hv)
      | zero =>
        simp at hg hv; subst hg hv
        refine ⟨hz, hsz, ?_⟩
        rcases h2 with ⟨_, h3, h4⟩ | ⟨b, cap, cur, hb, hu', hle, hcm, hheap, hcs⟩
        · exact .inl ⟨h3, h4⟩
        · rcases hr with ⟨q1, _⟩ | ⟨b', cur', q1, q2, q3, q4⟩
          · rw [hb] at q1; cases q1
          · rw [hb] at q1; cases q1
            rw [hheap] at q2; cases q2
            exact .inr ⟨b, cap, cur, hb, (r.own kk _ b hh.1 hb).2, hu', hle, hcm, hheap, hcs, fun i cs j d hi hj => let ⟨v, p1, p2⟩ := q4 i cs j d hi hj; ⟨v, p1, p2.less fun b' o c => hmu b b' o hb c⟩⟩)
  change wpList P ops (Qof P Q0 k) _ a w
  refine wpList_plain rfl fun K hK => ?_
  unfold Oper.wp
  rw [run_call hc]
  refine hcall.mono ?_
  rintro e w' ⟨v, rfl, hkw, hz', hs', hres⟩
  have fin : ∀ bo : Option Nat, (∀ b, bo = some b → w.heap.size ≤ b ∧ b < w'.heap.size ∨ β kk = some b) →
      ((bo = none ∧ es' = [] ∧ ∃ ad, v = .slice ad 0 0) ∨ ∃ b cap cur, bo = some b ∧ v = .slice (some ⟨b, 0, none⟩) es'.length cap ∧ es'.length ≤ cap ∧ cap ≤ maxLen ∧ w'.heap[b]? = some (.cells cur T (0, 0)) ∧ cur.size = cap * size ∧
        ∀ (i : Nat) (cs : List DV) (j : Nat) (d : DV), es'[i]? = some cs → cs[j]? = some d → ∃ u, cur[i * size + j]? = some u ∧ RD (fun b' o => (Mu C hp β b' o ∧ β kk ≠ some b') ∨ b' = b) w' u d) → K (a.put (some dst) v) w' := by
    intro bo hbo hv
    refine hK _ _ (hk.go _ _ ⟨upd β kk bo, ?_⟩)
    have hmu' : ∀ b, bo = some b → ∀ b' o, Mu C ((kk, some (HE.row T size es' true)) :: hp) (upd β kk bo) b' o → (Mu C hp β b' o ∧ β kk ≠ some b') ∨ b' = b := by
      rintro b hb b' o (hM | ⟨k', e', he', hb', hm'⟩)
      · refine .inl ⟨.inl hM, fun c => ?_⟩
        obtain ⟨h4, h5⟩ := r.low b' o hM
        rcases (r.own kk _ b' hh.1 c).1 with h6 | h6
        · omega
        · exact h5 h6
      · rw [hget_cons] at he'
        by_cases hkk : kk = k'
        · subst hkk; simp only [upd, if_true] at hb'; rw [hb] at hb'; cases hb'; exact .inr rfl
        · rw [if_neg hkk] at he'
          simp only [upd, if_neg (fun c => hkk (Eq.symm c))] at hb'
          exact .inl ⟨.inr ⟨k', e', he', hb', hm'⟩, fun c => hkk (r.inj kk k' _ e' b' hh.1 he' c hb')⟩
    have hsw := (r.slots hsl).swap (w1 := w') (e := .row T size es' true) (bo := bo) hh.1 rfl hno hkw.os hkw.tape hkw.output hkw.size (fun i hi hne => hkw.block i hi (fun c => hne c.symm)) (fun _ _ _ _ _ hnm => absurd (.inl rfl) hnm)
      (fun b hb => (hbo b hb).elim (fun c => .inr c) fun c => .inl ⟨c, fun o _ => .inl rfl⟩)
      (fun _ => ⟨hz', hs', hv.imp (fun ⟨p1, p2, _⟩ => ⟨by simp [upd, p1], p2⟩) fun ⟨b, cap, cur, p1, p2, p3, p4, p5, p6, p7⟩ => ⟨b, cur, by simp [upd, p1], p5, by rw [p6]; exact Nat.mul_le_mul_right _ p3, fun i cs j d hi hj => let ⟨u, q1, q2⟩ := p7 i cs j d hi hj; ⟨u, q1, q2.less (hmu' b p1)⟩⟩⟩)
    refine hsw.put (sv := .one (.own kk es')) (Below.refl _ _) (by simpa using hd) ⟨T, size, es', true, by rw [hget_cons, if_pos rfl], Nat.le_refl _, fun _ => ?_⟩
    exact hv.imp (fun ⟨p1, p2, p3⟩ => ⟨by simp [upd, p1], p2, p3⟩) fun ⟨b, cap, cur, p1, p2, p3, p4, p5, p6, p7⟩ => ⟨b, cap, cur, by simp [upd, p1], p2, p3, p4, p5, p6⟩
  rcases hres with ⟨h3, h4⟩ | ⟨b, cap, cur, hB, hlt, hv, hle, hcm, hheap, hcs, hel⟩
  · exact fin none (fun b hb => by cases hb) (.inl ⟨rfl, h3, h4⟩)
  · exact fin (some b) (fun b' hb' => by cases hb'; exact hB.imp (fun c => ⟨c, hlt⟩) id) (.inr ⟨b, cap, cur, rfl, hv, hle, hcm, hheap, hcs, hel⟩)⟩

end
end Go.Ab
