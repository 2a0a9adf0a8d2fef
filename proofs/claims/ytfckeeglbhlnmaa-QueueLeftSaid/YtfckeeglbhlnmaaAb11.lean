/- The abstract machine: a contract out of a walk; what is handed back. Conditions: none but those that stand in each law. -/
import Derived.Test.YtfckeeglbhlnmaaAb10
namespace Go.Ab
open Go Go.RowKit

def RG.sv : RG → SV
  | .g a => .one (.g a)
  | .ep cs => .one (.ep cs)
  | .sem Φ => .one (.sem Φ)
  | .row _ _ _ => .dead

def RG.isRow : RG → Bool
  | .row _ _ _ => true
  | _ => false

def slots0 : Nat → List RG → SL
  | _, [] => []
  | i, g :: r => (i, g.sv) :: slots0 (i + 1) r

theorem slots0_get : ∀ {l : List RG} {i t : Nat} {sv : SV}, sget (slots0 i l) t = some sv → i ≤ t ∧ ∃ g, l[t - i]? = some g ∧ sv = g.sv
  | [], i, t, sv, h => by cases h
  | g :: l, i, t, sv, h => by
    simp only [slots0, sget_cons] at h
    by_cases c : i = t
    · subst c
      rw [if_pos rfl] at h
      cases h
      exact ⟨Nat.le_refl _, g, by simp, rfl⟩
    · rw [if_neg c] at h
      obtain ⟨h1, g', h2, h3⟩ := slots0_get h
      refine ⟨by omega, g', ?_, h3⟩
      rw [show t - i = (t - (i + 1)) + 1 by omega]
      simpa using h2

def PostR (M : Nat → Nat → Prop) (K : Nat → Prop) (w : World) (res : RS) : Ending → World → Prop := fun e w' => ∃ v, e = .returned v ∧ KeepW K w w' ∧ ResR M K w w' res v

theorem Ct.intro {P : Program} {f : Nat} {fn : Func} {code : Code} {args : List RG} {res : RS} {n : Nat} (hf : P.funcs[f]? = some fn) (hb : fn.body = some code) (hn : fn.ntmps = n) (hle : Nat.ble args.length n = true)
    (hrow : args.all (fun g => !g.isRow) = true)
    (h : ∀ M w, G (⟨w, M, fun _ => False⟩ : Cx P n) (bodyPost P fn (PostR M (fun _ => False) w res)) [.c code] ⟨slots0 0 args, []⟩) : Ct P f args res := by
  refine ⟨fun M K w vs hM hK hl hargs => ?_⟩
  have hK0 : K = fun _ => False := by
    funext b
    refine propext ⟨fun c => ?_, fun c => c.elim⟩
    obtain ⟨i, T, size, es, cap, h1, _⟩ := hK b c
    have := List.all_eq_true.1 hrow _ (List.mem_of_getElem? h1)
    simp [RG.isRow] at this
  subst hK0
  have hle' : vs.length ≤ n := by rw [hl]; simpa using hle
  refine calls_of_wp hf hb ?_
  refine (h M w).go _ w ⟨fun _ => none, ⟨⟨rfl, rfl, rfl, Nat.le_refl _, fun _ _ _ => rfl⟩, hM, (fun _ _ _ _ _ h => by cases h), (fun _ _ _ h => by cases h), (fun _ _ h => by cases h), fun t sv hs => ?_, ?_, rfl⟩⟩
  · obtain ⟨_, g, h1, rfl⟩ := slots0_get hs
    rw [Nat.sub_zero] at h1
    have hlt : t < vs.length := by rw [hl]; exact (List.getElem?_eq_some_iff.1 h1).1
    have hv : (vs.toArray ++ Array.replicate (fn.ntmps - vs.toArray.size) undef).getD t undef = vs[t] := by
      simp [Array.getElem?_append, hlt]
    show SR _ _ _ _ _ ((vs.toArray ++ Array.replicate (fn.ntmps - vs.toArray.size) undef).getD t undef)
    rw [hv]
    have ha := hargs t g vs[t] h1 (by simp [hlt])
    have hmu : ∀ b o, Mu (⟨w, M, fun _ => False⟩ : Cx P n) [] (fun _ => none) b o → M b o ∨ False := by
      rintro b o (c | ⟨_, _, c, _⟩)
      · exact .inl c
      · cases c
    cases g with
    | g a => exact GR.less hmu ha
    | ep cs =>
      obtain ⟨b, o, hu, hc⟩ := ha
      exact ⟨b, o, hu, fun j d hj => let ⟨x, q1, q2, q3⟩ := hc j d hj; ⟨x, q1, fun c => q2 (hmu _ _ c), q3.less hmu⟩⟩
    | sem Φ => exact ha
    | row T size es => trivial
  · simp [hn]; omega

/-- a result's variable, and what it holds -/
inductive RVar (P : Program) : ResultVar → AG → List (Nat × SV) → List (Nat × Option HE) → Prop
  | tmp (t : Nat) (g : AG) : RVar P (.tmp t) g [(t, .one (.g g))] []
  | cell1 {t T T' k : Nat} {d : TypeDesc} {cs : List BV} {x : DV} (hU : P.underlying T = some d) (hA : aggD d = false) (hc : cs[0]? = some (.g (.d x))) : RVar P (.cell t T) (.d x) [(t, .one (.ptr k 0))] [(k, some (.blk T' cs))]
  | cellA {t T T' k bytes : Nat} {d : TypeDesc} {zz : Value} {cs : List BV} {ds : List DV} (hU : P.underlying T = some d) (hA : aggD d = true) (hI : Info P T zz ds.length bytes) (hc : cs.take ds.length = dat ds) :
      RVar P (.cell t T) (.agg ds) [(t, .one (.ptr k 0))] [(k, some (.blk T' cs))]

def resF (tmps : Array Value) : ResultVar → Sem Value
  | .tmp t => pure (tmps.getD t undef)
  | .cell a t => do loadVar t (← asAddr (tmps.getD a undef))

theorem results_eq (fn : Func) (tmps : Array Value) : results fn tmps = (fn.results.mapM (resF tmps) >>= fun vs => pure (if h : vs.size = 1 then vs[0] else .tuple vs)) := rfl

section
variable {P : Program} {nt : Nat} {C : Cx P nt} {k : List KI}

theorem RVar.ok {sl : SL} {hp : HL} {β : Nat → Option Nat} {a : Act} {w : World} {rv : ResultVar} {g : AG} {R : List (Nat × SV)} {Rh : List (Nat × Option HE)} (hx : RVar P rv g R Rh) (hs : HasS sl R) (hh : HasH hp Rh) (r : RelB C ⟨sl, hp⟩ β a w) :
    ∃ v, (resF a.tmps rv).run P w = .ok v w ∧ GR (Mu C hp β) w v g := by
  cases hx with
  | tmp t g => exact ⟨_, rfl, r.sl t _ hs.1⟩
  | @cell1 t T T' k d cs x hU hA hc =>
    obtain ⟨_, b, hb, hu⟩ := (r.sl t _ hs.1 : BR C hp β w (.ptr k 0) _)
    obtain ⟨b', arr, hb', hheap, hsz, hcell⟩ := r.hp k _ hh.1
    rw [hb] at hb'
    cases hb'
    obtain ⟨u, hu', _, hr⟩ := hcell 0 _ hc
    have hcl : w.cell? ⟨b, 0, none⟩ = some u := by rw [cell_of_row w b 0 arr T' _ hheap]; exact hu'
    have hu2 : a.tmps.getD t undef = .pointer (some ⟨b, 0, none⟩) := hu
    exact ⟨u, by simp only [resF, hu2, asAddr, Sem.run_bind, Sem.run_pure, Result.andThen_ok, loadVar, run_isAgg hU, hA, Bool.false_eq_true, if_false]; simp [hcl], hr⟩
  | @cellA t T T' k bytes d zz cs ds hU hA hI hc =>
    obtain ⟨_, b, hb, hu⟩ := (r.sl t _ hs.1 : BR C hp β w (.ptr k 0) _)
    obtain ⟨b', arr, hb', hheap, hsz, hcell⟩ := r.hp k _ hh.1
    rw [hb] at hb'
    cases hb'
    have key : ∀ (j : Nat) (dd : DV), ds[j]? = some dd → ∃ u, arr[j]? = some u ∧ RD (Mu C hp β) w u dd := by
      intro j dd hj
      have hl : j < ds.length := (List.getElem?_eq_some_iff.1 hj).1
      have : cs[j]? = some (.g (.d dd)) := by
        have e : (cs.take ds.length)[j]? = (dat ds)[j]? := by rw [hc]
        rw [List.getElem?_take, if_pos hl] at e
        rw [e]; simp [dat, hj]
      obtain ⟨u, h1, _, h3⟩ := hcell _ _ this
      exact ⟨u, h1, h3⟩
    have hu2 : a.tmps.getD t undef = .pointer (some ⟨b, 0, none⟩) := hu
    have hl := run_loadAgg (P := P) (b := b) (o := 0) (w := w) hU hA hI (fun j => arr.getD j undef) (fun j hj => by
      obtain ⟨u, h1, _⟩ := key j ds[j] (by simp [hj])
      rw [Nat.zero_add, cell_of_row w b _ arr T' _ hheap]
      simp [h1])
    refine ⟨.agg ((List.range ds.length).map (fun j => arr.getD j undef)).toArray, ?_, _, rfl, by simp, fun j dd hj => ?_⟩
    · simp only [resF, hu2, asAddr, Sem.run_bind, Sem.run_pure, Result.andThen_ok]
      simp only [Instr.loadAt, Instr.sureAddr, Sem.run_bind, Sem.run_pure, Result.andThen_ok] at hl
      exact hl
    · obtain ⟨u, h1, h2⟩ := key j dd hj
      have hl : j < ds.length := (List.getElem?_eq_some_iff.1 hj).1
      exact ⟨u, by simp [hl, h1], h2⟩

theorem toM {hp : HL} {β : Nat → Option Nat} {w : World} {v : Value} {g : AG} (h : GR (Mu C hp β) w v g) : GR C.M w v g := h.less fun _ _ c => .inl c

theorem G.ret1 {fn : Func} {sl : SL} {hp : HL} {rv : ResultVar} {g : AG} {R : List (Nat × SV)} {Rh : List (Nat × Option HE)} (hres : fn.results = #[rv]) (hr : RVar P rv g R Rh) (hs : HasS sl R) (hh : HasH hp Rh) :
    G C (bodyPost P fn (PostR C.M C.K C.w0 (.one g))) (.c .ret :: k) ⟨sl, hp⟩ := .mk <| fun a w ⟨β, r⟩ => by
  obtain ⟨v, h1, h2⟩ := hr.ok hs hh r
  refine wp_ret (Qof_ret ⟨r.df, v, ?_, v, rfl, r.keep, toM h2⟩)
  rw [results_eq, hres]
  simp [h1]

theorem G.ret2 {fn : Func} {sl : SL} {hp : HL} {rv rv' : ResultVar} {g g' : AG} {R R' : List (Nat × SV)} {Rh Rh' : List (Nat × Option HE)} (hres : fn.results = #[rv, rv']) (hr : RVar P rv g R Rh) (hr' : RVar P rv' g' R' Rh')
    (hs : HasS sl (R ++ R')) (hh : HasH hp (Rh ++ Rh')) : G C (bodyPost P fn (PostR C.M C.K C.w0 (.tup [g, g']))) (.c .ret :: k) ⟨sl, hp⟩ := .mk <| fun a w ⟨β, r⟩ => by
  obtain ⟨v, h1, h2⟩ := hr.ok hs.app.1 hh.app.1 r
  obtain ⟨v', h1', h2'⟩ := hr'.ok hs.app.2 hh.app.2 r
  refine wp_ret (Qof_ret ⟨r.df, .tuple #[v, v'], ?_, .tuple #[v, v'], rfl, r.keep, #[v, v'], rfl, rfl, fun i g'' hi => ?_⟩)
  · rw [results_eq, hres]
    simp [h1, h1']
  · match i with
    | 0 => simp at hi; subst hi; exact ⟨v, rfl, toM h2⟩
    | 1 => simp at hi; subst hi; exact ⟨v', rfl, toM h2'⟩
    | i + 2 => simp at hi

theorem G.ret3 {fn : Func} {sl : SL} {hp : HL} {rv rv' rv'' : ResultVar} {g g' g'' : AG} {R R' R'' : List (Nat × SV)} {Rh Rh' Rh'' : List (Nat × Option HE)} (hres : fn.results = #[rv, rv', rv'']) (hr : RVar P rv g R Rh) (hr' : RVar P rv' g' R' Rh') (hr'' : RVar P rv'' g'' R'' Rh'')
    (hs : HasS sl (R ++ (R' ++ R''))) (hh : HasH hp (Rh ++ (Rh' ++ Rh''))) : G C (bodyPost P fn (PostR C.M C.K C.w0 (.tup [g, g', g'']))) (.c .ret :: k) ⟨sl, hp⟩ := .mk <| fun a w ⟨β, r⟩ => by
  obtain ⟨v, h1, h2⟩ := hr.ok hs.app.1 hh.app.1 r
  obtain ⟨v', h1', h2'⟩ := hr'.ok hs.app.2.app.1 hh.app.2.app.1 r
  obtain ⟨v'', h1'', h2''⟩ := hr''.ok hs.app.2.app.2 hh.app.2.app.2 r
  refine wp_ret (Qof_ret ⟨r.df, .tuple #[v, v', v''], ?_, .tuple #[v, v', v''], rfl, r.keep, #[v, v', v''], rfl, rfl, fun i g'' hi => ?_⟩)
  · rw [results_eq, hres]
    simp [h1, h1', h1'']
  · match i with
    | 0 => simp at hi; subst hi; exact ⟨v, rfl, toM h2⟩
    | 1 => simp at hi; subst hi; exact ⟨v', rfl, toM h2'⟩
    | 2 => simp at hi; subst hi; exact ⟨v'', rfl, toM h2''⟩
    | i + 3 => simp at hi

/-- a row of the call's own is handed back: it is the caller's -/
theorem G.retNew {fn : Func} {sl : SL} {hp : HL} {t k' T size : Nat} {es : List (List DV)} (hres : fn.results = #[.tmp t]) (hs : sget sl t = some (.one (.own k' es))) (hh : hget hp k' = some (.row T size es true)) :
    G C (bodyPost P fn (PostR C.M C.K C.w0 (.new T size es))) (.c .ret :: k) ⟨sl, hp⟩ := .mk <| fun a w ⟨β, r⟩ => by
  have hu := (r.sl t _ hs : BR C hp β w (.own k' es) _)
  refine wp_ret (Qof_ret ⟨r.df, a.tmps.getD t undef, ?_, a.tmps.getD t undef, rfl, r.keep, ?_⟩)
  · rw [results_eq, hres]
    simp [resF]
  · obtain ⟨_, _, _, _, h1, _, h2⟩ := hu
    rw [hh] at h1; cases h1
    obtain ⟨hz, hsz, hr⟩ := r.hp k' _ hh
    refine ⟨hz, hsz, ?_⟩
    rcases h2 rfl with ⟨_, h3, h4⟩ | ⟨b, cap, cur, hb, hu', hle, hcm, hheap, hcs⟩
    · exact .inl ⟨h3, h4⟩
    · rcases hr with ⟨q1, _⟩ | ⟨b', cur', q1, q2, q3, q4⟩
      · rw [hb] at q1; cases q1
      · rw [hb] at q1; cases q1
        rw [hheap] at q2; cases q2
        refine .inr ⟨b, cap, cur, (r.own k' _ b hh hb).1, (r.own k' _ b hh hb).2, hu', hle, hcm, hheap, hcs, fun i cs j d hi hj => let ⟨v, p1, p2⟩ := q4 i cs j d hi hj; ⟨v, p1, p2.less fun b'' o c => ?_⟩⟩
        rcases c with c | c
        · exact .inl c
        · subst c; exact .inr ⟨k', _, hh, hb, .inl rfl⟩
end
end Go.Ab
