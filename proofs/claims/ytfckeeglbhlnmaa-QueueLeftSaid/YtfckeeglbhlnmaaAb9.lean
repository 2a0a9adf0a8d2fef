/- The abstract machine: calls that only read, function values, pieces of texts and slices. Conditions: none but those that stand in each law. -/
import Derived.Test.YtfckeeglbhlnmaaAb8
namespace Go.Ab
open Go Go.RowKit

/-- the blocks that a closure holds: plain data -/
inductive EvC : List Nat → List RG → List (Nat × Option HE) → Prop
  | nil : EvC [] [] []
  | cons {k T : Nat} {cs : List BV} {ds : List DV} {ks : List Nat} {gs : List RG} {Rh : List (Nat × Option HE)} (he : cs = dat ds) (t : EvC ks gs Rh) : EvC (k :: ks) (.ep ds :: gs) ((k, some (.blk T cs)) :: Rh)

theorem HasH.app {hp : HL} {l r : List (Nat × Option HE)} (h : HasH hp (l ++ r)) : HasH hp l ∧ HasH hp r := by
  induction l with
  | nil => exact ⟨trivial, h⟩
  | cons x l ih =>
    obtain ⟨t, s⟩ := x
    obtain ⟨h1, h2⟩ := h
    obtain ⟨h3, h4⟩ := ih h2
    exact ⟨⟨h1, h3⟩, h4⟩

theorem EvC.get {hp : HL} {ks : List Nat} {gs : List RG} {Rh : List (Nat × Option HE)} (h : EvC ks gs Rh) (hh : HasH hp Rh) :
    gs.length = ks.length ∧ ∀ (i k : Nat), ks[i]? = some k → ∃ T ds, gs[i]? = some (.ep ds) ∧ hget hp k = some (.blk T (dat ds)) := by
  induction h with
  | nil => exact ⟨rfl, fun i k h => by simp at h⟩
  | cons he t ih =>
    obtain ⟨h1, h2⟩ := hh
    obtain ⟨h3, h4⟩ := ih h2
    refine ⟨by simp [h3], fun i k hi => ?_⟩
    cases i with
    | zero => simp at hi; subst hi; subst he; exact ⟨_, _, rfl, h1⟩
    | succ i => exact h4 i k (by simpa using hi)

/-- a pointer to a block of the call's own, lent for reading: in this world, and in each later one in which the block still stands -/
theorem blk_ep {P : Program} {nt : Nat} {C : Cx P nt} {sl : SL} {hp : HL} {β : Nat → Option Nat} {a : Act} {w w' : World} (r : RelB C ⟨sl, hp⟩ β a w) {k b off T : Nat} {cs : List BV} {ds : List DV} (hk : hget hp k = some (.blk T cs)) (hb : β k = some b) (he : cs.drop off = dat ds)
    {K : Nat → Prop} (hw : KeepW K w w') (hK : ∀ b, K b → ∃ k T size es ex, hget hp k = some (.row T size es ex) ∧ β k = some b) (hK2 : ∀ b, K b → ∀ o, Mu C hp β b o) :
    ArgR P (fun _ _ => False) (fun _ => False) w' (.ep ds) (.pointer (some ⟨b, off, none⟩)) := by
  have hnb : ¬ K b := fun c => by
    obtain ⟨k', T', size, es, ex, h1, h2⟩ := hK b c
    have := r.inj k' k _ _ b h1 hk h2 hb
    subst this
    rw [hk] at h1; cases h1
  obtain ⟨b', arr, h1, h2, h3, h4⟩ := r.hp k _ hk
  rw [hb] at h1; cases h1
  refine ⟨b, off, rfl, fun j d hj => ?_⟩
  have hcj : cs[off + j]? = some (.g (.d d)) := by rw [← List.getElem?_drop, he]; simp [dat, hj]
  obtain ⟨u, h5, h6, h7⟩ := h4 _ _ hcj
  have hlt : b < w.heap.size := (Array.getElem?_eq_some_iff.1 h2).1
  refine ⟨u, ?_, fun c => c.elim id id, RD.mono (M := Mu C hp β) (w := w) (fun b' o x hn hx => ⟨?_, fun c => c.elim id id⟩) h7⟩
  · rw [cell_of_row w' b (off + j) arr T (0, 0) (by rw [hw.block b hlt hnb]; exact h2)]
    exact h5
  · rw [World.cell?_of_block (w := w) (a := ⟨b', o, none⟩) (hw.block b' (cell_lt hx) (fun c => hn (hK2 b' c o)))]
    exact hx

theorem clo_sem {P : Program} {nt : Nat} {C : Cx P nt} {sl : SL} {hp : HL} {β : Nat → Option Nat} {a : Act} {w : World} (r : RelB C ⟨sl, hp⟩ β a w) {f : Nat} {ks : List Nat} {gs : List RG} {Rh : List (Nat × Option HE)} {u : Value} {Φ : List AG → Value → Prop}
    (hu : BR C hp β w (.clo f ks) u) (hc : EvC ks gs Rh) (hh : HasH hp Rh) {K : Nat → Prop} (hK : ∀ b, K b → ∃ k T size es ex, hget hp k = some (.row T size es ex) ∧ β k = some b) (hK2 : ∀ b, K b → ∀ o, Mu C hp β b o)
    (hcf : CallF P f) (hΦ : ∀ args v, Φ args v → Ct P f (args.map .g ++ gs) (.one (.d (.v v)))) : SemFn P w K u Φ := by
  obtain ⟨us, hu, hl, hcap⟩ := hu
  obtain ⟨hgl, hget⟩ := hc.get hh
  refine ⟨f, us.toArray, hu, hcf, fun w' hw' M vs args v hvl hvs hp => ?_⟩
  have h := (hΦ args v hp).go (fun _ _ => False) (fun _ => False) w' (vs ++ us) (fun _ _ h => h.elim) (fun _ h => h.elim) (by simp [hvl, hl, hgl]) (fun i g x hg hx => ?_)
  · rw [List.append_toArray]
    refine h.mono ?_
    rintro e w'' ⟨x, rfl, hk, hr⟩
    exact ⟨congrArg _ (RD.v_inv hr), hk.toBelow⟩
  · by_cases c : i < vs.length
    · rw [List.getElem?_append_left c] at hx
      rw [List.getElem?_append_left (by simp; omega)] at hg
      simp only [List.getElem?_map, Option.map_eq_some_iff] at hg
      obtain ⟨g', hg', rfl⟩ := hg
      exact GR.less (fun _ _ c => c.elim False.elim False.elim) (hvs i x g' hx hg')
    · rw [List.getElem?_append_right (by omega)] at hx
      rw [List.getElem?_append_right (by simp; omega)] at hg
      simp only [List.length_map, ← hvl] at hg
      have hlt : i - vs.length < ks.length := by rw [← hl]; exact (List.getElem?_eq_some_iff.1 hx).1
      obtain ⟨T, ds, h1, h2⟩ := hget (i - vs.length) ks[i - vs.length] (by simp [hlt])
      obtain ⟨_, b, hb, hx'⟩ := hcap (i - vs.length) ks[i - vs.length] (by simp [hlt])
      rw [hg] at h1
      cases h1
      rw [hx] at hx'
      cases hx'
      exact blk_ep r h2 hb (by simp) hw' hK hK2

/-- operands of a call that hands back plain numbers, truth values and texts: what is the call's own may be lent -/
inductive EvQ (P : Program) : Operand → RG → List (Nat × SV) → List (Nat × Option HE) → Prop
  | g {x : Operand} {g : AG} {R : List (Nat × SV)} (h : Ev x (.g g) R) : EvQ P x (.g g) R []
  | ep {x : Operand} {cs : List DV} {R : List (Nat × SV)} (h : Ev x (.ep cs) R) : EvQ P x (.ep cs) R []
  | ptr {x : Operand} {k off T : Nat} {cs : List BV} {ds : List DV} {R : List (Nat × SV)} (h : Ev x (.ptr k off) R) (he : cs.drop off = dat ds) : EvQ P x (.ep ds) R [(k, some (.blk T cs))]
  | own {x : Operand} {k T size : Nat} {es : List (List DV)} {ex : Bool} {R : List (Nat × SV)} (h : Ev x (.own k es) R) : EvQ P x (.g (.d (.sl size es))) R [(k, some (.row T size es ex))]
  | cp {x : Operand} {size : Nat} {es : List (List DV)} {R : List (Nat × SV)} (h : Ev x (.cp size es) R) : EvQ P x (.g (.d (.sl size es))) R []
  | sem {x : Operand} {Φ : List AG → Value → Prop} {R : List (Nat × SV)} (h : Ev x (.sem Φ) R) : EvQ P x (.sem Φ) R []
  | clo {x : Operand} {f : Nat} {ks : List Nat} {gs : List RG} {Φ : List AG → Value → Prop} {R : List (Nat × SV)} {Rh : List (Nat × Option HE)} (h : Ev x (.clo f ks) R) (hc : EvC ks gs Rh) (hcf : CallF P f)
      (hΦ : ∀ args v, Φ args v → Ct P f (args.map .g ++ gs) (.one (.d (.v v)))) : EvQ P x (.sem Φ) R Rh

theorem SemFn.later {P : Program} {w w' : World} {K : Nat → Prop} {u : Value} {Φ : List AG → Value → Prop} (h : SemFn P w K u Φ) (hw : KeepW K w w') : SemFn P w' (fun _ => False) u Φ := by
  obtain ⟨f, caps, hu, hcf, hf⟩ := h
  exact ⟨f, caps, hu, hcf, fun w'' hb' => hf w'' ⟨hb'.os.trans hw.os, hb'.tape.trans hw.tape, hb'.output.trans hw.output, Nat.le_trans hw.size hb'.size, fun k hk hK => (hb'.block k (Nat.lt_of_lt_of_le hk hw.size) id).trans (hw.block k hk hK)⟩⟩

/-- a row that the call owns, read as a slice -/
theorem own_data {P : Program} {nt : Nat} {C : Cx P nt} {sl : SL} {hp : HL} {β : Nat → Option Nat} {a : Act} {w : World} (r : RelB C ⟨sl, hp⟩ β a w) {k T size : Nat} {es : List (List DV)} {ex : Bool} {u : Value} (hk : hget hp k = some (.row T size es ex)) (hu : BR C hp β w (.own k es) u)
    {M : Nat → Nat → Prop} (hM : ∀ b o, M b o → Mu C hp β b o) (hM2 : ∀ b o, β k = some b → o < es.length * size → ¬ M b o) : RD M w u (.sl size es) := by
  obtain ⟨_, _, _, _, h1, _, h2⟩ := hu
  rw [hk] at h1
  cases h1
  rcases h2 rfl with ⟨_, rfl, ad, rfl⟩ | ⟨b, cap, cur, hb, rfl, hle, hcm, hheap, hcs⟩
  · exact RD.nil ad 0 size (Nat.zero_le _)
  · obtain ⟨hz, hs, hr⟩ := r.hp k _ hk
    rcases hr with ⟨h1, _⟩ | ⟨b', cur', h1, h3, h4, h5⟩
    · rw [hb] at h1; cases h1
    · rw [hb] at h1; cases h1
      rw [hheap] at h3; cases h3
      refine RD.sl _ cap size es (fun i j => cur.getD (i * size + j) undef) b 0 hle hcm (fun _ => rfl) hs (fun i cs j d hi hj => ?_) (fun i cs j d hi hj => ?_)
      · obtain ⟨v, h6, _⟩ := h5 i cs j d hi hj
        have hi' : i < es.length := (List.getElem?_eq_some_iff.1 hi).1
        have hj' : j < cs.length := (List.getElem?_eq_some_iff.1 hj).1
        have hl : cs.length = size := hs cs (List.mem_of_getElem? hi)
        have h7 : (i + 1) * size ≤ es.length * size := Nat.mul_le_mul_right _ hi'
        rw [Nat.add_mul] at h7
        refine ⟨?_, hM2 b _ hb (by omega)⟩
        rw [cell_of_row _ _ _ _ T _ hheap, Nat.zero_add]
        simp [h6]
      · obtain ⟨v, h6, h7⟩ := h5 i cs j d hi hj
        have e : cur.getD (i * size + j) undef = v := by simp [h6]
        show RD M w (cur.getD (i * size + j) undef) d
        rw [e]
        exact h7.less hM

theorem EvQ.ok {P : Program} {nt : Nat} {C : Cx P nt} {sl : SL} {hp : HL} {β : Nat → Option Nat} {a : Act} {w : World} {x : Operand} {g : RG} {R : List (Nat × SV)} {Rh : List (Nat × Option HE)}
    (hx : EvQ P x g R Rh) (hs : HasS sl R) (hh : HasH hp Rh) (r : RelB C ⟨sl, hp⟩ β a w) : ArgR P (fun _ _ => False) (fun _ => False) w g (a.eval x) := by
  have hrefl : KeepW (fun _ => False) w w := ⟨rfl, rfl, rfl, Nat.le_refl _, fun _ _ _ => rfl⟩
  cases hx with
  | g h => exact GR.less (fun _ _ c => c.elim False.elim False.elim) (h.ok hs r)
  | ep h =>
    obtain ⟨b, o, hu, hc⟩ := h.ok hs r
    exact ⟨b, o, hu, fun j d hj => let ⟨x, h1, _, h3⟩ := hc j d hj; ⟨x, h1, fun c => c.elim id id, h3.less (fun _ _ c => c.elim False.elim False.elim)⟩⟩
  | ptr h he =>
    obtain ⟨_, b, hb, hu⟩ := h.ok hs r
    rw [hu]
    exact blk_ep r hh.1 hb he hrefl (fun _ c => c.elim) (fun _ c => c.elim)
  | own h => exact own_data r hh.1 (h.ok hs r) (fun _ _ c => c.elim False.elim False.elim) (fun _ _ _ _ c => c.elim id id)
  | cp h => exact (h.ok hs r).1.less (fun _ _ c => c.elim False.elim False.elim)
  | sem h => exact (show SemFn P C.w0 C.K _ _ from h.ok hs r).later r.keep
  | clo h hc hcf hΦ => exact clo_sem r (h.ok hs r) hc hh (fun _ c => c.elim) (fun _ c => c.elim) hcf hΦ

inductive EvQL (P : Program) : List Operand → List RG → List (Nat × SV) → List (Nat × Option HE) → Prop
  | nil : EvQL P [] [] [] []
  | cons {x : Operand} {g : RG} {R Rs : List (Nat × SV)} {Rh Rhs : List (Nat × Option HE)} {xs : List Operand} {gs : List RG} (h : EvQ P x g R Rh) (t : EvQL P xs gs Rs Rhs) : EvQL P (x :: xs) (g :: gs) (R ++ Rs) (Rh ++ Rhs)

theorem EvQL.ok {P : Program} {nt : Nat} {C : Cx P nt} {sl : SL} {hp : HL} {β : Nat → Option Nat} {a : Act} {w : World} {xs : List Operand} {gs : List RG} {R : List (Nat × SV)} {Rh : List (Nat × Option HE)}
    (hx : EvQL P xs gs R Rh) (hs : HasS sl R) (hh : HasH hp Rh) (r : RelB C ⟨sl, hp⟩ β a w) :
    (xs.map a.eval).length = gs.length ∧ ∀ (i : Nat) (g : RG) (v : Value), gs[i]? = some g → (xs.map a.eval)[i]? = some v → ArgR P (fun _ _ => False) (fun _ => False) w g v := by
  induction hx with
  | nil => exact ⟨rfl, fun i g v h => by simp at h⟩
  | cons h t ih =>
    obtain ⟨h1, h2⟩ := hs.app
    obtain ⟨h1', h2'⟩ := hh.app
    obtain ⟨h3, h4⟩ := ih h2 h2'
    refine ⟨by simpa using h3, fun i g v hg hv => ?_⟩
    cases i with
    | zero =>
      simp at hg hv
      subst hg hv
      exact h.ok h1 h1' r
    | succ i => exact h4 i g v (by simpa using hg) (by simpa using hv)

def DV.sc : DV → Bool
  | .v _ => true
  | .sl _ _ => false
def AG.sc : AG → Bool
  | .d x => x.sc
  | .agg cs => cs.all DV.sc
def RS.sc : RS → Bool
  | .one g => g.sc
  | .tup l => l.all AG.sc
  | .new _ _ _ => false

theorem DV.sc_ok {M M' : Nat → Nat → Prop} {w : World} {u : Value} {d : DV} (h : d.sc = true) (r : RD M w u d) : RD M' w u d := by
  cases r with
  | v _ hx => exact RD.v _ hx
  | sl => cases h
theorem AG.sc_ok {M M' : Nat → Nat → Prop} {w : World} {u : Value} {g : AG} (h : g.sc = true) (r : GR M w u g) : GR M' w u g := by
  cases g with
  | d d => exact DV.sc_ok h r
  | agg cs =>
    obtain ⟨us, h1, h2, h3⟩ := r
    refine ⟨us, h1, h2, fun j d hd => let ⟨x, hx, hr⟩ := h3 j d hd; ⟨x, hx, DV.sc_ok ?_ hr⟩⟩
    exact List.all_eq_true.1 h d (List.mem_of_getElem? hd)
theorem RS.sc_ok {M M' : Nat → Nat → Prop} {K : Nat → Prop} {w w' : World} {v : Value} {res : RS} (h : res.sc = true) (r : ResR M K w w' res v) : ResR M' K w w' res v := by
  cases res with
  | one g => exact AG.sc_ok h r
  | tup l =>
    obtain ⟨us, h1, h2, h3⟩ := r
    exact ⟨us, h1, h2, fun i g hg => let ⟨x, hx, hr⟩ := h3 i g hg; ⟨x, hx, AG.sc_ok (List.all_eq_true.1 h g (List.mem_of_getElem? hg)) hr⟩⟩
  | new T size es => cases h

section
variable {P : Program} {nt : Nat} {C : Cx P nt} {dst : Nat} {ty : TypeId} {pos : String} {af : Array Edge} {gd : Option (Nat × Bool)} {x y z : Operand} {R R1 R2 R3 : List (Nat × SV)} {Rh : List (Nat × Option HE)}

/-- a call that only reads -/
theorem op_callQ {f : Nat} {xs : List Operand} {tys : Array TypeId} {args : List RG} {res : RS} {sv : SV} (hc : CallF P f) (hct : Ct P f args res) (hsc : res.sc = true) (hsv : res.sv = sv) (hx : EvQL P xs args R Rh) (hd : Nat.blt dst nt = true) :
    OpL C (Oo dst (cCall f xs tys) ty pos af gd) R Rh [(dst, sv)] [] := by
  refine ⟨fun sl hp hs hh a w K Q ⟨β, r⟩ hK => ?_⟩
  obtain ⟨h1, h2⟩ := hx.ok hs hh r
  have hcall := hct.go (fun _ _ => False) (fun _ => False) w (xs.map a.eval) (fun b o h => h.elim) (fun b h => h.elim) h1 h2
  unfold Oper.wp
  rw [run_call hc]
  refine hcall.mono ?_
  rintro e w' ⟨v, rfl, hk, hr⟩
  refine hK _ _ ⟨β, r.put hk.toBelow (by simpa using hd) ?_⟩
  rw [← hsv]
  exact RS.sv_ok (RS.sc_ok hsc hr)

/-- a call of a function value that came in -/
theorem op_callSem {t : Nat} {xs : List Operand} {tys : Array TypeId} {args : List AG} {v : Value} {Φ : List AG → Value → Prop} (hΦ : Φ args v) (hv : v.oneCell' = true) (hx : EvL xs (args.map .g) R) (hd : Nat.blt dst nt = true) :
    OpL C (Oo dst (cCallT t xs tys) ty pos af gd) ((t, .one (.sem Φ)) :: R) [] [(dst, .one (dv v))] [] := by
  refine ⟨fun sl hp hs hh a w K Q ⟨β, r⟩ hK => ?_⟩
  obtain ⟨h1, h2⟩ := hx.ok hs.2 r
  obtain ⟨f, caps, hu, hcf, hf⟩ := (show SemFn P C.w0 C.K _ _ from (Ev.t t _).ok (R := [(t, .one (.sem Φ))]) ⟨hs.1, trivial⟩ r)
  have hcall := hf w r.keep (Mu C hp β) (xs.map a.eval) args v (by simpa using h1) (fun i u g hu hg => GR.less (fun b o c => .inl c) (h2 i (.g g) u (by simp [hg]) hu)) hΦ
  unfold Oper.wp
  rw [run_callT hcf hu]
  refine hcall.mono ?_
  rintro e w' ⟨rfl, hb⟩
  exact hK _ _ ⟨β, r.put (sv := .one (dv v)) hb (by simpa using hd) (RD.v v hv)⟩

/-- a call of a function value of the call's own -/
theorem op_callClo {t f : Nat} {ks : List Nat} {gs args : List RG} {xs : List Operand} {tys : Array TypeId} {res : RS} {sv : SV} {Rh' : List (Nat × Option HE)} (hc : CallF P f) (hct : Ct P f (args ++ gs) res) (hsc : res.sc = true) (hsv : res.sv = sv)
    (hcl : EvC ks gs Rh') (hx : EvQL P xs args R Rh) (hd : Nat.blt dst nt = true) :
    OpL C (Oo dst (cCallT t xs tys) ty pos af gd) ((t, .one (.clo f ks)) :: R) (Rh' ++ Rh) [(dst, sv)] [] := by
  refine ⟨fun sl hp hs hh a w K Q ⟨β, r⟩ hK => ?_⟩
  obtain ⟨h1, h2⟩ := hx.ok hs.2 hh.app.2 r
  obtain ⟨us, hu, hl, hcap⟩ := (Ev.t t _).ok (R := [(t, .one (.clo f ks))]) ⟨hs.1, trivial⟩ r
  obtain ⟨hgl, hget⟩ := hcl.get hh.app.1
  have hcall := hct.go (fun _ _ => False) (fun _ => False) w (xs.map a.eval ++ us) (fun b o h => h.elim) (fun b h => h.elim) (by simp only [List.length_append, h1, hl, hgl]) (fun i g v hg hv => ?_)
  · unfold Oper.wp
    rw [run_callT hc hu, List.append_toArray]
    refine hcall.mono ?_
    rintro e w' ⟨v, rfl, hk, hr⟩
    refine hK _ _ ⟨β, r.put hk.toBelow (by simpa using hd) ?_⟩
    rw [← hsv]
    exact RS.sv_ok (RS.sc_ok hsc hr)
  · by_cases c : i < args.length
    · rw [List.getElem?_append_left c] at hg
      rw [List.getElem?_append_left (by rw [h1]; exact c)] at hv
      exact h2 i g v hg hv
    · rw [List.getElem?_append_right (by omega)] at hg
      rw [List.getElem?_append_right (by rw [h1]; omega), h1] at hv
      have hlt : i - args.length < ks.length := by rw [← hgl]; exact (List.getElem?_eq_some_iff.1 hg).1
      obtain ⟨T, ds, h5, h6⟩ := hget (i - args.length) ks[i - args.length] (by simp [hlt])
      obtain ⟨_, b, hb, hx'⟩ := hcap (i - args.length) ks[i - args.length] (by simp [hlt])
      rw [hg] at h5
      cases h5
      rw [hv] at hx'
      cases hx'
      exact blk_ep r h6 hb (by simp) ⟨rfl, rfl, rfl, Nat.le_refl _, fun _ _ _ => rfl⟩ (K := fun _ => False) (fun _ c => c.elim) (fun _ c => c.elim)
end
end Go.Ab
