/- A law's given arguments, opened: what the statement's reading says of them, as data of my own. Conditions: none but those that stand in each law. -/
import Derived.Test.YtfckeeglbhlnmaaAb18
import Derived.ChangeArms
import Derived.ChangeSame
import Derived.Carry
import Derived.Handed
import Derived.OpenShut
import Derived.ProofKit
import Derived.JoinedCond
namespace Go.Ab
open Go Go.RowKit Go.ChangeShapes Go.WideShapes Go.ChangeAt

/-- pair by pair -/
inductive F2 {α β : Type} (R : α → β → Prop) : List α → List β → Prop
  | nil : F2 R [] []
  | cons {a : α} {b : β} {as : List α} {bs : List β} (h : R a b) (t : F2 R as bs) : F2 R (a :: as) (b :: bs)

/-- whatever is read as type t by the statement's reading, is one of X's, as my own reading has it -/
def Opens (P : Program) (t : TypeId) (X : Type) (enc : X → List DV) (wf : X → Prop) : Prop :=
  ∀ (H : Type) (e : TypeId × Value → H) (w : World) (base : Nat) (sp : Nat → Bool) (held : Bool) (fuel : Nat) (cs : List Value) (x : DataW H × List MemPlace),
    DataW.trod e P w base sp held fuel t cs = some x → ∃ v : X, wf v ∧ F2 (RD (fun _ _ => False) w) cs (enc v)

theorem Opens.int {P : Program} {t : TypeId} {k : IntKind} (ht : P.underlying t = some (.int k)) : Opens P t Int (fun x => [.v (.int k x)]) (fun x => (Lit.int k x).wf = true) := by
  intro H e w base sp held fuel cs x h
  cases fuel with
  | zero => simp [DataW.trod] at h
  | succ n =>
    unfold DataW.trod at h
    rw [ht] at h
    split at h <;> simp_all
    obtain ⟨⟨rfl, hw⟩, _⟩ := h
    exact ⟨_, hw, .cons (RD.v _ rfl) .nil⟩

theorem Opens.bool {P : Program} {t : TypeId} (ht : P.underlying t = some .bool) : Opens P t Bool (fun x => [.v (.bool x)]) (fun _ => True) := by
  intro H e w base sp held fuel cs x h
  cases fuel with
  | zero => simp [DataW.trod] at h
  | succ n =>
    unfold DataW.trod at h
    rw [ht] at h
    split at h
    · exact ⟨_, trivial, .cons (RD.v _ rfl) .nil⟩
    all_goals simp_all

theorem Opens.string {P : Program} {t : TypeId} (ht : P.underlying t = some .string) : Opens P t ByteArray (fun x => [.v (.string x)]) (fun x => x.size ≤ maxLen) := by
  intro H e w base sp held fuel cs x h
  cases fuel with
  | zero => simp [DataW.trod] at h
  | succ n =>
    unfold DataW.trod at h
    rw [ht] at h
    split at h <;> simp_all
    obtain ⟨hw, _⟩ := h
    exact ⟨_, hw, .cons (RD.v _ rfl) .nil⟩

theorem exists_list {X : Type} (n : Nat) (p : Nat → X → Prop) (h : ∀ i, i < n → ∃ x, p i x) : ∃ l : List X, l.length = n ∧ ∀ i x, l[i]? = some x → p i x := by
  induction n with
  | zero => exact ⟨[], rfl, fun i x h => by simp at h⟩
  | succ n ih =>
    obtain ⟨l, h1, h2⟩ := ih fun i hi => h i (by omega)
    obtain ⟨x, hx⟩ := h n (by omega)
    refine ⟨l ++ [x], by simp [h1], fun i y hy => ?_⟩
    by_cases c : i < l.length
    · rw [List.getElem?_append_left c] at hy; exact h2 i y hy
    · rw [List.getElem?_append_right (by omega)] at hy
      have : i - l.length = 0 := by
        have := (List.getElem?_eq_some_iff.1 hy).1
        simp at this; omega
      rw [this] at hy
      simp at hy
      subst hy
      rw [show i = n by omega]; exact hx

theorem forall2_get {α β : Type} {R : α → β → Prop} : ∀ {xs : List α} {ys : List β}, F2 R xs ys → xs.length = ys.length ∧ ∀ (j : Nat) (y : β), ys[j]? = some y → ∃ x, xs[j]? = some x ∧ R x y
  | _, _, .nil => ⟨rfl, fun j y h => by simp at h⟩
  | _, _, .cons h t => by
    obtain ⟨h1, h2⟩ := forall2_get t
    refine ⟨by simp [h1], fun j y hj => ?_⟩
    cases j with
    | zero => simp at hj; subst hj; exact ⟨_, rfl, h⟩
    | succ j => simpa using h2 j y (by simpa using hj)

theorem mapM_cells {w : World} {base n : Nat} {a : Addr} {cs : List Value} (h : w.cells? base a n = some cs) : cs.length = n ∧ ∀ j, j < n → w.cell? (a.add j) = cs[j]? := by
  unfold World.cells? at h
  split at h
  · refine ⟨by simpa using mapM_some_length h, fun j hj => ?_⟩
    have := mapM_some_get h j j (by simp [hj])
    exact this
  · cases h

theorem Opens.slice {P : Program} {t e : TypeId} {size : Nat} {X : Type} {enc : X → List DV} {wf : X → Prop} (ht : P.underlying t = some (.slice e)) (h : Opens P e X enc wf) (hc : P.cellsOf e = size) (hs : ∀ v, (enc v).length = size) (hpos : Nat.blt 0 size = true) :
    Opens P t (List X) (fun l => [.sl size (l.map enc)]) (fun l => l.length ≤ maxLen ∧ ∀ x, x ∈ l → wf x) := by
  intro H en w base sp held fuel cs x hx
  rcases DataW.trod_slice ht hx with ⟨rfl, _⟩ | ⟨a, len, cap, elems, rest, n, _, rfl, _, hb, hl, hm, hlen, hel, _, _⟩
  · exact ⟨[], ⟨Nat.zero_le _, fun x h => by simp at h⟩, .cons (RD.nil none 0 size (Nat.zero_le _)) .nil⟩
  · have hpos : 0 < size := by simpa using hpos
    have key : ∀ i, i < len → ∃ v : X, wf v ∧ ∃ csi, w.cells? base (a.add (i * size)) size = some csi ∧ F2 (RD (fun _ _ => False) w) csi (enc v) := by
      intro i hi
      have h1 := hel i hi
      rw [hc] at h1
      have h2 : elems[i]? = some elems[i] := by simp [hlen, hi]
      rw [h2] at h1
      obtain ⟨csi, h3, h4⟩ := Option.bind_eq_some_iff.1 h1
      obtain ⟨v, h5, h6⟩ := h H en w base sp held n csi _ h4
      exact ⟨v, h5, csi, h3, h6⟩
    obtain ⟨l, hll, hlp⟩ := exists_list len _ key
    refine ⟨l, ⟨by omega, fun x hx => ?_⟩, .cons ?_ .nil⟩
    · obtain ⟨i, hi, rfl⟩ := List.getElem_of_mem hx
      exact (hlp i l[i] (by simp [hi])).1
    · have hmem : ∀ i x, l[i]? = some x → ∀ j d, (enc x)[j]? = some d → ∃ u, w.cell? ((a.add (i * size)).add j) = some u ∧ RD (fun _ _ => False) w u d := by
        intro i x hi j d hj
        obtain ⟨_, csi, h3, h6⟩ := hlp i x hi
        obtain ⟨h7, h8⟩ := mapM_cells h3
        obtain ⟨u, h9, h10⟩ := (forall2_get h6).2 j d hj
        have : j < size := by rw [← hs x]; exact (List.getElem?_eq_some_iff.1 hj).1
        exact ⟨u, by rw [h8 j this]; exact h9, h10⟩
      have hspot : l ≠ [] → a = ⟨a.block, a.off, none⟩ := by
        intro hne
        obtain ⟨x, hx⟩ : ∃ x, l[0]? = some x := ⟨l[0]'(List.length_pos_iff.2 hne), by simp [List.length_pos_iff.2 hne]⟩
        obtain ⟨u, h9, _⟩ := hmem 0 x hx 0 ((enc x)[0]'(by rw [hs]; exact hpos)) (by simp [hs, hpos])
        have e1 : (a.add (0 * size)).add 0 = a := by simp [Addr.add]
        rw [e1] at h9
        obtain ⟨b, o, s⟩ := a
        cases s with
        | none => rfl
        | some s => simp only [World.cell?] at h9; split at h9 <;> simp at h9
      have hlm : (l.map enc).length = len := by simp [hll]
      rw [← hlm]
      refine RD.sl (some a) cap size (l.map enc) (fun i j => (w.cell? ⟨a.block, a.off + (i * size + j), none⟩).getD undef) a.block a.off (by omega) hm (fun hne => by rw [hspot (by simpa using hne)]) (fun cs hcs => ?_) (fun i cs j d hi hj => ?_) (fun i cs j d hi hj => ?_)
      · obtain ⟨x, _, rfl⟩ := List.mem_map.1 hcs; exact hs x
      all_goals
        rw [List.getElem?_map, Option.map_eq_some_iff] at hi
        obtain ⟨x, hx, rfl⟩ := hi
        obtain ⟨u, h9, h10⟩ := hmem i x hx j d hj
        have hne : l ≠ [] := fun c => by rw [c] at hx; simp at hx
        have e1 : (a.add (i * size)).add j = ⟨a.block, a.off + (i * size + j), none⟩ := by
          have := hspot hne
          rw [this, Addr.add_lit, Addr.add_lit]
          simp [Nat.add_assoc]
        rw [e1] at h9
      · exact ⟨by simp [h9], id⟩
      · simpa [h9] using h10

/-- the fields of a struct, from one on -/
def OpenF (P : Program) (fs : List Field) (off : Nat) (X : Type) (enc : X → List DV) (wf : X → Prop) : Prop :=
  ∀ (H : Type) (e : TypeId × Value → H) (w : World) (base : Nat) (sp : Nat → Bool) (held : Bool) (fuel : Nat) (cs : List Value),
    (∀ f, f ∈ fs → ∃ x, DataW.trod e P w base sp held fuel f.type ((cs.drop f.offset).take (P.cellsOf f.type)) = some x) → cs.length = off + (fs.map fun f => P.cellsOf f.type).sum →
    ∃ v : X, wf v ∧ F2 (RD (fun _ _ => False) w) (cs.drop off) (enc v)

theorem OpenF.nil {P : Program} {off : Nat} : OpenF P [] off Unit (fun _ => []) (fun _ => True) := by
  intro H e w base sp held fuel cs _ hl
  refine ⟨(), trivial, ?_⟩
  rw [List.drop_of_length_le (by simp at hl; omega)]
  exact .nil

theorem forall2_append {α β : Type} {R : α → β → Prop} {xs xs' : List α} {ys ys' : List β} (h : F2 R xs ys) (h' : F2 R xs' ys') : F2 R (xs ++ xs') (ys ++ ys') := by
  induction h with
  | nil => exact h'
  | cons a b ih => exact .cons a ih

theorem OpenF.cons {P : Program} {f : Field} {fs : List Field} {off size off' : Nat} {A B : Type} {encA : A → List DV} {encB : B → List DV} {wfA : A → Prop} {wfB : B → Prop}
    (ha : Opens P f.type A encA wfA) (hb : OpenF P fs off' B encB wfB) (ho : f.offset = off) (hc : P.cellsOf f.type = size) (ho' : off + size = off') :
    OpenF P (f :: fs) off (A × B) (fun x => encA x.1 ++ encB x.2) (fun x => wfA x.1 ∧ wfB x.2) := by
  subst ho hc ho'
  intro H e w base sp held fuel cs hall hl
  obtain ⟨x, hx⟩ := hall f (by simp)
  obtain ⟨v, h1, h2⟩ := ha H e w base sp held fuel _ x hx
  obtain ⟨u, h3, h4⟩ := hb H e w base sp held fuel cs (fun g hg => hall g (by simp [hg])) (by rw [hl, List.map_cons, List.sum_cons]; omega)
  refine ⟨(v, u), ⟨h1, h3⟩, ?_⟩
  have : cs.drop f.offset = (cs.drop f.offset).take (P.cellsOf f.type) ++ cs.drop (f.offset + P.cellsOf f.type) := by
    rw [← List.drop_drop]; exact (List.take_append_drop _ _).symm
  rw [this]
  exact forall2_append h2 h4

theorem Opens.struct {P : Program} {t : TypeId} {fs : Array Field} {X Y : Type} {encX : X → List DV} {encY : Y → List DV} {wf : X → Prop} (ht : P.underlying t = some (.struct fs)) (h : OpenF P fs.toList 0 X encX wf)
    (hc : P.cellsOf t = (fs.toList.map fun f => P.cellsOf f.type).sum) (g : X → Y) (wfY : Y → Prop) (hg : ∀ x, encY (g x) = encX x) (hw : ∀ x, wf x → wfY (g x)) : Opens P t Y encY wfY := by
  intro H e w base sp held fuel cs x hx
  obtain ⟨xs, n, rfl, _, hlen, hxl, hf⟩ := DataW.trod_struct ht hx
  obtain ⟨v, h1, h2⟩ := h H e w base sp held n cs (fun f hm => by
    obtain ⟨i, hi, rfl⟩ := List.getElem_of_mem hm
    have hi' : i < fs.size := by simpa using hi
    have := hf i fs[i] (by simp [hi'])
    refine ⟨xs[i]'(by omega), ?_⟩
    rw [Array.getElem_toList, this]
    simp [hxl, hi']) (by rw [hlen, hc]; omega)
  exact ⟨g v, hw v h1, by rw [hg]; simpa using h2⟩

theorem F2.sing {α β : Type} {R : α → β → Prop} {x : α} {y : β} (h : F2 R [x] [y]) : R x y := by
  cases h; assumption

section
variable {P : Program} {H : Type} {e : TypeId × Value → H} {w : World} {base b0 : Nat} {r : Reach} {sp : Nat → Bool} {held : Bool} {v : Value} {d : DataW H} {ps : List MemPlace} {t : TypeId}

theorem Opens.argInt {k : IntKind} {X : Type} {dv : X → DV} {wf : X → Prop} (h : Opens P t X (fun x => [dv x]) wf) (ht : P.underlying t = some (.int k))
    (hv : Value.okWide P w r b0 t v) (hd : DataW.Trod e P w base sp held t v d ps) : ∃ x : X, wf x ∧ ArgR P (fun _ _ => False) (fun _ => False) w (.g (.d (dv x))) v := by
  obtain ⟨n, rfl⟩ := okWide_int ht hv
  obtain ⟨fuel, hf⟩ := hd
  obtain ⟨x, h1, h2⟩ := h H e w base sp held fuel _ _ hf
  exact ⟨x, h1, RD.less (fun _ _ c => c.elim id id) (show RD _ _ _ _ from F2.sing h2)⟩
theorem Opens.argString {X : Type} {dv : X → DV} {wf : X → Prop} (h : Opens P t X (fun x => [dv x]) wf) (ht : P.underlying t = some .string)
    (hv : Value.okWide P w r b0 t v) (hd : DataW.Trod e P w base sp held t v d ps) : ∃ x : X, wf x ∧ ArgR P (fun _ _ => False) (fun _ => False) w (.g (.d (dv x))) v := by
  obtain ⟨n, rfl⟩ := okWide_string ht hv
  obtain ⟨fuel, hf⟩ := hd
  obtain ⟨x, h1, h2⟩ := h H e w base sp held fuel _ _ hf
  exact ⟨x, h1, RD.less (fun _ _ c => c.elim id id) (show RD _ _ _ _ from F2.sing h2)⟩
theorem Opens.argBool {X : Type} {dv : X → DV} {wf : X → Prop} (h : Opens P t X (fun x => [dv x]) wf) (ht : P.underlying t = some .bool)
    (hv : Value.okWide P w r b0 t v) (hd : DataW.Trod e P w base sp held t v d ps) : ∃ x : X, wf x ∧ ArgR P (fun _ _ => False) (fun _ => False) w (.g (.d (dv x))) v := by
  obtain ⟨n, rfl⟩ := okWide_bool ht hv
  obtain ⟨fuel, hf⟩ := hd
  obtain ⟨x, h1, h2⟩ := h H e w base sp held fuel _ _ hf
  exact ⟨x, h1, RD.less (fun _ _ c => c.elim id id) (show RD _ _ _ _ from F2.sing h2)⟩
theorem Opens.argSlice {el : Nat} {X : Type} {dv : X → DV} {wf : X → Prop} (h : Opens P t X (fun x => [dv x]) wf) (ht : P.underlying t = some (.slice el))
    (hv : Value.okWide P w r b0 t v) (hd : DataW.Trod e P w base sp held t v d ps) : ∃ x : X, wf x ∧ ArgR P (fun _ _ => False) (fun _ => False) w (.g (.d (dv x))) v := by
  obtain ⟨_, _, _, rfl⟩ := okWide_slice ht hv
  obtain ⟨fuel, hf⟩ := hd
  obtain ⟨x, h1, h2⟩ := h H e w base sp held fuel _ _ hf
  exact ⟨x, h1, RD.less (fun _ _ c => c.elim id id) (show RD _ _ _ _ from F2.sing h2)⟩
theorem Opens.argStruct {fs : Array Field} {X : Type} {enc : X → List DV} {wf : X → Prop} (h : Opens P t X enc wf) (ht : P.underlying t = some (.struct fs))
    (hv : Value.okWide P w r b0 t v) (hd : DataW.Trod e P w base sp held t v d ps) : ∃ x : X, wf x ∧ ArgR P (fun _ _ => False) (fun _ => False) w (.g (.agg (enc x))) v := by
  obtain ⟨us, rfl, _⟩ := okWide_struct ht hv
  obtain ⟨fuel, hf⟩ := hd
  obtain ⟨x, h1, h2⟩ := h H e w base sp held fuel _ _ hf
  have h3 := forall2_get h2
  refine ⟨x, h1, us, rfl, by simpa [Value.cells] using h3.1, fun j d hj => ?_⟩
  obtain ⟨u, h4, h5⟩ := h3.2 j d hj
  exact ⟨u, by simpa [Value.cells] using h4, h5.less (fun _ _ c => c.elim id id)⟩
end

theorem args1 {P : Program} {M : Nat → Nat → Prop} {K : Nat → Prop} {w : World} {g0 : RG} {v0 : Value} (h0 : ArgR P M K w g0 v0) :
    ∀ (i : Nat) (g : RG) (v : Value), [g0][i]? = some g → [v0][i]? = some v → ArgR P M K w g v := by
  intro i g v hg hv
  match i with
  | 0 => simp at hg hv; subst hg hv; exact h0
  | i + 1 => simp at hg
theorem argsC {P : Program} {M : Nat → Nat → Prop} {K : Nat → Prop} {w : World} {g0 : RG} {v0 : Value} {gs : List RG} {vs : List Value} (h0 : ArgR P M K w g0 v0)
    (h : ∀ (i : Nat) (g : RG) (v : Value), gs[i]? = some g → vs[i]? = some v → ArgR P M K w g v) :
    ∀ (i : Nat) (g : RG) (v : Value), (g0 :: gs)[i]? = some g → (v0 :: vs)[i]? = some v → ArgR P M K w g v := by
  intro i g v hg hv
  match i with
  | 0 => simp at hg hv; subst hg hv; exact h0
  | i + 1 => exact h i g v (by simpa using hg) (by simpa using hv)
/-- the closed facts of a row, one by one: each is reckoned by itself, so that none takes the room of all -/
theorem joined_mk {P : Program} {f : FuncId} {fn : Func} {s : ChangeSpec} {c : OpenClaim}
    (k1 : (c.wf (OpenSpec.ofChange s)) = true)
    (k2 : (laidOutB P) = true)
    (k3 : (mapsRowed P) = true)
    (k4 : (fn.params.all (P.readableRec ·)) = true)
    (k5 : (namedTie P c.named s.vars) = true)
    (k6 : ((c.stops == [])) = true)
    (k7 : ((P.stops == [])) = true)
    (k8 : ((c.knobs == [])) = true)
    (k9 : ((P.stopKnobs == [])) = true)
    (k10 : ((c.inPlace == P.inPlace f)) = true)
    (k11 : ((c.unfollowed == P.unfollowed f)) = true)
    (k12 : ((c.recurses == P.recurses f)) = true)
    (k13 : ((c.named == P.varsNamed f)) = true)
    (k14 : ((c.maps == (fn.params.toList ++ s.plain.varTypes P).any (P.mapsRec ·))) = true)
    (k15 : ((c.ifaces == (fn.params.toList ++ s.plain.varTypes P).any (P.ifacesRec ·))) = true)
    (k16 : ((c.mapsOut == P.mapsAmong fn.resultTypes.toList)) = true)
    (k17 : ((c.loops == (fn.params.toList ++ s.plain.varTypes P).any (P.loopsFrom ·))) = true)
    (k18 : ((c.wideKeys == (fn.params.toList ++ s.plain.varTypes P ++ fn.resultTypes.toList).any (P.wideKeysFrom ·))) = true)
    (k19 : (s.vars.all (P.varReadable ·)) = true)
    (k20 : (fn.resultTypes.all (fun t => P.readableRec t && decide (t < P.types.size))) = true)
    (k21 : ((c.ifacesOut == fn.resultTypes.toList.any (P.ifacesRec ·))) = true)
    (k22 : ((c.loopsOut == fn.resultTypes.toList.any (P.loopsFrom ·))) = true)
    (k23 : ((c.plainKeys == P.plainKeys)) = true)
    (k24 : (c.shortTexts.isNone) = true)
    (k25 : (P.stopsHeard) = true)
    (k26 : (P.mayEnter) = true)
    (k27 : ((c.lifted == P.liftsFinal)) = true)
    (k28 : ((P.make == some c.make)) = true)
    (k29 : ((c.kinds == (if c.domain.isEmpty then [] else fn.params.toList.map fun t => match P.underlying t with | some (.int k) => some k | _ => none))) = true)
    (k30 : ((c.pinned == c.pinnedBy)) = true)
    (k31 : ((c.veiled == (fn.params.toList ++ s.plain.varTypes P ++ fn.resultTypes.toList).any (P.veiledRec ·))) = true)
    (k32 : (c.veiledFits P fn.params.toList (fn.params.toList ++ s.plain.varTypes P ++ fn.resultTypes.toList)) = true) : joinedFacts P f fn s c = true := by
  simp only [joinedFacts, Bool.and_eq_true]
  exact ⟨⟨⟨⟨⟨⟨⟨⟨⟨⟨⟨⟨⟨⟨⟨⟨⟨⟨⟨⟨⟨⟨⟨⟨⟨⟨⟨⟨⟨⟨⟨k1, k2⟩, k3⟩, k4⟩, k5⟩, k6⟩, k7⟩, k8⟩, k9⟩, k10⟩, k11⟩, k12⟩, k13⟩, k14⟩, k15⟩, k16⟩, k17⟩, k18⟩, k19⟩, k20⟩, k21⟩, k22⟩, k23⟩, k24⟩, k25⟩, k26⟩, k27⟩, k28⟩, k29⟩, k30⟩, k31⟩, k32⟩
end Go.Ab
