import Derived.Test.YtfhlilpkgodilaaGreatDoorWWordsWrites3
import Derived.Test.YtfhlilpkgodilaaGreatDoorAbB
import Derived.SizedLaws
import Derived.Test.YtfhlilpkgodilaaGreatDoorLWordsWrites
import Derived.Test.YtfhlilpkgodilaaGreatDoorCards
import Derived.Test.YtfhlilpkgodilaaGreatDoorTie
import Derived.HandedShaped
import Derived.PinnedBridge
import Derived.Lib.LaidU8T
import Derived.Lay
import Derived.LaidOnce
import Derived.SevenTiedAt
/- WordsWrites: whatever the input, the law answers true, and its input reads as it did. Conditions: none. -/
set_option maxRecDepth 20000
namespace Go.Proofs.YtfhlilpkgodilaaGreatDoor.WordsWrites
open Go Go.Ab Go.Ark Go.RowKit Go.ChangeShapes Go.WideShapes Go.ChangeAt Go.Shelf Go.Lib

theorem own : ownKnob Tryz.prog.godebug = none := by kernel_rfl
theorem laidOut : laidOutB Tryz.prog = true := by kernel_rfl
theorem open_Api_Range : Opens Tryz.prog 39 Api_Range encApi_Range wfApi_Range :=
  Opens.struct Tryz.underlying39 (OpenF.cons (size := 1) (Opens.string Tryz.underlying9) (OpenF.cons (size := 1) (Opens.string Tryz.underlying9) OpenF.nil rfl (by kernel_rfl) rfl) rfl (by kernel_rfl) rfl) (by kernel_rfl) (fun x => Api_Range.mk x.1 x.2.1) _ (fun _ => rfl) (fun x h => ⟨h.1, h.2.1⟩)
theorem open_Api_Row : Opens Tryz.prog 28 Api_Row encApi_Row wfApi_Row :=
  Opens.struct Tryz.underlying28 (OpenF.cons (size := 1) (Opens.slice (size := 2) Tryz.underlying25 open_Api_Range (by kernel_rfl) (fun _ => rfl) rfl (by kernel_rfl)) (OpenF.cons (size := 1) (Opens.slice (size := 1) Tryz.underlying26 (Opens.int Tryz.underlying3) (by kernel_rfl) (fun _ => rfl) rfl (by kernel_rfl)) (OpenF.cons (size := 1) (Opens.slice (size := 1) Tryz.underlying26 (Opens.int Tryz.underlying3) (by kernel_rfl) (fun _ => rfl) rfl (by kernel_rfl)) OpenF.nil rfl (by kernel_rfl) rfl) rfl (by kernel_rfl) rfl) rfl (by kernel_rfl) rfl) (by kernel_rfl) (fun x => Api_Row.mk x.1 x.2.1 x.2.2.1) _ (fun _ => rfl) (fun x h => ⟨h.1, h.2.1, h.2.2.1⟩)
theorem open_Api_Op : Opens Tryz.prog 30 Api_Op encApi_Op wfApi_Op :=
  Opens.struct Tryz.underlying30 (OpenF.cons (size := 1) (Opens.int Tryz.underlying3) (OpenF.cons (size := 1) (Opens.int Tryz.underlying3) (OpenF.cons (size := 1) (Opens.int Tryz.underlying3) (OpenF.cons (size := 1) (Opens.int Tryz.underlying3) (OpenF.cons (size := 1) (Opens.int Tryz.underlying3) (OpenF.cons (size := 1) (Opens.int Tryz.underlying3) (OpenF.cons (size := 1) (Opens.string Tryz.underlying9) (OpenF.cons (size := 1) (Opens.string Tryz.underlying9) (OpenF.cons (size := 1) (Opens.slice (size := 1) Tryz.underlying24 (Opens.string Tryz.underlying9) (by kernel_rfl) (fun _ => rfl) rfl (by kernel_rfl)) (OpenF.cons (size := 3) open_Api_Row OpenF.nil rfl (by kernel_rfl) rfl) rfl (by kernel_rfl) rfl) rfl (by kernel_rfl) rfl) rfl (by kernel_rfl) rfl) rfl (by kernel_rfl) rfl) rfl (by kernel_rfl) rfl) rfl (by kernel_rfl) rfl) rfl (by kernel_rfl) rfl) rfl (by kernel_rfl) rfl) rfl (by kernel_rfl) rfl) (by kernel_rfl) (fun x => Api_Op.mk x.1 x.2.1 x.2.2.1 x.2.2.2.1 x.2.2.2.2.1 x.2.2.2.2.2.1 x.2.2.2.2.2.2.1 x.2.2.2.2.2.2.2.1 x.2.2.2.2.2.2.2.2.1 x.2.2.2.2.2.2.2.2.2.1) _ (fun _ => rfl) (fun x h => ⟨h.1, h.2.1, h.2.2.1, h.2.2.2.1, h.2.2.2.2.1, h.2.2.2.2.2.1, h.2.2.2.2.2.2.1, h.2.2.2.2.2.2.2.1, h.2.2.2.2.2.2.2.2.1, h.2.2.2.2.2.2.2.2.2.1⟩)
theorem contract (H : Type) (enc : TypeId × Value → H) (W : World) (base : Nat) (args : Array Value) (ds gs : List (DataW H)) (before : List MemPlace)
    (hval : ∀ (j : Nat) t v, Tryz.f3.params[j]? = some t → args[j]? = some v → Value.okWide Tryz.prog W .any base t v)
    (hW : DataW.Whole enc Tryz.prog Tryz.f3.params.toList Rows.wordsWritesSpec.vars false W args.toList ds gs before)
    (hG : Γ0 W)
    (hz : (DataW.weightsEach Tryz.prog (Tryz.f3.params.toList ++ Rows.wordsWritesSpec.plain.varTypes Tryz.prog) (ds ++ gs)).all (· ≤ reachBytes) = true) :
    Calls Tryz.prog 3 args W fun e W' => ∃ v, e = .returned v ∧ Rows.wordsWritesSpec.post enc Tryz.prog Tryz.f3 false true false false W args v W' := by
  have hW' := hW
  obtain ⟨p, q, hA0, hV, rfl, hfz, hnd⟩ := hW
  have hA : DataW.TrodAll enc Tryz.prog W 0 (fun _ => true) true Tryz.f3.params.toList args.toList ds p := hA0
  rw [Tryz.params3] at hA hval hz
  obtain ⟨v0, vs0, d0, ds0, p0, q0, hargs, rfl, rfl, h0, r0⟩ := trodAll_cons hA
  obtain ⟨rfl, rfl, rfl⟩ := trodAll_nil r0
  obtain rfl : args = #[v0] := by cases args; simp_all
  obtain ⟨rfl, rfl⟩ := trodVars_none hV
  clear hA0
  obtain ⟨x0, w0, a0⟩ := (Opens.slice (size := 12) Tryz.underlying22 open_Api_Op (by kernel_rfl) (fun _ => rfl) rfl (by kernel_rfl)).argSlice Tryz.underlying22 (hval 0 _ v0 rfl rfl) h0 (weightsEach_get hz 0 _ _ rfl rfl)
  have hc := (ct_law24_WordsWrites x0 true (law24_WordsWrites_plain x0 w0)).go (fun _ _ => False) W [v0] hG (fun _ _ h => h.elim) rfl (args1 a0)
  refine hc.mono fun e W' ⟨v, he, hk, hr⟩ => ?_
  have hb := hk.toBelow
  have hlt := hW'.lt
  subst he
  refine ⟨_, rfl, ⟨_, _, _, [], p0 ++ [], [], hW', ?_, ?_, rfl, hb.frame _, fun h => by cases h⟩⟩
  · rw [RD.v_inv hr]
    exact trodAll_cons_mk (shut_bool Tryz.underlying4 _) trodAll_mk0
  · exact trodAll_cons_mk (Below.trod laidOut (by kernel_rfl) (of_decide_eq_true (by kernel_rfl)) h0 hb (fun x hx => hlt x (by simp [hx])))
      trodAll_mk0

/-- the premise of a row with laid variables, and the world's shape, for a contract -/
theorem handed_both {H : Type} {enc : TypeId × Value → H} {a : Assume} {C : Checked} {os : Os} {f : FuncId} {fn : Func} {s : ChangeSpec} {conds : List PathCond} {apart fresh handsOn again : Bool} {X : World → Array Value → Prop}
    (hX : ∀ (w w' : World) (args : Array Value), w.heap = w'.heap → X w args → X w' args)
    (own : ownKnob C.prog.godebug = none) (started : os.Started) (noInit : C.prog.inits.idxOf? f = none) (hfn : C.prog.funcs[f]? = some fn)
    (witness : ∃ (w : World) (tape : Tape) (i : Input), w.os = os ∧ (w.forCall tape i).Shaped C.prog ∧ i.vars = [] ∧ Input.okWide C.prog (w.forCall tape i) .any w.heap.size f i ∧
      ((s.pre enc C.prog fn conds apart (w.forCall tape i).memory i.args ∧ X (w.forCall tape i).memory i.args) ∧ sizedMet enc C.prog fn (OpenSpec.ofChange s) apart (w.forCall tape i).memory i.args) ∧ a.holds C.prog (lone (Frame.enter C.prog f i.args .normal) [] (w.forCall tape i)))
    (contract : ∀ (W : World) (base : Nat) (args : Array Value) (ds gs : List (DataW H)) (before : List MemPlace),
      (∀ (j : Nat) t v, fn.params[j]? = some t → args[j]? = some v → Value.okWide C.prog W .any base t v) →
      DataW.Whole enc C.prog fn.params.toList s.vars apart W args.toList ds gs before →
      (DataW.weightsEach C.prog (fn.params.toList ++ s.plain.varTypes C.prog) (ds ++ gs)).all (· ≤ reachBytes) = true → X W args → W.ShapedOpen C.prog →
      Calls C.prog f args W fun e W' => ∃ v, e = .returned v ∧ s.post enc C.prog fn apart fresh handsOn again W args v W') :
    ReturnsInHanded a C os f .any (fun w args => (s.pre enc C.prog fn conds apart w args ∧ X w args) ∧ sizedMet enc C.prog fn (OpenSpec.ofChange s) apart w args) (s.post enc C.prog fn apart fresh handsOn again) := by
  refine returnsInHanded_of_calls own started noInit witness ?_
  intro w tape i _ hsh _ hok hpre _
  obtain ⟨_, _, _, fn', hfn', _, _, _, _, hval⟩ := hok
  obtain rfl : fn' = fn := Option.some.inj (hfn'.symm.trans hfn)
  obtain ⟨⟨⟨ds, gs, before, hw, _⟩, hx⟩, hz⟩ := hpre
  have hw1 := DataW.Whole.of_heap (w' := w.forCall tape i) (by rfl) hw
  refine (contract (w.forCall tape i) w.heap.size i.args ds gs before hval hw1 (hz.weights hw) (hX _ _ _ (by rfl) hx) hsh).mono fun e W1 ⟨v, he, hp⟩ => ?_
  subst he
  exact ChangeSpec.post_blind hp

set_option maxRecDepth 100000 in
theorem premise (W : World) (hL0 : laidMetH Tryz.prog Rows.wordsWritesRow.laid W) (hs : W.ShapedOpen Tryz.prog) : Γ0 W := by
  rw [MakeChecks.laidMetH_plain _ _ _ (by kernel_rfl)] at hL0
  have hU : Lib.Utf8Tabs 0 1 W :=
    utf8Tabs_of_readsT (ρ := Tryz.lays196_ren) { Tryz.lays196 with } ⟨by kernel_rfl, by kernel_rfl, by kernel_rfl, by kernel_rfl, by kernel_rfl, by kernel_rfl, by kernel_rfl⟩
      (Pinned.utf8First_eq ▸ Lib.laidMet.reads hL0 (.tail _ (.head _))) (show Lib.VarReads Tryz.prog W "unicode/utf8.acceptRanges" Lib.acceptData from (show Rows.laid_unicode_utf8_acceptRanges = Lib.acceptData by kernel_rfl) ▸ Lib.laidMet.reads hL0 (.head _))
  exact ⟨Tryz.lays146.s1_3 W hs, hU⟩

set_option maxRecDepth 100000 in
theorem lifted (os : Os) (started : os.Started) (H : Type) (enc : TypeId × Value → H) :
    ReturnsInHanded {} Tryz.checked os 3 .any (fun w args => (Rows.wordsWritesSpec.pre enc Tryz.prog Tryz.f3 [] false w args ∧ laidMetH Tryz.prog Rows.wordsWritesRow.laid w) ∧ sizedMet enc Tryz.prog Tryz.f3 (OpenSpec.ofChange Rows.wordsWritesSpec) false w args) (Rows.wordsWritesSpec.post enc Tryz.prog Tryz.f3 false true false false) := by
  refine handed_both (C := Tryz.checked) (X := fun w _ => laidMetH Tryz.prog Rows.wordsWritesRow.laid w) (fun _ _ _ hh h => h.of_heap hh) own started (by kernel_rfl) Tryz.func3
    (ChangeSpec.witness_shaped (enc := enc) (C := Tryz.checked) (os := os) (X := fun w _ => laidMetH Tryz.prog Rows.wordsWritesRow.laid w) false (World.laidAll Tryz.prog os Rows.wordsWritesRow.laid) #[.slice none 0 0] 8 (World.laidAll_os _ _ _)
      (World.shaped_of_ZipB (by kernel_rfl) (by kernel_rfl)) (by kernel_rfl) (by kernel_rfl) (by kernel_rfl)
      (by rw [MakeChecks.laidMetH_plain _ _ _ (by kernel_rfl)]; exact laidMet_laidAll _ (by kernel_rfl) (by kernel_rfl))) ?_
  intro W base args ds gs before hval hW hz hL hs
  exact contract H enc W base args ds gs before hval hW (premise W hL hs) hz

theorem k1 : (Rows.wordsWritesRow.wf (OpenSpec.ofChange Rows.wordsWritesSpec)) = true := by kernel_rfl
theorem k2 : (laidOutB Tryz.prog) = true := by kernel_rfl
theorem k3 : (mapsRowed Tryz.prog) = true := by kernel_rfl
theorem k4 : (Tryz.f3.params.all (Tryz.prog.readableRec ·)) = true := by kernel_rfl
theorem k5 : (namedTie Tryz.prog Rows.wordsWritesRow.named Rows.wordsWritesSpec.vars) = true := by kernel_rfl
theorem k6 : ((Rows.wordsWritesRow.stops == [])) = true := by kernel_rfl
theorem k7 : ((Tryz.prog.stops == [])) = true := by kernel_rfl
theorem k8 : ((Rows.wordsWritesRow.knobs == [])) = true := by kernel_rfl
theorem k9 : ((Tryz.prog.stopKnobs == [])) = true := by kernel_rfl
theorem k10 : ((Rows.wordsWritesRow.inPlace == Tryz.prog.inPlace 3)) = true := by kernel_rfl
theorem k11 : ((Rows.wordsWritesRow.unfollowed == Tryz.prog.unfollowed 3)) = true := by kernel_rfl
theorem k12 : ((Rows.wordsWritesRow.recurses == Tryz.prog.recurses 3)) = true := by kernel_rfl
theorem k13 : ((Rows.wordsWritesRow.named == Tryz.prog.varsNamed 3)) = true := by kernel_rfl
theorem k14 : ((Rows.wordsWritesRow.maps == (Tryz.f3.params.toList ++ Rows.wordsWritesSpec.plain.varTypes Tryz.prog).any (Tryz.prog.mapsRec ·))) = true := by kernel_rfl
theorem k15 : ((Rows.wordsWritesRow.ifaces == (Tryz.f3.params.toList ++ Rows.wordsWritesSpec.plain.varTypes Tryz.prog).any (Tryz.prog.ifacesRec ·))) = true := by kernel_rfl
theorem k16 : ((Rows.wordsWritesRow.mapsOut == Tryz.prog.mapsAmong Tryz.f3.resultTypes.toList)) = true := by kernel_rfl
theorem k17 : ((Rows.wordsWritesRow.loops == (Tryz.f3.params.toList ++ Rows.wordsWritesSpec.plain.varTypes Tryz.prog).any (Tryz.prog.loopsFrom ·))) = true := by kernel_rfl
theorem k18 : ((Rows.wordsWritesRow.wideKeys == (Tryz.f3.params.toList ++ Rows.wordsWritesSpec.plain.varTypes Tryz.prog ++ Tryz.f3.resultTypes.toList).any (Tryz.prog.wideKeysFrom ·))) = true := by kernel_rfl
theorem k19 : (Rows.wordsWritesSpec.vars.all (Tryz.prog.varReadable ·)) = true := by kernel_rfl
theorem k20 : (Tryz.f3.resultTypes.all (fun t => Tryz.prog.readableRec t && decide (t < Tryz.prog.types.size))) = true := by kernel_rfl
theorem k21 : ((Rows.wordsWritesRow.ifacesOut == Tryz.f3.resultTypes.toList.any (Tryz.prog.ifacesRec ·))) = true := by kernel_rfl
theorem k22 : ((Rows.wordsWritesRow.loopsOut == Tryz.f3.resultTypes.toList.any (Tryz.prog.loopsFrom ·))) = true := by kernel_rfl
theorem k23 : ((Rows.wordsWritesRow.plainKeys == Tryz.prog.plainKeys)) = true := by kernel_rfl
theorem k24 : (Rows.wordsWritesRow.shortTexts.isNone) = true := by kernel_rfl
theorem k25 : (Tryz.prog.stopsHeard) = true := by kernel_rfl
theorem k26 : (Tryz.prog.mayEnter) = true := by kernel_rfl
theorem k27 : ((Rows.wordsWritesRow.lifted == Tryz.prog.liftsFinal)) = true := by kernel_rfl
theorem k28 : ((Tryz.prog.make == some Rows.wordsWritesRow.make)) = true := by kernel_rfl
theorem k29 : ((Rows.wordsWritesRow.kinds == (if Rows.wordsWritesRow.domain.isEmpty then [] else Tryz.f3.params.toList.map fun t => match Tryz.prog.underlying t with | some (.int k) => some k | _ => none))) = true := by kernel_rfl
theorem k30 : ((Rows.wordsWritesRow.pinned == Rows.wordsWritesRow.pinnedBy)) = true := by kernel_rfl
theorem k31 : ((Rows.wordsWritesRow.veiled == (Tryz.f3.params.toList ++ Rows.wordsWritesSpec.plain.varTypes Tryz.prog ++ Tryz.f3.resultTypes.toList).any (Tryz.prog.veiledRec ·))) = true := by kernel_rfl
theorem k32 : (Rows.wordsWritesRow.veiledFits Tryz.prog Tryz.f3.params.toList (Tryz.f3.params.toList ++ Rows.wordsWritesSpec.plain.varTypes Tryz.prog ++ Tryz.f3.resultTypes.toList)) = true := by kernel_rfl
theorem closed : joinedFacts Tryz.prog 3 Tryz.f3 Rows.wordsWritesSpec Rows.wordsWritesRow = true :=
  joined_mk k1 k2 k3 k4 k5 k6 k7 k8 k9 k10 k11 k12 k13 k14 k15 k16 k17 k18 k19 k20 k21 k22 k23 k24 k25 k26 k27 k28 k29 k30 k31 k32
theorem named : Tryz.prog.funcNamed Rows.wordsWritesRow.func = some 3 := by kernel_rfl
theorem bare : Rows.WordsWritesSaid :=
  OpenClaim.holds_of_wide 3 Tryz.f3 rfl rfl rfl rfl rfl rfl rfl ⟨rfl, rfl, rfl, rfl, rfl⟩ rfl rfl rfl rfl rfl named Tryz.func3 closed
    (of_decide_eq_true (by kernel_rfl)) (by unfold Func.isWrapper; rw [if_neg (by decide +kernel)]; exact ⟨rfl, rfl⟩)
    (fun os started H enc _ => lifted os started H enc)
theorem proved : Rows.WordsWritesCardSaid :=
  Claim7.holds_tied_plain_at .later [] [.data, .pinned] true (true, "db6e2f229910b06fcb432624469e83657a8733c723e0a161416a603d9f800617") false bare (fun _ h => by cases h) (by kernel_rfl) (fun _ h => by cases h) wordsWrites_row_tie rfl ⟨rfl, rfl⟩ (by kernel_rfl) rfl
    (fun f fn hf hfn => by
      obtain rfl : f = 3 := Option.some.inj ((show Tryz.prog.funcNamed "archipelago/archipelagolaw24.WordsWrites" = some 3 by kernel_rfl).symm.trans hf) |>.symm
      obtain rfl : fn = Tryz.f3 := (Option.some.inj (Tryz.func3.symm.trans hfn)).symm
      exact ⟨by kernel_rfl, fun j t ht => by
        rw [Tryz.params3] at ht
        have hm : t ∈ (#[22] : Array TypeId) := Array.mem_of_getElem? ht
        have hm1 : t ∈ [22] := by simpa using hm
        have hall : ([22].all fun u => !Tryz.prog.wantsStandIn u) = true := by kernel_rfl
        exact (show Tryz.prog.wantsStandIn t = false by simpa using List.all_eq_true.1 hall t hm1)⟩)
    (by kernel_rfl)
end Go.Proofs.YtfhlilpkgodilaaGreatDoor.WordsWrites
