/- WordsRows: whatever the input, the law answers true, and its input reads as it did. Conditions: none. -/
import Derived.Test.YtfhlilpkgodilaaDoorWWordsRows3
import Derived.Test.YtfhlilpkgodilaaDoorAbB
import Derived.SizedLaws
import Derived.Test.YtfhlilpkgodilaaDoorLWordsRows
import Derived.Test.YtfhlilpkgodilaaDoorCards
import Derived.Test.YtfhlilpkgodilaaDoorTie
import Derived.HandedShaped
import Derived.PinnedBridge
import Derived.Lib.LaidU8T
import Derived.Lay
import Derived.LaidOnce
import Derived.SevenTiedAt
set_option maxRecDepth 20000
namespace Go.Proofs.YtfhlilpkgodilaaDoor.WordsRows
open Go Go.Ab Go.Ark Go.RowKit Go.ChangeShapes Go.WideShapes Go.ChangeAt Go.Shelf Go.Lib

theorem own : ownKnob Tryd.prog.godebug = none := by kernel_rfl
theorem laidOut : laidOutB Tryd.prog = true := by kernel_rfl
theorem contract (H : Type) (enc : TypeId × Value → H) (W : World) (base : Nat) (args : Array Value) (ds gs : List (DataW H)) (before : List MemPlace)
    (hval : ∀ (j : Nat) t v, Tryd.f6.params[j]? = some t → args[j]? = some v → Value.okWide Tryd.prog W .any base t v)
    (hW : DataW.Whole enc Tryd.prog Tryd.f6.params.toList Rows.wordsRowsSpec.vars false W args.toList ds gs before)
    (hG : Γ0 W)
    (hz : (DataW.weightsEach Tryd.prog (Tryd.f6.params.toList ++ Rows.wordsRowsSpec.plain.varTypes Tryd.prog) (ds ++ gs)).all (· ≤ reachBytes) = true) :
    Calls Tryd.prog 6 args W fun e W' => ∃ v, e = .returned v ∧ Rows.wordsRowsSpec.post enc Tryd.prog Tryd.f6 false true false false W args v W' := by
  have hW' := hW
  obtain ⟨p, q, hA0, hV, rfl, hfz, hnd⟩ := hW
  have hA : DataW.TrodAll enc Tryd.prog W 0 (fun _ => true) true Tryd.f6.params.toList args.toList ds p := hA0
  rw [Tryd.params6] at hA hval hz
  obtain ⟨v0, vs0, d0, ds0, p0, q0, hargs, rfl, rfl, h0, r0⟩ := trodAll_cons hA
  obtain ⟨v1, vs1, d1, ds1, p1, q1, rfl, rfl, rfl, h1, r1⟩ := trodAll_cons r0
  obtain ⟨v2, vs2, d2, ds2, p2, q2, rfl, rfl, rfl, h2, r2⟩ := trodAll_cons r1
  obtain ⟨rfl, rfl, rfl⟩ := trodAll_nil r2
  obtain rfl : args = #[v0, v1, v2] := by cases args; simp_all
  obtain ⟨rfl, rfl⟩ := trodVars_none hV
  clear hA0
  obtain ⟨x0, w0, a0⟩ := (Opens.slice (size := 1) Tryd.underlying26 (Opens.int Tryd.underlying3) (by kernel_rfl) (fun _ => rfl) rfl (by kernel_rfl)).argSlice Tryd.underlying26 (hval 0 _ v0 rfl rfl) h0 (weightsEach_get hz 0 _ _ rfl rfl)
  obtain ⟨x1, w1, a1⟩ := (Opens.slice (size := 1) Tryd.underlying26 (Opens.int Tryd.underlying3) (by kernel_rfl) (fun _ => rfl) rfl (by kernel_rfl)).argSlice Tryd.underlying26 (hval 1 _ v1 rfl rfl) h1 (weightsEach_get hz 1 _ _ rfl rfl)
  obtain ⟨x2, w2, a2⟩ := (Opens.int Tryd.underlying3).argInt Tryd.underlying3 (hval 2 _ v2 rfl rfl) h2 (weightsEach_get hz 2 _ _ rfl rfl)
  have hc := (ct_law24_WordsRows x0 x1 x2 true (law24_WordsRows_plain x0 x1 x2 w0 w1 w2)).go (fun _ _ => False) W [v0, v1, v2] hG (fun _ _ h => h.elim) rfl (argsC a0 (argsC a1 (args1 a2)))
  refine hc.mono fun e W' ⟨v, he, hk, hr⟩ => ?_
  have hb := hk.toBelow
  have hlt := hW'.lt
  subst he
  refine ⟨_, rfl, ⟨_, _, _, [], p0 ++ (p1 ++ (p2 ++ [])), [], hW', ?_, ?_, rfl, hb.frame _, fun h => by cases h⟩⟩
  · rw [RD.v_inv hr]
    exact trodAll_cons_mk (shut_bool Tryd.underlying4 _) trodAll_mk0
  · exact trodAll_cons_mk (Below.trod laidOut (by kernel_rfl) (of_decide_eq_true (by kernel_rfl)) h0 hb (fun x hx => hlt x (by simp [hx])))
      (trodAll_cons_mk (Below.trod laidOut (by kernel_rfl) (of_decide_eq_true (by kernel_rfl)) h1 hb (fun x hx => hlt x (by simp [hx])))
      (trodAll_cons_mk (Below.trod laidOut (by kernel_rfl) (of_decide_eq_true (by kernel_rfl)) h2 hb (fun x hx => hlt x (by simp [hx])))
      trodAll_mk0))

/-- the premise of a row with laid variables, and the world's shape, for a contract -/
theorem handed_both {H : Type} {enc : TypeId × Value → H} {a : Assume} {C : Checked} {os : Os} {f : FuncId} {fn : Func} {s : ChangeSpec} {conds : List PathCond} {apart fresh handsOn again : Bool} {X : World → Array Value → Prop}
    (hX : ∀ (w w' : World) (args : Array Value), w.heap = w'.heap → X w args → X w' args)
    (own : ownKnob C.prog.godebug = none) (started : os.Started) (noInit : C.prog.inits.idxOf? f = none) (hfn : C.prog.funcs[f]? = some fn)
    (witness : ∃ (w : World) (tape : Tape) (i : Input), w.os = os ∧ (w.forCall tape i).Shaped C.prog ∧ i.vars = [] ∧ Input.okWide C.prog (w.forCall tape i) .any w.heap.size f i ∧
      ((s.pre enc C.prog fn conds apart (w.forCall tape i).memory i.args ∧ X (w.forCall tape i).memory i.args) ∧ sizedMet enc C.prog fn (OpenSpec.ofChange s) apart (w.forCall tape i).memory i.args) ∧ a.holds C.prog (lone (Frame.enter C.prog f i.args .normal) [] (w.forCall tape i)))
    (contract : ∀ (W : World) (base : Nat) (args : Array Value) (ds gs : List (DataW H)) (before : List MemPlace),
      (∀ (j : Nat) t v, fn.params[j]? = some t → args[j]? = some v → Value.okWide C.prog W .any base t v) →
      DataW.Whole enc C.prog fn.params.toList s.vars apart W args.toList ds gs before →
      (DataW.weightsEach C.prog (fn.params.toList ++ s.plain.varTypes C.prog) (ds ++ gs)).all (· ≤ reachBytes) = true → X W args → W.ShapedOpen C.prog →
      Calls C.prog f args W fun e W' => ∃ v, e = .returned v ∧ s.post enc C.prog fn apart fresh handsOn again W args v W') :
    ReturnsInHanded a C os f .any (fun w args => (s.pre enc C.prog fn conds apart w args ∧ X w args) ∧ sizedMet enc C.prog fn (OpenSpec.ofChange s) apart w args) (s.post enc C.prog fn apart fresh handsOn again) := by
  refine returnsInHanded_of_calls own started noInit witness ?_
  intro w tape i _ hsh _ hok hpre _
  obtain ⟨_, _, _, fn', hfn', _, _, _, _, hval⟩ := hok
  obtain rfl : fn' = fn := Option.some.inj (hfn'.symm.trans hfn)
  obtain ⟨⟨⟨ds, gs, before, hw, _⟩, hx⟩, hz⟩ := hpre
  have hw1 := DataW.Whole.of_heap (w' := w.forCall tape i) (by rfl) hw
  refine (contract (w.forCall tape i) w.heap.size i.args ds gs before hval hw1 (hz.weights hw) (hX _ _ _ (by rfl) hx) hsh).mono fun e W1 ⟨v, he, hp⟩ => ?_
  subst he
  exact ChangeSpec.post_blind hp

set_option maxRecDepth 100000 in
theorem premise (W : World) (hL0 : laidMetH Tryd.prog Rows.wordsRowsRow.laid W) (hs : W.ShapedOpen Tryd.prog) : Γ0 W := by
  rw [MakeChecks.laidMetH_plain _ _ _ (by kernel_rfl)] at hL0
  have hU : Lib.Utf8Tabs 0 1 W :=
    utf8Tabs_of_readsT (ρ := Tryd.lays196_ren) { Tryd.lays196 with } ⟨by kernel_rfl, by kernel_rfl, by kernel_rfl, by kernel_rfl, by kernel_rfl, by kernel_rfl, by kernel_rfl⟩
      (Pinned.utf8First_eq ▸ Lib.laidMet.reads hL0 (.tail _ (.head _))) (show Lib.VarReads Tryd.prog W "unicode/utf8.acceptRanges" Lib.acceptData from (show Rows.laid_unicode_utf8_acceptRanges = Lib.acceptData by kernel_rfl) ▸ Lib.laidMet.reads hL0 (.head _))
  exact ⟨Tryd.lays146.s1_3 W hs, hU⟩

set_option maxRecDepth 100000 in
theorem lifted (os : Os) (started : os.Started) (H : Type) (enc : TypeId × Value → H) :
    ReturnsInHanded {} Tryd.checked os 6 .any (fun w args => (Rows.wordsRowsSpec.pre enc Tryd.prog Tryd.f6 [] false w args ∧ laidMetH Tryd.prog Rows.wordsRowsRow.laid w) ∧ sizedMet enc Tryd.prog Tryd.f6 (OpenSpec.ofChange Rows.wordsRowsSpec) false w args) (Rows.wordsRowsSpec.post enc Tryd.prog Tryd.f6 false true false false) := by
  refine handed_both (C := Tryd.checked) (X := fun w _ => laidMetH Tryd.prog Rows.wordsRowsRow.laid w) (fun _ _ _ hh h => h.of_heap hh) own started (by kernel_rfl) Tryd.func6
    (ChangeSpec.witness_shaped (enc := enc) (C := Tryd.checked) (os := os) (X := fun w _ => laidMetH Tryd.prog Rows.wordsRowsRow.laid w) false (World.laidAll Tryd.prog os Rows.wordsRowsRow.laid) #[.slice none 0 0, .slice none 0 0, .int .i64 0] 8 (World.laidAll_os _ _ _)
      (World.shaped_of_ZipB (by kernel_rfl) (by kernel_rfl)) (by kernel_rfl) (by kernel_rfl) (by kernel_rfl)
      (by rw [MakeChecks.laidMetH_plain _ _ _ (by kernel_rfl)]; exact laidMet_laidAll _ (by kernel_rfl) (by kernel_rfl))) ?_
  intro W base args ds gs before hval hW hz hL hs
  exact contract H enc W base args ds gs before hval hW (premise W hL hs) hz

theorem k1 : (Rows.wordsRowsRow.wf (OpenSpec.ofChange Rows.wordsRowsSpec)) = true := by kernel_rfl
theorem k2 : (laidOutB Tryd.prog) = true := by kernel_rfl
theorem k3 : (mapsRowed Tryd.prog) = true := by kernel_rfl
theorem k4 : (Tryd.f6.params.all (Tryd.prog.readableRec ·)) = true := by kernel_rfl
theorem k5 : (namedTie Tryd.prog Rows.wordsRowsRow.named Rows.wordsRowsSpec.vars) = true := by kernel_rfl
theorem k6 : ((Rows.wordsRowsRow.stops == [])) = true := by kernel_rfl
theorem k7 : ((Tryd.prog.stops == [])) = true := by kernel_rfl
theorem k8 : ((Rows.wordsRowsRow.knobs == [])) = true := by kernel_rfl
theorem k9 : ((Tryd.prog.stopKnobs == [])) = true := by kernel_rfl
theorem k10 : ((Rows.wordsRowsRow.inPlace == Tryd.prog.inPlace 6)) = true := by kernel_rfl
theorem k11 : ((Rows.wordsRowsRow.unfollowed == Tryd.prog.unfollowed 6)) = true := by kernel_rfl
theorem k12 : ((Rows.wordsRowsRow.recurses == Tryd.prog.recurses 6)) = true := by kernel_rfl
theorem k13 : ((Rows.wordsRowsRow.named == Tryd.prog.varsNamed 6)) = true := by kernel_rfl
theorem k14 : ((Rows.wordsRowsRow.maps == (Tryd.f6.params.toList ++ Rows.wordsRowsSpec.plain.varTypes Tryd.prog).any (Tryd.prog.mapsRec ·))) = true := by kernel_rfl
theorem k15 : ((Rows.wordsRowsRow.ifaces == (Tryd.f6.params.toList ++ Rows.wordsRowsSpec.plain.varTypes Tryd.prog).any (Tryd.prog.ifacesRec ·))) = true := by kernel_rfl
theorem k16 : ((Rows.wordsRowsRow.mapsOut == Tryd.prog.mapsAmong Tryd.f6.resultTypes.toList)) = true := by kernel_rfl
theorem k17 : ((Rows.wordsRowsRow.loops == (Tryd.f6.params.toList ++ Rows.wordsRowsSpec.plain.varTypes Tryd.prog).any (Tryd.prog.loopsFrom ·))) = true := by kernel_rfl
theorem k18 : ((Rows.wordsRowsRow.wideKeys == (Tryd.f6.params.toList ++ Rows.wordsRowsSpec.plain.varTypes Tryd.prog ++ Tryd.f6.resultTypes.toList).any (Tryd.prog.wideKeysFrom ·))) = true := by kernel_rfl
theorem k19 : (Rows.wordsRowsSpec.vars.all (Tryd.prog.varReadable ·)) = true := by kernel_rfl
theorem k20 : (Tryd.f6.resultTypes.all (fun t => Tryd.prog.readableRec t && decide (t < Tryd.prog.types.size))) = true := by kernel_rfl
theorem k21 : ((Rows.wordsRowsRow.ifacesOut == Tryd.f6.resultTypes.toList.any (Tryd.prog.ifacesRec ·))) = true := by kernel_rfl
theorem k22 : ((Rows.wordsRowsRow.loopsOut == Tryd.f6.resultTypes.toList.any (Tryd.prog.loopsFrom ·))) = true := by kernel_rfl
theorem k23 : ((Rows.wordsRowsRow.plainKeys == Tryd.prog.plainKeys)) = true := by kernel_rfl
theorem k24 : (Rows.wordsRowsRow.shortTexts.isNone) = true := by kernel_rfl
theorem k25 : (Tryd.prog.stopsHeard) = true := by kernel_rfl
theorem k26 : (Tryd.prog.mayEnter) = true := by kernel_rfl
theorem k27 : ((Rows.wordsRowsRow.lifted == Tryd.prog.liftsFinal)) = true := by kernel_rfl
theorem k28 : ((Tryd.prog.make == some Rows.wordsRowsRow.make)) = true := by kernel_rfl
theorem k29 : ((Rows.wordsRowsRow.kinds == (if Rows.wordsRowsRow.domain.isEmpty then [] else Tryd.f6.params.toList.map fun t => match Tryd.prog.underlying t with | some (.int k) => some k | _ => none))) = true := by kernel_rfl
theorem k30 : ((Rows.wordsRowsRow.pinned == Rows.wordsRowsRow.pinnedBy)) = true := by kernel_rfl
theorem k31 : ((Rows.wordsRowsRow.veiled == (Tryd.f6.params.toList ++ Rows.wordsRowsSpec.plain.varTypes Tryd.prog ++ Tryd.f6.resultTypes.toList).any (Tryd.prog.veiledRec ·))) = true := by kernel_rfl
theorem k32 : (Rows.wordsRowsRow.veiledFits Tryd.prog Tryd.f6.params.toList (Tryd.f6.params.toList ++ Rows.wordsRowsSpec.plain.varTypes Tryd.prog ++ Tryd.f6.resultTypes.toList)) = true := by kernel_rfl
theorem closed : joinedFacts Tryd.prog 6 Tryd.f6 Rows.wordsRowsSpec Rows.wordsRowsRow = true :=
  joined_mk k1 k2 k3 k4 k5 k6 k7 k8 k9 k10 k11 k12 k13 k14 k15 k16 k17 k18 k19 k20 k21 k22 k23 k24 k25 k26 k27 k28 k29 k30 k31 k32
theorem named : Tryd.prog.funcNamed Rows.wordsRowsRow.func = some 6 := by kernel_rfl
theorem bare : Rows.WordsRowsSaid :=
  OpenClaim.holds_of_wide 6 Tryd.f6 rfl rfl rfl rfl rfl rfl rfl ⟨rfl, rfl, rfl, rfl, rfl⟩ rfl rfl rfl rfl rfl named Tryd.func6 closed
    (of_decide_eq_true (by kernel_rfl)) (by unfold Func.isWrapper; rw [if_neg (by decide +kernel)]; exact ⟨rfl, rfl⟩)
    (fun os started H enc _ => lifted os started H enc)
theorem proved : Rows.WordsRowsCardSaid :=
  Claim7.holds_tied_plain_at .later [] [.data, .pinned] true (true, "16575aebf4884ed0f7e63bce07d8e4a82fb4905a334da4b3966d7ed16f9ad94b") false bare (fun _ h => by cases h) (by kernel_rfl) (fun _ h => by cases h) wordsRows_row_tie rfl ⟨rfl, rfl⟩ (by kernel_rfl) rfl
    (fun f fn hf hfn => by
      obtain rfl : f = 6 := Option.some.inj ((show Tryd.prog.funcNamed "archipelago/archipelagolaw24.WordsRows" = some 6 by kernel_rfl).symm.trans hf) |>.symm
      obtain rfl : fn = Tryd.f6 := (Option.some.inj (Tryd.func6.symm.trans hfn)).symm
      exact ⟨by kernel_rfl, fun j t ht => by
        rw [Tryd.params6] at ht
        have hm : t ∈ (#[26, 26, 3] : Array TypeId) := Array.mem_of_getElem? ht
        have hm1 : t ∈ [26, 26, 3] := by simpa using hm
        have hall : ([26, 26, 3].all fun u => !Tryd.prog.wantsStandIn u) = true := by kernel_rfl
        exact (show Tryd.prog.wantsStandIn t = false by simpa using List.all_eq_true.1 hall t hm1)⟩)
    (by kernel_rfl)
end Go.Proofs.YtfhlilpkgodilaaDoor.WordsRows
