/- HistoryOf: whatever the input, the law answers true, and its input reads as it did. Conditions: none. -/
import Derived.Test.YtdngcojjipaajaaWHistoryOf3
import Derived.Test.YtdngcojjipaajaaAbB
import Derived.SizedLaws
import Derived.Test.YtdngcojjipaajaaLHistoryOf
import Derived.Test.YtdngcojjipaajaaRows
set_option maxRecDepth 20000
namespace Go.Proofs.Ytdngcojjipaajaa.HistoryOf
open Go Go.Ab Go.Ark Go.RowKit Go.ChangeShapes Go.WideShapes Go.ChangeAt

theorem own : ownKnob Try.prog.godebug = none := by kernel_rfl
theorem laidOut : laidOutB Try.prog = true := by kernel_rfl
theorem open_Law20_Act : Opens Try.prog 47 Law20_Act encLaw20_Act wfLaw20_Act :=
  Opens.struct Try.underlying47 (OpenF.cons (size := 1) (Opens.bool Try.underlying4) (OpenF.cons (size := 1) (Opens.int Try.underlying3) (OpenF.cons (size := 1) (Opens.int Try.underlying3) (OpenF.cons (size := 1) (Opens.int Try.underlying3) OpenF.nil rfl (by kernel_rfl) rfl) rfl (by kernel_rfl) rfl) rfl (by kernel_rfl) rfl) rfl (by kernel_rfl) rfl) (by kernel_rfl) (fun x => Law20_Act.mk x.1 x.2.1 x.2.2.1 x.2.2.2.1) _ (fun _ => rfl) (fun x h => ⟨h.1, h.2.1, h.2.2.1, h.2.2.2.1⟩)
theorem contract (H : Type) (enc : TypeId × Value → H) (W : World) (base : Nat) (args : Array Value) (ds gs : List (DataW H)) (before : List MemPlace)
    (hval : ∀ (j : Nat) t v, Try.f6.params[j]? = some t → args[j]? = some v → Value.okWide Try.prog W .any base t v)
    (hW : DataW.Whole enc Try.prog Try.f6.params.toList Rows.historyOfSpec.vars false W args.toList ds gs before)
    (hz : (DataW.weightsEach Try.prog (Try.f6.params.toList ++ Rows.historyOfSpec.plain.varTypes Try.prog) (ds ++ gs)).all (· ≤ reachBytes) = true) :
    Calls Try.prog 6 args W fun e W' => ∃ v, e = .returned v ∧ Rows.historyOfSpec.post enc Try.prog Try.f6 false true false false W args v W' := by
  have hW' := hW
  obtain ⟨p, q, hA0, hV, rfl, hfz, hnd⟩ := hW
  have hA : DataW.TrodAll enc Try.prog W 0 (fun _ => true) true Try.f6.params.toList args.toList ds p := hA0
  rw [Try.params6] at hA hval hz
  obtain ⟨v0, vs0, d0, ds0, p0, q0, hargs, rfl, rfl, h0, r0⟩ := trodAll_cons hA
  obtain ⟨rfl, rfl, rfl⟩ := trodAll_nil r0
  obtain rfl : args = #[v0] := by cases args; simp_all
  obtain ⟨rfl, rfl⟩ := trodVars_none hV
  clear hA0
  obtain ⟨x0, w0, a0⟩ := (Opens.slice (size := 4) Try.underlying22 open_Law20_Act (by kernel_rfl) (fun _ => rfl) rfl (by kernel_rfl)).argSlice Try.underlying22 (hval 0 _ v0 rfl rfl) h0 (weightsEach_get hz 0 _ _ rfl rfl)
  have hc := (ct_law20_HistoryOf x0 true (law20_HistoryOf_plain x0 w0)).go (fun _ _ => False) (fun _ => False) W [v0] (fun _ _ h => h.elim) (fun _ h => h.elim) rfl (args1 a0)
  refine hc.mono fun e W' ⟨v, he, hk, hr⟩ => ?_
  have hb := hk.toBelow
  have hlt := hW'.lt
  subst he
  refine ⟨_, rfl, ⟨_, _, _, [], p0 ++ [], [], hW', ?_, ?_, rfl, hb.frame _, fun h => by cases h⟩⟩
  · rw [RD.v_inv hr]
    exact trodAll_cons_mk (shut_bool Try.underlying4 _) trodAll_mk0
  · exact trodAll_cons_mk (Below.trod laidOut (by kernel_rfl) (of_decide_eq_true (by kernel_rfl)) h0 hb (fun x hx => hlt x (by simp [hx])))
      trodAll_mk0

set_option maxRecDepth 100000 in
theorem lifted (os : Os) (started : os.Started) (H : Type) (enc : TypeId × Value → H) :
    ReturnsInHanded {} Try.checked os 6 .any (Rows.historyOfSpec.pre6 enc Try.prog Try.f6 Rows.historyOfRow.domain false) (Rows.historyOfSpec.post enc Try.prog Try.f6 false true false false) := by
  refine returnsInHanded_of_change_sized (C := Try.checked) own started (by kernel_rfl) Try.func6
    (ChangeSpec.witness6 (enc := enc) (C := Try.checked) false ⟨#[], #[.slice none 0 0], []⟩ 8 (by kernel_rfl) (by kernel_rfl) (by kernel_rfl) (by kernel_rfl)) ?_
  intro W base args ds gs before hval hW _ hz _
  exact contract H enc W base args ds gs before hval hW hz

theorem k1 : (Rows.historyOfRow.wf (OpenSpec.ofChange Rows.historyOfSpec)) = true := by kernel_rfl
theorem k2 : (laidOutB Try.prog) = true := by kernel_rfl
theorem k3 : (mapsRowed Try.prog) = true := by kernel_rfl
theorem k4 : (Try.f6.params.all (Try.prog.readableRec ·)) = true := by kernel_rfl
theorem k5 : (namedTie Try.prog Rows.historyOfRow.named Rows.historyOfSpec.vars) = true := by kernel_rfl
theorem k6 : ((Rows.historyOfRow.stops == [])) = true := by kernel_rfl
theorem k7 : ((Try.prog.stops == [])) = true := by kernel_rfl
theorem k8 : ((Rows.historyOfRow.knobs == [])) = true := by kernel_rfl
theorem k9 : ((Try.prog.stopKnobs == [])) = true := by kernel_rfl
theorem k10 : ((Rows.historyOfRow.inPlace == Try.prog.inPlace 6)) = true := by kernel_rfl
theorem k11 : ((Rows.historyOfRow.unfollowed == Try.prog.unfollowed 6)) = true := by kernel_rfl
theorem k12 : ((Rows.historyOfRow.recurses == Try.prog.recurses 6)) = true := by kernel_rfl
theorem k13 : ((Rows.historyOfRow.named == Try.prog.varsNamed 6)) = true := by kernel_rfl
theorem k14 : ((Rows.historyOfRow.maps == (Try.f6.params.toList ++ Rows.historyOfSpec.plain.varTypes Try.prog).any (Try.prog.mapsRec ·))) = true := by kernel_rfl
theorem k15 : ((Rows.historyOfRow.ifaces == (Try.f6.params.toList ++ Rows.historyOfSpec.plain.varTypes Try.prog).any (Try.prog.ifacesRec ·))) = true := by kernel_rfl
theorem k16 : ((Rows.historyOfRow.mapsOut == Try.prog.mapsAmong Try.f6.resultTypes.toList)) = true := by kernel_rfl
theorem k17 : ((Rows.historyOfRow.loops == (Try.f6.params.toList ++ Rows.historyOfSpec.plain.varTypes Try.prog).any (Try.prog.loopsFrom ·))) = true := by kernel_rfl
theorem k18 : ((Rows.historyOfRow.wideKeys == (Try.f6.params.toList ++ Rows.historyOfSpec.plain.varTypes Try.prog ++ Try.f6.resultTypes.toList).any (Try.prog.wideKeysFrom ·))) = true := by kernel_rfl
theorem k19 : (Rows.historyOfSpec.vars.all (Try.prog.varReadable ·)) = true := by kernel_rfl
theorem k20 : (Try.f6.resultTypes.all (fun t => Try.prog.readableRec t && decide (t < Try.prog.types.size))) = true := by kernel_rfl
theorem k21 : ((Rows.historyOfRow.ifacesOut == Try.f6.resultTypes.toList.any (Try.prog.ifacesRec ·))) = true := by kernel_rfl
theorem k22 : ((Rows.historyOfRow.loopsOut == Try.f6.resultTypes.toList.any (Try.prog.loopsFrom ·))) = true := by kernel_rfl
theorem k23 : ((Rows.historyOfRow.plainKeys == Try.prog.plainKeys)) = true := by kernel_rfl
theorem k24 : (Rows.historyOfRow.shortTexts.isNone) = true := by kernel_rfl
theorem k25 : (Try.prog.stopsHeard) = true := by kernel_rfl
theorem k26 : (Try.prog.mayEnter) = true := by kernel_rfl
theorem k27 : ((Rows.historyOfRow.lifted == Try.prog.liftsFinal)) = true := by kernel_rfl
theorem k28 : ((Try.prog.make == some Rows.historyOfRow.make)) = true := by kernel_rfl
theorem k29 : ((Rows.historyOfRow.kinds == (if Rows.historyOfRow.domain.isEmpty then [] else Try.f6.params.toList.map fun t => match Try.prog.underlying t with | some (.int k) => some k | _ => none))) = true := by kernel_rfl
theorem k30 : ((Rows.historyOfRow.pinned == Rows.historyOfRow.pinnedBy)) = true := by kernel_rfl
theorem k31 : ((Rows.historyOfRow.veiled == (Try.f6.params.toList ++ Rows.historyOfSpec.plain.varTypes Try.prog ++ Try.f6.resultTypes.toList).any (Try.prog.veiledRec ·))) = true := by kernel_rfl
theorem k32 : (Rows.historyOfRow.veiledFits Try.prog Try.f6.params.toList (Try.f6.params.toList ++ Rows.historyOfSpec.plain.varTypes Try.prog ++ Try.f6.resultTypes.toList)) = true := by kernel_rfl
theorem closed : joinedFacts Try.prog 6 Try.f6 Rows.historyOfSpec Rows.historyOfRow = true :=
  joined_mk k1 k2 k3 k4 k5 k6 k7 k8 k9 k10 k11 k12 k13 k14 k15 k16 k17 k18 k19 k20 k21 k22 k23 k24 k25 k26 k27 k28 k29 k30 k31 k32
theorem named : Try.prog.funcNamed Rows.historyOfRow.func = some 6 := by kernel_rfl
theorem proved : Rows.HistoryOfSaid :=
  OpenClaim.holds_of_wide 6 Try.f6 rfl rfl rfl rfl rfl rfl rfl ⟨rfl, rfl, rfl, rfl, rfl⟩ rfl rfl rfl rfl rfl named Try.func6 closed
    (of_decide_eq_true (by kernel_rfl)) (by unfold Func.isWrapper; rw [if_neg (by decide +kernel)]; exact ⟨rfl, rfl⟩)
    (fun os started H enc _ => lifted os started H enc)
end Go.Proofs.Ytdngcojjipaajaa.HistoryOf
