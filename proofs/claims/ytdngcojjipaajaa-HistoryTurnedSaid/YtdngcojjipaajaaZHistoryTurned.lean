/- HistoryTurned: whatever the input, the law answers true, and its input reads as it did. Conditions: none. -/
import Derived.Test.YtdngcojjipaajaaWHistoryTurned3
import Derived.Test.YtdngcojjipaajaaAbB
import Derived.SizedLaws
import Derived.Test.YtdngcojjipaajaaLHistoryTurned
import Derived.Test.YtdngcojjipaajaaRows
set_option maxRecDepth 20000
namespace Go.Proofs.Ytdngcojjipaajaa.HistoryTurned
open Go Go.Ab Go.Ark Go.RowKit Go.ChangeShapes Go.WideShapes Go.ChangeAt

theorem own : ownKnob Try.prog.godebug = none := by kernel_rfl
theorem laidOut : laidOutB Try.prog = true := by kernel_rfl
theorem open_Law20_Act : Opens Try.prog 47 Law20_Act encLaw20_Act wfLaw20_Act :=
  Opens.struct Try.underlying47 (OpenF.cons (size := 1) (Opens.bool Try.underlying4) (OpenF.cons (size := 1) (Opens.int Try.underlying3) (OpenF.cons (size := 1) (Opens.int Try.underlying3) (OpenF.cons (size := 1) (Opens.int Try.underlying3) OpenF.nil rfl (by kernel_rfl) rfl) rfl (by kernel_rfl) rfl) rfl (by kernel_rfl) rfl) rfl (by kernel_rfl) rfl) (by kernel_rfl) (fun x => Law20_Act.mk x.1 x.2.1 x.2.2.1 x.2.2.2.1) _ (fun _ => rfl) (fun x h => ⟨h.1, h.2.1, h.2.2.1, h.2.2.2.1⟩)
theorem open_Api_Stamp : Opens Try.prog 27 Api_Stamp encApi_Stamp wfApi_Stamp :=
  Opens.struct Try.underlying27 (OpenF.cons (size := 1) (Opens.int Try.underlying3) (OpenF.cons (size := 1) (Opens.int Try.underlying3) OpenF.nil rfl (by kernel_rfl) rfl) rfl (by kernel_rfl) rfl) (by kernel_rfl) (fun x => Api_Stamp.mk x.1 x.2.1) _ (fun _ => rfl) (fun x h => ⟨h.1, h.2.1⟩)
theorem open_Api_Dep : Opens Try.prog 52 Api_Dep encApi_Dep wfApi_Dep :=
  Opens.struct Try.underlying52 (OpenF.cons (size := 1) (Opens.string Try.underlying9) (OpenF.cons (size := 2) open_Api_Stamp OpenF.nil rfl (by kernel_rfl) rfl) rfl (by kernel_rfl) rfl) (by kernel_rfl) (fun x => Api_Dep.mk x.1 x.2.1) _ (fun _ => rfl) (fun x h => ⟨h.1, h.2.1⟩)
theorem open_Law20_Change : Opens Try.prog 54 Law20_Change encLaw20_Change wfLaw20_Change :=
  Opens.struct Try.underlying54 (OpenF.cons (size := 1) (Opens.int Try.underlying3) (OpenF.cons (size := 1) (Opens.int Try.underlying3) (OpenF.cons (size := 1) (Opens.int Try.underlying3) (OpenF.cons (size := 3) open_Api_Dep OpenF.nil rfl (by kernel_rfl) rfl) rfl (by kernel_rfl) rfl) rfl (by kernel_rfl) rfl) rfl (by kernel_rfl) rfl) (by kernel_rfl) (fun x => Law20_Change.mk x.1 x.2.1 x.2.2.1 x.2.2.2.1) _ (fun _ => rfl) (fun x h => ⟨h.1, h.2.1, h.2.2.1, h.2.2.2.1⟩)
theorem contract (H : Type) (enc : TypeId × Value → H) (W : World) (base : Nat) (args : Array Value) (ds gs : List (DataW H)) (before : List MemPlace)
    (hval : ∀ (j : Nat) t v, Try.f8.params[j]? = some t → args[j]? = some v → Value.okWide Try.prog W .any base t v)
    (hW : DataW.Whole enc Try.prog Try.f8.params.toList Rows.historyTurnedSpec.vars false W args.toList ds gs before)
    (hz : (DataW.weightsEach Try.prog (Try.f8.params.toList ++ Rows.historyTurnedSpec.plain.varTypes Try.prog) (ds ++ gs)).all (· ≤ reachBytes) = true) :
    Calls Try.prog 8 args W fun e W' => ∃ v, e = .returned v ∧ Rows.historyTurnedSpec.post enc Try.prog Try.f8 false true false false W args v W' := by
  have hW' := hW
  obtain ⟨p, q, hA0, hV, rfl, hfz, hnd⟩ := hW
  have hA : DataW.TrodAll enc Try.prog W 0 (fun _ => true) true Try.f8.params.toList args.toList ds p := hA0
  rw [Try.params8] at hA hval hz
  obtain ⟨v0, vs0, d0, ds0, p0, q0, hargs, rfl, rfl, h0, r0⟩ := trodAll_cons hA
  obtain ⟨v1, vs1, d1, ds1, p1, q1, rfl, rfl, rfl, h1, r1⟩ := trodAll_cons r0
  obtain ⟨v2, vs2, d2, ds2, p2, q2, rfl, rfl, rfl, h2, r2⟩ := trodAll_cons r1
  obtain ⟨rfl, rfl, rfl⟩ := trodAll_nil r2
  obtain rfl : args = #[v0, v1, v2] := by cases args; simp_all
  obtain ⟨rfl, rfl⟩ := trodVars_none hV
  clear hA0
  obtain ⟨x0, w0, a0⟩ := (Opens.slice (size := 4) Try.underlying22 open_Law20_Act (by kernel_rfl) (fun _ => rfl) rfl (by kernel_rfl)).argSlice Try.underlying22 (hval 0 _ v0 rfl rfl) h0 (weightsEach_get hz 0 _ _ rfl rfl)
  obtain ⟨x1, w1, a1⟩ := open_Law20_Change.argStruct Try.underlying54 (hval 1 _ v1 rfl rfl) h1 (weightsEach_get hz 1 _ _ rfl rfl)
  obtain ⟨x2, w2, a2⟩ := (Opens.string Try.underlying9).argString Try.underlying9 (hval 2 _ v2 rfl rfl) h2 (weightsEach_get hz 2 _ _ rfl rfl)
  have hc := (ct_law20_HistoryTurned x0 x1 x2 true (law20_HistoryTurned_plain x0 x1 x2 w0 w1 w2)).go (fun _ _ => False) (fun _ => False) W [v0, v1, v2] (fun _ _ h => h.elim) (fun _ h => h.elim) rfl (argsC a0 (argsC a1 (args1 a2)))
  refine hc.mono fun e W' ⟨v, he, hk, hr⟩ => ?_
  have hb := hk.toBelow
  have hlt := hW'.lt
  subst he
  refine ⟨_, rfl, ⟨_, _, _, [], p0 ++ (p1 ++ (p2 ++ [])), [], hW', ?_, ?_, rfl, hb.frame _, fun h => by cases h⟩⟩
  · rw [RD.v_inv hr]
    exact trodAll_cons_mk (shut_bool Try.underlying4 _) trodAll_mk0
  · exact trodAll_cons_mk (Below.trod laidOut (by kernel_rfl) (of_decide_eq_true (by kernel_rfl)) h0 hb (fun x hx => hlt x (by simp [hx])))
      (trodAll_cons_mk (Below.trod laidOut (by kernel_rfl) (of_decide_eq_true (by kernel_rfl)) h1 hb (fun x hx => hlt x (by simp [hx])))
      (trodAll_cons_mk (Below.trod laidOut (by kernel_rfl) (of_decide_eq_true (by kernel_rfl)) h2 hb (fun x hx => hlt x (by simp [hx])))
      trodAll_mk0))

set_option maxRecDepth 100000 in
theorem lifted (os : Os) (started : os.Started) (H : Type) (enc : TypeId × Value → H) :
    ReturnsInHanded {} Try.checked os 8 .any (Rows.historyTurnedSpec.pre6 enc Try.prog Try.f8 Rows.historyTurnedRow.domain false) (Rows.historyTurnedSpec.post enc Try.prog Try.f8 false true false false) := by
  refine returnsInHanded_of_change_sized (C := Try.checked) own started (by kernel_rfl) Try.func8
    (ChangeSpec.witness6 (enc := enc) (C := Try.checked) false ⟨#[], #[.slice none 0 0, .agg #[.int .i64 0, .int .i64 0, .int .i64 0, .string ByteArray.empty, .int .i64 0, .int .i64 0], .string ByteArray.empty], []⟩ 8 (by kernel_rfl) (by kernel_rfl) (by kernel_rfl) (by kernel_rfl)) ?_
  intro W base args ds gs before hval hW _ hz _
  exact contract H enc W base args ds gs before hval hW hz

theorem k1 : (Rows.historyTurnedRow.wf (OpenSpec.ofChange Rows.historyTurnedSpec)) = true := by kernel_rfl
theorem k2 : (laidOutB Try.prog) = true := by kernel_rfl
theorem k3 : (mapsRowed Try.prog) = true := by kernel_rfl
theorem k4 : (Try.f8.params.all (Try.prog.readableRec ·)) = true := by kernel_rfl
theorem k5 : (namedTie Try.prog Rows.historyTurnedRow.named Rows.historyTurnedSpec.vars) = true := by kernel_rfl
theorem k6 : ((Rows.historyTurnedRow.stops == [])) = true := by kernel_rfl
theorem k7 : ((Try.prog.stops == [])) = true := by kernel_rfl
theorem k8 : ((Rows.historyTurnedRow.knobs == [])) = true := by kernel_rfl
theorem k9 : ((Try.prog.stopKnobs == [])) = true := by kernel_rfl
theorem k10 : ((Rows.historyTurnedRow.inPlace == Try.prog.inPlace 8)) = true := by kernel_rfl
theorem k11 : ((Rows.historyTurnedRow.unfollowed == Try.prog.unfollowed 8)) = true := by kernel_rfl
theorem k12 : ((Rows.historyTurnedRow.recurses == Try.prog.recurses 8)) = true := by kernel_rfl
theorem k13 : ((Rows.historyTurnedRow.named == Try.prog.varsNamed 8)) = true := by kernel_rfl
theorem k14 : ((Rows.historyTurnedRow.maps == (Try.f8.params.toList ++ Rows.historyTurnedSpec.plain.varTypes Try.prog).any (Try.prog.mapsRec ·))) = true := by kernel_rfl
theorem k15 : ((Rows.historyTurnedRow.ifaces == (Try.f8.params.toList ++ Rows.historyTurnedSpec.plain.varTypes Try.prog).any (Try.prog.ifacesRec ·))) = true := by kernel_rfl
theorem k16 : ((Rows.historyTurnedRow.mapsOut == Try.prog.mapsAmong Try.f8.resultTypes.toList)) = true := by kernel_rfl
theorem k17 : ((Rows.historyTurnedRow.loops == (Try.f8.params.toList ++ Rows.historyTurnedSpec.plain.varTypes Try.prog).any (Try.prog.loopsFrom ·))) = true := by kernel_rfl
theorem k18 : ((Rows.historyTurnedRow.wideKeys == (Try.f8.params.toList ++ Rows.historyTurnedSpec.plain.varTypes Try.prog ++ Try.f8.resultTypes.toList).any (Try.prog.wideKeysFrom ·))) = true := by kernel_rfl
theorem k19 : (Rows.historyTurnedSpec.vars.all (Try.prog.varReadable ·)) = true := by kernel_rfl
theorem k20 : (Try.f8.resultTypes.all (fun t => Try.prog.readableRec t && decide (t < Try.prog.types.size))) = true := by kernel_rfl
theorem k21 : ((Rows.historyTurnedRow.ifacesOut == Try.f8.resultTypes.toList.any (Try.prog.ifacesRec ·))) = true := by kernel_rfl
theorem k22 : ((Rows.historyTurnedRow.loopsOut == Try.f8.resultTypes.toList.any (Try.prog.loopsFrom ·))) = true := by kernel_rfl
theorem k23 : ((Rows.historyTurnedRow.plainKeys == Try.prog.plainKeys)) = true := by kernel_rfl
theorem k24 : (Rows.historyTurnedRow.shortTexts.isNone) = true := by kernel_rfl
theorem k25 : (Try.prog.stopsHeard) = true := by kernel_rfl
theorem k26 : (Try.prog.mayEnter) = true := by kernel_rfl
theorem k27 : ((Rows.historyTurnedRow.lifted == Try.prog.liftsFinal)) = true := by kernel_rfl
theorem k28 : ((Try.prog.make == some Rows.historyTurnedRow.make)) = true := by kernel_rfl
theorem k29 : ((Rows.historyTurnedRow.kinds == (if Rows.historyTurnedRow.domain.isEmpty then [] else Try.f8.params.toList.map fun t => match Try.prog.underlying t with | some (.int k) => some k | _ => none))) = true := by kernel_rfl
theorem k30 : ((Rows.historyTurnedRow.pinned == Rows.historyTurnedRow.pinnedBy)) = true := by kernel_rfl
theorem k31 : ((Rows.historyTurnedRow.veiled == (Try.f8.params.toList ++ Rows.historyTurnedSpec.plain.varTypes Try.prog ++ Try.f8.resultTypes.toList).any (Try.prog.veiledRec ·))) = true := by kernel_rfl
theorem k32 : (Rows.historyTurnedRow.veiledFits Try.prog Try.f8.params.toList (Try.f8.params.toList ++ Rows.historyTurnedSpec.plain.varTypes Try.prog ++ Try.f8.resultTypes.toList)) = true := by kernel_rfl
theorem closed : joinedFacts Try.prog 8 Try.f8 Rows.historyTurnedSpec Rows.historyTurnedRow = true :=
  joined_mk k1 k2 k3 k4 k5 k6 k7 k8 k9 k10 k11 k12 k13 k14 k15 k16 k17 k18 k19 k20 k21 k22 k23 k24 k25 k26 k27 k28 k29 k30 k31 k32
theorem named : Try.prog.funcNamed Rows.historyTurnedRow.func = some 8 := by kernel_rfl
theorem proved : Rows.HistoryTurnedSaid :=
  OpenClaim.holds_of_wide 8 Try.f8 rfl rfl rfl rfl rfl rfl rfl ⟨rfl, rfl, rfl, rfl, rfl⟩ rfl rfl rfl rfl rfl named Try.func8 closed
    (of_decide_eq_true (by kernel_rfl)) (by unfold Func.isWrapper; rw [if_neg (by decide +kernel)]; exact ⟨rfl, rfl⟩)
    (fun os started H enc _ => lifted os started H enc)
end Go.Proofs.Ytdngcojjipaajaa.HistoryTurned
