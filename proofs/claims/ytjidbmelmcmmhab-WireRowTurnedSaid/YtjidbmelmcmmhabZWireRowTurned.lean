/- WireRowTurned: whatever the input, the law answers true, and its input reads as it did. Conditions: none. -/
import Derived.Test.YtjidbmelmcmmhabWWireRowTurned3
import Derived.Test.YtjidbmelmcmmhabAbB
import Derived.SizedLaws
import Derived.Test.YtjidbmelmcmmhabLWireRowTurned
import Derived.Test.YtjidbmelmcmmhabRows
set_option maxRecDepth 20000
namespace Go.Proofs.Ytjidbmelmcmmhab.WireRowTurned
open Go Go.Ab Go.Ark Go.RowKit Go.ChangeShapes Go.WideShapes Go.ChangeAt

theorem own : ownKnob Try.prog.godebug = none := by kernel_rfl
theorem laidOut : laidOutB Try.prog = true := by kernel_rfl
theorem open_Law06_Spec : Opens Try.prog 24 Law06_Spec encLaw06_Spec wfLaw06_Spec :=
  Opens.struct Try.underlying24 (OpenF.cons (size := 1) (Opens.slice (size := 1) Try.underlying22 (Opens.int Try.underlying3) (by kernel_rfl) (fun _ => rfl) rfl (by kernel_rfl)) (OpenF.cons (size := 1) (Opens.slice (size := 1) Try.underlying22 (Opens.int Try.underlying3) (by kernel_rfl) (fun _ => rfl) rfl (by kernel_rfl)) (OpenF.cons (size := 1) (Opens.slice (size := 1) Try.underlying22 (Opens.int Try.underlying3) (by kernel_rfl) (fun _ => rfl) rfl (by kernel_rfl)) OpenF.nil rfl (by kernel_rfl) rfl) rfl (by kernel_rfl) rfl) rfl (by kernel_rfl) rfl) (by kernel_rfl) (fun x => Law06_Spec.mk x.1 x.2.1 x.2.2.1) _ (fun _ => rfl) (fun x h => ⟨h.1, h.2.1, h.2.2.1⟩)
theorem contract (H : Type) (enc : TypeId × Value → H) (W : World) (base : Nat) (args : Array Value) (ds gs : List (DataW H)) (before : List MemPlace)
    (hval : ∀ (j : Nat) t v, Try.f3.params[j]? = some t → args[j]? = some v → Value.okWide Try.prog W .any base t v)
    (hW : DataW.Whole enc Try.prog Try.f3.params.toList Rows.wireRowTurnedSpec.vars false W args.toList ds gs before)
    (hz : (DataW.weightsEach Try.prog (Try.f3.params.toList ++ Rows.wireRowTurnedSpec.plain.varTypes Try.prog) (ds ++ gs)).all (· ≤ reachBytes) = true) :
    Calls Try.prog 3 args W fun e W' => ∃ v, e = .returned v ∧ Rows.wireRowTurnedSpec.post enc Try.prog Try.f3 false true false false W args v W' := by
  have hW' := hW
  obtain ⟨p, q, hA0, hV, rfl, hfz, hnd⟩ := hW
  have hA : DataW.TrodAll enc Try.prog W 0 (fun _ => true) true Try.f3.params.toList args.toList ds p := hA0
  rw [Try.params3] at hA hval hz
  obtain ⟨v0, vs0, d0, ds0, p0, q0, hargs, rfl, rfl, h0, r0⟩ := trodAll_cons hA
  obtain ⟨v1, vs1, d1, ds1, p1, q1, rfl, rfl, rfl, h1, r1⟩ := trodAll_cons r0
  obtain ⟨v2, vs2, d2, ds2, p2, q2, rfl, rfl, rfl, h2, r2⟩ := trodAll_cons r1
  obtain ⟨rfl, rfl, rfl⟩ := trodAll_nil r2
  obtain rfl : args = #[v0, v1, v2] := by cases args; simp_all
  obtain ⟨rfl, rfl⟩ := trodVars_none hV
  clear hA0
  obtain ⟨x0, w0, a0⟩ := open_Law06_Spec.argStruct Try.underlying24 (hval 0 _ v0 rfl rfl) h0 (weightsEach_get hz 0 _ _ rfl rfl)
  obtain ⟨x1, w1, a1⟩ := (Opens.array (n := 2) (size := 1) Try.underlying25 (Opens.int Try.underlying3) (by kernel_rfl) (by kernel_rfl) (fun _ => rfl)).argArray Try.underlying25 (hval 1 _ v1 rfl rfl) h1 (weightsEach_get hz 1 _ _ rfl rfl)
  obtain ⟨x2, w2, a2⟩ := (Opens.bool Try.underlying4).argBool Try.underlying4 (hval 2 _ v2 rfl rfl) h2 (weightsEach_get hz 2 _ _ rfl rfl)
  have hc := (ct_law06_WireRowTurned x0 x1 x2 true (law06_WireRowTurned_plain x0 x1 x2 w0 w1 w2)).go (fun _ _ => False) (fun _ => False) W [v0, v1, v2] (fun _ _ h => h.elim) (fun _ h => h.elim) rfl (argsC a0 (argsC a1 (args1 a2)))
  refine hc.mono fun e W' ⟨v, he, hk, hr⟩ => ?_
  have hb := hk.toBelow
  have hlt := hW'.lt
  subst he
  refine ⟨_, rfl, ⟨_, _, _, [], p0 ++ (p1 ++ (p2 ++ [])), [], hW', ?_, ?_, rfl, hb.frame _, fun h => by cases h⟩⟩
  · rw [RD.v_inv hr]
    exact trodAll_cons_mk (shut_bool Try.underlying4 _) trodAll_mk0
  · exact trodAll_cons_mk (Below.trod laidOut (by kernel_rfl) (of_decide_eq_true (by kernel_rfl)) h0 hb (fun x hx => hlt x (by simp [hx])))
      (trodAll_cons_mk (Below.trod laidOut (by kernel_rfl) (of_decide_eq_true (by kernel_rfl)) h1 hb (fun x hx => hlt x (by simp [hx])))
      (trodAll_cons_mk (Below.trod laidOut (by kernel_rfl) (of_decide_eq_true (by kernel_rfl)) h2 hb (fun x hx => hlt x (by simp [hx])))
      trodAll_mk0))

set_option maxRecDepth 100000 in
theorem lifted (os : Os) (started : os.Started) (H : Type) (enc : TypeId × Value → H) :
    ReturnsInHanded {} Try.checked os 3 .any (Rows.wireRowTurnedSpec.pre6 enc Try.prog Try.f3 Rows.wireRowTurnedRow.domain false) (Rows.wireRowTurnedSpec.post enc Try.prog Try.f3 false true false false) := by
  refine returnsInHanded_of_change_sized (C := Try.checked) own started (by kernel_rfl) Try.func3
    (ChangeSpec.witness6 (enc := enc) (C := Try.checked) false ⟨#[], #[.agg #[.slice none 0 0, .slice none 0 0, .slice none 0 0], .agg #[.int .i64 0, .int .i64 0], .bool false], []⟩ 8 (by kernel_rfl) (by kernel_rfl) (by kernel_rfl) (by kernel_rfl)) ?_
  intro W base args ds gs before hval hW _ hz _
  exact contract H enc W base args ds gs before hval hW hz

theorem k1 : (Rows.wireRowTurnedRow.wf (OpenSpec.ofChange Rows.wireRowTurnedSpec)) = true := by kernel_rfl
theorem k2 : (laidOutB Try.prog) = true := by kernel_rfl
theorem k3 : (mapsRowed Try.prog) = true := by kernel_rfl
theorem k4 : (Try.f3.params.all (Try.prog.readableRec ·)) = true := by kernel_rfl
theorem k5 : (namedTie Try.prog Rows.wireRowTurnedRow.named Rows.wireRowTurnedSpec.vars) = true := by kernel_rfl
theorem k6 : ((Rows.wireRowTurnedRow.stops == [])) = true := by kernel_rfl
theorem k7 : ((Try.prog.stops == [])) = true := by kernel_rfl
theorem k8 : ((Rows.wireRowTurnedRow.knobs == [])) = true := by kernel_rfl
theorem k9 : ((Try.prog.stopKnobs == [])) = true := by kernel_rfl
theorem k10 : ((Rows.wireRowTurnedRow.inPlace == Try.prog.inPlace 3)) = true := by kernel_rfl
theorem k11 : ((Rows.wireRowTurnedRow.unfollowed == Try.prog.unfollowed 3)) = true := by kernel_rfl
theorem k12 : ((Rows.wireRowTurnedRow.recurses == Try.prog.recurses 3)) = true := by kernel_rfl
theorem k13 : ((Rows.wireRowTurnedRow.named == Try.prog.varsNamed 3)) = true := by kernel_rfl
theorem k14 : ((Rows.wireRowTurnedRow.maps == (Try.f3.params.toList ++ Rows.wireRowTurnedSpec.plain.varTypes Try.prog).any (Try.prog.mapsRec ·))) = true := by kernel_rfl
theorem k15 : ((Rows.wireRowTurnedRow.ifaces == (Try.f3.params.toList ++ Rows.wireRowTurnedSpec.plain.varTypes Try.prog).any (Try.prog.ifacesRec ·))) = true := by kernel_rfl
theorem k16 : ((Rows.wireRowTurnedRow.mapsOut == Try.prog.mapsAmong Try.f3.resultTypes.toList)) = true := by kernel_rfl
theorem k17 : ((Rows.wireRowTurnedRow.loops == (Try.f3.params.toList ++ Rows.wireRowTurnedSpec.plain.varTypes Try.prog).any (Try.prog.loopsFrom ·))) = true := by kernel_rfl
theorem k18 : ((Rows.wireRowTurnedRow.wideKeys == (Try.f3.params.toList ++ Rows.wireRowTurnedSpec.plain.varTypes Try.prog ++ Try.f3.resultTypes.toList).any (Try.prog.wideKeysFrom ·))) = true := by kernel_rfl
theorem k19 : (Rows.wireRowTurnedSpec.vars.all (Try.prog.varReadable ·)) = true := by kernel_rfl
theorem k20 : (Try.f3.resultTypes.all (fun t => Try.prog.readableRec t && decide (t < Try.prog.types.size))) = true := by kernel_rfl
theorem k21 : ((Rows.wireRowTurnedRow.ifacesOut == Try.f3.resultTypes.toList.any (Try.prog.ifacesRec ·))) = true := by kernel_rfl
theorem k22 : ((Rows.wireRowTurnedRow.loopsOut == Try.f3.resultTypes.toList.any (Try.prog.loopsFrom ·))) = true := by kernel_rfl
theorem k23 : ((Rows.wireRowTurnedRow.plainKeys == Try.prog.plainKeys)) = true := by kernel_rfl
theorem k24 : (Rows.wireRowTurnedRow.shortTexts.isNone) = true := by kernel_rfl
theorem k25 : (Try.prog.stopsHeard) = true := by kernel_rfl
theorem k26 : (Try.prog.mayEnter) = true := by kernel_rfl
theorem k27 : ((Rows.wireRowTurnedRow.lifted == Try.prog.liftsFinal)) = true := by kernel_rfl
theorem k28 : ((Try.prog.make == some Rows.wireRowTurnedRow.make)) = true := by kernel_rfl
theorem k29 : ((Rows.wireRowTurnedRow.kinds == (if Rows.wireRowTurnedRow.domain.isEmpty then [] else Try.f3.params.toList.map fun t => match Try.prog.underlying t with | some (.int k) => some k | _ => none))) = true := by kernel_rfl
theorem k30 : ((Rows.wireRowTurnedRow.pinned == Rows.wireRowTurnedRow.pinnedBy)) = true := by kernel_rfl
theorem k31 : ((Rows.wireRowTurnedRow.veiled == (Try.f3.params.toList ++ Rows.wireRowTurnedSpec.plain.varTypes Try.prog ++ Try.f3.resultTypes.toList).any (Try.prog.veiledRec ·))) = true := by kernel_rfl
theorem k32 : (Rows.wireRowTurnedRow.veiledFits Try.prog Try.f3.params.toList (Try.f3.params.toList ++ Rows.wireRowTurnedSpec.plain.varTypes Try.prog ++ Try.f3.resultTypes.toList)) = true := by kernel_rfl
theorem closed : joinedFacts Try.prog 3 Try.f3 Rows.wireRowTurnedSpec Rows.wireRowTurnedRow = true :=
  joined_mk k1 k2 k3 k4 k5 k6 k7 k8 k9 k10 k11 k12 k13 k14 k15 k16 k17 k18 k19 k20 k21 k22 k23 k24 k25 k26 k27 k28 k29 k30 k31 k32
theorem named : Try.prog.funcNamed Rows.wireRowTurnedRow.func = some 3 := by kernel_rfl
theorem proved : Rows.WireRowTurnedSaid :=
  OpenClaim.holds_of_wide 3 Try.f3 rfl rfl rfl rfl rfl rfl rfl ⟨rfl, rfl, rfl, rfl, rfl⟩ rfl rfl rfl rfl rfl named Try.func3 closed
    (of_decide_eq_true (by kernel_rfl)) (by unfold Func.isWrapper; rw [if_neg (by decide +kernel)]; exact ⟨rfl, rfl⟩)
    (fun os started H enc _ => lifted os started H enc)
end Go.Proofs.Ytjidbmelmcmmhab.WireRowTurned
