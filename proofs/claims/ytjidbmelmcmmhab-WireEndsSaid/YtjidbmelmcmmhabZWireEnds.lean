/- WireEnds: whatever the input, the law answers true, and its input reads as it did. Conditions: none. -/
import Derived.Test.YtjidbmelmcmmhabWWireEnds2
import Derived.Test.YtjidbmelmcmmhabAbB
import Derived.SizedLaws
import Derived.Test.YtjidbmelmcmmhabLWireEnds
import Derived.Test.YtjidbmelmcmmhabRows
set_option maxRecDepth 20000
namespace Go.Proofs.Ytjidbmelmcmmhab.WireEnds
open Go Go.Ab Go.Ark Go.RowKit Go.ChangeShapes Go.WideShapes Go.ChangeAt

theorem own : ownKnob Try.prog.godebug = none := by kernel_rfl
theorem laidOut : laidOutB Try.prog = true := by kernel_rfl
theorem open_Law06_Spec : Opens Try.prog 24 Law06_Spec encLaw06_Spec wfLaw06_Spec :=
  Opens.struct Try.underlying24 (OpenF.cons (size := 1) (Opens.slice (size := 1) Try.underlying22 (Opens.int Try.underlying3) (by kernel_rfl) (fun _ => rfl) rfl (by kernel_rfl)) (OpenF.cons (size := 1) (Opens.slice (size := 1) Try.underlying22 (Opens.int Try.underlying3) (by kernel_rfl) (fun _ => rfl) rfl (by kernel_rfl)) (OpenF.cons (size := 1) (Opens.slice (size := 1) Try.underlying22 (Opens.int Try.underlying3) (by kernel_rfl) (fun _ => rfl) rfl (by kernel_rfl)) OpenF.nil rfl (by kernel_rfl) rfl) rfl (by kernel_rfl) rfl) rfl (by kernel_rfl) rfl) (by kernel_rfl) (fun x => Law06_Spec.mk x.1 x.2.1 x.2.2.1) _ (fun _ => rfl) (fun x h => ⟨h.1, h.2.1, h.2.2.1⟩)
theorem contract (H : Type) (enc : TypeId × Value → H) (W : World) (base : Nat) (args : Array Value) (ds gs : List (DataW H)) (before : List MemPlace)
    (hval : ∀ (j : Nat) t v, Try.f4.params[j]? = some t → args[j]? = some v → Value.okWide Try.prog W .any base t v)
    (hW : DataW.Whole enc Try.prog Try.f4.params.toList Rows.wireEndsSpec.vars false W args.toList ds gs before)
    (hz : (DataW.weightsEach Try.prog (Try.f4.params.toList ++ Rows.wireEndsSpec.plain.varTypes Try.prog) (ds ++ gs)).all (· ≤ reachBytes) = true) :
    Calls Try.prog 4 args W fun e W' => ∃ v, e = .returned v ∧ Rows.wireEndsSpec.post enc Try.prog Try.f4 false true false false W args v W' := by
  have hW' := hW
  obtain ⟨p, q, hA0, hV, rfl, hfz, hnd⟩ := hW
  have hA : DataW.TrodAll enc Try.prog W 0 (fun _ => true) true Try.f4.params.toList args.toList ds p := hA0
  rw [Try.params4] at hA hval hz
  obtain ⟨v0, vs0, d0, ds0, p0, q0, hargs, rfl, rfl, h0, r0⟩ := trodAll_cons hA
  obtain ⟨rfl, rfl, rfl⟩ := trodAll_nil r0
  obtain rfl : args = #[v0] := by cases args; simp_all
  obtain ⟨rfl, rfl⟩ := trodVars_none hV
  clear hA0
  obtain ⟨x0, w0, a0⟩ := open_Law06_Spec.argStruct Try.underlying24 (hval 0 _ v0 rfl rfl) h0 (weightsEach_get hz 0 _ _ rfl rfl)
  have hc := (ct_law06_WireEnds x0 true (law06_WireEnds_plain x0 w0)).go (fun _ _ => False) (fun _ => False) W [v0] (fun _ _ h => h.elim) (fun _ h => h.elim) rfl (args1 a0)
  refine hc.mono fun e W' ⟨v, he, hk, hr⟩ => ?_
  have hb := hk.toBelow
  have hlt := hW'.lt
  subst he
  refine ⟨_, rfl, ⟨_, _, _, [], p0 ++ [], [], hW', ?_, ?_, rfl, hb.frame _, fun h => by cases h⟩⟩
  · rw [RD.v_inv hr]
    exact trodAll_cons_mk (shut_bool Try.underlying4 _) trodAll_mk0
  · exact trodAll_cons_mk (Below.trod laidOut (by kernel_rfl) (of_decide_eq_true (by kernel_rfl)) h0 hb (fun x hx => hlt x (by simp [hx])))
      trodAll_mk0

set_option maxRecDepth 100000 in
theorem lifted (os : Os) (started : os.Started) (H : Type) (enc : TypeId × Value → H) :
    ReturnsInHanded {} Try.checked os 4 .any (Rows.wireEndsSpec.pre6 enc Try.prog Try.f4 Rows.wireEndsRow.domain false) (Rows.wireEndsSpec.post enc Try.prog Try.f4 false true false false) := by
  refine returnsInHanded_of_change_sized (C := Try.checked) own started (by kernel_rfl) Try.func4
    (ChangeSpec.witness6 (enc := enc) (C := Try.checked) false ⟨#[], #[.agg #[.slice none 0 0, .slice none 0 0, .slice none 0 0]], []⟩ 8 (by kernel_rfl) (by kernel_rfl) (by kernel_rfl) (by kernel_rfl)) ?_
  intro W base args ds gs before hval hW _ hz _
  exact contract H enc W base args ds gs before hval hW hz

theorem k1 : (Rows.wireEndsRow.wf (OpenSpec.ofChange Rows.wireEndsSpec)) = true := by kernel_rfl
theorem k2 : (laidOutB Try.prog) = true := by kernel_rfl
theorem k3 : (mapsRowed Try.prog) = true := by kernel_rfl
theorem k4 : (Try.f4.params.all (Try.prog.readableRec ·)) = true := by kernel_rfl
theorem k5 : (namedTie Try.prog Rows.wireEndsRow.named Rows.wireEndsSpec.vars) = true := by kernel_rfl
theorem k6 : ((Rows.wireEndsRow.stops == [])) = true := by kernel_rfl
theorem k7 : ((Try.prog.stops == [])) = true := by kernel_rfl
theorem k8 : ((Rows.wireEndsRow.knobs == [])) = true := by kernel_rfl
theorem k9 : ((Try.prog.stopKnobs == [])) = true := by kernel_rfl
theorem k10 : ((Rows.wireEndsRow.inPlace == Try.prog.inPlace 4)) = true := by kernel_rfl
theorem k11 : ((Rows.wireEndsRow.unfollowed == Try.prog.unfollowed 4)) = true := by kernel_rfl
theorem k12 : ((Rows.wireEndsRow.recurses == Try.prog.recurses 4)) = true := by kernel_rfl
theorem k13 : ((Rows.wireEndsRow.named == Try.prog.varsNamed 4)) = true := by kernel_rfl
theorem k14 : ((Rows.wireEndsRow.maps == (Try.f4.params.toList ++ Rows.wireEndsSpec.plain.varTypes Try.prog).any (Try.prog.mapsRec ·))) = true := by kernel_rfl
theorem k15 : ((Rows.wireEndsRow.ifaces == (Try.f4.params.toList ++ Rows.wireEndsSpec.plain.varTypes Try.prog).any (Try.prog.ifacesRec ·))) = true := by kernel_rfl
theorem k16 : ((Rows.wireEndsRow.mapsOut == Try.prog.mapsAmong Try.f4.resultTypes.toList)) = true := by kernel_rfl
theorem k17 : ((Rows.wireEndsRow.loops == (Try.f4.params.toList ++ Rows.wireEndsSpec.plain.varTypes Try.prog).any (Try.prog.loopsFrom ·))) = true := by kernel_rfl
theorem k18 : ((Rows.wireEndsRow.wideKeys == (Try.f4.params.toList ++ Rows.wireEndsSpec.plain.varTypes Try.prog ++ Try.f4.resultTypes.toList).any (Try.prog.wideKeysFrom ·))) = true := by kernel_rfl
theorem k19 : (Rows.wireEndsSpec.vars.all (Try.prog.varReadable ·)) = true := by kernel_rfl
theorem k20 : (Try.f4.resultTypes.all (fun t => Try.prog.readableRec t && decide (t < Try.prog.types.size))) = true := by kernel_rfl
theorem k21 : ((Rows.wireEndsRow.ifacesOut == Try.f4.resultTypes.toList.any (Try.prog.ifacesRec ·))) = true := by kernel_rfl
theorem k22 : ((Rows.wireEndsRow.loopsOut == Try.f4.resultTypes.toList.any (Try.prog.loopsFrom ·))) = true := by kernel_rfl
theorem k23 : ((Rows.wireEndsRow.plainKeys == Try.prog.plainKeys)) = true := by kernel_rfl
theorem k24 : (Rows.wireEndsRow.shortTexts.isNone) = true := by kernel_rfl
theorem k25 : (Try.prog.stopsHeard) = true := by kernel_rfl
theorem k26 : (Try.prog.mayEnter) = true := by kernel_rfl
theorem k27 : ((Rows.wireEndsRow.lifted == Try.prog.liftsFinal)) = true := by kernel_rfl
theorem k28 : ((Try.prog.make == some Rows.wireEndsRow.make)) = true := by kernel_rfl
theorem k29 : ((Rows.wireEndsRow.kinds == (if Rows.wireEndsRow.domain.isEmpty then [] else Try.f4.params.toList.map fun t => match Try.prog.underlying t with | some (.int k) => some k | _ => none))) = true := by kernel_rfl
theorem k30 : ((Rows.wireEndsRow.pinned == Rows.wireEndsRow.pinnedBy)) = true := by kernel_rfl
theorem k31 : ((Rows.wireEndsRow.veiled == (Try.f4.params.toList ++ Rows.wireEndsSpec.plain.varTypes Try.prog ++ Try.f4.resultTypes.toList).any (Try.prog.veiledRec ·))) = true := by kernel_rfl
theorem k32 : (Rows.wireEndsRow.veiledFits Try.prog Try.f4.params.toList (Try.f4.params.toList ++ Rows.wireEndsSpec.plain.varTypes Try.prog ++ Try.f4.resultTypes.toList)) = true := by kernel_rfl
theorem closed : joinedFacts Try.prog 4 Try.f4 Rows.wireEndsSpec Rows.wireEndsRow = true :=
  joined_mk k1 k2 k3 k4 k5 k6 k7 k8 k9 k10 k11 k12 k13 k14 k15 k16 k17 k18 k19 k20 k21 k22 k23 k24 k25 k26 k27 k28 k29 k30 k31 k32
theorem named : Try.prog.funcNamed Rows.wireEndsRow.func = some 4 := by kernel_rfl
theorem proved : Rows.WireEndsSaid :=
  OpenClaim.holds_of_wide 4 Try.f4 rfl rfl rfl rfl rfl rfl rfl ⟨rfl, rfl, rfl, rfl, rfl⟩ rfl rfl rfl rfl rfl named Try.func4 closed
    (of_decide_eq_true (by kernel_rfl)) (by unfold Func.isWrapper; rw [if_neg (by decide +kernel)]; exact ⟨rfl, rfl⟩)
    (fun os started H enc _ => lifted os started H enc)
end Go.Proofs.Ytjidbmelmcmmhab.WireEnds
