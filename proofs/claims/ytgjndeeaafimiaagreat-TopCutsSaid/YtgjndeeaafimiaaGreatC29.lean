/- TopCuts: whatever the input, the law answers true, and its input reads as it did. Conditions: none. -/
import Derived.Test.YtgjndeeaafimiaaGreatC25
import Derived.SizedLaws
import Derived.Test.YtgjndeeaafimiaaGreatC28
import Derived.Test.YtgjndeeaafimiaaGreatRows
set_option linter.all false
/- TopCuts: whatever the input, the law answers true, and its input reads as it did. Conditions: none. -/
set_option maxRecDepth 20000
namespace Go.Proofs.YtgjndeeaafimiaaGreat.TopCuts
open Go Go.Ab Go.Ark Go.RowKit Go.ChangeShapes Go.WideShapes Go.ChangeAt
theorem own:ownKnob Tryz.prog.godebug=none:=by kernel_rfl
theorem laidOut:laidOutB Tryz.prog=true:=by kernel_rfl
theorem EB:gh Tryz.prog 24 lf Cw LV:=
 gh.struct Tryz.underlying24 (nc.cons (size:=1) (gh.slice (size:=1) Tryz.underlying22 (gh.int Tryz.underlying3) (by kernel_rfl) (fun _=>rfl) rfl (by kernel_rfl)) (nc.cons (size:=1) (gh.slice (size:=1) Tryz.underlying22 (gh.int Tryz.underlying3) (by kernel_rfl) (fun _=>rfl) rfl (by kernel_rfl)) (nc.cons (size:=1) (gh.slice (size:=1) Tryz.underlying22 (gh.int Tryz.underlying3) (by kernel_rfl) (fun _=>rfl) rfl (by kernel_rfl)) nc.nil rfl (by kernel_rfl) rfl) rfl (by kernel_rfl) rfl) rfl (by kernel_rfl) rfl) (by kernel_rfl) (fun x=>lf.mk x.1 x.2.1 x.2.2.1) _ (fun _=>rfl) (fun x h=>⟨h.1,h.2.1,h.2.2.1⟩)
theorem PO:gh Tryz.prog 38 mH vK ZN:=
 gh.struct Tryz.underlying38 (nc.cons (size:=1) (gh.int Tryz.underlying3) (nc.cons (size:=1) (gh.int Tryz.underlying3) (nc.cons (size:=1) (gh.int Tryz.underlying3) (nc.cons (size:=1) (gh.int Tryz.underlying3) (nc.cons (size:=1) (gh.int Tryz.underlying3) (nc.cons (size:=1) (gh.int Tryz.underlying3) (nc.cons (size:=1) (gh.int Tryz.underlying3) (nc.cons (size:=1) (gh.int Tryz.underlying3) (nc.cons (size:=1) (gh.slice (size:=1) Tryz.underlying22 (gh.int Tryz.underlying3) (by kernel_rfl) (fun _=>rfl) rfl (by kernel_rfl)) (nc.cons (size:=3) EB nc.nil rfl (by kernel_rfl) rfl) rfl (by kernel_rfl) rfl) rfl (by kernel_rfl) rfl) rfl (by kernel_rfl) rfl) rfl (by kernel_rfl) rfl) rfl (by kernel_rfl) rfl) rfl (by kernel_rfl) rfl) rfl (by kernel_rfl) rfl) rfl (by kernel_rfl) rfl) rfl (by kernel_rfl) rfl) (by kernel_rfl) (fun x=>mH.mk x.1 x.2.1 x.2.2.1 x.2.2.2.1 x.2.2.2.2.1 x.2.2.2.2.2.1 x.2.2.2.2.2.2.1 x.2.2.2.2.2.2.2.1 x.2.2.2.2.2.2.2.2.1 x.2.2.2.2.2.2.2.2.2.1) _ (fun _=>rfl) (fun x h=>⟨h.1,h.2.1,h.2.2.1,h.2.2.2.1,h.2.2.2.2.1,h.2.2.2.2.2.1,h.2.2.2.2.2.2.1,h.2.2.2.2.2.2.2.1,h.2.2.2.2.2.2.2.2.1,h.2.2.2.2.2.2.2.2.2.1⟩)
theorem contract(H:Type)(enc:TypeId×Value→H)(W:World)(base:Nat)(args:Array Value)(ds gs:List (DataW H))(before:List MemPlace)
  (hval:∀(j:Nat) t v,Tryz.f3.params[j]? =some t→args[j]? =some v→Value.okWide Tryz.prog W .any base t v)
  (hW:DataW.Whole enc Tryz.prog Tryz.f3.params.toList Rows.topCutsSpec.vars false W args.toList ds gs before)
  (hz:(DataW.weightsEach Tryz.prog (Tryz.f3.params.toList++Rows.topCutsSpec.plain.varTypes Tryz.prog) (ds++gs)).all (·≤reachBytes)=true):
  Calls Tryz.prog 3 args W fun e W'=>∃v,e= .returned v∧Rows.topCutsSpec.post enc Tryz.prog Tryz.f3 false true false false W args v W':=by
 have hW':=hW
 obtain⟨p,q,hA0,hV,rfl,hfz,hnd⟩:=hW
 have hA:DataW.TrodAll enc Tryz.prog W 0 (fun _=>true) true Tryz.f3.params.toList args.toList ds p:=hA0
 rw[Tryz.params3]at hA hval hz
 obtain⟨v0,vs0,d0,ds0,p0,q0,hargs,rfl,rfl,h0,r0⟩:=trodAll_cons hA
 obtain⟨v1,vs1,d1,ds1,p1,q1,rfl,rfl,rfl,h1,r1⟩:=trodAll_cons r0
 obtain⟨rfl,rfl,rfl⟩:=trodAll_nil r1
 obtain rfl:args= #[v0,v1]:=by cases args;simp_all
 obtain⟨rfl,rfl⟩:=trodVars_none hV
 clear hA0
 obtain⟨x0,_,a0⟩:=EB.Xz Tryz.underlying24 (hval 0 _ v0 rfl rfl) h0 (nQ hz 0 _ _ rfl rfl)
 obtain⟨x1,_,a1⟩:=(gh.slice (size:=12) Tryz.underlying25 PO (by kernel_rfl) (fun _=>rfl) rfl (by kernel_rfl)).aam Tryz.underlying25 (hval 1 _ v1 rfl rfl) h1 (nQ hz 1 _ _ rfl rfl)
 have hc:=(J3 x0 x1 true (TN x0 x1)).go (fun _ _=>False) (fun _=>False) W [v0,v1] (fun _ _ h=>h.elim) (fun _ h=>h.elim) rfl (ajX a0 (args1 a1))
 refine hc.mono fun e W'⟨v,he,hk,hr⟩=>?_
 have hb:=hk.toBelow
 have hlt:=hW'.lt
 subst he
 refine⟨_,rfl,⟨_,_,_,[],p0++(p1++ []),[],hW',?_,?_,rfl,hb.frame _,fun h=>by cases h⟩⟩
 ·rw[RD.aX hr]
  exact trodAll_cons_mk (shut_bool Tryz.underlying4 _) trodAll_mk0
 ·exact trodAll_cons_mk (Below.trod laidOut (by kernel_rfl) (of_decide_eq_true (by kernel_rfl)) h0 hb (fun x hx=>hlt x (by simp[hx])))
   (trodAll_cons_mk (Below.trod laidOut (by kernel_rfl) (of_decide_eq_true (by kernel_rfl)) h1 hb (fun x hx=>hlt x (by simp[hx])))
   trodAll_mk0)
set_option maxRecDepth 100000 in
theorem lifted(os:Os)(started:os.Started)(H:Type)(enc:TypeId×Value→H):
  ReturnsInHanded {} Tryz.checked os 3 .any (Rows.topCutsSpec.pre6 enc Tryz.prog Tryz.f3 Rows.topCutsRow.domain false) (Rows.topCutsSpec.post enc Tryz.prog Tryz.f3 false true false false):=by
 refine returnsInHanded_of_change_sized (C:=Tryz.checked) own started (by kernel_rfl) Tryz.func3
  (ChangeSpec.witness6 (enc:=enc) (C:=Tryz.checked) false ⟨#[],#[.agg #[.slice none 0 0,.slice none 0 0,.slice none 0 0],.slice none 0 0],[]⟩ 8 (by kernel_rfl) (by kernel_rfl) (by kernel_rfl) (by kernel_rfl)) ?_
 intro W base args ds gs before hval hW _ hz _
 exact contract H enc W base args ds gs before hval hW hz
theorem k1:(Rows.topCutsRow.wf (OpenSpec.ofChange Rows.topCutsSpec))=true:=by kernel_rfl
theorem k2:(laidOutB Tryz.prog)=true:=by kernel_rfl
theorem k3:(mapsRowed Tryz.prog)=true:=by kernel_rfl
theorem k4:(Tryz.f3.params.all (Tryz.prog.readableRec ·))=true:=by kernel_rfl
theorem k5:(namedTie Tryz.prog Rows.topCutsRow.named Rows.topCutsSpec.vars)=true:=by kernel_rfl
theorem k6:((Rows.topCutsRow.stops== []))=true:=by kernel_rfl
theorem k7:((Tryz.prog.stops== []))=true:=by kernel_rfl
theorem k8:((Rows.topCutsRow.knobs== []))=true:=by kernel_rfl
theorem k9:((Tryz.prog.stopKnobs== []))=true:=by kernel_rfl
theorem k10:((Rows.topCutsRow.inPlace==Tryz.prog.inPlace 3))=true:=by kernel_rfl
theorem k11:((Rows.topCutsRow.unfollowed==Tryz.prog.unfollowed 3))=true:=by kernel_rfl
theorem k12:((Rows.topCutsRow.recurses==Tryz.prog.recurses 3))=true:=by kernel_rfl
theorem k13:((Rows.topCutsRow.named==Tryz.prog.varsNamed 3))=true:=by kernel_rfl
theorem k14:((Rows.topCutsRow.maps==(Tryz.f3.params.toList++Rows.topCutsSpec.plain.varTypes Tryz.prog).any (Tryz.prog.mapsRec ·)))=true:=by kernel_rfl
theorem k15:((Rows.topCutsRow.ifaces==(Tryz.f3.params.toList++Rows.topCutsSpec.plain.varTypes Tryz.prog).any (Tryz.prog.ifacesRec ·)))=true:=by kernel_rfl
theorem k16:((Rows.topCutsRow.mapsOut==Tryz.prog.mapsAmong Tryz.f3.resultTypes.toList))=true:=by kernel_rfl
theorem k17:((Rows.topCutsRow.loops==(Tryz.f3.params.toList++Rows.topCutsSpec.plain.varTypes Tryz.prog).any (Tryz.prog.loopsFrom ·)))=true:=by kernel_rfl
theorem k18:((Rows.topCutsRow.wideKeys==(Tryz.f3.params.toList++Rows.topCutsSpec.plain.varTypes Tryz.prog++Tryz.f3.resultTypes.toList).any (Tryz.prog.wideKeysFrom ·)))=true:=by kernel_rfl
theorem k19:(Rows.topCutsSpec.vars.all (Tryz.prog.varReadable ·))=true:=by kernel_rfl
theorem k20:(Tryz.f3.resultTypes.all (fun t=>Tryz.prog.readableRec t&&decide (t<Tryz.prog.types.size)))=true:=by kernel_rfl
theorem k21:((Rows.topCutsRow.ifacesOut==Tryz.f3.resultTypes.toList.any (Tryz.prog.ifacesRec ·)))=true:=by kernel_rfl
theorem k22:((Rows.topCutsRow.loopsOut==Tryz.f3.resultTypes.toList.any (Tryz.prog.loopsFrom ·)))=true:=by kernel_rfl
theorem k23:((Rows.topCutsRow.plainKeys==Tryz.prog.plainKeys))=true:=by kernel_rfl
theorem k24:(Rows.topCutsRow.shortTexts.isNone)=true:=by kernel_rfl
theorem k25:(Tryz.prog.stopsHeard)=true:=by kernel_rfl
theorem k26:(Tryz.prog.mayEnter)=true:=by kernel_rfl
theorem k27:((Rows.topCutsRow.lifted==Tryz.prog.liftsFinal))=true:=by kernel_rfl
theorem k28:((Tryz.prog.make==some Rows.topCutsRow.make))=true:=by kernel_rfl
theorem k29:((Rows.topCutsRow.kinds==(if Rows.topCutsRow.domain.isEmpty then[]else Tryz.f3.params.toList.map fun t=>match Tryz.prog.underlying t with | some (.int k)=>some k | _=>none)))=true:=by kernel_rfl
theorem k30:((Rows.topCutsRow.pinned==Rows.topCutsRow.pinnedBy))=true:=by kernel_rfl
theorem k31:((Rows.topCutsRow.veiled==(Tryz.f3.params.toList++Rows.topCutsSpec.plain.varTypes Tryz.prog++Tryz.f3.resultTypes.toList).any (Tryz.prog.veiledRec ·)))=true:=by kernel_rfl
theorem k32:(Rows.topCutsRow.veiledFits Tryz.prog Tryz.f3.params.toList (Tryz.f3.params.toList++Rows.topCutsSpec.plain.varTypes Tryz.prog++Tryz.f3.resultTypes.toList))=true:=by kernel_rfl
theorem closed:joinedFacts Tryz.prog 3 Tryz.f3 Rows.topCutsSpec Rows.topCutsRow=true:=
 Yx k1 k2 k3 k4 k5 k6 k7 k8 k9 k10 k11 k12 k13 k14 k15 k16 k17 k18 k19 k20 k21 k22 k23 k24 k25 k26 k27 k28 k29 k30 k31 k32
theorem named:Tryz.prog.funcNamed Rows.topCutsRow.func=some 3:=by kernel_rfl
theorem proved:Rows.TopCutsSaid:=
 OpenClaim.holds_of_wide 3 Tryz.f3 rfl rfl rfl rfl rfl rfl rfl ⟨rfl,rfl,rfl,rfl,rfl⟩ rfl rfl rfl rfl rfl named Tryz.func3 closed
  (of_decide_eq_true (by kernel_rfl)) (by unfold Func.isWrapper;rw[if_neg (by decide +kernel)];exact⟨rfl,rfl⟩)
  (fun os started H enc _=>lifted os started H enc)
end Go.Proofs.YtgjndeeaafimiaaGreat.TopCuts
