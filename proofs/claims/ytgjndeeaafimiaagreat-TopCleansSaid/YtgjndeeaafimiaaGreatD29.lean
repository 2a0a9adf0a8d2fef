/- TopCleans: whatever the input, the law answers true, and its input reads as it did. Conditions: none. -/
import Derived.SizedLaws
import Derived.Test.YtgjndeeaafimiaaGreatD28
import Derived.Test.YtgjndeeaafimiaaGreatRows
set_option linter.all false
/- TopCleans: whatever the input, the law answers true, and its input reads as it did. Conditions: none. -/
set_option maxRecDepth 20000
namespace Go.Proofs.YtgjndeeaafimiaaGreat.TopCleans
open Go Go.Ab Go.Ark Go.RowKit Go.ChangeShapes Go.WideShapes Go.ChangeAt
theorem own:ownKnob Tryz.prog.godebug=none:=by kernel_rfl
theorem laidOut:laidOutB Tryz.prog=true:=by kernel_rfl
theorem EB:gh Tryz.prog 24 lf Cw LV:=
 gh.struct Tryz.underlying24 (nc.cons (size:=1) (gh.slice (size:=1) Tryz.underlying22 (gh.int Tryz.underlying3) (by kernel_rfl) (fun _=>rfl) rfl (by kernel_rfl)) (nc.cons (size:=1) (gh.slice (size:=1) Tryz.underlying22 (gh.int Tryz.underlying3) (by kernel_rfl) (fun _=>rfl) rfl (by kernel_rfl)) (nc.cons (size:=1) (gh.slice (size:=1) Tryz.underlying22 (gh.int Tryz.underlying3) (by kernel_rfl) (fun _=>rfl) rfl (by kernel_rfl)) nc.nil rfl (by kernel_rfl) rfl) rfl (by kernel_rfl) rfl) rfl (by kernel_rfl) rfl) (by kernel_rfl) (fun x=>lf.mk x.1 x.2.1 x.2.2.1) _ (fun _=>rfl) (fun x h=>⟨h.1,h.2.1,h.2.2.1⟩)
theorem PO:gh Tryz.prog 38 mH vK ZN:=
 gh.struct Tryz.underlying38 (nc.cons (size:=1) (gh.int Tryz.underlying3) (nc.cons (size:=1) (gh.int Tryz.underlying3) (nc.cons (size:=1) (gh.int Tryz.underlying3) (nc.cons (size:=1) (gh.int Tryz.underlying3) (nc.cons (size:=1) (gh.int Tryz.underlying3) (nc.cons (size:=1) (gh.int Tryz.underlying3) (nc.cons (size:=1) (gh.int Tryz.underlying3) (nc.cons (size:=1) (gh.int Tryz.underlying3) (nc.cons (size:=1) (gh.slice (size:=1) Tryz.underlying22 (gh.int Tryz.underlying3) (by kernel_rfl) (fun _=>rfl) rfl (by kernel_rfl)) (nc.cons (size:=3) EB nc.nil rfl (by kernel_rfl) rfl) rfl (by kernel_rfl) rfl) rfl (by kernel_rfl) rfl) rfl (by kernel_rfl) rfl) rfl (by kernel_rfl) rfl) rfl (by kernel_rfl) rfl) rfl (by kernel_rfl) rfl) rfl (by kernel_rfl) rfl) rfl (by kernel_rfl) rfl) rfl (by kernel_rfl) rfl) (by kernel_rfl) (fun x=>mH.mk x.1 x.2.1 x.2.2.1 x.2.2.2.1 x.2.2.2.2.1 x.2.2.2.2.2.1 x.2.2.2.2.2.2.1 x.2.2.2.2.2.2.2.1 x.2.2.2.2.2.2.2.2.1 x.2.2.2.2.2.2.2.2.2.1) _ (fun _=>rfl) (fun x h=>⟨h.1,h.2.1,h.2.2.1,h.2.2.2.1,h.2.2.2.2.1,h.2.2.2.2.2.1,h.2.2.2.2.2.2.1,h.2.2.2.2.2.2.2.1,h.2.2.2.2.2.2.2.2.1,h.2.2.2.2.2.2.2.2.2.1⟩)
theorem contract(H:Type)(enc:TypeId×Value→H)(W:World)(base:Nat)(args:Array Value)(ds gs:List (DataW H))(before:List MemPlace)
  (hval:∀(j:Nat) t v,Tryz.f4.params[j]? =some t→args[j]? =some v→Value.okWide Tryz.prog W .any base t v)
  (hW:DataW.Whole enc Tryz.prog Tryz.f4.params.toList Rows.topCleansSpec.vars false W args.toList ds gs before)
  (hz:(DataW.weightsEach Tryz.prog (Tryz.f4.params.toList++Rows.topCleansSpec.plain.varTypes Tryz.prog) (ds++gs)).all (·≤reachBytes)=true):
  Calls Tryz.prog 4 args W fun e W'=>∃v,e= .returned v∧Rows.topCleansSpec.post enc Tryz.prog Tryz.f4 false true false false W args v W':=by
 have hW':=hW
 obtain⟨p,q,hA0,hV,rfl,hfz,hnd⟩:=hW
 have hA:DataW.TrodAll enc Tryz.prog W 0 (fun _=>true) true Tryz.f4.params.toList args.toList ds p:=hA0
 rw[Tryz.params4]at hA hval hz
 obtain⟨v0,vs0,d0,ds0,p0,q0,hargs,rfl,rfl,h0,r0⟩:=trodAll_cons hA
 obtain⟨v1,vs1,d1,ds1,p1,q1,rfl,rfl,rfl,h1,r1⟩:=trodAll_cons r0
 obtain⟨rfl,rfl,rfl⟩:=trodAll_nil r1
 obtain rfl:args= #[v0,v1]:=by cases args;simp_all
 obtain⟨rfl,rfl⟩:=trodVars_none hV
 clear hA0
 obtain⟨x0,_,a0⟩:=EB.Xz Tryz.underlying24 (hval 0 _ v0 rfl rfl) h0 (nQ hz 0 _ _ rfl rfl)
 obtain⟨x1,_,a1⟩:=(gh.slice (size:=12) Tryz.underlying25 PO (by kernel_rfl) (fun _=>rfl) rfl (by kernel_rfl)).aam Tryz.underlying25 (hval 1 _ v1 rfl rfl) h1 (nQ hz 1 _ _ rfl rfl)
 have hc:=(adJ x0 x1 true (aeB x0 x1)).go (fun _ _=>False) (fun _=>False) W [v0,v1] (fun _ _ h=>h.elim) (fun _ h=>h.elim) rfl (ajX a0 (args1 a1))
 refine hc.mono fun e W'⟨v,he,hk,hr⟩=>?_
 have hb:=hk.toBelow
 have hlt:=hW'.lt
 subst he
 refine⟨_,rfl,⟨_,_,_,[],p0++(p1++ []),[],hW',?_,?_,rfl,hb.frame _,fun h=>by cases h⟩⟩
 ·rw[RD.aX hr]
  exact trodAll_cons_mk (shut_bool Tryz.underlying4 _) trodAll_mk0
 ·exact trodAll_cons_mk (Below.trod laidOut (by kernel_rfl) (of_decide_eq_true (by kernel_rfl)) h0 hb (fun x hx=>hlt x (by simp[hx])))
   (trodAll_cons_mk (Below.trod laidOut (by kernel_rfl) (of_decide_eq_true (by kernel_rfl)) h1 hb (fun x hx=>hlt x (by simp[hx])))
   trodAll_mk0)
set_option maxRecDepth 100000 in
theorem lifted(os:Os)(started:os.Started)(H:Type)(enc:TypeId×Value→H):
  ReturnsInHanded {} Tryz.checked os 4 .any (Rows.topCleansSpec.pre6 enc Tryz.prog Tryz.f4 Rows.topCleansRow.domain false) (Rows.topCleansSpec.post enc Tryz.prog Tryz.f4 false true false false):=by
 refine returnsInHanded_of_change_sized (C:=Tryz.checked) own started (by kernel_rfl) Tryz.func4
  (ChangeSpec.witness6 (enc:=enc) (C:=Tryz.checked) false ⟨#[],#[.agg #[.slice none 0 0,.slice none 0 0,.slice none 0 0],.slice none 0 0],[]⟩ 8 (by kernel_rfl) (by kernel_rfl) (by kernel_rfl) (by kernel_rfl)) ?_
 intro W base args ds gs before hval hW _ hz _
 exact contract H enc W base args ds gs before hval hW hz
theorem k1:(Rows.topCleansRow.wf (OpenSpec.ofChange Rows.topCleansSpec))=true:=by kernel_rfl
theorem k2:(laidOutB Tryz.prog)=true:=by kernel_rfl
theorem k3:(mapsRowed Tryz.prog)=true:=by kernel_rfl
theorem k4:(Tryz.f4.params.all (Tryz.prog.readableRec ·))=true:=by kernel_rfl
theorem k5:(namedTie Tryz.prog Rows.topCleansRow.named Rows.topCleansSpec.vars)=true:=by kernel_rfl
theorem k6:((Rows.topCleansRow.stops== []))=true:=by kernel_rfl
theorem k7:((Tryz.prog.stops== []))=true:=by kernel_rfl
theorem k8:((Rows.topCleansRow.knobs== []))=true:=by kernel_rfl
theorem k9:((Tryz.prog.stopKnobs== []))=true:=by kernel_rfl
theorem k10:((Rows.topCleansRow.inPlace==Tryz.prog.inPlace 4))=true:=by kernel_rfl
theorem k11:((Rows.topCleansRow.unfollowed==Tryz.prog.unfollowed 4))=true:=by kernel_rfl
theorem k12:((Rows.topCleansRow.recurses==Tryz.prog.recurses 4))=true:=by kernel_rfl
theorem k13:((Rows.topCleansRow.named==Tryz.prog.varsNamed 4))=true:=by kernel_rfl
theorem k14:((Rows.topCleansRow.maps==(Tryz.f4.params.toList++Rows.topCleansSpec.plain.varTypes Tryz.prog).any (Tryz.prog.mapsRec ·)))=true:=by kernel_rfl
theorem k15:((Rows.topCleansRow.ifaces==(Tryz.f4.params.toList++Rows.topCleansSpec.plain.varTypes Tryz.prog).any (Tryz.prog.ifacesRec ·)))=true:=by kernel_rfl
theorem k16:((Rows.topCleansRow.mapsOut==Tryz.prog.mapsAmong Tryz.f4.resultTypes.toList))=true:=by kernel_rfl
theorem k17:((Rows.topCleansRow.loops==(Tryz.f4.params.toList++Rows.topCleansSpec.plain.varTypes Tryz.prog).any (Tryz.prog.loopsFrom ·)))=true:=by kernel_rfl
theorem k18:((Rows.topCleansRow.wideKeys==(Tryz.f4.params.toList++Rows.topCleansSpec.plain.varTypes Tryz.prog++Tryz.f4.resultTypes.toList).any (Tryz.prog.wideKeysFrom ·)))=true:=by kernel_rfl
theorem k19:(Rows.topCleansSpec.vars.all (Tryz.prog.varReadable ·))=true:=by kernel_rfl
theorem k20:(Tryz.f4.resultTypes.all (fun t=>Tryz.prog.readableRec t&&decide (t<Tryz.prog.types.size)))=true:=by kernel_rfl
theorem k21:((Rows.topCleansRow.ifacesOut==Tryz.f4.resultTypes.toList.any (Tryz.prog.ifacesRec ·)))=true:=by kernel_rfl
theorem k22:((Rows.topCleansRow.loopsOut==Tryz.f4.resultTypes.toList.any (Tryz.prog.loopsFrom ·)))=true:=by kernel_rfl
theorem k23:((Rows.topCleansRow.plainKeys==Tryz.prog.plainKeys))=true:=by kernel_rfl
theorem k24:(Rows.topCleansRow.shortTexts.isNone)=true:=by kernel_rfl
theorem k25:(Tryz.prog.stopsHeard)=true:=by kernel_rfl
theorem k26:(Tryz.prog.mayEnter)=true:=by kernel_rfl
theorem k27:((Rows.topCleansRow.lifted==Tryz.prog.liftsFinal))=true:=by kernel_rfl
theorem k28:((Tryz.prog.make==some Rows.topCleansRow.make))=true:=by kernel_rfl
theorem k29:((Rows.topCleansRow.kinds==(if Rows.topCleansRow.domain.isEmpty then[]else Tryz.f4.params.toList.map fun t=>match Tryz.prog.underlying t with | some (.int k)=>some k | _=>none)))=true:=by kernel_rfl
theorem k30:((Rows.topCleansRow.pinned==Rows.topCleansRow.pinnedBy))=true:=by kernel_rfl
theorem k31:((Rows.topCleansRow.veiled==(Tryz.f4.params.toList++Rows.topCleansSpec.plain.varTypes Tryz.prog++Tryz.f4.resultTypes.toList).any (Tryz.prog.veiledRec ·)))=true:=by kernel_rfl
theorem k32:(Rows.topCleansRow.veiledFits Tryz.prog Tryz.f4.params.toList (Tryz.f4.params.toList++Rows.topCleansSpec.plain.varTypes Tryz.prog++Tryz.f4.resultTypes.toList))=true:=by kernel_rfl
theorem closed:joinedFacts Tryz.prog 4 Tryz.f4 Rows.topCleansSpec Rows.topCleansRow=true:=
 Yx k1 k2 k3 k4 k5 k6 k7 k8 k9 k10 k11 k12 k13 k14 k15 k16 k17 k18 k19 k20 k21 k22 k23 k24 k25 k26 k27 k28 k29 k30 k31 k32
theorem named:Tryz.prog.funcNamed Rows.topCleansRow.func=some 4:=by kernel_rfl
theorem proved:Rows.TopCleansSaid:=
 OpenClaim.holds_of_wide 4 Tryz.f4 rfl rfl rfl rfl rfl rfl rfl ⟨rfl,rfl,rfl,rfl,rfl⟩ rfl rfl rfl rfl rfl named Tryz.func4 closed
  (of_decide_eq_true (by kernel_rfl)) (by unfold Func.isWrapper;rw[if_neg (by decide +kernel)];exact⟨rfl,rfl⟩)
  (fun os started H enc _=>lifted os started H enc)
end Go.Proofs.YtgjndeeaafimiaaGreat.TopCleans
