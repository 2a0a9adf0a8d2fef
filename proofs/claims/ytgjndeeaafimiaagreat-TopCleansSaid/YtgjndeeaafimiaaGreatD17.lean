/- Machine, typed functions, plain laws and walks, part 17, for TopCleans. Conditions: none but those that stand in each law. -/
import Derived.Test.YtgjndeeaafimiaaGreatD14
import Derived.Test.YtgjndeeaafimiaaGreatD16
set_option linter.all false
open Go.Proofs.Tryz
namespace Go.Ark
open Go Go.Ab Go.RowKit Go.Proofs
abbrev fe(st:Nat->Nat×Nat×Nat)(l:List aC):OP:=QD (λi s=>jt (st i) s) 0 l
theorem pV{st:Nat->Nat×Nat×Nat}:∀(i:Nat)(x:aC),bL (jt (st i) x):=λ_ _=>oM
instance(l:List aC)(i:Nat):tF prog (gL l i) 71 (λst:Nat->Nat×Nat×Nat=>fe st l) (λst=>[bZ (st i).1]) (λr=>fu 2 az r):=⟨λst r h=>by
 obtain⟨s,h1,h2⟩:=avQ.1 h;have q:=(Y0:tF prog (tC s) _ _ _ _).h (st i) r h2
 exact fc.XW pV h1 q⟩
instance(l:List aC)(i:Nat):tF prog (gF l i) 99 (λst:Nat->Nat×Nat×Nat=>fe st l) (λst=>[bZ (st i).1]) (λr=>.one (.agg (aB r))):=⟨λst r h=>by
 obtain⟨s,h1,h2⟩:=avQ.1 h;have q:=(Y0:tF prog (wT s) _ _ _ _).h (st i) r h2
 exact fc.XW pV h1 q⟩
instance(l:List aC)(i:Nat):tF prog (jf l i) 95 (λst:Nat->Nat×Nat×Nat=>fe st l) (λst=>[bZ (st i).1]) j7:=⟨λst r h=>by
 obtain⟨s,h1,h2⟩:=avQ.1 h;have q:=(Y0:tF prog (qj s) _ _ _ _).h (st i) r h2
 exact fc.XW pV h1 q⟩
instance(l:List aC)(i:Nat):tF prog (je l i) 40 (λst:Nat->Nat×Nat×Nat=>fe st l) (λst=>[bZ (st i).1]) (λr=>fu 3 ak r):=⟨λst r h=>by
 obtain⟨s,h1,h2⟩:=avQ.1 h;have q:=(Y0:tF prog (rC s) _ _ _ _).h (st i) r h2
 exact fc.XW pV h1 q⟩
instance(l:List aC)(i:Nat)(key:ByteArray):tF prog (mo l i key) 63 (λst:Nat->Nat×Nat×Nat=>fe st l) (λst=>[bZ (st i).1,fP key]) (λr=>fu 6 aj r):=⟨λst r h=>by
 obtain⟨s,h1,h2⟩:=avQ.1 h;have q:=(Y0:tF prog (rA s key) _ _ _ _).h (st i) r h2
 exact fc.XW pV h1 q⟩
instance(l:List aC)(i:Nat)(key:ByteArray):tF prog (oh l i key) 78 (λst:Nat->Nat×Nat×Nat=>fe st l) (λst=>[bZ (st i).1,fP key]) (λr=>.eV [.agg (aj r.1),.d (.v (.bool r.2.1)),.d (.v (.int .i64 r.2.2))]):=⟨λst r h=>by
 obtain⟨s,h1,h2⟩:=avQ.1 h;have q:=(Y0:tF prog (vg s key) _ _ _ _).h (st i) r h2
 exact fc.XW pV h1 q⟩
instance(l:List aC)(i:Nat):mU prog (Bi l i) 98 (λst:Nat->Nat×Nat×Nat=>fe st l) (λst(_:Unit) r=>fe st r.2) (λst=>[bZ (st i).1]) (λ_ r=>.eV [.agg (aj r.1.1),.d (.v (.bool r.1.2))]):=⟨λst r h=>by
 obtain⟨s,h1,h2⟩:=avQ.1 h;obtain⟨q,h3,h4⟩:=avQ.1 h2;cases h4;have z:=(D2:mU prog (vh s) _ _ _ _ _).h (st i) q h3
 exact fc.fam pV h1 z,λ_ _ _=>oM,⟨()⟩⟩
instance(l:List aC)(i:Nat)(pq:ai)(pins:List ah):mU prog (xP l i pq pins) 101 (λst:Nat->Nat×Nat×Nat=>fe st l) (λst(_:Unit) r=>fe st r.2) (λst=>[bZ (st i).1,.g (.agg (aB pq)),bt 3 ak pins]) (λ_ r=>.eV []):=⟨λst r h=>by
 obtain⟨s,h1,h2⟩:=avQ.1 h;obtain⟨q,h3,h4⟩:=avQ.1 h2;cases h4;have z:=(D2:mU prog (rB s pq pins) _ _ _ _ _).h (st i) q h3
 exact fc.fam pV h1 z,λ_ _ _=>oM,⟨()⟩⟩
instance(l:List aC)(i:Nat)(v:aa):mU prog (qm l i v) 96 (λst:Nat->Nat×Nat×Nat=>fe st l) (λst(_:Unit) r=>fe st r.2) (λst=>[bZ (st i).1,.g (.agg (aj v))]) (λ_ r=>j7 r.1):=⟨λst r h=>by
 obtain⟨s,h1,h2⟩:=avQ.1 h;obtain⟨q,h3,h4⟩:=avQ.1 h2;cases h4;have z:=(D2:mU prog (oW s v) _ _ _ _ _).h (st i) q h3
 exact fc.fam pV h1 z,λ_ _ _=>oM,⟨()⟩⟩
instance(l:List aC)(i:Nat)(key value:ByteArray)(gone:Bool)(past:List ah):mU prog (oY l i key value gone past) 73 (λst:Nat->Nat×Nat×Nat=>fe st l) (λst(_:Unit) r=>fe st r.2) (λst=>[bZ (st i).1,fP key,fP value,.g (.d (.v (.bool gone))),bt 3 ak past]) (λ_ r=>.eV [.agg (aj r.1.1),.d (.v (.int .i64 r.1.2))]):=⟨λst r h=>by
 obtain⟨s,h1,h2⟩:=avQ.1 h;obtain⟨q,h3,h4⟩:=avQ.1 h2;cases h4;have z:=(D2:mU prog (rD s key value gone past) _ _ _ _ _).h (st i) q h3
 exact fc.fam pV h1 z,λ_ _ _=>oM,⟨()⟩⟩
instance(l:List aC)(i:Nat)(own:List au)(vs:List aa):mU prog (Bh l i own vs) 109 (λst:Nat->Nat×Nat×Nat=>fe st l) (λst(_:Unit) r=>fe st r.2) (λst=>[bZ (st i).1,bt 2 az own,bt 6 aj vs]) (λ_ r=>.eV []):=⟨λst r h=>by
 obtain⟨s,h1,h2⟩:=avQ.1 h;obtain⟨q,h3,h4⟩:=avQ.1 h2;cases h4;have z:=(D2:mU prog (ve s own vs) _ _ _ _ _).h (st i) q h3
 exact fc.fam pV h1 z,λ_ _ _=>oM,⟨()⟩⟩
abbrev Du(x:tG):List DV:=[.sl 1 (x.keys.map encS),.sl 1 (x.sites.map ay)]
structure dm where
 b:Nat
 st:Nat->Nat×Nat×Nat
 bh:iA
abbrev amR(A:dm)(g:aD)(v:Value):List DV:=[.sl 2 (g.row.bP.map az),.sl 1 (g.row.cq.map ay),.sl 1 (g.row.aK.map ay),.sl 1 ((List.range g.n).map λi=>[pv (A.st i).1]),pv A.bh.b,
 .v (.int .i64 g.s0.Site),.sl 3 (g.s0.bz.map ak),.v (.int .i64 g.s1.Site),.sl 3 (g.s1.bz.map ak),.v (.int .i64 g.s2.Site),.sl 3 (g.s2.bz.map ak),.v (.int .i64 g.s3.Site),.sl 3 (g.s3.bz.map ak),
 .sl 1 (g.b0.keys.map encS),.sl 1 (g.b0.sites.map ay),.sl 1 (g.b1.keys.map encS),.sl 1 (g.b1.sites.map ay),.sl 1 (g.b2.keys.map encS),.sl 1 (g.b2.sites.map ay),.sl 1 (g.b3.keys.map encS),.sl 1 (g.b3.sites.map ay),
 .sl 2 (g.pins.map aS),.v v]
abbrev kF(A:dm)(g:aD)(v:Value):OP:=Sep (eu A.b 87 (amR A g v)) (Sep (Row v 56 6 (g.bg.map iJ)) (Sep (fe A.st g.sites) (mY A.bh g.bh)))
abbrev eY(A:dm)(g:aD):OP:=qA (kF A g)
theorem MV(v:Value)(l:List cZ)(r:List cZ)(hF:fA l=some r):fc prog (γ:=Unit) 31 (Row v 56 6 (l.map iJ)) (λ_=>Row v 56 6 (l.map iJ)) [.g (.d (.v v))] (λ_=>fu 6 iJ r):=by
 apply fc.iB func31 U ntmps31 U U oM hF λC0=>?_;unfold fA;cases hn:yw v
 ·exact wk
 ·refine GF.fact 1000 U (λ_ _ _ h=>h.nil hn) λhe=>?_
  obtain rfl:l= []:=by simpa using he
  refine GF.eq (F':=some []) U ?_;exact wk
instance(l:List cZ):tF prog (fA l) 31 (λv:Value=>Row v 56 6 (l.map iJ)) (λv=>[.g (.d (.v v))]) (λr=>fu 6 iJ r):=⟨λv r h=>MV v l r h⟩
instance(g:aD):tF prog (jJ g) 10 (λA:dm=>eY A g) (λA=>[bZ A.b]) (λr=>fu 6 iJ r):=Mn func10 U ntmps10 (λ_=>rfl) (λ_=>rfl) (λ_=>oM) λA r C0=>by
 refine GF.yZ 1000 U (λ_=>oM) λhv=>?_;unfold jJ;exact wk
instance(g:aD):tF prog (ady g) 15 (λA:dm=>eY A g) (λA=>[bZ A.b]) (λr=>fu 2 aS r):=Mn func15 U ntmps15 (λ_=>rfl) (λ_=>rfl) (λ_=>oM) λA r C0=>by
 refine GF.yZ 1000 U (λ_=>oM) λhv=>?_;unfold ady;exact wk
instance(g:aD)(kind cl:Int)(key:ByteArray)(s:ai)(seen:List ah):mU prog (qT g kind cl key s seen) 75 (λA:dm=>eY A g) (λ(A:dm)(_:Unit)(r:Unit×aD)=>eY A r.2) (λA=>[bZ A.b,bV kind,bV cl,fP key,.g (.agg (aB s)),bt 3 ak seen]) (λ_ r=>.eV []):=Gn func75 U ntmps75 (λ_=>rfl) (λ_=>rfl) (λ_=>oM) (λ_ _ _=>oM) λA r C0=>by
 refine GF.yZ 1000 U (λ_=>oM) λhv=>?_;unfold qT;exact wk
instance(g:aD)(from_:Int)(to:List Int)(v:aa):mU prog (pP g from_ to v) 74 (λA:dm=>eY A g) (λ(A:dm)(_:Unit)(r:Unit×aD)=>eY A r.2) (λA=>[bZ A.b,bV from_,bt 1 ay to,.g (.agg (aj v))]) (λ_ r=>.eV []):=Gn func74 U ntmps74 (λ_=>rfl) (λ_=>rfl) (λ_=>oM) (λ_ _ _=>oM) λA r C0=>by
 refine GF.yZ 1000 U (λ_=>oM) λhv=>?_;have:bT (AA g from_ to v) (λu=>⟨[(0,.one (pt A.b 0)),(1,aV from_),(7,.one (.ptr 107 0)),(10,cP 1 ay to),(11,aV to.length),(12,aV u.1)],[kO (kF A { g with bh:=u.2 } hv),(107,some (.blk 73<|dat<|aj v))]⟩):=⟨ayS⟩;unfold pP;exact wk
theorem Jj(Φ:OP)(cl:Value)(l:List Int)(p:Int->Option Bool)(om:bL Φ)(hc:cl.oneCell'=true)(i:I2 prog cl Φ (λx=>.d (.v (.int .i64 x))) (λy=>.bool y) p)(r:Int)(hF:cM l p=some r):fc prog (γ:=Unit) 183 Φ (λ_=>Φ) [bt 1 ay l,AY cl] (λ_=>j7 r):=by
 have:OM Φ:=⟨om⟩;apply fc.iB func183 U ntmps183 U U oM hF λC0=>?_;have:bT (jE l p) (λn=>⟨[(0,cP 1 ay l),(1,.one (dv cl)),(7,aV l.length),(8,aV n)],[kO Φ]⟩):=⟨ayS⟩;unfold cM;exact wk
instance(l:List Int)(p:Int->Option Bool):QH prog (cM l p) 183 (.d (.sl 1 (List.map ay l))) (λx=>.d (.v (.int .i64 x))) (λy=>.bool y) p j7:=⟨λΦ cl om hc i r h=>Jj Φ cl l p om hc i r h⟩
theorem FH(Φ:OP)(cl:Value)(l:List Int)(p:Int->Option Bool)(om:bL Φ)(hc:cl.oneCell'=true)(i:I2 prog cl Φ (λx=>.d (.v (.int .i64 x))) (λy=>.bool y) p)(r:Bool)(hF:bX l p=some r):fc prog (γ:=Unit) 124 Φ (λ_=>Φ) [bt 1 ay l,AY cl] (λ_=>bH r):=by
 have:OM Φ:=⟨om⟩;apply fc.iB func124 U ntmps124 U U oM hF λC0=>?_;unfold bX;exact wk
instance(l:List Int)(p:Int->Option Bool):QH prog (bX l p) 124 (.d (.sl 1 (List.map ay l))) (λx=>.d (.v (.int .i64 x))) (λy=>.bool y) p bH:=⟨λΦ cl om hc i r h=>FH Φ cl l p om hc i r h⟩
abbrev V0(A:dm)(g:aD)(v:Value)(from_:Int)(n1 n2:Nat):OP:=Sep (Sep (kF A g v) (eu n1 31 [pv A.b])) (eu n2 3 [.v (.int .i64 from_)])
theorem adl(A:dm)(g:aD)(v:Value)(from_:Int)(n1 n2:Nat)(s:Int)(r:Bool)(hF:vR g from_ s=some r):fc prog (γ:=Unit) 125 (V0 A g v from_ n1 n2) (λ_=>V0 A g v from_ n1 n2) [bV s,AY (.pointer (some ⟨n1,0,none⟩)),AY (.pointer (some ⟨n2,0,none⟩))] (λ_=>bH r):=by
 apply fc.iB func125 U ntmps125 U U oM hF λC0=>?_;unfold vR;exact wk
instance(A:dm)(g:aD)(v:Value)(from_:Int)(n1 n2:Nat):I2 prog (.func (.func 125) #[] #[.pointer (some ⟨n1,0,none⟩),.pointer (some ⟨n2,0,none⟩)]) (V0 A g v from_ n1 n2) (λx:Int=>.d (.v (.int .i64 x))) (λy=>.bool y) (vR g from_):=⟨125,cI,λx=>⟨_,U,λy h=>adl A g v from_ n1 n2 x y h⟩⟩
theorem VQ(A:dm)(hv:Value)(g:aD)(from_:Int)(to:List Int)(r:Bool)(hF:vQ g from_ to=some r):fc prog (γ:=Unit) 72 (kF A g hv) (λ_=>kF A g hv) [bZ A.b,bV from_,bt 1 ay to] (λ_=>bH r):=by
 apply fc.iB func72 U ntmps72 U U oM hF λC0=>?_;have:∀n1 n2,VSC (V0 A g hv from_ n1 n2) (λ_:Unit=>kF A g hv):=λn1 n2=>⟨VS.trans (VS.drop oM)<|VS.drop oM⟩;unfold vQ;exact wkn
instance(g:aD)(from_:Int)(to:List Int):Z8 prog (vQ g from_ to) 72 (λ(A:dm) v=>kF A g v) (λA=>[bZ A.b,bV from_,bt 1 ay to]) bH:=⟨λ_ v r h=>VQ _ v g from_ to r h⟩
theorem Kz{c:Int}(h:(decide (0<=c)&&decide (c<4))=true):c=0\/c=1\/c=2\/c=3:=by simp at h;omega
def Dy(_:dm)(g:aD)(s:Int):Option Nat:=idx (List.range g.n) s
theorem UK(A:dm)(g:aD)(s:Int):O0 g s=Dy A g s:=by
 unfold O0 Dy;by_cases h1:s<0
 ·simp[h1,idx,show ¬0<=s by omega]
 ·by_cases h2:(g.n:Int)<=s
  ·have:(List.range g.n)[s.toNat]? =none:=by simp;omega
   simp[h1,h2,idx,this]
  ·simp[h1,h2]
variable{g:aD}{s:Int}
theorem UJ(h:idx (List.range g.n) s=none):Dx g s=some ():=by
 unfold Dx;by_cases h1:s<0
 ·simp[h1]
 ·by_cases h2:(g.n:Int)<=s
  ·simp[h1,h2]
  ·simp only[idx,show 0<=s by omega,avM]at h
   simp at h;omega
set_option maxHeartbeats 4000000 in
theorem ZH(A:dm)(g:aD)(s:Int)(r:Unit)(hF:Dx g s=some r):fc prog (γ:=Unit) 39 (eY A g) (λ_=>eY A g) [bZ A.b,bV s] (λ_=>.one (.d (.v (.pointer none)))):=by
 apply fc.iB func39 U ntmps39 U U oM hF λC0=>?_;refine GF.yZ 1000 U (λ_=>oM) λhv=>?_;unfold Dx;exact wk
set_option maxHeartbeats 4000000 in
theorem ZJ(A:dm)(g:aD)(s:Int)(r:Nat)(hF:Dy A g s=some r):fc prog (γ:=Unit) 39 (eY A g) (λ_=>eY A g) [bZ A.b,bV s] (λ_=>.one (.d (.v (.pointer (some ⟨(A.st r).1,0,none⟩))))):=by
 rw[<-UK]at hF;apply fc.iB func39 U ntmps39 U U oM hF λC0=>?_;refine GF.yZ 1000 U (λ_=>oM) λhv=>?_;unfold O0;exact wk
instance(g:aD)(s:Int):tF prog (Dx g s) 39 (λA:dm=>eY A g) (λA=>[bZ A.b,bV s]) (λ_=>.one (.d (.v (.pointer none)))):=⟨λ_ r h=>ZH _ g s r h⟩
instance(A:dm)(g:aD)(s:Int):tF prog (Dy A g s) 39 (λ_:Unit=>eY A g) (λ_=>[bZ A.b,bV s]) (λr=>.one (.d (.v (.pointer (some ⟨(A.st r).1,0,none⟩))))):=⟨λ_ r h=>ZJ A g s r h⟩
section
variable{nt:Nat}{R:Type}{C0:Cx prog nt}{Q:R->Exit->Act->World->Prop}{r:R}{k:List KI}{sl:SL}{hp:HL}
theorem Wp{F:Option R}(h:idx (List.range g.n) s=none)(hk:GF C0 Q r ((Dx g s).bind λ_=>F) k ⟨sl,hp⟩):GF C0 Q r F k ⟨sl,hp⟩:=GF.eq (by rw[UJ h];rfl) hk
theorem Wq{body:Nat->Option R}(A:dm){i:Nat}(h:idx (List.range g.n) s=some i)(hk:GF C0 Q r ((Dy A g s).bind body) k ⟨sl,hp⟩):GF C0 Q r (body i) k ⟨sl,hp⟩:=GF.eq (by rw[Dy,h];rfl) hk
end
set_option maxHeartbeats 4000000 in
instance(g:aD)(o_:aI):mU prog (jw g o_) 52 (λA:dm=>eY A g) (λ(A:dm)(_:Unit)(r:aA×aD)=>eY A r.2) (λA=>[bZ A.b,.g (.agg (bQ o_))]) (λ_ r=>.one (.agg (aU r.1))):=Gn func52 U ntmps52 (λ_=>rfl) (λ_=>rfl) (λ_=>oM) (λ_ _ _=>oM) λA r C0=>by
 refine GF.yZ 1000 U (λ_=>oM) λhv=>?_;unfold jw;refine GF.nL λh=>?_;obtain⟨kind,cl,site,to,at_,how,key,value,keys,row⟩:=o_;rcases Kz h with h | h | h | h<;>(simp only at h;subst h;exact wk)
set_option maxHeartbeats 4000000 in
instance(g:aD)(o_:aI):mU prog (iE g o_) 58 (λA:dm=>eY A g) (λ(A:dm)(_:Unit)(r:aA×aD)=>eY A r.2) (λA=>[bZ A.b,.g (.agg (bQ o_))]) (λ_ r=>.one (.agg (aU r.1))):=Gn func58 U ntmps58 (λ_=>rfl) (λ_=>rfl) (λ_=>oM) (λ_ _ _=>oM) λA r C0=>by
 refine GF.yZ 1000 U (λ_=>oM) λhv=>?_;unfold iE;cases h:idx (List.range g.n) o_.Site with
 | none=>dsimp only;exact Wp h wk
 | some i=>dsimp only;exact Wq (body:=CE g) A h wk
set_option maxHeartbeats 4000000 in
instance(g:aD)(o_:aI):mU prog (uT g o_) 57 (λA:dm=>eY A g) (λ(A:dm)(_:Unit)(r:aA×aD)=>eY A r.2) (λA=>[bZ A.b,.g (.agg (bQ o_))]) (λ_ r=>.one (.agg (aU r.1))):=Gn func57 U ntmps57 (λ_=>rfl) (λ_=>rfl) (λ_=>oM) (λ_ _ _=>oM) λA r C0=>by
 refine GF.yZ 1000 U (λ_=>oM) λhv=>?_;unfold uT;exact wk
set_option maxHeartbeats 4000000 in
instance(g:aD)(o_:aI):mU prog (kN g o_) 51 (λA:dm=>eY A g) (λ(A:dm)(_:Unit)(r:aA×aD)=>eY A r.2) (λA=>[bZ A.b,.g (.agg (bQ o_))]) (λ_ r=>.one (.agg (aU r.1))):=Gn func51 U ntmps51 (λ_=>rfl) (λ_=>rfl) (λ_=>oM) (λ_ _ _=>oM) λA r C0=>by
 refine GF.yZ 1000 U (λ_=>oM) λhv=>?_;unfold kN;refine GF.nL λh=>?_;obtain⟨kind,cl,site,to,at_,how,key,value,keys,row⟩:=o_;rcases Kz h with h | h | h | h<;>(simp only at h;subst h;exact wk)
set_option maxHeartbeats 4000000 in
instance(g:aD)(o_:aI):mU prog (fk g o_) 53 (λA:dm=>eY A g) (λ(A:dm)(_:Unit)(r:aA×aD)=>eY A r.2) (λA=>[bZ A.b,.g (.agg (bQ o_))]) (λ_ r=>.one (.agg (aU r.1))):=Gn func53 U ntmps53 (λ_=>rfl) (λ_=>rfl) (λ_=>oM) (λ_ _ _=>oM) λA r C0=>by
 refine GF.yZ 1000 U (λ_=>oM) λhv=>?_;unfold fk;refine GF.nL λh=>?_;cases hs:idx (List.range g.n) o_.Site with
 | none=>dsimp only;exact Wp hs wk
 | some i=>
  dsimp only;refine Wq (body:=CD g o_) A hs ?_;obtain⟨kind,cl,site,to,at_,how,key,value,keys,row⟩:=o_;rcases Kz h with h | h | h | h<;>(simp only at h;subst h;exact wk)
section
attribute [local go_sem] ayz
abbrev JL(b:Nat)(q:bq):OP:=eu b 240 (Cy q)
instance(q:bq)(end_:Int)(ok:Bool):mU prog (ei q end_ ok) 162 (λb:Nat=>JL b q) (λ(b:Nat)(_:Unit)(r:bq)=>JL b r) (λb=>[bZ b,bV end_,.g (.d (.v (.bool ok)))]) (λ_ r=>.eV []):=Gn func162 U ntmps162 (λ_=>rfl) (λ_=>rfl) (λ_=>oM) (λ_ _ _=>oM) λb r C0=>by
 unfold ei;exact wk
instance(q:bq)(most:Int):mU prog (jG q most) 158 (λb:Nat=>JL b q) (λ(b:Nat)(_:Unit)(r:bq×ByteArray)=>JL b r.1) (λb=>[bZ b,bV most]) (λ_ r=>KS r.2):=Gn func158 U ntmps158 (λ_=>rfl) (λ_=>rfl) (λ_=>oM) (λ_ _ _=>oM) λb r C0=>by
 unfold jG;exact wk
instance(q:bq)(most:Int):mU prog (j0 q most) 159 (λb:Nat=>JL b q) (λ(b:Nat)(_:Unit)(r:bq×Int)=>JL b r.1) (λb=>[bZ b,.g (.d (.v (.int .u64 most)))]) (λ_ r=>j7 r.2):=Gn func159 U ntmps159 (λ_=>rfl) (λ_=>rfl) (λ_=>oM) (λ_ _ _=>oM) λb r C0=>by
 unfold j0;exact M4
set_option maxHeartbeats 1000000 in
theorem FI(b:Nat)(q:bq)(r:bq×Bool)(hF:mT q=some r):fc prog (γ:=Unit) 163 (JL b q) (λ_=>JL b r.1) [bZ b] (λ_=>bH r.2):=by
 refine⟨λM w O vs hM hO hP hl ha=>?_⟩;obtain⟨v,rfl⟩:∃v,vs= [v]:=by
  match vs,hl with
  | [v],_=>exact⟨v,U⟩
 have hv:RD (λb o=>M b o\/False) w v (.v<|.pointer<|some ⟨b,0,none⟩):=ha 0 _ v U U;obtain rfl:=RD.aX hv;obtain⟨-,arr,h2,-,h4⟩:=id hP;have c:∀j x,(Cy q)[j]? =some (.v x)->w.cell? ⟨b,j,none⟩=some x:=λj x hj=>by
  obtain⟨u,h5,h6⟩:=h4 j _ hj;rw[kj h2,h5,RD.aX h6]
 obtain⟨s,at_,bad⟩:=q;have c0:=c 0 _ U;have c1:=c 1 _ U;have c2:=c 2 _ U;suffices h:Calls prog 163 #[.pointer (some ⟨b,0,none⟩)] w λe w'=>e= .returned (.bool r.2)/\r.1=⟨s,at_,bad⟩/\cU (λ_=>False) w w' by
  refine h.mono ?_;rintro e w' ⟨rfl,hr,hk⟩;have UO:∀b,O b->b<w.heap.size:=λb hb=>hM b 0 (hO b hb 0);refine⟨(),_,U,O,⟨hk.os,hk.tape,hk.output,hk.size,λk hk' _=>hk.block k hk' id⟩,λb hb=>.inl hb,λb hb=>avE (UO b hb) hk.size,?_,RD.v _ U⟩;rw[hr];exact(oM:bL (JL b ⟨s,at_,bad⟩)).mono hP (λb hb=>hk.block b (UO b hb) id) λb o x hno hx=>⟨by rw[awh (w:=w) (a:=⟨b,o,none⟩) (hk.block b (cz hx) id)];exact hx,λq=>hno<|q.elim (λq=>q.1) λq=>hO b q o⟩
 have mixed:=follows;cases bad with
 | true=>
  cases hF;go_enter func163,ntmps163
  go_wp2
  go_region
  go_wp2
  go_ret;exact⟨az9,az9,rfl,rfl,rfl,Nat.le_refl _,λ_ _ _=>rfl⟩
 | false=>
  cases hF;go_enter func163,ntmps163
  go_wp2
  go_region
  go_wp2
  go_ret;exact⟨az9,az9,rfl,rfl,rfl,Nat.le_refl _,λ_ _ _=>rfl⟩
instance(q:bq):mU prog (mT q) 163 (λb:Nat=>JL b q) (λ(b:Nat)(_:Unit)(r:bq×Bool)=>JL b r.1) (λb=>[bZ b]) (λ_ r=>bH r.2):=⟨λ_ r h=>FI _ q r h,λ_ _ _=>oM,⟨()⟩⟩
instance(s:ByteArray):dW prog (mS s) 94 [fP s] (λr=>.eV [.agg (aj r.1),.d (.v (.bool r.2))]):=fV func94 U ntmps94 U U λr C0=>by
 refine GF.pre (λa w q=>q.D5 1000 U U) ?_;unfold mS
 repeat' (first
  | (show SG (.box 240 _);first | refine tQ 1000 U U U U ayX λ_=>?_)
  | refine qG ?_
  | refine qF ?_
  | refine rJ ?_
  | refine rG ?_ ?_
  | exact pq
  | intro _)
end
end Go.Ark
