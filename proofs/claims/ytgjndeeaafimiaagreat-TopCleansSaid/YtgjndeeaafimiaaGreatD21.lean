/- Machine, typed functions, plain laws and walks, part 21, for TopCleans. Conditions: none but those that stand in each law. -/
import Derived.Test.YtgjndeeaafimiaaGreatD18
set_option linter.all false
open Go.Proofs.Tryz
namespace Go.Ark
open Go Go.Ab Go.RowKit Go.Proofs
instance:EZ prog 99 [.v (.int .i64 0),.v (.slice none 0 0)]:=⟨_,_,_,S1,⟨.v _ U,.v _ U,ayS⟩,U⟩
instance:EZ prog 84 [.v (.slice none 0 0),.v (.slice none 0 0)]:=⟨_,_,_,Zt,⟨.v _ U,.v _ U,ayS⟩,U⟩
theorem VS.ahj{Φ X:OP}{B:Value->OP}{v:Value}(h:Φ=Sep (B v) X)(om:∀v,bL (B v)):VS Φ (λ_:Unit=>qA B):=by
 subst h;exact VS.trans (VS.drop<|om v) VS.yZ
abbrev Xp(A:dm)(g:aD)(hv:Value)(n5 n6:Nat)(c1:Int)(ks:List ByteArray)(ds:List ah)(ss:List Int)(v5 v6:Value):OP:=
 Sep (Sep (Sep (kF A g hv)<|eu n5 99 [.v (.int .i64 c1),.v v5])<|eu n6 84 [.sl 1 (ks.map encS),.v v6]) (Sep (Row v5 101 3<|ds.map ak)<|Row v6 3 1<|ss.map ay)
theorem ad3(A:dm)(g:aD)(hv:Value)(n5 n6:Nat)(c1:Int)(ks:List ByteArray)(ds:List ah)(ss:List Int)(v5 v6:Value):VS (Xp A g hv n5 n6 c1 ks ds ss v5 v6) (λ_:Unit=>Sep (Sep (kF A g hv) (eu n5 99 [.v (.int .i64 c1),.sl 3 (ds.map ak)])) (eu n6 84 [.sl 1 (ks.map encS),.sl 1 (ss.map ay)])):=by
 refine VS.trans (VS.eq (B:=Sep (Sep (Sep (Sep (kF A g hv)<|eu n6 84 [.sl 1 (ks.map encS),.v v6])<|Row v6 3 1<|ss.map ay)<|eu n5 99 [.v (.int .i64 c1),.v v5])<|Row v5 101 3<|ds.map ak) (by unfold Xp;generalize kF A g hv=G;ac_rfl)) ?_;refine VS.trans (VS.frz (cs':=[.v (.int .i64 c1),.sl 3 (ds.map ak)]) oM U λj d hj=>?_) ?_
 ·match j with
  | 0=>exact .inl hj
  | 1=>simp at hj;exact .inr ⟨U,hj.symm⟩
  | j+2=>simp at hj
 refine VS.trans (VS.eq (B:=Sep (Sep (Sep (kF A g hv)<|eu n5 99 [.v (.int .i64 c1),.sl 3 (ds.map ak)])<|eu n6 84 [.sl 1 (ks.map encS),.v v6])<|Row v6 3 1<|ss.map ay) (by generalize kF A g hv=G;ac_rfl)) ?_;refine VS.frz oM U λj d hj=>?_
 match j with
 | 0=>exact .inl hj
 | 1=>simp at hj;exact .inr ⟨U,hj.symm⟩
 | j+2=>simp at hj
abbrev aao(A:dm)(n5 n6:Nat):SL:=[(0,.one (pt A.b 0)),(3,.one (.ptr 103 0)),(4,.one (.ptr 104 0)),(5,.one (pt n5 0)),(6,.one (pt n6 0))]
abbrev aan(o:aI):HL:=[(103,some (.blk 36 (dat (bQ o)))),(104,some (.blk 49 (dat (aU ⟨0,[]⟩))))]
theorem Md{g:aD}{o:aI}{ks:List ByteArray}{ds:List ah}{ss:List Int}{l:List aa}(A:dm)(hv:Value)(n5 n6:Nat)(c1:Int):EX (lH g o ks ds ss l)
 ⟨(7,.one (.own 107<|l.map aj))::aao A n5 n6,(1000,some (.obj<|qA λv5=>qA λv6=>Xp A g hv n5 n6 c1 ks ds ss v5 v6))::(107,some (.row 73 6 (l.map aj) true))::aan o⟩
 ⟨(7,cP 6 aj l)::aao A n5 n6,(1000,some (.obj<|Sep (kF A g hv)<|eu n5 99 [.v (.int .i64 c1),.sl 3 (ds.map ak)]))::(1001,some (.obj<|eu n6 84 [.sl 1 (ks.map encS),.sl 1 (ss.map ay)]))::aan o⟩:=⟨λC0 a w q=>by
 obtain⟨v5,q⟩:=q.yZ 1000 U (λ_=>oM);obtain⟨v6,q⟩:=q.yZ 1000 U (λ_=>oM);exact(((q.vs 1000 U (ad3 A g hv n5 n6 c1 ks ds ss v5 v6) oM).D5 1001 U U).split 1000 1001 U U U oM oM).aev 7 U U ⟨U,U,U,U,U,ayS⟩ ⟨U,U,U,U,ayS⟩ U U⟩
theorem ad2{p:Prop}(h:p:=by
 repeat' (first
  | (show SG (.assign _);first | refine eo U U ?_ | refine gC U uU iI U U U ?_)
  | (show SG (.alloc _);first | refine iK 1000 U zR U U ayX λ_=>?_)
  | (show SG (.build _ _);first | refine jr U zR lI U U U ?_)
  | refine qG ?_
  | refine qF ?_
  | refine rJ ?_
  | refine rG ?_ ?_
  | exact pq
  | intro _
  | (show GF _ _ _ _ _ _;first | exact s8 1000 _ U U VS.new1 (by((repeat(first | refine cH.tmp U ?_ | refine cH.own U U ?_ | refine cH.fH uU U U U U ?_ | refine cH.e6 uU iI U U U U U ?_));first | exact cH.nil | fail)) U | exact s8 1000 (_,_) U U VS.new2 (by((repeat(first | refine cH.tmp U ?_ | refine cH.own U U ?_ | refine cH.fH uU U U U U ?_ | refine cH.e6 uU iI U U U U U ?_));first | exact cH.nil | fail)) U | exact s8 1000 (_,_) U U VS.YG (by((repeat(first | refine cH.tmp U ?_ | refine cH.own U U ?_ | refine cH.fH uU U U U U ?_ | refine cH.e6 uU iI U U U U U ?_));first | exact cH.nil | fail)) U | exact s8 1000 _ U U (VS.newR ayZ U) (by((repeat(first | refine cH.tmp U ?_ | refine cH.own U U ?_ | refine cH.fH uU U U U U ?_ | refine cH.e6 uU iI U U U U U ?_));first | exact cH.nil | fail)) U))
 rename_i n5 ks _ n6;have:=λds ss l=>Md (g:=g) (o:=oc) (ks:=ks) (ds:=ds) (ss:=ss) (l:=l) A hv n5 n6 (IntKind.wrap .i64<|c+1);refine GF.aR (λv:Int×List ah×List Int×List aa=>⟨(7,.one (.own 107<|v.2.2.2.map aj))::(30,cP 1 encS keys)::(31,aV keys.length)::(32,aV v.1)::aao A n5 n6,(1000,some (.obj<|qA λv5=>qA λv6=>Xp A g hv n5 n6 (IntKind.wrap .i64<|c+1) ks v.2.1 v.2.2.1 v5 v6))::(107,some (.row 73 6 (v.2.2.2.map aj) true))::aan oc⟩) (λa w q=>?_) (λK again v cW=>?_)
 ·refine(q.vs 1000 U (B:=Xp A g hv n5 n6 (IntKind.wrap .i64<|c+1) ks [] [] (.slice none 0 0)<|.slice none 0 0) (VS.same λM w O h=>⟨(),?_⟩) oM).Vd 1000 U U (λ_=>oM) oM ⟨U,U,U,U,U,U,U,U,U,ayS⟩ ⟨U,U,U,ayS⟩ U
  unfold Xp;rw[<-C8];exact Lx ayZ (Lx ayZ h)
 repeat' (first
  | (show SG (.load _ _);first | refine Re 1001 U uU iI U U U Jo U U U ?_)
  | (show SG (.assign _);first | refine eo U U ?_ | refine gC U uU iI U U U ?_)
  | (show SG (.alloc _);first | refine iK 1000 U zR U U ayX λ_=>?_)
  | (show SG (.build _ _);first | refine jr U zR lI U U U ?_)
  | refine qG ?_
  | refine qF ?_
  | refine rJ ?_
  | refine rG ?_ ?_
  | exact pq
  | intro _
  | (show GF _ _ _ _ _ _;first | exact s8 1000 _ U U VS.new1 (by((repeat(first | refine cH.tmp U ?_ | refine cH.own U U ?_ | refine cH.fH uU U U U U ?_ | refine cH.e6 uU iI U U U U U ?_));first | exact cH.nil | fail)) U | exact s8 1000 (_,_) U U VS.new2 (by((repeat(first | refine cH.tmp U ?_ | refine cH.own U U ?_ | refine cH.fH uU U U U U ?_ | refine cH.e6 uU iI U U U U U ?_));first | exact cH.nil | fail)) U | exact s8 1000 (_,_) U U VS.YG (by((repeat(first | refine cH.tmp U ?_ | refine cH.own U U ?_ | refine cH.fH uU U U U U ?_ | refine cH.e6 uU iI U U U U U ?_));first | exact cH.nil | fail)) U | exact s8 1000 _ U U (VS.newR ayZ U) (by((repeat(first | refine cH.tmp U ?_ | refine cH.own U U ?_ | refine cH.fH uU U U U U ?_ | refine cH.e6 uU iI U U U U U ?_));first | exact cH.nil | fail)) U))
 all_goals exact Sv 1000 U U (VS.ahj U λ_=>oM) (λ_=>cH.e6 uU iI U U U U U cH.nil) (λ_=>rfl)):p:=h
set_option maxHeartbeats 4000000 in
instance(g:aD)(o_:aI):mU prog (fh g o_) 54 (λA:dm=>eY A g) (λ(A:dm)(_:Unit)(r:aA×aD)=>eY A r.2) (λA=>[bZ A.b,.g (.agg (bQ o_))]) (λ_ r=>.one (.agg (aU r.1))):=Gn func54 U ntmps54 (λ_=>rfl) (λ_=>rfl) (λ_=>oM) (λ_ _ _=>oM) λA r C0=>by
 refine GF.yZ 1000 U (λ_=>oM) λhv=>?_;unfold fh;refine GF.nL λh=>?_;obtain⟨kind,cl,site,to,at_,how,key,value,keys,row⟩:=o_;rcases Kz h with h | h | h | h<;>(simp only at h;subst h)
 ·let c:Int:=0;let oc:aI:=⟨kind,0,site,to,at_,how,key,value,keys,row⟩;exact ad2
 ·let c:Int:=1;let oc:aI:=⟨kind,1,site,to,at_,how,key,value,keys,row⟩;exact ad2
 ·let c:Int:=2;let oc:aI:=⟨kind,2,site,to,at_,how,key,value,keys,row⟩;exact ad2
 ·let c:Int:=3;let oc:aI:=⟨kind,3,site,to,at_,how,key,value,keys,row⟩;exact ad2
end Go.Ark
