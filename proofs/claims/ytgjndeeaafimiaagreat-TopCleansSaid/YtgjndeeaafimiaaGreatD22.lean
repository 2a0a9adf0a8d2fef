/- Machine, typed functions, plain laws and walks, part 22, for TopCleans. Conditions: none but those that stand in each law. -/
import Derived.Test.YtgjndeeaafimiaaGreatD18
set_option linter.all false
open Go.Proofs.Tryz
namespace Go.Ark
open Go Go.Ab Go.RowKit Go.Proofs
theorem L3(c:aF)(r:aF)(hF:nX c=some r):Ct prog 25 [.g (.agg (bf c))] (.one (.agg (bf r))):=by
 refine Ct.iB (R:=aF) (res:=λr=>.one<|.agg<|bf r) func25 U ntmps25 U U hF λC0=>?_;unfold nX;exact wk
instance(c:aF):dW prog (nX c) 25 [.g (.agg (bf c))] (λr=>.one (.agg (bf r))):=⟨L3 c⟩
theorem VX(st:Nat->Nat×Nat×Nat)(Φ:OP)(cl:Value)(l:List Nat)(p:Nat->Option Bool)(om:bL Φ)(hc:cl.oneCell'=true)(i:I2 prog cl Φ (λx=>.d (pv (st x).1)) (λy=>.bool y) p)(r:Int)(hF:zY st l p=some r):fc prog (γ:=Unit) 171 Φ (λ_=>Φ) [.g (.d (.sl 1 (l.map λx=>[pv (st x).1]))),AY cl] (λ_=>j7 r):=by
 have:OM Φ:=⟨om⟩;apply fc.iB func171 U ntmps171 U U oM hF λC0=>?_;have:bT (FB l p) (λn=>⟨[(0,.one (.g<|.d<|.sl 1<|l.map λx=>[pv (st x).1])),(1,.one (dv cl)),(7,aV l.length),(8,aV n)],[kO Φ]⟩):=⟨ayS⟩;unfold zY;exact wk
instance(st:Nat->Nat×Nat×Nat)(l:List Nat)(p:Nat->Option Bool):QH prog (zY st l p) 171 (.d (.sl 1 (l.map λx=>[pv (st x).1]))) (λx=>.d (pv (st x).1)) (λy=>.bool y) p j7:=⟨λΦ cl om hc i r h=>VX st Φ cl l p om hc i r h⟩
theorem Tc(st:Nat->Nat×Nat×Nat)(Φ:OP)(cl:Value)(l:List Nat)(p:Nat->Option Bool)(om:bL Φ)(hc:cl.oneCell'=true)(i:I2 prog cl Φ (λx=>.d (pv (st x).1)) (λy=>.bool y) p)(r:Bool)(hF:oX st l p=some r):fc prog (γ:=Unit) 104 Φ (λ_=>Φ) [.g (.d (.sl 1 (l.map λx=>[pv (st x).1]))),AY cl] (λ_=>bH r):=by
 have:OM Φ:=⟨om⟩;apply fc.iB func104 U ntmps104 U U oM hF λC0=>?_;unfold oX;exact wk
instance(st:Nat->Nat×Nat×Nat)(l:List Nat)(p:Nat->Option Bool):QH prog (oX st l p) 104 (.d (.sl 1 (l.map λx=>[pv (st x).1]))) (λx=>.d (pv (st x).1)) (λy=>.bool y) p bH:=⟨λΦ cl om hc i r h=>Tc st Φ cl l p om hc i r h⟩
theorem adm(A:dm)(g:aD)(hv:Value)(i:Nat)(r:Bool)(hF:FJ g i=some r):fc prog (γ:=Unit) 105 (kF A g hv) (λ_=>kF A g hv) [.g (.d (pv (A.st i).1))] (λ_=>bH r):=by
 apply fc.iB func105 U ntmps105 U U oM hF λC0=>?_;unfold FJ;exact wk
instance(A:dm)(g:aD)(hv:Value):I2 prog (.func (.func 105) #[] #[]) (kF A g hv) (λx:Nat=>.d (pv (A.st x).1)) (λy=>.bool y) (FJ g):=⟨105,cI,λx=>⟨_,U,λy h=>adm A g hv x y h⟩⟩
section
variable{P:Program}{nt:Nat}{R:Type}{C0:Cx P nt}{Q:R->Exit->Act->World->Prop}{r:R}{m:Ab.Mode}{k:List KI}{ops:Array Oper}{rest:List Oper}{sl:SL}{hp:HL}{dst:Nat}{ty:TypeId}{pos:String}{af:Array Edge}{gd:Option (Nat×Bool)}{x y:Operand}{Φ:OP}
theorem Nk(kk:Nat){α X Y:Type}{Fx:Option α}{f:α->Option R}{g fn:Nat}{a:AG}{enc:X->AG}{val:Y->Value}{p:X->Option Y}{res:α->RS}{tys:Array TypeId}(hg:bD ops sl gd=true)(i:QH P Fx g a enc val p res)(c:cG P g)
  (hx:aN sl x=some (.g a)) (hh:aE hp kk=some (.obj Φ)) (j:I2 P (.func (.func fn) #[] #[]) Φ enc val p) (om:bL Φ) (hd:Nat.blt dst nt=true)
  (hk:∀u',Fx=some u'->GO C0 Q r (f u') (m.add ⟨gH ops gd++ey x (.g a),[(kk,some (.obj Φ))],[(dst,(res u').sv)],[]⟩) ops rest k ⟨(dst,(res u').sv)::sl,hp⟩):GO C0 Q r (Fx.bind f) m ops (Oo dst (gO g [x,.func fn] tys) ty pos af gd::rest) k ⟨sl,hp⟩:=
 GO.bind λu' za=>by
  obtain⟨e1,q1⟩:=aJ hx;refine GO.stepG (Rs:=ey x<|.g a) (Rh:=[(kk,some (.obj Φ))]) (Ws:=[(dst,(res u').sv)]) (Wh:=[]) (λsl hp hs hh a' w K Q qq hK=>?_) hg q1 ⟨hh,ayS⟩ (hk u' za);obtain⟨M,O,A⟩:=dL qq hh.1;have h1:=A.one e1 hs;have Me:=i.h Φ (.func (.func fn) #[] #[]) om U j u' za;unfold Oper.wp;rw[qh c];refine(Me.go M w O ([x,.func fn].map a'.eval) A.lt A.own A.obj U λi g v h2 h3=>?_).mono ?_
  ·match i with
   | 0=>simp at h2 h3;subst h2 h3;exact GR.less (λb o c=>c.resolve_right id) h1
   | 1=>simp at h2 h3;subst h2 h3;exact RD.v _ U
   | i+2=>simp at h2
  ·rintro e w' ⟨_,v,rfl,O',p1,p2,p3,p4,p5⟩
   refine hK _ _ (((A.next Φ O' w' A.om p1 p2 p3 p4).2 dst (res u') v ay1 p5).ext (λ_=>rfl) λk=>?_);simp only;rw[aG];split
   ·rename_i c;subst c;exact hh.1
   ·rfl
end
abbrev KB:Int->Value:=λn=>Value.int .i64 n
abbrev agW:Value->AG:=λv=>.d (.v v)
instance:adM prog 193 3 47 KB:=⟨underlying193,BK.int underlying3⟩
instance{x:Int}:adL KB (.d (.v (.int .i64 x))) x:=⟨λ_ _ _ h=>RD.aX h⟩
abbrev Jb(vs:Int->Value)(come:dX):List (Int×Value):=come.map λe=>(e.1,vs e.1)
abbrev Fw(vs:Int->Value)(e:Int×List aa):OP:=Row (vs e.1) 73 6 (e.2.map aj)
def ZT(m:Nat)(come:dX):OP:=qA λvs:Int->Value=>Sep (tJ m (cm KB agW (Jb vs come))) (Dr (come.map (Fw vs)))
variable{vs:Int->Value}
theorem WS{l:dX}:bL (Dr (l.map (Fw vs))):=Sa λB hB=>by
 obtain⟨e,_,rfl⟩:=avT.1 hB;exact oM
instance{vs:Int->Value}{l:dX}:OM (Dr (l.map (Fw vs))):=⟨WS⟩
instance{m:Nat}{come:dX}:OM (ZT m come):=⟨agr λ_=>uh Pz WS⟩
abbrev afb:Value:=.slice none 0 0
abbrev CmO(m:Nat)(come:dX)(k:Int)(vs:Int->Value):OP:=Sep (tJ m (cm KB agW (Jb vs come))) (Sep (Row ((bx (Jb vs come) k).getD afb) 73 6 (((bx come k).getD []).map aj)) (Dr ((jR come k).map (Fw vs))))
variable{k:Int}{come:dX}
theorem WL:bx (Jb vs come) k=(bx come k).map λ_=>vs k:=CN (f:=λk _=>vs k)
theorem aea(m:Nat)(come:dX)(k:Int){M:Nat->Nat->Prop}{w:World}{O:Nat->Prop}(q:ZT m come M w O):∃vs,CmO m come k vs M w O:=by
 obtain⟨vs,q⟩:=q;refine⟨vs,tj (λ_ _ _ z=>z) (λ_ _ _ z=>?_) q⟩;cases h:bx come k with
 | none=>
  rw[WL,h,DF h];exact FA (Lx ayZ z)
 | some l=>
  rw[WL,h];exact JS (g:=λk l=>Fw vs (k,l)) h z
theorem acg{vs:Int->Value}{k:Int}{v':Value}{q:List aa}:∀{come:dX},bx (jR come k) k=none->Jb (λi=>if i=k then v' else vs i) (cw come k q)=cw (Jb vs come) k v'
 | [],_=>by simp[Jb,cw]
 | (a,b)::l,h=>by
  by_cases c:a=k
  ·subst c
   simp only[jR,avk]at h;simp only[cw,avk,Jb,avV];congr 1;exact awK λe he=>by simp[CM h he]
  ·simp only[jR,avj c,bx]at h
   simp only[cw,avj c,Jb,avV];congr 1;exact acg h
theorem Lo{vs:Int->Value}{k:Int}{v':Value}{q:List aa}:∀{come:dX},bx (jR come k) k=none->∀{M:Nat->Nat->Prop}{w:World}{O:Nat->Prop},Sep (Row v' 73 6 (q.map aj)) (Dr ((jR come k).map (Fw vs))) M w O->Dr ((cw come k q).map (Fw λi=>if i=k then v' else vs i)) M w O
 | [],_,M,w,O,z=>by simpa[cw,jR,Dr,Fw]using z
 | (a,b)::l,h,M,w,O,z=>by
  by_cases c:a=k
  ·subst c
   simp only[jR,avk]at h z;simp only[cw,avk,avV];have e:(l.map<|Fw λi=>if i=a then v' else vs i)=l.map (Fw vs):=awK λe he=>by simp[Fw,CM h he]
   show Sep (Row (if a=a then v' else vs a) 73 6 _) (Dr _) M w O;rw[avk rfl,e];exact z
  ·simp only[jR,avj c,bx]at h
   simp only[jR,avj c]at z;simp only[cw,avj c,avV];show Sep (Row (if a=k then v' else vs a) 73 6 _) (Dr _) M w O;rw[avj c];exact tj (λ_ _ _ z=>z) (λ_ _ _ z=>Lo h z) (LA (show Sep _ (Sep (Row (vs a) 73 6 _)<|Dr _) M w O from z))
variable{m:Nat}
theorem aay{v':Value}{q:List aa}(h:bx (jR come k) k=none){M:Nat->Nat->Prop}{w:World}{O:Nat->Prop}(z:Sep (tJ m (cm KB agW (cw (Jb vs come) k v'))) (Sep (Row v' 73 6 (q.map aj)) (Dr ((jR come k).map (Fw vs)))) M w O):ZT m (cw come k q) M w O:=
 ⟨λi=>if i=k then v' else vs i,by show Sep (tJ m<|cm KB agW<|Jb (λi=>if i=k then v' else vs i)<|cw come k q) _ M w O;rw[acg h];exact tj (λ_ _ _ z=>z) (λ_ _ _ z=>Lo h z) z⟩
variable{X:OP}
theorem ahh(hX:bL X):VS (Sep X (ZT m come)) (λ_:Unit=>Sep X (tJ m (cm KB adS come))):=by
 rintro M w O _ hO ⟨O1,O2,h1,h2,h3,vs,O3,O4,h4,h5,⟨h6,es,n,h7,h8,h9,h10,h11⟩,h12⟩;have hm:∀b o,((M b o/\¬O b)\/(O1 b\/O3 b))->M b o:=λb o c=>by
  rcases c with c | c | c
  ·exact c.1
  ·exact hO b ((h1 b).2<|.inl c) o
  ·exact hO b ((h1 b).2<|.inr<|(h4 b).2<|.inl c) o
 refine⟨(),λb=>O1 b\/O3 b,λb c=>(h1 b).2<|c.imp id λc=>(h4 b).2<|.inl c,O1,O3,λ_=>axE,λb c d=>h2 b c<|(h4 b).2<|.inl d,hX.mono h3 (λ_ _=>rfl) λb o x hn hx=>⟨hx,λc=>hn<|hm b o c⟩,h6,es,n,h7,by simpa using h8,λi e he=>?_,h10,h11⟩;simp only[cm,avL,awd]at he;obtain⟨y,hy,rfl⟩:=he;obtain⟨x,q1,q2,q3⟩:=h9 i (KB y.1,agW (vs y.1)) (by simp[cm,hy]);refine⟨x,q1,q2,?_⟩;have hx:x.val=vs y.1:=RD.aX q3;obtain⟨O5,O6,h13,h14,h15,h16⟩:=Hs (l:=come.map<|Fw vs) (i:=i) (A:=Fw vs y) (by simp[hy]) h12;rw[hx];exact h15.data (M':=λb o=>(M b o/\¬O b)\/(O1 b\/O3 b)) hm λb o c d=>by
  have d4:=(h13 b).2 (.inl d)
  rcases c with c | c | c
  ·exact c.2 ((h1 b).2<|.inr<|(h4 b).2<|.inr d4)
  ·exact h2 b c ((h4 b).2<|.inr d4)
  ·exact h5 b c d4
theorem VS.ahk{Φ:OP}{B:Value->OP}{v:Value}(h:Φ=Sep (B v) X)(om:∀v,bL (B v)):VS Φ (λ_:Unit=>qA B):=by
 subst h;exact VS.trans (VS.drop<|om v) VS.yZ
theorem XG{v':Value}{q:List aa}(h:(bx (jR come k) k).isNone=true):VS (Sep X (Sep (tJ m (cm KB agW (cw (Jb vs come) k v'))) (Sep (Row v' 73 6 (q.map aj)) (Dr ((jR come k).map (Fw vs)))))) (λ_:Unit=>Sep X (ZT m (cw come k q))):=
 VS.same λ_ _ _ z=>⟨(),tj (λ_ _ _ z=>z) (λ_ _ _ z=>aay (Option.isNone_iff_eq_none.1 h) z) z⟩
abbrev rwS(A:dm)(m:Nat):SL:=[(0,.one (pt A.b 0)),(3,.one (.ptr 103 0)),(4,.one (.ptr 104 0)),(6,.one (dv (.map (some m))))]
abbrev rwH(o:aI):HL:=[(103,some (.blk 36 (dat (bQ o)))),(104,some (.blk 49 (dat (aU ⟨0,[]⟩))))]
abbrev rwP(plan:List aW)(a:Int):SL:=[(53,cP 4 lz plan),(54,aV plan.length),(55,aV a)]
abbrev rwQ(A:dm)(i:Nat)(hs:List ah)(j:Int):SL:=[(8,.one (.ptr 108 0)),(9,.one (dv (.pointer (some ⟨(A.st i).1,0,none⟩)))),(68,cP 3 ak hs),(69,aV hs.length),(70,aV j)]
theorem Y7{g:aD}{o:aI}{plan:List aW}{mv:aW}{i:Nat}{hs:List ah}{a j:Int}{d:ah}{again:Int×dX->Option (aA×aD)}(A:dm)(hv:Value)(m:Nat):EX (Lq g plan mv i hs a j d again come)
 ⟨(11,.one (.ptr 111 0))::(rwS A m++(rwP plan a++rwQ A i hs j)),(1000,some (.obj<|Sep (kF A g hv)<|ZT m come))::(108,some (.blk 197<|dat<|lz mv))::(111,some (.blk 101<|dat<|ak d))::rwH o⟩
 ⟨(11,.one (.ptr 111 0))::(rwS A m++(rwP plan a++rwQ A i hs j)),(1000,some (.obj<|qA λvs=>Sep (kF A g hv)<|CmO m come mv.To vs))::(1000,some (.obj<|Sep (kF A g hv)<|ZT m come))::(108,some (.blk 197<|dat<|lz mv))::(111,some (.blk 101<|dat<|ak d))::rwH o⟩:=⟨λ_ _ _ q=>
 q.vs 1000 U (VS.same λM w O q=>by
  obtain⟨O1,O2,h1,h2,h3,h4⟩:=q;obtain⟨vs,h5⟩:=aea m come mv.To h4;exact⟨(),vs,O1,O2,h1,h2,h3,h5⟩) oM⟩
theorem Y8{g:aD}{o:aI}(A:dm)(hv:Value)(m:Nat):EX (Lp g o come)
 ⟨rwS A m,(1000,some (.obj<|Sep (kF A g hv)<|ZT m come))::rwH o⟩
 ⟨rwS A m,(1000,some (.obj<|Sep (kF A g hv)<|tJ m<|cm KB adS come))::(1000,some (.obj<|Sep (kF A g hv)<|ZT m come))::rwH o⟩:=⟨λ_ _ _ q=>q.vs 1000 U (ahh oM) oM⟩
set_option maxHeartbeats 4000000 in
theorem VU(A:dm)(g:aD)(o_:aI)(r:aA×aD)(hF:ni g o_=some r):fc prog (γ:=Unit) 60 (eY A g) (λ_=>eY A r.2) [bZ A.b,.g (.agg (bQ o_))] (λ_=>.one (.agg (aU r.1))):=by
 apply fc.iB func60 U ntmps60 U U oM hF λC0=>?_;refine GF.yZ 1000 U (λ_=>oM) λhv=>?_;refine GF.eq (F':=(fW g.row o_.Row).bind λf=>if !f then told g 1 else
  (oX A.st (List.range g.n)<|FJ g).bind λw=>if w then told g 17 else(ny g.bh).bind λid=>if !id then told g 17 else if decide (0<(g.pins.length:Int))then told g 17 else
  (nW g.row o_.Row).bind λplan=>aR (H6 g o_ plan) FU (0,[])) U ?_
 repeat' (first
  | (show SG (.lookup _ _ _ _);first | refine Dv 1000 afb U U U mI U kI iI (λ_ _=>RD.v _ U) U kbI U ?_)
  | (show SG (.call _);first | refine Nk 1000 U soI cI U U coI oM U λ_ _=>?_)
  | refine qG ?_
  | refine qF ?_
  | refine rJ ?_
  | refine rG ?_ ?_
  | exact pq
  | intro _)
 rename_i m plan _;have:=λcome=>Y8 (g:=g) (o:=o_) (come:=come) A hv m;have:=λmv i hs a j d again come=>Y7 (g:=g) (o:=o_) (plan:=plan) (mv:=mv) (i:=i) (hs:=hs) (a:=a) (j:=j) (d:=d) (again:=again) (come:=come) A hv m;have:=λmv i hs a kx=>(⟨ayS⟩:bT (Ln g plan mv i hs a kx) (λv=>⟨rwS A m++(rwP plan a++rwQ A i hs v.1),(1000,some (.obj<|Sep (kF A g hv)<|ZT m v.2))::(108,some (.blk 197<|dat<|lz mv))::rwH o_⟩));have:=λcome=>(⟨ayS⟩:bT (P4 g o_ come) (λv=>⟨(96,.one (.g<|.d<|.sl 1<|(List.range g.n).map λi=>[pv (A.st i).1]))::(97,aV ((List.range g.n).length))::(98,aV v.1)::rwS A m,(1000,some (.obj<|Sep (kF A { g with sites:=v.2 } hv)<|tJ m<|cm KB adS come))::rwH o_⟩));refine GF.aR (λv:Int×dX=>⟨rwS A m++rwP plan v.1,(1000,some (.obj<|Sep (kF A g hv)<|ZT m v.2))::rwH o_⟩) (λa w q=>?_) (λK again v cW=>?_)
 ·exact(q.vs 1000 U (B:=Sep (kF A g hv)<|ZT m []) (VS.same λM w O h=>⟨(),tj (λ_ _ _ z=>z) (λ_ _ _ z=>⟨λ_=>afb,aiH z⟩) h⟩) oM).cv ⟨U,U,U,U,U,U,U,ayS⟩ ⟨U,U,U,ayS⟩ U
 repeat' (first
  | (show SG (.lookup _ _ _ _);first | refine Dv 1000 afb U U U mI U kI iI (λ_ _=>RD.v _ U) U kbI U ?_)
  | (show SG (.call _);first | refine Nk 1000 U soI cI U U coI oM U λ_ _=>?_)
  | refine qG ?_
  | refine qF ?_
  | refine rJ ?_
  | refine rG ?_ ?_
  | exact pq
  | intro _)
 ·apply_assumption
  intro a w q;exact(q.vs 1000 U (XG<|by assumption) oM).cv (by repeat(first | exact ayS | refine⟨U,?_⟩)) (by repeat(first | exact ayS | refine⟨U,?_⟩)) U
 ·exact Sv 1000 U U (VS.ahk U λ_=>oM) (λ_=>cH.e6 uU iI U U U U U cH.nil) (λ_=>rfl)
instance(g:aD)(o_:aI):mU prog (ni g o_) 60 (λA:dm=>eY A g) (λ(A:dm)(_:Unit)(r:aA×aD)=>eY A r.2) (λA=>[bZ A.b,.g (.agg (bQ o_))]) (λ_ r=>.one (.agg (aU r.1))):=⟨λ_ r h=>VU _ g o_ r h,λ_ _ _=>oM,⟨()⟩⟩
end Go.Ark
