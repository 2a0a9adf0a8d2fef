/- Machine, typed functions, plain laws and walks, part 24, for TopCleans. Conditions: none but those that stand in each law. -/
import Derived.Test.YtgjndeeaafimiaaGreatD23
set_option linter.all false
open Go.Proofs.Tryz
namespace Go.Ark
open Go Go.Ab Go.RowKit Go.Proofs
def aeC(_:dm)(g:aD)(s:Int):Option Nat:=O0 g s
theorem afT(A:dm)(hv:Value)(g:aD)(s:Int)(r:Nat)(hF:O0 g s=some r):fc prog (γ:=Unit) 39 (kF A g hv) (λ_=>kF A g hv) [bZ A.b,bV s] (λ_=>.one (.d (.v (.pointer (some ⟨(A.st r).1,0,none⟩))))):=by
 apply fc.iB func39 U ntmps39 U U oM hF λC0=>?_;unfold O0;exact wk
instance(A:dm)(g:aD)(s:Int):Z8 prog (aeC A g s) 39 (λ(_:Unit) v=>kF A g v) (λ_=>[bZ A.b,bV s]) (λr=>.one (.d (.v (.pointer (some ⟨(A.st r).1,0,none⟩))))):=⟨λ_ v r h=>afT A v g s r h⟩
theorem wku{p:Prop}(h:p:=by
 repeat' (first
  | (show SG (.call _);first | refine aaZ (ix:=()) 1000 U rvI cI U U U U λ_ _=>?_)
  | refine qG ?_
  | refine qF ?_
  | refine rJ ?_
  | refine rG ?_ ?_
  | exact pq
  | intro _)):p:=h
theorem aeW(A:dm)(hv:Value)(g:aD)(s:Int)(key:ByteArray)(r:List aa)(hF:adw g s key=some r):fc prog (γ:=Unit) 37 (kF A g hv) (λ_=>kF A g hv) [bZ A.b,bV s,fP key] (λ_=>fu 6 aj r):=by
 apply fc.iB func37 U ntmps37 U U oM hF λC0=>?_;exact GF.eq (F':=(aeC A g s).bind λi=>(mo g.sites i key).bind λr=>some r) U wku
instance(g:aD)(s:Int)(key:ByteArray):Z8 prog (adw g s key) 37 (λ(A:dm) v=>kF A g v) (λA=>[bZ A.b,bV s,fP key]) (λr=>fu 6 aj r):=⟨λ_ v r h=>aeW _ v g s key r h⟩
theorem Qu(A:dm)(g:aD)(ops:List aI)(r:List aA×aD)(hF:Ba g ops=some r):fc prog (γ:=Unit) 21 (eY A g) (λ_=>eY A r.2) [bZ A.b,bt 12 bQ ops] (λ_=>fu 2 aU r.1):=by
 apply fc.iB func21 U ntmps21 U U oM hF λC0=>?_;have:bT (GK ops) (λv=>⟨[(0,.one (pt A.b 0)),(5,.one (.own 105<|v.2.2.map aU)),(8,cP 12 bQ ops),(9,aV ops.length),(10,aV v.1)],[kO (eY A v.2.1),(105,some (.row 49 2 (v.2.2.map aU) true))]⟩):=⟨ayS⟩;unfold Ba;exact wkr
instance(g:aD)(ops:List aI):mU prog (Ba g ops) 21 (λA:dm=>eY A g) (λ(A:dm)(_:Unit)(r:List aA×aD)=>eY A r.2) (λA=>[bZ A.b,bt 12 bQ ops]) (λ_ r=>fu 2 aU r.1):=⟨λ_ r h=>Qu _ g ops r h,λ_ _ _=>oM,⟨()⟩⟩
abbrev afo(A:dm)(pins:List aH)(n:Int)(l:List Bool):SL:=[(0,.one (pt A.b 0)),(1,cP 2 aS pins),(2,aV n),(7,.one (.own 107 (l.map ake)))]
theorem afP(A:dm)(g:aD)(pins:List aH)(n:Int)(r:List Bool)(hF:adf g pins n=some r):fc prog (γ:=Unit) 16 (eY A g) (λ_=>eY A g) [bZ A.b,bt 2 aS pins,bV n] (λ_=>fu 1 ake r):=by
 apply fc.iB func16 U ntmps16 U U oM hF λC0=>?_;refine GF.yZ 1000 U (λ_=>oM) λhv=>?_;have:bT (aeD g pins n) (λv=>⟨(8,aV v.1)::afo A pins n v.2,[kO (kF A g hv),(107,some (.row 4 1 (v.2.map ake) true))]⟩):=⟨ayS⟩;have:=λi kx=>(⟨ayS⟩:bT (aeM g pins n i kx) (λv=>⟨(8,aV i)::(9,aV v.1)::afo A pins n v.2,[kO (kF A g hv),(107,some (.row 4 1 (v.2.map ake) true))]⟩));have:=λd i j kx=>(⟨ayS⟩:bT (aeN g n d i j kx) (λv=>⟨(8,aV i)::(9,aV j)::(11,aV v.1)::(10,.one (.ptr 110 0))::afo A pins n v.2,[kO (kF A g hv),(107,some (.row 4 1 (v.2.map ake) true)),(110,some (.blk 101<|dat<|ak d))]⟩));unfold adf;exact wkr
instance(g:aD)(pins:List aH)(n:Int):tF prog (adf g pins n) 16 (λA:dm=>eY A g) (λA=>[bZ A.b,bt 2 aS pins,bV n]) (λr=>fu 1 ake r):=⟨λ_ r h=>afP _ g pins n r h⟩
instance(id:Int)(own:List au):mU prog (zX id own) 27 (λ_:Unit=>tH) (λ_(g:Nat×Nat×Nat) r=>jt g r) (λ_=>[bV id,bt 2 az own]) (λg _=>.one (.d (.v (.pointer (some ⟨g.1,0,none⟩))))):=⟨λ_ r h=>VW id own r h,λ_ _ _=>oM,⟨(0,0,0)⟩⟩
instance:EZ prog 87 [.sl 2 [],.sl 1 [],.sl 1 [],.v (.slice none 0 0),.v (.pointer none),.v (.int .i64 0),.sl 3 [],.v (.int .i64 0),.sl 3 [],.v (.int .i64 0),.sl 3 [],.v (.int .i64 0),.sl 3 [],.sl 1 [],.sl 1 [],.sl 1 [],.sl 1 [],.sl 1 [],.sl 1 [],.sl 1 [],.sl 1 [],.sl 2 [],.v (.slice none 0 0)]:=
 ⟨_,_,_,apA,⟨.n 2,.n 1,.n 1,.v _ U,.v _ U,.v _ U,.n 3,.v _ U,.n 3,.v _ U,.n 3,.v _ U,.n 3,.n 1,.n 1,.n 1,.n 1,.n 1,.n 1,.n 1,.n 1,.n 2,.v _ U,ayS⟩,U⟩
section
variable{P:Program}{nt:Nat}{R:Type}{C0:Cx P nt}{Q:R->Exit->Act->World->Prop}{r:R}{m:Ab.Mode}{k:List KI}{ops:Array Oper}{rest:List Oper}{sl:SL}{hp:HL}{dst:Nat}{ty:TypeId}{pos:String}{af:Array Edge}{gd:Option (Nat×Bool)}{x y:Operand}{Φ:OP}
theorem qR(kk:Nat){α:Type}{l n:List α}{f:List α->Option R}{T E:TypeId}{zz v:Value}{size bytes:Nat}{es news:List (List DV)}{Rr:Value->List (List DV)->OP}(hg:bD ops sl gd=true)(hT:P.underlying T=some (.slice E))(hI:Info P E zz size bytes)(hx:aN sl x=some (dv v))(hh:aE hp kk=some (.obj Φ))(i:vz Φ v E size es Rr)(he:es.length=l.length)(hn:news.length=n.length)(hy:aN sl y=some (.g (.d (.sl size news))))(hzs:Nat.beq zz.cells.size size=true)(hd:Nat.blt dst nt=true)(hl:qD m=true)
  (hk:∀g:Value,GO C0 Q r (f<|l++n) (m.add ⟨gH ops gd++(ey x (dv v)++ey y (.g<|.d<|.sl size news)),[(kk,some (.obj Φ))],[(dst,.one (dv g))],[(kk,some (.obj<|Rr g<|es++news))]⟩) ops rest k ⟨(dst,.one (dv g))::sl,(kk,some (.obj<|Rr g<|es++news))::hp⟩):GO C0 Q r ((app bytes l n).bind f) m ops (Oo dst (D7 x y T) ty pos af gd::rest) k ⟨sl,hp⟩:=
 GO.bind λu hu=>by
  simp only[app]at hu;split at hu
  ·rename_i hb
   cases hu;obtain⟨e1,q1⟩:=aJ hx;obtain⟨e2,q2⟩:=aJ hy;have hlen:(es++news).length=(l++n).length:=by simp[he,hn]
   exact GO.CP (γ:=Value) Go.undef (Ws:=λg=>[(dst,.one (dv g))]) (Wh:=λg=>[(kk,some (.obj<|Rr g<|es++news))]) (M7 hT hI hzs U (by rw[hlen];exact hb.1) (by rw[hlen];exact hb.2) i e1 e2 hd) hg (q1.both q2) ⟨hh,ayS⟩ hl hk
  ·cases hu
end
theorem Wj{γ:Type}{g:Nat->γ->OP}:∀{l:List γ}{n:Nat}{x:γ},QD g n (l++ [x])=Sep (QD g n l) (g (n+l.length) x)
 | [],n,x=>Qb _ _
 | a::l,n,x=>by
  show Sep (g n a) (QD g (n+1)<|l++ [x])=Sep (Sep (g n a)<|QD g (n+1) l) _;rw[Wj,C8,avv,show n+1+l.length=n+(l.length+1) by omega]
theorem Nn{γ:Type}{g g':Nat->γ->OP}:∀{l:List γ}{n:Nat},(∀i,n<=i->i<n+l.length->g i=g' i)->QD g n l=QD g' n l
 | [],_,_=>rfl
 | a::l,n,h=>by
  show Sep (g n a) (QD g (n+1) l)=Sep (g' n a) (QD g' (n+1) l);rw[h n (avq _) ayW,Nn (n:=n+1) λi h1 h2=>h i ayT ayV]
abbrev Xr(row:aF)(NA:iA)(d4:DV):List DV:=[.sl 2 (row.bP.map az),.sl 1 (row.cq.map ay),.sl 1 (row.aK.map ay),d4,pv NA.b,.v (.int .i64 0),.sl 3 [],.v (.int .i64 0),.sl 3 [],.v (.int .i64 0),.sl 3 [],.v (.int .i64 0),.sl 3 [],.sl 1 [],.sl 1 [],.sl 1 [],.sl 1 [],.sl 1 [],.sl 1 [],.sl 1 [],.sl 1 [],.sl 2 [],.v (.slice none 0 0)]
abbrev aad(b:Nat)(NA:iA)(row:aF)(bh:bU)(l:List aC)(v4:Value)(st:Nat->Nat×Nat×Nat):OP:=Sep (Sep (mY NA bh) (eu b 87 (Xr row NA (.v v4)))) (Sep (Row v4 88 1 ((List.range l.length).map λj=>[pv (st j).1])) (fe st l))
theorem apr(A R S X:OP):Sep (Sep A (Sep R S)) X=Sep A (Sep R (Sep S X)):=by rw[C8,C8]
theorem ae9{b:Nat}{NA:iA}{row:aF}{bh:bU}{l:List aC}{st:Nat->Nat×Nat×Nat}{x:Nat×Nat×Nat}{s:aC}(v4:Value):VS (Sep (Sep (Sep (mY NA bh) (eu b 87 (Xr row NA (.v v4)))) (Sep (Row v4 88 1 (((List.range l.length).map λj=>[pv (st j).1])++ [[pv x.1]])) (fe st l))) (jt x s))
  (λ_:Unit=>qA λv4=>qA λst=>aad b NA row bh (l++ [s]) v4 st):=VS.same λM w O q=>by
 refine⟨(),v4,λj=>if j=l.length then x else st j,?_⟩;have e1:((List.range (l++ [s]).length).map λj=>[pv ((λj=>if j=l.length then x else st j) j).1])=((List.range l.length).map λj=>[pv (st j).1])++ [[pv x.1]]:=by
  rw[avz,List.length_singleton,List.range_succ,axm];congr 1
  ·exact awK λj hj=>by
    have:=awg.1 hj;simp[show j≠l.length by omega]
  ·simp
 have e2:fe (λj=>if j=l.length then x else st j) (l++ [s])=Sep (fe st l) (jt x s):=by
  unfold fe;rw[Wj,Nn (g':=λi s=>jt (st i) s) λi _ h2=>by simp[show i≠l.length by omega]];simp
 show Sep _ (Sep (Row v4 88 1 _) _) M w O;rw[e1,e2];rw[apr]at q;exact q
theorem afa{b:Nat}{NA:iA}{row:aF}{bh:bU}{l:List aC}{v4:Value}{st:Nat->Nat×Nat×Nat}:VS (aad b NA row bh l v4 st) (λ_:Unit=>eY ⟨b,st,NA⟩ ⟨row,l.length,l,bh,Z1,Z1,Z1,Z1,V4,V4,V4,V4,[],[]⟩):=by
 refine VS.trans (VS.eq (B:=Sep (Sep (Sep (mY NA bh)<|fe st l)<|eu b 87<|Xr row NA<|.v v4)<|Row v4 88 1<|(List.range l.length).map λj=>[pv (st j).1]) (by unfold aad;generalize mY NA bh=X;generalize fe st l=Y;ac_rfl)) ?_;refine VS.trans (VS.frz (cs':=Xr row NA<|.sl 1<|(List.range l.length).map λj=>[pv (st j).1]) oM U λj d hj=>?_) ?_
 ·by_cases c:j=3
  ·subst c;simp at hj;exact .inr ⟨U,hj.symm⟩
  ·refine .inl ?_
   match j,c with
   | 0,_=>exact hj
   | 1,_=>exact hj
   | 2,_=>exact hj
   | j+4,_=>exact hj
 refine VS.same λM w O q=>⟨(),.slice none 0 0,?_⟩;have q1:=Lx (T:=56) (size:=6) ayZ q;have e:Sep (Sep (Sep (mY NA bh)<|fe st l)<|eu b 87<|Xr row NA<|.sl 1<|(List.range l.length).map λj=>[pv (st j).1]) (Row (.slice none 0 0) 56 6 [])=kF ⟨b,st,NA⟩ ⟨row,l.length,l,bh,Z1,Z1,Z1,Z1,V4,V4,V4,V4,[],[]⟩ (.slice none 0 0):=by
  show _=Sep (eu b 87<|Xr row NA<|.sl 1<|(List.range l.length).map λj=>[pv (st j).1]) (Sep (Row (.slice none 0 0) 56 6 [])<|Sep (fe st l)<|mY NA bh);generalize mY NA bh=X;generalize fe st l=Y;ac_rfl
 rw[<-e];exact q1
theorem ZG(c:aF)(r:aD)(hF:Aw c=some r):fc prog (γ:=dm) 7 tH (λg=>eY g r) [.g (.agg (bf c))] (λg=>.one (.d (.v (.pointer (some ⟨g.b,0,none⟩))))):=by
 apply fc.iB func7 U ntmps7 U U CS hF λC0=>?_;unfold Aw
 repeat' (first
  | (show SG (.call _);first | refine lC (ix:=()) 1001 U D2 cI U U U U ayX λ_ _ _=>?_)
  | (show SG (.build _ _);first | refine jr U zR lI U U U ?_)
  | (show SG (.box _ _);first | refine tQ (T:=87) 1000 U U U U ayX λ_=>?_)
  | (show SG (.call ⟨.builtin _,_,_⟩);first | refine qR 1000 U uU iI U U rI ayW U U U U ayX λ_=>?_)
  | (show SG (.binOp _ _ _ _ _);first | refine f2 U (λ_ _ _ e e'=>CV ay6 e e' U) U U U ?_)
  | refine qG ?_
  | refine qF ?_
  | refine rJ ?_
  | refine rG ?_ ?_
  | exact pq
  | intro _)
 rename_i n _ row _ bh _ NA b;refine GF.aR (λv:Int×List aC=>⟨[(1,.one (.ptr 101 0)),(3,aV n),(4,.one (pt b 0)),(18,aV n),(19,aV v.1)],[kO (qA λv4=>qA λst=>aad b NA row bh v.2 v4 st),(101,some (.blk 29<|dat<|bf c))]⟩) (λa w q=>?_) (λK again v cW=>?_)
 ·refine(q.vs 1000 U (B:=qA λv4=>qA λst=>aad b NA row bh [] v4 st) (VS.same λM w O h=>⟨(),.slice none 0 0,λ_=>(0,0,0),?_⟩) oM).cv ⟨U,U,U,U,U,ayS⟩ ⟨U,U,ayS⟩ U
  exact SA (aiH<|Lx ayZ h)
 refine GF.yZ 1000 U (λ_=>oM) λv4=>GF.yZ 1000 U (λ_=>oM) λst=>GF.pre (λa w q=>q.D5 1001 U U) ?_
 repeat' (first
  | (show SG (.call _);first | refine lC (ix:=()) 1001 U D2 cI U U U U ayX λ_ _ _=>?_)
  | (show SG (.build _ _);first | refine jr U zR lI U U U ?_)
  | (show SG (.box _ _);first | refine tQ (T:=87) 1000 U U U U ayX λ_=>?_)
  | (show SG (.call ⟨.builtin _,_,_⟩);first | refine qR 1000 U uU iI U U rI ayW U U U U ayX λ_=>?_)
  | (show SG (.binOp _ _ _ _ _);first | refine f2 U (λ_ _ _ e e'=>CV ay6 e e' U) U U U ?_)
  | refine qG ?_
  | refine qF ?_
  | refine rJ ?_
  | refine rG ?_ ?_
  | exact pq
  | intro _)
 ·rename_i s _ x v4'
  refine cW (IntKind.wrap .i64<|v.1+1,v.2++ [s]) _ λa w q=>?_;exact((q.merge 1000 1001 U U U).vs 1000 U (ae9 (x:=x) (s:=s) v4') oM).cv ⟨U,U,U,U,U,ayS⟩ ⟨U,U,ayS⟩ U
 ·rename_i hn
  have hn':n≠0:=by simpa using hn
  refine GF.aR (λv:Int×aD=>⟨[(3,aV n),(4,.one (pt b 0)),(37,aV v.1)],[kO (eY ⟨b,st,NA⟩ v.2)]⟩) (λa w q=>?_) (λK again v cW=>?_)
  ·exact(q.vs 1000 U afa oM).cv ⟨U,U,U,ayS⟩ ⟨U,ayS⟩ U
  obtain⟨i,g⟩:=v;by_cases hi:i<4
  ·refine GF.eq (F':=JV i<|if decide (i<4)then(vF<|i.tmod n).bind λs=>again (IntKind.wrap .i64<|i+1,og g s i.toNat)else none) (by simp[Dw,nL,hi]) (GF.nL λh=>?_)
   rcases Kz h with rfl | rfl | rfl | rfl
   ·repeat' (first
     | (show SG (.call _);first | refine lC (ix:=()) 1001 U D2 cI U U U U ayX λ_ _ _=>?_)
     | (show SG (.build _ _);first | refine jr U zR lI U U U ?_)
     | (show SG (.box _ _);first | refine tQ (T:=87) 1000 U U U U ayX λ_=>?_)
     | (show SG (.call ⟨.builtin _,_,_⟩);first | refine qR 1000 U uU iI U U rI ayW U U U U ayX λ_=>?_)
     | (show SG (.binOp _ _ _ _ _);first | refine f2 U (λ_ _ _ e e'=>CV ay6 e e' U) U U U ?_)
     | refine qG ?_
     | refine qF ?_
     | refine rJ ?_
     | refine rG ?_ ?_
     | exact pq
     | intro _)
   ·repeat' (first
     | (show SG (.call _);first | refine lC (ix:=()) 1001 U D2 cI U U U U ayX λ_ _ _=>?_)
     | (show SG (.build _ _);first | refine jr U zR lI U U U ?_)
     | (show SG (.box _ _);first | refine tQ (T:=87) 1000 U U U U ayX λ_=>?_)
     | (show SG (.call ⟨.builtin _,_,_⟩);first | refine qR 1000 U uU iI U U rI ayW U U U U ayX λ_=>?_)
     | (show SG (.binOp _ _ _ _ _);first | refine f2 U (λ_ _ _ e e'=>CV ay6 e e' U) U U U ?_)
     | refine qG ?_
     | refine qF ?_
     | refine rJ ?_
     | refine rG ?_ ?_
     | exact pq
     | intro _)
   ·repeat' (first
     | (show SG (.call _);first | refine lC (ix:=()) 1001 U D2 cI U U U U ayX λ_ _ _=>?_)
     | (show SG (.build _ _);first | refine jr U zR lI U U U ?_)
     | (show SG (.box _ _);first | refine tQ (T:=87) 1000 U U U U ayX λ_=>?_)
     | (show SG (.call ⟨.builtin _,_,_⟩);first | refine qR 1000 U uU iI U U rI ayW U U U U ayX λ_=>?_)
     | (show SG (.binOp _ _ _ _ _);first | refine f2 U (λ_ _ _ e e'=>CV ay6 e e' U) U U U ?_)
     | refine qG ?_
     | refine qF ?_
     | refine rJ ?_
     | refine rG ?_ ?_
     | exact pq
     | intro _)
   ·repeat' (first
     | (show SG (.call _);first | refine lC (ix:=()) 1001 U D2 cI U U U U ayX λ_ _ _=>?_)
     | (show SG (.build _ _);first | refine jr U zR lI U U U ?_)
     | (show SG (.box _ _);first | refine tQ (T:=87) 1000 U U U U ayX λ_=>?_)
     | (show SG (.call ⟨.builtin _,_,_⟩);first | refine qR 1000 U uU iI U U rI ayW U U U U ayX λ_=>?_)
     | (show SG (.binOp _ _ _ _ _);first | refine f2 U (λ_ _ _ e e'=>CV ay6 e e' U) U U U ?_)
     | refine qG ?_
     | refine qF ?_
     | refine rJ ?_
     | refine rG ?_ ?_
     | exact pq
     | intro _)
  ·refine GF.eq (F':=if decide (i<4)then none else some g) (by simp[Dw,hi]) ?_
   repeat' (first
    | (show SG (.call _);first | refine lC (ix:=()) 1001 U D2 cI U U U U ayX λ_ _ _=>?_)
    | (show SG (.build _ _);first | refine jr U zR lI U U U ?_)
    | (show SG (.box _ _);first | refine tQ (T:=87) 1000 U U U U ayX λ_=>?_)
    | (show SG (.call ⟨.builtin _,_,_⟩);first | refine qR 1000 U uU iI U U rI ayW U U U U ayX λ_=>?_)
    | (show SG (.binOp _ _ _ _ _);first | refine f2 U (λ_ _ _ e e'=>CV ay6 e e' U) U U U ?_)
    | refine qG ?_
    | refine qF ?_
    | refine rJ ?_
    | refine rG ?_ ?_
    | exact pq
    | intro _)
   exact s8 (res:=λ_(g:dm)=>.one<|.d<|.v<|.pointer<|some ⟨g.b,0,none⟩) (iz:=λr g=>eY g r) 1000 ⟨b,st,NA⟩ U U VS.yZ (cH.tmp U cH.nil) U
instance(c:aF):mU prog (Aw c) 7 (λ_:Unit=>tH) (λ_(g:dm) r=>eY g r) (λ_=>[.g (.agg (bf c))]) (λg _=>.one (.d (.v (.pointer (some ⟨g.b,0,none⟩))))):=⟨λ_ r h=>ZG c r h,λ_ _ _=>oM,⟨⟨0,λ_=>(0,0,0),⟨0,0,λ_=>⟨0,0,0⟩⟩⟩⟩⟩
end Go.Ark
