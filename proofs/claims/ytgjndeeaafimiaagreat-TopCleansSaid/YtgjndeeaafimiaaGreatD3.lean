/- Machine, typed functions, plain laws and walks, part 3, for TopCleans. Conditions: none but those that stand in each law. -/
import Derived.Test.YtgjndeeaafimiaaGreatD2
import Derived.Maps.RangeRun
set_option linter.all false
namespace Go.Ab
open Go Go.RowKit
class CtS(P:Program){α:Type}(F:Option α){X Y:outParam Type}(g:outParam Nat)(a:outParam AG)(enc:outParam (X->AG))(val:outParam (Y->Value))(p:outParam (X->Option Y))(res:outParam (α->RS)):Prop where
 h:∀r,F=some r->Ct P g [.g a,.sem (rq enc val p)] (res r)
 sc:∀r,(res r).sc=true
variable{P:Program}{α Y:Type}{g:Nat}{val:Y->Value}{res:α->RS}
theorem csI{X:Type}{F:Option α}{a:AG}{enc:X->AG}{p:X->Option Y}[i:CtS P F g a enc val p res]:CtS P F g a enc val p res:=i
class BU(P:Program){X Y:Type}(enc:X->AG)(val:Y->Value)(p:X->Option Y)(f:Nat)(gs:outParam (List RG)):Prop where
 h:∀x y,p x=some y->Ct P f (.g (enc x)::gs) (.one<|.d<|.v<|val y)
theorem ccI{X:Type}{enc:X->AG}{p:X->Option Y}{f:Nat}{gs:List RG}[i:BU P enc val p f gs]:BU P enc val p f gs:=i
variable{nt:Nat}{R:Type}{m:Mode}{k:List KI}{ops:Array Oper}{rest:List Oper}{sl:SL}{hp:HL}{st:St}{dst:Nat}{ty:TypeId}{pos:String}{af:Array Edge}{gd:Option (Nat×Bool)}{x y z:Operand}{tys:Array TypeId}{T E:TypeId}{w:World}{b o:Nat}{Rs:List (Nat×SV)}{ι:Type}{xs:List Operand}{Φ:OP}{γ:Type}{kt vt:Nat}{X:Option α}{F:Option R}{f:α->Option R}{C0:Cx P nt}{Q:R->Exit->Act->World->Prop}{r:R}{C:Cx P nt}{ix:ι}{Ψ:ι->OP}{args:ι->List RG}
section
theorem Rf{f k1:Nat}(hg:bD ops sl gd=true)(hx:aN sl x=some (.ptr k1 0))(hd:Nat.blt dst nt=true)(hk:GO C0 Q r F (m.add (X1 ops gd x (.ptr k1 0) dst (.one (.yh f [k1])))) ops rest k ⟨(dst,.one (.yh f [k1]))::sl,hp⟩):GO C0 Q r F m ops (Oo dst (.makeFunc (.func f) #[] #[x]) ty pos af gd::rest) k ⟨sl,hp⟩:=
 f1 hg (λ_ _ e=>PJ e hd) hx U hk
theorem Rg{f k1 k2:Nat}(hg:bD ops sl gd=true)(hx:aN sl x=some (.ptr k1 0))(hy:aN sl y=some (.ptr k2 0))(hd:Nat.blt dst nt=true)(hk:GO C0 Q r F (m.add (X2 ops gd x (.ptr k1 0) y (.ptr k2 0) dst (.one (.yh f [k1,k2])))) ops rest k ⟨(dst,.one (.yh f [k1,k2]))::sl,hp⟩):GO C0 Q r F m ops (Oo dst (.makeFunc (.func f) #[] #[x,y]) ty pos af gd::rest) k ⟨sl,hp⟩:=
 f2 hg (λ_ _ _ e e'=>PK e e' hd) hx hy U hk
theorem F6{X:Type}{Fx:Option α}{fn:Nat}{a:AG}{ks:List Nat}{gs:List RG}{Rh:List (Nat×Option HE)}{enc:X->AG}{p:X->Option Y}(hg:bD ops sl gd=true)(i:CtS P Fx g a enc val p res)(c:cG P g)
  (hx:aN sl x=some (.g a)) (hy:aN sl y=some (.yh fn ks)) (j:BU P enc val p fn gs) (cf:cG P fn) (hc:tZ ks gs Rh) (hh:dn hp Rh) (hd:Nat.blt dst nt=true)
  (hk:∀u,Fx=some u->GO C0 Q r (f u) (m.add ⟨gH ops gd++(ey x (.g a)++ey y (.yh fn ks)),Rh,[(dst,(res u).sv)],[]⟩) ops rest k ⟨(dst,(res u).sv)::sl,hp⟩):GO C0 Q r (Fx.bind f) m ops (Oo dst (gO g [x,y] tys) ty pos af gd::rest) k ⟨sl,hp⟩:=
 GO.bind λu hu=>by
  obtain⟨e1,q1⟩:=aJ hx;obtain⟨e2,q2⟩:=aJ hy;have hq:xT P [x,y] [.g a,.sem (rq enc val p)] (ey x (.g a)++ey y (.yh fn ks)) Rh:=by
   have:=xT.cons (QC.g (P:=P) e1) (xT.cons (QC.yh (P:=P) (Φ:=rq enc val p) e2 hc cf λargs v⟨x0,b,h1,h2,h3⟩=>by subst h1 h3;exact j.h x0 b h2) xT.nil);simpa using this
  exact GO.one (λ_=>nC c (i.h u hu) (i.sc u) U hq hd) hg (q1.both q2) hh aAr U (hk u hu)
theorem Ls{a:Option Addr}(hT:P.underlying T=some (.pointer E)):(binOp .neq T (.pointer a) (.pointer none)).run P w= .ok (.bool (!a.isNone)) w:=by
 simp only[binOp,avw,EI hT,Result.andThen,avF]
theorem YS{T T' E:Nat}(hT:P.underlying T=some (.pointer E))(hx:Ev x (pt b o) Rs)(hd:Nat.blt dst nt=true):
  dJ C (Oo dst (.binOp .neq T x (.const<|.pointer none) T') ty pos af gd) Rs [] [(dst,.one (bB true))] []:=
 bu hd U λsl hp β a w hs _ r=>⟨.bool true,by
  have h1:=BR.aX (hx.ok hs r);have h2:a.eval (.const<|.pointer none)= .pointer none:=rfl
  have hg:=ef (P:=P) (op:=.neq) (t:=T) (x:=x) (y:=.const<|.pointer none) (v:=.pointer none) (w:=w) (u:=.pointer<|some ⟨b,o,none⟩) U (λh=>azm);simp only[execOp,h1,h2,avw,hg,Result.andThen,Ls hT,avF];rfl,RD.v _ U⟩
theorem abm{T T' E:Nat}(hg:bD ops sl gd=true)(hU:P.underlying T=some (.pointer E))(hx:aN sl x=some (pt b o))(hd:Nat.blt dst nt=true)(hk:GO C0 Q r F (m.add (X1 ops gd x (pt b o) dst (.one (bB true)))) ops rest k ⟨(dst,.one (bB true))::sl,hp⟩):GO C0 Q r F m ops (Oo dst (.binOp .neq T x (.const (.pointer none)) T') ty pos af gd::rest) k ⟨sl,hp⟩:=f1 hg (λ_ _ e=>YS hU e hd) hx U hk
theorem aaY(kk:Nat)(hg:bD ops sl gd=true)(i:tF P X g Ψ args res)(c:cG P g)(ha:pM sl xs=some (args ix))(hh:aE hp kk=some (.obj Φ))(hj:Φ=Ψ ix)(hd:Nat.blt dst nt=true)
  (hk:∀u,X=some u->GO C0 Q r (f u) (m.add ⟨gH ops gd++vM xs (args ix),[(kk,some (.obj<|Ψ ix))],[(dst,(res u).sv)],[]⟩) ops rest k ⟨(dst,(res u).sv)::sl,hp⟩):GO C0 Q r (X.bind f) m ops (Oo dst (gO g xs tys) ty pos af gd::rest) k ⟨sl,hp⟩:=by
 subst hj;exact GO.bind λu hu=>let⟨e,q⟩:=fJ ha
  GO.stepG (Ws:=[(dst,(res u).sv)]) (Wh:=[]) (Ao c (i.h ix u hu) e hd) hg q ⟨hh,ayS⟩ (hk u hu)
theorem lC(kk:Nat){L0:ι->γ->α->OP}{res:γ->α->RS}(hg:bD ops sl gd=true)(i:mU P X g Ψ L0 args res)(c:cG P g)(ha:pM sl xs=some (args ix))(hh:aE hp kk=some (.obj Φ))(hj:Φ=Ψ ix)(hd:Nat.blt dst nt=true)(hl:qD m=true)
  (hk:∀u,X=some u->∀n:γ,GO C0 Q r (f u) (m.add ⟨gH ops gd++vM xs (args ix),[(kk,some (.obj<|Ψ ix))],[(dst,(res n u).sv)],[(kk,some (.obj<|L0 ix n u))]⟩) ops rest k ⟨(dst,(res n u).sv)::sl,(kk,some (.obj<|L0 ix n u))::hp⟩):GO C0 Q r (X.bind f) m ops (Oo dst (gO g xs tys) ty pos af gd::rest) k ⟨sl,hp⟩:=by
 subst hj;exact GO.bind λu hu=>let⟨e,q⟩:=fJ ha
  GO.CP (γ:=γ) (Classical.choice i.g0) (Ws:=λn=>[(dst,(res n u).sv)]) (Wh:=λn=>[(kk,some (.obj<|L0 ix n u))]) (vC c (i.h ix u hu) (λn=>i.om ix n u) e hd) hg q ⟨hh,ayS⟩ hl (hk u hu)
theorem YL{T T':Nat}(hT:P.underlying T=some (.map kt vt))(hx:Ev x (dv (.map (some b))) Rs)(hd:Nat.blt dst nt=true):
  dJ C (Oo dst (.binOp .eql T x (.const<|.map none) T') ty pos af gd) Rs [] [(dst,.one (bB false))] []:=
 bu hd U λsl hp β a w hs _ r=>⟨.bool false,by
  have h1:=BR.aX (hx.ok hs r);have h2:a.eval (.const<|.map none)= .map none:=rfl
  have hg:=ef (P:=P) (op:=.eql) (t:=T) (x:=x) (y:=.const<|.map none) (v:=.map none) (w:=w) (u:=.map<|some b) U (λh=>azm);have h3:(Op.equal T (.map<|some b)<|.map none).run P w= .ok false w:=by
   show(Op.equalIn (9999+1) T (.map<|some b)<|.map none).run P w=_
   rw[Op.equalIn];simp[avw,avm hT]
  simp only[execOp,h1,h2,avw,hg,Result.andThen,binOp,h3,avF],RD.v _ rfl⟩
theorem aa5{T T':Nat}(hg:bD ops sl gd=true)(hU:P.underlying T=some (.map kt vt))(hx:aN sl x=some (dv (.map (some b))))(hd:Nat.blt dst nt=true)(hk:GO C0 Q r F (m.add (X1 ops gd x (dv (.map (some b))) dst (.one (bB false)))) ops rest k ⟨(dst,.one (bB false))::sl,hp⟩):GO C0 Q r F m ops (Oo dst (.binOp .eql T x (.const (.map none)) T') ty pos af gd::rest) k ⟨sl,hp⟩:=f1 hg (λ_ _ e=>YL hU e hd) hx U hk
end
variable{zz v:Value}{size bytes:Nat}{es:List (List DV)}{M:Nat->Nat->Prop}{O:Nat->Prop}
theorem acG{a0:Option Addr}(hT:P.underlying T=some (.slice E))(hI:Info P E zz size bytes)
  (hb1:es.length<=1099511627776) (hb2:es.length*bytes<=140737488355328) (hM:∀b o,M b o->b<w.heap.size) (h:Row v E size es M w O):
  ∃v' w',(Builtin.append_ #[T,T] ty #[.slice a0 0 0,v]).run P w= .ok v' w'/\Below w.heap.size w w'/\RD M w' v' (.sl size es):=by
 obtain⟨hz,hsz,_⟩:=id h;obtain⟨av,cap,ov,hv,hle,pR,Ks,_,hor,hoa⟩:=h.flat;by_cases he:es= []
 ·subst he
  exact⟨.slice a0 0 0,w,by rw[hv];exact nP hT hI<|avq _,avU _ _,RD.nil a0 0 size<|av5 _⟩
 ·obtain⟨ad,rfl,_,gq⟩:=hoa he
  have hpos:0<es.length:=axD.2 he;obtain⟨i,hi1,hi2,hi3,hi4⟩:=hI;subst hi3;subst hi4;have pn:es.length<=maxLen:=by unfold maxLen;omega
  have fin:∀(old:Nat),(Builtin.append_ #[T,T] ty #[.slice a0 0 0,v]).run P w= .ok (.slice (some ⟨w.heap.size,0,none⟩) es.length<|grownCap w es.length old E)
    (w.drew.alloc<|.cells (ov.toArray++Builtin.zeroCells zz.cells (grownCap w es.length old E-es.length)) E)->
    ∃v' w',(Builtin.append_ #[T,T] ty #[.slice a0 0 0,v]).run P w= .ok v' w'/\Below w.heap.size w w'/\RD M w' v' (.sl i.size es):=by
   intro old hrun;have ld:Below w.heap.size w (w.drew.alloc<|.cells (ov.toArray++Builtin.zeroCells zz.cells (grownCap w es.length old E-es.length)) E):=⟨U,U,U,ayW,λk hk=>axx w.drew _ hk⟩;have hnew:(w.drew.alloc<|.cells (ov.toArray++Builtin.zeroCells zz.cells (grownCap w es.length old E-es.length)) E).heap[w.heap.size]? =some (.cells (ov.toArray++Builtin.zeroCells zz.cells (grownCap w es.length old E-es.length)) E (0,0)):=awB w.drew _
   have hcell:∀i' cs j d,es[i']? =some cs->cs[j]? =some d->∃x,(ov++(Builtin.zeroCells zz.cells<|grownCap w es.length old E-es.length).toList)[i'*i.size+j]? =some x/\RD M w x d:=λi' cs j d h1 h2=>by
    obtain⟨x,q1,q2⟩:=hor i' cs j d h1 h2;exact⟨x,by rw[avy (avl.1 q1).1];exact q1,q2⟩
   refine⟨_,_,hrun,ld,RD.sl _ _ i.size es (λi' j=>(ov++(Builtin.zeroCells zz.cells<|grownCap w es.length old E-es.length).toList).getD (i'*i.size+j) undef) w.heap.size 0 (axO w _ _ E) (aw9 w _ _ E pn) (λ_=>rfl) hsz (λi' cs j d h1 h2=>?_) λi' cs j d h1 h2=>?_⟩
   ·obtain⟨x,q1,_⟩:=hcell i' cs j d h1 h2
    refine⟨?_,λc=>ayq _<|hM _ _ c⟩;rw[awM _ _ _ _ E _ hnew,avS];have e:(ov.toArray++Builtin.zeroCells zz.cells (grownCap w es.length old E-es.length))=(ov++(Builtin.zeroCells zz.cells<|grownCap w es.length old E-es.length).toList).toArray:=by simp
    rw[e,awI,q1,awi,q1];rfl
   ·obtain⟨x,q1,q2⟩:=hcell i' cs j d h1 h2
    rw[awi,q1];exact q2.mono (qK ld)
  cases a0 with
  | none=>
   have hr:=ayH (P:=P) w T ty E i zz hT hi1 hi2 ad es.length cap ov Ks gq hpos azc ayT;exact fin 0 (by rw[hv];exact hr)
  | some b0=>
   have hr:=ax7 (P:=P) w T ty E i zz hT hi1 hi2 b0 0 0 [] ayW (λj v h=>ay4) ad es.length cap ov Ks gq ayT azc (axq ayT (by rw[avS];exact hb2));refine fin 0 ?_;rw[hv,hr];simp
def yw:Value->Bool
 | .slice none _ _=>true
 | _=>false
theorem Row.nil{T:Nat}(h:Row v T size es M w O)(hn:yw v=true):es= []:=by
 obtain⟨av,cap,ov,hv,_,_,_,_,_,hoa⟩:=h.flat;refine awH λc=>?_;obtain⟨ad,rfl,_⟩:=hoa c;rw[hv]at hn;cases hn
variable{T':TypeId}{kk:Nat}{Rr:Value->List (List DV)->OP}{T2:Nat}{l:List α}{e:α->List DV}
section
theorem GF.fact(kk:Nat){p:Prop}(hh:aE hp kk=some (.obj Φ))(h:∀M w O,Φ M w O->p)(hk:p->GF C0 Q r F k ⟨sl,hp⟩):GF C0 Q r F k ⟨sl,hp⟩:=⟨λhr a w q=>by
 obtain⟨M,O,A⟩:=dL q hh;exact(hk (h M w O A.obj)).go hr a w q⟩
theorem TV(kk:Nat){f:List α->Option R}(hg:bD ops sl gd=true)(hT:P.underlying T=some (.slice E))(hI:Info P E zz size bytes)(hx:aN sl x=some (.cp size []))(hy:aN sl y=some (dv v))(hh:aE hp kk=some (.obj Φ))(i:vz Φ v E size es Rr)(he:es=l.map e)(hd:Nat.blt dst nt=true)
  (hk:GO C0 Q r (f l) (m.add ⟨gH ops gd++(ey x (.cp size [])++ey y (dv v)),[(kk,some (.obj Φ))],[(dst,.one (.g<|.d<|.sl size es))],[]⟩) ops rest k ⟨(dst,.one (.g<|.d<|.sl size es))::sl,hp⟩):GO C0 Q r ((app bytes [] l).bind f) m ops (Oo dst (D7 x y T) ty pos af gd::rest) k ⟨sl,hp⟩:=
 GO.bind λu hu=>by
  simp only[app,avX]at hu;split at hu
  ·rename_i hb
   cases hu;obtain⟨e1,q1⟩:=aJ hx;obtain⟨e2,q2⟩:=aJ hy;refine GO.stepG (Rs:=ey x (.cp size [])++ey y (dv v)) (Rh:=[(kk,some (.obj Φ))]) (Ws:=[(dst,.one (.g<|.d<|.sl size es))]) (Wh:=[]) (λsl hp hs hh a w K Q q hK=>?_) hg (q1.both q2) ⟨hh,ayS⟩ hk;obtain⟨M,O,A⟩:=dL q hh.1;have hv:a.eval y=v:=RD.aX (A.one e2 hs.app.2);obtain⟨Os,p1,p2,_⟩:=i.h M w O A.lt A.own A.obj;obtain⟨a0,ha0⟩:∃a0,a.eval x= .slice a0 0 0:=by
    obtain⟨C,σ,lk,ob,c1,c2,β,rb⟩:=q;obtain⟨h1,ad,n,h2⟩:=e1.ok hs.app.1 rb;have:RD (Mu C hp β) w (a.eval x) (.sl size []):=h1;rw[h2]at this;generalize hu:Value.slice ad n n=u at this;cases this;simp only[axY]at hu;exact⟨ad,by rw[h2];simp at hu;rw[hu.2.1]⟩
   obtain⟨v',w',z1,z2,z3⟩:=acG (ty:=ty) (a0:=a0) hT hI (by rw[he];simpa using hb.1) (by rw[he];simpa using hb.2) A.lt p2;unfold Oper.wp;rw[A6 (by rw[ha0,hv];exact z1)];have hn:=(A.next Φ O w' A.om ⟨z2.os,z2.tape,z2.output,z2.size,λk hk _=>z2.block k hk⟩ (λb hb=>.inl hb) (λb hb=>avE (A.om.lt A.obj b hb) z2.size) ?_).2 dst (.one<|.d<|.sl size es) v' ay1 ?_
   ·refine hK _ _ (hn.ext (λ_=>rfl) λk=>?_)
    simp only;rw[avX,aG];split
    ·rename_i c;subst c;exact hh.1
    ·rfl
   ·exact A.om.mono A.obj (λb hb=>z2.block b<|A.om.lt A.obj b hb) λb o y hn hy=>⟨by rw[awh (w:=w) (a:=⟨b,o,none⟩) (z2.block b<|cz hy)];exact hy,λc=>hn<|c.elim (λc=>c.1) λc=>A.own b c o⟩
   ·exact GR.less (g:=.d<|.sl size es) (λb o c=>c.elim (λc=>c.1) λc=>A.own b c o) z3
  ·cases hu
theorem Ma(hg:bD ops sl gd=true)(hT:P.underlying T=some (.slice E))(hI:Info P E zz size bytes)(hd:Nat.blt dst nt=true)(hk:GO C0 Q r F (m.add (X0 ops gd dst (.one (.cp size [])))) ops rest k ⟨(dst,.one (.cp size []))::sl,hp⟩):GO C0 Q r F m ops (Oo dst (.buildSlice T 0 #[]) ty pos af gd::rest) k ⟨sl,hp⟩:=
 f0 hg (λ_=>CT (len:=0) (xs:=[]) (es:=[]) hT hI ayW U .nil (by simp[lu]) U (λ_ h=>ay4) hd) U hk
theorem aa8(kk:Nat)(hg:bD ops sl gd=true)(hT:P.underlying T=some (.slice E))(hx:aN sl x=some (dv v))(hh:aE hp kk=some (.obj Φ))(i:vz Φ v T2 size es Rr)(hd:Nat.blt dst nt=true)
  (hk:GO C0 Q r F (m.add ⟨gH ops gd++ey x (dv v),[(kk,some (.obj Φ))],[(dst,.one (bB<|yw v))],[]⟩) ops rest k ⟨(dst,.one (bB<|yw v))::sl,hp⟩):GO C0 Q r F m ops (Oo dst (.binOp .eql T x (.const<|.slice none 0 0) T') ty pos af gd::rest) k ⟨sl,hp⟩:=
 let⟨e,q⟩:=aJ hx;GO.stepG (Rs:=ey x<|dv v) (Rh:=[(kk,some (.obj Φ))]) (Ws:=[(dst,.one (bB<|yw v))]) (Wh:=[]) (λsl hp hs hh a w K Q qq hK=>by
  obtain⟨M,O,A⟩:=dL qq hh.1;have hu:a.eval x=v:=RD.aX (A.one e hs);obtain⟨Os,_,p2,_⟩:=i.h M w O A.lt A.own A.obj;obtain⟨ad,cap,hv,_,_⟩:=p2.len;have hrun:(binOp .eql T (a.eval x)<|.slice none 0 0).run P w= .ok (.bool<|yw v) w:=by
   rw[hu,hv];have e:Op.equal T (.slice ad es.length cap) (.slice none 0 0)=Op.equalIn (9999+1) T (.slice ad es.length cap) (.slice none 0 0):=rfl;cases ad<;>(simp only[binOp];rw[e,Op.equalIn];simp[avw,avm hT,yw])
  have hgd:=ef (P:=P) (op:=.eql) (t:=T) (x:=x) (y:=.const<|.slice none 0 0) (v:=.slice none 0 0) (w:=w) (u:=a.eval x) (by rw[hu,hv];rfl) (λc=>by rw[hu,hv]at c;cases c);unfold Oper.wp;have:(execOp a.eval<|Oo dst (.binOp .eql T x (.const<|.slice none 0 0) T') ty pos af gd).run P w= .ok (.value<|.bool<|yw v) w:=by
   simp only[execOp,avw,Act.eval]at hgd hrun ⊢;rw[hgd];simp only[avt,hrun,avF]
  rw[this];exact hK _ _ (A.read hh.1 (res:=.one (.d (.v (.bool (yw v))))) ay1 (RD.v _ U))) hg q ⟨hh,ayS⟩ hk
end
def rowAt(v:Value)(n:Nat):Value:=match v with
 | .slice (some a) _ _=>.pointer (some<|a.add n)
 | _=>undef
theorem Row.at{T:Nat}(h:Row v T size es M w O)(hne:es≠[]):
  ∃b o cap,v= .slice (some ⟨b,o,none⟩) es.length cap/\∀(i:Nat)(cs:List DV)(j:Nat)(d:DV),es[i]? =some cs->cs[j]? =some d->∃u,w.cell? ⟨b,o+(i*size+j),none⟩=some u/\RD M w u d:=by
 obtain⟨hz,hsz,⟨q1,_,_⟩ | ⟨b,cap,cur,q1,q2,q3,q4,q5,q6,_⟩⟩:=h
 ·cases q1 with
  | sl a cap size es vals b o hc hm ha hs hv hr=>exact⟨b,o,cap,by rw[ha hne],λi cs j d h1 h2=>⟨_,(hv i cs j d h1 h2).1,hr i cs j d h1 h2⟩⟩
 ·exact⟨b,0,cap,q1,λi cs j d h1 h2=>by
   obtain⟨u,z1,z2⟩:=q6 i cs j d h1 h2;exact⟨u,by rw[awM _ _ _ _ T _ q4,avS];exact z1,z2⟩⟩
theorem U5{n:Int}{a:α}(h:idx l n=some a):0<=n/\l[n.toNat]? =some a/\n<l.length:=by
 simp only[idx]at h;split at h
 ·rename_i c
  have:=(avl.1 h).1
  exact⟨c,h,ayT⟩
 ·cases h
variable{kd:IntKind}{d:TypeDesc}{a0:α}
section
theorem JB{n:Int}{o:Oper}{res:RS}(hgd:bD ops sl o.guard=true)(hd:Nat.blt dst nt=true)(ho:o.dst=some dst)(hi:idx l n=some a0)(he:es=l.map e)(i:vz Φ v T2 size es Rr)
  (hrun:∀sl hp a w M O,bK sl Rs->At C0 sl hp kk Φ a w M O->∀b oo cap,v= .slice (some ⟨b,oo,none⟩) l.length cap->(∀(j:Nat)(d:DV),(e a0)[j]? =some d->∃u,w.cell? ⟨b,oo+(n.toNat*size+j),none⟩=some u/\RD M w u d)->∃u,(execOp a.eval o).run P w= .ok (.value u) w/\I3 M w res u)
  (hs:bK sl Rs) (hh:aE hp kk=some (.obj Φ)) (hk:GO C0 Q r F (m.add ⟨gH ops o.guard++Rs,[(kk,some (.obj Φ))],[(dst,res.sv)],[]⟩) ops rest k ⟨(dst,res.sv)::sl,hp⟩):GO C0 Q r F m ops (o::rest) k ⟨sl,hp⟩:=
 GO.stepG (Rs:=Rs) (Rh:=[(kk,some (.obj Φ))]) (Ws:=[(dst,res.sv)]) (Wh:=[]) (λsl hp hs hh a w K Q qq hK=>by
  obtain⟨M,O,A⟩:=dL qq hh.1;obtain⟨Os,_,p2,_⟩:=i.h M w O A.lt A.own A.obj;obtain⟨h0,h1,h2⟩:=U5 hi;have hne:es≠[]:=λc=>by
   have:l= []:=by rw[he]at c;simpa using c
   rw[this]at h1;simp at h1
  obtain⟨b,oo,cap,hv,hc⟩:=p2.at hne;obtain⟨u,z1,z2⟩:=hrun sl hp a w M O hs A b oo cap (by rw[hv,he];simp) (λj d hj=>hc n.toNat (e a0) j d (by rw[he];simp[h1]) hj);unfold Oper.wp;rw[z1];have:=A.read hh.1 (res:=res) (dst:=dst) ay1 z2;show K (a.put o.dst u) w;rw[ho];exact hK _ _ this) hgd hs ⟨hh,ayS⟩ hk
theorem abg(kk:Nat){n:Int}(hg:bD ops sl gd=true)(hT:P.underlying T=some (.slice E))(hI:Info P E zz size bytes)(hx:aN sl x=some (dv v))(hy:aN sl y=some (bI kd n))(hh:aE hp kk=some (.obj Φ))(i:vz Φ v T2 size es Rr)(he:es=l.map e)(hd:Nat.blt dst nt=true)
  (hk:∀a0,idx l n=some a0->GO C0 Q r (f a0) (m.add ⟨gH ops gd++(ey x (dv v)++ey y (bI kd n)),[(kk,some (.obj Φ))],[(dst,.one (dv<|rowAt v<|n.toNat*size))],[]⟩) ops rest k ⟨(dst,.one (dv<|rowAt v<|n.toNat*size))::sl,hp⟩):GO C0 Q r ((idx l n).bind f) m ops (Oo dst (.indexAddr T x y) ty pos af gd::rest) k ⟨sl,hp⟩:=
 GO.bind λa0 ha=>by
  obtain⟨e1,q1⟩:=aJ hx;obtain⟨e2,q2⟩:=aJ hy;refine JB (kk:=kk) (o:=Oo dst (.indexAddr T x y) ty pos af gd) (res:=.one<|.d<|.v<|rowAt v<|n.toNat*size) (Rs:=ey x (dv v)++ey y (bI kd n)) hg hd U ha he i (λsl hp a w M O hs A b oo cap hv _=>?_) (q1.both q2) hh (hk a0 ha);have h1:a.eval x=v:=RD.aX (A.one e1 hs.app.1);have h2:a.eval y= .int kd n:=RD.aX (A.one e2 hs.app.2)
  obtain⟨h0,_,hlt⟩:=U5 ha;have hb:0<=n/\n<(l.length:Int):=⟨h0,hlt⟩;refine⟨.pointer<|some ⟨b,oo+n.toNat*size,none⟩,?_,?_⟩
  ·simp only[execOp,h1,h2,hv,Instr.indexAt,asIntOf,avw,avF,avt,avm hT,Bool.and_false,hb,ayB,avM,hI.sizeOf,awr,avn,avB]
  ·rw[hv];simp only[rowAt,awr];exact RD.v _ U
theorem abb(kk:Nat){S:TypeId}{f q:Nat}{n:Int}(hg:bD ops sl gd=true)(hF:aaa P S f o)(hx:aN sl x=some (dv (rowAt v q)))(hh:aE hp kk=some (.obj Φ))(i:vz Φ v T2 size es Rr)(he:es=l.map e)(hi:idx l n=some a0)(hd:Nat.blt dst nt=true)
  (hk:GO C0 Q r F (m.add ⟨gH ops gd++ey x (dv<|rowAt v q),[(kk,some (.obj Φ))],[(dst,.one (dv<|rowAt v<|q+o))],[]⟩) ops rest k ⟨(dst,.one (dv<|rowAt v<|q+o))::sl,hp⟩):GO C0 Q r F m ops (Oo dst (.fieldAddr S x f) ty pos af gd::rest) k ⟨sl,hp⟩:=by
 obtain⟨e1,q1⟩:=aJ hx;obtain⟨fs,Ex,zz,sz,bytes,hS,hf,hI,hz,rfl⟩:=hF;refine JB (kk:=kk) (o:=Oo dst (.fieldAddr S x f) ty pos af gd) (res:=.one<|.d<|.v<|rowAt v<|q+Ex.offset) (Rs:=ey x<|dv<|rowAt v q) hg hd U hi he i (λsl hp a w M O hs A b oo cap hv _=>?_) q1 hh hk;have h1:a.eval x=rowAt v q:=RD.aX (A.one e1 hs);refine⟨.pointer<|some ⟨b,oo+q+Ex.offset,none⟩,?_,?_⟩
 ·rw[hv]at h1;simp only[rowAt,awr]at h1
  simp[execOp,h1,s9 hS hf hI hz]
 ·rw[hv];simp only[rowAt,awr,axp];exact RD.v _ U
theorem abk(kk:Nat){t:TypeId}{n:Int}{c:DV}(hg:bD ops sl gd=true)(hU:P.underlying t=some d)(hA:qJ d=false)(hh:aE hp kk=some (.obj Φ))(hi:idx l n=some a0)(hx:aN sl x=some (dv (rowAt v (n.toNat*size+o))))(i:vz Φ v T2 size es Rr)(he:es=l.map e)(hc:(e a0)[o]? =some c)(hd:Nat.blt dst nt=true)
  (hk:GO C0 Q r F (m.add ⟨gH ops gd++ey x (dv<|rowAt v<|n.toNat*size+o),[(kk,some (.obj Φ))],[(dst,.one (.g<|.d c))],[]⟩) ops rest k ⟨(dst,.one (.g<|.d c))::sl,hp⟩):GO C0 Q r F m ops (Oo dst (.load t x) ty pos af gd::rest) k ⟨sl,hp⟩:=by
 obtain⟨e1,q1⟩:=aJ hx;refine JB (kk:=kk) (o:=Oo dst (.load t x) ty pos af gd) (res:=.one<|.d c) (Rs:=ey x<|dv<|rowAt v<|n.toNat*size+o) hg hd U hi he i (λsl hp a w M O hs A b oo cap hv hcell=>?_) q1 hh hk;have h1:a.eval x=rowAt v (n.toNat*size+o):=RD.aX (A.one e1 hs);rw[hv]at h1;simp only[rowAt,awr]at h1;obtain⟨u,z1,z2⟩:=hcell o c hc;exact⟨u,by simp[execOp,h1,Instr.loadAt,Instr.sureAddr,loadVar,rj hU,hA,z1],z2⟩
theorem abl(kk:Nat){t:TypeId}{n:Int}(hg:bD ops sl gd=true)(hU:P.underlying t=some d)(hI:Info P t zz size bytes)(hA:qJ d=true)(hh:aE hp kk=some (.obj Φ))(hi:idx l n=some a0)(hx:aN sl x=some (dv (rowAt v (n.toNat*size))))(i:vz Φ v T2 size es Rr)(he:es=l.map e)(hn:(e a0).length=size)(hd:Nat.blt dst nt=true)
  (hk:GO C0 Q r F (m.add ⟨gH ops gd++ey x (dv<|rowAt v<|n.toNat*size),[(kk,some (.obj Φ))],[(dst,.one (.g<|.agg<|e a0))],[]⟩) ops rest k ⟨(dst,.one (.g<|.agg<|e a0))::sl,hp⟩):GO C0 Q r F m ops (Oo dst (.load t x) ty pos af gd::rest) k ⟨sl,hp⟩:=by
 obtain⟨e1,q1⟩:=aJ hx;refine JB (kk:=kk) (o:=Oo dst (.load t x) ty pos af gd) (res:=.one<|.agg<|e a0) (Rs:=ey x<|dv<|rowAt v<|n.toNat*size) hg hd U hi he i (λsl hp a w M O hs A b oo cap hv hcell=>?_) q1 hh hk;have h1:a.eval x=rowAt v (n.toNat*size):=RD.aX (A.one e1 hs);rw[hv]at h1;simp only[rowAt,awr]at h1;have KA:∀j,j<size->w.cell? ⟨b,oo+n.toNat*size+j,none⟩=some ((λj=>(w.cell? ⟨b,oo+n.toNat*size+j,none⟩).getD undef) j):=by
  intro j hj;obtain⟨u,z1,_⟩:=hcell j ((e a0)[j]' ayT) (by simp[show j<(e a0).length by omega]);rw[<-axp]at z1;simp[z1]
 refine⟨.agg ((List.range size).map λj=>(w.cell? ⟨b,oo+n.toNat*size+j,none⟩).getD undef).toArray,?_,_,U,by simp[hn],λj dd hj=>?_⟩
 ·simp only[execOp,h1,avw]
  rw[mg hU hA hI _ KA];rfl
 ·obtain⟨u,z1,z2⟩:=hcell j dd hj
  have hl:j<(e a0).length:=(avl.1 hj).1
  rw[<-axp]at z1;exact⟨u,by simp[show j<size by omega,z1],z2⟩
end
theorem Row.data{T:Nat}{M':Nat->Nat->Prop}(h:Row v T size es M w O)(h1:∀b o,M' b o->M b o)(h2:∀b o,M' b o->¬O b):RD M' w v (.sl size es):=by
 obtain⟨hz,hsz,⟨q1,_,_⟩ | ⟨b,cap,cur,rfl,q2,q3,q4,q5,q6,q7⟩⟩:=h
 ·exact GR.less (g:=.d<|.sl size es) h1 q1
 ·refine RD.sl _ cap size es (λi j=>cur.getD (i*size+j) undef) b 0 q2 q3 (λ_=>rfl) hsz (λi cs j d hi hj=>?_) (λi cs j d hi hj=>?_)
  ·obtain⟨u,z1,_⟩:=q6 i cs j d hi hj
   refine⟨?_,λc=>h2 b _ c<|(q7 b).2 U⟩;rw[awM _ _ _ _ T _ q4,avS,avx,z1];rfl
  ·obtain⟨u,z1,z2⟩:=q6 i cs j d hi hj
   rw[avx,z1];exact GR.less (g:=.d d) h1 z2
def xq(v:Value)(size lo hi:Nat):Value:=match v with
 | .slice a _ _=>.slice (if hi=lo then a else a.map (·.add (lo*size))) (hi-lo) (hi-lo)
 | _=>undef
theorem Row.cut{T lo hi:Nat}{M':Nat->Nat->Prop}(h:Row v T size es M w O)(h1:∀b o,M' b o->M b o)(h2:∀b o,M' b o->¬O b)(hl:lo<=hi)(hh:hi<=es.length):
  Row (xq v size lo hi) T size ((es.take hi).drop lo) M' w (λ_=>False):=by
 obtain⟨hz,hsz,_⟩:=id h;obtain⟨a,cap,hv,hle,pR⟩:=h.len;have hd:=h.data h1 h2;subst hv;exact⟨hz,λcs hcs=>hsz cs<|axf<|aw0 hcs,.inl ⟨hd.sub hl hh (avq _)<|awa hh hle,⟨_,_,U⟩,λ_ h=>h⟩⟩
theorem VS.cut{B:OP}{v:Value}{T size lo hi:Nat}{es:List (List DV)}(hB:bL B)(hl:lo<=hi)(hh:hi<=es.length):VS (Sep B (Row v T size es)) (λ_:Unit=>Sep B (Row (xq v size lo hi) T size ((es.take hi).drop lo))):=by
 rintro M w O _ hO ⟨O1,O2,h1,h2,h3,h4⟩;refine⟨(),O1,λb hb=>(h1 b).2<|.inl hb,O1,λ_=>False,λb=>⟨.inl,λc=>c.elim (λc=>c) False.elim⟩,λ_ _ c=>c,hB.mono h3 (λ_ _=>rfl) λb o x hn hx=>⟨hx,λc=>hn<|c.elim (λc=>c.1) λc=>hO b ((h1 b).2<|.inl c) o⟩,h4.cut (λb o c=>c.elim (λc=>c.1) λc=>hO b ((h1 b).2<|.inl c) o) (λb o c d=>?_) hl hh⟩;rcases c with c | c
 ·exact c.2 ((h1 b).2<|.inr d)
 ·exact h2 b c d
variable{lo:Int}{A:OP}
theorem VS.am7{B:Value->OP}{T:Nat}(hB:∀v,bL (B v))(h0:0<=lo)(hl:lo<=(l.length:Int))(hA:A=Sep (B (xq v size lo.toNat l.length)) (Row v T size (l.map e))):
  VS A (λ_:Unit=>qA λv=>Sep (B v)<|Row v T size<|(l.drop lo.toNat).map e):=by
 subst hA;have:=VS.cut (B:=B<|xq v size lo.toNat l.length) (v:=v) (T:=T) (size:=size) (lo:=lo.toNat) (hi:=l.length) (es:=l.map e) (hB _) ayT ayW;intro M w O h1 h2 h3;obtain⟨g,O',q1,q2⟩:=this M w O h1 h2 h3;refine⟨g,O',q1,xq v size lo.toNat l.length,?_⟩;have e1:((l.map e).take l.length).drop lo.toNat=(l.drop lo.toNat).map e:=by
  rw[axr ayW,ayr]
 rw[e1]at q2;exact q2
section
variable{u:Operand}
theorem ahq(kk:Nat){f:List α->Option R}(hg:bD ops sl gd=true)(hT:P.underlying T=some (.slice E))(hI:Info P E zz size bytes)(hx:aN sl x=some (dv v))(hy:aN sl y=some (bI .i64 lo))(hz:aN sl z=some (bI .i64 l.length))(hu:aN sl u=some (bI .i64 l.length))(hh:aE hp kk=some (.obj Φ))(i:vz Φ v T2 size es Rr)(he:es=l.map e)(hd:Nat.blt dst nt=true)
  (hk:0<=lo->lo<=l.length->GO C0 Q r (f<|l.drop lo.toNat) (m.add ⟨gH ops gd++(ey x (dv v)++(ey y (bI .i64 lo)++(ey z (bI .i64 l.length)++ey u (bI .i64 l.length)))),[(kk,some (.obj Φ))],[(dst,.one (dv<|xq v size lo.toNat l.length))],[]⟩) ops rest k ⟨(dst,.one (dv<|xq v size lo.toNat l.length))::sl,hp⟩):GO C0 Q r ((sub l lo (l.length:Int)).bind f) m ops (Oo dst (.slice T x (some y) (some z)<|some u) ty pos af gd::rest) k ⟨sl,hp⟩:=
 GO.bind λq hq=>by
  simp only[sub]at hq;split at hq
  ·rename_i hb
   cases hq;obtain⟨e1,q1⟩:=aJ hx;obtain⟨e2,q2⟩:=aJ hy;obtain⟨e3,q3⟩:=aJ hz;obtain⟨e4,q4⟩:=aJ hu;have akK:(l.take ((l.length:Int)).toNat).drop lo.toNat=l.drop lo.toNat:=by simp
   rw[akK];refine GO.stepG (Rs:=ey x (dv v)++(ey y (bI .i64 lo)++(ey z (bI .i64 l.length)++ey u (bI .i64 l.length)))) (Rh:=[(kk,some (.obj Φ))]) (Ws:=[(dst,.one (dv<|xq v size lo.toNat l.length))]) (Wh:=[]) (λsl hp hs hh a w K Q qq hK=>?_) hg (q1.both<|q2.both<|q3.both q4) ⟨hh,ayS⟩ (hk hb.1 hb.2.1);obtain⟨M,O,A⟩:=dL qq hh.1;obtain⟨Os,_,p2,_⟩:=i.h M w O A.lt A.own A.obj;obtain⟨ad,cap,hv,hle,pR⟩:=p2.len;have h1:a.eval x=v:=RD.aX (A.one e1 hs.app.1);have h2:a.eval y= .int .i64 lo:=RD.aX (A.one e2 hs.app.2.app.1)
   have h3:a.eval z= .int .i64 l.length:=RD.aX (A.one e3 hs.app.2.app.2.app.1)
   have h4:a.eval u= .int .i64 l.length:=RD.aX (A.one e4 hs.app.2.app.2.app.2)
   have hel:es.length=l.length:=by rw[he];simp
   have a1:(0:Int)<=(l.length:Int)/\(l.length:Int)<=(cap:Int):=⟨ayT,ayT⟩;have a2:(0:Int)<=(l.length:Int)/\(l.length:Int)<=((l.length:Nat):Int):=⟨ayT,avK _⟩;have a3:0<=lo/\lo<=((l.length:Nat):Int):=⟨hb.1,hb.2.1⟩;unfold Oper.wp;rw[show(execOp a.eval<|Oo dst (.slice T x (some y) (some z)<|some u) ty pos af gd).run P w= .ok (.value<|xq v size lo.toNat l.length) w by
    simp only[execOp,h1,h2,h3,h4,hv,awq,Instr.sliceAt,avw,avm hT,avt,Instr.slice,Instr.sliceBounds,Instr.sliceBound,asIntOf,a1,a2,a3,ayB,avM,hI.sizeOf,avF,avp,xq]]
   exact hK _ _ (A.read hh.1 (res:=.one<|.d<|.v<|xq v size lo.toNat l.length) ay1<|RD.v _ (by rw[hv];rfl))
  ·cases hq
end
variable{a:Act}{B:OP}{ds:List DV}
section
theorem At.more{o:Obj}(A:At C0 sl hp kk Φ a w M O)(hB:bL B)(hd:dst<nt)(hv:v.oneCell'=true)(h:∀M',(∀b o,¬M b o->b<w.heap.size->¬M' b o)->B M' (w.alloc o) (λb=>b=w.heap.size)):
  bE C0 ⟨(dst,.one (dv v))::sl,(kk,some (.obj<|Sep Φ B))::hp⟩ (a.put (some dst) v) (w.alloc o):=by
 have ld:Below w.heap.size w (w.alloc o):=dM w o;have UQ:∀b,O b->b<w.heap.size:=λb hb=>A.om.lt A.obj b hb;refine(A.next (Sep Φ B) (λb=>O b\/b=w.heap.size) (w.alloc o) (uh A.om hB) ⟨ld.os,ld.tape,ld.output,ld.size,λk hk _=>ld.block k hk⟩ (λb hb=>hb.imp id λc=>ayT) (λb hb=>?_) ⟨O,λb=>b=w.heap.size,λ_=>axE,λb h1 h2=>?_,?_,h _ λb o hn hlt c=>?_⟩).2 dst (.one<|.d<|.v v) v hd (RD.v v hv)
 ·rcases hb with hb | hb
  ·exact avE (UQ b hb) ld.size
  ·subst hb;simp
 ·have:=UQ b h1;omega
 ·refine A.om.mono A.obj (λb hb=>ld.block b<|UQ b hb) λb o x hn hx=>⟨azq,λc=>?_⟩
  rcases c with c | c | c
  ·exact hn c.1
  ·exact hn (A.own b c o)
  ·have:=cz hx;omega
 ·rcases c with c | c | c
  ·exact hn c.1
  ·exact hn (A.own b c o)
  ·omega
theorem XB(hx:Ev x (.g (.agg ds)) Rs)(hd:Nat.blt dst nt=true)
  (sl:SL) (hp:HL) (hs:bK sl Rs) (hh:dn hp [(kk,some (.obj Φ))]) (a:Act) (w:World) (K:Act->World->Prop) (Q:Exit->Act->World->Prop) (q:bE C0 ⟨sl,hp⟩ a w) (hK:∀n a w,bE C0 ⟨(dst,.one (pt n 0))::sl,(kk,some (.obj<|Sep Φ<|eu n T ds))::hp⟩ a w->K a w):(Oo dst (.box T x) ty pos af gd).wp P a w K Q:=by
 obtain⟨M,O,A⟩:=dL q hh.1;obtain⟨us,hu,hl,hc⟩:=A.one hx hs;unfold Oper.wp;rw[show(execOp a.eval<|Oo dst (.box T x) ty pos af gd).run P w= .ok (.value<|.pointer<|some ⟨w.heap.size,0,none⟩) (w.alloc<|.cells us T) by simp[execOp,Instr.box,newVar,newRow,hu,Value.cells]];refine hK w.heap.size _ _ (A.more NL ay1 U λM' hM'=>⟨λ_=>axE,us,awB w _,hl,λj d hj=>?_⟩);obtain⟨u,h1,h2⟩:=hc j d hj;have ld:Below w.heap.size w (w.alloc<|.cells us T):=dM w _;exact⟨u,h1,h2.mono λb o x hn hx=>⟨azq,hM' b o hn<|cz hx⟩⟩
theorem tQ(kk:Nat)(hg:bD ops sl gd=true)(hx:aN sl x=some (.g (.agg ds)))(hh:aE hp kk=some (.obj Φ))(hd:Nat.blt dst nt=true)(hl:qD m=true)
  (hk:∀n,GO C0 Q r F (m.add ⟨gH ops gd++ey x (.g<|.agg ds),[(kk,some (.obj Φ))],[(dst,.one (pt n 0))],[(kk,some (.obj<|Sep Φ<|eu n T ds))]⟩) ops rest k ⟨(dst,.one (pt n 0))::sl,(kk,some (.obj<|Sep Φ<|eu n T ds))::hp⟩):GO C0 Q r F m ops (Oo dst (.box T x) ty pos af gd::rest) k ⟨sl,hp⟩:=
 let⟨e,q⟩:=aJ hx
 GO.CP (γ:=Nat) 0 (Ws:=λn=>[(dst,.one (pt n 0))]) (Wh:=λn=>[(kk,some (.obj<|Sep Φ<|eu n T ds))]) (XB e hd) hg q ⟨hh,ayS⟩ hl hk
theorem Mk{t:TypeId}(hd:Nat.blt dst nt=true)
  (sl:SL) (hp:HL) (_:bK sl []) (hh:dn hp [(kk,some (.obj Φ))]) (a:Act) (w:World) (K:Act->World->Prop) (Q:Exit->Act->World->Prop) (q:bE C0 ⟨sl,hp⟩ a w) (hK:∀n a w,bE C0 ⟨(dst,.one (dv<|.map<|some n))::sl,(kk,some (.obj<|Sep Φ<|tJ n []))::hp⟩ a w->K a w):(Oo dst (.makeMap t none) ty pos af gd).wp P a w K Q:=by
 obtain⟨M,O,A⟩:=dL q hh.1;unfold Oper.wp;rw[show(execOp a.eval<|Oo dst (.makeMap t none) ty pos af gd).run P w= .ok (.value<|.map<|some w.heap.size) (w.alloc<|.map #[] 0) by simp[execOp,Instr.makeMap,newObj,Sem.run,Result.andThen]];exact hK w.heap.size _ _ (A.more Pz ay1 U λM' _=>⟨λ_=>axE,#[],0,awB w _,U,λi e h=>ay4,λi x h=>ay4,λi j x y h=>ay4⟩)
theorem TX(kk:Nat){t:TypeId}(hg:bD ops sl gd=true)(hh:aE hp kk=some (.obj Φ))(hd:Nat.blt dst nt=true)(hl:qD m=true)
  (hk:∀n,GO C0 Q r F (m.add ⟨gH ops gd++ [],[(kk,some (.obj Φ))],[(dst,.one (dv<|.map<|some n))],[(kk,some (.obj<|Sep Φ<|tJ n []))]⟩) ops rest k ⟨(dst,.one (dv<|.map<|some n))::sl,(kk,some (.obj<|Sep Φ<|tJ n []))::hp⟩):GO C0 Q r F m ops (Oo dst (.makeMap t none) ty pos af gd::rest) k ⟨sl,hp⟩:=
 GO.CP (γ:=Nat) 0 (Rs:=[]) (Ws:=λn=>[(dst,.one (dv<|.map<|some n))]) (Wh:=λn=>[(kk,some (.obj<|Sep Φ<|tJ n []))]) (Mk hd) hg ayS ⟨hh,ayS⟩ hl hk
end
section
theorem s8(kk:Nat){fn:Func}{QG:List ResultVar}{iz:R->γ->OP}{res:R->γ->RS}{r':R}(g0:γ)(hres:fn.results=QG.toArray)(hh:aE hp kk=some (.obj Φ))(he:VS Φ (λ_:Unit=>iz r' g0))(hr:cH P sl hp QG (Rw (res r' g0)))(hg:res r' g0=acE (Rw (res r' g0))):
  GF C0 (λr=>bodyPost P fn<|BM C0 (iz r)<|res r) r (some r') (.c .ret::k) ⟨sl,hp⟩:=⟨λhrr a w q=>by
 cases hrr;obtain⟨h1,v,h2,_,h3⟩:=HZ (R:=R) (r':=r) (γ:=Unit) (iz:=λ_ _=>iz r g0) (res:=λ_ _=>res r g0) kk hres hh he (λ_=>hr) (λ_=>hg) a w q;exact wp_ret (mE (Q0:=bodyPost P fn (BM C0 (iz r) (res r))) ⟨h1,v,h2,g0,h3⟩)⟩
end
theorem Zh(h:Sep tH A M w O):A M w O:=
 let⟨_,_,h1,_,h3,h4⟩:=h;oeq (λb=>⟨λc=>(h1 b).2<|.inr c,λc=>((h1 b).1 c).elim (λd=>(h3 b d).elim) λd=>d⟩) h4
theorem tj{A' B':OP}(h1:∀M w O,A M w O->A' M w O)(h2:∀M w O,B M w O->B' M w O)(h:Sep A B M w O):Sep A' B' M w O:=
 let⟨O1,O2,q1,q2,q3,q4⟩:=h;⟨O1,O2,q1,q2,h1 _ _ _ q3,h2 _ _ _ q4⟩
theorem VS.new1:VS (Sep tH B) (λ_:Unit=>B):=VS.same λ_ _ _ h=>⟨(),Zh h⟩
theorem VS.new2:VS (Sep (Sep tH A) B) (λ_:Unit=>Sep B A):=VS.same λ_ _ _ h=>⟨(),FA (tj (λ_ _ _=>Zh) (λ_ _ _ q=>q) h)⟩
theorem VS.YG:VS (Sep A B) (λ_:Unit=>Sep B A):=VS.same λ_ _ _ h=>⟨(),FA h⟩
section
end
class EZ(P:Program)(T:TypeId)(zs:outParam (List DV)):Prop where
 h:∃(zv:Value)(n bytes:Nat),Info P T zv n bytes/\ZD zv.cells.toList zs/\zs.length=n
variable{zs:List DV}
theorem zR[i:EZ P T zs]:Tm P T zs:=i.h
theorem VS.newR{B':Value->OP}{T:Nat}(hz:0<size)(hB:B=B' (.slice none 0 0)):VS (Sep tH B) (λ_:Unit=>qA λv=>Sep (B' v) (Row v T size [])):=VS.same λM w O h=>by
 subst hB;exact⟨(),.slice none 0 0,O,λ_=>False,λb=>⟨.inl,λc=>c.elim (λc=>c) False.elim⟩,λ_ _ c=>c,Zh h,Px hz M w⟩
theorem LA{C:OP}(h:Sep A (Sep B C) M w O):Sep B (Sep A C) M w O:=by
 obtain⟨O1,O2,h1,h2,h3,O3,O4,h5,h6,h7,h8⟩:=h;refine⟨O3,λb=>O1 b\/O4 b,λb=>⟨λc=>?_,λc=>?_⟩,λb c d=>?_,h7,O1,O4,λ_=>axE,λb c d=>h2 b c<|(h5 b).2<|.inr d,h3,h8⟩
 ·rcases(h1 b).1 c with c | c
  ·exact .inr (.inl c)
  ·exact((h5 b).1 c).imp id .inr
 ·rcases c with c | c | c
  ·exact(h1 b).2 (.inr<|(h5 b).2<|.inl c)
  ·exact(h1 b).2 (.inl c)
  ·exact(h1 b).2 (.inr<|(h5 b).2<|.inr c)
 ·rcases d with d | d
  ·exact h2 b d ((h5 b).2<|.inl c)
  ·exact h6 b c d
section
variable[DecidableEq α]{g:α->γ->OP}
theorem JS:∀{l:List (α×γ)}{k:α}{x:γ},bx l k=some x->∀{M:Nat->Nat->Prop}{w:World}{O:Nat->Prop},Dr (l.map λe=>g e.1 e.2) M w O->Sep (g k x) (Dr ((jR l k).map λe=>g e.1 e.2)) M w O
 | [],_,_,h,_,_,_,_=>azm
 | (a,b)::l,k,x,h,M,w,O,q=>by
  simp only[bx]at h;by_cases c:a=k
  ·rw[avk c]at h
   cases h;subst c;rw[jR,avk rfl];exact q
  ·rw[avj c]at h
   rw[jR,avj c];exact LA (tj (λ_ _ _ z=>z) (λ_ _ _ z=>JS h z) (show Sep (g a b) (Dr<|l.map λe=>g e.1 e.2) M w O from q))
theorem Na:∀{l:List (α×γ)}{k:α}{x x':γ},bx l k=some x->∀{M:Nat->Nat->Prop}{w:World}{O:Nat->Prop},Sep (g k x') (Dr ((jR l k).map λe=>g e.1 e.2)) M w O->Dr ((cw l k x').map λe=>g e.1 e.2) M w O
 | [],_,_,_,h,_,_,_,_=>azm
 | (a,b)::l,k,x,x',h,M,w,O,q=>by
  simp only[bx]at h;by_cases c:a=k
  ·rw[jR,avk c]at q
   rw[cw,avk c];exact q
  ·rw[avj c]at h
   rw[jR,avj c]at q;rw[cw,avj c];exact tj (λ_ _ _ z=>z) (λ_ _ _ z=>Na h z) (LA (show Sep (g k x') (Sep (g a b)<|Dr<|(jR l k).map λe=>g e.1 e.2) M w O from q))
theorem CN{δ:Type}{f:α->γ->δ}:∀{l:List (α×γ)}{k:α},bx (l.map λe=>(e.1,f e.1 e.2)) k=(bx l k).map (f k)
 | [],_=>rfl
 | (a,b)::l,k=>by
  simp only[avV,bx];by_cases c:a=k
  ·subst c;simp
  ·rw[avj c,avj c];exact CN
end
variable{n:Nat}
section
theorem aaU{zzE:Value}{Dd Tz:Nat}{xs:List (Nat×Operand)}{gs:List (Nat×AG)}(hg:bD ops sl gd=true)(i:Tm P T zs)(hT:P.underlying T=some (.array n E))(hIE:Info P E zzE Dd Tz)(ha:F4 sl xs=some gs)(he:(lu (λi=>some (i*Dd,Dd)) (zs.map some) gs).bind On=some ds)(hd:Nat.blt dst nt=true)
  (hk:GO C0 Q r F (m.add ⟨gH ops gd++OQ xs gs,[],[(dst,.one (.g<|.agg ds))],[]⟩) ops rest k ⟨(dst,.one (.g<|.agg ds))::sl,hp⟩):GO C0 Q r F m ops (Oo dst (.build T xs.toArray) ty pos af gd::rest) k ⟨sl,hp⟩:=
 let⟨_,_,_,hI,hz,_⟩:=i;let⟨e,q⟩:=vN ha
 GO.one (λ_=>YJ hT hI hIE hz e (by
  cases h:lu (λi=>some (i*Dd,Dd)) (zs.map some) gs with
  | none=>rw[h]at he;cases he
  | some l=>rw[h]at he;rw[Am he]) hd) hg q ayS U U hk
end
def QD{γ:Type}(g:Nat->γ->OP):Nat->List γ->OP
 | _,[]=>tH
 | n,x::l=>Sep (g n x) (QD g (n+1) l)
theorem acq{γ:Type}{g:Nat->γ->OP}(h:∀i x,bL (g i x)):∀(n:Nat)(l:List γ),bL (QD g n l)
 | _,[]=>CS
 | n,x::l=>uh (h n x) (acq h (n+1) l)
instance{γ:Type}{g:Nat->γ->OP}[i:∀n x,OM (g n x)]{n:Nat}{l:List γ}:OM (QD g n l):=⟨acq (λn x=>(i n x).h) n l⟩
theorem qH.fam{γ ι:Type}{g:Nat->γ->OP}(om:∀i x,bL (g i x)):∀{l:List γ}{n i:Nat}{x:γ}{y:ι->γ},l[i]? =some x->qH (QD g n l) (g (n+i) x) (λz=>g (n+i) (y z)) (λz=>QD g n (l.set i (y z)))
 | [],_,_,_,_,h=>ay4
 | a::l,n,0,x,y,h=>by
  simp at h;subst h;exact qH.l (acq om (n+1) l) qH.refl
 | a::l,n,i+1,x,y,h=>by
  have:=qH.r (om n a) (qH.fam (y:=y) om (l:=l) (n:=n+1) (i:=i) (x:=x)<|by simpa using h);have e:n+1+i=n+(i+1):=by omega
  rw[e]at this;exact this
theorem fc.fam{P:Program}{γ:Type}{g:Nat->γ->OP}{l:List γ}{i f:Nat}{x y:γ}{args:List RG}{res:RS}(om:∀i x,bL (g i x))(hx:l[i]? =some x)(h:fc P f (g i x) (λ_:Unit=>g i y) args (λ_=>res)):fc P f (QD g 0 l) (λ_:Unit=>QD g 0 (l.set i y)) args (λ_=>res):=by
 have:=qH.fam (ι:=Unit) (n:=0) (y:=λ_=>y) om hx;rw[avS]at this;exact h.lift this
theorem fc.XW{g:Nat->γ->OP}{l:List γ}{i f:Nat}{x:γ}{args:List RG}{res:RS}(om:∀i x,bL (g i x))(hx:l[i]? =some x)(h:fc P f (g i x) (λ_:Unit=>g i x) args (λ_=>res)):fc P f (QD g 0 l) (λ_:Unit=>QD g 0 l) args (λ_=>res):=by
 have:=fc.fam om hx h;have e:l.set i x=l:=by
  obtain⟨hi,rfl⟩:=avl.1 hx;simp
 rw[e]at this;exact this
abbrev AY(u:Value):RG:=.g (.d (.v u))
def xz:Value->List RG->Option (Nat×List RG)
 | .func (.func f) pre caps,args=>if pre.toList.all Value.oneCell'&&caps.toList.all Value.oneCell' then some (f,pre.toList.map AY++(args++caps.toList.map AY))else none
 | _,_=>none
variable{t:Nat}{u:Value}{R1:List (Nat×SV)}{j4:List RG}
section
theorem QY{args:List RG}{f:Nat}{dst:Option Nat}(h:xz u j4=some (f,args))(hc:cG P f)(ht:a.eval (.tmp t)=u)(hl:(xs.map a.eval).length=j4.length)
  (ha:∀(i:Nat)(g:RG)(v:Value),j4[i]? =some g->(xs.map a.eval)[i]? =some v->Ai P M (λ_=>False) w g v):
  ∃vs:List Value,(execOp a.eval ⟨dst,vB t xs tys,ty,pos,af,gd⟩).run P w= .ok (.enter f vs.toArray) w/\vs.length=args.length/\∀(i:Nat)(g:RG)(v:Value),args[i]? =some g->vs[i]? =some v->Ai P M (λ_=>False) w g v:=by
 unfold xz at h;split at h
 ·rename_i f' pre caps
  split at h
  ·rename_i hone
   simp only[awP,ayt]at h;obtain⟨rfl,rfl⟩:=h;simp only[avA]at hone;have akV:∀(l:List Value),(∀v,v∈l->v.oneCell'=true)->∀(i:Nat)(g:RG)(v:Value),(l.map AY)[i]? =some g->l[i]? =some v->Ai P M (λ_=>False) w g v:=λl hl i g v hg hv=>by
    simp only[avL,hv,awq,awP]at hg;subst hg;exact RD.v v (hl v<|avH hv)
   refine⟨pre.toList++(xs.map a.eval++caps.toList),?_,by simp at hl;simp[hl],λi g v hg hv=>?_⟩
   ·have:=hc (pre++(xs.map a.eval).toArray++caps) w
    simp only[execOp,resolve,ht,Deferred.ofValue,invoke,avw,avF,avt,awN];have e:(pre.toList++(xs.map a.eval++caps.toList)).toArray=pre++((xs.map a.eval).toArray++caps):=by simp
    rw[e];simpa using this
   ·by_cases c:i<pre.toList.length
    ·rw[avy ayY]at hg
     rw[avy c]at hv;exact akV _ (λv hv=>avI.1 hone.1 v hv) i g v hg hv
    ·rw[avG ayY]at hg
     rw[avG ayT]at hv;simp only[avN]at hg;by_cases c2:i-pre.toList.length<j4.length
     ·rw[avy c2]at hg
      rw[avy (by rw[hl];exact c2)]at hv;exact ha _ g v hg hv
     ·rw[avG ayT]at hg
      rw[avG (by rw[hl];omega),hl]at hv;exact akV _ (λv hv=>avI.1 hone.2 v hv) _ g v hg hv
  ·cases h
 ·cases h
theorem Ci{f:Nat}{args:List RG}{res:γ->RS}{iz:γ->OP}(hu:xz u j4=some (f,args))(hc:cG P f)(Me:fc P f Φ iz args res)(hm':∀g,bL (iz g))(hx:L1 xs j4 R1)(hd:Nat.blt dst nt=true)
  (sl:SL) (hp:HL) (hs:bK sl ((t,.one (dv u))::R1)) (hh:dn hp [(kk,some (.obj Φ))]) (a:Act) (w:World) (K:Act->World->Prop) (Q:Exit->Act->World->Prop) (q:bE C0 ⟨sl,hp⟩ a w) (hK:∀g a w,bE C0 ⟨(dst,(res g).sv)::sl,(kk,some (.obj<|iz g))::hp⟩ a w->K a w):(Oo dst (vB t xs tys) ty pos af gd).wp P a w K Q:=by
 obtain⟨M,O,A⟩:=dL q hh.1;obtain⟨h1,h2⟩:=A.args hx hs.2;have ht:a.eval (.tmp t)=u:=RD.aX (A.one (g:=.d<|.v u) (Rs:=[(t,.one (dv u))]) (Ev.t t _) ⟨hs.1,ayS⟩);obtain⟨vs,q1,q2,q3⟩:=QY (tys:=tys) (dst:=some dst) (ty:=ty) (pos:=pos) (af:=af) (gd:=gd) hu hc ht h1 h2;unfold Oper.wp;rw[q1];refine(Me.go M w O vs A.lt A.own A.obj q2 q3).mono ?_
 rintro e w' ⟨g,v,rfl,O',p1,p2,p3,p4,p5⟩;exact hK g _ _ ((A.next (iz g) O' w' (hm' g) p1 p2 p3 p4).2 dst (res g) v ay1 p5)
theorem Iq{f:Nat}{args:List RG}{res:RS}(hu:xz u j4=some (f,args))(hc:cG P f)(Me:fc P (γ:=Unit) f Φ (λ_=>Φ) args (λ_=>res))(hx:L1 xs j4 R1)(hd:Nat.blt dst nt=true)
  (sl:SL) (hp:HL) (hs:bK sl ((t,.one (dv u))::R1)) (hh:dn hp [(kk,some (.obj Φ))]) (a:Act) (w:World) (K:Act->World->Prop) (Q:Exit->Act->World->Prop) (q:bE C0 ⟨sl,hp⟩ a w) (hK:∀a w,bE C0 ⟨(dst,res.sv)::sl,hp⟩ a w->K a w):(Oo dst (vB t xs tys) ty pos af gd).wp P a w K Q:=by
 refine Ci hu hc Me (λ_=>?_) hx hd sl hp hs hh a w K Q q λ_ a w qq=>hK a w (qq.ext (λ_=>rfl) λk=>?_)
 ·obtain⟨M,O,A⟩:=dL q hh.1
  exact A.om
 ·simp only
  rw[aG];split
  ·rename_i c;subst c;exact hh.1
  ·rfl
theorem GO.never:GO C0 Q r Option.none m ops rest k ⟨sl,hp⟩:=⟨λh=>azm⟩
theorem We{c:BV}(h:aN sl (.tmp t)=some c):bG sl t=some (.one c):=by
 unfold aN at h;simp only at h;split at h
 ·rename_i h1;cases h;exact h1
 ·cases h
theorem Rb(kk:Nat){Rr:OP->OP}(hg:bD ops sl gd=true)(i:tF P X g Ψ args res)(c:cG P g)(hu:aN sl (.tmp t)=some (dv u))(ha:pM sl xs=some j4)(hcl:xz u j4=some (g,args ix))(hh:aE hp kk=some (.obj Φ))(j:Hp Φ (Ψ ix) Rr)(hj:Rr (Ψ ix)=Φ)(hd:Nat.blt dst nt=true)
  (hk:∀u',X=some u'->GO C0 Q r (f u') (m.add ⟨gH ops gd++((t,.one (dv u))::vM xs j4),[(kk,some (.obj Φ))],[(dst,(res u').sv)],[]⟩) ops rest k ⟨(dst,(res u').sv)::sl,hp⟩):GO C0 Q r (X.bind f) m ops (Oo dst (vB t xs tys) ty pos af gd::rest) k ⟨sl,hp⟩:=
 GO.bind λu' za=>let⟨e,q⟩:=fJ ha
  GO.stepG (Rs:=(t,.one (dv u))::vM xs j4) (Ws:=[(dst,(res u').sv)]) (Wh:=[]) (Iq hcl c (((i.h ix u' za).lift<|j.h λ_=>Ψ ix) |>λh=>by simpa[hj]using h) e hd) hg ⟨We hu,q⟩ ⟨hh,ayS⟩ (hk u' za)
theorem F7(kk:Nat){L0:ι->γ->α->OP}{res:γ->α->RS}{Rr:OP->OP}(hg:bD ops sl gd=true)(i:mU P X g Ψ L0 args res)(c:cG P g)(hu:aN sl (.tmp t)=some (dv u))(ha:pM sl xs=some j4)(hcl:xz u j4=some (g,args ix))(hh:aE hp kk=some (.obj Φ))(j:Hp Φ (Ψ ix) Rr)(hd:Nat.blt dst nt=true)(hl:qD m=true)
  (hk:∀u',X=some u'->∀n:γ,GO C0 Q r (f u') (m.add ⟨gH ops gd++((t,.one (dv u))::vM xs j4),[(kk,some (.obj Φ))],[(dst,(res n u').sv)],[(kk,some (.obj<|Rr<|L0 ix n u'))]⟩) ops rest k ⟨(dst,(res n u').sv)::sl,(kk,some (.obj<|Rr<|L0 ix n u'))::hp⟩):GO C0 Q r (X.bind f) m ops (Oo dst (vB t xs tys) ty pos af gd::rest) k ⟨sl,hp⟩:=
 GO.bind λu' za=>let⟨e,q⟩:=fJ ha
  GO.CP (γ:=γ) (Classical.choice i.g0) (Rs:=(t,.one (dv u))::vM xs j4) (Ws:=λn=>[(dst,(res n u').sv)]) (Wh:=λn=>[(kk,some (.obj<|Rr<|L0 ix n u'))]) (Ci hcl c ((i.h ix u' za).lift<|j.h λn=>L0 ix n u') (λn=>j.om _<|i.om ix n u') e hd) hg ⟨We hu,q⟩ ⟨hh,ayS⟩ hl (hk u' za)
class I2(P:Program){X Y:Type}(u:Value)(Φ:OP)(enc:outParam (X->AG))(val:outParam (Y->Value))(p:X->Option Y):Prop where
 h:∃f,cG P f/\∀x,∃args,xz u [.g (enc x)] =some (f,args)/\∀y,p x=some y->fc P (γ:=Unit) f Φ (λ_=>Φ) args (λ_=>.one<|.d<|.v<|val y)
theorem coI{X:Type}{enc:X->AG}{p:X->Option Y}[i:I2 P u Φ enc val p]:I2 P u Φ enc val p:=i
theorem aa2(kk:Nat){X:Type}{f:Y->Option R}{enc:X->AG}{p:X->Option Y}{x0:X}(hg:bD ops sl gd=true)(hh:aE hp kk=some (.obj Φ))(hu:aN sl (.tmp t)=some (dv u))(i:I2 P u Φ enc val p)(ha:aN sl y=some (.g (enc x0)))(hd:Nat.blt dst nt=true)
  (hk:∀u',p x0=some u'->GO C0 Q r (f u') (m.add ⟨gH ops gd++((t,.one (dv u))::(ey y (.g<|enc x0)++ [])),[(kk,some (.obj Φ))],[(dst,.one (dv<|val u'))],[]⟩) ops rest k ⟨(dst,.one (dv<|val u'))::sl,hp⟩):GO C0 Q r ((p x0).bind f) m ops (Oo dst (vB t [y] tys) ty pos af gd::rest) k ⟨sl,hp⟩:=
 GO.bind λu' za=>by
  obtain⟨e,q⟩:=aJ ha;obtain⟨g,hc,h⟩:=i.h;obtain⟨args,h1,h2⟩:=h x0;exact GO.stepG (Rs:=(t,.one (dv u))::(ey y (.g<|enc x0)++ [])) (Ws:=[(dst,.one (dv<|val u'))]) (Wh:=[]) (Iq (res:=.one<|.d<|.v<|val u') h1 hc (h2 u' za) (L1.cons e L1.nil) hd) hg ⟨We hu,q.both ayS⟩ ⟨hh,ayS⟩ (hk u' za)
def Q7(sl:SL):List Operand->Option (List Value)
 | []=>some []
 | x::xs=>match aN sl x,Q7 sl xs with
  | some (.g<|.d<|.v u),some l=>some (u::l)
  | _,_=>none
def aaS:List Operand->List Value->List (Nat×SV)
 | x::xs,u::us=>ey x (dv u)++aaS xs us
 | _,_=>[]
theorem Kc:∀{xs:List Operand}{us:List Value},Q7 sl xs=some us->bK sl (aaS xs us)/\∀{C:Cx P nt}{sl':SL}{dg:HL}{β:Nat->Option Nat}{a:Act}{w:World},bK sl' (aaS xs us)->dD C ⟨sl',dg⟩ β a w->xs.map a.eval=us
 | [],us,h=>by cases h;exact⟨ayS,λ_ _=>rfl⟩
 | x::xs,us,h=>by
  simp only[Q7]at h;split at h
  ·rename_i u l h1 h2
   cases h;obtain⟨e,q⟩:=aJ h1;obtain⟨q',h3⟩:=Kc h2;exact⟨q.both q',λhs r=>by
    rw[avV,h3 hs.app.2 r];congr 1;exact BR.aX (e.ok hs.app.1 r)⟩
  ·cases h
theorem Rk{f:Nat}{ys:List Operand}{us vs:List Value}(hg:bD ops sl gd=true)(hx:Q7 sl xs=some us)(hy:Q7 sl ys=some vs)(hd:Nat.blt dst nt=true)
  (hk:GO C0 Q r F (m.add ⟨gH ops gd++(aaS xs us++aaS ys vs),[],[(dst,.one (dv<|.func (.func f) us.toArray vs.toArray))],[]⟩) ops rest k ⟨(dst,.one (dv<|.func (.func f) us.toArray vs.toArray))::sl,hp⟩):GO C0 Q r F m ops (Oo dst (.makeFunc (.func f) xs.toArray ys.toArray) ty pos af gd::rest) k ⟨sl,hp⟩:=
 let⟨q1,h1⟩:=Kc (P:=P) (nt:=nt) hx;let⟨q2,h2⟩:=Kc (P:=P) (nt:=nt) hy
 GO.one (λ_=>bu (Rh:=[]) (sv:=.one<|dv<|.func (.func f) us.toArray vs.toArray) hd U λsl hp β a w hs _ r=>⟨_,by
  simp only[execOp,Instr.makeFunc,avw,avF,avt,awN];rw[h1 hs.app.1 r,h2 hs.app.2 r],RD.v _ rfl⟩) hg (q1.both q2) trivial rfl rfl hk
theorem bE.aev{sl':SL}{dg:HL}{T:Nat}{ex:Bool}(t:Nat)(q:bE C0 ⟨sl,hp⟩ a w)(ht:bG sl t=some (.one (.own kk es)))(hh:aE hp kk=some (.row T size es ex))(hs:bK sl sl')(hq:dn hp dg)(hw:tY sl' dg=true)(hk:aE dg kk=none):
  bE C0 ⟨(t,.one (.g<|.d<|.sl size es))::sl',dg⟩ a w:=by
 obtain⟨C,σ,lk,ob,c1,c2,β,r⟩:=q;have hno:∀k e b,aE hp k=some e->β k=some b->∀o,¬C.M b o:=λk e b q1 q2 o c=>by
  have hb:=r.own k e b q1 q2;have:=r.low b o c;rcases hb.1 with hb | hb
  ·omega
  ·exact this.2 hb
 refine⟨C,σ,lk,ob.sub λn Φ hn=>hq.mem<|lJ hn,λt' sv' hs'=>?_,λn e hn=>c2 n e<|hq.mem<|lJ hn,β,(r.cv hs hq hw).slot ?_⟩
 ·rw[eX]at hs'
  split at hs'
  ·cases hs';rfl
  ·exact c1 t' sv' (hs.mem<|wP hs')
 ·show RD _ w _ _
  obtain⟨T1,alO,Td,ex1,e1,_,e3⟩:=(r.sl t _ ht:BR C hp β w (.own kk es) _);rw[hh]at e1;cases e1;obtain⟨hz,hsz,hrow⟩:=r.hp kk _ hh;rcases e3 rfl with⟨_,rfl,ad,hu⟩ | ⟨b,cap,cur,hb,hu,hle,pR,hheap,hcs⟩
  ·rw[hu];exact RD.nil ad 0 size (av5 _)
  ·rw[hu]
   rcases hrow with⟨q,_⟩ | ⟨b',cur',q1,q2,q3,q4⟩
   ·rw[hb]at q;cases q
   ·rw[hb]at q1;cases q1
    rw[hheap]at q2;cases q2;refine RD.sl _ cap size es (λi j=>cur.getD (i*size+j) Go.undef) b 0 hle pR (λ_=>rfl) hsz (λi cs j d hi hj=>?_) (λi cs j d hi hj=>?_)
    ·obtain⟨u,z1,_⟩:=q4 i cs j d hi hj
     refine⟨?_,λc=>?_⟩
     ·rw[awM _ _ _ _ T _ hheap,avS,avx,z1]
      rfl
     ·rcases c with c | ⟨k',e',z2,z3,_⟩
      ·exact hno kk _ b hh hb _ c
      ·have:k'=kk:=r.inj k' kk e' _ b (hq.mem<|lJ z2) hh z3 hb
       subst this;rw[hk]at z2;cases z2
    ·obtain⟨u,z1,z2⟩:=q4 i cs j d hi hj
     rw[avx,z1];exact GR.less (g:=.d d) (λb' o c=>by
      rcases c with c | ⟨k',e',z2,z3,z4⟩
      ·exact .inl c
      ·exact .inr ⟨k',e',hq.mem (lJ z2),z3,z4⟩) z2
class EX{R:Type}(F:Option R)(S0 S:outParam St):Prop where
 h:∀{P:Program}{nt:Nat}(C0:Cx P nt) a w,bE C0 S0 a w->bE C0 S a w
theorem frI{S0 S:St}[i:EX F S0 S]:EX F S0 S:=i
theorem GF.frz{S0 S:St}(i:EX F S0 S)(hst:∀a w,bE C0 st a w->bE C0 S0 a w)(hk:GF C0 Q r F k S):GF C0 Q r F k st:=⟨λhr a w q=>hk.go hr a w (i.h C0 a w (hst a w q))⟩
end
variable{hi:Int}
theorem Qj{q:List α}(h:sub l lo hi=some q):0<=lo/\lo<=hi/\hi<=l.length/\q=(l.take hi.toNat).drop lo.toNat:=by
 simp only[sub]at h;split at h
 ·rename_i c;cases h;exact⟨c.1,c.2.1,c.2.2,U⟩
 ·cases h
theorem vsA{B:γ->OP}(i:VSC A B):VS A B:=i.h
abbrev aj1(x y:Operand)(T1 T2:TypeId):Op:=.call { callee:=.builtin .min,args:=#[x,y],argTypes:=#[T1,T2] }
def Di(v:Value)(size lo:Nat):Value:=match v with
 | .slice a n cap=>.slice (if cap=lo then a else a.map (·.add (lo*size))) (n-lo) (cap-lo)
 | _=>undef
variable{i:Int}{T1:TypeId}{j:Int}{R2:List (Nat×SV)}
section
variable{u:Operand}
theorem afk{T2:TypeId}(hx:Ev x (bI kd i) R1)(hy:Ev y (bI kd j) R2)(hd:Nat.blt dst nt=true):dJ C (Oo dst (aj1 x y T1 T2) ty pos af gd) (R1++R2) [] [(dst,.one (bI kd (if j<i then j else i)))] []:=
 bu hd U λsl hp β a w hs _ r=>by
  have h1:=BR.aX (hx.ok hs.app.1 r);have h2:=BR.aX (hy.ok hs.app.2 r);exact⟨.int kd<|if j<i then j else i,by simp[execOp,resolve,invoke,builtin,Builtin.min_,Builtin.min2,h1,h2],RD.v _ U⟩
theorem akl{T2:TypeId}(hg:bD ops sl gd=true)(hx:aN sl x=some (bI kd i))(hy:aN sl y=some (bI kd j))(hd:Nat.blt dst nt=true)
  (hk:GO C0 Q r F (m.add<|X2 ops gd x (bI kd i) y (bI kd j) dst<|.one<|bI kd<|if j<i then j else i) ops rest k ⟨(dst,.one (bI kd<|if j<i then j else i))::sl,hp⟩):GO C0 Q r F m ops (Oo dst (aj1 x y T1 T2) ty pos af gd::rest) k ⟨sl,hp⟩:=
 f2 hg (λ_ _ _ e e'=>afk e e' hd) hx hy U hk
theorem akk{T2:TypeId}(hg:bD ops sl gd=true)(hx:aN sl x=some (bI kd i))(hy:aN sl y=some (bI kd j))(hd:Nat.blt dst nt=true)
  (hk:GO C0 Q r F (m.add<|X2 ops gd x (bI kd i) y (bI kd j) dst<|.one<|bI kd<|if j>i then j else i) ops rest k ⟨(dst,.one (bI kd<|if j>i then j else i))::sl,hp⟩):GO C0 Q r F m ops (Oo dst (aj0 x y T1 T2) ty pos af gd::rest) k ⟨sl,hp⟩:=
 f2 hg (λ_ _ _ e e'=>aiq e e' hd) hx hy U hk
theorem abp{f:List α->Option R}(hg:bD ops sl gd=true)(hT:P.underlying T=some (.slice E))(hI:Info P E zz size bytes)(hx:aN sl x=some (.g (.d (.sl size es))))(he:es=l.map e)(hz:aN sl z=some (bI .i64 hi))(hd:Nat.blt dst nt=true)
  (hk:GO C0 Q r (f<|l.take hi.toNat) (m.add<|X2 ops gd x (.g<|.d<|.sl size es) z (bI .i64 hi) dst<|.one<|.g<|.d<|.sl size<|(l.take hi.toNat).map e) ops rest k ⟨(dst,.one (.g<|.d<|.sl size<|(l.take hi.toNat).map e))::sl,hp⟩):GO C0 Q r ((sub l 0 hi).bind f) m ops (Oo dst (.slice T x none (some z) none) ty pos af gd::rest) k ⟨sl,hp⟩:=
 GO.bind λq hq=>by
  obtain⟨h0,h1,h2,h3⟩:=Qj hq;have e3:q=l.take hi.toNat:=by rw[h3];simp
  subst e3 he;obtain⟨e1,q1⟩:=aJ hx;obtain⟨e2,q2⟩:=aJ hz;exact GO.one (Rs:=ey x (.g<|.d<|.sl size<|l.map e)++ey z (bI .i64 hi)) (Rh:=[]) (λ_=>NS (es':=(l.take hi.toNat).map e) (lo:=none) (hi:=some hi) hT hI (avK _) ay7 azG ayW e1 EvO.none (EvO.some e2) hd) hg (q1.both q2) ayS U U hk
theorem aho(kk:Nat){f:List α->Option R}(hg:bD ops sl gd=true)(hT:P.underlying T=some (.slice E))(hI:Info P E zz size bytes)(hx:aN sl x=some (dv v))(hz:aN sl z=some (bI .i64 hi))(hu:aN sl u=some (bI .i64 hi))(hh:aE hp kk=some (.obj Φ))(i:vz Φ v T2 size es Rr)(he:es=l.map e)(hd:Nat.blt dst nt=true)
  (hk:0<=hi->hi<=l.length->GO C0 Q r (f<|l.take hi.toNat) (m.add ⟨gH ops gd++(ey x (dv v)++(ey z (bI .i64 hi)++ey u (bI .i64 hi))),[(kk,some (.obj Φ))],[(dst,.one (dv<|xq v size 0 hi.toNat))],[]⟩) ops rest k ⟨(dst,.one (dv<|xq v size 0 hi.toNat))::sl,hp⟩):GO C0 Q r ((sub l 0 hi).bind f) m ops (Oo dst (.slice T x none (some z)<|some u) ty pos af gd::rest) k ⟨sl,hp⟩:=
 GO.bind λq hq=>by
  obtain⟨h0,hb1,hb2,h3⟩:=Qj hq;have e0:q=l.take hi.toNat:=by rw[h3];simp
  subst e0;obtain⟨e1,q1⟩:=aJ hx;obtain⟨e3,q3⟩:=aJ hz;obtain⟨e4,q4⟩:=aJ hu;refine GO.stepG (Rs:=ey x (dv v)++(ey z (bI .i64 hi)++ey u (bI .i64 hi))) (Rh:=[(kk,some (.obj Φ))]) (Ws:=[(dst,.one (dv<|xq v size 0 hi.toNat))]) (Wh:=[]) (λsl hp hs hh a w K Q qq hK=>?_) hg (q1.both<|q3.both q4) ⟨hh,ayS⟩ (hk hb1 hb2);obtain⟨M,O,A⟩:=dL qq hh.1;obtain⟨Os,_,p2,_⟩:=i.h M w O A.lt A.own A.obj;obtain⟨ad,cap,hv,hle,pR⟩:=p2.len;have h1:a.eval x=v:=RD.aX (A.one e1 hs.app.1);have h3:a.eval z= .int .i64 hi:=RD.aX (A.one e3 hs.app.2.app.1)
  have h4:a.eval u= .int .i64 hi:=RD.aX (A.one e4 hs.app.2.app.2)
  have hel:es.length=l.length:=by rw[he];simp
  have a1:(0:Int)<=hi/\hi<=(cap:Int):=⟨hb1,ayT⟩;have a2:(0:Int)<=hi/\hi<=((hi.toNat:Nat):Int):=⟨hb1,ayT⟩;unfold Oper.wp;rw[show(execOp a.eval<|Oo dst (.slice T x none (some z)<|some u) ty pos af gd).run P w= .ok (.value<|xq v size 0 hi.toNat) w by
   simp only[execOp,h1,h3,h4,hv,awq,aw2,Instr.sliceAt,avw,avm hT,avt,Instr.slice,Instr.sliceBounds,Instr.sliceBound,asIntOf,a1,a2,ayB,avM,hI.sizeOf,avF,xq]]
  exact hK _ _ (A.read hh.1 (res:=.one<|.d<|.v<|xq v size 0 hi.toNat) ay1<|RD.v _ (by rw[hv];rfl))
theorem ahp(kk:Nat){f:List α->Option R}(hg:bD ops sl gd=true)(hT:P.underlying T=some (.slice E))(hI:Info P E zz size bytes)(hx:aN sl x=some (dv v))(hy:aN sl y=some (bI .i64 lo))(hh:aE hp kk=some (.obj Φ))(i:vz Φ v T2 size es Rr)(he:es=l.map e)(hd:Nat.blt dst nt=true)
  (hk:0<=lo->lo<=l.length->GO C0 Q r (f<|l.drop lo.toNat) (m.add ⟨gH ops gd++(ey x (dv v)++ey y (bI .i64 lo)),[(kk,some (.obj Φ))],[(dst,.one (dv<|Di v size lo.toNat))],[]⟩) ops rest k ⟨(dst,.one (dv<|Di v size lo.toNat))::sl,hp⟩):GO C0 Q r ((sub l lo (l.length:Int)).bind f) m ops (Oo dst (.slice T x (some y) none none) ty pos af gd::rest) k ⟨sl,hp⟩:=
 GO.bind λq hq=>by
  obtain⟨h0,hb1,hb2,h3⟩:=Qj hq;have e0:q=l.drop lo.toNat:=by rw[h3];simp
  subst e0;obtain⟨e1,q1⟩:=aJ hx;obtain⟨e2,q2⟩:=aJ hy;refine GO.stepG (Rs:=ey x (dv v)++ey y (bI .i64 lo)) (Rh:=[(kk,some (.obj Φ))]) (Ws:=[(dst,.one (dv<|Di v size lo.toNat))]) (Wh:=[]) (λsl hp hs hh a w K Q qq hK=>?_) hg (q1.both q2) ⟨hh,ayS⟩ (hk h0 hb1);obtain⟨M,O,A⟩:=dL qq hh.1;obtain⟨Os,_,p2,_⟩:=i.h M w O A.lt A.own A.obj;obtain⟨ad,cap,hv,hle,pR⟩:=p2.len;have h1:a.eval x=v:=RD.aX (A.one e1 hs.app.1);have h2:a.eval y= .int .i64 lo:=RD.aX (A.one e2 hs.app.2)
  have hel:es.length=l.length:=by rw[he];simp
  have a3:0<=lo/\lo<=((es.length:Nat):Int):=⟨h0,ayT⟩;unfold Oper.wp;rw[show(execOp a.eval<|Oo dst (.slice T x (some y) none none) ty pos af gd).run P w= .ok (.value<|Di v size lo.toNat) w by
   simp only[execOp,h1,h2,hv,awq,aw2,Instr.sliceAt,avw,avm hT,avt,Instr.slice,Instr.sliceBounds,Instr.sliceBound,asIntOf,a3,ayB,avM,hI.sizeOf,avF,Di]]
  exact hK _ _ (A.read hh.1 (res:=.one<|.d<|.v<|Di v size lo.toNat) ay1<|RD.v _ (by rw[hv];rfl))
theorem Xy{lo hi:Nat}{es':List (List DV)}(hT:P.underlying T=some (.slice E))(hI:Info P E zz size bytes)(hzs:Nat.beq zz.cells.size size=true)(h1:hi<=es.length)(h2:lo<=es.length)(he:es.take hi++es.drop lo=es')(hb1:es'.length<=1099511627776)(hb2:es'.length*bytes<=140737488355328)
  (i:vz Φ v E size es Rr) (hx:Ev x (dv<|xq v size 0 hi) R1) (hy:Ev y (dv<|Di v size lo) R2) (hd:Nat.blt dst nt=true)
  (sl:SL) (hp:HL) (hs:bK sl (R1++R2)) (hh:dn hp [(kk,some (.obj Φ))]) (a:Act) (w:World) (K:Act->World->Prop) (Q:Exit->Act->World->Prop) (q:bE C0 ⟨sl,hp⟩ a w) (hK:∀g a w,bE C0 ⟨(dst,.one (dv g))::sl,(kk,some (.obj<|Rr g es'))::hp⟩ a w->K a w):(Oo dst (D7 x y T) ty pos af gd).wp P a w K Q:=by
 obtain⟨M,O,A⟩:=dL q hh.1;have hu:a.eval x=xq v size 0 hi:=RD.aX (A.one hx hs.app.1);have hy':a.eval y=Di v size lo:=RD.aX (A.one hy hs.app.2);obtain⟨Os,p1,p2,p4⟩:=i.h M w O A.lt A.own A.obj
 let M1:Nat->Nat->Prop:=λb o=>M b o/\¬Os b
 have hc:Row (xq v size 0 hi) E size (es.take hi) M1 w (λ_=>False):=by
  have:=p2.cut (M':=M1) (lo:=0) (hi:=hi) (λb o c=>c.1) (λb o c=>c.2) (av5 _) h1;simpa using this
 have ht:RD M1 w (Di v size lo) (.sl size<|es.drop lo):=by
  have hd1:=p2.data (M':=M1) (λb o c=>c.1) (λb o c=>c.2);obtain⟨ad,cap,hv,hle,pR⟩:=p2.len;subst hv;have:=hd1.sub (l:=lo) (hh:=es.length) (cap':=cap) h2 (avq _) hle (avq _);rw[axc]at this;exact this
 obtain⟨v',w',O1,z1,z2,z3,z4,z5⟩:=A5 (ty:=ty) hT hI (av3 hzs) he hb1 hb2 (λb hb=>hb.elim) (λb o c=>A.lt b o c.1) hc ht;have Ny:v'.oneCell'=true:=by obtain⟨_,_,e,_⟩:=z5.len;rw[e];rfl
 have z5':Row v' E size es' (λb o=>(M b o/\¬Os b)\/O1 b) w' O1:=meq (λb o=>⟨λc=>c.elim (λc=>.inl c.1) .inr,λc=>c.elim (λc=>.inl ⟨c,id⟩) .inr⟩) z5;obtain⟨O',q1,q2,q3,q4,q5⟩:=Ei.lift (res:=.one<|.d<|.v v') (v:=v') A.lt A.own p1 (p4 (v',es')) ⟨O1,⟨z2.os,z2.tape,z2.output,z2.size,λk hk _=>z2.block k hk id⟩,λb hb=>.inr<|(z3 b hb).resolve_left id,z4,z5',RD.v _ Ny⟩;unfold Oper.wp;rw[A6 (by rw[hu,hy'];exact z1)];exact hK v' _ _ ((A.next _ O' w' (i.om _ _) q1 q2 q3 q4).2 dst (.one<|.d<|.v v') v' ay1 q5)
theorem XS(kk:Nat){f:List α->Option R}(hg:bD ops sl gd=true)(hT:P.underlying T=some (.slice E))(hI:Info P E zz size bytes)(hx:aN sl x=some (dv (xq v size 0 hi.toNat)))(hy:aN sl y=some (dv (Di v size lo.toNat)))(hh:aE hp kk=some (.obj Φ))(i:vz Φ v E size es Rr)(he:es=l.map e)(h1:hi<=l.length)(h2:lo<=l.length)(hzs:Nat.beq zz.cells.size size=true)(hd:Nat.blt dst nt=true)(hl:qD m=true)
  (hk:∀g:Value,GO C0 Q r (f<|l.take hi.toNat++l.drop lo.toNat) (m.add ⟨gH ops gd++(ey x (dv<|xq v size 0 hi.toNat)++ey y (dv<|Di v size lo.toNat)),[(kk,some (.obj Φ))],[(dst,.one (dv g))],[(kk,some (.obj<|Rr g<|(l.take hi.toNat++l.drop lo.toNat).map e))]⟩) ops rest k ⟨(dst,.one (dv g))::sl,(kk,some (.obj<|Rr g<|(l.take hi.toNat++l.drop lo.toNat).map e))::hp⟩):GO C0 Q r ((app bytes (l.take hi.toNat)<|l.drop lo.toNat).bind f) m ops (Oo dst (D7 x y T) ty pos af gd::rest) k ⟨sl,hp⟩:=
 GO.bind λu hu=>by
  simp only[app]at hu;split at hu
  ·rename_i hb
   cases hu;subst he;obtain⟨e1,q1⟩:=aJ hx;obtain⟨e2,q2⟩:=aJ hy;exact GO.CP (γ:=Value) undef (Ws:=λg=>[(dst,.one (dv g))]) (Wh:=λg=>[(kk,some (.obj<|Rr g<|(l.take hi.toNat++l.drop lo.toNat).map e))]) (Xy hT hI hzs (by rw[avN];omega) (by rw[avN];omega) (by rw[axm,ays,ayr]) (by rw[avN];exact hb.1) (by rw[avN];exact hb.2) i e1 e2 hd) hg (q1.both q2) ⟨hh,ayS⟩ hl hk
  ·cases hu
end
theorem bE.vs(kk:Nat)(q:bE C0 ⟨sl,hp⟩ a w)(hh:aE hp kk=some (.obj A))(h:VS A (λ_:Unit=>B))(om:bL B):bE C0 ⟨sl,(kk,some (.obj B))::hp⟩ a w:=by
 obtain⟨M,O,A1⟩:=dL q hh;obtain⟨g,O',h1,h2⟩:=h M w O A1.lt A1.own A1.obj;exact(A1.next B O' w om ⟨U,U,U,avq _,λ_ _ _=>rfl⟩ (λb hb=>.inl<|h1 b hb) (λb hb=>A1.lt b 0<|A1.own b (h1 b hb) 0) h2).1
theorem aiH(h:A M w O):Sep A tH M w O:=⟨O,λ_=>False,λ_=>⟨.inl,λc=>c.elim (λc=>c) False.elim⟩,λ_ _ c=>c,h,λ_ c=>c⟩
theorem SA{C:OP}(h:Sep (Sep A B) C M w O):Sep A (Sep B C) M w O:=LA (tj (λ_ _ _ z=>z) (λ_ _ _=>FA) (LA (FA (tj (λ_ _ _=>FA) (λ_ _ _ z=>z) h))))
theorem acM{C:OP}(h:Sep A (Sep B C) M w O):Sep (Sep A B) C M w O:=FA (tj (λ_ _ _ z=>z) (λ_ _ _ z=>z) (LA (tj (λ_ _ _ z=>z) (λ_ _ _=>FA) h)))
theorem V6:∀{l:List OP}{A:OP}{M:Nat->Nat->Prop}{w:World}{O:Nat->Prop},Sep (Dr l) A M w O->Dr (l++ [A]) M w O
 | [],_,_,_,_,h=>FA h
 | _::_,_,_,_,_,h=>tj (λ_ _ _ z=>z) (λ_ _ _ z=>V6 z) (SA h)
theorem bE.D5(k:Nat)(q:bE C0 ⟨sl,hp⟩ a w)(hk:aE hp k=none)(h0:Nat.blt 0 k=true):bE C0 ⟨sl,(k,some (.obj tH))::hp⟩ a w:=by
 obtain⟨C,σ,lk,ob,c1,c2,β,r⟩:=q;have hg:∀n Φ,aE ((k,some (HE.obj tH))::hp) n=some (.obj Φ)->(n=k/\Φ=tH)\/(n≠k/\aE hp n=some (.obj Φ)):=λn Φ h=>by
  rw[aG]at h;by_cases c:k=n
  ·rw[avk c]at h;cases h;exact .inl ⟨c.symm,U⟩
  ·rw[avj c]at h;exact .inr ⟨λc'=>c c'.symm,h⟩
 refine⟨C,λn=>if n=k then(λ_=>False)else σ n,lk,⟨λn Φ h=>?_,λn Φ b h hb=>?_,λn n' Φ iz b h h' hb hb'=>?_,λn Φ h=>?_⟩,c1,λn e h=>?_,dQ β k none,(r.new hk h0 (avU _ _) (λ_ c=>aBT) λ_ _=>by simp[HR,dQ]).1⟩
 ·rcases hg n Φ h with⟨rfl,rfl⟩ | ⟨c,h⟩
  ·intro b;simp
  ·simp only[avj c];exact ob.ok n Φ h
 ·rcases hg n Φ h with⟨rfl,rfl⟩ | ⟨c,h⟩
  ·simp at hb
  ·simp only[avj c]at hb;exact ob.own n Φ b h hb
 ·rcases hg n Φ h with⟨rfl,rfl⟩ | ⟨c,h⟩
  ·simp at hb
  ·rcases hg n' iz h' with⟨rfl,rfl⟩ | ⟨c',h'⟩
   ·simp at hb'
   ·simp only[avj c]at hb
    simp only[avj c']at hb';exact ob.Q4 n n' Φ iz b h h' hb hb'
 ·rcases hg n Φ h with⟨rfl,rfl⟩ | ⟨c,h⟩
  ·exact CS
  ·exact ob.mono n Φ h
 ·rw[aG]at h
  split at h
  ·cases h;rfl
  ·exact c2 n e h
theorem bE.merge(k1 k2:Nat)(q:bE C0 ⟨sl,hp⟩ a w)(h1:aE hp k1=some (.obj A))(h2:aE hp k2=some (.obj B))(hne:Nat.beq k1 k2=false):bE C0 ⟨sl,(k1,some (.obj (Sep A B)))::(k2,some (.obj tH))::hp⟩ a w:=by
 obtain⟨C,σ,lk,ob,c1,c2,β,r⟩:=q;have HK:k1≠k2:=λc=>by subst c;simp at hne
 have b1:β k1=none:=r.hp k1 _ h1;have b2:β k2=none:=r.hp k2 _ h2;have hg:∀n e,aE ((k1,some (HE.obj<|Sep A B))::(k2,some (HE.obj tH))::hp) n=some e->(n=k1/\e= .obj (Sep A B))\/(n=k2/\e= .obj tH)\/(n≠k1/\n≠k2/\aE hp n=some e):=λn e h=>by
  rw[aG,aG]at h;by_cases c:k1=n
  ·rw[avk c]at h;cases h;exact .inl ⟨c.symm,U⟩
  ·rw[avj c]at h
   by_cases c':k2=n
   ·rw[avk c']at h;cases h;exact .inr (.inl ⟨c'.symm,U⟩)
   ·rw[avj c']at h;exact .inr (.inr ⟨λz=>c z.symm,λz=>c' z.symm,h⟩)
 have hb:∀n e b,aE ((k1,some (HE.obj<|Sep A B))::(k2,some (HE.obj tH))::hp) n=some e->β n=some b->aE hp n=some e:=λn e b h q=>by
  rcases hg n e h with⟨rfl,rfl⟩ | ⟨rfl,rfl⟩ | ⟨_,_,h⟩
  ·rw[b1]at q;cases q
  ·rw[b2]at q;cases q
  ·exact h
 have hup:∀n e,aE hp n=some e->e.isObj=false->aE ((k1,some (HE.obj<|Sep A B))::(k2,some (HE.obj tH))::hp) n=some e/\β n=β n:=λn e h q=>by
  refine⟨?_,U⟩;rw[aG,avj (λc=>by subst c;rw[h1]at h;cases h;cases q),aG,avj (λc=>by subst c;rw[h2]at h;cases h;cases q)];exact h
 have Hl:∀b o,Mu C ((k1,some (HE.obj<|Sep A B))::(k2,some (HE.obj tH))::hp) β b o->Mu C hp β b o:=by
  rintro b o (c | ⟨n,e,q1,q2,q3⟩)
  ·exact .inl c
  ·exact .inr ⟨n,e,hb n e b q1 q2,q2,q3⟩
 refine⟨C,λn=>if n=k1 then(λb=>σ k1 b\/σ k2 b)else if n=k2 then(λ_=>False)else σ n,lk,⟨λn Φ h=>?_,λn Φ b h hb'=>?_,λn n' Φ iz b h h' hb1 hb2=>?_,λn Φ h=>?_⟩,c1,λn e h=>?_,β,r.move c1 c2 (λb o x hn hx=>⟨hx,λc=>hn<|Hl b o c⟩) (λ_ _ _ _ _=>rfl) (λ_ _ _ k _ e he ho=>hup k e he ho) r.keep r.low (λk k' e e' b q1 q2 q3 q4=>r.inj k k' e e' b (hb k e b q1 q3) (hb k' e' b q2 q4) q3 q4) (λk e b q1 q2=>r.own k e b (hb k e b q1 q2) q2) (λk e h=>?_) λb hF=>⟨(r.fx b hF).1,λe he=>?_⟩⟩
 ·rcases hg n _ h with⟨rfl,q⟩ | ⟨rfl,q⟩ | ⟨c,c',h⟩
  ·cases q
   simp only[avk];exact⟨σ n,σ k2,λ_=>axE,λb z1 z2=>HK<|ob.Q4 n k2 A B b h1 h2 z1 z2,ob.ok n A h1,ob.ok k2 B h2⟩
  ·cases q
   simp only[avj HK.symm,avk];intro b z;exact z
  ·simp only[avj c,avj c'];exact ob.ok n Φ h
 ·rcases hg n _ h with⟨rfl,q⟩ | ⟨rfl,q⟩ | ⟨c,c',h⟩
  ·simp only[avk]at hb'
   rcases hb' with z | z
   ·exact ob.own n A b h1 z
   ·exact ob.own k2 B b h2 z
  ·simp only[avj HK.symm,avk]at hb'
  ·simp only[avj c,avj c']at hb';exact ob.own n Φ b h hb'
 ·have key:∀n Φ,aE ((k1,some (HE.obj<|Sep A B))::(k2,some (HE.obj tH))::hp) n=some (.obj Φ)->(if n=k1 then(λb=>σ k1 b\/σ k2 b)else if n=k2 then(λ_=>False)else σ n) b->(n=k1/\(σ k1 b\/σ k2 b))\/(n≠k1/\n≠k2/\aE hp n=some (.obj Φ)/\σ n b):=λn Φ h z=>by
   rcases hg n _ h with⟨rfl,q⟩ | ⟨rfl,q⟩ | ⟨c,c',h⟩
   ·simp only[avk]at z;exact .inl ⟨U,z⟩
   ·simp only[avj HK.symm,avk]at z
   ·simp only[avj c,avj c']at z;exact .inr ⟨c,c',h,z⟩
  rcases key n Φ h hb1 with⟨rfl,z⟩ | ⟨c,c',g,z⟩<;>rcases key n' iz h' hb2 with⟨rfl,z'⟩ | ⟨d,d',g',z'⟩
  ·rfl
  ·rcases z with z | z
   ·exact ob.Q4 n n' A iz b h1 g' z z'
   ·exact absurd (ob.Q4 k2 n' B iz b h2 g' z z') (λe=>d' e.symm)
  ·rcases z' with z' | z'
   ·exact ob.Q4 n n' Φ A b g h1 z z'
   ·exact absurd (ob.Q4 n k2 Φ B b g h2 z z') c'
  ·exact ob.Q4 n n' Φ iz b g g' z z'
 ·rcases hg n _ h with⟨rfl,q⟩ | ⟨rfl,q⟩ | ⟨c,c',h⟩
  ·cases q;exact uh (ob.mono n A h1) (ob.mono k2 B h2)
  ·cases q;exact CS
  ·exact ob.mono n Φ h
 ·rcases hg n e h with⟨rfl,rfl⟩ | ⟨rfl,rfl⟩ | ⟨c,c',h⟩
  ·rfl
  ·rfl
  ·exact c2 n e h
 ·rcases hg k e h with⟨rfl,rfl⟩ | ⟨rfl,rfl⟩ | ⟨c,c',h⟩
  ·exact .inr b1
  ·exact .inr b2
  ·cases ho:e.isObj with
   | false=>exact .inl ⟨h,U,U,λi _ e' he' ho'=>hup i e' he' ho'⟩
   | true=>
    refine .inr ?_
    cases e<;>first | (cases ho;done) | exact r.hp k _ h
 ·rcases hg 0 e he with⟨q,rfl⟩ | ⟨q,rfl⟩ | ⟨c,c',h⟩
  ·rfl
  ·rfl
  ·exact(r.fx b hF).2 e h
theorem GF.pre{st':St}(h:∀a w,bE C0 st a w->bE C0 st' a w)(hk:GF C0 Q r F k st'):GF C0 Q r F k st:=⟨λhr a w q=>hk.go hr a w (h a w q)⟩
theorem Lx{T:Nat}(hz:0<size)(h:A M w O):Sep A (Row (.slice none 0 0) T size []) M w O:=⟨O,λ_=>False,λ_=>⟨.inl,λc=>c.elim (λc=>c) False.elim⟩,λ_ _ c=>c,h,Px hz M w⟩
open Go.ChangeMaps (setBlock)
def Cb(b r:Nat)(es:List (Value×AG))(done:List Nat):OP:=λM w O=>(∀x,O x↔x=b\/x=r)/\b≠r/\∃cm n since seen,w.heap[b]? =some (.map cm n)/\w.heap[r]? =some (.mapIter (some b) since seen n)/\cm.size=es.length/\
 (∀(i:Nat)(e:Value×AG),es[i]? =some e->∃x,cm[i]? =some x/\x.key=e.1/\GR M w x.val e.2)/\(∀(i:Nat)(x:MapEntry),cm[i]? =some x->x.born<n/\x.born<since)/\since<=n/\
 (∀(i j:Nat)(x y:MapEntry),cm[i]? =some x->cm[j]? =some y->x.born=y.born->i=j)/\(∀(i:Nat)(x:MapEntry),cm[i]? =some x->(seen.contains x.born=true↔i∈done))/\
 ∀i rest,done=i::rest->∃x s,cm[i]? =some x/\seen=Array.push s x.born
variable{done:List Nat}
theorem Vo{r:Nat}{es:List (Value×AG)}:bL (Cb b r es done):=by
 refine⟨?_,?_⟩
 ·rintro M M' w w' O ⟨h1,h0,cm,n,since,seen,h2,h3,h4,h5,h6⟩ hO hc
  exact⟨h1,h0,cm,n,since,seen,(hO b<|(h1 b).2<|.inl U).trans h2,(hO r<|(h1 r).2<|.inr U).trans h3,h4,λi e he=>let⟨x,q1,q2,q3⟩:=h5 i e he;⟨x,q1,q2,q3.mono hc⟩,h6⟩
 ·rintro M w O ⟨h1,_,cm,n,since,seen,h2,h3,_⟩ x hx
  rcases(h1 x).1 hx with rfl | rfl
  ·exact(avo.1 h2).1
  ·exact(avo.1 h3).1
instance{b r:Nat}{es:List (Value×AG)}{done:List Nat}:OM (Cb b r es done):=⟨Vo⟩
class Od(Φ:OP)(r:Nat)(b:outParam Nat)(es:outParam (List (Value×AG)))(done:outParam (List Nat))(R:outParam (List Nat->OP)):Prop where
 h:qH Φ (Cb b r es done) (λd=>Cb b r es d) R
 om:∀d,bL (R d)
instance{A B:OP}{b r:Nat}{es:List (Value×AG)}{done:List Nat}{R:List Nat->OP}[a:OM A][i:Od B r b es done R]:Od (Sep A B) r b es done (λc=>Sep A (R c)):=⟨i.h.r a.h,λc=>uh a.h (i.om c)⟩
instance{A B:OP}{b r:Nat}{es:List (Value×AG)}{done:List Nat}{R:List Nat->OP}[a:OM B][i:Od A r b es done R]:Od (Sep A B) r b es done (λc=>Sep (R c) B):=⟨i.h.l a.h,λc=>uh (i.om c) a.h⟩
instance{b r:Nat}{es:List (Value×AG)}{done:List Nat}:Od (Cb b r es done) r b es done (λc=>Cb b r es c):=⟨qH.refl,λ_=>Vo⟩
theorem iT{r:Nat}{es:List (Value×AG)}{R:List Nat->OP}[i:Od Φ r b es done R]:Od Φ r b es done R:=i
section
theorem abn(kk:Nat){T:Nat}{es:List (Value×AG)}{R1:List (Value×AG)->OP}{Rr:OP->OP}(hT:P.underlying T=some (.map kt vt))(hx:aN sl x=some (dv (.map (some b))))(hh:aE hp kk=some (.obj Φ))(_:EY Φ b es R1)(j:Hp Φ (tJ b es) Rr)(hd:Nat.blt dst nt=true)
  (hk:∀n,GO C0 Q r F .s ops rest k ⟨(dst,.one (pt n 0))::sl,(kk,some (.obj<|Rr<|Cb b n es []))::hp⟩):GO C0 Q r F .s ops (Oo dst (.range T x) ty pos af none::rest) k ⟨sl,hp⟩:=by
 obtain⟨e,q⟩:=aJ hx;refine GO.CP (γ:=Nat) 0 (Ws:=λn=>[(dst,.one (pt n 0))]) (Wh:=λn=>[(kk,some (.obj<|Rr<|Cb b n es []))]) (λsl hp hs hh a w K Q qq hK=>?_) (o:=Oo dst (.range T x) ty pos af none) (Rs:=ey x<|dv<|.map<|some b) (Rh:=[(kk,some (.obj Φ))]) U q ⟨hh,ayS⟩ U hk;obtain⟨M,O,A⟩:=dL qq hh.1;have hu:a.eval x= .map (some b):=RD.aX (A.one e hs)
 obtain⟨Os,p1,p2,p4⟩:=(j.h (γ:=Unit) λ_=>Cb b w.heap.size es []) M w O A.lt A.own A.obj;obtain⟨h1,cm,n,h2,h3,h4,h5,h6⟩:=p2;have hrun:=run_range_map (P:=P) w T kt vt b cm n hT h2;have hbl:b<w.heap.size:=(avo.1 h2).1
 have ld:Below w.heap.size w (w.alloc<|.mapIter (some b) n #[] n):=dM w _;have Ag:cU Os w (w.alloc<|.mapIter (some b) n #[] n):=⟨ld.os,ld.tape,ld.output,ld.size,λk hk _=>ld.block k hk⟩;have hR:Cb b w.heap.size es [] (λb' o=>(M b' o/\¬Os b')\/(b'=b\/b'=w.heap.size)) (w.alloc<|.mapIter (some b) n #[] n) (λx=>x=b\/x=w.heap.size):=by
  refine⟨λ_=>axE,ayT,cm,n,n,#[],(ld.block b hbl).trans h2,awB w _,h3,λi e he=>?_,λi x hx=>⟨h5 i x hx,h5 i x hx⟩,avq _,h6,λi x hx=>ayW,λi rest h=>azm⟩;obtain⟨x,q1,q2,q3⟩:=h4 i e he;refine⟨x,q1,q2,q3.mono λb' o y hn hy=>⟨by rw[awh (w:=w) (a:=⟨b',o,none⟩) (ld.block b'<|cz hy)];exact hy,?_⟩⟩;rintro(c | c | c)
  ·exact hn c.1
  ·exact hn (A.own b' (p1 b'<|(h1 b').2 c) o)
  ·have:=cz hy;omega
 obtain⟨O',z1,z2,z3,z4,z5⟩:=Ei.lift (res:=.one<|.d<|.v<|.pointer<|some ⟨w.heap.size,0,none⟩) (v:=.pointer<|some ⟨w.heap.size,0,none⟩) A.lt A.own p1 (p4 ()) ⟨λx=>x=b\/x=w.heap.size,Ag,λx hx=>hx.elim (λc=>.inl<|(h1 x).2 c) λc=>.inr<|by omega,λx hx=>by
   rcases hx with rfl | rfl
   ·exact avE hbl ld.size
   ·simp,hR,RD.v _ U⟩
 unfold Oper.wp;rw[show(execOp a.eval<|Oo dst (.range T x) ty pos af none).run P w= .ok (.value<|.pointer<|some ⟨w.heap.size,0,none⟩) (w.alloc<|.mapIter (some b) n #[] n) by simp[execOp,hu,hrun]];exact hK w.heap.size _ _ ((A.next _ O' _ (j.om _ Vo) z1 z2 z3 z4).2 dst (.one<|.d<|.v<|.pointer<|some ⟨w.heap.size,0,none⟩) _ ay1 z5)
theorem aes(kk:Nat){enc:α->Value}{ag:γ->AG}{mm:List (α×γ)}{Rr:List Nat->OP}(kg:α->AG)(hkg:∀(k:α)(M:Nat->Nat->Prop)(w:World),GR M w (enc k) (kg k))(hx:aN sl x=some (pt n 0))(hh:aE hp kk=some (.obj Φ))(i:Od Φ n b (cm enc ag mm) done Rr)(hd:Nat.blt dst nt=true)
  (h0:(∀j,j<mm.length->j∈done)->GO C0 Q r F .s ops rest k ⟨(dst,.eV [bB false])::sl,hp⟩)
  (h1:∀j e,mm[j]? =some e->j∉done->GO C0 Q r F .s ops rest k ⟨(dst,.eV [bB true,.g (kg e.1),.g (ag e.2)])::sl,(kk,some (.obj<|Rr<|j::done))::hp⟩):GO C0 Q r F .s ops (Oo dst (.next x false) ty pos af none::rest) k ⟨sl,hp⟩:=by
 obtain⟨e,q⟩:=aJ hx;refine⟨λhr a w qq=>?_⟩;have g0:=λh=>(h0 h).go hr
 have g1:=λj e h h'=>(h1 j e h h').go hr
 show wpList P ops (Hq P (Q r) k) (Oo dst (.next x false) ty pos af none::rest) a w;refine ayM λK hK=>?_;simp only[Region.wanted,avM];obtain⟨M,O,A⟩:=dL qq hh;have hu:a.eval x= .pointer (some ⟨n,0,none⟩):=RD.aX (A.one e q)
 obtain⟨Os,p1,p2,p4⟩:=i.h M w O A.lt A.own A.obj;obtain⟨c1,c0,vL,nn,since,seen,c2,c3,c4,c5,c6,c7,c8,c9,c10⟩:=p2;have hlen:vL.size=mm.length:=by simpa using c4
 have hmem:∀x,x∈vL.toList->∃i,vL[i]? =some x:=λx hx=>by
  obtain⟨i,hi,rfl⟩:=avO hx;exact⟨i,by rw[<-awb];exact avs hi⟩
 unfold Oper.wp;rcases run_next_at (P:=P) w ty n b since nn seen vL nn c3 c2 (λx hx=>let⟨i,hi⟩:=hmem x hx;(c6 i x hi).2) c7 with⟨h0',hrun⟩ | ⟨e1,he1,w1,hal,hrun⟩
 ·rw[show(execOp a.eval<|Oo dst (.next x false) ty pos af none).run P w= .ok (.value<|.tuple #[.bool false]) w by simp[execOp,hu,hrun]]
  refine hK _ _ (g0 (λj hj=>?_) _ _<|A.read hh (res:=.eV [.d (.v<|.bool false)]) ay1 ⟨_,U,U,λi g hi=>?_⟩)
  ·have hx:vL[j]? =some vL[j]:=by simp[show j<vL.size by omega]
   refine(c9 j _ hx).1 ?_
   cases hs:seen.contains vL[j].born with
   | true=>rfl
   | false=>
    have:vL[j]∈leftOf vL seen:=Array.mem_filter.2 ⟨Array.getElem_mem _,by rw[hs];rfl⟩;have:=Array.size_pos_of_mem this;omega
  ·match i with
   | 0=>simp at hi;subst hi;exact⟨_,U,RD.v _ U⟩
   | i+1=>simp at hi
 ·obtain⟨hm1,hs1⟩:=mem_left he1
  obtain⟨j,hj⟩:=hmem e1 hm1;have hjl:j<mm.length:=by have:=(avo.1 hj).1;omega
  have hjm:mm[j]? =some mm[j]:=by simp[hjl]
  obtain⟨x0,q1,q2,q3⟩:=c5 j (enc mm[j].1,ag mm[j].2) (by simp[cm,hjl]);rw[hj]at q1;cases q1;have hnd:j∉done:=λc=>by rw[(c9 j e1 hj).2 c]at hs1;cases hs1
  have hw1:w1.heap=w.heap/\w1.os=w.os/\w1.tape=w.tape/\w1.output=w.output:=by rcases hal with rfl | rfl<;>exact⟨U,U,U,U⟩
  have Mf:n<w.heap.size:=(avo.1 c3).1
  generalize ZZ:setBlock w1 n (.mapIter (some b) since (seen.push e1.born) nn)=w2 at hrun;have hhp:w2.heap=w.heap.setIfInBounds n (.mapIter (some b) since (seen.push e1.born) nn):=by rw[<-ZZ];simp[setBlock,hw1.1]
  have kJ:∀i,i≠n->w2.heap[i]? =w.heap[i]? :=λi hi=>by rw[hhp,awF,avj (λc:n=i=>hi c.symm)]
  have hnew:w2.heap[n]? =some (.mapIter (some b) since (seen.push e1.born) nn):=by rw[hhp];simp[Mf]
  have hsize:w2.heap.size=w.heap.size:=by rw[hhp];simp
  have hOs:Os n:=(c1 n).2 (.inr U)
  have Ag:cU Os w w2:=⟨by rw[<-ZZ];exact hw1.2.1,by rw[<-ZZ];exact hw1.2.2.1,by rw[<-ZZ];exact hw1.2.2.2,ayT,λk _ hk=>kJ k λc=>hk (by rw[c];exact hOs)⟩;have hgr:∀{u:Value}{g:AG},GR M w u g->GR (λb o=>(M b o/\¬Os b)\/Os b) w2 u g:=λh=>h.mono λb' o x hn hx=>by
   have hne:¬Os b':=λc=>hn (A.own b' (p1 b' c) o);refine⟨aAf,λc=>c.elim (λc=>hn c.1) hne⟩
  have hR:Cb b n (cm enc ag mm) (j::done) (λb o=>(M b o/\¬Os b)\/Os b) w2 Os:=by
   refine⟨c1,c0,vL,nn,since,seen.push e1.born,by rw[kJ b c0];exact c2,hnew,c4,λi e he=>let⟨x,q1,q2,q3⟩:=c5 i e he;⟨x,q1,q2,hgr q3⟩,c6,c7,c8,λi x hx=>?_,λi rest h=>?_⟩
   ·simp only[Array.contains_push,awX,av0]
    constructor
    ·rintro(c | c)
     ·exact .inr ((c9 i x hx).1 c)
     ·exact .inl (c8 i j x e1 hx hj<|by simpa using c)
    ·rintro(rfl | c)
     ·rw[hj]at hx;cases hx;exact .inr ayW
     ·exact .inl ((c9 i x hx).2 c)
   ·cases h;exact⟨e1,seen,hj,U⟩
  have hV:I3 (λb o=>(M b o/\¬Os b)\/Os b) w2 (.eV [.d (.v<|.bool true),kg mm[j].1,ag mm[j].2]) (.tuple #[.bool true,e1.key,e1.val]):=⟨_,U,U,λi g hi=>by
   match i with
   | 0=>simp at hi;subst hi;exact⟨_,U,RD.v _ U⟩
   | 1=>simp at hi;subst hi;exact⟨_,U,by rw[q2];exact hkg _ _ _⟩
   | 2=>simp at hi;subst hi;exact⟨_,U,hgr q3⟩
   | i+3=>simp at hi⟩
  obtain⟨O',z1,z2,z3,z4,z5⟩:=Ei.lift (res:=.eV [.d (.v<|.bool true),kg mm[j].1,ag mm[j].2]) (v:=.tuple #[.bool true,e1.key,e1.val]) A.lt A.own p1 (p4<|j::done) ⟨Os,Ag,λb hb=>.inl hb,λb' hb'=>aAx,hR,hV⟩;rw[show(execOp a.eval<|Oo dst (.next x false) ty pos af none).run P w= .ok (.value<|.tuple #[.bool true,e1.key,e1.val]) w2 by simp[execOp,hu,hrun]];exact hK _ _ (g1 j mm[j] hjm hnd _ _<|(A.next _ O' w2 (i.om _) z1 z2 z3 z4).2 dst (.eV [.d (.v<|.bool true),kg mm[j].1,ag mm[j].2]) _ ay1 z5)
theorem aa3(kk:Nat){j:Nat}{enc:α->Value}{ag:γ->AG}{mm:List (α×γ)}{e:α×γ}{Rr:List Nat->OP}(kg:α->AG)(hkg:∀(k:α)(M:Nat->Nat->Prop)(w:World),GR M w (enc k) (kg k))(hx:aN sl x=some (pt n 0))(hh:aE hp kk=some (.obj Φ))(i:Od Φ n b (cm enc ag mm) (j::done) Rr)(hj:mm[j]? =some e)(hd:Nat.blt dst nt=true)
  (hk:GO C0 Q r F .s ops rest k ⟨(dst,.eV [.g (kg e.1),.g (ag e.2)])::sl,hp⟩):GO C0 Q r F .s ops (Oo dst (.entry x) ty pos af none::rest) k ⟨sl,hp⟩:=by
 obtain⟨e0,q⟩:=aJ hx;refine⟨λhr a w qq=>?_⟩;have g:=hk.go hr;show wpList P ops (Hq P (Q r) k) (Oo dst (.entry x) ty pos af none::rest) a w;refine ayM λK hK=>?_;simp only[Region.wanted,avM];obtain⟨M,O,A⟩:=dL qq hh;have hu:a.eval x= .pointer (some ⟨n,0,none⟩):=RD.aX (A.one e0 q)
 obtain⟨Os,p1,p2,p4⟩:=i.h M w O A.lt A.own A.obj;obtain⟨c1,c0,vL,nn,since,seen,c2,c3,c4,c5,c6,c7,c8,c9,c10⟩:=p2;obtain⟨x1,s,d1,d2⟩:=c10 j done U;obtain⟨x0,q1,q2,q3⟩:=c5 j (enc e.1,ag e.2) (by simp[cm,hj]);rw[d1]at q1;cases q1;subst d2;have hrun:=run_entry_at (P:=P) w n b since s vL nn x1 c3 c2 (by
  obtain⟨h,rfl⟩:=avo.1 d1;simp) (by
  refine awu.2 λi j hi hj hij hc=>?_;simp only[avN,awj]at hi hj;simp only[List.getElem_map,Array.getElem_toList]at hc;have:=c8 i j _ _ (av2 hi) (av2 hj) hc;omega)
 unfold Oper.wp;rw[show(execOp a.eval<|Oo dst (.entry x) ty pos af none).run P w= .ok (.value<|.tuple #[x1.key,x1.val]) w by simp[execOp,hu,hrun]];refine hK _ _ (g _ _<|A.read hh (res:=.eV [kg e.1,ag e.2]) ay1 ⟨_,U,U,λi g hi=>?_⟩)
 match i with
 | 0=>simp at hi;subst hi;exact⟨_,U,by rw[q2];exact hkg _ _ _⟩
 | 1=>simp at hi;subst hi;exact⟨_,U,q3⟩
 | i+2=>simp at hi
theorem GF.alg{c:Code}(S:ι->St)(μ:ι->Nat)(i:ι)(hst:∀a w,bE C0 st a w->bE C0 (S i) a w)
  (round:∀(K:Act->World->Prop)(i:ι),(∀j st',μ j<μ i->(∀a w,bE C0 st' a w->bE C0 (S j) a w)->GF C0 Q r F (.q K::k) st')->GF C0 Q r F (.c c:: .q K::k) (S i)):GF C0 Q r F (.c (.loop c)::k) st:=by
 refine⟨λhr a w q=>?_⟩;refine BI (λn a w=>∃i,μ i=n/\bE C0 (S i) a w) (μ i) ⟨i,U,hst a w q⟩ ?_;rintro n a w ⟨i,rfl,q⟩;exact(round (λa w=>∃m,m<μ i/\∃j,μ j=m/\bE C0 (S j) a w) i λj st' h h'=>⟨λ_ a w q=>⟨μ j,h,j,U,h' a w q⟩⟩).go hr a w q
theorem GO.ak8{F':Option R}(e:F=some r->F'=some r)(h:GO C0 Q r F' .s ops rest k st):GO C0 Q r F .s ops rest k st:=⟨λhr=>h.go (e hr)⟩
theorem GO.vsS(kk:Nat){B:γ->OP}(h:VS A B)(om:∀g,bL (B g))(hh:aE hp kk=some (.obj A))(hk:∀g,GO C0 Q r F .s ops rest k ⟨sl,(kk,some (.obj (B g)))::hp⟩):GO C0 Q r F .s ops rest k ⟨sl,hp⟩:=⟨λhr a w q=>by
 obtain⟨M,O,A1⟩:=dL q hh;obtain⟨g,O',h1,h2⟩:=h M w O A1.lt A1.own A1.obj;exact(hk g).go hr a w (A1.next (B g) O' w (om g) ⟨U,U,U,avq _,λ_ _ _=>rfl⟩ (λb hb=>.inl (h1 b hb)) (λb hb=>A1.lt b 0 (A1.own b (h1 b hb) 0)) h2).1⟩
end
def ab8(n:Nat)(d:List Nat):Nat:=((List.range n).filter λj=>!d.contains j).length
theorem filter_lt{l:List Nat}{p q:Nat->Bool}{j:Nat}(hj:j∈l)(hp:p j=true)(hq:q j=false)(h:∀i,q i=true->p i=true):(l.filter q).length<(l.filter p).length:=by
 induction l with
 | nil=>cases hj
 | cons a l ih=>
  have hle:(l.filter q).length<=(l.filter p).length:=by
   clear ih hj
   induction l with
   | nil=>simp
   | cons b l ih=>
    simp only[awC];cases hb:q b with
    | true=>simp only[h b hb,avM,avv];omega
    | false=>
     rw[avj ayW];split
     ·rw[avv];omega
     ·exact ih
  simp only[awC];rcases List.mem_cons.1 hj with rfl | hj
  ·simp[hp,hq];omega
  ·have:=ih hj
   cases hb:q a with
   | true=>simp only[h a hb,avM,avv];omega
   | false=>
    rw[avj ayW];split
    ·rw[avv];omega
    ·exact this
theorem ab9{j:Nat}{d:List Nat}(hj:j<n)(hd:j∉d):ab8 n (j::d)<ab8 n d:=
 filter_lt (j:=j) (awg.2 hj) ay1 ayW λi hi=>by simp at hi ⊢;exact hi.2
theorem VS.Ti{es:List (Value×AG)}(hA:bL A):VS (Sep (Cb b n es done) A) (λ_:Unit=>Sep (tJ b es) A):=by
 rintro M w O _ hO ⟨O1,O2,h1,h2,⟨c1,c0,vL,nn,since,seen,c2,c3,c4,c5,c6,c7,c8,c9,c10⟩,h4⟩;have hO1:∀x,O1 x->∀o,M x o:=λx hx=>hO x ((h1 x).2<|.inl hx);have hm:∀b' o,((M b' o/\¬O b')\/(b'=b\/O2 b'))->M b' o:=λb' o c=>by
  rcases c with c | rfl | c
  ·exact c.1
  ·exact hO1 b' ((c1 b').2<|.inl U) o
  ·exact hO b' ((h1 b').2<|.inr c) o
 refine⟨(),λx=>x=b\/O2 x,λx hx=>(h1 x).2<|hx.elim (λc=>.inl<|(c1 x).2<|.inl c) .inr,λx=>x=b,O2,λ_=>axE,λx hx hx2=>h2 x ((c1 x).2<|.inl hx) hx2,⟨λ_=>axE,vL,nn,c2,c4,λi e he=>let⟨x,q1,q2,q3⟩:=c5 i e he;⟨x,q1,q2,GR.less hm q3⟩,λi x hx=>(c6 i x hx).1,c8⟩,hA.mono h4 (λ_ _=>rfl) λb o x hn hx=>⟨hx,λc=>hn<|hm b o c⟩⟩
theorem Hs:∀{l:List OP}{i:Nat}{A:OP},l[i]? =some A->∀{M:Nat->Nat->Prop}{w:World}{O:Nat->Prop},Dr l M w O->Sep A (Dr (l.eraseIdx i)) M w O
 | [],_,_,h,_,_,_,_=>ay4
 | B::l,0,A,h,_,_,_,q=>by simp at h;subst h;exact q
 | B::l,i+1,A,h,M,w,O,q=>LA (tj (λ_ _ _ z=>z) (λ_ _ _ z=>Hs azi z) (show Sep B (Dr l) M w O from q))
theorem E0:∀{l:List OP}{i:Nat}{A:OP},l[i]? =some A->∀{M:Nat->Nat->Prop}{w:World}{O:Nat->Prop},Sep A (Dr (l.eraseIdx i)) M w O->Dr l M w O
 | [],_,_,h,_,_,_,_=>ay4
 | B::l,0,A,h,_,_,_,q=>by simp at h;subst h;exact q
 | B::l,i+1,A,h,M,w,O,q=>tj (λ_ _ _ z=>z) (λ_ _ _ z=>E0 azi z) (LA (show Sep A (Sep B<|Dr<|l.eraseIdx i) M w O from q))
variable{V:Type}
section
theorem YP{T E:Nat}(hT:P.underlying T=some (.array n E))(hI:Info P E zz size bytes)(hi:(decide (0<=i)&&decide (i<n))=true)(hx:Ev x (pt b o) R1)(hy:Ev y (bI kd i) R2)(hd:Nat.blt dst nt=true):
  dJ C (Oo dst (.indexAddr T x y) ty pos af gd) (R1++R2) [] [(dst,.one (pt b<|o+i.toNat*size))] []:=
 bu hd U λsl hp β a w hs _ r=>by
  have h1:=BR.aX (hx.ok hs.app.1 r);have h2:=BR.aX (hy.ok hs.app.2 r);simp only[avA,awe]at hi;exact⟨.pointer<|some ⟨b,o+i.toNat*size,none⟩,by simp[execOp,h1,h2,Instr.indexAt,asIntOf,avm hT,Instr.sureAddr,hi.1,hi.2,hI.sizeOf,awr],RD.v _ U⟩
theorem abf{T E:Nat}(hg:bD ops sl gd=true)(hT:P.underlying T=some (.array n E))(hI:Info P E zz size bytes)(hx:aN sl x=some (pt b o))(hy:aN sl y=some (bI kd i))(hi:(decide (0<=i)&&decide (i<n))=true)(hd:Nat.blt dst nt=true)
  (hk:GO C0 Q r F (m.add<|X2 ops gd x (pt b o) y (bI kd i) dst<|.one<|pt b<|o+i.toNat*size) ops rest k ⟨(dst,.one (pt b<|o+i.toNat*size))::sl,hp⟩):GO C0 Q r F m ops (Oo dst (.indexAddr T x y) ty pos af gd::rest) k ⟨sl,hp⟩:=
 f2 hg (λ_ _ _ e e'=>YP hT hI hi e e' hd) hx hy U hk
theorem aek(kk:Nat){v:V}{B:ι->V->OP}{B':ι->α->V->OP}{res:Unit->α->RS}(hg:bD ops sl gd=true)(i:mU P X g (λix=>qA (B ix)) (λix(_:Unit) u=>qA (B' ix u)) args res)(c:cG P g)(ha:pM sl xs=some (args ix))(hh:aE hp kk=some (.obj Φ))(hj:Φ=B ix v)(om:∀u v',bL (B' ix u v'))(hd:Nat.blt dst nt=true)(hl:qD m=true)
  (hk:∀u,X=some u->∀v':V,GO C0 Q r (f u) (m.add ⟨gH ops gd++vM xs (args ix),[(kk,some (.obj<|B ix v))],[(dst,(res () u).sv)],[(kk,some (.obj<|B' ix u v'))]⟩) ops rest k ⟨(dst,(res () u).sv)::sl,(kk,some (.obj<|B' ix u v'))::hp⟩):GO C0 Q r (X.bind f) m ops (Oo dst (gO g xs tys) ty pos af gd::rest) k ⟨sl,hp⟩:=by
 subst hj;exact GO.bind λu hu=>let⟨e,q⟩:=fJ ha
  GO.CP (γ:=V) v (Ws:=λ_=>[(dst,(res () u).sv)]) (Wh:=λv'=>[(kk,some (.obj<|B' ix u v'))]) (vC (γ:=V) (iz:=λv'=>B' ix u v') (res:=λ_=>res () u) c ⟨λM w O vs hM hO LW hl' ha'=>((i.h ix u hu).go M w O vs hM hO ⟨v,LW⟩ hl' ha').mono λe w'⟨_,x,h1,O',q1,q2,q3,⟨v',q4⟩,q5⟩=>⟨v',x,h1,O',q1,q2,q3,q4,q5⟩⟩ (λv'=>om u v') e hd) hg q ⟨hh,ayS⟩ hl (hk u hu)
theorem Ra(kk:Nat){v:V}{B:ι->V->OP}(hg:bD ops sl gd=true)(i:tF P X g (λix=>qA (B ix)) args res)(c:cG P g)(ha:pM sl xs=some (args ix))(hh:aE hp kk=some (.obj Φ))(hj:Φ=B ix v)(om:∀v',bL (B ix v'))(hd:Nat.blt dst nt=true)(hl:qD m=true)
  (hk:∀u,X=some u->∀v':V,GO C0 Q r (f u) (m.add ⟨gH ops gd++vM xs (args ix),[(kk,some (.obj<|B ix v))],[(dst,(res u).sv)],[(kk,some (.obj<|B ix v'))]⟩) ops rest k ⟨(dst,(res u).sv)::sl,(kk,some (.obj<|B ix v'))::hp⟩):GO C0 Q r (X.bind f) m ops (Oo dst (gO g xs tys) ty pos af gd::rest) k ⟨sl,hp⟩:=by
 subst hj;exact GO.bind λu hu=>let⟨e,q⟩:=fJ ha
  GO.CP (γ:=V) v (Ws:=λ_=>[(dst,(res u).sv)]) (Wh:=λv'=>[(kk,some (.obj<|B ix v'))]) (vC (γ:=V) (iz:=λv'=>B ix v') (res:=λ_=>res u) c ⟨λM w O vs hM hO LW hl' ha'=>((i.h ix u hu).go M w O vs hM hO ⟨v,LW⟩ hl' ha').mono λe w'⟨_,x,h1,O',q1,q2,q3,⟨v',q4⟩,q5⟩=>⟨v',x,h1,O',q1,q2,q3,q4,q5⟩⟩ (λv'=>om v') e hd) hg q ⟨hh,ayS⟩ hl (hk u hu)
end
class QH(P:Program){α:Type}(F:Option α){X Y:outParam Type}(g:outParam Nat)(a:outParam AG)(enc:outParam (X->AG))(val:outParam (Y->Value))(p:outParam (X->Option Y))(res:outParam (α->RS)):Prop where
 h:∀(Φ:OP)(cl:Value),bL Φ->cl.oneCell'=true->I2 P cl Φ enc val p->∀r,F=some r->fc P (γ:=Unit) g Φ (λ_=>Φ) [.g a,AY cl] (λ_=>res r)
theorem soI{X:Type}{F:Option α}{a:AG}{enc:X->AG}{p:X->Option Y}[i:QH P F g a enc val p res]:QH P F g a enc val p res:=i
theorem VS.drop(hA:bL A):VS (Sep A B) (λ_:Unit=>A):=by
 rintro M w O _ hO ⟨O1,O2,h1,h2,h3,h4⟩;refine⟨(),O1,λb hb=>(h1 b).2<|.inl hb,hA.mono h3 (λ_ _=>rfl) λb o x hn hx=>⟨hx,λc=>hn ?_⟩⟩;exact c.elim (λc=>c.1) λc=>hO b ((h1 b).2<|.inl c) o
theorem VS.trans{C:OP}(h:VS A (λ_:Unit=>B))(h':VS B (λ_:Unit=>C)):VS A (λ_:Unit=>C):=by
 intro M w O h1 h2 q;obtain⟨_,O1,q1,q2⟩:=h M w O h1 h2 q;obtain⟨_,O2,q3,q4⟩:=h' (λb o=>(M b o/\¬O b)\/O1 b) w O1 (λb o c=>c.elim (λc=>h1 b o c.1) λc=>h1 b 0<|h2 b (q1 b c) 0) (λb c o=>.inr c) q2;refine⟨(),O2,λb hb=>q1 b<|q3 b hb,meq (λb o=>⟨?_,?_⟩) q4⟩
 ·rintro(⟨c | c,d⟩ | c)
  ·exact .inl c
  ·exact(d c).elim
  ·exact .inr c
 ·rintro(c | c)
  ·exact .inl ⟨.inl c,λd=>c.2<|q1 b d⟩
  ·exact .inr c
section
theorem afe(h:RD M w v (.v u)):u.oneCell'=true:=by
 have:=RD.aX h;subst this;exact h.one
theorem aa1(kk:Nat){X:Type}{Fx:Option α}{a:AG}{enc:X->AG}{p:X->Option Y}(hg:bD ops sl gd=true)(i:QH P Fx g a enc val p res)(c:cG P g)
  (hx:aN sl x=some (.g a)) (hy:aN sl y=some (dv u)) (hh:aE hp kk=some (.obj Φ)) (j:I2 P u Φ enc val p) (om:bL Φ) (hd:Nat.blt dst nt=true)
  (hk:∀u',Fx=some u'->GO C0 Q r (f u') (m.add ⟨gH ops gd++(ey x (.g a)++(ey y (dv u)++ [])),[(kk,some (.obj Φ))],[(dst,(res u').sv)],[]⟩) ops rest k ⟨(dst,(res u').sv)::sl,hp⟩):GO C0 Q r (Fx.bind f) m ops (Oo dst (gO g [x,y] tys) ty pos af gd::rest) k ⟨sl,hp⟩:=
 GO.bind λu' za=>by
  obtain⟨e1,q1⟩:=aJ hx;obtain⟨e2,q2⟩:=aJ hy;refine GO.stepG (Rs:=ey x (.g a)++(ey y (dv u)++ [])) (Rh:=[(kk,some (.obj Φ))]) (Ws:=[(dst,(res u').sv)]) (Wh:=[]) (λsl hp hs hh a' w K Q qq hK=>?_) hg (q1.both<|q2.both ayS) ⟨hh,ayS⟩ (hk u' za);have hone:u.oneCell'=true:=by
   obtain⟨M,O,A⟩:=dL qq hh.1;exact afe (A.one e2 hs.app.2.app.1)
  exact Ao (xs:=[x,y]) c (i.h Φ u om hone j u' za) (L1.cons e1<|L1.cons e2 L1.nil) hd sl hp hs hh a' w K Q qq hK
theorem Ty{d:DV}(hx:Ev x (.g (.d d)) Rs)(hd:Nat.blt dst nt=true)
  (sl:SL) (hp:HL) (hs:bK sl Rs) (hh:dn hp [(kk,some (.obj Φ))]) (a:Act) (w:World) (K:Act->World->Prop) (Q:Exit->Act->World->Prop) (q:bE C0 ⟨sl,hp⟩ a w) (hK:∀n a w,bE C0 ⟨(dst,.one (pt n 0))::sl,(kk,some (.obj<|Sep Φ<|eu n T [d]))::hp⟩ a w->K a w):(Oo dst (.box T x) ty pos af gd).wp P a w K Q:=by
 obtain⟨M,O,A⟩:=dL q hh.1;have hu:RD M w (a.eval x) d:=A.one hx hs;have hc:(a.eval x).cells= #[a.eval x]:=by
  have:=hu.one;generalize a.eval x=v at this;cases v<;>first | rfl | (simp[Value.oneCell']at this)
 unfold Oper.wp;rw[show(execOp a.eval<|Oo dst (.box T x) ty pos af gd).run P w= .ok (.value<|.pointer<|some ⟨w.heap.size,0,none⟩) (w.alloc<|.cells #[a.eval x] T) by simp[execOp,Instr.box,newVar,newRow,hc]];refine hK w.heap.size _ _ (A.more NL ay1 U λM' hM'=>⟨λ_=>axE,#[a.eval x],awB w _,U,λj d' hj=>?_⟩);have ld:Below w.heap.size w (w.alloc<|.cells #[a.eval x] T):=dM w _
 match j with
 | 0=>
  simp at hj;subst hj;exact⟨_,U,hu.mono λb o x hn hx=>⟨azq,hM' b o hn<|cz hx⟩⟩
 | j+1=>simp at hj
theorem xA(kk:Nat){d:DV}(hg:bD ops sl gd=true)(hx:aN sl x=some (.g (.d d)))(hh:aE hp kk=some (.obj Φ))(hd:Nat.blt dst nt=true)(hl:qD m=true)
  (hk:∀n,GO C0 Q r F (m.add ⟨gH ops gd++ey x (.g<|.d d),[(kk,some (.obj Φ))],[(dst,.one (pt n 0))],[(kk,some (.obj<|Sep Φ<|eu n T [d]))]⟩) ops rest k ⟨(dst,.one (pt n 0))::sl,(kk,some (.obj<|Sep Φ<|eu n T [d]))::hp⟩):GO C0 Q r F m ops (Oo dst (.box T x) ty pos af gd::rest) k ⟨sl,hp⟩:=
 let⟨e,q⟩:=aJ hx
 GO.CP (γ:=Nat) 0 (Ws:=λn=>[(dst,.one (pt n 0))]) (Wh:=λn=>[(kk,some (.obj<|Sep Φ<|eu n T [d]))]) (Ty e hd) hg q ⟨hh,ayS⟩ hl hk
end
class adN(Φ:OP){α:outParam Type}(B:outParam (α->OP)):Prop where
 h:Φ=qA B
instance{α:Type}{B:α->OP}:adN (qA B) B:=⟨U⟩
theorem teI{B:α->OP}[i:adN Φ B]:adN Φ B:=i
section
variable{sl':SL}{dg:HL}
theorem GF.anb(kk:Nat){B:α->OP}(hh:aE hp kk=some (.obj Φ))(t:adN Φ B)(om:∀v,bL (B v))(hk:∀v,GF C0 Q r F k ⟨sl,(kk,some (.obj (B v)))::hp⟩):GF C0 Q r F k ⟨sl,hp⟩:=by
 obtain⟨rfl⟩:=t;exact GF.yZ kk hh om hk
theorem bE.ab5(kk:Nat){B:α->OP}{v:α}(q:bE C0 ⟨sl,hp⟩ a w)(hh:aE hp kk=some (.obj Φ))(LW:Φ=B v)(om:bL (qA B))(hs:bK sl sl')(h:dn ((kk,some (.obj (qA B)))::hp) dg)(hw:tY sl' ((kk,some (.obj (qA B)))::dg)=true):bE C0 ⟨sl',(kk,some (.obj (qA B)))::dg⟩ a w:=by
 subst LW;exact(q.vs kk hh (B:=qA B) VS.yZ om).cv hs ⟨azp,h⟩ hw
theorem bE.Vd(kk:Nat){β:Type}{B:α->β->OP}{v:α}{u:β}(q:bE C0 ⟨sl,hp⟩ a w)(hh:aE hp kk=some (.obj Φ))(LW:Φ=B v u)(_:∀v,bL (qA (B v)))(om:bL (qA λv=>qA (B v)))(hs:bK sl sl')(h:dn ((kk,some (.obj (qA λv=>qA (B v))))::hp) dg)(hw:tY sl' ((kk,some (.obj (qA λv=>qA (B v))))::dg)=true):bE C0 ⟨sl',(kk,some (.obj (qA λv=>qA (B v))))::dg⟩ a w:=by
 subst LW;exact(q.vs kk hh (B:=qA λv=>qA<|B v) (VS.same λ_ _ _ h=>⟨(),v,u,h⟩) om).cv hs ⟨azp,h⟩ hw
theorem Im{zv:Value}(hI:Info P T zv n bytes)(hz:ZD zv.cells.toList zs)(hd:Nat.blt dst nt=true)
  (sl:SL) (hp:HL) (_:bK sl []) (hh:dn hp [(kk,some (.obj Φ))]) (a:Act) (w:World) (K:Act->World->Prop) (Q:Exit->Act->World->Prop) (q:bE C0 ⟨sl,hp⟩ a w) (hK:∀n a w,bE C0 ⟨(dst,.one (pt n 0))::sl,(kk,some (.obj<|Sep Φ<|eu n T zs))::hp⟩ a w->K a w):(Oo dst (.alloc T) ty pos af gd).wp P a w K Q:=by
 obtain⟨M,O,A⟩:=dL q hh.1;have ld:Below w.heap.size w (w.alloc<|.cells zv.cells T):=dM w _;unfold Oper.wp;rw[show(execOp a.eval<|Oo dst (.alloc T) ty pos af gd).run P w= .ok (.value<|.pointer<|some ⟨w.heap.size,0,none⟩) (w.alloc<|.cells zv.cells T) by simp[execOp,Instr.alloc,newVar,newRow,hI.zero]];refine hK w.heap.size _ _ (A.more NL ay1 U λM' hM'=>⟨λ_=>axE,zv.cells,awB w _,by have:=(hz.vr (M:=M') (w:=w.alloc<|.cells zv.cells T)).1;simpa using this,λj d hj=>?_⟩);obtain⟨u,h1,h2⟩:=(hz.vr (M:=M') (w:=w.alloc<|.cells zv.cells T)).2 j d azT
 exact⟨u,ay7,h2⟩
theorem iK(kk:Nat)(hg:bD ops sl gd=true)(i:Tm P T zs)(hh:aE hp kk=some (.obj Φ))(hd:Nat.blt dst nt=true)(hl:qD m=true)
  (hk:∀n,GO C0 Q r F (m.add ⟨gH ops gd++ [],[(kk,some (.obj Φ))],[(dst,.one (pt n 0))],[(kk,some (.obj<|Sep Φ<|eu n T zs))]⟩) ops rest k ⟨(dst,.one (pt n 0))::sl,(kk,some (.obj<|Sep Φ<|eu n T zs))::hp⟩):GO C0 Q r F m ops (Oo dst (.alloc T) ty pos af gd::rest) k ⟨sl,hp⟩:=
 let⟨_,_,_,hI,hz,_⟩:=i
 GO.CP (γ:=Nat) 0 (Rs:=[]) (Ws:=λn=>[(dst,.one (pt n 0))]) (Wh:=λn=>[(kk,some (.obj<|Sep Φ<|eu n T zs))]) (Im hI hz hd) hg ayS ⟨hh,ayS⟩ hl hk
theorem aaV(kk:Nat){L0:ι->Unit->α->OP}{res:Unit->α->RS}{Rr:OP->OP}(hg:bD ops sl gd=true)(i:mU P X g Ψ L0 args res)(c:cG P g)(ha:pM sl xs=some (args ix))(hh:aE hp kk=some (.obj Φ))(j:Hp Φ (Ψ ix) Rr)(hd:Nat.blt dst nt=true)
  (hk:∀u,X=some u->GO C0 Q r (f u) (m.add ⟨gH ops gd++vM xs (args ix),[(kk,some (.obj Φ))],[(dst,(res () u).sv)],[(kk,some (.obj<|Rr<|L0 ix () u))]⟩) ops rest k ⟨(dst,(res () u).sv)::sl,(kk,some (.obj<|Rr<|L0 ix () u))::hp⟩):GO C0 Q r (X.bind f) m ops (Oo dst (gO g xs tys) ty pos af gd::rest) k ⟨sl,hp⟩:=
 GO.bind λu hu=>let⟨e,q⟩:=fJ ha
  GO.stepG (Ws:=[(dst,(res () u).sv)]) (Wh:=[(kk,some (.obj<|Rr<|L0 ix () u))]) (λsl hp hs hh a w K Q qq hK=>vC (γ:=Unit) c ((i.h ix u hu).lift<|j.h λn=>L0 ix n u) (λn=>j.om _<|i.om ix n u) e hd sl hp hs hh a w K Q qq λ_ a w qq=>hK a w qq) hg q ⟨hh,ayS⟩ (hk u hu)
class Z8(P:Program){α:Type}(X:Option α)(f:outParam Nat){ι V:outParam Type}(Φ:outParam (ι->V->OP))(args:outParam (ι->List RG))(res:outParam (α->RS)):Prop where
 h:∀i v r,X=some r->fc P (γ:=Unit) f (Φ i v) (λ_=>Φ i v) (args i) (λ_=>res r)
theorem rvI{f:Nat}{Φ:ι->V->OP}[i:Z8 P X f Φ args res]:Z8 P X f Φ args res:=i
theorem aaZ(kk:Nat){v:V}{Ψ:ι->V->OP}(hg:bD ops sl gd=true)(i:Z8 P X g Ψ args res)(c:cG P g)(ha:pM sl xs=some (args ix))(hh:aE hp kk=some (.obj Φ))(hj:Φ=Ψ ix v)(hd:Nat.blt dst nt=true)
  (hk:∀u,X=some u->GO C0 Q r (f u) (m.add ⟨gH ops gd++vM xs (args ix),[(kk,some (.obj<|Ψ ix v))],[(dst,(res u).sv)],[]⟩) ops rest k ⟨(dst,(res u).sv)::sl,hp⟩):GO C0 Q r (X.bind f) m ops (Oo dst (gO g xs tys) ty pos af gd::rest) k ⟨sl,hp⟩:=by
 subst hj;exact GO.bind λu hu=>let⟨e,q⟩:=fJ ha
  GO.stepG (Ws:=[(dst,(res u).sv)]) (Wh:=[]) (Ao c (i.h ix v u hu) e hd) hg q ⟨hh,ayS⟩ (hk u hu)
end
def ae0:Value->Option Bool
 | .func _ _ _=>some false
 | .nilFunc=>some true
 | _=>none
section
theorem eo(hg:bD ops sl gd=true)(hd:Nat.blt dst nt=true)(hk:GO C0 Q r F (m.add (X0 ops gd dst (.one (dv .nilFunc)))) ops rest k ⟨(dst,.one (dv .nilFunc))::sl,hp⟩):GO C0 Q r F m ops (Oo dst (.assign (.const .nilFunc)) ty pos af gd::rest) k ⟨sl,hp⟩:=
 f0 hg (λ_=>iG (Ev.c _ U) hd) U hk
theorem YK{ps rs:Array TypeId}{vr:Bool}{b:Bool}(hT:P.underlying T=some (.func ps rs vr))(hv:ae0 v=some b)(hx:Ev x (dv v) Rs)(hd:Nat.blt dst nt=true):
  dJ C (Oo dst (.binOp .eql T x (.const .nilFunc) T') ty pos af gd) Rs [] [(dst,.one (bB b))] []:=
 bu hd U λsl hp β a w hs _ r=>⟨.bool b,by
  have h1:=BR.aX (hx.ok hs r);have h2:a.eval (.const .nilFunc)= .nilFunc:=rfl
  have hg:(eqGuard .eql T x (.const .nilFunc) (a.eval x) .nilFunc).run P w= .ok () w:=by
   rw[h1];cases v<;>simp[ae0]at hv<;>exact ef (P:=P) (op:=.eql) (t:=T) (x:=x) (y:=.const .nilFunc) (v:=.nilFunc) (w:=w) U (λh=>azm)
  have h3:(Op.equal T v .nilFunc).run P w= .ok b w:=by
   show(Op.equalIn (9999+1) T v .nilFunc).run P w=_
   rw[Op.equalIn];cases v<;>simp[ae0]at hv<;>(subst hv;simp[avw,avm hT])
  rw[h1]at hg;simp only[execOp,h1,h2,avw,hg,Result.andThen,binOp,h3,avF],RD.v _ rfl⟩
theorem aa4{ps rs:Array TypeId}{vr:Bool}{b:Bool}(hg:bD ops sl gd=true)(hT:P.underlying T=some (.func ps rs vr))(hx:aN sl x=some (dv v))(hv:ae0 v=some b)(hd:Nat.blt dst nt=true)(hk:GO C0 Q r F (m.add (X1 ops gd x (dv v) dst (.one (bB b)))) ops rest k ⟨(dst,.one (bB b))::sl,hp⟩):GO C0 Q r F m ops (Oo dst (.binOp .eql T x (.const .nilFunc) T') ty pos af gd::rest) k ⟨sl,hp⟩:=f1 hg (λ_ _ e=>YK hT hv e hd) hx U hk
end
variable{cs:List DV}
theorem VS.frz{T E:Nat}{cs':List DV}(hA:bL A)(hl:cs'.length=cs.length)(hc:∀(j:Nat)(d:DV),cs'[j]? =some d->cs[j]? =some d\/(cs[j]? =some (.v v)/\d= .sl size es)):
  VS (Sep (Sep A<|eu b T cs)<|Row v E size es) (λ_:Unit=>Sep A<|eu b T cs'):=by
 rintro M w O _ hO ⟨O1,O2,h1,h2,⟨O3,O4,h3,h4,h5,h6,arr,h7,h8,h9⟩,hr⟩;have hO1:∀x,O1 x->∀o,M x o:=λx hx=>hO x ((h1 x).2<|.inl hx);have hm:∀b' o,((M b' o/\¬O b')\/O1 b')->M b' o:=λb' o c=>c.elim (λc=>c.1) λc=>hO1 b' c o;have hd:=hr.data (M':=λb' o=>(M b' o/\¬O b')\/O1 b') hm (λb' o c d=>by
  rcases c with c | c
  ·exact c.2 ((h1 b').2<|.inr d)
  ·exact h2 b' c d)
 refine⟨(),O1,λx hx=>(h1 x).2<|.inl hx,O3,O4,h3,h4,hA.mono h5 (λ_ _=>rfl) λb o x hn hx=>⟨hx,λc=>hn<|hm b o c⟩,h6,arr,h7,by rw[h8,hl],λj d hj=>?_⟩;rcases hc j d hj with c | ⟨c,rfl⟩
 ·obtain⟨u,q1,q2⟩:=h9 j d c
  exact⟨u,q1,q2.less hm⟩
 ·obtain⟨u,q1,q2⟩:=h9 j _ c
  have:=RD.aX q2;subst this;exact⟨_,q1,hd⟩
theorem bE.yZ(kk:Nat){B:α->OP}(q:bE C0 ⟨sl,hp⟩ a w)(hh:aE hp kk=some (.obj (qA B)))(om:∀v,bL (B v)):∃v,bE C0 ⟨sl,(kk,some (.obj (B v)))::hp⟩ a w:=by
 obtain⟨M,O,A1⟩:=dL q hh;obtain⟨v,h2⟩:=A1.obj;exact⟨v,(A1.next (B v) O w (om v) ⟨U,U,U,avq _,λ_ _ _=>rfl⟩ (λb hb=>.inl hb) (λb hb=>A1.lt b 0<|A1.own b hb 0) (meq (λb o=>⟨λc=>by
  by_cases d:O b
  ·exact .inr d
  ·exact .inl ⟨c,d⟩,λc=>c.elim (λc=>c.1) λc=>A1.own b c o⟩) h2)).1⟩
theorem C8(A B C:OP):Sep (Sep A B) C=Sep A (Sep B C):=funext λ_=>funext λ_=>funext λ_=>propext ⟨SA,acM⟩
theorem Qb(A B:OP):Sep A B=Sep B A:=funext λ_=>funext λ_=>funext λ_=>propext ⟨FA,FA⟩
instance:Std.Associative Sep:=⟨C8⟩
instance:Std.Commutative Sep:=⟨Qb⟩
theorem VS.eq(h:A=B):VS A (λ_:Unit=>B):=VS.same λ_ _ _ q=>⟨(),h ▸ q⟩
theorem bE.split(k1 k2:Nat)(q:bE C0 ⟨sl,hp⟩ a w)(h1:aE hp k1=some (.obj (Sep A B)))(h2:aE hp k2=some (.obj tH))(hne:Nat.beq k1 k2=false)(omA:bL A)(omB:bL B):bE C0 ⟨sl,(k1,some (.obj A))::(k2,some (.obj B))::hp⟩ a w:=by
 obtain⟨C,σ,lk,ob,c1,c2,β,r⟩:=q;obtain⟨O1,O2,z1,z2,z3,z4⟩:=ob.ok k1 _ h1;have HK:k1≠k2:=λc=>by subst c;simp at hne
 have b1:β k1=none:=r.hp k1 _ h1;have b2:β k2=none:=r.hp k2 _ h2;have hg:∀n e,aE ((k1,some (HE.obj A))::(k2,some (HE.obj B))::hp) n=some e->(n=k1/\e= .obj A)\/(n=k2/\e= .obj B)\/(n≠k1/\n≠k2/\aE hp n=some e):=λn e h=>by
  rw[aG,aG]at h;by_cases c:k1=n
  ·rw[avk c]at h;cases h;exact .inl ⟨c.symm,U⟩
  ·rw[avj c]at h
   by_cases c':k2=n
   ·rw[avk c']at h;cases h;exact .inr (.inl ⟨c'.symm,U⟩)
   ·rw[avj c']at h;exact .inr (.inr ⟨λz=>c z.symm,λz=>c' z.symm,h⟩)
 have hb:∀n e b,aE ((k1,some (HE.obj A))::(k2,some (HE.obj B))::hp) n=some e->β n=some b->aE hp n=some e:=λn e b h q=>by
  rcases hg n e h with⟨rfl,rfl⟩ | ⟨rfl,rfl⟩ | ⟨_,_,h⟩
  ·rw[b1]at q;cases q
  ·rw[b2]at q;cases q
  ·exact h
 have hup:∀n e,aE hp n=some e->e.isObj=false->aE ((k1,some (HE.obj A))::(k2,some (HE.obj B))::hp) n=some e/\β n=β n:=λn e h q=>by
  refine⟨?_,U⟩;rw[aG,avj (λc=>by subst c;rw[h1]at h;cases h;cases q),aG,avj (λc=>by subst c;rw[h2]at h;cases h;cases q)];exact h
 have Hl:∀b o,Mu C ((k1,some (HE.obj A))::(k2,some (HE.obj B))::hp) β b o->Mu C hp β b o:=by
  rintro b o (c | ⟨n,e,q1,q2,q3⟩)
  ·exact .inl c
  ·exact .inr ⟨n,e,hb n e b q1 q2,q2,q3⟩
 refine⟨C,λn=>if n=k1 then O1 else if n=k2 then O2 else σ n,lk,⟨λn Φ h=>?_,λn Φ b h hb'=>?_,λn n' Φ iz b h h' hb1 hb2=>?_,λn Φ h=>?_⟩,c1,λn e h=>?_,β,r.move c1 c2 (λb o x hn hx=>⟨hx,λc=>hn<|Hl b o c⟩) (λ_ _ _ _ _=>rfl) (λ_ _ _ k _ e he ho=>hup k e he ho) r.keep r.low (λk k' e e' b q1 q2 q3 q4=>r.inj k k' e e' b (hb k e b q1 q3) (hb k' e' b q2 q4) q3 q4) (λk e b q1 q2=>r.own k e b (hb k e b q1 q2) q2) (λk e h=>?_) λb hF=>⟨(r.fx b hF).1,λe he=>?_⟩⟩
 ·rcases hg n _ h with⟨rfl,q⟩ | ⟨rfl,q⟩ | ⟨c,c',h⟩
  ·cases q;simp only[avk];exact z3
  ·cases q;simp only[avj HK.symm,avk];exact z4
  ·simp only[avj c,avj c'];exact ob.ok n Φ h
 ·rcases hg n _ h with⟨rfl,q⟩ | ⟨rfl,q⟩ | ⟨c,c',h⟩
  ·simp only[avk]at hb';exact ob.own n _ b h1 ((z1 b).2<|.inl hb')
  ·simp only[avj HK.symm,avk]at hb';exact ob.own k1 _ b h1 ((z1 b).2<|.inr hb')
  ·simp only[avj c,avj c']at hb';exact ob.own n Φ b h hb'
 ·have key:∀n Φ,aE ((k1,some (HE.obj A))::(k2,some (HE.obj B))::hp) n=some (.obj Φ)->(if n=k1 then O1 else if n=k2 then O2 else σ n) b->(n=k1/\O1 b)\/(n=k2/\O2 b)\/(n≠k1/\n≠k2/\aE hp n=some (.obj Φ)/\σ n b):=λn Φ h z=>by
   rcases hg n _ h with⟨rfl,q⟩ | ⟨rfl,q⟩ | ⟨c,c',h⟩
   ·simp only[avk]at z;exact .inl ⟨U,z⟩
   ·simp only[avj HK.symm,avk]at z;exact .inr (.inl ⟨U,z⟩)
   ·simp only[avj c,avj c']at z;exact .inr (.inr ⟨c,c',h,z⟩)
  rcases key n Φ h hb1 with⟨e1,z⟩ | ⟨e1,z⟩ | ⟨c,c',g,z⟩<;>rcases key n' iz h' hb2 with⟨e2,z'⟩ | ⟨e2,z'⟩ | ⟨d,d',g',z'⟩
  ·exact e1.trans e2.symm
  ·exact(z2 b z z').elim
  ·exact absurd (ob.Q4 k1 n' _ iz b h1 g' ((z1 b).2<|.inl z) z') (λe=>d e.symm)
  ·exact(z2 b z' z).elim
  ·exact e1.trans e2.symm
  ·exact absurd (ob.Q4 k1 n' _ iz b h1 g' ((z1 b).2<|.inr z) z') (λe=>d e.symm)
  ·exact absurd (ob.Q4 n k1 Φ _ b g h1 z<|(z1 b).2<|.inl z') c
  ·exact absurd (ob.Q4 n k1 Φ _ b g h1 z<|(z1 b).2<|.inr z') c
  ·exact ob.Q4 n n' Φ iz b g g' z z'
 ·rcases hg n _ h with⟨rfl,q⟩ | ⟨rfl,q⟩ | ⟨c,c',h⟩
  ·cases q;exact omA
  ·cases q;exact omB
  ·exact ob.mono n Φ h
 ·rcases hg n e h with⟨rfl,rfl⟩ | ⟨rfl,rfl⟩ | ⟨c,c',h⟩
  ·rfl
  ·rfl
  ·exact c2 n e h
 ·rcases hg k e h with⟨rfl,rfl⟩ | ⟨rfl,rfl⟩ | ⟨c,c',h⟩
  ·exact .inr b1
  ·exact .inr b2
  ·cases ho:e.isObj with
   | false=>exact .inl ⟨h,U,U,λi _ e' he' ho'=>hup i e' he' ho'⟩
   | true=>
    refine .inr ?_
    cases e<;>first | (cases ho;done) | exact r.hp k _ h
 ·rcases hg 0 e he with⟨q,rfl⟩ | ⟨q,rfl⟩ | ⟨c,c',h⟩
  ·rfl
  ·rfl
  ·exact(r.fx b hF).2 e h
section
theorem pN(kk:Nat){v:V}{B:ι->V->OP}{B':ι->α->V->OP}{res:Unit->α->RS}(hg:bD ops sl gd=true)(i:mU P X g (λix=>qA (B ix)) (λix(_:Unit) u=>qA (B' ix u)) args res)(c:cG P g)(hu:aN sl (.tmp t)=some (dv u))(ha:pM sl xs=some j4)(hcl:xz u j4=some (g,args ix))(hh:aE hp kk=some (.obj Φ))(hj:Φ=B ix v)(om:∀u v',bL (B' ix u v'))(hd:Nat.blt dst nt=true)(hl:qD m=true)
  (hk:∀u',X=some u'->∀v':V,GO C0 Q r (f u') (m.add ⟨gH ops gd++((t,.one (dv u))::vM xs j4),[(kk,some (.obj<|B ix v))],[(dst,(res () u').sv)],[(kk,some (.obj<|B' ix u' v'))]⟩) ops rest k ⟨(dst,(res () u').sv)::sl,(kk,some (.obj<|B' ix u' v'))::hp⟩):GO C0 Q r (X.bind f) m ops (Oo dst (vB t xs tys) ty pos af gd::rest) k ⟨sl,hp⟩:=by
 subst hj;exact GO.bind λu' za=>let⟨e,q⟩:=fJ ha
  GO.CP (γ:=V) v (Rs:=(t,.one (dv u))::vM xs j4) (Ws:=λ_=>[(dst,(res () u').sv)]) (Wh:=λv'=>[(kk,some (.obj<|B' ix u' v'))]) (Ci (γ:=V) (iz:=λv'=>B' ix u' v') (res:=λ_=>res () u') hcl c ⟨λM w O vs hM hO LW hl' ha'=>((i.h ix u' za).go M w O vs hM hO ⟨v,LW⟩ hl' ha').mono λe w'⟨_,x,h1,O',q1,q2,q3,⟨v',q4⟩,q5⟩=>⟨v',x,h1,O',q1,q2,q3,q4,q5⟩⟩ (λv'=>om u' v') e hd) hg ⟨We hu,q⟩ ⟨hh,ayS⟩ hl (hk u' za)
end
variable{cap:Nat}
section
theorem Iy(hg:bD ops sl gd=true)(hd:Nat.blt dst nt=true)(hk:GO C0 Q r F (m.add (X0 ops gd dst (.one (dv (.slice none 0 0))))) ops rest k ⟨(dst,.one (dv (.slice none 0 0)))::sl,hp⟩):GO C0 Q r F m ops (Oo dst (.assign (.const (.slice none 0 0))) ty pos af gd::rest) k ⟨sl,hp⟩:=
 f0 hg (λ_=>iG (Ev.c _ U) hd) U hk
theorem Zb{a:Option Addr}(hT:P.underlying T=some (.slice E)):(binOp .neq T (.slice a n cap) (.slice none 0 0)).run P w= .ok (.bool a.isSome) w:=by
 have e:Op.equal T (.slice a n cap) (.slice none 0 0)=Op.equalIn (9999+1) T (.slice a n cap) (.slice none 0 0):=rfl;cases a<;>(simp only[binOp,avw];rw[e,Op.equalIn];simp[avw,avm hT])
theorem NR{c:BV}{b:Bool}(hT:P.underlying T=some (.slice E))(hx:Ev x c Rs)(hd:Nat.blt dst nt=true)
  (hc:∀(M:Nat->Nat->Prop)(w:World)(u:Value),(match c with | .g g=>GR M w u g | _=>False)->∃a n cap,u= .slice a n cap/\a.isSome=b) (hg:∃g,c= .g g):
  dJ C (Oo dst (.binOp .neq T x (.const<|.slice none 0 0) T') ty pos af gd) Rs [] [(dst,.one (bB b))] []:=
 bu hd U λsl hp β a w hs _ r=>by
  obtain⟨g,rfl⟩:=hg;obtain⟨ad,n,cap,hv,hb⟩:=hc _ _ _ (hx.ok hs r);have h2:a.eval (.const<|.slice none 0 0)= .slice none 0 0:=rfl
  have hgd:=ef (P:=P) (op:=.neq) (t:=T) (x:=x) (y:=.const<|.slice none 0 0) (v:=.slice none 0 0) (w:=w) (u:=.slice ad n cap) U (λh=>azm);exact⟨.bool b,by simp only[execOp,hv,h2,avw,hgd,Result.andThen,Zb hT,avF,hb],RD.v _ U⟩
theorem Rl(hg:bD ops sl gd=true)(hT:P.underlying T=some (.slice E))(hx:aN sl x=some (dv (.slice none 0 0)))(hd:Nat.blt dst nt=true)(hk:GO C0 Q r F (m.add (X1 ops gd x (dv (.slice none 0 0)) dst (.one (bB false)))) ops rest k ⟨(dst,.one (bB false))::sl,hp⟩):GO C0 Q r F m ops (Oo dst (.binOp .neq T x (.const (.slice none 0 0)) T') ty pos af gd::rest) k ⟨sl,hp⟩:=
 f1 hg (λ_ _ e=>NR (b:=false) hT e hd (λ_ _ _ h=>⟨none,0,0,RD.aX h,U⟩) ⟨_,U⟩) hx U hk
theorem Rm{T T' E:Nat}{c:List DV}{cs:List (List DV)}(hg:bD ops sl gd=true)(hT:P.underlying T=some (.slice E))(hx:aN sl x=some (.g (.d (.sl size (c::cs)))))(hd:Nat.blt dst nt=true)(hk:GO C0 Q r F (m.add (X1 ops gd x (.g (.d (.sl size (c::cs)))) dst (.one (bB true)))) ops rest k ⟨(dst,.one (bB true))::sl,hp⟩):GO C0 Q r F m ops (Oo dst (.binOp .neq T x (.const (.slice none 0 0)) T') ty pos af gd::rest) k ⟨sl,hp⟩:=
 f1 hg (λ_ _ e=>NR (b:=true) hT e hd (λM w u h=>by
  have h':RD M w u (.sl size<|c::cs):=h;generalize hd':DV.sl size (c::cs)=d at h';cases h' with
  | v=>cases hd'
  | sl ad cap _ _ vals b o hc hm ha hs hv hr=>
   cases hd';exact⟨ad,_,cap,U,by rw[ha ayW];rfl⟩) ⟨_,U⟩) hx U hk
theorem Vi{z:Value}{n:Int}(hT:P.underlying T=some (.slice E))(hI:Info P E z 1 bytes)(hz:z.oneCell'=true)(hb:Nat.ble bytes 16=true)(hn:0<=n/\n<=1048576)(hx:Ev x (bI .i64 n) Rs)(hd:Nat.blt dst nt=true)
  (sl:SL) (hp:HL) (hs:bK sl Rs) (hh:dn hp [(kk,some (.obj Φ))]) (a:Act) (w:World) (K:Act->World->Prop) (Q:Exit->Act->World->Prop) (q:bE C0 ⟨sl,hp⟩ a w) (hK:∀b a w,bE C0 ⟨(dst,.one (dv<|.slice (some ⟨b,0,none⟩) n.toNat n.toNat))::sl,(kk,some (.obj<|Sep Φ<|eu b E<|List.replicate n.toNat<|.v z))::hp⟩ a w->K a w):(Oo dst (.makeSlice T x x) ty pos af gd).wp P a w K Q:=by
 obtain⟨M,O,A⟩:=dL q hh.1;have hv:a.eval x= .int .i64 n:=RD.aX (A.one hx hs)
 obtain⟨i,hi,h1,h2,h3⟩:=hI;have hb':bytes<=16:=by simpa using hb
 have hr:=run_make (P:=P) w T E i z hT hi h1 .i64 .i64 n n hn.1 (avK _) (by
  rw[h3];have:(bytes:Int)*n<=16*n:=Int.mul_le_mul_of_nonneg_right ayT hn.1;omega) ayT
 rw[h2,Mj hz]at hr;unfold Oper.wp;rw[show(execOp a.eval<|Oo dst (.makeSlice T x x) ty pos af gd).run P w= .ok (.value<|.slice (some ⟨w.heap.size,0,none⟩) n.toNat n.toNat) (w.alloc<|.cells (Array.replicate n.toNat z) E) by simp only[execOp,hv,avw,hr,avt,avF]];refine hK w.heap.size _ _ (A.more NL ay1 U λM' _=>⟨λ_=>axE,Array.replicate n.toNat z,awB w _,ayW,λj d hj=>?_⟩);simp only[axA]at hj;split at hj
 ·rename_i c
  simp at hj;subst hj;exact⟨z,by simp[c],RD.v z hz⟩
 ·cases hj
theorem ux(kk:Nat){z:Value}{n:Int}(hg:bD ops sl gd=true)(hT:P.underlying T=some (.slice E))(hI:Info P E z 1 bytes)(hz:z.oneCell'=true)(hb:Nat.ble bytes 16=true)(hx:aN sl x=some (bI .i64 n))(hn:(decide (0<=n)&&decide (n<=1048576))=true)(hh:aE hp kk=some (.obj Φ))(hd:Nat.blt dst nt=true)(hl:qD m=true)
  (hk:∀b,GO C0 Q r F (m.add ⟨gH ops gd++ey x (bI .i64 n),[(kk,some (.obj Φ))],[(dst,.one (dv<|.slice (some ⟨b,0,none⟩) n.toNat n.toNat))],[(kk,some (.obj<|Sep Φ<|eu b E<|List.replicate n.toNat<|.v z))]⟩) ops rest k ⟨(dst,.one (dv<|.slice (some ⟨b,0,none⟩) n.toNat n.toNat))::sl,(kk,some (.obj<|Sep Φ<|eu b E<|List.replicate n.toNat<|.v z))::hp⟩):GO C0 Q r F m ops (Oo dst (.makeSlice T x x) ty pos af gd::rest) k ⟨sl,hp⟩:=
 let⟨e,q⟩:=aJ hx
 GO.CP (γ:=Nat) 0 (Ws:=λb=>[(dst,.one (dv<|.slice (some ⟨b,0,none⟩) n.toNat n.toNat))]) (Wh:=λb=>[(kk,some (.obj<|Sep Φ<|eu b E<|List.replicate n.toNat<|.v z))]) (Vi hT hI hz hb (by simpa using hn) e hd) hg q ⟨hh,ayS⟩ hl hk
theorem YN{T E:Nat}(hT:P.underlying T=some (.slice E))(hI:Info P E zz 1 bytes)(hi:(decide (0<=i)&&decide (i<(n:Int)))=true)(hx:Ev x (dv (.slice (some ⟨b,0,none⟩) n cap)) R1)(hy:Ev y (bI kd i) R2)(hd:Nat.blt dst nt=true):
  dJ C (Oo dst (.indexAddr T x y) ty pos af gd) (R1++R2) [] [(dst,.one (pt b i.toNat))] []:=
 bu hd U λsl hp β a w hs _ r=>by
  have h1:=BR.aX (hx.ok hs.app.1 r);have h2:=BR.aX (hy.ok hs.app.2 r);simp only[avA,awe]at hi;exact⟨.pointer<|some ⟨b,i.toNat,none⟩,by simp[execOp,h1,h2,Instr.indexAt,asIntOf,avm hT,hi.1,hi.2,hI.sizeOf,awr],RD.v _ U⟩
theorem sM{T E:Nat}(hg:bD ops sl gd=true)(hT:P.underlying T=some (.slice E))(hI:Info P E zz 1 bytes)(hx:aN sl x=some (dv (.slice (some ⟨b,0,none⟩) n cap)))(hy:aN sl y=some (bI kd i))(hi:(decide (0<=i)&&decide (i<(n:Int)))=true)(hd:Nat.blt dst nt=true)
  (hk:GO C0 Q r F (m.add<|X2 ops gd x (dv<|.slice (some ⟨b,0,none⟩) n cap) y (bI kd i) dst<|.one<|pt b i.toNat) ops rest k ⟨(dst,.one (pt b i.toNat))::sl,hp⟩):GO C0 Q r F m ops (Oo dst (.indexAddr T x y) ty pos af gd::rest) k ⟨sl,hp⟩:=
 f2 hg (λ_ _ _ e e'=>YN hT hI hi e e' hd) hx hy U hk
theorem aaO{e:α->DV}{x0:α}(ho:o<l.length):Hy (l.map e) o [e x0] =(l.set o x0).map e:=by
 simp only[Hy,avv,av9,avS];rw[List.set_eq_take_append_cons_drop,avk ho];simp[ays,ayr]
theorem oD(kk:Nat){e:α->DV}{x0:α}{S:TypeId}{T:Nat}{Rr:List DV->OP}(hg:bD ops sl gd=true)(hI:Info P S zz 1 bytes)(hx:aN sl x=some (pt b o))(hh:aE hp kk=some (.obj Φ))(i:B9 Φ b T cs Rr)(he:cs=l.map e)(ho:decide (o<l.length)=true)(hy:aN sl y=some (.g (.d (e x0))))
  (hk:GO C0 Q r F (m.add ⟨gH ops gd++(ey x (pt b o)++ey y (.g<|.d<|e x0)),[(kk,some (.obj Φ))],[],[(kk,some (.obj<|Rr<|(l.set o x0).map e))]⟩) ops rest k ⟨sl,(kk,some (.obj<|Rr<|(l.set o x0).map e))::hp⟩):GO C0 Q r F m ops (⟨none,.store S x y,ty,pos,af,gd⟩::rest) k ⟨sl,hp⟩:=by
 subst he;have h:o<l.length:=by simpa using ho
 rw[<-aaO h]at hk;exact HA kk hg hI hx hy hh i azi hk
theorem sN(kk:Nat){e:α->DV}{t:TypeId}{T:Nat}{n:Int}{Rr:List DV->OP}(hg:bD ops sl gd=true)(hU:P.underlying t=some d)(hA:qJ d=false)(hx:aN sl x=some (pt b n.toNat))(hh:aE hp kk=some (.obj Φ))(i:B9 Φ b T cs Rr)(he:cs=l.map e)(hd:Nat.blt dst nt=true)
  (hk:∀a0,idx l n=some a0->GO C0 Q r (f a0) (m.add ⟨gH ops gd++ey x (pt b n.toNat),[(kk,some (.obj Φ))],[(dst,.one (.g<|.d<|e a0))],[]⟩) ops rest k ⟨(dst,.one (.g<|.d<|e a0))::sl,hp⟩):GO C0 Q r ((idx l n).bind f) m ops (Oo dst (.load t x) ty pos af gd::rest) k ⟨sl,hp⟩:=by
 subst he;exact GO.bind λa0 ha=>F8 kk hg hU hA hx hh i (by obtain⟨_,h1,_⟩:=U5 ha;simp[h1]) hd (hk a0 ha)
theorem Mb{len:Nat}{xs:List (Nat×Operand)}{gs:List (Nat×AG)}(hg:bD ops sl gd=true)(hT:P.underlying T=some (.slice E))(hI:Info P E zz size bytes)(ha:F4 sl xs=some gs)(hbig:Nat.ble (len*size) 16777216=true)(hlen:Nat.ble len 16777216=true)
  (he:(lu (λi=>some (i*size,size)) (List.replicate (len*size) none) gs).bind On=some ds) (agV:chunk size len ds=es) (h1:es.flatten=ds) (h2:Nat.beq es.length len=true) (h3:es.all (λc=>Nat.beq c.length size)=true) (hd:Nat.blt dst nt=true)
  (hk:GO C0 Q r F (m.add ⟨gH ops gd++OQ xs gs,[],[(dst,.one (.cp size es))],[]⟩) ops rest k ⟨(dst,.one (.cp size es))::sl,hp⟩):GO C0 Q r F m ops (Oo dst (.buildSlice T len xs.toArray) ty pos af gd::rest) k ⟨sl,hp⟩:=
 let⟨e,q⟩:=vN ha
 GO.one (λ_=>CT hT hI hbig hlen e (by
  cases h:lu (λi=>some (i*size,size)) (List.replicate (len*size) none) gs with
  | none=>rw[h]at he;cases he
  | some l=>rw[h]at he;rw[Am he,h1]) h2 (λc hc=>av3 (avI.1 h3 c hc)) hd) hg q ayS U U hk
theorem Nj{n:List α}{f:List α->Option R}{fs:List (List DV)}(hg:bD ops sl gd=true)(hT:P.underlying T=some (.slice E))(hI:Info P E zz size bytes)(hx:aN sl x=some (.cp size es))(he:es=l.map e)(hy:aN sl y=some (.g (.d (.sl size fs))))(hf:fs=n.map e)(hzs:Nat.beq zz.cells.size size=true)(hz:Nat.blt 0 size=true)(hd:Nat.blt dst nt=true)
  (hk:GO C0 Q r (f<|l++n) (m.add<|X2 ops gd x (.cp size es) y (.g<|.d<|.sl size fs) dst<|.one<|.g<|.d<|.sl size<|(l++n).map e) ops rest k ⟨(dst,.one (.g<|.d<|.sl size<|(l++n).map e))::sl,hp⟩):GO C0 Q r ((app bytes l n).bind f) m ops (Oo dst (D7 x y T) ty pos af gd::rest) k ⟨sl,hp⟩:=
 GO.bind λu hu=>by
  simp only[app]at hu;split at hu
  ·rename_i hb
   cases hu;subst he hf;exact f2 hg (λ_ _ _ e1 e2=>Vp hT hI hzs hz ayW aAk aAj e1 e2 hd) hx hy U hk
  ·cases hu
end
theorem Ct.aoY{f:Nat}{fn:Func}{code:Code}{args:List RG}{res:R->RS}(hf:P.funcs[f]? =some fn)(hb:fn.body=some code)(hn:fn.ntmps=n)(hle:Nat.ble args.length n=true)
  (hrow:args.all (λg=>match g with | .g _=>true | .ep _=>true | _=>false)=true) (hF:F=some r)
  (h:∀C0:Cx P n,GF C0 (λr=>bodyPost P fn<|BL C0.M C0.K C0.w0<|res r) r F [.c code] ⟨m7 0 args,[]⟩):Ct P f args (res r):=by
 refine Ct.intro hf hb hn hle (avI.2 λg hg=>?_) λM w=>⟨λa w' hrel=>?_⟩
 ·have:=avI.1 hrow g hg
  cases g<;>first | rfl | cases this
 ·have hc:∀t sv,bG (m7 0 args) t=some sv->sv.calm=true:=λt sv ht=>by
   obtain⟨_,g,h1,rfl⟩:=oq ht;have:=avI.1 hrow g (avH h1);cases g with
   | g a=>rfl
   | ep a=>rfl
   | _=>cases this
  refine(h ⟨w,M,λ_=>False,none⟩).go hF a w' ⟨_,λ_ _=>False,⟨⟨U,U,U,avq _,λ_ _ _=>rfl⟩,λb c=>c.elim,λb o c=>c,U,λb o c=>?_⟩,⟨λ_ _ hk=>aBP,λ_ _ _ hk=>aBP,λ_ _ _ _ _ hk=>aBP,λ_ _ hk=>aBP⟩,hc,λ_ _ hk=>aBP,hrel⟩
  obtain⟨β,rb⟩:=hrel;exact rb.low b o c
end Go.Ab
namespace Go.Ark
open Go Go.Ab Go.RowKit
abbrev aic:Ih->List Int
 | none=>[]
 | some q=>q.1::q.2
def bW(s:b9):Option (List cA):=(dZ s.open_).bind λr=>some r
def gT(s:cX)(p:cA):Option ((ByteArray×Bool)×cX):=
 if !(decide (p.Seq=s.count.next))then some ((ByteArray.empty,false),s)
 else some ((p.Data,true),⟨⟨IntKind.wrap .i64<|s.count.next+1⟩⟩)
def mM(s:b9)(d:ByteArray):Option ((cA×Int)×b9):=
 if decide ((8:Int)<=(s.open_.length:Int))then some ((⟨0,ByteArray.empty⟩,15),s)
 else(app 24 s.open_ [⟨s.count.next,d⟩]).bind λl=>some ((⟨s.count.next,d⟩,0),⟨⟨IntKind.wrap .i64<|s.count.next+1⟩,l⟩)
def zG(s:cX):Option Int:=some s.count.next
def eW(s:cX):Option Int:=(zG s).bind λr=>some r
def su(s:b9)(n:Int):Option (Int×b9):=(sub s.open_ n (s.open_.length:Int)).bind λl=>some (n,⟨s.count,l⟩)
def yA(s:b9)(seq:Int)(again:Int->Option (Int×b9))(n:Int):Option (Int×b9):=
 if decide (n<(s.open_.length:Int))then
  (idx s.open_ n).bind λp=>if decide (p.Seq<seq)then again (IntKind.wrap .i64<|n+1)else su s n
 else su s n
def gU(s:b9)(seq:Int):Option (Int×b9):=
 if decide (s.count.next<seq)then some (0,s)else aR (yA s seq) FU 0
def pT:Option b9:=some ⟨⟨0⟩,[]⟩
def mL:Option cX:=some ⟨⟨0⟩⟩
structure aM where
 ranges:List au
 aZ:List (ByteArray×List aa)
def aQ(s:aM)(key:ByteArray):List aa:=(bx s.aZ key).getD []
def uH(s:aM):Option (List au):=(di s.ranges).bind λr=>some r
def mh(s:aM)(key:ByteArray):Option (List aa):=(cn (aQ s key)).bind λr=>some r
def zW(s:aM)(v:aa):Option (Bool×aM):=
 (fT s.ranges v.Key).bind λi=>
 if decide (i<0)then some (false,s)else
 (zq (aQ s v.Key) v).bind λp=>
 if p.2 then some (p.2,{ s with aZ:=cw s.aZ v.Key p.1 })else some (p.2,s)
def rz(s:aM)(key:ByteArray):Option (aa×Bool):=(mh s key).bind λl=>(qN l).bind λr=>some r
def Db(s:aM)(key:ByteArray)(x:ai):Option (aa×Bool):=(mh s key).bind λl=>(zo l x).bind λr=>some r
def mj(s:aM):Option (List ByteArray):=if(s.aZ.map (·.1)).Nodup/\s.aZ.length<=1000000/\∀e,e∈s.aZ->e.1.size<=1000 then some (cQ (s.aZ.map (·.1)))else none
def uG(s:aM)(ks:List ByteArray)(again:Int×List ah->Option (List ah))(v:Int×List ah):Option (List ah):=
 if decide (v.1<(ks.length:Int))then
  (idx ks v.1).bind λkey=>(rz s key).bind λh=>(app 32 v.2 [⟨key,h.1.aq⟩]).bind λl=>again (IntKind.wrap .i64<|v.1+1,l)
 else some v.2
def ry(s:aM):Option (List ah):=(mj s).bind λks=>aR (uG s ks) FU (0,[])
def Bd(l:List au)(ks:List ByteArray)(again:Int×aM->Option (Unit×aM))(v:Int×aM):Option (Unit×aM):=
 if decide (v.1<(ks.length:Int))then
  (idx ks v.1).bind λkey=>(fT l key).bind λi=>
  if decide (i<0)then again (IntKind.wrap .i64<|v.1+1,{ v.2 with aZ:=jR v.2.aZ key })else again (IntKind.wrap .i64<|v.1+1,v.2)
 else some ((),v.2)
def wR(s:aM)(l:List au):Option (Unit×aM):=
 (di l).bind λc=>(mj { s with ranges:=c }).bind λks=>aR (Bd l ks) FU (0,{ s with ranges:=c })
def ku(pins:List ah)(key:ByteArray)(kx:List ai->Option (Unit×aM))(again:Int×List ai->Option (Unit×aM))(v:Int×List ai):Option (Unit×aM):=
 if decide (v.1<(pins.length:Int))then
  (idx pins v.1).bind λd=>if seq d.Key key then(app 16 v.2 [d.aq]).bind λl=>again (IntKind.wrap .i64<|v.1+1,l)else again (IntKind.wrap .i64<|v.1+1,v.2)
 else kx v.2
def sy(st:ai)(pins:List ah)(ks:List ByteArray)(again:Int×aM->Option (Unit×aM))(v:Int×aM):Option (Unit×aM):=
 if decide (v.1<(ks.length:Int))then
  (idx ks v.1).bind λkey=>aR (ku pins key λl=>(ow (aQ v.2 key) st l).bind λc=>again (IntKind.wrap .i64<|v.1+1,{ v.2 with aZ:=cw v.2.aZ key c })) FU (0,[])
 else some ((),v.2)
def oV(s:aM)(st:ai)(pins:List ah):Option (Unit×aM):=(mj s).bind λks=>aR (sy st pins ks) FU (0,s)
def zV(l:List au):Option aM:=(di l).bind λc=>some ⟨c,[]⟩
structure aC where
 aO:aM
 id:Int
 wait:List aa
 clock:ai
def sP(s:aM)(v:aa):Option (Bool×aM):=(zW s v).bind λr=>some r
def DC(s:aM)(key:ByteArray):Option (aa×Bool):=(rz s key).bind λr=>some r
def Jt(s:aM)(key:ByteArray)(x:ai):Option (aa×Bool):=(Db s key x).bind λr=>some r
def tC(s:aC):Option (List au):=(uH s.aO).bind λr=>some r
def rE(s:aC)(key:ByteArray):Option Bool:=(tC s).bind λo=>(fT o key).bind λi=>some (decide (0<=i))
def wT(s:aC):Option ai:=some s.clock
def qj(s:aC):Option Int:=some (s.wait.length:Int)
def rC(s:aC):Option (List ah):=(ry s.aO).bind λr=>some r
def rA(s:aC)(key:ByteArray):Option (List aa):=(mh s.aO key).bind λr=>some r
def Z0:aa:=⟨ByteArray.empty,ByteArray.empty,false,⟨0,0⟩,[]⟩
def vg(s:aC)(key:ByteArray):Option (aa×Bool×Int):=
 (rE s key).bind λo=>if !o then some (Z0,false,14)else
 (DC s.aO key).bind λh=>some (h.1,h.2,0)
def vh(s:aC):Option ((aa×Bool)×aC):=
 (rC s).bind λh=>(tC s).bind λo=>(lW s.wait h o).bind λn=>
 if n.2.2 then(sP s.aO n.1).bind λp=>some ((n.1,n.2.2),{ s with aO:=p.2,wait:=n.2.1 })else some ((n.1,n.2.2),s)
def rB(s:aC)(st:ai)(pins:List ah):Option (Unit×aC):=(oV s.aO st pins).bind λr=>some ((),{ s with aO:=r.2 })
def wU(s:aC)(v:aa):Option Bool:=
 (Jt s.aO v.Key v.aq).bind λh=>if h.2 then some true else(dH s.wait λx0=>iU x0 v).bind λr=>some r
def sA(s:aC)(v:aa)(w:List aa):Option (Int×aC):=(jF [s.clock,v.aq]).bind λc=>some (0,{ s with wait:=w,clock:=c })
def oW(s:aC)(v:aa):Option (Int×aC):=
 (jl v).bind λg=>if !g then some (1,s)else
 (rE s v.Key).bind λo=>if o then
  (wU s v).bind λt=>if t then some (13,s)else
  (AX s.wait v).bind λp=>if !(decide (p.2=0))then some (p.2,s)else sA s v p.1
 else sA s v s.wait
def uI(past:List ah)(kx:ai->Option ((aa×Int)×aC))(again:Int×ai->Option ((aa×Int)×aC))(v:Int×ai):Option ((aa×Int)×aC):=
 if decide (v.1<(past.length:Int))then
  (idx past v.1).bind λd=>(jF [v.2,d.aq]).bind λm=>again (IntKind.wrap .i64<|v.1+1,m)
 else kx v.2
def ql(s:aC)(key value:ByteArray)(gone:Bool)(past:List ah)(seen:ai):Option ((aa×Int)×aC):=
 (wZ seen s.id).bind λx=>if !(decide (x.2=0))then some ((Z0,x.2),s)else
 (cE past).bind λp=>(jl ⟨key,value,gone,x.1,p⟩).bind λg=>if !g then some ((Z0,1),s)else
 (sP s.aO ⟨key,value,gone,x.1,p⟩).bind λq=>some ((⟨key,value,gone,x.1,p⟩,0),{ s with aO:=q.2,clock:=x.1 })
def rD(s:aC)(key value:ByteArray)(gone:Bool)(past:List ah):Option ((aa×Int)×aC):=
 (rE s key).bind λo=>if !o then some ((Z0,14),s)else aR (uI past<|ql s key value gone past) FU (0,s.clock)
def xO(l:List aa)(again:Int×aC->Option (Unit×aC))(v:Int×aC):Option (Unit×aC):=
 if decide (v.1<(l.length:Int))then
  (idx l v.1).bind λx=>(sP v.2.aO x).bind λp=>(jF [v.2.clock,x.aq]).bind λc=>again (IntKind.wrap .i64<|v.1+1,{ v.2 with aO:=p.2,clock:=c })
 else some ((),v.2)
def ve(s:aC)(own:List au)(l:List aa):Option (Unit×aC):=
 (wR s.aO own).bind λm=>(wC s.wait own).bind λw=>aR (xO l) FU (0,{ s with aO:=m.2,wait:=w })
def zX(id:Int)(own:List au):Option aC:=
 if decide (id<0)then none else if decide (6<=id)then none else(zV own).bind λs=>some ⟨s,id,[],⟨0,0⟩⟩
structure eM where
 snd:b9
 zg:cX
 way:List cA
abbrev bU:=List ((Int×Int)×eM)
def Jv(n:bU)(a b:Int):Option Unit:=if(bx n (a,b)).isNone then some ()else none
def Jw(n:bU)(a b:Int):Option Unit:=if(bx n (a,b)).isNone then none else some ()
abbrev D6(m n:Int):Int:=IntKind.wrap .i64 (BitVec.ofInt (IntKind.bits .i64) m&&& BitVec.ofInt (IntKind.bits .i64) n).toNat
def wj(n:bU)(a b:Int)(d:ByteArray):Option (Int×bU):=match bx n (a,b)with
 | none=>some (1,n)
 | some x=>(mM x.snd d).bind λp=>
  if decide (p.1.2=0)then(app 24 x.way [p.1.1]).bind λw=>some (p.1.2,cw n (a,b) ⟨p.2,x.zg,w⟩)else some (p.1.2,cw n (a,b) ⟨p.2,x.zg,x.way⟩)
def gV(n:bU)(a b:Int):Option (List cA):=match bx n (a,b)with
 | none=>some []
 | some x=>(dZ x.way).bind λr=>some r
def sS(n:bU)(a b:Int):Option Int:=match bx n (a,b)with
 | none=>some 0
 | some x=>(bW x.snd).bind λr=>some (r.length:Int)
def nA(n:bU)(a b i how:Int):Option ((ByteArray×Bool)×bU):=match bx n (a,b)with
 | none=>some ((ByteArray.empty,false),n)
 | some x=>if decide (i<0)then some ((ByteArray.empty,false),cw n (a,b) ⟨x.snd,x.zg,x.way⟩)else
  if decide ((x.way.length:Int)<=i)then some ((ByteArray.empty,false),cw n (a,b) ⟨x.snd,x.zg,x.way⟩)else
  (idx x.way i).bind λp=>if decide (D6 how 3=2)then
   if decide ((x.way.length:Int)<32)then(app 24 x.way [p]).bind λw=>some ((ByteArray.empty,false),cw n (a,b) ⟨x.snd,x.zg,w⟩)else some ((ByteArray.empty,false),cw n (a,b) ⟨x.snd,x.zg,x.way⟩)
  else(sub x.way 0 i).bind λl1=>(sub x.way (IntKind.wrap .i64<|i+1) (x.way.length:Int)).bind λl2=>(app 24 l1 l2).bind λw=>
  if decide (D6 how 3=1)then some ((ByteArray.empty,false),cw n (a,b) ⟨x.snd,x.zg,w⟩)else
  (gT x.zg p).bind λt=>if t.1.2 then(eW t.2).bind λq=>(gU x.snd q).bind λy=>some ((t.1.1,t.1.2),cw n (a,b) ⟨y.2,t.2,w⟩)else some ((t.1.1,t.1.2),cw n (a,b) ⟨x.snd,t.2,w⟩)
def qY(n:bU)(a b i:Int):Option (ByteArray×Bool):=match bx n (a,b)with
 | none=>some (ByteArray.empty,false)
 | some x=>if decide (i<0)then some (ByteArray.empty,false)else if decide ((x.way.length:Int)<=i)then some (ByteArray.empty,false)else
  (idx x.way i).bind λp=>(eW x.zg).bind λq=>if !(decide (p.Seq=q))then some (ByteArray.empty,false)else(idx x.way i).bind λp=>some (p.Data,true)
def mN(n:bU)(a b:Int):Option (Int×bU):=match bx n (a,b)with
 | none=>some (0,n)
 | some x=>(bW x.snd).bind λl=>
  (sub l 0<|if(if 0>IntKind.wrap .i64 (32-(x.way.length:Int))then 0 else IntKind.wrap .i64<|32-(x.way.length:Int))<(l.length:Int)then(if 0>IntKind.wrap .i64 (32-(x.way.length:Int))then 0 else IntKind.wrap .i64<|32-(x.way.length:Int))else(l.length:Int)).bind λq=>
  (app 24 x.way q).bind λw=>some ((q.length:Int),cw n (a,b) ⟨x.snd,x.zg,w⟩)
def KN(n a:Int)(kx:bU->Option bU)(again:Int×bU->Option bU)(v:Int×bU):Option bU:=
 if decide (v.1<n)then
  if !(decide (a=v.1))then
   nL (bx v.2 (a,v.1)).isNone<|pT.bind λs=>mL.bind λr=>again (IntKind.wrap .i64<|v.1+1,cw v.2 (a,v.1) ⟨s,r,[]⟩)
  else again (IntKind.wrap .i64<|v.1+1,v.2)
 else kx v.2
def KM(n:Int)(again:Int×bU->Option bU)(v:Int×bU):Option bU:=
 if decide (v.1<n)then aR (KN n v.1 λw=>again (IntKind.wrap .i64<|v.1+1,w)) FU (0,v.2)else some v.2
def DG(n:Int):Option bU:=if decide (n<1)then none else if decide (6<n)then none else aR (KM n) FU (0,[])
def ny(n:bU):Option Bool:=(n.mapM λe=>bW e.2.snd).bind λls=>some (ls.all λl=>l.isEmpty)
def gL(l:List aC)(i:Nat):=(l[i]?).bind λs=>tC s
def gF(l:List aC)(i:Nat):=(l[i]?).bind λs=>wT s
def jf(l:List aC)(i:Nat):=(l[i]?).bind λs=>qj s
def je(l:List aC)(i:Nat):=(l[i]?).bind λs=>rC s
def mo(l:List aC)(i:Nat)(key:ByteArray):=(l[i]?).bind λs=>rA s key
def oh(l:List aC)(i:Nat)(key:ByteArray):=(l[i]?).bind λs=>vg s key
def Bi(l:List aC)(i:Nat):Option ((aa×Bool)×List aC):=(l[i]?).bind λs=>(vh s).bind λr=>some (r.1,l.set i r.2)
def xP(l:List aC)(i:Nat)(pq:ai)(pins:List ah):Option (Unit×List aC):=(l[i]?).bind λs=>(rB s pq pins).bind λr=>some (r.1,l.set i r.2)
def qm(l:List aC)(i:Nat)(v:aa):Option (Int×List aC):=(l[i]?).bind λs=>(oW s v).bind λr=>some (r.1,l.set i r.2)
def oY(l:List aC)(i:Nat)(key value:ByteArray)(gone:Bool)(past:List ah):Option ((aa×Int)×List aC):=(l[i]?).bind λs=>(rD s key value gone past).bind λr=>some (r.1,l.set i r.2)
def Bh(l:List aC)(i:Nat)(own:List au)(vs:List aa):Option (Unit×List aC):=(l[i]?).bind λs=>(ve s own vs).bind λr=>some (r.1,l.set i r.2)
structure tG where
 keys:List ByteArray
 sites:List Int
structure aD where
 row:aF
 n:Nat
 sites:List aC
 bh:bU
 s0:aP
 s1:aP
 s2:aP
 s3:aP
 b0:tG
 b1:tG
 b2:tG
 b3:tG
 pins:List aH
 bg:List cZ
def bA(g:aD):Nat->aP
 | 0=>g.s0
 | 1=>g.s1
 | 2=>g.s2
 | _=>g.s3
def og(g:aD)(x:aP):Nat->aD
 | 0=>{ g with s0:=x }
 | 1=>{ g with s1:=x }
 | 2=>{ g with s2:=x }
 | _=>{ g with s3:=x }
def cr(g:aD):Nat->tG
 | 0=>g.b0
 | 1=>g.b1
 | 2=>g.b2
 | _=>g.b3
def C9(g:aD)(x:tG):Nat->aD
 | 0=>{ g with b0:=x }
 | 1=>{ g with b1:=x }
 | 2=>{ g with b2:=x }
 | _=>{ g with b3:=x }
def jJ(g:aD):Option (List cZ):=(fA g.bg).bind λr=>some r
def ady(g:aD):Option (List aH):=(fB g.pins).bind λr=>some r
def qT(g:aD)(kind cl:Int)(key:ByteArray)(s:ai)(seen:List ah):Option (Unit×aD):=(app 72 g.bg [⟨kind,cl,key,s,seen⟩]).bind λh=>some ((),{ g with bg:=h })
def AA(g:aD)(from_:Int)(to:List Int)(v:aa)(again:Int×bU->Option (Unit×aD))(u:Int×bU):Option (Unit×aD):=
 if decide (u.1<(to.length:Int))then
  (idx to u.1).bind λs=>(rT v).bind λb=>(wj u.2 from_ s b).bind λr=>again (IntKind.wrap .i64<|u.1+1,r.2)
 else some ((),{ g with bh:=u.2 })
def pP(g:aD)(from_:Int)(to:List Int)(v:aa):Option (Unit×aD):=aR (AA g from_ to v) FU (0,g.bh)
def vR(g:aD)(from_ s:Int):Option Bool:=(sS g.bh from_ s).bind λn=>some (decide (8<=n))
def vQ(g:aD)(from_:Int)(to:List Int):Option Bool:=(bX to (vR g from_)).bind λr=>some r
abbrev JV{R:Type}(c:Int)(X:Option R):Option R:=nL (decide (0<=c)&&decide (c<4)) X
def Dx(g:aD)(s:Int):Option Unit:=if decide (s<0)then some ()else if decide (((List.range g.n).length:Int)<=s)then some ()else none
def O0(g:aD)(s:Int):Option Nat:=if decide (s<0)then none else if decide (((List.range g.n).length:Int)<=s)then none else(idx (List.range g.n) s).bind λi=>some i
abbrev told(g:aD)(e:Int):Option (aA×aD):=(Kk e).bind λa=>some (a,g)
def jw(g:aD)(o:aI):Option (aA×aD):=JV o.Client<|(uu (bA g o.Client.toNat)).bind λs=>some (⟨0,[]⟩,og g s o.Client.toNat)
def kN(g:aD)(o:aI):Option (aA×aD):=JV o.Client<|
 (idx (List.range g.n) (bA g o.Client.toNat).Site).bind λi=>(oh g.sites i o.Key).bind λr=>
 if !(decide (r.2.2=0))then told g r.2.2 else
 (jS [(bA g o.Client.toNat).bz,r.1.bz]).bind λm=>(qT g 2 o.Client o.Key r.1.aq m).bind λe=>
 if !r.2.1 then some (⟨0,[]⟩,e.2)else
 (jO (bA g o.Client.toNat) [r.1]).bind λs=>(gI [r.1]).bind λa=>some (a,og e.2 s o.Client.toNat)
def CD(g:aD)(o:aI)(i:Nat):Option (aA×aD):=(je g.sites i).bind λh=>(gL g.sites i).bind λw=>(pI (bA g o.Client.toNat) o.Site h w).bind λc=>
  if decide (c.2=0)then told (og g c.1 o.Client.toNat) c.2 else told g c.2
def fk(g:aD)(o:aI):Option (aA×aD):=JV o.Client<|match idx (List.range g.n) o.Site with
 | none=>told g 1
 | some i=>CD g o i
def CE(g:aD)(i:Nat):Option (aA×aD):=(Bi g.sites i).bind λs=>if !s.1.2 then told { g with sites:=s.2 } 12 else(gI [s.1.1]).bind λa=>some (a,{ g with sites:=s.2 })
def iE(g:aD)(o:aI):Option (aA×aD):=match idx (List.range g.n) o.Site with
 | none=>told g 1
 | some i=>CE g i
def uT(g:aD)(o:aI):Option (aA×aD):=(mN g.bh o.Site o.To).bind λr=>if decide (r.1=0)then told { g with bh:=r.2 } 12 else some (⟨0,[]⟩,{ g with bh:=r.2 })
def Dz(g:aD)(o:aI)(to:List Int)(value:ByteArray)(gone:Bool):Option (aA×aD):=
 (idx (List.range g.n) (bA g o.Client.toNat).Site).bind λi=>(oY g.sites i o.Key value gone (bA g o.Client.toNat).bz).bind λw=>
 if !(decide (w.1.2=0))then told { g with sites:=w.2 } w.1.2 else
 (pP { g with sites:=w.2 } (bA g o.Client.toNat).Site to w.1.1).bind λs=>(qT s.2 1 o.Client w.1.1.Key w.1.1.aq (bA g o.Client.toNat).bz).bind λe=>
 (jO (bA g o.Client.toNat) [w.1.1]).bind λx=>(gI [w.1.1]).bind λa=>some (a,og e.2 x o.Client.toNat)
def gp(g:aD)(o:aI):Option (aA×aD):=JV o.Client<|
 (jU g.row (bA g o.Client.toNat).Site (-1) o.Key).bind λto=>
 (idx (List.range g.n) (bA g o.Client.toNat).Site).bind λi=>(gL g.sites i).bind λown=>(fT own o.Key).bind λf=>
 if decide (f<0)then told g 14 else
 (vQ g (bA g o.Client.toNat).Site to).bind λfl=>if fl then told g 15 else
 if decide (o.Kind=2)then Dz g o to ByteArray.empty (decide (o.Kind=2))else Dz g o to o.Value (decide (o.Kind=2))
def Ay(g:aD)(o:aI)(v:aa)(i:Nat)(to:List Int):Option (aA×aD):=
 (vQ g o.To to).bind λfl=>if fl then told g 15 else
 (nA g.bh o.Site o.To o.At o.How).bind λp=>(qm g.sites i v).bind λa=>(pP { g with bh:=p.2,sites:=a.2 } o.To to v).bind λs=>(gI [v]).bind λa=>some (a,s.2)
abbrev Az(g:aD)(o:aI):Option (aA×aD):=(nA g.bh o.Site o.To o.At o.How).bind λp=>some (⟨0,[]⟩,{ g with bh:=p.2 })
def pO(g:aD)(o:aI):Option (aA×aD):=
 (gV g.bh o.Site o.To).bind λway=>
 if decide (o.At<0)then told g 12 else if decide ((way.length:Int)<=o.At)then told g 12 else
 (qY g.bh o.Site o.To o.At).bind λt=>
 if decide (D6 o.How 3=1)then Az g o else if decide (D6 o.How 3=2)then Az g o else if !t.2 then Az g o else
 (mS t.1).bind λv=>(idx (List.range g.n) o.To).bind λi=>(jU g.row o.To o.Site v.1.Key).bind λto=>
 (gL g.sites i).bind λown=>(fT own v.1.Key).bind λf=>
 if decide (0<=f)then(jf g.sites i).bind λw=>if decide (24<=w)then told g 15 else Ay g o v.1 i to else Ay g o v.1 i to
def vS(g:aD)(p:aH)(key:ByteArray)(at_:Int):Option (aa×ai×Bool):=
 (cY p.nR λx0=>lD x0 key).bind λi=>if decide (i<0)then some (Z0,⟨0,0⟩,true)else
 (idx p.nR i).bind λd=>(idx (List.range g.n) at_).bind λj=>(mo g.sites j key).bind λl=>
 (bR l λx0=>lG x0 d.aq).bind λk=>if decide (k<0)then some (Z0,d.aq,false)else(idx l k).bind λv=>some (v,d.aq,true)
def zC(o:aI)(l:List aa)(R7:List ai)(after:aP)(ks:List ByteArray)(again:Int×aD->Option (aA×aD))(v:Int×aD):Option (aA×aD):=
 if decide (v.1<(ks.length:Int))then
  (idx ks v.1).bind λkey=>(idx R7 v.1).bind λs=>(qT v.2 2 o.Client key s after.bz).bind λe=>again (IntKind.wrap .i64<|v.1+1,e.2)
 else(gI l).bind λa=>some (a,og v.2 after o.Client.toNat)
def zA(g:aD)(o:aI)(l:List aa)(R7:List ai):Option (aA×aD):=
 (jO (bA g o.Client.toNat) l).bind λafter=>(idx (List.range g.n) (bA g o.Client.toNat).Site).bind λi=>(zw (cr g o.Client.toNat).keys l (bA g o.Client.toNat).bz).bind λck=>
 if !ck then told g 16 else(je g.sites i).bind λh=>(gL g.sites i).bind λw=>(nU after h w).bind λmay=>
 if !may then told g 16 else aR (zC o l R7 after (cr g o.Client.toNat).keys) FU (0,g)
def zB(g:aD)(o:aI)(p:aH)(again:Int×List aa×List ai->Option (aA×aD))(v:Int×List aa×List ai):Option (aA×aD):=
 if decide (v.1<((cr g o.Client.toNat).keys.length:Int))then
  (idx (cr g o.Client.toNat).keys v.1).bind λkey=>(idx (cr g o.Client.toNat).sites v.1).bind λat_=>(vS g p key at_).bind λh=>
  if !h.2.2 then told g 16 else(app 16 v.2.2 [h.2.1]).bind λR7=>
  if !(decide (h.2.1.N=0)&&decide (h.2.1.Site=0))then(app 80 v.2.1 [h.1]).bind λl=>again (IntKind.wrap .i64<|v.1+1,l,R7)else again (IntKind.wrap .i64<|v.1+1,v.2.1,R7)
 else zA g o v.2.1 v.2.2
def jP(g:aD)(o:aI):Option (aA×aD):=JV o.Client<|
 (wB g.pins<|IntKind.wrap .i64<|o.Client+1).bind λp=>if !p.2 then told g 12 else(u7 g.pins p.1.ID).bind λd=>aR (zB { g with pins:=d.1 } o p.1) FU (0,[],[])
def oG(g:aD)(least:ai)(again:Int×List aC->Option (aA×aD))(v:Int×List aC):Option (aA×aD):=
 if decide (v.1<((List.range g.n).length:Int))then
  (idx (List.range g.n) v.1).bind λi=>(wz g.pins).bind λps=>(xP v.2 i least ps).bind λr=>again (IntKind.wrap .i64<|v.1+1,r.2)
 else some (⟨0,[]⟩,{ g with sites:=v.2 })
def xD(g:aD)(again:Int×ai->Option (aA×aD))(v:Int×ai):Option (aA×aD):=
 if decide (v.1<((List.range g.n).length:Int))then
  (idx (List.range g.n) v.1).bind λi=>(gF g.sites i).bind λc=>(fZ c v.2).bind λl=>
  if l then(gF g.sites i).bind λc=>again (IntKind.wrap .i64<|v.1+1,c)else again (IntKind.wrap .i64<|v.1+1,v.2)
 else aR (oG g v.2) FU (0,g.sites)
def mJ(g:aD)(_o:aI):Option (aA×aD):=(idx (List.range g.n) 0).bind λi=>(gF g.sites i).bind λc=>aR (xD g) FU (0,c)
def Df(k:Int):Option Nat:=if k=1 then some 50 else if k=2 then some 50 else if k=3 then some 51 else if k=4 then some 52 else if k=5 then some 53 else if k=6 then some 54 else if k=7 then some 55 else if k=8 then some 56 else if k=9 then some 57 else if k=10 then some 58 else if k=11 then some 59 else if k=12 then some 60 else none
def DA(k:Int):Option Unit:=if decide (k=1)then none else if decide (k=2)then none else if decide (k=3)then none else if decide (k=4)then none else if decide (k=5)then none else if decide (k=6)then none else if decide (k=7)then none else if decide (k=8)then none else if decide (k=9)then none else if decide (k=10)then none else if decide (k=11)then none else if decide (k=12)then none else some ()
def lH(g:aD)(o:aI)(ks:List ByteArray)(ds:List ah)(ss:List Int)(l:List aa):Option (aA×aD):=
 (zM g.pins ⟨IntKind.wrap .i64<|o.Client+1,ds⟩).bind λp=>if !(decide (p.2=0))then told g p.2 else(gI l).bind λa=>some (a,C9 { g with pins:=p.1 } ⟨ks,ss⟩ o.Client.toNat)
def xC(g:aD)(key:ByteArray)(at_:Int)(again:Int×List ah×List Int×List aa->Option (aA×aD))(v:Int×List ah×List Int×List aa):Option (aA×aD):=
 (app 8 v.2.2.1 [at_]).bind λss=>(idx (List.range g.n) at_).bind λi=>(oh g.sites i key).bind λr=>
 if r.2.1 then(app 32 v.2.1 [⟨key,r.1.aq⟩]).bind λds=>(app 80 v.2.2.2 [r.1]).bind λl=>again (IntKind.wrap .i64<|v.1+1,ds,ss,l)else again (IntKind.wrap .i64<|v.1+1,v.2.1,ss,v.2.2.2)
def CC(g:aD)(o:aI)(ks:List ByteArray)(again:Int×List ah×List Int×List aa->Option (aA×aD))(v:Int×List ah×List Int×List aa):Option (aA×aD):=
 if decide (v.1<(o.Keys.length:Int))then
  (idx o.Keys v.1).bind λkey=>(idx (List.range g.n) (bA g o.Client.toNat).Site).bind λi=>(gL g.sites i).bind λown=>(fT own key).bind λf=>
  if decide (f<0)then(iY g.row key).bind λat_=>xC g key at_ again v else xC g key (bA g o.Client.toNat).Site again v
 else lH g o ks v.2.1 v.2.2.1 v.2.2.2
def fh(g:aD)(o:aI):Option (aA×aD):=JV o.Client<|(jQ o.Keys).bind λb=>if !b then told g 1 else(dA o.Keys).bind λks=>aR (CC g o ks) FU (0,[],[],[])
def nX(c:aF):Option aF:=(di c.bP).bind λa=>(fC c.cq).bind λb=>(fC c.aK).bind λd=>some ⟨a,b,d⟩
def FB(l:List Nat)(p:Nat->Option Bool)(again:Int->Option Int)(v:Int):Option Int:=
 if decide (v<(l.length:Int))then(idx l v).bind λx=>(p x).bind λr=>if r then some v else again (IntKind.wrap .i64<|v+1)else some (-1)
def zY(_:Nat->Nat×Nat×Nat)(l:List Nat)(p:Nat->Option Bool):Option Int:=aR (FB l p) FU 0
def oX(st:Nat->Nat×Nat×Nat)(l:List Nat)(p:Nat->Option Bool):Option Bool:=(zY st l p).bind λr=>some (decide (0<=r))
def FJ(g:aD)(i:Nat):Option Bool:=(jf g.sites i).bind λw=>some (decide (0<w))
abbrev dX:=List (Int×List aa)
def Lq(g:aD)(ap3:List aW)(mv:aW)(i:Nat)(_hs:List ah)(_a j:Int)(d:ah)(again:Int×dX->Option (aA×aD))(come:dX):Option (aA×aD):=
 nL (bx (jR come mv.To) mv.To).isNone<|(mo g.sites i d.Key).bind λl=>(app 80 ((bx come mv.To).getD []) l).bind λq=>again (IntKind.wrap .i64<|j+1,cw come mv.To q)
def Ln(g:aD)(plan:List aW)(mv:aW)(i:Nat)(hs:List ah)(a:Int)(kx:dX->Option (aA×aD))(again:Int×dX->Option (aA×aD))(v:Int×dX):Option (aA×aD):=
 if decide (v.1<(hs.length:Int))then(idx hs v.1).bind λd=>(zF mv.Range d.Key).bind λh=>if h then Lq g plan mv i hs a v.1 d again v.2 else again (IntKind.wrap .i64<|v.1+1,v.2)else kx v.2
def P4(g:aD)(o:aI)(come:dX)(again:Int×List aC->Option (aA×aD))(v:Int×List aC):Option (aA×aD):=
 if decide (v.1<((List.range g.n).length:Int))then(idx (List.range g.n) v.1).bind λi=>(iZ o.Row v.1).bind λrs=>(Bh v.2 i rs<|(bx come v.1).getD []).bind λr=>again (IntKind.wrap .i64<|v.1+1,r.2)
 else(nX o.Row).bind λrow=>some (⟨0,[]⟩,{ g with sites:=v.2,row:=row })
def Lp(g:aD)(o:aI)(come:dX):Option (aA×aD):=aR (P4 g o come) FU (0,g.sites)
def H6(g:aD)(o:aI)(plan:List aW)(again:Int×dX->Option (aA×aD))(v:Int×dX):Option (aA×aD):=
 if decide (v.1<(plan.length:Int))then(idx plan v.1).bind λmv=>(idx (List.range g.n) mv.From).bind λi=>(je g.sites i).bind λhs=>aR (Ln g plan mv i hs v.1 λcome=>again (IntKind.wrap .i64<|v.1+1,come)) FU (0,v.2)else Lp g o v.2
def ni(g:aD)(o:aI):Option (aA×aD):=(fW g.row o.Row).bind λf=>if !f then told g 1 else
 (oX (λ_=>(0,0,0)) (List.range g.n)<|FJ g).bind λw=>if w then told g 17 else(ny g.bh).bind λid=>if !id then told g 17 else if decide (0<(g.pins.length:Int))then told g 17 else
 (nW g.row o.Row).bind λplan=>aR (H6 g o plan) FU (0,[])
def fR(g:aD)(o:aI):Option (aA×aD):=match Df o.Kind with
 | some 50=>(gp g o).bind λr=>some r
 | some 51=>(kN g o).bind λr=>some r
 | some 52=>(jw g o).bind λr=>some r
 | some 53=>(fk g o).bind λr=>some r
 | some 54=>(fh g o).bind λr=>some r
 | some 55=>(jP g o).bind λr=>some r
 | some 56=>(pO g o).bind λr=>some r
 | some 57=>(uT g o).bind λr=>some r
 | some 58=>(iE g o).bind λr=>some r
 | some 59=>(mJ g o).bind λr=>some r
 | some 60=>(ni g o).bind λr=>some r
 | _=>told g 1
def gR(g:aD)(o:aI):Option (aA×aD):=
 if decide (1<=o.Kind)&&decide (o.Kind<=7)then
  if decide (o.Client<0)||decide (4<=o.Client)then told g 1 else
  if !(decide (o.Kind=5))&&decide ((bA g o.Client.toNat).Site= -1)then told g 13 else fR g o
 else fR g o
def adw(g:aD)(s:Int)(key:ByteArray):Option (List aa):=(O0 g s).bind λi=>(mo g.sites i key).bind λr=>some r
def GK(ops:List aI)(again:Int×aD×List aA->Option (List aA×aD))(v:Int×aD×List aA):Option (List aA×aD):=
 if decide (v.1<(ops.length:Int))then(idx ops v.1).bind λo=>(gR v.2.1 o).bind λa=>(app 32 v.2.2 [a.1]).bind λl=>again (IntKind.wrap .i64<|v.1+1,a.2,l)else some (v.2.2,v.2.1)
def Ba(g:aD)(ops:List aI):Option (List aA×aD):=aR (GK ops) FU (0,g,[])
def aeN(g:aD)(n:Int)(d:ah)(_i _j:Int)(kx:List Bool->Option (List Bool))(again:Int×List Bool->Option (List Bool))(v:Int×List Bool):Option (List Bool):=
 if decide (v.1<n)then(adw g v.1 d.Key).bind λl=>(adz l d.aq).bind λr=>(app 1 v.2 [r.2]).bind λb=>again (IntKind.wrap .i64<|v.1+1,b)else kx v.2
def aeM(g:aD)(pins:List aH)(n i:Int)(kx:List Bool->Option (List Bool))(again:Int×List Bool->Option (List Bool))(v:Int×List Bool):Option (List Bool):=
 (idx pins i).bind λp=>if decide (v.1<(p.nR.length:Int))then(idx pins i).bind λp=>(idx p.nR v.1).bind λd=>aR (aeN g n d i v.1 λb=>again (IntKind.wrap .i64<|v.1+1,b)) FU (0,v.2)else kx v.2
def aeD(g:aD)(pins:List aH)(n:Int)(again:Int×List Bool->Option (List Bool))(v:Int×List Bool):Option (List Bool):=
 if decide (v.1<(pins.length:Int))then aR (aeM g pins n v.1 λb=>again (IntKind.wrap .i64<|v.1+1,b)) FU (0,v.2)else some v.2
def adf(g:aD)(pins:List aH)(n:Int):Option (List Bool):=aR (aeD g pins n) FU (0,[])
def Z1:aP:=⟨0,[]⟩
def V4:tG:=⟨[],[]⟩
def Dw(n:Int)(again:Int×aD->Option aD)(v:Int×aD):Option aD:=
 if decide (v.1<4)then JV v.1<|(vF<|v.1.tmod n).bind λs=>again (IntKind.wrap .i64<|v.1+1,og v.2 s v.1.toNat)else some v.2
def Nu(c:aF)(n:Int)(row:aF)(bh:bU)(again:Int×List aC->Option aD)(v:Int×List aC):Option aD:=
 if decide (v.1<n)then nL (decide (v.1=(v.2.length:Int)))<|(iZ c v.1).bind λrs=>(zX v.1 rs).bind λs=>(app 8 (List.range v.2.length) [v.2.length]).bind λ_=>again (IntKind.wrap .i64<|v.1+1,v.2++ [s])
 else nL (!(decide (n=0)))<|aR (Dw n) FU (0,⟨row,v.2.length,v.2,bh,Z1,Z1,Z1,Z1,V4,V4,V4,V4,[],[]⟩)
def Aw(c:aF):Option aD:=(jK c).bind λk=>if !k then none else(ja c).bind λn=>(nX c).bind λrow=>(DG n).bind λbh=>aR (Nu c n row bh) FU (0,[])
abbrev txt(l:List UInt8):ByteArray:=⟨l.toArray⟩
def Aa:Option Bool:=(Aw ⟨[⟨ByteArray.empty,ByteArray.empty⟩],[3],[-1,0]⟩).bind λg=>(Ba g [⟨1,0,0,0,0,0,txt [97],txt [120],[],⟨[],[],[]⟩⟩,⟨3,0,0,0,0,0,txt [97],ByteArray.empty,[],⟨[],[],[]⟩⟩]).bind λr=>
 if decide ((r.1.length:Int)=2)then(idx r.1 1).bind λa=>if decide ((a.Found.length:Int)=1)then(idx r.1 1).bind λa=>(idx a.Found 0).bind λv=>some (seq v.Value<|txt [120])else some false else some false
def ac8(g:aD)(s:Int):Option (List ah):=(O0 g s).bind λi=>(je g.sites i).bind λr=>some r
def adx(i:Int)(g z:aD)(b a:List Bool)(kx:Int×aD×aD->Option Bool)(again:Int->Option Bool)(k:Int):Option Bool:=
 if decide (k<(b.length:Int))then(idx b k).bind λx=>(idx a k).bind λy=>if !(x==y)then some false else again (IntKind.wrap .i64<|k+1)else kx (IntKind.wrap .i64<|i+1,g,z)
def l7(up:Bool)(n:Int)(g z:aD)(again:Int->Option Bool)(s:Int):Option Bool:=
 if decide (s<n)then(ac8 g s).bind λa=>(ac8 z s).bind λb=>(kC a b).bind λh=>if !h then some false else again (IntKind.wrap .i64<|s+1)
 else if up then(jJ g).bind λa=>(jJ z).bind λb=>(abv a b).bind λh=>some h else some false
def aeA(up:Bool)(n:Int)(l:List mH)(again:Int×aD×aD->Option Bool)(v:Int×aD×aD):Option Bool:=
 if decide (v.1<(l.length:Int))then if decide (v.1<50)then(idx l v.1).bind λa=>(rM a n).bind λo=>(ady v.2.1).bind λpins=>(adf v.2.1 pins n).bind λbefore=>(gR v.2.1 o).bind λa=>
  if decide (o.Kind=11)then
   if !(decide (a.1.Err=0))then some false else if !(decide ((a.1.Found.length:Int)=0))then some false else
   (adf a.2 pins n).bind λafter=>if !(decide ((before.length:Int)=(after.length:Int)))then some false else
   aR (adx v.1 a.2 v.2.2 before after again) FU 0
  else(gR v.2.2 o).bind λb=>(ade a.1 b.1).bind λh=>if !h then some false else again (IntKind.wrap .i64<|v.1+1,a.2,b.2)
 else aR (l7 up n v.2.1 v.2.2) FU 0 else aR (l7 up n v.2.1 v.2.2) FU 0
def ac7(q:lf)(l:List mH):Option Bool:=Aa.bind λup=>(qw q).bind λrow=>(Aw row).bind λg=>(Aw row).bind λz=>aR (aeA up (row.aK.length:Int) l) FU (0,g,z)
end Go.Ark
