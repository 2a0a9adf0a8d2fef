/- Machine, typed functions, plain laws and walks, part 16, for TopCleans. Conditions: none but those that stand in each law. -/
import Derived.Test.YtgjndeeaafimiaaGreatD15
set_option linter.all false
open Go.Proofs.Tryz
namespace Go.Ark
open Go Go.Ab Go.RowKit Go.Proofs
abbrev E6:Int×Int->Value:=λp=>.agg #[.int .i64 p.1,.int .i64 p.2]
theorem alj(w:World):(isAgg 3).run prog w= .ok false w:=rj underlying3
theorem ags(x y:Value)(w:World):(part 3 #[x,y] 0).run prog w= .ok x w:=by simp[part,alj]
theorem agt(x y:Value)(w:World):(part 3 #[x,y] 1).run prog w= .ok y w:=by simp[part,alj]
theorem ck3(em:Bool)(n:Nat)(a:Int)(w:World):(Instr.checkKey em (n+1) 3 (.int .i64 a)).run prog w= .ok () w:=by
 rw[Instr.checkKey];simp[avm underlying3]
theorem eq3(n:Nat)(a b:Int)(w:World):(Op.equalIn (n+1) 3 (.int .i64 a) (.int .i64 b)).run prog w= .ok (a==b) w:=by
 rw[Op.equalIn];simp[avm underlying3]
theorem ae2(em:Bool)(x:Int×Int)(w:World):(Instr.checkKey em 10000 124 (E6 x)).run prog w= .ok () w:=by
 show(Instr.checkKey em (9998+1+1) 124 _).run prog w=_
 rw[Instr.checkKey];simp only[avw,avm underlying124,avt,xR.sizeOf];simp only[Std.Legacy.Range.forIn_eq_forIn_range',Std.Legacy.Range.size,ay9,ax9,Nat.div_one,List.range'_succ,List.range'_zero,List.forIn_cons,List.forIn_nil,avw,avt,xR.sizeOf,ayC,avS,ayu,ags,agt,ck3,avF]
theorem ae3(x y:Int×Int)(w:World):(Op.equal 124 (E6 x) (E6 y)).run prog w= .ok (decide (x=y)) w:=by
 show(Op.equalIn (9998+1+1) 124 _ _).run prog w=_
 rw[Op.equalIn];simp only[avw,avm underlying124,avt,xR.sizeOf];simp only[Std.Legacy.Range.forIn_eq_forIn_range',Std.Legacy.Range.size,ay9,ax9,Nat.div_one,List.range'_succ,List.range'_zero,List.forIn_cons,List.forIn_nil,avw,avt,ayC,avS,ayu,ags,eq3];obtain⟨a,b⟩:=x;obtain⟨c,d⟩:=y;by_cases h1:a=c<;>by_cases h2:b=d<;>simp[h1,h2,agt,eq3]
theorem aoS:BK prog 124 E6:=BK.ag1 underlying124 (λem x w=>ae2 em x w) (λx y w=>ae3 x y w) (λ_ _=>rfl) (λx=>by
 show Instr.sameBits (9998+1+1) _ _=true;simp[Instr.sameBits])
instance:adM prog 112 124 115 E6:=⟨underlying112,aoS⟩
instance{x y:Int}:adL E6 (.agg [.v (.int .i64 x),.v (.int .i64 y)]) (x,y):=⟨λM w u h=>by
 obtain⟨us,rfl,h1,h2⟩:=h;obtain⟨a,q1,q2⟩:=h2 0 _ U;obtain⟨b,q3,q4⟩:=h2 1 _ U;have e1:a= .int .i64 x:=RD.aX q2
 have e2:b= .int .i64 y:=RD.aX q4
 subst e1 e2;show Value.agg us= .agg #[_,_]
 congr 1;refine Array.ext ay7 λi hi hj=>?_
 match i,hi with
 | 0,hi=>rw[av2 hi]at q1;simpa using q1
 | 1,hi=>rw[av2 hi]at q3;simpa using q3
 | i+2,hi=>exact absurd hj ayW⟩
abbrev Wn:Option Nat->AG:=λo=>.d (.v (.pointer (o.map λb=>⟨b,0,none⟩)))
structure M6 where
 b:Nat
 s:Nat
 r:Nat
structure iA where
 b:Nat
 m:Nat
 ad:Int×Int->M6
abbrev aag(a:M6)(s:b9)(r:cX)(es:List (List DV))(v:Value):OP:=Sep (eu a.b 122 [.v (.pointer (some ⟨a.s,0,none⟩)),.v (.pointer (some ⟨a.r,0,none⟩)),.v v]) (Sep (Oh a.s s) (Sep (QI a.r r) (Row v 235 2 es)))
abbrev Ii(a:M6)(x:eM)(v:Value):OP:=aag a x.snd x.zg (x.way.map dP) v
abbrev Cc(a:M6)(x:eM):OP:=qA (Ii a x)
abbrev uw(A:iA)(n:bU):List ((Int×Int)×Option Nat):=n.map λe=>(e.1,some (A.ad e.1).b)
abbrev D3(A:iA)(n:bU):OP:=Sep (eu A.b 114 [.v (.map (some A.m))]) (tJ A.m (cm E6 Wn (uw A n)))
abbrev L2(A:iA)(n:bU):OP:=Dr (n.map λe=>Cc (A.ad e.1) e.2)
abbrev mY(A:iA)(n:bU):OP:=Sep (D3 A n) (L2 A n)
instance{A:iA}{n:bU}:OM (L2 A n):=⟨Sa λB hB=>by
 obtain⟨e,_,rfl⟩:=avT.1 hB;exact oM⟩
def Pu(A:iA)(n:bU)(a b:Int):Option (Option Nat):=some ((bx (uw A n) (a,b)).getD none)
theorem Ta(A:iA)(n:bU)(a b:Int)(r:Option Nat)(hF:Pu A n a b=some r):fc prog (γ:=Unit) 153 (D3 A n) (λ_=>D3 A n) [bZ A.b,bV a,bV b] (λ_=>.one (Wn r)):=by
 apply fc.iB func153 U ntmps153 U U oM hF λC0=>?_;unfold Pu;exact wk
instance{n:bU}{a b:Int}:tF prog (Jv n a b) 153 (λA:iA=>D3 A n) (λA=>[bZ A.b,bV a,bV b]) (λ_=>.one (.d (.v (.pointer none)))):=⟨λA r h=>by
 refine Ta A n a b none ?_;unfold Jv at h;split at h
 ·rename_i c
  rw[Pu,uw,CN (f:=λk _=>some (A.ad k).b),Option.isNone_iff_eq_none.1 c];rfl
 ·cases h⟩
theorem ZM(A:iA)(n:bU)(a b:Int)(r:Unit)(h:Jw n a b=some r):fc prog (γ:=Unit) 153 (D3 A n) (λ_=>D3 A n) [bZ A.b,bV a,bV b] (λ_=>.one (.d (.v (.pointer (some ⟨(A.ad (a,b)).b,0,none⟩))))):=by
 refine Ta A n a b (some (A.ad (a,b)).b) ?_;unfold Jw at h;split at h
 ·cases h
 ·rename_i c
  cases hx:bx n (a,b)with
  | none=>rw[hx]at c;exact absurd U c
  | some x=>rw[Pu,uw,CN (f:=λk _=>some (A.ad k).b),hx];rfl
def Pv(_:iA)(n:bU)(a b:Int):Option Unit:=Jw n a b
instance{A:iA}{n:bU}{a b:Int}:tF prog (Pv A n a b) 153 (λ_:Unit=>D3 A n) (λ_=>[bZ A.b,bV a,bV b]) (λ_=>.one (.d (.v (.pointer (some ⟨(A.ad (a,b)).b,0,none⟩))))):=⟨λ_ r h=>ZM A n a b r h⟩
variable{n:bU}{a b:Int}{A:iA}{x:eM}
section
variable{nt:Nat}{R:Type}{C0:Cx prog nt}{Q:R->Exit->Act->World->Prop}{r:R}{F:Option R}{k:List KI}{sl:SL}{hp:HL}
theorem DJ(h:bx n (a,b)=none)(hk:GF C0 Q r ((Jv n a b).bind λ_=>F) k ⟨sl,hp⟩):GF C0 Q r F k ⟨sl,hp⟩:=GF.eq (by simp[Jv,h]) hk
abbrev aac(A:iA)(n:bU)(a b:Int):OP:=Dr ((jR n (a,b)).map λe=>Cc (A.ad e.1) e.2)
instance{A:iA}{n:bU}{a b:Int}:OM (aac A n a b):=⟨Sa λB hB=>by
 obtain⟨e,_,rfl⟩:=avT.1 hB;exact oM⟩
theorem DK(h:bx n (a,b)=some x)(hh:aE hp 1000=some (.obj (mY A n)))
  (hk:∀v,GF C0 Q r ((Pv A n a b).bind λ_=>F) k ⟨sl,(1000,some (.obj<|Sep (D3 A n)<|Sep (Ii (A.ad (a,b)) x v)<|aac A n a b))::hp⟩):GF C0 Q r F k ⟨sl,hp⟩:=
 GF.vs 1000 (B:=λv=>Sep (D3 A n)<|Sep (Ii (A.ad (a,b)) x v)<|aac A n a b) (VS.same λM w O q=>by
  obtain⟨O1,O2,h1,h2,h3,h4⟩:=q;obtain⟨O3,O4,h5,h6,⟨v,h7⟩,h8⟩:=JS (g:=λk y=>Cc (A.ad k) y) h h4;exact⟨v,O1,O2,h1,h2,h3,O3,O4,h5,h6,h7,h8⟩) (λ_=>oM) hh λv=>GF.eq (by simp[Pv,Jw,h]) (hk v)
end
variable{k:Int×Int}
theorem aaR(A:iA)(n:bU){x':eM}(h:bx n k=some x):uw A (cw n k x')=uw A n:=by
 induction n with
 | nil=>cases h
 | cons e n ih=>
  obtain⟨k',y⟩:=e;simp only[bx]at h;simp only[cw];by_cases c:k'=k
  ·rw[avk c];subst c;rfl
  ·rw[avj c]at h ⊢
   simp only[uw,avV];congr 1;exact ih h
theorem DI(h:bx n (a,b)=some x)(s:b9)(r:cX)(l:List cA)(v:Value):
  VSC (Sep (D3 A n)<|Sep (aag (A.ad (a,b)) s r (l.map dP) v)<|aac A n a b) (λ_:Unit=>mY A<|cw n (a,b) ⟨s,r,l⟩):=⟨VS.same λM w O q=>by
 obtain⟨O1,O2,h1,h2,h3,O3,O4,h5,h6,h7,h8⟩:=q;refine⟨(),O1,O2,h1,h2,?_,?_⟩
 ·show D3 A _ M w O1
  unfold D3;rw[aaR A n h];exact h3
 ·exact Na (g:=λk y=>Cc (A.ad k) y) h ⟨O3,O4,h5,h6,⟨v,h7⟩,h8⟩⟩
theorem WQ{α γ:Type}[DecidableEq α]:∀{l:List (α×γ)}{k:α}{x:γ},bx l k=some x->cw l k x=l
 | [],_,_,h=>azm
 | (a,b)::l,k,x,h=>by
  simp only[bx]at h;simp only[cw];by_cases c:a=k
  ·rw[avk c]at h ⊢;cases h;subst c;rfl
  ·rw[avj c]at h ⊢;rw[WQ h]
theorem Fi(h:bx n (a,b)=some x)(v:Value):
  VSC (Sep (D3 A n)<|Sep (Ii (A.ad (a,b)) x v)<|aac A n a b) (λ_:Unit=>mY A n):=by
 have:=DI (A:=A) h x.snd x.zg x.way v;rw[WQ (x:=(⟨x.snd,x.zg,x.way⟩:eM)) h]at this;exact this
instance(n:bU)(a b:Int)(d:ByteArray):mU prog (wj n a b d) 133 (λA:iA=>mY A n) (λ(A:iA)(_:Unit)(r:Int×bU)=>mY A r.2) (λA=>[bZ A.b,bV a,bV b,fP d]) (λ_ r=>j7 r.1):=Gn func133 U ntmps133 (λ_=>rfl) (λ_=>rfl) (λ_=>oM) (λ_ _ _=>oM) λA r C0=>by
 unfold wj;cases h:bx n (a,b)with
 | none=>dsimp only;exact DJ h wk
 | some x=>
  have:=DI (A:=A) h;dsimp only;exact DK h rfl λv=>wk
instance(n:bU)(a b:Int):tF prog (gV n a b) 91 (λA:iA=>mY A n) (λA=>[bZ A.b,bV a,bV b]) (λr=>fu 2 dP r):=Mn func91 U ntmps91 (λ_=>rfl) (λ_=>rfl) (λ_=>oM) λA r C0=>by
 unfold gV;cases h:bx n (a,b)with
 | none=>dsimp only;exact DJ h wk
 | some x=>
  have:=Fi (A:=A) h;dsimp only;exact DK h rfl λv=>wk
instance(n:bU)(a b:Int):tF prog (sS n a b) 126 (λA:iA=>mY A n) (λA=>[bZ A.b,bV a,bV b]) j7:=Mn func126 U ntmps126 (λ_=>rfl) (λ_=>rfl) (λ_=>oM) λA r C0=>by
 unfold sS;cases h:bx n (a,b)with
 | none=>dsimp only;exact DJ h wk
 | some x=>
  have:=Fi (A:=A) h;dsimp only;exact DK h rfl λv=>wk
instance(n:bU)(a b:Int)(i:Int):tF prog (qY n a b i) 92 (λA:iA=>mY A n) (λA=>[bZ A.b,bV a,bV b,bV i]) (λr=>.eV [.d (.v (.string r.1)),.d (.v (.bool r.2))]):=Mn func92 U ntmps92 (λ_=>rfl) (λ_=>rfl) (λ_=>oM) λA r C0=>by
 unfold qY;cases h:bx n (a,b)with
 | none=>dsimp only;exact DJ h wk
 | some x=>
  have:=Fi (A:=A) h;dsimp only;exact DK h rfl λv=>wk
instance(n:bU)(a b:Int):mU prog (mN n a b) 97 (λA:iA=>mY A n) (λ(A:iA)(_:Unit)(r:Int×bU)=>mY A r.2) (λA=>[bZ A.b,bV a,bV b]) (λ_ r=>j7 r.1):=Gn func97 U ntmps97 (λ_=>rfl) (λ_=>rfl) (λ_=>oM) (λ_ _ _=>oM) λA r C0=>by
 unfold mN;cases h:bx n (a,b)with
 | none=>dsimp only;exact DJ h wk
 | some x=>
  have:=DI (A:=A) h;dsimp only;exact DK h rfl λv=>wk
instance(n:bU)(a b:Int)(i how:Int):mU prog (nA n a b i how) 93 (λA:iA=>mY A n) (λ(A:iA)(_:Unit)(r:(ByteArray×Bool)×bU)=>mY A r.2) (λA=>[bZ A.b,bV a,bV b,bV i,bV how]) (λ_ r=>.eV [.d (.v (.string r.1.1)),.d (.v (.bool r.1.2))]):=Gn func93 U ntmps93 (λ_=>rfl) (λ_=>rfl) (λ_=>oM) (λ_ _ _=>oM) λA r C0=>by
 unfold nA;cases h:bx n (a,b)with
 | none=>dsimp only;exact DJ h wk
 | some x=>
  have:=DI (A:=A) h;dsimp only;exact DK h rfl λv=>wk
instance:EZ prog 122 [.v (.pointer none),.v (.pointer none),.v (.slice none 0 0)]:=⟨_,_,_,alX,⟨.v _ U,.v _ U,.v _ U,ayS⟩,U⟩
theorem CM{α γ:Type}[DecidableEq α]:∀{l:List (α×γ)}{k:α}{e:α×γ},bx l k=none->e∈l->e.1≠k
 | [],_,_,_,h=>azm
 | (a,b)::l,k,e,h,he=>by
  simp only[bx]at h;split at h
  ·cases h
  ·rename_i c
   rcases List.mem_cons.1 he with rfl | he
   ·exact c
   ·exact CM h he
def iA.put(A:iA)(k:Int×Int)(x:M6):iA:=⟨A.b,A.m,λi=>if i=k then x else A.ad i⟩
theorem aaQ{x:M6}{y:eM}(h:bx n k=none):uw (A.put k x) (cw n k y)=cw (uw A n) k (some x.b):=by
 have h2:bx (uw A n) k=none:=by rw[uw,CN (f:=λk _=>some (A.ad k).b),h];rfl
 rw[uY h,uY h2,uw,uw,axm];congr 1
 ·exact awK λe he=>by simp[iA.put,CM h he]
 ·simp[iA.put]
theorem ae8(s r b:Nat)(y:eM)(h:bx n k=none)(hw:y.way= []):VS (Sep (Sep (Sep (Sep (Sep (eu A.b 114 [.v (.map (some A.m))]) (tJ A.m (cm E6 Wn (cw (uw A n) k (some b))))) (L2 A n)) (Oh s y.snd)) (QI r y.zg)) (Sep tH (eu b 122 [.v (.pointer (some ⟨s,0,none⟩)),.v (.pointer (some ⟨r,0,none⟩)),.v (.slice none 0 0)])))
  (λ_:Unit=>qA λad=>mY ⟨A.b,A.m,ad⟩<|cw n k y):=VS.same λM w O q=>by
 refine⟨(),(A.put k ⟨b,s,r⟩).ad,?_⟩;show Sep (D3 (A.put k ⟨b,s,r⟩)<|cw n k y) (L2 (A.put k ⟨b,s,r⟩)<|cw n k y) M w O;have e1:D3 (A.put k ⟨b,s,r⟩) (cw n k y)=Sep (eu A.b 114 [.v (.map<|some A.m)]) (tJ A.m<|cm E6 Wn<|cw (uw A n) k<|some b):=by
  unfold D3;rw[aaQ h];rfl
 have e2:L2 (A.put k ⟨b,s,r⟩) (cw n k y)=Dr ((n.map λe=>Cc (A.ad e.1) e.2)++ [Cc ⟨b,s,r⟩ y]):=by
  unfold L2;rw[uY h,axm];congr 2
  ·exact awK λe he=>by simp[iA.put,CM h he]
  ·simp[iA.put]
 rw[e1,e2];refine tj (λ_ _ _ z=>z) (λ_ _ _ z=>V6<|tj (λ_ _ _ z=>z) (λ_ _ _ z=>⟨.slice none 0 0,?_⟩) z) (SA<|SA<|SA q);have e3:Ii ⟨b,s,r⟩ y=aag ⟨b,s,r⟩ y.snd y.zg []:=by funext v;simp[Ii,hw]
 rw[e3];exact tj (λ_ _ _ z=>z) (λ_ _ _ z=>tj (λ_ _ _ z=>z) (λ_ _ _ z=>Lx ayZ z) z) (LA<|tj (λ_ _ _ z=>z) (λ_ _ _ z=>FA<|tj (λ_ _ _ z=>z) (λ_ _ _ z=>Zh z) z) z)
theorem ZK(n:Int)(r:bU)(hF:DG n=some r):fc prog (γ:=iA) 26 tH (λg=>mY g r) [bV n] (λg=>.one (.d (.v (.pointer (some ⟨g.b,0,none⟩))))):=by
 apply fc.iB func26 U ntmps26 U U CS hF λC0=>?_;unfold DG
 repeat' (first
  | (show SG (.alloc _);first | refine iK 1000 U zR U U ayX λ_=>?_)
  | (show SG (.box _ _);first | refine tQ 1000 U U U U ayX (λ_=>?_) | refine xA 1000 U U U U ayX λ_=>?_)
  | (show SG (.build _ _);first | refine jr U zR lI U U U ?_)
  | refine qG ?_
  | refine qF ?_
  | refine rJ ?_
  | refine rG ?_ ?_
  | exact pq
  | intro _
  | (show GF _ _ _ _ _ _;first | exact s8 1000 _ U U VS.new1 (by((repeat(first | refine cH.tmp U ?_ | refine cH.own U U ?_ | refine cH.fH uU U U U U ?_ | refine cH.e6 uU iI U U U U U ?_));first | exact cH.nil | fail)) U | exact s8 1000 (_,_) U U VS.new2 (by((repeat(first | refine cH.tmp U ?_ | refine cH.own U U ?_ | refine cH.fH uU U U U U ?_ | refine cH.e6 uU iI U U U U U ?_));first | exact cH.nil | fail)) U | exact s8 1000 (_,_) U U VS.YG (by((repeat(first | refine cH.tmp U ?_ | refine cH.own U U ?_ | refine cH.fH uU U U U U ?_ | refine cH.e6 uU iI U U U U U ?_));first | exact cH.nil | fail)) U | exact s8 1000 _ U U (VS.newR ayZ U) (by((repeat(first | refine cH.tmp U ?_ | refine cH.own U U ?_ | refine cH.fH uU U U U U ?_ | refine cH.e6 uU iI U U U U U ?_));first | exact cH.nil | fail)) U))
 rename_i m b;refine GF.aR (λv:Int×bU=>⟨[(0,aV n),(3,.one (pt b 0)),(15,aV n),(16,aV v.1)],[kO (qA λad=>mY ⟨b,m,ad⟩ v.2)]⟩) (λa w q=>?_) (λK again v cW=>?_)
 ·exact(q.vs 1000 U (B:=qA λad=>mY ⟨b,m,ad⟩ []) (VS.same λM w O h=>⟨(),λ_=>⟨0,0,0⟩,aiH<|FA<|tj (λ_ _ _=>Zh) (λ_ _ _ z=>z) h⟩) oM).cv ⟨U,U,U,U,ayS⟩ ⟨U,ayS⟩ U
 ·refine GF.yZ 1000 U (λ_=>oM) λad=>?_
  repeat' (first
   | (show SG (.alloc _);first | refine iK 1000 U zR U U ayX λ_=>?_)
   | (show SG (.box _ _);first | refine tQ 1000 U U U U ayX (λ_=>?_) | refine xA 1000 U U U U ayX λ_=>?_)
   | (show SG (.build _ _);first | refine jr U zR lI U U U ?_)
   | refine qG ?_
   | refine qF ?_
   | refine rJ ?_
   | refine rG ?_ ?_
   | exact pq
   | intro _
   | (show GF _ _ _ _ _ _;first | exact s8 1000 _ U U VS.new1 (by((repeat(first | refine cH.tmp U ?_ | refine cH.own U U ?_ | refine cH.fH uU U U U U ?_ | refine cH.e6 uU iI U U U U U ?_));first | exact cH.nil | fail)) U | exact s8 1000 (_,_) U U VS.new2 (by((repeat(first | refine cH.tmp U ?_ | refine cH.own U U ?_ | refine cH.fH uU U U U U ?_ | refine cH.e6 uU iI U U U U U ?_));first | exact cH.nil | fail)) U | exact s8 1000 (_,_) U U VS.YG (by((repeat(first | refine cH.tmp U ?_ | refine cH.own U U ?_ | refine cH.fH uU U U U U ?_ | refine cH.e6 uU iI U U U U U ?_));first | exact cH.nil | fail)) U | exact s8 1000 _ U U (VS.newR ayZ U) (by((repeat(first | refine cH.tmp U ?_ | refine cH.own U U ?_ | refine cH.fH uU U U U U ?_ | refine cH.e6 uU iI U U U U U ?_));first | exact cH.nil | fail)) U))
  refine GF.aR (λu:Int×bU=>⟨[(0,aV n),(3,.one (pt b 0)),(4,aV v.1),(15,aV n),(16,aV v.1),(19,aV n),(20,aV u.1)],[kO (qA λad=>mY ⟨b,m,ad⟩ u.2)]⟩) (λa w q=>?_) (λK again u E9=>?_)
  ·exact(q.vs 1000 U (B:=qA λad=>mY ⟨b,m,ad⟩ v.2) (VS.same λM w O h=>⟨(),ad,h⟩) oM).cv ⟨U,U,U,U,U,U,U,ayS⟩ ⟨U,ayS⟩ U
  ·refine GF.yZ 1000 U (λ_=>oM) λad=>GF.pre (λa w q=>((q.D5 1001 U U).D5 1002 U U).D5 1003 U U) ?_
   repeat' (first
    | (show SG (.alloc _);first | refine iK 1000 U zR U U ayX λ_=>?_)
    | (show SG (.box _ _);first | refine tQ 1003 U U U U ayX (λ_=>?_) | refine xA 1003 U U U U ayX λ_=>?_)
    | (show SG (.build _ _);first | refine jr U zR lI U U U ?_)
    | (show SG (.call _);first | refine lC (ix:=()) 1001 U D2 cI U U U U ayX (λ_ _ _=>?_) | refine lC (ix:=()) 1002 U D2 cI U U U U ayX λ_ _ _=>?_)
    | refine qG ?_
    | refine qF ?_
    | refine rJ ?_
    | refine rG ?_ ?_
    | exact pq
    | intro _
    | (show GF _ _ _ _ _ _;first | exact s8 1000 _ U U VS.new1 (by((repeat(first | refine cH.tmp U ?_ | refine cH.own U U ?_ | refine cH.fH uU U U U U ?_ | refine cH.e6 uU iI U U U U U ?_));first | exact cH.nil | fail)) U | exact s8 1000 (_,_) U U VS.new2 (by((repeat(first | refine cH.tmp U ?_ | refine cH.own U U ?_ | refine cH.fH uU U U U U ?_ | refine cH.e6 uU iI U U U U U ?_));first | exact cH.nil | fail)) U | exact s8 1000 (_,_) U U VS.YG (by((repeat(first | refine cH.tmp U ?_ | refine cH.own U U ?_ | refine cH.fH uU U U U U ?_ | refine cH.e6 uU iI U U U U U ?_));first | exact cH.nil | fail)) U | exact s8 1000 _ U U (VS.newR ayZ U) (by((repeat(first | refine cH.tmp U ?_ | refine cH.own U U ?_ | refine cH.fH uU U U U U ?_ | refine cH.e6 uU iI U U U U U ?_));first | exact cH.nil | fail)) U))
   ·rename_i hn s0 _ s r0 _ r bb
    refine E9 (IntKind.wrap .i64<|u.1+1,_) _ λa w q=>?_;exact((((q.merge 1000 1001 U U U).merge 1000 1002 U U U).merge 1000 1003 U U U).vs 1000 U (ae8 (A:=⟨b,m,ad⟩) s r bb ⟨s0,r0,[]⟩ (by simpa using hn) U) oM).cv ⟨U,U,U,U,U,U,U,ayS⟩ ⟨U,ayS⟩ U
  ·exact s8 (res:=λ_(g:iA)=>.one<|.d<|.v<|.pointer<|some ⟨g.b,0,none⟩) (iz:=λr g=>mY g r) 1000 ⟨b,m,ad⟩ U U VS.id (cH.tmp U cH.nil) U
theorem KH{α β:Type}{f:α->Option β}:∀{l:List α}{ls:List β},l.mapM f=some ls->ls.length=l.length/\∀(i:Nat)(a:α),l[i]? =some a->∃b,f a=some b/\ls[i]? =some b
 | [],ls,h=>by simp at h;subst h;exact⟨U,λi a h=>ay4⟩
 | a::l,ls,h=>by
  simp only[List.mapM_cons,Option.bind_eq_bind,Option.pure_def,avQ]at h;obtain⟨b,hb,bs,hbs,h⟩:=h;cases h;obtain⟨q1,q2⟩:=KH hbs;refine⟨by simp[q1],λi a' hi=>?_⟩;cases i with
  | zero=>simp at hi;subst hi;exact⟨b,hb,U⟩
  | succ i=>exact q2 i a' ay8
theorem Pr{r:Bool}(h:ny n=some r){j:Nat}{e:(Int×Int)×eM}(hj:n[j]? =some e):∃l,bW e.2.snd=some l/\(l.isEmpty=false->r=false):=by
 obtain⟨ls,h1,h2⟩:=avQ.1 h;obtain⟨q1,q2⟩:=KH h1;obtain⟨l,h3,h4⟩:=q2 j e hj;refine⟨l,h3,λhl=>?_⟩;cases h2;refine List.all_eq_false.2 ⟨l,avH h4,azd⟩
theorem Pq{r:Bool}(h:ny n=some r)(ha:∀(j:Nat)(e:(Int×Int)×eM),n[j]? =some e->∀l,bW e.2.snd=some l->l.isEmpty=true):r=true:=by
 obtain⟨ls,h1,h2⟩:=avQ.1 h;obtain⟨q1,q2⟩:=KH h1;cases h2;refine avI.2 λl hl=>?_;obtain⟨i,hi,rfl⟩:=avO hl;have hn:n[i]? =some (n[i]' ayT):=by simp[show i<n.length by omega]
 obtain⟨l,h3,h4⟩:=q2 i _ hn;have:ls[i] =l:=by simpa[hi]using h4
 rw[this];exact ha i _ hn l h3
theorem VV(A:iA)(n:bU)(r:Bool)(hF:ny n=some r):fc prog (γ:=Unit) 106 (mY A n) (λ_=>mY A n) [bZ A.b] (λ_=>bH r):=by
 apply fc.iB func106 U ntmps106 U U oM hF λC0=>?_
 repeat' (first
  | refine qG ?_
  | refine qF ?_
  | refine rJ ?_
  | refine rG ?_ ?_
  | exact pq
  | intro _)
 refine abn 1000 uU U U mI hI U λnn=>?_
 repeat' (first
  | refine qG ?_
  | refine qF ?_
  | refine rJ ?_
  | refine rG ?_ ?_
  | exact pq
  | intro _)
 refine GF.alg (ι:={ d:List Nat // ∀j,j∈d->∀e,n[j]? =some e->∀l,bW e.2.snd=some l->l.isEmpty=true }) (λd=>⟨[(11,.one (pt nn 0))],[kO (Sep (Sep (eu A.b 114 [.v (.map<|some A.m)])<|Cb A.m nn (cm E6 Wn<|uw A n) d.1)<|L2 A n)]⟩) (λd=>ab8 n.length d.1) ⟨[],λ_ h=>azm⟩ (λa w q=>q.cv ⟨U,ayS⟩ ⟨U,ayS⟩ U) (λK d cW=>?_)
 repeat' (first
  | refine qG ?_
  | refine qF ?_
  | refine rJ ?_
  | refine rG ?_ ?_
  | exact pq
  | intro _)
 have hc0:∀d,VSC (Sep (Sep (eu A.b 114 [.v (.map<|some A.m)])<|Cb A.m nn (cm E6 Wn<|uw A n) d)<|L2 A n) (λ_:Unit=>mY A n):=λd=>⟨λM w O h1 h2 q=>by
  obtain⟨g,O',q1,q2⟩:=VS.Ti (b:=A.m) (n:=nn) (es:=cm E6 Wn<|uw A n) (done:=d) (A:=Sep (eu A.b 114 [.v (.map<|some A.m)])<|L2 A n) oM M w O h1 h2 (LA<|SA q);exact⟨g,O',q1,acM (LA q2)⟩⟩
 refine aes 1000 (λk=>.agg [.v (.int .i64 k.1),.v (.int .i64 k.2)]) (λk M w=>⟨_,U,U,λi g hi=>?_⟩) U U iT U (λhall=>?_) (λj e hj hd=>?_)
 ·match i with
  | 0=>simp at hi;subst hi;exact⟨_,U,RD.v _ U⟩
  | 1=>simp at hi;subst hi;exact⟨_,U,RD.v _ U⟩
  | i+2=>simp at hi
 ·refine GO.ak8 (F':=some true) (λh=>by rw[Pq h λj e hj l hl=>d.2 j (hall j (by have:=(avl.1 hj).1;simpa using this)) e hj l hl]) ?_
  repeat' (first
   | refine qG ?_
   | refine qF ?_
   | refine rJ ?_
   | refine rG ?_ ?_
   | exact pq
   | intro _)
 ·obtain⟨x,hx,rfl⟩:∃x:(Int×Int)×eM,n[j]? =some x/\e=(x.1,some (A.ad x.1).b):=by
   simp only[uw,avL,awd]at hj;obtain⟨x,h1,h2⟩:=hj;exact⟨x,h1,h2.symm⟩
  have hm:(n.map λe=>Cc (A.ad e.1) e.2)[j]? =some (Cc (A.ad x.1) x.2):=by simp[hx]
  have om:OM (Dr<|(n.map λe=>Cc (A.ad e.1) e.2).eraseIdx j):=⟨Sa λB hB=>by
   obtain⟨e,_,rfl⟩:=avT.1 (List.mem_of_mem_eraseIdx hB);exact oM⟩
  have hc1:∀d v,VSC (Sep (Sep (eu A.b 114 [.v (.map<|some A.m)])<|Cb A.m nn (cm E6 Wn<|uw A n) d)<|Sep (Ii (A.ad x.1) x.2 v)<|Dr<|(n.map λe=>Cc (A.ad e.1) e.2).eraseIdx j) (λ_:Unit=>mY A n):=λd v=>⟨λM w O h1 h2 q=>
   (hc0 d).h M w O h1 h2 (tj (λ_ _ _ z=>z) (λ_ _ _ z=>E0 hm (tj (λ_ _ _ z=>⟨v,z⟩) (λ_ _ _ z=>z) z)) q)⟩
  refine GO.vsS 1000 (B:=λv=>Sep (Sep (eu A.b 114 [.v (.map<|some A.m)])<|Cb A.m nn (cm E6 Wn<|uw A n)<|j::d.1)<|Sep (Ii (A.ad x.1) x.2 v)<|Dr<|(n.map λe=>Cc (A.ad e.1) e.2).eraseIdx j) (VS.same λM w O q=>by
   obtain⟨O1,O2,h1,h2,h3,h4⟩:=q;obtain⟨O3,O4,h5,h6,⟨v,h7⟩,h8⟩:=Hs hm h4;exact⟨v,O1,O2,h1,h2,h3,O3,O4,h5,h6,h7,h8⟩) (λ_=>oM) U λv=>?_
  refine GO.ak8 (F':=(bW x.2.snd).bind λl=>if decide ((0:Int)<l.length)then some false else ny n) (λh=>?_) ?_
  ·obtain⟨l,h1,h2⟩:=Pr h hx
   rw[h1];show(if decide ((0:Int)<l.length)=true then _ else _)=_;cases l with
   | nil=>exact h
   | cons a l=>rw[h2 U];simp
  repeat' (first
   | refine qG ?_
   | refine qF ?_
   | refine rJ ?_
   | refine rG ?_ ?_
   | exact pq
   | intro _)
  refine aa3 1000 (λk=>.agg [.v (.int .i64 k.1),.v (.int .i64 k.2)]) (λk M w=>⟨_,U,U,λi g hi=>?_⟩) U U iT (show(uw A n)[j]? =some (x.1,some (A.ad x.1).b) by simp[uw,hx]) U ?_
  ·match i with
   | 0=>simp at hi;subst hi;exact⟨_,U,RD.v _ U⟩
   | 1=>simp at hi;subst hi;exact⟨_,U,RD.v _ U⟩
   | i+2=>simp at hi
  repeat' (first
   | refine qG ?_
   | refine qF ?_
   | refine rJ ?_
   | refine rG ?_ ?_
   | exact pq
   | intro _)
  rename_i l hl hlt;refine cW ⟨j::d.1,λi hi e he l' hl'=>?_⟩ _ (ab9 (avl.1 hx).1 hd) λa w q=>?_
  ·rcases List.mem_cons.1 hi with rfl | hi
   ·rw[hx]at he;cases he
    rw[hl]at hl';cases hl';simpa using hlt
   ·exact d.2 i hi e he l' hl'
  ·exact(q.vs 1000 U (B:=Sep (Sep (eu A.b 114 [.v (.map<|some A.m)])<|Cb A.m nn (cm E6 Wn<|uw A n)<|j::d.1)<|L2 A n) (VS.same λM w O q=>⟨(),tj (λ_ _ _ z=>z) (λ_ _ _ z=>E0 hm<|tj (λ_ _ _ z=>⟨v,z⟩) (λ_ _ _ z=>z) z) q⟩) oM).cv ⟨U,ayS⟩ ⟨U,ayS⟩ U
instance(n:bU):tF prog (ny n) 106 (λA:iA=>mY A n) (λA=>[bZ A.b]) bH:=⟨λ_ r h=>VV _ n r h⟩
instance(n:Int):mU prog (DG n) 26 (λ_:Unit=>tH) (λ_(g:iA) r=>mY g r) (λ_=>[bV n]) (λg _=>.one (.d (.v (.pointer (some ⟨g.b,0,none⟩))))):=⟨λ_ r h=>ZK n r h,λ_ _ _=>oM,⟨⟨0,0,λ_=>⟨0,0,0⟩⟩⟩⟩
end Go.Ark
