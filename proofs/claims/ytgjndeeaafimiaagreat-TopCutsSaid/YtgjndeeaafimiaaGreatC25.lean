/- Machine, typed functions, plain laws and walks, part 25, for TopCuts. Conditions: none but those that stand in each law. -/
import Derived.Test.YtgjndeeaafimiaaGreatC24
set_option linter.all false
open Go.Proofs.Tryz
namespace Go.Ark
open Go Go.Ab Go.RowKit Go.Proofs
theorem OD(r:Bool)(hF:Aa=some r):Ct prog 5 [] (bH r):=by
 refine Ct.iB (R:=Bool) (res:=λr=>bH r) func5 U ntmps5 U U hF λC0=>?_;refine GF.pre (λa w q=>q.D5 1000 U U) ?_;unfold Aa
 repeat' (first
  | refine qG ?_
  | refine qF ?_
  | refine rJ ?_
  | refine rG ?_ ?_
  | exact pq
  | intro _)
instance:dW prog Aa 5 [] bH:=⟨OD⟩
abbrev L7(K:ot):List DV:=[.sl 1 (K.k0.map encS),.sl 1 (K.k1.map encS),.sl 1 (K.k2.map encS),.sl 1 (K.k3.map encS)]
abbrev aaC(l:List mH)(up:Bool)(A:dm)(i:Int):SL:=[(1,cP 12 vK l),(5,.one (bB up)),(6,.one (.ptr 106 0)),(7,.one (pt A.b 0)),(8,.one (.ptr 108 0)),(9,aV i)]
abbrev aaA(A:dm)(row:aF)(g:aD)(K:ot):HL:=[kO (eY A g),(106,some (.blk 29 (dat (bf row)))),(108,some (.blk 34 (dat (L7 K))))]
abbrev af6(s:adK)(k:Int):SL:=[(10,.one (.ptr 110 0)),(12,aV s.had),(13,.one (.ptr 113 0)),(15,cP 6 iJ s.h),(16,aV k)]
abbrev af5(s:adK):HL:=[(110,some (.blk 36 (dat (bQ s.o)))),(113,some (.blk 49 (dat (aU s.a))))]
variable{T bytes kk:Nat}{zz:Value}
section
variable{P:Program}{nt:Nat}{R:Type}{C0:Cx P nt}{Q:R->Exit->Act->World->Prop}{r:R}{F:Option R}{m:Ab.Mode}{k:List KI}{ops:Array Oper}{rest:List Oper}{sl:SL}{hp:HL}{dst:Nat}{ty:TypeId}{pos:String}{af:Array Edge}{gd:Option (Nat×Bool)}{x y:Operand}
theorem abd{E n size:Nat}{kd:IntKind}{i:Int}(hg:bD ops sl gd=true)(hT:P.underlying T=some (.array n E))(hI:Info P E zz size bytes)(hx:aN sl x=some (.ptr kk 0))(hy:aN sl y=some (bI kd i))(hi:(decide (0<=i)&&decide (i<n))=true)(hd:Nat.blt dst nt=true)
  (hk:GO C0 Q r F (m.add<|X2 ops gd x (.ptr kk 0) y (bI kd i) dst<|.one<|.ptr kk<|i.toNat*size) ops rest k ⟨(dst,.one (.ptr kk<|i.toNat*size))::sl,hp⟩):GO C0 Q r F m ops (Oo dst (.indexAddr T x y) ty pos af gd::rest) k ⟨sl,hp⟩:=
 f2 hg (λ_ _ _ e e'=>by
  simp only[avA,awe]at hi;exact NP hT hI hi.1 hi.2 e e' hd) hx hy U hk
end
section
variable{P:Program}{nt:Nat}{R:Type}{C0:Cx P nt}{Q:R->Exit->Act->World->Prop}{r:R}{F:Option R}{m:Ab.Mode}{k:List KI}{ops:Array Oper}{rest:List Oper}{sl:SL}{hp:HL}{dst:Nat}{ty:TypeId}{pos:String}{af:Array Edge}{gd:Option (Nat×Bool)}{x y:Operand}
abbrev kC(K:ot)(c:Int):BV:=.g (.d (.sl 1 ((I9 K c.toNat).map encS)))
theorem Wi{K:ot}{c:Int}{t:Nat}{d:TypeDesc}(h:(decide (0<=c)&&decide (c<4))=true)(hg:bD ops sl gd=true)(hU:P.underlying t=some d)(hA:qJ d=false)(hx:aN sl x=some (.ptr kk (c.toNat*1)))(hh:aE hp kk=some (.blk T (dat (L7 K))))(hd:Nat.blt dst nt=true)
  (hk:GO C0 Q r F (m.add ⟨gH ops gd++ey x (.ptr kk<|c.toNat*1),[(kk,some (.blk T<|dat<|L7 K))],[(dst,.one (kC K c))],[]⟩) ops rest k ⟨(dst,.one (kC K c))::sl,hp⟩):GO C0 Q r F m ops (Oo dst (.load t x) ty pos af gd::rest) k ⟨sl,hp⟩:=
 OU (c:=kC K c) hg hU hA hx hh aAy U hd hk
theorem Rc{E size:Nat}{kd:IntKind}{i:Int}(h:(decide (0<=i)&&decide (i<4))=true)(hg:bD ops sl gd=true)(hT:P.underlying T=some (.array 4 E))(hI:Info P E zz size bytes)(hx:aN sl x=some (.ptr kk 0))(hy:aN sl y=some (bI kd i))(hd:Nat.blt dst nt=true)
  (hk:GO C0 Q r F (m.add<|X2 ops gd x (.ptr kk 0) y (bI kd i) dst<|.one<|.ptr kk<|i.toNat*size) ops rest k ⟨(dst,.one (.ptr kk<|i.toNat*size))::sl,hp⟩):GO C0 Q r F m ops (Oo dst (.indexAddr T x y) ty pos af gd::rest) k ⟨sl,hp⟩:=abd hg hT hI hx hy azi hd hk
theorem Rq{K:ot}{c:Int}{l:List ByteArray}{S:Nat}(h:(decide (0<=c)&&decide (c<4))=true)(hg:bD ops sl gd=true)(hI:Info P S zz 1 bytes)(hx:aN sl x=some (.ptr kk (c.toNat*1)))(hy:aN sl y=some (.g (.d (.sl 1 (l.map encS)))))(hh:aE hp kk=some (.blk T (dat (L7 K))))
  (hk:GO C0 Q r F (m.add ⟨gH ops gd++(ey x (.ptr kk<|c.toNat*1)++ey y (.g<|.d<|.sl 1<|l.map encS)),[(kk,some (.blk T<|dat<|L7 K))],[],[(kk,some (.blk T<|dat<|L7<|acN K l c.toNat))]⟩) ops rest k ⟨sl,(kk,some (.blk T<|dat<|L7<|acN K l c.toNat))::hp⟩):GO C0 Q r F m ops (⟨none,.store S x y,ty,pos,af,gd⟩::rest) k ⟨sl,hp⟩:=by
 have e:Da (dat<|L7 K) (c.toNat*1) [.g (.d<|.sl 1<|l.map encS)] =dat (L7<|acN K l c.toNat):=by rcases Kz h with rfl | rfl | rfl | rfl<;>rfl
 rw[<-e]at hk;exact Rp hg hI hx hy ayS hh aAy
  (by rw[e];rfl)
  hk
end
set_option maxHeartbeats 4000000 in
theorem J3(q:lf)(l:List mH)(r:Bool)(hF:xS q l=some r):Ct prog 3 [.g (.agg (Cw q)),bt 12 vK l] (bH r):=by
 refine Ct.iB (R:=Bool) (res:=λr=>bH r) func3 U ntmps3 U U hF λC0=>?_;refine GF.pre (λa w q=>q.D5 1000 U U) ?_;unfold xS
 repeat' (first
  | (show SG (.indexAddr _ _ _);first | refine Rc ay6 U uU iI U U U ?_)
  | (show SG (.load _ _);first | refine Wi ay6 U uU U U U U ?_)
  | (show SG (.store _ _ _);first | refine Rq ay6 U iI U U U ?_)
  | refine qG ?_
  | refine qF ?_
  | refine rJ ?_
  | refine rG ?_ ?_
  | exact pq
  | intro _)
 rename_i up _ row _ g _ A hv;have:=λs kx=>(⟨ayS⟩:bT (OJ s kx) (λk=>⟨af6 s k++aaC l up A s.i,aaA A row s.g s.K++af5 s⟩));have:=λs k read kx=>(⟨ayS⟩:bT (Jq s k read kx) (λv=>⟨(17,.one (.ptr 117 0))::(18,aV v)::(af6 s k++aaC l up A s.i),aaA A row s.g s.K++(117,some (.blk 53<|dat<|aB read))::af5 s⟩));refine GF.aR (λv:Int×aD×ot=>⟨aaC l up A v.1,aaA A row v.2.1 v.2.2⟩) (λa w q=>?_) (λK again v cW=>?_)
 ·exact(q.vs 1000 U (B:=eY A g) VS.yZ oM).cv (by repeat(first | exact ayS | refine⟨U,?_⟩)) (by repeat(first | exact ayS | refine⟨U,?_⟩)) U
 obtain⟨i,g,K⟩:=v
 repeat' (first
  | (show SG (.indexAddr _ _ _);first | refine Rc ay6 U uU iI U U U ?_)
  | (show SG (.load _ _);first | refine Wi ay6 U uU U U U U ?_)
  | (show SG (.store _ _ _);first | refine Rq ay6 U iI U U U ?_)
  | refine qG ?_
  | refine qF ?_
  | refine rJ ?_
  | refine rG ?_ ?_
  | exact pq
  | intro _)
end Go.Ark
