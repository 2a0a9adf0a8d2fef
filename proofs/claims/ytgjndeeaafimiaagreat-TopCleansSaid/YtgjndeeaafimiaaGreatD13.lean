/- Machine, typed functions, plain laws and walks, part 13, for TopCleans. Conditions: none but those that stand in each law. -/
import Derived.Test.YtgjndeeaafimiaaGreatD12
set_option linter.all false
open Go.Proofs.Tryz
namespace Go.Ark
open Go Go.Ab Go.RowKit Go.Lib Go.Proofs
set_option maxRecDepth 20000
set_option maxHeartbeats 2000000
set_option maxRecDepth 100000
theorem L4(eZ:mH)(cR:Int)(r:aI)(hF:rM eZ cR=some r):Ct prog 8 [.g (.agg (vK eZ)),bV cR] (.one (.agg (bQ r))):=by
 unfold rM at hF;refine Ct.intro func8 U ntmps8 U U λM w=>?_;refine sr<|q11 (PF (k:=1002) ev U) U U<|q01 (Gq (k:=1004) (cs:=[bI .i64 0,bI .i64 0,bI .i64 0,bI .i64 0,bI .i64 0,bI .i64 0,bS ByteArray.empty,bS ByteArray.empty,.g (.d<|.sl 1<|List.map encS ([]:(List ByteArray))),.g (.d<|.sl 2<|List.map az ([]:(List au))),.g (.d<|.sl 1<|List.map ay ([]:(List Int))),.g (.d<|.sl 1<|List.map ay ([]:(List Int)))]) Ql ⟨.v _ U,.v _ U,.v _ U,.v _ U,.v _ U,.v _ U,.v _ U,.v _ U,.n 1,.n 2,.n 1,.n 1,ayS⟩ U) U<|Te<|xx (gK (off':=0) uU U xR ayZ U ev U) U<|QF (jx uU U U ev U) U U<|?_;refine xx (gK (off':=1) uU U xR ayZ U ev U) U<|QF (jx uU U U ev U) U U<|xx (gK (off':=2) uU U xR ayZ U ev U) U<|QF (jx uU U U ev U) U U<|xx (gK (off':=3) uU U xR ayZ U ev U) U<|QF (jx uU U U ev U) U U<|?_;refine xx (gK (off':=4) uU U xR ayZ U ev U) U<|QF (jx uU U U ev U) U U<|xx (gK (off':=5) uU U xR ayZ U ev U) U<|QF (jx uU U U ev U) U U<|xx (gK (off':=6) uU U xR ayZ U ev U) U<|QF (jx uU U U ev U) U U<|?_;refine xx (gK (off':=7) uU U xR ayZ U ev U) U<|QF (jx uU U U ev U) U U<|xx (gK (off':=8) uU U Ic ayZ U ev U) U<|QF (jx uU U U ev U) U U<|xx (gK (off':=9) uU U Zo ayZ U ev U) U<|QF (oR (ds:=[.sl 1 (List.map ay eZ.Row.Ends),.sl 1 (List.map ay eZ.Row.cq),.sl 1 (List.map ay eZ.Row.aK)]) uU U Zo U ev U) U U<|?_;refine G.op1 (Sc (zs:=[.v (.int .i64 0),.v (.int .i64 0),.v (.int .i64 0),.v (.int .i64 0),.v (.int .i64 0),.v (.int .i64 0),.v (.int .i64 0),.v (.int .i64 0),.sl 1 (List.map ay ([]:(List Int))),.sl 1 (List.map ay ([]:(List Int))),.sl 1 (List.map ay ([]:(List Int))),.sl 1 (List.map ay ([]:(List Int)))]) (ds:=[.v (.int .i64 eZ.Kind),.v (.int .i64 eZ.Client),.v (.int .i64 eZ.Site),.v (.int .i64 eZ.To),.v (.int .i64 eZ.At),.v (.int .i64 eZ.How),.v (.int .i64 eZ.Key),.v (.int .i64 eZ.Value),.sl 1 (List.map ay eZ.Keys),.sl 1 (List.map ay eZ.Row.Ends),.sl 1 (List.map ay eZ.Row.cq),.sl 1 (List.map ay eZ.Row.aK)]) uU afE (aph _ uU) ⟨.v _ U,.v _ U,.v _ U,.v _ U,.v _ U,.v _ U,.v _ U,.v _ U,.n 1,.n 1,.n 1,.n 1,ayS⟩ (.cons ev<|.cons ev<|.cons ev<|.cons ev<|.cons ev<|.cons ev<|.cons ev<|.cons ev<|.cons ev<|.cons ev .nil) ayX U) U z10 ayS ?_;refine q01 (Gq (k:=1005) (cs:=[bI .i64 0,bI .i64 0,bI .i64 0,bI .i64 0,bI .i64 0,bI .i64 0,bI .i64 0,bI .i64 0,.g (.d<|.sl 1<|List.map ay ([]:(List Int))),.g (.d<|.sl 1<|List.map ay ([]:(List Int))),.g (.d<|.sl 1<|List.map ay ([]:(List Int))),.g (.d<|.sl 1<|List.map ay ([]:(List Int)))]) afE ⟨.v _ U,.v _ U,.v _ U,.v _ U,.v _ U,.v _ U,.v _ U,.v _ U,.n 1,.n 1,.n 1,.n 1,ayS⟩ U) U<|w21 (AP afE U ev ev) U U U<|Te<|QF (oR (ds:=[.v (.int .i64 eZ.Kind),.v (.int .i64 eZ.Client),.v (.int .i64 eZ.Site),.v (.int .i64 eZ.To),.v (.int .i64 eZ.At),.v (.int .i64 eZ.How),.v (.int .i64 eZ.Key),.v (.int .i64 eZ.Value),.sl 1 (List.map ay eZ.Keys),.sl 1 (List.map ay eZ.Row.Ends),.sl 1 (List.map ay eZ.Row.cq),.sl 1 (List.map ay eZ.Row.aK)]) uU U afE U ev U) U U<|mv U U<|bn hF λr1 Mf hF=>?_;refine PT (WT am5 (tI _ Mf) U (.cons ev<|.cons ev .nil) U) U U<|w21 (AP Ql U ev ev) U U U<|eO<|?_;have hF:=aww hF;subst hF;exact G.MA results8 (sD.e6 (ds:=[.v (.int .i64 r1.Kind),.v (.int .i64 r1.Client),.v (.int .i64 r1.Site),.v (.int .i64 r1.To),.v (.int .i64 r1.At),.v (.int .i64 r1.How),.v (.string r1.Key),.v (.string r1.Value),.sl 1 (List.map encS r1.Keys),.sl 2 (List.map az r1.Row.bP),.sl 1 (List.map ay r1.Row.cq),.sl 1 (List.map ay r1.Row.aK)]) uU U Ql U) z1 z1
instance(eZ:mH)(cR:Int):dW prog (rM eZ cR) 8 [.g (.agg (vK eZ)),bV cR] (λr=>.one (.agg (bQ r))):=⟨L4 eZ cR⟩
set_option maxHeartbeats 4000000 in
instance(bC:(List aa))(s_1:ai):dW prog (adz bC s_1) 36 [bt 6 aj bC,.g (.agg (aB s_1))] (λr=>.eV [.agg (aj r.1),.d (.v (.bool r.2))]):=fV func36 U ntmps36 U U λr C0=>by
 have:bT (adg bC s_1) (λ(v3:Int)=>⟨[(0,cP 6 aj bC),(3,.one (.ptr 103 0)),(4,.one (.ptr 104 0)),(6,aV v3)],[(103,some (.blk 53 [bI .i64 s_1.N,bI .i64 s_1.Site])),(104,some (.blk 73 [bS ByteArray.empty,bS ByteArray.empty,bB false,bI .i64 0,bI .i64 0,.g (.d<|.sl 3<|List.map ak ([]:(List ah)))]))]⟩):=⟨ayS⟩;unfold adz;exact jm
instance(dS:(List ah))(q_1:(List ah)):dW prog (kC dS q_1) 18 [bt 3 ak dS,bt 3 ak q_1] bH:=fV func18 U ntmps18 U U λr C0=>by
 have:bT (adh dS q_1) (λ(v4:Int)=>⟨[(0,cP 3 ak dS),(1,cP 3 ak q_1),(5,aV v4)],[]⟩):=⟨ayS⟩;unfold kC;exact jm
set_option maxHeartbeats 4000000 in
instance(eZ:aa)(b_1:aa):dW prog (ada eZ b_1) 64 [.g (.agg (aj eZ)),.g (.agg (aj b_1))] bH:=fV func64 U ntmps64 U U λr C0=>by
 unfold ada;exact jm
instance(eZ:(List aa))(b_1:(List aa)):dW prog (adb eZ b_1) 38 [bt 6 aj eZ,bt 6 aj b_1] bH:=fV func38 U ntmps38 U U λr C0=>by
 have:bT (abw eZ b_1) (λ(v4:Int)=>⟨[(0,cP 6 aj eZ),(1,cP 6 aj b_1),(5,aV v4)],[]⟩):=⟨ayS⟩;unfold adb;exact jm
instance(eZ:aA)(b_1:aA):dW prog (ade eZ b_1) 17 [.g (.agg (aU eZ)),.g (.agg (aU b_1))] bH:=fV func17 U ntmps17 U U λr C0=>by
 unfold ade;exact jm
set_option maxHeartbeats 4000000 in
instance(eZ:(List cZ))(b_1:(List cZ)):dW prog (abv eZ b_1) 20 [bt 6 iJ eZ,bt 6 iJ b_1] bH:=fV func20 U ntmps20 U U λr C0=>by
 have:bT (ac6 eZ b_1) (λ(v4:Int)=>⟨[(0,cP 6 iJ eZ),(1,cP 6 iJ b_1),(5,aV v4)],[]⟩):=⟨ayS⟩;unfold abv;exact jm
end Go.Ark
namespace Go.Ark
open Go Go.Ab Go.RowKit Go.Proofs
theorem GO.eq{P:Program}{nt:Nat}{R:Type}{C0:Cx P nt}{Q:R->Exit->Act->World->Prop}{r:R}{F F':Option R}{m:Ab.Mode}{k:List KI}{ops:Array Oper}{rest:List Oper}{st:St}(e:F=F')(h:GO C0 Q r F' m ops rest k st):GO C0 Q r F m ops rest k st:=e ▸ h
instance:EZ prog 61 [.v (.slice none 0 0)]:=⟨_,_,_,ac0,⟨.v _ U,ayS⟩,U⟩
instance:EZ prog 22 [.v (.slice none 0 0)]:=⟨_,_,_,Ic,⟨.v _ U,ayS⟩,U⟩
instance:EZ prog 204 [.v .nilFunc]:=⟨_,_,_,SS,⟨.v _ U,ayS⟩,U⟩
instance:EZ prog 307 [.v .nilFunc]:=⟨_,_,_,SX,⟨.v _ U,ayS⟩,U⟩
abbrev mV:Bool->DV:=λb=>.v (.bool b)
structure I1 where
 b5:Nat
 bs:Nat
 b6:Nat
 b2:Nat
 b7:Nat
abbrev JR(B:I1):Value:=.func (.func 115) #[] #[.pointer (some ⟨B.b5,0,none⟩),.pointer (some ⟨B.b6,0,none⟩),.pointer (some ⟨B.b2,0,none⟩),.pointer (some ⟨B.b7,0,none⟩)]
abbrev ajO(B:I1)(p:List Int)(s:List Bool×List Int)(vo:Value):OP:=Sep (eu B.b5 61 [.v (.slice (some ⟨B.bs,0,none⟩) p.length p.length)]) (Sep (eu B.bs 4 (s.1.map mV)) (Sep (eu B.b6 22 [.v vo]) (Sep (Row vo 3 1 (s.2.map ay)) (Sep (eu B.b2 22 [.sl 1 (p.map ay)]) (eu B.b7 204 [.v (JR B)])))))
abbrev Ob(B:I1)(p:List Int)(s:List Bool×List Int):OP:=qA λvo=>ajO B p s vo
abbrev Ot(B:I1)(a:Int):List RG:=[.g (.d (.v (.int .i64 a))),AY (.pointer (some ⟨B.b5,0,none⟩)),AY (.pointer (some ⟨B.b6,0,none⟩)),AY (.pointer (some ⟨B.b2,0,none⟩)),AY (.pointer (some ⟨B.b7,0,none⟩))]
theorem VP(n:Nat)(p:List Int):∀(B:I1)(a:Int)(s:List Bool×List Int)(r:Unit×(List Bool×List Int))(_:sG n p a s=some r),fc prog (γ:=Unit) 115 (Ob B p s) (λ_=>Ob B p r.2) (Ot B a) (λ_=>.eV []):=by
 induction n with
 | zero=>intro B a s r hF;cases hF
 | succ n ih=>
  intro B a s r hF;have:∀a s,mU prog (sG n p a s) 115 (λB:I1=>Ob B p s) (λ(B:I1)(_:Unit)(r:Unit×(List Bool×List Int))=>Ob B p r.2) (λB=>Ot B a) (λ_ _=>.eV []):=λa s=>⟨λB r h=>ih B a s r h,λ_ _ _=>oM,⟨()⟩⟩;apply fc.iB func115 U ntmps115 U U oM hF λC0=>?_;have:bT (V5 (sG n p) p a) (λv=>⟨[(0,aV a),(1,.one (pt B.b5 0)),(2,.one (pt B.b6 0)),(3,.one (pt B.b2 0)),(4,.one (pt B.b7 0)),(15,cP 1 ay p),(16,aV p.length),(17,aV v.1)],[kO (Ob B p v.2)]⟩):=⟨ayS⟩;refine GF.yZ 1000 U (λ_=>oM) λvo=>?_;unfold sG
  repeat' (first
   | (show SG (.indexAddr _ _ _);first | refine sM U uU iI U U ay2 U ?_)
   | (show SG (.load _ _);first | refine sN 1000 (e:=mV) U uU U U U Jo U U λ_ _=>?_)
   | (show SG (.store _ _ _);first | refine oD 1000 (e:=mV) U iI U U Jo U ay2 U ?_)
   | (show SG (.call ⟨.value<|.tmp _,_,_⟩);first | refine pN 1000 U D2 cI U U U U U (λ_ _=>oM) U ayX λ_ _ _=>?_)
   | refine qG ?_
   | refine qF ?_
   | refine rJ ?_
   | refine rG ?_ ?_
   | exact pq
   | intro _)
instance(n:Nat)(p:List Int)(a:Int)(s:List Bool×List Int):mU prog (sG n p a s) 115 (λB:I1=>Ob B p s) (λ(B:I1)(_:Unit)(r:Unit×(List Bool×List Int))=>Ob B p r.2) (λB=>Ot B a) (λ_ _=>.eV []):=⟨λB r h=>VP n p B a s r h,λ_ _ _=>oM,⟨()⟩⟩
def G2(_B:I1)(_p:List Int)(s:List Bool×List Int):Option (List Int):=some s.2
theorem ahd(B:I1)(p:List Int)(s:List Bool×List Int):EX (G2 B p s) ⟨[(6,.one (pt B.b6 0))],[kO (Ob B p s)]⟩ ⟨[(6,.one (pt B.b6 0))],[kO (eu B.b6 22 [.sl 1 (s.2.map ay)])]⟩:=⟨λC0 a w q=>by
 obtain⟨vo,q1⟩:=q.yZ 1000 U (λ_=>oM);refine(q1.vs 1000 U (B:=eu B.b6 22 [.sl 1 (s.2.map ay)]) ?_ oM).cv ⟨U,ayS⟩ ⟨U,ayS⟩ U
 refine VS.trans (B:=Sep (Sep (Sep (eu B.b5 61 [.v (.slice (some ⟨B.bs,0,none⟩) p.length p.length)])<|Sep (eu B.bs 4<|s.1.map mV)<|Sep (eu B.b2 22 [.sl 1 (p.map ay)])<|eu B.b7 204 [.v (JR B)])<|eu B.b6 22 [.v vo])<|Row vo 3 1<|s.2.map ay) (VS.eq ?_) (VS.trans (VS.frz (cs':=[.sl 1 (s.2.map ay)]) oM U (λj d h=>by
  cases j with
  | zero=>simp at h;subst h;exact .inr ⟨U,U⟩
  | succ j=>simp at h)) (VS.trans (VS.eq (Qb _ _)) (VS.drop oM)))
 unfold ajO;generalize Row vo 3 1 (s.2.map ay)=X1
 ac_rfl⟩
theorem TT(A:OP):Sep tH A=A:=funext λM=>funext λw=>funext λO=>propext ⟨λ⟨O1,O2,h1,_,h3,h4⟩=>by
 have:O=O2:=funext λb=>propext ((h1 b).trans ⟨λc=>c.elim (λc=>(h3 b c).elim) id,.inr⟩);rw[this];exact h4,λh=>⟨λ_=>False,O,λb=>⟨.inr,λc=>c.elim False.elim id⟩,λ_ c=>c.elim,λ_ c=>c,h⟩⟩
theorem L5(p:List Int)(a:Int)(r:List Int)(hF:Bq p a=some r):Ct prog 67 [bt 1 ay p,bV a] (fu 1 ay r):=by
 refine Ct.iB (R:=List Int) (res:=λr=>fu 1 ay r) func67 U ntmps67 U U hF λC0=>?_;refine GF.pre (λa w q=>q.D5 1000 U U) ?_;unfold Bq
 repeat' (first
  | (show SG (.indexAddr _ _ _);first | refine sM U uU iI U U ay2 U ?_)
  | (show SG (.load _ _);first | refine sN 1000 (e:=mV) U uU U U U Jo U U λ_ _=>?_)
  | (show SG (.store _ _ _);first | refine oD 1000 (e:=mV) U iI U U Jo U ay2 U ?_)
  | (show SG (.call ⟨.value<|.tmp _,_,_⟩);first | refine pN 1000 U D2 cI U U U U U (λ_ _=>oM) U ayX λ_ _ _=>?_)
  | (show SG (.alloc _);first | refine iK 1000 U zR U U ayX λ_=>?_)
  | (show SG (.box _ _);first | refine Kf U U U U ?_ | refine xA 1000 U U U U ayX λ_=>?_)
  | (show SG (.makeSlice _ _ _);first | refine ux 1000 U uU iI U U U ay2 U U ayX λ_=>?_)
  | refine qG ?_
  | refine qF ?_
  | refine rJ ?_
  | refine rG ?_ ?_
  | exact pq
  | intro _)
 rename_i b2 _ bs b5 b6 b7;refine GO.vsS 1000 (B:=λ_:Unit=>Ob ⟨b5,bs,b6,b2,b7⟩ p (List.replicate p.length false,[])) ?_ (λ_=>oM) U (λ_=>?_)
 ·refine VS.same λM w O q=>⟨(),.slice none 0 0,?_⟩
  have q1:=Lx (T:=3) (size:=1) ayZ q;have h4:List.replicate p.length (DV.v<|.bool false)=(List.replicate p.length false).map mV:=by simp
  have q2:Sep (Sep (Sep (Sep (Sep (Sep tH<|eu b2 22 [.sl 1 (p.map ay)])<|eu bs 4<|List.replicate p.length<|DV.v<|.bool false)<|eu b5 61 [.v (.slice (some ⟨bs,0,none⟩) p.length p.length)])<|eu b6 22 [.v (.slice none 0 0)])<|eu b7 204 [.v (JR ⟨b5,bs,b6,b2,b7⟩)]) (Row (.slice none 0 0) 3 1 []) M w O:=q1;rw[h4,TT]at q2;refine cast ?_ q2;show Sep (Sep (Sep (Sep (Sep (eu b2 22 [.sl 1 (p.map ay)])<|eu bs 4<|(List.replicate p.length false).map mV)<|eu b5 61 [.v (.slice (some ⟨bs,0,none⟩) p.length p.length)])<|eu b6 22 [.v (.slice none 0 0)])<|eu b7 204 [.v (JR ⟨b5,bs,b6,b2,b7⟩)]) (Row (.slice none 0 0) 3 1 []) M w O=Sep (eu b5 61 [.v (.slice (some ⟨bs,0,none⟩) p.length p.length)]) (Sep (eu bs 4<|(List.replicate p.length false).map mV)<|Sep (eu b6 22 [.v (.slice none 0 0)])<|Sep (Row (.slice none 0 0) 3 1 [])<|Sep (eu b2 22 [.sl 1 (p.map ay)])<|eu b7 204 [.v (JR ⟨b5,bs,b6,b2,b7⟩)]) M w O;generalize eu b2 22 [.sl 1 (p.map ay)] =X1;generalize eu bs 4 ((List.replicate p.length false).map mV)=X2;generalize eu b7 204 _=X3;generalize eu b5 61 _=X4;generalize eu b6 22 _=X5;generalize Row (.slice none 0 0) 3 1 [] =X6;refine congrFun (congrFun (congrFun ?_ M) w) O
  ac_rfl
 refine GO.eq (F':=(sG 8 p a (List.replicate p.length false,[])).bind λu=>G2 ⟨b5,bs,b6,b2,b7⟩ p u.2) U ?_;have:=λs=>ahd ⟨b5,bs,b6,b2,b7⟩ p s;refine F7 (ix:=(⟨b5,bs,b6,b2,b7⟩:I1)) 1000 U D2 cI U U U U hI U ayX (λ_ _ _=>?_)
 repeat' (first
  | (show SG (.indexAddr _ _ _);first | refine sM U uU iI U U ay2 U ?_)
  | (show SG (.load _ _);first | refine sN 1000 (e:=mV) U uU U U U Jo U U λ_ _=>?_)
  | (show SG (.store _ _ _);first | refine oD 1000 (e:=mV) U iI U U Jo U ay2 U ?_)
  | (show SG (.call ⟨.value<|.tmp _,_,_⟩);first | refine pN 1000 U D2 cI U U U U U (λ_ _=>oM) U ayX λ_ _ _=>?_)
  | (show SG (.alloc _);first | refine iK 1000 U zR U U ayX λ_=>?_)
  | (show SG (.box _ _);first | refine Kf U U U U ?_ | refine xA 1000 U U U U ayX λ_=>?_)
  | (show SG (.makeSlice _ _ _);first | refine ux 1000 U uU iI U U U ay2 U U ayX λ_=>?_)
  | refine qG ?_
  | refine qF ?_
  | refine rJ ?_
  | refine rG ?_ ?_
  | exact pq
  | intro _)
instance(p:List Int)(a:Int):dW prog (Bq p a) 67 [bt 1 ay p,bV a] (λr=>fu 1 ay r):=⟨L5 p a⟩
open Go.Lib
set_option maxRecDepth 20000
set_option maxHeartbeats 2000000
set_option maxRecDepth 100000
set_option maxHeartbeats 4000000 in
instance(dS:(List Int)):dW prog (xh dS) 42 [bt 1 ay dS] bH:=fV func42 U ntmps42 U U λr C0=>by
 have:bT (EW dS) (λ(v8:Int×Int)=>⟨[(0,cP 1 ay dS),(3,aV v8.1),(14,cP 1 ay dS),(15,aV (dS.length:Int)),(16,aV v8.2)],[]⟩):=⟨ayS⟩;unfold xh;exact M4
instance(gM:aF):dW prog (jK gM) 23 [.g (.agg (bf gM))] bH:=fV func23 U ntmps23 U U λr C0=>by
 unfold jK;exact jm
instance(dS:(List Int))(l_1:(List Int)):dW prog (Br dS l_1) 184 [bt 1 ay dS,bt 1 ay l_1] bH:=fV func184 U ntmps184 U U λr C0=>by
 unfold Br;exact jm
theorem OE(p:List Int)(a:Int)(r:_)(hF:vu p a=some r):Ct prog 120 [bt 1 ay p,bV a] (.new 3 1 (List.map ay r)):=by
 refine Ct.iB (res:=λr=>.new 3 1<|List.map ay r) func120 U ntmps120 U U hF λC0=>?_;have:bT (G1 p a) (λ(v5:Int×(List Int))=>⟨[(0,cP 1 ay p),(1,aV a),(5,.one (.own 105<|List.map ay v5.2)),(13,aV (p.length:Int)),(14,aV v5.1)],[(105,some (.row 3 1 (List.map ay v5.2) true))]⟩):=⟨ayS⟩;unfold vu;exact wkM
instance(p:List Int)(a:Int):CtN prog (vu p a) 120 [bt 1 ay p,bV a] 3 1 (λr=>List.map ay r):=⟨OE p a⟩
set_option maxHeartbeats 4000000 in
instance(ug:aF)(uf:aF):dW prog (fW ug uf) 103 [.g (.agg (bf ug)),.g (.agg (bf uf))] bH:=fV func103 U ntmps103 U U λr C0=>by
 unfold fW;exact jm
end Go.Ark
namespace Go.Ark
open Go Go.Ab Go.RowKit Go.Proofs
structure Ie where
 b5:Nat
 b3:Nat
 b7:Nat
abbrev alJ:Ih->RS
 | none=>.one (.d<|.v<|.slice none 0 0)
 | some q=>.one (.d<|.sl 1<|ay q.1::q.2.map ay)
abbrev Jz(B:Ie):Value:=.func (.func 237) #[] #[.pointer (some ⟨B.b5,0,none⟩),.pointer (some ⟨B.b3,0,none⟩),.pointer (some ⟨B.b7,0,none⟩)]
abbrev Ig(B:Ie)(p:List Int)(b:Int):OP:=Sep (eu B.b5 3 [.v (.int .i64 b)]) (Sep (eu B.b3 22 [.sl 1 (p.map ay)]) (eu B.b7 307 [.v (Jz B)]))
abbrev Gv(B:Ie)(at_ from_:Int):List RG:=[.g (.d (.v (.int .i64 at_))),.g (.d (.v (.int .i64 from_))),AY (.pointer (some ⟨B.b5,0,none⟩)),AY (.pointer (some ⟨B.b3,0,none⟩)),AY (.pointer (some ⟨B.b7,0,none⟩))]
theorem N9(n:Nat)(p:List Int)(b:Int):∀(B:Ie)(at_ from_:Int)(r:Ih)(_:uD n p b at_ from_=some r),fc prog (γ:=Unit) 237 (Ig B p b) (λ_=>Ig B p b) (Gv B at_ from_) (λ_=>alJ r):=by
 induction n with
 | zero=>intro B at_ from_ r hF;cases hF
 | succ n ih=>
  intro B at_ from_ r hF;have:∀x y,tF prog (uD n p b x y) 237 (λB:Ie=>Ig B p b) (λB=>Gv B x y) (λr=>alJ r):=λx y=>⟨λB r h=>ih B x y r h⟩;apply fc.iB func237 U ntmps237 U U oM hF λC0=>?_;have:bT (acA (uD n p b) p at_ from_) (λv=>⟨[(0,aV at_),(1,aV from_),(2,.one (pt B.b5 0)),(3,.one (pt B.b3 0)),(4,.one (pt B.b7 0)),(15,cP 1 ay p),(16,aV p.length),(17,aV v)],[kO (Ig B p b)]⟩):=⟨ayS⟩;unfold uD
  repeat' (first
   | (show SG (.assign _);first | refine Iy U U ?_)
   | (show SG (.binOp .neq _ _ _ _);first | refine Rl U uU U U ?_ | refine Rm U uU U U ?_)
   | (show SG (.indexAddr _ _ _);first | refine sM U uU iI U U ay2 U ?_)
   | (show SG (.load _ _);first | refine sN 1000 (e:=mV) U uU U U U Jo U U λ_ _=>?_)
   | (show SG (.store _ _ _);first | refine oD 1000 (e:=mV) U iI U U Jo U ay2 U ?_)
   | (show SG (.call ⟨.value<|.tmp _,_,_⟩);first | refine pN 1000 U D2 cI U U U U U (λ_ _=>oM) U ayX λ_ _ _=>?_)
   | refine qG ?_
   | refine qF ?_
   | refine rJ ?_
   | refine rG ?_ ?_
   | exact pq
   | intro _)
  rename_i u _;cases u
  all_goals try refine GO.eq (F':=(app 8 [at_]<|_::_).bind λ_=>some<|some (at_,_::_)) U ?_
  repeat' (first
   | (show SG (.assign _);first | refine Iy U U ?_)
   | (show SG (.binOp .neq _ _ _ _);first | refine Rl U uU U U ?_ | refine Rm U uU U U ?_)
   | (show SG (.buildSlice _ _ _);first | refine Mb U uU iI U U U U U U U U U ?_)
   | (show SG (.call ⟨.builtin _,_,_⟩);first | refine Nj (e:=ay) U uU iI U U U U U U U ?_)
   | (show SG (.indexAddr _ _ _);first | refine sM U uU iI U U ay2 U ?_)
   | (show SG (.load _ _);first | refine sN 1000 (e:=mV) U uU U U U Jo U U λ_ _=>?_)
   | (show SG (.store _ _ _);first | refine oD 1000 (e:=mV) U iI U U Jo U ay2 U ?_)
   | (show SG (.call ⟨.value<|.tmp _,_,_⟩);first | refine pN 1000 U D2 cI U U U U U (λ_ _=>oM) U ayX λ_ _ _=>?_)
   | refine qG ?_
   | refine qF ?_
   | refine rJ ?_
   | refine rG ?_ ?_
   | exact pq
   | intro _)
theorem ajt(p:List Int)(b:Int)(B:Ie)(at_ from_:Int)(r:Ih)(h:uD 8 p b at_ from_=some r):fc prog (γ:=Unit) 237 (Ig B p b) (λ_=>Ig B p b) (Gv B at_ from_) (λ_=>fu 1 ay (aic r)):=by
 cases r with
 | some q=>exact N9 8 p b B at_ from_ (some q) h
 | none=>exact⟨λM w O vs hM hO hP hl ha=>((N9 8 p b B at_ from_ none h).go M w O vs hM hO hP hl ha).mono λe w'⟨g,v,he,O',h1,h2,h3,h4,h5⟩=>⟨g,v,he,O',h1,h2,h3,h4,by
   have h6:RD _ w' v (.v<|.slice none 0 0):=h5;rw[RD.aX h6];exact RD.nil none 0 1 (av5 _)⟩⟩
theorem OG(p:List Int)(a b:Int)(r:List Int)(hF:Ac p a b=some r):Ct prog 182 [bt 1 ay p,bV a,bV b] (fu 1 ay r):=by
 refine Ct.iB (R:=List Int) (res:=λr=>fu 1 ay r) func182 U ntmps182 U U hF λC0=>?_;refine GF.pre (λa w q=>q.D5 1000 U U) ?_;unfold Ac
 repeat' (first
  | (show SG (.indexAddr _ _ _);first | refine sM U uU iI U U ay2 U ?_)
  | (show SG (.load _ _);first | refine sN 1000 (e:=mV) U uU U U U Jo U U λ_ _=>?_)
  | (show SG (.store _ _ _);first | refine oD 1000 (e:=mV) U iI U U Jo U ay2 U ?_)
  | (show SG (.call ⟨.value<|.tmp _,_,_⟩);first | refine pN 1000 U D2 cI U U U U U (λ_ _=>oM) U ayX λ_ _ _=>?_)
  | (show SG (.alloc _);first | refine iK 1000 U zR U U ayX λ_=>?_)
  | (show SG (.box _ _);first | refine Kf U U U U ?_ | refine xA 1000 U U U U ayX λ_=>?_)
  | (show SG (.makeSlice _ _ _);first | refine ux 1000 U uU iI U U U ay2 U U ayX λ_=>?_)
  | refine qG ?_
  | refine qF ?_
  | refine rJ ?_
  | refine rG ?_ ?_
  | exact pq
  | intro _)
 rename_i b3 b5 _ _ _ b7;refine GO.vsS 1000 (B:=λ_:Unit=>Ig ⟨b5,b3,b7⟩ p b) ?_ (λ_=>oM) U (λ_=>?_)
 ·refine VS.same λM w O q=>⟨(),?_⟩
  have q2:Sep (Sep (Sep tH<|eu b3 22 [.sl 1 (p.map ay)])<|eu b5 3 [.v (.int .i64 b)]) (eu b7 307 [.v (Jz ⟨b5,b3,b7⟩)]) M w O:=q;rw[TT]at q2;refine cast ?_ q2;show Sep (Sep (eu b3 22 [.sl 1 (p.map ay)])<|eu b5 3 [.v (.int .i64 b)]) (eu b7 307 [.v (Jz ⟨b5,b3,b7⟩)]) M w O=Sep (eu b5 3 [.v (.int .i64 b)]) (Sep (eu b3 22 [.sl 1 (p.map ay)])<|eu b7 307 [.v (Jz ⟨b5,b3,b7⟩)]) M w O;generalize eu b3 22 _=X1;generalize eu b5 3 _=X2;generalize eu b7 307 _=X3;refine congrFun (congrFun (congrFun ?_ M) w) O
  ac_rfl
 refine GO.eq (F':=(uD 8 p b a (-1)).bind λr=>some<|aic r) (by unfold IY;congr 1;funext r;cases r<;>rfl) ?_;have:∀x y,tF prog (uD 8 p b x y) 237 (λB:Ie=>Ig B p b) (λB=>Gv B x y) (λr=>fu 1 ay<|aic r):=λx y=>⟨λB r h=>ajt p b B x y r h⟩;refine Rb (ix:=(⟨b5,b3,b7⟩:Ie)) 1000 U Y0 cI U U U U hI U U (λ_ _=>?_)
 repeat' (first
  | (show SG (.indexAddr _ _ _);first | refine sM U uU iI U U ay2 U ?_)
  | (show SG (.load _ _);first | refine sN 1000 (e:=mV) U uU U U U Jo U U λ_ _=>?_)
  | (show SG (.store _ _ _);first | refine oD 1000 (e:=mV) U iI U U Jo U ay2 U ?_)
  | (show SG (.call ⟨.value<|.tmp _,_,_⟩);first | refine pN 1000 U D2 cI U U U U U (λ_ _=>oM) U ayX λ_ _ _=>?_)
  | (show SG (.alloc _);first | refine iK 1000 U zR U U ayX λ_=>?_)
  | (show SG (.box _ _);first | refine Kf U U U U ?_ | refine xA 1000 U U U U ayX λ_=>?_)
  | (show SG (.makeSlice _ _ _);first | refine ux 1000 U uU iI U U U ay2 U U ayX λ_=>?_)
  | refine qG ?_
  | refine qF ?_
  | refine rJ ?_
  | refine rG ?_ ?_
  | exact pq
  | intro _)
instance(p:List Int)(a b:Int):dW prog (Ac p a b) 182 [bt 1 ay p,bV a,bV b] (λr=>fu 1 ay r):=⟨OG p a b⟩
open Go.Lib
set_option maxRecDepth 20000
set_option maxHeartbeats 2000000
set_option maxRecDepth 100000
instance(dS:(List Int))(a_1:Int)(b_2:Int):dW prog (DZ dS a_1 b_2) 118 [bt 1 ay dS,bV a_1,bV b_2] j7:=fV func118 U ntmps118 U U λr C0=>by
 have:bT (uL dS a_1 b_2) (λ(v3:Int×Int)=>⟨[(0,cP 1 ay dS),(1,aV a_1),(2,aV b_2),(7,aV v3.1),(11,aV (dS.length:Int)),(12,aV v3.2)],[]⟩):=⟨ayS⟩;unfold DZ;exact M4
instance(aL:Int)(c0:Int)(c1:aF)(c2:Int)(c3:Int):dW prog (iQ aL c0 c1 c2 c3) 117 [bV aL,.ep [.v (.int .i64 c0)],.ep (bf c1),.ep [.v (.int .i64 c2)],.ep [.v (.int .i64 c3)]] bH:=E3 func117 U ntmps117 U U λr C0=>by
 unfold iQ;exact jm
instance(c0:Int)(c1:aF)(c2:Int)(c3:Int):BU prog (λx=>.d (.v (.int .i64 x))) (λy=>.bool y) (λx0=>iQ x0 c0 c1 c2 c3) 117 [.ep [.v (.int .i64 c0)],.ep (bf c1),.ep [.v (.int .i64 c2)],.ep [.v (.int .i64 c3)]]:=⟨λ_=>tI⟩
instance(gM:aF)(gi:Int)(OZ:Int)(WJ:ByteArray):dW prog (jU gM gi OZ WJ) 69 [.g (.agg (bf gM)),bV gi,bV OZ,fP WJ] (λr=>fu 1 ay r):=fV func69 U ntmps69 U U λr C0=>by
 unfold jU;exact M4
end Go.Ark
namespace Go.Ark.HP
open Go Go.Ab Go.RowKit Go.Lib Go.Proofs Go.Shelf Go.Sort
attribute [local go_sem] ayz
def ZW(a:ByteArray)(l:List ByteArray):Nat->ByteArray
 | 0=>a
 | k+1=>(l[k]?).getD ByteArray.empty
theorem lS:∀(l:List ByteArray)(a:ByteArray),(eL a l).length=l.length+1
 | [],_=>rfl
 | b::l,_=>by simp[eL,lS l b]
theorem K4:∀(l:List ByteArray)(a:ByteArray)(k:Nat),k<=l.length->(eL a l)[k]? =some ⟨ZW a l k,(l[k]?).getD ByteArray.empty⟩
 | [],a,k,h=>by
  obtain rfl:k=0:=by simpa using h
  rfl
 | b::l,a,0,_=>rfl
 | b::l,a,k+1,h=>by
  have:=K4 l b k azi;simp only[eL,ayJ,this];cases k<;>rfl
def Y4(r:au):Value:=.agg #[.string r.From,.string r.To]
def Lm(r:au):List Value:=[.string r.From,.string r.To]
structure KX(B N:Nat)(X Y:World):Prop where
 size:X.heap.size<=Y.heap.size
 same:∀k,k<N->k≠B->Y.heap[k]? =X.heap[k]?
variable{B N:Nat}{X:World}
theorem KX.refl:KX B N X X:=⟨avq _,λ_ _ _=>rfl⟩
theorem KX.trans{B N:Nat}{X Y Z:World}(h:KX B N X Y)(k:KX B N Y Z):KX B N X Z:=⟨awa h.size k.size,λi h1 h2=>(k.same i h1 h2).trans (h.same i h1 h2)⟩
variable{w:World}
theorem KX.b(W:World)(l:Nat)(o o':Obj)(hl:w.heap.size<=l)(_:W.heap[l]? =some o)(_:o.isCells=false)(_:o.isWalk=false):KX B w.heap.size W (W.putObj l o'):=
 ⟨(grownBy_putObj' W l o').size,λk h1 _=>World.putObj_heap_other<|by omega⟩
variable{n:Nat}
theorem KX.below{Y:World}(h:Below n X Y)(hn:N<=n):KX B N X Y:=⟨h.size,λk h1 _=>h.block k (avE h1 hn)⟩
def Ce(B N:Nat)(W:World)(v:Value)(ss:List ByteArray):Prop:=
 ∃a b o cap,v= .slice a ss.length cap/\ss.length<=9223372036854775807/\(ss≠[]->a=some ⟨b,o,none⟩/\b<N/\b≠B)/\∀j s,ss[j]? =some s->W.cell? ⟨b,o+j,none⟩=some (.string s)
variable{v:Value}{ss:List ByteArray}
theorem Ce.le{N':Nat}(h:N<=N'):Ce B N X v ss->Ce B N' X v ss
 | ⟨a,b,o,cap,h1,h2,h3,h4⟩=>⟨a,b,o,cap,h1,h2,λc=>⟨(h3 c).1,avE (h3 c).2.1 h,(h3 c).2.2⟩,h4⟩
theorem Ce.kx{Y:World}(h:KX B N X Y):Ce B N X v ss->Ce B N Y v ss
 | ⟨a,b,o,cap,h1,h2,h3,h4⟩=>⟨a,b,o,cap,h1,h2,h3,λj s hj=>by
  have hb:=(h3<|CQ hj).2
  rw[awh (w:=X) (a:=⟨b,o+j,none⟩) (h.same b hb.1 hb.2)];exact h4 j s hj⟩
set_option maxRecDepth 100000 in
set_option maxHeartbeats 4000000 in
theorem aap(F:Fence)(n:Nat)(hf:F.fn 258)(hro:F.round=none)(hn:1<=n)(lp Bs B N:Nat)(sv:Value)(l:List ByteArray)(J Jx:List au->World->Prop)
  (W:World)
  (hY:∀pre x W,J pre W->pre.length<l.length+1->YieldAt F (n-1) prog lp #[Y4 x] W λe W'=>
   (e= .returned (.bool true)/\J (pre++ [x]) W'/\KX B N W W')\/(e= .returned (.bool false)/\Jx (pre++ [x]) W'))
  (Tf:W.cell? ⟨Bs,0,none⟩=some sv) (hc:Ce B N W sv l) (h0:J [] W):
  CallsIn F n prog 258 #[.func (.yield lp) #[] #[],.pointer (some ⟨Bs,0,none⟩)] W λe W'=>(∃v,e= .returned v)/\
   ((∃ys,ys=eL ByteArray.empty l/\J ys W')\/(∃pre,True/\Jx pre W')):=by
 obtain⟨a,b,o,cap,rfl,hlm,hne,gq⟩:=hc;have hpl:=lS l ByteArray.empty;refine aw7 func258 U hf ?_ hro;simp only[ntmps258,avW,avv,av9,Nat.reduceAdd,Nat.reduceSub,aws,awt,awA,awl,avX,av4]
 gi_wp2
 gi_loopw [8,3] (λi s wr=>∃k:Nat,k<=l.length/\i= .int .i64 k/\s= .string (ZW ByteArray.empty l k)/\J ((eL ByteArray.empty l).take k) wr/\KX B N W wr)
  (λi _ _=>l.length-(RowKit.intOf i).toNat)
 case atStart=>exact⟨0,av5 _,U,U,h0,KX.refl⟩
 case round=>
  obtain⟨k,hk,rfl,rfl,hJs,Wy⟩:=hrel;have hx:=K4 l ByteArray.empty k hk;by_cases hlt:k<l.length
  ·obtain⟨p,hp⟩:∃p,l[k]? =some p:=⟨_,avs hlt⟩
   obtain⟨rfl,hb⟩:=hne (CQ hp);have d1:wr.cell? ⟨b,o+k,none⟩=some (.string p):=by
    rw[awh (w:=W) (a:=⟨b,o+k,none⟩) (Wy.same b hb.1 hb.2)];exact gq k p hp
   rw[hp,av7]at hx;obtain⟨fn,tmps,assign,body,hy,hR⟩:=hY _ ⟨ZW ByteArray.empty l k,p⟩ _ hJs ayV;unfold Y4 at hy
   gi_wp2
   refine hR.mono ?_;rintro e W3 (⟨rfl,hJ3,hk3⟩ | ⟨rfl,UN⟩)
   ·gi_wp2
    exact⟨⟨k+1,ayT,ayW,by simp[ZW,hp],by rw[DY hx];exact hJ3,Wy.trans hk3⟩,azV⟩
   ·gi_wp2
    refine bodyPost_ret (results_none U _ _ _) U ?_;exact⟨⟨_,U⟩,.inr ⟨_,ayS,UN⟩⟩
  ·obtain rfl:k=l.length:=by omega
   rw[aw3 (avq _),axI]at hx;replace hx:(eL ByteArray.empty l)[l.length]? =some ⟨ZW ByteArray.empty l l.length,⟨#[]⟩⟩:=hx;obtain⟨fn,tmps,assign,body,hy,hR⟩:=hY _ ⟨ZW ByteArray.empty l l.length,⟨#[]⟩⟩ _ hJs ayV;unfold Y4 at hy
   gi_wp2
   refine hR.mono ?_;rintro e W3 (⟨rfl,hJ3,hk3⟩ | ⟨rfl,UN⟩)
   ·gi_wp2
    go_end0
    refine⟨⟨_,U⟩,.inl ⟨_,U,?_⟩⟩;rw[<-DY hx,axr ayT]at hJ3;exact hJ3
   ·gi_wp2
    go_end0
    exact⟨⟨_,U⟩,.inr ⟨_,ayS,UN⟩⟩
theorem Tv(F:Fence)(n:Nat)(hf:F.fn 258)(hro:F.round=none)(hn:1<=n)(Bs B N:Nat)(sv:Value)(l:List ByteArray)(w:World)(Tf:Bs<w.heap.size)(hN:N<=w.heap.size)
  (hc:w.cell? ⟨Bs,0,none⟩=some sv) (hI:Ce B N w sv l):
  SeqStopsK F n prog 258 #[.pointer (some ⟨Bs,0,none⟩)] (λx:au=>#[Y4 x]) (KX B N) (λys=>ys=eL ByteArray.empty l) (λ_=>True) (l.length+1) w:=λlp J Jx W hW _ _ hY h0=>
 aap F n hf hro hn lp Bs B N sv l J Jx W hY ((hW.cell (p:=⟨Bs,0,none⟩) Tf).trans hc) (hI.kx<|KX.below hW hN) h0
theorem Ct.QU{P:Program}{f:Nat}{args:List RG}{res:RS}(h:Ct P f args res)(n:Nat)(w:World)(vs:List Value)(hl:vs.length=args.length)
  (ha:∀(i:Nat)(g:RG)(v:Value),args[i]? =some g->vs[i]? =some v->Ai P (λ_ _=>False) (λ_=>False) w g v):
  CallsIn Fence.wide n P f vs.toArray w λe w'=>∃v,e= .returned v/\Below w.heap.size w w'/\QJ (λ_ _=>False) (λ_=>False) w w' res v:=
 axG.2 ((h.go (λ_ _=>False) (λ_=>False) w vs (λ_ _ c=>c.elim) (λ_ c=>c.elim) hl ha).mono λe w'⟨v,h1,h2,h3⟩=>⟨v,h1,h2.toBelow,h3⟩)
variable{W:World}
theorem K3{b b' e z k:Nat}{xs:List Value}(h:b'<=b)(r:W.ownsRow b e z v k xs):W.ownsRow b' e z v k xs:=by
 refine⟨r.1,r.2.imp id ?_⟩;rintro⟨g,cap,cur,h1,h2,h3⟩;exact⟨g,cap,cur,h1,awa h h2,h3⟩
variable{M:Nat->Nat->Prop}
theorem RD.Z2{z:Nat}{es:List (List DV)}(h:RD M w v (.sl z es)):∃a n c,v= .slice a n c:=by
 cases h with
 | sl a cap=>exact⟨a,_,cap,U⟩
theorem alM{a b c:DV}(h:GR M w v (.agg [a,b,c])):∃x y z,v= .agg #[x,y,z]/\RD M w x a/\RD M w y b/\RD M w z c:=by
 obtain⟨us,rfl,h1,h2⟩:=h;obtain⟨x,hx,h3⟩:=h2 0 a U;obtain⟨y,hy,h4⟩:=h2 1 b U;obtain⟨z,hz,h5⟩:=h2 2 c U;refine⟨x,y,z,?_,h3,h4,h5⟩;congr 1;refine Array.ext ay7 λi hi hj=>?_;have:i<3:=by simpa using hj
 match i,this with
 | 0,_=>exact(avo.1 hx).2
 | 1,_=>exact(avo.1 hy).2
 | 2,_=>exact(avo.1 hz).2
theorem gr3{x y z:Value}{a b c:DV}(h1:RD M w x a)(h2:RD M w y b)(h3:RD M w z c):GR M w (.agg #[x,y,z]) (.agg [a,b,c]):=by
 refine⟨_,U,U,λj d hj=>?_⟩
 match j,hj with
 | 0,hj=>cases hj;exact⟨_,U,h1⟩
 | 1,hj=>cases hj;exact⟨_,U,h2⟩
 | 2,hj=>cases hj;exact⟨_,U,h3⟩
theorem E1(w:World)(x y:Value)(t:TypeId):∀j u,[x,y][j]? =some u->(w.alloc (.cells #[x,y] t)).cell? ((⟨w.heap.size,0,none⟩:Addr).add j)=some u:=by
 intro j u hj;have h:(w.alloc<|.cells #[x,y] t).heap[w.heap.size]? =some (.cells #[x,y] t (0,0)):=World.alloc_heap_new w _
 rw[awr];simp only[World.cell?,h];rw[<-hj];simp
theorem TD(x y:Value)(t:TypeId)(h:n=W.heap.size):(W.alloc (.cells #[x,y] t)).cell? ⟨n,0,none⟩=some x:=by subst h;exact E1 W x y t 0 x U
theorem TE(x y:Value)(t:TypeId)(h:n=W.heap.size):(W.alloc (.cells #[x,y] t)).cell? ⟨n,1,none⟩=some y:=by subst h;exact E1 W x y t 1 y U
theorem afF{x0 x1 x2 y0 y1 y2:Value}{s t:TypeId}(hB:Below ((w.alloc (.cells #[x0,x1,x2] s)).alloc (.cells #[y0,y1,y2] t)).heap.size ((w.alloc (.cells #[x0,x1,x2] s)).alloc (.cells #[y0,y1,y2] t)) W)(o:Obj):
  (W.alloc o).cell? ⟨w.heap.size,0,none⟩=some x0/\(W.alloc o).cell? ⟨w.heap.size+1,0,none⟩=some y0:=by
 have h:=hB.size;simp only[ayQ]at h;have b2:=(avU W.heap.size W).alloc (avq _) o
 have b0:=(avU (w.heap.size+1)<|w.alloc<|.cells #[x0,x1,x2] s).alloc ayW (.cells #[y0,y1,y2] t)
 refine⟨(b2.cell (p:=⟨w.heap.size,0,none⟩) (by show w.heap.size<_;omega)).trans<|(hB.cell (p:=⟨w.heap.size,0,none⟩) ayV).trans<|(b0.cell (p:=⟨w.heap.size,0,none⟩) (by show w.heap.size<_;omega)).trans<|E2 w x0 x1 x2 s 0 x0 U,
  (b2.cell (p:=⟨w.heap.size+1,0,none⟩) (by show w.heap.size+1<_;omega)).trans ((hB.cell (p:=⟨w.heap.size+1,0,none⟩) ayW).trans ?_)⟩
 have:=E2 (w.alloc<|.cells #[x0,x1,x2] s) y0 y1 y2 t 0 y0 U;rw[ayQ]at this;exact this
theorem PS{β:Type}{w₀:World}(hN:N=w₀.heap.size):OwnFrom N (λ(_:β) W=>cU (λk=>k=B) w₀ W):=
 λ_ X Y row hs hg hr=>⟨hg.os.trans hs.os,hg.tape.trans hs.tape,hg.output.trans hs.output,awa hs.size hg.size,λk hk hn=>(hg.block k (avE hk hs.size) λe=>by have:=(hr k e.symm).1;omega).trans<|hs.block k hk hn⟩
theorem Y3(pre:List au)(x:au):(pre++ [x]).flatMap Lm=pre.flatMap Lm++Lm x:=by simp
theorem ad4(F:Fence)(n:Nat)(hf:F.fn 228)(hro:F.round=none)(a:Option Addr)(len cap:Nat)(w:World):
  CallsIn F n prog 228 #[.slice a len cap] w λe w'=>e= .returned (.func (.func 258) #[] #[.pointer (some ⟨w.heap.size,0,none⟩)])/\w'=w.alloc (.cells #[.slice a len cap] 33):=by
 refine aw7 func228 U hf ?_ hro;simp only[ntmps228,avW,avv,av9,Nat.reduceAdd,Nat.reduceSub,aws,awt,awA,awl,avX,av4]
 gi_wp2
 go_ret;exact⟨U,U⟩
theorem Zn{W':World}(h:agR M (λb=>W.heap.size<=b\/False) W' 9 1 (List.map encS ss) v)(hB:B<W.heap.size):Ce B W'.heap.size W' v ss:=by
 obtain⟨-,-,⟨h1,a,rfl⟩ | ⟨b,cap,cur,h1,h2,rfl,h3,h4,h5,h6,h7⟩⟩:=h
 ·obtain rfl:ss= []:=by simpa using h1
  exact⟨a,0,0,0,U,ayW,λc=>absurd U c,λj s hj=>aAe⟩
 ·have ZX:W.heap.size<=b:=h1.elim id False.elim
  have hml:maxLen=9223372036854775807:=rfl;refine⟨_,b,0,cap,ayW,by simp at h3;omega,λ_=>⟨U,h2,ayT⟩,λj s hj=>?_⟩;obtain⟨u,hu,hd⟩:=h7 j (encS s) 0 _ azT U;obtain rfl:=RD.aX hd;rw[axP,awE]at hu;simp only[World.cell?,h5,avS];exact hu
set_option maxRecDepth 100000 in
set_option maxHeartbeats 1000000 in
theorem acy(a b:aF)(l:List au)(bs:List ByteArray)(hf:fW a b=some true)(hl:(a.bP++b.bP).length<=1048576/\a.bP++b.bP=l)(hb:oI l=some bs)(hbl:bs.length<=1048576)
  (x0 x1 x2 y0 y1 y2:Value) (w:World) (hx0:RD M0 w x0 (.sl 2<|List.map az a.bP)) (hx1:RD M0 w x1 (.sl 1<|List.map ay a.cq)) (hx2:RD M0 w x2 (.sl 1<|List.map ay a.aK))
  (hy0:RD M0 w y0 (.sl 2<|List.map az b.bP)) (hy1:RD M0 w y1 (.sl 1<|List.map ay b.cq)) (hy2:RD M0 w y2 (.sl 1<|List.map ay b.aK)):
  CallsIn Fence.wide 6 prog 172 #[.agg #[x0,x1,x2],.agg #[y0,y1,y2]] w λe w'=>∃v,e= .returned v/\Below w.heap.size w w'/\∃N,w.heap.size<=N/\w'.ownsRow N 68 2 v (eL ByteArray.empty bs).length ((eL ByteArray.empty bs).flatMap Lm):=by
 have cF:∀W,Below w.heap.size w W->CallsIn Fence.wide 5 prog 103 #[.agg #[x0,x1,x2],.agg #[y0,y1,y2]] W λe W'=>e= .returned (.bool true)/\Below W.heap.size W W':=λW hW=>by
  refine(Ct.QU (tI (P:=prog) (X:=fW a b) true hf) 5 W [.agg #[x0,x1,x2],.agg #[y0,y1,y2]] U λi g v hg hv=>?_).mono ?_
  ·match i,hg,hv with
   | 0,hg,hv=>cases hg;cases hv;exact gr3 (RD.up hx0 hW) (RD.up hx1 hW) (RD.up hx2 hW)
   | 1,hg,hv=>cases hg;cases hv;exact gr3 (RD.up hy0 hW) (RD.up hy1 hW) (RD.up hy2 hW)
  ·rintro e W' ⟨v,rfl,h1,h2⟩
   exact⟨by rw[RD.aX h2],h1⟩
 obtain⟨hl1,rfl⟩:=hl;have cB:∀W u,RD M0 W u (.sl 2<|List.map az<|a.bP++b.bP)->CallsIn Fence.wide 5 prog 229 #[u] W λe W'=>∃c p,e= .returned (.slice c bs.length p)/\Below W.heap.size W W'/\∀B,B<W.heap.size->Ce B W'.heap.size W' (.slice c bs.length p) bs:=λW u hu=>by
  refine(Ct.QU (J1 _ bs hb) 5 W [u] U λi g' v hg hv=>?_).mono ?_
  ·match i,hg,hv with
   | 0,hg,hv=>cases hg;cases hv;exact hu
  ·rintro e W' ⟨v,rfl,h1,h2⟩
   have h3:∃c p,v= .slice c bs.length p:=by
    obtain⟨-,-,⟨h4,a,rfl⟩ | ⟨b,cap,cur,-,-,rfl,-⟩⟩:=h2
    ·obtain rfl:bs= []:=by simpa using h4
     exact⟨a,0,U⟩
    ·exact⟨some ⟨b,0,none⟩,cap,ayW⟩
   obtain⟨c,p,rfl⟩:=h3;exact⟨c,p,U,h1,λB hB=>Zn h2 hB⟩
 have hml:maxLen=9223372036854775807:=rfl;have f103:Fence.wide.fn 103:=trivial;have f230:Fence.wide.fn 230:=trivial;have f229:Fence.wide.fn 229:=trivial;have f228:Fence.wide.fn 228:=trivial;obtain⟨i0,hi,hz0,hz1,Ku⟩:=axV WC;obtain⟨xa,xan,xc,rfl⟩:=RD.Z2 hx0;obtain⟨xa1,ajv,xc1,rfl⟩:=RD.Z2 hx1;obtain⟨xa2,ajw,xc2,rfl⟩:=RD.Z2 hx2;obtain⟨ya,yan,yc,rfl⟩:=RD.Z2 hy0;obtain⟨ya1,ajx,yc1,rfl⟩:=RD.Z2 hy1;obtain⟨ya2,ajy,yc2,rfl⟩:=RD.Z2 hy2;have hA:∀o1 o2,Below w.heap.size w ((w.alloc o1).alloc o2):=λo1 o2=>((avU _ w).alloc (avq _) _).alloc ayW _
 have hU:∀{o1 o2:Obj}{W1:World}(o3 o4:Obj),Below ((w.alloc o1).alloc o2).heap.size ((w.alloc o1).alloc o2) W1->Below w.heap.size w ((W1.alloc o3).alloc o4):=λo3 o4 h=>by
  have h2:=(hA _ _).trans (h.mono ayV)
  exact(h2.alloc h2.size _).alloc (awa h2.size<|by simp) _
 refine callsIn_of_wp_marks func172 U ayS ?_ U;simp only[ntmps172,avW,avv,av9,Nat.reduceAdd,Nat.reduceSub,aws,awt,awA,awl,avX,av4]
 gi_wp2_with first
  | (gi_at_call 103;refine(cF _<|hA _ _).mono ?_;rintro e W1 ⟨rfl,Rx⟩;obtain⟨q0,q1⟩:=afF Rx<|.cells #[.slice none 0 0] 27)
  | (gi_at_call 230;refine(aec a.bP b.bP hl1 _ ayT _ _ _ _ (TD _ _ _<|by simp) (TE _ _ _<|by simp) (RD.up hx0<|hU _ _ Rx)<|RD.up hy0<|hU _ _ Rx).mono ?_;rintro e W3 ⟨c3,n3,p3,rfl,hB3,hr3⟩)
  | (gi_at_call 229;refine(cB _ _ hr3).mono ?_;rintro e W4 ⟨c4,p4,rfl,hB4,hs4⟩)
  | (gi_at_call 228;refine(ad4 Fence.wide _ ayS U _ _ _ _).mono ?_;rintro e W5 ⟨rfl,hW5⟩)
 have hB5:w.heap.size+2<=W1.heap.size:=by simpa using Rx.size
 have arM:W1.heap.size+2<=W3.heap.size:=by simpa using hB3.size
 have hN:W5.heap.size=W4.heap.size+1:=by rw[hW5];simp
 have hc5:W5.cell? ⟨W4.heap.size,0,none⟩=some (.slice c4 bs.length p4):=by rw[hW5];exact(Boxed.new W4 33 _).cell
 have h45:Below W4.heap.size W4 W5:=by rw[hW5];exact(avU _ W4).alloc (avq _) _
 have hs5:Ce W1.heap.size W5.heap.size W5 (.slice c4 bs.length p4) bs:=((hs4 _<|by omega).kx<|KX.below h45<|avq _).le h45.size
 have b3:Boxed W3 W1.heap.size 27 (.slice none 0 0):=(hB3.block W1.heap.size ayV).trans ((Boxed.new W1 27<|.slice none 0 0).alloc _)
 have bO:Boxed W5 W1.heap.size 27 (.slice none 0 0):=(h45.block W1.heap.size (by have:=hB4.size;omega)).trans ((hB4.block W1.heap.size<|by omega).trans b3)
 have hA5:Below w.heap.size w W5:=(((hU _ _ Rx).trans<|hB3.mono ayV).trans<|hB4.mono<|by omega).trans (h45.mono (by have:=hB4.size;omega))
 rw[<-hW5];clear hW5 hs4 b3 h45 hr3 hB3 hB4 q0 q1 Rx hU hA cB cF;refine wpIn_rangeFunc_ownH U ayT (gf:=258) (lb:=#[.pointer (some ⟨W4.heap.size,0,none⟩)]) U ayS (enters_of func258 ayX U)
  (Tv Fence.wide (6-1) ayS U ayT W4.heap.size W1.heap.size W5.heap.size _ bs W5 ayT (avq _) hc5 hs5) KX.trans KX.b (avU _ _) (λ_=>rfl)
  (λ(pre:List au) W=>(∃v,Boxed W W1.heap.size 27 v/\W.ownsRow W5.heap.size 68 2 v pre.length (pre.flatMap Lm)/\True)/\cU (λk=>k=W1.heap.size) W5 W)
  (λ_ _ _=>False)
  (OwnFrom.and (Own.from (holdsRow_own W5.heap.size W1.heap.size 27 68 2 (λpre:List au=>pre.length) (λpre=>pre.flatMap Lm) λ_ _=>True) _)<|PS U)
  (λ_ _ _ _ _ hs _ _=>hs)
  ⟨⟨_,bO,aye _ _ _ _,ayS⟩,U,U,U,avq _,λ_ _ _=>rfl⟩
  (λx a' W=>∃Bx,W5.heap.size<=Bx/\W.heap[Bx]? =some (.cells #[.string x.From,.string x.To] 68 (0,0))/\a'= { tmps:=#[.agg #[.slice xa xan xc,.slice xa1 ajv xc1,.slice xa2 ajw xc2],.agg #[.slice ya yan yc,.slice ya1 ajx yc1,.slice ya2 ajy yc2],.pointer (some ⟨w.heap.size,0,none⟩),.pointer (some ⟨w.heap.size+1,0,none⟩),.slice none 0 0,.pointer (some ⟨W1.heap.size,0,none⟩),.pointer (some ⟨Bx,0,none⟩),.agg #[.slice xa xan xc,.slice xa1 ajv xc1,.slice xa2 ajw xc2],.agg #[.slice ya yan yc,.slice ya1 ajx yc1,.slice ya2 ajy yc2],.bool true,.bool false,.pointer (some ⟨w.heap.size,0,none⟩),.slice xa xan xc,.pointer (some ⟨w.heap.size+1,0,none⟩),.slice ya yan yc,.slice (some ⟨W1.heap.size+1,0,none⟩) 2 2,.slice c3 n3 p3,.slice c4 bs.length p4,.func (.func 258) #[] #[.pointer (some ⟨W4.heap.size,0,none⟩)],Y4 x,undef,undef,undef,undef,undef],defers:=[] })
  (λx a' _ X Y row hs hg hr=>by
   obtain⟨Bx,h1,h2,h3⟩:=hs;refine⟨Bx,h1,(hg.block Bx (avo.1 h2).1 λe=>?_).trans h2,h3⟩;obtain⟨_,o,ho,hc⟩:=hr Bx e.symm;rw[h2]at ho;cases ho;cases hc)
  ?assign ?body ?done ?stop
 case assign=>
  rintro lp pre x W K ⟨⟨v,bv,rv,-⟩,hB⟩ hK;unfold Y4 at hK ⊢
  gi_wp2
  have hA:=(avU W.heap.size W).alloc (avq _) (.cells #[.string x.From,.string x.To] 68)
  exact hK _ _ ((KeepsOthers.alloc _ _).from _) (KX.below hA hB.size) ⟨⟨v,bv.alloc _,rv.alloc _,ayS⟩,hA.os.trans hB.os,hA.tape.trans hB.tape,hA.output.trans hB.output,awa hB.size hA.size,λk h1 h2=>(hA.block k<|avE h1 hB.size).trans<|hB.block k h1 h2⟩ ⟨W.heap.size,hB.size,World.alloc_heap_new W _,U⟩
 case body=>
  rintro lp pre x a' W hl hr ⟨⟨v,bv,rv,-⟩,hB⟩ ⟨Bx,hBx,hX,rfl⟩ hlt;have hc:=bv.cell;have x0:W.cell? ⟨Bx,0,none⟩=some (.string x.From):=by simp[World.cell?,hX]
  have x1:W.cell? ⟨Bx,1,none⟩=some (.string x.To):=by simp[World.cell?,hX]
  have h15:W1.heap.size<=W5.heap.size:=Nat.le_of_lt bO.lt
  gi_wp2_with (gi_at_builtin;refine wpListIn_append_own _ U _ _ 27 U W5.heap.size 68 i0 (.agg #[.string ByteArray.empty,.string ByteArray.empty]) 2 32 underlying27 hi hz0 hz1 Ku U ayZ _ _ _ U (rv.alloc _) ⟨W.heap.size,0,none⟩ 1 1 (Lm x) U U (E1 _ _ _ _) (by simp[Value.oneCell',Lm]) ayT ayT aAq ?_;intro v' w1 hown' hgrow _;obtain⟨g',cap',rfl⟩:=ownsRow_succ hown';obtain⟨Ny,G5,Pf,hk2,hb2⟩:=bv.appended (n₀:=W1.heap.size) ayZ (K3 h15 rv) (awa h15 hB.size) (avq _) (K3 h15 hown') hgrow;have hc1:=Ny.cell;have hf1:=Ny.frozen)
  have hr3:=hown'.kept (grownBy_setCell' w1 W1.heap.size<|.slice (some ⟨g',0,none⟩) (pre.length+1) cap') (.inr (Ny.not_row ayZ hown').symm);have hkx:KX W1.heap.size W5.heap.size W (w1.setCell ⟨W1.heap.size,0,none⟩<|.slice (some ⟨g',0,none⟩) (pre.length+1) cap'):=⟨hb2.size,λk h1 h2=>by
   have hkl:=avE h1 hB.size;replace hgrow:(W.alloc _).grownBy w1 v.ownBlock:=hgrow
   refine(aya w1 ⟨W1.heap.size,0,none⟩ _ k h2).trans ((hgrow.block k ayV λe=>?_).trans<|Below.heap_alloc W _ k hkl)
   rcases rv.2 with⟨rfl,_⟩ | ⟨g,cap,cur,rfl,hb,_,_⟩
   ·simp[Value.ownBlock]at e
   ·simp[Value.ownBlock]at e
    omega⟩
  exact⟨hk2.from _,hkx,⟨_,G5,by rw[Y3];simpa using hr3,ayS⟩,hb2.os.trans hB.os,hb2.tape.trans hB.tape,hb2.output.trans hB.output,awa hB.size hb2.size,λk h1 h2=>(hkx.same k h1 h2).trans<|hB.block k h1 h2⟩
 case done=>
  rintro D ys W hD rfl ⟨⟨v,bv,rv,-⟩,hB⟩ hK;have hc:=bv.cell
  gi_wp2
  refine⟨ayW,.inl ⟨_,_,U,run_takeDeferred hK,?_⟩⟩;have hBW:Below w.heap.size w W:=⟨hB.os.trans hA5.os,hB.tape.trans hA5.tape,hB.output.trans hA5.output,awa hA5.size hB.size,λk hk=>(hB.block k (avE hk hA5.size)<|by omega).trans<|hA5.block k hk⟩;exact⟨_,results_tmp U _ _ _,v,U,hBW.trans<|belowK_b (w:=w) (avq _) W D _ _ (by have:=hA5.size;omega) hK U U,W5.heap.size,hA5.size,ownsRow_putObj rv _ hK U⟩
 case stop=>
  rintro D c pre W _ _ h _;exact h.elim
theorem afw(l:List au)(h:W.ownsRow N 68 2 v l.length (l.flatMap Lm))(hM:∀b o,M b o->b<N):RD M W v (.sl 2 (List.map az l)):=
 RD.Vn l Lm az (λ_=>rfl) (λ_=>rfl) (λx v hv=>by simp[Lm]at hv;rcases hv with rfl | rfl<;>rfl) h hM
set_option maxRecDepth 100000 in
set_option maxHeartbeats 1000000 in
theorem acz(a b:aF)(hf:fW a b=some false)
  (x0 x1 x2 y0 y1 y2:Value) (w:World) (hx0:RD M0 w x0 (.sl 2<|List.map az a.bP)) (hx1:RD M0 w x1 (.sl 1<|List.map ay a.cq)) (hx2:RD M0 w x2 (.sl 1<|List.map ay a.aK))
  (hy0:RD M0 w y0 (.sl 2<|List.map az b.bP)) (hy1:RD M0 w y1 (.sl 1<|List.map ay b.cq)) (hy2:RD M0 w y2 (.sl 1<|List.map ay b.aK)):
  CallsIn Fence.wide 6 prog 172 #[.agg #[x0,x1,x2],.agg #[y0,y1,y2]] w λe w'=>e= .returned (.slice none 0 0)/\Below w.heap.size w w':=by
 have cF:∀W,Below w.heap.size w W->CallsIn Fence.wide 5 prog 103 #[.agg #[x0,x1,x2],.agg #[y0,y1,y2]] W λe W'=>e= .returned (.bool false)/\Below W.heap.size W W':=λW hW=>by
  refine(Ct.QU (tI (P:=prog) (X:=fW a b) false hf) 5 W [.agg #[x0,x1,x2],.agg #[y0,y1,y2]] U λi g v hg hv=>?_).mono ?_
  ·match i,hg,hv with
   | 0,hg,hv=>cases hg;cases hv;exact gr3 (RD.up hx0 hW) (RD.up hx1 hW) (RD.up hx2 hW)
   | 1,hg,hv=>cases hg;cases hv;exact gr3 (RD.up hy0 hW) (RD.up hy1 hW) (RD.up hy2 hW)
  ·rintro e W' ⟨v,rfl,h1,h2⟩
   exact⟨by rw[RD.aX h2],h1⟩
 have f103:Fence.wide.fn 103:=trivial;obtain⟨xa,xan,xc,rfl⟩:=RD.Z2 hx0;obtain⟨xa1,ajv,xc1,rfl⟩:=RD.Z2 hx1;obtain⟨xa2,ajw,xc2,rfl⟩:=RD.Z2 hx2;obtain⟨ya,yan,yc,rfl⟩:=RD.Z2 hy0;obtain⟨ya1,ajx,yc1,rfl⟩:=RD.Z2 hy1;obtain⟨ya2,ajy,yc2,rfl⟩:=RD.Z2 hy2;have hA:∀o1 o2,Below w.heap.size w ((w.alloc o1).alloc o2):=λo1 o2=>((avU _ w).alloc (avq _) _).alloc ayW _
 refine aw7 func172 U ayS ?_ U;simp only[ntmps172,avW,avv,av9,Nat.reduceAdd,Nat.reduceSub,aws,awt,awA,awl,avX,av4]
 gi_wp2_with (gi_at_call 103;refine(cF _<|hA _ _).mono ?_;rintro e W1 ⟨rfl,Rx⟩)
 go_ret;exact⟨U,(hA _ _).trans<|Rx.mono ayV⟩
theorem vG(a b:aF)(r:List au)(hF:lB a b=some r):Ct prog 172 [.g (.agg (bf a)),.g (.agg (bf b))] (fu 2 az r):=by
 refine⟨λM K w vs hM hK hn hargs=>?_⟩;obtain⟨v0,v1,rfl⟩:∃v0 v1,vs= [v0,v1]:=by
  match vs,hn with
  | [x,y],_=>exact⟨x,y,U⟩
 have g0:GR (λb o=>M b o\/K b) w v0 (.agg<|bf a):=hargs 0 _ v0 U U;have g1:GR (λb o=>M b o\/K b) w v1 (.agg<|bf b):=hargs 1 _ v1 U U;obtain⟨x0,x1,x2,rfl,hx0,hx1,hx2⟩:=alM g0;obtain⟨y0,y1,y2,rfl,hy0,hy1,hy2⟩:=alM g1;refine(axG (n:=6)).1 ?_
 unfold lB at hF;obtain⟨f,hf,hF⟩:=avQ.1 hF;cases f with
 | false=>
  cases hF;refine(acz a b hf x0 x1 x2 y0 y1 y2 w (M0.of hx0) (M0.of hx1) (M0.of hx2) (M0.of hy0) (M0.of hy1)<|M0.of hy2).mono ?_
  rintro e w' ⟨rfl,h⟩;exact⟨_,U,⟨h.os,h.tape,h.output,h.size,λk hk _=>h.block k hk⟩,RD.nil none 0 2<|av5 _⟩
 | true=>
  simp only[avJ,avn,avB]at hF;obtain⟨l,hl,hF⟩:=avQ.1 hF;obtain⟨bs,hb,hF⟩:=avQ.1 hF;unfold m5 nL at hl;unfold nL at hF;split at hl
  ·rename_i h1
   split at hF
   ·rename_i h2
    cases hF;cases hl;refine(acy a b _ bs hf ⟨ay7,ayW⟩ hb azG x0 x1 x2 y0 y1 y2 w (M0.of hx0) (M0.of hx1) (M0.of hx2) (M0.of hy0) (M0.of hy1)<|M0.of hy2).mono ?_
    rintro e w' ⟨v,rfl,h,N,hN,hr⟩;exact⟨_,U,⟨h.os,h.tape,h.output,h.size,λk hk _=>h.block k hk⟩,afw _ hr λb o hm=>avE (hM b o hm).1 hN⟩
   ·cases hF
  ·cases hl
theorem ahg(w:World):Ej prog w (λ_=>False) (.func (.func 138) #[] #[]) (rq (λx=>.d (.v (.string x))) (λy=>.bool y) λx0=>gS x0):=by
 refine⟨138,#[],U,call138,λw' _ M vs args r hl ha hr=>?_⟩;obtain⟨x,y,rfl,h1,rfl⟩:=hr;obtain⟨v,rfl⟩:∃v,vs= [v]:=by
  match vs,hl with
  | [v],_=>exact⟨v,U⟩
 have hv:GR M w' v (.d<|.v<|.string x):=ha 0 v _ U U;obtain rfl:=RD.aX hv;refine(axG (n:=1)).1 ((Ct.QU (tI (P:=prog) (X:=gS x) y h1) 1 w' [.string x] U λi g v hg hv=>?_).mono ?_)
 ·match i,hg,hv with
  | 0,hg,hv=>cases hg;cases hv;exact RD.v _ U
 ·rintro e W' ⟨v,rfl,h1,h2⟩
  exact⟨by rw[RD.aX h2],h1⟩
set_option maxRecDepth 100000 in
set_option maxHeartbeats 1000000 in
theorem aft(l:List ByteArray)(c:Bool)(hc:dN l (λx0=>gS x0)=some c)(h1:¬(l.length:Int)<1)(h4:¬4<(l.length:Int))(w:World)(v:Value)(hv:RD M0 w v (.sl 1 (List.map encS l))):
  CallsIn Fence.wide 7 prog 82 #[v] w λe w'=>e= .returned (.bool<|if c then false else decide (((sJ<|cQ l).length:Int)=(l.length:Int)))/\Below w.heap.size w w':=by
 have cC:CallsIn Fence.wide 6 prog 137 #[v,.func (.func 138) #[] #[]] w λe W'=>e= .returned (.bool c)/\Below w.heap.size w W':=by
  refine(Ct.QU (sK l _ c hc) 6 w [v,.func (.func 138) #[] #[]] U λi g v hg hv'=>?_).mono ?_
  ·match i,hg,hv' with
   | 0,hg,hv'=>cases hg;cases hv';exact hv
   | 1,hg,hv'=>cases hg;cases hv';exact ahg w
  ·rintro e W' ⟨v,rfl,h1,h2⟩
   exact⟨by rw[RD.aX h2],h1⟩
 have hs:=RD.strs hv;obtain⟨a,b,o,cap,rfl,-⟩:=id hs;have cV:∀W,CallsIn Fence.wide 6 prog 142 #[.slice a l.length cap] W λe w'=>e= .returned (.func (.func 202) #[] #[.pointer (some ⟨W.heap.size,0,none⟩)])/\w'=W.alloc (.cells #[.slice a l.length cap] 33):=λW=>by
  refine aw7 func142 U ayS ?_ U;simp only[ntmps142,avW,avv,av9,Nat.reduceAdd,Nat.reduceSub,aws,awt,awA,awl,avX,av4]
  gi_wp2
  go_ret;exact⟨U,U⟩
 have hlen:(sJ<|cQ l).length=(Lib.compact<|(l.map λs=>s.data.toList).mergeSort λx y=>decide (x<=y)).length:=by simp[sJ,cQ,Function.comp_def]
 have f137:Fence.wide.fn 137:=trivial;have f140:Fence.wide.fn 140:=trivial;have f141:Fence.wide.fn 141:=trivial;have f142:Fence.wide.fn 142:=trivial;refine aw7 func82 U ayS ?_ U;simp only[ntmps82,avW,avv,av9,Nat.reduceAdd,Nat.reduceSub,aws,awt,awA,awl,avX,av4];cases c with
 | true=>
  gi_wp2_with (gi_at_call 137;refine cC.mono ?_;rintro e W1 ⟨rfl,Rx⟩)
  go_ret;exact⟨U,Rx⟩
 | false=>
  gi_wp2_with first
   | (gi_at_call 137;refine cC.mono ?_;rintro e W1 ⟨rfl,Rx⟩)
   | (gi_at_call 142;refine(cV _).mono ?_;rintro e W2 ⟨rfl,rfl⟩)
   | (gi_at_call 141;refine(VG 6 ayT W1.heap.size _ l ayT _ ayW (Boxed.new W1 33 _).cell<|(((hs.below Rx).le Rx.size).below<|(avU _ W1).alloc (avq _) _).le<|by simp).mono ?_;rintro e W3 ⟨v3,rfl,hrow,hB3⟩)
  have hzl:((l.map λs=>s.data.toList).mergeSort λx y=>decide (x<=y)).length=l.length:=by simp
  rcases hrow.2 with⟨rfl,hz⟩ | ⟨gb,ad8,cur,rfl,hbase,hgb,r1,r2,r3,r4⟩
  ·omega
  ·have cK:CallsIn Fence.wide 6 prog 140 #[.slice (some ⟨gb,0,none⟩) l.length ad8] W3 λe w'=>∃s k,e= .returned (.slice s (sJ<|cQ l).length k)/\cU (λb=>b=gb) W3 w':=by
    have U3:(cQ l).length=l.length:=by simp[cQ]
    have Yi:=(avo.1 hgb).1
    refine axG.2 (((nh (cQ l) _ U).go (λ_ _=>False) (λb=>b=gb) W3 [.slice (some ⟨gb,0,none⟩) l.length ad8] (λ_ _ c=>c.elim) (λb hb=>⟨0,9,1,_,ad8,U,by subst hb;simp[U3]⟩) U λi g v hg hv'=>?_).mono ?_)
    ·match i,hg,hv' with
     | 0,hg,hv'=>
      cases hg;cases hv';refine⟨ayZ,λcs h=>?_,.inr ⟨gb,ad8,cur,U,Yi,by simp[U3],by simpa[U3]using r1,r2,hgb,r3,λi cs j d hi hj=>?_⟩⟩
      ·simp only[avT]at h
       obtain⟨_,-,rfl⟩:=h;rfl
      ·simp only[avL,awd]at hi
       obtain⟨s,hs,rfl⟩:=hi;obtain rfl:j=0:=by
        have:=(avl.1 hj).1
        simpa using this
       cases hj;have hil:=(avl.1 hs).1
       refine⟨.string s,?_,RD.v _ U⟩;have h2:=awp (λL=>L[i]?) r4;simp only[axP]at h2;rw[avR ayT,awb]at h2;rw[axP,awE,h2];unfold cQ at hs;rw[avL]at hs;rw[avL];obtain⟨q,hq,rfl⟩:=awd.1 hs;rw[hq];rfl
    ·rintro e w' ⟨v,rfl,h2,-,-,⟨h3,a,rfl⟩ | ⟨b,am4,arD,-,-,rfl,-⟩⟩
     ·have h5:sJ (cQ l)= []:=by simpa using h3
      exact⟨a,0,by rw[h5];rfl,h2⟩
     ·exact⟨_,am4,by rw[avN],h2⟩
   gi_wp2_with (gi_at_call 140;refine cK.mono ?_;rintro e W4 ⟨s,k,rfl,hK⟩)
   go_ret;simp only[ayQ]at hbase;have hB4:Below W1.heap.size W1 W3:=((avU _ W1).alloc (avq _) _).trans (hB3.mono<|by simp)
   have hB5:=Rx.trans (hB4.mono Rx.size);exact⟨by simp;rfl,hK.os.trans hB5.os,hK.tape.trans hB5.tape,hK.output.trans hB5.output,awa hB5.size hK.size,λk hk=>(hK.block k (avE hk hB5.size) (by have:=Rx.size;omega)).trans<|hB5.block k hk⟩
theorem tN(l:List ByteArray)(r:Bool)(hF:jQ l=some r):Ct prog 82 [bt 1 encS l] (bH r):=by
 refine⟨λM K w vs hM hK hn hargs=>?_⟩;obtain⟨v,rfl⟩:∃v,vs= [v]:=by
  match vs,hn with
  | [v],_=>exact⟨v,U⟩
 have hv:RD (λb o=>M b o\/K b) w v (.sl 1<|List.map encS l):=hargs 0 _ v U U;refine(axG (n:=7)).1 ?_
 suffices h:CallsIn Fence.wide 7 prog 82 #[v] w λe w'=>e= .returned (.bool r)/\Below w.heap.size w w' by
  refine h.mono ?_;rintro e w' ⟨rfl,h⟩;exact⟨_,U,⟨h.os,h.tape,h.output,h.size,λk hk _=>h.block k hk⟩,RD.v _ U⟩
 unfold jQ at hF;have f137:Fence.wide.fn 137:=trivial;by_cases h1:(l.length:Int)<1
 ·rw[avk ay7]at hF
  cases hF;obtain⟨a,b,o,cap,rfl,-⟩:=RD.strs hv;refine aw7 func82 U ayS ?_ U;simp only[ntmps82,avW,avv,av9,Nat.reduceAdd,Nat.reduceSub,aws,awt,awA,awl,avX,av4]
  gi_wp2
  go_ret;exact⟨U,avU _ _⟩
 ·rw[avj ay7]at hF
  by_cases h4:4<(l.length:Int)
  ·rw[avk aAA]at hF
   cases hF;obtain⟨a,b,o,cap,rfl,-⟩:=RD.strs hv;refine aw7 func82 U ayS ?_ U;simp only[ntmps82,avW,avv,av9,Nat.reduceAdd,Nat.reduceSub,aws,awt,awA,awl,avX,av4]
   gi_wp2
   go_ret;exact⟨U,avU _ _⟩
  ·rw[avj aAA]at hF
   obtain⟨c,hc,hF⟩:=avQ.1 hF;have:=aft l c hc h1 h4 w v (M0.of hv);cases c with
   | true=>cases hF;exact this
   | false=>
    simp only[avn,avB]at hF;unfold vT nL at hF;split at hF
    ·cases hF;exact this
    ·cases hF
end Go.Ark.HP
namespace Go.Ark
open Go Go.Ab Go.RowKit Go.Lib Go.Proofs
theorem tN(l:List ByteArray)(r:Bool)(hF:jQ l=some r):Ct prog 82 [bt 1 encS l] (bH r):=HP.tN l r hF
instance(l:List ByteArray):dW prog (jQ l) 82 [bt 1 encS l] bH:=⟨tN l⟩
theorem vG(a b:aF)(r:List au)(hF:lB a b=some r):Ct prog 172 [.g (.agg (bf a)),.g (.agg (bf b))] (fu 2 az r):=HP.vG a b r hF
instance(a b:aF):dW prog (lB a b) 172 [.g (.agg (bf a)),.g (.agg (bf b))] (λr=>fu 2 az r):=⟨vG a b⟩
end Go.Ark
namespace Go.Ark
open Go Go.Ab Go.RowKit Go.Lib Go.Proofs
set_option maxRecDepth 20000
set_option maxHeartbeats 2000000
set_option maxRecDepth 100000
abbrev epS(a b:aF)(q:List au)(i:Int)(l:List aW)(s:SL)(h:HL):St:=⟨(2,.one (.ptr 102 0))::(3,.one (.ptr 103 0))::(5,.one (.own 105 (List.map lz l)))::(12,cP 2 az q)::iS 13 q.length::iS 14 i::s,(102,some (.blk 29 (dat (bf a))))::(103,some (.blk 29 (dat (bf b))))::(105,some (.row 197 4 (List.map lz l) true))::h⟩
set_option maxHeartbeats 4000000 in
instance(a b:aF):dW prog (nW a b) 107 [.g (.agg (bf a)),.g (.agg (bf b))] (λr=>fu 4 lz r):=fV func107 U ntmps107 U U λr C0=>by
 unfold nW
 repeat' (first
  | (show SG (.assign _);first | refine eo U U ?_ | refine gC U uU iI U U U ?_)
  | refine Xf ?_
  | refine qG ?_
  | refine qF ?_
  | refine rJ ?_
  | intro _)
 rename_i q _;have:bT (yq a b q) (λv=>epS a b q v.1 v.2 [] []):=⟨ayS⟩;have:=λg v x n=>(⟨ayS⟩:bT (yt a b g v x n) (λu=>epS a b q v.1 u.2 [(7,.one (.ptr 107 0)),(8,.one (.yh 173 [103,107,102])),iS 20 n,iS 21 u.1] [(107,some (.blk 68 [bS x.From,bS x.To]))]));exact wky
end Go.Ark
namespace Go.Ark
open Go Go.Ab Go.RowKit Go.Proofs
abbrev ala:ByteArray->Value:=λs=>.string s
abbrev adS:List aa->AG:=λl=>.d (.sl 6 (l.map aj))
instance:adM prog 147 9 47 ala:=⟨underlying147,BK.string underlying9⟩
abbrev eA(a:Nat×Nat)(s:aM):OP:=Sep (eu a.1 149 [.sl 2 (s.ranges.map az),.v (.map (some a.2))]) (tJ a.2 (cm ala adS s.aZ))
instance(s:aM):tF prog (uH s) 123 (λa:Nat×Nat=>eA a s) (λa=>[bZ a.1]) (λr=>fu 2 az r):=Mn func123 U ntmps123 (λ_=>rfl) (λ_=>rfl) (λ_=>oM) λa r C0=>by
 unfold uH;exact wk
instance(s:aM)(key:ByteArray):tF prog (mh s key) 111 (λa:Nat×Nat=>eA a s) (λa=>[bZ a.1,fP key]) (λr=>fu 6 aj r):=Mn func111 U ntmps111 (λ_=>rfl) (λ_=>rfl) (λ_=>oM) λa r C0=>by
 unfold mh;exact wk
instance(s:aM)(v:aa):mU prog (zW s v) 188 (λa:Nat×Nat=>eA a s) (λ(a:Nat×Nat)(_:Unit)(r:Bool×aM)=>eA a r.2) (λa=>[bZ a.1,.g (.agg (aj v))]) (λ_ r=>bH r.1):=Gn func188 U ntmps188 (λ_=>rfl) (λ_=>rfl) (λ_=>oM) (λ_ _ _=>oM) λa r C0=>by
 unfold zW;exact wk
instance(s:aM)(key:ByteArray):tF prog (rz s key) 113 (λa:Nat×Nat=>eA a s) (λa=>[bZ a.1,fP key]) (λr=>.eV [.agg (aj r.1),.d (.v (.bool r.2))]):=Mn func113 U ntmps113 (λ_=>rfl) (λ_=>rfl) (λ_=>oM) λa r C0=>by
 unfold rz;exact wk
instance(s:aM)(key:ByteArray)(x:ai):tF prog (Db s key x) 254 (λa:Nat×Nat=>eA a s) (λa=>[bZ a.1,fP key,.g (.agg (aB x))]) (λr=>.eV [.agg (aj r.1),.d (.v (.bool r.2))]):=Mn func254 U ntmps254 (λ_=>rfl) (λ_=>rfl) (λ_=>oM) λa r C0=>by
 unfold Db;exact wk
theorem Qw(a:Nat×Nat)(s:aM)(r:List ByteArray)(hF:mj s=some r):fc prog (γ:=Unit) 112 (eA a s) (λ_=>eA a s) [bZ a.1] (λ_=>fu 1 encS r):=by
 unfold mj at hF;split at hF
 ·rename_i h
  cases hF;exact Ve a s.ranges s.aZ h.1 h.2.1 h.2.2
 ·cases hF
instance(s:aM):tF prog (mj s) 112 (λa:Nat×Nat=>eA a s) (λa=>[bZ a.1]) (λr=>fu 1 encS r):=⟨λ_ r h=>Qw _ s r h⟩
theorem Qv(a:Nat×Nat)(s:aM)(r:List ah)(hF:ry s=some r):fc prog (γ:=Unit) 65 (eA a s) (λ_=>eA a s) [bZ a.1] (λ_=>fu 3 ak r):=by
 apply fc.iB func65 U ntmps65 U U oM hF λC0=>?_;have:=λks=>(⟨ayS⟩:bT (uG s ks) (λv=>⟨[(0,.one (pt a.1 0)),(3,.one (.own 103<|List.map ak v.2)),(9,cP 1 encS ks),(10,aV ks.length),(11,aV v.1)],[kO (eA a s),(103,some (.row 101 3 (List.map ak v.2) true))]⟩));unfold ry;exact wkr
instance(s:aM):tF prog (ry s) 65 (λa:Nat×Nat=>eA a s) (λa=>[bZ a.1]) (λr=>fu 3 ak r):=⟨λ_ r h=>Qv _ s r h⟩
instance(s:aM)(l:List au):mU prog (wR s l) 175 (λa:Nat×Nat=>eA a s) (λ(a:Nat×Nat)(_:Unit)(r:Unit×aM)=>eA a r.2) (λa=>[bZ a.1,bt 2 az l]) (λ_ r=>.eV []):=Gn func175 U ntmps175 (λ_=>rfl) (λ_=>rfl) (λ_=>oM) (λ_ _ _=>oM) λa r C0=>by
 have:=λks=>(⟨ayS⟩:bT (Bd l ks) (λv=>⟨[(0,.one (pt a.1 0)),(1,cP 2 az l),(14,cP 1 encS ks),(15,aV ks.length),(16,aV v.1)],[kO (eA a v.2)]⟩));unfold wR;exact wk
theorem Tb(l:List au)(r:aM)(hF:zV l=some r):fc prog (γ:=Nat×Nat) 47 tH (λg=>eA g r) [bt 2 az l] (λg=>.one (.d (.v (.pointer (some ⟨g.1,0,none⟩))))):=by
 apply fc.iB func47 U ntmps47 U U CS hF λC0=>?_;unfold zV;exact wkn
instance(l:List au):mU prog (zV l) 47 (λ_:Unit=>tH) (λ_(g:Nat×Nat) r=>eA g r) (λ_=>[bt 2 az l]) (λg _=>.one (.d (.v (.pointer (some ⟨g.1,0,none⟩))))):=⟨λ_ r h=>Tb l r h,λ_ _ _=>oM,⟨(0,0)⟩⟩
structure JH where
 b1:Nat
 b2:Nat
abbrev amQ(B:JH)(key:ByteArray)(l:List ai)(vo:Value):OP:=Sep (eu B.b1 9 [.v (.string key)]) (Sep (eu B.b2 174 [.v vo]) (Row vo 53 2 (l.map aB)))
abbrev Tj(B:JH)(key:ByteArray)(l:List ai):OP:=qA λvo=>amQ B key l vo
abbrev ahe(B:JH):Value:=.func (.func 224) #[] #[.pointer (some ⟨B.b1,0,none⟩),.pointer (some ⟨B.b2,0,none⟩)]
abbrev V8(B:JH)(d:ah):List RG:=[.g (.agg (ak d)),AY (.pointer (some ⟨B.b1,0,none⟩)),AY (.pointer (some ⟨B.b2,0,none⟩))]
def FY(key:ByteArray)(l:List ai)(d:ah):Option (Unit×List ai):=if seq d.Key key then(app 16 l [d.aq]).bind λu=>some ((),u)else some ((),l)
theorem ZF(key:ByteArray)(l:List ai)(d:ah)(B:JH)(r:Unit×List ai)(hF:FY key l d=some r):fc prog (γ:=Unit) 224 (Tj B key l) (λ_=>Tj B key r.2) (V8 B d) (λ_=>.eV []):=by
 apply fc.iB func224 U ntmps224 U U oM hF λC0=>?_;refine GF.yZ 1000 U (λ_=>oM) λvo=>?_;unfold FY
 repeat' (first
  | (show SG (.indexAddr _ _ _);first | refine sM U uU iI U U ay2 U ?_)
  | (show SG (.load _ _);first | refine sN 1000 (e:=mV) U uU U U U Jo U U λ_ _=>?_)
  | (show SG (.store _ _ _);first | refine oD 1000 (e:=mV) U iI U U Jo U ay2 U ?_)
  | (show SG (.call ⟨.value<|.tmp _,_,_⟩);first | refine pN 1000 U D2 cI U U U U U (λ_ _=>oM) U ayX λ_ _ _=>?_)
  | refine qG ?_
  | refine qF ?_
  | refine rJ ?_
  | refine rG ?_ ?_
  | exact pq
  | intro _)
instance:EZ prog 9 [.v (.string ByteArray.empty)]:=⟨_,_,_,Qm,⟨.v _ U,ayS⟩,U⟩
instance:EZ prog 174 [.v (.slice none 0 0)]:=⟨_,_,_,SP,⟨.v _ U,ayS⟩,U⟩
instance(key:ByteArray)(l:List ai)(d:ah):mU prog (FY key l d) 224 (λB:JH=>Tj B key l) (λ(B:JH)(_:Unit)(r:Unit×List ai)=>Tj B key r.2) (λB=>V8 B d) (λ_ _=>.eV []):=⟨λB r h=>ZF key l d B r h,λ_ _ _=>oM,⟨()⟩⟩
def TI(_B:JH)(s:aM)(st:ai)(key:ByteArray)(again:Int×aM->Option (Unit×aM))(i:Int)(l:List ai):Option (Unit×aM):=(ow (aQ s key) st l).bind λc=>again (IntKind.wrap .i64 (i+1),{ s with aZ:=cw s.aZ key c })
def OA(_B:JH)(pins:List ah)(key:ByteArray)(kx:List ai->Option (Unit×aM))(again:Int×List ai->Option (Unit×aM))(v:Int×List ai):Option (Unit×aM):=
 if decide (v.1<(pins.length:Int))then
  (idx pins v.1).bind λd=>(FY key v.2 d).bind λu=>again (IntKind.wrap .i64<|v.1+1,u.2)
 else kx v.2
theorem XD(B:JH)(pins:List ah)(key:ByteArray)(kx:List ai->Option (Unit×aM)):ku pins key kx=OA B pins key kx:=by
 funext again v;unfold ku OA;congr 1;congr 1;funext d;unfold FY;cases seq d.Key key with
 | true=>simp only[avM,Option.bind_assoc,avi]
 | false=>rfl
theorem ahf(B:JH)(a:Nat×Nat)(s:aM)(st:ai)(key:ByteArray)(pins:List ah)(ks:List ByteArray)(again:Int×aM->Option (Unit×aM))(i:Int)(l:List ai):EX (TI B s st key again i l)
  ⟨[(0,.one (pt a.1 0)),(2,cP 3 ak pins),(4,.one (.ptr 104 0)),(7,.one (pt B.b1 0)),(8,.one (pt B.b2 0)),(13,cP 1 encS ks),(14,aV ks.length),(15,aV i)],[kO (eA a s),(1001,some (.obj<|Tj B key l)),(104,some (.blk 53<|dat<|aB st))]⟩
  ⟨[(0,.one (pt a.1 0)),(2,cP 3 ak pins),(4,.one (.ptr 104 0)),(7,.one (pt B.b1 0)),(8,.one (pt B.b2 0)),(13,cP 1 encS ks),(14,aV ks.length),(15,aV i)],[kO (eA a s),(1001,some (.obj<|Sep (eu B.b1 9 [.v (.string key)])<|eu B.b2 174 [.sl 2 (l.map aB)])),(104,some (.blk 53<|dat<|aB st))]⟩:=⟨λC0 a w q=>by
 obtain⟨vo,q1⟩:=q.yZ 1001 U (λ_=>oM);refine(q1.vs 1001 U (B:=Sep (eu B.b1 9 [.v (.string key)])<|eu B.b2 174 [.sl 2 (l.map aB)]) ?_ oM).cv ⟨U,U,U,U,U,U,U,U,ayS⟩ ⟨U,U,U,ayS⟩ U
 refine VS.trans (VS.same λM w O q=>⟨(),acM q⟩) (VS.frz (cs':=[.sl 2 (l.map aB)]) oM U (λj d h=>by
  cases j with
  | zero=>simp at h;subst h;exact .inr ⟨U,U⟩
  | succ j=>simp at h))⟩
theorem MY(a:Nat×Nat)(s:aM)(st:ai)(pins:List ah)(r:Unit×aM)(hF:oV s st pins=some r):fc prog (γ:=Unit) 168 (eA a s) (λ_=>eA a r.2) [bZ a.1,.g (.agg (aB st)),bt 3 ak pins] (λ_=>.eV []):=by
 apply fc.iB func168 U ntmps168 U U oM hF λC0=>?_;unfold oV
 repeat' (first
  | refine qG ?_
  | refine qF ?_
  | refine rJ ?_
  | refine rG ?_ ?_
  | exact pq
  | intro _)
 rename_i ks _;have:bT (sy st pins ks) (λv=>⟨[(0,.one (pt a.1 0)),(2,cP 3 ak pins),(4,.one (.ptr 104 0)),(13,cP 1 encS ks),(14,aV ks.length),(15,aV v.1)],[kO (eA a v.2),(104,some (.blk 53<|dat<|aB st))]⟩):=⟨ayS⟩;refine GF.acd loI (λ_ _ q=>q.cv ⟨U,U,U,U,U,U,ayS⟩ ⟨U,U,ayS⟩ U) (λK again v cW=>?_);refine GF.pre (λa w q=>q.D5 1001 U U) ?_;unfold sy
 repeat' (first
  | (show SG (.alloc _);first | refine iK 1001 U zR U U ayX λ_=>?_)
  | (show SG (.load _ _);first | refine F8 1001 U uU U U U Jo U U ?_)
  | (show SG (.store _ _ _);first | refine HA 1001 U iI U U U Jo U ?_)
  | (show SG (.call ⟨.value<|.tmp _,_,_⟩);first | refine F7 1001 U D2 cI U U U U hI U ayX λ_ _ _=>?_)
  | refine qG ?_
  | refine qF ?_
  | refine rJ ?_
  | refine rG ?_ ?_
  | exact pq
  | intro _)
 case refine_1=>
 rename_i key _ b7 b8;refine GF.vs 1001 (B:=λ_:Unit=>Tj ⟨b7,b8⟩ key []) ?_ (λ_=>oM) U (λ_=>?_)
 ·refine VS.same λM w O q=>⟨(),.slice none 0 0,?_⟩
  have q1:=Lx (T:=53) (size:=2) ayZ q;have q2:Sep (Sep (Sep tH<|eu b7 9 [.v (.string key)])<|eu b8 174 [.v (.slice none 0 0)]) (Row (.slice none 0 0) 53 2 []) M w O:=q1;rw[TT]at q2;exact SA q2
 refine GF.eq (F':=aR (OA ⟨b7,b8⟩ pins key<|TI ⟨b7,b8⟩ v.2 st key again v.1) FU (0,[])) (by rw[<-XD ⟨b7,b8⟩];rfl) ?_;have:bT (OA ⟨b7,b8⟩ pins key<|TI ⟨b7,b8⟩ v.2 st key again v.1) (λu=>⟨[(0,.one (pt a.1 0)),(2,cP 3 ak pins),(4,.one (.ptr 104 0)),(13,cP 1 encS ks),(14,aV ks.length),(15,aV v.1),
  (7,.one (pt b7 0)),(8,.one (pt b8 0)),(9,.one (dv (ahe ⟨b7,b8⟩))),(20,cP 3 ak pins),(21,aV pins.length),(22,aV u.1)],[kO (eA a v.2),(1001,some (.obj (Tj ⟨b7,b8⟩ key u.2))),(104,some (.blk 53 (dat (aB st))))]⟩):=⟨ayS⟩
 have:=λ(s:aM) i l=>ahf ⟨b7,b8⟩ a s st key pins ks again i l
 repeat' (first
  | (show SG (.load _ _);first | refine F8 1001 U uU U U U Jo U U ?_)
  | (show SG (.call ⟨.value<|.tmp _,_,_⟩);first | refine F7 1001 U D2 cI U U U U hI U ayX λ_ _ _=>?_)
  | refine qG ?_
  | refine qF ?_
  | refine rJ ?_
  | refine rG ?_ ?_
  | exact pq
  | intro _)
instance(s:aM)(st:ai)(pins:List ah):mU prog (oV s st pins) 168 (λa:Nat×Nat=>eA a s) (λa(_:Unit) r=>eA a r.2) (λa=>[bZ a.1,.g (.agg (aB st)),bt 3 ak pins]) (λ_ _=>.eV []):=⟨λ_ r h=>MY _ s st pins r h,λ_ _ _=>oM,⟨()⟩⟩
end Go.Ark
