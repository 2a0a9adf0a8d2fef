/- Machine, typed functions, plain laws and walks, part 7, for TopCleans. Conditions: none but those that stand in each law. -/
import Derived.Test.YtgjndeeaafimiaaGreatD6
import Derived.Test.YtgjndeeaafimiaaGreatD5
set_option linter.all false
open Go.Proofs.Tryz
namespace Go.Ark
open Go Go.Ab Go.RowKit Go.Lib Go.Proofs
set_option maxRecDepth 20000
set_option maxHeartbeats 2000000
set_option maxRecDepth 100000
theorem aj4:cG prog 128:=λargs w=>call128 args w
theorem afX:cG prog 130:=λargs w=>call130 args w
theorem afY:cG prog 146:=λargs w=>call146 args w
theorem afZ:cG prog 148:=λargs w=>call148 args w
theorem af0:cG prog 183:=λargs w=>call183 args w
theorem aj5:cG prog 195:=λargs w=>call195 args w
theorem aj6:cG prog 196:=λargs w=>call196 args w
theorem aj7:cG prog 197:=λargs w=>call197 args w
theorem af3:cG prog 198:=λargs w=>call198 args w
theorem aj8:cG prog 201:=λargs w=>call201 args w
theorem am5:cG prog 30:=λargs w=>call30 args w
instance(gM:aF):dW prog (ja gM) 24 [.g (.agg (bf gM))] j7:=fV func24 U ntmps24 U U λr C0=>by
 unfold ja;exact jm
set_option maxHeartbeats 4000000 in
instance(aL:ByteArray):dW prog (vY aL) 199 [fP aL] j7:=fV func199 U ntmps199 U U λr C0=>by
 have:bT (yx aL) (λ(v3:Int×Nat)=>⟨[(0,.one (bS aL)),(3,aV v3.1),(7,.one (.ptr 107 0))],[(107,some (.it aL v3.2))]⟩):=⟨ayS⟩;unfold vY;exact M4
instance(aL:ByteArray):dW prog (lK aL) 139 [fP aL] bH:=fV func139 U ntmps139 U U λr C0=>by
 have:bT (si aL) (λ(v5:Bool×Nat)=>⟨[(4,.one (bB v5.1)),(16,.one (.ptr 116 0))],[(116,some (.it aL v5.2))]⟩):=⟨ayS⟩;unfold lK;exact M4
instance(aL:ByteArray):dW prog (oJ aL) 181 [fP aL] bH:=fV func181 U ntmps181 U U λr C0=>by
 unfold oJ;exact jm
instance(zf:au):dW prog (qU zf) 114 [.g (.agg (az zf))] bH:=fV func114 U ntmps114 U U λr C0=>by
 unfold qU;exact jm
set_option maxHeartbeats 4000000 in
instance(bC:(List au)):dW prog (vZ bC) 66 [bt 2 az bC] bH:=fV func66 U ntmps66 U U λr C0=>by
 have:bT (yy bC) (λ(v4:ByteArray×Int)=>⟨[(0,cP 2 az bC),(3,.one (bS v4.1)),(6,cP 2 az bC),(7,aV (bC.length:Int)),(8,aV v4.2)],[]⟩):=⟨ayS⟩;unfold vZ;exact jm
set_option maxHeartbeats 4000000 in
instance(gM:aF):dW prog (mB gM) 41 [.g (.agg (bf gM))] bH:=fV func41 U ntmps41 U U λr C0=>by
 have:=λ(r1:Int)=>(⟨ayS⟩:bT (xd gM r1) (λ(v6:Int)=>⟨[(3,aV r1),(36,cP 1 ay gM.cq),(37,aV (gM.cq.length:Int)),(38,aV v6)],[]⟩));unfold mB;exact jm
instance(aL:(List Int))(v_1:Int):dW prog (rF aL v_1) 68 [bt 1 ay aL,bV v_1] j7:=fV func68 U ntmps68 U U λr C0=>by
 have:bT (um aL v_1) (λ(v3:Int)=>⟨[(0,cP 1 ay aL),(1,aV v_1),(7,aV (aL.length:Int)),(8,aV v3)],[]⟩):=⟨ayS⟩;unfold rF;exact jm
variable{p:Prop}
theorem Nl(h:p:=by
 refine sr<|p00 (iG (c:=.x<|.slice none 0 0) (Ev.x _) U)<|eO<|sq<|sr<|mv U U<|?_;refine G.alp uU ev U z1 (λalm abV=>?_);refine eO<|?_;refine G.cond U (λhx=>?_) (λhx=>?_)
 ·replace hF:=aax (abV hx) hF
  refine sr<|p00 (iG (c:=.x<|.slice none 0 0) (Ev.x _) U)<|eO<|?_;have hF:=aww hF;subst hF;exact G.aiE (T:=v_1) v_2 LX U z1
 clear abV;refine sk<|sr<|q01 (Sd (kk:=2005) uU LX U U) U<|?_;refine G.keep (sl':=[(0,cP v_4 Z3 aL),(2,.one (.x<|.slice none 0 0)),(3,cP v_4 Z3 aL),(4,.one (bB alm)),(5,.one (.own 2005<|List.map Z3 ([]:List v_6)))]) (dg:=[(2005,some (.row v_1 v_4 (List.map Z3 ([]:List v_6)) true))]) z5 z1 U ?_;refine mv U U<|bn hF λl2 hl2 hF=>q21 (KV uU LX U (adX hl2 Z3) (agY hl2 Z3) (agZ hl2 Z3) ev ev U) U U U<|av U U<|eO<|?_;have hF:=aww hF;subst hF;exact G.A4 v_2 U U):p:=h
theorem BX(aL:(List au))(r:(List au))(hF:di aL=some r):Ct prog 43 [bt 2 az aL] (.new 68 2 (List.map az r)):=by
 unfold di at hF;refine Ct.intro func43 U ntmps43 U U λM w=>?_
 let v_1:=(68:Nat)
 have v_2:=@results43;have LX:=@MN
 let v_4:=(2:Nat)
 let Z3:=az
 let v_6:=au
 exact Nl
instance(aL:(List au)):dW prog (di aL) 43 [bt 2 az aL] (λr=>fu 2 az r):=⟨λr h=>(BX aL r h).data⟩
theorem D9(aL:(List Int))(r:(List Int))(hF:fC aL=some r):Ct prog 44 [bt 1 ay aL] (.new 3 1 (List.map ay r)):=by
 unfold fC at hF;refine Ct.intro func44 U ntmps44 U U λM w=>?_
 let v_1:=(3:Nat)
 have v_2:=@results44;have LX:=@xR
 let v_4:=(1:Nat)
 let Z3:=ay
 let v_6:=Int
 exact Nl
instance(aL:(List Int)):dW prog (fC aL) 44 [bt 1 ay aL] (λr=>fu 1 ay r):=⟨λr h=>(D9 aL r h).data⟩
instance(Fh:Int)(cL:Int):dW prog (rL Fh cL) 48 [bV Fh,bV cL] bH:=fV func48 U ntmps48 U U λr C0=>by
 unfold rL;exact jm
set_option maxHeartbeats 4000000 in
instance(gM:aF)(cL:Int):dW prog (iZ gM cL) 28 [.g (.agg (bf gM)),bV cL] (λr=>fu 2 az r):=fV func28 U ntmps28 U U λr C0=>by
 have:bT (tW gM cL) (λ(v5:Int×(List au))=>⟨[(1,aV cL),(2,.one (.ptr 102 0)),(5,.one (.own 105<|List.map az v5.2)),(12,cP 2 az gM.bP),(13,aV (gM.bP.length:Int)),(14,aV v5.1)],[(102,some (.blk 29 [.g (.d<|.sl 2<|List.map az gM.bP),.g (.d<|.sl 1<|List.map ay gM.cq),.g (.d<|.sl 1<|List.map ay gM.aK)])),(105,some (.row 68 2 (List.map az v5.2) true))]⟩):=⟨ayS⟩;unfold iZ;exact wkq
instance(Qd:Int):dW prog (vF Qd) 29 [bV Qd] (λr=>.one (.agg (cu r))):=fV func29 U ntmps29 U U λr C0=>by
 unfold vF;exact jm
instance(e_0:Int):dW prog (Kk e_0) 32 [bV e_0] (λr=>.one (.agg (aU r))):=fV func32 U ntmps32 U U λr C0=>by
 unfold Kk;exact jm
instance(zf:au)(cy:ByteArray):dW prog (zF zf cy) 108 [.g (.agg (az zf)),fP cy] bH:=fV func108 U ntmps108 U U λr C0=>by
 unfold zF;exact jm
instance(zf:au)(c0:ByteArray):dW prog (sQ zf c0) 122 [.g (.agg (az zf)),.ep [.v (.string c0)]] bH:=E3 func122 U ntmps122 U U λr C0=>by
 unfold sQ;exact jm
instance(c0:ByteArray):BU prog (λx=>.agg (az x)) (λy=>.bool y) (λx0=>sQ x0 c0) 122 [.ep [.v (.string c0)]]:=⟨λ_=>tI⟩
theorem ajD(h:p:=by
 refine sr<|ac U U<|eO<|sq<|sr<|mv U U<|?_;refine xx (Jy uU ev U) U<|p00 (kQ (ec U) U)<|eO<|?_;refine G.RQ (T:=Unit) (λy1=>⟨[],[]⟩) (λy1=>al7 y1=some r) (λy1 hF=>?_) (λJ2=>?_)
 ·refine sr<|ac U U<|eO<|?_
  have hF:=aww hF;subst hF;exact G.MA al8 (sD.tmp 4 _) z1 ayS
 refine bl<|?_;refine lF (λ(v3:Int)=>⟨[(0,cP al9 agy aL),(1,.one (.sem<|rq (λx=>.agg<|agy x) (λy=>.bool y) jH)),(7,aV (aL.length:Int)),(8,aV v3)],[]⟩) hF z4 ayS U (λK6 aT v3 J4 hF=>?_);refine sr<|PT (CU ev ev U) U U<|eO<|sq<|?_;refine U6 hF (λhc7 hF=>?_) (λhc7 hF=>?_)
 ·refine cT hc7 U<|sk<|sq<|bl<|sr<|mv U U<|?_
  refine av U U<|Te<|mv U U<|mv U U<|mv U U<|bn hF λx8 hx8 hF=>?_;refine PT (zH hx8 uU ama ev ev U) U U<|xx (DM (ds:=(agy x8)) uU U ama U ev U) U<|bn hF λr9 hr9 hF=>PT (q8 (t:=11) (v:=.bool r9) (Φ:=rq (λx=>.agg<|agy x) (λy=>.bool y) jH) ⟨x8,r9,U,hr9,U⟩ U (.cons ev .nil) U) U U<|eO<|?_;refine U6 hF (λKn hF=>?_) (λKn hF=>?_)
  ·refine cT Kn U<|sr<|mv U U<|av U U<|eO<|?_
   have hF:=aww hF;subst hF;exact G.MA al8 (sD.tmp 4 _) z1 ayS
  refine cF Kn U<|sk<|eB<|rg<|xx (qZ ev (ec U) U) U<|mv U U<|?_;refine eO<|?_;exact G.arr (J4 (IntKind.wrap .i64<|v3+1) hF) z4 ayS U
 refine cF hc7 U<|ex<|?_;refine GX.c ?_;refine GX.q ?_;refine xY<|?_;exact G.arr (J2 () hF) ayS ayS U):p:=h
theorem Ue(h:p:=by
 let al7:=ajq
 have al8:=@afN
 let al9:=(ajr:Nat)
 let agy:=ZA
 have ama:=@afO;exact ajD):p:=h
theorem xp(aL:(List au))(jH:(au->Option Bool))(r:Int)(hF:dV aL jH=some r):Ct prog 121 [bt 2 az aL,.sem (rq (λx=>.agg (az x)) (λy=>.bool y) jH)] (j7 r):=by
 unfold dV at hF;refine Ct.intro func121 U ntmps121 U U λM w=>?_
 let ajq:=iC
 have afN:=@results121
 let ajr:=(2:Nat)
 let ZA:=az
 have afO:=@MN;exact Ue
instance(aL:(List au))(jH:(au->Option Bool)):CtS prog (dV aL jH) 121 (.d (.sl 2 (List.map az aL))) (λx=>.agg (az x)) (λy=>.bool y) jH j7:=⟨xp aL jH,λ_=>rfl⟩
instance(bC:(List au))(cy:ByteArray):dW prog (fT bC cy) 70 [bt 2 az bC,fP cy] j7:=fV func70 U ntmps70 U U λr C0=>by
 unfold fT;exact jm
instance(gM:aF)(cy:ByteArray):dW prog (jY gM cy) 116 [.g (.agg (bf gM)),fP cy] j7:=fV func116 U ntmps116 U U λr C0=>by
 unfold jY;exact jm
instance(eZ:Int)(c0:(List Int)):dW prog (uM eZ c0) 238 [bV eZ,.ep [.sl 1 (List.map ay c0)]] bH:=E3 func238 U ntmps238 U U λr C0=>by
 unfold uM;exact jm
instance(c0:(List Int)):BU prog (λx=>.d (.v (.int .i64 x))) (λy=>.bool y) (λx0=>uM x0 c0) 238 [.ep [.sl 1 (List.map ay c0)]]:=⟨λ_=>tI⟩
theorem ads(h:p:=by
 refine sr<|ac U U<|eO<|sq<|sr<|mv U U<|?_;refine xx (Jy uU ev U) U<|p00 (kQ (ec U) U)<|eO<|?_;refine G.RQ (T:=Unit) (λy1=>⟨[],[]⟩) (λy1=>amc y1=some r) (λy1 hF=>?_) (λJ2=>?_)
 ·refine sr<|ac U U<|eO<|?_
  have hF:=aww hF;subst hF;exact G.MA akU (sD.tmp 4 _) z1 ayS
 refine bl<|?_;refine lF (λ(v3:Int)=>⟨[(0,cP 1 amU aL),(1,.one (.sem<|rq (λx=>.d<|.v<|ak1 x) (λy=>.bool y) jH)),(7,aV (aL.length:Int)),(8,aV v3)],[]⟩) hF z4 ayS U (λK6 aT v3 J4 hF=>?_);refine sr<|PT (CU ev ev U) U U<|eO<|sq<|?_;refine U6 hF (λhc7 hF=>?_) (λhc7 hF=>?_)
 ·refine cT hc7 U<|sk<|sq<|bl<|sr<|mv U U<|?_
  refine av U U<|Te<|mv U U<|mv U U<|mv U U<|bn hF λx8 hx8 hF=>?_;refine PT (zH hx8 uU amV ev ev U) U U<|xx (NQ uU U U ev U) U<|bn hF λr9 hr9 hF=>PT (q8 (t:=11) (v:=.bool r9) (Φ:=rq (λx=>.d<|.v<|ak1 x) (λy=>.bool y) jH) ⟨x8,r9,U,hr9,U⟩ U (.cons ev .nil) U) U U<|eO<|?_;refine U6 hF (λKn hF=>?_) (λKn hF=>?_)
  ·refine cT Kn U<|sr<|mv U U<|av U U<|eO<|?_
   have hF:=aww hF;subst hF;exact G.MA akU (sD.tmp 4 _) z1 ayS
  refine cF Kn U<|sk<|eB<|rg<|xx (qZ ev (ec U) U) U<|mv U U<|?_;refine eO<|?_;exact G.arr (J4 (IntKind.wrap .i64<|v3+1) hF) z4 ayS U
 refine cF hc7 U<|ex<|?_;refine GX.c ?_;refine GX.q ?_;refine xY<|?_;exact G.arr (J2 () hF) ayS ayS U):p:=h
theorem oB(aL:(List Int))(jH:(Int->Option Bool))(r:Int)(hF:cM aL jH=some r):Ct prog 183 [bt 1 ay aL,.sem (rq (λx=>.d (.v (.int .i64 x))) (λy=>.bool y) jH)] (j7 r):=by
 unfold cM at hF;refine Ct.intro func183 U ntmps183 U U λM w=>?_
 let amc:=jD
 have akU:=@results183
 let amU:=ay
 let ak1:=(λx=>Value.int .i64 x)
 have amV:=@xR;exact ads
theorem adu(h:p:=by
 refine sr<|ac U U<|Te<|mv U U<|mv U U<|bn hF λr1 Mf hF=>?_;refine PT (nC amZ (am0 _ _ _ Mf) U U (.cons qe<|.cons (.sem ev) .nil) U) U U<|xx (Vt ev (ec U) U) U<|av U U<|eO<|?_;have hF:=aww hF;subst hF;exact G.MA am1 (sD.tmp 4 _) z1 ayS):p:=h
theorem vI(aL:(List Int))(jH:(Int->Option Bool))(r:Bool)(hF:bX aL jH=some r):Ct prog 124 [bt 1 ay aL,.sem (rq (λx=>.d (.v (.int .i64 x))) (λy=>.bool y) jH)] (bH r):=by
 unfold bX at hF;refine Ct.intro func124 U ntmps124 U U λM w=>?_;have amZ:=@af0;have am0:=@oB;have am1:=@results124;exact adu
instance(aL:(List Int))(jH:(Int->Option Bool)):CtS prog (bX aL jH) 124 (.d (.sl 1 (List.map ay aL))) (λx=>.d (.v (.int .i64 x))) (λy=>.bool y) jH bH:=⟨vI aL jH,λ_=>rfl⟩
instance(dS:(List Int))(a_1:Int)(b_2:Int):dW prog (D1 dS a_1 b_2) 185 [bt 1 ay dS,bV a_1,bV b_2] bH:=fV func185 U ntmps185 U U λr C0=>by
 unfold D1;exact jm
theorem zdT(h:p:=by repeat(first | exact ayS | refine⟨by first | exact .v _ U | exact .n _,?_⟩)):p:=h
theorem adp(h:p:=by
 refine sr<|p00 (iG (c:=.x<|.slice none 0 0) (Ev.x _) U)<|Te<|mv U U<|mv U U<|bn hF λr1 Mf hF=>?_;refine p21 (nC aiC (aiF _ _ _ Mf) U U (.cons (.own ev)<|.cons (.sem ev) .nil) U) U U U<|av U U<|eO<|sq<|sr<|mv U U<|?_;refine xx (PI ev (ec U) U) U<|eO<|?_;refine U6 hF (λYg hF=>?_) (λYg hF=>?_)
 ·refine cT Yg U<|sr<|mv U U<|av U U<|eO<|?_
  have hF:=aww hF;subst hF;exact G.A4 adD U U
 refine cF Yg U<|sk<|sq<|sr<|mv U U<|xx (qZ ev (ec U) U) U<|?_;refine av U U<|eO<|?_;refine G.RQ (T:=Int×(List adE)) (λy3=>⟨[(0,.one (.own 0<|List.map aaf y3.2)),(5,aV y3.1)],[(0,some (.row adF 1 (List.map aaf y3.2) true))]⟩) (λy3=>aiG y3=some r) (λy3 hF=>?_) (λJ6=>?_)
 ·refine sr<|mv U U<|mv U U<|bn hF λl4 mX hF=>?_
  refine G.QX (zs:=aiI) uU ab3 zdT U (vw mX aaf).1 (vw mX aaf).2.1 (vw mX aaf).2.2 ev ev U z2 U ?_
  refine G.renew (t:=0) U U (BJ mX aaf) ?_;refine G.renew (t:=36) U U (BJ mX aaf) ?_;refine Te<|mv U U<|mv U U<|bn hF λl5 hl5 hF=>?_;refine G.aaB (sl':=[(5,aV y3.1),(37,aV y3.1),(40,aV y3.1)]) uU ab3 (uJ hl5 aaf).1 (uJ hl5 aaf).2.1 (uJ hl5 aaf).2.2 ev ev U z2 U z3 U ?_
  refine av U U<|eO<|?_;have hF:=aww hF;subst hF;exact G.A4 adD U U
 refine bl<|?_;refine lF (λ(v7:Int×Int×(List adE))=>⟨[(0,.one (.own 0<|List.map aaf v7.2.2)),(1,.one (.sem<|rq (λx=>.d<|.v<|ab1 x) (λy=>.bool y) dr)),(5,aV v7.1),(6,aV v7.2.1)],[(0,some (.row adF 1 (List.map aaf v7.2.2) true))]⟩) hF z4 z1 U (λK10 qI v7 J8 hF=>?_);refine sq<|sr<|mv U U<|mv U U<|QF (WU uU ev U) U U<|PT (CU ev ev U) U U<|?_;refine eO<|?_;refine U6 hF (λUR hF=>?_) (λUR hF=>?_)
 ·refine cT UR U<|sk<|sq<|bl<|sr<|mv U U<|?_
  refine mv U U<|bn hF λI0 Yo hF=>p21 (DL (cs:=[.v (ab1 I0)]) uU ab3 (Ff Yo).1 (rX Yo aaf) ev ev U) U U U<|QF (YQ (i:=Int.toNat v7.2.1) (f:=0) (size:=1) (cs:=[.v (ab1 I0)]) uU U (rX Yo aaf) U ev U) U U<|av U U<|Te<|?_;refine mv U U<|mv U U<|bn hF λMw ahY hF=>PT (q8 (t:=26) (v:=.bool Mw) (Φ:=rq (λx=>.d<|.v<|ab1 x) (λy=>.bool y) dr) ⟨I0,Mw,U,ahY,U⟩ U (.cons ev .nil) U) U U<|xx (KY ev U) U<|eO<|?_;refine U6 hF (λUS hF=>?_) (λUS hF=>?_)
  ·refine cT US U<|sr<|mv U U<|mv U U<|mv U U<|bn hF λx15 ah6 hF=>?_
   refine p21 (DL (cs:=[.v (ab1 x15)]) uU ab3 (Ff ah6).1 (rX ah6 aaf) ev ev U) U U U<|bn hF λl16 abP hF=>w21 (Vv (i:=Int.toNat v7.1) (f:=0) (size:=1) (cs:=[.v (ab1 x15)]) (cs':=[.v (ab1 I0)]) (d:=.v<|ab1 I0) ab3 (rX ah6 aaf) U U (GQ abP aaf).2.2 ev ev) U U U<|?_;refine G.renew (t:=0) U U (qi abP aaf) ?_;refine G.renew (t:=17) U U (qi abP aaf) ?_;refine G.renew (t:=22) U U (qi abP aaf) ?_;refine G.renew (t:=30) U U (qi abP aaf) ?_;refine eO<|rg<|mv U U<|xx (qZ ev (ec U) U) U<|av U U<|eO<|?_;refine eB<|rg<|mv U U<|xx (qZ ev (ec U) U) U<|av U U<|eO<|?_;exact G.arr (J8 (IntKind.wrap .i64<|v7.1+1,IntKind.wrap .i64 (v7.2.1+1),l16) hF) z4 z1 U
  refine cF US U<|sk<|eB<|rg<|mv U U<|xx (qZ ev (ec U) U) U<|?_;refine av U U<|eO<|?_;exact G.arr (J8 (v7.1,IntKind.wrap .i64 (v7.2.1+1),v7.2.2) hF) z4 z1 U
 refine cF UR U<|ex<|?_;refine GX.c ?_;refine GX.q ?_;refine xY<|?_;exact G.arr (J6 (v7.1,v7.2.2) hF) z2 z1 U):p:=h
theorem ym(aL:(List Int))(dr:(Int->Option Bool))(r:(List Int))(hF:er aL dr=some r):Ct prog 119 [.row 3 1 (List.map ay aL),.sem (rq (λx=>.d (.v (.int .i64 x))) (λy=>.bool y) dr)] (.new 3 1 (List.map ay r)):=by
 unfold er at hF;refine Ct.Gi func119 U ntmps119 U λM K w=>?_;have aiC:=@af0;have aiF:=@oB;have adD:=@results119
 let adE:=Int
 let aaf:=ay
 let adF:=(3:Nat)
 let aiG:=jh
 let aiI:=([.v (.int .i64 0)]:List DV)
 have ab3:=@xR
 let ab1:=(λx=>Value.int .i64 x)
 exact adp
instance(aL:(List Int))(dr:(Int->Option Bool)):CtD prog (er aL dr) 119 3 1 (List.map ay aL) (λx=>.d (.v (.int .i64 x))) (λy=>.bool y) dr (λr=>(List.map ay r)):=⟨ym aL dr⟩
instance(eZ:ai)(b_1:ai):dW prog (fZ eZ b_1) 100 [.g (.agg (aB eZ)),.g (.agg (aB b_1))] bH:=fV func100 U ntmps100 U U λr C0=>by
 unfold fZ;exact jm
instance(bC:(List ai)):dW prog (jF bC) 128 [bt 2 aB bC] (λr=>.one (.agg (aB r))):=fV func128 U ntmps128 U U λr C0=>by
 have:bT (Bp bC) (λ(v3:Int×Int×Int)=>⟨[(2,.one (.ptr 102 0)),(3,.one (.ptr 103 0)),(6,cP 2 aB bC),(7,aV (bC.length:Int)),(8,aV v3.1)],[(102,some (.blk 53 [bI .i64 0,bI .i64 0])),(103,some (.blk 53 [bI .i64 v3.2.1,bI .i64 v3.2.2]))]⟩):=⟨ayS⟩;unfold jF;exact jm
instance(Bb:ai)(cL:Int):dW prog (wZ Bb cL) 129 [.g (.agg (aB Bb)),bV cL] (λr=>.eV [.agg (aB r.1),.d (.v (.int .i64 r.2))]):=fV func129 U ntmps129 U U λr C0=>by
 unfold wZ;exact jm
theorem jq(aL:(List ah))(r:(List ah))(hF:cE aL=some r):Ct prog 130 [bt 3 ak aL] (.new 101 3 (List.map ak r)):=by
 unfold cE at hF;refine Ct.intro func130 U ntmps130 U U λM w=>?_
 let v_1:=(101:Nat)
 have v_2:=@results130;have LX:=@xQ
 let v_4:=(3:Nat)
 let Z3:=ak
 let v_6:=ah
 exact Nl
instance(aL:(List ah)):dW prog (cE aL) 130 [bt 3 ak aL] (λr=>fu 3 ak r):=⟨λr h=>(jq aL r h).data⟩
instance(aL:(List ah)):CtN prog (cE aL) 130 [bt 3 ak aL] 101 3 (λr=>(List.map ak r)):=⟨jq aL⟩
end Go.Ark
