/- Machine, typed functions, plain laws and walks, part 9, for TopCleans. Conditions: none but those that stand in each law. -/
import Derived.Test.YtgjndeeaafimiaaGreatD8
set_option linter.all false
open Go.Proofs.Tryz
namespace Go.Ark
open Go Go.Ab Go.RowKit Go.Lib Go.Proofs
set_option maxRecDepth 20000
set_option maxHeartbeats 2000000
set_option maxRecDepth 100000
instance(dS:(List ah))(cy:ByteArray):dW prog (uZ dS cy) 195 [bt 3 ak dS,fP cy] (λr=>.eV [.d (.v (.int .i64 r.1)),.d (.v (.bool r.2))]):=fV func195 U ntmps195 U U λr C0=>by
 unfold uZ;exact wkf
theorem AH:(prog.info? 101).map (λi=>(i.zero,i.size,i.bytes))=some (some (.agg #[.string ByteArray.empty,.int .i64 0,.int .i64 0]:Value),3,32):=by kernel_rfl
theorem Yv(args:Array Value)(w w':World)(v:Value)(h:(Extern.SlicesOverlaps.overlaps #[40,40] #[4] args).run prog w= .ok v w'):(callFunc 247 args).run prog w= .ok (.value v) w':=by
 have v_8:=@func247
 let v_9:=(40:Nat)
 exact TY
theorem RO(b n c i vb voff vc:Nat)(cs vs:List Value)(w:World)(hi:i<n)(hroom:n+1<=c)(hc63:c<=9223372036854775807)(hvb:vb≠b)
  (hcl:cs.length=n*3) (hvl:vs.length=3)
  (hcs:∀j v,cs[j]? =some v->w.cell? ⟨b,j,none⟩=some v) (hsp:∀j,j<(n+1)*3->(w.cell? ⟨b,j,none⟩).isSome=true) (hfz:∀j,j<(n+1)*3->w.frozen? ⟨b,j,none⟩=false)
  (hvs:∀j v,vs[j]? =some v->w.cell? ⟨vb,voff+j,none⟩=some v) (h1c:∀v∈cs,v.oneCell'=true) (h1v:∀v∈vs,v.oneCell'=true)
  (hov:∀lb cb,(callFunc 247 #[.slice (some ⟨vb,voff,none⟩) 1 vc,.slice (some ⟨b,(i+1)*3,none⟩) lb cb]).run prog w= .ok (.value<|.bool false) w):
  Calls prog 197 #[.slice (some ⟨b,0,none⟩) n c,.int .i64 i,.slice (some ⟨vb,voff,none⟩) 1 vc] w λe w'=>
   e= .returned (.slice (some ⟨b,0,none⟩) (n+1) c)/\w'=(w.drew.setCells b ((i+1)*3)<|cs.drop<|i*3).setCells b (i*3) vs:=by
 have aiL:=@underlying40;have aiM:=@isAgg40;have aiN:=@sizeOf40;have aiO:=@zeroValue40;have aiP:=@sizeOf101
 let Qr:=(101:Nat)
 let qB:=(3:Nat)
 have aiQ:=@AH
 let G3:=(40:Nat)
 have aiR:=@func197;have aiS:=@ntmps197;exact TZ
theorem Vb(b n c vb voff vc:Nat)(vs:List Value)(w:World)(hroom:n+1<=c)(hc63:c<=9223372036854775807)(hvl:vs.length=3)
  (hsp:∀j,j<3->(w.cell? ⟨b,n*3+j,none⟩).isSome=true) (hfz:∀j,j<3->w.frozen? ⟨b,n*3+j,none⟩=false)
  (hvs:∀j v,vs[j]? =some v->w.cell? ⟨vb,voff+j,none⟩=some v) (h1v:∀v∈vs,v.oneCell'=true):
  Calls prog 197 #[.slice (some ⟨b,0,none⟩) n c,.int .i64 n,.slice (some ⟨vb,voff,none⟩) 1 vc] w λe w'=>
   e= .returned (.slice (some ⟨b,0,none⟩) (n+1) c)/\w'=w.setCells b (n*3) vs:=by
 have aiT:=@underlying40;have aiU:=@isAgg40;have aiV:=@sizeOf40;have aiW:=@zeroValue40;have aiX:=@sizeOf101;have aiY:=@AH
 let S3:=(40:Nat)
 let afJ:=(3:Nat)
 let afK:=(101:Nat)
 have aiZ:=@func197;have ai0:=@ntmps197;exact Ua
theorem Ys(base:Option Addr)(n c vb voff vc:Nat)(cs vs:List Value)(w:World)(hnc:n<=c)(hroom:c<n+1)(hbig:(n+1)*32<=140737488355328)
  (hcl:cs.length=n*3) (hvl:vs.length=3) (hnil:base=none->n=0) (hcs:∀a,base=some a->∀j v,cs[j]? =some v->w.cell? (a.add j)=some v)
  (hvs:∀j v,vs[j]? =some v->w.cell? ⟨vb,voff+j,none⟩=some v) (h1v:∀v∈vs,v.oneCell'=true):
  Calls prog 197 #[.slice base n c,.int .i64 n,.slice (some ⟨vb,voff,none⟩) 1 vc] w λe w'=>
   e= .returned (.slice (some ⟨w.heap.size,0,none⟩) (n+1)<|grownCap w (n+1) c 101)/\
   w'=w.drew.alloc (.cells ((cs++vs).toArray++Builtin.zeroCells (.agg #[.string ByteArray.empty,.int .i64 0,.int .i64 0]:Value).cells (grownCap w (n+1) c 101-(n+1))) 101):=by
 have ai1:=@underlying40;have ai2:=@isAgg40;have ai3:=@sizeOf40;have ai4:=@zeroValue40;have ai5:=@sizeOf101;have ai6:=@AH
 let S4:=(40:Nat)
 let ac3:=(3:Nat)
 let afL:=(101:Nat)
 have ai7:=@func197;have ai8:=@ntmps197;exact Ub
theorem U8(b n c i vb voff vc:Nat)(cs vs:List Value)(w:World)(hi:i<n)(hnc:n<=c)(hroom:c<n+1)(hbig:(n+1)*32<=140737488355328)
  (hcl:cs.length=n*3) (hvl:vs.length=3)
  (hcs:∀j v,cs[j]? =some v->w.cell? ⟨b,j,none⟩=some v)
  (hvs:∀j v,vs[j]? =some v->w.cell? ⟨vb,voff+j,none⟩=some v) (h1c:∀v∈cs,v.oneCell'=true) (h1v:∀v∈vs,v.oneCell'=true):
  Calls prog 197 #[.slice (some ⟨b,0,none⟩) n c,.int .i64 i,.slice (some ⟨vb,voff,none⟩) 1 vc] w λe w'=>
   e= .returned (.slice (some ⟨w.heap.size,0,none⟩) (n+1)<|grownCap w (n+1) c 101)/\
   w'=(((w.alloc<|.cells ((cs.take<|i*3).toArray++Builtin.zeroCells (.agg #[.string ByteArray.empty,.int .i64 0,.int .i64 0]:Value).cells (n+1-i)++Builtin.zeroCells (.agg #[.string ByteArray.empty,.int .i64 0,.int .i64 0]:Value).cells (grownCap w (n+1) c 101-(n+1))) 101).drew.setCells w.heap.size (i*3) vs).drew).setCells w.heap.size ((i+1)*3) (cs.drop<|i*3):=by
 have ai9:=@underlying40;have aja:=@isAgg40;have ajb:=@sizeOf40;have ajc:=@zeroValue40;have ajd:=@sizeOf101;have aje:=@AH
 let tX:=(101:Nat)
 let jk:=(3:Nat)
 let Bt:=(40:Nat)
 let MT:=(.agg #[.string ByteArray.empty,.int .i64 0,.int .i64 0]:Value).cells
 have ajf:=@func197;have ajg:=@ntmps197;exact Uc
theorem Cn(aL:List ah)(i_1:Int)(v_2:List ah)(r:List ah)(hF:kY aL i_1 v_2=some r):Ct prog 197 [.row 101 3 (List.map ak aL),bV i_1,bt 3 ak v_2] (.new 101 3 (List.map ak r)):=by
 unfold kY at hF
 let aji:=(197:Nat)
 let ac4:=(101:Nat)
 let LR:=(3:Nat)
 let ac5:=ak
 have afM:=@Ys;have ajj:=@Vb;have ajk:=@RO;have ajl:=@Yv
 let ajm:=(40:Nat)
 have ajn:=@underlying40;have ajo:=@sizeOf101;have ajp:=@U8;exact Ud
theorem QZ(dS:(List ah))(rW:ah)(r:(List ah))(hF:zJ dS rW=some r):Ct prog 136 [bt 3 ak dS,.g (.agg (ak rW))] (fu 3 ak r):=by
 unfold zJ at hF;refine Ct.intro func136 U ntmps136 U U λM w=>?_;refine sr<|q11 (PF (k:=1003) ev U) U U<|p00 (iG (Ev.n 3) U)<|Te<|mv U U<|xx (gK (off':=0) uU U Qm ayZ U ev U) U<|?_;refine QF (jx uU U U ev U) U U<|bn hF λr1 Mf hF=>PT (nC aj5 (tI _ Mf) U U (.cons qe<|.cons qe .nil) U) U U<|xx (Sg (t:=12) (sv:=.eV [bI .i64 r1.1,bB r1.2]) U) U<|xx (Fm U U) U<|xx (Fm U U) U<|?_;refine av U U<|av U U<|eO<|sq<|bl<|sr<|?_;refine QF (oR (ds:=[.v (.string rW.Key),.v (.int .i64 rW.aq.N),.v (.int .i64 rW.aq.Site)]) uU U xQ U ev U) U U<|bn hF λr2 Pf hF=>xx (nC aj6 (tI _ Pf) U U (.cons qe .nil) U) U<|xx (KY ev U) U<|av U U<|eO<|?_;refine U6 hF (λhc3 hF=>?_) (λhc3 hF=>?_)
 ·refine cT hc3 U<|sr<|mv U U<|av U U<|eO<|?_
  cases hF;exact G.MA results136 (sD.tmp 4 _) z1 ayS
 refine cF hc3 U<|sr<|mv U U<|xx (KY ev U) U<|av U U<|eO<|?_;refine U6 hF (λhc4 hF=>?_) (λhc4 hF=>?_)
 ·refine cT hc4 U<|sq<|bn hF λr5 hr5 hF=>bn hF λr6 hr6 hF=>?_
  refine G.aaM (deps:=[[],[0],[],[],[3],[0,1,2,3,4],[0,1,2,3,4,5]]) (sl':=[(4,cP 3 ak r6)]) (dg:=[]) (.c (oP U U<|kQ ev U)<|.c (oP U U<|Fl (k:=2024) afX (jq _ _ hr5) (.cons ev .nil) U)<|.c (oP U U<|kQ ev U)<|.c (oP U U<|oR (ds:=[.v (.string rW.Key),.v (.int .i64 rW.aq.N),.v (.int .i64 rW.aq.Site)]) uU U xQ U ev U)<|.c (oP U U<|yD (es:=List.map ak [rW]) uU xQ U U (.cons ev .nil) U U (by simp[ak]) U)<|.c (oP U U<|dJ.view<|dJ.share<|IL aj7 (Cn _ _ _ _ hr6) (Ky hr6) ev (Oc.g ev<|Oc.g ev Oc.nil) U)<|.c (oP U U<|iG ev U) .nil) follows U U U ⟨⟨U,ayS⟩,ayS,⟨U,ayS⟩,⟨⟨U,U⟩,ayS⟩,⟨U,ayS⟩,ayS,⟨U,ayS⟩,⟨⟨U,U⟩,ayS⟩,⟨U,ayS⟩,ayS,⟨U,U,U,ayS⟩,⟨⟨U,U⟩,ayS⟩,⟨U,ayS⟩,ayS,ayS⟩ ⟨U,ayS⟩ ayS U ?_;cases hF;exact G.MA results136 (sD.tmp 4 _) z1 ayS
 refine cF hc4 U<|sk<|eB<|sr<|mv U U<|bn hF λr7 hr7 hF=>?_;refine q11 (Fl (k:=2030) afX (jq _ _ hr7) (.cons ev .nil) U) U U<|av U U<|eO<|sq<|bn hF λx8 hx8 hF=>bn hF λr9 hr9 hF=>?_;refine bn hF λFL ah5 hF=>bn hF λl11 akJ hF=>?_;refine G.aaM (deps:=[[],[],[],[],[2,3],[2,3,4],[2,3,4,5],[],[7],[2,3,4,5,6,7,8],[2,3,4,5,6,7,8,9],[0,1,2,3,4,5,6,7,8,9,10],[0,1,2,3,4,5,6,7,8,9,10,11],[0,1,2,3,4,5,6,7,8,9,10,11,12]]) (sl':=[(7,.one (.own 2030<|List.map ak r7))]) (dg:=[(2030,some (.row 101 3 (List.map ak l11) true))]) (.c (oP U U<|kQ ev U)<|.c (oP U U<|kQ ev U)<|.c (oP U U<|kQ ev U)<|.c (oP U U<|kQ ev U)<|.c (oP U U<|DL (cs:=[.v (.string x8.Key),.v (.int .i64 x8.aq.N),.v (.int .i64 x8.aq.Site)]) uU xQ (Ff hx8).1 (rX hx8 ak) ev ev U)<|.c (oP U U<|NN (off':=Int.toNat r1.1*3+1) uU U Eg ayZ U ev U)<|.c (oP U U<|YR (i:=Int.toNat r1.1) (f:=1) (size:=3) (cs:=[.v (.string x8.Key),.v (.int .i64 x8.aq.N),.v (.int .i64 x8.aq.Site)]) (ds:=[.v (.int .i64 x8.aq.N),.v (.int .i64 x8.aq.Site)]) uU U Eg (rX hx8 ak) U ev U)<|.c (oP U U<|gK (off':=1) uU U Eg ayZ U ev U)<|.c (oP U U<|oR (ds:=[.v (.int .i64 rW.aq.N),.v (.int .i64 rW.aq.Site)]) uU U Eg U ev U)<|.c (oP U U<|yD (es:=List.map aB [x8.aq,rW.aq]) uU Eg U U (.cons ev<|.cons ev .nil) U U (by simp[aB]) U)<|.c (oP U U<|nC aj4 (tI _ hr9) U U (.cons qe .nil) U)<|.c (oP U U<|DL (cs:=[.v (.string FL.Key),.v (.int .i64 FL.aq.N),.v (.int .i64 FL.aq.Site)]) uU xQ (Ff ah5).1 (rX ah5 ak) ev ev U)<|.c (oP U U<|NN (off':=Int.toNat r1.1*3+1) uU U Eg ayZ U ev U)<|.c (oP U U<|Vw (i:=Int.toNat r1.1) (f:=1) (size:=3) (cs:=[.v (.string FL.Key),.v (.int .i64 FL.aq.N),.v (.int .i64 FL.aq.Site)]) (cs':=[.v (.string FL.Key),.v (.int .i64 r9.N),.v (.int .i64 r9.Site)]) (ds:=[.v (.int .i64 r9.N),.v (.int .i64 r9.Site)]) Eg (rX ah5 ak) U U (GQ akJ ak).2.2 ev ev) .nil) follows U U U ⟨⟨U,ayS⟩,ayS,⟨U,ayS⟩,ayS,⟨U,ayS⟩,ayS,⟨U,ayS⟩,ayS,⟨U,U,ayS⟩,⟨⟨U,U⟩,ayS⟩,⟨U,ayS⟩,ayS,⟨U,ayS⟩,⟨⟨U,U⟩,ayS⟩,⟨U,ayS⟩,ayS,⟨U,ayS⟩,⟨⟨U,U⟩,ayS⟩,⟨U,U,ayS⟩,ayS,⟨U,ayS⟩,ayS,⟨U,U,ayS⟩,⟨⟨U,U⟩,ayS⟩,⟨U,ayS⟩,ayS,⟨U,U,ayS⟩,⟨⟨U,U⟩,ayS⟩,ayS⟩ ⟨U,ayS⟩ ⟨U,ayS⟩ U ?_;refine G.renew (t:=7) U U (qi akJ ak) ?_;refine sr<|mv U U<|av U U<|eO<|?_;refine G.share (k':=2030) U ?_;refine G.view (t:=4) U U ?_;cases hF;exact G.MA results136 (sD.tmp 4 _) z1 ayS
instance(dS:(List ah))(rW:ah):dW prog (zJ dS rW) 136 [bt 3 ak dS,.g (.agg (ak rW))] (λr=>fu 3 ak r):=⟨QZ dS rW⟩
set_option maxHeartbeats 4000000 in
instance(bC:(List (List ah))):dW prog (jS bC) 79 [bt 1 dw bC] (λr=>fu 3 ak r):=fV func79 U ntmps79 U U λr C0=>by
 have:bT (yH bC) (λ(v3:(List ah)×Int)=>⟨[(3,cP 3 ak v3.1),(8,cP 1 dw bC),(9,aV (bC.length:Int)),(10,aV v3.2)],[]⟩):=⟨ayS⟩;have:=λ(aT:(List ah)×Int->Option (List ah))(v3:(List ah)×Int)(FL:(List ah))=>(⟨ayS⟩:bT (yI aT v3 FL) (λ(Xj:(List ah)×Int)=>⟨[(3,cP 3 ak Xj.1),(8,cP 1 dw bC),(9,aV (bC.length:Int)),(10,aV v3.2),(14,cP 3 ak FL),(15,aV (FL.length:Int)),(16,aV Xj.2)],[]⟩));unfold jS;exact jm
set_option maxHeartbeats 4000000 in
instance(aL:aP)(l_1:(List aa)):dW prog (jO aL l_1) 76 [.g (.agg (cu aL)),bt 6 aj l_1] (λr=>.one (.agg (cu r))):=fV func76 U ntmps76 U U λr C0=>by
 have:bT (yf aL l_1) (λ(v3:Int×(List ah))=>⟨[(2,.one (.ptr 102 0)),(4,.one (.ptr 104 0)),(7,cP 6 aj l_1),(8,aV (l_1.length:Int)),(9,aV v3.1)],[(102,some (.blk 42 [bI .i64 aL.Site,.g (.d<|.sl 3<|List.map ak v3.2)])),(104,some (.blk 42 [bI .i64 0,.g (.d<|.sl 3<|List.map ak ([]:(List ah)))]))]⟩):=⟨ayS⟩;unfold jO;exact jm
instance(bC:(List aa)):dW prog (gI bC) 77 [bt 6 aj bC] (λr=>.one (.agg (aU r))):=fV func77 U ntmps77 U U λr C0=>by
 unfold gI;exact jm
instance(bC:(List aa))(i_1:Int):dW prog (nT bC i_1) 236 [bt 6 aj bC,bV i_1] (λr=>.eV [.agg (aj r.1),.d (.v (.bool r.2))]):=fV func236 U ntmps236 U U λr C0=>by
 unfold nT;exact jm
instance(bC:(List aa)):dW prog (qN bC) 180 [bt 6 aj bC] (λr=>.eV [.agg (aj r.1),.d (.v (.bool r.2))]):=fV func180 U ntmps180 U U λr C0=>by
 unfold qN;exact jm
instance(aL:aP):dW prog (uu aL) 80 [.g (.agg (cu aL))] (λr=>.one (.agg (cu r))):=fV func80 U ntmps80 U U λr C0=>by
 unfold uu;exact jm
instance(Eo:ah)(c0:(List au)):dW prog (sW Eo c0) 216 [.g (.agg (ak Eo)),.ep [.sl 2 (List.map az c0)]] bH:=E3 func216 U ntmps216 U U λr C0=>by
 unfold sW;exact jm
instance(c0:(List au)):BU prog (λx=>.agg (ak x)) (λy=>.bool y) (λx0=>sW x0 c0) 216 [.ep [.sl 2 (List.map az c0)]]:=⟨λ_=>tI⟩
theorem jv(aL:(List ah))(jH:(ah->Option Bool))(r:Int)(hF:cY aL jH=some r):Ct prog 146 [bt 3 ak aL,.sem (rq (λx=>.agg (ak x)) (λy=>.bool y) jH)] (j7 r):=by
 unfold cY at hF;refine Ct.intro func146 U ntmps146 U U λM w=>?_
 let ajq:=jC
 have afN:=@results146
 let ajr:=(3:Nat)
 let ZA:=ak
 have afO:=@xQ;exact Ue
instance(aL:(List ah))(jH:(ah->Option Bool)):CtS prog (cY aL jH) 146 (.d (.sl 3 (List.map ak aL))) (λx=>.agg (ak x)) (λy=>.bool y) jH j7:=⟨jv aL jH,λ_=>rfl⟩
theorem acQ{p:Prop}(h:p:=by
 refine sr<|p00 (iG (c:=.x<|.slice none 0 0) (Ev.x _) U)<|Te<|mv U U<|mv U U<|bn hF λr1 Mf hF=>?_;refine p21 (nC ana (ane _ _ _ Mf) U U (.cons (.own ev)<|.cons (.sem ev) .nil) U) U U U<|av U U<|eO<|sq<|sr<|mv U U<|?_;refine xx (PI ev (ec U) U) U<|eO<|?_;refine U6 hF (λYg hF=>?_) (λYg hF=>?_)
 ·refine cT Yg U<|sr<|mv U U<|av U U<|eO<|?_
  have hF:=aww hF;subst hF;exact G.A4 ak4 U U
 refine cF Yg U<|sk<|sq<|sr<|mv U U<|xx (qZ ev (ec U) U) U<|?_;refine av U U<|eO<|?_;refine G.RQ (T:=Int×(List ak5)) (λy3=>⟨[(0,.one (.own 0<|List.map abQ y3.2)),(5,aV y3.1)],[(0,some (.row ald ale (List.map abQ y3.2) true))]⟩) (λy3=>aid y3=some r) (λy3 hF=>?_) (λJ6=>?_)
 ·refine sr<|mv U U<|mv U U<|bn hF λl4 mX hF=>?_
  refine G.QX (zs:=aiy) uU abY zdT U (vw mX abQ).1 (vw mX abQ).2.1 (vw mX abQ).2.2 ev ev U z2 U ?_
  refine G.renew (t:=0) U U (BJ mX abQ) ?_;refine G.renew (t:=36) U U (BJ mX abQ) ?_;refine Te<|mv U U<|mv U U<|bn hF λl5 hl5 hF=>?_;refine G.aaB (sl':=[(5,aV y3.1),(37,aV y3.1),(40,aV y3.1)]) uU abY (uJ hl5 abQ).1 (uJ hl5 abQ).2.1 (uJ hl5 abQ).2.2 ev ev U z2 U z3 U ?_
  refine av U U<|eO<|?_;have hF:=aww hF;subst hF;exact G.A4 ak4 U U
 refine bl<|?_;refine lF (λ(v7:Int×Int×(List ak5))=>⟨[(0,.one (.own 0<|List.map abQ v7.2.2)),(1,.one (.sem<|rq (λx=>.agg<|abQ x) (λy=>.bool y) dr)),(5,aV v7.1),(6,aV v7.2.1)],[(0,some (.row ald ale (List.map abQ v7.2.2) true))]⟩) hF z4 z1 U (λK10 qI v7 J8 hF=>?_);refine sq<|sr<|mv U U<|mv U U<|QF (WU uU ev U) U U<|PT (CU ev ev U) U U<|?_;refine eO<|?_;refine U6 hF (λUR hF=>?_) (λUR hF=>?_)
 ·refine cT UR U<|sk<|sq<|bl<|sr<|mv U U<|?_
  refine mv U U<|bn hF λI0 Yo hF=>?_;refine G.ae4 (cs:=(abQ I0)) uU uU U abY (Ff Yo).1 (rX Yo abQ) ev ev U U z2 U ?_
  refine q01 (Gq (k:=1007) (cs:=aiB) abY zdT U) U<|w21 (AP abY U ev ev) U U U<|Te<|mv U U<|QF (oR (ds:=(abQ I0)) uU U abY U ev U) U U<|bn hF λMw ahY hF=>?_;refine PT (q8 (t:=26) (v:=.bool Mw) (Φ:=rq (λx=>.agg<|abQ x) (λy=>.bool y) dr) ⟨I0,Mw,U,ahY,U⟩ U (.cons ev .nil) U) U U<|xx (KY ev U) U<|eO<|?_;refine U6 hF (λUS hF=>?_) (λUS hF=>?_)
  ·refine cT US U<|sr<|mv U U<|mv U U<|QF (oR (ds:=(abQ I0)) uU U abY U ev U) U U<|bn hF λl15 UX hF=>?_
   refine G.acR uU abY U (GQ UX abQ).1 (GQ UX abQ).2.1 (GQ UX abQ).2.2 ev ev ev ayW U z3 U ?_
   refine G.renew (t:=0) U U (qi UX abQ) ?_;refine G.renew (t:=17) U U (qi UX abQ) ?_;refine G.renew (t:=22) U U (qi UX abQ) ?_;refine G.renew (t:=30) U U (qi UX abQ) ?_;refine eO<|rg<|mv U U<|xx (qZ ev (ec U) U) U<|av U U<|eO<|?_;refine eB<|rg<|mv U U<|xx (qZ ev (ec U) U) U<|av U U<|eO<|?_;exact G.arr (J8 (IntKind.wrap .i64<|v7.1+1,IntKind.wrap .i64 (v7.2.1+1),l15) hF) z4 z1 U
  refine cF US U<|sk<|eB<|rg<|mv U U<|xx (qZ ev (ec U) U) U<|?_;refine av U U<|eO<|?_;exact G.arr (J8 (v7.1,IntKind.wrap .i64 (v7.2.1+1),v7.2.2) hF) z4 z1 U
 refine cF UR U<|ex<|?_;refine GX.c ?_;refine GX.q ?_;refine xY<|?_;exact G.arr (J6 (v7.1,v7.2.2) hF) z2 z1 U):p:=h
theorem yl(aL:(List ah))(dr:(ah->Option Bool))(r:(List ah))(hF:dB aL dr=some r):Ct prog 215 [.row 101 3 (List.map ak aL),.sem (rq (λx=>.agg (ak x)) (λy=>.bool y) dr)] (.new 101 3 (List.map ak r)):=by
 unfold dB at hF;refine Ct.Gi func215 U ntmps215 U λM K w=>?_;have ana:=@afY;have ane:=@jv;have ak4:=@results215
 let ak5:=ah
 let abQ:=ak
 let ald:=(101:Nat)
 let ale:=(3:Nat)
 let aid:=jg
 let aiy:=([.v (.string ByteArray.empty),.v (.int .i64 0),.v (.int .i64 0)]:List DV)
 have abY:=@xQ
 let aiB:=([bS ByteArray.empty,bI .i64 0,bI .i64 0]:List BV)
 exact acQ
instance(aL:(List ah))(dr:(ah->Option Bool)):CtD prog (dB aL dr) 215 101 3 (List.map ak aL) (λx=>.agg (ak x)) (λy=>.bool y) dr (λr=>(List.map ak r)):=⟨yl aL dr⟩
theorem FZ(p:List ah)(l:List au)(r:List ah)(hF:oT p l=some r):Ct prog 152 [bt 3 ak p,bt 2 az l] (.new 101 3 (List.map ak r)):=by
 refine Ct.iB (res:=λr=>.new 101 3<|List.map ak r) func152 U ntmps152 U U hF λC0=>?_;unfold oT;exact wkN
instance(p:List ah)(l:List au):CtN prog (oT p l) 152 [bt 3 ak p,bt 2 az l] 101 3 (λr=>List.map ak r):=⟨FZ p l⟩
instance(p:List ah)(l:List au):dW prog (oT p l) 152 [bt 3 ak p,bt 2 az l] (λr=>fu 3 ak r):=⟨λr h=>(FZ p l r h).data⟩
instance(dS:(List ah))(cy:ByteArray):dW prog (wu dS cy) 212 [bt 3 ak dS,fP cy] (λr=>.one (.agg (aB r))):=fV func212 U ntmps212 U U λr C0=>by
 unfold wu;exact jm
instance(Eo:ah)(c0:(List ah)):dW prog (nE Eo c0) 214 [.g (.agg (ak Eo)),.ep [.sl 3 (List.map ak c0)]] bH:=E3 func214 U ntmps214 U U λr C0=>by
 unfold nE;exact jm
instance(c0:(List ah)):BU prog (λx=>.agg (ak x)) (λy=>.bool y) (λx0=>nE x0 c0) 214 [.ep [.sl 3 (List.map ak c0)]]:=⟨λ_=>tI⟩
theorem adt{p:Prop}(h:p:=by
 refine sr<|ac U U<|Te<|mv U U<|mv U U<|bn hF λr1 Mf hF=>?_;refine PT (nC amW (amX _ _ _ Mf) U U (.cons qe<|.cons (.sem ev) .nil) U) U U<|xx (Vt ev (ec U) U) U<|av U U<|eO<|?_;have hF:=aww hF;subst hF;exact G.MA amY (sD.tmp 4 _) z1 ayS):p:=h
theorem vH(aL:(List ah))(jH:(ah->Option Bool))(r:Bool)(hF:eF aL jH=some r):Ct prog 213 [bt 3 ak aL,.sem (rq (λx=>.agg (ak x)) (λy=>.bool y) jH)] (bH r):=by
 unfold eF at hF;refine Ct.intro func213 U ntmps213 U U λM w=>?_;have amW:=@afY;have amX:=@jv;have amY:=@results213;exact adt
instance(aL:(List ah))(jH:(ah->Option Bool)):CtS prog (eF aL jH) 213 (.d (.sl 3 (List.map ak aL))) (λx=>.agg (ak x)) (λy=>.bool y) jH bH:=⟨vH aL jH,λ_=>rfl⟩
instance(dS:(List ah))(q_1:(List ah)):dW prog (sV dS q_1) 151 [bt 3 ak dS,bt 3 ak q_1] bH:=fV func151 U ntmps151 U U λr C0=>by
 unfold sV;exact jm
instance(aL:aP)(have_1:(List ah))(lR:(List au)):dW prog (nU aL have_1 lR) 90 [.g (.agg (cu aL)),bt 3 ak have_1,bt 2 az lR] bH:=fV func90 U ntmps90 U U λr C0=>by
 unfold nU;exact wkq
set_option maxHeartbeats 4000000 in
instance(aL:aP)(cL:Int)(Fa:(List ah))(K0:(List au)):dW prog (pI aL cL Fa K0) 81 [.g (.agg (cu aL)),bV cL,bt 3 ak Fa,bt 2 az K0] (λr=>.eV [.agg (cu r.1),.d (.v (.int .i64 r.2))]):=fV func81 U ntmps81 U U λr C0=>by
 unfold pI;exact jm
instance(Ey:ByteArray):dW prog (gS Ey) 138 [fP Ey] bH:=fV func138 U ntmps138 U U λr C0=>by
 unfold gS;exact jm
theorem lq(aL:(List ByteArray))(jH:(ByteArray->Option Bool))(r:Int)(hF:dK aL jH=some r):Ct prog 198 [bt 1 encS aL,.sem (rq (λx=>.d (.v (.string x))) (λy=>.bool y) jH)] (j7 r):=by
 unfold dK at hF;refine Ct.intro func198 U ntmps198 U U λM w=>?_
 let amc:=ie
 have akU:=@results198
 let amU:=encS
 let ak1:=Value.string
 have amV:=@Qm;exact ads
theorem sK(aL:(List ByteArray))(jH:(ByteArray->Option Bool))(r:Bool)(hF:dN aL jH=some r):Ct prog 137 [bt 1 encS aL,.sem (rq (λx=>.d (.v (.string x))) (λy=>.bool y) jH)] (bH r):=by
 unfold dN at hF;refine Ct.intro func137 U ntmps137 U U λM w=>?_;have amZ:=@af3;have am0:=@lq;have am1:=@results137;exact adu
theorem pJ(aL:(List ByteArray))(r:(List ByteArray))(hF:dA aL=some r):Ct prog 83 [bt 1 encS aL] (.new 9 1 (List.map encS r)):=by
 unfold dA at hF;refine Ct.intro func83 U ntmps83 U U λM w=>?_
 let v_1:=(9:Nat)
 have v_2:=@results83;have LX:=@Qm
 let v_4:=(1:Nat)
 let Z3:=encS
 let v_6:=ByteArray
 exact Nl
instance(aL:(List ByteArray)):dW prog (dA aL) 83 [bt 1 encS aL] (λr=>fu 1 encS r):=⟨λr h=>(pJ aL r h).data⟩
instance(aL:(List ByteArray)):CtN prog (dA aL) 83 [bt 1 encS aL] 9 1 (λr=>(List.map encS r)):=⟨pJ aL⟩
instance(gM:aF)(cy:ByteArray):dW prog (iY gM cy) 84 [.g (.agg (bf gM)),fP cy] j7:=fV func84 U ntmps84 U U λr C0=>by
 have:=λ(r1:Int)=>(⟨ayS⟩:bT (xg r1) (λ(v4:Int)=>⟨[(5,aV r1),(10,aV v4)],[]⟩));unfold iY;exact jm
instance(o9:Int):dW prog (cmp_isNaN_int o9) 252 [bV o9] bH:=fV func252 U ntmps252 U U λr C0=>by
 unfold cmp_isNaN_int;exact jm
instance(o9:Int)(Xm:Int):dW prog (j6 o9 Xm) 205 [bV o9,bV Xm] j7:=fV func205 U ntmps205 U U λr C0=>by
 unfold j6;exact jm
instance(dS:aH)(AE:Int):dW prog (lU dS AE) 204 [.g (.agg (aS dS)),bV AE] j7:=fV func204 U ntmps204 U U λr C0=>by
 unfold lU;exact jm
theorem qO(o9:(List aH))(dI:Int)(kM:(aH->Int->Option Int))(r:(Int×Bool))(hF:cO o9 dI kM=some r):Ct prog 203 [bt 2 aS o9,bV dI,.sem (Qa (λx=>.agg (aS x)) (λx=>.d (.v (.int .i64 x))) (λy=>.int .i64 y) kM)] (.eV [.d (.v (.int .i64 r.1)),.d (.v (.bool r.2))]):=by
 unfold cO at hF;refine Ct.intro func203 U ntmps203 U U λM w=>?_
 let adG:=(2:Nat)
 let ab2:=aS
 let adH:=(bI .i64)
 let aci:=(λx=>Value.int .i64 x)
 let aiK:=dU
 have acC:=@S1;have adI:=@results203;exact adq
instance(l:List aH)(t:Int)(c:aH->Int->Option Int):Z9 prog (cO l t c) 203 (.d (.sl 2 (List.map aS l))) (.d (.v (.int .i64 t))) (λx=>.agg (aS x)) (λx=>.d (.v (.int .i64 x))) (λy=>.int .i64 y) c (λr=>.eV [.d (.v (.int .i64 r.1)),.d (.v (.bool r.2))]):=⟨qO l t c,λ_=>rfl⟩
instance(bC:(List aH))(AE:Int):dW prog (q9 bC AE) 143 [bt 2 aS bC,bV AE] (λr=>.eV [.d (.v (.int .i64 r.1)),.d (.v (.bool r.2))]):=fV func143 U ntmps143 U U λr C0=>by
 unfold q9;exact wkf
theorem D8(aL:(List aH))(r:(List aH))(hF:fB aL=some r):Ct prog 35 [bt 2 aS aL] (.new 99 2 (List.map aS r)):=by
 unfold fB at hF;refine Ct.intro func35 U ntmps35 U U λM w=>?_
 let v_1:=(99:Nat)
 have v_2:=@results35;have LX:=@S1
 let v_4:=(2:Nat)
 let Z3:=aS
 let v_6:=aH
 exact Nl
instance(aL:(List aH)):dW prog (fB aL) 35 [bt 2 aS aL] (λr=>fu 2 aS r):=⟨λr h=>(D8 aL r h).data⟩
instance(aL:(List aH)):CtN prog (fB aL) 35 [bt 2 aS aL] 99 2 (λr=>(List.map aS r)):=⟨D8 aL⟩
theorem AF:(prog.info? 99).map (λi=>(i.zero,i.size,i.bytes))=some (some (.agg #[.int .i64 0,.slice none 0 0]:Value),2,32):=by kernel_rfl
theorem Yu(args:Array Value)(w w':World)(v:Value)(h:(Extern.SlicesOverlaps.overlaps #[59,59] #[4] args).run prog w= .ok v w'):(callFunc 206 args).run prog w= .ok (.value v) w':=by
 have v_8:=@func206
 let v_9:=(59:Nat)
 exact TY
theorem RN(b n c i vb voff vc:Nat)(cs vs:List Value)(w:World)(hi:i<n)(hroom:n+1<=c)(hc63:c<=9223372036854775807)(hvb:vb≠b)
  (hcl:cs.length=n*2) (hvl:vs.length=2)
  (hcs:∀j v,cs[j]? =some v->w.cell? ⟨b,j,none⟩=some v) (hsp:∀j,j<(n+1)*2->(w.cell? ⟨b,j,none⟩).isSome=true) (hfz:∀j,j<(n+1)*2->w.frozen? ⟨b,j,none⟩=false)
  (hvs:∀j v,vs[j]? =some v->w.cell? ⟨vb,voff+j,none⟩=some v) (h1c:∀v∈cs,v.oneCell'=true) (h1v:∀v∈vs,v.oneCell'=true)
  (hov:∀lb cb,(callFunc 206 #[.slice (some ⟨vb,voff,none⟩) 1 vc,.slice (some ⟨b,(i+1)*2,none⟩) lb cb]).run prog w= .ok (.value<|.bool false) w):
  Calls prog 144 #[.slice (some ⟨b,0,none⟩) n c,.int .i64 i,.slice (some ⟨vb,voff,none⟩) 1 vc] w λe w'=>
   e= .returned (.slice (some ⟨b,0,none⟩) (n+1) c)/\w'=(w.drew.setCells b ((i+1)*2)<|cs.drop<|i*2).setCells b (i*2) vs:=by
 have aiL:=@underlying59;have aiM:=@isAgg59;have aiN:=@sizeOf59;have aiO:=@zeroValue59;have aiP:=@sizeOf99
 let Qr:=(99:Nat)
 let qB:=(2:Nat)
 have aiQ:=@AF
 let G3:=(59:Nat)
 have aiR:=@func144;have aiS:=@ntmps144;exact TZ
theorem Va(b n c vb voff vc:Nat)(vs:List Value)(w:World)(hroom:n+1<=c)(hc63:c<=9223372036854775807)(hvl:vs.length=2)
  (hsp:∀j,j<2->(w.cell? ⟨b,n*2+j,none⟩).isSome=true) (hfz:∀j,j<2->w.frozen? ⟨b,n*2+j,none⟩=false)
  (hvs:∀j v,vs[j]? =some v->w.cell? ⟨vb,voff+j,none⟩=some v) (h1v:∀v∈vs,v.oneCell'=true):
  Calls prog 144 #[.slice (some ⟨b,0,none⟩) n c,.int .i64 n,.slice (some ⟨vb,voff,none⟩) 1 vc] w λe w'=>
   e= .returned (.slice (some ⟨b,0,none⟩) (n+1) c)/\w'=w.setCells b (n*2) vs:=by
 have aiT:=@underlying59;have aiU:=@isAgg59;have aiV:=@sizeOf59;have aiW:=@zeroValue59;have aiX:=@sizeOf99;have aiY:=@AF
 let S3:=(59:Nat)
 let afJ:=(2:Nat)
 let afK:=(99:Nat)
 have aiZ:=@func144;have ai0:=@ntmps144;exact Ua
theorem Yr(base:Option Addr)(n c vb voff vc:Nat)(cs vs:List Value)(w:World)(hnc:n<=c)(hroom:c<n+1)(hbig:(n+1)*32<=140737488355328)
  (hcl:cs.length=n*2) (hvl:vs.length=2) (hnil:base=none->n=0) (hcs:∀a,base=some a->∀j v,cs[j]? =some v->w.cell? (a.add j)=some v)
  (hvs:∀j v,vs[j]? =some v->w.cell? ⟨vb,voff+j,none⟩=some v) (h1v:∀v∈vs,v.oneCell'=true):
  Calls prog 144 #[.slice base n c,.int .i64 n,.slice (some ⟨vb,voff,none⟩) 1 vc] w λe w'=>
   e= .returned (.slice (some ⟨w.heap.size,0,none⟩) (n+1)<|grownCap w (n+1) c 99)/\
   w'=w.drew.alloc (.cells ((cs++vs).toArray++Builtin.zeroCells (.agg #[.int .i64 0,.slice none 0 0]:Value).cells (grownCap w (n+1) c 99-(n+1))) 99):=by
 have ai1:=@underlying59;have ai2:=@isAgg59;have ai3:=@sizeOf59;have ai4:=@zeroValue59;have ai5:=@sizeOf99;have ai6:=@AF
 let S4:=(59:Nat)
 let ac3:=(2:Nat)
 let afL:=(99:Nat)
 have ai7:=@func144;have ai8:=@ntmps144;exact Ub
theorem U7(b n c i vb voff vc:Nat)(cs vs:List Value)(w:World)(hi:i<n)(hnc:n<=c)(hroom:c<n+1)(hbig:(n+1)*32<=140737488355328)
  (hcl:cs.length=n*2) (hvl:vs.length=2)
  (hcs:∀j v,cs[j]? =some v->w.cell? ⟨b,j,none⟩=some v)
  (hvs:∀j v,vs[j]? =some v->w.cell? ⟨vb,voff+j,none⟩=some v) (h1c:∀v∈cs,v.oneCell'=true) (h1v:∀v∈vs,v.oneCell'=true):
  Calls prog 144 #[.slice (some ⟨b,0,none⟩) n c,.int .i64 i,.slice (some ⟨vb,voff,none⟩) 1 vc] w λe w'=>
   e= .returned (.slice (some ⟨w.heap.size,0,none⟩) (n+1)<|grownCap w (n+1) c 99)/\
   w'=(((w.alloc<|.cells ((cs.take<|i*2).toArray++Builtin.zeroCells (.agg #[.int .i64 0,.slice none 0 0]:Value).cells (n+1-i)++Builtin.zeroCells (.agg #[.int .i64 0,.slice none 0 0]:Value).cells (grownCap w (n+1) c 99-(n+1))) 99).drew.setCells w.heap.size (i*2) vs).drew).setCells w.heap.size ((i+1)*2) (cs.drop<|i*2):=by
 have ai9:=@underlying59;have aja:=@isAgg59;have ajb:=@sizeOf59;have ajc:=@zeroValue59;have ajd:=@sizeOf99;have aje:=@AF
 let tX:=(99:Nat)
 let jk:=(2:Nat)
 let Bt:=(59:Nat)
 let MT:=(.agg #[.int .i64 0,.slice none 0 0]:Value).cells
 have ajf:=@func144;have ajg:=@ntmps144;exact Uc
theorem Co(aL:List aH)(i_1:Int)(v_2:List aH)(r:List aH)(hF:iX aL i_1 v_2=some r):Ct prog 144 [.row 99 2 (List.map aS aL),bV i_1,bt 2 aS v_2] (.new 99 2 (List.map aS r)):=by
 unfold iX at hF
 let aji:=(144:Nat)
 let ac4:=(99:Nat)
 let LR:=(2:Nat)
 let ac5:=aS
 have afM:=@Yr;have ajj:=@Va;have ajk:=@RN;have ajl:=@Yu
 let ajm:=(59:Nat)
 have ajn:=@underlying59;have ajo:=@sizeOf99;have ajp:=@U7;exact Ud
instance(aL:List aH)(i_1:Int)(v_2:List aH):CtI prog (iX aL i_1 v_2) 144 99 2 (List.map aS aL) [bV i_1,bt 2 aS v_2] (λr=>(List.map aS r)):=⟨λr h=>⟨Co aL i_1 v_2 r h,Ky h⟩⟩
instance(bC:(List aH))(p_1:aH):dW prog (zM bC p_1) 85 [bt 2 aS bC,.g (.agg (aS p_1))] (λr=>.eV [.d (.sl 2 (List.map aS r.1)),.d (.v (.int .i64 r.2))]):=fV func85 U ntmps85 U U λr C0=>by
 unfold zM;exact M4
instance(bC:(List aH))(AE:Int):dW prog (wB bC AE) 86 [bt 2 aS bC,bV AE] (λr=>.eV [.agg (aS r.1),.d (.v (.bool r.2))]):=fV func86 U ntmps86 U U λr C0=>by
 unfold wB;exact jm
theorem TQ:(prog.info? 99).map (λi=>(i.zero,i.size,i.bytes))=some (some (.agg #[.int .i64 0,.slice none 0 0]),2,32):=by kernel_rfl
theorem XN(b n c i:Nat)(cs:List Value)(w:World)(hi:i<=n)(hroom:n+1<=c)(hc63:c<=9223372036854775807)
  (hcl:cs.length=(n+1)*2) (hcs:∀j v,cs[j]? =some v->w.cell? ⟨b,j,none⟩=some v) (hfz:∀j,w.frozen? ⟨b,j,none⟩=false) (h1c:∀v∈cs,v.oneCell'=true):
  Calls prog 145 #[.slice (some ⟨b,0,none⟩) (n+1) c,.int .i64 i,.int .i64 ((i:Int)+1)] w λe w'=>
   e= .returned (.slice (some ⟨b,0,none⟩) n c)/\w'=(w.drew.setCells b (i*2)<|cs.drop<|(i+1)*2).setCells b (n*2) (.agg #[.int .i64 0,.slice none 0 0]:Value).cells.toList:=by
 have t59:=underlying59;have a59:=isAgg59;have z59:=sizeOf59;have v59:=zeroValue59;have u59:=avm t59;have t3:=underlying3;have a3:=isAgg3;have z3:=sizeOf3;have v3:=zeroValue3;have u3:=avm t3;have t4:=underlying4;have a4:=isAgg4;have z4:=sizeOf4;have v4:=zeroValue4;have u4:=avm t4;have t99:=underlying99;have a99:=isAgg99;have z99:=sizeOf99;have v99:=zeroValue99;have u99:=avm t99;obtain⟨i0,hi0,hz0,hzs,Yp⟩:=axV TQ;have mixed:=follows;have hdl:(cs.drop<|(i+1)*2).length=(n-i)*2:=by rw[avZ,hcl,ayb];omega
 have hsp:∀j,j<(n+1)*2->(w.cell? ⟨b,j,none⟩).isSome=true:=λj hj=>by rw[hcs j _ (avs<|by omega)];rfl
 have hap:∀(ad:Addr)(cc:Nat),(n-i=0\/ad=⟨b,(i+1)*2,none⟩)->∀ty,(Builtin.append_ #[59,59] ty #[.slice (some ⟨b,0,none⟩) i c,.slice (some ad) (n-i) cc]).run prog w.drew= .ok (.slice (some ⟨b,0,none⟩) n c) (w.drew.setCells b (i*2)<|cs.drop<|(i+1)*2):=λad cc had ty=>by
  have hsrc:Src prog i0.size 59 (.slice (some ad) (n-i) cc) (n-i) (cs.drop<|(i+1)*2) w.drew:=by
   rw[hzs];exact Src.ofSlice w.drew t59 ad (n-i) cc _ hdl (λj u hj=>by
    rcases had with h | rfl
    ·rw[h,ayC]at hdl
     rw[axd.1 hdl]at hj;simp at hj
    ·rw[awr]
     rw[awm]at hj;exact hcs _ u hj) (λv hv=>h1c v (aw0 hv))
  have h:=run_append_room_src w.drew 59 59 ty 99 i0 t59 hi0 b 0 i c _ (n-i) (cs.drop<|(i+1)*2) hsrc ayT
   (λj hj=>by rw[hzs,avS];exact hsp _ (by rw[hdl,ayb]at hj;omega)) (λj hj=>by rw[hzs,avS];exact hfz _)
  rw[hzs,avS,show i+(n-i)=n by omega]at h;exact h
 obtain⟨W1,O8⟩:∃W1,W1=w.drew.setCells b (i*2) (cs.drop<|(i+1)*2):=⟨_,U⟩;have ah1:∀k,k<(n+1)*2->(W1.cell? ⟨b,k,none⟩).isSome=true:=λk hk=>by
  rw[O8];exact isSome_setCells b (cs.drop<|(i+1)*2) (i*2) w.drew (λj hj=>hsp (i*2+j) (by rw[hdl,ayb]at hj;omega)) k (hsp k hk)
 have akA:∀(W:World),(∀x,W.cell? x=W1.cell? x)->(∀x,W.frozen? x=W1.frozen? x)->∀ty cc,(Builtin.clear_ #[59] ty #[.slice (some ⟨b,n*2,none⟩) 1 cc]).run prog W= .ok (.tuple #[]) (W.setCells b (n*2) (.agg #[.int .i64 0,.slice none 0 0]:Value).cells.toList):=λW hWc hWf ty cc=>
  ME W 59 99 ty (.agg #[.int .i64 0,.slice none 0 0]) t59 v99 ayZ b (n*2) cc
   (λj hj=>by rw[hWc];exact ah1 _ (by have:j<2:=hj;omega)) (λj _=>by rw[hWf,O8,ayN];exact hfz _)
 rw[<-O8]at hap;have hw1:IntKind.i64.wrap ((i:Int)+1)=(i:Int)+1:=by rw[axJ];omega
 have hb0:(0:Int)<=(i:Int)+1:=by omega
 have hb1:(i:Int)<=(i:Int)+1:=by omega
 have hb2:(i:Int)+1<=(n:Int)+1:=by omega
 have hb3:(n:Int)+1<=(c:Int):=by omega
 have hb4:¬((i:Int)=(i:Int)+1):=by omega
 have hb5:¬(n+1=i):=by omega
 have hb6:¬(c=0):=by omega
 have hb7:¬(c=n):=by omega
 have hb8:(n:Int)<=(n:Int)+1:=by omega
 have hb9:(i:Int)<=(c:Int):=by omega
 have htn:((i:Int)+1).toNat=i+1:=by omega
 have aoj:((n:Int)+1).toNat=n+1:=by omega
 have aqF:n+1-(i+1)=n-i:=by omega
 have aqG:n+1-n=1:=by omega
 by_cases hci:c=i+1
 ·subst hci
  obtain rfl:i=n:=by omega
  have hnil:cs.drop ((i+1)*2)= []:=awo ayT;have anF:∀(ad:Addr)(cc:Nat) ty,(Builtin.append_ #[59,59] ty #[.slice (some ⟨b,0,none⟩) i (i+1),.slice (some ad) 0 cc]).run prog w.drew= .ok (.slice (some ⟨b,0,none⟩) i<|i+1) W1:=λad cc ty=>by
   have h:=hap ad cc (.inl<|azk i) ty;rw[azk]at h;exact h
  have abH:=akA w.drew (λ_=>by rw[O8,hnil];rfl) (λ_=>by rw[O8,hnil];rfl);go_enter func145,ntmps145
  go_wp2
  go_region_law_o (refine zZ U _ _ 59 59 U _ _ azS azS (anF _ _ _) ?_)
  go_wp2_with (simp only[abH])
  go_ret
  first | exact⟨U,U⟩ | exact⟨U,by rw[hnil];rfl⟩
 ·have abH:=akA W1 (λ_=>rfl) (λ_=>rfl)
  go_enter func145,ntmps145
  go_wp2
  go_region_law_o (refine zZ U _ _ 59 59 U (.slice (some ⟨b,0,none⟩) i c) (.slice (some ⟨b,(i+1)*2,none⟩) (n-i)<|c-(i+1)) azS azS (hap ⟨b,(i+1)*2,none⟩ (c-(i+1)) (.inr U) 59) ?_)
  go_wp2_with (simp only[abH])
  go_ret
  first | exact⟨U,U⟩ | exact⟨U,by rw[O8]⟩
theorem Cm(aL:List aH)(i_1:Int)(j_2:Int)(r:List aH)(hF:iW aL i_1 j_2=some r):Ct prog 145 [.row 99 2 (List.map aS aL),bV i_1,bV j_2] (.new 99 2 (List.map aS r)):=by
 unfold iW at hF;obtain⟨k,rfl,rfl,hk,hm,rfl⟩:=aee hF;have hml:maxLen=9223372036854775807:=rfl;rw[aaF];refine XI (P:=prog) (f:=145) (E:=99) (z:=2) (es:=List.map aS aL) (i:=k) azf λw b c cur hh hc hle hm2 hone=>?_;have hl:(List.map aS aL).length=aL.length:=by simp
 obtain⟨n,hn⟩:∃n,aL.length=n+1:=⟨aL.length-1,ayT⟩;rw[hl,hn]at hle hone ⊢;rw[hn]at hk;have hbc:(n+1)*2<=cur.size:=by rw[hc];exact avr _ hle
 have hcl:(cur.toList.take<|(n+1)*2).length=(n+1)*2:=by have:=awj (xs:=cur);rw[avC];omega
 have hcs:∀j v,(cur.toList.take<|(n+1)*2)[j]? =some v->w.cell? ⟨b,j,none⟩=some v:=λj v hj=>by
  have hlt:=(avl.1 hj).1
  rw[hcl]at hlt;rw[avR hlt,awb]at hj;rw[kj hh];exact hj
 have h1c:∀v∈cur.toList.take ((n+1)*2),v.oneCell'=true:=λv hv=>by
  obtain⟨j,hj,e⟩:=avO hv;have hg:=avs hj;rw[hcl]at hj;rw[e,avR hj,awb]at hg;exact hone j v hj hg
 have hfz:∀j,w.frozen? ⟨b,j,none⟩=false:=λj=>aAD;refine(XN b n c k _ w ayT hle ayT hcl hcs hfz h1c).mono λe w'⟨h1,h2⟩=>⟨_,h1,?_⟩
 subst h2;exact zh.del hh hc ayT hle hm2 U
instance(aL:List aH)(i_1:Int)(j_2:Int):CtK prog (iW aL i_1 j_2) 145 99 2 (List.map aS aL) [bV i_1,bV j_2] (λr=>(List.map aS r)):=⟨Cm aL i_1 j_2⟩
instance(bC:(List aH))(AE:Int):dW prog (u7 bC AE) 87 [bt 2 aS bC,bV AE] (λr=>.eV [.d (.sl 2 (List.map aS r.1)),.d (.v (.int .i64 r.2))]):=fV func87 U ntmps87 U U λr C0=>by
 unfold u7;exact M4
instance(Eo:ah)(c0:ByteArray):dW prog (lD Eo c0) 147 [.g (.agg (ak Eo)),.ep [.v (.string c0)]] bH:=E3 func147 U ntmps147 U U λr C0=>by
 unfold lD;exact jm
instance(c0:ByteArray):BU prog (λx=>.agg (ak x)) (λy=>.bool y) (λx0=>lD x0 c0) 147 [.ep [.v (.string c0)]]:=⟨λ_=>tI⟩
instance(o8:aa)(c0:ai):dW prog (lG o8 c0) 149 [.g (.agg (aj o8)),.ep (aB c0)] bH:=E3 func149 U ntmps149 U U λr C0=>by
 unfold lG;exact jm
instance(c0:ai):BU prog (λx=>.agg (aj x)) (λy=>.bool y) (λx0=>lG x0 c0) 149 [.ep (aB c0)]:=⟨λ_=>tI⟩
instance(bC:(List aa))(Bc:(List ah)):dW prog (F0 bC Bc) 208 [bt 6 aj bC,bt 3 ak Bc] (λr=>fu 3 ak r):=fV func208 U ntmps208 U U λr C0=>by
 have:bT (E5 bC) (λ(v4:Int×(List<|List ah))=>⟨[(5,.one (.own 109<|List.map dw v4.2)),(10,cP 6 aj bC),(11,aV (bC.length:Int)),(12,aV v4.1)],[(109,some (.row 40 1 (List.map dw v4.2) true))]⟩):=⟨ayS⟩;have:=λy=>(⟨λC0 a w q=>q.aev 5 U U ayS ayS U U⟩:EX (E4 y) ⟨[(5,.one (.own 109<|List.map dw y))],[(109,some (.row 40 1 (List.map dw y) true))]⟩ ⟨[(5,cP 1 dw y)],[]⟩);unfold F0
 repeat' (first
  | (show SG (.assign _);first | refine eo U U ?_ | refine gC U uU iI U U U ?_)
  | (show GO _ _ _ _ _ _ (⟨some 9,.buildSlice _ _ _,_,_,_,_⟩::_) _ _;refine TW U uU iI U U U U U U U U U U U ?_)
  | refine Xf ?_
  | refine qG ?_
  | refine qF ?_
  | refine VI ?_
  | refine rJ ?_
  | refine rG ?_ ?_
  | refine Zi ?_ ?_
  | exact pq
  | intro _
  | refine sk1 ?_)
instance(bC:(List aa))(cy:ByteArray):dW prog (J9 bC cy) 211 [bt 6 aj bC,fP cy] (λr=>.one (.agg (aB r))):=fV func211 U ntmps211 U U λr C0=>by
 have:bT (Hv bC cy) (λ(v4:Int×(List ai))=>⟨[(1,.one (bS cy)),(4,.one (.ptr 104 0)),(5,.one (.own 105<|List.map aB v4.2)),(8,cP 6 aj bC),(9,aV (bC.length:Int)),(10,aV v4.1)],[(104,some (.blk 53 [bI .i64 0,bI .i64 0])),(105,some (.row 53 2 (List.map aB v4.2) true))]⟩):=⟨ayS⟩;unfold J9;exact wky
instance(Ey:ByteArray)(c0:(List aa))(c1:(List ah)):dW prog (vJ Ey c0 c1) 210 [fP Ey,.ep [.sl 6 (List.map aj c0)],.ep [.sl 3 (List.map ak c1)]] bH:=E3 func210 U ntmps210 U U λr C0=>by
 unfold vJ;exact jm
instance(c0:(List aa))(c1:(List ah)):BU prog (λx=>.d (.v (.string x))) (λy=>.bool y) (λx0=>vJ x0 c0 c1) 210 [.ep [.sl 6 (List.map aj c0)],.ep [.sl 3 (List.map ak c1)]]:=⟨λ_=>tI⟩
theorem uv(aL:(List ByteArray))(dr:(ByteArray->Option Bool))(r:(List ByteArray))(hF:cN aL dr=some r):Ct prog 209 [.row 9 1 (List.map encS aL),.sem (rq (λx=>.d (.v (.string x))) (λy=>.bool y) dr)] (.new 9 1 (List.map encS r)):=by
 unfold cN at hF;refine Ct.Gi func209 U ntmps209 U λM K w=>?_;have aiC:=@af3;have aiF:=@lq;have adD:=@results209
 let adE:=ByteArray
 let aaf:=encS
 let adF:=(9:Nat)
 let aiG:=gz
 let aiI:=([.v (.string ByteArray.empty)]:List DV)
 have ab3:=@Qm
 let ab1:=Value.string
 exact adp
instance(aL:(List ByteArray))(dr:(ByteArray->Option Bool)):CtD prog (cN aL dr) 209 9 1 (List.map encS aL) (λx=>.d (.v (.string x))) (λy=>.bool y) dr (λr=>(List.map encS r)):=⟨uv aL dr⟩
instance(fL:(List ByteArray))(l_1:(List aa))(jV:(List ah)):dW prog (Cr fL l_1 jV) 150 [bt 1 encS fL,bt 6 aj l_1,bt 3 ak jV] (λr=>fu 1 encS r):=fV func150 U ntmps150 U U λr C0=>by
 unfold Cr;exact M4
instance(fL:(List ByteArray))(l_1:(List aa))(jV:(List ah)):dW prog (zw fL l_1 jV) 89 [bt 1 encS fL,bt 6 aj l_1,bt 3 ak jV] bH:=fV func89 U ntmps89 U U λr C0=>by
 unfold zw;exact jm
set_option maxHeartbeats 4000000 in
instance(aL:ByteArray)(gi:Int):dW prog (mQ aL gi) 219 [fP aL,bV gi] (λr=>.eV [.d (.v (.int .u64 r.1)),.d (.v (.int .i64 r.2.1)),.d (.v (.bool r.2.2))]):=fV func219 U ntmps219 U U λr C0=>by
 have:bT (Bz aL gi) (λ(v5:Int×Int)=>⟨[(0,.one (bS aL)),(1,aV gi),(4,.one (bI .u64 v5.1)),(7,aV v5.2)],[]⟩):=⟨ayS⟩;unfold mQ;exact M4
set_option maxHeartbeats 4000000 in
instance(aL:ByteArray)(gi:Int)(CO:Int):dW prog (kz aL gi CO) 218 [fP aL,bV gi,bV CO] (λr=>.eV [.d (.v (.string r.1)),.d (.v (.int .i64 r.2.1)),.d (.v (.bool r.2.2))]):=fV func218 U ntmps218 U U λr C0=>by
 unfold kz;exact M4
set_option maxHeartbeats 4000000 in
instance(aL:ByteArray)(gi:Int):dW prog (rH aL gi) 160 [fP aL,bV gi] (λr=>.eV [.agg (aB r.1),.d (.v (.int .i64 r.2.1)),.d (.v (.bool r.2.2))]):=fV func160 U ntmps160 U U λr C0=>by
 unfold rH;exact jm
set_option maxHeartbeats 4000000 in
instance(aL:ByteArray)(gi:Int):dW prog (zK aL gi) 161 [fP aL,bV gi] (λr=>.eV [.d (.sl 3 (List.map ak r.1)),.d (.v (.int .i64 r.2.1)),.d (.v (.bool r.2.2))]):=fV func161 U ntmps161 U U λr C0=>by
 have:=λ(r1:(Int×Int×Bool))=>(⟨ayS⟩:bT (mO aL r1) (λ(v11:Int×Bool×Int×(List ah))=>⟨[(0,.one (bS aL)),(4,.one (.own 104<|List.map ak v11.2.2.2)),(5,aV v11.1),(6,.one (bB v11.2.1)),(22,.one (bI .u64 r1.1)),(23,.one (bI .u64 v11.2.2.1))],[(104,some (.row 101 3 (List.map ak v11.2.2.2) true))]⟩));unfold zK;exact wky
set_option maxHeartbeats 4000000 in
instance(bC:(List aa))(s_1:ai):dW prog (zo bC s_1) 282 [bt 6 aj bC,.g (.agg (aB s_1))] (λr=>.eV [.agg (aj r.1),.d (.v (.bool r.2))]):=fV func282 U ntmps282 U U λr C0=>by
 unfold zo;exact jm
instance(w_0:aa)(c0:aa):dW prog (iU w_0 c0) 222 [.g (.agg (aj w_0)),.ep (aj c0)] bH:=E3 func222 U ntmps222 U U λr C0=>by
 unfold iU;exact jm
instance(c0:aa):BU prog (λx=>.agg (aj x)) (λy=>.bool y) (λx0=>iU x0 c0) 222 [.ep (aj c0)]:=⟨λ_=>tI⟩
theorem qP(aL:(List aa))(jH:(aa->Option Bool))(r:Bool)(hF:dH aL jH=some r):Ct prog 221 [bt 6 aj aL,.sem (rq (λx=>.agg (aj x)) (λy=>.bool y) jH)] (bH r):=by
 unfold dH at hF;refine Ct.intro func221 U ntmps221 U U λM w=>?_;have amW:=@afZ;have amX:=@gm;have amY:=@results221;exact adt
instance(aL:(List aa))(jH:(aa->Option Bool)):CtS prog (dH aL jH) 221 (.d (.sl 6 (List.map aj aL))) (λx=>.agg (aj x)) (λy=>.bool y) jH bH:=⟨qP aL jH,λ_=>rfl⟩
instance(bC:(List aa))(v_1:aa):dW prog (AX bC v_1) 165 [bt 6 aj bC,.g (.agg (aj v_1))] (λr=>.eV [.d (.sl 6 (List.map aj r.1)),.d (.v (.int .i64 r.2))]):=fV func165 U ntmps165 U U λr C0=>by
 unfold AX;exact M4
instance(Eo:ah)(c0:(List ah)):dW prog (lV Eo c0) 283 [.g (.agg (ak Eo)),.ep [.sl 3 (List.map ak c0)]] bH:=E3 func283 U ntmps283 U U λr C0=>by
 unfold lV;exact jm
instance(c0:(List ah)):BU prog (λx=>.agg (ak x)) (λy=>.bool y) (λx0=>lV x0 c0) 283 [.ep [.sl 3 (List.map ak c0)]]:=⟨λ_=>tI⟩
instance(o8:aa)(have_1:(List ah))(lR:(List au)):dW prog (pY o8 have_1 lR) 255 [.g (.agg (aj o8)),bt 3 ak have_1,bt 2 az lR] (λr=>fu 3 ak r):=fV func255 U ntmps255 U U λr C0=>by
 unfold pY;exact M4
instance(o8:aa)(have_1:(List ah))(lR:(List au)):dW prog (sY o8 have_1 lR) 223 [.g (.agg (aj o8)),bt 3 ak have_1,bt 2 az lR] bH:=fV func223 U ntmps223 U U λr C0=>by
 unfold sY;exact jm
set_option maxHeartbeats 4000000 in
instance(bC:(List aa))(have_1:(List ah))(lR:(List au)):dW prog (lW bC have_1 lR) 167 [bt 6 aj bC,bt 3 ak have_1,bt 2 az lR] (λr=>.eV [.agg (aj r.1),.d (.sl 6 (List.map aj r.2.1)),.d (.v (.bool r.2.2))]):=fV func167 U ntmps167 U U λr C0=>by
 have:bT (yK bC have_1 lR) (λ(v3:Int)=>⟨[(0,cP 6 aj bC),(1,cP 3 ak have_1),(2,cP 2 az lR),(6,.one (.ptr 106 0)),(11,cP 6 aj bC),(12,aV (bC.length:Int)),(13,aV v3)],[(106,some (.blk 73 [bS ByteArray.empty,bS ByteArray.empty,bB false,bI .i64 0,bI .i64 0,.g (.d<|.sl 3<|List.map ak ([]:(List ah)))]))]⟩):=⟨ayS⟩;unfold lW
 repeat' (first
  | (show SG (.assign _);first | refine eo U U ?_ | refine jI U uU iI U ?_)
  | (show SG (.slice _ _ _ _ _);refine Ro U uU iI U U U U λ_ _=>?_)
  | refine Xf ?_
  | refine qG ?_
  | refine qF ?_
  | refine VI ?_
  | refine rJ ?_
  | refine rG ?_ ?_
  | refine Zi ?_ ?_
  | exact pq
  | intro _
  | refine sk1 ?_)
instance(Lu:(List ah))(P7:(List ah)):dW prog (jA Lu P7) 305 [bt 3 ak Lu,bt 3 ak P7] bH:=fV func305 U ntmps305 U U λr C0=>by
 have:bT (m6 Lu P7) (λ(v4:Int)=>⟨[(0,cP 3 ak Lu),(1,cP 3 ak P7),(12,aV (Lu.length:Int)),(13,aV v4)],[]⟩):=⟨ayS⟩;unfold jA;exact jm
instance(dS:(List ah))(q_1:(List ah)):dW prog (DN dS q_1) 301 [bt 3 ak dS,bt 3 ak q_1] bH:=fV func301 U ntmps301 U U λr C0=>by
 unfold DN;exact jm
set_option maxHeartbeats 4000000 in
instance(eZ:aa)(b_1:aa):dW prog (Af eZ b_1) 285 [.g (.agg (aj eZ)),.g (.agg (aj b_1))] bH:=fV func285 U ntmps285 U U λr C0=>by
 unfold Af;exact jm
instance(o9:aa)(ae1:Bool)(c0:aa):dW prog (ko o9 ae1 c0) 284 [.g (.agg (aj o9)),.g (.d (.v (.bool ae1))),.ep (aj c0)] bH:=E3 func284 U ntmps284 U U λr C0=>by
 unfold ko;exact jm
instance(aL:(List ai))(v_1:ai):dW prog (jW aL v_1) 302 [bt 2 aB aL,.g (.agg (aB v_1))] j7:=fV func302 U ntmps302 U U λr C0=>by
 have:bT (ij aL v_1) (λ(v3:Int)=>⟨[(0,cP 2 aB aL),(3,.one (.ptr 103 0)),(7,aV (aL.length:Int)),(8,aV v3)],[(103,some (.blk 53 [bI .i64 v_1.N,bI .i64 v_1.Site]))]⟩):=⟨ayS⟩;unfold jW;exact jm
instance(aL:(List ai))(v_1:ai):dW prog (e7 aL v_1) 286 [bt 2 aB aL,.g (.agg (aB v_1))] bH:=fV func286 U ntmps286 U U λr C0=>by
 unfold e7;exact jm
instance(bC:(List aa))(s_1:ai):dW prog (sH bC s_1) 287 [bt 6 aj bC,.g (.agg (aB s_1))] (λr=>.eV [.agg (aj r.1),.d (.v (.bool r.2))]):=fV func287 U ntmps287 U U λr C0=>by
 unfold sH;exact jm
set_option maxHeartbeats 4000000 in
instance(bC:(List aa))(gj:ai)(AU:(List ai))(LX:aa):dW prog (sI bC gj AU LX) 257 [bt 6 aj bC,.g (.agg (aB gj)),bt 2 aB AU,.g (.agg (aj LX))] bH:=fV func257 U ntmps257 U U λr C0=>by
 unfold sI;exact jm
instance(o8:aa)(c0:(List aa))(c1:ai)(c2:(List ai)):dW prog (ng o8 c0 c1 c2) 256 [.g (.agg (aj o8)),.ep [.sl 6 (List.map aj c0)],.ep (aB c1),.ep [.sl 2 (List.map aB c2)]] bH:=E3 func256 U ntmps256 U U λr C0=>by
 unfold ng;exact jm
instance(c0:(List aa))(c1:ai)(c2:(List ai)):BU prog (λx=>.agg (aj x)) (λy=>.bool y) (λx0=>ng x0 c0 c1 c2) 256 [.ep [.sl 6 (List.map aj c0)],.ep (aB c1),.ep [.sl 2 (List.map aB c2)]]:=⟨λ_=>tI⟩
theorem tO(aL:(List aa))(dr:(aa->Option Bool))(r:(List aa))(hF:cD aL dr=some r):Ct prog 231 [.row 73 6 (List.map aj aL),.sem (rq (λx=>.agg (aj x)) (λy=>.bool y) dr)] (.new 73 6 (List.map aj r)):=by
 unfold cD at hF;refine Ct.Gi func231 U ntmps231 U λM K w=>?_;have ana:=@afZ;have ane:=@gm;have ak4:=@results231
 let ak5:=aa
 let abQ:=aj
 let ald:=(73:Nat)
 let ale:=(6:Nat)
 let aid:=fY
 let aiy:=([.v (.string ByteArray.empty),.v (.string ByteArray.empty),.v (.bool false),.v (.int .i64 0),.v (.int .i64 0),.sl 3 (List.map ak ([]:(List ah)))]:List DV)
 have abY:=@SZ
 let aiB:=([bS ByteArray.empty,bS ByteArray.empty,bB false,bI .i64 0,bI .i64 0,.g (.d<|.sl 3<|List.map ak ([]:(List ah)))]:List BV)
 exact acQ
instance(aL:(List aa))(dr:(aa->Option Bool)):CtD prog (cD aL dr) 231 73 6 (List.map aj aL) (λx=>.agg (aj x)) (λy=>.bool y) dr (λr=>(List.map aj r)):=⟨tO aL dr⟩
instance(bC:(List aa))(gj:ai)(AU:(List ai)):dW prog (ow bC gj AU) 225 [bt 6 aj bC,.g (.agg (aB gj)),bt 2 aB AU] (λr=>fu 6 aj r):=fV func225 U ntmps225 U U λr C0=>by
 unfold ow;exact M4
instance(aL:ByteArray):dW prog (nk aL) 259 [fP aL] bH:=fV func259 U ntmps259 U U λr C0=>by
 unfold nk;exact jm
instance:BU prog (λx=>.d (.v (.string x))) (λy=>.bool y) (λx0=>nk x0) 259 []:=⟨λ_=>tI⟩
instance(l:List ByteArray):CtK prog (slices_Compact_string l) 140 9 1 (List.map encS l) [] (λr=>List.map encS r):=⟨nh l⟩
theorem J1(l:List au)(r:List ByteArray)(hF:oI l=some r):Ct prog 229 [bt 2 az l] (.new 9 1 (List.map encS r)):=by
 refine Ct.iB (res:=λr=>.new 9 1<|List.map encS r) func229 U ntmps229 U U hF λC0=>?_;have:bT (vX l) (λv=>⟨[(3,.one (.own 103<|List.map encS v.2)),(6,cP 2 az l),(7,aV (l.length:Int)),(8,aV v.1)],[(103,some (.row 9 1 (List.map encS v.2) true))]⟩):=⟨ayS⟩;unfold oI
 repeat' (first
  | (show SG (.assign _);first | refine eo U U ?_ | refine gC U uU iI U U U ?_)
  | (show SG (gO 201 _ _);refine ahw 3 aj8 alR U U U U U ?_)
  | refine Xf ?_
  | refine qG ?_
  | refine qF ?_
  | refine VI ?_
  | refine rJ ?_
  | refine rG ?_ ?_
  | refine Zi ?_ ?_
  | exact GF.A4 U U U U
  | exact pq
  | intro _)
instance(gM:aF)(cL:Int)(WI:ByteArray):dW prog (rK gM cL WI) 174 [.g (.agg (bf gM)),bV cL,fP WI] bH:=fV func174 U ntmps174 U U λr C0=>by
 unfold rK;exact jm
instance(aL:Int)(c0:aF)(c1:au)(c2:aF):dW prog (pL aL c0 c1 c2) 173 [bV aL,.ep (bf c0),.ep (az c1),.ep (bf c2)] bH:=E3 func173 U ntmps173 U U λr C0=>by
 unfold pL;exact jm
instance(o8:aa)(c0:(List au)):dW prog (pX o8 c0) 232 [.g (.agg (aj o8)),.ep [.sl 2 (List.map az c0)]] bH:=E3 func232 U ntmps232 U U λr C0=>by
 unfold pX;exact jm
instance(c0:(List au)):BU prog (λx=>.agg (aj x)) (λy=>.bool y) (λx0=>pX x0 c0) 232 [.ep [.sl 2 (List.map az c0)]]:=⟨λ_=>tI⟩
instance(bC:(List aa))(WV:(List au)):dW prog (wC bC WV) 176 [bt 6 aj bC,bt 2 az WV] (λr=>fu 6 aj r):=fV func176 U ntmps176 U U λr C0=>by
 unfold wC;exact M4
end Go.Ark
