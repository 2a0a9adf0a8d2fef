/- Machine, typed functions, plain laws and walks, part 8, for TopCleans. Conditions: none but those that stand in each law. -/
import Derived.Test.YtgjndeeaafimiaaGreatD7
set_option linter.all false
open Go.Proofs.Tryz
namespace Go.Ark
open Go Go.Ab Go.RowKit Go.Lib Go.Proofs
set_option maxRecDepth 20000
set_option maxHeartbeats 2000000
set_option maxRecDepth 100000
instance(aL:ai):dW prog (jL aL) 186 [.g (.agg (aB aL))] bH:=fV func186 U ntmps186 U U λr C0=>by
 unfold jL;exact jm
instance(Eo:ah):dW prog (zL Eo) 196 [.g (.agg (ak Eo))] bH:=fV func196 U ntmps196 U U λr C0=>by
 unfold zL;exact jm
set_option maxHeartbeats 4000000 in
instance(dS:(List ah)):dW prog (nZ dS) 187 [bt 3 ak dS] bH:=fV func187 U ntmps187 U U λr C0=>by
 have:bT (yF dS) (λ(v3:Int)=>⟨[(0,cP 3 ak dS),(5,cP 3 ak dS),(6,aV (dS.length:Int)),(7,aV v3)],[]⟩):=⟨ayS⟩;unfold nZ;exact jm
set_option maxHeartbeats 4000000 in
instance(o8:aa):dW prog (jl o8) 131 [.g (.agg (aj o8))] bH:=fV func131 U ntmps131 U U λr C0=>by
 unfold jl;exact jm
instance(o8:aa)(c0:ai):dW prog (pF o8 c0) 289 [.g (.agg (aj o8)),.ep (aB c0)] bH:=E3 func289 U ntmps289 U U λr C0=>by
 unfold pF;exact jm
instance(c0:ai):BU prog (λx=>.agg (aj x)) (λy=>.bool y) (λx0=>pF x0 c0) 289 [.ep (aB c0)]:=⟨λ_=>tI⟩
theorem gm(aL:(List aa))(jH:(aa->Option Bool))(r:Int)(hF:bR aL jH=some r):Ct prog 148 [bt 6 aj aL,.sem (rq (λx=>.agg (aj x)) (λy=>.bool y) jH)] (j7 r):=by
 unfold bR at hF;refine Ct.intro func148 U ntmps148 U U λM w=>?_
 let ajq:=gA
 have afN:=@results148
 let ajr:=(6:Nat)
 let ZA:=aj
 have afO:=@SZ;exact Ue
instance(aL:(List aa))(jH:(aa->Option Bool)):CtS prog (bR aL jH) 148 (.d (.sl 6 (List.map aj aL))) (λx=>.agg (aj x)) (λy=>.bool y) jH j7:=⟨gm aL jH,λ_=>rfl⟩
instance(bC:(List aa))(s_1:ai):dW prog (nS bC s_1) 262 [bt 6 aj bC,.g (.agg (aB s_1))] j7:=fV func262 U ntmps262 U U λr C0=>by
 unfold nS;exact jm
theorem oA(aL:(List aa))(r:(List aa))(hF:cn aL=some r):Ct prog 178 [bt 6 aj aL] (.new 73 6 (List.map aj r)):=by
 unfold cn at hF;refine Ct.intro func178 U ntmps178 U U λM w=>?_
 let v_1:=(73:Nat)
 have v_2:=@results178;have LX:=@SZ
 let v_4:=(6:Nat)
 let Z3:=aj
 let v_6:=aa
 exact Nl
instance(aL:(List aa)):dW prog (cn aL) 178 [bt 6 aj aL] (λr=>fu 6 aj r):=⟨λr h=>(oA aL r h).data⟩
instance(aL:(List aa)):CtN prog (cn aL) 178 [bt 6 aj aL] 73 6 (λr=>(List.map aj r)):=⟨oA aL⟩
variable{p:Prop}
theorem TY(h:p:=by
 rw[run_callFunc_extern v_8 ayX ayX ayX (e:=Extern.SlicesOverlaps.overlaps #[v_9,v_9] #[4]) ayX,h];rfl):p:=h
theorem AJ:(prog.info? 73).map (λi=>(i.zero,i.size,i.bytes))=some (some (.agg #[.string ByteArray.empty,.string ByteArray.empty,.bool false,.int .i64 0,.int .i64 0,.slice none 0 0]:Value),6,80):=by kernel_rfl
theorem Yw(args:Array Value)(w w':World)(v:Value)(h:(Extern.SlicesOverlaps.overlaps #[47,47] #[4] args).run prog w= .ok v w'):(callFunc 290 args).run prog w= .ok (.value v) w':=by
 have v_8:=@func290
 let v_9:=(47:Nat)
 exact TY
theorem TZ(h:p:=by
 have t0:=underlying0;have a0:=isAgg0;have z0:=sizeOf0;have v0:=zeroValue0;have u0:=avm t0;have t3:=underlying3;have a3:=isAgg3;have z3:=sizeOf3;have v3:=zeroValue3;have u3:=avm t3;have t4:=underlying4;have a4:=isAgg4;have z4:=sizeOf4;have v4:=zeroValue4;have u4:=avm t4;have t47:=aiL;have a47:=aiM;have z47:=aiN;have v47:=aiO;have u47:=avm t47;have z73:=aiP;have Ku:¬((i:Int)=(n:Int)):=by omega
 have hsz:(prog.info? Qr).map (·.size)=some qB:=by
  obtain⟨i0,hi0,h0,h1,h2⟩:=axV aiQ;rw[hi0];simp[h1,Qr,qB,G3]
 have hdl:(cs.drop<|i*qB).length=(n-i)*qB:=by rw[avZ,hcl,ayb]
 have mixed:=follows;have hw0:IntKind.i64.wrap ((n:Int)+1)=(n:Int)+1:=by rw[axJ];omega
 have hw1:IntKind.i64.wrap ((i:Int)+1)=(i:Int)+1:=by rw[axJ];omega
 have hb0:(0:Int)<=(n:Int)+1:=by omega
 have hb1:(0:Int)<=(i:Int)+1:=by omega
 have hin:i<=n:=by omega
 have htn:((i:Int)+1).toNat=i+1:=by omega
 have aoj:((n:Int)+1).toNat=n+1:=by omega
 have hb2:¬(c=i+1):=by omega
 have hb3:(i:Int)<=(n:Int)+1:=by omega
 have hb4:¬(c=i):=by omega
 have hb5:¬((c:Int)<(n:Int)+1):=by omega
 have hb6:(n:Int)+1<=(c:Int):=by omega
 have akD:∀ty dc sc,(Builtin.copy_ #[G3,G3] ty #[.slice (some ⟨b,(i+1)*qB,none⟩) (n-i) dc,.slice (some ⟨b,i*qB,none⟩) (n+1-i) sc]).run prog w.drew= .ok (goInt ((n-i:Nat):Int)) (w.drew.setCells b ((i+1)*qB)<|cs.drop<|i*qB):=λty dc sc=>
  sx w.drew _ _ ty Qr b ((i+1)*qB) (n-i) dc ⟨b,i*qB,none⟩ (n+1-i) sc qB (n-i) (cs.drop<|i*qB) t47 hsz aBN hdl
   (λj v hj=>by rw[awr];exact hcs (i*qB+j) v (by rwa [awm]at hj))
   (λj hj=>hsp _ aAR) (λj hj=>hfz _ aAR) (λv hv=>h1c v<|aw0 hv)
 obtain⟨W1,O8⟩:∃W1,W1=w.drew.setCells b ((i+1)*qB) (cs.drop<|i*qB):=⟨_,U⟩;have ah1:∀k,k<(n+1)*qB->(W1.cell? ⟨b,k,none⟩).isSome=true:=λk hk=>by
  rw[O8];exact isSome_setCells b (cs.drop<|i*qB) ((i+1)*qB) w.drew (λj hj=>hsp ((i+1)*qB+j) aAR) k (hsp k hk)
 have anM:∀(W:World),(∀x,W.cell? x=W1.cell? x)->(∀x,W.frozen? x=W1.frozen? x)->∀ty dc,(Builtin.copy_ #[G3,G3] ty #[.slice (some ⟨b,i*qB,none⟩) (n+1-i) dc,.slice (some ⟨vb,voff,none⟩) 1 vc]).run prog W= .ok (goInt 1) (W.setCells b (i*qB) vs):=λW hWc hWf ty dc=>
  sx W _ _ ty Qr b (i*qB) (n+1-i) dc ⟨vb,voff,none⟩ 1 vc qB 1 vs t47 hsz aBN ayT
   (λj v hj=>by
    rw[awr,hWc,O8,World.cell?_setCells_out b _ _ _ _ (λh _=>absurd h hvb)];exact hvs j v hj)
   (λj hj=>by rw[hWc];exact ah1 _ (by rw[hvl]at hj;omega)) (λj hj=>by rw[hWf,O8,ayN];exact hfz _ (by rw[hvl]at hj;omega)) h1v
 rw[<-O8]at akD;dsimp only[Qr,qB,G3]at *;go_enter aiR,aiS
 go_wp2_with (simp only[hov])
 go_region_law_o (refine step_copy_runI U _ _ G3 G3 U _ _ (by simp[Act.eval,Act.put,Qr,qB,G3]) (by simp[Act.eval,Act.put,Qr,qB,G3]) (akD _ _ _) ?_)
 go_wp2_with (at_builtin;refine wpList_copy_runI _ U _ _ G3 G3 U _ _ U U (anM _ (λ_=>rfl) (λ_=>rfl) _ _) ?_)
 go_ret
 first | exact⟨U,U⟩ | exact⟨U,by rw[O8]⟩):p:=h
theorem RP(b n c i vb voff vc:Nat)(cs vs:List Value)(w:World)(hi:i<n)(hroom:n+1<=c)(hc63:c<=9223372036854775807)(hvb:vb≠b)
  (hcl:cs.length=n*6) (hvl:vs.length=6)
  (hcs:∀j v,cs[j]? =some v->w.cell? ⟨b,j,none⟩=some v) (hsp:∀j,j<(n+1)*6->(w.cell? ⟨b,j,none⟩).isSome=true) (hfz:∀j,j<(n+1)*6->w.frozen? ⟨b,j,none⟩=false)
  (hvs:∀j v,vs[j]? =some v->w.cell? ⟨vb,voff+j,none⟩=some v) (h1c:∀v∈cs,v.oneCell'=true) (h1v:∀v∈vs,v.oneCell'=true)
  (hov:∀lb cb,(callFunc 290 #[.slice (some ⟨vb,voff,none⟩) 1 vc,.slice (some ⟨b,(i+1)*6,none⟩) lb cb]).run prog w= .ok (.value<|.bool false) w):
  Calls prog 263 #[.slice (some ⟨b,0,none⟩) n c,.int .i64 i,.slice (some ⟨vb,voff,none⟩) 1 vc] w λe w'=>
   e= .returned (.slice (some ⟨b,0,none⟩) (n+1) c)/\w'=(w.drew.setCells b ((i+1)*6)<|cs.drop<|i*6).setCells b (i*6) vs:=by
 have aiL:=@underlying47;have aiM:=@isAgg47;have aiN:=@sizeOf47;have aiO:=@zeroValue47;have aiP:=@sizeOf73
 let Qr:=(73:Nat)
 let qB:=(6:Nat)
 have aiQ:=@AJ
 let G3:=(47:Nat)
 have aiR:=@func263;have aiS:=@ntmps263;exact TZ
theorem Ua(h:p:=by
 have t0:=underlying0;have a0:=isAgg0;have z0:=sizeOf0;have v0:=zeroValue0;have u0:=avm t0;have t3:=underlying3;have a3:=isAgg3;have z3:=sizeOf3;have v3:=zeroValue3;have u3:=avm t3;have t4:=underlying4;have a4:=isAgg4;have z4:=sizeOf4;have v4:=zeroValue4;have u4:=avm t4;have t47:=aiT;have a47:=aiU;have z47:=aiV;have v47:=aiW;have u47:=avm t47;have z73:=aiX;obtain⟨i0,hi0,hz0,hzs,Yp⟩:=axV aiY;have mixed:=follows;have hsrc:Src prog i0.size S3 (.slice (some ⟨vb,voff,none⟩) 1 vc) 1 vs w:=by
  rw[hzs];exact Src.ofSlice w t47 ⟨vb,voff,none⟩ 1 vc vs ayT (λj u hj=>by rw[awr];exact hvs j u hj) h1v
 have hrun:∀ty,(Builtin.append_ #[S3,S3] ty #[.slice (some ⟨b,0,none⟩) n c,.slice (some ⟨vb,voff,none⟩) 1 vc]).run prog w= .ok (.slice (some ⟨b,0,none⟩) (n+1) c) (w.setCells b (n*afJ) vs):=λty=>by
  have h:=run_append_room_src w S3 S3 ty afK i0 t47 hi0 b 0 n c _ 1 vs hsrc hroom (λj hj=>by rw[hzs,avS];exact hsp j<|by omega) (λj hj=>by rw[hzs,avS];exact hfz j<|by omega);rw[hzs,avS]at h;exact h
 dsimp only[S3,afJ,afK]at *;go_enter aiZ,ai0
 go_wp2_with (at_builtin;refine ayj _ U _ _ _ _ U _ _ U U _ _ (hrun _) ?_)
 go_ret;exact⟨U,U⟩):p:=h
theorem Vc(b n c vb voff vc:Nat)(vs:List Value)(w:World)(hroom:n+1<=c)(hc63:c<=9223372036854775807)(hvl:vs.length=6)
  (hsp:∀j,j<6->(w.cell? ⟨b,n*6+j,none⟩).isSome=true) (hfz:∀j,j<6->w.frozen? ⟨b,n*6+j,none⟩=false)
  (hvs:∀j v,vs[j]? =some v->w.cell? ⟨vb,voff+j,none⟩=some v) (h1v:∀v∈vs,v.oneCell'=true):
  Calls prog 263 #[.slice (some ⟨b,0,none⟩) n c,.int .i64 n,.slice (some ⟨vb,voff,none⟩) 1 vc] w λe w'=>
   e= .returned (.slice (some ⟨b,0,none⟩) (n+1) c)/\w'=w.setCells b (n*6) vs:=by
 have aiT:=@underlying47;have aiU:=@isAgg47;have aiV:=@sizeOf47;have aiW:=@zeroValue47;have aiX:=@sizeOf73;have aiY:=@AJ
 let S3:=(47:Nat)
 let afJ:=(6:Nat)
 let afK:=(73:Nat)
 have aiZ:=@func263;have ai0:=@ntmps263;exact Ua
theorem Ub(h:p:=by
 have t0:=underlying0;have a0:=isAgg0;have z0:=sizeOf0;have v0:=zeroValue0;have u0:=avm t0;have t3:=underlying3;have a3:=isAgg3;have z3:=sizeOf3;have v3:=zeroValue3;have u3:=avm t3;have t4:=underlying4;have a4:=isAgg4;have z4:=sizeOf4;have v4:=zeroValue4;have u4:=avm t4;have t47:=ai1;have a47:=ai2;have z47:=ai3;have v47:=ai4;have u47:=avm t47;have z73:=ai5;obtain⟨i0,hi0,hz0,hzs,Yp⟩:=axV ai6;have mixed:=follows;have hsrc:Src prog i0.size S4 (.slice (some ⟨vb,voff,none⟩) 1 vc) 1 vs w:=by
  rw[hzs];exact Src.ofSlice w t47 ⟨vb,voff,none⟩ 1 vc vs ayT (λj u hj=>by rw[awr];exact hvs j u hj) h1v
 have hold:(Builtin.firstCells i0.size n<|.slice base n c).run prog w.drew= .ok cs.toArray w.drew:=by
  rw[hzs];cases base with
  | none=>
   have h0:=hnil U;subst h0;rw[axd.1 (by omega:cs.length=0)];exact run_firstCells_none w.drew ac3 0 0 c
  | some a=>exact run_firstCells_some w.drew ac3 n a n c cs ayT (λj v hj=>hcs a U j v hj)
 have hrun:∀ty,(Builtin.append_ #[S4,S4] ty #[.slice base n c,.slice (some ⟨vb,voff,none⟩) 1 vc]).run prog w=_:=λty=>
  run_append_grow_src w S4 S4 ty afL i0 _ t47 hi0 hz0 base n c cs hold _ 1 vs hsrc hroom ayT (by rw[Yp];exact axq hroom hbig)
 dsimp only[S4,ac3,afL]at *;go_enter ai7,ai8;cases base with
 | none=>
  have h0:=hnil U;subst h0
  go_wp2_with (at_builtin;refine ayj _ U _ _ _ _ U _ _ U U _ _ (hrun _) ?_)
  go_ret;exact⟨U,U⟩
 | some a=>
  obtain⟨ab,ao,asp⟩:=a
  go_wp2_with (at_builtin;refine ayj _ U _ _ _ _ U _ _ U U _ _ (hrun _) ?_)
  all_goals(go_ret;exact⟨U,U⟩)):p:=h
theorem Yt(base:Option Addr)(n c vb voff vc:Nat)(cs vs:List Value)(w:World)(hnc:n<=c)(hroom:c<n+1)(hbig:(n+1)*80<=140737488355328)
  (hcl:cs.length=n*6) (hvl:vs.length=6) (hnil:base=none->n=0) (hcs:∀a,base=some a->∀j v,cs[j]? =some v->w.cell? (a.add j)=some v)
  (hvs:∀j v,vs[j]? =some v->w.cell? ⟨vb,voff+j,none⟩=some v) (h1v:∀v∈vs,v.oneCell'=true):
  Calls prog 263 #[.slice base n c,.int .i64 n,.slice (some ⟨vb,voff,none⟩) 1 vc] w λe w'=>
   e= .returned (.slice (some ⟨w.heap.size,0,none⟩) (n+1)<|grownCap w (n+1) c 73)/\
   w'=w.drew.alloc (.cells ((cs++vs).toArray++Builtin.zeroCells (.agg #[.string ByteArray.empty,.string ByteArray.empty,.bool false,.int .i64 0,.int .i64 0,.slice none 0 0]:Value).cells (grownCap w (n+1) c 73-(n+1))) 73):=by
 have ai1:=@underlying47;have ai2:=@isAgg47;have ai3:=@sizeOf47;have ai4:=@zeroValue47;have ai5:=@sizeOf73;have ai6:=@AJ
 let S4:=(47:Nat)
 let ac3:=(6:Nat)
 let afL:=(73:Nat)
 have ai7:=@func263;have ai8:=@ntmps263;exact Ub
theorem Uc(h:p:=by
 have t0:=underlying0;have a0:=isAgg0;have z0:=sizeOf0;have v0:=zeroValue0;have u0:=avm t0;have t3:=underlying3;have a3:=isAgg3;have z3:=sizeOf3;have v3:=zeroValue3;have u3:=avm t3;have t4:=underlying4;have a4:=isAgg4;have z4:=sizeOf4;have v4:=zeroValue4;have u4:=avm t4;have t47:=ai9;have a47:=aja;have z47:=ajb;have v47:=ajc;have u47:=avm t47;have z73:=ajd;have mixed:=follows;obtain⟨i0,hi0,hz0,hzs,Yp⟩:=axV aje;have Ku:¬((i:Int)=(n:Int)):=by omega
 have hz3:(c:Int)<(n:Int)+1:=by omega
 have hsz:(prog.info? tX).map (·.size)=some jk:=by rw[hi0];simp[hzs,tX,jk,Bt,MT]
 have hbw:b<w.heap.size:=block_lt_of_cell (hcs 0 _<|avs<|by omega);have hvw:vb<w.heap.size:=block_lt_of_cell (hvs 0 _<|avs<|by omega);have hkk:(n:Int)+1-(i:Int)=((n+1-i:Nat):Int):=by omega
 have hik:i+(n+1-i)=n+1:=by omega
 have hold:(Builtin.firstCells i0.size i<|.slice (some ⟨b,0,none⟩) i c).run prog w.drew= .ok (cs.take<|i*jk).toArray w.drew:=by
  rw[hzs];exact run_firstCells_some w.drew jk i ⟨b,0,none⟩ i c (cs.take<|i*jk) (by rw[avC];omega) (λj v hj=>by
   rw[awr,avS];rw[awv]at hj;split at hj
   ·exact hcs j v hj
   ·cases hj)
 have hrz:∀ty,(Builtin.append_ #[Bt,3] ty #[.slice (some ⟨b,0,none⟩) i c,.int .i64 ((n:Int)+1-(i:Int))]).run prog w=
   .ok (.slice (some ⟨w.heap.size,0,none⟩) (n+1)<|grownCap w (n+1) c tX) (w.drew.alloc<|.cells ((cs.take<|i*jk).toArray++Builtin.zeroCells MT (n+1-i)++Builtin.zeroCells MT (grownCap w (n+1) c tX-(n+1))) tX):=λty=>by
  have h:=Lib.run_append_grow_zeros w Bt 3 ty tX i0 _ .i64 .i64 t47 t3 hi0 hz0 (some ⟨b,0,none⟩) i c (cs.take<|i*jk) hold (n+1-i) ayT ayT ayT ayT (by rw[Yp];omega) (by rw[Yp,hik];exact axq hroom hbig)
  rw[hik]at h;rw[hkk];exact h
 obtain⟨G,hG⟩:∃G,G=grownCap w (n+1) c tX:=⟨_,U⟩;obtain⟨ROW,ahA⟩:∃ROW:Array Value,ROW=(cs.take<|i*jk).toArray++Builtin.zeroCells MT (n+1-i)++Builtin.zeroCells MT (G-(n+1)):=⟨_,U⟩
 rw[<-hG]at hrz ⊢;rw[<-ahA]at hrz ⊢;have hGn:n+1<=G:=by rw[hG];exact axO w _ _ _
 have hRl:(n+1)*jk<=ROW.size:=by
  rw[ahA];simp[Builtin.zeroCells,Value.cells,tX,jk,Bt,MT];omega
 obtain⟨W1,O8⟩:∃W1,W1=w.drew.alloc (.cells ROW tX):=⟨_,U⟩;rw[<-O8]at hrz;have hN:∀j,j<(n+1)*jk->(W1.cell? ⟨w.heap.size,j,none⟩).isSome=true:=λj hj=>by
  rw[O8,World.cell?_alloc_at (w:=w.drew) ROW _ w.heap.size j rfl,av2 ayT];rfl
 have hNf:∀j,W1.frozen? ⟨w.heap.size,j,none⟩=false:=λj=>by rw[O8];exact World.frozen?_alloc_at (w:=w.drew) ROW _ w.heap.size j U
 have hOb:∀j v,w.cell? ⟨b,j,none⟩=some v->W1.cell? ⟨b,j,none⟩=some v:=λj v h=>by rw[O8,World.cell?_alloc_past (w:=w.drew) _ b j hbw];exact h
 have hOv:∀j v,w.cell? ⟨vb,j,none⟩=some v->W1.cell? ⟨vb,j,none⟩=some v:=λj v h=>by rw[O8,World.cell?_alloc_past (w:=w.drew) _ vb j hvw];exact h
 have anN:∀(W:World),(∀x,W.cell? x=W1.cell? x)->(∀x,W.frozen? x=W1.frozen? x)->∀ty dc,(Builtin.copy_ #[Bt,Bt] ty #[.slice (some ⟨w.heap.size,i*jk,none⟩) (n+1-i) dc,.slice (some ⟨vb,voff,none⟩) 1 vc]).run prog W= .ok (goInt 1) (W.setCells w.heap.size (i*jk) vs):=λW hWc hWf ty dc=>
  sx W _ _ ty tX w.heap.size (i*jk) (n+1-i) dc ⟨vb,voff,none⟩ 1 vc jk 1 vs t47 hsz aBN ayT
   (λj v hj=>by rw[awr,hWc];exact hOv _ v<|hvs j v hj)
   (λj hj=>by rw[hWc];exact hN _<|by omega) (λj hj=>by rw[hWf];exact hNf _) h1v
 have hG63:G<=9223372036854775807:=by
  have:=aw9 w (n+1) c tX aAH;rw[<-hG]at this;unfold maxLen at this;omega
 have hGi:¬(G=i):=by omega
 have arW:¬(G=i+1):=by omega
 have hci:¬(c=i):=by omega
 have hbN:b≠w.heap.size:=by omega
 have hdl:(cs.drop<|i*jk).length=(n-i)*jk:=by rw[avZ,hcl,ayb]
 have akE:∀(W:World),(∀x,W.cell? x=(W1.setCells w.heap.size (i*jk) vs).cell? x)->(∀x,W.frozen? x=(W1.setCells w.heap.size (i*jk) vs).frozen? x)->∀ty dc sc,(Builtin.copy_ #[Bt,Bt] ty #[.slice (some ⟨w.heap.size,(i+1)*jk,none⟩) (n-i) dc,.slice (some ⟨b,i*jk,none⟩) (n-i) sc]).run prog W= .ok (goInt ((n-i:Nat):Int)) (W.setCells w.heap.size ((i+1)*jk)<|cs.drop<|i*jk):=λW hWc hWf ty dc sc=>
  sx W _ _ ty tX w.heap.size ((i+1)*jk) (n-i) dc ⟨b,i*jk,none⟩ (n-i) sc jk (n-i) (cs.drop<|i*jk) t47 hsz aBN hdl
   (λj v hj=>by
    rw[awr,hWc,World.cell?_setCells_out _ _ _ _ _ (λh _=>absurd h hbN)];exact hOb _ v (hcs (i*jk+j) v (by rwa [awm]at hj)))
   (λj hj=>by rw[hWc];exact isSome_setCells w.heap.size vs (i*jk) W1 (λt ht=>hN (i*jk+t)<|by omega) ((i+1)*jk+j)<|hN ((i+1)*jk+j)<|by omega)
   (λj hj=>by rw[hWf,ayN];exact hNf _) (λv hv=>h1c v<|aw0 hv)
 subst O8;have hE1:∀x,((w.alloc<|.cells ROW tX).drew).cell? x=(w.drew.alloc<|.cells ROW tX).cell? x:=λx=>rfl
 have hE2:∀x,((w.alloc<|.cells ROW tX).drew).frozen? x=(w.drew.alloc<|.cells ROW tX).frozen? x:=λx=>rfl
 have hF1:∀x,(((w.alloc<|.cells ROW tX).drew.setCells w.heap.size (i*jk) vs).drew).cell? x=((w.drew.alloc<|.cells ROW tX).setCells w.heap.size (i*jk) vs).cell? x:=λx=>rfl
 have hF2:∀x,(((w.alloc<|.cells ROW tX).drew.setCells w.heap.size (i*jk) vs).drew).frozen? x=((w.drew.alloc<|.cells ROW tX).setCells w.heap.size (i*jk) vs).frozen? x:=λx=>rfl
 have hw0:IntKind.i64.wrap ((n:Int)+1)=(n:Int)+1:=by rw[axJ];omega
 have hw1:IntKind.i64.wrap ((i:Int)+1)=(i:Int)+1:=by rw[axJ];omega
 have ZZ:IntKind.i64.wrap ((n:Int)+1-(i:Int))=(n:Int)+1-(i:Int):=by rw[axJ];omega
 have hb1:(0:Int)<=(i:Int)+1:=by omega
 have hin:i<=n:=by omega
 have htn:((i:Int)+1).toNat=i+1:=by omega
 have hb3:(i:Int)<=(n:Int):=by omega
 clear hkk hik hold ahA hG hRl;dsimp only[tX,jk,Bt]at *;go_enter ajf,ajg
 go_wp2_with (first
  | (at_builtin;refine ayj _ U _ _ _ _ U _ _ U U _ _ (hrz _) ?_)
  | (at_builtin;refine wpList_copy_runI _ U _ _ Bt Bt U _ _ U U (anN _ hE1 hE2 _ _) ?_)
  | (at_builtin;refine wpList_copy_runI _ U _ _ Bt Bt U _ _ U U (akE _ (λ_=>rfl) (λ_=>rfl) _ _ _) ?_))
 go_region_law_o (refine step_copy_runI U _ _ Bt Bt U (.slice (some ⟨w.heap.size,(i+1)*jk,none⟩) (n-i)<|G-(i+1)) (.slice (some ⟨b,i*jk,none⟩) (n-i)<|c-i) (by simp[Act.eval,Act.put,tX,jk,Bt,MT]) (by simp[Act.eval,Act.put,tX,jk,Bt,MT]) (akE _ hF1 hF2 3 (G-(i+1))<|c-i) ?_)
 go_wp2
 go_ret;exact⟨U,U⟩):p:=h
theorem U9(b n c i vb voff vc:Nat)(cs vs:List Value)(w:World)(hi:i<n)(hnc:n<=c)(hroom:c<n+1)(hbig:(n+1)*80<=140737488355328)
  (hcl:cs.length=n*6) (hvl:vs.length=6)
  (hcs:∀j v,cs[j]? =some v->w.cell? ⟨b,j,none⟩=some v)
  (hvs:∀j v,vs[j]? =some v->w.cell? ⟨vb,voff+j,none⟩=some v) (h1c:∀v∈cs,v.oneCell'=true) (h1v:∀v∈vs,v.oneCell'=true):
  Calls prog 263 #[.slice (some ⟨b,0,none⟩) n c,.int .i64 i,.slice (some ⟨vb,voff,none⟩) 1 vc] w λe w'=>
   e= .returned (.slice (some ⟨w.heap.size,0,none⟩) (n+1)<|grownCap w (n+1) c 73)/\
   w'=(((w.alloc<|.cells ((cs.take<|i*6).toArray++Builtin.zeroCells (.agg #[.string ByteArray.empty,.string ByteArray.empty,.bool false,.int .i64 0,.int .i64 0,.slice none 0 0]:Value).cells (n+1-i)++Builtin.zeroCells (.agg #[.string ByteArray.empty,.string ByteArray.empty,.bool false,.int .i64 0,.int .i64 0,.slice none 0 0]:Value).cells (grownCap w (n+1) c 73-(n+1))) 73).drew.setCells w.heap.size (i*6) vs).drew).setCells w.heap.size ((i+1)*6) (cs.drop<|i*6):=by
 have ai9:=@underlying47;have aja:=@isAgg47;have ajb:=@sizeOf47;have ajc:=@zeroValue47;have ajd:=@sizeOf73;have aje:=@AJ
 let tX:=(73:Nat)
 let jk:=(6:Nat)
 let Bt:=(47:Nat)
 let MT:=(.agg #[.string ByteArray.empty,.string ByteArray.empty,.bool false,.int .i64 0,.int .i64 0,.slice none 0 0]:Value).cells
 have ajf:=@func263;have ajg:=@ntmps263;exact Uc
theorem Ud(h:p:=by
 obtain⟨x,k,rfl,rfl,hk,hm,hb,rfl⟩:=WE hF;have hml:maxLen=9223372036854775807:=rfl;have h:=XJ (P:=prog) (f:=aji) (E:=ac4) (z:=LR) (es:=List.map ac5 aL) (x:=ac5 x) (i:=k) azf U
  (λhnil w a vb vo vc vs hV=>by
   have hs:aL= []:=by simpa using hnil
   subst hs;have Hj:k=0:=by simpa using hk
   subst Hj;refine(afM a 0 0 vb vo vc [] vs w (avq _) ayT ayT U hV.len (λ_=>rfl) (λ_ _ j v h=>ay4) hV.cell hV.one).mono λe w'⟨h1,h2⟩=>⟨_,h1,?_⟩
   subst h2;exact zh.fresh (n:=0) (by simp[hV.len]) (qz _ _) (axO w _ _ _) (aw9 w _ _ _ (by rw[hml];omega)))
  (λw b c cur vb vo vc vs hh hc hle hm2 hone hV=>by
   have hl:(List.map ac5 aL).length=aL.length:=by simp
   rw[hl]at hle hone ⊢;have hbc:aL.length*LR<=cur.size:=by rw[hc];exact avr _ hle
   have hcl:(cur.toList.take<|aL.length*LR).length=aL.length*LR:=by have:=awj (xs:=cur);rw[avC];omega
   have hcs:∀j v,(cur.toList.take<|aL.length*LR)[j]? =some v->w.cell? ⟨b,j,none⟩=some v:=λj v hj=>by
    have hlt:=(avl.1 hj).1
    rw[hcl]at hlt;rw[avR hlt,awb]at hj;rw[kj hh];exact hj
   have h1c:∀v∈cur.toList.take (aL.length*LR),v.oneCell'=true:=λv hv=>by
    obtain⟨j,hj,e⟩:=avO hv;have hg:=avs hj;rw[hcl]at hj;rw[e,avR hj,awb]at hg;exact hone j v hj hg
   have hvb:vb≠b:=λc=>hV.apart (by rw[c]);by_cases hr:aL.length+1<=c
   ·have hbr:(aL.length+1)*LR<=cur.size:=by rw[hc];exact avr _ hr
    have hsp:∀j,j<(aL.length+1)*LR->(w.cell? ⟨b,j,none⟩).isSome=true:=λj hj=>by
     rw[kj hh,av2 ayT];rfl
    have hfz:∀j,w.frozen? ⟨b,j,none⟩=false:=λj=>aAD;by_cases hi:k=aL.length
    ·subst hi
     refine(ajj b _ c vb vo vc vs w hr ayT hV.len (λj hj=>hsp _<|by omega) (λj _=>hfz _) hV.cell hV.one).mono λe w'⟨h1,h2⟩=>⟨_,h1,?_⟩
     subst h2;exact zh.room hh hc hr hm2 hV.len
    ·obtain⟨tv,kv,hs1,hs2⟩:=hV.shape
     refine(ajk b _ c k vb vo vc _ vs w ayT hr ayT hvb hcl hV.len hcs hsp (λj _=>hfz j) hV.cell h1c hV.one λlb cb=>ajl _ w w _ ?_).mono λe w'⟨h1,h2⟩=>⟨_,h1,?_⟩
     ·exact Fz w ajm 4 ac4 ajn LR ajo _ _ 1 vc lb cb hvb tv ac4 kv cur.size hs1 (by simp[World.shape?,hh]) hs2 ayT (hfz _) aAD
     ·subst h2
      exact zh.shift hh hc ayT hr hm2 hV.len
   ·by_cases hi:k=aL.length
    ·subst hi
     refine(afM (some ⟨b,0,none⟩) _ c vb vo vc _ vs w hle ayT hb hcl hV.len (λc=>aBT) (λa ha j v hj=>by cases ha;rw[awr,avS];exact hcs j v hj) hV.cell hV.one).mono λe w'⟨h1,h2⟩=>⟨_,h1,?_⟩
     subst h2;rw[axr (by rw[hcl];exact avq _),awo (by rw[hcl];exact avq _),awY];exact zh.fresh (by rw[avz,hcl,hV.len];omega) (qz _ _) (axO w _ _ _) (aw9 w _ _ _ (by rw[hml];omega))
    ·refine(ajp b _ c k vb vo vc _ vs w ayT hle ayT hb hcl hV.len hcs hV.cell h1c hV.one).mono λe w'⟨h1,h2⟩=>⟨_,h1,?_⟩
     subst h2;exact zh.grow hcl ayT hV.len (qz _ _) (qz _ _) (axO w _ _ _) (aw9 w _ _ _ (by rw[hml];omega)))
 rw[ab4];exact h):p:=h
theorem yo(aL:List aa)(i_1:Int)(v_2:List aa)(r:List aa)(hF:e8 aL i_1 v_2=some r):Ct prog 263 [.row 73 6 (List.map aj aL),bV i_1,bt 6 aj v_2] (.new 73 6 (List.map aj r)):=by
 unfold e8 at hF
 let aji:=(263:Nat)
 let ac4:=(73:Nat)
 let LR:=(6:Nat)
 let ac5:=aj
 have afM:=@Yt;have ajj:=@Vc;have ajk:=@RP;have ajl:=@Yw
 let ajm:=(47:Nat)
 have ajn:=@underlying47;have ajo:=@sizeOf73;have ajp:=@U9;exact Ud
instance(aL:List aa)(i_1:Int)(v_2:List aa):CtI prog (e8 aL i_1 v_2) 263 73 6 (List.map aj aL) [bV i_1,bt 6 aj v_2] (λr=>(List.map aj r)):=⟨λr h=>⟨yo aL i_1 v_2 r h,Ky h⟩⟩
set_option maxHeartbeats 4000000 in
instance(bC:(List aa))(v_1:aa):dW prog (zq bC v_1) 239 [bt 6 aj bC,.g (.agg (aj v_1))] (λr=>.eV [.d (.sl 6 (List.map aj r.1)),.d (.v (.bool r.2))]):=fV func239 U ntmps239 U U λr C0=>by
 unfold zq;exact M4
theorem Tt(b:Nat)(p v:Value)(w:World)(hp:p= .pointer none\/p= .pointer (some ⟨b,0,none⟩))(hbk:w.heap[b]? =some (.cells #[p,v] 312 (0,0))):
  Calls prog 264 #[.pointer (some ⟨b,0,none⟩)] w λe w'=>e= .returned (.tuple #[])/\(w'=w\/w'=w.setCell ⟨b,0,none⟩ (.pointer<|some ⟨b,0,none⟩))/\w'.heap[b]? =some (.cells #[.pointer (some ⟨b,0,none⟩),v] 312 (0,0)):=by
 have hI:(prog.info? 312).map (·.size)=some 2:=by kernel_rfl
 have hL:liesAt prog prog.depth 312 (2 / prog.cellsOf 312) 0 312 1=true:=by kernel_rfl
 obtain⟨j,hj,hjs⟩:=awd.1 hI;have t312:=underlying312;have Xw:=isAgg312;have ZR:=sizeOf312;have Zz:=zeroValue312;have Zv:=avm t312;have t310:=underlying310;have Xv:=isAgg310;have ZQ:=sizeOf310;have Zy:=zeroValue310;have Zu:=avm t310;have t108:=underlying108;have Xu:=isAgg108;have ZP:=sizeOf108;have Zx:=zeroValue108;have VM:=avm t108;have t5:=underlying5;have a5:=isAgg5;have z5:=sizeOf5;have v5:=zeroValue5;have u5:=avm t5;have t9:=underlying9;have a9:=isAgg9;have z9:=sizeOf9;have v9:=zeroValue9;have u9:=avm t9;have t4:=underlying4;have a4:=isAgg4;have z4:=sizeOf4;have v4:=zeroValue4;have u4:=avm t4;have t2:=underlying2;have a2:=isAgg2;have z2:=sizeOf2;have v2:=zeroValue2;have u2:=avm t2;have t353:=underlying353;have arf:=isAgg353;have auf:=sizeOf353;have atY:=zeroValue353;have atU:=avm t353;have h0:w.cell? ⟨b,0,none⟩=some p:=by rw[awU hbk];rfl
 rcases hp with rfl | rfl
 ·have hsh:w.shape? b=some (312,2):=by simp[World.shape?,hbk]
  have hfz:w.frozen? ⟨b,0,none⟩=false:=ayD hbk 0;go_enter func264,ntmps264
  go_wp2
  rw[Lib.run_to_unsafe w ⟨b,0,none⟩ t310 t353 hj (by rw[hjs];decide) hsh (Nat.zero_lt_succ 1)];simp only[Result.andThen];rw[Oper.upon_value]
  go_wp2
  rw[run_callFunc_extern func292 ayX ayX ayX (e:=Extern.AbiNoEscape.same) ayX];rw[Lib.run_noEscape];simp only[Result.andThen];rw[Oper.upon_value]
  go_wp2
  rw[Lib.run_from_unsafe w ⟨b,0,none⟩ t353 t310 hj hsh hL];simp only[Result.andThen];rw[Oper.upon_value]
  go_wp2
  go_end0
  exact⟨U,.inr U,by simp[World.setCell,awW,hbk]⟩
 ·go_enter func264,ntmps264
  go_wp2
  rw[Lib.run_neq_ptr_same w _ t310 hj]
  go_wp2
  go_end0
  exact⟨U,.inl U,hbk⟩
theorem Oq(b:Nat)(v:Value)(w:World)(hbk:w.heap[b]? =some (.cells #[.pointer none,v] 312 (0,0))):
  Calls prog 264 #[.pointer (some ⟨b,0,none⟩)] w λe w'=>e= .returned (.tuple #[])/\w'=w.setCell ⟨b,0,none⟩ (.pointer<|some ⟨b,0,none⟩):=
 (Tt b _ v w (.inl U) hbk).mono λe w'⟨h1,h2,h3⟩=>⟨h1,h2.resolve_left λc=>by subst c;rw[hbk]at h3;simp at h3⟩
theorem Ip{b:Nat}{p v:Value}{w w1:World}{n:Nat}{xs:List Value}(hbk:w.heap[b]? =some (.cells #[p,v] 312 (0,0)))(hown:w.ownsRow 0 5 1 v n xs)(hne:v.ownBlock≠some b)(h:w1=w\/w1=w.setCell ⟨b,0,none⟩ (.pointer (some ⟨b,0,none⟩))):
  w1.ownsRow 0 5 1 v n xs/\cU (λb'=>b'=b\/v.ownBlock=some b') w w1/\w.heap.size<=w1.heap.size/\b<w1.heap.size:=by
 have hlt:b<w.heap.size:=(avo.1 hbk).1
 rcases h with rfl | rfl
 ·exact⟨hown,.refl _,avq _,hlt⟩
 ·exact⟨dz hown λg hg=>aya _ _ _ _ λe=>hne<|by rw[hg,e],.setCell _ _ _<|.inl U,by simp[World.setCell],by simpa[World.setCell]using hlt⟩
theorem ag8(s:ByteArray)(c:Nat)(hc:c<256)(hlen:s.size+1<=140737488355328)(b:Nat)(p v:Value)(w:World)(hp:p= .pointer none\/p= .pointer (some ⟨b,0,none⟩))(hbk:w.heap[b]? =some (.cells #[p,v] 312 (0,0)))(hown:w.ownsRow 0 5 1 v s.size (Lib.strCells s))(hne:v.ownBlock≠some b):
  Calls prog 294 #[.pointer (some ⟨b,0,none⟩),.int .u8 (c:Int)] w λe w'=>e= .returned .nilIface/\B7 312 5 w b v.ownBlock (s++ByteArray.mk #[UInt8.ofNat c]) w':=by
 have hIB:(prog.info? 5).map (λi=>(i.zero,i.size,i.bytes))=some (some<|.int .u8 0,1,1):=by kernel_rfl
 obtain⟨i0,hi,hz0,hz1,Ku⟩:=axV hIB;have t312:=underlying312;have Xw:=isAgg312;have ZR:=sizeOf312;have Zz:=zeroValue312;have Zv:=avm t312;have t310:=underlying310;have Xv:=isAgg310;have ZQ:=sizeOf310;have Zy:=zeroValue310;have Zu:=avm t310;have t108:=underlying108;have Xu:=isAgg108;have ZP:=sizeOf108;have Zx:=zeroValue108;have VM:=avm t108;have t5:=underlying5;have a5:=isAgg5;have z5:=sizeOf5;have v5:=zeroValue5;have u5:=avm t5;have t9:=underlying9;have a9:=isAgg9;have z9:=sizeOf9;have v9:=zeroValue9;have u9:=avm t9;have t4:=underlying4;have a4:=isAgg4;have z4:=sizeOf4;have v4:=zeroValue4;have u4:=avm t4;have t2:=underlying2;have a2:=isAgg2;have z2:=sizeOf2;have v2:=zeroValue2;have u2:=avm t2;go_enter func294,ntmps294
 go_wp2_with (go_at_call 264;refine(Tt b p v _ hp hbk).mono ?_)
 rintro e w1 ⟨rfl,h1,Ge⟩;obtain⟨hown1,hk1,hs1,UY⟩:=Ip hbk hown hne h1;have c0:w1.cell? ⟨b,0,none⟩=some (.pointer<|some ⟨b,0,none⟩):=by rw[awU Ge];rfl
 have c1:w1.cell? ⟨b,1,none⟩=some v:=by rw[awU Ge];rfl
 go_wp2_with (at_builtin;refine FK _ U _ _ 108 U 5 i0 t108 hi hz0 hz1 Ku _ _ _ U (hown1.alloc _) ⟨w1.heap.size,0,none⟩ 1 (.int .u8 (c:Int)) U ayW U hlen ?_)
 intro v' w2 hown' hgrow hblk;have hbA:(w1.alloc<|.cells #[.int .u8 (c:Int)] 5).heap[b]? =some (.cells #[.pointer (some ⟨b,0,none⟩),v] 312 (0,0)):=by rw[Lib.alloc_old w1 _ b UY];exact Ge
 have hb2:w2.heap[b]? =some (.cells #[.pointer (some ⟨b,0,none⟩),v] 312 (0,0)):=by
  rw[hgrow.block b ayV (λe=>hne e.symm)];exact hbA
 have d0:w2.cell? ⟨b,0,none⟩=some (.pointer<|some ⟨b,0,none⟩):=by rw[awU hb2];rfl
 have d1:w2.cell? ⟨b,1,none⟩=some v:=by rw[awU hb2];rfl
 have f1:w2.frozen? ⟨b,1,none⟩=false:=ayD hb2 1;obtain⟨ao,n',cap,rfl⟩:∃ao n' cap,v'= .slice ao n' cap:=by
  rcases hown'.2 with⟨hv,_⟩ | ⟨g,cap,cur,hv,_⟩
  ·exact⟨_,_,_,hv⟩
  ·exact⟨_,_,_,hv⟩
 go_wp2
 go_ret;exact⟨U,QS hbA hne (hk1.trans<|.below<|dM _ _) ayV ayV hown' (by rw[aw4];rfl) (by rw[Qi c hc,GY]) hgrow (by simpa using hblk)<|by decide⟩
theorem Jk(b:Nat)(s:ByteArray)(c:Int)(r:ByteArray)(hF:jc s c=some r):fc prog (γ:=Unit) 294 (kE 312 5 b s) (λ_=>kE 312 5 b (r)) [bZ b,.g (.d (.v (.int .u8 c)))] (λ_=>.one (.d (.v .nilIface))):=by
 unfold jc at hF;split at hF
 ·rename_i hl
  cases hF;obtain⟨n,rfl⟩:∃n:Nat,c=n:=⟨c.toNat,ayT⟩;exact af4 (arg:=.int .u8 (n:Int)) (v:=.nilIface) (λM w'=>RD.v _ U) (λ_ _ _ h=>RD.aX h) (λp vb w h1 h2 h3 h4=>ag8 s n ayT hl.2.2 b p vb w h1 h2 h3 h4)
 ·cases hF
instance(s:ByteArray)(c:Int):mU prog (jc s c) 294 (λb:Nat=>kE 312 5 b s) (λ(b:Nat)(_:Unit)(r:ByteArray)=>kE 312 5 b (r)) (λb=>[bZ b,.g (.d (.v (.int .u8 c)))]) (λ_ r=>.one (.d (.v .nilIface))):=⟨λb r h=>Jk b s c r h,λ_ _ _=>oM,⟨()⟩⟩
theorem VY(b:Nat)(s:ByteArray)(n:Int)(r:ByteArray)(hF:Ad s n=some r):fc prog (γ:=Unit) 267 (kE 312 5 b s) (λ_=>kE 312 5 b (r)) [bZ b,.g (.d (.v (.int .u64 n)))] (λ_=>.eV []):=by
 refine fc.iB (R:=ByteArray) (iz:=λr _=>kE 312 5 b r) (res:=λ_ _=>.eV []) func267 U ntmps267 U U oM hF λC0=>?_;have:bT Dl (λv=>⟨[(0,.one (pt b 0)),(1,.one (bI .u64 v.1))],[kO (kE 312 5 b v.2)]⟩):=⟨ayS⟩;unfold Ad;exact M4
instance(s:ByteArray)(n:Int):mU prog (Ad s n) 267 (λb:Nat=>kE 312 5 b s) (λ(b:Nat)(_:Unit)(r:ByteArray)=>kE 312 5 b (r)) (λb=>[bZ b,.g (.d (.v (.int .u64 n)))]) (λ_ r=>.eV []):=⟨λb r h=>VY b s n r h,λ_ _ _=>oM,⟨()⟩⟩
theorem MZ(b:Nat)(n:Int)(s r:ByteArray)(hF:tE n s=some r):fc prog (γ:=Unit) 266 (kE 312 5 b s) (λ_=>kE 312 5 b r) [.g (.d (.v (.int .u64 n))),bZ b] (λ_=>.eV []):=by
 refine fc.iB (R:=ByteArray) (iz:=λr _=>kE 312 5 b r) (res:=λ_ _=>.eV []) func266 U ntmps266 U U oM hF λC0=>?_;unfold tE;exact wk
instance(n:Int)(s:ByteArray):mU prog (tE n s) 266 (λb:Nat=>kE 312 5 b s) (λ(b:Nat)(_:Unit)(r:ByteArray)=>kE 312 5 b r) (λb=>[.g (.d (.v (.int .u64 n))),bZ b]) (λ_ _=>.eV []):=⟨λb r h=>MZ b n s r h,λ_ _ _=>oM,⟨()⟩⟩
theorem ag7(s:ByteArray)(hs:s.size≠0)(b:Nat)(p v:Value)(w:World)(hbk:w.heap[b]? =some (.cells #[p,v] 312 (0,0)))(hown:w.ownsRow 0 5 1 v s.size (Lib.strCells s)):
  Calls prog 242 #[.pointer (some ⟨b,0,none⟩)] w λe w'=>e= .returned (.string s)/\cU (λb'=>v.ownBlock=some b') w w':=by
 have hCB:prog.cellsOf 5=1:=by kernel_rfl
 have mixed:prog.follows .mixedOrders=true:=by kernel_rfl
 have hl0:s.data.toList≠[]:=λh=>hs (by have:=awp List.length h;simpa using this);have Wx:s.data.toList.length=s.size:=by simp
 have hsb:Lib.strCells s=Lib.byteCells s.data.toList:=rfl;have B6:(⟨s.data.toList.toArray⟩:ByteArray)=s:=by cases s;simp
 rw[hsb,<-Wx]at hown;generalize s.data.toList=l at hown hl0 Wx B6;clear Wx hsb;have akP:=hown;obtain⟨g,cap,cur,rfl,hg,hnc,pR,hcs,ud⟩:∃g cap cur,v= .slice (some ⟨g,0,none⟩) l.length cap/\w.heap[g]? =some (.cells cur 5 (0,0))/\l.length<=cap/\cap<=maxLen/\cur.size=cap*1/\cur.toList.take (l.length*1)=Lib.byteCells l:=by
  rcases hown.2 with⟨_,hz⟩ | ⟨g,cap,cur,hv,_,r⟩
  ·exact absurd (awD hz) hl0
  ·exact⟨g,cap,cur,hv,r⟩
 have c1:w.drew.cell? ⟨b,1,none⟩=some (.slice (some ⟨g,0,none⟩) l.length cap):=by
  have:w.drew.heap[b]? =some (.cells #[p,.slice (some ⟨g,0,none⟩) l.length cap] 312 (0,0)):=hbk;rw[awU this];rfl
 have t312:=underlying312;have Xw:=isAgg312;have ZR:=sizeOf312;have Zz:=zeroValue312;have Zv:=avm t312;have t310:=underlying310;have Xv:=isAgg310;have ZQ:=sizeOf310;have Zy:=zeroValue310;have Zu:=avm t310;have t108:=underlying108;have Xu:=isAgg108;have ZP:=sizeOf108;have Zx:=zeroValue108;have VM:=avm t108;have t5:=underlying5;have a5:=isAgg5;have z5:=sizeOf5;have v5:=zeroValue5;have u5:=avm t5;have t9:=underlying9;have a9:=isAgg9;have z9:=sizeOf9;have v9:=zeroValue9;have u9:=avm t9;have t4:=underlying4;have a4:=isAgg4;have z4:=sizeOf4;have v4:=zeroValue4;have u4:=avm t4;have t3:=underlying3;have a3:=isAgg3;have z3:=sizeOf3;have v3:=zeroValue3;have u3:=avm t3;have t334:=underlying334;have amT:=isAgg334;have apU:=sizeOf334;have apD:=zeroValue334;have apC:=avm t334;have hl1:l.length≠0:=λh=>hl0 (awD h);have hSD:(Builtin.unsafeSliceData_ #[108] 334 #[.slice (some ⟨g,0,none⟩) l.length cap]).run prog w.drew= .ok (.pointer<|some ⟨g,0,none⟩) w.drew:=
  Lib.run_unsafeSliceData_row _ _ _ _ _ _ ayT
 have hUS:(Builtin.unsafeString_ #[334,3] 9 #[.pointer (some ⟨g,0,none⟩),.int .i64 l.length]).run prog w.drew= .ok (.string s) (w.drew.freeze ⟨g,0,none⟩ l.length):=by
  rw[<-B6];refine Lib.run_unsafeString_row w.drew 334 3 9 5 t334 hCB g cur.size (by have hg':w.drew.heap[g]? =some (.cells cur 5 (0,0)):=hg;simp[World.shape?,hg']) l hl0 ayT (by unfold maxLen at pR;omega) ?_;intro j x hx;have:=akP.cells (g:=g) U j (.int .u8 x.toNat) (by simp[Lib.byteCells,hx]);exact this
 go_enter func242,ntmps242
 go_wp2
 go_region_o
 all_goals(go_wp2;go_ret;exact⟨U,Pj w g _⟩)
theorem ag6(b:Nat)(p v:Value)(w:World)(hbk:w.heap[b]? =some (.cells #[p,v] 312 (0,0)))(hown:w.ownsRow 0 5 1 v 0 []):
  Calls prog 242 #[.pointer (some ⟨b,0,none⟩)] w λe w'=>e= .returned (.string ByteArray.empty)/\cU (λb'=>v.ownBlock=some b') w w':=by
 have mixed:prog.follows .mixedOrders=true:=by kernel_rfl
 have t312:=underlying312;have Xw:=isAgg312;have ZR:=sizeOf312;have Zz:=zeroValue312;have Zv:=avm t312;have t310:=underlying310;have Xv:=isAgg310;have ZQ:=sizeOf310;have Zy:=zeroValue310;have Zu:=avm t310;have t108:=underlying108;have Xu:=isAgg108;have ZP:=sizeOf108;have Zx:=zeroValue108;have VM:=avm t108;have t5:=underlying5;have a5:=isAgg5;have z5:=sizeOf5;have v5:=zeroValue5;have u5:=avm t5;have t9:=underlying9;have a9:=isAgg9;have z9:=sizeOf9;have v9:=zeroValue9;have u9:=avm t9;have t4:=underlying4;have a4:=isAgg4;have z4:=sizeOf4;have v4:=zeroValue4;have u4:=avm t4;have t3:=underlying3;have a3:=isAgg3;have z3:=sizeOf3;have v3:=zeroValue3;have u3:=avm t3;have t334:=underlying334;have amT:=isAgg334;have apU:=sizeOf334;have apD:=zeroValue334;have apC:=avm t334;have hUS:∀(q:Option Addr)(W:World),(Builtin.unsafeString_ #[334,3] 9 #[.pointer q,.int .i64 0]).run prog W= .ok (.string ByteArray.empty) W:=λq W=>Lib.run_unsafeString_none (w:=W) 334 3 9 q
 have Ge:w.drew.heap[b]? =some (.cells #[p,v] 312 (0,0)):=hbk;have hlt:b<w.drew.heap.size:=(avo.1 Ge).1
 have c1:w.drew.cell? ⟨b,1,none⟩=some v:=by rw[awU Ge];rfl
 rcases hown.2 with⟨rfl,_⟩ | ⟨g,cap,cur,rfl,_,hg,_,_,_,_⟩
 ·have hSD:(Builtin.unsafeSliceData_ #[108] 334 #[.slice none 0 0]).run prog w.drew= .ok (.pointer none) w.drew:=Lib.run_unsafeSliceData_nil _ _ _ _ _
  go_enter func242,ntmps242
  go_wp2
  go_region_o
  all_goals(go_wp2;go_ret;exact⟨U,.below<|.drew<|.refl _ _⟩)
 ·by_cases hc:cap=0
  ·subst hc
   have hg1:w.drew.heap[g]? =some (.cells cur 5 (0,0)):=hg;have hSD:(Builtin.unsafeSliceData_ #[108] 334 #[.slice (some ⟨g,0,none⟩) 0 0]).run prog w.drew= .ok (.pointer<|some ⟨w.drew.heap.size,0,none⟩) (w.drew.alloc<|.view ⟨g,0,none⟩ 5):=
    Lib.run_unsafeSliceData_zero _ _ _ 5 t334 _ _ (5,cur.size) (by simp[World.shape?,hg1])
   have c2:(w.alloc<|.view ⟨g,0,none⟩ 5).cell? ⟨b,1,none⟩=some (.slice (some ⟨g,0,none⟩) 0 0):=by rw[awU ((Lib.alloc_old w _ b hlt).trans hbk)];rfl
   go_enter func242,ntmps242
   go_wp2
   go_region_o
   all_goals(go_wp2;go_ret;exact⟨U,.below<|(ayI<|.refl _ _).alloc (avq _) _⟩)
  ·have hSD:(Builtin.unsafeSliceData_ #[108] 334 #[.slice (some ⟨g,0,none⟩) 0 cap]).run prog w.drew= .ok (.pointer<|some ⟨g,0,none⟩) w.drew:=Lib.run_unsafeSliceData_row _ _ _ _ _ _ hc
   go_enter func242,ntmps242
   go_wp2
   go_region_o
   all_goals(go_wp2;go_ret;exact⟨U,.below<|.drew<|.refl _ _⟩)
theorem Qt(b:Nat)(s:ByteArray)(r:ByteArray)(hF:qM s=some r):fc prog (γ:=Unit) 242 (kE 312 5 b s) (λ_=>tH) [bZ b] (λ_=>KS r):=by
 cases hF;by_cases hl:s.size=0
 ·obtain rfl:s=ByteArray.empty:=by
   cases s with | mk d=>cases d with | mk l=>cases l with | nil=>rfl | cons x l=>simp[ByteArray.size]at hl
  exact aaz λp vb w h1 h2=>ag6 b p vb w h1 h2
 ·exact aaz λp vb w h1 h2=>ag7 s hl b p vb w h1 h2
instance(s:ByteArray):mU prog (qM s) 242 (λb:Nat=>kE 312 5 b s) (λ(b:Nat)(_:Unit)(r:ByteArray)=>tH) (λb=>[bZ b]) (λ_ r=>KS r):=⟨λb r h=>Qt b s r h,λ_ _ _=>oM,⟨()⟩⟩
instance:EZ prog 312 [.v (.pointer none),.v (.slice none 0 0)]:=⟨_,_,_,al6,⟨.v _ U,.v _ U,ayS⟩,U⟩
set_option maxHeartbeats 4000000 in
instance(l:List Int):dW prog (vv l) 243 [bt 1 Q5 l] KS:=fV func243 U ntmps243 U U λr C0=>by
 refine GF.pre (λa w q=>q.D5 1000 U U) ?_;unfold vv
 repeat' (first
  | (show SG (.assign _);first | refine eo U U ?_ | refine jI U uU iI U ?_)
  | (show SG (.alloc 312);refine Q9 1000 5 U zR U U U λb=>?_;have:bT (qx l) (λv=>⟨[(3,.one (pt b 0)),(4,.one (dv<|.func (.func 266) #[] #[.pointer (some ⟨b,0,none⟩)])),(8,cP 1 Q5 l),(9,aV (l.length:Int)),(10,aV v.1)],[kO (kE 312 5 b v.2)]⟩):=⟨ayS⟩;exact M4)
  | refine Xf ?_
  | refine qG ?_
  | refine qF ?_
  | refine VI ?_
  | refine rJ ?_
  | refine rG ?_ ?_
  | refine Zi ?_ ?_
  | exact pq
  | intro _)
instance(S5:Int):dW prog (mC S5) 192 [.g (.d (.v (.int .u64 S5)))] KS:=fV func192 U ntmps192 U U λr C0=>by
 unfold mC;exact jm
instance(aL:ByteArray):dW prog (rR aL) 191 [fP aL] KS:=fV func191 U ntmps191 U U λr C0=>by
 unfold rR;exact jm
instance(aL:ai):dW prog (o7 aL) 193 [.g (.agg (aB aL))] KS:=fV func193 U ntmps193 U U λr C0=>by
 unfold o7;exact jm
theorem ag9(s t:ByteArray)(hlen:s.size+t.size<=140737488355328)(b:Nat)(p v:Value)(w:World)(hp:p= .pointer none\/p= .pointer (some ⟨b,0,none⟩))(hbk:w.heap[b]? =some (.cells #[p,v] 312 (0,0)))(hown:w.ownsRow 0 5 1 v s.size (Lib.strCells s))(hne:v.ownBlock≠some b):
  Calls prog 241 #[.pointer (some ⟨b,0,none⟩),.string t] w λe w'=>e= .returned (.tuple #[.int .i64 t.size,.nilIface])/\B7 312 5 w b v.ownBlock (s++t) w':=by
 have hIB:(prog.info? 5).map (λi=>(i.zero,i.size,i.bytes))=some (some<|.int .u8 0,1,1):=by kernel_rfl
 obtain⟨i0,hi,hz0,hz1,Ku⟩:=axV hIB;have t312:=underlying312;have Xw:=isAgg312;have ZR:=sizeOf312;have Zz:=zeroValue312;have Zv:=avm t312;have t310:=underlying310;have Xv:=isAgg310;have ZQ:=sizeOf310;have Zy:=zeroValue310;have Zu:=avm t310;have t108:=underlying108;have Xu:=isAgg108;have ZP:=sizeOf108;have Zx:=zeroValue108;have VM:=avm t108;have t5:=underlying5;have a5:=isAgg5;have z5:=sizeOf5;have v5:=zeroValue5;have u5:=avm t5;have t9:=underlying9;have a9:=isAgg9;have z9:=sizeOf9;have v9:=zeroValue9;have u9:=avm t9;have t4:=underlying4;have a4:=isAgg4;have z4:=sizeOf4;have v4:=zeroValue4;have u4:=avm t4;have t3:=underlying3;have a3:=isAgg3;have z3:=sizeOf3;have v3:=zeroValue3;have u3:=avm t3;go_enter func241,ntmps241
 go_wp2_with (go_at_call 264;refine(Tt b p v _ hp hbk).mono ?_)
 rintro e w1 ⟨rfl,h1,Ge⟩;obtain⟨hown1,hk1,hs1,UY⟩:=Ip hbk hown hne h1;have c0:w1.cell? ⟨b,0,none⟩=some (.pointer<|some ⟨b,0,none⟩):=by rw[awU Ge];rfl
 have c1:w1.cell? ⟨b,1,none⟩=some v:=by rw[awU Ge];rfl
 go_wp2_with (at_builtin;refine Eh _ U _ _ 108 9 U 5 i0 t108 t9 hi hz0 hz1 Ku _ _ _ U hown1 t U hlen ?_)
 intro v' w2 hown' hgrow hblk;have hb2:w2.heap[b]? =some (.cells #[.pointer (some ⟨b,0,none⟩),v] 312 (0,0)):=by
  rw[hgrow.block b UY (λe=>hne e.symm)];exact Ge
 have d0:w2.cell? ⟨b,0,none⟩=some (.pointer<|some ⟨b,0,none⟩):=by rw[awU hb2];rfl
 have d1:w2.cell? ⟨b,1,none⟩=some v:=by rw[awU hb2];rfl
 have f1:w2.frozen? ⟨b,1,none⟩=false:=ayD hb2 1;obtain⟨ao,n',cap,rfl⟩:∃ao n' cap,v'= .slice ao n' cap:=by
  rcases hown'.2 with⟨hv,_⟩ | ⟨g,cap,cur,hv,_⟩
  ·exact⟨_,_,_,hv⟩
  ·exact⟨_,_,_,hv⟩
 go_wp2
 go_ret2
 exact⟨U,QS Ge hne hk1 hs1 UY hown' (by rw[aw4]) (GY s t) hgrow hblk<|by decide⟩
theorem He(b:Nat)(s t:ByteArray)(r:ByteArray)(hF:dO s t=some r):fc prog (γ:=Unit) 241 (kE 312 5 b s) (λ_=>kE 312 5 b (r)) [bZ b,fP t] (λ_=>.eV [.d (.v (.int .i64 (t.size:Int))),.d (.v .nilIface)]):=by
 unfold dO at hF;split at hF
 ·rename_i hl
  cases hF;refine af4 (arg:=.string t) (v:=.tuple #[.int .i64 t.size,.nilIface]) (λM w'=>⟨_,U,U,λi g hi=>?_⟩) (λ_ _ _ h=>RD.aX h) (λp vb w h1 h2 h3 h4=>ag9 s t hl b p vb w h1 h2 h3 h4)
  match i with
  | 0=>simp at hi;subst hi;exact⟨_,U,RD.v _ U⟩
  | 1=>simp at hi;subst hi;exact⟨_,U,RD.v _ U⟩
  | i+2=>simp at hi
 ·cases hF
instance(s t:ByteArray):mU prog (dO s t) 241 (λb:Nat=>kE 312 5 b s) (λ(b:Nat)(_:Unit)(r:ByteArray)=>kE 312 5 b (r)) (λb=>[bZ b,fP t]) (λ_ r=>.eV [.d (.v (.int .i64 (t.size:Int))),.d (.v .nilIface)]):=⟨λb r h=>He b s t r h,λ_ _ _=>oM,⟨()⟩⟩
set_option maxHeartbeats 4000000 in
instance(l:List ah):dW prog (wo l) 194 [bt 3 ak l] KS:=fV func194 U ntmps194 U U λr C0=>by
 refine GF.pre (λa w q=>q.D5 1000 U U) ?_;unfold wo
 repeat' (first
  | (show SG (.assign _);first | refine eo U U ?_ | refine jI U uU iI U ?_)
  | (show SG (.alloc 312);refine Q9 1000 5 U zR U U U λb=>?_;have:bT (nD l) (λv=>⟨[(3,.one (pt b 0)),(14,cP 3 ak l),(15,aV (l.length:Int)),(16,aV v.1)],[kO (kE 312 5 b v.2)]⟩):=⟨ayS⟩;exact M4)
  | refine Xf ?_
  | refine qG ?_
  | refine qF ?_
  | refine VI ?_
  | refine rJ ?_
  | refine rG ?_ ?_
  | refine Zi ?_ ?_
  | exact pq
  | intro _)
theorem ag5(b n:Nat)(w:World)(hbk:w.heap[b]? =some (.cells #[.pointer (some ⟨b,0,none⟩),.slice none 0 0] 312 (0,0)))(hn:n<=140737488355328):
  Calls prog 265 #[.pointer (some ⟨b,0,none⟩),.int .i64 n] w λe w'=>e= .returned (.tuple #[])/\B7 312 5 w b none ByteArray.empty w':=by
 have hSB:(prog.info? 5).map (·.size)=some 1:=by kernel_rfl
 have t312:=underlying312;have Xw:=isAgg312;have ZR:=sizeOf312;have Zz:=zeroValue312;have Zv:=avm t312;have t310:=underlying310;have Xv:=isAgg310;have ZQ:=sizeOf310;have Zy:=zeroValue310;have Zu:=avm t310;have t108:=underlying108;have Xu:=isAgg108;have ZP:=sizeOf108;have Zx:=zeroValue108;have VM:=avm t108;have t5:=underlying5;have a5:=isAgg5;have z5:=sizeOf5;have v5:=zeroValue5;have u5:=avm t5;have t9:=underlying9;have a9:=isAgg9;have z9:=sizeOf9;have v9:=zeroValue9;have u9:=avm t9;have t4:=underlying4;have a4:=isAgg4;have z4:=sizeOf4;have v4:=zeroValue4;have u4:=avm t4;have t3:=underlying3;have a3:=isAgg3;have z3:=sizeOf3;have v3:=zeroValue3;have u3:=avm t3;obtain⟨cs,hrun,hle,pn⟩:=Lib.run_makeNoZero (P:=prog) w.drew #[3] 108 5 t108 n ayT;have hw:IntKind.i64.wrap (IntKind.i64.wrap 0+(n:Int))=n:=by
  rw[axJ,axJ];omega
 have oH:(callFunc 293 #[.int .i64 (IntKind.i64.wrap<|IntKind.i64.wrap 0+(n:Int))]).run prog w.drew= .ok (.value<|.slice (some ⟨w.drew.heap.size,0,none⟩) n cs.size) (w.drew.drew.drew.alloc<|.cells cs 5):=by
  rw[hw,run_callFunc_extern func293 ayX ayX ayX (e:=Extern.BytealgMakeNoZero.makeNoZero #[3] #[108]) ayX,hrun];rfl
 have hlt:b<w.heap.size:=(avo.1 hbk).1
 have c1:w.drew.cell? ⟨b,1,none⟩=some (.slice none 0 0):=by
  have:w.drew.heap[b]? =_:=hbk;rw[awU this];rfl
 have c2:(w.alloc<|.cells cs 5).cell? ⟨b,1,none⟩=some (.slice none 0 0):=by
  have:(w.alloc<|.cells cs 5).heap[b]? =_:=(Lib.alloc_old w _ b hlt).trans hbk
  rw[awU this];rfl
 have f2:(w.alloc<|.cells cs 5).frozen? ⟨b,1,none⟩=false:=ayD ((Lib.alloc_old w _ b hlt).trans hbk) 1
 have aqs:∀W:World,(Builtin.copy_ #[108,108] 3 #[.slice (some ⟨w.heap.size,0,none⟩) 0 cs.size,.slice none 0 0]).run prog W= .ok (goInt 0) W:=
  λW=>run_copy_none W 108 108 3 5 _ _ 0 cs.size 0 0 t108 hSB U
 have mixed:prog.follows .mixedOrders=true:=by kernel_rfl
 have aeP:=Yd (T:=312) (E:=5) (cs:=cs) hbk (pn aAH) ayZ;clear hw hlt;go_enter func265,ntmps265
 go_wp2
 go_region_o
 all_goals(go_wp2;go_end0;exact⟨U,aeP⟩)
theorem ag4(n:Nat)(hn:n<=140737488355328)(b:Nat)(w:World)(hbk:w.heap[b]? =some (.cells #[.pointer none,.slice none 0 0] 312 (0,0))):
  Calls prog 240 #[.pointer (some ⟨b,0,none⟩),.int .i64 n] w λe w'=>e= .returned (.tuple #[])/\B7 312 5 w b none ByteArray.empty w':=by
 have Ge:(w.setCell ⟨b,0,none⟩<|.pointer<|some ⟨b,0,none⟩).heap[b]? =some (.cells #[.pointer (some ⟨b,0,none⟩),.slice none 0 0] 312 (0,0)):=by
  simp[World.setCell,awW,hbk]
 have c1:(w.setCell ⟨b,0,none⟩<|.pointer<|some ⟨b,0,none⟩).cell? ⟨b,1,none⟩=some (.slice none 0 0):=by rw[awU Ge];rfl
 have t312:=underlying312;have Xw:=isAgg312;have ZR:=sizeOf312;have Zz:=zeroValue312;have Zv:=avm t312;have t310:=underlying310;have Xv:=isAgg310;have ZQ:=sizeOf310;have Zy:=zeroValue310;have Zu:=avm t310;have t108:=underlying108;have Xu:=isAgg108;have ZP:=sizeOf108;have Zx:=zeroValue108;have VM:=avm t108;have t5:=underlying5;have a5:=isAgg5;have z5:=sizeOf5;have v5:=zeroValue5;have u5:=avm t5;have t9:=underlying9;have a9:=isAgg9;have z9:=sizeOf9;have v9:=zeroValue9;have u9:=avm t9;have t4:=underlying4;have a4:=isAgg4;have z4:=sizeOf4;have v4:=zeroValue4;have u4:=avm t4;have t3:=underlying3;have a3:=isAgg3;have z3:=sizeOf3;have v3:=zeroValue3;have u3:=avm t3;have mixed:prog.follows .mixedOrders=true:=by kernel_rfl
 have Ow:(w.setCell ⟨b,0,none⟩<|.pointer<|some ⟨b,0,none⟩).drew.cell? ⟨b,1,none⟩=some (.slice none 0 0):=c1
 have hpost:=QO (E:=5) hbk;have ahW:=λw' h=>QN (E:=5) (w':=w') hbk h;go_enter func240,ntmps240
 go_wp2_with (go_at_call 264;refine(Oq b _ w hbk).mono ?_;rintro e w' ⟨rfl,rfl⟩)
 go_region_o
 all_goals go_wp2_with (go_at_call 265;refine(ag5 b n (w.setCell ⟨b,0,none⟩<|.pointer<|some ⟨b,0,none⟩).drew Ge hn).mono ?_;rintro e w' ⟨rfl,h1⟩)
 all_goals first
  | (go_end0;exact⟨U,ahW _ h1⟩)
  | (go_end0;exact⟨U,hpost⟩)
theorem wkG(h:p:=by
 repeat' (first
  | (show SG (.assign _);first | refine eo U U ?_ | refine jI U uU iI U ?_)
  | (show SG (gO 240 _ _);refine GO.ag0 ay6 ?_;refine Wf 1000 U D2 cI U U hI U ayX λ_ _ _=>?_)
  | (show SG (.slice _ _ _ _ _);refine Ro U uU iI U U U U λ_ _=>?_)
  | refine Xf ?_
  | refine qG ?_
  | refine qF ?_
  | refine VI ?_
  | refine rJ ?_
  | refine rG ?_ ?_
  | refine Zi ?_ ?_
  | exact pq
  | refine sk1 ?_
  | intro _)):p:=h
theorem ZE(b:Nat)(n:Int)(r:Unit)(h:FW n=some r):fc prog (γ:=Unit) 240 (eu b 312 [.v (.pointer none),.v (.slice none 0 0)]) (λ_=>kE 312 5 b ByteArray.empty) [bZ b,bV n] (λ_=>.eV []):=by
 unfold FW at h;split at h
 ·rename_i hl
  obtain⟨h0,h1⟩:=awf hl;obtain⟨n,rfl⟩:=Int.eq_ofNat_of_zero_le h0;exact ahi λw hw=>ag4 n ayT b w hw
 ·cases h
instance(n:Int):mU prog (FW n) 240 (λb:Nat=>eu b 312 [.v (.pointer none),.v (.slice none 0 0)]) (λ(b:Nat)(_:Unit)(_:Unit)=>kE 312 5 b ByteArray.empty) (λb=>[bZ b,bV n]) (λ_ _=>.eV []):=⟨λb r h=>ZE b n r h,λ_ _ _=>oM,⟨()⟩⟩
set_option maxHeartbeats 4000000 in
instance(l:List ByteArray)(s:ByteArray):dW prog (qu l s) 190 [bt 1 encS l,fP s] KS:=fV func190 U ntmps190 U U λr C0=>by
 have:bT (ki l s) (λv=>⟨[(0,cP 1 encS l),(1,.one (bS s)),(5,aV v.1),(39,cP 1 encS l),(40,aV (l.length:Int)),(41,aV v.2)],[kO tH]⟩):=⟨ayS⟩;refine GF.pre (λa w q=>q.D5 1000 U U) ?_;unfold qu
 repeat' (first
  | (show SG (.assign _);first | refine eo U U ?_ | refine jI U uU iI U ?_)
  | (show SG (.alloc 312);refine iK 1000 U zR U U ayX λb=>?_;have:=λl9=>(⟨ayS⟩:bT (kf s l9) (λv=>⟨[(1,.one (bS s)),(8,.one (pt b 0)),(63,cP 1 encS l9),(64,aV (l9.length:Int)),(65,aV v.1)],[kO (Sep tH<|kE 312 5 b v.2)]⟩));exact wkG)
  | refine Xf ?_
  | refine qG ?_
  | refine qF ?_
  | refine VI ?_
  | refine rJ ?_
  | refine rG ?_ ?_
  | refine Zi ?_ ?_
  | exact pq
  | intro _)
instance(o8:aa):dW prog (rT o8) 134 [.g (.agg (aj o8))] KS:=fV func134 U ntmps134 U U λr C0=>by
 unfold rT;exact jm
instance(o9:ByteArray):dW prog (cmp_isNaN_string o9) 268 [fP o9] bH:=fV func268 U ntmps268 U U λr C0=>by
 unfold cmp_isNaN_string;exact jm
instance(o9:ByteArray)(Xm:ByteArray):dW prog (gP o9 Xm) 246 [fP o9,fP Xm] j7:=fV func246 U ntmps246 U U λr C0=>by
 unfold gP;exact jm
instance(Eo:ah)(cy:ByteArray):dW prog (lT Eo cy) 245 [.g (.agg (ak Eo)),fP cy] j7:=fV func245 U ntmps245 U U λr C0=>by
 unfold lT;exact jm
theorem adq(h:p:=by
 refine sr<|ac U U<|ac U U<|Te<|mv U U<|xx (Jy uU ev U) U<|?_;refine av U U<|Te<|mv U U<|ac U U<|av U U<|eO<|?_;refine sq<|?_;refine G.RQ (T:=Int) (λy1=>⟨[(0,cP adG ab2 o9),(1,.one (adH dI)),(2,.one (.sem<|Qa (λx=>.agg<|ab2 x) (λx=>.d<|.v<|aci x) (λy=>.int .i64 y) kM)),(8,aV (o9.length:Int)),(9,aV y1)],[]⟩) (λy1=>aiK o9 dI kM y1=some r) (λy1 hF=>?_) (λJ5=>?_)
 ·refine sq<|rg<|mv U U<|mv U U<|mv U U<|PT (CU ev ev U) U U<|?_
  refine mv U U<|?_;refine U6 hF (λYg hF=>?_) (λYg hF=>?_)
  ·refine G.known (t:=39) Yg U<|g10 (kQ ev U) U U U<|g10 (kQ ev U) U U U<|g10 (kQ ev U) U U U<|bn hF λx3 hx3 hF=>g20 (zH hx3 uU acC ev ev U) U U U U<|?_
   refine g10 (DM (ds:=(ab2 x3)) uU U acC U ev U) U U U<|g10 (kQ ev U) U U U<|bn hF λr4 hr4 hF=>g30 (q8 (t:=40) (v:=.int .i64 r4) (Φ:=Qa (λx=>.agg<|ab2 x) (λx=>.d<|.v<|aci x) (λy=>.int .i64 y) kM) ⟨x3,dI,r4,U,hr4,U⟩ U (.cons ev<|.cons ev .nil) U) U U U U U<|g10 (PI ev (ec U) U) U U U<|PT (Si ev ev U) U U<|?_;refine av U U<|av U U<|eO<|?_;have hF:=aww hF;subst hF;exact G.alK adI (sD.tmp 6 _) (sD.tmp 7 _) z2 ayS
  refine G.known (t:=39) Yg U<|oN U U U<|oN U U U<|oN U U U<|oN U U U<|oN U U U<|?_;refine oN U U U<|oN U U U<|oN U U U<|xx (Sh ev (ec U) U) U<|av U U<|av U U<|?_;refine eO<|?_;have hF:=aww hF;subst hF;exact G.alK adI (sD.tmp 6 _) (sD.tmp 7 _) z2 ayS
 refine bl<|?_;refine lF (λ(v6:Int×Int)=>⟨[(0,cP adG ab2 o9),(1,.one (adH dI)),(2,.one (.sem<|Qa (λx=>.agg<|ab2 x) (λx=>.d<|.v<|aci x) (λy=>.int .i64 y) kM)),(8,aV (o9.length:Int)),(9,aV v6.1),(10,aV v6.2)],[]⟩) hF z6 ayS U (λK9 xU v6 J7 hF=>?_);refine sq<|sr<|mv U U<|mv U U<|PT (CU ev ev U) U U<|eO<|?_;refine U6 hF (λKn hF=>?_) (λKn hF=>?_)
 ·refine cT Kn U<|sk<|bl<|sr<|mv U U<|mv U U<|?_
  refine PT (qZ ev ev U) U U<|xx (KW uU uU ev U) U<|xx (acw ayZ ev (ec U) U) U<|xx (KW uU uU ev U) U<|av U U<|Te<|?_;refine mv U U<|mv U U<|mv U U<|bn hF λLY aoo hF=>PT (zH aoo uU acC ev ev U) U U<|xx (DM (ds:=(ab2 LY)) uU U acC U ev U) U<|?_;refine mv U U<|bn hF λWX aod hF=>p30 (q8 (t:=24) (v:=.int .i64 WX) (Φ:=Qa (λx=>.agg<|ab2 x) (λx=>.d<|.v<|aci x) (λy=>.int .i64 y) kM) ⟨LY,dI,WX,U,aod,U⟩ U (.cons ev<|.cons ev .nil) U) U U U<|xx (CU ev (ec U) U) U<|eO<|?_;refine U6 hF (λahH hF=>?_) (λahH hF=>?_)
  ·refine cT ahH U<|rg<|mv U U<|xx (qZ ev (ec U) U) U<|av U U<|eO<|?_
   refine eB<|?_;exact G.arr (J7 (IntKind.wrap .i64 ((IntKind.wrap .i64<|Int.fdiv (IntKind.wrap .u64<|IntKind.wrap .i64<|v6.1+v6.2)<|2 ^ min (Int.toNat 1) (IntKind.bits .u64))+1),v6.2) hF) z6 ayS U
  refine cF ahH U<|rg<|mv U U<|av U U<|eO<|eB<|?_;exact G.arr (J7 (v6.1,IntKind.wrap .i64 (Int.fdiv (IntKind.wrap .u64<|IntKind.wrap .i64<|v6.1+v6.2)<|2 ^ min (Int.toNat 1) (IntKind.bits .u64))) hF) z6 ayS U
 refine cF Kn U<|ex<|?_;refine GX.c ?_;refine GX.q ?_;refine xY<|?_;exact G.arr (J5 v6.1 hF) z5 ayS U):p:=h
theorem pg(o9:(List ah))(dI:ByteArray)(kM:(ah->ByteArray->Option Int))(r:(Int×Bool))(hF:ct o9 dI kM=some r):Ct prog 244 [bt 3 ak o9,fP dI,.sem (Qa (λx=>.agg (ak x)) (λx=>.d (.v (.string x))) (λy=>.int .i64 y) kM)] (.eV [.d (.v (.int .i64 r.1)),.d (.v (.bool r.2))]):=by
 unfold ct at hF;refine Ct.intro func244 U ntmps244 U U λM w=>?_
 let adG:=(3:Nat)
 let ab2:=ak
 let adH:=bS
 let aci:=Value.string
 let aiK:=dy
 have acC:=@xQ;have adI:=@results244;exact adq
instance(l:List ah)(t:ByteArray)(c:ah->ByteArray->Option Int):Z9 prog (ct l t c) 244 (.d (.sl 3 (List.map ak l))) (.d (.v (.string t))) (λx=>.agg (ak x)) (λx=>.d (.v (.string x))) (λy=>.int .i64 y) c (λr=>.eV [.d (.v (.int .i64 r.1)),.d (.v (.bool r.2))]):=⟨pg l t c,λ_=>rfl⟩
end Go.Ark
