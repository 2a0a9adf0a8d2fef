/- Machine, typed functions, plain laws and walks, part 6, for TopCleans. Conditions: none but those that stand in each law. -/
import Derived.Shelf.SlIter.Nil
import Derived.Shelf.SortM.Plain
import Derived.Shelf.SortM.SortNone
import Derived.Ground.GgzProg
import Derived.Ground.SlgmProg
import Derived.Shelf.Slices.In.CompactS
import Derived.RangeFuncNested
import Derived.RangeFuncBound
import Derived.RangeFuncCalls
import Derived.RangeFuncLeaves
import Derived.RangeFuncBox
import Derived.Shelf.Abstract
import Derived.OwnWalkIn
import Derived.TacticsInMore
import Derived.LoopNIn
import Derived.LoopIn
import Derived.Maps.AppendAt
import Derived.WalkMore
import Derived.Test.YtgjndeeaafimiaaGreatD3
import Derived.WideShapes
import Derived.Test.YtgjndeeaafimiaaGreatD4
import Derived.Shelf.Spec.SlicesGrow
set_option linter.all false
open Go.Proofs.Tryz
namespace Go.Proofs
open Go.RowKit Go.Maps Go.Sort Go.Shelf
def Tryz.IF:Go.Shelf.Ren:=⟨λ| 7=>179 | 10=>235 | n=>n,λ| 23=>147 | 26=>9 | 3=>47 | 28=>222 | 0=>0 | 27=>221 | 33=>210 | 4=>4 | n=>n,λ| n=>n⟩
theorem Tryz.WK:Go.Proofs.SlLaysZ.n7 prog Tryz.IF:={
 mixed:=by kernel_rfl
 f7:=⟨f179.name,ayZ,func179.trans<|awp some<|by kernel_rfl⟩
 f10:=⟨f235.name,ayZ,func235.trans<|awp some<|by kernel_rfl⟩
 t0:=underlying0
 a0:=isAgg0
 z0:=sizeOf0
 v0:=zeroValue0
 t4:=underlying4
 a4:=isAgg4
 z4:=sizeOf4
 v4:=zeroValue4
 t23:=underlying147
 a23:=isAgg147
 z23:=sizeOf147
 v23:=zeroValue147
 t26:=underlying9
 a26:=isAgg9
 z26:=sizeOf9
 v26:=zeroValue9
 t27:=underlying221
 a27:=isAgg221
 z27:=sizeOf221
 v27:=zeroValue221
 t28:=underlying222
 a28:=isAgg222
 z28:=sizeOf222
 v28:=zeroValue222
 t33:=underlying210
 a33:=isAgg210
 z33:=sizeOf210
 v33:=zeroValue210 }
def Tryz.EN:Go.Shelf.Ren:=⟨λ| 6=>141 | 8=>200 | 9=>201 | 11=>249 | 13=>251 | 12=>250 | 23=>279 | 24=>280 | 14=>270 | 15=>271 | 16=>272 | 17=>273 | 18=>274 | 19=>275 | 20=>276 | 21=>277 | 22=>278 | 25=>296 | 26=>297 | 27=>298 | 28=>299 | 29=>300 | 30=>268 | 31=>304 | n=>n,λ| 26=>9 | 28=>222 | 24=>33 | 0=>0 | 3=>3 | 37=>326 | 48=>347 | 50=>242 | 4=>4 | 40=>340 | 39=>339 | 45=>224 | 5=>5 | 9=>9 | 51=>358 | 55=>362 | 57=>365 | 58=>366 | 33=>210 | n=>n,λ| n=>n⟩
theorem Tryz.Zl:Go.Proofs.SlLaysZ.n6 prog Tryz.EN:={
 mixed:=by kernel_rfl
 f6:=⟨f141.name,ayZ,func141.trans<|awp some<|by kernel_rfl⟩
 f8:=⟨f200.name,ayZ,func200.trans<|awp some<|by kernel_rfl⟩
 f11:=⟨f249.name,ayZ,func249.trans<|awp some<|by kernel_rfl⟩
 t0:=underlying0
 a0:=isAgg0
 z0:=sizeOf0
 v0:=zeroValue0
 t24:=underlying33
 a24:=isAgg33
 z24:=sizeOf33
 v24:=zeroValue33
 t26:=underlying9
 a26:=isAgg9
 z26:=sizeOf9
 v26:=zeroValue9
 t28:=underlying222
 a28:=isAgg222
 z28:=sizeOf222
 v28:=zeroValue222
 i26:=by kernel_rfl }
def Tryz.SH:Go.Shelf.Ren:=⟨λ| 6=>201 | 8=>251 | 9=>250 | 19=>279 | 20=>280 | 21=>270 | 22=>271 | 23=>272 | 24=>273 | 25=>274 | 26=>275 | 27=>276 | 28=>277 | 29=>278 | 36=>296 | 31=>297 | 32=>298 | 37=>299 | 38=>300 | 39=>268 | 41=>304 | n=>n,λ| 27=>33 | 29=>9 | 3=>3 | 32=>326 | 26=>33 | 0=>0 | 44=>347 | 46=>242 | 4=>4 | 36=>340 | 35=>339 | 41=>224 | 5=>5 | 9=>9 | 53=>358 | 57=>362 | 63=>365 | 64=>366 | n=>n,λ| n=>n⟩
theorem Tryz.JF:Go.Proofs.SlLaysM.n6 prog Tryz.SH:={
 mixed:=by kernel_rfl
 f6:=⟨f201.name,ayZ,func201.trans<|awp some<|by kernel_rfl⟩
 f8:=func251.trans (awp some<|by kernel_rfl)
 f9:=⟨f250.name,ayZ,func250.trans<|awp some<|by kernel_rfl⟩
 f19:=func279.trans (awp some<|by kernel_rfl)
 f20:=func280.trans (awp some<|by kernel_rfl)
 f21:=⟨f270.name,ayZ,func270.trans<|awp some<|by kernel_rfl⟩
 f22:=⟨f271.name,ayZ,func271.trans<|awp some<|by kernel_rfl⟩
 f23:=⟨f272.name,ayZ,func272.trans<|awp some<|by kernel_rfl⟩
 f24:=⟨f273.name,ayZ,func273.trans<|awp some<|by kernel_rfl⟩
 f25:=⟨f274.name,ayZ,func274.trans<|awp some<|by kernel_rfl⟩
 f26:=⟨f275.name,ayZ,func275.trans<|awp some<|by kernel_rfl⟩
 f27:=⟨f276.name,ayZ,func276.trans<|awp some<|by kernel_rfl⟩
 f28:=⟨f277.name,ayZ,func277.trans<|awp some<|by kernel_rfl⟩
 f29:=⟨f278.name,ayZ,func278.trans<|awp some<|by kernel_rfl⟩
 f31:=func297.trans (awp some<|by kernel_rfl)
 f32:=func298.trans (awp some<|by kernel_rfl)
 f36:=⟨f296.name,ayZ,func296.trans<|awp some<|by kernel_rfl⟩
 f37:=⟨f299.name,ayZ,func299.trans<|awp some<|by kernel_rfl⟩
 f38:=⟨f300.name,ayZ,func300.trans<|awp some<|by kernel_rfl⟩
 f39:=⟨f268.name,ayZ,func268.trans<|awp some<|by kernel_rfl⟩
 f41:=⟨f304.name,ayZ,func304.trans<|awp some<|by kernel_rfl⟩
 t0:=underlying0
 a0:=isAgg0
 z0:=sizeOf0
 v0:=zeroValue0
 t3:=underlying3
 a3:=isAgg3
 z3:=sizeOf3
 v3:=zeroValue3
 t4:=underlying4
 a4:=isAgg4
 z4:=sizeOf4
 v4:=zeroValue4
 t5:=underlying5
 a5:=isAgg5
 z5:=sizeOf5
 v5:=zeroValue5
 t9:=underlying9
 a9:=isAgg9
 z9:=sizeOf9
 v9:=zeroValue9
 t26:=underlying33
 a26:=isAgg33
 z26:=sizeOf33
 v26:=zeroValue33
 t27:=underlying33
 a27:=isAgg33
 z27:=sizeOf33
 v27:=zeroValue33
 t29:=underlying9
 a29:=isAgg9
 z29:=sizeOf9
 v29:=zeroValue9
 t32:=underlying326
 a32:=isAgg326
 z32:=sizeOf326
 v32:=zeroValue326
 t35:=underlying339
 a35:=isAgg339
 z35:=sizeOf339
 v35:=zeroValue339
 t36:=underlying340
 a36:=isAgg340
 z36:=sizeOf340
 v36:=zeroValue340
 t41:=underlying224
 a41:=isAgg224
 z41:=sizeOf224
 v41:=zeroValue224
 t44:=underlying347
 a44:=isAgg347
 z44:=sizeOf347
 v44:=zeroValue347
 t46:=underlying242
 a46:=isAgg242
 z46:=sizeOf242
 v46:=zeroValue242
 t53:=underlying358
 a53:=isAgg358
 z53:=sizeOf358
 v53:=zeroValue358
 t57:=underlying362
 a57:=isAgg362
 z57:=sizeOf362
 v57:=zeroValue362
 t63:=underlying365
 a63:=isAgg365
 z63:=sizeOf365
 v63:=zeroValue365
 t64:=underlying366
 a64:=isAgg366
 z64:=sizeOf366
 v64:=zeroValue366 }
theorem Tryz.LG(m:Nat):AnyZ.SortsIn prog Tryz.EN Fence.wide m:=
 ⟨λblk off cap ss W hH hblk hsz=>axG.2<|AnyM.slices_Sort_string Tryz.JF blk off cap ss W hH hblk hsz,
 λp cap W=>axG.2 (AnyM.slices_Sort_string_none Tryz.JF p cap W)⟩
theorem Tryz.Ml(mb:Option Nat)(W:World):CallsIn Fence.wide 5 prog 179 #[.map mb] W λe w'=>e= .returned (.func (.func 235) #[] #[.pointer (some ⟨W.heap.size,0,none⟩)])/\w'=W.alloc (.cells #[.map mb] 147):=
 AnyZ.keys_in Tryz.WK Fence.wide 5 ayS U mb W
set_option maxHeartbeats 1000000 in
theorem Tryz.wV{H:Type}(b nn:Nat)(D0:DataW H)(R:Value->Option (DataW H×List MemPlace))(w:World)(hown:w.ownsMap prog 9 R b nn D0)(pn:Maps.size D0<=maxLen)(hbytes:Maps.size D0*16<=140737488355328):
  CallsIn Fence.wide 5 prog 141 #[.func (.func 235) #[] #[.pointer (some ⟨w.heap.size,0,none⟩)]] (w.alloc<|.cells #[.map (some b)] 147) λe w'=>∃(v:Value)(ss:List (List UInt8)),e= .returned v/\ss.Perm (strKeys D0)/\
   w'.ownsRow (w.alloc<|.cells #[.map (some b)] 147).heap.size 9 1 v ss.length ((ss.mergeSort λx y=>decide (x<=y)).map encStr)/\(v= .slice none 0 0↔ss= [])/\Below (w.alloc<|.cells #[.map (some b)] 147).heap.size (w.alloc<|.cells #[.map (some b)] 147) w':=by
 have hbl:=hown.lt;have hseq:SeqGives Fence.wide 2 prog 235 #[.pointer (some ⟨w.heap.size,0,none⟩)] encStr (λss=>ss.Perm<|strKeys D0) (Maps.size D0) (w.alloc<|.cells #[.map (some b)] 147):=
  AnyZ.keys_gives (ρ:=Tryz.IF) { Tryz.WK with } Fence.wide _ ayS U ayT w.heap.size b nn D0 _ ayW ayW (by
   obtain⟨es,clock,hb,Ft,hs,hD⟩:=hown;exact⟨es,clock,(Below.heap_alloc _ _ b hbl).trans hb,Ft,hs,hD⟩)
 exact AnyZ.sorted_in Tryz.Zl Fence.wide 5 ayS ayS ayS ayS U ayT (Tryz.LG _) (enters_of func201 ayX U) 235 #[.pointer (some ⟨w.heap.size,0,none⟩)] ayS (enters_of func235 ayX U) _ _ pn hbytes _ hseq
def Tryz.J0:Go.Shelf.Ren:=⟨λ| 194=>140 | n=>n,λ| 31=>33 | 9=>9 | 3=>3 | 4=>4 | 0=>0 | n=>n,λ| n=>n⟩
theorem Tryz.JZ:Go.Proofs.Lays.n194 prog Tryz.J0:={
 mixed:=by kernel_rfl
 f194:=func140.trans (awp some<|by kernel_rfl)
 t0:=underlying0
 a0:=isAgg0
 z0:=sizeOf0
 v0:=zeroValue0
 t3:=underlying3
 a3:=isAgg3
 z3:=sizeOf3
 v3:=zeroValue3
 t4:=underlying4
 a4:=isAgg4
 z4:=sizeOf4
 v4:=zeroValue4
 t9:=underlying9
 a9:=isAgg9
 z9:=sizeOf9
 v9:=zeroValue9
 t31:=underlying33
 a31:=isAgg33
 z31:=sizeOf33
 v31:=zeroValue33 }
end Go.Proofs
namespace Go.Ark
open Go Go.Ab Go.RowKit Go.Proofs Go.Sort
theorem alR:aah prog 201 9:=⟨λw g cap cur ss h0 h1 h2 h3 h4=>AnyM.slices_Sort_string Tryz.JF g 0 cap ss w (λj hj=>by
  have hj':j<ss.length:=by simpa using hj
  have e:cur[j]? =some (Go.Proofs.encStr ss[j]):=by
   have:=awp (λl=>l[j]?) h4;simp only[avR hj',avL,avs hj',awq,awb]at this;exact this
  refine⟨?_,by simp[World.frozen?,h1]⟩;rw[avS,kj h1,e];simp[hj']) (by
  rcases Nat.lt_or_ge g w.heap.size with c | c
  ·exact c
  ·rw[Array.getElem?_eq_none c]at h1;cases h1) ayT,λa cap w=>AnyM.slices_Sort_string_none Tryz.JF a cap w⟩
theorem aka:afS prog 140:=⟨λg cap zs w h1 h2 h3=>calls_of_every_depth λD=>AnyS.slices_Compact_string_in Tryz.JZ D g 0 cap zs w h1 h2 h3,λa cap w=>calls_of_every_depth λD=>AnyS.slices_Compact_string_empty_in Tryz.JZ D a cap w⟩
theorem nh(aL r:List ByteArray)(hF:slices_Compact_string aL=some r):Ct prog 140 [.row 9 1 (List.map encS aL)] (.new 9 1 (List.map encS r)):=by
 cases hF;exact TL aka aL
end Go.Ark
namespace Go.Ark.HP
open Go Go.Ab Go.RowKit Go.Lib Go.Proofs Go.Shelf
variable{α:Type}{l:List aH}{j:Nat}{v:Value}{ds:List ah}{M:Nat->Nat->Prop}
section
attribute [local go_sem] ayz
def aaG(d:ah):Value:=.agg #[.string d.Key,.int .i64 d.aq.N,.int .i64 d.aq.Site]
def B8(n₀:Nat)(W:World)(v:Value)(ds:List ah):Prop:=
 ∃a b o cap,v= .slice a ds.length cap/\ds.length<=9223372036854775807/\(ds≠[]->a=some ⟨b,o,none⟩/\b<n₀)/\
  ∀j d,ds[j]? =some d->W.cell? ⟨b,o+j*3,none⟩=some (.string d.Key)/\W.cell? ⟨b,o+j*3+1,none⟩=some (.int .i64 d.aq.N)/\W.cell? ⟨b,o+j*3+2,none⟩=some (.int .i64 d.aq.Site)
def tK(n₀:Nat)(W:World)(v:Value)(l:List aH):Prop:=
 ∃a b o cap,v= .slice a l.length cap/\l.length<=9223372036854775807/\(l≠[]->a=some ⟨b,o,none⟩/\b<n₀)/\
  ∀j p,l[j]? =some p->W.cell? ⟨b,o+j*2,none⟩=some (.int .i64 p.ID)/\∃u,W.cell? ⟨b,o+j*2+1,none⟩=some u/\B8 n₀ W u p.nR
theorem CQ{l:List α}{d:α}(h:l[j]? =some d):l≠[]:=λe=>by simp[e]at h
theorem B8.below{n₀:Nat}{A B:World}(h:Below n₀ A B):B8 n₀ A v ds->B8 n₀ B v ds
 | ⟨a,b,o,cap,h1,h2,h3,h4⟩=>⟨a,b,o,cap,h1,h2,h3,λj d hj=>by
  obtain⟨c1,c2,c3⟩:=h4 j d hj;have hb:=(h3<|CQ hj).2
  exact⟨(h.cell (p:=⟨b,o+j*3,none⟩) hb).trans c1,(h.cell (p:=⟨b,o+j*3+1,none⟩) hb).trans c2,(h.cell (p:=⟨b,o+j*3+2,none⟩) hb).trans c3⟩⟩
theorem tK.below{n₀:Nat}{A B:World}(h:Below n₀ A B){v:Value}{l:List aH}:tK n₀ A v l->tK n₀ B v l
 | ⟨a,b,o,cap,h1,h2,h3,h4⟩=>⟨a,b,o,cap,h1,h2,h3,λj p hj=>by
  obtain⟨c1,u,c2,c3⟩:=h4 j p hj;have hb:=(h3<|CQ hj).2
  exact⟨(h.cell (p:=⟨b,o+j*2,none⟩) hb).trans c1,u,(h.cell (p:=⟨b,o+j*2+1,none⟩) hb).trans c2,c3.below h⟩⟩
theorem RD.deps{w:World}{u:Value}(h:RD M w u (.sl 3 (List.map ak ds))):B8 w.heap.size w u ds:=by
 generalize he:List.map ak ds=es at h;cases h with
 | sl a cap size es vals b o hc hm ha hs hv hr=>
  subst he;have hne:ds≠[]->List.map ak ds≠[]:=λh e=>h azs;have hml:maxLen=9223372036854775807:=rfl;refine⟨a,b,o,cap,ayW,by simp at hc;omega,λh=>⟨ha<|hne h,?_⟩,λj d hj=>?_⟩
  ·obtain⟨d,hd⟩:∃d,ds[0]? =some d:=by cases ds with | nil=>exact absurd U h | cons x l=>exact⟨x,U⟩
   have:=(hv 0 (ak d) 0 _ aAQ U).1
   exact cz this
  ·have hg:(List.map ak ds)[j]? =some (ak d):=by simp[hj]
   have f:∀k x,(ak d)[k]? =some (.v x)->w.cell? ⟨b,o+(j*3+k),none⟩=some x:=λk x hk=>by
    have h1:=(hv j _ k _ hg hk).1
    have h2:=hr j _ k _ hg hk;rw[RD.aX h2]at h1;exact h1
   refine⟨?_,?_,?_⟩
   ·have:=f 0 _ U;exact this
   ·have:=f 1 _ U;rwa [<-axp]at this
   ·have:=f 2 _ U;rwa [<-axp]at this
theorem RD.pins{w:World}{u:Value}(h:RD M w u (.sl 2 (List.map aS l))):tK w.heap.size w u l:=by
 generalize he:List.map aS l=es at h;cases h with
 | sl a cap size es vals b o hc hm ha hs hv hr=>
  subst he;have hne:l≠[]->List.map aS l≠[]:=λh e=>h azs;have hml:maxLen=9223372036854775807:=rfl;refine⟨a,b,o,cap,ayW,by simp at hc;omega,λh=>⟨ha<|hne h,?_⟩,λj p hj=>?_⟩
  ·obtain⟨d,hd⟩:∃d,l[0]? =some d:=by cases l with | nil=>exact absurd U h | cons x l=>exact⟨x,U⟩
   have:=(hv 0 (aS d) 0 _ aAQ U).1
   exact cz this
  ·have hg:(List.map aS l)[j]? =some (aS p):=by simp[hj]
   refine⟨?_,vals j 1,?_,?_⟩
   ·have h1:=(hv j _ 0 _ hg U).1
    rw[RD.aX (hr j _ 0 _ hg rfl)]at h1;exact h1
   ·have h1:=(hv j _ 1 _ hg U).1
    rwa [<-axp]at h1
   ·exact RD.deps (hr j _ 1 _ hg U)
theorem Kg{i:Nat}{p:aH}(h:l[i]? =some p):eD (l.take (i+1))=eD (l.take i)++p.nR:=by
 unfold eD;obtain⟨hi,e⟩:=avl.1 h;rw[awQ,h];simp
theorem X7{i:Nat}{p:aH}{d:ah}(h:l[i]? =some p)(hj:p.nR[j]? =some d):(eD (l.take i)++p.nR.take j).length<(eD l).length:=by
 have h1:eD l=eD (l.take<|i+1)++eD (l.drop<|i+1):=by
  unfold eD;rw[<-List.flatMap_append,axM]
 have h2:=(avl.1 hj).1
 rw[h1,Kg h];simp;omega
theorem DY{l:List α}{d:α}(h:l[j]? =some d):l.take (j+1)=l.take j++ [d]:=by
 rw[awQ,h];rfl
theorem grown_fresh{W W':World}(h1:Below W.heap.size W W'):W.grownBy W' none:=⟨h1.os,h1.tape,h1.output,h1.size,λk hk _=>h1.block k hk⟩
set_option maxRecDepth 100000 in
set_option maxHeartbeats 4000000 in
theorem aaH(F:Fence)(n:Nat)(h35:F.fn 227)(hro:F.round=none)(hn:1<=n)(lp Bs n₀:Nat)(sv:Value)(l:List aH)(J Jx:List ah->World->Prop)
  (W:World) (hn₀:n₀<=W.heap.size) (hJa:AbidesFrom W.heap.size J)
  (hY:∀pre x W,J pre W->pre.length<(eD l).length->YieldAt F (n-1) prog lp #[aaG x] W λe W'=>
   (e= .returned (.bool true)/\J (pre++ [x]) W'/\Below n₀ W W')\/(e= .returned (.bool false)/\Jx (pre++ [x]) W'))
  (Tf:W.cell? ⟨Bs,0,none⟩=some sv) (hc:tK n₀ W sv l) (h0:J [] W):
  CallsIn F n prog 227 #[.func (.yield lp) #[] #[],.pointer (some ⟨Bs,0,none⟩)] W λe W'=>(∃v,e= .returned v)/\
   ((∃ys,ys=eD l/\J ys W')\/(∃pre,True/\Jx pre W')):=by
 obtain⟨a,b,o,cap,rfl,hlm,hne,gq⟩:=hc;refine aw7 func227 U h35 ?_ hro;simp only[ntmps227,avW,avv,av9,Nat.reduceAdd,Nat.reduceSub,aws,awt,awA,awl,avX,av4]
 gi_wp2
 gi_loopw [9] (λi wr=>∃k:Nat,k<=l.length/\i= .int .i64 k/\J (eD<|l.take k) wr/\Below n₀ W wr)
  (λi _=>l.length-(RowKit.intOf i).toNat)
 case atStart=>exact⟨0,av5 _,U,h0,avU _ _⟩
 case round=>
  obtain⟨k,hk,rfl,hJs,Wy⟩:=hrel;by_cases hlt:k<l.length
  ·obtain⟨p,hp⟩:∃p,l[k]? =some p:=⟨_,avs hlt⟩
   obtain⟨rfl,hb⟩:=hne (CQ hp);obtain⟨c1,u,c2,hds⟩:=gq k p hp;have d1:=(Wy.cell (p:=⟨b,o+k*2,none⟩) hb).trans c1
   have d2:=(Wy.cell (p:=⟨b,o+k*2+1,none⟩) hb).trans c2
   obtain⟨a2,b2,o2,am3,rfl,asF,an5,aeJ⟩:=hds
   gi_wp2
   gi_loopw [16] (λi wq=>∃j:Nat,j<=p.nR.length/\i= .int .i64 j/\J (eD (l.take k)++p.nR.take j) wq/\Below n₀ W wq)
    (λi _=>p.nR.length-(RowKit.intOf i).toNat)
   case atStart=>
    have hB:Below wr.heap.size wr (wr.alloc<|Obj.cells #[Value.int IntKind.i64 p.ID,Value.slice a2 p.nR.length am3] 99):=(avU _ wr).alloc (avq _) _
    refine⟨0,av5 _,U,?_,?_⟩
    ·rw[List.take_zero,awY]
     exact hJa _ wr _ none hJs (grown_fresh hB) (λr e=>by cases e)
    ·exact Wy.trans (hB.mono<|awa hn₀ Wy.size)
   case round=>
    obtain⟨j,hj,rfl,ahz,Yk⟩:=hrel;by_cases hlt2:j<p.nR.length
    ·obtain⟨d,hd⟩:∃d,p.nR[j]? =some d:=⟨_,avs hlt2⟩
     obtain⟨rfl,hb2⟩:=an5 (CQ hd);obtain⟨e1,e2,e3⟩:=aeJ j d hd;replace e1:=(Yk.cell (p:=⟨b2,o2+j*3,none⟩) hb2).trans e1
     replace e2:=(Yk.cell (p:=⟨b2,o2+j*3+1,none⟩) hb2).trans e2
     replace e3:=(Yk.cell (p:=⟨b2,o2+j*3+2,none⟩) hb2).trans e3
     have hB:Below wr.heap.size wr (wr.alloc<|Obj.cells #[Value.string d.Key,.int .i64 d.aq.N,.int .i64 d.aq.Site] 101):=(avU _ wr).alloc (avq _) _
     have hB2:=Yk.trans (hB.mono<|awa hn₀ Yk.size);obtain⟨fn,tmps,assign,body,hy,hR⟩:=hY _ d _ (hJa _ wr _ none ahz (grown_fresh hB) λr e=>by cases e) (X7 hp hd);unfold aaG at hy
     gi_wp2
     refine hR.mono ?_;rintro e W3 (⟨rfl,hJ3,hk3⟩ | ⟨rfl,UN⟩)
     ·gi_wp2
      exact⟨⟨j+1,ayT,ayW,by rw[DY hd,<-av6];exact hJ3,hB2.trans hk3⟩,azV⟩
     ·gi_wp2
      refine bodyPost_ret (results_none U _ _ _) U ?_;exact⟨⟨_,U⟩,.inr ⟨_,ayS,UN⟩⟩
    ·obtain rfl:j=p.nR.length:=by omega
     gi_wp2
     exact⟨⟨k+1,ayT,ayW,by rw[Kg hp];rw[axc]at ahz;exact ahz,Yk⟩,azV⟩
  ·obtain rfl:k=l.length:=by omega
   gi_wp2
   go_end0
   exact⟨⟨_,U⟩,.inl ⟨_,U,by rw[axc]at hJs;exact hJs⟩⟩
set_option maxHeartbeats 1000000 in
theorem aef(F:Fence)(n:Nat)(h28:F.fn 170)(hro:F.round=none)(a:Option Addr)(len cap:Nat)(w:World):
  CallsIn F n prog 170 #[.slice a len cap] w λe w'=>e= .returned (.func (.func 227) #[] #[.pointer (some ⟨w.heap.size,0,none⟩)])/\w'=w.alloc (.cells #[.slice a len cap] 59):=by
 refine aw7 func170 U h28 ?_ hro;simp only[ntmps170,avW,avv,av9,Nat.reduceAdd,Nat.reduceSub,aws,awt,awA,awl,avX,av4]
 gi_wp2
 go_ret;exact⟨U,U⟩
theorem TR(F:Fence)(n:Nat)(h35:F.fn 227)(hro:F.round=none)(hn:1<=n)(Bs n₀:Nat)(sv:Value)(l:List aH)(w:World)(Tf:Bs<w.heap.size)(hn₀:n₀<=w.heap.size)
  (hc:w.cell? ⟨Bs,0,none⟩=some sv) (hI:tK n₀ w sv l):
  SeqStopsK F n prog 227 #[.pointer (some ⟨Bs,0,none⟩)] (λx:ah=>#[aaG x]) (Below n₀) (λys=>ys=eD l) (λ_=>True) (eD l).length w:=λlp J Jx W hW hJ _ hY h0=>
 aaH F n h35 hro hn lp Bs n₀ sv l J Jx W (awa hn₀ hW.size) hJ hY ((hW.cell (p:=⟨Bs,0,none⟩) Tf).trans hc) (hI.below<|hW.mono hn₀) h0
theorem B8.le{n₀ n₁:Nat}(h:n₀<=n₁){A:World}:B8 n₀ A v ds->B8 n₁ A v ds
 | ⟨a,b,o,cap,h1,h2,h3,h4⟩=>⟨a,b,o,cap,h1,h2,λc=>⟨(h3 c).1,avE (h3 c).2 h⟩,h4⟩
theorem tK.le{n₀ n₁:Nat}(h:n₀<=n₁){A:World}{v:Value}{l:List aH}:tK n₀ A v l->tK n₁ A v l
 | ⟨a,b,o,cap,h1,h2,h3,h4⟩=>⟨a,b,o,cap,h1,h2,λc=>⟨(h3 c).1,avE (h3 c).2 h⟩,λj p hj=>by
  obtain⟨c1,u,c2,c3⟩:=h4 j p hj;exact⟨c1,u,c2,c3.le h⟩⟩
def I7(d:ah):List Value:=[.string d.Key,.int .i64 d.aq.N,.int .i64 d.aq.Site]
theorem XO(pre:List ah)(x:ah):(pre++ [x]).flatMap I7=pre.flatMap I7++I7 x:=by simp
theorem aeY:(prog.info? 101).map (λi=>(i.zero,i.size,i.bytes))=some (some (.agg #[.string ByteArray.empty,.int .i64 0,.int .i64 0]),3,32):=by kernel_rfl
theorem E2(w:World)(x y z:Value)(t:TypeId):∀j u,[x,y,z][j]? =some u->(w.alloc (.cells #[x,y,z] t)).cell? ((⟨w.heap.size,0,none⟩:Addr).add j)=some u:=by
 intro j u hj;have h:(w.alloc<|.cells #[x,y,z] t).heap[w.heap.size]? =some (.cells #[x,y,z] t (0,0)):=World.alloc_heap_new w _
 rw[awr];simp only[World.cell?,h];rw[<-hj];simp
set_option maxRecDepth 100000 in
set_option maxHeartbeats 4000000 in
theorem aal(F:Fence)(n:Nat)(h34:F.fn 226)(h35:F.fn 227)(hro:F.round=none)(hn:3<=n)(Bs:Nat)(sv:Value)(l:List aH)(pn:(eD l).length<=1000000)(w:World)(hBl:Bs<w.heap.size)(Tf:w.cell? ⟨Bs,0,none⟩=some sv)(hI:tK w.heap.size w sv l):
  CallsIn F n prog 226 #[.slice none 0 0,.func (.func 227) #[] #[.pointer (some ⟨Bs,0,none⟩)]] w λe W'=>∃v,e= .returned v/\W'.ownsRow w.heap.size 101 3 v (eD l).length ((eD l).flatMap I7)/\Below w.heap.size w W':=by
 have h1:1<=n:=by omega
 have hml:maxLen=9223372036854775807:=rfl;obtain⟨i0,hi,hz0,hz1,Ku⟩:=axV aeY;refine callsIn_of_wp_marks func226 U h34 ?_ hro;simp only[ntmps226,avW,avv,av9,Nat.reduceAdd,Nat.reduceSub,aws,awt,awA,awl,avX,av4]
 gi_wp2
 have bO:=Boxed.new w 40 (.slice none 0 0);have hB0:Below w.heap.size w (w.alloc<|.cells #[.slice none 0 0] 40):=(avU _ w).alloc (avq _) _
 refine wpIn_rangeFunc_ownH hro h1 (gf:=227) (lb:=#[.pointer (some ⟨Bs,0,none⟩)]) U h35 (enters_of func227 ayX U)
  (TR F (n-1) h35 hro ayT Bs w.heap.size sv l (w.alloc<|.cells #[.slice none 0 0] 40) ayV ayW ((hB0.cell (p:=⟨Bs,0,none⟩) hBl).trans Tf)<|hI.below hB0) belowK_t (belowK_b<|by simp) (avU _ _) (λ_=>rfl)
  (λ(pre:List ah) W=>(∃v,Boxed W w.heap.size 40 v/\W.ownsRow w.heap.size 101 3 v pre.length (pre.flatMap I7)/\True)/\Below w.heap.size w W)
  (λ_ _ _=>False)
  (OwnFrom.and (Own.from (holdsRow_own w.heap.size w.heap.size 40 101 3 (λpre:List ah=>pre.length) (λpre=>pre.flatMap I7) λ_ _=>True) _)<|ownFrom_below (avq _)<|by simp)
  (λ_ _ _ _ _ hs _ _=>hs)
  ⟨⟨_,bO,aye _ _ _ _,ayS⟩,hB0⟩
  (λx a' W=>∃Bx,w.heap.size<Bx/\W.heap[Bx]? =some (.cells #[.string x.Key,.int .i64 x.aq.N,.int .i64 x.aq.Site] 101 (0,0))/\a'= { tmps:=#[.slice none 0 0,.func (.func 227) #[] #[.pointer (some ⟨Bs,0,none⟩)],.pointer (some ⟨w.heap.size,0,none⟩),undef,.slice none 0 0,.pointer (some ⟨Bx,0,none⟩),.func (.func 227) #[] #[.pointer (some ⟨Bs,0,none⟩)],aaG x,undef,undef,undef,undef,undef],defers:=[] })
  (λx a' _ X Y row hs hg hr=>by
   obtain⟨Bx,h1,h2,h3⟩:=hs;refine⟨Bx,h1,(hg.block Bx (avo.1 h2).1 λe=>?_).trans h2,h3⟩;obtain⟨_,o,ho,hc⟩:=hr Bx e.symm;rw[h2]at ho;cases ho;cases hc)
  ?assign ?body ?done ?stop
 case assign=>
  rintro lp pre x W K ⟨⟨v,bv,rv,-⟩,hB⟩ hK;unfold aaG at hK ⊢
  gi_wp2
  have hA:=(avU w.heap.size W).alloc hB.size (.cells #[.string x.Key,.int .i64 x.aq.N,.int .i64 x.aq.Site] 101)
  exact hK _ _ ((KeepsOthers.alloc _ _).from _) hA ⟨⟨v,bv.alloc _,rv.alloc _,ayS⟩,hB.trans hA⟩ ⟨W.heap.size,bv.lt,World.alloc_heap_new W _,U⟩
 case body=>
  rintro lp pre x a' W hl hr ⟨⟨v,bv,rv,-⟩,hB⟩ ⟨Bx,hBx,hX,rfl⟩ hlt;have hc:=bv.cell;have x0:W.cell? ⟨Bx,0,none⟩=some (.string x.Key):=by simp[World.cell?,hX]
  have x1:W.cell? ⟨Bx,1,none⟩=some (.int .i64 x.aq.N):=by simp[World.cell?,hX]
  have x2:W.cell? ⟨Bx,2,none⟩=some (.int .i64 x.aq.Site):=by simp[World.cell?,hX]
  gi_wp2_with (gi_at_builtin;refine wpListIn_append_own _ U _ _ 40 U w.heap.size 101 i0 (.agg #[.string ByteArray.empty,.int .i64 0,.int .i64 0]) 3 32 underlying40 hi hz0 hz1 Ku U ayZ _ _ _ U (rv.alloc _) ⟨W.heap.size,0,none⟩ 1 1 (I7 x) U U (E2 _ _ _ _ _) (by simp[Value.oneCell',I7]) ayT ayT aAq ?_;intro v' w1 hown' hgrow _;obtain⟨g',cap',rfl⟩:=ownsRow_succ hown';obtain⟨Ny,G5,Pf,hk2,hb2⟩:=bv.appended ayZ rv hB.size (avq _) hown' hgrow;have hc1:=Ny.cell;have hf1:=Ny.frozen)
  exact⟨hk2.from _,hb2,⟨_,G5,by rw[XO];simpa using Pf,ayS⟩,hB.trans hb2⟩
 case done=>
  rintro D ys W hD rfl ⟨⟨v,bv,rv,-⟩,hB⟩ hK;have hc:=bv.cell
  gi_wp2
  refine⟨ayW,.inl ⟨_,_,U,run_takeDeferred hK,?_⟩⟩;exact⟨_,results_tmp U _ _ _,v,U,ownsRow_putObj rv _ hK U,hB.trans<|belowK_b (w:=w) (avq _) W D _ _ (by simp at hD;omega) hK U U⟩
 case stop=>
  rintro D c pre W _ _ h _;exact h.elim
set_option maxRecDepth 100000 in
set_option maxHeartbeats 4000000 in
theorem collect_in(F:Fence)(n:Nat)(h27:F.fn 169)(h34:F.fn 226)(h35:F.fn 227)(hro:F.round=none)(hn:4<=n)(Bs:Nat)(sv:Value)(l:List aH)(pn:(eD l).length<=1000000)(w:World)(hBl:Bs<w.heap.size)(Tf:w.cell? ⟨Bs,0,none⟩=some sv)(hI:tK w.heap.size w sv l):
  CallsIn F n prog 169 #[.func (.func 227) #[] #[.pointer (some ⟨Bs,0,none⟩)]] w λe W'=>∃v,e= .returned v/\W'.ownsRow w.heap.size 101 3 v (eD l).length ((eD l).flatMap I7)/\Below w.heap.size w W':=by
 have h1:1<=n:=by omega
 refine aw7 func169 U h27 ?_ hro;simp only[ntmps169,avW,avv,av9,Nat.reduceAdd,Nat.reduceSub,aws,awt,awA,awl,avX,av4]
 gi_wp2_with (gi_at_call 226;refine(aal F (n-1) h34 h35 hro ayT Bs sv l pn w hBl Tf hI).mono ?_;rintro e w' ⟨v,rfl,Ny,G5⟩)
 go_ret;exact⟨_,U,Ny,G5⟩
set_option maxRecDepth 100000 in
set_option maxHeartbeats 4000000 in
theorem agX(F:Fence)(n:Nat)(h16:F.fn 102)(h28:F.fn 170)(h27:F.fn 169)(h34:F.fn 226)(h35:F.fn 227)(hro:F.round=none)(hn:5<=n)(a:Option Addr)(len cap:Nat)(l:List aH)(pn:(eD l).length<=1000000)(w:World)(hI:tK w.heap.size w (.slice a len cap) l):
  CallsIn F n prog 102 #[.slice a len cap] w λe W'=>∃v,e= .returned v/\W'.ownsRow (w.heap.size+1) 101 3 v (eD l).length ((eD l).flatMap I7)/\Below w.heap.size w W':=by
 have h1:1<=n:=by omega
 have bN:=Boxed.new w 59 (.slice a len cap);have hB0:Below w.heap.size w (w.alloc<|.cells #[.slice a len cap] 59):=(avU _ w).alloc (avq _) _
 refine aw7 func102 U h16 ?_ hro;simp only[ntmps102,avW,avv,av9,Nat.reduceAdd,Nat.reduceSub,aws,awt,awA,awl,avX,av4]
 gi_wp2_with first
  | (gi_at_call 170;refine(aef F (n-1) h28 hro _ _ _ _).mono ?_;rintro e w' ⟨rfl,rfl⟩)
  | (gi_at_call 169;refine(collect_in F (n-1) h27 h34 h35 hro ayT w.heap.size _ l pn _ ayW bN.cell<|(hI.below hB0).le<|by simp).mono ?_;rintro e w' ⟨v,rfl,Ny,G5⟩)
 go_ret;refine⟨_,U,?_,hB0.trans<|G5.mono<|by simp⟩;rw[ayQ]at Ny;exact Ny
theorem Js{α β:Type}(f:α->List β)(z:Nat)(hf:∀x,(f x).length=z):∀(l:List α)(i:Nat)(x:α)(j:Nat),l[i]? =some x->j<z->(l.flatMap f)[i*z+j]? =(f x)[j]?
 | [],i,x,j,h,_=>ay4
 | y::l,0,x,j,h,hj=>by
  obtain rfl:y=x:=by simpa using h
  rw[awJ,ayC,avS,avy (by rw[hf];exact hj)]
 | y::l,i+1,x,j,h,hj=>by
  rw[awJ,avG (by rw[hf,awn];omega),hf,show(i+1)*z+j-z=i*z+j by rw[awn];omega];exact Js f z hf l i x j azi hj
theorem RD.Vn{W:World}{base e z:Nat}(l:List α)(cf:α->List Value)(enc:α->List DV)(hlen:∀x,(cf x).length=z)(akG:∀x,enc x=(cf x).map .v)(hone:∀x v,v∈cf x->v.oneCell'=true)
  (h:W.ownsRow base e z v l.length (l.flatMap cf)) (hM:∀b o,M b o->b<base):RD M W v (.sl z<|List.map enc l):=by
 obtain⟨-,⟨rfl,hn⟩ | ⟨g,cap,cur,rfl,hb,hg,hc,hm,hs,ht⟩⟩:=h
 ·obtain rfl:l= []:=axd.1 hn
  exact RD.sl none 0 z [] (λ_ _=>undef) 0 0 (avq _) (av5 _) (λh=>absurd U h) (λcs h=>ay4) (λi cs j d h=>ay4) (λi cs j d h=>ay4)
 ·have key:∀(i:Nat)(cs:List DV)(j:Nat)(d:DV),(List.map enc l)[i]? =some cs->cs[j]? =some d->∃u,cur[i*z+j]? =some u/\d= .v u/\u.oneCell'=true:=by
   intro i cs j d hi hj;simp only[avL,awd]at hi;obtain⟨x,hx,rfl⟩:=hi;rw[akG]at hj;simp only[avL,awd]at hj;obtain⟨u,hu,rfl⟩:=hj;have hjz:j<z:=by rw[<-hlen x];exact(avl.1 hu).1
   have hil:=(avl.1 hx).1
   have h1:=Js cf z hlen l i x j hx hjz;have hlt:i*z+j<l.length*z:=by
    have:(i+1)*z<=l.length*z:=avr _ hil;rw[awn]at this;omega
   rw[<-ht,hu,avR hlt,awb]at h1;exact⟨u,h1,U,hone x u<|avH hu⟩
  have:=RD.sl (M:=M) (w:=W) (some ⟨g,0,none⟩) cap z (List.map enc l) (λi j=>cur.getD (i*z+j) undef) g 0 (by simpa using hc) hm (λ_=>rfl)
   (λcs h=>by simp only[avT]at h;obtain⟨x,-,rfl⟩:=h;rw[akG,avN,hlen])
   (λi cs j d hi hj=>by
    obtain⟨u,h1,rfl,h2⟩:=key i cs j d hi hj;refine⟨?_,λhm=>by have:=hM _ _ hm;omega⟩;rw[avS];simp only[World.cell?,hg];rw[h1];simp[avx,h1])
   (λi cs j d hi hj=>by
    obtain⟨u,h1,rfl,h2⟩:=key i cs j d hi hj;simp only[avx,h1,av7];exact RD.v u h2)
  rwa [avN]at this
theorem Cl(bC:List aH)(r:List ah)(hF:wz bC=some r):Ct prog 102 [.g (.d (.sl 2 (List.map aS bC)))] (.one (.d (.sl 3 (List.map ak r)))):=by
 unfold wz at hF;by_cases hc:(eD bC).length<=1000000
 ·rw[avk hc]at hF
  obtain rfl:=aww hF;refine⟨λM K w vs hM hK hn hargs=>?_⟩;obtain⟨v,rfl⟩:∃v,vs= [v]:=by
   match vs,hn with
   | [v],_=>exact⟨v,U⟩
  have hv:RD (λb o=>M b o\/K b) w v (.sl 2<|List.map aS bC):=hargs 0 _ v U U;have hp:=RD.pins hv;obtain⟨a,b,o,cap,rfl,-⟩:=id hp;refine(axG (n:=5)).1 ((agX Fence.wide 5 ayS ayS ayS ayS ayS U (avq _) _ _ _ bC hc w hp).mono ?_)
  rintro e W' ⟨u,rfl,h1,h2⟩;refine⟨u,U,⟨h2.os,h2.tape,h2.output,h2.size,λk hk _=>h2.block k hk⟩,?_⟩;exact RD.Vn (eD bC) I7 ak (λx=>rfl) (λx=>rfl) (λx v hv=>by simp[I7]at hv;rcases hv with rfl | rfl | rfl<;>rfl) h1 λb o hm=>by have:=(hM b o hm).1;omega
 ·rw[avj hc]at hF;cases hF
end
end Go.Ark.HP
namespace Go.Ark
open Go Go.Ab Go.RowKit Go.Proofs Go.Sort Go.Maps
theorem ace{b:Nat}{es:Array MapEntry}{n:Nat}{w:World}{ks:List ByteArray}(hb:w.heap[b]? =some (.map es n))(hkey:es.toList.map (·.key)=ks.map λk=>Value.string k)(akx:∀(i:Nat)(x:MapEntry),es[i]? =some x->x.born<n)
  (hinj:∀(i j:Nat)(x y:MapEntry),es[i]? =some x->es[j]? =some y->x.born=y.born->i=j) (hn:ks.Nodup) (hl:ks.length<=1000000) (hk:∀k,k∈ks->k.size<=1000):
  ∃D0:DataW Unit,w.ownsMap prog 9 (λ_=>some (DataW.nil,[])) b ks.length D0/\(strKeys D0).Perm (ks.map λk=>k.data.toList)/\Maps.size D0=ks.length:=by
 have hlen:es.size=ks.length:=by
  have:=awp List.length hkey;simpa using this
 have hrd:∀x∈es.toList,∃k,k∈ks/\x.key=Value.string k/\WideElems.rd prog 9 (λ_=>some ((DataW.nil:DataW Unit),[])) x=some (Lit.string k.data.toList,DataW.nil):=λx hx=>by
  have:x.key∈es.toList.map (·.key):=avT.2 ⟨x,hx,U⟩;rw[hkey]at this;obtain⟨k,h1,h2⟩:=avT.1 this;refine⟨k,h1,h2.symm,?_⟩;have h3:=hk k h1;have h4:k.size<=maxLen:=by show k.size<=9223372036854775807;omega
  unfold WideElems.rd;rw[keyOf_string underlying9,<-h2];simp only[mapKey,underlying9,avk h4];rfl
 have hrg:es.toList.map (WideElems.rg prog 9 λ_=>some ((DataW.nil:DataW Unit),[]))=ks.map λk=>(Lit.string k.data.toList,DataW.nil):=by
  have h1:es.toList.map (WideElems.rg prog 9 λ_=>some ((DataW.nil:DataW Unit),[]))=(es.toList.map (·.key)).map λv=>match v with
    | .string k=>(Lit.string k.data.toList,DataW.nil)
    | _=>(Lit.bool false,DataW.nil):=by
   rw[ax3];refine awK λx hx=>?_;obtain⟨k,_,h2,h3⟩:=hrd x hx;rw[WideElems.rg_of h3,Function.comp_apply,h2]
  rw[h1,hkey,ax3];exact awK λk _=>rfl
 refine⟨_,⟨es,n,hb,⟨by rw[hlen];show ks.length<=9223372036854775807;omega,⟨λx hx=>?_,?_,?_⟩,λx hx=>?_⟩,ayT,U⟩,?_,?_⟩
 ·obtain⟨i,hi,rfl⟩:=avO hx
  exact akx i _ (by simp at hi;simp[hi])
 ·rw[List.nodup_iff_pairwise_ne,awu]
  intro i j hi hj hij e;simp only[List.getElem_map]at e;simp only[avN,awj]at hi hj;have:=hinj i j es[i] es[j] (by simp[hi]) azT azs;omega
 ·rw[hkey]
  exact axT.2 (hn.imp λh e=>h<|Value.string.inj e)
 ·obtain⟨k,_,_,h3⟩:=hrd x hx
  exact⟨_,h3⟩
 ·show((List.foldr DataW.insert [] _).map λp=>strOf p.1).Perm _
  rw[hrg];refine((WideShapes.sorted_perm _).map _).trans ?_
  rw[ax3];exact List.Perm.of_eq (awK λk _=>rfl)
 ·show(List.foldr DataW.insert [] _).length=_
  rw[hrg,(WideShapes.sorted_perm _).length_eq,avN]
abbrev Og(a:Nat×Nat)(rs:List au)(ch:List (ByteArray×List aa)):OP:=Sep (eu a.1 149 [.sl 2 (rs.map az),.v (.map (some a.2))]) (tJ a.2 (cm (λs:ByteArray=>Value.string s) (λl:List aa=>AG.d (.sl 6 (l.map aj))) ch))
set_option maxHeartbeats 2000000 in
theorem Ve(a:Nat×Nat)(rs:List au)(ch:List (ByteArray×List aa))(hn:(ch.map (·.1)).Nodup)(hl:ch.length<=1000000)(hk:∀e,e∈ch->e.1.size<=1000):
  fc prog (γ:=Unit) 112 (Og a rs ch) (λ_=>Og a rs ch) [.g (.d<|.v<|.pointer<|some ⟨a.1,0,none⟩)] (λ_=>.one (.d (.sl 1 (List.map encS (cQ (ch.map (·.1))))))):=by
 refine⟨λM w O vs hM hO hP hvl ha=>?_⟩;obtain⟨v,rfl⟩:∃v,vs= [v]:=by
  match vs,hvl with
  | [v],_=>exact⟨v,U⟩
 have hv:RD (λb o=>M b o\/False) w v (.v<|.pointer<|some ⟨a.1,0,none⟩):=ha 0 _ v U U;obtain rfl:=RD.aX hv;obtain⟨O1,O2,ar4,akF,⟨Rx,arr,hB2,hB3,hB4⟩,ar3,es,n,hE1,hE2,hE3,hE4,hE5⟩:=id hP;obtain⟨u1,hu1,aok⟩:=hB4 1 _ U;obtain rfl:=RD.aX aok;have hkey:es.toList.map (·.key)=(ch.map (·.1)).map λk=>Value.string k:=by
  refine axZ λi=>?_;rw[avL,avL,avL,awb];rcases Nat.lt_or_ge i ch.length with c | c
  ·obtain⟨x,hx,hxk,_⟩:=hE3 i (Value.string ch[i].1,_) (by rw[avL,avs c];rfl)
   rw[hx,avs c];simp[hxk]
  ·rw[aw3 c,Array.getElem?_eq_none (by rw[hE2,avN];exact c)]
   rfl
 obtain⟨D0,hown,agf,hsize⟩:=ace hE1 hkey hE4 hE5 hn azd (λk hm=>by obtain⟨e,he,rfl⟩:=avT.1 hm;exact hk e he);refine(axG (n:=6)).1 ?_
 have hfK:Fence.wide.fn 179:=trivial;have hfS:Fence.wide.fn 141:=trivial;have hc1:w.cell? ⟨a.1,1,none⟩=some (.map<|some a.2):=by rw[kj hB2];exact hu1
 refine aw7 func112 U ayS ?_ U;simp only[ntmps112,avW,avv,av9,Nat.reduceAdd,Nat.reduceSub,aws,awt,awA,awl,avX,av4]
 gi_wp2_with (first
  | (gi_at_call 179;refine(Tryz.Ml _ _).mono ?_;rintro e w' ⟨rfl,rfl⟩)
  | (gi_at_call 141;refine(Tryz.wV a.2 _ D0 _ w hown (by rw[hsize,avN];show ch.length<=9223372036854775807;omega) (by rw[hsize,avN];omega)).mono ?_;rintro e w' ⟨v,ss,rfl,hS,hrow,hnil,hb⟩))
 go_ret;have hB:Below w.heap.size w w':=((avU _ w).alloc (avq _) _).trans (hb.mono<|by simp)
 have hm:=mergeSort_of_perm (hS.trans agf);have e1:(cQ (ch.map (·.1))).flatMap (λs=>[Value.string s])=(ss.mergeSort λx y=>decide (x<=y)).map encStr:=by
  have e2:ss.mergeSort (λx y=>decide (x<=y))=((ch.map (·.1)).map λk=>k.data.toList).mergeSort λx y=>decide (x<=y):=hm
  rw[e2];unfold cQ;generalize((ch.map (·.1)).map λk=>k.data.toList).mergeSort _=L
  induction L with
  | nil=>rfl
  | cons x L ih=>simp only[avV,awJ,ayR];first | done | (rw[ih];done) | (rw[ih];rfl)
 have e3:(cQ (ch.map (·.1))).length=ss.length:=by
  have h1:(cQ (ch.map (·.1))).length=(ch.map (·.1)).length:=by simp[cQ]
  rw[h1,(hS.trans agf).length_eq,avN (f:=λk:ByteArray=>k.data.toList)]
 rw[<-e1,<-e3]at hrow;have UO:∀b,O b->b<w.heap.size:=λb hb'=>hM b 0 (hO b hb' 0);refine⟨(),_,U,O,⟨hB.os,hB.tape,hB.output,hB.size,λk hk' _=>hB.block k hk'⟩,λb hb'=>.inl hb',λb hb'=>avE (UO b hb') hB.size,?_,?_⟩
 ·refine(oM:bL (Og a rs ch)).mono hP (λb hb'=>hB.block b<|UO b hb') λb o x hno hx=>⟨(hB.cell<|cz hx).trans hx,λq=>hno<|q.elim (λq=>q.1) λq=>hO b q o⟩
 ·show RD _ w' v (.sl 1 (List.map encS (cQ (ch.map (·.1)))))
  exact HP.RD.Vn (cQ (ch.map (·.1))) (λs=>[Value.string s]) encS (λ_=>rfl) (λ_=>rfl) (λx v hv=>by simp at hv;subst hv;rfl) hrow λb o(q:(M b o/\¬O b)\/O b)=>by
   have:b<w.heap.size:=q.elim (λq=>hM b o q.1) λq=>UO b q;simp;omega
end Go.Ark
namespace Go.Ark.HP
open Go Go.Ab Go.RowKit Go.Lib Go.Proofs Go.Shelf Go.Sort
variable{ss:List ByteArray}
section
attribute [local go_sem] ayz
def vA(n₀:Nat)(W:World)(v:Value)(ss:List ByteArray):Prop:=
 ∃a b o cap,v= .slice a ss.length cap/\ss.length<=9223372036854775807/\(ss≠[]->a=some ⟨b,o,none⟩/\b<n₀)/\∀j s,ss[j]? =some s->W.cell? ⟨b,o+j,none⟩=some (.string s)
theorem vA.below{n₀:Nat}{A B:World}(h:Below n₀ A B){v:Value}:vA n₀ A v ss->vA n₀ B v ss
 | ⟨a,b,o,cap,h1,h2,h3,h4⟩=>⟨a,b,o,cap,h1,h2,h3,λj s hj=>(h.cell (p:=⟨b,o+j,none⟩) (h3<|CQ hj).2).trans<|h4 j s hj⟩
theorem vA.le{n₀ n₁:Nat}(h:n₀<=n₁){A:World}{v:Value}:vA n₀ A v ss->vA n₁ A v ss
 | ⟨a,b,o,cap,h1,h2,h3,h4⟩=>⟨a,b,o,cap,h1,h2,λc=>⟨(h3 c).1,avE (h3 c).2 h⟩,h4⟩
theorem RD.strs{M:Nat->Nat->Prop}{w:World}{u:Value}(h:RD M w u (.sl 1 (List.map encS ss))):vA w.heap.size w u ss:=by
 generalize he:List.map encS ss=es at h;cases h with
 | sl a cap size es vals b o hc hm ha hs hv hr=>
  subst he;have hne:ss≠[]->List.map encS ss≠[]:=λh e=>h azs;have hml:maxLen=9223372036854775807:=rfl;have f:∀j s,ss[j]? =some s->w.cell? ⟨b,o+j,none⟩=some (.string s):=λj s hj=>by
   have hg:(List.map encS ss)[j]? =some (encS s):=by simp[hj]
   have h1:=(hv j _ 0 _ hg U).1
   rw[RD.aX (hr j _ 0 _ hg rfl),axP,awE]at h1;exact h1
  refine⟨a,b,o,cap,ayW,by simp at hc;omega,λh=>⟨ha<|hne h,?_⟩,f⟩;obtain⟨d,hd⟩:∃d,ss[0]? =some d:=by cases ss with | nil=>exact absurd U h | cons x l=>exact⟨x,U⟩
  exact cz (f 0 d hd)
set_option maxRecDepth 100000 in
set_option maxHeartbeats 4000000 in
theorem adj(F:Fence)(n:Nat)(hf:F.fn 202)(hro:F.round=none)(hn:1<=n)(lp Bs n₀:Nat)(sv:Value)(l:List ByteArray)(J Jx:List ByteArray->World->Prop)
  (W:World)
  (hY:∀pre x W,J pre W->pre.length<l.length->YieldAt F (n-1) prog lp #[.string x] W λe W'=>
   (e= .returned (.bool true)/\J (pre++ [x]) W'/\Below n₀ W W')\/(e= .returned (.bool false)/\Jx (pre++ [x]) W'))
  (Tf:W.cell? ⟨Bs,0,none⟩=some sv) (hc:vA n₀ W sv l) (h0:J [] W):
  CallsIn F n prog 202 #[.func (.yield lp) #[] #[],.pointer (some ⟨Bs,0,none⟩)] W λe W'=>(∃v,e= .returned v)/\
   ((∃ys,ys=l/\J ys W')\/(∃pre,True/\Jx pre W')):=by
 obtain⟨a,b,o,cap,rfl,hlm,hne,gq⟩:=hc;refine aw7 func202 U hf ?_ hro;simp only[ntmps202,avW,avv,av9,Nat.reduceAdd,Nat.reduceSub,aws,awt,awA,awl,avX,av4]
 gi_wp2
 gi_loopw [7] (λi wr=>∃k:Nat,k<=l.length/\i= .int .i64 k/\J (l.take k) wr/\Below n₀ W wr)
  (λi _=>l.length-(RowKit.intOf i).toNat)
 case atStart=>exact⟨0,av5 _,U,h0,avU _ _⟩
 case round=>
  obtain⟨k,hk,rfl,hJs,Wy⟩:=hrel;by_cases hlt:k<l.length
  ·obtain⟨p,hp⟩:∃p,l[k]? =some p:=⟨_,avs hlt⟩
   obtain⟨rfl,hb⟩:=hne (CQ hp);have d1:=(Wy.cell (p:=⟨b,o+k,none⟩) hb).trans (gq k p hp)
   obtain⟨fn,tmps,assign,body,hy,hR⟩:=hY _ p _ hJs ayV
   gi_wp2
   refine hR.mono ?_;rintro e W3 (⟨rfl,hJ3,hk3⟩ | ⟨rfl,UN⟩)
   ·gi_wp2
    exact⟨⟨k+1,ayT,ayW,by rw[DY hp];exact hJ3,Wy.trans hk3⟩,azV⟩
   ·gi_wp2
    refine bodyPost_ret (results_none U _ _ _) U ?_;exact⟨⟨_,U⟩,.inr ⟨_,ayS,UN⟩⟩
  ·obtain rfl:k=l.length:=by omega
   gi_wp2
   go_end0
   exact⟨⟨_,U⟩,.inl ⟨_,U,by rw[axc]at hJs;exact hJs⟩⟩
theorem VO(F:Fence)(n:Nat)(hf:F.fn 202)(hro:F.round=none)(hn:1<=n)(Bs n₀:Nat)(sv:Value)(l:List ByteArray)(w:World)(Tf:Bs<w.heap.size)(hn₀:n₀<=w.heap.size)
  (hc:w.cell? ⟨Bs,0,none⟩=some sv) (hI:vA n₀ w sv l):
  SeqStopsK F n prog 202 #[.pointer (some ⟨Bs,0,none⟩)] (λx:ByteArray=>#[.string x]) (Below n₀) (λys=>ys=l) (λ_=>True) l.length w:=λlp J Jx W hW _ _ hY h0=>
 adj F n hf hro hn lp Bs n₀ sv l J Jx W hY ((hW.cell (p:=⟨Bs,0,none⟩) Tf).trans hc) (hI.below<|hW.mono hn₀) h0
def VJ(s:ByteArray):List Value:=[.string s]
theorem aeZ:(prog.info? 9).map (λi=>(i.zero,i.size,i.bytes))=some (some (.string ByteArray.empty),1,16):=by kernel_rfl
theorem TF(w:World)(x:Value)(t:TypeId):∀j u,[x][j]? =some u->(w.alloc (.cells #[x] t)).cell? ((⟨w.heap.size,0,none⟩:Addr).add j)=some u:=by
 intro j u hj;have h:(w.alloc<|.cells #[x] t).heap[w.heap.size]? =some (.cells #[x] t (0,0)):=World.alloc_heap_new w _
 rw[awr];simp only[World.cell?,h];rw[<-hj];simp
set_option maxRecDepth 100000 in
set_option maxHeartbeats 4000000 in
theorem Zd(F:Fence)(n:Nat)(hf:F.fn 249)(hg:F.fn 202)(hro:F.round=none)(hn:3<=n)(Bs:Nat)(sv:Value)(l:List ByteArray)(pn:l.length<=2000000)(w:World)(hBl:Bs<w.heap.size)(Tf:w.cell? ⟨Bs,0,none⟩=some sv)(hI:vA w.heap.size w sv l):
  CallsIn F n prog 249 #[.slice none 0 0,.func (.func 202) #[] #[.pointer (some ⟨Bs,0,none⟩)]] w λe W'=>∃v,e= .returned v/\W'.ownsRow w.heap.size 9 1 v l.length (l.flatMap VJ)/\Below w.heap.size w W':=by
 have h1:1<=n:=by omega
 have hml:maxLen=9223372036854775807:=rfl;obtain⟨i0,hi,hz0,hz1,Ku⟩:=axV aeZ;refine callsIn_of_wp_marks func249 U hf ?_ hro;simp only[ntmps249,avW,avv,av9,Nat.reduceAdd,Nat.reduceSub,aws,awt,awA,awl,avX,av4]
 gi_wp2
 have bO:=Boxed.new w 33 (.slice none 0 0);have hB0:Below w.heap.size w (w.alloc<|.cells #[.slice none 0 0] 33):=(avU _ w).alloc (avq _) _
 refine wpIn_rangeFunc_ownH hro h1 (gf:=202) (lb:=#[.pointer (some ⟨Bs,0,none⟩)]) U hg (enters_of func202 ayX U)
  (VO F (n-1) hg hro ayT Bs w.heap.size sv l (w.alloc<|.cells #[.slice none 0 0] 33) ayV ayW ((hB0.cell (p:=⟨Bs,0,none⟩) hBl).trans Tf)<|hI.below hB0) belowK_t (belowK_b<|by simp) (avU _ _) (λ_=>rfl)
  (λ(pre:List ByteArray) W=>(∃v,Boxed W w.heap.size 33 v/\W.ownsRow w.heap.size 9 1 v pre.length (pre.flatMap VJ)/\True)/\Below w.heap.size w W)
  (λ_ _ _=>False)
  (OwnFrom.and (Own.from (holdsRow_own w.heap.size w.heap.size 33 9 1 (λpre:List ByteArray=>pre.length) (λpre=>pre.flatMap VJ) λ_ _=>True) _)<|ownFrom_below (avq _)<|by simp)
  (λ_ _ _ _ _ hs _ _=>hs)
  ⟨⟨_,bO,aye _ _ _ _,ayS⟩,hB0⟩
  (λx a' _=>a'= { tmps:=#[.slice none 0 0,.func (.func 202) #[] #[.pointer (some ⟨Bs,0,none⟩)],.pointer (some ⟨w.heap.size,0,none⟩),undef,.slice none 0 0,.string x,.func (.func 202) #[] #[.pointer (some ⟨Bs,0,none⟩)],.string x,undef,undef,undef,undef,undef],defers:=[] })
  (λ_ _ _ _ _ _ hs _ _=>hs)
  ?assign ?body ?done ?stop
 case assign=>
  rintro lp pre x W K ⟨⟨v,bv,rv,-⟩,hB⟩ hK
  gi_wp2
  exact hK _ _ (KeepsFrom.refl _ _) (avU _ _) ⟨⟨v,bv,rv,ayS⟩,hB⟩ U
 case body=>
  rintro lp pre x a' W hl hr ⟨⟨v,bv,rv,-⟩,hB⟩ rfl hlt;have hc:=bv.cell
  gi_wp2_with (gi_at_builtin;refine wpListIn_append_own _ U _ _ 33 U w.heap.size 9 i0 (.string ByteArray.empty) 1 16 underlying33 hi hz0 hz1 Ku U ayZ _ _ _ U (rv.alloc _) ⟨W.heap.size,0,none⟩ 1 1 (VJ x) U U (TF _ _ _) (by simp[Value.oneCell',VJ]) ayT ayT aAq ?_;intro v' w1 hown' hgrow _;obtain⟨g',cap',rfl⟩:=ownsRow_succ hown';obtain⟨Ny,G5,Pf,hk2,hb2⟩:=bv.appended ayZ rv hB.size (avq _) hown' hgrow;have hc1:=Ny.cell;have hf1:=Ny.frozen)
  exact⟨hk2.from _,hb2,⟨_,G5,by rw[List.flatMap_append];simpa using Pf,ayS⟩,hB.trans hb2⟩
 case done=>
  rintro D ys W hD rfl ⟨⟨v,bv,rv,-⟩,hB⟩ hK;have hc:=bv.cell
  gi_wp2
  refine⟨ayW,.inl ⟨_,_,U,run_takeDeferred hK,?_⟩⟩;exact⟨_,results_tmp U _ _ _,v,U,ownsRow_putObj rv _ hK U,hB.trans<|belowK_b (w:=w) (avq _) W D _ _ (by simp at hD;omega) hK U U⟩
 case stop=>
  rintro D c pre W _ _ h _;exact h.elim
theorem acS(l:List ByteArray):l.flatMap VJ=(l.map λs=>s.data.toList).map encStr:=by
 induction l with
 | nil=>rfl
 | cons x l ih=>rw[awJ,ih];rfl
set_option maxRecDepth 100000 in
set_option maxHeartbeats 4000000 in
theorem VG(n:Nat)(hn:5<=n)(Bs:Nat)(sv:Value)(l:List ByteArray)(pn:l.length<=2000000)(w:World)(hBl:Bs<w.heap.size)(Tf:w.cell? ⟨Bs,0,none⟩=some sv)(hI:vA w.heap.size w sv l):
  CallsIn Fence.wide n prog 141 #[.func (.func 202) #[] #[.pointer (some ⟨Bs,0,none⟩)]] w λe W'=>∃v,e= .returned v/\W'.ownsRow w.heap.size 9 1 v l.length (((l.map λs=>s.data.toList).mergeSort λx y=>decide (x<=y)).map encStr)/\Below w.heap.size w W':=by
 have ahK:CallsIn Fence.wide (n-1) prog 200 #[.func (.func 202) #[] #[.pointer (some ⟨Bs,0,none⟩)]] w λe W'=>∃v,e= .returned v/\W'.ownsRow w.heap.size 9 1 v l.length (l.flatMap VJ)/\Below w.heap.size w W':=by
  have hf:Fence.wide.fn 249:=trivial;have h1:1<=n-1:=by omega
  refine aw7 func200 U ayS ?_ U;simp only[ntmps200,avW,avv,av9,Nat.reduceAdd,Nat.reduceSub,aws,awt,awA,awl,avX,av4]
  gi_wp2_with (gi_at_call 249;refine(Zd Fence.wide (n-1-1) ayS ayS U ayT Bs sv l pn w hBl Tf hI).mono ?_;rintro e w' ⟨v,rfl,Ny,G5⟩)
  go_ret;exact⟨_,U,Ny,G5⟩
 have hln:l.length=(l.map λs=>s.data.toList).length:=by simp
 rw[acS,hln]at ahK;rw[hln]at pn ⊢;generalize(l.map λs=>s.data.toList)=ss at ahK pn ⊢;have hf:Fence.wide.fn 200:=trivial;have hf2:Fence.wide.fn 201:=trivial;have h1:1<=n:=by omega
 refine aw7 func141 U ayS ?_ U;simp only[ntmps141,avW,avv,av9,Nat.reduceAdd,Nat.reduceSub,aws,awt,awA,awl,avX,av4]
 gi_wp2_with (gi_at_call 200;refine ahK.mono ?_;rintro e W ⟨v,rfl,hrow,hb⟩)
 rcases hrow.2 with⟨rfl,hz⟩ | ⟨gb,cap,cur,rfl,hbase,hgb,r1,r2,r3,r4⟩
 ·obtain rfl:ss= []:=awD hz
  gi_wp2_with (gi_at_call 201;refine((Tryz.LG _).2 none 0 W).mono ?_;rintro e w' ⟨rfl,rfl⟩)
  go_ret;exact⟨_,U,by simpa using hrow,hb⟩
 ·have hH:Holds encStr W gb 0 ss.toArray:=holds_of_block hgb (by simpa using r4)
  have Yi:gb<W.heap.size:=(avo.1 hgb).1
  have cS:=(Tryz.LG<|n-1).1 gb 0 cap ss W hH Yi ayT
  gi_wp2_with (gi_at_call 201;refine cS.mono ?_;rintro e w' ⟨rfl,nn,os,rfl⟩)
  go_ret;exact⟨_,U,ownsRow_sorted ayW hbase hgb r1 r2 r3,hb.grown (grownBy_sorted _) hb.size λj hj=>by cases hj;exact hbase⟩
end
end Go.Ark.HP
namespace Go.Proofs
def Tryz.Rv:Go.Shelf.Ren:=⟨λ| 4=>260 | n=>n,λ| 22=>27 | 25=>68 | n=>n,λ| n=>n⟩
theorem Tryz.Wr:Go.Proofs.Lays8.n4 prog Tryz.Rv:={
 mixed:=by kernel_rfl
 f4:=⟨f260.name,ayZ,func260.trans<|awp some<|by kernel_rfl⟩
 t0:=underlying0
 a0:=isAgg0
 z0:=sizeOf0
 v0:=zeroValue0
 t3:=underlying3
 a3:=isAgg3
 z3:=sizeOf3
 v3:=zeroValue3
 t4:=underlying4
 a4:=isAgg4
 z4:=sizeOf4
 v4:=zeroValue4
 t9:=underlying9
 a9:=isAgg9
 z9:=sizeOf9
 v9:=zeroValue9
 t20:=underlying20
 a20:=isAgg20
 z20:=sizeOf20
 v20:=zeroValue20
 t22:=underlying27
 a22:=isAgg27
 z22:=sizeOf27
 v22:=zeroValue27 }
end Go.Proofs
namespace Go.Ark.HP
open Go Go.Ab Go.RowKit Go.Lib Go.Proofs Go.Shelf Go.Sort
attribute [local go_sem] ayz
abbrev M0:Nat->Nat->Prop:=λ_ _=>False\/False
variable{M:Nat->Nat->Prop}{w:World}
theorem M0.of{u:Value}{d:DV}(h:RD M w u d):RD M0 w u d:=h.less λ_ _ c=>c.elim False.elim False.elim
theorem RD.slI{v:Value}{z:Nat}{es:List (List DV)}(h:RD M w v (.sl z es)):∃a c,v= .slice a es.length c:=by
 cases h with
 | sl a cap=>exact⟨a,cap,U⟩
theorem RD.up{W:World}{u:Value}{d:DV}(h:RD M w u d)(hW:Below w.heap.size w W):RD M W u d:=h.mono λb o _ hn hx=>⟨(hW.cell (p:=⟨b,o,none⟩) (cz hx)).trans hx,hn⟩
theorem Hg{F:Fence}{n:Nat}{P:Program}{w':World}{v':Value}{ops:Array Oper}{rest:List Oper}{o:Oper}{a:Act}{Q:Exit->Act->World->Prop}
  (hg:o.guard=none) (s x:Operand) (t:TypeId) (hop:o.op=Op.call { callee:=Callee.builtin Builtin.append,args:=#[s,x],argTypes:=#[t,t] })
  {u y:Value} (hs:a.eval s=u) (hx:a.eval x=y) (hrun:(Builtin.append_ #[t,t] o.type #[u,y]).run P w= .ok v' w') (hK:wpListIn F n P ops Q rest (a.put o.dst v') w'):
  wpListIn F n P ops Q (o::rest) a w:=by
 refine wpListIn_plain hg λK hK'=>?_;unfold Oper.wpIn;refine⟨?_,?_⟩
 ·simp[Oper.about,hop,resolve,Target.leads,avF]
 ·rw[Oper.semAt_plain F _ _ (by rw[hop];intro c hc';cases hc')]
  simp[execOp,hop,resolve,invoke,builtin,hs,hx,hrun,Result.andThen];exact hK' _ _ hK
theorem WC:(prog.info? 68).map (λi=>(i.zero,i.size,i.bytes))=some (some (.agg #[.string ByteArray.empty,.string ByteArray.empty]),2,32):=by kernel_rfl
theorem aez(m n:Nat)(hn:n<=1048576)(w:World):CallsIn Fence.wide m prog 260 #[.slice none 0 0,.int .i64 n] w λe w'=>∃v,e= .returned v/\Below w.heap.size w w'/\∃O:Nat->Prop,Row v 68 2 [] (λb _=>O b) w' O/\(∀b,O b->w.heap.size<=b):=by
 rcases Nat.eq_zero_or_pos n with rfl | hp
 ·refine axG.2 ((Any8.slices_Grow_room Tryz.Wr none 0 0 0 w ayT ayT ayT<|by omega).mono ?_)
  rintro e w' ⟨rfl,rfl⟩;exact⟨_,U,avU _ _,λ_=>False,Px ayZ _ _,λ_ c=>c.elim⟩
 ·obtain⟨i0,hi,hz0,hz1,Ku⟩:=axV WC
  refine axG.2 ((Any8.slices_Grow_grow Tryz.Wr i0 _ hi hz0 ayT none 0 0 n [] w ayT ayT (by rw[Ku];omega) ayT ayW (λ_=>rfl) λa h=>azm).mono ?_);rintro e w' ⟨rfl,rfl⟩;have hG:0+n<=grownCap w (0+n) 0 68:=axO w _ _ _;have hGm:=aw9 w (0+n) 0 68 aAH;refine⟨_,U,⟨U,U,U,ayW,λk hk=>Below.heap_alloc _ _ k hk⟩,λb=>b=w.heap.size,⟨ayZ,λcs h=>ay4,.inr ⟨w.heap.size,_,_,U,av5 _,hGm,World.alloc_heap_new _ _,?_,λi cs j d h=>ay4,λx=>axE⟩⟩,λb hb=>ayT⟩;show(_:Array Value).size=_*2
  rw[axB,axB,ayf,ayf];show 0+(0+n-0)*2+(grownCap w (0+n) 0 68-(0+n))*2=grownCap w (0+n) 0 68*2;omega
set_option maxRecDepth 100000 in
set_option maxHeartbeats 8000000 in
theorem aec(ra rb:List au)(hm:(ra++rb).length<=1048576)(n:Nat)(hn:3<=n)(W:World)(g:Nat)(x y:Value)(c0:W.cell? ⟨g,0,none⟩=some x)(c1:W.cell? ⟨g,1,none⟩=some y)
  (hx:RD M0 W x (.sl 2<|List.map az ra)) (hy:RD M0 W y (.sl 2<|List.map az rb)):
  CallsIn Fence.wide n prog 230 #[.slice (some ⟨g,0,none⟩) 2 2] W λe W'=>∃c m p,e= .returned (.slice c m p)/\Below W.heap.size W W'/\RD M0 W' (.slice c m p) (.sl 2<|List.map az<|ra++rb):=by
 have h1:1<=n:=by omega
 have hla:ra.length<=1048576:=by simp at hm;omega
 have hlb:ra.length+rb.length<=1048576:=by simpa using hm
 obtain⟨xa,xc,rfl⟩:=RD.slI hx;obtain⟨ya,yc,rfl⟩:=RD.slI hy;rw[avN]at c0 c1 hx hy;have Yi:=cz c0;have f260:Fence.wide.fn 260:=trivial;refine aw7 func230 U ayS ?_ U;simp only[ntmps230,avW,avv,av9,Nat.reduceAdd,Nat.reduceSub,aws,awt,awA,awl,avX,av4]
 gi_wp2
 gi_loopw [11,3] (λi s wr=>Below W.heap.size W wr/\((i= .int .i64 0/\s= .int .i64 0)\/(i= .int .i64 1/\s= .int .i64 ra.length)\/(i= .int .i64 2/\s= .int .i64 ((ra.length+rb.length:Nat):Int))))
  (λi _ _=>2-(RowKit.intOf i).toNat)
 case atStart=>exact⟨avU _ _,.inl ⟨U,U⟩⟩
 case round=>
  obtain⟨hB,hr⟩:=hrel;have d0:=(hB.cell (p:=⟨g,0,none⟩) Yi).trans c0
  have d1:=(hB.cell (p:=⟨g,1,none⟩) Yi).trans c1
  rcases hr with⟨rfl,rfl⟩ | ⟨rfl,rfl⟩ | ⟨rfl,rfl⟩
  ·gi_wp2
   exact⟨⟨hB,.inr<|.inl ⟨U,U⟩⟩,aAp⟩
  ·gi_wp2
   exact⟨⟨hB,.inr<|.inr ⟨U,ayW⟩⟩,aAp⟩
  ·gi_wp2_with (gi_at_call 260;refine(aez _ (ra.length+rb.length) ayT wr).mono ?_;rintro e W2 ⟨v2,rfl,hB2,O2,hR2,hO2⟩)
   have hB3:Below W.heap.size W W2:=hB.trans (hB2.mono hB.size);have hO3:∀b,O2 b->W.heap.size<=b:=λb c=>awa hB.size (hO2 b c)
   gi_loopw [27,6] (λi v wq=>Below W.heap.size W wq/\∃(es:List au)(O:Nat->Prop),Row v 68 2 (List.map az es) (λb _=>O b) wq O/\(∀b,O b->W.heap.size<=b)/\((i= .int .i64 0/\es= [])\/(i= .int .i64 1/\es=ra)\/(i= .int .i64 2/\es=ra++rb)))
    (λi _ _=>2-(RowKit.intOf i).toNat)
   case atStart=>exact⟨hB3,[],O2,hR2,hO3,.inl ⟨U,U⟩⟩
   case round=>
    obtain⟨hQ,es,O,hR,hO,hr⟩:=hrel;have e0:=(hQ.cell (p:=⟨g,0,none⟩) Yi).trans c0
    have e1:=(hQ.cell (p:=⟨g,1,none⟩) Yi).trans c1
    have up:∀{u:Value}{d:DV},RD M0 W u d->RD (λb _=>O b) wr u d:=λh=>h.mono λb o _ _ hx=>⟨(hQ.cell (p:=⟨b,o,none⟩)<|cz hx).trans hx,λc=>by have:=hO b c;have:=cz hx;omega⟩;have nxt:∀{w':World},cU O wr w'->Below W.heap.size W w':=λz=>⟨z.os.trans hQ.os,z.tape.trans hQ.tape,z.output.trans hQ.output,awa hQ.size z.size,λk hk=>(z.block k (avE hk hQ.size) λc=>by have:=hO k c;omega).trans<|hQ.block k hk⟩;have own:∀{v':Value}{w':World}{O':Nat->Prop}{l:List (List DV)},Row v' 68 2 l (λb o=>(O b/\¬O b)\/O' b) w' O'->Row v' 68 2 l (λb _=>O' b) w' O':=λz=>meq (λb o=>⟨λc=>c.elim (λc=>(c.2 c.1).elim) id,.inr⟩) z;have oth:∀{O':Nat->Prop},(∀b,O' b->O b\/wr.heap.size<=b)->∀b,O' b->W.heap.size<=b:=λz b hb=>(z b hb).elim (hO b) λc=>awa hQ.size c
    have fits:∀{l:List au},l.length<=1048576->(List.map az l).length<=1099511627776/\(List.map az l).length*32<=140737488355328:=λh=>by rw[avN];omega
    rcases hr with⟨rfl,rfl⟩ | ⟨rfl,rfl⟩ | ⟨rfl,rfl⟩
    ·obtain⟨v',w',O',z1,z2,z3,z4,z5⟩:=A5 (ty:=27) (P:=prog) underlying27 MN U (avX _) (fits hla).1 (fits hla).2 (λb hb _=>hb) (λb o hb=>Sb.lt hR b hb) hR (up hx)
     gi_wp2_with (gi_at_builtin;refine Hg U _ _ 27 U U U z1 ?_)
     exact⟨⟨nxt z2,_,O',own z5,oth z3,.inr<|.inl ⟨U,U⟩⟩,aAp⟩
    ·obtain⟨v',w',O',z1,z2,z3,z4,z5⟩:=A5 (ty:=27) (P:=prog) underlying27 MN U (axm.symm) (fits hm).1 (fits hm).2 (λb hb _=>hb) (λb o hb=>Sb.lt hR b hb) hR (up hy)
     gi_wp2_with (gi_at_builtin;refine Hg U _ _ 27 U U U z1 ?_)
     exact⟨⟨nxt z2,_,O',own z5,oth z3,.inr<|.inr ⟨U,U⟩⟩,aAp⟩
    ·gi_wp2
     go_ret;obtain⟨c,p,rfl,-⟩:=hR.len;exact⟨c,_,p,U,hQ,hR.data (λb o c=>c.elim False.elim False.elim) λb o c=>c.elim False.elim False.elim⟩
end Go.Ark.HP
