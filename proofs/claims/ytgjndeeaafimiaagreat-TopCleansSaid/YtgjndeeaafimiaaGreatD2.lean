/- Machine, typed functions, plain laws and walks, part 2, for TopCleans. Conditions: none but those that stand in each law. -/
import Derived.Test.YtgjndeeaafimiaaGreatD1
set_option linter.all false
namespace Go.Ab
open Go Go.RowKit
variable{K:Nat->Prop}
theorem cU.refl(w:World):cU K w w:=⟨U,U,U,avq _,λ_ _ _=>rfl⟩
theorem cU.trans{K:Nat->Prop}{w w1 w2:World}(h:cU K w w1)(h2:cU K w1 w2):cU K w w2:=
 ⟨h2.os.trans h.os,h2.tape.trans h.tape,h2.output.trans h.output,awa h.size h2.size,λk hk hK=>(h2.block k (avE hk h.size) hK).trans<|h.block k hk hK⟩
theorem cU.setCell{K:Nat->Prop}(w:World)(p:Addr)(v:Value)(h:K p.block):cU K w (w.setCell p v):=
 ⟨U,U,U,by simp[World.setCell],λk _ hK=>aya _ _ _ _ λe=>hK (by rw[e];exact h)⟩
variable{w w':World}
theorem cU.grown{row:Option Nat}(h:w.grownBy w' row)(hr:∀g,row=some g->K g):cU K w w':=
 ⟨h.os,h.tape,h.output,h.size,λk hk hK=>h.block k hk λc=>hK<|hr k c.symm⟩
theorem cU.below(h:Below w.heap.size w w'):cU K w w':=⟨h.os,h.tape,h.output,h.size,λk hk _=>h.block k hk⟩
theorem GY(s t:ByteArray):Lib.strCells s++Lib.strCells t=Lib.strCells (s++t):=by
 simp[Lib.strCells,ByteArray.data_append]
theorem Qi(c:Nat)(h:c<256):[Value.int .u8 (c:Int)] =Lib.strCells (ByteArray.mk #[UInt8.ofNat c]):=by
 simp[Lib.strCells,axa h]
variable{P:Program}{ops:Array Oper}{rest:List Oper}{o:Oper}
section
variable(w:World)
theorem H8(t u ty e:TypeId)(i:TypeInfo)(ht:P.underlying t=some (.slice e))(hu:P.underlying u=some .string)(hi:P.info? e=some i)(hz:i.zero=some (.int .u8 0))
  (hsize:i.size=1) (hby:i.bytes=1) (v:Value) (n:Nat) (xs:List Value) (hown:w.ownsRow 0 e 1 v n xs) (s:ByteArray) (hbytes:n+s.size<=140737488355328):
  ∃v' w',(Builtin.append_ #[t,u] ty #[v,.string s]).run P w= .ok v' w'/\w'.ownsRow 0 e 1 v' (n+s.size) (xs++Lib.strCells s)/\w.grownBy w' v.ownBlock/\
   (v'.ownBlock=v.ownBlock\/(v'.ownBlock=some w.heap.size/\w.heap.size<w'.heap.size)):=by
 have h63:n+s.size<=maxLen:=by unfold maxLen;omega
 have hxl:xs.length=n:=by simpa using hown.1
 have hlen:(xs++Lib.strCells s).length=(n+s.size)*1:=by rw[avz,hxl,ayw,axP]
 have grown:∀(old:Nat),old<n+s.size->∀(row:Option Nat),
   (w.drew.alloc<|.cells (xs.toArray++(Lib.strCells s).toArray++Builtin.zeroCells (Value.int .u8 0).cells (grownCap w (n+s.size) old e-(n+s.size))) e).ownsRow 0 e 1
    (.slice (some ⟨w.heap.size,0,none⟩) (n+s.size)<|grownCap w (n+s.size) old e) (n+s.size) (xs++Lib.strCells s)/\
   w.grownBy (w.drew.alloc<|.cells (xs.toArray++(Lib.strCells s).toArray++Builtin.zeroCells (Value.int .u8 0).cells (grownCap w (n+s.size) old e-(n+s.size))) e) row:=by
  intro old ho row;have hge:=axO w (n+s.size) old e;have pR:grownCap w (n+s.size) old e<=maxLen:=aw9 w (n+s.size) old e h63;refine⟨⟨hlen,.inr ⟨w.heap.size,_,_,U,av5 _,awB w.drew _,hge,pR,?_,?_⟩⟩,⟨U,U,U,ayW,λk hk _=>axx w.drew _ hk⟩⟩
  ·have hz1:(Value.int IntKind.u8 0).cells.size=1:=rfl
   simp only[axB,avW,ayf,hz1,hxl,ayw];omega
  ·simp only[Array.toList_append,av6]
   rw[<-av6,<-hlen];exact ayh
 rcases hown.2 with⟨rfl,rfl⟩ | ⟨g,cap,cur,rfl,hbg,hg,hnc,pR,hcs,ud⟩
 ·have hx:xs= []:=awD hxl
  subst hx;by_cases hm:s.size=0
  ·have hn:Lib.strCells s= []:=awD (by rw[ayw];exact hm)
   refine⟨.slice none 0 0,w,?_,by rw[hm,hn];exact aye w 0 e 1,⟨U,U,U,avq _,λ_ _ _=>rfl⟩,.inl U⟩;have hf:=Lib.run_firstCells_string (P:=P) w 1 s;rw[hm]at hf;simp[Builtin.append_,avm ht,avm hu,sizeOf,typeInfo,hi,hsize,Builtin.lenOf,hm,hf]
  ·have hr:=run_append_nil_string (P:=P) w t u ty e i (.int .u8 0) ht hu hi hz s ayT ayT (by rw[hby];omega)
   have hgr:=grown 0 ayT (Value.ownBlock<|.slice none 0 0);simp only[avS,avX,Array.empty_append]at hgr ⊢;have e1:(s.data.map λb=>Value.int .u8 b.toNat)=(Lib.strCells s).toArray:=by
    apply Array.ext';simp[Lib.strCells]
   rw[e1]at hr;exact⟨_,_,hr,hgr.1,hgr.2,.inr ⟨U,ayW⟩⟩
 ·by_cases hroom:n+s.size<=cap
  ·have HH:cur.size=cap:=by simpa using hcs
   have hr:=Lib.run_append_room_string (P:=P) w t u ty e i ht hu hi hsize g n cap cur hg s hroom ayT;refine⟨_,_,hr,⟨hlen,.inr ⟨g,cap,_,U,hbg,axU w g cur _ e _ hg,hroom,pR,?_,?_⟩⟩,⟨U,U,U,ayW,λk _ hk=>axW w g k _ λe=>hk<|by simp[Value.ownBlock,e]⟩,.inl U⟩
   ·simp only[avW,avz,avC,avZ,awj,ayw]
    omega
   ·have ht':cur.toList.take n=xs:=by simpa using ud
    rw[ht',<-hlen];exact ayh
  ·have holds:∀j u,xs[j]? =some u->w.cell? ((⟨g,0,none⟩:Addr).add j)=some u:=hown.cells (g:=g) U
   have hr:=Lib.run_append_grow_string (P:=P) w t u ty e i (.int .u8 0) ht hu hi hz ⟨g,0,none⟩ n cap xs (by rw[hsize];simpa using hxl) holds s ayT ayT aAY;have hgr:=grown cap ayT (Value.ownBlock<|.slice (some ⟨g,0,none⟩) n cap);exact⟨_,_,hr,hgr.1,hgr.2,.inr ⟨U,ayW⟩⟩
theorem Je(t ty e:TypeId)(i:TypeInfo)(ht:P.underlying t=some (.slice e))(hi:P.info? e=some i)(hz:i.zero=some (.int .u8 0))
  (hsize:i.size=1) (hby:i.bytes=1) (v:Value) (n:Nat) (xs:List Value) (hown:w.ownsRow 0 e 1 v n xs) (a:Addr) (c:Nat) (x:Value) (hx:w.cell? a=some x) (h1:x.oneCell'=true) (hbytes:n+1<=140737488355328):
  ∃v' w',(Builtin.append_ #[t,t] ty #[v,.slice (some a) 1 c]).run P w= .ok v' w'/\w'.ownsRow 0 e 1 v' (n+1) (xs++ [x])/\w.grownBy w' v.ownBlock/\
   (v'.ownBlock=v.ownBlock\/(v'.ownBlock=some w.heap.size/\w.heap.size<w'.heap.size)):=by
 have h63:n+1<=maxLen:=by unfold maxLen;omega
 have hxl:xs.length=n:=by simpa using hown.1
 have hlen:(xs++ [x]).length=(n+1)*1:=by rw[avz,hxl,axP];rfl
 have hl:[x].length=1*i.size:=by rw[hsize];rfl
 have hnews:∀j u,[x][j]? =some u->w.cell? (a.add j)=some u:=λj u hj=>by
  match j,hj with
  | 0,hj=>simp at hj;subst hj;simpa[Addr.add]using hx
 have grown:∀(old:Nat),old<n+1->∀(row:Option Nat),
   (w.drew.alloc<|.cells (xs.toArray++ [x].toArray++Builtin.zeroCells (Value.int .u8 0).cells (grownCap w (n+1) old e-(n+1))) e).ownsRow 0 e 1
    (.slice (some ⟨w.heap.size,0,none⟩) (n+1)<|grownCap w (n+1) old e) (n+1) (xs++ [x])/\
   w.grownBy (w.drew.alloc<|.cells (xs.toArray++ [x].toArray++Builtin.zeroCells (Value.int .u8 0).cells (grownCap w (n+1) old e-(n+1))) e) row:=by
  intro old ho row;have hge:=axO w (n+1) old e;have pR:grownCap w (n+1) old e<=maxLen:=aw9 w (n+1) old e h63;refine⟨⟨hlen,.inr ⟨w.heap.size,_,_,U,av5 _,awB w.drew _,hge,pR,?_,?_⟩⟩,⟨U,U,U,ayW,λk hk _=>axx w.drew _ hk⟩⟩
  ·have hz1:(Value.int IntKind.u8 0).cells.size=1:=rfl
   simp only[axB,avW,ayf,hz1,hxl,avv,av9];omega
  ·simp only[Array.toList_append,av6]
   rw[<-av6,<-hlen];exact ayh
 rcases hown.2 with⟨rfl,rfl⟩ | ⟨g,cap,cur,rfl,hbg,hg,hnc,pR,hcs,ud⟩
 ·have hxx:xs= []:=awD hxl
  subst hxx;have hr:=ayH (P:=P) w t ty e i (.int .u8 0) ht hi hz a 1 c [x] hl hnews ayT ayT (by rw[hby];omega);have hgr:=grown 0 ayT (Value.ownBlock<|.slice none 0 0);simp only[avS,avX,Array.empty_append]at hgr ⊢;exact⟨_,_,hr,hgr.1,hgr.2,.inr ⟨U,ayW⟩⟩
 ·by_cases hroom:n+1<=cap
  ·have HH:cur.size=cap:=by simpa using hcs
   have hr:=run_append_room (P:=P) w t ty e i ht hi g n cap cur hg a 1 c [x] hl hnews (λu hu=>by simp at hu;subst hu;exact h1) hroom (by rw[hsize];simp;omega);rw[hsize,axP]at hr;refine⟨_,_,hr,⟨hlen,.inr ⟨g,cap,_,U,hbg,axU w g cur _ e _ hg,hroom,pR,?_,?_⟩⟩,⟨U,U,U,ayW,λk _ hk=>axW w g k _ λe=>hk<|by simp[Value.ownBlock,e]⟩,.inl U⟩
   ·simp only[avW,avz,avC,avZ,awj,avv,av9]
    omega
   ·have ht':cur.toList.take n=xs:=by simpa using ud
    rw[ht',<-hlen];exact ayh
  ·have holds:∀j u,xs[j]? =some u->w.cell? ((⟨g,0,none⟩:Addr).add j)=some u:=hown.cells (g:=g) U
   have hr:=ax7 (P:=P) w t ty e i (.int .u8 0) ht hi hz ⟨g,0,none⟩ n cap xs (by rw[hsize];simpa using hxl) holds a 1 c [x] hl hnews ayT ayT aAY;have hgr:=grown cap ayT (Value.ownBlock<|.slice (some ⟨g,0,none⟩) n cap);exact⟨_,_,hr,hgr.1,hgr.2,.inr ⟨U,ayW⟩⟩
theorem Eh{a:Act}{Q:Exit->Act->World->Prop}(hgd:o.guard=none)(sl x:Operand)(t u:TypeId)
  (ho:o.op= .call { callee:=.builtin .append,args:=#[sl,x],argTypes:=#[t,u] })
  (e:TypeId) (i:TypeInfo) (ht:P.underlying t=some (.slice e)) (hu:P.underlying u=some .string) (hi:P.info? e=some i) (hz:i.zero=some (.int .u8 0))
  (hsize:i.size=1) (hby:i.bytes=1) (v:Value) (n:Nat) (xs:List Value) (hs:a.eval sl=v) (hown:w.ownsRow 0 e 1 v n xs) (s:ByteArray) (hx:a.eval x= .string s) (hbytes:n+s.size<=140737488355328)
  (h:∀v' w',w'.ownsRow 0 e 1 v' (n+s.size) (xs++Lib.strCells s)->w.grownBy w' v.ownBlock->(v'.ownBlock=v.ownBlock\/(v'.ownBlock=some w.heap.size/\w.heap.size<w'.heap.size))->wpList P ops Q rest (a.put o.dst v') w'):wpList P ops Q (o::rest) a w:=by
 refine axl hgd λK hK=>?_;obtain⟨v',w',hr,h2,h3,h4⟩:=H8 (P:=P) w t u o.type e i ht hu hi hz hsize hby v n xs hown s hbytes;unfold Oper.wp execOp;simp only[ho,resolve,invoke,builtin,avw,avF,avt,awN,avV,List.map_nil,hs,hx,hr];exact hK _ _ (h v' w' h2 h3 h4)
theorem FK{a:Act}{Q:Exit->Act->World->Prop}(hgd:o.guard=none)(sl x:Operand)(t:TypeId)
  (ho:o.op= .call { callee:=.builtin .append,args:=#[sl,x],argTypes:=#[t,t] })
  (e:TypeId) (i:TypeInfo) (ht:P.underlying t=some (.slice e)) (hi:P.info? e=some i) (hz:i.zero=some (.int .u8 0))
  (hsize:i.size=1) (hby:i.bytes=1) (v:Value) (n:Nat) (xs:List Value) (hs:a.eval sl=v) (hown:w.ownsRow 0 e 1 v n xs) (ad:Addr) (c:Nat) (y:Value) (hx:a.eval x= .slice (some ad) 1 c) (hy:w.cell? ad=some y) (h1:y.oneCell'=true) (hbytes:n+1<=140737488355328)
  (h:∀v' w',w'.ownsRow 0 e 1 v' (n+1) (xs++ [y])->w.grownBy w' v.ownBlock->(v'.ownBlock=v.ownBlock\/(v'.ownBlock=some w.heap.size/\w.heap.size<w'.heap.size))->wpList P ops Q rest (a.put o.dst v') w'):wpList P ops Q (o::rest) a w:=by
 refine axl hgd λK hK=>?_;obtain⟨v',w',hr,h2,h3,h4⟩:=Je (P:=P) w t o.type e i ht hi hz hsize hby v n xs hown ad c y hy h1 hbytes;unfold Oper.wp execOp;simp only[ho,resolve,invoke,builtin,avw,avF,avt,awN,avV,List.map_nil,hs,hx,hr];exact hK _ _ (h v' w' h2 h3 h4)
end
def B7(T E:TypeId)(w:World)(b:Nat)(go:Option Nat)(s:ByteArray)(w':World):Prop:=
 ∃v',w'.heap[b]? =some (.cells #[.pointer (some ⟨b,0,none⟩),v'] T (0,0))/\w'.ownsRow 0 E 1 v' s.size (Lib.strCells s)/\cU (λb'=>b'=b\/go=some b') w w'/\
  ∀g,v'.ownBlock=some g->g≠b/\(go=some g\/(w.heap.size<=g/\g<w'.heap.size))
variable{T E:TypeId}{s:ByteArray}
theorem QS{wA w2:World}{b n:Nat}{v v':Value}{xs:List Value}(hbk:wA.heap[b]? =some (.cells #[.pointer (some ⟨b,0,none⟩),v] T (0,0)))(hne:v.ownBlock≠some b)
  (hk:cU (λb'=>b'=b\/v.ownBlock=some b') w wA) (hs:w.heap.size<=wA.heap.size) (hlt:b<wA.heap.size) (hown:w2.ownsRow 0 E 1 v' n xs) (hn:s.size=n) (hx:xs=Lib.strCells s) (hgrow:wA.grownBy w2 v.ownBlock)
  (hblk:v'.ownBlock=v.ownBlock\/(v'.ownBlock=some wA.heap.size/\wA.heap.size<w2.heap.size)) (hTe:T≠E):B7 T E w b v.ownBlock s (w2.setCell ⟨b,1,none⟩ v'):=by
 subst hn hx;have hb2:w2.heap[b]? =some (.cells #[.pointer (some ⟨b,0,none⟩),v] T (0,0)):=by rw[hgrow.block b hlt (λe=>hne e.symm)];exact hbk
 have HK:v'.ownBlock≠some b:=Lib.ownBlock_ne hown hb2 hTe;refine⟨v',by simp[World.setCell,awW,hb2],dz hown λg hg=>aya _ _ _ _ λe=>HK<|by rw[hg,e],(hk.trans<|.grown hgrow λg hg=>.inr hg).trans<|.setCell _ _ _<|.inl U,λg hg=>⟨λc=>HK<|by rw[hg,c],?_⟩⟩;rcases hblk with h | ⟨h1,h2⟩
 ·exact .inl (h.symm.trans hg)
 ·rw[h1]at hg;cases hg
  exact .inr ⟨hs,by simpa[World.setCell]using h2⟩
theorem Pj(w:World)(g n:Nat){v:Option Addr}{l c:Nat}(h:v=some ⟨g,0,none⟩:=by rfl):cU (λb'=>(Value.slice v l c).ownBlock=some b') w (w.drew.freeze ⟨g,0,none⟩ n):=by
 subst h;unfold World.freeze;by_cases c:n=0
 ·rw[avk c];exact .below (ayI<|avU _ _)
 ·rw[avj c]
  refine⟨U,U,U,ayW,λk _ hK=>?_⟩;have hk:g≠k:=λe=>hK (by rw[<-e];rfl);simp only[awW];rw[avj hk];rfl
variable{nt dst:Nat}{ty:TypeId}{pos:String}{af:Array Edge}{gd:Option (Nat×Bool)}{x y:Operand}{R1 R2:List (Nat×SV)}{C:Cx P nt}
section
variable{T':TypeId}{k:IntKind}{m n:Int}
theorem YI(hx:Ev x (bI k m) R1)(hy:Ev y (bI k n) R2)(hd:Nat.blt dst nt=true):dJ C (Oo dst (.binOp .andNot T x y T') ty pos af gd) (R1++R2) [] [(dst,.one (bI k (k.wrap (BitVec.ofInt k.bits m&&& ~~~BitVec.ofInt k.bits n).toNat)))] []:=
 gX hx hy hd U (λh=>azm) λw=>aAJ
end
section
end
variable{k:List KI}{Q0:Exit->Act->World->Prop}
section
end
theorem Yd{b:Nat}{cs:Array Value}(hbk:w.heap[b]? =some (.cells #[.pointer (some ⟨b,0,none⟩),.slice none 0 0] T (0,0)))(hm:cs.size<=maxLen)(aq8:T≠E):
  B7 T E w b none ByteArray.empty ((w.alloc<|.cells cs E).setCell ⟨b,1,none⟩<|.slice (some ⟨w.heap.size,0,none⟩) 0 cs.size).drew.drew.drew:=by
 have hlt:b<w.heap.size:=(avo.1 hbk).1
 have hb2:(w.alloc<|.cells cs E).heap[b]? =some (.cells #[.pointer (some ⟨b,0,none⟩),.slice none 0 0] T (0,0)):=(axx w _ hlt).trans hbk
 have hown:(w.alloc<|.cells cs E).ownsRow 0 E 1 (.slice (some ⟨w.heap.size,0,none⟩) 0 cs.size) 0 []:=⟨U,.inr ⟨w.heap.size,cs.size,cs,U,av5 _,awB w _,av5 _,hm,ayW,ayW⟩⟩
 have hk:cU (λb'=>b'=b\/none=some b') w ((w.alloc<|.cells cs E).setCell ⟨b,1,none⟩<|.slice (some ⟨w.heap.size,0,none⟩) 0 cs.size):=(cU.below<|dM _ _).trans (.setCell _ _ _<|.inl U)
 have hne:w.heap.size≠b:=by omega
 have hown2:((w.alloc<|.cells cs E).setCell ⟨b,1,none⟩<|.slice (some ⟨w.heap.size,0,none⟩) 0 cs.size).ownsRow 0 E 1 (.slice (some ⟨w.heap.size,0,none⟩) 0 cs.size) 0 []:=
  dz hown λg hg=>aya _ _ _ _ (λe=>by simp[Value.ownBlock]at hg;subst hg;exact hne e)
 refine⟨.slice (some ⟨w.heap.size,0,none⟩) 0 cs.size,?_,dz hown2 λ_ _=>rfl,hk.trans<|.below<|ayI<|ayI<|ayI<|avU _ _,λg hg=>?_⟩
 ·show((w.alloc<|.cells cs E).setCell ⟨b,1,none⟩<|.slice (some ⟨w.heap.size,0,none⟩) 0 cs.size).heap[b]? =_
  simp[World.setCell,awW,hb2]
 ·simp[Value.ownBlock]at hg
  subst hg;refine⟨hne,.inr ⟨avq _,?_⟩⟩;simp[World.setCell]
theorem QO{b:Nat}(hbk:w.heap[b]? =some (.cells #[.pointer none,.slice none 0 0] T (0,0))):B7 T E w b none ByteArray.empty (w.setCell ⟨b,0,none⟩ (.pointer (some ⟨b,0,none⟩))).drew:=
 ⟨.slice none 0 0,by show(w.setCell ⟨b,0,none⟩<|.pointer<|some ⟨b,0,none⟩).heap[b]? =_;simp[World.setCell,awW,hbk],aye _ 0 E 1,(cU.setCell _ _ _<|.inl U).trans<|.below<|ayI<|avU _ _,λg hg=>by cases hg⟩
theorem QN{b:Nat}(aq9:w.heap[b]? =some (.cells #[.pointer none,.slice none 0 0] T (0,0)))(h:B7 T E (w.setCell ⟨b,0,none⟩ (.pointer (some ⟨b,0,none⟩))).drew b none ByteArray.empty w'):B7 T E w b none ByteArray.empty w':=by
 obtain⟨v',h1,h2,h3,h4⟩:=h;refine⟨v',h1,h2,((cU.setCell _ _ _<|.inl U).trans<|.below<|ayI<|avU _ _).trans h3,λg hg=>⟨(h4 g hg).1,(h4 g hg).2.imp id λc=>⟨?_,c.2⟩⟩⟩;have:=c.1;simpa[World.setCell]using this
section
end
variable{R:List (Nat×SV)}
section
theorem Mj{z:Value}(hz:z.oneCell'=true)(n:Nat):madeCells z.cells (n*1)=Array.replicate n z:=by
 have hc:z.cells= #[z]:=by cases z<;>simp_all [Value.cells,Value.oneCell']
 rw[hc,axP];apply Array.ext
 ·simp[madeCells]
 ·intro i h1 h2
  simp[madeCells,Nat.mod_one]
end
open Go.Lib
section
end
section
end
section
end
variable{z:Operand}{R3:List (Nat×SV)}
section
end
section
variable{M:Nat->Nat->Prop}{w0:World}{b:Nat}
end
section
end
section
end
section
end
section
end
section
end
section
end
variable{Rh:List (Nat×Option HE)}
section
variable{i:Nat}{Rs Ws:List (Nat×SV)}{Wh:List (Nat×Option HE)}
theorem oP(ho:ops[i]? =some o)(hg:o.guard=none)(h:dJ C o Rs Rh Ws Wh):OpW C ops i ⟨Rs,Rh,Ws,Wh⟩:=OpW.plain h ho hg
inductive Xo(C:Cx P nt)(ops:Array Oper):Nat->List iD->Prop
 | nil {i:Nat}:Xo C ops i []
 | c {i:Nat} {e:iD} {es:List iD} (h:OpW C ops i e) (t:Xo C ops (i+1) es):Xo C ops i (e::es)
theorem Xo.all{i:Nat}{es:List iD}(h:Xo C ops i es):JP C ops i es:=by
 induction h with
 | nil=>trivial
 | c h t ih=>exact⟨h,ih⟩
end
variable{sl:SL}{hp:HL}
section
theorem G.aaM{id:Nat}{l:List Oper}{aY:List iD}{deps:List (List Nat)}{sl':SL}{dg:HL}(ho:Xo C l.toArray 0 aY)(hm:P.follows .mixedOrders=true)
  (hd:qQ l.toArray deps=true) (hl:aY.length=l.length) (h1:single aY deps=true) (hr:FQ aY deps sl hp 0 aY)
  (hs:XQ aY sl sl') (hh:aeh aY hp dg) (hw:tY sl' dg=true) (hk:G C Q0 k ⟨sl',dg⟩):G C Q0 (.c (.region id l.toArray true)::k) ⟨sl,hp⟩:=G.drawn hm hd hl h1 hr ho.all hs hh hw hk
end
open Go.Proofs
variable{Γ:World->Prop}
section
end
section
end
variable{zz:Value}{size bytes:Nat}
section
theorem CT{len:Nat}{es:List (List DV)}{xs:List (Nat×Operand)}{gs:List (Nat×AG)}
  (hT:P.underlying T=some (.slice E)) (hI:Info P E zz size bytes) (hbig:Nat.ble (len*size) 16777216=true) (hlen:Nat.ble len 16777216=true)
  (hx:Xq xs gs R) (he:lu (λi=>some (i*size,size)) (List.replicate (len*size) none) gs=some (es.flatten.map some)) (hel:Nat.beq es.length len=true) (hes:∀cs,cs∈es->cs.length=size) (hd:Nat.blt dst nt=true):
  dJ C (Oo dst (.buildSlice T len xs.toArray) ty pos af gd) R [] [(dst,.one (.cp size es))] []:=
 HW hd U λsl hp β a w hs _ r=>by
  have hel:=av3 hel;have Km:¬(16777216<len*size):=by simp at hbig;omega
  obtain⟨h1,h2⟩:=hx.ok hs r;generalize hz0:(if len*size=0 then(#[]:Array Value)else zz.cells)=z0;have U4:VR (Mu C hp β) w ((Array.range<|len*size).map (z0[·% z0.size]!)) (List.replicate (len*size) none):=⟨ayW,λj d hj=>azN⟩;obtain⟨vals,hf,hv⟩:=Aq (rS:=xs.map λq=>(q.1,a.eval q.2)) U4 ay7 h2 he;refine⟨.slice (some ⟨w.heap.size,0,none⟩) len len,w.alloc<|.cells vals E,?_,dM w _,?_⟩
  ·simp only[execOp,Instr.buildSlice,avw,avm hT,avt,hI.sizeOf]
   rw[avj aAv];by_cases h0:len*size=0
   ·rw[avk h0]at hz0
    subst hz0;rw[avk h0];simp only[avw,avF,avt,awN,hf,newRow,aym];rfl
   ·rw[avj h0]at hz0
    subst hz0;rw[avj h0];simp only[avw,avF,avt,hI.zero,awN,hf,newRow,aym];rfl
  ·suffices hb:RD (Mu C hp β) (w.alloc<|.cells vals E) (.slice (some ⟨w.heap.size,0,none⟩) len len) (.sl size es)from⟨hb,_,_,U⟩
   refine M9 (λo c=>?_) hel azC hes hv;exact ayq _ (r.yC c)
end
section
end
theorem cU.afc(h:Below w.heap.size w w'):cU K w w':=⟨h.os,h.tape,h.output,h.size,λk hk _=>h.block k hk⟩
def cQ(l:List ByteArray):List ByteArray:=((l.map λs=>s.data.toList).mergeSort λx y=>decide (x<=y)).map λb=>⟨b.toArray⟩
abbrev Dk(s:ByteArray):List DV:=[.v (.string s)]
def SK(l:List ByteArray):Option (List ByteArray):=if l.length<=1000000 then some (cQ l)else none
variable{l:List ByteArray}
theorem acP{r:List ByteArray}(h:SK l=some r):l.length<=1000000/\cQ l=r:=by
 unfold SK at h;split at h
 ·cases h;exact⟨ay6,U⟩
 ·cases h
theorem Zk(l:List ByteArray):(l.map Dk).length=((cQ l).map Dk).length:=by simp[cQ]
structure aah(P:Program)(f E:Nat):Prop where
 some:∀(w:World)(g cap:Nat)(cur:Array Value)(ss:List (List UInt8)),ss.length<=1000000->w.heap[g]? =some (.cells cur E (0,0))->cap<=maxLen->ss.length<=cap->cur.toList.take ss.length=ss.map Go.Proofs.encStr->Calls P f #[.slice (some ⟨g,0,none⟩) ss.length cap] w λe w'=>e= .returned (.tuple #[])/\∃n os,w'=Sort.grow (Sort.putRow Go.Proofs.encStr (Sort.ahead w n) g 0 (ss.mergeSort λx y=>decide (x<=y)).toArray) os
 none:∀(a:Option Addr)(cap:Nat)(w:World),Calls P f #[.slice a 0 cap] w λe w'=>e= .returned (.tuple #[])/\w'=w
variable{kk:Nat}
section
theorem N7{cur:Array Value}(h:∀(i:Nat)(s:ByteArray),l[i]? =some s->cur[i]? =some (.string s)):cur.toList.take (l.map λs=>s.data.toList).length=(l.map λs=>s.data.toList).map Go.Proofs.encStr:=by
 apply axZ;intro i;rw[avN];by_cases c:i<l.length
 ·rw[avR c,awb,h i l[i] (by simp[c])]
  simp[c,Go.Proofs.encStr]
 ·rw[List.getElem?_take_eq_none ayT,aw3 ayV]
theorem G.aas{f E d1:Nat}{tys:Array TypeId}(hl0:l.length<=1000000)(hf:cG P f)(hs:aah P f E)(hx:Ev x (.own kk (l.map Dk)) R1)(hd1:Nat.blt d1 nt=true)(hR:bK sl R1)(hh:aE hp kk=some (.row E 1 (l.map Dk) true))
  (hk:G C Q0 (.l ops rest::k) ⟨(d1,.dead)::sl,(kk,some (.row E 1 ((cQ l).map Dk) true))::hp⟩):
  G C Q0 (.l ops (Oo d1 (gO f [x] tys) ty pos af none::rest)::k) ⟨sl,hp⟩:=⟨λa w⟨β,r⟩=>by
 have HI:d1<nt:=by simpa using hd1
 have hu:=hx.ok hR r;change wpList P ops (Hq P Q0 k) _ a w;refine axl U λK hK=>?_;unfold Oper.wp;rw[qh hf];by_cases hl:l= []
 ·subst hl
  obtain⟨ad,cap,hu0⟩:∃ad cap,a.eval x= .slice ad 0 cap:=by
   obtain⟨_,_,_,_,h1,_,h2⟩:=hu;rw[hh]at h1;cases h1;rcases h2 rfl with⟨_,_,ad,h3⟩ | ⟨b,cap,cur,_,h3,_⟩
   ·exact⟨ad,0,h3⟩
   ·exact⟨_,cap,azx⟩
  have:=hs.none ad cap w;simp only[avV,List.map_nil,hu0];refine this.mono ?_;rintro e w' ⟨rfl,rfl⟩;have e0:cQ [] = []:=by simp[cQ]
  rw[e0]at hk;refine hK _ _ (hk.go _ _ ⟨β,?_⟩);exact(r.put (sv:=.dead) (avU _ _) HI ayS).ext (λ_ _ h=>h) λn=>by
   rw[aG];split
   ·rename_i c;subst c;exact hh.symm
   ·rfl
 ·have hne:l.map Dk≠[]:=by simpa using hl
  obtain⟨Pg,hsz,b,cap,cur,hb,hu0,hle,pR,hheap,hcs,hcl,hel⟩:=Gs r hh hu hne;simp only[avN,axP]at hle hcs hcl hu0;have hcell:∀(i:Nat)(s:ByteArray),l[i]? =some s->cur[i]? =some (.string s):=λi s hi=>by
   obtain⟨v,h1,h2⟩:=hel i (Dk s) 0 (.v<|.string s) (by simp[hi]) U;have:=RD.aX h2;subst this;simpa using h1
  have hbl:b<w.heap.size:=(avo.1 hheap).1
  have oH:=hs.some w b cap cur (l.map λs=>s.data.toList) (by simpa using hl0) hheap pR (by simpa using hle) (N7 hcell);simp only[avN]at oH;simp only[avV,List.map_nil,hu0];refine oH.mono ?_;rintro e w1 ⟨rfl,nn,os,rfl⟩;generalize hw1:Sort.grow (Sort.putRow Go.Proofs.encStr (Sort.ahead w nn) b 0 ((l.map λs=>s.data.toList).mergeSort λx y=>decide (x<=y)).toArray) os=w1;have hg:=grownBy_sorted (w:=w) (g:=b) (n:=nn) (os:=os) ((l.map λs=>s.data.toList).mergeSort λx y=>decide (x<=y)).toArray
  have hnew:=heap_sorted (n:=nn) (os:=os) ((l.map λs=>s.data.toList).mergeSort λx y=>decide (x<=y)).toArray hheap
  rw[hw1]at hg hnew;obtain⟨g1,g2,g3,g4,g5⟩:=hg;have hlen:(cQ l).length=l.length:=by simp[cQ]
  have hput:∀(i:Nat)(s:ByteArray),(cQ l)[i]? =some s->(Sort.putCells Go.Proofs.encStr 0 ((l.map λs=>s.data.toList).mergeSort λx y=>decide (x<=y)).toArray cur)[i]? =some (.string s):=λi s hi=>by
   have hil:i<l.length:=by rw[<-hlen];exact(avl.1 hi).1
   have:=Go.take_putCells cur ((l.map λs=>s.data.toList).mergeSort λx y=>decide (x<=y)) (by simpa using hcl);have h2:=awp (λz=>z[i]?) this;simp only[List.length_mergeSort,avN]at h2;rw[avR hil,awb]at h2;rw[h2];simp only[cQ,avL,awd]at hi ⊢;obtain⟨q,h3,rfl⟩:=hi;exact⟨q,h3,U⟩
  refine hK _ _ (hk.go _ _ ⟨dQ β kk<|β kk,?_⟩);have r1:dD C ⟨(d1,.dead)::sl,hp⟩ β (a.put (some d1)<|.tuple #[]) w:=r.put (sv:=.dead) (avU _ _) HI ayS;refine(r1.chg (e:=.row E 1 ((cQ l).map Dk) true) (bo:=β kk) hh g1 g2 g3 g4 (λq hq HK=>g5 q hq λc=>HK (by rw[hb];exact c)) (λ_ o x _ _ hnm=>absurd (.inl U) hnm)
   (.inl ⟨U,λo ho=>.inl U⟩) ⟨U,λ_=>rfl⟩ (λB5 u h=>?_) (λ_ FN=>?_)).1
  ·obtain⟨_,_,_,_,h5,h6,h7⟩:=h
   rw[hh]at h5;cases h5;refine⟨E,1,(cQ l).map Dk,true,azp,by simpa[hlen]using h6,λhq=>?_⟩;simp only[avN,hlen]at hq;rcases h7 (by simpa using hq)with⟨_,h8,_⟩ | ⟨b',cap',cur',h8,h9,h10,h11,h12,h13⟩
   ·exact absurd h8 hne
   ·rw[hb]at h8;cases h8
    rw[hheap]at h12;cases h12;exact .inr ⟨b,cap',_,azv,by simpa[hlen]using h9,by simpa[hlen]using h10,h11,hnew,by simpa[Sort.putCells]using h13⟩
  ·refine⟨Pg,λcs HH=>?_,.inr ⟨b,_,azv,hnew,by simpa[Sort.putCells,hlen]using hcl,λi' cs j d hi' hj=>?_⟩⟩
   ·obtain⟨s,_,rfl⟩:=avT.1 HH;rfl
   ·simp only[avL,awd]at hi'
    obtain⟨s,h3,rfl⟩:=hi';cases j with
    | zero=>simp at hj;subst hj;exact⟨_,by simpa using hput i' s h3,RD.v _ U⟩
    | succ j=>simp at hj⟩
end
def sJ(l:List ByteArray):List ByteArray:=(Lib.compact (l.map λs=>s.data.toList)).map λb=>⟨b.toArray⟩
structure afS(P:Program)(f:Nat):Prop where
 some:∀(g cap:Nat)(zs:List (List UInt8))(w:World),Sort.Holds encStr w g 0 zs.toArray->zs.length<=9223372036854775807->zs.length<=cap->Calls P f #[.slice (some ⟨g,0,none⟩) zs.length cap] w λe w'=>e= .returned (.slice (some ⟨g,0,none⟩) (Lib.compact zs).length cap)/\∃q,w'=Sort.putRow encStr (Sort.ahead w q) g 0 (Lib.compact zs++List.replicate (zs.length-(Lib.compact zs).length) []).toArray
 none:∀(a:Option Addr)(cap:Nat)(w:World),Calls P f #[.slice a 0 cap] w λe w'=>e= .returned (.slice a 0 cap)/\w'=w
theorem TL{f E:Nat}(hs:afS P f)(l:List ByteArray):Ct P f [.row E 1 (l.map Dk)] (.new E 1 ((sJ l).map Dk)):=⟨λM K w vs hM hK hlen ha=>by
 obtain⟨u,rfl⟩:∃u,vs= [u]:=by
  cases vs with
  | nil=>simp at hlen
  | cons u l=>cases l with
   | nil=>exact⟨u,U⟩
   | cons=>simp at hlen
 obtain⟨hz,hsz,hr⟩:=ha 0 _ u U U;by_cases hl:l= []
 ·subst hl
  obtain⟨ad,cap,rfl⟩:∃ad cap,u= .slice ad 0 cap:=by
   rcases hr with⟨_,ad,h⟩ | ⟨b,cap,cur,_,_,h,_⟩
   ·exact⟨ad,0,h⟩
   ·exact⟨_,cap,azi⟩
  have e0:sJ [] = []:=by simp[sJ,Lib.compact,Lib.compactUpTo]
  rw[e0];refine(hs.none ad cap w).mono ?_
  rintro e w' ⟨rfl,rfl⟩;refine⟨_,U,cU.afc<|avU _ _,hz,hsz,?_⟩;rcases hr with h | ⟨b,cap',cur,h1,h2,h3,h4⟩
  ·exact .inl h
  ·exact .inr ⟨b,cap',cur,.inr h1,h2,h3,h4⟩
 ·rcases hr with⟨h,_⟩ | ⟨b,cap,cur,hKb,hbl,rfl,hle,pR,hheap,hcs,hel⟩
  ·simp at h;exact(hl h).elim
  ·simp only[avN,axP]at hle hcs
   have hcell:∀(i:Nat)(s:ByteArray),l[i]? =some s->cur[i]? =some (.string s):=λi s hi=>by
    obtain⟨v,h1,h2⟩:=hel i (Dk s) 0 (.v<|.string s) (by simp[hi]) U;have:=RD.aX h2;subst this;simpa using h1
   have hH:=holds_of_block hheap (N7 hcell);have hml:maxLen<=9223372036854775807:=by decide
   have oH:=hs.some b cap (l.map λs=>s.data.toList) w hH ayV (by simpa using hle);have hcl:=Lib.compact_length_le (l.map λs=>s.data.toList);simp only[avN]at oH hcl ⊢;refine oH.mono ?_;rintro e w1 ⟨rfl,q,rfl⟩;generalize hd:(Lib.compact (l.map λs=>s.data.toList)++List.replicate (l.length-(Lib.compact<|l.map λs=>s.data.toList).length) [])=d;have hdl:d.length=l.length:=by rw[<-hd];simp;omega
   have hg:=grownBy_sorted (w:=w) (g:=b) (n:=q) (os:=#[]) d.toArray;have hnew:=heap_sorted (n:=q) (os:=#[]) d.toArray hheap;rw[Sort.grow_empty]at hg hnew;obtain⟨g1,g2,g3,g4,g5⟩:=hg;have hput:∀(i:Nat)(s:ByteArray),(sJ l)[i]? =some s->(Sort.putCells encStr 0 d.toArray cur)[i]? =some (.string s):=λi s hi=>by
    have hil:i<(Lib.compact<|l.map λs=>s.data.toList).length:=by
     have:=(avl.1 hi).1
     simpa[sJ]using this
    have:=Go.take_putCells cur d (by rw[hdl];omega);have h2:=awp (λz=>z[i]?) this;rw[avR ayT,awb]at h2;rw[h2,<-hd,avL,avy hil];simp only[sJ,avL,awd]at hi ⊢;obtain⟨z,h3,rfl⟩:=hi;exact⟨z,h3,U⟩
   refine⟨_,U,⟨g1,g2,g3,g4,λk hk hnk=>g5 k hk λc=>hnk azR⟩,hz,λcs HH=>?_,.inr ⟨b,cap,_,.inr hKb,avE hbl g4,by simp[sJ],by simp[sJ];omega,pR,hnew,by simpa[Sort.putCells]using hcs,λi cs j dd hi hj=>?_⟩⟩
   ·obtain⟨s,_,rfl⟩:=avT.1 HH;rfl
   ·simp only[avL,awd]at hi
    obtain⟨s,h3,rfl⟩:=hi;cases j with
    | zero=>simp at hj;subst hj;exact⟨_,by simpa using hput i s h3,RD.v _ U⟩
    | succ j=>simp at hj⟩
class pz(P:Program)(t:TypeId)(d:outParam TypeDesc):Prop where
 h:P.underlying t=some d
theorem uU{t:TypeId}{d:TypeDesc}[i:pz P t d]:P.underlying t=some d:=i.h
class Ak(P:Program)(t:Nat)(z:outParam Value)(s b:outParam Nat):Prop where
 h:Info P t z s b
variable{t:Nat}
theorem iI{z:Value}{s b:Nat}[i:Ak P t z s b]:Info P t z s b:=i.h
abbrev BT{P:Program}{t:Nat}{z:Value}{s b:Nat}(_:Info P t z s b):Value:=z
abbrev BO{P:Program}{t:Nat}{z:Value}{s b:Nat}(_:Info P t z s b):Nat:=s
abbrev BN{P:Program}{t:Nat}{z:Value}{s b:Nat}(_:Info P t z s b):Nat:=b
abbrev pK{P:Program}{t:TypeId}{d:TypeDesc}(_:P.underlying t=some d):TypeDesc:=d
theorem ev{v:BV}:Ev (.tmp t) v [(t,.one v)]:=Ev.t t v
theorem ec{v:Value}(h:v.oneCell'=true):Ev (.const v) (.g (.d (.v v))) []:=Ev.c v h
theorem qe{g:AG}:QC P (.tmp t) (.g g) [(t,.one (.g g))] []:=.g (Ev.t t _)
variable{ZS:Sort _}{a0:ZS}
theorem z1:a0=a0/\True:=⟨U,ayS⟩
variable{Wl:Sort _}{a1:Wl}
theorem z2:a0=a0/\a1=a1/\True:=⟨U,U,ayS⟩
variable{α2:Sort _}{a2:α2}
theorem z3:a0=a0/\a1=a1/\a2=a2/\True:=⟨U,U,U,ayS⟩
variable{α3:Sort _}{a3:α3}
theorem z4:a0=a0/\a1=a1/\a2=a2/\a3=a3/\True:=⟨U,U,U,U,ayS⟩
variable{α4:Sort _}{a4:α4}
theorem z5:a0=a0/\a1=a1/\a2=a2/\a3=a3/\a4=a4/\True:=⟨U,U,U,U,U,ayS⟩
theorem z6{α5:Sort _}{a5:α5}:a0=a0/\a1=a1/\a2=a2/\a3=a3/\a4=a4/\a5=a5/\True:=⟨U,U,U,U,U,U,ayS⟩
theorem z10{α5:Sort _}{a5:α5}{α6:Sort _}{a6:α6}{α7:Sort _}{a7:α7}{α8:Sort _}{a8:α8}{α9:Sort _}{a9:α9}:a0=a0/\a1=a1/\a2=a2/\a3=a3/\a4=a4/\a5=a5/\a6=a6/\a7=a7/\a8=a8/\a9=a9/\True:=⟨U,U,U,U,U,U,U,U,U,U,ayS⟩
variable{b:Bool}{j:Nat}{α:Type}{t0:Nat}{u0:SV}{tg k0:Nat}{e0:Option HE}{t1:Nat}{u1:SV}{e:Option HE}
section
variable{st:St}{v:BV}{op:Op}{sv:SV}{x y:Code}{id:Nat}
theorem mv(hs:bG sl t=some (.one v))(hd:Nat.blt dst nt=true)(hk:G C Q0 (.l ops rest::k) ⟨(dst,.one v)::sl,hp⟩):G C Q0 (.l ops (Oo dst (.move (.tmp t)) ty pos af none::rest)::k) ⟨sl,hp⟩:=
 G.op1 (kQ (Ev.t t v) hd) U ⟨hs,ayS⟩ ayS hk
theorem av(hs:bG sl t=some (.one v))(hd:Nat.blt dst nt=true)(hk:G C Q0 (.l ops rest::k) ⟨(dst,.one v)::sl,hp⟩):G C Q0 (.l ops (Oo dst (.assign (.tmp t)) ty pos af none::rest)::k) ⟨sl,hp⟩:=
 G.op1 (iG (Ev.t t v) hd) U ⟨hs,ayS⟩ ayS hk
theorem ac{u:Value}(hu:u.oneCell'=true)(hd:Nat.blt dst nt=true)(hk:G C Q0 (.l ops rest::k) ⟨(dst,.one (.g (.d (.v u))))::sl,hp⟩):G C Q0 (.l ops (Oo dst (.assign (.const u)) ty pos af none::rest)::k) ⟨sl,hp⟩:=
 G.op1 (iG (Ev.c u hu) hd) U ayS ayS hk
theorem sq(h:G C Q0 (.c x:: .c y::k) st):G C Q0 (.c (.seq x y)::k) st:=G.seq h
theorem rg{l:List Oper}(h:G C Q0 (.l l.toArray l::k) st):G C Q0 (.c (.region id l.toArray false)::k) st:=G.region h
theorem eO(h:G C Q0 k st):G C Q0 (.l ops [] ::k) st:=G.Ka h
theorem sk(h:G C Q0 k st):G C Q0 (.c .skip::k) st:=G.skip h
theorem bl(h:G C Q0 (.c x:: .b id::k) st):G C Q0 (.c (.block id x)::k) st:=G.block h
theorem eB(h:G C Q0 k st):G C Q0 (.b id::k) st:=G.endBlock h
theorem ex(h:GX C Q0 id k st):G C Q0 (.c (.exit id)::k) st:=G.exit h
theorem xY(h:G C Q0 k st):GX C Q0 id (.b id::k) st:=GX.aha h
theorem Te{l:List Oper}(h:G C Q0 (.l l.toArray l:: .c y::k) st):G C Q0 (.l ops [] :: .c (.seq (.region id l.toArray false) y)::k) st:=G.Ka (G.seq (G.region h))
theorem sr{l:List Oper}(h:G C Q0 (.l l.toArray l:: .c y::k) st):G C Q0 (.c (.seq (.region id l.toArray false) y)::k) st:=G.seq (G.region h)
theorem cT(hb:b=true)(hs:bG st.sl t=some (.one (bB b)))(h:G C Q0 (.c x::k) st):G C Q0 (.c (.cond (.tmp t) x y)::k) st:=G.cond hs (λ_=>h) (λhx=>Bool.noConfusion (hb.symm.trans hx))
theorem cF(hb:b=false)(hs:bG st.sl t=some (.one (bB b)))(h:G C Q0 (.c y::k) st):G C Q0 (.c (.cond (.tmp t) x y)::k) st:=G.cond hs (λhx=>Bool.noConfusion (hb.symm.trans hx)) (λ_=>h)
theorem oN{c:Bool}(hbc:(b==c)=false)(hj:(ops[j]?).bind (·.dst)=some t)(ht:bG sl t=some (.one (bB b)))
  (hk:G C Q0 (.l ops rest::k) ⟨(dst,.one (.x Go.undef))::sl,hp⟩):G C Q0 (.l ops (Oo dst op ty pos af (some (j,c))::rest)::k) ⟨sl,hp⟩:=G.ao2 U U hbc hj ht hk
theorem bn{β:Type}{x:Option α}{f:α->Option β}{r:β}{p:Prop}(h:x.bind f=some r)(hk:∀v,x=some v->f v=some r->p):p:=let⟨v,h1,h2⟩:=ajY h;hk v h1 h2
theorem lF{T R:Type}{x:Code}{body:(T->Option R)->T->Option R}{n:Nat}{v:T}{r:R}(S:T->St)(hF:aR body n v=some r)(hs:bK st.sl (S v).sl)(hh:dn st.hp (S v).hp)(hw:tY (S v).sl (S v).hp=true)
  (round:∀(K:Act->World->Prop)(again:T->Option R)(v:T),(∀v',again v'=some r->G C Q0 (.q K::k) (S v'))->body again v=some r->G C Q0 (.c x:: .q K::k) (S v)):G C Q0 (.c (.loop x)::k) st:=
 G.keep (sl':=(S v).sl) (dg:=(S v).hp) hs hh hw (G.aR S hF U round)
theorem p00(h:dJ C (Oo dst op ty pos af none) [] [] [(dst,sv)] [])(hk:G C Q0 (.l ops rest::k) ⟨(dst,sv)::sl,hp⟩):G C Q0 (.l ops ((Oo dst op ty pos af none)::rest)::k) ⟨sl,hp⟩:=G.op1 h U ayS ayS hk
theorem xx(h:dJ C (Oo dst op ty pos af none) [(t0,u0)] [] [(dst,sv)] [])(s0:bG sl t0=some u0)(hk:G C Q0 (.l ops rest::k) ⟨(dst,sv)::sl,hp⟩):G C Q0 (.l ops ((Oo dst op ty pos af none)::rest)::k) ⟨sl,hp⟩:=G.op1 h U ⟨s0,ayS⟩ ayS hk
theorem g10(h:dJ C (Oo dst op ty pos af (some (j,b))) [(t0,u0)] [] [(dst,sv)] [])(hj:(ops[j]?).bind (·.dst)=some tg)(ht:bG sl tg=some (.one (bB b)))(s0:bG sl t0=some u0)(hk:G C Q0 (.l ops rest::k) ⟨(dst,sv)::sl,hp⟩):G C Q0 (.l ops (Oo dst op ty pos af (some (j,b))::rest)::k) ⟨sl,hp⟩:=G.aif h U hj ht ⟨s0,ayS⟩ ayS hk
theorem QF(h:dJ C (Oo dst op ty pos af none) [(t0,u0)] [(k0,e0)] [(dst,sv)] [])(s0:bG sl t0=some u0)(h0:aE hp k0=e0)(hk:G C Q0 (.l ops rest::k) ⟨(dst,sv)::sl,hp⟩):G C Q0 (.l ops ((Oo dst op ty pos af none)::rest)::k) ⟨sl,hp⟩:=G.op1 h U ⟨s0,ayS⟩ ⟨h0,ayS⟩ hk
theorem PT(h:dJ C (Oo dst op ty pos af none) [(t0,u0),(t1,u1)] [] [(dst,sv)] [])(s0:bG sl t0=some u0)(s1:bG sl t1=some u1)(hk:G C Q0 (.l ops rest::k) ⟨(dst,sv)::sl,hp⟩):G C Q0 (.l ops ((Oo dst op ty pos af none)::rest)::k) ⟨sl,hp⟩:=G.op1 h U ⟨s0,s1,ayS⟩ ayS hk
theorem g20(h:dJ C (Oo dst op ty pos af (some (j,b))) [(t0,u0),(t1,u1)] [] [(dst,sv)] [])(hj:(ops[j]?).bind (·.dst)=some tg)(ht:bG sl tg=some (.one (bB b)))(s0:bG sl t0=some u0)(s1:bG sl t1=some u1)(hk:G C Q0 (.l ops rest::k) ⟨(dst,sv)::sl,hp⟩):G C Q0 (.l ops (Oo dst op ty pos af (some (j,b))::rest)::k) ⟨sl,hp⟩:=G.aif h U hj ht ⟨s0,s1,ayS⟩ ayS hk
theorem p21(h:dJ C (Oo dst op ty pos af none) [(t0,u0),(t1,u1)] [(k0,e0)] [(dst,sv)] [])(s0:bG sl t0=some u0)(s1:bG sl t1=some u1)(h0:aE hp k0=e0)(hk:G C Q0 (.l ops rest::k) ⟨(dst,sv)::sl,hp⟩):G C Q0 (.l ops ((Oo dst op ty pos af none)::rest)::k) ⟨sl,hp⟩:=G.op1 h U ⟨s0,s1,ayS⟩ ⟨h0,ayS⟩ hk
theorem p30{t2:Nat}{u2:SV}(h:dJ C (Oo dst op ty pos af none) [(t0,u0),(t1,u1),(t2,u2)] [] [(dst,sv)] [])(s0:bG sl t0=some u0)(s1:bG sl t1=some u1)(s2:bG sl t2=some u2)(hk:G C Q0 (.l ops rest::k) ⟨(dst,sv)::sl,hp⟩):G C Q0 (.l ops ((Oo dst op ty pos af none)::rest)::k) ⟨sl,hp⟩:=G.op1 h U ⟨s0,s1,s2,ayS⟩ ayS hk
theorem g30{t2:Nat}{u2:SV}(h:dJ C (Oo dst op ty pos af (some (j,b))) [(t0,u0),(t1,u1),(t2,u2)] [] [(dst,sv)] [])(hj:(ops[j]?).bind (·.dst)=some tg)(ht:bG sl tg=some (.one (bB b)))(s0:bG sl t0=some u0)(s1:bG sl t1=some u1)(s2:bG sl t2=some u2)(hk:G C Q0 (.l ops rest::k) ⟨(dst,sv)::sl,hp⟩):G C Q0 (.l ops (Oo dst op ty pos af (some (j,b))::rest)::k) ⟨sl,hp⟩:=G.aif h U hj ht ⟨s0,s1,s2,ayS⟩ ayS hk
theorem q01(h:dJ C (Oo dst op ty pos af none) [] [(k0,e0)] [(dst,sv)] [(kk,e)])(h0:aE hp k0=e0)(hk:G C Q0 (.l ops rest::k) ⟨(dst,sv)::sl,(kk,e)::hp⟩):G C Q0 (.l ops ((Oo dst op ty pos af none)::rest)::k) ⟨sl,hp⟩:=G.op2 h U ayS ⟨h0,ayS⟩ hk
theorem q11(h:dJ C (Oo dst op ty pos af none) [(t0,u0)] [(k0,e0)] [(dst,sv)] [(kk,e)])(s0:bG sl t0=some u0)(h0:aE hp k0=e0)(hk:G C Q0 (.l ops rest::k) ⟨(dst,sv)::sl,(kk,e)::hp⟩):G C Q0 (.l ops ((Oo dst op ty pos af none)::rest)::k) ⟨sl,hp⟩:=G.op2 h U ⟨s0,ayS⟩ ⟨h0,ayS⟩ hk
theorem q21(h:dJ C (Oo dst op ty pos af none) [(t0,u0),(t1,u1)] [(k0,e0)] [(dst,sv)] [(kk,e)])(s0:bG sl t0=some u0)(s1:bG sl t1=some u1)(h0:aE hp k0=e0)(hk:G C Q0 (.l ops rest::k) ⟨(dst,sv)::sl,(kk,e)::hp⟩):G C Q0 (.l ops ((Oo dst op ty pos af none)::rest)::k) ⟨sl,hp⟩:=G.op2 h U ⟨s0,s1,ayS⟩ ⟨h0,ayS⟩ hk
theorem w21(h:dJ C (⟨none,op,ty,pos,af,none⟩) [(t0,u0),(t1,u1)] [(k0,e0)] [] [(kk,e)])(s0:bG sl t0=some u0)(s1:bG sl t1=some u1)(h0:aE hp k0=e0)(hk:G C Q0 (.l ops rest::k) ⟨sl,(kk,e)::hp⟩):G C Q0 (.l ops (⟨none,op,ty,pos,af,none⟩::rest)::k) ⟨sl,hp⟩:=G.op3 h U ⟨s0,s1,ayS⟩ ⟨h0,ayS⟩ hk
end
variable{xs:List α}{f:α->List DV}
section
theorem Jy{T E:Nat}(hT:P.underlying T=some (.slice E))(hx:Ev x (.g (.d (.sl size (xs.map f)))) R)(hd:Nat.blt dst nt=true):
  dJ C (Oo dst (TB x T) ty pos af gd) R [] [(dst,.one (bI .i64 (xs.length:Int)))] []:=dJ.cast (afh hT hx hd) (by rw[avN])
theorem WU{T E T' k:Nat}{ex:Bool}(hT:P.underlying T=some (.slice E))(hx:Ev x (.own k (xs.map f)) R)(hd:Nat.blt dst nt=true):
  dJ C (Oo dst (TB x T) ty pos af gd) R [(k,some (.row T' size (xs.map f) ex))] [(dst,.one (bI .i64 (xs.length:Int)))] []:=by
 have h:=afi (C:=C) (dst:=dst) (ty:=ty) (pos:=pos) (af:=af) (gd:=gd) (T':=T') (size:=size) (ex:=ex) hT hx hd;rwa [avN]at h
theorem afg{T':TypeId}{t u:ByteArray}(h:P9 s t=some u)(hx:Ev x (bS s) R1)(hy:Ev y (bS t) R2)(hd:Nat.blt dst nt=true):dJ C (Oo dst (.binOp .add T x y T') ty pos af gd) (R1++R2) [] [(dst,.one (bS u))] []:=
 dJ.cast (aii (W8 h).1 hx hy hd) (by rw[(W8 h).2])
theorem zH{a:α}{k:IntKind}{i:Int}(h:idx xs i=some a)(hT:P.underlying T=some (.slice E))(hI:Info P E zz size bytes)
  (hx:Ev x (.g<|.d<|.sl size<|xs.map f) R1) (hy:Ev y (bI k i) R2) (hd:Nat.blt dst nt=true):
  dJ C (Oo dst (.indexAddr T x y) ty pos af gd) (R1++R2) [] [(dst,.one (.ep<|f a))] []:=acr hT hI (Ff h).1 (rX h f) hx hy hd
theorem Sy{len cap:Nat}{kl kh:IntKind}{lo hi:Int}(h0:0<=lo)(h1:lo<=hi)(h2:hi<=len)(h3:len<=cap):
  (Instr.sliceBounds b len cap (some<|.int kl lo) (some<|.int kh hi) none).run P w= .ok (lo.toNat,hi.toNat,cap) w:=by
 have a1:0<=hi/\hi<=(cap:Int):=⟨ayT,ayT⟩;have a2:0<=lo/\lo<=((hi.toNat:Nat):Int):=⟨h0,ayT⟩;simp only[Instr.sliceBounds,Instr.sliceBound,asIntOf,avw,avF,avt,a1,a2,ayB,avM,Option.isSome_none,avn,avB]
theorem YU{T:Nat}{t:ByteArray}{ox oy:Operand}{kl kh:IntKind}{lo hi:Int}(hlo:Ev ox (bI kl lo) R2)(hhi:Ev oy (bI kh hi) R3)(h:Ib s lo hi=some t)(hT:P.underlying T=some .string)(hx:Ev x (bS s) R1)(hd:Nat.blt dst nt=true):
  dJ C (Oo dst (.slice T x (some ox) (some oy) none) ty pos af gd) (R1++(R2++R3)) [] [(dst,.one (bS t))] []:=
 bu hd U λsl hp β a w hs _ r=>by
  have hu:=BR.aX (hx.ok hs.app.1 r);have e1:=BR.aX (hlo.ok hs.app.2.app.1 r);have e2:=BR.aX (hhi.ok hs.app.2.app.2 r);obtain⟨h0,h1,h2,rfl⟩:=afB h;refine⟨_,?_,RD.v _ U⟩;simp only[execOp,hu,e1,e2,aw2,awq,Instr.sliceAt,avw,avm hT,avt,Instr.slice,Option.isSome_none,avn,avB,Sy h0 h1 h2 (avq _),avF]
def Da:List BV->Nat->List BV->List BV
 | cs,_,[]=>cs
 | [],_,_=>[]
 | _::cs,0,d::ds=>d::Da cs 0 ds
 | c::cs,n+1,d::ds=>c::Da cs n (d::ds)
theorem JE:∀(cs:List BV)(off:Nat)(l:List BV),off+l.length<=cs.length->splice cs off l=Da cs off l
 | cs,off,[],_=>by cases cs<;>simp[splice,Da]
 | [],off,d::ds,h=>ay4
 | c::cs,0,d::ds,h=>by
  have:=JE cs 0 ds azi;simp only[splice,Da,List.take_zero,avX,avS,avv,ayx]at this ⊢;rw[av4,this]
 | c::cs,n+1,d::ds,h=>by
  have:=JE cs n (d::ds) (by simp at h ⊢;omega);simp only[splice,Da,List.take_succ_cons,av4,avv,Nat.succ_add,ayx]at this ⊢;rw[<-this]
theorem Vu{S:TypeId}{k off T:Nat}{cs:List BV}{c:BV}(hc:c.sg)
  (hI:Info P S zz 1 bytes) (hoff:Nat.blt off cs.length=true) (hx:Ev x (.ptr k off) R1) (hy:Ev y c R2):
  dJ C ⟨none,.store S x y,ty,pos,af,gd⟩ (R1++R2) [(k,some (.blk T cs))] [] [(k,some (.blk T<|Da cs off [c]))]:=YV hc hI hoff (JE _ _ _ (by have:=hoff;simp at this ⊢;omega)) hx hy
theorem AP{S:TypeId}{k off T:Nat}{cs:List BV}{ds:List DV}
  (hI:Info P S zz ds.length bytes) (hoff:Nat.ble (off+ds.length) cs.length=true) (hx:Ev x (.ptr k off) R1) (hy:Ev y (.g<|.agg ds) R2):
  dJ C ⟨none,.store S x y,ty,pos,af,gd⟩ (R1++R2) [(k,some (.blk T cs))] [] [(k,some (.blk T<|Da cs off<|dat ds))]:=YW hI hoff (JE _ _ _<|by simpa using hoff) hx hy
end
section
end
def bx{α γ:Type}[DecidableEq α]:List (α×γ)->α->Option γ
 | [],_=>none
 | (a,b)::m,x=>if a=x then some b else bx m x
def cw{α γ:Type}[DecidableEq α]:List (α×γ)->α->γ->List (α×γ)
 | [],x,v=>[(x,v)]
 | (a,b)::m,x,v=>if a=x then(x,v)::m else(a,b)::cw m x v
def vO{α:Type}[DecidableEq α]:List α->List MapEntry->α->Nat->Option (Nat×Value)
 | k::ks,e::es,x,i=>if k=x then some (i,e.val)else vO ks es x (i+1)
 | _,_,_,_=>none
theorem Ar{α γ:Type}[DecidableEq α]:∀{m:List (α×γ)}{es:List MapEntry}{x:α}{i:Nat},bx m x=none->vO (m.map (·.1)) es x i=none
 | [],es,_,_,_=>by cases es<;>rfl
 | (a,b)::m,[],_,_,_=>rfl
 | (a,b)::m,e::es,x,i,h=>by
  rw[bx]at h;split at h
  ·cases h
  ·rename_i c
   show(if a=x then _ else _)=_;rw[avj c];exact Ar h
theorem E8{α γ:Type}[DecidableEq α]:∀{m:List (α×γ)}{es:List MapEntry}{x:α}{i:Nat}{v:γ},bx m x=some v->es.length=m.length->
  ∃j,m[j]? =some (x,v)/\(∃e,es[j]? =some e/\vO (m.map (·.1)) es x i=some (i+j,e.val))/\∀v',cw m x v'=m.set j (x,v')
 | [],_,_,_,_,h,_=>azm
 | (a,b)::m,[],_,_,_,_,hl=>by simp at hl
 | (a,b)::m,e::es,x,i,v,h,hl=>by
  rw[bx]at h;split at h
  ·rename_i c
   cases h;subst c;exact⟨0,U,⟨e,U,by show(if a=a then _ else _)=_;rw[avk U];rfl⟩,λv'=>by rw[cw,avk U];rfl⟩
  ·rename_i c
   obtain⟨j,h1,⟨e',h2,h3⟩,h4⟩:=E8 (i:=i+1) h azd;refine⟨j+1,ay7,⟨e',azG,?_⟩,λv'=>by rw[cw,avj c,h4];rfl⟩;show(if a=x then _ else _)=_;rw[avj c];show vO (m.map (·.1)) es x (i+1)=_;rw[h3];congr 2;omega
theorem uY{α γ:Type}[DecidableEq α]:∀{m:List (α×γ)}{x:α}{v:γ},bx m x=none->cw m x v=m++ [(x,v)]
 | [],_,_,_=>rfl
 | (a,b)::m,x,v,h=>by
  rw[bx]at h;split at h
  ·cases h
  ·rename_i c
   rw[cw,avj c,uY h];rfl
structure BK(P:Program)(kt:TypeId){α:Type}[DecidableEq α](enc:α->Value):Prop where
 ck:∀(em:Bool)(x:α)(w:World),(Instr.checkKey em 10000 kt<|enc x).run P w= .ok () w
 fd:∀(w:World)(x:α)(es:List MapEntry)(ks:List α),es.map (·.key)=ks.map enc->(Instr.findKey kt (enc x) es).run P w= .ok (vO ks es x 0) w
 sb:∀x:α,Instr.sameBits 10000 (enc x) (enc x)=true
theorem Iz:∀(x:Int)(es:List MapEntry)(ks:List Int)(i:Nat)(q:IntKind),es.map (·.key)=ks.map (Value.int .i64)->Instr.findNow (.int q) (.int .i64 x) es i=some (vO ks es x i)
 | x,[],ks,i,q,h=>by
  have:ks= []:=by simpa using h.symm
  subst this;rfl
 | x,e::es,[],i,q,h=>ay4
 | x,e::es,k::ks,i,q,h=>by
  simp only[avV,List.cons.injEq]at h;rw[Instr.findNow,h.1];simp only[Instr.sameNow,avM,vO];by_cases c:k=x
  ·subst c;simp
  ·have:(x==k)=false:=by simpa using λe=>c e.symm
   rw[this,avj c];exact Iz x es ks (i+1) q h.2
theorem BK.int{P:Program}{kt:TypeId}(h:P.underlying kt=some (.int .i64)):BK P kt (λn:Int=>Value.int .i64 n):=by
 refine⟨λem x w=>?_,λw x es ks he=>?_,λx=>?_⟩
 ·exact MapKept.run_checkKey (d:=.int .i64) (k:=.int .i64 x) h U em 9999
 ·simp[Instr.findKey,avm h,Iz x es ks 0 .i64 he]
 ·exact MapKept.sameBits_self (d:=.int .i64) (k:=.int .i64 x) U 10000
theorem Ew{P:Program}{kt:TypeId}{α:Type}[DecidableEq α]{enc:α->Value}(heq:∀(x y:α)(w:World),(Op.equal kt (enc x) (enc y)).run P w= .ok (decide (x=y)) w):
  ∀(w:World)(x:α)(es:List MapEntry)(ks:List α)(i:Nat),es.map (·.key)=ks.map enc->(Instr.findAsking kt (enc x) es i).run P w= .ok (vO ks es x i) w
 | w,x,[],ks,i,h=>by
  have:ks= []:=by simpa using h.symm
  subst this;rfl
 | w,x,e::es,[],i,h=>ay4
 | w,x,e::es,k::ks,i,h=>by
  simp only[avV,List.cons.injEq]at h;rw[Instr.findAsking,h.1];simp only[avw,heq,avt,vO];by_cases c:k=x
  ·subst c;simp
  ·have c':¬x=k:=λe=>c e.symm
   rw[avj c];simp only[c',ayi,avn,avB];exact Ew heq w x es ks (i+1) h.2
theorem BK.ag1{kt:TypeId}{d:TypeDesc}[DecidableEq α]{enc:α->Value}(hd:P.underlying kt=some d)(hck:∀(em:Bool)(x:α)(w:World),(Instr.checkKey em 10000 kt (enc x)).run P w= .ok () w)
  (heq:∀(x y:α)(w:World),(Op.equal kt (enc x)<|enc y).run P w= .ok (decide (x=y)) w) (hn:∀x y,Instr.sameNow d (enc x) (enc y)=none) (hsb:∀x,Instr.sameBits 10000 (enc x) (enc x)=true):BK P kt enc:=by
 refine⟨hck,λw x es ks he=>?_,hsb⟩;cases es with
 | nil=>
  have:ks= []:=by simpa using he.symm
  subst this;simp[Instr.findKey,avm hd,Instr.findNow,vO]
 | cons e es=>
  cases ks with
  | nil=>simp at he
  | cons k ks=>
   have h1:e.key=enc k:=by simp at he;exact he.1
   have:Instr.findNow d (enc x) (e::es) 0=none:=by rw[Instr.findNow,h1,hn]
   simp only[Instr.findKey,avw,avm hd,avt,this];exact Ew heq w x (e::es) (k::ks) 0 he
abbrev cm{α γ:Type}(enc:α->Value)(ag:γ->AG)(m:List (α×γ)):List (Value×AG):=m.map λe=>(enc e.1,ag e.2)
section
end
section
abbrev aj0(x y:Operand)(T1 T2:TypeId):Op:=.call { callee:=.builtin .max,args:=#[x,y],argTypes:=#[T1,T2] }
theorem aiq{T1 T2:TypeId}{kd:IntKind}{m n:Int}(hx:Ev x (bI kd m) R1)(hy:Ev y (bI kd n) R2)(hd:Nat.blt dst nt=true):dJ C (Oo dst (aj0 x y T1 T2) ty pos af gd) (R1++R2) [] [(dst,.one (bI kd (if n>m then n else m)))] []:=
 bu hd U λsl hp β a w hs _ r=>by
  have h1:=BR.aX (hx.ok hs.app.1 r);have h2:=BR.aX (hy.ok hs.app.2 r);exact⟨.int kd<|if n>m then n else m,by simp[execOp,resolve,invoke,builtin,Builtin.max_,Builtin.max2,h1,h2],RD.v _ U⟩
end
section
variable{u:Operand}{R4:List (Nat×SV)}
theorem PM{f k1 k2 k3 k4:Nat}(hx:Ev x (.ptr k1 0) R1)(hy:Ev y (.ptr k2 0) R2)(hz:Ev z (.ptr k3 0) R3)(hu4:Ev u (.ptr k4 0) R4)(hd:Nat.blt dst nt=true):
  dJ C (Oo dst (.makeFunc (.func f) #[] #[x,y,z,u]) ty pos af gd) (R1++(R2++(R3++R4))) [] [(dst,.one (.yh f [k1,k2,k3,k4]))] []:=
 bu hd U λsl hp β a w hs _ r=>by
  obtain⟨h1,b,hb,hu⟩:=hx.ok hs.app.1 r;obtain⟨ZX,b',hb',za⟩:=hy.ok hs.app.2.app.1 r;obtain⟨ahx,b'',ahE,ah2⟩:=hz.ok hs.app.2.app.2.app.1 r;obtain⟨akp,b₃,aky,akZ⟩:=hu4.ok hs.app.2.app.2.app.2 r;refine⟨.func (.func f) #[] #[a.eval x,a.eval y,a.eval z,a.eval u],azP,[a.eval x,a.eval y,a.eval z,a.eval u],U,U,λi k h=>?_⟩
  match i with
  | 0=>simp at h;subst h;exact⟨h1,b,hb,aAo⟩
  | 1=>simp at h;subst h;exact⟨ZX,b',hb',by simp[za]⟩
  | 2=>simp at h;subst h;exact⟨ahx,b'',ahE,by simp[ah2]⟩
  | 3=>simp at h;subst h;exact⟨akp,b₃,aky,by simp[akZ]⟩
  | i+4=>simp at h
end
end Go.Ab
namespace Go.Ark
open Go Go.Ab
structure au where
 From:ByteArray
 To:ByteArray
 deriving DecidableEq
abbrev az(x:au):List DV:=[.v (.string x.From),.v (.string x.To)]
structure aF where
 bP:(List au)
 cq:(List Int)
 aK:(List Int)
 deriving DecidableEq
abbrev ay(x:Int):List DV:=[.v (.int .i64 x)]
abbrev bf(x:aF):List DV:=[.sl 2 (List.map az x.bP),.sl 1 (List.map ay x.cq),.sl 1 (List.map ay x.aK)]
structure cA where
 Seq:Int
 Data:ByteArray
 deriving DecidableEq
abbrev dP(x:cA):List DV:=[.v (.int .i64 x.Seq),.v (.string x.Data)]
structure JJ where
 next:Int
 deriving DecidableEq
structure b9 where
 count:JJ
 open_:(List cA)
 deriving DecidableEq
structure cX where
 count:JJ
 deriving DecidableEq
structure ai where
 N:Int
 Site:Int
 deriving DecidableEq
abbrev aB(x:ai):List DV:=[.v (.int .i64 x.N),.v (.int .i64 x.Site)]
structure ah where
 Key:ByteArray
 aq:ai
 deriving DecidableEq
abbrev ak(x:ah):List DV:=[.v (.string x.Key),.v (.int .i64 x.aq.N),.v (.int .i64 x.aq.Site)]
structure aP where
 Site:Int
 bz:(List ah)
 deriving DecidableEq
abbrev cu(x:aP):List DV:=[.v (.int .i64 x.Site),.sl 3 (List.map ak x.bz)]
structure aa where
 Key:ByteArray
 Value:ByteArray
 Aj:Bool
 aq:ai
 bz:(List ah)
 deriving DecidableEq
abbrev aj(x:aa):List DV:=[.v (.string x.Key),.v (.string x.Value),.v (.bool x.Aj),.v (.int .i64 x.aq.N),.v (.int .i64 x.aq.Site),.sl 3 (List.map ak x.bz)]
structure aA where
 Err:Int
 Found:(List aa)
 deriving DecidableEq
abbrev aU(x:aA):List DV:=[.v (.int .i64 x.Err),.sl 6 (List.map aj x.Found)]
structure aH where
 ID:Int
 nR:(List ah)
 deriving DecidableEq
abbrev aS(x:aH):List DV:=[.v (.int .i64 x.ID),.sl 3 (List.map ak x.nR)]
structure bq where
 s:ByteArray
 at_:Int
 bad:Bool
 deriving DecidableEq
abbrev Cy(x:bq):List DV:=[.v (.string x.s),.v (.int .i64 x.at_),.v (.bool x.bad)]
structure aW where
 To:Int
 From:Int
 Range:au
 deriving DecidableEq
abbrev lz(x:aW):List DV:=[.v (.int .i64 x.To),.v (.int .i64 x.From),.v (.string x.Range.From),.v (.string x.Range.To)]
structure cg where
 Ends:(List Int)
 cq:(List Int)
 aK:(List Int)
 deriving DecidableEq
abbrev Ep(x:cg):List DV:=[.sl 1 (List.map ay x.Ends),.sl 1 (List.map ay x.cq),.sl 1 (List.map ay x.aK)]
structure lf where
 Ends:(List Int)
 cq:(List Int)
 aK:(List Int)
 deriving DecidableEq
abbrev Cw(x:lf):List DV:=[.sl 1 (List.map ay x.Ends),.sl 1 (List.map ay x.cq),.sl 1 (List.map ay x.aK)]
structure js where
 Kind:Int
 Client:Int
 Site:Int
 To:Int
 At:Int
 How:Int
 Key:Int
 Value:Int
 Keys:(List Int)
 Row:cg
 deriving DecidableEq
abbrev F3(x:js):List DV:=[.v (.int .i64 x.Kind),.v (.int .i64 x.Client),.v (.int .i64 x.Site),.v (.int .i64 x.To),.v (.int .i64 x.At),.v (.int .i64 x.How),.v (.int .i64 x.Key),.v (.int .i64 x.Value),.sl 1 (List.map ay x.Keys),.sl 1 (List.map ay x.Row.Ends),.sl 1 (List.map ay x.Row.cq),.sl 1 (List.map ay x.Row.aK)]
structure aI where
 Kind:Int
 Client:Int
 Site:Int
 To:Int
 At:Int
 How:Int
 Key:ByteArray
 Value:ByteArray
 Keys:(List ByteArray)
 Row:aF
 deriving DecidableEq
abbrev encS(x:ByteArray):List DV:=[.v (.string x)]
abbrev bQ(x:aI):List DV:=[.v (.int .i64 x.Kind),.v (.int .i64 x.Client),.v (.int .i64 x.Site),.v (.int .i64 x.To),.v (.int .i64 x.At),.v (.int .i64 x.How),.v (.string x.Key),.v (.string x.Value),.sl 1 (List.map encS x.Keys),.sl 2 (List.map az x.Row.bP),.sl 1 (List.map ay x.Row.cq),.sl 1 (List.map ay x.Row.aK)]
structure mH where
 Kind:Int
 Client:Int
 Site:Int
 To:Int
 At:Int
 How:Int
 Key:Int
 Value:Int
 Keys:(List Int)
 Row:lf
 deriving DecidableEq
abbrev vK(x:mH):List DV:=[.v (.int .i64 x.Kind),.v (.int .i64 x.Client),.v (.int .i64 x.Site),.v (.int .i64 x.To),.v (.int .i64 x.At),.v (.int .i64 x.How),.v (.int .i64 x.Key),.v (.int .i64 x.Value),.sl 1 (List.map ay x.Keys),.sl 1 (List.map ay x.Row.Ends),.sl 1 (List.map ay x.Row.cq),.sl 1 (List.map ay x.Row.aK)]
structure cZ where
 Kind:Int
 Client:Int
 Key:ByteArray
 aq:ai
 Seen:(List ah)
 deriving DecidableEq
abbrev iJ(x:cZ):List DV:=[.v (.int .i64 x.Kind),.v (.int .i64 x.Client),.v (.string x.Key),.v (.int .i64 x.aq.N),.v (.int .i64 x.aq.Site),.sl 3 (List.map ak x.Seen)]
abbrev ake(x:Bool):List DV:=[.v (.bool x)]
abbrev Q5(x:Int):List DV:=[.v (.int .u64 x)]
abbrev dw(x:(List ah)):List DV:=[.sl 3 (List.map ak x)]
def LV(x:lf):Prop:=(x.Ends.length<=reachBytes/\∀y,y∈x.Ends->(Lit.int .i64 y).wf=true)/\(x.cq.length<=reachBytes/\∀y,y∈x.cq->(Lit.int .i64 y).wf=true)/\(x.aK.length<=reachBytes/\∀y,y∈x.aK->(Lit.int .i64 y).wf=true)
def ZN(x:mH):Prop:=((Lit.int .i64 x.Kind).wf=true)/\((Lit.int .i64 x.Client).wf=true)/\((Lit.int .i64 x.Site).wf=true)/\((Lit.int .i64 x.To).wf=true)/\((Lit.int .i64 x.At).wf=true)/\((Lit.int .i64 x.How).wf=true)/\((Lit.int .i64 x.Key).wf=true)/\((Lit.int .i64 x.Value).wf=true)/\(x.Keys.length<=reachBytes/\∀y,y∈x.Keys->(Lit.int .i64 y).wf=true)/\(LV x.Row)
def Ef(_y1:Unit):Option Int:=
 some (-1)
def um(aL:(List Int))(v_1:Int)(aT:Int->Option Int)(v3:Int):Option Int:=
 if decide (v3<(aL.length:Int))then
  (idx aL v3).bind λx8=>
  if decide (v_1=x8)then
   some v3
  else
   aT (IntKind.wrap .i64<|v3+1)
 else
  Ef ()
def rF(aL:(List Int))(v_1:Int):Option Int:=
 aR (um aL v_1) FU 0
def di(aL:(List au)):Option (List au):=
 (app 32 ([]:List au) aL).bind λl2=>
 some l2
def fC(aL:(List Int)):Option (List Int):=
 (app 8 ([]:List Int) aL).bind λl2=>
 some l2
def iC(_y1:Unit):Option Int:=
 some (-1)
def mW(aL:(List au))(jH:(au->Option Bool))(aT:Int->Option Int)(v3:Int):Option Int:=
 if decide (v3<(aL.length:Int))then
  (idx aL v3).bind λx8=>
  (jH x8).bind λr9=>
  if r9 then
   some v3
  else
   aT (IntKind.wrap .i64<|v3+1)
 else
  iC ()
def dV(aL:(List au))(jH:(au->Option Bool)):Option Int:=
 aR (mW aL jH) FU 0
def jD(_y1:Unit):Option Int:=
 some (-1)
def jE(aL:(List Int))(jH:(Int->Option Bool))(aT:Int->Option Int)(v3:Int):Option Int:=
 if decide (v3<(aL.length:Int))then
  (idx aL v3).bind λx8=>
  (jH x8).bind λr9=>
  if r9 then
   some v3
  else
   aT (IntKind.wrap .i64<|v3+1)
 else
  jD ()
def cM(aL:(List Int))(jH:(Int->Option Bool)):Option Int:=
 aR (jE aL jH) FU 0
def bX(aL:(List Int))(jH:(Int->Option Bool)):Option Bool:=
 (cM aL jH).bind λr1=>
 some (decide (0<=r1))
def jh(y3:Int×(List Int)):Option (List Int):=
 (m9 y3.2 y3.1 0).bind λl4=>
 (sub l4 0 y3.1).bind λl5=>
 some l5
def nJ(dr:(Int->Option Bool))(qI:Int×Int×(List Int)->Option (List Int))(v7:Int×Int×(List Int)):Option (List Int):=
 if decide (v7.2.1<(v7.2.2.length:Int))then
  (idx v7.2.2 v7.2.1).bind λI0=>
  (dr I0).bind λMw=>
  if !Mw then
   (idx v7.2.2 v7.1).bind λamS=>
   (sets v7.2.2 v7.1 I0).bind λl16=>
   qI (IntKind.wrap .i64<|v7.1+1,IntKind.wrap .i64 (v7.2.1+1),l16)
  else
   qI (v7.1,IntKind.wrap .i64 (v7.2.1+1),v7.2.2)
 else
  jh (v7.1,v7.2.2)
def er(aL:(List Int))(dr:(Int->Option Bool)):Option (List Int):=
 (cM aL dr).bind λr1=>
 if decide (r1=(-1))then
  some aL
 else
  aR (nJ dr) FU (r1,IntKind.wrap .i64 (r1+1),aL)
def dZ(aL:(List cA)):Option (List cA):=
 (app 24 ([]:List cA) aL).bind λl2=>
 some l2
def cE(aL:(List ah)):Option (List ah):=
 (app 32 ([]:List ah) aL).bind λl2=>
 some l2
def gA(_y1:Unit):Option Int:=
 some (-1)
def kX(aL:(List aa))(jH:(aa->Option Bool))(aT:Int->Option Int)(v3:Int):Option Int:=
 if decide (v3<(aL.length:Int))then
  (idx aL v3).bind λx8=>
  (jH x8).bind λr9=>
  if r9 then
   some v3
  else
   aT (IntKind.wrap .i64<|v3+1)
 else
  gA ()
def bR(aL:(List aa))(jH:(aa->Option Bool)):Option Int:=
 aR (kX aL jH) FU 0
def cn(aL:(List aa)):Option (List aa):=
 (app 80 ([]:List aa) aL).bind λl2=>
 some l2
def e8(aL:List aa)(i_1:Int)(v_2:List aa):Option (List aa):=Ph 80 aL i_1 v_2
def jc(s:ByteArray)(c:Int):Option ByteArray:=if 0<=c/\c<256/\s.size+1<=140737488355328 then some (s++ByteArray.mk #[UInt8.ofNat c.toNat])else none
def qM(s:ByteArray):Option ByteArray:=some s
def dO(s t:ByteArray):Option ByteArray:=if s.size+t.size<=140737488355328 then some (s++t)else none
def BP(y10:ByteArray):Option ByteArray:=
 (qM y10).bind λr11=>
 some r11
def kf(wN:ByteArray)(l9:(List ByteArray))(Oi:Int×ByteArray->Option ByteArray)(Xj:Int×ByteArray):Option ByteArray:=
 if decide (Xj.1<(l9.length:Int))then
  (idx l9 Xj.1).bind λx18=>
  (dO Xj.2 wN).bind λr19=>
  (dO r19 x18).bind λr20=>
  Oi (IntKind.wrap .i64<|Xj.1+1,r20)
 else
  BP Xj.2
def tU(fQ:(List ByteArray))(wN:ByteArray)(y5:Int):Option ByteArray:=
 nL (decide (0<=y5/\y5<=140737488355328)) (
 (idx fQ 0).bind λx7=>
 (dO ByteArray.empty x7).bind λr8=>
 (sub fQ 1 (fQ.length:Int)).bind λl9=>
 aR (kf wN l9) FU (0,r8))
def BQ(Oj:Int×Int->Option ByteArray)(v22:Int×Int)(x27:ByteArray)(arc:Unit):Option ByteArray:=
 Oj (IntKind.wrap .i64<|v22.1+(x27.size:Int),IntKind.wrap .i64 (v22.2+1))
def ki(fQ:(List ByteArray))(wN:ByteArray)(Oj:Int×Int->Option ByteArray)(v22:Int×Int):Option ByteArray:=
 if decide (v22.2<(fQ.length:Int))then
  (idx fQ v22.2).bind λx27=>
  if decide ((IntKind.wrap .i64<|9223372036854775807-v22.1)<(x27.size:Int))then
   none
  else
   BQ Oj v22 x27 ()
 else
  tU fQ wN v22.1
def tT(fQ:(List ByteArray))(wN:ByteArray)(y4:Int):Option ByteArray:=
 aR (ki fQ wN) FU (y4,0)
def Jg(fQ:(List ByteArray))(wN:ByteArray)(ard:Unit):Option ByteArray:=
 tT fQ wN (IntKind.wrap .i64<|0+(IntKind.wrap .i64<|(wN.size:Int)*(IntKind.wrap .i64 ((fQ.length:Int)-1))))
def qu(fQ:(List ByteArray))(wN:ByteArray):Option ByteArray:=
 if decide ((fQ.length:Int)=0)then
  some ByteArray.empty
 else
  if decide ((fQ.length:Int)=1)then
   (idx fQ 0).bind λx3=>
   some x3
  else
   if decide (0<(wN.size:Int))then
    nL (!decide ((IntKind.wrap .i64 ((fQ.length:Int)-1))=0)) (
    if decide ((IntKind.wrap .i64<|Int.tdiv 9223372036854775807<|IntKind.wrap .i64 ((fQ.length:Int)-1))<=(wN.size:Int))then
     none
    else
     Jg fQ wN ())
   else
    tT fQ wN 0
def cmp_isNaN_string(o9:ByteArray):Option Bool:=
 some (!seq o9 o9)
def gP(o9:ByteArray)(Xm:ByteArray):Option Int:=
 (cmp_isNaN_string o9).bind λr1=>
 (cmp_isNaN_string Xm).bind λr2=>
 if r1 then
  if r2 then
   some 0
  else
   some (-1)
 else
  if r2 then
   some 1
  else
   if slt o9 Xm then
    some (-1)
   else
    if !(slt o9 Xm||seq o9 Xm)then
     some 1
    else
     some 0
def dy(o9:(List ah))(dI:ByteArray)(kM:(ah->ByteArray->Option Int))(y1:Int):Option (Int×Bool):=
 if decide (y1<(o9.length:Int))then
  (idx o9 y1).bind λx3=>
  (kM x3 dI).bind λr4=>
  some (y1,decide (r4=0))
 else
  some (y1,false)
def iw(o9:(List ah))(dI:ByteArray)(kM:(ah->ByteArray->Option Int))(xU:Int×Int->Option (Int×Bool))(v6:Int×Int):Option (Int×Bool):=
 if decide (v6.1<v6.2)then
  (idx o9<|IntKind.wrap .i64<|Int.fdiv (IntKind.wrap .u64<|IntKind.wrap .i64<|v6.1+v6.2)<|2 ^ min (Int.toNat 1) (IntKind.bits .u64)).bind λLY=>
  (kM LY dI).bind λWX=>
  if decide (WX<0)then
   xU (IntKind.wrap .i64 ((IntKind.wrap .i64<|Int.fdiv (IntKind.wrap .u64<|IntKind.wrap .i64<|v6.1+v6.2)<|2 ^ min (Int.toNat 1) (IntKind.bits .u64))+1),v6.2)
  else
   xU (v6.1,IntKind.wrap .i64 (Int.fdiv (IntKind.wrap .u64<|IntKind.wrap .i64<|v6.1+v6.2)<|2 ^ min (Int.toNat 1) (IntKind.bits .u64)))
 else
  dy o9 dI kM v6.1
def ct(o9:(List ah))(dI:ByteArray)(kM:(ah->ByteArray->Option Int)):Option (Int×Bool):=
 aR (iw o9 dI kM) FU (0,(o9.length:Int))
def kY(aL:List ah)(i_1:Int)(v_2:List ah):Option (List ah):=Ph 32 aL i_1 v_2
def slices_Sort_string(o9:(List ByteArray)):Option (List ByteArray):=
 SK o9
def jC(_y1:Unit):Option Int:=
 some (-1)
def oZ(aL:(List ah))(jH:(ah->Option Bool))(aT:Int->Option Int)(v3:Int):Option Int:=
 if decide (v3<(aL.length:Int))then
  (idx aL v3).bind λx8=>
  (jH x8).bind λr9=>
  if r9 then
   some v3
  else
   aT (IntKind.wrap .i64<|v3+1)
 else
  jC ()
def cY(aL:(List ah))(jH:(ah->Option Bool)):Option Int:=
 aR (oZ aL jH) FU 0
def jg(y3:Int×(List ah)):Option (List ah):=
 (m9 y3.2 y3.1<|ah.mk ByteArray.empty<|ai.mk 0 0).bind λl4=>
 (sub l4 0 y3.1).bind λl5=>
 some l5
def nI(dr:(ah->Option Bool))(qI:Int×Int×(List ah)->Option (List ah))(v7:Int×Int×(List ah)):Option (List ah):=
 if decide (v7.2.1<(v7.2.2.length:Int))then
  (idx v7.2.2 v7.2.1).bind λI0=>
  (dr I0).bind λMw=>
  if !Mw then
   (sets v7.2.2 v7.1 I0).bind λl15=>
   qI (IntKind.wrap .i64<|v7.1+1,IntKind.wrap .i64 (v7.2.1+1),l15)
  else
   qI (v7.1,IntKind.wrap .i64 (v7.2.1+1),v7.2.2)
 else
  jg (v7.1,v7.2.2)
def dB(aL:(List ah))(dr:(ah->Option Bool)):Option (List ah):=
 (cY aL dr).bind λr1=>
 if decide (r1=(-1))then
  some aL
 else
  aR (nI dr) FU (r1,IntKind.wrap .i64 (r1+1),aL)
def eF(aL:(List ah))(jH:(ah->Option Bool)):Option Bool:=
 (cY aL jH).bind λr1=>
 some (decide (0<=r1))
def ie(_y1:Unit):Option Int:=
 some (-1)
def mz(aL:(List ByteArray))(jH:(ByteArray->Option Bool))(aT:Int->Option Int)(v3:Int):Option Int:=
 if decide (v3<(aL.length:Int))then
  (idx aL v3).bind λx8=>
  (jH x8).bind λr9=>
  if r9 then
   some v3
  else
   aT (IntKind.wrap .i64<|v3+1)
 else
  ie ()
def dK(aL:(List ByteArray))(jH:(ByteArray->Option Bool)):Option Int:=
 aR (mz aL jH) FU 0
def dN(aL:(List ByteArray))(jH:(ByteArray->Option Bool)):Option Bool:=
 (dK aL jH).bind λr1=>
 some (decide (0<=r1))
def slices_Compact_string(aL:(List ByteArray)):Option (List ByteArray):=
 some (sJ aL)
def dA(aL:(List ByteArray)):Option (List ByteArray):=
 (app 16 ([]:List ByteArray) aL).bind λl2=>
 some l2
def cmp_isNaN_int(o9:Int):Option Bool:=
 some (!decide (o9=o9))
def j6(o9:Int)(Xm:Int):Option Int:=
 (cmp_isNaN_int o9).bind λr1=>
 (cmp_isNaN_int Xm).bind λr2=>
 if r1 then
  if r2 then
   some 0
  else
   some (-1)
 else
  if r2 then
   some 1
  else
   if decide (o9<Xm)then
    some (-1)
   else
    if decide (Xm<o9)then
     some 1
    else
     some 0
def dU(o9:(List aH))(dI:Int)(kM:(aH->Int->Option Int))(y1:Int):Option (Int×Bool):=
 if decide (y1<(o9.length:Int))then
  (idx o9 y1).bind λx3=>
  (kM x3 dI).bind λr4=>
  some (y1,decide (r4=0))
 else
  some (y1,false)
def jz(o9:(List aH))(dI:Int)(kM:(aH->Int->Option Int))(xU:Int×Int->Option (Int×Bool))(v6:Int×Int):Option (Int×Bool):=
 if decide (v6.1<v6.2)then
  (idx o9<|IntKind.wrap .i64<|Int.fdiv (IntKind.wrap .u64<|IntKind.wrap .i64<|v6.1+v6.2)<|2 ^ min (Int.toNat 1) (IntKind.bits .u64)).bind λLY=>
  (kM LY dI).bind λWX=>
  if decide (WX<0)then
   xU (IntKind.wrap .i64 ((IntKind.wrap .i64<|Int.fdiv (IntKind.wrap .u64<|IntKind.wrap .i64<|v6.1+v6.2)<|2 ^ min (Int.toNat 1) (IntKind.bits .u64))+1),v6.2)
  else
   xU (v6.1,IntKind.wrap .i64 (Int.fdiv (IntKind.wrap .u64<|IntKind.wrap .i64<|v6.1+v6.2)<|2 ^ min (Int.toNat 1) (IntKind.bits .u64)))
 else
  dU o9 dI kM v6.1
def cO(o9:(List aH))(dI:Int)(kM:(aH->Int->Option Int)):Option (Int×Bool):=
 aR (jz o9 dI kM) FU (0,(o9.length:Int))
def fB(aL:(List aH)):Option (List aH):=
 (app 32 ([]:List aH) aL).bind λl2=>
 some l2
def iX(aL:List aH)(i_1:Int)(v_2:List aH):Option (List aH):=Ph 32 aL i_1 v_2
def iW(aL:List aH)(i_1:Int)(j_2:Int):Option (List aH):=aed aL i_1 j_2
def gz(y3:Int×(List ByteArray)):Option (List ByteArray):=
 (m9 y3.2 y3.1 ByteArray.empty).bind λl4=>
 (sub l4 0 y3.1).bind λl5=>
 some l5
def kW(dr:(ByteArray->Option Bool))(qI:Int×Int×(List ByteArray)->Option (List ByteArray))(v7:Int×Int×(List ByteArray)):Option (List ByteArray):=
 if decide (v7.2.1<(v7.2.2.length:Int))then
  (idx v7.2.2 v7.2.1).bind λI0=>
  (dr I0).bind λMw=>
  if !Mw then
   (idx v7.2.2 v7.1).bind λamS=>
   (sets v7.2.2 v7.1 I0).bind λl16=>
   qI (IntKind.wrap .i64<|v7.1+1,IntKind.wrap .i64 (v7.2.1+1),l16)
  else
   qI (v7.1,IntKind.wrap .i64 (v7.2.1+1),v7.2.2)
 else
  gz (v7.1,v7.2.2)
def cN(aL:(List ByteArray))(dr:(ByteArray->Option Bool)):Option (List ByteArray):=
 (dK aL dr).bind λr1=>
 if decide (r1=(-1))then
  some aL
 else
  aR (kW dr) FU (r1,IntKind.wrap .i64 (r1+1),aL)
def dH(aL:(List aa))(jH:(aa->Option Bool)):Option Bool:=
 (bR aL jH).bind λr1=>
 some (decide (0<=r1))
def uk(_y2:Unit):Option Bool:=
 some true
def m6(Lu:(List ah))(P7:(List ah))(dR:Int->Option Bool)(v4:Int):Option Bool:=
 if decide (v4<(Lu.length:Int))then
  (idx Lu v4).bind λx9=>
  (idx P7 v4).bind λFL=>
  if !(decide (x9.Key=FL.Key)&&decide (x9.aq.N=FL.aq.N)&&decide (x9.aq.Site=FL.aq.Site))then
   some false
  else
   dR (IntKind.wrap .i64<|v4+1)
 else
  uk ()
def jA(Lu:(List ah))(P7:(List ah)):Option Bool:=
 if !decide ((Lu.length:Int)=(P7.length:Int))then
  some false
 else
  aR (m6 Lu P7) FU 0
def B4(_y1:Unit):Option Int:=
 some (-1)
def ij(aL:(List ai))(v_1:ai)(aT:Int->Option Int)(v3:Int):Option Int:=
 if decide (v3<(aL.length:Int))then
  (idx aL v3).bind λx8=>
  if(decide (v_1.N=x8.N)&&decide (v_1.Site=x8.Site))then
   some v3
  else
   aT (IntKind.wrap .i64<|v3+1)
 else
  B4 ()
def jW(aL:(List ai))(v_1:ai):Option Int:=
 aR (ij aL v_1) FU 0
def e7(aL:(List ai))(v_1:ai):Option Bool:=
 (jW aL v_1).bind λr1=>
 some (decide (0<=r1))
def fY(y3:Int×(List aa)):Option (List aa):=
 (m9 y3.2 y3.1<|aa.mk ByteArray.empty ByteArray.empty false (ai.mk 0 0) ([]:(List ah))).bind λl4=>
 (sub l4 0 y3.1).bind λl5=>
 some l5
def ke(dr:(aa->Option Bool))(qI:Int×Int×(List aa)->Option (List aa))(v7:Int×Int×(List aa)):Option (List aa):=
 if decide (v7.2.1<(v7.2.2.length:Int))then
  (idx v7.2.2 v7.2.1).bind λI0=>
  (dr I0).bind λMw=>
  if !Mw then
   (sets v7.2.2 v7.1 I0).bind λl15=>
   qI (IntKind.wrap .i64<|v7.1+1,IntKind.wrap .i64 (v7.2.1+1),l15)
  else
   qI (v7.1,IntKind.wrap .i64 (v7.2.1+1),v7.2.2)
 else
  fY (v7.1,v7.2.2)
def cD(aL:(List aa))(dr:(aa->Option Bool)):Option (List aa):=
 (bR aL dr).bind λr1=>
 if decide (r1=(-1))then
  some aL
 else
  aR (ke dr) FU (r1,IntKind.wrap .i64 (r1+1),aL)
def m5(SF:(List (List au))):Option (List au):=
 nL (decide (SF.flatten.length<=1048576)) (some SF.flatten)
def fA(aL:(List cZ)):Option (List cZ):=
 (app 72 ([]:List cZ) aL).bind λl2=>
 some l2
def Mh(y1:Int):Option Int:=
 some y1
def nu(aL:ByteArray)(aT:Int×Nat->Option Int)(v3:Int×Nat)(y8:Bool×Nat):Option Int:=
 if y8.1 then
  some (-1)
 else
  if decide (((Utf8.decode aL v3.2).1:Int)=65533)then
   if decide ((IntKind.wrap .i64 ((aL.size:Int)-(v3.2:Int)))<3)then
    some (-1)
   else
    (Ib aL (v3.2:Int)<|IntKind.wrap .i64 ((v3.2:Int)+3)).bind λs12=>
    if !seq s12 (ByteArray.mk #[239,191,189])then
     some (-1)
    else
     aT (IntKind.wrap .i64<|v3.1+1,y8.2)
  else
   aT (IntKind.wrap .i64<|v3.1+1,y8.2)
def yx(aL:ByteArray)(aT:Int×Nat->Option Int)(v3:Int×Nat):Option Int:=
 if decide (v3.2<aL.size)then
  if decide (((Utf8.decode aL v3.2).1:Int)=65533)then
   (tu aL (v3.2:Int)).bind λb16=>
   (tu (ByteArray.mk #[239,191,189]) 0).bind λb17=>
   nu aL aT v3 (!decide ((b16.toNat:Int)=(b17.toNat:Int)),v3.2+(Utf8.decode aL v3.2).2)
  else
   nu aL aT v3 (false,v3.2+(Utf8.decode aL v3.2).2)
 else
  Mh v3.1
def vY(aL:ByteArray):Option Int:=
 aR (yx aL) FU (0,0)
def rZ(y3:Bool):Option Bool:=
 some y3
def si(aL:ByteArray)(kH:Bool×Nat->Option Bool)(v5:Bool×Nat):Option Bool:=
 if decide (v5.2<aL.size)then
  if !v5.1 then
   rZ v5.1
  else
   kH (decide (33<=((Utf8.decode aL v5.2).1:Int)),v5.2+(Utf8.decode aL v5.2).2)
 else
  rZ v5.1
def nr(aL:ByteArray)(y2:Bool):Option Bool:=
 aR (si aL) FU (y2,0)
def lK(aL:ByteArray):Option Bool:=
 (vY aL).bind λr1=>
 if decide (1<=r1)then
  nr aL (decide (r1<=8))
 else
  nr aL false
def oJ(aL:ByteArray):Option Bool:=
 if seq aL ByteArray.empty then
  some true
 else
  (lK aL).bind λr2=>
  some r2
def uA(zf:au)(y2:Bool):Option Bool:=
 if y2 then
  if seq zf.To ByteArray.empty then
   some true
  else
   some (slt zf.From zf.To)
 else
  some false
def qU(zf:au):Option Bool:=
 (oJ zf.From).bind λr1=>
 if r1 then
  (oJ zf.To).bind λr7=>
  uA zf r7
 else
  uA zf false
def Ez(bC:(List au))(y1:ByteArray):Option Bool:=
 if decide (0<(bC.length:Int))then
  some (seq y1 ByteArray.empty)
 else
  some false
def nw(dR:ByteArray×Int->Option Bool)(v4:ByteArray×Int)(x9:au)(y10:Bool):Option Bool:=
 if y10 then
  some false
 else
  dR (x9.To,IntKind.wrap .i64 (v4.2+1))
def sj(dR:ByteArray×Int->Option Bool)(v4:ByteArray×Int)(x9:au)(y14:Bool):Option Bool:=
 if y14 then
  nw dR v4 x9 true
 else
  if decide (0<v4.2)then
   nw dR v4 x9 (seq v4.1 ByteArray.empty)
  else
   nw dR v4 x9 false
def yy(bC:(List au))(dR:ByteArray×Int->Option Bool)(v4:ByteArray×Int):Option Bool:=
 if decide (v4.2<(bC.length:Int))then
  (idx bC v4.2).bind λx9=>
  (qU x9).bind λMw=>
  if !Mw then
   sj dR v4 x9 true
  else
   sj dR v4 x9 (!seq x9.From v4.1)
 else
  Ez bC v4.1
def vZ(bC:(List au)):Option Bool:=
 aR (yy bC) FU (ByteArray.empty,0)
def zF(zf:au)(cy:ByteArray):Option Bool:=
 if !slt cy zf.From then
  if seq zf.To ByteArray.empty then
   some true
  else
   some (slt cy zf.To)
 else
  some false
def sQ(zf:au)(c0:ByteArray):Option Bool:=
 (zF zf c0).bind λr1=>
 some r1
def fT(bC:(List au))(cy:ByteArray):Option Int:=
 (dV bC λx0=>sQ x0 cy).bind λr1=>
 some r1
def nk(aL:ByteArray):Option Bool:=
 some (seq aL ByteArray.empty)
def CK(y1:(List ByteArray)):Option (List ByteArray):=
 (cN y1 λx0=>nk x0).bind λr2=>
 (slices_Sort_string r2).bind λaq7=>
 (slices_Compact_string<|cQ r2).bind λr4=>
 some r4
def vX(bC:(List au))(xU:Int×(List ByteArray)->Option (List ByteArray))(v6:Int×(List ByteArray)):Option (List ByteArray):=
 if decide (v6.1<(bC.length:Int))then
  (idx bC v6.1).bind λLY=>
  (app 16 v6.2<|[LY.From,LY.To]).bind λl12=>
  xU (IntKind.wrap .i64<|v6.1+1,l12)
 else
  CK v6.2
def oI(bC:(List au)):Option (List ByteArray):=
 aR (vX bC) FU (0,([]:(List ByteArray)))
def ja(gM:aF):Option Int:=
 some (gM.aK.length:Int)
def LL(_y4:Unit):Option Bool:=
 some true
def xd(gM:aF)(r1:Int)(xU:Int->Option Bool)(v6:Int):Option Bool:=
 if decide (v6<(gM.cq.length:Int))then
  (idx gM.cq v6).bind λLY=>
  if decide (LY<1)then
   some false
  else
   nL (decide (0<=r1)) (
   if !decide ((Int.fdiv LY<|2 ^ min (Int.toNat r1) (IntKind.bits .i64))=0)then
    some false
   else
    xU (IntKind.wrap .i64 (v6+1)))
 else
  LL ()
def w6(gM:aF)(r1:Int)(y2:Bool):Option Bool:=
 if y2 then
  some false
 else
  aR (xd gM r1) FU 0
def xb(gM:aF)(r1:Int)(y18:Bool):Option Bool:=
 if y18 then
  w6 gM r1 true
 else
  (vZ gM.bP).bind λr20=>
  w6 gM r1 (!r20)
def w9(gM:aF)(r1:Int)(y17:Bool):Option Bool:=
 if y17 then
  xb gM r1 true
 else
  xb gM r1 (!decide ((gM.cq.length:Int)=(gM.bP.length:Int)))
def w8(gM:aF)(r1:Int)(y16:Bool):Option Bool:=
 if y16 then
  w9 gM r1 true
 else
  w9 gM r1 (decide (8<(gM.bP.length:Int)))
def mB(gM:aF):Option Bool:=
 (ja gM).bind λr1=>
 if decide (r1<1)then
  w8 gM r1 true
 else
  w8 gM r1 (decide (6<r1))
def G0(Fh:Int)(cL:Int)(y1:Bool):Option Bool:=
 if y1 then
  nL (decide (0<=cL)) (
  some (decide ((IntKind.wrap .i64 (BitVec.ofInt (IntKind.bits .i64) (Int.fdiv Fh (2 ^ min (Int.toNat cL) (IntKind.bits .i64)))&&& BitVec.ofInt (IntKind.bits .i64) 1).toNat)=1)))
 else
  some false
def rL(Fh:Int)(cL:Int):Option Bool:=
 if decide (0<=cL)then
  G0 Fh cL (decide (cL<6))
 else
  G0 Fh cL false
def Jh(y3:(List au)):Option (List au):=
 some y3
def tW(gM:aF)(cL:Int)(kH:Int×(List au)->Option (List au))(v5:Int×(List au)):Option (List au):=
 if decide (v5.1<(gM.bP.length:Int))then
  (idx gM.bP v5.1).bind λFL=>
  (idx gM.cq v5.1).bind λLY=>
  (rL LY cL).bind λWX=>
  if !WX then
   kH (IntKind.wrap .i64<|v5.1+1,v5.2)
  else
   (app 32 v5.2<|[FL]).bind λl14=>
   kH (IntKind.wrap .i64<|v5.1+1,l14)
 else
  Jh v5.2
def iZ(gM:aF)(cL:Int):Option (List au):=
 (mB gM).bind λr1=>
 if !r1 then
  some ([]:(List au))
 else
  aR (tW gM cL) FU (0,([]:(List au)))
def jY(gM:aF)(cy:ByteArray):Option Int:=
 (mB gM).bind λr1=>
 if !r1 then
  some 0
 else
  (fT gM.bP cy).bind λr3=>
  if decide (r3<0)then
   some 0
  else
   (idx gM.cq r3).bind λx5=>
   some x5
def LM(_y2:Unit):Option Int:=
 some (-1)
def xg(r1:Int)(dR:Int->Option Int)(v4:Int):Option Int:=
 if decide (v4<6)then
  (rL r1 v4).bind λr9=>
  if r9 then
   some v4
  else
   dR (IntKind.wrap .i64<|v4+1)
 else
  LM ()
def iY(gM:aF)(cy:ByteArray):Option Int:=
 (jY gM cy).bind λr1=>
 aR (xg r1) FU 0
def rK(gM:aF)(cL:Int)(WI:ByteArray):Option Bool:=
 (jY gM WI).bind λr1=>
 (rL r1 cL).bind λr2=>
 some r2
def V5(inn:Int->List Bool×List Int->Option (Unit×(List Bool×List Int)))(p:List Int)(a:Int)(again:Int×(List Bool×List Int)->Option (Unit×(List Bool×List Int)))(v:Int×(List Bool×List Int)):Option (Unit×(List Bool×List Int)):=
 if decide (v.1<(p.length:Int))then(idx p v.1).bind λq=>if decide (q=a)then
   nL (decide (0<=v.1)&&decide (v.1<(p.length:Int)))<|(idx v.2.1 v.1).bind λs=>if !s then(inn v.1 v.2).bind λu=>again (IntKind.wrap .i64<|v.1+1,u.2)else again (IntKind.wrap .i64<|v.1+1,v.2)
  else again (IntKind.wrap .i64<|v.1+1,v.2)
 else some ((),v.2)
def sG:Nat->List Int->Int->List Bool×List Int->Option (Unit×(List Bool×List Int))
 | 0,_,_,_=>none
 | n+1,p,a,s=>nL (decide (0<=a)&&decide (a<(p.length:Int)))<|nL (decide (a.toNat<s.1.length))<|(app 8 s.2 [a]).bind λout=>aR (V5 (sG n p) p a) FU (0,s.1.set a.toNat true,out)
def Qp(p:List Int)(a:Int):Option (List Int):=(sG 8 p a (List.replicate p.length false,[])).bind λu=>some u.2.2
def Bq(p:List Int)(a:Int):Option (List Int):=nL (decide (0<=(p.length:Int))&&decide ((p.length:Int)<=1048576))<|Qp p a
def MP(dS:(List Int))(y3:Int):Option Bool:=
 if decide (y3=1)then
  (rF dS (-1)).bind λr5=>
  (Bq dS r5).bind λr6=>
  some (decide ((r6.length:Int)=(dS.length:Int)))
 else
  some false
def EU(nK:Int×Int->Option Bool)(v8:Int×Int)(Z4:Int)(y14:Bool):Option Bool:=
 if y14 then
  some false
 else
  if decide (Z4=(-1))then
   nK (IntKind.wrap .i64<|v8.1+1,IntKind.wrap .i64 (v8.2+1))
  else
   nK (v8.1,IntKind.wrap .i64 (v8.2+1))
def EW(dS:(List Int))(nK:Int×Int->Option Bool)(v8:Int×Int):Option Bool:=
 if decide (v8.2<(dS.length:Int))then
  (idx dS v8.2).bind λZ4=>
  if decide (Z4<(-1))then
   EU nK v8 Z4 true
  else
   EU nK v8 Z4 (decide ((dS.length:Int)<=Z4))
 else
  MP dS v8.1
def ET(dS:(List Int))(y1:Bool):Option Bool:=
 if y1 then
  some false
 else
  aR (EW dS) FU (0,0)
def xh(dS:(List Int)):Option Bool:=
 if decide ((dS.length:Int)<1)then
  ET dS true
 else
  ET dS (decide (6<(dS.length:Int)))
def uM(eZ:Int)(c0:(List Int)):Option Bool:=
 if decide (eZ<0)then
  some true
 else
  some (decide ((c0.length:Int)<=eZ))
def Br(dS:(List Int))(l_1:(List Int)):Option Bool:=
 (xh dS).bind λr1=>
 if r1 then
  (bX l_1 λx0=>uM x0 dS).bind λr3=>
  some (!r3)
 else
  some false
def D1(dS:(List Int))(a_1:Int)(b_2:Int):Option Bool:=
 (idx dS a_1).bind λx1=>
 if decide (x1=b_2)then
  some true
 else
  (idx dS b_2).bind λx3=>
  some (decide (x3=a_1))
abbrev Ih:=Option (Int×List Int)
def acA(inn:Int->Int->Option Ih)(p:List Int)(at_ from_:Int)(again:Int->Option Ih)(v:Int):Option Ih:=
 if decide (v<(p.length:Int))then if decide (v=from_)then again (IntKind.wrap .i64<|v+1)else if decide (v=at_)then again (IntKind.wrap .i64<|v+1)else
  (D1 p at_ v).bind λn=>if !n then again (IntKind.wrap .i64<|v+1)else(inn v at_).bind λr=>match r with
   | none=>again (IntKind.wrap .i64<|v+1)
   | some q=>(app 8 [at_]<|q.1::q.2).bind λ_=>some (some (at_,q.1::q.2))
 else some none
def uD:Nat->List Int->Int->Int->Int->Option Ih
 | 0,_,_,_,_=>none
 | n+1,p,b,at_,from_=>if decide (at_=b)then some (some (at_,[]))else aR (acA (uD n p b) p at_ from_) FU 0
def IY(p:List Int)(a b:Int):Option (List Int):=(uD 8 p b a (-1)).bind λr=>match r with
 | none=>some []
 | some q=>some (q.1::q.2)
def Ac(p:List Int)(a:Int)(b:Int):Option (List Int):=(Br p [a,b]).bind λt=>if !t then some []else IY p a b
def Qo(y1:Int):Option Int:=
 some y1
def uK(aT:Int×Int->Option Int)(v3:Int×Int)(y9:Bool):Option Int:=
 if y9 then
  nL (decide (0<=v3.2)) (
  aT (IntKind.wrap .i64 (BitVec.ofInt (IntKind.bits .i64) v3.1||| BitVec.ofInt (IntKind.bits .i64) (IntKind.wrap .i64 (1*2 ^ min (Int.toNat v3.2) (IntKind.bits .i64)))).toNat,IntKind.wrap .i64 (v3.2+1)))
 else
  aT (v3.1,IntKind.wrap .i64 (v3.2+1))
def uL(dS:(List Int))(a_1:Int)(b_2:Int)(aT:Int×Int->Option Int)(v3:Int×Int):Option Int:=
 if decide (v3.2<(dS.length:Int))then
  (Ac dS a_1 v3.2).bind λr8=>
  if decide (1<(r8.length:Int))then
   (idx r8 1).bind λZ5=>
   uK aT v3 (decide (Z5=b_2))
  else
   uK aT v3 false
 else
  Qo v3.1
def DZ(dS:(List Int))(a_1:Int)(b_2:Int):Option Int:=
 aR (uL dS a_1 b_2) FU (0,0)
def Qn(y3:(List Int)):Option (List Int):=
 some y3
def G1(dS:(List Int))(a_1:Int)(kH:Int×(List Int)->Option (List Int))(v5:Int×(List Int)):Option (List Int):=
 if decide (v5.1<(dS.length:Int))then
  (D1 dS a_1 v5.1).bind λr10=>
  if !r10 then
   kH (IntKind.wrap .i64<|v5.1+1,v5.2)
  else
   (app 8 v5.2<|[v5.1]).bind λl12=>
   kH (IntKind.wrap .i64<|v5.1+1,l12)
 else
  Qn v5.2
def vu(dS:(List Int))(a_1:Int):Option (List Int):=
 (Br dS<|[a_1]).bind λr1=>
 if !r1 then
  some ([]:(List Int))
 else
  aR (G1 dS a_1) FU (0,([]:(List Int)))
def jK(gM:aF):Option Bool:=
 (mB gM).bind λr1=>
 if r1 then
  (xh gM.aK).bind λr3=>
  some r3
 else
  some false
def iQ(aL:Int)(c0:Int)(c1:aF)(c2:Int)(c3:Int):Option Bool:=
 if decide (aL=c0)then
  some true
 else
  (DZ c1.aK c2 aL).bind λr2=>
  some (decide ((IntKind.wrap .i64 (BitVec.ofInt (IntKind.bits .i64) r2&&& BitVec.ofInt (IntKind.bits .i64) c3).toNat)=0))
def jU(gM:aF)(gi:Int)(OZ:Int)(WJ:ByteArray):Option (List Int):=
 (jK gM).bind λr1=>
 if !r1 then
  some ([]:(List Int))
 else
  (jY gM WJ).bind λr3=>
  (vu gM.aK gi).bind λr4=>
  (er r4 λx0=>iQ x0 OZ gM gi r3).bind λr5=>
  some r5
def IZ(y1:Int×ByteArray):Option ByteArray:=
 (jc y1.2<|IntKind.wrap .u8 y1.1).bind λr2=>
 some r2
def Dl(dR:Int×ByteArray->Option ByteArray)(v4:Int×ByteArray):Option ByteArray:=
 if decide (128<=v4.1)then
  (jc v4.2<|IntKind.wrap .u8 (BitVec.ofInt (IntKind.bits .u8) (IntKind.wrap .u8 v4.1)||| BitVec.ofInt (IntKind.bits .u8) 128).toNat).bind λr9=>
  dR (Int.fdiv v4.1<|2 ^ min (Int.toNat 7) (IntKind.bits .u64),r9)
 else
  IZ (v4.1,v4.2)
def Ad(b_0:ByteArray)(n_1:Int):Option ByteArray:=
 aR (Dl) FU (n_1,b_0)
def tE(S5:Int)(c0:ByteArray):Option ByteArray:=
 (Ad c0 S5).bind λr1=>
 some r1
def G8(y1:ByteArray):Option ByteArray:=
 (qM y1).bind λr2=>
 some r2
def qx(bC:(List Int))(dR:Int×ByteArray->Option ByteArray)(v4:Int×ByteArray):Option ByteArray:=
 if decide (v4.1<(bC.length:Int))then
  (idx bC v4.1).bind λx9=>
  (tE x9 v4.2).bind λr10=>
  dR (IntKind.wrap .i64<|v4.1+1,r10)
 else
  G8 v4.2
def vv(bC:(List Int)):Option ByteArray:=
 aR (qx bC) FU (0,ByteArray.empty)
def mC(S5:Int):Option ByteArray:=
 (vv<|[S5]).bind λr1=>
 some r1
def rR(aL:ByteArray):Option ByteArray:=
 (mC<|IntKind.wrap .u64 (aL.size:Int)).bind λr1=>
 (P9 r1 aL).bind λs2=>
 some s2
def Bv(_y3:Unit):Option (Int×Int×Bool):=
 some (0,0,false)
def qy(gi:Int)(kH:Int×Int->Option (Int×Int×Bool))(v5:Int×Int)(Ts:UInt8)(y11:Bool):Option (Int×Int×Bool):=
 if y11 then
  Bv ()
 else
  nL (decide (0<=(IntKind.wrap .i64<|7*(IntKind.wrap .i64<|v5.2-gi)))) (
  if decide ((IntKind.wrap .u64 (Ts.toNat:Int))<128)then
   some (IntKind.wrap .u64 (BitVec.ofInt (IntKind.bits .u64) v5.1||| BitVec.ofInt (IntKind.bits .u64) (IntKind.wrap .u64<|(IntKind.wrap .u64 (BitVec.ofInt (IntKind.bits .u64) (IntKind.wrap .u64 (Ts.toNat:Int))&&& ~~~BitVec.ofInt (IntKind.bits .u64) 128).toNat)*2 ^ min (Int.toNat<|IntKind.wrap .i64<|7*(IntKind.wrap .i64<|v5.2-gi)) (IntKind.bits .u64))).toNat,IntKind.wrap .i64 (v5.2+1),true)
  else
   kH (IntKind.wrap .u64 (BitVec.ofInt (IntKind.bits .u64) v5.1||| BitVec.ofInt (IntKind.bits .u64) (IntKind.wrap .u64 ((IntKind.wrap .u64 (BitVec.ofInt (IntKind.bits .u64) (IntKind.wrap .u64 (Ts.toNat:Int))&&& ~~~BitVec.ofInt (IntKind.bits .u64) 128).toNat)*2 ^ min (Int.toNat (IntKind.wrap .i64 (7*(IntKind.wrap .i64 (v5.2-gi))))) (IntKind.bits .u64)))).toNat,IntKind.wrap .i64 (v5.2+1)))
def Bw(gi:Int)(kH:Int×Int->Option (Int×Int×Bool))(v5:Int×Int)(Ts:UInt8)(y16:Bool):Option (Int×Int×Bool):=
 if y16 then
  qy gi kH v5 Ts true
 else
  if decide ((IntKind.wrap .u64 (Ts.toNat:Int))=0)then
   qy gi kH v5 Ts (decide (gi<v5.2))
  else
   qy gi kH v5 Ts false
def Bz(aL:ByteArray)(gi:Int)(kH:Int×Int->Option (Int×Int×Bool))(v5:Int×Int):Option (Int×Int×Bool):=
 if decide (v5.2<(aL.size:Int))then
  (tu aL v5.2).bind λTs=>
  if decide (64<=(IntKind.wrap .i64<|7*(IntKind.wrap .i64<|v5.2-gi)))then
   Bw gi kH v5 Ts true
  else
   nL (decide (0<=(IntKind.wrap .i64<|7*(IntKind.wrap .i64<|v5.2-gi)))) (
   nL (decide (0<=(IntKind.wrap .i64<|7*(IntKind.wrap .i64<|v5.2-gi)))) (
   Bw gi kH v5 Ts (!decide ((Int.fdiv (IntKind.wrap .u64 ((IntKind.wrap .u64 (BitVec.ofInt (IntKind.bits .u64) (IntKind.wrap .u64 (Ts.toNat:Int))&&& ~~~BitVec.ofInt (IntKind.bits .u64) 128).toNat)*2 ^ min (Int.toNat (IntKind.wrap .i64 (7*(IntKind.wrap .i64 (v5.2-gi))))) (IntKind.bits .u64))) (2 ^ min (Int.toNat (IntKind.wrap .i64 (7*(IntKind.wrap .i64 (v5.2-gi))))) (IntKind.bits .u64)))=(IntKind.wrap .u64 (BitVec.ofInt (IntKind.bits .u64) (IntKind.wrap .u64 (Ts.toNat:Int))&&& ~~~BitVec.ofInt (IntKind.bits .u64) 128).toNat)))))
 else
  Bv ()
def Bu(aL:ByteArray)(gi:Int)(y1:Bool):Option (Int×Int×Bool):=
 if y1 then
  some (0,0,false)
 else
  aR (Bz aL gi) FU (0,gi)
def mQ(aL:ByteArray)(gi:Int):Option (Int×Int×Bool):=
 if decide (gi<0)then
  Bu aL gi true
 else
  Bu aL gi (decide ((aL.size:Int)<=gi))
def rO(aL:ByteArray)(r1:(Int×Int×Bool))(y2:Bool):Option (ByteArray×Int×Bool):=
 if y2 then
  some (ByteArray.empty,0,false)
 else
  (Ib aL r1.2.1<|IntKind.wrap .i64<|r1.2.1+(IntKind.wrap .i64 r1.1)).bind λs4=>
  some (s4,IntKind.wrap .i64 (r1.2.1+(IntKind.wrap .i64 r1.1)),true)
def rQ(aL:ByteArray)(r1:(Int×Int×Bool))(y7:Bool):Option (ByteArray×Int×Bool):=
 if y7 then
  rO aL r1 true
 else
  rO aL r1 (decide ((IntKind.wrap .u64<|IntKind.wrap .i64 ((aL.size:Int)-r1.2.1))<r1.1))
def rP(aL:ByteArray)(CO:Int)(r1:(Int×Int×Bool))(y6:Bool):Option (ByteArray×Int×Bool):=
 if y6 then
  rQ aL r1 true
 else
  rQ aL r1 (decide ((IntKind.wrap .u64 CO)<r1.1))
def kz(aL:ByteArray)(gi:Int)(CO:Int):Option (ByteArray×Int×Bool):=
 (mQ aL gi).bind λr1=>
 if !r1.2.2 then
  rP aL CO r1 true
 else
  rP aL CO r1 (decide (CO<0))
def fZ(eZ:ai)(b_1:ai):Option Bool:=
 if !(decide (eZ.N=b_1.N)&&decide (eZ.Site=b_1.Site))then
  if decide (eZ.N<b_1.N)then
   some true
  else
   if decide (eZ.N=b_1.N)then
    some (decide (eZ.Site<=b_1.Site))
   else
    some false
 else
  some false
def Qh(y1:Int×Int):Option ai:=
 some (ai.mk y1.1 y1.2)
def Bp(bC:(List ai))(aT:Int×Int×Int->Option ai)(v3:Int×Int×Int):Option ai:=
 if decide (v3.1<(bC.length:Int))then
  (idx bC v3.1).bind λx8=>
  (fZ (ai.mk v3.2.1 v3.2.2) x8).bind λr9=>
  if r9 then
   aT (IntKind.wrap .i64<|v3.1+1,x8.N,x8.Site)
  else
   aT (IntKind.wrap .i64<|v3.1+1,v3.2.1,v3.2.2)
 else
  Qh (v3.2.1,v3.2.2)
def jF(bC:(List ai)):Option ai:=
 aR (Bp bC) FU (0,0,0)
def yS(Bb:ai)(cL:Int)(y1:Bool):Option (ai×Int):=
 if y1 then
  some ((ai.mk 0 0),1)
 else
  if decide (1099511627776<=Bb.N)then
   some ((ai.mk 0 0),18)
  else
   some ((ai.mk (IntKind.wrap .i64 ((if 0>Bb.N then 0 else Bb.N)+1)) cL),0)
def wZ(Bb:ai)(cL:Int):Option (ai×Int):=
 if decide (cL<0)then
  yS Bb cL true
 else
  yS Bb cL (decide (6<=cL))
def wY(aL:ai)(y2:Bool):Option Bool:=
 if y2 then
  some (decide (aL.Site<6))
 else
  some false
def wX(aL:ai)(y1:Bool):Option Bool:=
 if y1 then
  wY aL (decide (0<=aL.Site))
 else
  wY aL false
def jL(aL:ai):Option Bool:=
 if decide (1<=aL.N)then
  wX aL (decide (aL.N<=1099511627776))
 else
  wX aL false
def o7(aL:ai):Option ByteArray:=
 (jL aL).bind λr1=>
 if !r1 then
  some ByteArray.empty
 else
  (vv<|[IntKind.wrap .u64 aL.N,IntKind.wrap .u64 aL.Site]).bind λr3=>
  some r3
def sB(r1:(Int×Int×Bool))(r2:(Int×Int×Bool))(y3:Bool):Option (ai×Int×Bool):=
 if y3 then
  some ((ai.mk 0 0),0,false)
 else
  (jL<|ai.mk (IntKind.wrap .i64 r1.1)<|IntKind.wrap .i64 r2.1).bind λr5=>
  if !r5 then
   some ((ai.mk 0 0),0,false)
  else
   some ((ai.mk (IntKind.wrap .i64 r1.1)<|IntKind.wrap .i64 r2.1),r2.2.1,true)
def yT(r1:(Int×Int×Bool))(r2:(Int×Int×Bool))(y8:Bool):Option (ai×Int×Bool):=
 if y8 then
  sB r1 r2 true
 else
  if decide (1099511627776<r1.1)then
   sB r1 r2 true
  else
   sB r1 r2 (decide (6<=r2.1))
def rH(aL:ByteArray)(gi:Int):Option (ai×Int×Bool):=
 (mQ aL gi).bind λr1=>
 (mQ aL r1.2.1).bind λr2=>
 if !r1.2.2 then
  yT r1 r2 true
 else
  yT r1 r2 (!r2.2.2)
def zL(Eo:ah):Option Bool:=
 (lK Eo.Key).bind λr1=>
 if r1 then
  (jL Eo.aq).bind λr3=>
  some r3
 else
  some false
def ED(dS:(List ah))(_y1:Unit):Option Bool:=
 some (decide ((dS.length:Int)<=24))
def yF(dS:(List ah))(aT:Int->Option Bool)(v3:Int):Option Bool:=
 if decide (v3<(dS.length:Int))then
  (idx dS v3).bind λx8=>
  (zL x8).bind λr9=>
  if !r9 then
   some false
  else
   if decide (0<v3)then
    (idx dS<|IntKind.wrap .i64<|v3-1).bind λI0=>
    if !slt I0.Key x8.Key then
     some false
    else
     aT (IntKind.wrap .i64<|v3+1)
   else
    aT (IntKind.wrap .i64<|v3+1)
 else
  ED dS ()
def nZ(dS:(List ah)):Option Bool:=
 aR (yF dS) FU 0
def EC(y5:ByteArray):Option ByteArray:=
 (qM y5).bind λr6=>
 some r6
def nD(dS:(List ah))(nK:Int×ByteArray->Option ByteArray)(v8:Int×ByteArray):Option ByteArray:=
 if decide (v8.1<(dS.length:Int))then
  (idx dS v8.1).bind λZ4=>
  (rR Z4.Key).bind λr14=>
  (o7 Z4.aq).bind λr15=>
  (P9 r14 r15).bind λs16=>
  (dO v8.2 s16).bind λr17=>
  nK (IntKind.wrap .i64<|v8.1+1,r17)
 else
  EC v8.2
def wo(dS:(List ah)):Option ByteArray:=
 (nZ dS).bind λr1=>
 if !r1 then
  some ByteArray.empty
 else
  (mC<|IntKind.wrap .u64 (dS.length:Int)).bind λr3=>
  (dO ByteArray.empty r3).bind λr4=>
  aR (nD dS) FU (0,r4)
def lT(Eo:ah)(cy:ByteArray):Option Int:=
 (gP Eo.Key cy).bind λr1=>
 some r1
def uZ(dS:(List ah))(cy:ByteArray):Option (Int×Bool):=
 (ct dS cy λx0 x1=>lT x0 x1).bind λr1=>
 some (r1.1,r1.2)
def zJ(dS:(List ah))(rW:ah):Option (List ah):=
 (uZ dS rW.Key).bind λr1=>
 (zL rW).bind λr2=>
 if !r2 then
  some dS
 else
  if !r1.2 then
   (cE dS).bind λr5=>
   (kY r5 r1.1<|[rW]).bind λr6=>
   some r6
  else
   (cE dS).bind λr7=>
   (idx r7 r1.1).bind λx8=>
   (jF<|[x8.aq,rW.aq]).bind λr9=>
   (idx r7 r1.1).bind λFL=>
   (sets r7 r1.1<|ah.mk FL.Key r9).bind λl11=>
   some l11
def Ms(y1:(List ah)):Option (List ah):=
 some y1
def EE(aT:(List ah)×Int->Option (List ah))(v3:(List ah)×Int)(y8:(List ah)):Option (List ah):=
 aT (y8,IntKind.wrap .i64 (v3.2+1))
def EF(aT:(List ah)×Int->Option (List ah))(v3:(List ah)×Int)(y11:(List ah)):Option (List ah):=
 EE aT v3 y11
def yI(aT:(List ah)×Int->Option (List ah))(v3:(List ah)×Int)(FL:(List ah))(Oi:(List ah)×Int->Option (List ah))(Xj:(List ah)×Int):Option (List ah):=
 if decide (Xj.2<(FL.length:Int))then
  (idx FL Xj.2).bind λx18=>
  (zJ Xj.1 x18).bind λr19=>
  Oi (r19,IntKind.wrap .i64 (Xj.2+1))
 else
  EF aT v3 Xj.1
def yH(bC:(List (List ah)))(aT:(List ah)×Int->Option (List ah))(v3:(List ah)×Int):Option (List ah):=
 if decide (v3.2<(bC.length:Int))then
  (idx bC v3.2).bind λFL=>
  aR (yI aT v3 FL) FU (v3.1,0)
 else
  Ms v3.1
def jS(bC:(List (List ah))):Option (List ah):=
 aR (yH bC) FU (([]:(List ah)),0)
def sW(Eo:ah)(c0:(List au)):Option Bool:=
 (fT c0 Eo.Key).bind λr1=>
 some (decide (r1<0))
def oT(dS:(List ah))(l_1:(List au)):Option (List ah):=
 (cE dS).bind λr1=>
 (dB r1 λx0=>sW x0 l_1).bind λr2=>
 some r2
def wu(dS:(List ah))(cy:ByteArray):Option ai:=
 (uZ dS cy).bind λr1=>
 if !r1.2 then
  some (ai.mk 0 0)
 else
  (idx dS r1.1).bind λx3=>
  some x3.aq
def nE(Eo:ah)(c0:(List ah)):Option Bool:=
 (wu c0 Eo.Key).bind λr1=>
 (fZ r1 Eo.aq).bind λr2=>
 some r2
def sV(dS:(List ah))(q_1:(List ah)):Option Bool:=
 (eF q_1 λx0=>nE x0 dS).bind λr1=>
 some (!r1)
def AR(y4:Int×Bool×(List ah))(y5:Bool):Option ((List ah)×Int×Bool):=
 if y5 then
  some (([]:(List ah)),0,false)
 else
  some (y4.2.2,y4.1,true)
def pW(y4:Int×Bool×(List ah)):Option ((List ah)×Int×Bool):=
 if !y4.2.1 then
  AR y4 true
 else
  (nZ y4.2.2).bind λr9=>
  AR y4 (!r9)
def mO(aL:ByteArray)(r1:(Int×Int×Bool))(adT:Int×Bool×Int×(List ah)->Option ((List ah)×Int×Bool))(v11:Int×Bool×Int×(List ah)):Option ((List ah)×Int×Bool):=
 if decide (v11.2.2.1<r1.1)then
  (kz aL v11.1 32).bind λr16=>
  if !r16.2.2 then
   pW (r16.2.1,r16.2.2,v11.2.2.2)
  else
   (rH aL r16.2.1).bind λr18=>
   if !r18.2.2 then
    pW (r18.2.1,r18.2.2,v11.2.2.2)
   else
    (app 32 v11.2.2.2<|[(ah.mk r16.1 r18.1)]).bind λl20=>
    adT (r18.2.1,r18.2.2,IntKind.wrap .u64 (v11.2.2.1+1),l20)
 else
  pW (v11.1,v11.2.1,v11.2.2.2)
def AQ(aL:ByteArray)(r1:(Int×Int×Bool))(y2:Bool):Option ((List ah)×Int×Bool):=
 if y2 then
  some (([]:(List ah)),0,false)
 else
  aR (mO aL r1) FU (r1.2.1,r1.2.2,0,([]:(List ah)))
def zK(aL:ByteArray)(gi:Int):Option ((List ah)×Int×Bool):=
 (mQ aL gi).bind λr1=>
 if !r1.2.2 then
  AQ aL r1 true
 else
  AQ aL r1 (decide (24<r1.1))
def DN(dS:(List ah))(q_1:(List ah)):Option Bool:=
 (jA dS q_1).bind λr1=>
 some r1
def vF(Qd:Int):Option aP:=
 some (aP.mk Qd ([]:(List ah)))
def En(aL:aP)(y1:(List ah)):Option aP:=
 some (aP.mk aL.Site y1)
def yf(aL:aP)(l_1:(List aa))(aT:Int×(List ah)->Option aP)(v3:Int×(List ah)):Option aP:=
 if decide (v3.1<(l_1.length:Int))then
  (idx l_1 v3.1).bind λx8=>
  (jS<|[v3.2,x8.bz,[(ah.mk x8.Key x8.aq)]]).bind λr9=>
  aT (IntKind.wrap .i64<|v3.1+1,r9)
 else
  En aL v3.2
def jO(aL:aP)(l_1:(List aa)):Option aP:=
 aR (yf aL l_1) FU (0,aL.bz)
def uu(aL:aP):Option aP:=
 some (aP.mk (-1) aL.bz)
def nU(aL:aP)(have_1:(List ah))(lR:(List au)):Option Bool:=
 (oT aL.bz lR).bind λr1=>
 (sV have_1 r1).bind λr2=>
 some r2
def tM(aL:aP)(cL:Int)(Fa:(List ah))(K0:(List au))(y1:Bool):Option (aP×Int):=
 if y1 then
  some ((aP.mk 0 ([]:(List ah))),1)
 else
  if decide ((-1)<aL.Site)then
   some ((aP.mk 0 ([]:(List ah))),13)
  else
   (nU aL Fa K0).bind λr4=>
   if !r4 then
    some ((aP.mk 0 ([]:(List ah))),17)
   else
    some ((aP.mk cL aL.bz),0)
def pI(aL:aP)(cL:Int)(Fa:(List ah))(K0:(List au)):Option (aP×Int):=
 if decide (cL<0)then
  tM aL cL Fa K0 true
 else
  tM aL cL Fa K0 (decide (6<=cL))
def Kk(e_0:Int):Option aA:=
 some (aA.mk e_0 ([]:(List aa)))
def gI(bC:(List aa)):Option aA:=
 some (aA.mk 0 bC)
def gS(Ey:ByteArray):Option Bool:=
 (lK Ey).bind λr1=>
 some (!r1)
def vT(bC:(List ByteArray)):Option Bool:=
 nL (decide (bC.length<=1048576)) (some (decide (((sJ<|cQ bC).length:Int)=(bC.length:Int))))
def jQ(bC:(List ByteArray)):Option Bool:=
 if decide ((bC.length:Int)<1)then some false else if decide (4<(bC.length:Int))then some false else
 (dN bC λx0=>gS x0).bind λb=>if b then some false else vT bC
def lD(Eo:ah)(c0:ByteArray):Option Bool:=
 some (seq Eo.Key c0)
def lG(o8:aa)(c0:ai):Option Bool:=
 some (decide (o8.aq.N=c0.N)&&decide (o8.aq.Site=c0.Site))
def yY(o8:aa)(y4:Bool):Option Bool:=
 if y4 then
  if !o8.Aj then
   some true
  else
   some (seq o8.Value ByteArray.empty)
 else
  some false
def yX(o8:aa)(y3:Bool):Option Bool:=
 if y3 then
  yY o8 (decide ((o8.Value.size:Int)<=32))
 else
  yY o8 false
def yV(o8:aa)(y2:Bool):Option Bool:=
 if y2 then
  (nZ o8.bz).bind λr11=>
  yX o8 r11
 else
  yX o8 false
def jl(o8:aa):Option Bool:=
 (lK o8.Key).bind λr1=>
 if r1 then
  (jL o8.aq).bind λr14=>
  yV o8 r14
 else
  yV o8 false
def sC(o8:aa)(y3:Int):Option ByteArray:=
 (rR o8.Key).bind λr4=>
 (mC y3).bind λr5=>
 (rR o8.Value).bind λr6=>
 (o7 o8.aq).bind λr7=>
 (wo o8.bz).bind λr8=>
 (qu ([r4,r5,r6,r7,r8]) ByteArray.empty).bind λr9=>
 some r9
def rT(o8:aa):Option ByteArray:=
 (jl o8).bind λr1=>
 if !r1 then
  some ByteArray.empty
 else
  if o8.Aj then
   sC o8 1
  else
   sC o8 0
def ei(zf:bq)(end_1:Int)(aoZ:Bool):Option bq:=
 if zf.bad then
  some (bq.mk zf.s end_1 true)
 else
  some (bq.mk zf.s end_1<|!aoZ)
def jG(zf:bq)(Vj:Int):Option (bq×ByteArray):=
 (kz zf.s zf.at_ Vj).bind λr1=>
 (ei zf r1.2.1 r1.2.2).bind λr2=>
 some (r2,r1.1)
def kK(r1:(Int×Int×Bool))(y2:ByteArray×Int×Bool):Option (bq×Int):=
 if y2.2.2 then
  some ((bq.mk y2.1 y2.2.1 y2.2.2),0)
 else
  some ((bq.mk y2.1 y2.2.1 y2.2.2),IntKind.wrap .i64 r1.1)
def j0(zf:bq)(Vj:Int):Option (bq×Int):=
 (mQ zf.s zf.at_).bind λr1=>
 if r1.2.2 then
  (ei zf r1.2.1 (decide (r1.1<=Vj))).bind λr6=>
  kK r1 (r6.s,r6.at_,r6.bad)
 else
  (ei zf r1.2.1 false).bind λr7=>
  kK r1 (r7.s,r7.at_,r7.bad)
def mT(zf:bq):Option (bq×Bool):=
 if !zf.bad then
  some (zf,decide (zf.at_=(zf.s.size:Int)))
 else
  some (zf,false)
def BD(r1:(bq×ByteArray))(r3:(bq×Int))(r5:(bq×ByteArray))(r7:(ai×Int×Bool))(r8:((List ah)×Int×Bool))(y10:Bool):Option (aa×Bool):=
 if y10 then
  some ((aa.mk ByteArray.empty ByteArray.empty false (ai.mk 0 0) ([]:(List ah))),false)
 else
  some ((aa.mk r1.2 r5.2 (decide (r3.2=1)) r7.1 r8.1),true)
def BC(r1:(bq×ByteArray))(r3:(bq×Int))(r5:(bq×ByteArray))(r7:(ai×Int×Bool))(r8:((List ah)×Int×Bool))(y9:ByteArray×Int×Bool):Option (aa×Bool):=
 (mT<|bq.mk y9.1 y9.2.1 y9.2.2).bind λMw=>
 if !Mw.2 then
  BD r1 r3 r5 r7 r8 true
 else
  (jl<|aa.mk r1.2 r5.2 (decide (r3.2=1)) r7.1 r8.1).bind λr15=>
  BD r1 r3 r5 r7 r8 (!r15)
def mS(aL:ByteArray):Option (aa×Bool):=
 (jG (bq.mk aL 0 false) 32).bind λr1=>
 if r1.1.bad then
  some ((aa.mk ByteArray.empty ByteArray.empty false (ai.mk 0 0) ([]:(List ah))),false)
 else
  (j0 r1.1 1).bind λr3=>
  if r3.1.bad then
   some ((aa.mk ByteArray.empty ByteArray.empty false (ai.mk 0 0) ([]:(List ah))),false)
  else
   (jG r3.1 32).bind λr5=>
   if r5.1.bad then
    some ((aa.mk ByteArray.empty ByteArray.empty false (ai.mk 0 0) ([]:(List ah))),false)
   else
    (rH aL r5.1.at_).bind λr7=>
    (zK aL r7.2.1).bind λr8=>
    if r7.2.2 then
     (ei r5.1 r8.2.1 r8.2.2).bind λr18=>
     BC r1 r3 r5 r7 r8 (r18.s,r18.at_,r18.bad)
    else
     (ei r5.1 r8.2.1 false).bind λr19=>
     BC r1 r3 r5 r7 r8 (r19.s,r19.at_,r19.bad)
def BH(eZ:aa)(b_1:aa)(y3:Bool):Option Bool:=
 if y3 then
  (DN eZ.bz b_1.bz).bind λr5=>
  some r5
 else
  some false
def BG(eZ:aa)(b_1:aa)(y2:Bool):Option Bool:=
 if y2 then
  BH eZ b_1 (decide (eZ.aq.N=b_1.aq.N)&&decide (eZ.aq.Site=b_1.aq.Site))
 else
  BH eZ b_1 false
def BF(eZ:aa)(b_1:aa)(y1:Bool):Option Bool:=
 if y1 then
  BG eZ b_1 (eZ.Aj==b_1.Aj)
 else
  BG eZ b_1 false
def Af(eZ:aa)(b_1:aa):Option Bool:=
 if seq eZ.Key b_1.Key then
  BF eZ b_1 (seq eZ.Value b_1.Value)
 else
  BF eZ b_1 false
def pF(o8:aa)(c0:ai):Option Bool:=
 (fZ o8.aq c0).bind λr1=>
 some (!r1)
def nS(bC:(List aa))(s_1:ai):Option Int:=
 (bR bC λx0=>pF x0 s_1).bind λr1=>
 if decide (r1<0)then
  some (bC.length:Int)
 else
  some r1
def ew(bC:(List aa))(v_1:aa)(r1:Int)(y2:Bool):Option ((List aa)×Bool):=
 if y2 then
  some (bC,false)
 else
  (cn bC).bind λr4=>
  (e8 r4 r1<|[v_1]).bind λr5=>
  some (r5,true)
def zq(bC:(List aa))(v_1:aa):Option ((List aa)×Bool):=
 (nS bC v_1.aq).bind λr1=>
 (jl v_1).bind λr7=>
 if !r7 then
  ew bC v_1 r1 true
 else
  if decide (0<(bC.length:Int))then
   (idx bC 0).bind λFL=>
   if !seq FL.Key v_1.Key then
    ew bC v_1 r1 true
   else
    if decide (r1<(bC.length:Int))then
     (idx bC r1).bind λZ4=>
     ew bC v_1 r1 (decide (Z4.aq.N=v_1.aq.N)&&decide (Z4.aq.Site=v_1.aq.Site))
    else
     ew bC v_1 r1 false
  else
   if decide (r1<(bC.length:Int))then
    (idx bC r1).bind λx15=>
    ew bC v_1 r1 (decide (x15.aq.N=v_1.aq.N)&&decide (x15.aq.Site=v_1.aq.Site))
   else
    ew bC v_1 r1 false
def yb(bC:(List aa))(i_1:Int)(y1:Bool):Option (aa×Bool):=
 if y1 then
  some ((aa.mk ByteArray.empty ByteArray.empty false (ai.mk 0 0) ([]:(List ah))),false)
 else
  (idx bC i_1).bind λx3=>
  some (x3,true)
def nT(bC:(List aa))(i_1:Int):Option (aa×Bool):=
 if decide (i_1<0)then
  yb bC i_1 true
 else
  yb bC i_1 (decide ((bC.length:Int)<=i_1))
def qN(bC:(List aa)):Option (aa×Bool):=
 (nT bC<|IntKind.wrap .i64 ((bC.length:Int)-1)).bind λr1=>
 some (r1.1,r1.2)
def Cj(r2:(aa×Bool))(y3:Bool):Option (aa×Bool):=
 if y3 then
  some ((aa.mk ByteArray.empty ByteArray.empty false (ai.mk 0 0) ([]:(List ah))),false)
 else
  some (r2.1,true)
def zo(bC:(List aa))(s_1:ai):Option (aa×Bool):=
 (nS bC s_1).bind λr1=>
 (nT bC r1).bind λr2=>
 if !r2.2 then
  Cj r2 true
 else
  Cj r2 (!(decide (r2.1.aq.N=s_1.N)&&decide (r2.1.aq.Site=s_1.Site)))
def ko(o9:aa)(ae1:Bool)(c0:aa):Option Bool:=
 if ae1 then
  (Af o9 c0).bind λr2=>
  some r2
 else
  some false
def sH(bC:(List aa))(s_1:ai):Option (aa×Bool):=
 (zo bC s_1).bind λr1=>
 if r1.2 then
  some (r1.1,true)
 else
  (nS bC s_1).bind λr3=>
  (nT bC<|IntKind.wrap .i64<|r3-1).bind λr4=>
  some (r4.1,r4.2)
def vE(bC:(List aa))(gj:ai)(LX:aa)(y3:Bool):Option Bool:=
 if y3 then
  some true
 else
  (sH bC gj).bind λr5=>
  (ko r5.1 r5.2 LX).bind λr6=>
  some r6
def vD(bC:(List aa))(gj:ai)(LX:aa)(y2:Bool):Option Bool:=
 if y2 then
  vE bC gj LX true
 else
  (qN bC).bind λr9=>
  (ko r9.1 r9.2 LX).bind λr10=>
  vE bC gj LX r10
def sI(bC:(List aa))(gj:ai)(AU:(List ai))(LX:aa):Option Bool:=
 (e7 AU LX.aq).bind λr1=>
 if r1 then
  vD bC gj LX true
 else
  (fZ LX.aq gj).bind λMw=>
  vD bC gj LX (!Mw)
def ng(o8:aa)(c0:(List aa))(c1:ai)(c2:(List ai)):Option Bool:=
 (sI c0 c1 c2 o8).bind λr1=>
 some (!r1)
def ow(bC:(List aa))(gj:ai)(AU:(List ai)):Option (List aa):=
 (cn bC).bind λr1=>
 (cD r1 λx0=>ng x0 bC gj AU).bind λr2=>
 some r2
def lU(dS:aH)(AE:Int):Option Int:=
 (j6 dS.ID AE).bind λr1=>
 some r1
def q9(bC:(List aH))(AE:Int):Option (Int×Bool):=
 (cO bC AE λx0 x1=>lU x0 x1).bind λr1=>
 some (r1.1,r1.2)
def zM(bC:(List aH))(p_1:aH):Option ((List aH)×Int):=
 (q9 bC p_1.ID).bind λr1=>
 if decide (p_1.ID<1)then
  some (([]:(List aH)),1)
 else
  if r1.2 then
   some (([]:(List aH)),13)
  else
   if decide (8<=(bC.length:Int))then
    some (([]:(List aH)),15)
   else
    (fB bC).bind λr5=>
    (iX r5 r1.1<|[p_1]).bind λr6=>
    some (r6,0)
def wB(bC:(List aH))(AE:Int):Option (aH×Bool):=
 (q9 bC AE).bind λr1=>
 if !r1.2 then
  some ((aH.mk 0 ([]:(List ah))),false)
 else
  (idx bC r1.1).bind λx3=>
  some (x3,true)
def u7(bC:(List aH))(AE:Int):Option ((List aH)×Int):=
 (q9 bC AE).bind λr1=>
 if !r1.2 then
  some (([]:(List aH)),12)
 else
  (fB bC).bind λr3=>
  (iW r3 r1.1<|IntKind.wrap .i64<|r1.1+1).bind λr4=>
  some (r4,0)
def eD(l:List aH):List ah:=l.flatMap (·.nR)
def wz(bC:List aH):Option (List ah):=if(eD bC).length<=1000000 then some (eD bC)else none
def E4(y1:(List (List ah))):Option (List ah):=
 (jS y1).bind λr2=>
 some r2
def E5(bC:(List aa))(dR:Int×(List (List ah))->Option (List ah))(v4:Int×(List (List ah))):Option (List ah):=
 if decide (v4.1<(bC.length:Int))then
  (idx bC v4.1).bind λx9=>
  (app 24 v4.2<|[x9.bz]).bind λl10=>
  dR (IntKind.wrap .i64<|v4.1+1,l10)
 else
  E4 v4.2
def F0(bC:(List aa))(Bc:(List ah)):Option (List ah):=
 aR (E5 bC) FU (0,[Bc])
def Nf(y1:(List ai)):Option ai:=
 (jF y1).bind λr2=>
 some r2
def Hv(bC:(List aa))(cy:ByteArray)(dR:Int×(List ai)->Option ai)(v4:Int×(List ai)):Option ai:=
 if decide (v4.1<(bC.length:Int))then
  (idx bC v4.1).bind λx9=>
  if seq x9.Key cy then
   (app 16 v4.2<|[x9.aq]).bind λl11=>
   dR (IntKind.wrap .i64<|v4.1+1,l11)
  else
   dR (IntKind.wrap .i64<|v4.1+1,v4.2)
 else
  Nf v4.2
def J9(bC:(List aa))(cy:ByteArray):Option ai:=
 aR (Hv bC cy) FU (0,([]:(List ai)))
def vJ(Ey:ByteArray)(c0:(List aa))(c1:(List ah)):Option Bool:=
 (J9 c0 Ey).bind λr1=>
 (wu c1 Ey).bind λr2=>
 (fZ r1 r2).bind λr3=>
 some (!r3)
def Cr(fL:(List ByteArray))(l_1:(List aa))(jV:(List ah)):Option (List ByteArray):=
 (F0 l_1 jV).bind λr1=>
 (dA fL).bind λr2=>
 (cN r2 λx0=>vJ x0 l_1 r1).bind λr3=>
 some r3
def zw(fL:(List ByteArray))(l_1:(List aa))(jV:(List ah)):Option Bool:=
 (Cr fL l_1 jV).bind λr1=>
 some (decide ((r1.length:Int)=0))
def iU(w_0:aa)(c0:aa):Option Bool:=
 if seq w_0.Key c0.Key then
  some (decide (w_0.aq.N=c0.aq.N)&&decide (w_0.aq.Site=c0.aq.Site))
 else
  some false
def AX(bC:(List aa))(v_1:aa):Option ((List aa)×Int):=
 (jl v_1).bind λr1=>
 if !r1 then
  some (([]:(List aa)),1)
 else
  if decide (24<=(bC.length:Int))then
   some (([]:(List aa)),15)
  else
   (sub bC 0 (bC.length:Int)).bind λl4=>
   (app 80 l4<|[v_1]).bind λl5=>
   some (l5,0)
def lV(Eo:ah)(c0:(List ah)):Option Bool:=
 (wu c0 Eo.Key).bind λr1=>
 (fZ r1 Eo.aq).bind λr2=>
 some (!r2)
def pY(o8:aa)(have_1:(List ah))(lR:(List au)):Option (List ah):=
 (oT o8.bz lR).bind λr1=>
 (dB r1 λx0=>lV x0 have_1).bind λr2=>
 some r2
def sY(o8:aa)(have_1:(List ah))(lR:(List au)):Option Bool:=
 (pY o8 have_1 lR).bind λr1=>
 some (decide ((r1.length:Int)=0))
def EG(bC:(List aa))(_y1:Unit):Option (aa×(List aa)×Bool):=
 some ((aa.mk ByteArray.empty ByteArray.empty false (ai.mk 0 0) ([]:(List ah))),bC,false)
def yK(bC:(List aa))(have_1:(List ah))(lR:(List au))(aT:Int->Option (aa×(List aa)×Bool))(v3:Int):Option (aa×(List aa)×Bool):=
 if decide (v3<(bC.length:Int))then
  (idx bC v3).bind λx8=>
  (sY x8 have_1 lR).bind λr9=>
  if !r9 then
   aT (IntKind.wrap .i64<|v3+1)
  else
   (sub bC 0 v3).bind λl11=>
   (sub bC (IntKind.wrap .i64<|v3+1) (bC.length:Int)).bind λl12=>
   (app 80 l11 l12).bind λl13=>
   some (x8,l13,true)
 else
  EG bC ()
def lW(bC:(List aa))(have_1:(List ah))(lR:(List au)):Option (aa×(List aa)×Bool):=
 aR (yK bC have_1 lR) FU 0
def pX(o8:aa)(c0:(List au)):Option Bool:=
 (fT c0 o8.Key).bind λr1=>
 some (decide (r1<0))
def wC(bC:(List aa))(WV:(List au)):Option (List aa):=
 (cn bC).bind λr1=>
 (cD r1 λx0=>pX x0 WV).bind λr2=>
 some r2
def fW(ug:aF)(uf:aF):Option Bool:=
 (jK ug).bind λr1=>
 if r1 then
  (jK uf).bind λr3=>
  if r3 then
   (ja ug).bind λr5=>
   (ja uf).bind λr6=>
   some (decide (r5=r6))
  else
   some false
 else
  some false
def eL:ByteArray->List ByteArray->List au
 | at_,[]=>[⟨at_,ByteArray.empty⟩]
 | at_,b::l=>⟨at_,b⟩::eL b l
def lB(ug:aF)(uf:aF):Option (List au):=
 (fW ug uf).bind λf=>if !f then some []else
 (m5 [ug.bP,uf.bP]).bind λl=>(oI l).bind λb=>nL (decide (b.length<=1048576)) (some<|eL ByteArray.empty b)
def pL(aL:Int)(c0:aF)(c1:au)(c2:aF):Option Bool:=
 (rK c0 aL c1.From).bind λr1=>
 if r1 then
  (rK c2 aL c1.From).bind λr3=>
  some (!r3)
 else
  some false
def L9(y2:(List aW)):Option (List aW):=
 some y2
def Es(dR:Int×(List aW)->Option (List aW))(v4:Int×(List aW))(y9:(List aW)):Option (List aW):=
 dR (IntKind.wrap .i64<|v4.1+1,y9)
def Et(dR:Int×(List aW)->Option (List aW))(v4:Int×(List aW))(y13:(List aW)):Option (List aW):=
 Es dR v4 y13
def yt(ug:aF)(uf:aF)(dR:Int×(List aW)->Option (List aW))(v4:Int×(List aW))(LY:au)(WX:Int)(V3:Int×(List aW)->Option (List aW))(v15:Int×(List aW)):Option (List aW):=
 if decide (v15.1<WX)then
  (pL v15.1 uf LY ug).bind λr20=>
  if r20 then
   (iY ug LY.From).bind λr22=>
   (app 48 v15.2<|[(aW.mk v15.1 r22 LY)]).bind λl23=>
   V3 (IntKind.wrap .i64<|v15.1+1,l23)
  else
   V3 (IntKind.wrap .i64<|v15.1+1,v15.2)
 else
  Et dR v4 v15.2
def yq(ug:aF)(uf:aF)(r1:(List au))(dR:Int×(List aW)->Option (List aW))(v4:Int×(List aW)):Option (List aW):=
 if decide (v4.1<(r1.length:Int))then
  (idx r1 v4.1).bind λLY=>
  (ja uf).bind λWX=>
  aR (yt ug uf dR v4 LY WX) FU (0,v4.2)
 else
  L9 v4.2
def nW(ug:aF)(uf:aF):Option (List aW):=
 (lB ug uf).bind λr1=>
 aR (yq ug uf r1) FU (0,([]:(List aW)))
def adC(_y2:Unit):Option Bool:=
 some true
def adh(dS:(List ah))(q_1:(List ah))(dR:Int->Option Bool)(v4:Int):Option Bool:=
 if decide (v4<(dS.length:Int))then
  (idx dS v4).bind λx9=>
  (idx q_1 v4).bind λFL=>
  if !(decide (x9.Key=FL.Key)&&decide (x9.aq.N=FL.aq.N)&&decide (x9.aq.Site=FL.aq.Site))then
   some false
  else
   dR (IntKind.wrap .i64<|v4+1)
 else
  adC ()
def kC(dS:(List ah))(q_1:(List ah)):Option Bool:=
 if !decide ((dS.length:Int)=(q_1.length:Int))then
  some false
 else
  aR (adh dS q_1) FU 0
def adv(eZ:aa)(b_1:aa)(y4:Bool):Option Bool:=
 if y4 then
  some (decide (eZ.aq.N=b_1.aq.N)&&decide (eZ.aq.Site=b_1.aq.Site))
 else
  some false
def adr(eZ:aa)(b_1:aa)(y3:Bool):Option Bool:=
 if y3 then
  adv eZ b_1 (eZ.Aj==b_1.Aj)
 else
  adv eZ b_1 false
def adi(eZ:aa)(b_1:aa)(y2:Bool):Option Bool:=
 if y2 then
  adr eZ b_1 (seq eZ.Value b_1.Value)
 else
  adr eZ b_1 false
def ada(eZ:aa)(b_1:aa):Option Bool:=
 (kC eZ.bz b_1.bz).bind λr1=>
 if r1 then
  adi eZ b_1 (seq eZ.Key b_1.Key)
 else
  adi eZ b_1 false
def aeT(_y1:Unit):Option (aa×Bool):=
 some ((aa.mk ByteArray.empty ByteArray.empty false (ai.mk 0 0) ([]:(List ah))),false)
def adg(bC:(List aa))(s_1:ai)(aT:Int->Option (aa×Bool))(v3:Int):Option (aa×Bool):=
 if decide (v3<(bC.length:Int))then
  (idx bC v3).bind λx8=>
  if(decide (x8.aq.N=s_1.N)&&decide (x8.aq.Site=s_1.Site))then
   (idx bC v3).bind λFL=>
   some (FL,true)
  else
   aT (IntKind.wrap .i64<|v3+1)
 else
  aeT ()
def adz(bC:(List aa))(s_1:ai):Option (aa×Bool):=
 aR (adg bC s_1) FU 0
def adR(_y2:Unit):Option Bool:=
 some true
def abw(eZ:(List aa))(b_1:(List aa))(dR:Int->Option Bool)(v4:Int):Option Bool:=
 if decide (v4<(eZ.length:Int))then
  (idx eZ v4).bind λx9=>
  (idx b_1 v4).bind λFL=>
  (ada x9 FL).bind λr11=>
  if !r11 then
   some false
  else
   dR (IntKind.wrap .i64<|v4+1)
 else
  adR ()
def adb(eZ:(List aa))(b_1:(List aa)):Option Bool:=
 if !decide ((eZ.length:Int)=(b_1.length:Int))then
  some false
 else
  aR (abw eZ b_1) FU 0
def xM(y2:(List Int))(l4:(List au))(y6:(List Int)):Option aF:=
 some (aF.mk l4 y6 y2)
def kT(nK:Int×(List Int)->Option aF)(v8:Int×(List Int))(y13:Int):Option aF:=
 (app 8 v8.2<|[IntKind.wrap .i64 (1+y13)]).bind λl14=>
 nK (IntKind.wrap .i64<|v8.1+1,l14)
def qd(Ah:cg)(y2:(List Int))(l4:(List au))(y5:Int)(nK:Int×(List Int)->Option aF)(v8:Int×(List Int)):Option aF:=
 if decide (v8.1<(l4.length:Int))then
  if decide (v8.1<(Ah.cq.length:Int))then
   (idx Ah.cq v8.1).bind λx17=>
   nL (!decide ((IntKind.wrap .i64<|y5-1)=0)) (
   nL (!decide ((IntKind.wrap .i64<|y5-1)=0)) (
   kT nK v8 (Int.tmod (IntKind.wrap .i64 ((IntKind.wrap .i64 ((Int.tmod x17 (IntKind.wrap .i64 (y5-1)))+y5))-1)) (IntKind.wrap .i64 (y5-1)))))
  else
   kT nK v8 (IntKind.wrap .i64<|y5-2)
 else
  xM y2 l4 v8.2
def kS(Ah:cg)(y2:(List Int))(l4:(List au))(y5:Int):Option aF:=
 aR (qd Ah y2 l4 y5) FU (0,([]:List Int))
def kU(Ah:cg)(y2:(List Int))(l4:(List au))(adV:Int×Int->Option aF)(v21:Int×Int):Option aF:=
 if decide (v21.2<(y2.length:Int))then
  adV (IntKind.wrap .i64<|v21.1*2,IntKind.wrap .i64 (v21.2+1))
 else
  kS Ah y2 l4 v21.1
def qc(Ah:cg)(y2:(List Int))(y3:ByteArray×(List au)):Option aF:=
 (app 32 y3.2<|[(au.mk y3.1 ByteArray.empty)]).bind λl4=>
 aR (kU Ah y2 l4) FU (1,0)
def oa(Ah:cg)(y2:(List Int))(FO:ByteArray×Int×(List au)->Option aF)(v27:ByteArray×Int×(List au))(y31:Bool):Option aF:=
 if y31 then
  (idx Ah.Ends v27.2.1).bind λx33=>
  if !(slt (bytesOf<|[IntKind.wrap .u8 (IntKind.wrap .i64<|97+(Int.tmod (IntKind.wrap .i64 ((Int.tmod x33 8)+8)) 8))]) v27.1||seq (bytesOf<|[IntKind.wrap .u8 (IntKind.wrap .i64<|97+(Int.tmod (IntKind.wrap .i64 ((Int.tmod x33 8)+8)) 8))]) v27.1)then
   (app 32 v27.2.2<|[(au.mk v27.1<|bytesOf<|[IntKind.wrap .u8 (IntKind.wrap .i64<|97+(Int.tmod (IntKind.wrap .i64 ((Int.tmod x33 8)+8)) 8))])]).bind λl35=>
   FO (bytesOf<|[IntKind.wrap .u8 (IntKind.wrap .i64<|97+(Int.tmod (IntKind.wrap .i64 ((Int.tmod x33 8)+8)) 8))],IntKind.wrap .i64 (v27.2.1+1),l35)
  else
   FO (v27.1,IntKind.wrap .i64 (v27.2.1+1),v27.2.2)
 else
  qc Ah y2 (v27.1,v27.2.2)
def qf(Ah:cg)(y2:(List Int))(FO:ByteArray×Int×(List au)->Option aF)(v27:ByteArray×Int×(List au)):Option aF:=
 if decide (v27.2.1<(Ah.Ends.length:Int))then
  oa Ah y2 FO v27 (decide (v27.2.1<4))
 else
  oa Ah y2 FO v27 false
def kR(Ah:cg)(y2:(List Int)):Option aF:=
 aR (qf Ah y2) FU (ByteArray.empty,0,([]:List au))
def jT(Jn:Int×(List Int)->Option aF)(Xk:Int×(List Int))(y44:Int):Option aF:=
 (app 8 Xk.2<|[y44]).bind λl45=>
 Jn (IntKind.wrap .i64<|Xk.1+1,l45)
def ia(Ah:cg)(cR:Int)(Jn:Int×(List Int)->Option aF)(Xk:Int×(List Int)):Option aF:=
 if decide (Xk.1<cR)then
  if decide (Xk.1<(Ah.aK.length:Int))then
   (idx Ah.aK Xk.1).bind λx48=>
   nL (!decide (Xk.1=0)) (
   nL (!decide (Xk.1=0)) (
   jT Jn Xk (Int.tmod (IntKind.wrap .i64 ((Int.tmod x48 Xk.1)+Xk.1)) Xk.1)))
  else
   jT Jn Xk 0
 else
  kR Ah Xk.2
def iP(Ah:cg)(cR:Int)(y1:(List Int)):Option aF:=
 aR (ia Ah cR) FU (2,y1)
def gY(Ah:cg)(cR:Int)(FP:Int×(List Int)->Option aF)(VN:Int×(List Int))(y56:Bool):Option aF:=
 if y56 then
  (idx Ah.aK VN.1).bind λx58=>
  nL (!decide ((IntKind.wrap .i64<|VN.1+2)=0)) (
  nL (!decide ((IntKind.wrap .i64<|VN.1+2)=0)) (
  (app 8 VN.2<|[Int.tmod (IntKind.wrap .i64 ((IntKind.wrap .i64 ((Int.tmod x58<|IntKind.wrap .i64<|VN.1+2)+VN.1))+2)) (IntKind.wrap .i64<|VN.1+2)]).bind λl61=>
  FP (IntKind.wrap .i64 (VN.1+1),l61)))
 else
  iP Ah cR VN.2
def ic(Ah:cg)(cR:Int)(FP:Int×(List Int)->Option aF)(VN:Int×(List Int)):Option aF:=
 if decide (VN.1<(Ah.aK.length:Int))then
  if decide (VN.1<3)then
   gY Ah cR FP VN (decide (cR=0))
  else
   gY Ah cR FP VN false
 else
  gY Ah cR FP VN false
def fO(Ah:cg)(cR:Int):Option aF:=
 aR (ic Ah cR) FU (0,[(-1),0])
def zS(S5:Int):Option ByteArray:=
 some (bytesOf<|[IntKind.wrap .u8 (IntKind.wrap .i64<|97+(IntKind.wrap .i64 (BitVec.ofInt (IntKind.bits .i64) S5&&& BitVec.ofInt (IntKind.bits .i64) 7).toNat))])
def iH(eZ:js)(cR:Int)(x1:Int)(r2:ByteArray)(y3:(List ByteArray))(y4:Bool):Option aI:=
 if y4 then
  (fO eZ.Row cR).bind λr6=>
  some (aI.mk 12 (IntKind.wrap .i64 (BitVec.ofInt (IntKind.bits .i64) eZ.Client&&& BitVec.ofInt (IntKind.bits .i64) 3).toNat) (Int.tmod (IntKind.wrap .i64 ((Int.tmod eZ.Site 5)+5)) 5) (Int.tmod (IntKind.wrap .i64 ((Int.tmod eZ.To 5)+5)) 5) (IntKind.wrap .i64 (BitVec.ofInt (IntKind.bits .i64) eZ.At&&& BitVec.ofInt (IntKind.bits .i64) 7).toNat) eZ.How r2 (bytesOf<|[IntKind.wrap .u8 (IntKind.wrap .i64<|112+(IntKind.wrap .i64 (BitVec.ofInt (IntKind.bits .i64) eZ.Value&&& BitVec.ofInt (IntKind.bits .i64) 7).toNat))]) y3 r6)
 else
  some (aI.mk x1 (IntKind.wrap .i64 (BitVec.ofInt (IntKind.bits .i64) eZ.Client&&& BitVec.ofInt (IntKind.bits .i64) 3).toNat) (Int.tmod (IntKind.wrap .i64 ((Int.tmod eZ.Site 5)+5)) 5) (Int.tmod (IntKind.wrap .i64 ((Int.tmod eZ.To 5)+5)) 5) (IntKind.wrap .i64 (BitVec.ofInt (IntKind.bits .i64) eZ.At&&& BitVec.ofInt (IntKind.bits .i64) 7).toNat) eZ.How r2 (bytesOf<|[IntKind.wrap .u8 (IntKind.wrap .i64<|112+(IntKind.wrap .i64 (BitVec.ofInt (IntKind.bits .i64) eZ.Value&&& BitVec.ofInt (IntKind.bits .i64) 7).toNat))]) y3<|aF.mk ([]:(List au)) ([]:(List Int)) ([]:(List Int)))
def nM(eZ:js)(cR:Int)(x1:Int)(r2:ByteArray)(y3:(List ByteArray)):Option aI:=
 if decide (x1=11)then
  iH eZ cR x1 r2 y3 (decide ((IntKind.wrap .i64 (BitVec.ofInt (IntKind.bits .i64) eZ.How&&& BitVec.ofInt (IntKind.bits .i64) 3).toNat)=3))
 else
  iH eZ cR x1 r2 y3 false
def nN(eZ:js)(cR:Int)(x1:Int)(r2:ByteArray)(Jm:Int×(List ByteArray)->Option aI)(v10:Int×(List ByteArray))(y14:Bool):Option aI:=
 if y14 then
  (idx eZ.Keys v10.1).bind λx16=>
  (zS x16).bind λr17=>
  (app 16 v10.2<|[r17]).bind λl18=>
  Jm (IntKind.wrap .i64<|v10.1+1,l18)
 else
  nM eZ cR x1 r2 v10.2
def nO(eZ:js)(cR:Int)(x1:Int)(r2:ByteArray)(Jm:Int×(List ByteArray)->Option aI)(v10:Int×(List ByteArray)):Option aI:=
 if decide (v10.1<(eZ.Keys.length:Int))then
  nN eZ cR x1 r2 Jm v10 (decide (v10.1<5))
 else
  nN eZ cR x1 r2 Jm v10 false
def qb(eZ:js)(cR:Int):Option aI:=
 (Ol 16 ([1,1,1,2,3,3,4,5,6,7,8,8,8,9,10,11])<|IntKind.wrap .i64 (BitVec.ofInt (IntKind.bits .i64) eZ.Kind&&& BitVec.ofInt (IntKind.bits .i64) 15).toNat).bind λx1=>
 (zS eZ.Key).bind λr2=>
 aR (nO eZ cR x1 r2) FU (0,([]:List ByteArray))
def ade(eZ:aA)(b_1:aA):Option Bool:=
 (adb eZ.Found b_1.Found).bind λr1=>
 if r1 then
  some (decide (eZ.Err=b_1.Err))
 else
  some false
def qw(Ah:lf):Option aF:=
 (fO (cg.mk Ah.Ends Ah.cq Ah.aK) 0).bind λr1=>
 some r1
def rM(eZ:mH)(cR:Int):Option aI:=
 (qb (js.mk eZ.Kind eZ.Client eZ.Site eZ.To eZ.At eZ.How eZ.Key eZ.Value eZ.Keys<|cg.mk eZ.Row.Ends eZ.Row.cq eZ.Row.aK) cR).bind λr1=>
 some r1
def aeu(_y2:Unit):Option Bool:=
 some true
def ac6(eZ:(List cZ))(b_1:(List cZ))(dR:Int->Option Bool)(v4:Int):Option Bool:=
 if decide (v4<(eZ.length:Int))then
  (idx eZ v4).bind λx9=>
  (idx b_1 v4).bind λFL=>
  (kC x9.Seen FL.Seen).bind λr11=>
  if !r11 then
   some false
  else
   (idx eZ v4).bind λZ4=>
   (idx b_1 v4).bind λZ5=>
   if !decide (Z4.Kind=Z5.Kind)then
    some false
   else
    (idx eZ v4).bind λx16=>
    (idx b_1 v4).bind λx17=>
    if !decide (x16.Client=x17.Client)then
     some false
    else
     (idx eZ v4).bind λx19=>
     (idx b_1 v4).bind λx20=>
     if !seq x19.Key x20.Key then
      some false
     else
      (idx eZ v4).bind λx22=>
      (idx b_1 v4).bind λx23=>
      if !(decide (x22.aq.N=x23.aq.N)&&decide (x22.aq.Site=x23.aq.Site))then
       some false
      else
       dR (IntKind.wrap .i64<|v4+1)
 else
  aeu ()
def abv(eZ:(List cZ))(b_1:(List cZ)):Option Bool:=
 if !decide ((eZ.length:Int)=(b_1.length:Int))then
  some false
 else
  aR (ac6 eZ b_1) FU 0
end Go.Ark
namespace Go.Ab
open Go Go.RowKit
def BV.calm:BV->Bool
 | .sem _=>false
 | .ro _=>false
 | .yg _=>false
 | _=>true
def SV.calm:SV->Bool
 | .one b=>b.calm
 | .eV l=>l.all BV.calm
 | .dead=>true
def HE.calm:HE->Bool
 | .blk _ cs=>cs.all BV.calm
 | .row _ _ _ ex=>ex
 | _=>true
theorem QV{e:HE}(h:e.calm=true)(o:Nat):e.xK o:=by
 cases e<;>first | trivial | exact .inl h
def HE.isObj:HE->Bool
 | .obj _=>true
 | _=>false
abbrev OP:=(Nat->Nat->Prop)->World->(Nat->Prop)->Prop
structure bL(Φ:OP):Prop where
 mono:∀{M M':Nat->Nat->Prop}{w w':World}{O:Nat->Prop},Φ M w O->(∀b,O b->w'.heap[b]? =w.heap[b]?)->(∀b o x,¬M b o->w.cell? ⟨b,o,none⟩=some x->w'.cell? ⟨b,o,none⟩=some x/\¬M' b o)->Φ M' w' O
 lt:∀{M:Nat->Nat->Prop}{w:World}{O:Nat->Prop},Φ M w O->∀b,O b->b<w.heap.size
structure Lk{P:Program}{nt:Nat}(C0 C:Cx P nt):Prop where
 keep:cU C0.K C0.w0 C.w0
 K:∀b,C.K b->C0.K b\/C0.w0.heap.size<=b
 M:∀b o,C0.M b o->C.M b o
 F:C.F=C0.F
 low:∀b o,C0.M b o->b<C0.w0.heap.size/\¬C0.K b
structure Xs{P:Program}{nt:Nat}(C0 C:Cx P nt)(hp:HL)(σ:Nat->Nat->Prop):Prop where
 ok:∀k Φ,aE hp k=some (.obj Φ)->Φ (λb o=>C.M b o\/C.K b) C.w0 (σ k)
 own:∀k Φ b,aE hp k=some (.obj Φ)->σ k b->(∀o,C.M b o)/\(C0.K b\/C0.w0.heap.size<=b)
 Q4:∀k k' Φ iz b,aE hp k=some (.obj Φ)->aE hp k'=some (.obj iz)->σ k b->σ k' b->k=k'
 mono:∀k Φ,aE hp k=some (.obj Φ)->bL Φ
variable{P:Program}{nt:Nat}{hp dg:HL}{C0 C:Cx P nt}
theorem Xs.sub{σ:Nat->Nat->Prop}(h:Xs C0 C hp σ)(hs:∀n Φ,aE dg n=some (.obj Φ)->aE hp n=some (.obj Φ)):Xs C0 C dg σ:=
 ⟨λk Φ hk=>h.ok k Φ<|hs k Φ hk,λk Φ b hk=>h.own k Φ b<|hs k Φ hk,λk k' Φ iz b h1 h2=>h.Q4 k k' Φ iz b (hs k Φ h1)<|hs k' iz h2,λk Φ hk=>h.mono k Φ<|hs k Φ hk⟩
def bE{P:Program}{nt:Nat}(C0:Cx P nt)(st:St)(a:Act)(w:World):Prop:=
 ∃C σ,Lk C0 C/\Xs C0 C st.hp σ/\(∀t sv,bG st.sl t=some sv->sv.calm=true)/\(∀k e,aE st.hp k=some e->e.calm=true)/\Rel C st a w
structure GF{P:Program}{nt:Nat}{R:Type}(C0:Cx P nt)(Q:R->Exit->Act->World->Prop)(r:R)(F:Option R)(k:List KI)(st:St):Prop where
 go:F=some r->∀a w,bE C0 st a w->Hq P (Q r) k .normal a w
structure QE{P:Program}{nt:Nat}{R:Type}(C0:Cx P nt)(Q:R->Exit->Act->World->Prop)(r:R)(F:Option R)(id:Nat)(k:List KI)(st:St):Prop where
 go:F=some r->∀a w,bE C0 st a w->Hq P (Q r) k (.exit id) a w
variable{R:Type}{k:List KI}{st:St}{sl:SL}{Q:R->Exit->Act->World->Prop}{F Y:Option R}
section
variable{r:R}{k':List KI}{st':St}
theorem GF.lift(h:∀(C:Cx P nt)(Q0:Exit->Act->World->Prop),G C Q0 k' st'->G C Q0 k st)(ho:∀n Φ,aE st'.hp n=some (.obj Φ)->aE st.hp n=some (.obj Φ))
  (hs:(∀t sv,bG st.sl t=some sv->sv.calm=true)->∀t sv,bG st'.sl t=some sv->sv.calm=true) (hh:(∀n e,aE st.hp n=some e->e.calm=true)->∀n e,aE st'.hp n=some e->e.calm=true)
  (hk:GF C0 Q r F k' st'):GF C0 Q r F k st:=
 ⟨λhr a w⟨C,σ,hl,hb,h1,h2,hrel⟩=>(h C (Q r) ⟨λa w Gg=>hk.go hr a w ⟨C,σ,hl,hb.sub ho,hs h1,hh h2,Gg⟩⟩).go a w hrel⟩
theorem Nc{Ws:SL}(hW:Ws.all (λp=>p.2.calm)=true)(h:∀t sv,bG sl t=some sv->sv.calm=true):∀t sv,bG (Ws++sl) t=some sv->sv.calm=true:=by
 intro t sv hs
 induction Ws with
 | nil=>exact h t sv hs
 | cons p l ih=>
  obtain⟨n,c⟩:=p;simp only[ayO,avA]at hW;rw[av4,eX]at hs;by_cases c':n=t
  ·rw[avk c']at hs;cases hs;exact hW.1
  ·rw[avj c']at hs;exact ih hW.2 hs
theorem aat{Wh:HL}(hW:Wh.all (λp=>match p.2 with | some e=>e.calm&& !e.isObj | none=>true)=true)(h:∀n e,aE hp n=some e->e.calm=true):∀n e,aE (Wh++hp) n=some e->e.calm=true:=by
 intro n e hs
 induction Wh with
 | nil=>exact h n e hs
 | cons p l ih=>
  obtain⟨m,c⟩:=p;simp only[ayO,avA]at hW;rw[av4,aG]at hs;by_cases c':m=n
  ·rw[avk c']at hs;subst hs;simp only[avA]at hW;exact hW.1.1
  ·rw[avj c']at hs;exact ih hW.2 hs
theorem aie{Wh:HL}(hW:Wh.all (λp=>match p.2 with | some e=>e.calm&& !e.isObj | none=>true)=true):∀n Φ,aE (Wh++hp) n=some (.obj Φ)->aE hp n=some (.obj Φ):=by
 intro n Φ hs
 induction Wh with
 | nil=>exact hs
 | cons p l ih=>
  obtain⟨m,c⟩:=p;simp only[ayO,avA]at hW;rw[av4,aG]at hs;by_cases c':m=n
  ·rw[avk c']at hs;subst hs;simp[HE.isObj]at hW
  ·rw[avj c']at hs;exact ih hW.2 hs
theorem GF.lc(h:∀(C:Cx P nt)(Q0:Exit->Act->World->Prop),G C Q0 k' st->G C Q0 k st)(hk:GF C0 Q r F k' st):GF C0 Q r F k st:=GF.lift h (λ_ _ h=>h) (λh=>h) (λh=>h) hk
theorem GF.seq{x y:Code}(h:GF C0 Q r F (.c x:: .c y::k) st):GF C0 Q r F (.c (.seq x y)::k) st:=GF.lc (λ_ _=>G.seq) h
theorem GF.block{id:Nat}{x:Code}(h:GF C0 Q r F (.c x:: .b id::k) st):GF C0 Q r F (.c (.block id x)::k) st:=GF.lc (λ_ _=>G.block) h
theorem GF.endBlock{id:Nat}(h:GF C0 Q r F k st):GF C0 Q r F (.b id::k) st:=GF.lc (λ_ _=>G.endBlock) h
theorem GF.scope{x:Code}(h:GF C0 Q r F (.c x:: .s::k) st):GF C0 Q r F (.c (.scope x)::k) st:=GF.lc (λ_ _=>G.scope) h
theorem GF.skip(h:GF C0 Q r F k st):GF C0 Q r F (.c .skip::k) st:=GF.lc (λ_ _=>G.skip) h
theorem GF.label{l:Nat}(h:GF C0 Q r F k st):GF C0 Q r F (.c (.label l)::k) st:=GF.lc (λ_ _=>G.label) h
theorem GF.exit{id:Nat}(h:QE C0 Q r F id k st):GF C0 Q r F (.c (.exit id)::k) st:=⟨λhr a w hrel=>wp_exit (h.go hr a w hrel)⟩
theorem QE.c{id:Nat}{x:Code}(h:QE C0 Q r F id k st):QE C0 Q r F id (.c x::k) st:=⟨λhr a w q=>h.go hr a w q⟩
theorem QE.q{id:Nat}{K:Act->World->Prop}(h:QE C0 Q r F id k st):QE C0 Q r F id (.q K::k) st:=⟨λhr a w q=>h.go hr a w q⟩
theorem QE.bNo{id id':Nat}(hn:Nat.beq id id'=false)(h:QE C0 Q r F id k st):QE C0 Q r F id (.b id'::k) st:=⟨λhr a w q=>by
 have hne:¬(id=id'):=λc=>by subst c;simp at hn
 show Exit.inBlock id' (Hq P (Q r) k) (.exit id) a w;simp only[Exit.inBlock,hne,avB];exact h.go hr a w q⟩
theorem QE.aha{id:Nat}(h:GF C0 Q r F k st):QE C0 Q r F id (.b id::k) st:=⟨λhr a w q=>by
 show Exit.inBlock id (Hq P (Q r) k) (.exit id) a w;simp only[Exit.inBlock,avM];exact h.go hr a w q⟩
theorem GF.Wb{t:Nat}{x y:Code}(hs:bG st.sl t=some (.one (bB true)))(h:GF C0 Q r F (.c x::k) st):GF C0 Q r F (.c (.cond (.tmp t) x y)::k) st:=GF.lc (λ_ _=>G.Wb hs) h
theorem GF.Wa{t:Nat}{x y:Code}(hs:bG st.sl t=some (.one (bB false)))(h:GF C0 Q r F (.c y::k) st):GF C0 Q r F (.c (.cond (.tmp t) x y)::k) st:=GF.lc (λ_ _=>G.Wa hs) h
theorem GF.region{id:Nat}{l:List Oper}(h:GF C0 Q r F (.l l.toArray l::k) st):GF C0 Q r F (.c (.region id l.toArray false)::k) st:=GF.lc (λ_ _=>G.region) h
theorem GF.Ka{ops:Array Oper}(h:GF C0 Q r F k st):GF C0 Q r F (.l ops [] ::k) st:=GF.lc (λ_ _=>G.Ka) h
theorem GF.known{sl:SL}{hp:HL}{t:Nat}{b c:Bool}(hb:b=c)(hs:bG sl t=some (.one (bB b)))(h:GF C0 Q r F k ⟨(t,.one (bB c))::sl,hp⟩):GF C0 Q r F k ⟨sl,hp⟩:=
 GF.lift (λ_ _=>G.known hb hs) (λ_ _ h=>h) (Nc (Ws:=[(t,.one (bB c))]) U) (λh=>h) h
theorem GF.ite{b:Bool}{X:Option R}(h1:b=true->GF C0 Q r X k st)(h2:b=false->GF C0 Q r Y k st):GF C0 Q r (if b=true then X else Y) k st:=by
 cases b
 ·exact⟨(h2 U).go⟩
 ·exact⟨(h1 U).go⟩
theorem GF.nL{b:Bool}{X:Option R}(h:b=true->GF C0 Q r X k st):GF C0 Q r (nL b X) k st:=⟨λhr=>(h (ad9 hr).1).go (ad9 hr).2⟩
theorem GF.never:GF C0 Q r Option.none k st:=⟨λh=>azm⟩
theorem GF.eq{F':Option R}(e:F=F')(h:GF C0 Q r F' k st):GF C0 Q r F k st:=e ▸ h
theorem bE.cv{sl sl':SL}{hp dg:HL}{a:Act}{w:World}(r:bE C0 ⟨sl,hp⟩ a w)(hs:bK sl sl')(hh:dn hp dg)(hw:tY sl' dg=true):bE C0 ⟨sl',dg⟩ a w:=by
 obtain⟨C,σ,h1,h2,h3,h4,h5⟩:=r;refine⟨C,σ,h1,h2.sub λn Φ hn=>?_,λt sv ht=>?_,λn e hn=>?_,h5.cv hs hh hw⟩
 ·exact hh.mem (lJ hn)
 ·exact h3 t sv (hs.mem<|wP ht)
 ·exact h4 n e (hh.mem<|lJ hn)
theorem GF.aR{T:Type}{x:Code}{body:(T->Option R)->T->Option R}{n:Nat}{v:T}(S:T->St)(hst:∀a w,bE C0 st a w->bE C0 (S v) a w)
  (round:∀(K:Act->World->Prop)(again:T->Option R)(v:T),(∀v' st',(∀a w,bE C0 st' a w->bE C0 (S v') a w)->GF C0 Q r (again v') (.q K::k) st')->GF C0 Q r (body again v) (.c x:: .q K::k) (S v)):
  GF C0 Q r (aR body n v) (.c (.loop x)::k) st:=by
 refine⟨λhr a w q=>?_⟩;refine BI (λn a w=>∃v,bE C0 (S v) a w/\Go.Ab.aR body n v=some r) n ⟨v,hst a w q,hr⟩ ?_;rintro n a w ⟨v,q,hF⟩;cases n with
 | zero=>cases hF
 | succ n=>
  exact(round (λa w=>∃m,m<n+1/\∃v,bE C0 (S v) a w/\Go.Ab.aR body m v=some r) (Go.Ab.aR body n) v λv' st' h=>⟨λhr a w q=>⟨n,Nat.lt_succ_self n,v',h a w q,hr⟩⟩).go hF a w q
end
variable{w w':World}
theorem BR.move{nt':Nat}{C':Cx P nt'}{β β':Nat->Option Nat}
  (hs:∀b o x,¬Mu C hp β b o->w.cell? ⟨b,o,none⟩=some x->w'.cell? ⟨b,o,none⟩=some x/\¬Mu C' dg β' b o)
  (ho:∀k e,aE hp k=some e->e.isObj=true->β k=none) (hb:∀k e b,aE hp k=some e->β k=some b->w'.heap[b]? =w.heap[b]?)
  {c:BV} {u:Value} (hg:∀k,k∈c.ids->∀e,aE hp k=some e->e.isObj=false->aE dg k=some e/\β' k=β k) (hc:c.calm=true) (r:BR C hp β w c u):BR C' dg β' w' c u:=by
 have hno:∀k e b,aE hp k=some e->β k=some b->e.isObj=false:=λk e b h1 h2=>by
  cases h:e.isObj with
  | false=>rfl
  | true=>rw[ho k e h1 h]at h2;cases h2
 have hown:∀(k:Nat)(B5:List (List DV))(s:Value),(∀e,aE hp k=some e->e.isObj=false->aE dg k=some e/\β' k=β k)->BR C hp β w (.own k B5) s->BR C' dg β' w' (.own k B5) s:=by
  rintro k B5 s hg ⟨T,size,es,ex,h1,h2,h3⟩;obtain⟨q1,q2⟩:=hg _ h1 U;refine⟨T,size,es,ex,q1,h2,λh=>?_⟩;rcases h3 h with⟨p1,p2⟩ | ⟨b,cap,cur,p1,p2,p3,p4,p5,p6⟩
  ·exact .inl ⟨q2.trans p1,p2⟩
  ·exact .inr ⟨b,cap,cur,q2.trans p1,p2,p3,p4,(hb k _ b h1 p1).trans p5,p6⟩
 cases c with
 | x v=>exact r
 | g a=>exact GR.mono hs r
 | ptr k off=>
  obtain⟨⟨e,he,hr⟩,b,hb',hu⟩:=r;obtain⟨q1,q2⟩:=hg k aAL e he (hno k e b he hb');exact⟨⟨e,q1,hr⟩,b,q2.trans hb',hu⟩
 | ep cs=>
  obtain⟨b,o,hu,h⟩:=r;exact⟨b,o,hu,λj d hd=>let⟨x,hx,hm,hr⟩:=h j d hd;⟨x,(hs _ _ _ hm hx).1,(hs _ _ _ hm hx).2,hr.mono hs⟩⟩
 | own k es=>exact hown k es u (λe=>hg k aAL e) r
 | cp size es=>exact⟨r.1.mono hs,r.2⟩
 | yh f caps=>
  obtain⟨us,hu,hl,h⟩:=r;refine⟨us,hu,hl,λi k hik=>?_⟩;obtain⟨⟨e,he,hr⟩,b,hb',hx⟩:=h i k hik;obtain⟨q1,q2⟩:=hg k (avH hik) e he (hno k e b he hb');exact⟨⟨e,q1,hr⟩,b,q2.trans hb',hx⟩
 | sem Φ=>cases hc
 | rp k es off=>
  obtain⟨s,h1,h2⟩:=r;exact⟨s,hown k es s (λe=>hg k aAL e) h1,h2⟩
 | pv k Ψ=>
  obtain⟨⟨e,he,hr⟩,b,hb',hu⟩:=r;obtain⟨q1,q2⟩:=hg k aAL e he (hno k e b he hb');exact⟨⟨e,q1,hr⟩,b,q2.trans hb',hu⟩
 | any n=>exact r
 | ro Φ=>cases hc
 | yg a=>cases hc
theorem HR.move{P:Program}{nt nt':Nat}{C:Cx P nt}{C':Cx P nt'}{hp dg:HL}{β β':Nat->Option Nat}{w w':World}
  (hs:∀b o x,¬Mu C hp β b o->w.cell? ⟨b,o,none⟩=some x->w'.cell? ⟨b,o,none⟩=some x/\¬Mu C' dg β' b o)
  (ho:∀k e,aE hp k=some e->e.isObj=true->β k=none) (hb:∀k e b,aE hp k=some e->β k=some b->w'.heap[b]? =w.heap[b]?)
  {k:Nat} {e:HE} (hk:aE hp k=some e) (hn:e.isObj=false) (hβ:β' k=β k) (hg:∀k,k∈e.ids->∀e,aE hp k=some e->e.isObj=false->aE dg k=some e/\β' k=β k) (hc:e.calm=true)
  (r:HR C hp β w k e):HR C' dg β' w' k e:=by
 cases e with
 | blk T cs=>
  obtain⟨b,arr,h1,h2,h3,h4⟩:=r;refine⟨b,arr,hβ.trans h1,(hb k _ b hk h1).trans h2,h3,λj c hj=>?_⟩;obtain⟨u,q1,q2,q3⟩:=h4 j c hj;exact⟨u,q1,q2,BR.move hs ho hb (λk' hk'=>hg k'<|axg.2 ⟨c,avH hj,hk'⟩) (avI.1 hc c<|avH hj) q3⟩
 | row T size es ex=>
  obtain⟨hz,hs',hr⟩:=r;refine⟨hz,hs',hr.imp (λ⟨q1,q2⟩=>⟨hβ.trans q1,q2⟩) ?_⟩;rintro⟨b,cur,h1,h2,h3,h4⟩;exact⟨b,cur,hβ.trans h1,(hb k _ b hk h1).trans h2,h3,λi cs j d hi hj=>let⟨u,hu,hr⟩:=h4 i cs j d hi hj;⟨u,hu,hr.mono hs⟩⟩
 | it s pos=>
  obtain⟨b,h1,h2⟩:=r;exact⟨b,hβ.trans h1,(hb k _ b hk h1).trans h2⟩
 | pr Φ=>
  obtain⟨b,o,h1,h2,h3⟩:=r;exact⟨b,o,hβ.trans h1,(hb k _ b hk h1).trans h2,h3⟩
 | map es=>
  obtain⟨b,cm,h1,h2,h3,h4⟩:=r;exact⟨b,cm,hβ.trans h1,(hb k _ b hk h1).trans h2,h3,λi e he=>let⟨x,q1,q2,q3,q4⟩:=h4 i e he;⟨x,q1,q2,q3,q4.mono hs⟩⟩
 | ZV T E kk s=>
  obtain⟨hkk,b,p,v,h1,h2,h3,h4,h5⟩:=r;obtain⟨q1,q2⟩:=hg kk (by simp[HE.ids]) _ hkk U;exact⟨q1,b,p,v,hβ.trans h1,h2,(hb k _ b hk h1).trans h3,dz h4 λg hg'=>hb kk _ g hkk<|h5.symm.trans hg',h5.trans q2.symm⟩
 | hid _ _=>trivial
 | obj _=>cases hn
theorem dD.move{P:Program}{nt:Nat}{C C':Cx P nt}{sl:SL}{hp dg:HL}{β β':Nat->Option Nat}{a:Act}{w w':World}(r:dD C ⟨sl,hp⟩ β a w)
  (c1:∀t sv,bG sl t=some sv->sv.calm=true) (c2:∀k e,aE hp k=some e->e.calm=true)
  (hs:∀b o x,¬Mu C hp β b o->w.cell? ⟨b,o,none⟩=some x->w'.cell? ⟨b,o,none⟩=some x/\¬Mu C' dg β' b o)
  (hb:∀k e b,aE hp k=some e->β k=some b->w'.heap[b]? =w.heap[b]?)
  (gs:∀t sv,bG sl t=some sv->∀k,k∈sv.ids->∀e,aE hp k=some e->e.isObj=false->aE dg k=some e/\β' k=β k)
  (keep:Tk C' w') (low:∀b o,C'.M b o->b<C'.w0.heap.size/\¬C'.K b)
  (inj:∀k k' e e' b,aE dg k=some e->aE dg k'=some e'->β' k=some b->β' k'=some b->k=k')
  (own:∀k e b,aE dg k=some e->β' k=some b->(C'.w0.heap.size<=b\/C'.K b)/\b<w'.heap.size)
  (new:∀k e,aE dg k=some e->(aE hp k=some e/\e.isObj=false/\β' k=β k/\∀k,k∈e.ids->∀e,aE hp k=some e->e.isObj=false->aE dg k=some e/\β' k=β k)\/HR C' dg β' w' k e)
  (fx:∀b,C'.F=some b->β' 0=some b/\∀e,aE dg 0=some e->e.isRow=false):dD C' ⟨sl,dg⟩ β' a w':=by
 have ho:∀k e,aE hp k=some e->e.isObj=true->β k=none:=λk e h1 h2=>by
  cases e<;>first | (cases h2;done) | exact r.hp k _ h1
 refine⟨keep,low,inj,own,λk e hk=>?_,λt sv Tg=>?_,r.size,r.df,fx⟩
 ·rcases new k e hk with⟨h1,h2,h3,h4⟩ | h
  ·exact HR.move hs ho hb h1 h2 h3 h4 (c2 k e h1) (r.hp k e h1)
  ·exact h
 ·have h1:=r.sl t sv Tg
  have h2:=c1 t sv Tg;cases sv with
  | one b=>exact BR.move hs ho hb (λk hk=>gs t _ Tg k hk) h2 h1
  | eV l=>
   obtain⟨us,q1,q2,q3⟩:=h1;refine⟨us,q1,q2,λi b hi=>?_⟩;obtain⟨x,p1,p2⟩:=q3 i b hi;exact⟨x,p1,BR.move hs ho hb (λk hk=>gs t _ Tg k<|axg.2 ⟨b,avH hi,hk⟩) (avI.1 h2 b<|avH hi) p2⟩
  | dead=>trivial
variable{a:Act}{Φ:OP}
section
theorem Py{σ:Nat->Nat->Prop}{β:Nat->Option Nat}(ob:Xs C0 C hp σ)(r:dD C ⟨sl,hp⟩ β a w){k:Nat}(hk:aE hp k=some (.obj Φ)):
  Φ (Mu C hp β) w (σ k):=by
 refine(ob.mono k Φ hk).mono (ob.ok k Φ hk) (λb hb=>?_) (λb o x hn hx=>?_)
 ·obtain⟨h1,h2⟩:=r.low b 0 ((ob.own k Φ b hk hb).1 0)
  exact r.keep.block b h1 h2
 ·have hlt:=cz hx
  have hK:¬C.K b:=λc=>hn (.inr c);refine⟨by rw[awh (w:=C.w0) (a:=⟨b,o,none⟩) (r.keep.block b hlt hK)];exact hx,?_⟩;rintro(c | ⟨k',e',h1,h2,_⟩)
  ·exact hn (.inl c)
  ·rcases(r.own k' e' b h1 h2).1 with h3 | h3
   ·omega
   ·exact hK h3
theorem Lk.Gj(lk:Lk C0 C)(k:Tk C w):cU C0.K C0.w0 w:=
 ⟨k.os.trans lk.keep.os,k.tape.trans lk.keep.tape,k.output.trans lk.keep.output,awa lk.keep.size k.size,λi hi hK=>
  (k.block i (avE hi lk.keep.size) (λc=>(lk.K i c).elim hK λc=>ayT)).trans (lk.keep.block i hi hK)⟩
end
def I3(M:Nat->Nat->Prop)(w':World):RS->Value->Prop
 | .one g,v=>GR M w' v g
 | .eV l,v=>∃us:Array Value,v= .tuple us/\us.size=l.length/\∀(i:Nat)(g:AG),l[i]? =some g->∃x,us[i]? =some x/\GR M w' x g
 | .new _ _ _,_=>False
theorem I3.sv{P:Program}{nt:Nat}{C:Cx P nt}{hp:HL}{β:Nat->Option Nat}{w':World}{M':Nat->Nat->Prop}{res:RS}{v:Value}(h:I3 M' w' res v)(hm:∀b o,Mu C hp β b o->M' b o):SR C hp β w' res.sv v:=by
 cases res with
 | one g=>exact GR.less hm h
 | eV l=>
  obtain⟨us,h1,h2,h3⟩:=h;refine⟨us,h1,azG,λi b hb=>?_⟩;simp only[avL,awd]at hb;obtain⟨g,hg,rfl⟩:=hb;obtain⟨x,q1,q2⟩:=h3 i g hg;exact⟨x,q1,GR.less hm q2⟩
 | new T size es=>exact h.elim
def Ei(M:Nat->Nat->Prop)(w:World)(O:Nat->Prop)(iz:OP)(res:RS)(v:Value)(w':World):Prop:=
 ∃O',cU O w w'/\(∀b,O' b->O b\/w.heap.size<=b)/\(∀b,O' b->b<w'.heap.size)/\iz (λb o=>(M b o/\¬O b)\/O' b) w' O'/\I3 (λb o=>(M b o/\¬O b)\/O' b) w' res v
theorem DX(res:RS):res.sv.calm=true:=by
 cases res with
 | one g=>rfl
 | eV l=>simp[RS.sv,SV.calm,avI,BV.calm]
 | new T size es=>rfl
variable{O:Nat->Prop}
section
theorem Lk.after{C':Cx P nt}(lk:Lk C0 C)(kp:Tk C w)(Ag:cU O w w')(hO:∀b,O b->C0.K b\/C0.w0.heap.size<=b)
  (h0:C'.w0=w') (hK:∀b,C'.K b->C0.K b\/C0.w0.heap.size<=b) (hM:∀b o,C.M b o->¬O b->C'.M b o) (hF:C'.F=C.F):Lk C0 C':=by
 have k0:=lk.Gj kp;refine⟨⟨?_,?_,?_,?_,λi hi hK'=>?_⟩,hK,λb o hb=>hM b o (lk.M b o hb) λc=>?_,hF.trans lk.F,lk.low⟩
 ·rw[h0];exact Ag.os.trans k0.os
 ·rw[h0];exact Ag.tape.trans k0.tape
 ·rw[h0];exact Ag.output.trans k0.output
 ·rw[h0];exact awa k0.size Ag.size
 ·rw[h0,Ag.block i (avE hi k0.size) (λc=>(hO i c).elim hK' λc=>ayT)]
  exact k0.block i hi hK'
 ·have h1:=lk.low b o hb
  rcases hO b c with h2 | h2
  ·exact h1.2 h2
  ·omega
end
structure At{P:Program}{nt:Nat}(C0:Cx P nt)(sl:SL)(hp:HL)(kk:Nat)(Φ:OP)(a:Act)(w:World)(M:Nat->Nat->Prop)(O:Nat->Prop):Prop where
 lt:∀b o,M b o->b<w.heap.size
 own:∀b,O b->∀o,M b o
 obj:Φ M w O
 om:bL Φ
 args:∀{xs:List Operand}{gs:List RG}{Rs:List (Nat×SV)},L1 xs gs Rs->bK sl Rs->(xs.map a.eval).length=gs.length/\∀(i:Nat)(g:RG)(v:Value),gs[i]? =some g->(xs.map a.eval)[i]? =some v->Ai P M (λ_=>False) w g v
 one:∀{x:Operand}{g:AG}{Rs:List (Nat×SV)},Ev x (.g g) Rs->bK sl Rs->GR M w (a.eval x) g
 next:∀(iz:OP)(O':Nat->Prop)(w':World),bL iz->cU O w w'->(∀b,O' b->O b\/w.heap.size<=b)->(∀b,O' b->b<w'.heap.size)->iz (λb o=>(M b o/\¬O b)\/O' b) w' O'->
  bE C0 ⟨sl,(kk,some (.obj iz))::hp⟩ a w'/\∀(dst:Nat)(res:RS)(v:Value),dst<nt->I3 (λb o=>(M b o/\¬O b)\/O' b) w' res v->bE C0 ⟨(dst,res.sv)::sl,(kk,some (.obj iz))::hp⟩ (a.put (some dst) v) w'
variable{kk:Nat}
section
theorem dL(q:bE C0 ⟨sl,hp⟩ a w)(hk:aE hp kk=some (.obj Φ)):∃M O,At C0 sl hp kk Φ a w M O:=by
 obtain⟨C,σ,lk,ob,c1,c2,β,r⟩:=q;have an6:=Py ob r hk;have UO:∀b,σ kk b->∀o,C.M b o:=λb hb=>(ob.own kk _ b hk hb).1
 have Wt:∀b k e,σ kk b->aE hp k=some e->β k=some b->False:=λb k e hb h1 h2=>by
  obtain⟨q1,q2⟩:=r.low b 0 (UO b hb 0);rcases(r.own k e b h1 h2).1 with q3 | q3
  ·omega
  ·exact q2 q3
 refine⟨Mu C hp β,σ kk,λb o h=>r.yC h,λb hb o=>.inl<|UO b hb o,an6,ob.mono kk _ hk,λhx hs=>hx.ok hs r,λhx hs=>hx.ok hs r,?_⟩;intro iz O' w' hm' Ag hO' akt aos;suffices hS:∃C' σ' β',Lk C0 C'/\Xs C0 C' ((kk,some (HE.obj iz))::hp) σ'/\(∀t sv,bG sl t=some sv->sv.calm=true)/\(∀k e,aE ((kk,some (HE.obj iz))::hp) k=some e->e.calm=true)/\
   (∀b o,Mu C' ((kk,some (HE.obj iz))::hp) β' b o->(Mu C hp β b o/\¬σ kk b)\/O' b)/\dD C' ⟨sl,(kk,some (HE.obj iz))::hp⟩ β' a w' by
  obtain⟨C',σ',β',h1,h2,h3,h4,h5,h6⟩:=hS;refine⟨⟨C',σ',h1,h2,h3,h4,β',h6⟩,λdst res v hd hres=>⟨C',σ',h1,h2,Nc (Ws:=[(dst,res.sv)]) aAr h3,h4,β',h6.put (avU _ _) hd<|hres.sv h5⟩⟩
 let C':Cx P nt:=⟨w',λb o=>(C.M b o/\¬σ kk b)\/O' b,λb=>∃k e,aE hp k=some e/\β k=some b,C.F⟩
 let dg:HL:=(kk,some (.obj iz))::hp
 let σ':Nat->Nat->Prop:=λk=>if k=kk then O' else σ k
 have RF:∀k,aE dg k=if kk=k then some (.obj iz)else aE hp k:=λk=>aG _ _ _ _
 have ak7:β kk=none:=r.hp kk _ hk;have abK:∀k e b,aE dg k=some e->β k=some b->aE hp k=some e:=λk e b h1 h2=>by
  rw[RF]at h1;by_cases c:kk=k
  ·subst c;rw[ak7]at h2;cases h2
  ·rw[avj c]at h1;exact h1
 have Hl:∀b o,Mu C' dg β b o->(Mu C hp β b o/\¬σ kk b)\/O' b:=by
  rintro b o ((c | c) | ⟨k,e,q1,q2,q3⟩)
  ·exact .inl ⟨.inl c.1,c.2⟩
  ·exact .inr c
  ·have q1':=abK k e b q1 q2
   exact .inl ⟨.inr ⟨k,e,q1',q2,q3⟩,λc=>Wt b k e c q1' q2⟩
 have aeE:∀b,O' b->¬σ kk b->w.heap.size<=b:=λb h1 h2=>(hO' b h1).resolve_left h2
 have hst:∀b o x,¬Mu C hp β b o->w.cell? ⟨b,o,none⟩=some x->w'.cell? ⟨b,o,none⟩=some x/\¬Mu C' dg β b o:=λb o x hn hx=>by
  have hlt:=cz hx;have hno:¬σ kk b:=λc=>hn (.inl<|UO b c o);refine⟨by rw[awh (w:=w) (a:=⟨b,o,none⟩) (Ag.block b hlt hno)];exact hx,λc=>?_⟩;rcases Hl b o c with c | c
  ·exact hn c.1
  ·have:=aeE b c hno;omega
 have hgo:∀k e,aE hp k=some e->e.isObj=false->aE dg k=some e/\β k=β k:=λk e h1 h2=>by
  refine⟨?_,U⟩;rw[RF,avj (λc=>by subst c;rw[hk]at h1;cases h1;cases h2)];exact h1
 have hcK:∀b,O' b->C0.K b\/C0.w0.heap.size<=b:=λb hb=>(hO' b hb).elim (λc=>(ob.own kk _ b hk c).2) λc=>.inr (awa (lk.Gj r.keep).size c)
 refine⟨C',σ',β,lk.after r.keep Ag (λb hb=>(ob.own kk _ b hk hb).2) U (λb hb=>?_) (λb o h1 h2=>.inl ⟨h1,h2⟩) U,⟨λk LZ h3=>?_,λk LZ b h3 hb=>?_,λk k' LZ Φ2 b h3 h4 h5 h6=>?_,λk LZ h3=>?_⟩,λt sv ht=>?_,λk e h3=>?_,?_,?_⟩
 ·obtain⟨k,e,q1,q2⟩:=hb
  rcases(r.own k e b q1 q2).1 with q3 | q3
  ·exact .inr (awa lk.keep.size q3)
  ·exact lk.K b q3
 ·by_cases c:k=kk
  ·subst c
   rw[RF,avk rfl]at h3;cases h3;show iz _ w' (if k=k then O' else σ k);rw[avk rfl];refine hm'.mono aos (λ_ _=>rfl) (λb o x hn hx=>⟨hx,?_⟩);rintro((c | c) | ⟨k2,e2,q1,q2⟩)
   ·exact hn (.inl ⟨.inl c.1,c.2⟩)
   ·exact hn (.inr c)
   ·exact hn (.inl ⟨.inr ⟨k2,e2,q1,q2,QV (c2 k2 e2 q1) o⟩,λc=>Wt b k2 e2 c q1 q2⟩)
  ·rw[RF,avj (λc'=>c c'.symm)]at h3
   show LZ _ w' (if k=kk then O' else σ k);rw[avj c];have akF:∀b,σ k b->¬σ kk b:=λb h1 h2=>c (ob.Q4 k kk LZ _ b h3 hk h1 h2);refine(ob.mono k LZ h3).mono (Py ob r h3) (λb hb=>?_) (λb o x hn hx=>?_)
   ·obtain⟨q1,_⟩:=r.low b 0 ((ob.own k LZ b h3 hb).1 0)
    exact Ag.block b (avE q1 r.keep.size) (akF b hb)
   ·obtain⟨p1,p2⟩:=hst b o x hn hx
    refine⟨p1,?_⟩;rintro(c' | ⟨k2,e2,q1,q2⟩)
    ·exact p2 (.inl c')
    ·exact hn (.inr ⟨k2,e2,q1,q2,QV (c2 k2 e2 q1) o⟩)
 ·by_cases c:k=kk
  ·subst c
   have hb':O' b:=by have:(if k=k then O' else σ k) b:=hb;rwa [avk U]at this
   exact⟨λo=>.inr hb',hcK b hb'⟩
  ·rw[RF,avj (λc'=>c c'.symm)]at h3
   have hb':σ k b:=by have:(if k=kk then O' else σ k) b:=hb;rwa [avj c]at this
   exact⟨λo=>.inl ⟨(ob.own k LZ b h3 hb').1 o,λc'=>c<|ob.Q4 k kk LZ _ b h3 hk hb' c'⟩,(ob.own k LZ b h3 hb').2⟩
 ·have akM:∀k LZ,k≠kk->aE hp k=some (.obj LZ)->σ k b->¬O' b:=λk LZ c q1 q2 q3=>by
   rcases hO' b q3 with q4 | q4
   ·exact c (ob.Q4 k kk LZ _ b q1 hk q2 q4)
   ·have:=(r.low b 0<|(ob.own k LZ b q1 q2).1 0).1
    have:=r.keep.size;omega
  by_cases d1:k=kk<;>by_cases d2:k'=kk
  ·exact d1.trans d2.symm
  ·have q1:O' b:=by have:(if k=kk then O' else σ k) b:=h5;rwa [avk d1]at this
   have q2:σ k' b:=by have:(if k'=kk then O' else σ k') b:=h6;rwa [avj d2]at this
   rw[RF,avj (λc'=>d2 c'.symm)]at h4;exact absurd q1 (akM k' Φ2 d2 h4 q2)
  ·have q1:σ k b:=by have:(if k=kk then O' else σ k) b:=h5;rwa [avj d1]at this
   have q2:O' b:=by have:(if k'=kk then O' else σ k') b:=h6;rwa [avk d2]at this
   rw[RF,avj (λc'=>d1 c'.symm)]at h3;exact absurd q2 (akM k LZ d1 h3 q1)
  ·have q1:σ k b:=by have:(if k=kk then O' else σ k) b:=h5;rwa [avj d1]at this
   have q2:σ k' b:=by have:(if k'=kk then O' else σ k') b:=h6;rwa [avj d2]at this
   rw[RF,avj (λc'=>d1 c'.symm)]at h3;rw[RF,avj (λc'=>d2 c'.symm)]at h4;exact ob.Q4 k k' LZ Φ2 b h3 h4 q1 q2
 ·rw[RF]at h3
  by_cases c:kk=k
  ·rw[avk c]at h3;cases h3;exact hm'
  ·rw[avj c]at h3;exact ob.mono k LZ h3
 ·exact c1 t sv ht
 ·rw[RF]at h3
  by_cases c:kk=k
  ·rw[avk c]at h3;cases h3;rfl
  ·rw[avj c]at h3;exact c2 k e h3
 ·exact Hl
 ·refine r.move c1 c2 hst (λk e b q1 q2=>Ag.block b (r.own k e b q1 q2).2 λc=>Wt b k e c q1 q2) (λt sv _ k _ e q1 q2=>hgo k e q1 q2) ⟨U,U,U,avq _,λ_ _ _=>rfl⟩ (λb o hb=>?_)
   (λk k' e e' b q1 q2 q3 q4=>r.inj k k' e e' b (abK k e b q1 q3) (abK k' e' b q2 q4) q3 q4) (λk e b q1 q2=>⟨.inr ⟨k,e,abK k e b q1 q2,q2⟩,avE (r.own k e b (abK k e b q1 q2) q2).2 Ag.size⟩) (λk e q1=>?_) (λb hb=>?_)
  ·rcases hb with hb | hb
   ·have z:=r.low b o hb.1
    refine⟨avE (avE z.1 r.keep.size) Ag.size,?_⟩;rintro⟨k,e,q1,q2⟩;rcases(r.own k e b q1 q2).1 with q3 | q3
    ·omega
    ·exact z.2 q3
   ·refine⟨akt b hb,?_⟩
    rintro⟨k,e,q1,q2⟩;have z:=(r.own k e b q1 q2).2
    rcases hO' b hb with q4 | q4
    ·exact Wt b k e q4 q1 q2
    ·omega
  ·cases ho:e.isObj with
   | true=>
    refine .inr ?_
    cases e<;>first | (cases ho;done) | skip
    rw[RF]at q1;by_cases c:kk=k
    ·subst c;exact ak7
    ·rw[avj c]at q1;exact r.hp k _ q1
   | false=>
    refine .inl ⟨?_,U,U,λk2 _ e2 z1 z2=>hgo k2 e2 z1 z2⟩
    rw[RF]at q1;by_cases c:kk=k
    ·rw[avk c]at q1;cases q1;cases ho
    ·rw[avj c]at q1;exact q1
  ·obtain⟨z1,z2⟩:=r.fx b hb
   refine⟨z1,λe he=>?_⟩;rw[RF]at he;by_cases c:kk=0
   ·rw[avk c]at he;cases he;rfl
   ·rw[avj c]at he;exact z2 e he
end
section
def ajT(C0:Cx P nt)(iz:OP)(res:RS)(e:Ending)(w':World):Prop:=
 ∃v,e= .returned v/\∃O',cU C0.K C0.w0 w'/\(∀b,O' b->C0.K b\/C0.w0.heap.size<=b)/\(∀b,O' b->b<w'.heap.size)/\iz (λb o=>C0.M b o\/O' b) w' O'/\I3 (λb o=>C0.M b o\/O' b) w' res v
variable{r:R}
end
section
variable{r:R}
end
structure fc(P:Program){γ:Type}(f:Nat)(Φ:OP)(iz:γ->OP)(args:List RG)(res:γ->RS):Prop where
 go:∀(M:Nat->Nat->Prop)(w:World)(O:Nat->Prop)(vs:List Value),(∀b o,M b o->b<w.heap.size)->(∀b,O b->∀o,M b o)->Φ M w O->vs.length=args.length->
  (∀(i:Nat)(g:RG)(v:Value),args[i]? =some g->vs[i]? =some v->Ai P M (λ_=>False) w g v)->Calls P f vs.toArray w λe w'=>∃g v,e= .returned v/\Ei M w O (iz g) (res g) v w'
def BM{P:Program}{nt:Nat}{γ:Type}(C0:Cx P nt)(iz:γ->OP)(res:γ->RS)(e:Ending)(w':World):Prop:=
 ∃g,ajT C0 (iz g) (res g) e w'
variable{γ:Type}{f:Nat}{fn:Func}{code:Code}{args:List RG}{n:Nat}
section
theorem fc.intro{res:γ->RS}{iz:γ->OP}(hf:P.funcs[f]? =some fn)(hb:fn.body=some code)(hn:fn.ntmps=n)(hle:Nat.ble args.length n=true)
  (hrow:args.all (λg=>match g with | .g _=>true | _=>false)=true) (ok:bL Φ)
  (h:∀(C0:Cx P n) a w,bE C0 ⟨m7 0 args,[(1000,some (.obj Φ))]⟩ a w->Hq P (bodyPost P fn<|BM C0 iz res) [.c code] .normal a w):fc P f Φ iz args res:=by
 refine⟨λM w O vs hM hO LW hl hargs=>?_⟩;have hle':vs.length<=n:=by rw[hl];simpa using hle
 have UQ:=ok.lt LW
 let C0:Cx P n:=⟨w,λb o=>M b o/\¬O b,O,none⟩
 let C:Cx P n:=⟨w,M,λ_=>False,none⟩
 have h0:∀k e,aE [(1000,some (HE.obj Φ))] k=some e->k=1000/\e= .obj Φ:=λk e he=>by
  rw[aG]at he;split at he
  ·rename_i c;cases he;exact⟨c.symm,U⟩
  ·cases he
 let β:Nat->Option Nat:=λ_=>none
 have Hl:∀b o,Mu C [(1000,some (HE.obj Φ))] β b o->M b o:=by
  rintro b o (c | ⟨k,e,q1,q2,_⟩)
  ·exact c
  ·cases q2
 refine Calls.mono (calls_of_wp (R:=BM C0 iz res) hf hb ?_) ?_
 ·refine h C0 _ w ⟨C,λk b=>if k=1000 then O b else False,⟨⟨U,U,U,avq _,λ_ _ _=>rfl⟩,λb c=>c.elim,λb o c=>c.1,U,λb o c=>⟨hM b o c.1,c.2⟩⟩,⟨λk LZ hk=>?_,λk LZ b hk hb=>?_,λk k' LZ Φ2 b h1 h2 _ _=>?_,λk LZ hk=>?_⟩,λt sv ht=>?_,λk e he=>?_,β,?_⟩
  ·obtain⟨rfl,q⟩:=h0 k _ hk
   cases q;show Φ _ w (λb=>if 1000=1000 then O b else False);simp only[avM];exact ok.mono LW (λ_ _=>rfl) (λb o x hn hx=>⟨hx,λc=>c.elim hn id⟩)
  ·obtain⟨rfl,q⟩:=h0 k _ hk
   simp only[avM]at hb;exact⟨hO b hb,.inl hb⟩
  ·exact(h0 k _ h1).1.trans (h0 k' _ h2).1.symm
  ·obtain⟨_,q⟩:=h0 k _ hk
   cases q;exact ok
  ·obtain⟨_,g,h1,rfl⟩:=oq ht
   have:=avI.1 hrow g (avH h1);cases g with
   | g a=>rfl
   | _=>cases this
  ·obtain⟨_,rfl⟩:=h0 k e he
   rfl
  ·refine⟨⟨U,U,U,avq _,λ_ _ _=>rfl⟩,λb o c=>⟨hM b o c,id⟩,λk k' e e' b h1 h2 _ _=>(h0 k e h1).1.trans (h0 k' e' h2).1.symm,λk e b h1 h2=>(by cases h2),λk e h1=>?_,λt sv ht=>?_,by simp[hn];omega,U,λb hb=>aAX⟩
   ·obtain⟨rfl,rfl⟩:=h0 k e h1
    rfl
   ·obtain⟨_,g,h1,rfl⟩:=oq ht
    rw[ay9]at h1;have hlt:t<vs.length:=by rw[hl];exact(avl.1 h1).1
    have hv':(vs.toArray++Array.replicate (fn.ntmps-vs.toArray.size) undef).getD t undef=vs[t]:=by
     simp[ayg,hlt]
    show SR _ _ _ _ _ ((vs.toArray++Array.replicate (fn.ntmps-vs.toArray.size) undef).getD t undef);rw[hv'];have ha:=hargs t g vs[t] h1 az3;have hg:=avI.1 hrow g (avH h1);cases g with
    | g a=>exact GR.less (λb o c=>.inl<|Hl b o c) ha
    | _=>cases hg
 ·rintro e w' ⟨g,v,rfl,O',q1,q2,q3,q4,q5⟩
  exact⟨g,v,U,O',q1,q2,q3,q4,q5⟩
end
def tH:OP:=λ_ _ O=>∀b,¬O b
def Sep(A B:OP):OP:=λM w O=>∃O1 O2:Nat->Prop,(∀b,O b↔O1 b\/O2 b)/\(∀b,O1 b->O2 b->False)/\A M w O1/\B M w O2
def qA{α:Type}(A:α->OP):OP:=λM w O=>∃x,A x M w O
def eu(b T:Nat)(cs:List DV):OP:=λM w O=>(∀x,O x↔x=b)/\∃arr,w.heap[b]? =some (.cells arr T (0,0))/\arr.size=cs.length/\∀(j:Nat)(d:DV),cs[j]? =some d->∃u,arr[j]? =some u/\RD M w u d
def tJ(b:Nat)(es:List (Value×AG)):OP:=λM w O=>(∀x,O x↔x=b)/\∃cm n,w.heap[b]? =some (.map cm n)/\cm.size=es.length/\(∀(i:Nat)(e:Value×AG),es[i]? =some e->∃x,cm[i]? =some x/\x.key=e.1/\GR M w x.val e.2)/\
 (∀(i:Nat)(x:MapEntry),cm[i]? =some x->x.born<n)/\∀(i j:Nat)(x y:MapEntry),cm[i]? =some x->cm[j]? =some y->x.born=y.born->i=j
def Dr:List OP->OP
 | []=>tH
 | A::l=>Sep A (Dr l)
theorem CS:bL tH:=⟨λh _ _=>h,λh b hb=>(h b hb).elim⟩
variable{A:OP}
theorem uh{B:OP}(ha:bL A)(hb:bL B):bL (Sep A B):=by
 refine⟨?_,?_⟩
 ·rintro M M' w w' O ⟨O1,O2,h1,h2,h3,h4⟩ hO hc
  exact⟨O1,O2,h1,h2,ha.mono h3 (λb hb'=>hO b<|(h1 b).2<|.inl hb') hc,hb.mono h4 (λb hb'=>hO b<|(h1 b).2<|.inr hb') hc⟩
 ·rintro M w O ⟨O1,O2,h1,h2,h3,h4⟩ b hb'
  exact((h1 b).1 hb').elim (ha.lt h3 b) (hb.lt h4 b)
variable{α:Type}
theorem agr{A:α->OP}(h:∀x,bL (A x)):bL (qA A):=
 ⟨λ⟨x,hx⟩ hO hc=>⟨x,(h x).mono hx hO hc⟩,λ⟨x,hx⟩ b hb=>(h x).lt hx b hb⟩
variable{b T:Nat}{cs:List DV}
theorem NL:bL (eu b T cs):=by
 refine⟨?_,?_⟩
 ·rintro M M' w w' O ⟨h1,arr,h2,h3,h4⟩ hO hc
  exact⟨h1,arr,(hO b<|(h1 b).2 U).trans h2,h3,λj d hd=>let⟨u,q1,q2⟩:=h4 j d hd;⟨u,q1,q2.mono hc⟩⟩
 ·rintro M w O ⟨h1,arr,h2,_⟩ x hx
  rw[(h1 x).1 hx];exact(avo.1 h2).1
theorem Pz{es:List (Value×AG)}:bL (tJ b es):=by
 refine⟨?_,?_⟩
 ·rintro M M' w w' O ⟨h1,cm,n,h2,h3,h4,h5⟩ hO hc
  exact⟨h1,cm,n,(hO b<|(h1 b).2 U).trans h2,h3,λi e he=>let⟨x,q1,q2,q3⟩:=h4 i e he;⟨x,q1,q2,q3.mono hc⟩,h5⟩
 ·rintro M w O ⟨h1,cm,n,h2,_⟩ x hx
  rw[(h1 x).1 hx];exact(avo.1 h2).1
theorem Sa:∀{l:List OP},(∀A,A∈l->bL A)->bL (Dr l)
 | [],_=>CS
 | A::_,h=>uh (h A<|axK ..) (Sa λB hB=>h B<|axy _ hB)
structure Aft(M:Nat->Nat->Prop)(w:World)(O:Nat->Prop)(w':World)(O':Nat->Prop)(M':Nat->Nat->Prop):Prop where
 keep:cU O w w'
 new:∀b,O' b->O b\/w.heap.size<=b
 lt:∀b,O' b->b<w'.heap.size
 mem:∀b o,M' b o↔(M b o/\¬O b)\/O' b
variable{M:Nat->Nat->Prop}
theorem Aft.frame{M':Nat->Nat->Prop}{O' O2:Nat->Prop}{B:OP}(h:Aft M w O w' O' M')(hO:∀b,O b->∀o,M b o)(hB:bL B)(q:B M w O2)(hd:∀b,O b->O2 b->False):B M' w' O2:=by
 refine hB.mono q (λb hb=>h.keep.block b (hB.lt q b hb) λc=>hd b c hb) λb o x hn hx=>?_;have hlt:=cz hx;have hno:¬O b:=λc=>hn (hO b c o);refine⟨by rw[awh (w:=w) (a:=⟨b,o,none⟩) (h.keep.block b hlt hno)];exact hx,λc=>?_⟩;rcases(h.mem b o).1 c with c | c
 ·exact hn c.1
 ·rcases h.new b c with c | c
  ·exact hno c
  ·omega
def qH{γ:Type}(A S:OP)(S' A':γ->OP):Prop:=∀(M:Nat->Nat->Prop)(w:World)(O:Nat->Prop),(∀b o,M b o->b<w.heap.size)->(∀b,O b->∀o,M b o)->A M w O->∃Os:Nat->Prop,(∀b,Os b->O b)/\S M w Os/\
 ∀g w' Xt M',Aft M w Os w' Xt M'->S' g M' w' Xt->A' g M' w' (λb=>(O b/\¬Os b)\/Xt b)
theorem oeq{O':Nat->Prop}(h:∀b,O b↔O' b)(q:A M w O):A M w O':=by
 have:O=O':=funext λb=>propext (h b);rw[<-this];exact q
theorem meq{M':Nat->Nat->Prop}(h:∀b o,M b o↔M' b o)(q:A M w O):A M' w O:=by
 have:M=M':=funext λb=>funext λo=>propext (h b o);rw[<-this];exact q
variable{v:Value}
section
variable{B S:OP}{S' A' B':γ->OP}
theorem qH.refl:qH A A A' A':=λ_ _ O _ _ q=>⟨O,λ_ h=>h,q,λ_ _ _ _ _ h'=>oeq (λ_=>⟨λc=>.inr c,λc=>c.elim (λc=>(c.2 c.1).elim) id⟩) h'⟩
theorem qH.l(hB:bL B)(h:qH A S S' A'):qH (Sep A B) S S' (λg=>Sep (A' g) B):=by
 rintro M w O hM hO ⟨O1,O2,h1,h2,h3,h4⟩;obtain⟨Os,p1,p2,p3⟩:=h M w O1 hM (λb hb=>hO b<|(h1 b).2<|.inl hb) h3;have hOs:∀b,Os b->∀o,M b o:=λb hb=>hO b ((h1 b).2<|.inl<|p1 b hb);refine⟨Os,λb hb=>(h1 b).2<|.inl<|p1 b hb,p2,λg w' Xt M' ha hs=>⟨_,O2,λb=>?_,λb=>?_,p3 g w' Xt M' ha hs,ha.frame hOs hB h4 λb q1 q2=>h2 b (p1 b q1) q2⟩⟩
 ·constructor
  ·rintro(⟨c,d⟩ | c)
   ·rcases(h1 b).1 c with c | c
    ·exact .inl (.inl ⟨c,d⟩)
    ·exact .inr c
   ·exact .inl (.inr c)
  ·rintro((c | c) | c)
   ·exact .inl ⟨(h1 b).2<|.inl c.1,c.2⟩
   ·exact .inr c
   ·exact .inl ⟨(h1 b).2<|.inr c,λd=>h2 b (p1 b d) c⟩
 ·rintro(c | c) d
  ·exact h2 b c.1 d
  ·rcases ha.new b c with e | e
   ·exact h2 b (p1 b e) d
   ·have:=hB.lt h4 b d;omega
theorem FA{B:OP}(h:Sep A B M w O):Sep B A M w O:=
 let⟨O1,O2,h1,h2,h3,h4⟩:=h;⟨O2,O1,λb=>(h1 b).trans or_comm,λb q1 q2=>h2 b q2 q1,h4,h3⟩
theorem qH.r(hA:bL A)(h:qH B S S' B'):qH (Sep A B) S S' (λg=>Sep A (B' g)):=λM w O hM hO q=>
 let⟨Os,p1,p2,p3⟩:=(qH.l hA h) M w O hM hO<|FA q;⟨Os,p1,p2,λg w' Xt M' ha hs=>FA<|p3 g w' Xt M' ha hs⟩
theorem Ei.lift{Os:Nat->Prop}{S' A':OP}{res:RS}(hM:∀b o,M b o->b<w.heap.size)(hO:∀b,O b->∀o,M b o)(hs:∀b,Os b->O b)
  (h:∀w' Xt M',Aft M w Os w' Xt M'->S' M' w' Xt->A' M' w' (λb=>(O b/\¬Os b)\/Xt b)) (q:Ei M w Os S' res v w'):Ei M w O A' res v w':=by
 obtain⟨O',h1,h2,h3,h4,h5⟩:=q;have ZY:∀b o,(M b o/\¬Os b)\/O' b↔(M b o/\¬O b)\/((O b/\¬Os b)\/O' b):=λb o=>by
  constructor
  ·rintro(c | c)
   ·by_cases d:O b
    ·exact .inr (.inl ⟨d,c.2⟩)
    ·exact .inl ⟨c.1,d⟩
   ·exact .inr (.inr c)
  ·rintro(c | c | c)
   ·exact .inl ⟨c.1,λd=>c.2<|hs b d⟩
   ·exact .inl ⟨hO b c.1 o,c.2⟩
   ·exact .inr c
 refine⟨λb=>(O b/\¬Os b)\/O' b,⟨h1.os,h1.tape,h1.output,h1.size,λk hk hn=>h1.block k hk λc=>hn<|hs k c⟩,λb hb=>hb.elim (λc=>.inl c.1) λc=>(h2 b c).imp (hs b) id,λb hb=>hb.elim (λc=>avE (hM b 0<|hO b c.1 0) h1.size)<|h3 b,?_,?_⟩
 ·exact meq ZY (h w' O' _ ⟨h1,h2,h3,λ_ _=>axE⟩ h4)
 ·have:(λb o=>(M b o/\¬Os b)\/O' b)=(λb o=>(M b o/\¬O b)\/((O b/\¬Os b)\/O' b)):=funext λb=>funext λo=>propext (ZY b o)
  rw[<-this];exact h5
theorem fc.lift{P:Program}{f:Nat}{args:List RG}{res:γ->RS}(h:fc P f S S' args res)(hl:qH A S S' A'):fc P f A A' args res:=
 ⟨λM w O vs hM hO hA hv ha=>by
  obtain⟨Os,p1,p2,p3⟩:=hl M w O hM hO hA;refine(h.go M w Os vs hM (λb hb=>hO b<|p1 b hb) p2 hv ha).mono ?_
  rintro e w' ⟨g,v,he,q⟩;exact⟨g,v,he,q.lift hM hO p1 (p3 g)⟩⟩
end
structure aae{P:Program}{nt:Nat}(C0:Cx P nt)(ops:Array Oper)(i:Nat)(e:iD):Prop where
 go:∀sl hp,bK sl e.Rs->dn hp e.Rh->∀a w K Q,bE C0 ⟨sl,hp⟩ a w->(∀a w,bE C0 ⟨e.Ws++sl,e.Wh++hp⟩ a w->K a w)->wpOp P ops Q i K a w
section
variable{Q0:Exit->Act->World->Prop}
end
inductive Mode where
 | s
 | d (l:List Oper) (acc:List iD)
def Mode.add:Mode->iD->Mode
 | .s,_=>.s
 | .d l acc,e=>.d l (acc++ [e])
def Fy:List iD->SL->SL
 | [],sl=>sl
 | e::es,sl=>Fy es (e.Ws++sl)
def MC:List iD->HL->HL
 | [],hp=>hp
 | e::es,hp=>MC es (e.Wh++hp)
def wrS(t:Nat)(e:iD):Bool:=e.Ws.any λp=>Nat.beq p.1 t
theorem P5{t:Nat}:∀{es:List iD}{sl:SL},(∀e,e∈es->wrS t e=false)->bG (Fy es sl) t=bG sl t
 | [],_,_=>rfl
 | e::es,sl,h=>by
  rw[Fy,P5 (es:=es) λe' he'=>h e'<|axy _ he',tq,avj (by have:=h e<|axK ..;unfold wrS at this;simp[this])]
theorem Sw{t:Nat}:∀{es:List iD}{sl:SL}{j:Nat}{e:iD},es[j]? =some e->wrS t e=true->(∀j' e',j<j'->es[j']? =some e'->wrS t e'=false)->bG (Fy es sl) t=bG e.Ws t
 | [],_,_,_,h,_,_=>ay4
 | x::es,sl,0,e,h,hw,hn=>by
  simp at h;subst h;rw[Fy,P5 (es:=es) λe' he'=>by
   obtain⟨j',hj'⟩:=List.mem_iff_getElem?.1 he';exact hn (j'+1) e' ayT (by simpa using hj')]
  rw[tq,avk (show(x.Ws.any λp=>Nat.beq p.1 t)=true from hw)]
 | x::es,sl,j+1,e,h,hw,hn=>by
  rw[Fy];exact Sw (es:=es) (j:=j) azi hw λj' e' hj' he'=>hn (j'+1) e' ayT (by simpa using he')
theorem H7{t:Nat}:∀{es:List iD}{hp:HL}{i:Nat},aE (MC es hp) t=(lM es i (λ_=>true) t).getD (aE hp t)
 | [],_,_=>rfl
 | e::es,hp,i=>by
  rw[MC,H7 (es:=es) (i:=i+1)];simp only[lM];cases lM es (i+1) (λ_=>true) t with
  | some x=>rfl
  | none=>
   simp only[axI,axe];rw[Kr];unfold Xl;split<;>simp_all
theorem KD{t:Nat}{D:Nat->Bool}:∀{es:List iD}{i n:Nat},(∀j e,es[j]? =some e->Xl t e=true->D (i+j)=decide (j<n))->lM es i D t=lM (es.take n) i (λ_=>true) t
 | [],_,_,_=>by simp[lM]
 | e::es,i,0,h=>by
  simp only[List.take_zero];rw[we (l:=e::es) (i:=i)]
  ·rfl
  ·intro j e' he hw
   rw[h j e' he hw];simp
 | e::es,i,n+1,h=>by
  simp only[List.take_succ_cons,lM];rw[KD (es:=es) (i:=i+1) (n:=n) λj e' he hw=>by
   have:=h (j+1) e' az5 hw;rw[show i+1+j=i+(j+1) by omega,this];simp]
  cases lM (es.take n) (i+1) (λ_=>true) t with
  | some x=>rfl
  | none=>
   simp only;by_cases hw:Xl t e=true
   ·have:=h 0 e U hw
    rw[awE]at this;rw[this];simp[hw]
   ·simp[hw]
def aaI(acc:List (List Nat)):List Edge->List Nat
 | []=>[]
 | e::es=>if Region.binds .any e then e.on::(acc.getD e.on [] ++aaI acc es)else aaI acc es
def Ds:List Oper->List (List Nat)->List (List Nat)
 | [],acc=>acc
 | o::l,acc=>Ds l (acc++ [(aaI acc o.after.toList).eraseDups])
def apn(aY:List iD)(deps:List (List Nat)):Bool:=(List.range aY.length).all λi=>
 ((aY.getD i ⟨[],[],[],[]⟩).Rs.all λp=>match wS aY p.1 with
  | none=>true
  | some j=>(Nat.blt j i&&mem (deps.getD i []) j)||(Nat.blt i j&&mem (deps.getD j []) i))&&
 (aY.getD i ⟨[],[],[],[]⟩).Rh.all λp=>okH aY deps i p.1
def Oz(l:List Oper)(deps:List (List Nat))(aY:List iD):Bool:=qQ l.toArray deps&&(single aY deps&&apn aY deps)
variable{ops:Array Oper}{deps:List (List Nat)}
theorem OK(hd:qQ ops deps=true):∀n i,i<n->i<ops.size->∀j,mem (deps.getD i []) j=true->j<i:=by
 simp only[qQ,avA,avI,awg]at hd;intro n
 induction n with
 | zero=>intro i h;omega
 | succ n ih=>
  intro i hin hi j hj;have O9:=hd.2 i hi;have hoi:ops[i]? =some ops[i]:=by simp[hi]
  rw[hoi]at O9;simp only[avA,avI]at O9;obtain⟨hlt,UU⟩:=O9;obtain⟨e,he,hb⟩:=awO.1 (UU j<|mem_iff.1 hj);simp only[avA,awX]at hb;have hlt':=hlt e he;simp only[hb.1,avJ,aw6,ayF]at hlt';rcases hb.2 with h2 | h2
  ·rw[<-av3 h2];exact hlt'
  ·have:=ih e.on ayT ayT j h2;omega
variable{aY:List iD}
section
theorem SC{l:List Oper}(hlen:aY.length=l.length)(hc:Oz l deps aY=true)
  (hr:∀j e,aY[j]? =some e->bK (Fy (aY.take j) sl) e.Rs/\dn (MC (aY.take j) hp) e.Rh):
  (∀i e,aY[i]? =some e->Gy aY deps sl i e.Rs/\Gx aY deps hp i e.Rh)/\(∀t,bG (Fy aY sl) t=sL aY sl (λ_=>true) t)/\∀t,aE (MC aY hp) t=tP aY hp (λ_=>true) t:=by
 simp only[Oz,avA]at hc;obtain⟨hd,h1,hrd⟩:=hc;have hsz:l.toArray.size=l.length:=by simp
 have hwr:∀{j t:Nat}{e:iD},aY[j]? =some e->wrS t e=true->wS aY t=some j:=λhe hw=>Qs h1 he hw;have hS:∀i t,i<=aY.length->bG (Fy (aY.take i) sl) t=match wS aY t with
   | some j=>if j<i then bG (aY.getD j ⟨[],[],[],[]⟩).Ws t else bG sl t
   | none=>bG sl t:=by
  intro i t hi;have hno:(∀j e,aY[j]? =some e->j<i->wrS t e=false)->bG (Fy (aY.take i) sl) t=bG sl t:=λh=>
   P5 λe he=>by
    obtain⟨j,hj⟩:=List.mem_iff_getElem?.1 he;rw[awv]at hj;split at hj
    ·rename_i c;exact h j e hj c
    ·cases hj
  cases hw:wS aY t with
  | none=>
   refine hno λj e he _=>?_;cases hh:wrS t e with
   | false=>rfl
   | true=>rw[hwr he hh]at hw;cases hw
  | some j=>
   obtain⟨e,he,hj⟩:=Dm hw;simp only;split
   ·rename_i c
    rw[Sw (es:=aY.take i) (j:=j) (e:=e) (by rw[awv,avk c];exact he) hj λj' e' hj' he'=>?_]
    ·rw[awi,he];rfl
    ·rw[awv]at he'
     split at he'
     ·cases hh:wrS t e' with
      | false=>rfl
      | true=>have:=hwr he' hh;rw[hw]at this;cases this;omega
     ·cases he'
   ·rename_i c
    refine hno λj' e' he' hj'=>?_;cases hh:wrS t e' with
    | false=>rfl
    | true=>have:=hwr he' hh;rw[hw]at this;cases this;omega
 refine⟨λi e he=>?_,λt=>?_,λt=>?_⟩
 ·have hi:i<aY.length:=(avl.1 he).1
  obtain⟨r1,r2⟩:=hr i e he;have UT:=avI.1 hrd i (awg.2 hi);rw[awi,he]at UT;simp only[av7,avA]at UT;obtain⟨k1,k2⟩:=UT;constructor
  ·have:∀L,(∀p,p∈L->p∈e.Rs)->bK (Fy (aY.take i) sl) L->Gy aY deps sl i L:=by
    intro L
    induction L with
    | nil=>intro _ _;trivial
    | cons p L ih=>
     obtain⟨t,sv⟩:=p;rintro hm ⟨q1,q2⟩;refine⟨?_,ih (λp hp=>hm p<|axy _ hp) q2⟩;have h3:=avI.1 k1 _ (hm _<|axK ..);rw[hS i t ayT]at q1;cases hw:wS aY t with
     | none=>rw[hw]at q1;exact q1
     | some j=>
      rw[hw]at q1 h3;simp only[awX,avA,ayF]at h3 q1 ⊢;rcases h3 with⟨h4,h5⟩ | ⟨h4,h5⟩
      ·rw[avk h5];rw[avk h4]at q1;exact q1
      ·have hnm:¬mem (deps.getD i []) j=true:=λc=>by
        have:=OK hd (i+1) i ayT aAg j c;omega
       rw[avj hnm];rw[avj ayT]at q1;exact⟨h5,q1⟩
   exact this e.Rs (λ_ h=>h) r1
  ·have:∀L,(∀p,p∈L->p∈e.Rh)->dn (MC (aY.take i) hp) L->Gx aY deps hp i L:=by
    intro L
    induction L with
    | nil=>intro _ _;trivial
    | cons p L ih=>
     obtain⟨t,sv⟩:=p;rintro hm ⟨q1,q2⟩;have h3:=avI.1 k2 _ (hm _<|axK ..);refine⟨⟨h3,?_⟩,ih (λp hp=>hm p<|axy _ hp) q2⟩;rw[<-q1,H7 (i:=0),KD (n:=i) λj e' he' hw=>?_];have hj:j<aY.length:=(avl.1 he').1
     have h4:=avI.1 h3 j (awg.2 hj);rw[awi,he']at h4;simp only[av7,hw,avJ,aw6,awX]at h4;rw[avS];have hlt:=OK hd (i+1) i ayT aAg j;have hlt2:=OK hd (j+1) j ayT aAg i;cases ZY:mem (deps.getD i []) j with
     | true=>exact(avP<|hlt ZY).symm
     | false=>
      rcases h4 with h5 | h5 | h5
      ·rw[ZY]at h5;cases h5
      ·have:=av3 h5;subst this;simp
      ·have:=hlt2 h5;exact(avY<|by omega).symm
   exact this e.Rh (λ_ h=>h) r2
 ·have:=hS aY.length t (avq _)
  rw[axc]at this;rw[this];simp only[sL];cases hw:wS aY t with
  | none=>rfl
  | some j=>
   obtain⟨e,he,_⟩:=Dm hw;have hj:j<aY.length:=(avl.1 he).1
   simp[hj]
 ·rw[H7 (i:=0)];rfl
theorem bE.ext{st st':St}{a:Act}{w:World}(q:bE C0 st a w)(hs:∀t,bG st'.sl t=bG st.sl t)(hh:∀k,aE st'.hp k=aE st.hp k):bE C0 st' a w:=by
 obtain⟨C,σ,lk,ob,c1,c2,β,rb⟩:=q;exact⟨C,σ,lk,ob.sub λn Φ hn=>(hh n).symm.trans hn,λt sv h=>c1 t sv<|(hs t).symm.trans h,λk e h=>c2 k e<|(hh k).symm.trans h,β,rb.ext (λt sv h=>(hs t).symm.trans h) hh⟩
end
structure Wm(ops:Array Oper)(fuel:Nat)(listed:Array Bool):Prop where
 sz:listed.size=ops.size
 count:(List.range ops.size).countP (λi=>!listed.getD i true)=fuel
 closed:∀i o,ops[i]? =some o->listed.getD i true=true->∀e∈o.after,Region.binds .any e=true->listed.getD e.on false=true
variable{i:Nat}{listed:Array Bool}{sl':SL}
section
theorem Iw(hd:qQ ops deps=true):
  ∀(listed:Array Bool),(∀i o,ops[i]? =some o->listed.getD i true=true->∀e∈o.after,Region.binds .any e=true->listed.getD e.on false=true)->
   ∀n i,i<n->i<ops.size->(∀o,ops[i]? =some o->∀e∈o.after,Region.binds .any e=true->listed.getD e.on false=true)->∀j,mem (deps.getD i []) j=true->listed.getD j false=true:=by
 simp only[qQ,avA,avI,awg]at hd;obtain⟨_,hd⟩:=hd;intro listed hcl n
 induction n with
 | zero=>intro i h;omega
 | succ n ih=>
  intro i hin hi Ko j hj;have O9:=hd i hi;have hoi:ops[i]? =some ops[i]:=by simp[hi]
  rw[hoi]at O9;simp only[avA,avI]at O9;obtain⟨hlt,UU⟩:=O9;have:=UU j (mem_iff.1 hj);obtain⟨e,he,hb⟩:=awO.1 this;simp only[avA,awX]at hb;have hem:e∈ops[i].after:=ayn.1 he
  have G4:=Ko _ hoi e hem hb.1;rcases hb.2 with h2 | h2
  ·rw[av3 h2]at G4;exact G4
  ·have hlt':=hlt e he
   simp only[hb.1,avJ,aw6,ayF]at hlt';refine ih e.on ayT ayT (λo ho' e' he' hb'=>hcl e.on o ho' ?_ e' he' hb') j h2;have:e.on<listed.size:=by
    cases hc:listed[e.on]? with
    | none=>simp[hc]at G4
    | some b=>exact(avo.1 hc).1
   simp only[avx,av2 this,av7]at G4 ⊢;exact G4
theorem Wm.ready{ops:Array Oper}{deps:List (List Nat)}{fuel:Nat}{listed:Array Bool}(hd:qQ ops deps=true)(c:Wm ops (fuel+1) listed)(Kq:Region.ready .any ops listed= []):False:=by
 obtain⟨hsz,Fc,hcl⟩:=c;simp only[qQ,avA,avI,awg]at hd;obtain⟨_,hd⟩:=hd;have hex:∃i,i<ops.size/\listed.getD i true=false:=by
  have:0<(List.range ops.size).countP (λi=>!listed.getD i true):=by omega
  obtain⟨i,hi,h⟩:=List.countP_pos_iff.1 this;exact⟨i,awg.1 hi,azi⟩
 have hmin:∀n,∀i,i<n->i<ops.size->listed.getD i true=false->False:=by
  intro n
  induction n with
  | zero=>intro i h;omega
  | succ n ihn=>
   intro i hin hi hli;have hoi:ops[i]? =some ops[i]:=by simp[hi]
   have hnr:¬i∈Region.ready .any ops listed:=by rw[Kq];simp
   have O9:=hd i hi;rw[hoi]at O9;simp only[avA,avI]at O9;have BZ:∃e∈ops[i].after,Region.binds .any e=true/\listed.getD e.on false=false:=by
    refine awH λhno=>hnr ?_;rw[Region.ready,awc];refine⟨awg.2 hi,?_⟩;rw[hoi];simp only[hli,awG,awq,av7,axe,ayK];intro q hq;have hmem:ops[i].after[q]∈ops[i].after:=Array.getElem_mem hq
    cases hb:Region.binds .any ops[i].after[q]with
    | false=>simp
    | true=>
     cases hx:listed.getD ops[i].after[q].on false with
     | true=>simp
     | false=>exact absurd ⟨_,hmem,hb,hx⟩ hno
   obtain⟨e,he,hb,hx⟩:=BZ;have hlt':=O9.1 e (ayn.2 he);simp only[hb,avJ,aw6,ayF]at hlt';refine ihn e.on ayT ayT ?_;have:e.on<listed.size:=by omega
   simp only[avx,av2 this,av7]at hx ⊢;exact hx
 obtain⟨i,h2,h3⟩:=hex;exact hmin (i+1) i ayT h2 h3
theorem Wm.up{fuel:Nat}(hd:qQ ops deps=true)(c:Wm ops (fuel+1) listed)(hi:i∈Region.ready .any ops listed):
  i<ops.size/\listed.getD i true=false/\listed.getD i false=false/\(∀o,ops[i]? =some o->∀e∈o.after,Region.binds .any e=true->listed.getD e.on false=true)/\
   (∀j,mem (deps.getD i []) j=true->listed.getD j false=true)/\∀j,j<ops.size->mem (deps.getD j []) i=true->listed.getD j false=false:=by
 obtain⟨hsz,Fc,hcl⟩:=c;rw[Region.ready,awc]at hi;obtain⟨hir,hi2⟩:=hi;have hilt:i<ops.size:=awg.1 hir;have hoi:ops[i]? =some ops[i]:=by simp[hilt]
 rw[hoi]at hi2;simp only[awq,av7,avA,axj,ayK]at hi2;obtain⟨hni,Pb⟩:=hi2;have Ko:∀o,ops[i]? =some o->∀e∈o.after,Region.binds .any e=true->listed.getD e.on false=true:=by
  intro o ho' e he hb;rw[hoi]at ho';cases ho';obtain⟨q,hq,rfl⟩:=Array.mem_iff_getElem.1 he;have:=Pb q hq;simpa[hb]using this
 have Gf:i<listed.size:=by omega
 have U1:listed.getD i false=false:=by
  simp only[avx,av2 Gf,av7]at hni ⊢;exact hni
 have hdone:∀j,mem (deps.getD i []) j=true->listed.getD j false=true:=Iw hd listed hcl (i+1) i ayT hilt Ko;have hnot:∀j,j<ops.size->mem (deps.getD j []) i=true->listed.getD j false=false:=by
  intro j hj hm;cases hc:listed.getD j false with
  | false=>rfl
  | true=>
   have hjt:listed.getD j true=true:=by
    have:j<listed.size:=by omega
    simp only[avx,av2 this,av7]at hc ⊢;exact hc
   have:=Iw hd listed hcl (j+1) j ayT hj (λo ho' e he hb=>hcl j o ho' hjt e he hb) i hm;rw[U1]at this;cases this
 exact⟨hilt,hni,U1,Ko,hdone,hnot⟩
theorem Q1{e:iD}(hl:aY.length=ops.size)(hrd:Gy aY deps sl i e.Rs/\Gx aY deps hp i e.Rh)
  (U1:listed.getD i false=false) (hdone:∀j,mem (deps.getD i []) j=true->listed.getD j false=true) (hnot:∀j,j<ops.size->mem (deps.getD j []) i=true->listed.getD j false=false)
  (hs:∀t,bG sl' t=sL aY sl (λi=>listed.getD i false) t) (hh:∀t,aE dg t=tP aY hp (λi=>listed.getD i false) t):bK sl' e.Rs/\dn dg e.Rh:=by
 have hHS:∀l,Gy aY deps sl i l->bK sl' l:=by
  intro l
  induction l with
  | nil=>intro _;trivial
  | cons p l ihl=>
   obtain⟨t,sv⟩:=p;rintro⟨q1,q2⟩;refine⟨?_,ihl q2⟩;rw[hs t];simp only[sL];cases hw:wS aY t with
   | none=>rw[hw]at q1;exact q1
   | some j=>
    rw[hw]at q1;simp only at q1 ⊢;split at q1
    ·rename_i c;rw[avk (hdone j c)];exact q1
    ·obtain⟨e',he',_⟩:=Dm hw
     have hj:j<ops.size:=by rw[<-hl];exact(avl.1 he').1
     rw[avj (by rw[hnot j hj q1.1];simp)];exact q1.2
 have hHH:∀l,Gx aY deps hp i l->dn dg l:=by
  intro l
  induction l with
  | nil=>intro _;trivial
  | cons p l ihl=>
   obtain⟨t,sv⟩:=p;rintro⟨q1,q2⟩;refine⟨?_,ihl q2⟩;rw[hh t,<-q1.2];simp only[tP];rw[lN (D':=mem<|deps.getD i []) (λj e' he' hw=>?_)];have hj:j<aY.length:=(avl.1 he').1
   have hok:=avI.1 q1.1 j (awg.2 hj);rw[awi,he']at hok;simp only[av7,hw,avJ,aw6,awX]at hok;rw[avS];cases hm:mem (deps.getD i []) j with
   | true=>exact hdone j hm
   | false=>
    rcases hok with hq | hq | hq
    ·rw[hm]at hq;cases hq
    ·rw[av3 hq];exact U1
    ·exact hnot j (by rw[<-hl];exact hj) hq
 exact⟨hHS _ hrd.1,hHH _ hrd.2⟩
theorem wO(Gf:i<listed.size)(b:Bool):∀j,(listed.setIfInBounds i true).getD j b=if j=i then true else listed.getD j b:=by
 intro j;simp only[avx,awF];by_cases c:i=j
 ·subst c;simp[Gf]
 ·rw[avj c,avj (λc'=>c c'.symm)]
theorem Wm.set{fuel:Nat}(c:Wm ops (fuel+1) listed)(hilt:i<ops.size)(hni:listed.getD i true=false)(Ko:∀o,ops[i]? =some o->∀e∈o.after,Region.binds .any e=true->listed.getD e.on false=true):
  Wm ops fuel (listed.setIfInBounds i true):=by
 obtain⟨hsz,Fc,hcl⟩:=c;have hir:i∈List.range ops.size:=awg.2 hilt;have kP:=wO (listed:=listed) (i:=i) ayT false;have vW:=wO (listed:=listed) (i:=i) ayT true;refine⟨by simpa using hsz,?_,?_⟩
 ·have e1:∀(l:List Nat),l.Nodup->i∈l->l.countP (λj=>!listed.getD j true)=l.countP (λj=>!(listed.setIfInBounds i true).getD j true)+1:=by
   intro l
   induction l with
   | nil=>intro _ h;cases h
   | cons x l ihl=>
    intro hnd hm;rw[axH,axH,vW];rw[axQ]at hnd;by_cases c:x=i
    ·subst c
     have:∀j∈l,(!listed.getD j true)=(!(listed.setIfInBounds x true).getD j true):=by
      intro j hj;rw[vW,avj (λc:j=x=>hnd.1<|c ▸ hj)]
     rw[List.countP_congr (λj hj=>by rw[this j hj])];simp[hni]
    ·have hm':i∈l:=(av0.1 hm).resolve_left (λc'=>c c'.symm)
     rw[ihl hnd.2 hm',avj c];omega
  have:=e1 (List.range ops.size) List.nodup_range hir;omega
 ·intro j o ho' hj e' he' hb
  rw[kP];split
  ·rfl
  ·rw[vW]at hj
   by_cases c:j=i
   ·subst c;exact Ko o ho' e' he' hb
   ·rw[avj c]at hj;exact hcl j o ho' hj e' he' hb
theorem Wc{e:iD}(hl:aY.length=ops.size)(h1:single aY deps=true)(he:aY[i]? =some e)(Gf:i<listed.size)
  (hnot:∀j,j<ops.size->mem (deps.getD j []) i=true->listed.getD j false=false)
  (hs:∀t,bG sl' t=sL aY sl (λi=>listed.getD i false) t) (hh:∀t,aE dg t=tP aY hp (λi=>listed.getD i false) t):
  (∀t,bG (e.Ws++sl') t=sL aY sl (λj=>(listed.setIfInBounds i true).getD j false) t)/\∀t,aE (e.Wh++dg) t=tP aY hp (λj=>(listed.setIfInBounds i true).getD j false) t:=by
 have kP:=wO Gf false;refine⟨λt=>?_,λt=>?_⟩
 ·rw[tq]
  simp only[sL];by_cases c:e.Ws.any (λp=>Nat.beq p.1 t)=true
  ·rw[avk c,Qs h1 he c]
   simp only[kP,avM];rw[awi,he];rfl
  ·rw[avj c,hs t]
   simp only[sL];cases hw:wS aY t with
   | none=>rfl
   | some j=>
    have hji:j≠i:=λc'=>by
     subst c';obtain⟨e',he',h3⟩:=Dm hw;rw[he]at he';cases he';exact c h3
    simp only[kP,avj hji]
 ·rw[Kr]
  simp only[tP];by_cases c:e.Wh.any (λp=>Nat.beq p.1 t)=true
  ·rw[avk c,HN he c (by rw[avS,kP];simp) (λj e' hij hj hw=>?_)]
   ·rfl
   ·rw[avS,kP,avj ayT]
    have hjl:j<ops.size:=by rw[<-hl];exact(avl.1 hj).1
    exact hnot j hjl (S8 h1 hj hw hij he c)
  ·rw[avj c,hh t]
   simp only[tP];rw[lN (λj e' hj hw=>?_)];rw[avS,kP];by_cases hji:j=i
   ·subst hji;rw[he]at hj;cases hj;exact absurd hw c
   ·rw[avj hji]
theorem Ni{Q:Exit->Act->World->Prop}(hd:qQ ops deps=true)(hl:aY.length=ops.size)(h1:single aY deps=true)
  (hr:∀i e,aY[i]? =some e->Gy aY deps sl i e.Rs/\Gx aY deps hp i e.Rh) (hle:n<=ops.size) (hgt:∀j,n<j->j<ops.size->mem (deps.getD j []) n=true)
  (hend:n=ops.size->∀a w sl' dg,bE C0 ⟨sl',dg⟩ a w->(∀t,bG sl' t=sL aY sl (λ_=>true) t)->(∀t,aE dg t=tP aY hp (λ_=>true) t)->Q .normal a w)
  (hn:n<ops.size->∀fuel listed a w sl' dg,Wm ops (fuel+1) listed->n∈Region.ready .any ops listed->(∀j,listed.getD j false=true->j<n)->(∀i e,i<n->listed.getD i false=false->aY[i]? =some e->aae C0 ops i e)->bE C0 ⟨sl',dg⟩ a w->
   (∀t,bG sl' t=sL aY sl (λi=>listed.getD i false) t)->(∀t,aE dg t=tP aY hp (λi=>listed.getD i false) t)->wpOp P ops Q n (λa w=>wpAny P .any ops Q fuel (listed.setIfInBounds n true) a w) a w):
  ∀fuel listed a w sl' dg,Wm ops fuel listed->(∀j,listed.getD j false=true->j<n)->(∀i e,i<n->listed.getD i false=false->aY[i]? =some e->aae C0 ops i e)->bE C0 ⟨sl',dg⟩ a w->
   (∀t,bG sl' t=sL aY sl (λi=>listed.getD i false) t)->(∀t,aE dg t=tP aY hp (λi=>listed.getD i false) t)->wpAny P .any ops Q fuel listed a w:=by
 intro fuel
 induction fuel with
 | zero=>
  intro listed a w sl' dg hc hlt ho hrel hs hh;have hsz:=hc.sz;have Fc:=hc.count;have hall:∀i,i<ops.size->listed.getD i true=true:=by
   intro i hi;have:=ax5.1 Fc i (awg.2 hi);simpa using this
  have hnn:n=ops.size:=by
   refine Nat.le_antisymm hle (ax2 λc=>?_);have h2:=hall n c;have:listed.getD n false=true:=by
    simp only[avx,av2 (show n<listed.size by omega),av7]at h2 ⊢;exact h2
   exact absurd (hlt n this) (ayq n)
  refine⟨?_,hend hnn a w sl' dg hrel (λt=>?_) λt=>?_⟩
  ·rw[Region.ready,axh]
   intro i hi;simp[hall i (awg.1 hi)]
  ·rw[hs t]
   simp only[sL];cases hw:wS aY t with
   | none=>rfl
   | some j=>
    obtain⟨e,he,_⟩:=Dm hw;have hj:j<ops.size:=by rw[<-hl];exact(avl.1 he).1
    have:=hall j hj;have h2:listed.getD j false=true:=by
     simp only[avx,av2 (show j<listed.size by omega),av7]at this ⊢;exact this
    simp only[h2]
  ·rw[hh t]
   simp only[tP];rw[lN (D':=λ_=>true) (λj e he _=>?_)];have hj:j<ops.size:=by rw[<-hl];exact(avl.1 he).1
   have:=hall j hj;rw[avS];simp only[avx,av2 (show j<listed.size by omega),av7]at this ⊢;exact this
 | succ fuel ih=>
  intro listed a w sl' dg hc hlt ho hrel hs hh;refine⟨λKq=>(hc.ready hd Kq).elim,λi hi=>?_⟩;obtain⟨u1,u2,u3,u4,u5,u6⟩:=hc.up hd hi;by_cases c:i=n
  ·subst c
   exact hn u1 fuel listed a w sl' dg hc hi hlt ho hrel hs hh
  ·have hin:i<n:=by
    refine Nat.lt_of_le_of_ne (ax2 λd=>?_) c;exact absurd (hlt n<|u5 n<|hgt i d u1) (ayq n)
   obtain⟨e,he⟩:∃e,aY[i]? =some e:=⟨aY[i],by simp[hl,u1]⟩;obtain⟨r1,r2⟩:=Q1 hl (hr i e he) u3 u5 u6 hs hh;refine(ho i e hin u3 he).go sl' dg r1 r2 a w _ _ hrel λa' w' Gg=>?_
   have hsz:=hc.sz;obtain⟨s1,s2⟩:=Wc hl h1 he ayT u6 hs hh;refine ih (listed.setIfInBounds i true) a' w' _ _ (hc.set u1 u2 u4) (λj hj=>?_) (λj e' hj hx he'=>?_) Gg s1 s2
   ·rw[wO ayT]at hj
    by_cases d:j=i
    ·omega
    ·rw[avj d]at hj;exact hlt j hj
   ·rw[wO ayT]at hx
    by_cases d:j=i
    ·rw[avk d]at hx;cases hx
    ·rw[avj d]at hx;exact ho j e' hj hx he'
end
structure ajR{P:Program}{nt:Nat}{γ:Type}(C0:Cx P nt)(ops:Array Oper)(i:Nat)(Rs:List (Nat×SV))(Rh:List (Nat×Option HE))(Ws:γ->List (Nat×SV))(Wh:γ->List (Nat×Option HE)):Prop where
 go:∀sl hp,bK sl Rs->dn hp Rh->∀a w K Q,bE C0 ⟨sl,hp⟩ a w->(∀g a w,bE C0 ⟨Ws g++sl,Wh g++hp⟩ a w->K a w)->wpOp P ops Q i K a w
def late(l:List Oper)(n:Nat):Bool:=(List.range l.length).all λj=>Nat.ble j n||mem ((Ds l []).getD j []) n
def ZU{P:Program}{nt:Nat}(C0:Cx P nt)(l:List Oper)(Q:Act->World->Prop):List Oper->List iD->St->Prop
 | [],acc,st=>Oz l (Ds l []) acc=true/\∀a w,bE C0 st a w->Q a w
 | _::rest,acc,st=>(∃e,aae C0 l.toArray acc.length e/\bK st.sl e.Rs/\dn st.hp e.Rh/\ZU C0 l Q rest (acc++ [e]) ⟨e.Ws++st.sl,e.Wh++st.hp⟩)\/
  ∃(γ:Type)(_:γ)(Rs:List (Nat×SV))(Rh:List (Nat×Option HE))(Ws:γ->List (Nat×SV))(Wh:γ->List (Nat×Option HE)),ajR C0 l.toArray acc.length Rs Rh Ws Wh/\bK st.sl Rs/\dn st.hp Rh/\late l acc.length=true/\
   ∀g,ZU C0 l Q rest (acc++ [⟨Rs,Rh,Ws g,Wh g⟩]) ⟨Ws g++st.sl,Wh g++st.hp⟩
theorem acJ(acc:List iD)(e:iD)(sl:SL):Fy (acc++ [e]) sl=e.Ws++Fy acc sl:=by
 induction acc generalizing sl with
 | nil=>rfl
 | cons x l ih=>exact ih _
theorem acI(acc:List iD)(e:iD)(hp:HL):MC (acc++ [e]) hp=e.Wh++MC acc hp:=by
 induction acc generalizing hp with
 | nil=>rfl
 | cons x l ih=>exact ih _
variable{acc:List iD}
theorem Cq{tail:List iD}{D:Nat->Bool}(h:∀j,D j=true->j<acc.length)(t:Nat):sL (acc++tail) sl D t=sL acc sl D t:=by
 simp only[sL,wS,List.findIdx?_append];cases hx:acc.findIdx? (λe=>e.Ws.any λp=>Nat.beq p.1 t)with
 | some j=>
  have hj:j<acc.length:=(axF.1 hx).1
  simp only[Option.some_or,awi,avy hj]
 | none=>
  simp only[Option.none_or];cases tail.findIdx? (λe=>e.Ws.any λp=>Nat.beq p.1 t)with
  | none=>rfl
  | some j=>
   simp only[awq];rw[avj];intro c;have:=h _ c;omega
theorem NB{D:Nat->Bool}{t:Nat}:∀{acc tail:List iD}{i:Nat},(∀j,D j=true->j<i+acc.length)->lM (acc++tail) i D t=lM acc i D t
 | [],tail,i,h=>by
  rw[avX,we (l:=tail)]
  ·rfl
  ·intro j e _ _
   cases hd:D (i+j)with
   | false=>rfl
   | true=>have:=h _ hd;simp at this;omega
 | x::acc,tail,i,h=>by
  simp only[av4,lM];rw[NB (acc:=acc) (tail:=tail) (i:=i+1) λj hj=>by have:=h j hj;simp only[avv]at this;omega]
theorem Cp{tail:List iD}{D:Nat->Bool}(h:∀j,D j=true->j<acc.length)(t:Nat):tP (acc++tail) hp D t=tP acc hp D t:=by
 simp only[tP];rw[NB λj hj=>by have:=h j hj;omega]
section
structure Wlk(acc:List iD)(VE:SL)(Pe:HL)(st:St):Prop where
 st:st=⟨Fy acc VE,MC acc Pe⟩
 reads:∀j e,acc[j]? =some e->bK (Fy (acc.take j) VE) e.Rs/\dn (MC (acc.take j) Pe) e.Rh
theorem Wlk.add{VE:SL}{Pe:HL}{e:iD}(h:Wlk acc VE Pe st)(h1:bK st.sl e.Rs)(h2:dn st.hp e.Rh):Wlk (acc++ [e]) VE Pe ⟨e.Ws++st.sl,e.Wh++st.hp⟩:=by
 obtain⟨rfl,hr⟩:=h;refine⟨by rw[acJ,acI],λj e' hj=>?_⟩;by_cases c:j<acc.length
 ·rw[avy c]at hj
  rw[axt ayT];exact hr j e' hj
 ·rw[avG ayT]at hj
  have h0:j-acc.length=0:=by
   cases h3:j-acc.length with
   | zero=>rfl
   | succ m=>rw[h3]at hj;simp at hj
  rw[h0]at hj;simp only[List.getElem?_cons_zero,awP]at hj;subst hj;have:j=acc.length:=by omega
  subst this;rw[ayh];exact⟨h1,h2⟩
theorem ZU.full{l:List Oper}{Q:Act->World->Prop}{VE:SL}{Pe:HL}:∀{rest:List Oper}{acc:List iD}{st:St},ZU C0 l Q rest acc st->Wlk acc VE Pe st->∃(tail:List iD)(st':St),tail.length=rest.length/\Oz l (Ds l []) (acc++tail)=true/\Wlk (acc++tail) VE Pe st'
 | [],acc,st,h,hw=>⟨[],st,U,by rw[awY];exact h.1,by rw[awY];exact hw⟩
 | _::rest,acc,st,h,hw=>by
  rcases h with⟨e,_,h2,h3,h4⟩ | ⟨γ,g,Rs,Rh,Ws,Wh,_,h2,h3,_,h5⟩
  ·obtain⟨tail,st',q1,q2,q3⟩:=ZU.full h4 (hw.add h2 h3)
   exact⟨e::tail,st',by simp[q1],by simpa using q2,by simpa using q3⟩
  ·obtain⟨tail,st',q1,q2,q3⟩:=ZU.full (h5 g) (hw.add (e:=⟨Rs,Rh,Ws g,Wh g⟩) h2 h3)
   exact⟨⟨Rs,Rh,Ws g,Wh g⟩::tail,st',by simp[q1],by simpa using q2,by simpa using q3⟩
theorem OO{l:List Oper}{Q:Exit->Act->World->Prop}{VE:SL}{Pe:HL}:∀{rest:List Oper}{acc:List iD}{st:St},ZU C0 l (Q .normal) rest acc st->Wlk acc VE Pe st->acc.length+rest.length=l.length->
  ∀fuel listed a w sl' dg,Wm l.toArray fuel listed->(∀j,listed.getD j false=true->j<acc.length)->(∀i e,i<acc.length->listed.getD i false=false->acc[i]? =some e->aae C0 l.toArray i e)->bE C0 ⟨sl',dg⟩ a w->
   (∀t,bG sl' t=sL acc VE (λi=>listed.getD i false) t)->(∀t,aE dg t=tP acc Pe (λi=>listed.getD i false) t)->wpAny P .any l.toArray Q fuel listed a w
 | [],acc,st,h,hw,hlen,fuel,listed,a,w,sl',dg,hc,hlt,ho,hrel,hs,hh=>by
  obtain⟨UT,hQ⟩:=h;obtain⟨rfl,hr⟩:=hw;obtain⟨g1,g2,g3⟩:=SC (by simpa using hlen) UT hr;simp only[Oz,avA]at UT;obtain⟨hd,h1,_⟩:=UT;exact Ni (n:=acc.length) hd (by simpa using hlen) h1 g1 aAN (λj h2 h3=>by simp at hlen h3;omega)
   (λ_ a w sl1 hp1 r1 e1 e2=>hQ a w<|r1.ext (λt=>(g2 t).trans (e1 t).symm) λt=>(g3 t).trans (e2 t).symm) (λh2=>by simp at hlen h2;omega) fuel listed a w sl' dg hc hlt ho hrel hs hh
 | o::rest,acc,st,h,hw,hlen,fuel,listed,a,w,sl',dg,hc,hlt,ho,hrel,hs,hh=>by
  have hln:acc.length<l.length:=by simp at hlen;omega
  rcases h with⟨e,h1,h2,h3,h4⟩ | ⟨γ,g0,Rs,Rh,Ws,Wh,h1,h2,h3,h4,h5⟩
  ·refine OO h4 (hw.add h2 h3) aAN fuel listed a w sl' dg hc (λj hj=>by have:=hlt j hj;simp;omega) (λi e' hi hx he'=>?_) hrel (λt=>(hs t).trans (Cq hlt t).symm) λt=>(hh t).trans (Cp hlt t).symm
   by_cases c:i<acc.length
   ·rw[avy c]at he'
    exact ho i e' c hx he'
   ·have:i=acc.length:=by simp at hi;omega
    subst this;simp at he';subst he';exact h1
  ·have hfull:∀g,∃(tail:List iD)(st':St),tail.length=rest.length/\Oz l (Ds l []) (acc++ [(⟨Rs,Rh,Ws g,Wh g⟩:iD)] ++tail)=true/\Wlk (acc++ [(⟨Rs,Rh,Ws g,Wh g⟩:iD)] ++tail) VE Pe st':=
    λg=>(h5 g).full (hw.add (e:=⟨Rs,Rh,Ws g,Wh g⟩) h2 h3)
   obtain⟨tail,st',f1,f2,⟨_,f3⟩⟩:=hfull g0;have hlf:(acc++ [(⟨Rs,Rh,Ws g0,Wh g0⟩:iD)] ++tail).length=l.length:=by simp at hlen ⊢;omega
   obtain⟨k1,_,_⟩:=SC hlf f2 f3;have f2':=f2;simp only[Oz,avA]at f2';obtain⟨hd,hs1,_⟩:=f2';have hsz:l.toArray.size=l.length:=by simp
   have heq:∀(g:γ)(tl:List iD),(acc++ [(⟨Rs,Rh,Ws g,Wh g⟩:iD)] ++tl)[acc.length]? =some ⟨Rs,Rh,Ws g,Wh g⟩:=λg tl=>ayW;have hpre:∀(g:γ)(tl:List iD)(i:Nat),i<acc.length->(acc++ [(⟨Rs,Rh,Ws g,Wh g⟩:iD)] ++tl)[i]? =acc[i]? :=λg tl i hi=>by
    rw[av6,avy hi]
   refine Ni (n:=acc.length) hd (by rw[hlf,hsz]) hs1 k1 ayT (λj h6 h7=>?_) (λh6=>ayT) (λ_ fuel listed a w sl' dg hc hi hlt ho hrel hs hh=>?_) fuel listed a w sl' dg hc hlt (λi e hi hx he=>ho i e hi hx (by rw[hpre g0 tail i hi]at he;exact he)) hrel
    (λt=>(hs t).trans ((by rw[av6];exact Cq hlt t):sL (acc++ [(⟨Rs,Rh,Ws g0,Wh g0⟩:iD)] ++tail) VE (λi=>listed.getD i false) t=_).symm) (λt=>(hh t).trans ((by rw[av6];exact Cp hlt t):tP (acc++ [(⟨Rs,Rh,Ws g0,Wh g0⟩:iD)] ++tail) Pe (λi=>listed.getD i false) t=_).symm)
   ·have:=avI.1 h4 j (awg.2<|by omega)
    simp only[awX,Nat.ble_eq]at this;exact this.resolve_left ayT
   ·obtain⟨u1,u2,u3,u4,u5,u6⟩:=hc.up hd hi
    obtain⟨r1,r2⟩:=Q1 (e:=⟨Rs,Rh,Ws g0,Wh g0⟩) (by rw[hlf,hsz]) (k1 _ _<|heq g0 tail) u3 u5 u6 hs hh;refine h1.go sl' dg r1 r2 a w _ _ hrel λg a' w' Gg=>?_;obtain⟨tl,rG,z1,z2,⟨_,z3⟩⟩:=hfull g;have hlg:(acc++ [(⟨Rs,Rh,Ws g,Wh g⟩:iD)] ++tl).length=l.length:=by simp at hlen ⊢;omega
    have z2':=z2;simp only[Oz,avA]at z2';have hls:=hc.sz;have hsg:∀t,bG sl' t=sL (acc++ [(⟨Rs,Rh,Ws g,Wh g⟩:iD)] ++tl) VE (λi=>listed.getD i false) t:=λt=>by
     rw[hs t,av6,av6,Cq hlt,Cq hlt]
    have hhg:∀t,aE dg t=tP (acc++ [(⟨Rs,Rh,Ws g,Wh g⟩:iD)] ++tl) Pe (λi=>listed.getD i false) t:=λt=>by
     rw[hh t,av6,av6,Cp hlt,Cp hlt]
    obtain⟨s1,s2⟩:=Wc (by rw[hlg,hsz]) z2'.2.1 (heq g tl) ayT u6 hsg hhg;have hlt2:∀j,(listed.setIfInBounds acc.length true).getD j false=true->j<(acc++ [(⟨Rs,Rh,Ws g,Wh g⟩:iD)]).length:=λj hj=>by
     rw[wO ayT]at hj;simp only[avz,List.length_singleton];by_cases c:j=acc.length
     ·omega
     ·rw[avj c]at hj;have:=hlt j hj;omega
    refine OO (h5 g) (hw.add (e:=⟨Rs,Rh,Ws g,Wh g⟩) h2 h3) aAN fuel _ a' w' _ _ (hc.set u1 u2 u4) hlt2 (λi e' hi' hx he'=>?_) Gg (λt=>(s1 t).trans<|Cq hlt2 t) λt=>(s2 t).trans (Cp hlt2 t)
    rw[wO ayT]at hx;by_cases c:i=acc.length
    ·rw[avk c]at hx;cases hx
    ·rw[avj c]at hx
     have hi2:i<acc.length:=by simp at hi';omega
     rw[avy hi2]at he';exact ho i e' hi2 hx (by rw[hpre g0 tail i hi2];exact he')
theorem TS{l:List Oper}{id:Nat}{Q:Exit->Act->World->Prop}(hm:P.follows .mixedOrders=true)(h:ZU C0 l (Q .normal) l [] st)(q:bE C0 st a w):(Code.region id l.toArray true).wp P Q a w:=by
 obtain⟨sl,hp⟩:=st;refine wp_region_any hm ?_;have hrel:bE C0 ⟨sl,hp⟩ a { w with drawn:=w.drawn+1 }:=by
  obtain⟨C,σ,lk,ob,c1,c2,β,rb⟩:=q;exact⟨C,σ,lk,ob,c1,c2,β,rb.Lb ⟨U,U,U,avq _,λ_ _=>rfl⟩⟩
 have aeV:∀i,(Array.replicate l.toArray.size false).getD i false=false:=λi=>by
  simp only[avx,axv];split<;>rfl
 refine OO (VE:=sl) (Pe:=hp) h ⟨U,λj e hj=>aAe⟩ ayW _ _ a _ sl hp ⟨ayW,?_,?_⟩ (λj hj=>by rw[aeV j]at hj;cases hj) (λi e hi=>by simp at hi) hrel (λt=>rfl) (λt=>rfl)
 ·have:∀(l':List Nat),(∀i∈l',i<l.toArray.size)->l'.countP (λi=>!(Array.replicate l.toArray.size false).getD i true)=l'.length:=by
   intro l' hl';rw[List.countP_eq_length];intro i hi;have:=hl' i hi;simp only[avx,axv,avk this];rfl
  rw[this _ (λi hi=>awg.1 hi)];simp
 ·intro i o hio hli
  have hi:i<l.toArray.size:=(avo.1 hio).1
  simp only[avx,axv,avk hi]at hli;cases hli
end
class jN(P:Program)(S:TypeId)(f:Nat)(o:outParam Nat):Prop where
 h:∃(fs:Array Field)(Ex:Field)(zz:Value)(size bytes:Nat),P.underlying S=some (.struct fs)/\fs[f]? =some Ex/\Info P Ex.type zz size bytes/\size≠0/\Ex.offset=o
class JK(P:Program)(S:TypeId)(pl:outParam (Array (Nat×Nat))):Prop where
 h:∃fs:Array Field,P.underlying S=some (.struct fs)/\fG P fs pl
class Ij(P:Program)(T:TypeId)(zs:outParam (List DV)):Prop where
 h:∃(zv:Value)(n bytes:Nat),Info P T zv n bytes/\ZD zv.cells.toList zs/\zs.length=n
class bJ(P:Program)(f:Nat):Prop where
 h:cG P f
def aaa(P:Program)(S:TypeId)(f o:Nat):Prop:=∃(fs:Array Field)(Ex:Field)(zz:Value)(size bytes:Nat),P.underlying S=some (.struct fs)/\fs[f]? =some Ex/\Info P Ex.type zz size bytes/\size≠0/\Ex.offset=o
def ajS(P:Program)(S:TypeId)(pl:Array (Nat×Nat)):Prop:=∃fs:Array Field,P.underlying S=some (.struct fs)/\fG P fs pl
def Tm(P:Program)(T:TypeId)(zs:List DV):Prop:=∃(zv:Value)(n bytes:Nat),Info P T zv n bytes/\ZD zv.cells.toList zs/\zs.length=n
variable{S:TypeId}{o:Nat}
theorem fI[i:jN P S f o]:aaa P S f o:=i.h
theorem lI{pl:Array (Nat×Nat)}[i:JK P S pl]:ajS P S pl:=i.h
variable{zs:List DV}
theorem zI{T:TypeId}[i:Ij P T zs]:Tm P T zs:=i.h
theorem cI[i:bJ P f]:cG P f:=i.h
class dW(P:Program){α:Type}(X:Option α)(f:outParam Nat)(args:outParam (List RG))(res:outParam (α->RS)):Prop where
 h:∀r,X=some r->Ct P f args (res r)
def Z7(P:Program){α:Type}(X:Option α)(f:Nat)(args:List RG)(res:α->RS):Prop:=∀r,X=some r->Ct P f args (res r)
variable{X:Option α}
theorem tI{res:α->RS}[i:dW P X f args res]:Z7 P X f args res:=i.h
def ey:Operand->BV->List (Nat×SV)
 | .tmp t,c=>[(t,.one c)]
 | _,_=>[]
def aN(sl:SL):Operand->Option BV
 | .tmp t=>match bG sl t with
  | some (.one c)=>some c
  | _=>none
 | .const (.bool b)=>some (bB b)
 | .const (.int k n)=>some (bI k n)
 | .const (.string s)=>some (bS s)
 | .const (.pointer none)=>some (dv<|.pointer none)
 | .func f=>some (.yh f [])
 | _=>none
variable{x:Operand}
theorem aJ{c:BV}(h:aN sl x=some c):Ev x c (ey x c)/\bK sl (ey x c):=by
 unfold aN at h;split at h
 ·split at h
  ·cases h;exact⟨Ev.t _ _,ay6,ayS⟩
  ·cases h
 ·cases h;exact⟨Ev.c _ U,ayS⟩
 ·cases h;exact⟨Ev.c _ U,ayS⟩
 ·cases h;exact⟨Ev.c _ U,ayS⟩
 ·cases h;exact⟨Ev.c _ U,ayS⟩
 ·cases h;exact⟨Ev.f _,ayS⟩
 ·cases h
theorem bK.both{sl:SL}:∀{l r:List (Nat×SV)},bK sl l->bK sl r->bK sl (l++r)
 | [],_,_,h=>h
 | _::_,_,h,h'=>⟨h.1,bK.both h.2 h'⟩
def pM(sl:SL):List Operand->Option (List RG)
 | []=>some []
 | x::xs=>match aN sl x,pM sl xs with
  | some (.g a),some l=>some (.g a::l)
  | _,_=>none
def vM:List Operand->List RG->List (Nat×SV)
 | x::xs,.g a::gs=>ey x (.g a)++vM xs gs
 | _,_=>[]
theorem fJ{sl:SL}:∀{xs:List Operand}{gs:List RG},pM sl xs=some gs->L1 xs gs (vM xs gs)/\bK sl (vM xs gs)
 | [],gs,h=>by cases h;exact⟨.nil,ayS⟩
 | x::xs,gs,h=>by
  simp only[pM]at h;split at h
  ·rename_i a l h1 h2
   cases h;obtain⟨e,q⟩:=aJ h1;obtain⟨e',q'⟩:=fJ h2;exact⟨.cons e e',q.both q'⟩
  ·cases h
def F4(sl:SL):List (Nat×Operand)->Option (List (Nat×AG))
 | []=>some []
 | (i,x)::xs=>match aN sl x,F4 sl xs with
  | some (.g a),some l=>some ((i,a)::l)
  | _,_=>none
def OQ:List (Nat×Operand)->List (Nat×AG)->List (Nat×SV)
 | (_,x)::xs,(_,a)::gs=>ey x (.g a)++OQ xs gs
 | _,_=>[]
theorem vN{sl:SL}:∀{xs:List (Nat×Operand)}{gs:List (Nat×AG)},F4 sl xs=some gs->Xq xs gs (OQ xs gs)/\bK sl (OQ xs gs)
 | [],gs,h=>by cases h;exact⟨.nil,ayS⟩
 | (i,x)::xs,gs,h=>by
  simp only[F4]at h;split at h
  ·rename_i a l h1 h2
   cases h;obtain⟨e,q⟩:=aJ h1;obtain⟨e',q'⟩:=vN h2;exact⟨.cons e e',q.both q'⟩
  ·cases h
def bD(ops:Array Oper)(sl:SL):Option (Nat×Bool)->Bool
 | none=>true
 | some (j,b)=>match(ops[j]?).bind (·.dst)with
  | none=>false
  | some t=>match bG sl t with
   | some (.one<|.g<|.d<|.v<|.bool c)=>c==b
   | _=>false
def gH(ops:Array Oper):Option (Nat×Bool)->List (Nat×SV)
 | none=>[]
 | some (j,b)=>match(ops[j]?).bind (·.dst)with
  | none=>[]
  | some t=>[(t,.one (bB b))]
variable{gd:Option (Nat×Bool)}
theorem aby(h:bD ops sl gd=true):bK sl (gH ops gd):=by
 cases gd with
 | none=>trivial
 | some jb=>
  obtain⟨j,b⟩:=jb;simp only[bD,gH]at h ⊢;split at h
  ·cases h
  ·rename_i t ht
   split at h
   ·rename_i c hc
    obtain rfl:c=b:=by simpa using h
    exact⟨hc,ayS⟩
   ·cases h
theorem ZD.zl:∀{vs:List Value}{ds:List DV},ZD vs ds->ZL vs (dat ds)
 | [],[],_=>trivial
 | _::_,_::_,h=>⟨h.1,ZD.zl h.2⟩
def S2:List BV->Option (List DV)
 | []=>some []
 | .g (.d d)::r=>(S2 r).map (d:: ·)
 | _::_=>none
theorem LQ:∀{cs:List BV}{ds:List DV},S2 cs=some ds->cs=dat ds
 | [],ds,h=>by cases h;rfl
 | c::cs,ds,h=>by
  match c,h with
  | .g (.d d),h=>
   simp only[S2,awd]at h;obtain⟨l,h1,rfl⟩:=h;rw[LQ h1];rfl
def On:List (Option DV)->Option (List DV)
 | []=>some []
 | some d::r=>(On r).map (d:: ·)
 | none::_=>none
theorem Am:∀{cs:List (Option DV)}{ds:List DV},On cs=some ds->cs=ds.map some
 | [],ds,h=>by cases h;rfl
 | c::cs,ds,h=>by
  match c,h with
  | some d,h=>
   simp only[On,awd]at h;obtain⟨l,h1,rfl⟩:=h;rw[Am h1];rfl
def chunk(size:Nat):Nat->List DV->List (List DV)
 | 0,_=>[]
 | n+1,l=>l.take size::chunk size n (l.drop size)
structure GO{P:Program}{nt:Nat}{R:Type}(C0:Cx P nt)(Q:R->Exit->Act->World->Prop)(r:R)(F:Option R)(m:Mode)(ops:Array Oper)(rest:List Oper)(k:List KI)(st:St):Prop where
 go:F=some r->match m with
  | .s=>∀a w,bE C0 st a w->Hq P (Q r) (.l ops rest::k) .normal a w
  | .d l acc=>rest=l.drop acc.length->ops=l.toArray->ZU C0 l (Hq P (Q r) k .normal) rest acc st
variable{es:List (List DV)}{m:Mode}{rest:List Oper}{dst:Nat}{ty:TypeId}{pos:String}{af:Array Edge}{op:Op}{y z:Operand}{Rs:List (Nat×SV)}{Rh:List (Nat×Option HE)}{j:Nat}{t:TypeId}{d:TypeDesc}{ds:List DV}{off bytes:Nat}{zz:Value}{xs:List Operand}{E:TypeId}{size g:Nat}{tys:Array TypeId}{e:α->List DV}
section
variable{r:R}
theorem GF.reg{id:Nat}{l:List Oper}(h:GO C0 Q r F .s l.toArray l k st):GF C0 Q r F (.c (.region id l.toArray false)::k) st:=GF.region ⟨h.go⟩
theorem GF.drw{id:Nat}{l:List Oper}(hm:P.follows .mixedOrders=true)(h:GO C0 Q r F (.d l []) l.toArray l k st):GF C0 Q r F (.c (.region id l.toArray true)::k) st:=⟨λhr _ _ q=>TS hm (h.go hr U U) q⟩
theorem GO.XQ(h:GF C0 Q r F k st):GO C0 Q r F .s ops [] k st:=⟨λhr=>(GF.Ka (ops:=ops) h).go hr⟩
theorem GO.am8{l:List Oper}(hc:Oz l (Ds l []) acc=true)(h:GF C0 Q r F k st):GO C0 Q r F (.d l acc) ops [] k st:=⟨λhr _ _=>⟨hc,h.go hr⟩⟩
theorem drop_cons{l rest:List α}{o:α}(h:o::rest=l.drop n):l[n]? =some o/\rest=l.drop (n+1):=by
 have h1:(l.drop n)[0]? =some o:=by rw[<-h];rfl
 rw[awm,awE]at h1;refine⟨h1,?_⟩;have:(l.drop n).tail=rest:=by rw[<-h];rfl
 rw[<-this,List.tail_drop]
theorem GO.step{o:Oper}{e:iD}(h1:∀a w(K:Act->World->Prop) Q,bE C0 ⟨sl,hp⟩ a w->(∀a w,bE C0 ⟨sl',dg⟩ a w->K a w)->if Region.wanted o (yielded ops a.tmps)then o.wp P a w K Q else K (a.put o.dst undef) w)
  (h2:∀i,ops[i]? =some o->aae C0 ops i e) (hs:bK sl e.Rs) (hh:dn hp e.Rh) (e1:e.Ws++sl=sl') (e2:e.Wh++hp=dg) (hk:GO C0 Q r F (m.add e) ops rest k ⟨sl',dg⟩):GO C0 Q r F m ops (o::rest) k ⟨sl,hp⟩:=by
 subst e1 e2;refine⟨λhr=>?_⟩;have hg:=hk.go hr;cases m with
 | s=>
  intro a w q;show wpList P ops (Hq P (Q r) k) (o::rest) a w;exact ayM λK hK=>h1 a w K _ q λa w q'=>hK a w (hg a w q')
 | d l acc=>
  intro hd ho;obtain⟨d1,d2⟩:=drop_cons hd;exact .inl ⟨e,aAE,hs,hh,hg (by rw[avz];exact d2) ho⟩
def qD:Mode->Bool
 | .s=>true
 | .d l acc=>late l acc.length
theorem GO.new(g0:γ){o:Oper}{Ws:γ->List (Nat×SV)}{Wh:γ->List (Nat×Option HE)}(h1:∀a w(K:Act->World->Prop) Q,bE C0 ⟨sl,hp⟩ a w->(∀g a w,bE C0 ⟨Ws g++sl,Wh g++hp⟩ a w->K a w)->if Region.wanted o (yielded ops a.tmps)then o.wp P a w K Q else K (a.put o.dst undef) w)
  (h2:∀i,ops[i]? =some o->ajR C0 ops i Rs Rh Ws Wh) (hs:bK sl Rs) (hh:dn hp Rh) (hl:qD m=true) (hk:∀g,GO C0 Q r F (m.add ⟨Rs,Rh,Ws g,Wh g⟩) ops rest k ⟨Ws g++sl,Wh g++hp⟩):GO C0 Q r F m ops (o::rest) k ⟨sl,hp⟩:=by
 refine⟨λhr=>?_⟩;have hg:=λg=>(hk g).go hr
 cases m with
 | s=>
  intro a w q;show wpList P ops (Hq P (Q r) k) (o::rest) a w;exact ayM λK hK=>h1 a w K _ q λg a w q'=>hK a w (hg g a w q')
 | d l acc=>
  intro hd ho;obtain⟨d1,d2⟩:=drop_cons hd;exact .inr ⟨γ,g0,Rs,Rh,Ws,Wh,aAE,hs,hh,hl,λg=>hg g (by rw[avz];exact d2) ho⟩
theorem bE.yes{t:Nat}{b:Bool}(q:bE C0 ⟨sl,hp⟩ a w)(hj:(ops[j]?).bind (·.dst)=some t)(ht:bG sl t=some (.one (bB b))):yielded ops a.tmps j=some b:=by
 obtain⟨C,σ,lk,ob,c1,c2,β,rb⟩:=q;exact FM rb hj ht
theorem bE.undef{j t:Nat}{a:Act}{w:World}(q:bE C0 ⟨sl,hp⟩ a w)(hj:(ops[j]?).bind (·.dst)=some t)(ht:bG sl t=some (.one (.x Go.undef))):yielded ops a.tmps j=none:=by
 obtain⟨C,σ,lk,ob,c1,c2,β,rb⟩:=q;exact M5 rb hj ht
theorem bE.DO(q:bE C0 ⟨sl,hp⟩ a w)(d:Nat):bE C0 ⟨(d,.one (.x Go.undef))::sl,hp⟩ (a.put (some d) Go.undef) w:=by
 obtain⟨C,σ,lk,ob,c1,c2,β,rb⟩:=q;exact⟨C,σ,lk,ob,Nc (Ws:=[(d,.one (.x Go.undef))]) U c1,c2,β,rb.ac2 d⟩
theorem GO.stepG{o:Oper}{Ws:List (Nat×SV)}{Wh:List (Nat×Option HE)}(h:∀sl hp,bK sl Rs->dn hp Rh->∀a w(K:Act->World->Prop) Q,bE C0 ⟨sl,hp⟩ a w->(∀a w,bE C0 ⟨Ws++sl,Wh++hp⟩ a w->K a w)->o.wp P a w K Q)
  (hg:bD ops sl o.guard=true) (hs:bK sl Rs) (hh:dn hp Rh) (hk:GO C0 Q r F (m.add ⟨gH ops o.guard++Rs,Rh,Ws,Wh⟩) ops rest k ⟨Ws++sl,Wh++hp⟩):GO C0 Q r F m ops (o::rest) k ⟨sl,hp⟩:=by
 have hw:∀sl hp,bK sl (gH ops o.guard)->(∀j b,o.guard=some (j,b)->∃t,(ops[j]?).bind (·.dst)=some t)->∀a w,bE C0 ⟨sl,hp⟩ a w->Region.wanted o (yielded ops a.tmps)=true:=λsl hp h1 h2 a w q=>by
  cases ho:o.guard with
  | none=>simp[Region.wanted,ho]
  | some jb=>
   obtain⟨j,b⟩:=jb;obtain⟨t,ht⟩:=h2 j b ho;rw[ho]at h1;simp only[gH,ht]at h1;have:=q.yes ht h1.1;simp[Region.wanted,ho,this]
 have hx:∀j b,o.guard=some (j,b)->∃t,(ops[j]?).bind (·.dst)=some t:=λj b ho=>by
  rw[ho]at hg;simp only[bD]at hg;split at hg
  ·cases hg
  ·rename_i t ht;exact⟨t,ht⟩
 have hgs:=aby hg;refine GO.step (e:=⟨gH ops o.guard++Rs,Rh,Ws,Wh⟩) (λa w K Q q hK=>?_) (λi hi=>⟨λsl hp h1 h2 a w K Q q hK=>?_⟩) (hgs.both hs) hh U U hk
 ·rw[avk (hw sl hp hgs hx a w q)]
  exact h sl hp hs hh a w K Q q hK
 ·unfold wpOp
  rw[hi];simp only;rw[avk (hw sl hp h1.app.1 hx a w q)];exact .inl (h sl hp h1.app.2 h2 a w K Q q hK)
theorem GO.one{o:Oper}{Ws:List (Nat×SV)}{Wh:List (Nat×Option HE)}(h:∀C:Cx P nt,dJ C o Rs Rh Ws Wh)(hg:bD ops sl o.guard=true)(hs:bK sl Rs)(hh:dn hp Rh)(c1:Ws.all (λp=>p.2.calm)=true)
  (c2:Wh.all (λp=>match p.2 with | some e=>e.calm&& !e.isObj | none=>true)=true) (hk:GO C0 Q r F (m.add ⟨gH ops o.guard++Rs,Rh,Ws,Wh⟩) ops rest k ⟨Ws++sl,Wh++hp⟩):GO C0 Q r F m ops (o::rest) k ⟨sl,hp⟩:=
 GO.stepG (λsl hp hs hh a w K Q q hK=>by
  obtain⟨C,σ,lk,ob,z1,z2,hrel⟩:=q;exact(h C).go sl hp hs hh a w K Q hrel λa w Gg=>hK a w ⟨C,σ,lk,ob.sub (aie c2),Nc c1 z1,aat c2 z2,Gg⟩) hg hs hh hk
theorem GO.CP(g0:γ){o:Oper}{Ws:γ->List (Nat×SV)}{Wh:γ->List (Nat×Option HE)}(h:∀sl hp,bK sl Rs->dn hp Rh->∀a w(K:Act->World->Prop) Q,bE C0 ⟨sl,hp⟩ a w->(∀g a w,bE C0 ⟨Ws g++sl,Wh g++hp⟩ a w->K a w)->o.wp P a w K Q)
  (hg:bD ops sl o.guard=true) (hs:bK sl Rs) (hh:dn hp Rh) (hl:qD m=true) (hk:∀g,GO C0 Q r F (m.add ⟨gH ops o.guard++Rs,Rh,Ws g,Wh g⟩) ops rest k ⟨Ws g++sl,Wh g++hp⟩):GO C0 Q r F m ops (o::rest) k ⟨sl,hp⟩:=by
 have hx:∀j b,o.guard=some (j,b)->∃t,(ops[j]?).bind (·.dst)=some t:=λj b ho=>by
  rw[ho]at hg;simp only[bD]at hg;split at hg
  ·cases hg
  ·rename_i t ht;exact⟨t,ht⟩
 have hw:∀sl hp,bK sl (gH ops o.guard)->∀a w,bE C0 ⟨sl,hp⟩ a w->Region.wanted o (yielded ops a.tmps)=true:=λsl hp h1 a w q=>by
  cases ho:o.guard with
  | none=>simp[Region.wanted,ho]
  | some jb=>
   obtain⟨j,b⟩:=jb;obtain⟨t,ht⟩:=hx j b ho;rw[ho]at h1;simp only[gH,ht]at h1;have:=q.yes ht h1.1;simp[Region.wanted,ho,this]
 have hgs:=aby hg;refine GO.new g0 (λa w K Q q hK=>?_) (λi hi=>⟨λsl hp h1 h2 a w K Q q hK=>?_⟩) (hgs.both hs) hh hl hk
 ·rw[avk (hw sl hp hgs a w q)]
  exact h sl hp hs hh a w K Q q hK
 ·unfold wpOp
  rw[hi];simp only;rw[avk (hw sl hp h1.app.1 a w q)];exact .inl (h sl hp h1.app.2 h2 a w K Q q hK)
theorem GO.no{t:Nat}{b c:Bool}(hj:(ops[j]?).bind (·.dst)=some t)(ht:bG sl t=some (.one (bB b)))(hbc:(b==c)=false)
  (hk:GO C0 Q r F (m.add ⟨[(t,.one (bB b))],[],[(dst,.one (.x Go.undef))],[]⟩) ops rest k ⟨(dst,.one (.x Go.undef))::sl,hp⟩):GO C0 Q r F m ops (⟨some dst,op,ty,pos,af,some (j,c)⟩::rest) k ⟨sl,hp⟩:=by
 have h0:(some b==some c)=false:=by simpa using hbc
 refine GO.step (e:=⟨[(t,.one (bB b))],[],[(dst,.one (.x Go.undef))],[]⟩) (λa w K Q q hK=>?_) (λi hi=>⟨λsl hp h1 h2 a w K Q q hK=>?_⟩) ⟨ht,ayS⟩ ayS U U hk
 ·simp only[Region.wanted,q.yes hj ht,h0,avn,avB]
  exact hK _ _ (q.DO dst)
 ·unfold wpOp
  rw[hi];simp only[Region.wanted,q.yes hj h1.1,h0,avn,avB];exact hK _ _ (q.DO dst)
theorem GO.un{t:Nat}{c:Bool}(hj:(ops[j]?).bind (·.dst)=some t)(ht:bG sl t=some (.one (.x Go.undef)))
  (hk:GO C0 Q r F (m.add ⟨[(t,.one (.x Go.undef))],[],[(dst,.one (.x Go.undef))],[]⟩) ops rest k ⟨(dst,.one (.x Go.undef))::sl,hp⟩):GO C0 Q r F m ops (⟨some dst,op,ty,pos,af,some (j,c)⟩::rest) k ⟨sl,hp⟩:=by
 have h0:(none==some c)=false:=rfl;refine GO.step (e:=⟨[(t,.one (.x Go.undef))],[],[(dst,.one (.x Go.undef))],[]⟩) (λa w K Q q hK=>?_) (λi hi=>⟨λsl hp h1 h2 a w K Q q hK=>?_⟩) ⟨ht,ayS⟩ ayS U U hk
 ·simp only[Region.wanted,q.undef hj ht,h0,avn,avB]
  exact hK _ _ (q.DO dst)
 ·unfold wpOp
  rw[hi];simp only[Region.wanted,q.undef hj h1.1,h0,avn,avB];exact hK _ _ (q.DO dst)
theorem bK.ext{sl sl':SL}(h:∀t,bG sl' t=bG sl t):∀{l:List (Nat×SV)},bK sl l->bK sl' l
 | [],_=>trivial
 | _::_,q=>⟨(h _).trans q.1,bK.ext h q.2⟩
theorem ZU.ext{l:List Oper}{Qx:Act->World->Prop}:∀{rest:List Oper}{acc:List iD}{sl sl2:SL}{hp:HL},ZU C0 l Qx rest acc ⟨sl,hp⟩->(∀t,bG sl2 t=bG sl t)->ZU C0 l Qx rest acc ⟨sl2,hp⟩
 | [],_,_,_,_,h,hx=>⟨h.1,λa w q=>h.2 a w<|q.ext (λt=>(hx t).symm) λ_=>rfl⟩
 | _::_,_,_,_,_,h,hx=>by
  rcases h with⟨e,h1,h2,h3,h4⟩ | ⟨γ,g,Rs,Rh,Ws,Wh,h1,h2,h3,h4,h5⟩
  ·exact .inl ⟨e,h1,h2.ext hx,h3,h4.ext λt=>by simp only;rw[tq,tq,hx t]⟩
  ·exact .inr ⟨γ,g,Rs,Rh,Ws,Wh,h1,h2.ext hx,h3,h4,λg=>(h5 g).ext λt=>by simp only;rw[tq,tq,hx t]⟩
theorem GO.known{t:Nat}{b c:Bool}(hb:b=c)(hs:bG sl t=some (.one (bB b)))(h:GO C0 Q r F m ops rest k ⟨(t,.one (bB c))::sl,hp⟩):GO C0 Q r F m ops rest k ⟨sl,hp⟩:=by
 subst hb;have hx:∀t',bG sl t'=bG ((t,.one (bB b))::sl) t':=λt'=>by
  rw[eX];split
  ·rename_i c;subst c;exact hs
  ·rfl
 refine⟨λhr=>?_⟩;have hg:=h.go hr;cases m with
 | s=>exactλa w q=>hg a w (q.ext (λt=>(hx t).symm) λ_=>rfl)
 | d l acc=>
  intro h1 h2;exact(hg h1 h2).ext hx
theorem GO.ite{b:Bool}{X:Option R}(h1:b=true->GO C0 Q r X m ops rest k st)(h2:b=false->GO C0 Q r Y m ops rest k st):GO C0 Q r (if b=true then X else Y) m ops rest k st:=by
 cases b
 ·exact⟨(h2 U).go⟩
 ·exact⟨(h1 U).go⟩
theorem GO.bind{α:Type}{X:Option α}{f:α->Option R}(h:∀x,X=some x->GO C0 Q r (f x) m ops rest k st):GO C0 Q r (X.bind f) m ops rest k st:=
 ⟨λhr=>by
  obtain⟨x,h1,h2⟩:=avQ.1 hr;exact(h x h1).go h2⟩
theorem GO.nL{b:Bool}{X:Option R}(h:b=true->GO C0 Q r X m ops rest k st):GO C0 Q r (nL b X) m ops rest k st:=⟨λhr=>(h (ad9 hr).1).go (ad9 hr).2⟩
abbrev X0(ops:Array Oper)(gd:Option (Nat×Bool))(dst:Nat)(sv:SV):iD:=⟨gH ops gd,[],[(dst,sv)],[]⟩
abbrev X1(ops:Array Oper)(gd:Option (Nat×Bool))(x:Operand)(c:BV)(dst:Nat)(sv:SV):iD:=⟨gH ops gd++ey x c,[],[(dst,sv)],[]⟩
abbrev X2(ops:Array Oper)(gd:Option (Nat×Bool))(x:Operand)(c:BV)(y:Operand)(d:BV)(dst:Nat)(sv:SV):iD:=⟨gH ops gd++(ey x c++ey y d),[],[(dst,sv)],[]⟩
theorem f0{sv:SV}(hg:bD ops sl gd=true)(H:∀C:Cx P nt,dJ C (Oo dst op ty pos af gd) [] [] [(dst,sv)] [])(hc:sv.calm=true)(hk:GO C0 Q r F (m.add (X0 ops gd dst sv)) ops rest k ⟨(dst,sv)::sl,hp⟩):GO C0 Q r F m ops (Oo dst op ty pos af gd::rest) k ⟨sl,hp⟩:=
 GO.one H hg ayS ayS azU U azf
theorem f0h{sv:SV}{e:HE}(hg:bD ops sl gd=true)(H:∀C:Cx P nt,dJ C (Oo dst op ty pos af gd) [] [(kk,none)] [(dst,sv)] [(kk,some e)])(hh:aE hp kk=none)(hc:sv.calm=true)(he:(e.calm&& !e.isObj)=true)(hk:GO C0 Q r F (m.add ⟨gH ops gd,[(kk,none)],[(dst,sv)],[(kk,some e)]⟩) ops rest k ⟨(dst,sv)::sl,(kk,some e)::hp⟩):GO C0 Q r F m ops (Oo dst op ty pos af gd::rest) k ⟨sl,hp⟩:=
 GO.one H hg ayS ⟨hh,ayS⟩ azU az5 azf
theorem f1{c:BV}{sv:SV}(hg:bD ops sl gd=true)(H:∀(C:Cx P nt) Rs,Ev x c Rs->dJ C (Oo dst op ty pos af gd) Rs [] [(dst,sv)] [])(hx:aN sl x=some c)(hc:sv.calm=true)(hk:GO C0 Q r F (m.add (X1 ops gd x c dst sv)) ops rest k ⟨(dst,sv)::sl,hp⟩):GO C0 Q r F m ops (Oo dst op ty pos af gd::rest) k ⟨sl,hp⟩:=
 let⟨e,h⟩:=aJ hx;GO.one (λC=>H C _ e) hg h ayS azU U hk
theorem f1h{c:BV}{sv:SV}{e:HE}(hg:bD ops sl gd=true)(H:∀(C:Cx P nt) Rs,Ev x c Rs->dJ C (Oo dst op ty pos af gd) Rs [(kk,some e)] [(dst,sv)] [])(hx:aN sl x=some c)(hh:aE hp kk=some e)(hc:sv.calm=true)(hk:GO C0 Q r F (m.add ⟨gH ops gd++ey x c,[(kk,some e)],[(dst,sv)],[]⟩) ops rest k ⟨(dst,sv)::sl,hp⟩):GO C0 Q r F m ops (Oo dst op ty pos af gd::rest) k ⟨sl,hp⟩:=
 let⟨e',h⟩:=aJ hx;GO.one (λC=>H C _ e') hg h ⟨hh,ayS⟩ azU U hk
theorem f1n{c:BV}{sv:SV}{e:HE}(hg:bD ops sl gd=true)(H:∀(C:Cx P nt) Rs,Ev x c Rs->dJ C (Oo dst op ty pos af gd) Rs [(kk,none)] [(dst,sv)] [(kk,some e)])(hx:aN sl x=some c)(hh:aE hp kk=none)(hc:sv.calm=true)(he:(e.calm&& !e.isObj)=true)(hk:GO C0 Q r F (m.add ⟨gH ops gd++ey x c,[(kk,none)],[(dst,sv)],[(kk,some e)]⟩) ops rest k ⟨(dst,sv)::sl,(kk,some e)::hp⟩):GO C0 Q r F m ops (Oo dst op ty pos af gd::rest) k ⟨sl,hp⟩:=
 let⟨e',h⟩:=aJ hx;GO.one (λC=>H C _ e') hg h ⟨hh,ayS⟩ azU az5 hk
theorem f2{c d:BV}{sv:SV}(hg:bD ops sl gd=true)(H:∀(C:Cx P nt) Rs Rs',Ev x c Rs->Ev y d Rs'->dJ C (Oo dst op ty pos af gd) (Rs++Rs') [] [(dst,sv)] [])(hx:aN sl x=some c)(hy:aN sl y=some d)(hc:sv.calm=true)(hk:GO C0 Q r F (m.add (X2 ops gd x c y d dst sv)) ops rest k ⟨(dst,sv)::sl,hp⟩):GO C0 Q r F m ops (Oo dst op ty pos af gd::rest) k ⟨sl,hp⟩:=
 let⟨e,h⟩:=aJ hx;let⟨e',h'⟩:=aJ hy;GO.one (λC=>H C _ _ e e') hg (h.both h') ayS azU U hk
theorem f2s{c d:BV}{e e':HE}(hg:bD ops sl gd=true)(H:∀(C:Cx P nt) Rs Rs',Ev x c Rs->Ev y d Rs'->dJ C ⟨none,op,ty,pos,af,gd⟩ (Rs++Rs') [(kk,some e)] [] [(kk,some e')])(hx:aN sl x=some c)(hy:aN sl y=some d)(hh:aE hp kk=some e)(he:(e'.calm&& !e'.isObj)=true)(hk:GO C0 Q r F (m.add ⟨gH ops gd++(ey x c++ey y d),[(kk,some e)],[],[(kk,some e')]⟩) ops rest k ⟨sl,(kk,some e')::hp⟩):GO C0 Q r F m ops (⟨none,op,ty,pos,af,gd⟩::rest) k ⟨sl,hp⟩:=
 let⟨e1,h⟩:=aJ hx;let⟨e2,h'⟩:=aJ hy;GO.one (λC=>H C _ _ e1 e2) hg (h.both h') ⟨hh,ayS⟩ U az5 hk
theorem akn{d:Option Nat}{t:Nat}{b c b':Bool}(_:(ops[j]?).bind (·.dst)=some t)(ht:bG sl t=some (.one (bB c)))(hc:c=b')(hk:GO C0 Q r F m ops (⟨d,op,ty,pos,af,some (j,b)⟩::rest) k ⟨(t,.one (bB b'))::sl,hp⟩):GO C0 Q r F m ops (⟨d,op,ty,pos,af,some (j,b)⟩::rest) k ⟨sl,hp⟩:=GO.known hc ht hk
theorem aj2{t:Nat}{c b':Bool}{u v:Code}(ht:bG sl t=some (.one (bB c)))(hc:c=b')(hk:GF C0 Q r F (.c (.cond (.tmp t) u v)::k) ⟨(t,.one (bB b'))::sl,hp⟩):GF C0 Q r F (.c (.cond (.tmp t) u v)::k) ⟨sl,hp⟩:=GF.known hc ht hk
theorem am2{t:Nat}{b:Bool}{X:Option R}{u v:Code}(ht:bG sl t=some (.one (bB b)))(h1:b=true->GF C0 Q r X (.c u::k) ⟨(t,.one (bB true))::sl,hp⟩)(h2:b=false->GF C0 Q r Y (.c v::k) ⟨(t,.one (bB false))::sl,hp⟩):
  GF C0 Q r (if b=true then X else Y) (.c (.cond (.tmp t) u v)::k) ⟨sl,hp⟩:=
 GF.ite (λh=>GF.known h ht<|GF.Wb (by simp[eX])<|h1 h) (λh=>GF.known h ht<|GF.Wa (by simp[eX])<|h2 h)
theorem anj{d:Option Nat}{t:Nat}{b c:Bool}{X:Option R}(_:(ops[j]?).bind (·.dst)=some t)(ht:bG sl t=some (.one (bB b)))(h1:b=true->GO C0 Q r X m ops (⟨d,op,ty,pos,af,some (j,c)⟩::rest) k ⟨(t,.one (bB true))::sl,hp⟩)(h2:b=false->GO C0 Q r Y m ops (⟨d,op,ty,pos,af,some (j,c)⟩::rest) k ⟨(t,.one (bB false))::sl,hp⟩):
  GO C0 Q r (if b=true then X else Y) m ops (⟨d,op,ty,pos,af,some (j,c)⟩::rest) k ⟨sl,hp⟩:=
 GO.ite (λh=>GO.known h ht<|h1 h) (λh=>GO.known h ht<|h2 h)
theorem aej{T:TypeId}(hg:bD ops sl gd=true)(i:Tm P T zs)(hh:aE hp (dst+100)=none)(hd:Nat.blt dst nt=true)(hk:GO C0 Q r F (m.add ⟨gH ops gd,[(dst+100,none)],[(dst,.one (.ptr (dst+100) 0))],[(dst+100,some (.blk T (dat zs)))]⟩) ops rest k ⟨(dst,.one (.ptr (dst+100) 0))::sl,(dst+100,some (.blk T (dat zs)))::hp⟩):
  GO C0 Q r F m ops (Oo dst (.alloc T) ty pos af gd::rest) k ⟨sl,hp⟩:=
 let⟨_,_,_,hI,hz,_⟩:=i;f0h (e:=.blk T<|dat zs) hg (λ_=>Gq hI hz.zl hd<|by simp) hh U az0 hk
theorem Kf{T:TypeId}(hg:bD ops sl gd=true)(hx:aN sl x=some (.g (.agg ds)))(hh:aE hp (dst+100)=none)(hd:Nat.blt dst nt=true)(hk:GO C0 Q r F (m.add ⟨gH ops gd++ey x (.g (.agg ds)),[(dst+100,none)],[(dst,.one (.ptr (dst+100) 0))],[(dst+100,some (.blk T (dat ds)))]⟩) ops rest k ⟨(dst,.one (.ptr (dst+100) 0))::sl,(dst+100,some (.blk T (dat ds)))::hp⟩):
  GO C0 Q r F m ops (Oo dst (.box T x) ty pos af gd::rest) k ⟨sl,hp⟩:=
 f1n (e:=.blk T<|dat ds) hg (λ_ _ e=>PF e hd<|by simp) hx hh U az0 hk
theorem ahm{T:TypeId}{d:DV}(hg:bD ops sl gd=true)(hx:aN sl x=some (.g (.d d)))(hh:aE hp (dst+100)=none)(hd:Nat.blt dst nt=true)(hk:GO C0 Q r F (m.add ⟨gH ops gd++ey x (.g (.d d)),[(dst+100,none)],[(dst,.one (.ptr (dst+100) 0))],[(dst+100,some (.blk T ([.g (.d d)])))]⟩) ops rest k ⟨(dst,.one (.ptr (dst+100) 0))::sl,(dst+100,some (.blk T ([.g (.d d)])))::hp⟩):
  GO C0 Q r F m ops (Oo dst (.box T x) ty pos af gd::rest) k ⟨sl,hp⟩:=
 f1n (e:=.blk T<|[.g (.d d)]) hg (λ_ _ e=>aff ayS e hd<|by simp) hx hh U U hk
theorem aen(hg:bD ops sl gd=true)(i:aaa P S f o)(hx:aN sl x=some (.ptr kk off))(hd:Nat.blt dst nt=true)(hk:GO C0 Q r F (m.add (X1 ops gd x (.ptr kk off) dst (.one (.ptr kk (off+o))))) ops rest k ⟨(dst,.one (.ptr kk (off+o)))::sl,hp⟩):GO C0 Q r F m ops (Oo dst (.fieldAddr S x f) ty pos af gd::rest) k ⟨sl,hp⟩:=
 let⟨_,_,_,_,_,hS,hf,hI,hz,ho⟩:=i;f1 hg (λ_ _ e=>gK hS hf hI hz (awp (off+ ·) ho) e hd) hx U hk
theorem aa9(hg:bD ops sl gd=true)(i:aaa P S f o)(hx:aN sl x=some (.ep cs))(hd:Nat.blt dst nt=true)(hk:GO C0 Q r F (m.add (X1 ops gd x (.ep cs) dst (.one (.ep (cs.drop o))))) ops rest k ⟨(dst,.one (.ep (cs.drop o)))::sl,hp⟩):GO C0 Q r F m ops (Oo dst (.fieldAddr S x f) ty pos af gd::rest) k ⟨sl,hp⟩:=
 let⟨_,_,_,_,_,hS,hf,hI,hz,ho⟩:=i;f1 hg (λ_ _ e=>YM hS hf hI hz (awp (cs.drop ·) ho) e hd) hx U hk
theorem OU{cs:List BV}{c:BV}(hg:bD ops sl gd=true)(hU:P.underlying t=some d)(hA:qJ d=false)(hx:aN sl x=some (.ptr kk off))(hh:aE hp kk=some (.blk T cs))(hc:cs[off]? =some c)(hcc:c.calm=true)(hd:Nat.blt dst nt=true)(hk:GO C0 Q r F (m.add ⟨gH ops gd++ey x (.ptr kk off),[(kk,some (.blk T cs))],[(dst,.one c)],[]⟩) ops rest k ⟨(dst,.one c)::sl,hp⟩):GO C0 Q r F m ops (Oo dst (.load t x) ty pos af gd::rest) k ⟨sl,hp⟩:=f1h hg (λ_ _ e=>jx hU hA hc e hd) hx hh hcc hk
theorem aep{cs:List BV}(hg:bD ops sl gd=true)(hU:P.underlying t=some d)(hI:Info P t zz n bytes)(hA:qJ d=true)(hx:aN sl x=some (.ptr kk off))(hh:aE hp kk=some (.blk T cs))(hc:S2 ((cs.drop off).take n)=some ds)(hn:ds.length=n)(hd:Nat.blt dst nt=true)(hk:GO C0 Q r F (m.add ⟨gH ops gd++ey x (.ptr kk off),[(kk,some (.blk T cs))],[(dst,.one (.g (.agg ds)))],[]⟩) ops rest k ⟨(dst,.one (.g (.agg ds)))::sl,hp⟩):GO C0 Q r F m ops (Oo dst (.load t x) ty pos af gd::rest) k ⟨sl,hp⟩:=by
 subst hn;exact f1h hg (λ_ _ e=>oR hU hA hI (LQ hc) e hd) hx hh U hk
theorem abh{c:DV}(hg:bD ops sl gd=true)(hU:P.underlying t=some d)(hA:qJ d=false)(hx:aN sl x=some (.ep cs))(hc:cs[0]? =some c)(hd:Nat.blt dst nt=true)(hk:GO C0 Q r F (m.add (X1 ops gd x (.ep cs) dst (.one (.g (.d c))))) ops rest k ⟨(dst,.one (.g (.d c)))::sl,hp⟩):GO C0 Q r F m ops (Oo dst (.load t x) ty pos af gd::rest) k ⟨sl,hp⟩:=f1 hg (λ_ _ e=>NQ hU hA hc e hd) hx U hk
theorem abi(hg:bD ops sl gd=true)(hU:P.underlying t=some d)(hI:Info P t zz n bytes)(hA:qJ d=true)(hx:aN sl x=some (.ep cs))(hc:cs.take n=ds)(hn:ds.length=n)(hd:Nat.blt dst nt=true)(hk:GO C0 Q r F (m.add (X1 ops gd x (.ep cs) dst (.one (.g (.agg ds))))) ops rest k ⟨(dst,.one (.g (.agg ds)))::sl,hp⟩):GO C0 Q r F m ops (Oo dst (.load t x) ty pos af gd::rest) k ⟨sl,hp⟩:=by
 subst hn;exact f1 hg (λ_ _ e=>DM hU hA hI hc e hd) hx U hk
theorem Rp{cs:List BV}{c:BV}(hg:bD ops sl gd=true)(hI:Info P S zz 1 bytes)(hx:aN sl x=some (.ptr kk off))(hy:aN sl y=some c)(hsg:c.sg)(hh:aE hp kk=some (.blk T cs))(ho:Nat.blt off cs.length=true)(he:(HE.calm (.blk T (Da cs off [c])))=true)
  (hk:GO C0 Q r F (m.add ⟨gH ops gd++(ey x (.ptr kk off)++ey y c),[(kk,some (.blk T cs))],[],[(kk,some (.blk T<|Da cs off [c]))]⟩) ops rest k ⟨sl,(kk,some (.blk T<|Da cs off [c]))::hp⟩):GO C0 Q r F m ops (⟨none,.store S x y,ty,pos,af,gd⟩::rest) k ⟨sl,hp⟩:=
 f2s (e':=.blk T<|Da cs off [c]) hg (λ_ _ _ e e'=>Vu hsg hI ho e e') hx hy hh (by rw[he];rfl) hk
theorem abr{cs:List BV}(hg:bD ops sl gd=true)(hI:Info P S zz n bytes)(hx:aN sl x=some (.ptr kk off))(hy:aN sl y=some (.g (.agg ds)))(hn:ds.length=n)(hh:aE hp kk=some (.blk T cs))(ho:Nat.ble (off+ds.length) cs.length=true)(he:(HE.calm (.blk T (Da cs off (dat ds))))=true)
  (hk:GO C0 Q r F (m.add ⟨gH ops gd++(ey x (.ptr kk off)++ey y (.g<|.agg ds)),[(kk,some (.blk T cs))],[],[(kk,some (.blk T<|Da cs off<|dat ds))]⟩) ops rest k ⟨sl,(kk,some (.blk T<|Da cs off<|dat ds))::hp⟩):GO C0 Q r F m ops (⟨none,.store S x y,ty,pos,af,gd⟩::rest) k ⟨sl,hp⟩:=by
 subst hn;exact f2s (e':=.blk T<|Da cs off<|dat ds) hg (λ_ _ _ e e'=>AP hI ho e e') hx hy hh (by rw[he];rfl) hk
theorem jr{T:TypeId}{pl:Array (Nat×Nat)}{xs:List (Nat×Operand)}{gs:List (Nat×AG)}(hg:bD ops sl gd=true)(i:Tm P T zs)(j:ajS P T pl)(ha:F4 sl xs=some gs)(he:(lu (pl[·]?) (zs.map some) gs).bind On=some ds)(hd:Nat.blt dst nt=true)
  (hk:GO C0 Q r F (m.add ⟨gH ops gd++OQ xs gs,[],[(dst,.one (.g<|.agg ds))],[]⟩) ops rest k ⟨(dst,.one (.g<|.agg ds))::sl,hp⟩):GO C0 Q r F m ops (Oo dst (.build T xs.toArray) ty pos af gd::rest) k ⟨sl,hp⟩:=
 let⟨_,_,_,hI,hz,_⟩:=i;let⟨_,hS,hp⟩:=j;let⟨e,q⟩:=vN ha
 GO.one (λ_=>Sc hS hI hp hz e (by
  cases h:lu (pl[·]?) (zs.map some) gs with
  | none=>rw[h]at he;cases he
  | some l=>rw[h]at he;rw[Am he]) hd) hg q ayS U U hk
theorem OT{T:TypeId}{len:Nat}{xs:List (Nat×Operand)}{gs:List (Nat×AG)}(hg:bD ops sl gd=true)(hT:P.underlying T=some (.slice E))(hI:Info P E zz size bytes)(ha:F4 sl xs=some gs)(hbig:Nat.ble (len*size) 16777216=true)(hlen:Nat.ble len 16777216=true)
  (he:(lu (λi=>some (i*size,size)) (List.replicate (len*size) none) gs).bind On=some ds) (agV:chunk size len ds=es) (h1:es.flatten=ds) (h2:Nat.beq es.length len=true) (h3:es.all (λc=>Nat.beq c.length size)=true) (hd:Nat.blt dst nt=true)
  (hk:GO C0 Q r F (m.add ⟨gH ops gd++OQ xs gs,[],[(dst,.one (.g<|.d<|.sl size es))],[]⟩) ops rest k ⟨(dst,.one (.g<|.d<|.sl size es))::sl,hp⟩):GO C0 Q r F m ops (Oo dst (.buildSlice T len xs.toArray) ty pos af gd::rest) k ⟨sl,hp⟩:=
 let⟨e,q⟩:=vN ha
 GO.one (λ_=>yD hT hI hbig hlen e (by
  cases h:lu (λi=>some (i*size,size)) (List.replicate (len*size) none) gs with
  | none=>rw[h]at he;cases he
  | some l=>rw[h]at he;rw[Am he,h1]) h2 (λc hc=>av3 (avI.1 h3 c hc)) hd) hg q ayS U U hk
theorem aeo{l:List α}{f:α->Option R}{T:TypeId}{kd:IntKind}{n:Int}(hg:bD ops sl gd=true)(hT:P.underlying T=some (.slice E))(hI:Info P E zz size bytes)(hx:aN sl x=some (.g (.d (.sl size (l.map e)))))(hy:aN sl y=some (bI kd n))(hd:Nat.blt dst nt=true)
  (hk:∀a,idx l n=some a->GO C0 Q r (f a) (m.add<|X2 ops gd x (.g<|.d<|.sl size<|l.map e) y (bI kd n) dst<|.one<|.ep<|e a) ops rest k ⟨(dst,.one (.ep<|e a))::sl,hp⟩):GO C0 Q r ((idx l n).bind f) m ops (Oo dst (.indexAddr T x y) ty pos af gd::rest) k ⟨sl,hp⟩:=
 GO.bind λa ha=>f2 hg (λ_ _ _ e e'=>zH ha hT hI e e' hd) hx hy U (hk a ha)
theorem ahn{f:α->Option R}{res:α->RS}(hg:bD ops sl gd=true)(i:Z7 P X g args res)(c:cG P g)(ha:pM sl xs=some args)(hd:Nat.blt dst nt=true)
  (hk:∀u,X=some u->GO C0 Q r (f u) (m.add ⟨gH ops gd++vM xs args,[],[(dst,(res u).sv)],[]⟩) ops rest k ⟨(dst,(res u).sv)::sl,hp⟩):GO C0 Q r (X.bind f) m ops (Oo dst (gO g xs tys) ty pos af gd::rest) k ⟨sl,hp⟩:=
 GO.bind λu hu=>let⟨e,q⟩:=fJ ha;GO.one (λC=>WT c (i u hu) U e hd) hg q ayS aAr U (hk u hu)
end
section
theorem EI{T:TypeId}{a:Option Addr}(hT:P.underlying T=some (.pointer E)):(Op.equal T (.pointer a) (.pointer none)).run P w= .ok a.isNone w:=by
 have:Op.equal T (.pointer a) (.pointer none)=Op.equalIn (9999+1) T (.pointer a) (.pointer none):=rfl;rw[this,Op.equalIn];cases a<;>simp[avw,avm hT]
theorem MD{T:TypeId}{a:Option Addr}(hT:P.underlying T=some (.pointer E)):(binOp .eql T (.pointer a) (.pointer none)).run P w= .ok (.bool a.isNone) w:=by
 simp only[binOp,avw,EI hT,Result.andThen,avF]
theorem P6{T T':TypeId}{ρ:Operand->Value}{a:Option Addr}(hT:P.underlying T=some (.pointer E))(h1:ρ x= .pointer a)(h2:ρ (.const (.pointer none))= .pointer none):
  (execOp ρ<|Oo dst (.binOp .eql T x (.const<|.pointer none) T') ty pos af gd).run P w= .ok (.value<|.bool a.isNone) w:=by
 have hg:=ef (P:=P) (op:=.eql) (t:=T) (x:=x) (y:=.const<|.pointer none) (v:=.pointer none) (w:=w) (u:=.pointer a) U (λh=>azm);simp only[execOp,h1,h2,avw,hg,Result.andThen,MD hT,avF]
theorem NM{T T':TypeId}{p:Option Addr}{b:Bool}(hv:v= .pointer p)(hb:p.isNone=b)(hT:P.underlying T=some (.pointer E))(hx:Ev x (dv v) Rs)(hd:Nat.blt dst nt=true):
  dJ C (Oo dst (.binOp .eql T x (.const<|.pointer none) T') ty pos af gd) Rs [] [(dst,.one (bB b))] []:=by
 subst hv hb;exact bu hd U λsl hp β a w hs _ r=>⟨.bool p.isNone,P6 hT (BR.aX<|hx.ok hs r) U,RD.v _ U⟩
end
variable{T':Nat}
section
variable{r:R}
theorem aa6{E:Nat}(hg:bD ops sl gd=true)(hU:P.underlying T=some (.pointer E))(hx:aN sl x=some (dv (.pointer none)))(hd:Nat.blt dst nt=true)(hk:GO C0 Q r F (m.add (X1 ops gd x (dv (.pointer none)) dst (.one (bB true)))) ops rest k ⟨(dst,.one (bB true))::sl,hp⟩):GO C0 Q r F m ops (Oo dst (.binOp .eql T x (.const (.pointer none)) T') ty pos af gd::rest) k ⟨sl,hp⟩:=f1 hg (λ_ _ e=>NM U U hU e hd) hx U hk
end
abbrev SG{P:Program}{nt:Nat}{R:Type}{C:Cx P nt}{Q:R->Exit->Act->World->Prop}{r:R}{F:Option R}{m:Mode}{ops:Array Oper}{d:Option Nat}{ty:TypeId}{pos:String}{af:Array Edge}{gd:Option (Nat×Bool)}{rest:List Oper}{k:List KI}{st:St}(o:Op):Prop:=GO C Q r F m ops (⟨d,o,ty,pos,af,gd⟩::rest) k st
def acE:List AG->RS
 | [g]=>.one g
 | gs=>.eV gs
variable{QG:List ResultVar}
section
theorem IU{vs:List Value}(hres:fn.results=QG.toArray)(h:(QG.mapM (Fv a.tmps)).run P w= .ok vs w):
  (results fn a.tmps).run P w= .ok (if h:vs.toArray.size=1 then vs.toArray[0]else .tuple vs.toArray) w:=by
 rw[ri,hres,List.mapM_toArray];simp only[map_eq_pure_bind,avw,h,avt,avF]
theorem W7{gs:List AG}{vs:List Value}(hl:vs.length=gs.length)(h:∀(i:Nat)(g:AG),gs[i]? =some g->∃v,vs[i]? =some v/\GR M w' v g):
  I3 M w' (acE gs) (if h:vs.toArray.size=1 then vs.toArray[0]else .tuple vs.toArray):=by
 match gs,vs,hl with
 | [],[],_=>exact⟨#[],U,U,λi g hi=>by simp at hi⟩
 | [g],[v],_=>
  obtain⟨v',h1,h2⟩:=h 0 g U;cases h1;exact h2
 | g::g'::gs,v::v'::vs,hl=>
  have hne:¬(v::v'::vs).toArray.size=1:=by simp
  rw[dif_neg hne];refine⟨(v::v'::vs).toArray,U,azd,λi g0 hi=>?_⟩;obtain⟨x,h1,h2⟩:=h i g0 hi;exact⟨x,ay7,h2⟩
theorem I3.toR{K:Nat->Prop}{res:RS}(h:I3 M w' res v):QJ M K w w' res v:=by
 cases res with
 | one g=>exact h
 | eV l=>exact h
 | new T size es=>exact h.elim
end
section
variable{r:R}
end
theorem Ct.iB{res:R->RS}{r:R}(hf:P.funcs[f]? =some fn)(hb:fn.body=some code)(hn:fn.ntmps=n)(hle:Nat.ble args.length n=true)
  (hrow:args.all (λg=>match g with | .g _=>true | _=>false)=true) (hF:F=some r)
  (h:∀C0:Cx P n,GF C0 (λr=>bodyPost P fn<|BL C0.M C0.K C0.w0<|res r) r F [.c code] ⟨m7 0 args,[]⟩):Ct P f args (res r):=by
 refine Ct.intro hf hb hn hle (avI.2 λg hg=>?_) λM w=>⟨λa w' hrel=>?_⟩
 ·have:=avI.1 hrow g hg
  cases g<;>first | rfl | cases this
 ·have hc:∀t sv,bG (m7 0 args) t=some sv->sv.calm=true:=λt sv ht=>by
   obtain⟨_,g,h1,rfl⟩:=oq ht;have:=avI.1 hrow g (avH h1);cases g with
   | g a=>rfl
   | _=>cases this
  refine(h ⟨w,M,λ_=>False,none⟩).go hF a w' ⟨_,λ_ _=>False,⟨⟨U,U,U,avq _,λ_ _ _=>rfl⟩,λb c=>c.elim,λb o c=>c,U,λb o c=>?_⟩,⟨λ_ _ hk=>aBP,λ_ _ _ hk=>aBP,λ_ _ _ _ _ hk=>aBP,λ_ _ hk=>aBP⟩,hc,λ_ _ hk=>aBP,hrel⟩
  obtain⟨β,rb⟩:=hrel;exact rb.low b o c
abbrev pt(b o:Nat):BV:=.g (.d (.v (.pointer (some ⟨b,o,none⟩))))
abbrev pv(b:Nat):DV:=.v (.pointer (some ⟨b,0,none⟩))
def Hy(cs:List DV)(o:Nat)(l:List DV):List DV:=cs.take o++l++cs.drop (o+l.length)
class B9(Φ:OP)(b:Nat)(T:outParam Nat)(cs:outParam (List DV))(R:outParam (List DV->OP)):Prop where
 h:qH Φ (eu b T cs) (λc=>eu b T c) R
 om:∀c,bL (R c)
class OM(Φ:OP):Prop where
 h:bL Φ
instance{b T:Nat}{cs:List DV}:OM (eu b T cs):=⟨NL⟩
instance{b:Nat}{es:List (Value×AG)}:OM (tJ b es):=⟨Pz⟩
instance:OM tH:=⟨CS⟩
instance{A B:OP}[a:OM A][b:OM B]:OM (Sep A B):=⟨uh a.h b.h⟩
instance{α:Type}{A:α->OP}[a:∀x,OM (A x)]:OM (qA A):=⟨agr λx=>(a x).h⟩
instance{A B:OP}{b T:Nat}{cs:List DV}{R:List DV->OP}[a:OM A][i:B9 B b T cs R]:B9 (Sep A B) b T cs (λc=>Sep A (R c)):=⟨i.h.r a.h,λc=>uh a.h (i.om c)⟩
instance{A B:OP}{b T:Nat}{cs:List DV}{R:List DV->OP}[a:OM B][i:B9 A b T cs R]:B9 (Sep A B) b T cs (λc=>Sep (R c) B):=⟨i.h.l a.h,λc=>uh (i.om c) a.h⟩
instance{b T:Nat}{cs:List DV}:B9 (eu b T cs) b T cs (λc=>eu b T c):=⟨qH.refl,λ_=>NL⟩
theorem Jo{R:List DV->OP}[i:B9 Φ b T cs R]:B9 Φ b T cs R:=i
theorem oM[i:OM Φ]:bL Φ:=i.h
variable{R1 R2:List (Nat×SV)}
section
theorem At.read(A:At C0 sl hp kk Φ a w M O)(hk:aE hp kk=some (.obj Φ)){res:RS}(hd:dst<nt)(hr:I3 M w res v):bE C0 ⟨(dst,res.sv)::sl,hp⟩ (a.put (some dst) v) w:=by
 have ZY:(λb o=>(M b o/\¬O b)\/O b)=M:=funext λb=>funext λo=>propext ⟨λc=>c.elim (λc=>c.1) λc=>A.own b c o,λc=>by
  by_cases d:O b
  ·exact .inr d
  ·exact .inl ⟨c,d⟩⟩
 have:=(A.next Φ O w A.om ⟨U,U,U,avq _,λ_ _ _=>rfl⟩ (λb hb=>.inl hb) (λb hb=>A.om.lt A.obj b hb) (by rw[ZY];exact A.obj)).2 dst res v hd (by rw[ZY];exact hr)
 refine this.ext (λ_=>rfl) λk=>?_;simp only;rw[aG];split
 ·rename_i c;subst c;exact hk
 ·rfl
theorem At.blk{R:List DV->OP}(A:At C0 sl hp kk Φ a w M O)(i:B9 Φ b T cs R):∃arr,w.heap[b]? =some (.cells arr T (0,0))/\arr.size=cs.length/\∀(j:Nat)(d:DV),cs[j]? =some d->∃u,arr[j]? =some u/\RD M w u d:=by
 obtain⟨Os,_,h2,_⟩:=i.h M w O A.lt A.own A.obj;exact h2.2
theorem At.ptr(A:At C0 sl hp kk Φ a w M O)(hx:Ev x (pt b o) Rs)(hs:bK sl Rs):a.eval x= .pointer (some ⟨b,o,none⟩):=RD.aX (A.one hx hs)
theorem RV{c:DV}{R:List DV->OP}(hU:P.underlying t=some d)(hA:qJ d=false)(i:B9 Φ b T cs R)(hc:cs[o]? =some c)(hx:Ev x (pt b o) R1)(hd:Nat.blt dst nt=true)
  (sl:SL) (hp:HL) (hs:bK sl R1) (hh:dn hp [(kk,some (.obj Φ))]) (a:Act) (w:World) (K:Act->World->Prop) (Q:Exit->Act->World->Prop) (q:bE C0 ⟨sl,hp⟩ a w) (hK:∀a w,bE C0 ⟨(dst,.one (.g<|.d c))::sl,hp⟩ a w->K a w):(Oo dst (.load t x) ty pos af gd).wp P a w K Q:=by
 obtain⟨M,O,A⟩:=dL q hh.1;obtain⟨arr,h1,h2,h3⟩:=A.blk i;obtain⟨u,q1,q2⟩:=h3 o c hc;have hu:=A.ptr hx hs;have hcl:w.cell? ⟨b,o,none⟩=some u:=by rw[awM w b o arr T _ h1];exact q1
 unfold Oper.wp;rw[show(execOp a.eval<|Oo dst (.load t x) ty pos af gd).run P w= .ok (.value u) w by simp[execOp,hu,Instr.loadAt,Instr.sureAddr,loadVar,rj hU,hA,hcl]];exact hK _ _ (A.read hh.1 (res:=.one<|.d c) ay1 q2)
theorem RW{R:List DV->OP}(hU:P.underlying t=some d)(hI:Info P t zz n bytes)(hA:qJ d=true)(i:B9 Φ b T cs R)(hc:(cs.drop o).take n=ds)(hn:ds.length=n)(hx:Ev x (pt b o) R1)(hd:Nat.blt dst nt=true)
  (sl:SL) (hp:HL) (hs:bK sl R1) (hh:dn hp [(kk,some (.obj Φ))]) (a:Act) (w:World) (K:Act->World->Prop) (Q:Exit->Act->World->Prop) (q:bE C0 ⟨sl,hp⟩ a w) (hK:∀a w,bE C0 ⟨(dst,.one (.g<|.agg ds))::sl,hp⟩ a w->K a w):(Oo dst (.load t x) ty pos af gd).wp P a w K Q:=by
 obtain⟨M,O,A⟩:=dL q hh.1;obtain⟨arr,h1,h2,h3⟩:=A.blk i;have hu:=A.ptr hx hs;have key:∀j dd,ds[j]? =some dd->∃u,arr[o+j]? =some u/\RD M w u dd:=by
  intro j dd hj;have hl:j<ds.length:=(avl.1 hj).1
  refine h3 _ _ ?_;have e:((cs.drop o).take n)[j]? =ds[j]? :=by rw[hc]
  rw[awv,avk ayT,awm]at e;rw[e,hj]
 have KA:∀j,j<n->w.cell? ⟨b,o+j,none⟩=some ((λj=>arr.getD (o+j) undef) j):=by
  intro j hj;obtain⟨u,ZX,_⟩:=key j (ds[j]' ayT) (by simp[show j<ds.length by omega]);rw[awM w b _ arr T _ h1];simp[ZX]
 unfold Oper.wp;rw[show(execOp a.eval<|Oo dst (.load t x) ty pos af gd).run P w= .ok (.value<|.agg ((List.range n).map λj=>arr.getD (o+j) undef).toArray) w by
  simp only[execOp,hu,avw];rw[mg hU hA hI _ KA];rfl]
 refine hK _ _ (A.read hh.1 (res:=.one<|.agg ds) ay1 ⟨_,U,by simp[hn],λj dd hj=>?_⟩);obtain⟨u,h1,h2⟩:=key j dd hj;have hl:j<ds.length:=(avl.1 hj).1
 exact⟨u,by simp[show j<n by omega,h1],h2⟩
theorem IW{l:List DV}{R:List DV->OP}(i:B9 Φ b T cs R)(ho:o+l.length<=cs.length)(hx:Ev x (pt b o) R1)
  (hrun:∀sl hp a w M O,bK sl R2->At C0 sl hp kk Φ a w M O->∃vs:List Value,vs.length=l.length/\(∀ad:Addr,(Instr.storeAt S (.pointer<|some ad)<|a.eval y).run P w=(storeCells ad vs).run P w)/\∀(j:Nat)(c:DV),l[j]? =some c->∃u,vs[j]? =some u/\RD M w u c)
  (sl:SL) (hp:HL) (hs:bK sl (R1++R2)) (hh:dn hp [(kk,some (.obj Φ))]) (a:Act) (w:World) (K:Act->World->Prop) (Q:Exit->Act->World->Prop) (q:bE C0 ⟨sl,hp⟩ a w) (hK:∀a w,bE C0 ⟨sl,(kk,some (.obj<|R<|Hy cs o l))::hp⟩ a w->K a w):(⟨none,.store S x y,ty,pos,af,gd⟩:Oper).wp P a w K Q:=by
 obtain⟨M,O,A⟩:=dL q hh.1;have hu:=A.ptr hx hs.app.1;obtain⟨vs,hvl,hst,hvc⟩:=hrun sl hp a w M O hs.app.2 A;obtain⟨Os,p1,⟨p2,arr,hheap,hsz,hcell⟩,p4⟩:=i.h M w O A.lt A.own A.obj;have hone:∀v,v∈vs->v.oneCell'=true:=by
  intro v hv;obtain⟨j,hj,rfl⟩:=avO hv;obtain⟨u,h1,h2⟩:=hvc j (l[j]' ayT) (by simp[show j<l.length by omega]);simp[avs hj]at h1;rw[h1];exact h2.one
 have hsc:=ayd P b o T vs 0 arr w hheap ayT hone;simp only[awE]at hsc;generalize hw1:w.setRow b (List.take o arr.toList++vs++List.drop (o+vs.length) arr.toList).toArray=w1 at hsc
 have hnew:w1.heap[b]? =some (.cells (List.take o arr.toList++vs++List.drop (o+vs.length) arr.toList).toArray T):=by
  rw[<-hw1];exact axU w b arr _ T _ hheap
 have kJ:∀i,i≠b->w1.heap[i]? =w.heap[i]? :=λi hi=>by rw[<-hw1];exact axW w b i _ hi
 have hsize:w1.heap.size=w.heap.size:=by rw[<-hw1];simp[World.setRow]
 unfold Oper.wp;have:(execOp a.eval ⟨none,.store S x y,ty,pos,af,gd⟩).run P w= .ok .skip w1:=by
  simp only[execOp,hu,avw,hst,hsc,avt,avF]
 rw[this];have akv:∀b,Os b->∀o,M b o:=λb hb=>A.own b (p1 b hb);have Ag:cU Os w w1:=⟨azh,azh,azh,ayT,λk _ hk=>kJ k λc=>hk<|(p2 k).2 c⟩
 let M':Nat->Nat->Prop:=λb o=>(M b o/\¬Os b)\/Os b
 have anD:Aft M w Os w1 Os M':=⟨Ag,λb hb=>.inl hb,λb hb=>by rw[hsize];exact A.lt b 0<|akv b hb 0,λ_ _=>axE⟩;have FN:∀{u:Value}{d:DV},RD M w u d->RD M' w1 u d:=λr=>r.mono λb' o' z hn hz=>by
  have hno:¬Os b':=λc=>hn (akv b' c o');refine⟨by rw[awh (w:=w) (a:=⟨b',o',none⟩) (Ag.block b' (cz hz) hno)];exact hz,λc=>c.elim (λc=>hn c.1) hno⟩
 have aeP:=p4 (Hy cs o l) w1 Os M' anD ⟨p2,_,hnew,by
   have e:(Hy cs o l).length=cs.length:=by simp only[Hy,avz,avC,avZ];omega
   rw[e];simp only[avW,avz,avC,avZ,awj];omega,λj c hj=>by
   rw[Hy,jX cs o l ho]at hj;have Ry:(List.take o arr.toList++vs++List.drop (o+vs.length) arr.toList).toArray[j]? =if o<=j/\j<o+l.length then vs[j-o]? else arr[j]? :=by
    rw[awI,jX arr.toList o vs ayV,hvl];simp
   rw[Ry];split at hj
   ·rename_i hin
    rw[avk hin];obtain⟨u,h1,h2⟩:=hvc _ _ hj;exact⟨u,h1,FN h2⟩
   ·rename_i hin
    rw[avj hin];obtain⟨u,h1,h2⟩:=hcell _ _ hj;exact⟨u,h1,FN h2⟩⟩
 have hOO:(λb=>(O b/\¬Os b)\/Os b)=O:=funext λb=>propext ⟨λc=>c.elim (λc=>c.1)<|p1 b,λc=>by
  by_cases d:Os b
  ·exact .inr d
  ·exact .inl ⟨c,d⟩⟩
 have hMM:M'=λb o=>(M b o/\¬O b)\/O b:=funext λb=>funext λo=>propext ⟨λc=>by
   by_cases d:O b
   ·exact .inr d
   ·exact c.elim (λc=>.inl ⟨c.1,d⟩) λc=>.inr<|p1 b c,λc=>by
   by_cases d:Os b
   ·exact .inr d
   ·exact .inl ⟨c.elim (λc=>c.1) λc=>A.own b c o,d⟩⟩
 rw[hOO,hMM]at aeP;exact hK _ _ (A.next _ O w1 (i.om _) ⟨Ag.os,Ag.tape,Ag.output,Ag.size,λk hk hn=>Ag.block k hk λc=>hn<|p1 k c⟩ (λb hb=>.inl hb) (λb hb=>by rw[hsize];exact A.lt b 0<|A.own b hb 0) aeP).1
theorem vC{res:γ->RS}{iz:γ->OP}(hc:cG P f)(Me:fc P f Φ iz args res)(hm':∀g,bL (iz g))(hx:L1 xs args R1)(hd:Nat.blt dst nt=true)
  (sl:SL) (hp:HL) (hs:bK sl R1) (hh:dn hp [(kk,some (.obj Φ))]) (a:Act) (w:World) (K:Act->World->Prop) (Q:Exit->Act->World->Prop) (q:bE C0 ⟨sl,hp⟩ a w) (hK:∀g a w,bE C0 ⟨(dst,(res g).sv)::sl,(kk,some (.obj<|iz g))::hp⟩ a w->K a w):(Oo dst (gO f xs tys) ty pos af gd).wp P a w K Q:=by
 obtain⟨M,O,A⟩:=dL q hh.1;obtain⟨h1,h2⟩:=A.args hx hs;unfold Oper.wp;rw[qh hc];refine(Me.go M w O (xs.map a.eval) A.lt A.own A.obj h1 h2).mono ?_
 rintro e w' ⟨g,v,rfl,O',p1,p2,p3,p4,p5⟩;exact hK g _ _ ((A.next (iz g) O' w' (hm' g) p1 p2 p3 p4).2 dst (res g) v ay1 p5)
theorem Ao{res:RS}(hc:cG P f)(Me:fc P (γ:=Unit) f Φ (λ_=>Φ) args (λ_=>res))(hx:L1 xs args R1)(hd:Nat.blt dst nt=true)
  (sl:SL) (hp:HL) (hs:bK sl R1) (hh:dn hp [(kk,some (.obj Φ))]) (a:Act) (w:World) (K:Act->World->Prop) (Q:Exit->Act->World->Prop) (q:bE C0 ⟨sl,hp⟩ a w) (hK:∀a w,bE C0 ⟨(dst,res.sv)::sl,hp⟩ a w->K a w):(Oo dst (gO f xs tys) ty pos af gd).wp P a w K Q:=by
 obtain⟨M,O,A⟩:=dL q hh.1;obtain⟨h1,h2⟩:=A.args hx hs;unfold Oper.wp;rw[qh hc];refine(Me.go M w O (xs.map a.eval) A.lt A.own A.obj h1 h2).mono ?_
 rintro e w' ⟨g,v,rfl,O',p1,p2,p3,p4,p5⟩;refine hK _ _ (((A.next Φ O' w' A.om p1 p2 p3 p4).2 dst res v ay1 p5).ext (λ_=>rfl) λk=>?_);simp only;rw[aG];split
 ·rename_i c;subst c;exact hh.1
 ·rfl
end
def Row(v:Value)(T size:Nat)(es:List (List DV)):OP:=λM w O=>0<size/\(∀cs,cs∈es->cs.length=size)/\
 ((RD M w v (.sl size es)/\(∃a n,v= .slice a n n)/\∀b,¬O b)\/
 (∃b cap cur,v= .slice (some ⟨b,0,none⟩) es.length cap/\es.length<=cap/\cap<=maxLen/\w.heap[b]? =some (.cells cur T (0,0))/\cur.size=cap*size/\
  (∀(i:Nat)(cs:List DV)(j:Nat)(d:DV),es[i]? =some cs->cs[j]? =some d->∃u,cur[i*size+j]? =some u/\RD M w u d)/\∀x,O x↔x=b))
theorem Sb:bL (Row v T size es):=by
 refine⟨?_,?_⟩
 ·rintro M M' w w' O ⟨h1,h2,h3⟩ hO hc
  refine⟨h1,h2,h3.imp (λ⟨q1,q2,q3⟩=>⟨q1.mono hc,q2,q3⟩) ?_⟩;rintro⟨b,cap,cur,q1,q2,q3,q4,q5,q6,q7⟩;exact⟨b,cap,cur,q1,q2,q3,(hO b<|(q7 b).2 U).trans q4,q5,λi cs j d hi hj=>let⟨u,z1,z2⟩:=q6 i cs j d hi hj;⟨u,z1,z2.mono hc⟩,q7⟩
 ·rintro M w O ⟨_,_,⟨_,_,q⟩ | ⟨b,cap,cur,_,_,_,q4,_,_,q7⟩⟩ x hx
  ·exact(q x hx).elim
  ·rw[(q7 x).1 hx];exact(avo.1 q4).1
instance{v:Value}{T size:Nat}{es:List (List DV)}:OM (Row v T size es):=⟨Sb⟩
theorem Row.len(h:Row v T size es M w O):∃a cap,v= .slice a es.length cap/\es.length<=cap/\cap<=maxLen:=by
 obtain⟨hz,_,⟨q1,_,_⟩ | ⟨b,cap,cur,q1,q2,q3,_⟩⟩:=h
 ·obtain⟨a,c,_,r1,r2,r3,_⟩:=RD.flat hz q1
  exact⟨a,c,r1,r2,r3⟩
 ·exact⟨_,cap,q1,q2,q3⟩
theorem Px(hz:0<size)(M:Nat->Nat->Prop)(w:World):Row (.slice none 0 0) T size [] M w (λ_=>False):=
 ⟨hz,λ_ h=>ay4,.inl ⟨RD.nil none 0 size<|av5 _,⟨none,0,U⟩,λ_ h=>h⟩⟩
theorem Row.flat{v:Value}{T size:Nat}{es:List (List DV)}{M:Nat->Nat->Prop}{w:World}{O:Nat->Prop}(h:Row v T size es M w O):∃(a:Option Addr)(cap:Nat)(ov:List Value),v= .slice a es.length cap/\es.length<=cap/\cap<=maxLen/\ov.length=es.length*size/\(∀u,u∈ov->u.oneCell'=true)/\
  (∀i cs j d,es[i]? =some cs->cs[j]? =some d->∃u,ov[i*size+j]? =some u/\RD M w u d)/\(es≠[]->∃ad:Addr,a=some ad/\ad.off+es.length*size<=ad.off+cap*size/\∀j u,ov[j]? =some u->w.cell? (ad.add j)=some u):=by
 obtain⟨hz,hsz,⟨q1,_,_⟩ | ⟨b,cap,cur,q1,q2,q3,q4,q5,q6,_⟩⟩:=h
 ·obtain⟨a,c,nv,r1,r2,r3,_,r5,r6,r7,r8⟩:=RD.flat hz q1
  exact⟨a,c,nv,r1,r2,r3,r5,r6,r7,λhne=>let⟨ad,z1,z2⟩:=r8 hne;⟨ad,z1,Nat.add_le_add_left (avr _ r2) _,z2⟩⟩
 ·have akz:es.length*size<=cur.size:=by rw[q5];exact avr _ q2
  have hL:cur.toList.length=cur.size:=awj;have hcell:∀i cs j d,es[i]? =some cs->cs[j]? =some d->i*size+j<es.length*size:=λi cs j d hi hj=>by
   have h1:i<es.length:=(avl.1 hi).1
   have h2:j<cs.length:=(avl.1 hj).1
   have h3:=hsz cs (avH hi);have h4:(i+1)*size<=es.length*size:=avr _ h1;rw[awn]at h4;omega
  refine⟨_,cap,cur.toList.take<|es.length*size,q1,q2,q3,by rw[avC,hL];omega,λu hu=>?_,λi cs j d hi hj=>?_,λ_=>⟨_,U,Nat.add_le_add_left (avr _ q2) _,λj u hj=>?_⟩⟩
  ·obtain⟨j,hj,rfl⟩:=avO hu
   rw[avC,hL]at hj;have h1:j / size<es.length:=ax0 (by rw[awR];omega);have h2:j % size<size:=ayG _ hz;have h3:es[j / size].length=size:=hsz _ (avu h1)
   obtain⟨u,z1,z2⟩:=q6 (j / size) es[j / size] (j % size) (es[j / size][j % size]' ayT) aAw (by simp[h3,h2]);rw[show j / size*size+j % size=j by rw[awR];exact ax6 j size]at z1;have hjc:j<cur.size:=by omega
   have:(cur.toList.take<|es.length*size)[j]'(by rw[avC,hL];omega)=u:=by
    rw[axk,Array.getElem_toList];rw[av2 hjc]at z1;exact aww z1
   rw[this];exact z2.one
  ·obtain⟨u,z1,z2⟩:=q6 i cs j d hi hj
   refine⟨u,?_,z2⟩;rw[awv,avk (hcell i cs j d hi hj)];simpa using z1
  ·rw[awr,avS,awM _ _ _ _ T _ q4]
   rw[awv]at hj;split at hj
   ·simpa using hj
   ·cases hj
theorem A5{T:TypeId}{u:Value}{news es':List (List DV)}(hT:P.underlying T=some (.slice E))(hI:Info P E zz size bytes)(hzs:zz.cells.size=size)
  (he:es++news=es') (hb1:es'.length<=1099511627776) (hb2:es'.length*bytes<=140737488355328) (hO:∀b,O b->∀o,M b o) (hM:∀b o,M b o->b<w.heap.size) (h:Row v E size es M w O) (hu:RD M w u (.sl size news)):
  ∃v' w' O',(Builtin.append_ #[T,T] ty #[v,u]).run P w= .ok v' w'/\cU O w w'/\(∀b,O' b->O b\/w.heap.size<=b)/\(∀b,O' b->b<w'.heap.size)/\Row v' E size es' (λb o=>(M b o/\¬O b)\/O' b) w' O':=by
 obtain⟨a0,TC,ov,hv,an3,anK,Ks,_,hor,hoa⟩:=h.flat;obtain⟨hz,hsz,hrow⟩:=id h;have hlen:es'.length=es.length+news.length:=by rw[<-he];simp
 obtain⟨a',c',nv,WB,hcc,pR,abX,hnl,UZ,hnr,hna⟩:=RD.flat hz hu;have hsz':∀cs,cs∈es'->cs.length=size:=by
  intro cs hcs;rw[<-he]at hcs;exact(av1.1 hcs).elim (hsz cs) (abX cs)
 have ZY:(λb o=>(M b o/\¬O b)\/O b)=M:=funext λb=>funext λo=>propext ⟨λc=>c.elim (λc=>c.1) λc=>hO b c o,λc=>by
  by_cases d:O b
  ·exact .inr d
  ·exact .inl ⟨c,d⟩⟩
 have UQ:∀b,O b->b<w.heap.size:=λb hb=>hM b 0 (hO b hb 0);by_cases hm0:news= []
 ·subst hm0
  have hee:es'=es:=by rw[<-he];simp
  subst hee;refine⟨v,w,O,?_,⟨U,U,U,avq _,λ_ _ _=>rfl⟩,λb hb=>.inl hb,UQ,by rw[ZY];exact h⟩;rw[hv,WB];exact nP hT hI an3
 ·obtain⟨ad,rfl,gq⟩:=hna hm0
  have RI:0<news.length:=axD.2 hm0;obtain⟨i,hi1,hi2,hi3,hi4⟩:=hI;subst hi3;subst hi4;have pn:es'.length<=maxLen:=by unfold maxLen;omega
  have grow:∀(old:Nat),(Builtin.append_ #[T,T] ty #[v,u]).run P w= .ok (.slice (some ⟨w.heap.size,0,none⟩) es'.length<|grownCap w es'.length old E)
     (w.drew.alloc<|.cells (ov.toArray++nv.toArray++Builtin.zeroCells zz.cells (grownCap w es'.length old E-es'.length)) E)->
    ∃v' w' O',(Builtin.append_ #[T,T] ty #[v,u]).run P w= .ok v' w'/\cU O w w'/\(∀b,O' b->O b\/w.heap.size<=b)/\(∀b,O' b->b<w'.heap.size)/\Row v' E i.size es' (λb o=>(M b o/\¬O b)\/O' b) w' O':=by
   intro old hrun;have hge:=axO w es'.length old E;have abI:grownCap w es'.length old E<=maxLen:=aw9 w es'.length old E pn;have ld:∀i',i'<w.heap.size->(w.drew.alloc<|.cells (ov.toArray++nv.toArray++Builtin.zeroCells zz.cells (grownCap w es'.length old E-es'.length)) E).heap[i']? =w.heap[i']? :=
    λi' hi'=>axx w.drew _ hi'
   have hnew:(w.drew.alloc<|.cells (ov.toArray++nv.toArray++Builtin.zeroCells zz.cells (grownCap w es'.length old E-es'.length)) E).heap[w.heap.size]? =some (.cells (ov.toArray++nv.toArray++Builtin.zeroCells zz.cells (grownCap w es'.length old E-es'.length)) E (0,0)):=awB w.drew _
   have CH:=DP (rest:=(Builtin.zeroCells zz.cells<|grownCap w es'.length old E-es'.length).toList) he Ks hor hnr;refine⟨_,_,λb=>b=w.heap.size,hrun,⟨U,U,U,ayW,λk hk _=>ld k hk⟩,λb hb=>.inr<|by omega,λb hb=>by subst hb;simp,hz,hsz',.inr ⟨w.heap.size,_,_,U,hge,abI,hnew,?_,λi' cs j d hi' hj=>?_,λ_=>axE⟩⟩
   ·simp only[axB,avW,ayf,hzs,Ks,hnl]
    rw[<-awn,<-awn];congr 1;omega
   ·obtain⟨x,h1,h2⟩:=CH i' cs j d hi' hj
    refine⟨x,?_,h2.mono λb o y hn hy=>?_⟩
    ·have e:(ov.toArray++nv.toArray++Builtin.zeroCells zz.cells (grownCap w es'.length old E-es'.length))=(ov++nv++(Builtin.zeroCells zz.cells<|grownCap w es'.length old E-es'.length).toList).toArray:=by simp
     rw[e,awI];exact h1
    ·have hlt:=cz hy
     refine⟨by rw[awh (w:=w) (a:=⟨b,o,none⟩) (ld b hlt)];exact hy,λc=>c.elim (λc=>hn c.1) λc=>ayT⟩
  have abN:∀(Xx:Addr),a0=some Xx->(∀j x,ov[j]? =some x->w.cell? (Xx.add j)=some x)->¬es.length+news.length<=TC->
    ∃v' w' O',(Builtin.append_ #[T,T] ty #[v,u]).run P w= .ok v' w'/\cU O w w'/\(∀b,O' b->O b\/w.heap.size<=b)/\(∀b,O' b->b<w'.heap.size)/\Row v' E i.size es' (λb o=>(M b o/\¬O b)\/O' b) w' O':=by
   intro Xx ha holds hroom;have hr:=ax7 (P:=P) w T ty E i zz hT hi1 hi2 Xx es.length TC ov Ks holds ad news.length c' nv hnl gq ayT azc (axq ayT aAF);exact grow TC (by rw[hv,WB,ha,hr,<-hlen])
  by_cases hroom:es.length+news.length<=TC
  ·
   rcases hrow with⟨q1,⟨a1,n1,q2⟩,q3⟩ | ⟨b,cap,cur,q1,q2,q3,q4,q5,q6,q7⟩
   ·rw[hv]at q2
    simp only[axY]at q2;omega
   ·rw[hv]at q1
    simp only[axY]at q1;obtain⟨ha,_,hc0⟩:=q1;subst hc0;have hL:cur.toList.length=cur.size:=awj;have akz:es.length*i.size<=cur.size:=by rw[q5];exact avr _ q2
    have hfit:es.length*i.size+nv.length<=cur.size:=by rw[hnl,q5,<-awn];exact avr _ hroom
    have hr:=run_append_room (P:=P) w T ty E i hT hi1 b es.length TC cur q4 ad news.length c' nv hnl gq UZ hroom hfit;have hOb:O b:=(q7 b).2 U
    let w1:=w.setRow b (cur.toList.take (es.length*i.size)++nv++cur.toList.drop (es.length*i.size+nv.length)).toArray
    have kJ:∀k,k≠b->w1.heap[k]? =w.heap[k]? :=λk hk=>axW w b k _ hk;have hsize:w1.heap.size=w.heap.size:=by simp[w1,World.setRow]
    refine⟨_,w1,O,by rw[hv,WB,ha];exact hr,⟨U,U,U,ayT,λk _ hk=>kJ k λc=>hk (by rw[c];exact hOb)⟩,λb hb=>.inl hb,λb' hb'=>by rw[hsize];exact UQ b' hb',?_⟩;rw[ZY];have aeI:∀(i':Nat)(cs:List DV)(j:Nat)(d:DV),es[i']? =some cs->cs[j]? =some d->∃x,(cur.toList.take<|es.length*i.size)[i'*i.size+j]? =some x/\RD M w x d:=λi' cs j d hi' hj=>by
     obtain⟨x,z1,z2⟩:=q6 i' cs j d hi' hj;have h1:i'<es.length:=(avl.1 hi').1
     have h2:j<cs.length:=(avl.1 hj).1
     have h3:=hsz cs (avH hi');have h4:(i'+1)*i.size<=es.length*i.size:=avr _ h1;rw[awn]at h4;exact⟨x,by rw[awv,avk ayT];simpa using z1,z2⟩
    have an8:(cur.toList.take<|es.length*i.size).length=es.length*i.size:=by rw[avC,hL];omega
    have CH:=DP (rest:=cur.toList.drop<|es.length*i.size+nv.length) he an8 aeI hnr;refine⟨hz,hsz',.inr ⟨b,TC,_,by rw[hlen],ayT,anK,axU w b cur _ E _ q4,?_,λi' cs j d hi' hj=>?_,q7⟩⟩
    ·simp only[avW,avz,avC,avZ,hL];omega
    ·obtain⟨x,h1,h2⟩:=CH i' cs j d hi' hj
     refine⟨x,by rw[awI];exact h1,h2.mono λb' o y hn hy=>⟨?_,hn⟩⟩;have hne:b'≠b:=λc=>hn (by rw[c];exact hO b hOb o);rw[awh (w:=w) (a:=⟨b',o,none⟩) (kJ b' hne)];exact hy
  ·by_cases hes:es= []
   ·subst hes
    have hov:ov= []:=awD (by simpa using Ks);subst hov;cases a0 with
    | none=>
     have he':es'=news:=by rw[<-he];simp
     have abE:news.length*i.bytes<=140737488355328:=by rw[<-he'];exact hb2
     have hbytes:Builtin.nextslicecap news.length 0*i.bytes<=281474976710656:=axq ayT abE;have hc0:TC=0:=by
      rcases hrow with⟨q1,⟨a1,n1,q2⟩,q3⟩ | ⟨b,cap,cur,q1,_⟩
      ·rw[hv]at q2;simp only[axY]at q2;simp at q2;omega
      ·rw[hv]at q1;simp at q1
     have hr:=ayH (P:=P) w T ty E i zz hT hi1 hi2 ad news.length c' nv hnl gq RI azc ayT;refine grow 0 ?_;rw[hv,WB,hc0];simp only[avX]at he;subst he;simpa using hr
    | some Xx=>exact abN Xx U (λj x hj=>aAe) hroom
   ·obtain⟨Xx,h1,_,h2⟩:=hoa hes
    exact abN Xx h1 h2 hroom
class vz(Φ:OP)(v:Value)(T size:outParam Nat)(es:outParam (List (List DV)))(R:outParam (Value->List (List DV)->OP)):Prop where
 h:qH Φ (Row v T size es) (λg:Value×List (List DV)=>Row g.1 T size g.2) (λg=>R g.1 g.2)
 om:∀v es,bL (R v es)
instance{A B:OP}{v:Value}{T size:Nat}{es:List (List DV)}{R:Value->List (List DV)->OP}[a:OM A][i:vz B v T size es R]:vz (Sep A B) v T size es (λu c=>Sep A (R u c)):=⟨i.h.r a.h,λu c=>uh a.h (i.om u c)⟩
instance{A B:OP}{v:Value}{T size:Nat}{es:List (List DV)}{R:Value->List (List DV)->OP}[a:OM B][i:vz A v T size es R]:vz (Sep A B) v T size es (λu c=>Sep (R u c) B):=⟨i.h.l a.h,λu c=>uh (i.om u c) a.h⟩
instance{v:Value}{T size:Nat}{es:List (List DV)}:vz (Row v T size es) v T size es (λu c=>Row u T size c):=⟨qH.refl,λ_ _=>Sb⟩
theorem rI{R:Value->List (List DV)->OP}[i:vz Φ v T size es R]:vz Φ v T size es R:=i
class Hp(Φ S:OP)(R:outParam (OP->OP)):Prop where
 h:∀{γ:Type}(S':γ->OP),qH Φ S S' (λg=>R<|S' g)
 om:∀X,bL X->bL (R X)
instance{A B S:OP}{R:OP->OP}[a:OM A][i:Hp B S R]:Hp (Sep A B) S (λX=>Sep A (R X)):=⟨λS'=>(i.h S').r a.h,λX h=>uh a.h (i.om X h)⟩
instance{A B S:OP}{R:OP->OP}[a:OM B][i:Hp A S R]:Hp (Sep A B) S (λX=>Sep (R X) B):=⟨λS'=>(i.h S').l a.h,λX h=>uh (i.om X h) a.h⟩
instance(priority:=2000){S:OP}:Hp S S (λX=>X):=⟨λ_=>qH.refl,λ_ h=>h⟩
theorem hI{S:OP}{R:OP->OP}[i:Hp Φ S R]:Hp Φ S R:=i
class tF(P:Program){α:Type}(X:Option α)(f:outParam Nat){ι:outParam Type}(Φ:outParam (ι->OP))(args:outParam (ι->List RG))(res:outParam (α->RS)):Prop where
 h:∀i r,X=some r->fc P (γ:=Unit) f (Φ i) (λ_=>Φ i) (args i) (λ_=>res r)
class mU(P:Program){α:Type}(X:Option α)(f:outParam Nat){ι γ:outParam Type}(Φ:outParam (ι->OP))(iz:outParam (ι->γ->α->OP))(args:outParam (ι->List RG))(res:outParam (γ->α->RS)):Prop where
 h:∀i r,X=some r->fc P f (Φ i) (λg=>iz i g r) (args i) (λg=>res g r)
 om:∀i g r,bL (iz i g r)
 g0:Nonempty γ
variable{ι:Type}
theorem Y0{Φ:ι->OP}{args:ι->List RG}{res:α->RS}[i:tF P X f Φ args res]:tF P X f Φ args res:=i
theorem D2{Φ:ι->OP}{iz:ι->γ->α->OP}{args:ι->List RG}{res:γ->α->RS}[i:mU P X f Φ iz args res]:mU P X f Φ iz args res:=i
section
variable{r:R}
theorem PN(hx:Ev x (pt b o) Rs)(hd:Nat.blt dst nt=true):dJ C (Oo dst (.nilCheck x) ty pos af gd) Rs [] [(dst,.one (pt b o))] []:=
 bu hd U λ_ _ _ a w hs _ r=>⟨.pointer<|some ⟨b,o,none⟩,by simp[execOp,BR.aX (hx.ok hs r)],RD.v _ U⟩
theorem Vs{fs:Array Field}{Ex:Field}{o':Nat}(hS:P.underlying S=some (.struct fs))(hf:fs[f]? =some Ex)(hI:Info P Ex.type zz size bytes)(hz:size≠0)(he:o+Ex.offset=o')
  (hx:Ev x (pt b o) Rs) (hd:Nat.blt dst nt=true):dJ C (Oo dst (.fieldAddr S x f) ty pos af gd) Rs [] [(dst,.one (pt b o'))] []:=
 bu hd U λ_ _ _ a w hs _ r=>⟨.pointer<|some ⟨b,o',none⟩,by simp[execOp,BR.aX (hx.ok hs r),s9 hS hf hI hz,he],RD.v _ U⟩
theorem Rn(hg:bD ops sl gd=true)(hx:aN sl x=some (pt b o))(hd:Nat.blt dst nt=true)(hk:GO C0 Q r F (m.add (X1 ops gd x (pt b o) dst (.one (pt b o)))) ops rest k ⟨(dst,.one (pt b o))::sl,hp⟩):GO C0 Q r F m ops (Oo dst (.nilCheck x) ty pos af gd::rest) k ⟨sl,hp⟩:=
 f1 hg (λ_ _ e=>PN e hd) hx U hk
theorem aba(hg:bD ops sl gd=true)(i:aaa P S f o)(hx:aN sl x=some (pt b off))(hd:Nat.blt dst nt=true)(hk:GO C0 Q r F (m.add (X1 ops gd x (pt b off) dst (.one (pt b (off+o))))) ops rest k ⟨(dst,.one (pt b (off+o)))::sl,hp⟩):GO C0 Q r F m ops (Oo dst (.fieldAddr S x f) ty pos af gd::rest) k ⟨sl,hp⟩:=
 let⟨_,_,_,_,_,hS,hf,hI,hz,ho⟩:=i;f1 hg (λ_ _ e=>Vs hS hf hI hz (awp (off+ ·) ho) e hd) hx U hk
theorem aa7{E:Nat}(hg:bD ops sl gd=true)(hU:P.underlying T=some (.pointer E))(hx:aN sl x=some (pt b o))(hd:Nat.blt dst nt=true)(hk:GO C0 Q r F (m.add (X1 ops gd x (pt b o) dst (.one (bB false)))) ops rest k ⟨(dst,.one (bB false))::sl,hp⟩):GO C0 Q r F m ops (Oo dst (.binOp .eql T x (.const (.pointer none)) T') ty pos af gd::rest) k ⟨sl,hp⟩:=f1 hg (λ_ _ e=>NM U U hU e hd) hx U hk
theorem F8(kk:Nat){c:DV}{Rr:List DV->OP}(hg:bD ops sl gd=true)(hU:P.underlying t=some d)(hA:qJ d=false)(hx:aN sl x=some (pt b o))(hh:aE hp kk=some (.obj Φ))(i:B9 Φ b T cs Rr)(hc:cs[o]? =some c)(hd:Nat.blt dst nt=true)
  (hk:GO C0 Q r F (m.add ⟨gH ops gd++ey x (pt b o),[(kk,some (.obj Φ))],[(dst,.one (.g<|.d c))],[]⟩) ops rest k ⟨(dst,.one (.g<|.d c))::sl,hp⟩):GO C0 Q r F m ops (Oo dst (.load t x) ty pos af gd::rest) k ⟨sl,hp⟩:=
 let⟨e,q⟩:=aJ hx;GO.stepG (Ws:=[(dst,.one (.g<|.d c))]) (Wh:=[]) (RV hU hA i hc e hd) hg q ⟨hh,ayS⟩ hk
theorem Re(kk:Nat){Rr:List DV->OP}(hg:bD ops sl gd=true)(hU:P.underlying t=some d)(hI:Info P t zz n bytes)(hA:qJ d=true)(hx:aN sl x=some (pt b o))(hh:aE hp kk=some (.obj Φ))(i:B9 Φ b T cs Rr)(hc:(cs.drop o).take n=ds)(hn:ds.length=n)(hd:Nat.blt dst nt=true)
  (hk:GO C0 Q r F (m.add ⟨gH ops gd++ey x (pt b o),[(kk,some (.obj Φ))],[(dst,.one (.g<|.agg ds))],[]⟩) ops rest k ⟨(dst,.one (.g<|.agg ds))::sl,hp⟩):GO C0 Q r F m ops (Oo dst (.load t x) ty pos af gd::rest) k ⟨sl,hp⟩:=
 let⟨e,q⟩:=aJ hx;GO.stepG (Ws:=[(dst,.one (.g<|.agg ds))]) (Wh:=[]) (RW hU hI hA i hc hn e hd) hg q ⟨hh,ayS⟩ hk
theorem HA(kk:Nat){c:DV}{Rr:List DV->OP}(hg:bD ops sl gd=true)(hI:Info P S zz 1 bytes)(hx:aN sl x=some (pt b o))(hy:aN sl y=some (.g (.d c)))(hh:aE hp kk=some (.obj Φ))(i:B9 Φ b T cs Rr)(ho:Nat.blt o cs.length=true)
  (hk:GO C0 Q r F (m.add ⟨gH ops gd++(ey x (pt b o)++ey y (.g<|.d c)),[(kk,some (.obj Φ))],[],[(kk,some (.obj<|Rr<|Hy cs o [c]))]⟩) ops rest k ⟨sl,(kk,some (.obj<|Rr<|Hy cs o [c]))::hp⟩):GO C0 Q r F m ops (⟨none,.store S x y,ty,pos,af,gd⟩::rest) k ⟨sl,hp⟩:=
 let⟨e1,q1⟩:=aJ hx;let⟨e2,q2⟩:=aJ hy
 GO.stepG (Ws:=[]) (Wh:=[(kk,some (.obj<|Rr<|Hy cs o [c]))]) (IW (kk:=kk) (l:=[c]) i (by simp at ho ⊢;omega) e1 (λsl hp a w M O hs A=>by
  have h1:RD M w (a.eval y) c:=A.one e2 hs;have h2:=h1.one;have h3:(a.eval y).cells= #[a.eval y]:=by generalize a.eval y=u at h2;cases u<;>simp_all [Value.cells,Value.oneCell']
  refine⟨[a.eval y],U,λad=>?_,λj c' hj=>?_⟩
  ·simp[Instr.storeAt,Instr.sureAddr,storeVar,h3,hI.sizeOf]
  ·cases j with
   | zero=>simp at hj;subst hj;exact⟨_,U,h1⟩
   | succ j=>simp at hj)) hg (q1.both q2) ⟨hh,ayS⟩ hk
theorem XV(kk:Nat){Rr:List DV->OP}(hg:bD ops sl gd=true)(hI:Info P S zz n bytes)(hx:aN sl x=some (pt b o))(hy:aN sl y=some (.g (.agg ds)))(hn:ds.length=n)(hh:aE hp kk=some (.obj Φ))(i:B9 Φ b T cs Rr)(ho:Nat.ble (o+ds.length) cs.length=true)
  (hk:GO C0 Q r F (m.add ⟨gH ops gd++(ey x (pt b o)++ey y (.g<|.agg ds)),[(kk,some (.obj Φ))],[],[(kk,some (.obj<|Rr<|Hy cs o ds))]⟩) ops rest k ⟨sl,(kk,some (.obj<|Rr<|Hy cs o ds))::hp⟩):GO C0 Q r F m ops (⟨none,.store S x y,ty,pos,af,gd⟩::rest) k ⟨sl,hp⟩:=
 let⟨e1,q1⟩:=aJ hx;let⟨e2,q2⟩:=aJ hy
 GO.stepG (Ws:=[]) (Wh:=[(kk,some (.obj<|Rr<|Hy cs o ds))]) (IW (kk:=kk) (l:=ds) i (by simpa using ho) e1 (λsl hp a w M O hs A=>by
  obtain⟨us,hu,hl,hc⟩:=A.one e2 hs;refine⟨(a.eval y).cells.toList,by simp[hu,Value.cells,hl],λad=>?_,λj c' hj=>?_⟩
  ·simp[Instr.storeAt,Instr.sureAddr,storeVar,hu,Value.cells,hl,hI.sizeOf,hn]
  ·obtain⟨u,h1,h2⟩:=hc j c' hj
   exact⟨u,aAB,h2⟩)) hg (q1.both q2) ⟨hh,ayS⟩ hk
theorem Wg(kk:Nat){f:α->Option R}{ix:ι}{Ψ:ι->OP}{args:ι->List RG}{res:α->RS}{Rr:OP->OP}(hg:bD ops sl gd=true)(i:tF P X g Ψ args res)(c:cG P g)(ha:pM sl xs=some (args ix))(hh:aE hp kk=some (.obj Φ))(j:Hp Φ (Ψ ix) Rr)(hj:Rr (Ψ ix)=Φ)(hd:Nat.blt dst nt=true)
  (hk:∀u,X=some u->GO C0 Q r (f u) (m.add ⟨gH ops gd++vM xs (args ix),[(kk,some (.obj Φ))],[(dst,(res u).sv)],[]⟩) ops rest k ⟨(dst,(res u).sv)::sl,hp⟩):GO C0 Q r (X.bind f) m ops (Oo dst (gO g xs tys) ty pos af gd::rest) k ⟨sl,hp⟩:=
 GO.bind λu hu=>let⟨e,q⟩:=fJ ha
  GO.stepG (Ws:=[(dst,(res u).sv)]) (Wh:=[]) (Ao c (((i.h ix u hu).lift<|j.h λ_=>Ψ ix) |>λh=>by simpa[hj]using h) e hd) hg q ⟨hh,ayS⟩ (hk u hu)
theorem Wf(kk:Nat){f:α->Option R}{ix:ι}{Ψ:ι->OP}{L0:ι->γ->α->OP}{args:ι->List RG}{res:γ->α->RS}{Rr:OP->OP}(hg:bD ops sl gd=true)(i:mU P X g Ψ L0 args res)(c:cG P g)(ha:pM sl xs=some (args ix))(hh:aE hp kk=some (.obj Φ))(j:Hp Φ (Ψ ix) Rr)(hd:Nat.blt dst nt=true)(hl:qD m=true)
  (hk:∀u,X=some u->∀n:γ,GO C0 Q r (f u) (m.add ⟨gH ops gd++vM xs (args ix),[(kk,some (.obj Φ))],[(dst,(res n u).sv)],[(kk,some (.obj<|Rr<|L0 ix n u))]⟩) ops rest k ⟨(dst,(res n u).sv)::sl,(kk,some (.obj<|Rr<|L0 ix n u))::hp⟩):GO C0 Q r (X.bind f) m ops (Oo dst (gO g xs tys) ty pos af gd::rest) k ⟨sl,hp⟩:=
 GO.bind λu hu=>let⟨e,q⟩:=fJ ha
  GO.CP (γ:=γ) (Classical.choice i.g0) (Ws:=λn=>[(dst,(res n u).sv)]) (Wh:=λn=>[(kk,some (.obj<|Rr<|L0 ix n u))]) (vC c ((i.h ix u hu).lift<|j.h λn=>L0 ix n u) (λn=>j.om _<|i.om ix n u) e hd) hg q ⟨hh,ayS⟩ hl (hk u hu)
theorem M7{T:TypeId}{news es':List (List DV)}{Rr:Value->List (List DV)->OP}(hT:P.underlying T=some (.slice E))(hI:Info P E zz size bytes)(hzs:Nat.beq zz.cells.size size=true)(he:es++news=es')(hb1:es'.length<=1099511627776)(hb2:es'.length*bytes<=140737488355328)
  (i:vz Φ v E size es Rr) (hx:Ev x (dv v) R1) (hy:Ev y (.g<|.d<|.sl size news) R2) (hd:Nat.blt dst nt=true)
  (sl:SL) (hp:HL) (hs:bK sl (R1++R2)) (hh:dn hp [(kk,some (.obj Φ))]) (a:Act) (w:World) (K:Act->World->Prop) (Q:Exit->Act->World->Prop) (q:bE C0 ⟨sl,hp⟩ a w) (hK:∀g a w,bE C0 ⟨(dst,.one (dv g))::sl,(kk,some (.obj<|Rr g es'))::hp⟩ a w->K a w):(Oo dst (D7 x y T) ty pos af gd).wp P a w K Q:=by
 obtain⟨M,O,A⟩:=dL q hh.1;have hu:a.eval x=v:=RD.aX (A.one hx hs.app.1);have hy':RD M w (a.eval y) (.sl size news):=A.one hy hs.app.2;obtain⟨Os,p1,p2,p4⟩:=i.h M w O A.lt A.own A.obj;obtain⟨v',w',Xt,z1,z2,z3,z4,z5⟩:=A5 (ty:=ty) hT hI (av3 hzs) he hb1 hb2 (λb hb=>A.own b<|p1 b hb) A.lt p2 hy';have Ny:v'.oneCell'=true:=by obtain⟨_,_,e,_⟩:=z5.len;rw[e];rfl
 obtain⟨O',q1,q2,q3,q4,q5⟩:=Ei.lift (res:=.one<|.d<|.v v') (v:=v') A.lt A.own p1 (p4 (v',es')) ⟨Xt,z2,z3,z4,z5,RD.v _ Ny⟩;unfold Oper.wp;rw[A6 (by rw[hu];exact z1)];exact hK v' _ _ ((A.next _ O' w' (i.om _ _) q1 q2 q3 q4).2 dst (.one<|.d<|.v v') v' ay1 q5)
theorem XT(kk:Nat){l n:List α}{f:List α->Option R}{T:TypeId}{Rr:Value->List (List DV)->OP}(hg:bD ops sl gd=true)(hT:P.underlying T=some (.slice E))(hI:Info P E zz size bytes)(hx:aN sl x=some (dv v))(hh:aE hp kk=some (.obj Φ))(i:vz Φ v E size es Rr)(he:es=l.map e)(hy:aN sl y=some (.g (.d (.sl size (n.map e)))))(hzs:Nat.beq zz.cells.size size=true)(hd:Nat.blt dst nt=true)(hl:qD m=true)
  (hk:∀g:Value,GO C0 Q r (f<|l++n) (m.add ⟨gH ops gd++(ey x (dv v)++ey y (.g<|.d<|.sl size<|n.map e)),[(kk,some (.obj Φ))],[(dst,.one (dv g))],[(kk,some (.obj<|Rr g<|(l++n).map e))]⟩) ops rest k ⟨(dst,.one (dv g))::sl,(kk,some (.obj<|Rr g<|(l++n).map e))::hp⟩):GO C0 Q r ((app bytes l n).bind f) m ops (Oo dst (D7 x y T) ty pos af gd::rest) k ⟨sl,hp⟩:=
 GO.bind λu hu=>by
  simp only[app]at hu;split at hu
  ·rename_i hb
   cases hu;subst he;obtain⟨e1,q1⟩:=aJ hx;obtain⟨e2,q2⟩:=aJ hy;exact GO.CP (γ:=Value) undef (Ws:=λg=>[(dst,.one (dv g))]) (Wh:=λg=>[(kk,some (.obj<|Rr g<|(l++n).map e))]) (M7 hT hI hzs ayW aAk aAj i e1 e2 hd) hg (q1.both q2) ⟨hh,ayS⟩ hl hk
  ·cases hu
theorem aht(kk:Nat){l:List α}{en:α->List DV}{T:TypeId}{Rr:Value->List (List DV)->OP}(hg:bD ops sl gd=true)(hT:P.underlying T=some (.slice E))(hx:aN sl x=some (dv v))(hh:aE hp kk=some (.obj Φ))(i:vz Φ v T' size es Rr)(he:es=l.map en)(hd:Nat.blt dst nt=true)
  (hk:GO C0 Q r F (m.add ⟨gH ops gd++ey x (dv v),[(kk,some (.obj Φ))],[(dst,.one (bI .i64 l.length))],[]⟩) ops rest k ⟨(dst,.one (bI .i64 l.length))::sl,hp⟩):GO C0 Q r F m ops (Oo dst (TB x T) ty pos af gd::rest) k ⟨sl,hp⟩:=
 have hle:es.length=l.length:=by rw[he];simp
 let⟨e,q⟩:=aJ hx;GO.stepG (Rs:=ey x<|dv v) (Rh:=[(kk,some (.obj Φ))]) (Ws:=[(dst,.one (bI .i64 l.length))]) (Wh:=[]) (λsl hp hs hh a w K Q qq hK=>by
  obtain⟨M,O,A⟩:=dL qq hh.1;have hu:a.eval x=v:=RD.aX (A.one e hs);obtain⟨Os,_,p2,_⟩:=i.h M w O A.lt A.own A.obj;obtain⟨ad,cap,hv,_,_⟩:=p2.len;unfold Oper.wp;rw[show(execOp a.eval<|Oo dst (TB x T) ty pos af gd).run P w= .ok (.value<|.int .i64 l.length) w by rw[<-hle];simp[execOp,resolve,invoke,builtin,hu,hv,Builtin.len_,avm hT,goInt]];exact hK _ _ (A.read hh.1 (res:=.one (.d (.v (.int .i64 l.length)))) ay1 (RD.v _ U))) hg q ⟨hh,ayS⟩ hk
end
inductive cH(P:Program)(sl:SL)(hp:HL):List ResultVar->List AG->Prop
 | nil:cH P sl hp [] []
 | tmp {t:Nat} {g:AG} {rs:List ResultVar} {gs:List AG} (h:bG sl t=some (.one<|.g g)) (tl:cH P sl hp rs gs):cH P sl hp (.tmp t::rs) (g::gs)
 | own {t k T size:Nat} {es:List (List DV)} {ex:Bool} {rs:List ResultVar} {gs:List AG} (h:bG sl t=some (.one<|.own k es)) (hh:aE hp k=some (.row T size es ex)) (tl:cH P sl hp rs gs):cH P sl hp (.tmp t::rs) (.d (.sl size es)::gs)
 | fH {t T T' kk:Nat} {d:TypeDesc} {cs:List BV} {x:DV} {rs:List ResultVar} {gs:List AG} (hU:P.underlying T=some d) (hA:qJ d=false) (hs:bG sl t=some (.one<|.ptr kk 0)) (hh:aE hp kk=some (.blk T' cs)) (hc:cs[0]? =some (.g<|.d x)) (tl:cH P sl hp rs gs):cH P sl hp (.cell t T::rs) (.d x::gs)
 | e6 {t T T' kk n bytes:Nat} {zz:Value} {d:TypeDesc} {cs:List BV} {ds:List DV} {rs:List ResultVar} {gs:List AG} (hU:P.underlying T=some d) (hI:Info P T zz n bytes) (hA:qJ d=true) (hs:bG sl t=some (.one<|.ptr kk 0)) (hh:aE hp kk=some (.blk T' cs)) (hc:S2 (cs.take n)=some ds) (hn:ds.length=n) (tl:cH P sl hp rs gs):cH P sl hp (.cell t T::rs) (.agg ds::gs)
section
theorem cH.ok{sl:SL}{hp:HL}{β:Nat->Option Nat}{a:Act}{w:World}{QG:List ResultVar}{gs:List AG}{M':Nat->Nat->Prop}(h:cH P sl hp QG gs)(r:dD C ⟨sl,hp⟩ β a w)(h1:∀b o,M' b o->Mu C hp β b o)(h2:∀k e b,aE hp k=some e->β k=some b->∀o,¬M' b o):
  ∃vs:List Value,(QG.mapM<|Fv a.tmps).run P w= .ok vs w/\vs.length=gs.length/\∀(i:Nat)(g:AG),gs[i]? =some g->∃v,vs[i]? =some v/\GR M' w v g:=by
 have ak9:∀{rv:ResultVar}{g:AG}{rs:List ResultVar}{gs:List AG},(∃v,(Fv a.tmps rv).run P w= .ok v w/\GR M' w v g)->
   (∃vs:List Value,(rs.mapM<|Fv a.tmps).run P w= .ok vs w/\vs.length=gs.length/\∀(i:Nat)(g:AG),gs[i]? =some g->∃v,vs[i]? =some v/\GR M' w v g)->
   ∃vs:List Value,((rv::rs).mapM<|Fv a.tmps).run P w= .ok vs w/\vs.length=(g::gs).length/\∀(i:Nat)(g':AG),(g::gs)[i]? =some g'->∃v,vs[i]? =some v/\GR M' w v g':=by
  rintro rv g rs gs ⟨v,p1,p2⟩ ⟨vs,q1,q2,q3⟩;refine⟨v::vs,?_,by simp[q2],λi g' hi=>?_⟩
  ·simp only[List.mapM_cons,avw,p1,avt,q1,avF]
  ·cases i with
   | zero=>simp at hi;subst hi;exact⟨v,U,p2⟩
   | succ i=>simpa using q3 i g' ay8
 have key:∀{rv:ResultVar}{g:AG}{Rs:List (Nat×SV)}{Rh:List (Nat×Option HE)}{rs:List ResultVar}{gs:List AG},sD P rv g Rs Rh->bK sl Rs->dn hp Rh->
   (∃vs:List Value,(rs.mapM<|Fv a.tmps).run P w= .ok vs w/\vs.length=gs.length/\∀(i:Nat)(g:AG),gs[i]? =some g->∃v,vs[i]? =some v/\GR M' w v g)->
   ∃vs:List Value,((rv::rs).mapM<|Fv a.tmps).run P w= .ok vs w/\vs.length=(g::gs).length/\∀(i:Nat)(g':AG),(g::gs)[i]? =some g'->∃v,vs[i]? =some v/\GR M' w v g':=λhv hs hh=>
  ak9 (let⟨v,p1,p2⟩:=hv.ok hs hh r;⟨v,p1,p2.less h1⟩)
 induction h with
 | nil=>exact⟨[],ayW,U,λi g h=>ay4⟩
 | tmp h _ ih=>exact key (sD.tmp _ _) ⟨h,ayS⟩ ayS ih
 | @own t k T size es ex rs gs h hh _ ih=>
  refine ak9 ⟨a.tmps.getD t undef,by simp[Fv],?_⟩ ih;obtain⟨T1,alO,Td,ex1,e1,_,e3⟩:=(r.sl t _ h:BR C hp β w (.own k es) _);rw[hh]at e1;cases e1;obtain⟨hz,hsz,_⟩:=r.hp k _ hh;show RD M' w _ _;rcases e3 rfl with⟨_,rfl,ad,hu⟩ | ⟨b,cap,cur,hb,hu,hle,pR,hheap,hcs⟩
  ·rw[hu];exact RD.nil ad 0 size (av5 _)
  ·rw[hu]
   obtain⟨_,_,q⟩:=r.hp k _ hh;rcases q with⟨q,_⟩ | ⟨b',cur',q1,q2,q3,q4⟩
   ·rw[hb]at q;cases q
   ·rw[hb]at q1;cases q1
    rw[hheap]at q2;cases q2;refine RD.sl _ cap size es (λi j=>cur.getD (i*size+j) undef) b 0 hle pR (λ_=>rfl) hsz (λi cs j d hi hj=>?_) (λi cs j d hi hj=>?_)
    ·obtain⟨u,z1,_⟩:=q4 i cs j d hi hj
     refine⟨?_,h2 k _ b hh hb _⟩;rw[awM _ _ _ _ T _ hheap,avS,avx,z1];rfl
    ·obtain⟨u,z1,z2⟩:=q4 i cs j d hi hj
     rw[avx,z1];exact GR.less (g:=.d d) h1 z2
 | fH hU hA hs hh hc _ ih=>exact key (sD.fH hU hA hc) ⟨hs,ayS⟩ ⟨hh,ayS⟩ ih
 | e6 hU hI hA hs hh hc hn _ ih=>subst hn;exact key (sD.e6 hU hA hI<|LQ hc) ⟨hs,ayS⟩ ⟨hh,ayS⟩ ih
end
def VS{γ:Type}(A:OP)(B:γ->OP):Prop:=∀(M:Nat->Nat->Prop)(w:World)(O:Nat->Prop),(∀b o,M b o->b<w.heap.size)->(∀b,O b->∀o,M b o)->A M w O->∃g O',(∀b,O' b->O b)/\B g (λb o=>(M b o/\¬O b)\/O' b) w O'
variable{B:γ->OP}
theorem VS.same(h:∀M w O,A M w O->∃g,B g M w O):VS A B:=λM w O _ hO q=>
 let⟨g,hg⟩:=h M w O q
 ⟨g,O,λ_ c=>c,meq (λb o=>⟨λc=>by
  by_cases d:O b
  ·exact .inr d
  ·exact .inl ⟨c,d⟩,λc=>c.elim (λc=>c.1) λc=>hO b c o⟩) hg⟩
variable{res:R->γ->RS}{iz:R->γ->OP}
section
variable{r:R}
theorem GF.vs(kk:Nat)(h:VS A B)(om:∀g,bL (B g))(hh:aE hp kk=some (.obj A))(hk:∀g,GF C0 Q r F k ⟨sl,(kk,some (.obj (B g)))::hp⟩):GF C0 Q r F k ⟨sl,hp⟩:=⟨λhr a w q=>by
 obtain⟨M,O,A1⟩:=dL q hh;obtain⟨g,O',h1,h2⟩:=h M w O A1.lt A1.own A1.obj;exact(hk g).go hr a w (A1.next (B g) O' w (om g) ⟨U,U,U,avq _,λ_ _ _=>rfl⟩ (λb hb=>.inl (h1 b hb)) (λb hb=>A1.lt b 0 (A1.own b (h1 b hb) 0)) h2).1⟩
theorem GF.yZ(kk:Nat)(hh:aE hp kk=some (.obj (qA B)))(om:∀g,bL (B g))(hk:∀g,GF C0 Q r F k ⟨sl,(kk,some (.obj (B g)))::hp⟩):GF C0 Q r F k ⟨sl,hp⟩:=
 GF.vs kk (VS.same λ_ _ _ h=>h) om hh hk
def Rw:RS->List AG
 | .one g=>[g]
 | .eV l=>l
 | .new _ _ _=>[]
theorem HZ(kk:Nat){r':R}(hres:fn.results=QG.toArray)(hh:aE hp kk=some (.obj Φ))(he:VS Φ (iz r'))(hr:∀g,cH P sl hp QG (Rw (res r' g)))(hg:∀g,res r' g=acE (Rw (res r' g))):
  ∀a w,bE C0 ⟨sl,hp⟩ a w->a.defers= []/\∃v,(results fn a.tmps).run P w= .ok v w/\BM C0 (iz r') (res r') (.returned v) w:=λa w⟨C,σ,lk,ob,c1,c2,β,rb⟩=>by
 have UO:∀b,σ kk b->∀o,C.M b o:=λb hb=>(ob.own kk _ b hh hb).1
 let M1:Nat->Nat->Prop:=λb o=>C0.M b o\/σ kk b
 have hM1:∀b o,M1 b o->Mu C hp β b o:=λb o c=>c.elim (λc=>.inl<|lk.M b o c) λc=>.inl (UO b c o)
 obtain⟨g,O',h1,h2⟩:=he M1 w (σ kk) (λb o c=>rb.yC<|hM1 b o c) (λb hb o=>.inr hb) ((ob.mono kk _ hh).mono (Py ob rb hh) (λ_ _=>rfl) λb o x hn hx=>⟨hx,λc=>hn<|hM1 b o c⟩)
 let M':Nat->Nat->Prop:=λb o=>C0.M b o\/O' b
 have hno:∀b o,C0.M b o->¬σ kk b:=λb o c d=>by
  have z:=lk.low b o c;rcases(ob.own kk _ b hh d).2 with e | e
  ·exact z.2 e
  ·omega
 have hMM:∀b o,(M1 b o/\¬σ kk b)\/O' b↔M' b o:=λb o=>⟨λc=>c.elim (λc=>c.1.elim .inl λd=>(c.2 d).elim) .inr,λc=>c.elim (λc=>.inl ⟨.inl c,hno b o c⟩) .inr⟩;obtain⟨vs,p1,p2,p3⟩:=(hr g).ok (M':=M') rb (λb o c=>c.elim (λc=>.inl<|lk.M b o c) λc=>.inl<|UO b (h1 b c) o) (λk e b q1 q2 o c=>by
  have hb:=rb.own k e b q1 q2;rcases c with c | c
  ·have:=lk.low b o c
   rcases hb.1 with hb | hb
   ·have:=lk.keep.size;omega
   ·rcases lk.K b hb with z | z
    ·exact this.2 z
    ·omega
  ·have:=rb.low b o (UO b (h1 b c) o)
   rcases hb.1 with hb | hb
   ·omega
   ·exact this.2 hb)
 refine⟨rb.df,_,IU hres p1,g,_,U,O',lk.Gj rb.keep,λb hb=>(ob.own kk _ b hh<|h1 b hb).2,λb hb=>?_,meq hMM h2,?_⟩
 ·exact avE (rb.low b 0<|UO b (h1 b hb) 0).1 rb.keep.size
 ·rw[hg]
  exact W7 p2 λi g hi=>p3 i g hi
theorem Sv(kk:Nat){r':R}(hres:fn.results=QG.toArray)(hh:aE hp kk=some (.obj Φ))(he:VS Φ (iz r'))(hr:∀g,cH P sl hp QG (Rw (res r' g)))(hg:∀g,res r' g=acE (Rw (res r' g))):
  GF C0 (λr=>bodyPost P fn<|BM C0 (iz r)<|res r) r (some r') (.c .ret::k) ⟨sl,hp⟩:=⟨λhrr a w q=>by
 cases hrr;exact wp_ret (mE (Q0:=bodyPost P fn (BM C0 (iz r) (res r))) (HZ kk hres hh he hr hg a w q))⟩
theorem alL(kk:Nat){r':R}(hres:fn.results= #[])(hh:aE hp kk=some (.obj Φ))(he:VS Φ (iz r'))(hg:∀g,res r' g= .eV []):
  GF C0 (λr=>bodyPost P fn<|BM C0 (iz r)<|res r) r (some r') [] ⟨sl,hp⟩:=⟨λhrr a w q=>by
 cases hrr;exact HZ (QG:=[]) kk hres hh he (λg=>by rw[hg g];exact cH.nil) (λg=>by rw[hg g];rfl) a w q⟩
theorem VS.id:VS A (λ_:Unit=>A):=VS.same λ_ _ _ h=>⟨(),h⟩
theorem VS.yZ{B:α->OP}{x:α}:VS (B x) (λ_:Unit=>qA B):=VS.same λ_ _ _ h=>⟨(),x,h⟩
class VSC{γ:Type}(A:OP)(B:γ->OP):Prop where
 h:VS A B
theorem vsI[i:VSC A B]:VS A B:=i.h
theorem apo{res:R->RS}{r':R}(hres:fn.results=QG.toArray)(hr:cH P sl hp QG (Rw (res r')))(hg:res r'=acE (Rw (res r'))):
  GF C0 (λr=>bodyPost P fn<|BL C0.M C0.K C0.w0<|res r) r (some r') (.c .ret::k) ⟨sl,hp⟩:=⟨λhrr a w⟨C,σ,lk,ob,c1,c2,β,rb⟩=>by
 cases hrr;obtain⟨vs,p1,p2,p3⟩:=hr.ok (M':=C0.M) rb (λb o c=>.inl<|lk.M b o c) (λk e b q1 q2 o c=>by
  have hb:=rb.own k e b q1 q2;have:=lk.low b o c;rcases hb.1 with hb | hb
  ·have:=lk.keep.size;omega
  ·rcases lk.K b hb with z | z
   ·exact this.2 z
   ·omega)
 refine wp_ret (mE ⟨rb.df,_,IU hres p1,_,U,lk.Gj rb.keep,?_⟩);rw[hg];exact(W7 (M:=C0.M) p2 λi g hi=>p3 i g hi).toR⟩
end
section
variable{r:R}
theorem PE(hd:Nat.blt dst nt=true):dJ C (Oo dst (.assign (.const (.slice none 0 0))) ty pos af gd) [] [] [(dst,.one (.g (.d (.sl size []))))] []:=
 iG (Ev.n size) hd
theorem aeq{t:Nat}{l:List BV}(hg:bD ops sl gd=true)(hs:bG sl t=some (.eV l))(hc:(SV.eV l).calm=true)(hd:Nat.blt dst nt=true)(hk:GO C0 Q r F (m.add ⟨gH ops gd++ [(t,.eV l)],[],[(dst,.eV l)],[]⟩) ops rest k ⟨(dst,.eV l)::sl,hp⟩):GO C0 Q r F m ops (Oo dst (.move (.tmp t)) ty pos af gd::rest) k ⟨sl,hp⟩:=
 GO.one (λ_=>Sg hd) hg ⟨hs,ayS⟩ ayS azU U hk
theorem jI{E:Nat}(hg:bD ops sl gd=true)(_:P.underlying ty=some (.slice E))(_:Info P E zz size bytes)(hd:Nat.blt dst nt=true)(hk:GO C0 Q r F (m.add (X0 ops gd dst (.one (.g (.d (.sl size [])))))) ops rest k ⟨(dst,.one (.g (.d (.sl size []))))::sl,hp⟩):GO C0 Q r F m ops (Oo dst (.assign (.const (.slice none 0 0))) ty pos af gd::rest) k ⟨sl,hp⟩:=
 f0 hg (λ_=>PE hd) U hk
end
theorem Ct.data(h:Ct P f args (.new T size es)):Ct P f args (.one (.d (.sl size es))):=
 ⟨λM K w vs h1 h2 h3 h4=>(h.go M K w vs h1 h2 h3 h4).mono λe w'⟨v,q1,q2,q3⟩=>⟨v,q1,q2,by
  have hno:∀b o,(w.heap.size<=b\/K b)->¬M b o:=λb o c d=>by
   have:=h1 b o d;rcases c with c | c
   ·omega
   ·exact this.2 c
  obtain⟨_,hsz,⟨rfl,ad,rfl⟩ | ⟨b,cap,cur,hb,_,rfl,hle,pR,hheap,_,hc⟩⟩:=q3
  ·exact RD.nil ad 0 size (av5 _)
  ·refine RD.sl _ cap size es (λi j=>cur.getD (i*size+j) undef) b 0 hle pR (λ_=>rfl) hsz (λi cs j d hi hj=>?_) (λi cs j d hi hj=>?_)
   ·obtain⟨u,z1,_⟩:=hc i cs j d hi hj
    refine⟨?_,hno b _ hb⟩;rw[awM _ _ _ _ T _ hheap,avS,avx,z1];rfl
   ·obtain⟨u,z1,z2⟩:=hc i cs j d hi hj
    rw[avx,z1];exact GR.less (g:=.d d) (λ_ _ c=>.inl c) z2⟩⟩
theorem fc.iB{r:R}(hf:P.funcs[f]? =some fn)(hb:fn.body=some code)(hn:fn.ntmps=n)(hle:Nat.ble args.length n=true)
  (hrow:args.all (λg=>match g with | .g _=>true | _=>false)=true) (ok:bL Φ) (hF:F=some r)
  (h:∀C0:Cx P n,GF C0 (λr=>bodyPost P fn<|BM C0 (iz r)<|res r) r F [.c code] ⟨m7 0 args,[(1000,some (.obj Φ))]⟩):fc P f Φ (iz r) args (res r):=
 fc.intro hf hb hn hle hrow ok λC0 a w q=>(h C0).go hF a w q
def jR{α γ:Type}[DecidableEq α]:List (α×γ)->α->List (α×γ)
 | [],_=>[]
 | (a,b)::m,x=>if a=x then m else(a,b)::jR m x
theorem DF{α γ:Type}[DecidableEq α]:∀{m:List (α×γ)}{x:α},bx m x=none->jR m x=m
 | [],_,_=>rfl
 | (a,b)::m,x,h=>by
  simp only[bx]at h;split at h
  ·cases h
  ·rename_i c
   rw[jR,avj c,DF h]
theorem Np{α γ:Type}[DecidableEq α]:∀{m:List (α×γ)}{es:List MapEntry}{x:α}{i:Nat}{v:γ},bx m x=some v->es.length=m.length->
  ∃j,m[j]? =some (x,v)/\(∃e,es[j]? =some e/\vO (m.map (·.1)) es x i=some (i+j,e.val))/\jR m x=m.eraseIdx j
 | [],_,_,_,_,h,_=>azm
 | (a,b)::m,[],_,_,_,_,hl=>by simp at hl
 | (a,b)::m,e::es,x,i,v,h,hl=>by
  simp only[bx]at h;by_cases c:a=x
  ·rw[avk c]at h
   cases h;subst c;exact⟨0,U,⟨e,U,by simp[vO]⟩,by simp[jR]⟩
  ·rw[avj c]at h
   obtain⟨j,q1,⟨e',q2,q3⟩,q4⟩:=Np (i:=i+1) h azd;exact⟨j+1,by simpa using q1,⟨e',by simpa using q2,by simp only[avV,vO];rw[avj c,q3];congr 2;omega⟩,by simp[jR,c,q4]⟩
theorem Cz:∀(x:ByteArray)(es:List MapEntry)(ks:List ByteArray)(i:Nat),es.map (·.key)=ks.map Value.string->Instr.findNow .string (.string x) es i=some (vO ks es x i)
 | x,[],ks,i,h=>by
  have:ks= []:=by simpa using h.symm
  subst this;rfl
 | x,e::es,[],i,h=>ay4
 | x,e::es,k::ks,i,h=>by
  simp only[avV,List.cons.injEq]at h;rw[Instr.findNow,h.1];simp only[Instr.sameNow,vO];by_cases c:k=x
  ·subst c;rw[(MapKept.bytes_beq k k).2 U];simp
  ·have:(x==k)=false:=by
    cases hb:x==k with
    | false=>rfl
    | true=>exact absurd ((MapKept.bytes_beq x k).1 hb).symm c
   rw[this,avj c];exact Cz x es ks (i+1) h.2
theorem BK.string{P:Program}{kt:TypeId}(h:P.underlying kt=some .string):BK P kt (λs:ByteArray=>Value.string s):=by
 refine⟨λem x w=>?_,λw x es ks he=>?_,λx=>?_⟩
 ·show(Instr.checkKey em (9999+1) kt _).run P w=_
  rw[Instr.checkKey];simp[avm h]
 ·simp[Instr.findKey,avm h,Cz x es ks 0 he]
 ·show Instr.sameBits (9999+1) _ _=true
  rw[Instr.sameBits];exact(MapKept.bytes_beq x x).2 rfl
class EY(Φ:OP)(b:Nat)(es:outParam (List (Value×AG)))(R:outParam (List (Value×AG)->OP)):Prop where
 h:qH Φ (tJ b es) (λc=>tJ b c) R
 om:∀c,bL (R c)
instance{A B:OP}{b:Nat}{es:List (Value×AG)}{R:List (Value×AG)->OP}[a:OM A][i:EY B b es R]:EY (Sep A B) b es (λc=>Sep A (R c)):=⟨i.h.r a.h,λc=>uh a.h (i.om c)⟩
instance{A B:OP}{b:Nat}{es:List (Value×AG)}{R:List (Value×AG)->OP}[a:OM B][i:EY A b es R]:EY (Sep A B) b es (λc=>Sep (R c) B):=⟨i.h.l a.h,λc=>uh (i.om c) a.h⟩
instance{b:Nat}{es:List (Value×AG)}:EY (tJ b es) b es (λc=>tJ b c):=⟨qH.refl,λ_=>Pz⟩
theorem mI{es:List (Value×AG)}{R:List (Value×AG)->OP}[i:EY Φ b es R]:EY Φ b es R:=i
class adM(P:Program)(T:TypeId)(kt vt:outParam TypeId){α:Type}[DecidableEq α](enc:α->Value):Prop where
 h:P.underlying T=some (.map kt vt)/\BK P kt enc
def Tl(P:Program)(T kt vt:TypeId){α:Type}[DecidableEq α](enc:α->Value):Prop:=P.underlying T=some (.map kt vt)/\BK P kt enc
variable{enc:α->Value}
theorem kI{T kt vt:TypeId}[DecidableEq α][i:adM P T kt vt enc]:Tl P T kt vt enc:=i.h
class adL{α:Type}(enc:α->Value)(bk:AG)(k:outParam α):Prop where
 h:∀M w u,GR M w u bk->u=enc k
def JI{α:Type}(enc:α->Value)(bk:AG)(k:α):Prop:=∀M w u,GR M w u bk->u=enc k
variable{bk:AG}
theorem kbI{k:α}[i:adL enc bk k]:JI enc bk k:=i.h
instance{s:ByteArray}:adL (λs:ByteArray=>Value.string s) (.d (.v (.string s))) s:=⟨λ_ _ _ h=>RD.aX h⟩
variable{Rr:List (Value×AG)->OP}{kt vt:Nat}{ag:γ->AG}{mm:List (α×γ)}{kx:α}
section
variable{r:R}{R3:List (Nat×SV)}
theorem HO[DecidableEq α]{es:Array MapEntry}(hl:es.size=(cm enc ag mm).length)
  (h:∀(i:Nat)(e:Value×AG),(cm enc ag mm)[i]? =some e->∃x,es[i]? =some x/\x.key=e.1/\GR M w x.val e.2):es.toList.map (·.key)=(mm.map (·.1)).map enc/\es.toList.length=mm.length:=by
 have hlen:es.toList.length=mm.length:=by simpa using hl
 refine⟨axZ λi=>?_,hlen⟩;by_cases c:i<mm.length
 ·obtain⟨e,he,hk1,_⟩:=h i (enc mm[i].1,ag mm[i].2) (by simp[c])
  simp[awb,he,c,hk1]
 ·have h4:es.size<=i:=by rw[awj]at hlen;omega
  simp[h4,ax2 c]
theorem Pn[DecidableEq α]{d0:γ}(hk:Tl P T kt vt enc)(hI:Info P vt zz size bytes)(h0:∀(M:Nat->Nat->Prop)(w:World),GR M w zz (ag d0))
  (i:EY Φ b (cm enc ag mm) Rr) (hb:JI enc bk kx) (hx:Ev x (dv<|.map<|some b) R1) (hy:Ev y (.g bk) R2) (hd:Nat.blt dst nt=true)
  (sl:SL) (hp:HL) (hs:bK sl (R1++R2)) (hh:dn hp [(kk,some (.obj Φ))]) (a:Act) (w:World) (K:Act->World->Prop) (Q:Exit->Act->World->Prop) (q:bE C0 ⟨sl,hp⟩ a w) (hK:∀a w,bE C0 ⟨(dst,.one (.g<|ag<|(bx mm kx).getD d0))::sl,hp⟩ a w->K a w):(Oo dst (.lookup T x y false) ty pos af gd).wp P a w K Q:=by
 obtain⟨M,O,A⟩:=dL q hh.1;have hu:a.eval x= .map (some b):=RD.aX (A.one hx hs.app.1)
 have hky:=hb _ _ _ (A.one hy hs.app.2);obtain⟨Os,_,⟨_,es,n,hheap,hl,hc,_⟩,_⟩:=i.h M w O A.lt A.own A.obj;obtain⟨hkeys,hlen⟩:=HO hl hc;have hf:=hk.2.fd w kx es.toList (mm.map (·.1)) hkeys;have hg:(getObj b).run P w= .ok (.map es n) w:=by simp[getObj,Sem.run,hheap]
 unfold Oper.wp;cases hm:bx mm kx with
 | none=>
  rw[Ar hm]at hf;rw[show(execOp a.eval<|Oo dst (.lookup T x y false) ty pos af gd).run P w= .ok (.value zz) w by simp[execOp,Instr.lookup,hu,hky,avm hk.1,hg,hk.2.ck,hf,hI.zero]];refine hK _ _ (A.read hh.1 (res:=.one<|ag<|(bx mm kx).getD d0) ay1 ?_);rw[hm];exact h0 _ _
 | some v=>
  obtain⟨j,q1,⟨e,q2,q3⟩,_⟩:=E8 (i:=0) hm hlen;rw[q3]at hf;obtain⟨e',he',_,hv⟩:=hc j (enc kx,ag v) (by simp[q1]);rw[awb,he']at q2;cases q2;rw[show(execOp a.eval<|Oo dst (.lookup T x y false) ty pos af gd).run P w= .ok (.value e.val) w by simp[execOp,Instr.lookup,hu,hky,avm hk.1,hg,hk.2.ck,hf]];refine hK _ _ (A.read hh.1 (res:=.one<|ag<|(bx mm kx).getD d0) ay1 ?_);rw[hm];exact hv
theorem afz{B5 Td:List (Value×AG)}(i:EY Φ b B5 Rr)(A:At C0 sl hp kk Φ a w M O){es es':Array MapEntry}{n':Nat}(hheap:w.heap[b]? =some (.map es n))(hl:es'.size=Td.length)
  (hc:∀(j:Nat)(e:Value×AG),Td[j]? =some e->∃x,es'[j]? =some x/\x.key=e.1/\GR M w x.val e.2) (hb:∀(j:Nat)(x:MapEntry),es'[j]? =some x->x.born<n') (hu:∀(j j':Nat)(x y:MapEntry),es'[j]? =some x->es'[j']? =some y->x.born=y.born->j=j'):
  ∃w1,(setObj b<|.map es' n').run P w= .ok () w1/\bE C0 ⟨sl,(kk,some (.obj<|Rr Td))::hp⟩ a w1/\(dst<nt->bE C0 ⟨(dst,.eV [])::sl,(kk,some (.obj<|Rr Td))::hp⟩ (a.put (some dst)<|.tuple #[]) w1):=by
 obtain⟨Os,p1,⟨p2,_⟩,p4⟩:=i.h M w O A.lt A.own A.obj;generalize hw1:({ w with heap:=w.heap.setIfInBounds b (.map es' n') }:World)=w1;have hbl:b<w.heap.size:=(avo.1 hheap).1
 have hnew:w1.heap[b]? =some (.map es' n'):=by rw[<-hw1];simp[hbl]
 have kJ:∀i,i≠b->w1.heap[i]? =w.heap[i]? :=λi hi=>aAZ;have hsize:w1.heap.size=w.heap.size:=by rw[<-hw1];simp
 have hOs:Os b:=(p2 b).2 U
 have Ag:cU Os w w1:=⟨aAt,aAt,aAt,ayT,λk _ hk=>kJ k λc=>hk (by rw[c];exact hOs)⟩;have hgr:∀{u:Value}{g:AG},GR M w u g->GR (λb o=>(M b o/\¬Os b)\/Os b) w1 u g:=λh=>h.mono λb' o x hn hx=>by
  have hne:¬Os b':=λc=>hn (A.own b' (p1 b' c) o);refine⟨aAf,λc=>c.elim (λc=>hn c.1) hne⟩
 have hpost:Ei M w O (Rr Td) (.eV []) (.tuple #[]) w1:=Ei.lift A.lt A.own p1 (p4 Td) ⟨Os,Ag,λb hb=>.inl hb,λb' hb'=>aAx,
  ⟨p2,es',n',hnew,hl,λj e he=>let⟨x,q1,q2,q3⟩:=hc j e he;⟨x,q1,q2,hgr q3⟩,hb,hu⟩,⟨#[],U,U,λi g h=>ay4⟩⟩
 obtain⟨O',z1,z2,z3,z4,z5⟩:=hpost;have hn:=A.next _ O' w1 (i.om Td) z1 z2 z3 z4;exact⟨w1,by rw[<-hw1];simp only[setObj,Sem.run,hheap],hn.1,λhd=>hn.2 dst (.eV []) (.tuple #[]) hd z5⟩
theorem Zw[DecidableEq α]{v:γ}(hk:Tl P T kt vt enc)(i:EY Φ b (cm enc ag mm) Rr)(hb:JI enc bk kx)(hx:Ev x (dv (.map (some b))) R1)(hy:Ev y (.g bk) R2)(hz:Ev z (.g (ag v)) R3)
  (sl:SL) (hp:HL) (hs:bK sl (R1++(R2++R3))) (hh:dn hp [(kk,some (.obj Φ))]) (a:Act) (w:World) (K:Act->World->Prop) (Q:Exit->Act->World->Prop) (q:bE C0 ⟨sl,hp⟩ a w) (hK:∀a w,bE C0 ⟨sl,(kk,some (.obj<|Rr<|cm enc ag<|cw mm kx v))::hp⟩ a w->K a w):(⟨none,.mapUpdate T x y z,ty,pos,af,gd⟩:Oper).wp P a w K Q:=by
 obtain⟨M,O,A⟩:=dL q hh.1;have hu:a.eval x= .map (some b):=RD.aX (A.one hx hs.app.1)
 have hky:=hb _ _ _ (A.one hy hs.app.2.app.1);have h3:=A.one hz hs.app.2.app.2;obtain⟨Os,_,⟨_,es,n,hheap,hl,hc,Fb,hun⟩,_⟩:=i.h M w O A.lt A.own A.obj;obtain⟨hkeys,hlen⟩:=HO hl hc;have hf:=hk.2.fd w kx es.toList (mm.map (·.1)) hkeys;have hg:(getObj b).run P w= .ok (.map es n) w:=by simp[getObj,Sem.run,hheap]
 have hlen':es.size=mm.length:=by simpa using hl
 unfold Oper.wp;cases hm:bx mm kx with
 | none=>
  rw[Ar hm]at hf;obtain⟨w1,Fe,r1,_⟩:=afz (dst:=0) (P:=P) (Td:=cm enc ag<|cw mm kx v) (es':=es.push { key:=enc kx,val:=a.eval z,born:=n }) (n':=n+1) i A hheap (by rw[uY hm];simp[hlen']) (λi e he=>by
   rw[uY hm,cm,axm,ayl]at he;split at he
   ·rename_i c
    obtain⟨x,q1,q2,q3⟩:=hc i e he;exact⟨x,by rw[Array.getElem?_push,avj (by simp at c;omega)];exact q1,q2,q3⟩
   ·rename_i c
    have hi:i=es.size:=by
     have:=(avl.1 he).1
     simp at this c;omega
    subst hi;have:e=(enc kx,ag v):=by
     simp[hlen']at he;exact he.symm
    subst this;exact⟨{ key:=enc kx,val:=a.eval z,born:=n },ayW,U,h3⟩) (λj x hj=>by
   rw[Array.getElem?_push]at hj;split at hj
   ·cases hj;simp
   ·have:=Fb j x hj;omega) (λj j' x y hj hj' hxy=>by
   rw[Array.getElem?_push]at hj hj';split at hj<;>split at hj'
   ·omega
   ·cases hj
    have:=Fb j' y hj';simp at hxy;omega
   ·cases hj'
    have:=Fb j x hj;simp at hxy;omega
   ·exact hun j j' x y hj hj' hxy)
  have:(execOp a.eval ⟨none,.mapUpdate T x y z,ty,pos,af,gd⟩).run P w= .ok .skip w1:=by
   simp[execOp,Instr.mapUpdate,hu,hky,avm hk.1,hg,hk.2.ck,hf,Fe]
  rw[this];exact hK _ _ r1
 | some v0=>
  obtain⟨j,q1,⟨e0,q2,q3⟩,q4⟩:=E8 (i:=0) hm hlen;rw[q3,avS]at hf;rw[awb]at q2;have hj:j<mm.length:=(avl.1 q1).1
  obtain⟨e1,he1,hk1,_⟩:=hc j (enc kx,ag v0) (by simp[q1]);rw[q2]at he1;cases he1;have hmod:∀(j':Nat)(x:MapEntry),(es.modify j λe=>{ e with key:=enc kx,val:=a.eval z })[j']? =some x->∃x0,es[j']? =some x0/\x.born=x0.born:=λj' x hx=>by
   rw[awW]at hx;split at hx
   ·rename_i c;subst c
    rw[q2]at hx;simp at hx;exact⟨e0,q2,by rw[<-hx]⟩
   ·exact⟨x,hx,U⟩
  obtain⟨w1,Fe,r1,_⟩:=afz (dst:=0) (P:=P) (Td:=cm enc ag<|cw mm kx v) (es':=es.modify j λe=>{ e with key:=enc kx,val:=a.eval z }) (n':=n) i A hheap (by rw[q4];simp[hlen']) (λi e he=>by
   rw[q4,cm,List.map_set,awz]at he;by_cases c:j=i
   ·subst c
    rw[avk rfl]at he;split at he
    ·cases he
     exact⟨{ e0 with key:=enc kx,val:=a.eval z },by rw[awW,avk U,q2];rfl,U,h3⟩
    ·cases he
   ·rw[avj c]at he
    obtain⟨x,p1,p2,p3⟩:=hc i e he;exact⟨x,by rw[awW,avj c];exact p1,p2,p3⟩) (λj' x hx=>let⟨x0,z1,z2⟩:=hmod j' x hx;z2 ▸ Fb j' x0 z1) (λj1 j2 x y h1 h2 hxy=>by
   obtain⟨x0,z1,z2⟩:=hmod j1 x h1;obtain⟨y0,z3,z4⟩:=hmod j2 y h2;exact hun j1 j2 x0 y0 z1 z3 (by rw[<-z2,<-z4];exact hxy))
  have hst:(Instr.keyThatStays e0.key<|enc kx).run P w= .ok (enc kx) w:=by
   rw[hk1];simp[Instr.keyThatStays,hk.2.sb]
  have:(execOp a.eval ⟨none,.mapUpdate T x y z,ty,pos,af,gd⟩).run P w= .ok .skip w1:=by
   simp[execOp,Instr.mapUpdate,hu,hky,avm hk.1,hg,hk.2.ck,hf,q2,hst,Fe]
  rw[this];exact hK _ _ r1
abbrev ad6(x y:Operand)(T T2:TypeId):Op:=.call { callee:=.builtin .delete,args:=#[x,y],argTypes:=#[T,T2] }
theorem XM{T2:Nat}[DecidableEq α](hk:Tl P T kt vt enc)(i:EY Φ b (cm enc ag mm) Rr)(hb:JI enc bk kx)(hx:Ev x (dv (.map (some b))) R1)(hy:Ev y (.g bk) R2)
  (sl:SL) (hp:HL) (hs:bK sl (R1++R2)) (hh:dn hp [(kk,some (.obj Φ))]) (a:Act) (w:World) (K:Act->World->Prop) (Q:Exit->Act->World->Prop) (q:bE C0 ⟨sl,hp⟩ a w) (hK:∀a w,bE C0 ⟨sl,(kk,some (.obj<|Rr<|cm enc ag<|jR mm kx))::hp⟩ a w->K a w):(⟨none,ad6 x y T T2,ty,pos,af,gd⟩:Oper).wp P a w K Q:=by
 obtain⟨M,O,A⟩:=dL q hh.1;have hu:a.eval x= .map (some b):=RD.aX (A.one hx hs.app.1)
 have hky:=hb _ _ _ (A.one hy hs.app.2);obtain⟨Os,_,⟨_,es,n,hheap,hl,hc,Fb,hun⟩,_⟩:=i.h M w O A.lt A.own A.obj;obtain⟨hkeys,hlen⟩:=HO hl hc;have hf:=hk.2.fd w kx es.toList (mm.map (·.1)) hkeys;have hg:(getObj b).run P w= .ok (.map es n) w:=by simp[getObj,Sem.run,hheap]
 have hlen':es.size=mm.length:=by simpa using hl
 unfold Oper.wp;cases hm:bx mm kx with
 | none=>
  rw[Ar hm]at hf;obtain⟨w1,Fe,r1,_⟩:=afz (dst:=0) (P:=P) (Td:=cm enc ag<|jR mm kx) (es':=es) (n':=n) i A hheap (by rw[DF hm];exact hl) (by rw[DF hm];exact hc) Fb hun;have:(execOp a.eval ⟨none,ad6 x y T T2,ty,pos,af,gd⟩).run P w= .ok (.value<|.tuple #[]) w1:=by
   simp[execOp,resolve,invoke,builtin,Builtin.delete_,hu,hky,avm hk.1,hg,hk.2.ck,hf,Fe]
  rw[this];exact hK _ _ r1
 | some v0=>
  obtain⟨j,q1,⟨e0,q2,q3⟩,q4⟩:=Np (i:=0) hm hlen;rw[q3,avS]at hf;rw[awb]at q2;have hj:j<es.size:=(avo.1 q2).1
  have hge:∀(l:Nat),(es.eraseIdxIfInBounds j)[l]? =if l<j then es[l]? else es[l+1]? :=λl=>by
   rw[Array.eraseIdxIfInBounds,dif_pos hj,Array.getElem?_eraseIdx]
  obtain⟨w1,Fe,r1,_⟩:=afz (dst:=0) (P:=P) (Td:=cm enc ag<|jR mm kx) (es':=es.eraseIdxIfInBounds j) (n':=n) i A hheap (by
    rw[Array.eraseIdxIfInBounds,dif_pos hj,Array.size_eraseIdx,q4,cm,avN,List.length_eraseIdx,avk ayT];omega) (λl e he=>by
   rw[q4,cm]at he;rw[hge l];rw[avL,List.getElem?_eraseIdx]at he;split at he
   ·rename_i c
    rw[avk c];exact hc l e (by rw[cm,avL];exact he)
   ·rename_i c
    rw[avj c];exact hc (l+1) e (by rw[cm,avL];exact he)) (λl x hx=>by
   rw[hge l]at hx;split at hx
   ·exact Fb _ x hx
   ·exact Fb _ x hx) (λl l' x y h1 h2 hxy=>by
   rw[hge l]at h1;rw[hge l']at h2;split at h1<;>split at h2
   ·exact hun _ _ x y h1 h2 hxy
   ·have:=hun _ _ x y h1 h2 hxy;omega
   ·have:=hun _ _ x y h1 h2 hxy;omega
   ·have:=hun _ _ x y h1 h2 hxy;omega)
  have:(execOp a.eval ⟨none,ad6 x y T T2,ty,pos,af,gd⟩).run P w= .ok (.value<|.tuple #[]) w1:=by
   simp[execOp,resolve,invoke,builtin,Builtin.delete_,hu,hky,avm hk.1,hg,hk.2.ck,hf,Fe]
  rw[this];exact hK _ _ r1
theorem Dv(kk:Nat)[DecidableEq α]{es:List (Value×AG)}(d0:γ)(hg:bD ops sl gd=true)(hx:aN sl x=some (dv (.map (some b))))(hh:aE hp kk=some (.obj Φ))(i:EY Φ b es Rr)(he:es=cm enc ag mm)(hk:Tl P T kt vt enc)(hI:Info P vt zz size bytes)(h0:∀(M:Nat->Nat->Prop)(w:World),GR M w zz (ag d0))(hy:aN sl y=some (.g bk))(hb:JI enc bk kx)(hd:Nat.blt dst nt=true)
  (hkk:GO C0 Q r F (m.add ⟨gH ops gd++(ey x (dv<|.map<|some b)++ey y (.g bk)),[(kk,some (.obj Φ))],[(dst,.one (.g<|ag<|(bx mm kx).getD d0))],[]⟩) ops rest k ⟨(dst,.one (.g<|ag<|(bx mm kx).getD d0))::sl,hp⟩):GO C0 Q r F m ops (Oo dst (.lookup T x y false) ty pos af gd::rest) k ⟨sl,hp⟩:=by
 subst he;obtain⟨e1,q1⟩:=aJ hx;obtain⟨e2,q2⟩:=aJ hy;exact GO.stepG (Ws:=[(dst,.one (.g<|ag<|(bx mm kx).getD d0))]) (Wh:=[]) (Pn hk hI h0 i hb e1 e2 hd) hg (q1.both q2) ⟨hh,ayS⟩ hkk
theorem abu(kk:Nat)[DecidableEq α]{v:γ}{es:List (Value×AG)}(hg:bD ops sl gd=true)(hx:aN sl x=some (dv (.map (some b))))(hh:aE hp kk=some (.obj Φ))(i:EY Φ b es Rr)(he:es=cm enc ag mm)(hk:Tl P T kt vt enc)(hy:aN sl y=some (.g bk))(hb:JI enc bk kx)(hz:aN sl z=some (.g (ag v)))
  (hkk:GO C0 Q r F (m.add ⟨gH ops gd++(ey x (dv<|.map<|some b)++(ey y (.g bk)++ey z (.g<|ag v))),[(kk,some (.obj Φ))],[],[(kk,some (.obj<|Rr<|cm enc ag<|cw mm kx v))]⟩) ops rest k ⟨sl,(kk,some (.obj<|Rr<|cm enc ag<|cw mm kx v))::hp⟩):GO C0 Q r F m ops (⟨none,.mapUpdate T x y z,ty,pos,af,gd⟩::rest) k ⟨sl,hp⟩:=by
 subst he;obtain⟨e1,q1⟩:=aJ hx;obtain⟨e2,q2⟩:=aJ hy;obtain⟨e3,q3⟩:=aJ hz;exact GO.stepG (Ws:=[]) (Wh:=[(kk,some (.obj<|Rr<|cm enc ag<|cw mm kx v))]) (Zw hk i hb e1 e2 e3) hg (q1.both<|q2.both q3) ⟨hh,ayS⟩ hkk
theorem ahr(kk:Nat){T2:Nat}[DecidableEq α]{es:List (Value×AG)}(hg:bD ops sl gd=true)(hx:aN sl x=some (dv (.map (some b))))(hh:aE hp kk=some (.obj Φ))(i:EY Φ b es Rr)(he:es=cm enc ag mm)(hk:Tl P T kt vt enc)(hy:aN sl y=some (.g bk))(hb:JI enc bk kx)
  (hkk:GO C0 Q r F (m.add ⟨gH ops gd++(ey x (dv<|.map<|some b)++ey y (.g bk)),[(kk,some (.obj Φ))],[],[(kk,some (.obj<|Rr<|cm enc ag<|jR mm kx))]⟩) ops rest k ⟨sl,(kk,some (.obj<|Rr<|cm enc ag<|jR mm kx))::hp⟩):GO C0 Q r F m ops (⟨none,ad6 x y T T2,ty,pos,af,gd⟩::rest) k ⟨sl,hp⟩:=by
 subst he;obtain⟨e1,q1⟩:=aJ hx;obtain⟨e2,q2⟩:=aJ hy;exact GO.stepG (Ws:=[]) (Wh:=[(kk,some (.obj<|Rr<|cm enc ag<|jR mm kx))]) (XM hk i hb e1 e2) hg (q1.both q2) ⟨hh,ayS⟩ hkk
end
class bT{T R:Type}(body:(T->Option R)->T->Option R)(S:outParam (T->St)):Prop where
 t:True
theorem loI{T:Type}{body:(T->Option R)->T->Option R}{S:T->St}[i:bT body S]:bT body S:=i
section
variable{r:R}
theorem GF.acd{T:Type}{c:Code}{body:(T->Option R)->T->Option R}{v:T}{S:T->St}(_:bT body S)(hst:∀a w,bE C0 st a w->bE C0 (S v) a w)
  (round:∀(K:Act->World->Prop)(again:T->Option R)(v:T),(∀v' st',(∀a w,bE C0 st' a w->bE C0 (S v') a w)->GF C0 Q r (again v') (.q K::k) st')->GF C0 Q r (body again v) (.c c:: .q K::k) (S v)):
  GF C0 Q r (Go.Ab.aR body n v) (.c (.loop c)::k) st:=GF.aR S hst round
theorem gC{E:Nat}(hg:bD ops sl gd=true)(_:P.underlying ty=some (.slice E))(_:Info P E zz size bytes)(hz:Nat.blt 0 size=true)(hh:aE hp (dst+100)=none)(hd:Nat.blt dst nt=true)
  (hk:GO C0 Q r F (m.add ⟨gH ops gd,[(dst+100,none)],[(dst,.one (.own (dst+100) []))],[(dst+100,some (.row E size [] true))]⟩) ops rest k ⟨(dst,.one (.own (dst+100) []))::sl,(dst+100,some (.row E size [] true))::hp⟩):GO C0 Q r F m ops (Oo dst (.assign<|.const<|.slice none 0 0) ty pos af gd::rest) k ⟨sl,hp⟩:=
 f0h (e:=.row E size [] true) hg (λ_=>Gr hz hd<|by simp) hh U U hk
theorem XR{l n:List α}{f:List α->Option R}{T:TypeId}(hg:bD ops sl gd=true)(hT:P.underlying T=some (.slice E))(hI:Info P E zz size bytes)(hx:aN sl x=some (.own kk es))(he:es=l.map e)(hh:aE hp kk=some (.row E size es true))(hy:aN sl y=some (.g (.d (.sl size (n.map e)))))(hzs:Nat.beq zz.cells.size size=true)(hd:Nat.blt dst nt=true)
  (hk:GO C0 Q r (f<|l++n) (m.add ⟨gH ops gd++(ey x (.own kk es)++ey y (.g<|.d<|.sl size<|n.map e)),[(kk,some (.row E size es true))],[(dst,.one (.own kk<|(l++n).map e))],[(kk,some (.row E size ((l++n).map e) true))]⟩) ops rest k ⟨(dst,.one (.own kk<|(l++n).map e))::sl,(kk,some (.row E size ((l++n).map e) true))::hp⟩):GO C0 Q r ((app bytes l n).bind f) m ops (Oo dst (D7 x y T) ty pos af gd::rest) k ⟨sl,hp⟩:=
 GO.bind λu hu=>by
  simp only[app]at hu;split at hu
  ·rename_i hb
   cases hu;subst he;obtain⟨e1,q1⟩:=aJ hx;obtain⟨e2,q2⟩:=aJ hy;exact GO.one (λ_=>KV hT hI hzs ayW aAk aAj e1 e2 hd) hg (q1.both q2) ⟨hh,ayS⟩ U U hk
  ·cases hu
end
end Go.Ab
