/- Machine, typed functions, plain laws and walks, part 28, for TopCleans. Conditions: none but those that stand in each law. -/
import Derived.Test.YtgjndeeaafimiaaGreatD27
set_option linter.all false
namespace Go.Ark
open Go Go.Ab Go.RowKit
theorem Nh{l:List aH}{id:Int}{p:aH}(h:p∈Cv l id):p∈l:=(awc.1 h).1
variable{t:Nat}{hs:List aC}{z:aD}
theorem mF.drop(h:mF t hs z)(id:Int):mF t hs { z with pins:=Cv z.pins id }:=by
 have hb:∀c,cr { z with pins:=Cv z.pins id } c=cr z c:=λc=>aza;exact⟨h.len,h.good,h.rel,λc hc p hp hi i k d hk hd=>by
  rw[hb]at hk ⊢;exact h.ph c hc p (Nh hp) hi i k d hk hd⟩
theorem GI.drop{t:Nat}{z:aD}(h:GI t z)(id:Int):GI t { z with pins:=Cv z.pins id }:=by
 have hb:∀c,cr { z with pins:=Cv z.pins id } c=cr z c:=λc=>aza;have hs:∀c,bA { z with pins:=Cv z.pins id } c=bA z c:=λc=>aze;exact⟨h.row,h.bh,h.KQ,λc hc=>by rw[hs];exact h.JD c hc,λc hc=>azK,h.ps.filter _,λp hp=>h.Vy p<|Nh hp,h.hl,
  λe he=>(h.HJ e he).xo λc _ k=>by rw[hs];exact dG _,h.zi.xo U U U,h.self.drop id⟩
variable{l:List aa}
theorem N3{p:List ah}(hl:l.length<=100)(hv:∀v,v∈l->GV t v)(hp:GP t p):Bk l p:=
 ⟨hl,by have:=hp.len;omega,hp.small,λv hm=>⟨by rw[(hv v hm).key.size];omega,by have:=(hv v hm).past.len;omega,(hv v hm).past.small⟩⟩
noncomputable def BS(z:aD)(p:aH)(l:List ByteArray):List aa:=(l.filter λk=>(Ea p k).isSome).map λk=>ua z (uo p k)
theorem aco{p:aH}{ks:List ByteArray}(hH:∀k,k∈ks->∀d,Ea p k=some d->Held t z p k d){k:ByteArray}(hk:k∈ks):Th (BS z p ks) k=uo p k:=by
 have hall:∀x,x∈((BS z p ks).filter λv=>decide (v.Key=k)).map (·.aq)->x=uo p k/\(Ea p k).isSome=true:=λx hx=>by
  obtain⟨v,hv,rfl⟩:=avT.1 hx;obtain⟨h1,h2⟩:=awc.1 hv;obtain⟨k',h3,rfl⟩:=avT.1 h1;obtain⟨h4,h5⟩:=awc.1 h3;obtain⟨d,hd⟩:=axu.1 h5;have hh:=hH k' h4 d hd;have e:uo p k'=d.aq:=by unfold uo;rw[hd]
  have h6:(ua z<|uo p k').Key=k:=awf h2
  rw[e,hh.vk]at h6;subst h6;rw[e];exact⟨hh.vs,h5⟩
 unfold Th;cases hd:Ea p k with
 | none=>
  have:((BS z p ks).filter λv=>decide (v.Key=k)).map (·.aq)= []:=List.eq_nil_iff_forall_not_mem.2 λx hx=>by
   have:=(hall x hx).2
   rw[hd]at this;cases this
  rw[this];unfold uo;rw[hd];rfl
 | some d=>
  have hh:=hH k hk d hd;have e:uo p k=d.aq:=by unfold uo;rw[hd]
  refine OV (by rw[e];exact(KU hh.st).1) ?_ λx hx=>(hall x hx).1
  have hm:ua z (uo p k)∈BS z p ks:=avT.2 ⟨k,awc.2 ⟨hk,by rw[hd];rfl⟩,U⟩;intro q;have:(ua z<|uo p k).aq∈((BS z p ks).filter λv=>decide (v.Key=k)).map (·.aq):=avT.2 ⟨_,awc.2 ⟨hm,by rw[e];exact avP hh.vk⟩,U⟩
  rw[q]at this;cases this
variable{n:Nat}{o:aI}
theorem aaP(h:GI t z)(ht:t<=1000)(ho:B2 n o)(hk:o.Kind=7)(hne:(bA z o.Client.toNat).Site≠-1):Step t z o λg=>jP g o:=by
 have hc:o.Client.toNat<4:=by have:=ho.c0;have:=ho.c4;omega
 have hc0:=ho.c0;have hc4:=ho.c4;have B6:=h.JD _ hc;obtain⟨s0,s1⟩:=B6.site hne;have hpl:=h.PU;have Yf:=h.M8 _ hc;have hh5:=h.hl;obtain⟨p,aE,Yl⟩:=Sl h.ps ayT (o.Client+1);have hw1:IntKind.wrap .i64 (o.Client+1)=o.Client+1:=wrap64 ayT ayT
 cases RH:CG z.pins (o.Client+1)with
 | false=>
  refine Step.told h 12 (λq=>ayT) λhs hh=>?_;show jP (wS z hs) o=_;unfold jP;rw[pG ho.c0 ho.c4];show((wB z.pins _).bind _)=_;rw[hw1,aE,avi,RH];rfl
 | true=>
  obtain⟨hpm,akR⟩:=Yl RH;rw[RH]at aE;have qC:=PV h.ps ayT p.ID;rw[akR,RH,avk rfl]at qC;generalize Nx:(bA z o.Client.toNat).Site.toNat=a
  have hsa:(bA z o.Client.toNat).Site=(a:Int):=by omega
  have ha:a<z.n:=by omega
  obtain⟨y,hy,gy,_⟩:=h.self.obs h.self ayT ha;have agi:p.ID=(o.Client.toNat:Int)+1:=by omega
  generalize hks:(cr z o.Client.toNat).keys=ks at *
  have hkl:ks.length<=5:=by rw[<-hks];exact Yf.five
  let zd:aD:={ z with pins:=Cv z.pins (o.Client+1) }
  have gd:GI t zd:=h.drop _;have hbz:∀c,cr zd c=cr z c:=λc=>aza;have hsz:∀c,bA zd c=bA z c:=λc=>aze;have hbw:∀hs,cr (wS zd hs) o.Client.toNat=cr z o.Client.toNat:=λhs=>by rw[aex,hbz]
  have hsw:∀hs,bA (wS zd hs) o.Client.toNat=bA z o.Client.toNat:=λhs=>by rw[uy,hsz]
  have hat:∀(i:Nat)(hi:i<ks.length),∃at_,(cr z o.Client.toNat).sites[i]? =some at_:=λi hi=>by
   have:i<(cr z o.Client.toNat).sites.length:=by rw[Yf.len,hks];exact hi
   exact⟨_,avs this⟩
  have hH:∀k,k∈ks->∀d,Ea p k=some d->Held t z p k d:=λk hm d hd=>by
   obtain⟨i,hi,rfl⟩:=avO hm;obtain⟨at_,hat'⟩:=hat i hi;exact(Wu h ht hc hpm agi (by rw[hks];exact avs hi) hat').1 d hd
  have hHe:∀(i:Nat)(hi:i<ks.length) at_,(cr z o.Client.toNat).sites[i]? =some at_->∀hs,mF t hs z->vS (wS zd hs) p ks[i] at_=some (if(Ea p ks[i]).isSome then ua z (uo p ks[i])else Z0,uo p ks[i],true):=λi hi at_ hat' hs hh=>
   (Wu h ht hc hpm agi (by rw[hks];exact avs hi) hat').2 hs hh _
  have hlv:∀l:List ByteArray,(BS z p l).length<=l.length:=λl=>by unfold BS;rw[avN];exact aw5 _ _
  let vs:=BS z p ks
  have hvl:vs.length<=5:=awa (hlv ks) hkl;have hvs:∀v,v∈vs->GV t v:=λv hv=>by
   obtain⟨k,h1,rfl⟩:=avT.1 hv;obtain⟨h2,h3⟩:=awc.1 h1;obtain⟨d,hd⟩:=axu.1 h3;have e:uo p k=d.aq:=by unfold uo;rw[hd]
   rw[e];exact(hH k h2 d hd).gv
  have hsm:=N3 ayT hvs B6.past;have Ym:=ye (s:=bA z o.Client.toNat) B6.past (l:=vs) ayT hvs;rw[hsa]at Ym
  let after:aP:=⟨(a:Int),Lv (bA z o.Client.toNat).bz vs⟩
  have hga:GP t after.bz:=JC B6.past hvs;have hmay:=Em (s:=after) (vV:=sO y.aO) (own:=y.aO.ranges) (by have:=hga.len;omega) (AB gy.sh) (by have:=DB gy.sh;omega) azI;generalize hmb:Jp (sO y.aO) (after.bz.filter λd=>eP y.aO.ranges d.Key)=may at hmay
  let es:List cZ:=ks.map λk=>⟨2,o.Client,k,uo p k,after.bz⟩
  let z':aD:=og { zd with bg:=z.bg++es } after o.Client.toNat
  have hX:∀hs,mF t hs z->jP (wS z hs) o=if(decide (xG ks vs (bA z o.Client.toNat).bz= [])&&may)=true then some (⟨0,vs⟩,wS z' hs)else some (⟨16,[]⟩,wS zd hs):=λhs hh=>by
   obtain⟨y',hy',_,q1,q2,_⟩:=hh.obs h.self ayT ha;have:y'=y:=by rw[hy]at hy';cases hy';rfl
   subst this;unfold jP;rw[pG ho.c0 ho.c4];show((wB z.pins _).bind _)=_;rw[hw1,aE,avi,avj ayW];show((u7 z.pins p.ID).bind _)=_;rw[akR,qC,avi];show aR (zB (wS zd hs) o p) FU (0,[],[])=_;refine(pU (S:=List aa×List ai) ks (λs i=>(i,s.1,s.2)) (λl s=>zA (wS zd hs) o (s.1++BS z p l)<|s.2++l.map (uo p)) (λi s=>s.1.length<=i/\s.2.length<=i) ?_ ?_ (s0:=([],[])) ⟨avq _,avq _⟩<|by omega).trans ?_
   ·rintro again ⟨p1,p2⟩ _
    unfold zB;rw[hbw,hks,avj ayW];simp[BS]
   ·rintro again i ⟨p1,p2⟩ hi ⟨l1,l2⟩ cW
    simp only at l1 l2;obtain⟨at_,hat'⟩:=hat i hi;have hia:idx (cr z o.Client.toNat).sites (i:Int)=some at_:=by
     unfold idx;rw[avk ayT,avp];exact hat'
    unfold zB;rw[hbw,hks,avk ay8];simp only[bp hi,avi];rw[hia,avi,hHe i hi at_ hat' hs hh,avi,avj ayW,cJ ayV ayV,avi,wrap64 ayT ayT];cases hd:Ea p ks[i]with
    | none=>
     have hst:uo p ks[i] =⟨0,0⟩:=by unfold uo;rw[hd]
     have hb2:(!(decide ((uo p ks[i]).N=0)&&decide ((uo p ks[i]).Site=0)))=false:=by rw[hst];rfl
     rw[avj (show ¬(!(decide ((uo p ks[i]).N=0)&&decide ((uo p ks[i]).Site=0)))=true by rw[hb2];simp),cW (p1,p2++ [uo p ks[i]]) ⟨ayU,ayV⟩];unfold BS;rw[awC,hd];generalize ks.drop (i+1)=rest;simp
    | some d=>
     have hst:uo p ks[i] =d.aq:=by unfold uo;rw[hd]
     have hok:=(hH ks[i] (avu hi) d hd).st
     have hb2:(!(decide ((uo p ks[i]).N=0)&&decide ((uo p ks[i]).Site=0)))=true:=by
      rw[hst,avY (KU hok).2];rfl
     rw[avk (show(!(decide ((uo p ks[i]).N=0)&&decide ((uo p ks[i]).Site=0)))=true from hb2),cJ ayV ayV,avi];simp only[Option.isSome_some,avM];rw[cW (p1++ [ua z (uo p ks[i])],p2++ [uo p ks[i]]) ⟨ayV,ayV⟩];unfold BS;rw[awC,hd];generalize ks.drop (i+1)=rest;simp
   ·simp only[avX]
    show zA (wS zd hs) o vs (ks.map<|uo p)=_;unfold zA;rw[hsw,hbw,hks,Ym,avi];show((idx (List.range z.n) (bA z o.Client.toNat).Site).bind _)=_;rw[hsa,fo ayT ayT,avi,OH hsm ayT,avi];cases decide (xG ks vs (bA z o.Client.toNat).bz= [])with
    | false=>rw[avk ayW,Bool.false_and,avj ayW];rfl
    | true=>
     rw[avj ayW,axe];show((je hs a).bind λh=>(gL hs a).bind _)=_;rw[q1,avi,q2,avi];show((nU after _ _).bind _)=_;rw[hmay,avi];cases may with
     | false=>rw[avk ayW,avj ayW];rfl
     | true=>
      rw[avj ayW,avk rfl];show aR (zC o vs (ks.map<|uo p) after ks) FU (0,wS zd hs)=_;refine(pU (S:=List cZ) ks (λs i=>(i,wS { zd with bg:=s } hs)) (λl s=>some (⟨0,vs⟩,og (wS { zd with bg:=s++l.map λk=>(⟨2,o.Client,k,uo p k,after.bz⟩:cZ) } hs) after o.Client.toNat)) (λi s=>s.length<=5*t+i) ?_ ?_ (s0:=z.bg) hh5<|by omega).trans ?_
      ·intro again s _
       unfold zC;rw[avj ayW];simp[gI]
      ·intro again i s hi hl cW
       unfold zC;rw[avk ay8];simp only[bp hi,avi];have hi2:i<(ks.map<|uo p).length:=by simpa using hi
       rw[bp hi2,avi,List.getElem_map,Ke (by show s.length<=_;omega),avi,wrap64 ayT ayT];have:=cW (s++ [⟨2,o.Client,ks[i],uo p ks[i],after.bz⟩]) ayV;refine Eq.trans this ?_;generalize ks.drop (i+1)=rest;simp
      ·show some (_,og (wS { zd with bg:=z.bg++es } hs) after o.Client.toNat)=_
       rw[GM]
  by_cases hgo:(decide (xG ks vs (bA z o.Client.toNat).bz= [])&&may)=true
  ·obtain⟨p1,p2,p3,p4,p5,p6,p7⟩:=ru { zd with bg:=z.bg++es } after o.Client.toNat
   have hb1:∀c,cr { zd with bg:=z.bg++es } c=cr zd c:=λc=>aza;have hs1:∀c,bA { zd with bg:=z.bg++es } c=bA zd c:=λc=>aze;have hgs:∀c,c<4->bA z' c=if c=o.Client.toNat then after else bA z c:=λc hc'=>by
    show bA (og _ _ _) c=_;rw[iF _ _ hc hc',hs1,hsz]
   refine⟨⟨0,vs⟩,z',id,p3,λhs hh=>⟨?_,((hh.drop _).mono<|avD t).xo p2 p3 p5 λc=>(p7 c).trans<|hb1 c⟩,?_,⟨λv hv=>(hvs v hv).mono<|avD t,hvl,λc hc'=>?_,λ_ q=>absurd U q,p2,λ_ _=>?_⟩⟩
   ·show jP (wS z hs) o=_
    rw[hX hs hh,avk hgo];rfl
   ·refine gd.next p1 p2 p3 p4 p5 (λc=>(p7 c).trans<|hb1 c) (λc hc'=>?_) (λc hc' k=>?_) (es:=es) p6 (by simp[es];exact hkl) λe he=>?_
    ·rw[hgs c hc']
     split
     ·exact⟨hga.mono<|avD t,by show -1<=(a:Int);omega,by show(a:Int)<(z.n:Int);omega⟩
     ·exact(h.JD c hc').mono (avD t)
    ·rw[hgs c hc',hsz]
     split
     ·rename_i q;subst q;exact GH B6.past hvs k
     ·exact dG _
    ·obtain⟨k,hk',rfl⟩:=avT.1 he
     refine⟨hga.len,hc0,hc4,?_⟩;rw[hgs _ hc,avk rfl];show zb (uo p k) (dY after.bz k);cases hd:Ea p k with
     | none=>
      have hst:uo p k=⟨0,0⟩:=by unfold uo;rw[hd]
      rw[hst];exact Hh hga k
     | some d=>
      have hst:uo p k=d.aq:=by unfold uo;rw[hd]
      have hh:=hH k hk' d hd;have hm:ua z (uo p k)∈vs:=avT.2 ⟨k,awc.2 ⟨hk',by rw[hd];rfl⟩,U⟩;have:=GJ B6.past hvs hm;rw[hst,hh.vk,hh.vs]at this;rw[hst];exact this
   ·rw[show cr z' c=cr z c from((p7 c).trans<|hb1 c).trans<|hbz c,avj λq=>by have:=q.1;omega]
   ·rw[hks]
    refine⟨awf ((avA _ _).mp hgo).1,es,p6,by simp[es],λi k e hk' he=>?_⟩;have:es[i]? =(ks[i]?).map λk=>(⟨2,o.Client,k,uo p k,after.bz⟩:cZ):=avL
    rw[this,hk']at he;simp only[awq,awP]at he;subst he;exact⟨U,(aco hH<|avH hk').symm⟩
  ·refine⟨⟨16,[]⟩,zd,id,U,λhs hh=>⟨?_,(hh.drop _).mono<|avD t⟩,gd.mono<|avD t,⟨λv hv=>aBY,av5 _,λc hc'=>?_,λ_ _=>⟨U,U⟩,U,λ_ q=>by simp at q⟩⟩
   ·show jP (wS z hs) o=_
    rw[hX hs hh,avj hgo];rfl
   ·rw[hbz,avj λq=>by have:=q.1;omega]
def xm(C:Nat->ByteArray->List aa)(mv:aW)(come:dX)(d:ah):dX:=if Gd mv.Range d.Key then cw come mv.To ((bx come mv.To).getD [] ++C mv.From.toNat d.Key)else come
def QK(C:Nat->ByteArray->List aa)(H:Nat->List ah)(come:dX)(mv:aW):dX:=(H mv.From.toNat).foldl (xm C mv) come
def Ck(C:Nat->ByteArray->List aa)(H:Nat->List ah)(plan:List aW):dX:=plan.foldl (QK C H) []
structure Pc(t:Nat)(z:aD)(c:ByteArray×List aa×List aa):Prop where
 sub:D4 c.2.1 c.2.2
 g:GC t c.1 c.2.1
 zz:GC t c.1 c.2.2
 ins:∀v,v∈c.2.2->Jl z v
def RC(t:Nat)(z:aD)(a b:dX):Prop:=∀i:Int,∃cs:List (ByteArray×List aa×List aa),(bx a i).getD [] =cs.flatMap (·.2.1)/\(bx b i).getD [] =cs.flatMap (·.2.2)/\∀c,c∈cs->Pc t z c
theorem RC.nil(t:Nat)(z:aD):RC t z [] []:=λ_=>⟨[],U,U,λc h=>azm⟩
theorem RC.xm{t:Nat}{z:aD}{a b:dX}(h:RC t z a b){A B:Nat->ByteArray->List aa}{mv:aW}(hp:∀k,Pc t z (k,A mv.From.toNat k,B mv.From.toNat k))(d:ah):RC t z (xm A mv a d) (xm B mv b d):=by
 unfold Ark.xm;split
 ·intro i
  obtain⟨cs,h1,h2,h3⟩:=h i;rw[qX,qX];by_cases c:mv.To=i
  ·subst c
   rw[avk rfl,avk rfl,h1,h2];refine⟨cs++ [(d.Key,A mv.From.toNat d.Key,B mv.From.toNat d.Key)],ayW,ayW,λc hc=>?_⟩;rcases List.mem_append.1 hc with hc | hc
   ·exact h3 c hc
   ·rw[axn.1 hc];exact hp d.Key
  ·rw[avj c,avj c];exact⟨cs,h1,h2,h3⟩
 ·exact h
theorem RC.afW{t:Nat}{z:aD}{A B:Nat->ByteArray->List aa}{mv:aW}(hp:∀k,Pc t z (k,A mv.From.toNat k,B mv.From.toNat k)):∀(l:List ah){a b:dX},RC t z a b->RC t z (l.foldl (Ark.xm A mv) a) (l.foldl (Ark.xm B mv) b)
 | [],_,_,h=>h
 | d::l,_,_,h=>RC.afW hp l (h.xm hp d)
theorem RC.ajW{t:Nat}{z:aD}{A B:Nat->ByteArray->List aa}{H:Nat->List ah}:∀{plan:List aW}{a b:dX},(∀mv,mv∈plan->∀k,Pc t z (k,A mv.From.toNat k,B mv.From.toNat k))->RC t z a b->RC t z (plan.foldl (QK A H) a) (plan.foldl (QK B H) b)
 | [],_,_,_,h=>h
 | mv::plan,_,_,hp,h=>RC.ajW (plan:=plan) (λm hm=>hp m<|by simp[hm]) (RC.afW (hp mv<|by simp) (H mv.From.toNat) h)
theorem Fq{k:ByteArray}{v:aa}:∀{l:List aa}{s:aM},v∈aQ (eC s l) k->v∈aQ s k\/v∈l
 | [],_,h=>.inl h
 | u::l,s,h=>by
  rcases Fq (l:=l) (s:=fX s u) h with h | h
  ·rcases JA h with h | rfl
   ·exact .inl h
   ·exact .inr ayW
  ·exact .inr azw
theorem La(s:aM)(a b:List aa):eC s (a++b)=eC (eC s a) b:=List.foldl_append
theorem JX(s:ai)(a b:List aa):lg s (a++b)=lg (lg s a) b:=List.foldl_append
theorem j3.pieces{t:Nat}{z:aD}(hz:ZI z):∀{cs:List (ByteArray×List aa×List aa)}{a b:aM},(∀c,c∈cs->Pc t z c)->j3 a b->uO t a->uO t b->(∀k v,v∈aQ b k->Jl z v)->
  j3 (Ark.eC a (cs.flatMap (·.2.1))) (Ark.eC b (cs.flatMap (·.2.2)))
 | [],_,_,_,h,_,_,_=>h
 | c::cs,a,b,hc,h,ha,hb,hin=>by
  have p:=hc c ayW;rw[awJ,awJ,La,La];refine j3.pieces hz (cs:=cs) (λd hd=>hc d<|by simp[hd]) (h.eC ha hb p.sub p.g p.zz λv w hv hw e=>?_) (ha.eC λv hv=>(p.g.good v hv).1) (hb.eC λv hv=>(p.zz.good v hv).1) λk v hv=>?_
  ·exact hz.unq v w (hv.elim (hin _ v)<|p.ins v) (hw.elim (hin _ w)<|p.ins w) e
  ·rcases Fq hv with q | q
   ·exact hin k v q
   ·exact p.ins v q
theorem JY{t:Nat}{z:aD}:∀{cs:List (ByteArray×List aa×List aa)}(c0:ai),(∀c,c∈cs->Pc t z c)->lg c0 (cs.flatMap (·.2.1))=lg c0 (cs.flatMap (·.2.2))
 | [],_,_=>rfl
 | c::cs,c0,hc=>by
  have p:=hc c ayW;rw[awJ,awJ,JX,JX,TK p.sub p.zz.sorted];exact JY _ λd hd=>hc d aAQ
theorem oL(s:aC)(own:List au)(l:List aa):lQ s own l= { s with aO:=eC (wh s.aO own) l,wait:=s.wait.filter λv=>eP own v.Key,clock:=lg s.clock l }:=by
 unfold lQ;rw[KJ];rfl
theorem Ca.lQ{t:Nat}{z:aD}(hz:ZI z){x y:aC}(h:Ca x y)(gx:GS t x)(gy:GS t y)(hin:∀k v,v∈aQ y.aO k->Jl z v){cs:List (ByteArray×List aa×List aa)}(hc:∀c,c∈cs->Pc t z c){own:List au}(ho:own.length<=8):
  Ca (Ark.lQ x own (cs.flatMap (·.2.1))) (Ark.lQ y own (cs.flatMap (·.2.2))):=by
 rw[oL,oL];refine⟨h.id,by simp only[h.wait],?_,?_⟩
 ·show lg x.clock _=lg y.clock _
  rw[h.clock,JY _ hc]
 ·refine j3.pieces hz hc (h.sh.move gx.sh gy.sh own) (gx.sh.move ho) (gy.sh.move ho) λk v hv=>?_
  rw[ur gy.sh]at hv;split at hv
  ·exact hin k v hv
  ·cases hv
variable{α:Type}{i:Nat}
theorem WN{F hs:List α}(hl:F.length=hs.length)(hi:i<hs.length){y:α}(hy:F[i]? =some y):(F.take i++hs.drop i).set i y=F.take (i+1)++hs.drop (i+1):=by
 have h1:(F.take i).length=i:=by rw[avC];omega
 have hi2:i<F.length:=by omega
 have e:F[i] =y:=by rw[avs hi2]at hy;cases hy;rfl
 rw[av8 hi,List.set_append_right _ _ ayT,h1,azk,List.set_cons_zero,List.take_succ_eq_append_getElem hi2,e];simp
theorem WM{F hs:List α}(hl:F.length=hs.length)(hi:i<hs.length):(F.take i++hs.drop i)[i]? =hs[i]? :=by
 have h1:(F.take i).length=i:=by rw[avC];omega
 rw[avG ayT,h1,awm];simp
theorem SE{st:Nat->Nat×Nat×Nat}{s:List Nat}{f:Nat->Option Bool}{p:Nat->Bool}(hf:∀x,x∈s->f x=some (p x))(hl:s.length<=140737488355328):zY st s f=some (fidx p s):=by
 unfold zY;refine bw (λv=>0<=v/\v<=(s.length:Int)/\∀j(hj:j<s.length),(j:Int)<v->p s[j] =false) (λv=>(s.length-v).toNat) (λ_=>some<|fidx p s) ?_ FU _ ⟨avK _,ayT,λj _ h=>ayT⟩ ?_
 ·rintro again v ⟨h1,h2,h3⟩ cW
  unfold FB;by_cases c:v<(s.length:Int)
  ·obtain⟨i,rfl⟩:∃i:Nat,v=i:=⟨v.toNat,ayT⟩
   have hi:i<s.length:=by omega
   rw[avk ayY,bp hi];simp only[avi,hf _ (avu hi)];cases hp:p s[i]with
   | true=>simp only[avM];rw[uS hi hp (λj hj h=>h3 j hj<|by omega)]
   | false=>
    simp only[avn,avB];rw[wrap64 ayT ayT];refine cW _ ⟨ayT,ayT,λj hj h=>?_⟩ ayT;rcases Nat.lt_or_ge j i with h4 | h4
    ·exact h3 j hj ayT
    ·rw[show s[j] =s[i]from by congr 1;omega];exact hp
  ·rw[avj ayY]
   rw[uR λj hj=>h3 j hj<|by omega]
 ·have:=bF
  omega
theorem alf{a b:ai}(h:zb a b):a.N<=b.N:=by
 have h2:bM b a=false:=h;by_cases c:a.N<=b.N
 ·exact c
 ·have:bM b a=true:=by unfold bM;simp;omega
  rw[this]at h2;cases h2
theorem YF{γ:Type}[DecidableEq α]{m:List (α×γ)}{k:α}(hn:(m.map (·.1)).Nodup):bx (jR m k) k=none:=by
 rw[uX,IJ hn];intro h;obtain⟨e,he,h2⟩:=avT.1 h;have:=(awc.1 he).2
 simp[h2]at this
variable{mv:aW}{come:dX}
theorem JM{C:Nat->ByteArray->List aa}(h:(come.map (·.1)).Nodup)(d:ah):((xm C mv come d).map (·.1)).Nodup:=by
 unfold xm;split
 ·exact AO h
 ·exact h
def yj(come:dX)(n:Nat):Prop:=∀i,((bx come i).getD []).length<=n
theorem V1{C:Nat->ByteArray->List aa}{m:Nat}(h:yj come n)(d:ah)(hC:(C mv.From.toNat d.Key).length<=m):yj (xm C mv come d) (n+m):=by
 unfold xm;split
 ·intro i
  rw[qX];split
  ·simp only[av7,avz]
   have:=h mv.To;omega
  ·have:=h i;omega
 ·intro i;have:=h i;omega
def Dt(hs:List aC)(i:Nat)(k:ByteArray):List aa:=match hs[i]? with
 | some x=>aQ x.aO k
 | none=>[]
def pQ(hs:List aC)(i:Nat):List ah:=match hs[i]? with
 | some x=>sO x.aO
 | none=>[]
def PR(row:aF)(i:Nat):List au:=(iZ row (i:Int)).getD []
def alN(row:aF)(H:Nat->List ah)(plan:List aW)(hs:List aC):List aC:=
 hs.mapIdx λi x=>lQ x (PR row i) ((bx (Ck (Dt hs) H plan) (i:Int)).getD [])
def Hf(z:aD)(i:Nat):Nat:=match z.sites[i]? with
 | some y=>y.wait.length
 | none=>0
theorem Ik{C:Nat->ByteArray->List aa}{mv:aW}:∀(l:List ah){come:dX},(come.map (·.1)).Nodup->((l.foldl (xm C mv) come).map (·.1)).Nodup
 | [],_,h=>h
 | d::l,_,h=>Ik l (JM h d)
theorem JN{C:Nat->ByteArray->List aa}{mv:aW}{m:Nat}(hC:∀k,(C mv.From.toNat k).length<=m):∀(l:List ah){come:dX}{n:Nat},yj come n->yj (l.foldl (xm C mv) come) (n+l.length*m)
 | [],_,n,h=>azi
 | d::l,come,n,h=>by
  have:=JN hC l (V1 h d<|hC d.Key);rw[awS,show n+(d::l).length*m=n+m+l.length*m by rw[avv,awn];omega];exact this
theorem mF.Ox(hh:mF t hs z)(ht:t<=1000)(i:Nat)(k:ByteArray):(Dt hs i k).length<=6006:=by
 unfold Dt;cases e:hs[i]? with
 | none=>simp
 | some x=>
  have:=((hh.good i x e).1.sh.chain k).len
  simp only;omega
theorem mF.aeH(hh:mF t hs z)(hz:mF t z.sites z):pQ hs=pQ z.sites:=by
 funext i;unfold pQ;by_cases hi:i<z.n
 ·obtain⟨x,hx,_⟩:=hh.at hi
  obtain⟨y,hy,_⟩:=hz.at hi;rw[hx,hy];exact(hh.rel i x y hx hy).sh.vV
 ·rw[aw3 (by rw[hh.len];omega),aw3 (by rw[hz.len];omega)]
theorem RA(hz:mF t z.sites z)(i:Nat):(pQ z.sites i).length<=8:=by
 unfold pQ;cases e:z.sites[i]? with
 | none=>simp
 | some x=>exact DB (hz.good i x e).1.sh
theorem Y6(hh:mF t hs z)(ht:t<=1000)(plan:List aW)(hf:mv.From.toNat<z.n)(a:Int)(kx:dX->Option (aA×aD)){l:List ah}(hl:l.length<=8)(hn:(come.map (·.1)).Nodup){m:Nat}(hm:m<=6000000)(hle:yj come m):
  aR (Ln (wS z hs) plan mv mv.From.toNat l a kx) FU (0,come)=kx (l.foldl (xm (Dt hs) mv) come):=by
 refine(pU (S:=dX) l (λs i=>(i,s)) (λl s=>kx<|l.foldl (xm (Dt hs) mv) s) (λi s=>(s.map (·.1)).Nodup/\yj s (m+i*6006)) ?_ ?_ (s0:=come) ⟨hn,by simpa using hle⟩<|by omega).trans U
 ·intro again s _
  unfold Ln;rw[avj ayW];rfl
 ·intro again i s hi ⟨h1,h2⟩ cW
  unfold Ln;rw[avk ay8];simp only[bp hi,avi,IG];rw[wrap64 ayT ayT];have Wy:=cW (xm (Dt hs) mv s l[i]) ⟨JM h1 _,by
   have:=V1 h2 l[i] (hh.Ox ht mv.From.toNat l[i].Key);rw[show m+(i+1)*6006=m+i*6006+6006 by omega];exact this⟩
  show _=kx ((l.drop<|i+1).foldl (xm (Dt hs) mv)<|xm (Dt hs) mv s l[i]);rw[<-Wy];unfold xm;cases c:Gd mv.Range l[i].Key with
  | false=>rw[avj ayW,avj ayW]
  | true=>
   rw[avk rfl,avk rfl];unfold Lq nL;rw[YF h1,avk (show(none:Option (List aa)).isNone=true from rfl)];obtain⟨x,hx,gx,_⟩:=hh.at hf;show((mo hs mv.From.toNat l[i].Key).bind _)=_;unfold mo Dt;rw[hx,avi,EM gx ayT,avi];have e1:=h2 mv.To;have e2:=(gx.sh.chain l[i].Key).len
   have e3:i*6006<=8*6006:=avr _ ayT;rw[cJ ayT ayT,avi,wrap64 ayT ayT]
theorem Y5(hz:mF t z.sites z)(hh:mF t hs z)(ht:t<=1000)(o:aI){plan:List aW}(hpl:plan.length<=105)(hp:∀mv,mv∈plan->0<=mv.From/\mv.From<z.n):
  aR (H6 (wS z hs) o plan) FU (0,[])=Lp (wS z hs) o (Ck (Dt hs) (pQ z.sites) plan):=by
 refine(pU (S:=dX) plan (λs i=>(i,s)) (λl s=>Lp (wS z hs) o<|l.foldl (QK (Dt hs)<|pQ z.sites) s) (λi s=>(s.map (·.1)).Nodup/\yj s (i*48048)) ?_ ?_ (s0:=[]) ⟨List.Pairwise.nil,λi=>by simp[bx]⟩<|by omega).trans U
 ·intro again s _
  unfold H6;rw[avj ayW];rfl
 ·intro again i s hi ⟨h1,h2⟩ cW
  obtain⟨f0,f1⟩:=hp plan[i] (avu hi);have hlt:plan[i].From.toNat<z.n:=by omega
  obtain⟨x,hx,gx,_⟩:=hh.at hlt;have e2:sO x.aO=pQ z.sites plan[i].From.toNat:=by
   rw[<-hh.aeH hz];unfold pQ;rw[hx]
  have hl8:=RA hz plan[i].From.toNat
  unfold H6;rw[avk ay8];simp only[bp hi,avi];show((idx (List.range z.n) plan[i].From).bind _)=_;rw[fo f0 f1,avi];show((je hs plan[i].From.toNat).bind _)=_;unfold je;rw[hx,avi,Bf gx ayT,avi,e2];have e3:i*48048<=105*48048:=avr _ ayT;rw[Y6 hh ht plan hlt (i:Int) _ hl8 h1 (m:=i*48048) ayT h2,wrap64 ayT ayT];refine cW (QK (Dt hs) (pQ z.sites) s plan[i]) ⟨Ik _ h1,λj=>?_⟩;have:=JN (C:=Dt hs) (mv:=plan[i]) (m:=6006) (hh.Ox ht _) (pQ z.sites plan[i].From.toNat) h2 j;have e4:(pQ z.sites plan[i].From.toNat).length*6006<=8*6006:=avr _ hl8
  show((bx ((pQ z.sites plan[i].From.toNat).foldl (xm (Dt hs) plan[i]) s) j).getD []).length<=_
  omega
theorem V2{t:Nat}{z:aD}{hs:List aC}(hz:mF t z.sites z)(hh:mF t hs z)(ht:t<=1000):∀{plan:List aW}{come:dX}{n:Nat},yj come n->yj (plan.foldl (QK (Dt hs) (pQ z.sites)) come) (n+plan.length*48048)
 | [],_,_,h=>azi
 | mv::plan,come,n,h=>by
  have h1:=JN (C:=Dt hs) (mv:=mv) (m:=6006) (hh.Ox ht _) (pQ z.sites mv.From.toNat) h;have h2:yj (QK (Dt hs) (pQ z.sites) come mv) (n+48048):=λj=>by
   have:=h1 j;have e4:(pQ z.sites mv.From.toNat).length*6006<=8*6006:=avr _ (RA hz mv.From.toNat)
   show((bx ((pQ z.sites mv.From.toNat).foldl (xm (Dt hs) mv) come) j).getD []).length<=_
   omega
  have:=V2 hz hh ht (plan:=plan) h2;rw[awS,show n+(mv::plan).length*48048=n+48048+plan.length*48048 by rw[avv];omega];exact this
theorem alu(hz:mF t z.sites z)(hh:mF t hs z)(hi:i<z.n)(k:ByteArray):Pc t z (k,Dt hs i k,Dt z.sites i k):=by
 obtain⟨x,hx,gx,_⟩:=hh.at hi;obtain⟨y,hy,gy,_⟩:=hz.at hi;have e1:Dt hs i k=aQ x.aO k:=by unfold Dt;rw[hx]
 have e2:Dt z.sites i k=aQ y.aO k:=by unfold Dt;rw[hy]
 rw[e1,e2];exact⟨(hh.rel i x y hx hy).sh.ch k,gx.sh.chain k,gy.sh.chain k,λv hv=>.inl ⟨i,y,hy,.inl ⟨k,hv⟩⟩⟩
theorem Nd{c:aF}(h:eN n c):nX c=some c:=by
 have h1:=h.rl;have h2:=h.n2;have h3:=h.ol;have h4:=h.len;unfold nX;rw[ig ayT ayT,avi,uj ayT ayT,avi,uj ayT ayT];rfl
theorem Y9(h:GI t z)(ht:t<=1000)(ho:B2 z.n o)(hk:o.Kind=12):Step t z o λg=>ni g o:=by
 have hrow:=ho.row hk;have hn:=h.row.n2;have hw:∀hs,mF t hs z->oX (λ_=>(0,0,0)) (List.range z.n) (FJ<|wS z hs)=some ((List.range z.n).any λi=>decide (0<Hf z i)):=λhs hh=>by
  unfold oX;rw[SE (p:=λi=>decide (0<Hf z i)) (λi hi=>by
   have hi':i<z.n:=awg.1 hi;obtain⟨y,hy,_,_,_,_,q4,_⟩:=hh.obs h.self ayT hi';unfold FJ;show((jf hs i).bind _)=_;rw[q4,avi];congr 1;have:Hf z i=y.wait.length:=by unfold Hf;rw[hy]
   rw[this];exact ayo.2 ayT) aAS,avi,zx]
 have hpre:∀hs,mF t hs z->ni (wS z hs) o=if((List.range z.n).any λi=>decide (0<Hf z i))|| !Nz z.bh||decide (0<z.pins.length)then some (⟨17,[]⟩,wS z hs)else(nW z.row o.Row).bind λplan=>aR (H6 (wS z hs) o plan) FU (0,[]):=λhs hh=>by
  unfold ni;show((fW z.row o.Row).bind _)=_;rw[Er h.row hrow,avi,avj ayW];show((oX _ (List.range z.n) _).bind _)=_;rw[hw hs hh,avi];cases((List.range z.n).any λi=>decide (0<Hf z i))with
  | true=>rw[avk U,Bool.true_or,Bool.true_or,avk U];rfl
  | false=>
   rw[avj ayW,aw6];show((ny z.bh).bind _)=_;rw[RY h.bh,avi];cases Nz z.bh with
   | false=>rw[avk ayW,awG,Bool.true_or,avk U];rfl
   | true=>
    rw[avj ayW,avJ,aw6];by_cases c:0<z.pins.length
    ·rw[avP c,avk U,avk (by show decide (0<(z.pins.length:Int))=true;simpa using c)];rfl
    ·have c2:¬decide (0<(((wS z hs).pins).length:Int))=true:=by show ¬decide (0<(z.pins.length:Int))=true;simpa using c
     rw[avY c,avj c2,avj (show ¬false=true by simp)];rfl
 cases BZ:((List.range z.n).any λi=>decide (0<Hf z i))|| !Nz z.bh||decide (0<z.pins.length)with
 | true=>
  refine Step.told h 17 (λq=>ayT) λhs hh=>?_;show ni (wS z hs) o=_;rw[hpre hs hh,BZ,avk rfl]
 | false=>
  obtain⟨hb1,hb2⟩:=axz.1 BZ;obtain⟨hb0,hb1⟩:=axz.1 hb1;have agb:∀e,e∈z.bh->e.2.snd.open_= []:=λe he=>by
   have:Nz z.bh=true:=by simpa using hb1
   have:=avI.1 this e he;simpa using this
  have akS:z.pins= []:=by
   have:¬0<z.pins.length:=by simpa using hb2
   exact axd.1 ayT
  have ak2:∀(i:Nat)(y:aC),z.sites[i]? =some y->y.wait= []:=λi y hy=>by
   have hlt:i<z.n:=by rw[<-h.aiJ];exact nY hy
   have h1:=aw8.1 hb0 i (awg.2 hlt);have h2:Hf z i=y.wait.length:=by unfold Hf;rw[hy]
   rw[h2]at h1;have h3:¬0<y.wait.length:=by simpa using h1
   exact axd.1 ayT
  obtain⟨plan,abZ,hpl,hmv⟩:=Kb h.row hrow
  let F:=alN o.Row (pQ z.sites) plan
  have hFl:∀hs,(F hs).length=hs.length:=λhs=>List.length_mapIdx
  have hFi:∀(hs:List aC)(i:Nat)(x:aC),hs[i]? =some x->(F hs)[i]? =some (lQ x (PR o.Row i)<|(bx (Ck (Dt hs) (pQ z.sites) plan) (i:Int)).getD []):=λhs i x hx=>by
   show(hs.mapIdx _)[i]? =_;rw[List.getElem?_mapIdx,hx];rfl
  have hown:∀i,i<z.n->iZ o.Row (i:Int)=some (PR o.Row i)/\(PR o.Row i).length<=5:=λi hi=>by
   obtain⟨l,h1,h2⟩:=z7 hrow (show i<6 by omega);have:PR o.Row i=l:=by unfold PR;rw[h1];rfl
   rw[this];exact⟨h1,h2⟩
  have hpc:∀hs,mF t hs z->RC t z (Ck (Dt hs) (pQ z.sites) plan) (Ck (Dt z.sites) (pQ z.sites) plan):=λhs hh=>
   RC.ajW (λmv hm k=>alu h.self hh (by have:=hmv mv hm;omega) k) (RC.nil t z)
  have hlen:∀hs,mF t hs z->∀i,((bx (Ck (Dt hs) (pQ z.sites) plan) i).getD []).length<=1000000000:=λhs hh i=>by
   have:=V2 h.self hh ht (plan:=plan) (come:=[]) (n:=0) (λi=>by simp[bx]) i;have e:plan.length*48048<=105*48048:=avr _ hpl;show((bx (plan.foldl (QK (Dt hs)<|pQ z.sites) []) i).getD []).length<=_
   omega
  have hcg:∀hs,mF t hs z->∀i v,v∈(bx (Ck (Dt hs) (pQ z.sites) plan) i).getD []->GV t v:=λhs hh i v hv=>by
   obtain⟨cs,h1,_,h3⟩:=hpc hs hh i;rw[h1]at hv;obtain⟨c,hc,hv⟩:=axg.1 hv;exact((h3 c hc).g.good v hv).1
  let z':aD:={ z with sites:=F z.sites,row:=o.Row }
  have hb:∀c,cr z' c=cr z c:=λc=>aza;have B6:∀c,bA z' c=bA z c:=λc=>aze;have hX:∀hs,mF t hs z->ni (wS z hs) o=some (⟨0,[]⟩,wS z' (F hs)):=λhs hh=>by
   rw[hpre hs hh,BZ,avj ayW,abZ,avi,Y5 h.self hh ht o hpl λmv hm=>by have:=hmv mv hm;exact⟨this.1.1,this.1.2⟩];unfold Lp;refine(pU (S:=List aC) (List.range z.n) (λs i=>(i,s)) (λ_ _=>some ((⟨0,[]⟩:aA),wS z' (F hs))) (λi s=>s=(F hs).take i++hs.drop i) ?_ ?_ (s0:=hs) ayW aAS)
   ·intro again s hs'
    unfold P4;rw[avj azj,Nd hrow,avi];have:s=F hs:=by
     rw[hs',axS,List.drop_eq_nil_of_le (by rw[hh.len];omega),awY];exact axr (by rw[hFl,hh.len];omega)
    rw[this];rfl
   ·intro again i s hi hs' cW
    have hi':i<z.n:=by simpa using hi
    have hih:i<hs.length:=by rw[hh.len];exact hi'
    obtain⟨x,hx,gx,_⟩:=hh.at hi';obtain⟨o1,o2⟩:=hown i hi';unfold P4;rw[avk azn];show((idx (List.range z.n) (i:Int)).bind _)=_;rw[fo ayT ayT,avi];simp only[avp];rw[o1,avi];have ahT:Bh s i (PR o.Row i) ((bx (Ck (Dt hs) (pQ z.sites) plan) (i:Int)).getD [])=some ((),(F hs).take (i+1)++hs.drop (i+1)):=by
     unfold Bh;rw[hs',WM (hFl hs) hih,hx,avi,Qe gx ayT ayT (hcg hs hh _) (hlen hs hh _),avi,WN (hFl hs) hih (hFi hs i x hx)]
    rw[ahT,avi,wrap64 ayT ayT];exact cW _ U
  have hin:∀k(i:Nat) y,z.sites[i]? =some y->∀v,v∈aQ y.aO k->Jl z v:=λk i y hy v hv=>.inl ⟨i,y,hy,.inl ⟨k,hv⟩⟩
  have aE:∀(hs:List aC)(i:Nat)(x':aC),(F hs)[i]? =some x'->∃x,hs[i]? =some x/\x'=lQ x (PR o.Row i) ((bx (Ck (Dt hs) (pQ z.sites) plan) (i:Int)).getD []):=λhs i x' hx'=>by
   have hlt:i<hs.length:=by rw[<-hFl hs];exact nY hx'
   have e:=hFi hs i _ (avs hlt);rw[e]at hx';cases hx';exact⟨_,avs hlt,U⟩
  have Gc:∀hs,mF t hs z->mF (t+1) (F hs) z':=λhs hh=>by
   refine⟨by rw[hFl];exact hh.len,λi x' hx'=>?_,λi x' y' hx' hy'=>?_,λc hc p hp=>by
    have dg:p∈z.pins:=hp;rw[akS]at dg;cases dg⟩
   ·obtain⟨x,hx,rfl⟩:=aE hs i x' hx'
    have hlt:i<z.n:=by rw[<-hh.len];exact nY hx
    obtain⟨g1,g2⟩:=hh.good i x hx;refine⟨(g1.move (by have:=(hown i hlt).2;omega)<|hcg hs hh _).mono<|avD t,?_⟩;rw[oL];exact g2
   ·obtain⟨x,hx,rfl⟩:=aE hs i x' hx'
    obtain⟨y,hy,rfl⟩:=aE z.sites i y' hy';have hlt:i<z.n:=by rw[<-hh.len];exact nY hx
    obtain⟨cs,c1,c2,c3⟩:=hpc hs hh (i:Int);rw[c1,c2];exact(hh.rel i x y hx hy).lQ h.zi (hh.good i x hx).1 (h.self.good i y hy).1 (λk v hv=>hin k i y hy v hv) c3 (by have:=(hown i hlt).2;omega)
  refine⟨⟨0,[]⟩,z',F,U,λhs hh=>⟨hX hs hh,Gc hs hh⟩,?_,Post.plain (λv hv=>aBY) (av5 _) (λc _=>by rw[hb]) ayT<|by omega⟩;have abT:∀s st,eH o.Row.aK z.bh s st=0:=λs st=>by
   unfold eH;refine GZ λq hq=>?_;obtain⟨e,he,rfl⟩:=avT.1 hq;unfold opn;rw[agb e he];rfl
  refine⟨hrow,h.bh.mono ayT λ_=>PD.mono<|avD t,h.KQ,λc hc=>az2,λc hc=>azK,h.ps,λp hp=>(h.Vy p hp).mono<|avD t,azX,λe he=>(h.HJ e he).xo λc _ k=>by rw[B6];exact dG _,?_,Gc _ h.self⟩;refine h.zi.ack (λv hv=>?_) (λs x hx=>?_) (λs x' st hx'=>?_) λe he hop=>absurd (agb e he) hop
  ·rcases hv with⟨i,x',hx',hat⟩ | hv
   ·obtain⟨y,hy,rfl⟩:=aE z.sites i x' hx'
    rw[oL]at hat;rcases hat with⟨k,hat⟩ | hat
    ·rcases Fq hat with q | q
     ·rw[ur (h.self.good i y hy).1.sh]at q
      split at q
      ·exact hin k i y hy v q
      ·cases q
     ·obtain⟨cs,_,c2,c3⟩:=hpc z.sites h.self (i:Int)
      rw[c2]at q;obtain⟨c,hc,q⟩:=axg.1 q;exact(c3 c hc).ins v q
    ·exact .inl ⟨i,y,hy,.inr (awc.1 hat).1⟩
   ·exact .inr hv
  ·refine⟨_,hFi z.sites s x hx,?_⟩
   rw[oL];exact alf (uQ _ x.clock).1
  ·show eH o.Row.aK z.bh s st+ez x' st<=1
   obtain⟨y,hy,rfl⟩:=aE z.sites s x' hx';rw[abT,oL];unfold ez;simp only[ak2 s y hy,List.filter_nil,List.countP_nil];have:=ag3 (xu { y with aO:=eC (wh y.aO<|PR o.Row s)<|(bx (Ck (Dt z.sites) (pQ z.sites) plan) (s:Int)).getD [],wait:=[],clock:=lg y.clock ((bx (Ck (Dt z.sites) (pQ z.sites) plan) (s:Int)).getD []) } st);omega
theorem Step.self{t:Nat}{z:aD}{o:aI}{X:aD->Option (aA×aD)}(h:Step t z o X)(hz:GI t z):∃a z',X z=some (a,z')/\GI (t+1) z'/\Post t z o a z'/\∀hs,mF t hs z->∃hs',X (wS z hs)=some (a,wS z' hs')/\mF (t+1) hs' z':=by
 obtain⟨a,z',F,h0,h1,h2,h3⟩:=h;refine⟨a,z',?_,h2,h3,λhs hh=>⟨_,h1 hs hh⟩⟩;have:=(h1 z.sites hz.self).1
 rw[afQ,<-h0,afQ]at this;exact this
def Hu(z:aD)(i:Nat):ai:=match z.sites[i]? with
 | some y=>y.clock
 | none=>⟨0,0⟩
def KF(z:aD)(l:List Nat)(c:ai):ai:=l.foldl (λc i=>if bM (Hu z i) c then Hu z i else c) c
theorem XZ{l:List aH}{p:aH}{d:ah}(hp:p∈l)(hd:d∈p.nR):d∈eD l:=axg.2 ⟨p,hp,hd⟩
theorem Nr:∀{l:List aH},(∀p,p∈l->p.nR.length<=5)->(eD l).length<=5*l.length
 | [],_=>avq _
 | p::l,h=>by
  have h1:=Nr (l:=l) λq hq=>h q aAc;have h2:=h p ayW;unfold eD at h1 ⊢;rw[awJ,avz,avv];omega
def pH(st:ai)(ps:List ah)(hs:List aC):List aC:=hs.map λx=>{ x with aO:=m0 x.aO st ps }
theorem kept{st:ai}{pins:List ai}{v:aa}(h:v∈l)(hp:v.aq∈pins):v∈jo l st pins:=awc.2 ⟨h,by unfold Fg;rw[avP hp];rfl⟩
theorem Vz{k:ByteArray}{ps:List ah}{d:ah}(h:d∈ps)(hk:d.Key=k):d.aq∈jd k ps:=avT.2 ⟨d,awc.2 ⟨h,avP hk⟩,U⟩
theorem mF.clean{t:Nat}{hs:List aC}{z:aD}(h:mF t hs z)(st:ai){ps:List ah}(hps:∀p,p∈z.pins->∀d,d∈p.nR->d∈ps):mF t (pH st ps hs) z:=by
 have aE:∀(i:Nat)(x':aC),(pH st ps hs)[i]? =some x'->∃x,hs[i]? =some x/\x'= { x with aO:=m0 x.aO st ps }:=λi x' hx=>by
  unfold pH at hx;rw[avL]at hx;cases e:hs[i]? with
  | none=>rw[e]at hx;cases hx
  | some x=>rw[e]at hx;cases hx;exact⟨x,U,U⟩
 refine⟨by unfold pH;rw[avN];exact h.len,λi x' hx0=>?_,λi x' y hx0 hy=>?_,λc hc p hp hid i k d hk hd=>?_⟩
 ·obtain⟨x,hx,rfl⟩:=aE i x' hx0
  exact⟨(h.good i x hx).1.clean st ps,(h.good i x hx).2⟩
 ·obtain⟨x,hx,rfl⟩:=aE i x' hx0
  have hr:=h.rel i x y hx hy;exact⟨hr.id,hr.wait,hr.clock,hr.sh.clean st ps⟩
 ·obtain⟨a,x,v,q1,q2,q3,q4⟩:=h.ph c hc p hp hid i k d hk hd
  have hd1:d∈p.nR:=ayA hd;have hd2:d.Key=k:=awf (by
   have:=List.find?_some hd;exact this)
  refine⟨a,{ x with aO:=m0 x.aO st ps },v,q1,by unfold pH;rw[avL,q2];rfl,?_,q4⟩;show v∈aQ (m0 x.aO st ps) k;rw[Ek];exact kept q3 (by rw[q4];exact Vz (hps p hp d hd1) hd2)
theorem aaw(h:GI t z)(ht:t<=1000)(o:aI)(hh:mF t hs z):mJ (wS z hs) o=some (⟨0,[]⟩,wS z (pH (KF z (List.range z.n) (Hu z 0)) (eD z.pins) hs)):=by
 have hn:=h.row.n2;have hpl:=h.PU;have hfl:=Nr (l:=z.pins) λp hp=>(h.Vy p hp).len
 have abF:∀i,i<z.n->gF hs i=some (Hu z i):=λi hi=>by
  obtain⟨y,hy,_,_,_,_,_,q5⟩:=hh.obs h.self ayT hi;have:Hu z i=y.clock:=by unfold Hu;rw[hy]
  rw[this];exact q5
 have hb:∀st,aR (oG (wS z hs) st) FU (0,hs)=some (⟨0,[]⟩,wS z (pH st (eD z.pins) hs)):=λst=>by
  have hFl:(pH st (eD z.pins) hs).length=hs.length:=avN _
  refine(pU (S:=List aC) (List.range z.n) (λs i=>(i,s)) (λ_ _=>some ((⟨0,[]⟩:aA),wS z (pH st (eD z.pins) hs))) (λi s=>s=(pH st (eD z.pins) hs).take i++hs.drop i) ?_ ?_ (s0:=hs) ayW aAS)
  ·intro again s hs'
   unfold oG;rw[avj azj];have:s=pH st (eD z.pins) hs:=by
    rw[hs',axS,List.drop_eq_nil_of_le (by rw[hh.len];omega),awY];exact axr (by rw[hFl,hh.len];omega)
   rw[this];rfl
  ·intro again i s hi hs' cW
   have hi':i<z.n:=by simpa using hi
   have hih:i<hs.length:=by rw[hh.len];exact hi'
   obtain⟨x,hx,gx,_⟩:=hh.at hi';unfold oG;rw[avk azn];show((idx (List.range z.n) (i:Int)).bind _)=_;rw[fo ayT ayT,avi];simp only[avp];show((wz z.pins).bind _)=_;unfold wz;rw[avk ayT,avi];have ahT:xP s i st (eD z.pins)=some ((),(pH st (eD z.pins) hs).take (i+1)++hs.drop (i+1)):=by
    unfold xP;rw[hs',WM hFl hih,hx,avi,MJ gx ayT st ayT,avi,WN hFl hih (y:={ x with aO:=m0 x.aO st (eD z.pins) }) (by unfold pH;rw[avL,hx];rfl)]
   rw[ahT,avi,wrap64 ayT ayT];exact cW _ U
 unfold mJ;show((idx (List.range z.n) ((0:Nat):Int)).bind _)=_;rw[fo ayT ayT,avi];show((gF hs 0).bind _)=_;rw[abF 0 ayT,avi];refine(pU (S:=ai) (List.range z.n) (λs i=>(i,s)) (λl s=>aR (oG (wS z hs)<|KF z l s) FU (0,hs)) (λ_ _=>True) ?_ ?_ (s0:=Hu z 0) ayS aAS).trans (hb _)
 ·intro again s _
  unfold xD;rw[avj azj];rfl
 ·intro again i s hi _ cW
  have hi':i<z.n:=by simpa using hi
  unfold xD;rw[avk azn];show((idx (List.range z.n) (i:Int)).bind _)=_;rw[fo ayT ayT,avi];simp only[avp];show((gF hs i).bind λc=>(fZ c s).bind λl=>if l then(gF hs i).bind _ else _)=_;rw[abF i hi',avi,ji,avi,avi,wrap64 ayT ayT];have Wy:=cW (if bM (Hu z i) s then Hu z i else s) ayS;have e:KF z ((List.range z.n)[i] ::(List.range z.n).drop (i+1)) s=KF z ((List.range z.n).drop<|i+1) (if bM (Hu z i) s then Hu z i else s):=by
   rw[List.getElem_range];rfl
  rw[e,<-Wy];cases bM (Hu z i) s with
  | true=>rw[avk U,avk U]
  | false=>rw[avj ayW,avj ayW]
theorem j5(x:Option α):(x.bind λr=>some r)=x:=by cases x<;>rfl
theorem Step.congr{X Y:aD->Option (aA×aD)}(h:Step t z o X)(e:∀hs,Y (wS z hs)=X (wS z hs)):Step t z o Y:=by
 obtain⟨a,z',F,h0,h1,h2,h3⟩:=h;exact⟨a,z',F,h0,λhs hh=>⟨by rw[e];exact(h1 hs hh).1,(h1 hs hh).2⟩,h2,h3⟩
theorem Wd(h1:1<=o.Kind)(h7:o.Kind<=7)(hc0:0<=o.Client)(hc4:o.Client<4)(hs:List aC):gR (wS z hs) o=if !(decide (o.Kind=5))&&decide ((bA z o.Client.toNat).Site= -1)then some (⟨13,[]⟩,wS z hs)else fR (wS z hs) o:=by
 unfold gR;rw[avP h1,avP h7,avk (show(true&&true)=true from rfl),avY (p:=o.Client<0) ayT,avY (p:=4<=o.Client) ayT,avj ayW,uy];rfl
theorem aaK{g:aD}(h7:7<o.Kind):gR g o=fR g o:=by
 unfold gR;rw[avY (p:=o.Kind<=7) ayT,Bool.and_false,avj ayW]
theorem aeg(h:GI t z)(ht:t<=1000)(ho:B2 z.n o)(hk:o.Kind≠11):Step t z o λg=>gR g o:=by
 have h1:=ho.k1;have h2:=ho.k2;have hat:∀(X:aD->Option (aA×aD)),1<=o.Kind->o.Kind<=7->(∀g,fR g o=X g)->(o.Kind=5\/(bA z o.Client.toNat).Site≠-1->Step t z o X)->Step t z o λg=>gR g o:=λX q1 q7 e hX=>by
  by_cases c:(!(decide (o.Kind=5))&&decide ((bA z o.Client.toNat).Site= -1))=true
  ·refine Step.told h 13 (λ_=>ayT) λhs _=>?_
   show gR (wS z hs) o=_;rw[Wd q1 q7 ho.c0 ho.c4,avk c]
  ·refine(hX ?_).congr λhs=>?_
   ·by_cases c5:o.Kind=5
    ·exact .inl c5
    ·refine .inr λe=>c ?_
     rw[avY c5,avP e];rfl
   ·show gR (wS z hs) o=_
    rw[Wd q1 q7 ho.c0 ho.c4,avj c,e]
 have aeO:∀(X:aD->Option (aA×aD)),7<o.Kind->(∀g,fR g o=X g)->Step t z o X->Step t z o λg=>gR g o:=λX q7 e hX=>hX.congr λhs=>by
  show gR (wS z hs) o=_;rw[aaK q7,e]
 have hcases:o.Kind=1\/o.Kind=2\/o.Kind=3\/o.Kind=4\/o.Kind=5\/o.Kind=6\/o.Kind=7\/o.Kind=8\/o.Kind=9\/o.Kind=10\/o.Kind=12:=by omega
 rcases hcases with e | e | e | e | e | e | e | e | e | e | e
 ·exact hat (λg=>gp g o) ayT ayT (λg=>azb) λq=>Sn h ht ho (.inl e) (q.resolve_left<|by omega)
 ·exact hat (λg=>gp g o) ayT ayT (λg=>azb) λq=>Sn h ht ho (.inr e) (q.resolve_left<|by omega)
 ·exact hat (λg=>kN g o) ayT ayT (λg=>azb) λq=>abD h ht ho e (q.resolve_left<|by omega)
 ·exact hat (λg=>jw g o) ayT ayT (λg=>azb) λ_=>Vg h ho e
 ·exact hat (λg=>fk g o) ayT ayT (λg=>azb) λ_=>TU h ht ho e
 ·exact hat (λg=>fh g o) ayT ayT (λg=>azb) λq=>Tu h ht ho e (q.resolve_left<|by omega)
 ·exact hat (λg=>jP g o) ayT ayT (λg=>azb) λq=>aaP h ht ho e (q.resolve_left<|by omega)
 ·exact aeO (λg=>pO g o) ayT (λg=>azb) (YY h ht ho e)
 ·exact aeO (λg=>uT g o) ayT (λg=>azb) (Tn h ht e)
 ·exact aeO (λg=>iE g o) ayT (λg=>azb) (VH h ht ho e)
 ·exact aeO (λg=>ni g o) ayT (λg=>azb) (Y9 h ht ho e)
theorem aaJ(hk:o.Kind=11)(g:aD):gR g o=mJ g o:=by
 rw[aaK ayT];unfold fR;rw[hk];show((mJ g o).bind λr=>some r)=_;rw[j5]
theorem awake:Aa=some true:=by decide +kernel
def OY:eM:=⟨⟨⟨0⟩,[]⟩,⟨⟨0⟩⟩,[]⟩
structure NI(n:Nat)(a b:Int)(bh:bU):Prop where
 nd:(bh.map (·.1)).Nodup
 new:∀e,e∈bh->e.2=OY/\(0<=e.1.1/\e.1.1<n)/\0<=e.1.2/\e.1.2<n
 bef:∀e,e∈bh->e.1.1<a\/e.1.1=a/\e.1.2<b
variable{bh:bU}
theorem NI.mono{a b c d:Int}(h:NI n a b bh)(hb:∀x y:Int,0<=y->y<n->(x<a\/x=a/\y<b)->x<c\/x=c/\y<d):NI n c d bh:=
 ⟨h.nd,h.new,λe he=>hb _ _ (h.new e he).2.2.1 (h.new e he).2.2.2<|h.bef e he⟩
theorem NI.add{a b:Int}(h:NI n a b bh)(ha:0<=a/\a<n)(hb:0<=b/\b<n):NI n a (b+1) (cw bh (a,b) OY):=
 ⟨AO h.nd,λe he=>by
  rcases sR he with rfl | he
  ·exact⟨U,ha,hb⟩
  ·exact h.new e he,λe he=>by
  rcases sR he with rfl | he
  ·exact .inr ⟨U,by show b<b+1;omega⟩
  ·have:=h.bef e he;omega⟩
theorem RZ(h2:2<=n)(h5:n<=5):∃bh,DG n=some bh/\∃a,NI n a 0 bh:=by
 unfold DG;rw[avj ayV,avj ayV];refine eE (λ(v:Int×bU)=>0<=v.1/\v.1<=n/\NI n v.1 0 v.2) (λv=>((n:Int)-v.1).toNat) (λbh=>∃a,NI n a 0 bh) ?_ FU (0,[]) ⟨avK _,ayW,⟨List.Pairwise.nil,λe h=>azm,λe h=>azm⟩⟩ ay0;rintro again ⟨a,bh⟩ ⟨h1,h3,h4⟩ cW;simp only at h1 h3 h4;unfold KM;simp only;by_cases c:a<n
 ·rw[avk ayY]
  refine eE (λ(v:Int×bU)=>0<=v.1/\v.1<=n/\NI n a v.1 v.2) (λv=>((n:Int)-v.1).toNat) (λbh=>∃a,NI n a 0 bh) ?_ FU (0,bh) ⟨avK _,ayW,h4⟩ ay0;rintro Hr ⟨b,Gp⟩ ⟨g1,g3,g4⟩ E9;simp only at g1 g3 g4;unfold KN;simp only;by_cases c2:b<n
  ·rw[avk ay5,wrap64 ayT ayT]
   by_cases c3:a=b
   ·rw[avj (by simp[c3])]
    exact E9 _ ⟨ayU,ayU,g4.mono λx y _ _ _=>ayU⟩ ayU
   ·rw[avk (by simp[c3])]
    have hnone:bx Gp (a,b)=none:=uX.2 λhm=>by
     obtain⟨e,he,e1⟩:=avT.1 hm;have:=g4.bef e he;rw[e1]at this;simp only at this;omega
    unfold nL;rw[hnone,avk (show(none:Option eM).isNone=true from rfl)];show ∃r,Hr (b+1,cw Gp (a,b) OY)=some r/\_;exact E9 _ ⟨ayU,ayU,g4.add ⟨h1,c⟩ ⟨g1,c2⟩⟩ ayU
  ·rw[avj ay5,wrap64 ayT ayT]
   exact cW _ ⟨ayU,ayU,g4.mono λx y _ _ _=>ayU⟩ ayU
 ·rw[avj ayY]
  exact⟨bh,U,a,h4⟩
def OX(own:List au)(i:Nat):aC:=⟨⟨own,[]⟩,i,[],⟨0,0⟩⟩
structure SI(l:List aC):Prop where
 at_:∀(i:Nat)(x:aC),l[i]? =some x->∃own,own.length<=5/\x=OX own i
structure SeI(n:Nat)(z:aD)(row:aF)(bh:bU)(l:List aC):Prop where
 row:z.row=row
 nn:z.n=n
 bh:z.bh=bh
 sites:z.sites=l
 JD:∀c,c<4->(bA z c).bz= []/\0<=(bA z c).Site/\(bA z c).Site<n
 M8:∀c,c<4->cr z c=V4
 pins:z.pins= []
 HJ:z.bg= []
theorem GI.start{row:aF}{l:List aC}(hr:eN n row)(hn:∃a,NI n a 0 bh)(hl:l.length=n)(hs:SI l)(h:SeI n z row bh l):GI 0 z:=by
 obtain⟨a,hn⟩:=hn;have h2:=hr.n2;have hfr:∀e,e∈z.bh->e.2=OY:=λe he=>(hn.new e (by rw[<-h.bh];exact he)).1
 have Nx:∀(i:Nat)(x:aC),z.sites[i]? =some x->∃own,own.length<=5/\x=OX own i:=λi x hx=>hs.at_ i x (by rw[<-h.sites];exact hx);have hch:∀own i k,aQ (OX own i).aO k= []:=λown i k=>rfl
 have hno:∀v,¬Jl z v:=λv hv=>by
  rcases hv with⟨i,x,hx,ha⟩ | ⟨e,he,p,hp,_⟩
  ·obtain⟨own,_,rfl⟩:=Nx i x hx
   rcases ha with⟨k,ha⟩ | ha
   ·rw[hch]at ha;cases ha
   ·cases ha
  ·rw[hfr e he]at hp;cases hp
 refine⟨by rw[h.row,h.nn];exact hr,⟨by rw[h.bh];exact hn.nd,λe he=>?_⟩,λe he=>by rw[h.nn];exact(hn.new e (by rw[<-h.bh];exact he)).2,λc hc=>?_,λc hc=>?_,by rw[h.pins];exact List.Pairwise.nil,λp hp=>(by rw[h.pins]at hp;cases hp),by rw[h.HJ];exact av5 _,λe he=>(by rw[h.HJ]at he;cases he),?_,?_⟩
 ·rw[hfr e he]
  exact⟨avK _,U,avK _,av5 _,λj hj=>(by cases hj),λp hp=>(by cases hp),av5 _,λp hp=>(by cases hp)⟩
 ·obtain⟨s1,s2,s3⟩:=h.JD c hc
  exact⟨by rw[s1];exact GP.nil 0,ayT,by rw[h.nn];exact s3⟩
 ·rw[h.M8 c hc]
  exact⟨U,av5 _,λk hk=>aBP,λs hs=>(by cases hs)⟩
 ·refine⟨λv hv=>absurd hv<|hno v,λv w hv=>absurd hv<|hno v,λs x st hx=>?_,λe he hop=>?_⟩
  ·obtain⟨own,_,rfl⟩:=Nx s x hx
   have:eH z.row.aK z.bh s st=0:=by
    unfold eH;refine GZ λq hq=>?_;obtain⟨e,he,rfl⟩:=avT.1 hq;unfold opn;rw[hfr e he];rfl
   rw[this];exact av5 _
  ·rw[hfr e he]at hop;exact absurd U hop
 ·refine⟨by rw[h.sites,h.nn];exact hl,λi x hx=>?_,λi x y hx hy=>?_,λc hc p hp=>(by rw[h.pins]at hp;cases hp)⟩
  ·obtain⟨own,ho,rfl⟩:=Nx i x hx
   have hlt:i<n:=by rw[<-hl,<-h.sites];exact nY hx
   exact⟨⟨⟨List.Pairwise.nil,λe he=>(by cases he),by show own.length<=8;omega⟩,av5 _,λv hv=>aBY,by show(0:Int)<=i;omega,by show(i:Int)<6;omega,qE.zero 0⟩,U⟩
  ·rw[hx]at hy;cases hy;exact Ca.refl x
theorem Rt{row:aF}(h:eN n row):∃z,Aw row=some z/\GI 0 z/\z.n=n/\(∀c,c<4->(cr z c).keys= []):=by
 have h2:=h.n2;obtain⟨bh,U0,hN⟩:=RZ h2.1 h2.2;unfold Aw;rw[qg h,avi,avj ayW,qv,avi,Nd h,avi,h.len,U0,avi];refine eE (λ(v:Int×List aC)=>0<=v.1/\v.1<=n/\(v.2.length:Int)=v.1/\SI v.2) (λv=>((n:Int)-v.1).toNat) _ ?_ FU (0,[]) ⟨avK _,ayW,ayW,⟨λi x hx=>by simp at hx⟩⟩ ay0;rintro again ⟨i',l⟩ ⟨h1,h3,h4,h5⟩ cW;simp only at h1 h3 h4 h5;obtain⟨i,rfl⟩:∃i:Nat,i'=i:=⟨i'.toNat,ayT⟩;unfold Nu;simp only;by_cases c:i<n
 ·obtain⟨own,ho1,ho2⟩:=z7 h (show i<6 by omega)
  rw[avk ayY];unfold nL;rw[avk ayV,ho1,avi];have hs:zX (i:Int) own=some (OX own i):=by
   unfold zX zV;rw[avj ayW,avj ayV,ig ayT ayT];rfl
  rw[hs,avi,cJ ayV ayV,avi,wrap64 ayT ayT];refine cW _ ⟨ayU,ayU,ayV,⟨λj x hx=>?_⟩⟩ ayU;simp only at hx;rw[ayl]at hx;split at hx
  ·exact h5.at_ j x hx
  ·rename_i hj
   have hj':j-l.length<1:=by
    have:=nY hx;simpa using this
   have e:j=i:=by omega
   rw[show j-l.length=0 by omega]at hx;simp at hx;subst e;exact⟨own,ho2,hx.symm⟩
 ·rw[avj ayV]
  unfold nL;rw[avk ayV];have hln:l.length=n:=by omega
  let P:Nat->aD->Prop:=λk z=>z.row=row/\z.n=n/\z.bh=bh/\z.sites=l/\(∀c,c<4->(bA z c).bz= []/\0<=(bA z c).Site/\(bA z c).Site<n)/\(∀c,c<4->cr z c=V4)/\z.pins= []/\z.bg= []
  refine eE (λ(v:Int×aD)=>0<=v.1/\v.1<=4/\P 0 v.2) (λv=>((4:Int)-v.1).toNat) _ ?_ FU (0,_) ⟨avK _,ayW,U,hln,U,U,λc hc=>?_,λc hc=>?_,U,U⟩ ay0
  ·rintro Hr ⟨j,z⟩ ⟨g1,g3,p1,p2,p3,p4,p5,p6,p7,p8⟩ E9
   simp only at g1 g3 p1 p2 p3 p4 p5 p6 p7 p8;unfold Dw;simp only;by_cases c2:j<4
   ·rw[avk ay5,pG g1 c2]
    unfold vF;rw[avi,wrap64 ayT ayT];have hjt:j.toNat<4:=by omega
    obtain⟨q1,q2,q3,q4,q5,q6,q7⟩:=ru z ⟨j.tmod n,[]⟩ j.toNat;refine E9 _ ⟨ayU,ayU,by rw[q1];exact p1,by rw[q2];exact p2,by rw[q4];exact p3,by rw[q3];exact p4,λc hc=>?_,λc hc=>by rw[q7];exact p6 c hc,by rw[q5];exact p7,by rw[q6];exact p8⟩ ayU;simp only;rw[iF _ _ hjt hc];split
    ·exact⟨U,azo _ g1,axN _<|by omega⟩
    ·exact p5 c hc
   ·rw[avj ay5]
    refine⟨z,U,GI.start h hN hln h5 ⟨p1,p2,p3,p4,p5,p6,p7,p8⟩,p2,λc hc=>by rw[p6 c hc];rfl⟩
  ·rcases four hc with rfl | rfl | rfl | rfl<;>exact⟨U,avK _,by show(0:Int)<n;omega⟩
  ·rcases four hc with rfl | rfl | rfl | rfl<;>rfl
theorem B3{s:List cZ}(hl:s.length<=1099511627776)(hl2:s.length*72<=140737488355328):fA s=some s:=by
 unfold fA;rw[cJ azd azL];rfl
theorem Wv{g:aD}(h:g.bg.length<=1000000):jJ g=some g.bg:=by
 unfold jJ;rw[B3 ayT ayT];rfl
theorem afG{p:List ah}(hp:p.length<=1000):kC p p=some true:=by
 rw[adQ ayT];simp
theorem amb{v:aa}(hp:v.bz.length<=1000):ada v v=some true:=by
 unfold ada;rw[afG hp,avi,avk rfl];unfold adi adr adv;rw[seq_eq,seq_eq];simp
theorem amd(hl:l.length<=1000)(hp:∀v,v∈l->v.bz.length<=1000):adb l l=some true:=by
 unfold adb;rw[avj ayW];refine(pU (S:=Unit) l (λ_ i=>i) (λ_ _=>some true) (λ_ _=>True) ?_ ?_ (s0:=()) ayS<|by omega)
 ·intro ag _ _
  unfold abw;rw[avj ayW];rfl
 ·intro ag j _ hj _ cW
  unfold abw;rw[avk azg,bp hj,avi,avi,amb (hp _<|avu hj),avi,wrap64 ayT ayT,avj ayW];exact cW () ayS
theorem ame{l:List cZ}(hl:l.length<=1000000)(hp:∀e,e∈l->e.Seen.length<=1000):abv l l=some true:=by
 unfold abv;rw[avj ayW];refine(pU (S:=Unit) l (λ_ i=>i) (λ_ _=>some true) (λ_ _=>True) ?_ ?_ (s0:=()) ayS<|by omega)
 ·intro ag _ _
  unfold ac6;rw[avj ayW];rfl
 ·intro ag j _ hj _ cW
  unfold ac6;rw[avk azg];simp only[bp hj,avi];rw[afG (hp _<|avu hj),avi,seq_eq,wrap64 ayT ayT];simp only[ayv,avJ,Bool.and_true,avn,avB];exact cW () ayS
theorem aox(hl:l.length<=1000000)(s:ai):∃v,adz l s=some (v,l.any λx=>decide (x.aq=s)):=by
 unfold adz;suffices h:∃r,aR (adg l s) FU 0=some r/\r.2=l.any λx=>decide (x.aq=s) by
  obtain⟨⟨v,b⟩,h1,h2⟩:=h;simp only at h2;exact⟨v,by rw[h1,h2]⟩
 refine eE (λ(i:Int)=>0<=i/\i<=l.length/\∀j(hj:j<l.length),(j:Int)<i->¬l[j].aq=s) (λi=>((l.length:Int)-i).toNat) (λ(r:aa×Bool)=>r.2=l.any λx=>decide (x.aq=s)) ?_ FU 0 ⟨avK _,ayT,λj _ h=>ayT⟩ azl;rintro again i' ⟨h1,h2,h3⟩ cW;obtain⟨i,rfl⟩:∃i:Nat,i'=i:=⟨i'.toNat,ayT⟩;unfold adg;by_cases c:i<l.length
 ·rw[avk ayY,bp c,avi,avi,Zm,wrap64 ayT ayT]
  by_cases e:l[i].aq=s
  ·rw[avk azs]
   exact⟨_,U,(awO.2 ⟨l[i],avu c,avP e⟩).symm⟩
  ·rw[avj azs]
   refine cW _ ⟨ayT,ayT,λj hj hji=>?_⟩ ayT;rcases Nat.lt_or_ge j i with q | q
   ·exact h3 j hj ayT
   ·have:j=i:=by omega
    subst this;exact e
 ·rw[avj ayY]
  refine⟨_,U,?_⟩
  symm
  refine aw8.2 λx hx=>?_;obtain⟨j,hj,rfl⟩:=avO hx;simpa using h3 j hj ayT
def adB(hs:List aC)(n:Nat)(d:ah):List Bool:=(List.range n).map λs=>(Dt hs s d.Key).any λx=>decide (x.aq=d.aq)
def ac9(hs:List aC)(n:Nat)(p:aH):List Bool:=p.nR.flatMap (adB hs n)
theorem adO{hs:List aC}{n:Nat}(p:aH):∀l:List ah,(l.flatMap (adB hs n)).length=l.length*n
 | []=>ayW
 | d::l=>by
  rw[awJ,avz,adO p l,avv,awn];unfold adB;simp;omega
theorem aeS(h:GI t z)(ht:t<=1000)(hh:mF t hs z):adf (wS z hs) z.pins z.n=some (z.pins.flatMap (ac9 hs z.n)):=by
 have hn:=h.row.n2;have hpl:=h.PU;unfold adf;refine(pU (S:=List Bool) z.pins (λs i=>(i,s)) (λl s=>some<|s++l.flatMap (ac9 hs z.n)) (λi s=>s.length<=i*25) ?_ ?_ (s0:=[]) ayW<|by omega).trans ayW
 ·intro again s _
  unfold aeD;rw[avj ayW];simp
 ·intro again i s hi hle cW
  have h5:=(h.Vy _<|avu hi).len
  unfold aeD;rw[avk ay8];simp only;refine(pU (S:=List Bool) z.pins[i].nR (λs i=>(i,s)) (λl b=>again (IntKind.wrap .i64 ((i:Int)+1),b++l.flatMap (adB hs z.n))) (λj b=>b.length<=i*25+j*5) ?_ ?_ (s0:=s) ayT<|by omega).trans ?_
  ·intro Hr b _
   unfold aeM;rw[bp hi,avi,avj ayW];simp
  ·intro Hr j b hj hle2 E9
   unfold aeM;rw[bp hi,avi,avk azg,avi];simp only;rw[bp hj,avi];refine(pU (S:=List Bool) (List.range z.n) (λs i=>(i,s)) (λl c=>Hr (IntKind.wrap .i64 ((j:Int)+1),c++l.map λs=>(Dt hs s z.pins[i].nR[j].Key).any λx=>decide (x.aq=z.pins[i].nR[j].aq))) (λm c=>c.length<=i*25+j*5+m) ?_ ?_ (s0:=b) ayT aAS).trans ?_
   ·intro ajP c _
    unfold aeN;rw[avj ayW];simp
   ·intro ajP m c hm at0 ao3
    have hm':m<z.n:=by simpa using hm
    obtain⟨x,hx,gx,_⟩:=hh.at hm';obtain⟨v,hv⟩:=aox (l:=aQ x.aO z.pins[i].nR[j].Key) (by have:=(gx.sh.chain z.pins[i].nR[j].Key).len;omega) z.pins[i].nR[j].aq
    have hch:adw (wS z hs) (m:Int) z.pins[i].nR[j].Key=some (aQ x.aO z.pins[i].nR[j].Key):=by
     unfold adw O0;show(((if decide ((m:Int)<0)=true then _ else if decide (((List.range z.n).length:Int)<=(m:Int))=true then _ else(idx (List.range z.n) (m:Int)).bind _:Option Nat)).bind _)=_;rw[avj ayW,avj ayV,fo ayT ayT,avi,avi];show((mo hs m _).bind _)=_;unfold mo;rw[hx,avi,EM gx ayT];rfl
    unfold aeN;rw[avk (by simpa using hm')];simp only;rw[hch,avi,hv,avi,cJ ayV ayV,avi,wrap64 ayT ayT];have e1:Dt hs (List.range z.n)[m] z.pins[i].nR[j].Key=aQ x.aO z.pins[i].nR[j].Key:=by unfold Dt;rw[List.getElem_range,hx]
    have:=ao3 (c++ [(aQ x.aO z.pins[i].nR[j].Key).any λx=>decide (x.aq=z.pins[i].nR[j].aq)]) ayV;rw[this];generalize(List.range z.n).drop (m+1)=rest
    rw[avV,e1,av6];rfl
   ·rw[wrap64 ayT ayT]
    have hbl:(adB hs z.n z.pins[i].nR[j]).length=z.n:=by unfold adB;simp
    have:=E9 (b++adB hs z.n z.pins[i].nR[j]) (by rw[avz,hbl];omega);refine Eq.trans this ?_;rw[awJ,av6]
  ·rw[wrap64 ayT ayT]
   have hbl:(ac9 hs z.n z.pins[i]).length<=25:=by
    unfold ac9;rw[adO z.pins[i]];exact Nat.mul_le_mul h5 hn.2
   have:=cW (s++ac9 hs z.n z.pins[i]) (by rw[avz];omega);refine Eq.trans this ?_;rw[awJ,av6]
theorem afp(hh:mF t hs z)(st:ai):z.pins.flatMap (ac9 (pH st (eD z.pins) hs) z.n)=z.pins.flatMap (ac9 hs z.n):=by
 have h1:∀p,p∈z.pins->ac9 (pH st (eD z.pins) hs) z.n p=ac9 hs z.n p:=λp hp=>by
  unfold ac9;have h2:∀d,d∈p.nR->adB (pH st (eD z.pins) hs) z.n d=adB hs z.n d:=λd hd=>by
   unfold adB;refine awK λs hs'=>?_;obtain⟨x,hx,_⟩:=hh.at (awg.1 hs');have e1:Dt hs s d.Key=aQ x.aO d.Key:=by unfold Dt;rw[hx]
   have e2:Dt (pH st (eD z.pins) hs) s d.Key=jo (aQ x.aO d.Key) st (jd d.Key<|eD z.pins):=by
    unfold Dt pH;rw[avL,hx];exact Ek _ _ _ _
   rw[e1,e2,<-adZ,<-adZ,afU st (Vz (XZ hp hd) rfl)]
  rw[List.flatMap_def,List.flatMap_def,awK h2]
 rw[List.flatMap_def,List.flatMap_def,awK h1]
theorem agL(h:GI t z)(ht:t<=1000)(hh:mF t hs z){s:Nat}(hlt:s<z.n):∃l,ac8 (wS z hs) (s:Int)=some l/\ac8 z (s:Int)=some l/\l.length<=8:=by
 have main:∀hs,mF t hs z->∃y,z.sites[s]? =some y/\GS t y/\ac8 (wS z hs) (s:Int)=some (sO y.aO):=λhs hh=>by
  obtain⟨y,hy,gy,q1,_⟩:=hh.obs h.self ayT hlt;refine⟨y,hy,gy,?_⟩;unfold ac8 O0;show(((if decide ((s:Int)<0)=true then _ else if decide (((List.range z.n).length:Int)<=(s:Int))=true then _ else(idx (List.range z.n) (s:Int)).bind _:Option Nat)).bind _)=_;rw[avj ayW,avj ayV,fo ayT ayT,avi,avi];show((je hs s).bind _)=_;rw[q1];rfl
 obtain⟨y,hy,gy,e1⟩:=main hs hh;obtain⟨y',hy',_,e2⟩:=main z.sites h.self;rw[hy]at hy';cases hy';exact⟨_,e1,e2,DB gy.sh⟩
theorem afR(h:GI t z)(ht:t<=1000)(hh:mF t hs z):aR (l7 true z.n (wS z hs) z) FU 0=some true:=by
 have hn:=h.row.n2;have hl:=h.hl;refine(pU (S:=Unit) (List.range z.n) (λ_ i=>i) (λ_ _=>some true) (λ_ _=>True) ?_ ?_ (s0:=()) ayS aAS)
 ·intro ag _ _
  unfold l7;rw[avj ayW,avk rfl,Wv (g:=wS z hs) aBJ,avi,Wv ayT,avi];show((abv z.bg z.bg).bind _)=_;rw[ame ayT λe he=>by have:=(h.HJ e he).seen;omega];rfl
 ·intro ag j _ hj _ cW
  have hj':j<z.n:=by simpa using hj
  obtain⟨l,e1,e2,e3⟩:=agL h ht hh hj';unfold l7;rw[avk (by simpa using hj'),e1,avi,e2,avi,afG ayT,avi,avj ayW,wrap64 ayT ayT];exact cW () ayS
theorem aeB(q:lf)(l:List mH):ac7 q l=some true:=by
 obtain⟨row,n,Mf,Pf⟩:=Ji q;obtain⟨z0,hz1,Ku,hz3,_⟩:=Rt Pf;have hn:=Pf.n2;unfold ac7;rw[awake,avi,Mf,avi,hz1,avi,avi,Pf.len];refine bw (λ(v:Int×aD×aD)=>0<=v.1/\v.1<=50/\∃z hs,v.2.1=wS z hs/\v.2.2=z/\mF v.1.toNat hs z/\GI v.1.toNat z/\z.n=n) (λv=>(50-v.1).toNat) (λ_=>some true) ?_ FU (0,z0,z0) ⟨avK _,ayW,z0,z0.sites,U,U,Ku.self,Ku,hz3⟩ ay0;rintro again ⟨i,g,y⟩ ⟨h1,h2,z,hs,e,e',hh,hg,en⟩ cW;simp only at h1 h2 e e' hh hg;subst e e';have ht:i.toNat<=1000:=by omega
 have aeP:=afR hg ht hh;rw[en]at aeP;unfold aeA;by_cases c1:i<l.length
 ·rw[avk ay3]
  by_cases c2:i<50
  ·obtain⟨o,ho1,ho2⟩:=MO (l[i.toNat]' ayT) hn.1 hn.2
   have ho:B2 y.n o:=by rw[en];exact ho2
   have et:(i+1).toNat=i.toNat+1:=by omega
   have hpl:=hg.PU;have akS:ady (wS y hs)=some y.pins:=by
    unfold ady;show((fB y.pins).bind _)=_;rw[adA ayT ayT];rfl
   have amH:=aeS hg ht hh;rw[avk ay5,uz h1 c1,avi,ho1,avi];simp only;rw[akS,avi,<-en,amH,avi];by_cases c11:o.Kind=11
   ·have hS:=hh.clean (KF y (List.range y.n)<|Hu y 0) (ps:=eD y.pins) λp hp d hd=>XZ hp hd
    have afV:=aeS hg ht hS;rw[afp hh]at afV;rw[aaJ c11,aaw hg ht o hh,avi,avk (by simpa using c11),avj ayW,avj ayW];simp only;rw[afV,avi,avj ayW];have hbl:(y.pins.flatMap<|ac9 hs y.n).length<=1000000:=by
     have:∀l:List aH,(∀p,p∈l->p.nR.length<=5)->(l.flatMap<|ac9 hs y.n).length<=l.length*25:=λl=>by
      induction l with
      | nil=>intro _;simp
      | cons p l ih=>
       intro hp;have h5:=hp p ayW;have:=ih λq hq=>hp q aAc;rw[awJ,avz,avv];have e5:(ac9 hs y.n p).length<=25:=by
        unfold ac9;rw[adO p];exact Nat.mul_le_mul h5 (show y.n<=5 by omega)
       omega
     have:=this y.pins λp hp=>(hg.Vy p hp).len
     omega
    refine(pU (S:=Unit) (y.pins.flatMap<|ac9 hs y.n) (λ_ i=>i) (λ_ _=>some true) (λ_ _=>True) ?_ ?_ (s0:=()) ayS<|by omega)
    ·intro ag _ _
     unfold adx;rw[avj ayW,wrap64 ayT ayT];exact cW _ ⟨ayU,ayU,y,_,U,U,by simp only[et];exact hS.mono<|avD _,by simp only[et];exact hg.mono<|avD _,en⟩ ayU
    ·intro ag j _ hj _ anE
     unfold adx;rw[avk azg,bp hj,avi,avi,avj ayW,wrap64 ayT ayT];exact anE () ayS
   ·obtain⟨a,z',d1,d2,d3,d4⟩:=(aeg hg ht ho c11).self hg
    obtain⟨hs',d5,d6⟩:=d4 hs hh;have d1':gR y o=some (a,z'):=d1;have d5':gR (wS y hs) o=some (a,wS z' hs'):=d5;rw[d5',avi,avj (by simpa using c11),d1',avi];have hsame:ade a a=some true:=by
     unfold ade;rw[amd (by have:=d3.fl;omega) λv hv=>by have:=(d3.fnd v hv).past.len;omega,avi,avk rfl];simp
    simp only;rw[hsame,avi,avj ayW,wrap64 ayT ayT];exact cW _ ⟨ayU,ayU,z',hs',U,U,by simp only[et];exact d6,by simp only[et];exact d2,by rw[d3.nn];exact en⟩ ayU
  ·rw[avj ay5]
   exact aeP
 ·rw[avj ay3]
  exact aeP
end Go.Ark
