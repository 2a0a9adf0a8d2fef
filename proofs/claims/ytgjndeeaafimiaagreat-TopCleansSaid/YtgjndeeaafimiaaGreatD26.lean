/- Machine, typed functions, plain laws and walks, part 26, for TopCleans. Conditions: none but those that stand in each law. -/
import Derived.Test.YtgjndeeaafimiaaGreatD25
set_option linter.all false
open Go.Proofs.Tryz
namespace Go.Ark
open Go Go.Ab Go.RowKit Go.Proofs
theorem afH(A:dm)(g:aD)(s:Int)(r:List ah)(hF:ac8 g s=some r):fc prog (γ:=Unit) 19 (eY A g) (λ_=>eY A g) [bZ A.b,bV s] (λ_=>fu 3 ak r):=by
 apply fc.iB func19 U ntmps19 U U oM hF λC0=>?_;refine GF.yZ 1000 U (λ_=>oM) λhv=>?_;exact GF.eq (F':=(aeC A g s).bind λi=>(je g.sites i).bind λr=>some r) U wku
instance(g:aD)(s:Int):tF prog (ac8 g s) 19 (λA:dm=>eY A g) (λA=>[bZ A.b,bV s]) (λr=>fu 3 ak r):=⟨λ_ r h=>afH _ g s r h⟩
abbrev ajU(l:List mH)(up:Bool)(n:Int)(A Z:dm):SL:=[(1,cP 12 vK l),(5,.one (bB up)),(7,.one (pt A.b 0)),(8,.one (pt Z.b 0)),(9,aV n)]
abbrev ajQ(A Z:dm)(g z:aD):HL:=[(1001,some (.obj (eY A g))),kO (eY Z z)]
section
variable{P:Program}{nt:Nat}{R:Type}{C0:Cx P nt}{Q:R->Exit->Act->World->Prop}{r:R}{F:Option R}{m:Ab.Mode}{k:List KI}{ops:Array Oper}{rest:List Oper}{sl:SL}{hp:HL}{dst:Nat}{ty:TypeId}{pos:String}{af:Array Edge}{gd:Option (Nat×Bool)}{x y:Operand}
end
set_option maxHeartbeats 4000000 in
theorem adJ(q:lf)(l:List mH)(r:Bool)(hF:ac7 q l=some r):Ct prog 4 [.g (.agg (Cw q)),bt 12 vK l] (bH r):=by
 refine Ct.iB (R:=Bool) (res:=λr=>bH r) func4 U ntmps4 U U hF λC0=>?_;refine GF.pre (λa w q=>(q.D5 1000 U U).D5 1001 U U) ?_;unfold ac7
 repeat' (first
  | (show SG (.call _);first | refine aaY 1001 U Y0 cI U U U U (λ_ _=>?_) | refine lC 1001 U D2 cI U U U U ayX (λ_ _ _=>?_) | refine lC (ix:=()) 1001 U D2 cI U U U U ayX λ_ _ _=>?_)
  | (show SG (.binOp .neq _ _ _ _);first | refine f2 U (λ_ _ _ e e'=>ao5 uU e e' U) U U U ?_)
  | refine qF ?_
  | refine rJ ?_
  | refine rG ?_ ?_
  | exact pq
  | intro _)
 rename_i up _ row _ g _ A z _ Z;have:=λi g z b a kx=>(⟨ayS⟩:bT (adx i g z b a kx) (λk=>⟨(10,aV i)::(13,cP 1 ake b)::(15,cP 1 ake a)::(16,aV k)::ajU l up row.aK.length A Z,ajQ A Z g z⟩));have:=λg z=>(⟨ayS⟩:bT (l7 up row.aK.length g z) (λs=>⟨(18,aV s)::ajU l up row.aK.length A Z,ajQ A Z g z⟩));have:bT (aeA up row.aK.length l) (λv=>⟨(10,aV v.1)::ajU l up row.aK.length A Z,ajQ A Z v.2.1 v.2.2⟩):=⟨ayS⟩
 repeat' (first
  | (show SG (.call _);first | refine aaY 1001 U Y0 cI U U U U (λ_ _=>?_) | refine lC 1001 U D2 cI U U U U ayX (λ_ _ _=>?_) | refine lC (ix:=()) 1001 U D2 cI U U U U ayX λ_ _ _=>?_)
  | (show SG (.binOp .neq _ _ _ _);first | refine f2 U (λ_ _ _ e e'=>ao5 uU e e' U) U U U ?_)
  | refine qF ?_
  | refine rJ ?_
  | refine rG ?_ ?_
  | exact pq
  | intro _)
theorem wrap64{n:Int}(h1: -9223372036854775808<=n)(h2:n<=9223372036854775807):IntKind.wrap .i64 n=n:=by
 simp only[IntKind.wrap,IntKind.signed,IntKind.bits];simp;split<;>omega
theorem bw{T R:Type}{body:(T->Option R)->T->Option R}(I:T->Prop)(μ:T->Nat)(spec:T->Option R)
  (step:∀again v,I v->(∀v',I v'->μ v'<μ v->again v'=spec v')->body again v=spec v):∀n v,I v->μ v<n->aR body n v=spec v
 | 0,v,_,h=>ayT
 | n+1,v,hI,h=>by
  rw[aR];exact step _ _ hI λv' hI' hlt=>bw I μ spec step n v' hI' ayT
theorem bF:18446744073709551616<=FU:=by unfold FU;exact axR (n:=2) ayZ (show 64<=70 by decide)
theorem seq_eq(s t:ByteArray):seq s t=decide (s=t):=by
 have h:seq s t=(s.data==t.data):=(beq_toListBytes s t).symm
 rw[h];by_cases h:s=t
 ·subst h;simp
 ·have:s.data≠t.data:=λc=>h (by cases s;cases t;simp_all)
  simp[h,this]
theorem Nb:∀s:List UInt8,Op.bytesLess s s=false
 | []=>rfl
 | a::s=>by
  have h:¬a<a:=by simp
  simp[Op.bytesLess,Nb s,h]
theorem QM:∀{a b c:List UInt8},Op.bytesLess a b=true->Op.bytesLess b c=true->Op.bytesLess a c=true
 | _,[],_,h,_=>by cases ‹List UInt8›<;>simp[Op.bytesLess]at h
 | _,_::_,[],_,h=>aAK
 | [],_::_,_::_,_,_=>rfl
 | x::a,y::b,z::c,h1,h2=>by
  simp only[Op.bytesLess,awX,awe,avA,beq_iff_eq]at h1 h2 ⊢;rcases h1 with h1 | ⟨rfl,h1⟩
  ·rcases h2 with h2 | ⟨rfl,h2⟩
   ·left;simp only[UInt8.lt_iff_toNat_lt]at *;omega
   ·exact .inl h1
  ·rcases h2 with h2 | ⟨rfl,h2⟩
   ·exact .inl h2
   ·exact .inr ⟨U,QM h1 h2⟩
theorem aaq:∀{a b:List UInt8},Op.bytesLess a b=false->Op.bytesLess b a=false->a=b
 | [],[],_,_=>rfl
 | [],_::_,h,_=>aAK
 | _::_,[],_,h=>aAK
 | x::a,y::b,h1,h2=>by
  simp only[Op.bytesLess,axz,axo,Bool.and_eq_false_iff,beq_eq_false_iff_ne]at h1 h2;have hxy:x=y:=by
   have h3:=h1.1;have h4:=h2.1;simp only[UInt8.lt_iff_toNat_lt]at h3 h4;exact UInt8.toNat_inj.1 ayT
  subst hxy;rw[aaq (h1.2.resolve_left λc=>c rfl) (h2.2.resolve_left λc=>c rfl)]
theorem wW(s:ByteArray):slt s s=false:=Nb _
variable{a b:ByteArray}
theorem vn{c:ByteArray}(h1:slt a b=true)(h2:slt b c=true):slt a c=true:=QM h1 h2
theorem Ia(h1:slt a b=true):slt b a=false:=by
 cases h:slt b a with
 | false=>rfl
 | true=>exact absurd (vn h1 h) (by rw[wW];simp)
theorem DT(h1:slt a b=false)(h2:slt b a=false):a=b:=by
 have:=aaq h1 h2;have h3:seq a b=true:=by unfold seq;rw[this];simp
 rw[seq_eq]at h3;exact awf h3
theorem FC(h:slt a b=true):a≠b:=λc=>by rw[c,wW]at h;cases h
theorem toList_empty:ByteArray.empty.toList= []:=by
 unfold ByteArray.toList ByteArray.toList.loop;rfl
theorem Zj(s:ByteArray):slt s ByteArray.empty=false:=by
 unfold slt;rw[toList_empty];cases s.toList<;>rfl
variable{α:Type}{xs:List α}
theorem bp{i:Nat}(h:i<xs.length):idx xs (i:Int)=some xs[i]:=by simp[idx,h]
theorem uz{i:Int}(h0:0<=i)(h:i<xs.length):idx xs i=some (xs[i.toNat]' ayT):=by
 simp only[idx,h0,avM];exact avs ayT
theorem cJ{n:Nat}{ys:List α}(h:xs.length+ys.length<=1099511627776)(h2:(xs.length+ys.length)*n<=140737488355328):app n xs ys=some (xs++ys):=by
 simp only[app,avz];rw[avk ⟨h,h2⟩]
theorem half(a b:Int)(h0:0<=a)(h1:a<=b)(h2:b<=140737488355328):IntKind.wrap .i64 (Int.fdiv (IntKind.wrap .u64 (IntKind.wrap .i64 (a+b))) (2 ^ min (Int.toNat 1) (IntKind.bits .u64)))=(a+b) / 2:=by
 have e1:IntKind.wrap .i64 (a+b)=a+b:=wrap64 ayT ayT
 have e2:IntKind.wrap .u64 (a+b)=a+b:=by
  simp only[IntKind.wrap,IntKind.signed,IntKind.bits];simp;omega
 have e3:Int.fdiv (a+b) (2 ^ min (Int.toNat 1) (IntKind.bits .u64))=(a+b) / 2:=by
  have:(2:Int) ^ min (Int.toNat 1) (IntKind.bits .u64)=2:=by rfl
  rw[this];exact axX _ ayT
 rw[e1,e2,e3];exact wrap64 ayT ayT
theorem eE{T R:Type}{body:(T->Option R)->T->Option R}(I:T->Prop)(μ:T->Nat)(Q:R->Prop)
  (step:∀again v,I v->(∀v',I v'->μ v'<μ v->∃r,again v'=some r/\Q r)->∃r,body again v=some r/\Q r):∀n v,I v->μ v<n->∃r,aR body n v=some r/\Q r
 | 0,v,_,h=>ayT
 | n+1,v,hI,h=>by
  rw[aR];exact step _ _ hI λv' hI' hlt=>eE I μ Q step n v' hI' ayT
theorem Xb{s:ByteArray}{i:Nat}(h:i<s.size):tu s (i:Int)=some s[i]:=by
 simp only[tu,Int.natCast_nonneg,avM,avp];exact getElem?_pos s i h
theorem pU{S T R:Type}{body:(T->Option R)->T->Option R}(l:List α)(pk:S->Int->T)(G:List α->S->Option R)(I:Nat->S->Prop)
  (hnil:∀again s,I l.length s->body again (pk s (l.length:Int))=G [] s)
  (akC:∀again i s(h:i<l.length),I i s->(∀s',I (i+1) s'->again (pk s' ((i:Int)+1))=G (l.drop<|i+1) s')->body again (pk s (i:Int))=G (l[i] ::l.drop (i+1)) s)
  {s0:S} (h0:I 0 s0) (hl:l.length<=9223372036854775807):aR body FU (pk s0 0)=G l s0:=by
 have key:∀n i s,I i s->i<=l.length->l.length-i<n->aR body n (pk s (i:Int))=G (l.drop i) s:=by
  intro n
  induction n with
  | zero=>intro i s _ _ h;omega
  | succ n ih=>
   intro i s hI hi hn;rw[aR];rcases Nat.lt_or_ge i l.length with h | h
   ·rw[av8 h]
    exact akC _ i s h hI λs' hI'=>by
     have:=ih (i+1) s' hI' h ayT;rw[show((i:Int)+1)=((i+1:Nat):Int) by omega];exact this
   ·obtain rfl:i=l.length:=by omega
    rw[List.drop_length];exact hnil _ s hI
 have:=key FU 0 s0 h0 (av5 _) azl;simpa using this
end Go.Ark
