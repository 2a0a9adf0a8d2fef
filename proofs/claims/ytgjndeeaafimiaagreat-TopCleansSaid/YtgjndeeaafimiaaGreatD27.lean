/- Machine, typed functions, plain laws and walks, part 27, for TopCleans. Conditions: none but those that stand in each law. -/
import Derived.Test.YtgjndeeaafimiaaGreatD26
set_option linter.all false
namespace Go.Ark
open Go Go.Ab
def fidx{α:Type}(p:α->Bool)(s:List α):Int:=match s.findIdx? p with | some i=>(i:Int) | none=>-1
variable{α:Type}{i:Nat}
theorem uS{p:α->Bool}{s:List α}(hi:i<s.length)(h1:p s[i] =true)(h2:∀j(hj:j<s.length),j<i->p s[j] =false):fidx p s=i:=by
 have:s.findIdx? p=some i:=axF.2 ⟨hi,h1,λj hj=>by simp[h2 j ayT hj]⟩;simp[fidx,this]
theorem uR{p:α->Bool}{s:List α}(h:∀j(hj:j<s.length),p s[j] =false):fidx p s= -1:=by
 have:s.findIdx? p=none:=List.findIdx?_eq_none_iff.2 λx hx=>by obtain⟨j,hj,rfl⟩:=avO hx;exact h j hj
 simp[fidx,this]
theorem gQ(p:α->Bool)(s:List α):(∃i,∃h:i<s.length,p s[i] =true/\(∀j(hj:j<s.length),j<i->p s[j] =false)/\fidx p s=i)\/((∀x,x∈s->p x=false)/\fidx p s= -1):=by
 cases h:s.findIdx? p with
 | none=>
  right;have:=List.findIdx?_eq_none_iff.1 h;exact⟨this,by simp[fidx,h]⟩
 | some i=>
  left;obtain⟨hi,h1,h2⟩:=axF.1 h;exact⟨i,hi,h1,λj hj hji=>by have:=h2 j hji;simpa using this,by simp[fidx,h]⟩
theorem zx(p:α->Bool)(s:List α):decide (0<=fidx p s)=s.any p:=by
 rcases gQ p s with⟨i,h,h1,_,h3⟩ | ⟨h1,h2⟩
 ·rw[h3]
  have:s.any p=true:=awO.2 ⟨s[i],avu h,h1⟩;simp[this]
 ·rw[h2]
  have:s.any p=false:=aw8.2 λx hx=>by simp[h1 x hx]
  simp[this]
theorem jB{s:List ah}{f:ah->Option Bool}{p:ah->Bool}(hf:∀x,x∈s->f x=some (p x))(hl:s.length<=140737488355328):cY s f=some (fidx p s):=by
 unfold cY;refine bw (λv=>0<=v/\v<=(s.length:Int)/\∀j(hj:j<s.length),(j:Int)<v->p s[j] =false) (λv=>(s.length-v).toNat) (λ_=>some<|fidx p s) ?_ FU _ ⟨avK _,ayT,λj _ h=>ayT⟩ ?_
 ·rintro again v ⟨h1,h2,h3⟩ cW
  unfold oZ;by_cases c:v<(s.length:Int)
  ·obtain⟨i,rfl⟩:∃i:Nat,v=i:=⟨v.toNat,ayT⟩
   have hi:i<s.length:=by omega
   rw[avk ayY,bp hi];simp only[avi,hf _ (avu hi)];cases hp:p s[i]with
   | true=>simp only[avM];rw[uS hi hp (λj hj h=>h3 j hj<|by omega)]
   | false=>
    simp only[avn,avB];rw[wrap64 ayT ayT];refine cW _ ⟨ayT,ayT,λj hj h=>?_⟩ ayT;rcases Nat.lt_or_ge j i with h4 | h4
    ·exact h3 j hj ayT
    ·rw[show s[j] =s[i]from by congr 1;omega];exact hp
  ·rw[avj ayY]
   simp only[jC];rw[uR λj hj=>h3 j hj<|by omega]
 ·have:=bF
  omega
theorem m4{s:List ah}(hl:s.length<=1099511627776)(hl2:s.length*32<=140737488355328):cE s=some s:=by
 unfold cE;rw[cJ azd azL];rfl
theorem cmp_eq(x y:ByteArray):gP x y=some (if slt x y then -1 else if slt y x then 1 else 0):=by
 have hx:cmp_isNaN_string x=some false:=by simp[cmp_isNaN_string,seq_eq]
 have hy:cmp_isNaN_string y=some false:=by simp[cmp_isNaN_string,seq_eq]
 unfold gP;rw[hx,hy];simp only[avi,avn,avB];cases h1:slt x y
 ·simp only[avn,avB,aw6,seq_eq]
  cases h2:slt y x
  ·have:=DT h1 h2;simp[this]
  ·have:=FC h2;simp;exactλc=>this c.symm
 ·simp
theorem xy{s:List au}{f:au->Option Bool}{p:au->Bool}(hf:∀x,x∈s->f x=some (p x))(hl:s.length<=140737488355328):dV s f=some (fidx p s):=by
 unfold dV;refine bw (λv=>0<=v/\v<=(s.length:Int)/\∀j(hj:j<s.length),(j:Int)<v->p s[j] =false) (λv=>(s.length-v).toNat) (λ_=>some<|fidx p s) ?_ FU _ ⟨avK _,ayT,λj _ h=>ayT⟩ ?_
 ·rintro again v ⟨h1,h2,h3⟩ cW
  unfold mW;by_cases c:v<(s.length:Int)
  ·obtain⟨i,rfl⟩:∃i:Nat,v=i:=⟨v.toNat,ayT⟩
   have hi:i<s.length:=by omega
   rw[avk ayY,bp hi];simp only[avi,hf _ (avu hi)];cases hp:p s[i]with
   | true=>simp only[avM];rw[uS hi hp (λj hj h=>h3 j hj<|by omega)]
   | false=>
    simp only[avn,avB];rw[wrap64 ayT ayT];refine cW _ ⟨ayT,ayT,λj hj h=>?_⟩ ayT;rcases Nat.lt_or_ge j i with h4 | h4
    ·exact h3 j hj ayT
    ·rw[show s[j] =s[i]from by congr 1;omega];exact hp
  ·rw[avj ayY]
   simp only[iC];rw[uR λj hj=>h3 j hj<|by omega]
 ·have:=bF
  omega
theorem nH{s:List ah}{f:ah->Option Bool}{p:ah->Bool}(hf:∀x,x∈s->f x=some (p x))(hl:s.length<=140737488355328):dB s f=some (s.filter λx=>!p x):=by
 unfold dB;rw[jB hf hl];simp only[avi];rcases gQ p s with⟨k,hk,hpk,hlo,he⟩ | ⟨hno,he⟩
 ·rw[he,avj ayW,wrap64 ayT ayT]
  refine bw (λv=>0<=v.1/\v.1<v.2.1/\v.2.1<=(s.length:Int)/\v.2.2.length=s.length/\v.2.2.take v.1.toNat=(s.take v.2.1.toNat).filter (λx=>!p x)/\v.2.2.drop v.2.1.toNat=s.drop v.2.1.toNat)
   (λv=>((s.length:Int)-v.2.1).toNat) (λ_=>some<|s.filter λx=>!p x) ?_ FU _ ?_ ?_
  ·rintro again ⟨a,b,row⟩ ⟨h1,h2,h3,h4,h5,h6⟩ cW
   simp only at h1 h2 h3 h4 h5 h6;obtain⟨i,rfl⟩:∃i:Nat,a=i:=⟨a.toNat,ayT⟩;obtain⟨j,rfl⟩:∃j:Nat,b=j:=⟨b.toNat,ayT⟩;simp only[avp]at h5 h6;unfold nI;simp only;by_cases c:j<s.length
   ·have hx:row[j]' ayT=s[j]:=by
     have e1:(row.drop j)[0]? =(s.drop j)[0]? :=by rw[h6]
     simp only[awm,awE]at e1;rw[avs ayT,avs c]at e1;exact aww e1
    have ud:(s.take<|j+1).filter (λx=>!p x)=(s.take j).filter (λx=>!p x)++if p s[j]then[]else[s[j]]:=by
     rw[awQ,avs c,aw1];cases hp:p s[j]<;>simp[hp]
    rw[avk ayV,bp (show j<row.length by omega),hx];simp only[avi,hf _ (avu c)];have e2:IntKind.wrap .i64 ((j:Int)+1)=((j+1:Nat):Int):=by rw[wrap64 ayT ayT];omega
    have e3:IntKind.wrap .i64 ((i:Int)+1)=((i+1:Nat):Int):=by rw[wrap64 ayT ayT];omega
    have qC:row.drop (j+1)=s.drop (j+1):=by rw[<-awV,h6,awV]
    cases hp:p s[j]with
    | true=>
     simp only[avJ,avn,avB,e2];exact cW _ ⟨ayU,ayU,ayU,h4,azZ,aAa⟩ ayU
    | false=>
     simp only[awG,avM,e2,e3];have Fe:sets row (i:Int) s[j] =some (row.set i s[j]):=by simp only[sets];rw[avk ⟨ayT,ayT⟩];simp
     rw[Fe];simp only[avi];refine cW _ ⟨ayU,ayU,ayU,az6,?_,?_⟩ ayU
     ·simp only[avp]
      rw[ud,hp,<-h5,awQ,awz];simp only[avM];rw[avk ayT,List.take_set,ax4 ayV];simp
     ·simp only[avp]
      rw[ayy ayT];exact qC
   ·have hj:j=s.length:=by omega
    subst hj;rw[avj ayV];simp only[jg];have hz:∀z:ah,m9 row (i:Int) z=some (row.take i++List.replicate (row.length-i) z):=λz=>azH;rw[hz];simp only[avi];have hs:∀z:ah,sub (row.take i++List.replicate (row.length-i) z) 0 (i:Int)=some (row.take i):=λz=>by
     simp only[sub];rw[avk ⟨ayT,ayT,ayV⟩];simp only[Int.toNat_zero,axL,avp];rw[axt ayV,List.take_take,Nat.min_self]
    rw[hs];simp only[avi];rw[h5,axc]
  ·refine⟨ayU,ayU,ayU,U,?_,U⟩
   simp only[avp];rw[show((k:Int)+1).toNat=k+1 by omega,awQ,avs hk,aw1];have:(s.take k).filter (λx=>!p x)=s.take k:=awL.2 λx hx=>by
    obtain⟨q,hq,rfl⟩:=avO hx;simp only[avC]at hq;simp only[axk];rw[hlo q ayT ayT];rfl
   rw[this];simp[hpk]
  ·have:=bF
   simp only;omega
 ·rw[he,avk ayZ]
  rw[awL.2 λx hx=>aAP]
theorem eG{s:List aa}{f:aa->Option Bool}{p:aa->Bool}(hf:∀x,x∈s->f x=some (p x))(hl:s.length<=140737488355328):bR s f=some (fidx p s):=by
 unfold bR;refine bw (λv=>0<=v/\v<=(s.length:Int)/\∀j(hj:j<s.length),(j:Int)<v->p s[j] =false) (λv=>(s.length-v).toNat) (λ_=>some<|fidx p s) ?_ FU _ ⟨avK _,ayT,λj _ h=>ayT⟩ ?_
 ·rintro again v ⟨h1,h2,h3⟩ cW
  unfold kX;by_cases c:v<(s.length:Int)
  ·obtain⟨i,rfl⟩:∃i:Nat,v=i:=⟨v.toNat,ayT⟩
   have hi:i<s.length:=by omega
   rw[avk ayY,bp hi];simp only[avi,hf _ (avu hi)];cases hp:p s[i]with
   | true=>simp only[avM];rw[uS hi hp (λj hj h=>h3 j hj<|by omega)]
   | false=>
    simp only[avn,avB];rw[wrap64 ayT ayT];refine cW _ ⟨ayT,ayT,λj hj h=>?_⟩ ayT;rcases Nat.lt_or_ge j i with h4 | h4
    ·exact h3 j hj ayT
    ·rw[show s[j] =s[i]from by congr 1;omega];exact hp
  ·rw[avj ayY]
   simp only[gA];rw[uR λj hj=>h3 j hj<|by omega]
 ·have:=bF
  omega
theorem j9{s:List aa}{f:aa->Option Bool}{p:aa->Bool}(hf:∀x,x∈s->f x=some (p x))(hl:s.length<=140737488355328):cD s f=some (s.filter λx=>!p x):=by
 unfold cD;rw[eG hf hl];simp only[avi];rcases gQ p s with⟨k,hk,hpk,hlo,he⟩ | ⟨hno,he⟩
 ·rw[he,avj ayW,wrap64 ayT ayT]
  refine bw (λv=>0<=v.1/\v.1<v.2.1/\v.2.1<=(s.length:Int)/\v.2.2.length=s.length/\v.2.2.take v.1.toNat=(s.take v.2.1.toNat).filter (λx=>!p x)/\v.2.2.drop v.2.1.toNat=s.drop v.2.1.toNat)
   (λv=>((s.length:Int)-v.2.1).toNat) (λ_=>some<|s.filter λx=>!p x) ?_ FU _ ?_ ?_
  ·rintro again ⟨a,b,row⟩ ⟨h1,h2,h3,h4,h5,h6⟩ cW
   simp only at h1 h2 h3 h4 h5 h6;obtain⟨i,rfl⟩:∃i:Nat,a=i:=⟨a.toNat,ayT⟩;obtain⟨j,rfl⟩:∃j:Nat,b=j:=⟨b.toNat,ayT⟩;simp only[avp]at h5 h6;unfold ke;simp only;by_cases c:j<s.length
   ·have hx:row[j]' ayT=s[j]:=by
     have e1:(row.drop j)[0]? =(s.drop j)[0]? :=by rw[h6]
     simp only[awm,awE]at e1;rw[avs ayT,avs c]at e1;exact aww e1
    have ud:(s.take<|j+1).filter (λx=>!p x)=(s.take j).filter (λx=>!p x)++if p s[j]then[]else[s[j]]:=by
     rw[awQ,avs c,aw1];cases hp:p s[j]<;>simp[hp]
    rw[avk ayV,bp (show j<row.length by omega),hx];simp only[avi,hf _ (avu c)];have e2:IntKind.wrap .i64 ((j:Int)+1)=((j+1:Nat):Int):=by rw[wrap64 ayT ayT];omega
    have e3:IntKind.wrap .i64 ((i:Int)+1)=((i+1:Nat):Int):=by rw[wrap64 ayT ayT];omega
    have qC:row.drop (j+1)=s.drop (j+1):=by rw[<-awV,h6,awV]
    cases hp:p s[j]with
    | true=>
     simp only[avJ,avn,avB,e2];exact cW _ ⟨ayU,ayU,ayU,h4,azZ,aAa⟩ ayU
    | false=>
     simp only[awG,avM,e2,e3];have Fe:sets row (i:Int) s[j] =some (row.set i s[j]):=by simp only[sets];rw[avk ⟨ayT,ayT⟩];simp
     rw[Fe];simp only[avi];refine cW _ ⟨ayU,ayU,ayU,az6,?_,?_⟩ ayU
     ·simp only[avp]
      rw[ud,hp,<-h5,awQ,awz];simp only[avM];rw[avk ayT,List.take_set,ax4 ayV];simp
     ·simp only[avp]
      rw[ayy ayT];exact qC
   ·have hj:j=s.length:=by omega
    subst hj;rw[avj ayV];simp only[fY];have hz:∀z:aa,m9 row (i:Int) z=some (row.take i++List.replicate (row.length-i) z):=λz=>azH;rw[hz];simp only[avi];have hs:∀z:aa,sub (row.take i++List.replicate (row.length-i) z) 0 (i:Int)=some (row.take i):=λz=>by
     simp only[sub];rw[avk ⟨ayT,ayT,ayV⟩];simp only[Int.toNat_zero,axL,avp];rw[axt ayV,List.take_take,Nat.min_self]
    rw[hs];simp only[avi];rw[h5,axc]
  ·refine⟨ayU,ayU,ayU,U,?_,U⟩
   simp only[avp];rw[show((k:Int)+1).toNat=k+1 by omega,awQ,avs hk,aw1];have:(s.take k).filter (λx=>!p x)=s.take k:=awL.2 λx hx=>by
    obtain⟨q,hq,rfl⟩:=avO hx;simp only[avC]at hq;simp only[axk];rw[hlo q ayT ayT];rfl
   rw[this];simp[hpk]
  ·have:=bF
   simp only;omega
 ·rw[he,avk ayZ]
  rw[awL.2 λx hx=>aAP]
theorem fU{s:List aa}(hl:s.length<=1099511627776)(hl2:s.length*80<=140737488355328):cn s=some s:=by
 unfold cn;rw[cJ azd azL];rfl
theorem o6{s:List Int}{f:Int->Option Bool}{p:Int->Bool}(hf:∀x,x∈s->f x=some (p x))(hl:s.length<=140737488355328):cM s f=some (fidx p s):=by
 unfold cM;refine bw (λv=>0<=v/\v<=(s.length:Int)/\∀j(hj:j<s.length),(j:Int)<v->p s[j] =false) (λv=>(s.length-v).toNat) (λ_=>some<|fidx p s) ?_ FU _ ⟨avK _,ayT,λj _ h=>ayT⟩ ?_
 ·rintro again v ⟨h1,h2,h3⟩ cW
  unfold jE;by_cases c:v<(s.length:Int)
  ·obtain⟨i,rfl⟩:∃i:Nat,v=i:=⟨v.toNat,ayT⟩
   have hi:i<s.length:=by omega
   rw[avk ayY,bp hi];simp only[avi,hf _ (avu hi)];cases hp:p s[i]with
   | true=>simp only[avM];rw[uS hi hp (λj hj h=>h3 j hj<|by omega)]
   | false=>
    simp only[avn,avB];rw[wrap64 ayT ayT];refine cW _ ⟨ayT,ayT,λj hj h=>?_⟩ ayT;rcases Nat.lt_or_ge j i with h4 | h4
    ·exact h3 j hj ayT
    ·rw[show s[j] =s[i]from by congr 1;omega];exact hp
  ·rw[avj ayY]
   simp only[jD];rw[uR λj hj=>h3 j hj<|by omega]
 ·have:=bF
  omega
theorem yQ{s:List Int}{f:Int->Option Bool}{p:Int->Bool}(hf:∀x,x∈s->f x=some (p x))(hl:s.length<=140737488355328):er s f=some (s.filter λx=>!p x):=by
 unfold er;rw[o6 hf hl];simp only[avi];rcases gQ p s with⟨k,hk,hpk,hlo,he⟩ | ⟨hno,he⟩
 ·rw[he,avj ayW,wrap64 ayT ayT]
  refine bw (λv=>0<=v.1/\v.1<v.2.1/\v.2.1<=(s.length:Int)/\v.2.2.length=s.length/\v.2.2.take v.1.toNat=(s.take v.2.1.toNat).filter (λx=>!p x)/\v.2.2.drop v.2.1.toNat=s.drop v.2.1.toNat)
   (λv=>((s.length:Int)-v.2.1).toNat) (λ_=>some<|s.filter λx=>!p x) ?_ FU _ ?_ ?_
  ·rintro again ⟨a,b,row⟩ ⟨h1,h2,h3,h4,h5,h6⟩ cW
   simp only at h1 h2 h3 h4 h5 h6;obtain⟨i,rfl⟩:∃i:Nat,a=i:=⟨a.toNat,ayT⟩;obtain⟨j,rfl⟩:∃j:Nat,b=j:=⟨b.toNat,ayT⟩;simp only[avp]at h5 h6;unfold nJ;simp only;by_cases c:j<s.length
   ·have hx:row[j]' ayT=s[j]:=by
     have e1:(row.drop j)[0]? =(s.drop j)[0]? :=by rw[h6]
     simp only[awm,awE]at e1;rw[avs ayT,avs c]at e1;exact aww e1
    have ud:(s.take<|j+1).filter (λx=>!p x)=(s.take j).filter (λx=>!p x)++if p s[j]then[]else[s[j]]:=by
     rw[awQ,avs c,aw1];cases hp:p s[j]<;>simp[hp]
    rw[avk ayV,bp (show j<row.length by omega),hx];simp only[avi,hf _ (avu c)];have e2:IntKind.wrap .i64 ((j:Int)+1)=((j+1:Nat):Int):=by rw[wrap64 ayT ayT];omega
    have e3:IntKind.wrap .i64 ((i:Int)+1)=((i+1:Nat):Int):=by rw[wrap64 ayT ayT];omega
    have qC:row.drop (j+1)=s.drop (j+1):=by rw[<-awV,h6,awV]
    cases hp:p s[j]with
    | true=>
     simp only[avJ,avn,avB,e2];exact cW _ ⟨ayU,ayU,ayU,h4,azZ,aAa⟩ ayU
    | false=>
     simp only[awG,avM,e2,e3];have Fe:sets row (i:Int) s[j] =some (row.set i s[j]):=by simp only[sets];rw[avk ⟨ayT,ayT⟩];simp
     rw[bp (show i<row.length by omega)];simp only[avi];rw[Fe];simp only[avi];refine cW _ ⟨ayU,ayU,ayU,az6,?_,?_⟩ ayU
     ·simp only[avp]
      rw[ud,hp,<-h5,awQ,awz];simp only[avM];rw[avk ayT,List.take_set,ax4 ayV];simp
     ·simp only[avp]
      rw[ayy ayT];exact qC
   ·have hj:j=s.length:=by omega
    subst hj;rw[avj ayV];simp only[jh];have hz:∀z:Int,m9 row (i:Int) z=some (row.take i++List.replicate (row.length-i) z):=λz=>azH;rw[hz];simp only[avi];have hs:∀z:Int,sub (row.take i++List.replicate (row.length-i) z) 0 (i:Int)=some (row.take i):=λz=>by
     simp only[sub];rw[avk ⟨ayT,ayT,ayV⟩];simp only[Int.toNat_zero,axL,avp];rw[axt ayV,List.take_take,Nat.min_self]
    rw[hs];simp only[avi];rw[h5,axc]
  ·refine⟨ayU,ayU,ayU,U,?_,U⟩
   simp only[avp];rw[show((k:Int)+1).toNat=k+1 by omega,awQ,avs hk,aw1];have:(s.take k).filter (λx=>!p x)=s.take k:=awL.2 λx hx=>by
    obtain⟨q,hq,rfl⟩:=avO hx;simp only[avC]at hq;simp only[axk];rw[hlo q ayT ayT];rfl
   rw[this];simp[hpk]
  ·have:=bF
   simp only;omega
 ·rw[he,avk ayZ]
  rw[awL.2 λx hx=>aAP]
theorem adA{s:List aH}(hl:s.length<=1099511627776)(hl2:s.length*32<=140737488355328):fB s=some s:=by
 unfold fB;rw[cJ azd azL];rfl
theorem uj{s:List Int}(hl:s.length<=1099511627776)(hl2:s.length*8<=140737488355328):fC s=some s:=by
 unfold fC;rw[cJ azd azL];rfl
theorem qo{s:List ByteArray}(hl:s.length<=1099511627776)(hl2:s.length*16<=140737488355328):dA s=some s:=by
 unfold dA;rw[cJ azd azL];rfl
open Go.RowKit
def Gd(r:au)(k:ByteArray):Bool:=!slt k r.From&&(decide (r.To=ByteArray.empty)||slt k r.To)
def eP(l:List au)(k:ByteArray):Bool:=l.any λr=>Gd r k
def eS(s:ByteArray)(i:Nat):Nat:=(s.get! i).toNat
def Iv(s:ByteArray)(j:Nat):Bool:=decide (j<s.size)&&(decide (128<=eS s j)&&decide (eS s j<=191))
def ir(s:ByteArray)(i:Nat):Nat:=
 if eS s i<128 then 1
 else if 194<=eS s i/\eS s i<=223 then(if Iv s (i+1)=true then 2 else 0)
 else if 224<=eS s i/\eS s i<=239 then(if Iv s (i+1)=true/\Iv s (i+2)=true/\¬(eS s i=224/\eS s (i+1)<160)/\¬(eS s i=237/\159<eS s (i+1))then 3 else 0)
 else if 240<=eS s i/\eS s i<=244 then(if Iv s (i+1)=true/\Iv s (i+2)=true/\Iv s (i+3)=true/\¬(eS s i=240/\eS s (i+1)<144)/\¬(eS s i=244/\143<eS s (i+1))then 4 else 0)
 else 0
theorem xX(s:ByteArray)(i:Nat):eS s i<256:=(s.get! i).toNat_lt
variable{s:ByteArray}{j:Nat}
theorem zu:Iv s j=true↔j<s.size/\128<=eS s j/\eS s j<=191:=by simp[Iv]
theorem Lt(h:i<s.size):i+ir s i<=s.size:=by
 unfold ir;simp only[zu]
 repeat' split
 all_goals omega
theorem Ng(hw:ir s i≠0):
  ∃c,Utf8.decode s i=(c,ir s i)/\(c=65533->ir s i=3/\eS s i=239/\eS s (i+1)=191/\eS s (i+2)=189)/\
   (eS s i<128->c=eS s i)/\(¬eS s i<128->128<=c):=by
 have h0:=xX s i;have h1:=xX s (i+1);have h2:=xX s (i+2);have h3:=xX s (i+3);unfold ir at hw ⊢;simp only[zu]at hw ⊢;unfold Utf8.decode Utf8.valid Utf8.runeError;simp only[awE];have e:∀j,(s.get! j).toNat=eS s j:=λ_=>rfl
 simp only[e,avA,awX,awe,beq_iff_eq];generalize eS s i=b0 at *;generalize eS s (i+1)=b1 at *;generalize eS s (i+2)=b2 at *;generalize eS s (i+3)=b3 at *;by_cases c1:b0<128
 ·rw[avk c1,avk c1];exact⟨b0,U,λh=>ayT,λ_=>rfl,λh=>absurd c1 h⟩
 rw[avj c1]at hw;rw[avj c1,avj c1];by_cases c2:194<=b0/\b0<=223
 ·rw[avk c2]at hw
  rw[avk c2];split at hw
  ·rename_i c3
   rw[avk c3,avk ayT,avk ayT];exact⟨_,U,λh=>ayT,λh=>absurd h c1,λ_=>ayT⟩
  ·exact absurd U hw
 rw[avj c2]at hw;rw[avj c2];by_cases c3:224<=b0/\b0<=239
 ·rw[avk c3]at hw
  rw[avk c3,avj ayT];split at hw
  ·rename_i c4
   rw[avk c4,avk ayT,avk ayT];exact⟨_,U,λh=>ayT,λh=>absurd h c1,λ_=>ayT⟩
  ·exact absurd U hw
 rw[avj c3]at hw;rw[avj c3];by_cases c5:240<=b0/\b0<=244
 ·rw[avk c5]at hw
  rw[avk c5,avj ayT,avj ayT];split at hw
  ·rename_i c4
   rw[avk c4,avk ayT,avk ayT];exact⟨_,U,λh=>ayT,λh=>absurd h c1,λ_=>ayT⟩
  ·exact absurd U hw
 ·rw[avj c5]at hw;exact absurd U hw
theorem TP(hw:ir s i=0):Utf8.decode s i=(65533,1)/\¬(i+3<=s.size/\eS s i=239/\eS s (i+1)=191/\eS s (i+2)=189):=by
 have h0:=xX s i;have h1:=xX s (i+1);have h2:=xX s (i+2);have h3:=xX s (i+3);unfold ir at hw;simp only[zu]at hw;unfold Utf8.decode Utf8.valid Utf8.runeError;simp only[awE];have e:∀j,(s.get! j).toNat=eS s j:=λ_=>rfl
 simp only[e,avA,awX,awe,beq_iff_eq];generalize eS s i=b0 at *;generalize eS s (i+1)=b1 at *;generalize eS s (i+2)=b2 at *;generalize eS s (i+3)=b3 at *;have hw':¬b0<128:=λc=>by rw[avk c]at hw;cases hw
 rw[avj hw']at hw ⊢;refine⟨?_,λh=>?_⟩
 ·split
  ·rw[avj]
   intro c;rw[avk ayT,avk ayT]at hw;cases hw
  ·split
   ·rw[avj]
    intro c;rw[avj ayT,avk ayT,avk ayT]at hw;cases hw
   ·split
    ·rw[avj]
     intro c;rw[avj ayT,avj ayT,avk ayT,avk ayT]at hw;cases hw
    ·rfl
 ·rw[avj ayT,avk ayT,avk ayT]at hw
  cases hw
def eU(s:ByteArray)(n:Int)(i:Nat):Int:=
 if h:i<s.size/\ir s i≠0 then eU s (n+1) (i+ir s i)else if i<s.size then -1 else n
termination_by s.size-i
decreasing_by omega
theorem A9{n:Int}(h:¬i<s.size):eU s n i=n:=by
 rw[eU,dif_neg (λc=>h c.1),avj h]
theorem A8{n:Int}(h:i<s.size)(hw:ir s i=0):eU s n i= -1:=by
 rw[eU,dif_neg (λc=>c.2 hw),avk h]
theorem DR{n:Int}(h:i<s.size)(hw:ir s i≠0):eU s n i=eU s (n+1) (i+ir s i):=by
 rw[eU,dif_pos ⟨h,hw⟩]
theorem Gb(h:i<s.size):s.get! i=s[i]:=by
 cases s with
 | mk d=>exact getElem!_pos d i h
theorem LC(h:i<s.size):∃b:UInt8,tu s (i:Int)=some b/\(b.toNat:Int)=(eS s i:Int):=
 ⟨s[i],Xb h,by simp[eS,Gb h]⟩
theorem ahb{t:ByteArray}(hl:s.size=t.size)(h:∀i,i<s.size->eS s i=eS t i):s=t:=by
 refine ByteArray.ext_getElem hl λi h1 h2=>?_;have:=h i h1;simp only[eS,Gb h1,Gb h2]at this;exact UInt8.toNat_inj.1 this
theorem Ch{a b:Nat}(hb:b<=s.size)(hj:a+j<b):eS (s.extract a b) j=eS s (a+j):=by
 have h1:j<(s.extract a b).size:=by rw[ByteArray.size_extract];omega
 simp only[eS,Gb h1,Gb (show a+j<s.size by omega)];rw[ByteArray.getElem_extract]
theorem VC(hw:ir s i≠0)(hb:¬eS s i<128)(h1:i<=j)(h2:j<i+ir s i):128<=eS s j:=by
 unfold ir at hw h2;simp only[zu]at hw h2;rw[avj hb]at hw h2;have hj:j=i\/j=i+1\/j=i+2\/j=i+3\/i+4<=j:=by omega
 split at hw
 ·rename_i c
  rw[avk c]at h2;split at hw
  ·rename_i c2
   rw[avk c2]at h2;rcases hj with rfl | rfl | rfl | rfl | hj<;>omega
  ·exact absurd U hw
 ·rename_i c
  rw[avj c]at h2;split at hw
  ·rename_i c1
   rw[avk c1]at h2;split at hw
   ·rename_i c2
    rw[avk c2]at h2;rcases hj with rfl | rfl | rfl | rfl | hj<;>omega
   ·exact absurd U hw
  ·rename_i c1
   rw[avj c1]at h2;split at hw
   ·rename_i c3
    rw[avk c3]at h2;split at hw
    ·rename_i c2
     rw[avk c2]at h2;rcases hj with rfl | rfl | rfl | rfl | hj<;>omega
    ·exact absurd U hw
   ·exact absurd U hw
theorem Mg(hl:s.size<=9223372036854775807):vY s=some (eU s 0 0):=by
 unfold vY;refine bw (λ(v:Int×Nat)=>0<=v.1/\v.1<=v.2/\v.2<=s.size) (λv=>s.size-v.2) (λv=>some<|eU s v.1 v.2) ?_ FU (0,0) ⟨avK _,avK _,av5 _⟩ ay0;rintro again ⟨n,i⟩ ⟨h1,h2,h3⟩ cW;simp only at h1 h2 h3;unfold yx;simp only;by_cases c:i<s.size
 ·rw[avk ayY]
  obtain⟨b,hb1,hb2⟩:=LC c;obtain⟨z,hz1,Ku⟩:∃z:UInt8,tu (ByteArray.mk #[239,191,189]) 0=some z/\(z.toNat:Int)=239:=⟨239,U,U⟩;by_cases hw:ir s i=0
  ·obtain⟨e,BZ⟩:=TP hw
   rw[A8 c hw];simp only[e,hb1,hz1,avi,hb2,Ku];rw[avk ayZ];unfold nu;simp only[e];by_cases c1:eS s i=239
   ·rw[avj (by simp[c1]),avk ayZ]
    rw[wrap64 ayT ayT];by_cases c2:(s.size:Int)-i<3
    ·rw[avk ay5]
    ·rw[avj ay5,wrap64 ayT ayT]
     have hsub:Ib s (i:Int) ((i:Int)+3)=some (s.extract i<|i+3):=by
      simp only[Ib];rw[avk ⟨ayT,ayT,ayT⟩];congr 2
     rw[hsub];simp only[avi,seq_eq];rw[avk];simp only[axj,axo];intro he;apply BZ;have q1:=Ch (s:=s) (a:=i) (b:=i+3) (j:=1) ayT ayT;have q2:=Ch (s:=s) (a:=i) (b:=i+3) (j:=2) ayT ayT;rw[he]at q1 q2;exact⟨ayT,c1,q1.symm,q2.symm⟩
   ·rw[avk ayV]
  ·obtain⟨r,e,Mf,Pf,hr3⟩:=Ng hw
   rw[DR c hw];have hle:=Lt c;simp only[e];have hgo:again (IntKind.wrap .i64<|n+1,i+ir s i)=some (eU s (n+1)<|i+ir s i):=by
    rw[wrap64 ayT ayT];exact cW _ ⟨ayU,ayU,ayU⟩ ayU
   by_cases c1:r=65533
   ·obtain⟨g1,g2,g3,g4⟩:=Mf c1
    rw[avk (by simp[c1]),hb1,hz1];simp only[avi,hb2,Ku];unfold nu;simp only[e];rw[avj (by simp[g2]),avk (by simp[c1]),wrap64 ayT ayT,avj ayV,wrap64 ayT ayT];have hsub:Ib s (i:Int) ((i:Int)+3)=some (s.extract i<|i+3):=by
     simp only[Ib];rw[avk ⟨ayT,ayT,ayT⟩];congr 2
    have heq:s.extract i (i+3)=ByteArray.mk #[239,191,189]:=by
     have hsz:(s.extract i<|i+3).size=3:=by rw[ByteArray.size_extract];omega
     refine ahb (by rw[hsz];rfl) λj hj=>?_;rw[hsz]at hj;rw[Ch ayT ayT];have:j=0\/j=1\/j=2:=by omega
     rcases this with rfl | rfl | rfl
     ·exact g2
     ·exact g3
     ·exact g4
    rw[hsub];simp only[avi,heq,seq_eq];rw[avj ayW];exact hgo
   ·have Ow:¬((r:Int)=65533):=by omega
    rw[avj (by simpa using Ow)];unfold nu;simp only[e];rw[avj ayW,avj (by simpa using Ow)];exact hgo
 ·rw[avj ayY,A9 c]
  rfl
def j8(s:ByteArray):Bool:=decide (1<=eU s 0 0)&&decide (eU s 0 0<=8)&&decide (∀j,j<s.size->33<=eS s j)
theorem rY(hl:s.size<=9223372036854775807):lK s=some (j8 s):=by
 unfold lK;rw[Mg hl];simp only[avi];have hno:∀y,j8 s=false->y=false->nr s y=some (j8 s):=by
  intro y ho hy;subst hy;unfold nr;have:=bF;rw[show FU=FU-1+1 by omega,aR];unfold si;simp only;rw[ho];split<;>rfl
 by_cases c1:1<=eU s 0 0
 ·rw[avk ay3]
  by_cases c2:eU s 0 0<=8
  ·rw[avP c2]
   have hok:j8 s=decide (∀j,j<s.size->33<=eS s j):=by simp[j8,c1,c2]
   unfold nr;refine bw (λ(v:Bool×Nat)=>v.2<=s.size/\(∃m,1<=eU s m v.2)/\v.1=decide (∀j,j<v.2->33<=eS s j)) (λv=>s.size-v.2) (λ_=>some<|j8 s) ?_ FU (true,0) ⟨av5 _,⟨0,c1⟩,ayW⟩ ay0;rintro again ⟨f,i⟩ ⟨h1,⟨m,h2⟩,h3⟩ cW;simp only at h1 h2 h3;unfold si;simp only;by_cases c:i<s.size
   ·rw[avk ayY]
    cases hf:f with
    | false=>
     rw[hf]at h3;simp only[awG,avM,rZ,hok];have h3:=of_decide_eq_false h3.symm;rw[avY λh=>h3 λj hj=>h j<|by omega]
    | true=>
     rw[hf]at h3;have h3:=awf h3.symm;simp only[avJ,avn,avB];have hw:ir s i≠0:=λhw=>by rw[A8 c hw]at h2;omega
     obtain⟨r,e,_,Pf,hr3⟩:=Ng hw;rw[DR c hw]at h2;simp only[e];refine cW _ ⟨Lt c,⟨_,h2⟩,?_⟩ ayU;simp only;refine ayo.2 ⟨λh j hj=>?_,λh=>?_⟩
     ·by_cases hji:j<i
      ·exact h3 j hji
      ·by_cases hb:eS s i<128
       ·have:ir s i=1:=by unfold ir;rw[avk hb]
        have:j=i:=by omega
        subst this;have:=Pf hb;omega
       ·have:=VC hw hb (j:=j) ayT hj
        omega
     ·have:=h i ayT
      by_cases hb:eS s i<128
      ·have:=Pf hb;omega
      ·have:=hr3 hb;omega
   ·rw[avj ayY]
    have:i=s.size:=by omega
    subst this;simp only[rZ,hok,h3]
  ·rw[avY c2]
   exact hno _ (by simp[j8,c2]) U
 ·rw[avj ay3]
  exact hno _ (by simp[j8,c1]) U
def bM(a b:ai):Bool:=decide (a.N<b.N)||(decide (a.N=b.N)&&decide (a.Site<b.Site))
theorem ji(a b:ai):fZ a b=some (bM a b):=by
 unfold fZ bM;by_cases h:a.N=b.N
 ·by_cases h2:a.Site=b.Site
  ·simp[h,h2]
  ·by_cases h3:a.Site<b.Site
   ·simp[h,h2,h3];omega
   ·simp[h,h2,h3];omega
 ·by_cases h3:a.N<b.N
  ·simp[h,h3]
  ·simp[h,h3]
def dh(s:ai):Bool:=decide (1<=s.N)&&(decide (s.N<=1099511627776)&&(decide (0<=s.Site)&&decide (s.Site<6)))
theorem qt(s:ai):jL s=some (dh s):=by
 unfold jL wX wY dh;by_cases h1:1<=s.N<;>by_cases h2:s.N<=1099511627776<;>by_cases h3:0<=s.Site<;>simp[h1,h2,h3]
theorem oK{a b:ai}:bM a b=true↔a.N<b.N\/a.N=b.N/\a.Site<b.Site:=by simp[bM]
theorem fF(a:ai):bM a a=false:=by simp[bM]
theorem RU{a b c:ai}(h1:bM a b=true)(h2:bM b c=true):bM a c=true:=by
 rw[oK]at *;omega
theorem xI{a b:ai}(h1:bM a b=true):bM b a=false:=by
 cases h:bM b a with
 | false=>rfl
 | true=>rw[oK]at *;omega
theorem DE{a b:ai}(h1:bM a b=false)(h2:bM b a=false):a=b:=by
 have h3:¬(bM a b=true):=by simp[h1]
 have h4:¬(bM b a=true):=by simp[h2]
 rw[oK]at h3 h4;cases a;cases b;simp only[ai.mk.injEq]at *;omega
def zb(a b:ai):Prop:=bM b a=false
theorem dG(a:ai):zb a a:=fF a
theorem gJ{a b c:ai}(h1:zb a b)(h2:zb b c):zb a c:=by
 unfold zb at *;cases h:bM c a with
 | false=>rfl
 | true=>
  have h3:¬(bM b a=true):=by simp[h1]
  have h4:¬(bM c b=true):=by simp[h2]
  rw[oK]at *;omega
theorem xH{a b:ai}(h:bM a b=true):zb a b:=xI h
theorem Gk{a b:ai}(h1:zb a b)(h2:zb b a):a=b:=DE h2 h1
def fq(a b:ai):ai:=if bM a b then b else a
theorem Gl(a b:ai):zb a (fq a b):=by
 unfold fq;split
 ·exact xH ay6
 ·exact dG a
theorem yz(a b:ai):zb b (fq a b):=by
 unfold fq;split
 ·exact dG b
 ·rename_i h;simpa[zb]using h
theorem Dq{s:ai}(h:dh s=true):bM ⟨0,0⟩ s=true:=by
 simp only[dh,avA,awe]at h;rw[oK];exact .inl ayU
def dY:List ah->ByteArray->ai
 | [],_=>⟨0,0⟩
 | d::p,k=>if d.Key=k then d.aq else dY p k
def bY(p:List ah):Prop:=p.Pairwise λa b=>slt a.Key b.Key=true
variable{p:List ah}{k:ByteArray}
theorem HF(h:∀d,d∈p->d.Key≠k):dY p k=⟨0,0⟩:=by
 induction p with
 | nil=>rfl
 | cons d p ih=>rw[dY,avj (h d<|by simp),ih λd hd=>h d<|by simp[hd]]
theorem aey(hs:bY p)(hi:i<p.length):dY p p[i].Key=p[i].aq:=by
 induction p generalizing i with
 | nil=>simp at hi
 | cons d p ih=>
  have h:=awx.1 hs;cases i with
  | zero=>simp[dY]
  | succ i=>
   have hi':i<p.length:=by simpa using hi
   have hne:=FC (h.1 p[i]<|avu hi');simp only[ayc];rw[dY,avj hne];exact ih h.2 hi'
theorem FE(hs:bY p)(hij:i<j)(hj:j<p.length):slt (p[i]' ayT).Key p[j].Key=true:=awu.1 hs i j ayT hj hij
theorem V7(hs:bY p)(hl:p.length<=140737488355328)(k:ByteArray):
  ∃i:Nat,i<=p.length/\(∀j(hj:j<p.length),j<i->slt p[j].Key k=true)/\(∀j(hj:j<p.length),i<=j->slt p[j].Key k=false)/\
   ct p k (λx0 x1=>lT x0 x1)=some ((i:Int),decide (∃h:i<p.length,p[i].Key=k)):=by
 have hcmp:∀d:ah,lT d k=some (if slt d.Key k then -1 else if slt k d.Key then 1 else 0):=λd=>by
  unfold lT;rw[cmp_eq];rfl
 have hex:∃i:Nat,i<=p.length/\(∀j(hj:j<p.length),j<i->slt p[j].Key k=true)/\(∀j(hj:j<p.length),i<=j->slt p[j].Key k=false):=by
  clear hl
  induction p with
  | nil=>exact⟨0,avq _,λj hj=>aAe,λj hj=>aAe⟩
  | cons d p ih=>
   cases hd:slt d.Key k with
   | false=>
    refine⟨0,av5 _,λj hj h=>ayT,λj hj _=>?_⟩;cases hj':slt (d::p)[j].Key k with
    | false=>rfl
    | true=>
     cases j with
     | zero=>simp at hj';rw[hd]at hj';cases hj'
     | succ j=>
      have:=vn (FE hs (Nat.succ_pos j) hj) hj';simp at this;rw[hd]at this;cases this
   | true=>
    obtain⟨i,h1,h2,h3⟩:=ih (awx.1 hs).2
    refine⟨i+1,ay7,λj hj h=>?_,λj hj h=>?_⟩
    ·cases j with
     | zero=>exact hd
     | succ j=>exact h2 j azg ayT
    ·cases j with
     | zero=>omega
     | succ j=>exact h3 j azg ayT
 obtain⟨i,hi,hlo,hhi⟩:=hex;refine⟨i,hi,hlo,hhi,?_⟩;unfold ct;have h2:dy p k (λx0 x1=>lT x0 x1) (i:Int)=some ((i:Int),decide (∃h:i<p.length,p[i].Key=k)):=by
  unfold dy;by_cases c:i<p.length
  ·rw[avk ayY,bp c]
   simp only[avi,hcmp];have h3:=hhi i c (avq _);simp only[h3,avn,avB,c];cases h4:slt k p[i].Key
   ·have:=DT h3 h4;simp[this]
   ·have:=FC h4;simp;exactλe=>this e.symm
  ·rw[avj ayY]
   simp[c]
 refine bw (λv=>0<=v.1/\v.1<=(i:Int)/\(i:Int)<=v.2/\v.2<=(p.length:Int)) (λv=>(v.2-v.1).toNat) (λ_=>some ((i:Int),decide (∃h:i<p.length,p[i].Key=k))) ?_ FU _ ⟨avK _,ayW,ay8,avK _⟩ ?_
 ·rintro again ⟨a,b⟩ ⟨h4,h5,h6,h7⟩ cW
  simp only at h4 h5 h6 h7;unfold iw;simp only;by_cases c:a<b
  ·rw[avk ayY,half a b h4 ayT ayT]
   have hm1:a<=(a+b) / 2:=by omega
   have hm2:(a+b) / 2<b:=by omega
   generalize hm:(a+b) / 2=m at hm1 hm2;rw[uz ayT ayT];simp only[avi,hcmp];by_cases c2:m<i
   ·have:=hlo m.toNat ayT ayT
    simp only[this,avM];rw[avk ayZ,wrap64 ayT ayT];exact cW _ ⟨ayT,ayU,ayU,ayU⟩ ayU
   ·have:=hhi m.toNat ayT ayT
    simp only[this,avn,avB];rw[avj (by split<;>decide)];exact cW _ ⟨ayU,ayU,ayU,ayU⟩ ayU
  ·rw[avj ayY,show a=(i:Int) by omega]
   exact h2
 ·have:=bF
  simp only;omega
theorem CX(hs:bY p)(hl:p.length<=140737488355328)(k:ByteArray):wu p k=some (dY p k):=by
 obtain⟨i,hi,hlo,hhi,he⟩:=V7 hs hl k;unfold wu uZ;rw[he];simp only[avi];by_cases c:∃h:i<p.length,p[i].Key=k
 ·obtain⟨h1,h2⟩:=c
  simp only[h1,h2,exists_true_left,ayv,avJ,avn,avB,bp h1,avi];rw[<-h2,aey hs h1]
 ·rw[avY c]
  simp only[awG,avM];rw[HF];intro d hd hk;obtain⟨j,hj,rfl⟩:=avO hd;rcases Nat.lt_trichotomy j i with h | h | h
  ·exact FC (hlo j hj h) hk
  ·subst h;exact c ⟨hj,hk⟩
  ·have h3:=hhi i ayT (avq _)
   have:=FE hs h hj;rw[hk]at this;rw[this]at h3;cases h3
def Jp(p q:List ah):Bool:=q.all λd=>!bM (dY p d.Key) d.aq
def fE(d:ah):Bool:=j8 d.Key&&dh d.aq
def kL(d:ah):Bool->List ah->List ah
 | put,[]=>if put then[]else[d]
 | put,x::p=>if x.Key=d.Key then(if bM x.aq d.aq then d else x)::kL d true p
  else if put=false/\slt d.Key x.Key=true then d::x::kL d true p else x::kL d put p
def B0(d:ah):List ah->List ah
 | []=>[d]
 | x::p=>if x.Key=d.Key then(if bM x.aq d.aq then d else x)::p else if slt d.Key x.Key=true then d::x::p else x::B0 d p
variable{d:ah}
theorem JO(h:∀x,x∈p->x.Key≠d.Key):kL d true p=p:=by
 induction p with
 | nil=>rfl
 | cons x p ih=>rw[kL,avj (h x<|by simp),avj ayW,ih λy hy=>h y<|by simp[hy]]
theorem uq(hs:bY p):kL d false p=B0 d p:=by
 induction p with
 | nil=>rfl
 | cons x p ih=>
  obtain⟨h1,h2⟩:=awx.1 hs;rw[kL,B0];by_cases c:x.Key=d.Key
  ·rw[avk c,avk c,JO λy hy e=>by have:=h1 y hy;rw[c,e,wW]at this;cases this]
  ·rw[avj c,avj c]
   by_cases c2:slt d.Key x.Key=true
   ·rw[avk ⟨U,c2⟩,avk c2,JO λy hy e=>by
     have:=vn c2 (h1 y hy);rw[e,wW]at this;cases this]
   ·rw[avj (λh=>c2 h.2),avj c2,ih h2]
theorem Yq{x:ah}(h:x∈B0 d p):x.Key=d.Key\/∃y,y∈p/\y.Key=x.Key:=by
 induction p with
 | nil=>simp[B0]at h;exact .inl (by rw[h])
 | cons y p ih=>
  rw[B0]at h;split at h
  ·rename_i c
   rcases List.mem_cons.1 h with h | h
   ·split at h
    ·exact .inl (by rw[h])
    ·exact .inl (by rw[h,c])
   ·exact .inr ⟨x,azw,U⟩
  ·split at h
   ·rcases List.mem_cons.1 h with h | h
    ·exact .inl (by rw[h])
    ·exact .inr ⟨x,h,U⟩
   ·rcases List.mem_cons.1 h with h | h
    ·exact .inr ⟨y,ayW,by rw[h]⟩
    ·rcases ih h with h | ⟨z,hz,e⟩
     ·exact .inl h
     ·exact .inr ⟨z,by simp[hz],e⟩
theorem RM(hs:bY p):bY (B0 d p):=by
 induction p with
 | nil=>simp[B0,bY]
 | cons x p ih=>
  obtain⟨h1,h2⟩:=awx.1 hs;rw[B0];split
  ·rename_i c
   refine awx.2 ⟨λy hy=>?_,h2⟩;split
   ·rw[<-c];exact h1 y hy
   ·exact h1 y hy
  ·rename_i c
   split
   ·rename_i c2
    refine awx.2 ⟨λy hy=>?_,hs⟩;rcases List.mem_cons.1 hy with rfl | hy
    ·exact c2
    ·exact vn c2 (h1 y hy)
   ·rename_i c2
    refine awx.2 ⟨λy hy=>?_,ih h2⟩;rcases Yq hy with h | ⟨z,hz,e⟩
    ·rw[h]
     cases h3:slt x.Key d.Key with
     | true=>rfl
     | false=>exact absurd (DT h3<|by simpa using c2) c
    ·rw[<-e];exact h1 z hz
theorem Al{d:ah}:∀(put:Bool)(p:List ah),(kL d put p).length<=p.length+(if put then 0 else 1)
 | true,[]=>by simp[kL]
 | false,[]=>by simp[kL]
 | put,x::p=>by
  have h1:=Al (d:=d) true p;have h2:=Al (d:=d) put p;rw[kL]
  repeat' split
  all_goals simp only[avv]at *
  all_goals(try simp_all)
  all_goals omega
def zk(p:List ah)(d:ah):List ah:=if fE d then kL d false p else p
theorem sF(hs:bY p):bY (zk p d):=by
 unfold zk;split
 ·rw[uq hs];exact RM hs
 ·exact hs
theorem Cf(p:List ah)(d:ah):(zk p d).length<=p.length+1:=by
 unfold zk;split
 ·exact Al false p
 ·omega
def ee(acc:List ah)(p:List ah):List ah:=p.foldl zk acc
def yB(l:List (List ah)):List ah:=l.foldl ee []
theorem Au(p:List ah):∀acc,(ee acc p).length<=acc.length+p.length:=by
 induction p with
 | nil=>intro acc;simp[ee]
 | cons d p ih=>
  intro acc;have h1:=ih (zk acc d);have h2:=Cf acc d;simp only[ee,awS,avv]at *;omega
theorem Av(p:List ah):∀acc,bY acc->bY (ee acc p):=by
 induction p with
 | nil=>intro acc h;exact h
 | cons d p ih=>intro acc h;exact ih _ (sF h)
theorem HQ(l:List (List ah)):∀acc,(l.foldl ee acc).length<=acc.length+(l.map List.length).sum:=by
 induction l with
 | nil=>intro acc;simp
 | cons p l ih=>
  intro acc;have h1:=ih (ee acc p);have h2:=Au p acc;simp only[awS,avV,awZ];omega
theorem HT(l:List (List ah)):∀acc,bY acc->bY (l.foldl ee acc):=by
 induction l with
 | nil=>intro acc h;exact h
 | cons p l ih=>intro acc h;exact ih _ (Av p acc h)
theorem zj{d x:ah}:∀{put:Bool}{p:List ah},x∈kL d put p->x=d\/x∈p
 | put,[],h=>by
  unfold kL at h;split at h
  ·simp at h
  ·simp at h;exact .inl h
 | put,y::p,h=>by
  rw[kL]at h;split at h
  ·rcases List.mem_cons.1 h with h | h
   ·split at h
    ·exact .inl h
    ·exact .inr azw
   ·exact(zj h).imp id λh=>azw
  ·split at h
   ·rcases List.mem_cons.1 h with h | h
    ·exact .inl h
    ·rcases List.mem_cons.1 h with h | h
     ·exact .inr azw
     ·exact(zj h).imp id λh=>azw
   ·rcases List.mem_cons.1 h with h | h
    ·exact .inr azw
    ·exact(zj h).imp id λh=>azw
theorem aak{x:ah}(h:x∈zk p d):x=d\/x∈p:=by
 unfold zk at h;split at h
 ·exact zj h
 ·exact .inr h
theorem HB{x:ah}(p:List ah):∀acc,x∈ee acc p->x∈acc\/x∈p:=by
 induction p with
 | nil=>intro acc h;exact .inl h
 | cons d p ih=>
  intro acc h;rcases ih _ h with h | h
  ·rcases aak h with h | h
   ·exact .inr azw
   ·exact .inl h
  ·exact .inr azw
theorem DW(a b:ai):(decide (a.N=b.N)&&decide (a.Site=b.Site))=decide (a=b):=by
 cases a;cases b;simp[Bool.decide_and]
theorem akc(x y:ah):(decide (x.Key=y.Key)&&decide (x.aq.N=y.aq.N)&&decide (x.aq.Site=y.aq.Site))=decide (x=y):=by
 rw[Bool.and_assoc,DW];cases x;cases y;simp[Bool.decide_and]
variable{q:List ah}
theorem adQ(hp:p.length<=140737488355328):kC p q=some (decide (p=q)):=by
 unfold kC;by_cases hl:p.length=q.length
 ·rw[avj (by simp[hl])]
  refine bw (λ(v:Int)=>0<=v/\v<=(p.length:Int)/\∀j(h1:j<p.length)(h2:j<q.length),(j:Int)<v->p[j] =q[j]) (λv=>((p.length:Int)-v).toNat) (λ_=>some (decide (p=q))) ?_ FU 0 ⟨avK _,ayT,λj _ _ h=>ayT⟩ azl;rintro again v ⟨h1,h2,h3⟩ cW;unfold adh;by_cases c:v<(p.length:Int)
  ·obtain⟨i,rfl⟩:∃i:Nat,v=i:=⟨v.toNat,ayT⟩
   have hi:i<p.length:=by omega
   have hi2:i<q.length:=by omega
   rw[avk ayY,bp hi,bp hi2];simp only[avi,akc];by_cases hd:p[i] =q[i]
   ·rw[avj aAQ,wrap64 ayT ayT]
    refine cW _ ⟨ayT,ayT,λj h4 h5 h6=>?_⟩ ayT;by_cases hji:j=i
    ·subst hji;exact hd
    ·exact h3 j h4 h5 ayT
   ·rw[avk aAQ,avY λe=>hd (by subst e;rfl)]
  ·rw[avj ayY]
   unfold adC;rw[avP (List.ext_getElem hl λj h4 h5=>h3 j h4 h5<|by omega)]
 ·rw[avk ayV,avY λe=>hl<|by rw[e]]
def tL:Option ByteArray->List ah->Bool
 | _,[]=>true
 | o,d::p=>fE d&&((match o with | none=>true | some k=>slt k d.Key)&&tL (some d.Key) p)
theorem QW(o:Option ByteArray)(d:ah)(p:List ah):tL o (d::p)=(fE d&&((match o with | none=>true | some k=>slt k d.Key)&&tL (some d.Key) p)):=by
 cases o<;>rfl
theorem TG(o:Option ByteArray):tL o [] =true:=by cases o<;>rfl
theorem JT:∀{o:Option ByteArray},tL o p=true↔(∀d,d∈p->fE d=true)/\bY p/\∀k,o=some k->∀d,d∈p->slt k d.Key=true:=by
 induction p with
 | nil=>intro o;simp[tL,bY]
 | cons d p ih=>
  intro o;simp only[tL,avA,ih,bY,awx,av0,forall_eq_or_imp];constructor
  ·rintro⟨h1,h2,h3,h4,h5⟩
   refine⟨⟨h1,h3⟩,⟨h5 _ U,h4⟩,λk hk=>?_⟩;subst hk;exact⟨h2,λx hx=>vn h2<|h5 _ U x hx⟩
  ·rintro⟨⟨h1,h2⟩,⟨h3,h4⟩,h5⟩
   refine⟨h1,?_,h2,h4,λk hk=>by cases hk;exact h3⟩;cases o with
   | none=>rfl
   | some k=>exact(h5 k U).1
def gW(p:List ah):Bool:=tL none p&&decide (p.length<=24)
theorem IM(hk:d.Key.size<=9223372036854775807):zL d=some (fE d):=by
 unfold zL fE;rw[rY hk];cases j8 d.Key<;>simp[qt]
theorem yE(hl:p.length<=140737488355328)(hk:∀d,d∈p->d.Key.size<=9223372036854775807):nZ p=some (gW p):=by
 unfold nZ;refine bw (λ(v:Int)=>0<=v/\v<=(p.length:Int)/\tL none p=tL (if 0<v then(p[v.toNat-1]?).map (·.Key)else none) (p.drop v.toNat)) (λv=>((p.length:Int)-v).toNat) (λ_=>some<|gW p) ?_ FU 0 ⟨avK _,ayT,ayW⟩ azl;rintro again v ⟨h1,h2,h3⟩ cW;obtain⟨i,rfl⟩:∃i:Nat,v=i:=⟨v.toNat,ayT⟩;unfold yF;simp only[avp]at h3;by_cases c:(i:Int)<(p.length:Int)
 ·have hi:i<p.length:=by omega
  rw[av8 hi,QW]at h3;rw[avk ayY,bp hi];simp only[avi,IM (hk _<|avu hi)];cases hd:fE p[i]with
  | false=>
   rw[hd]at h3;simp only[awG,avM];simp[gW,h3]
  | true=>
   rw[hd]at h3;simp only[avJ,avn,avB,axe]at h3 ⊢;have hgo:tL none p=tL (some p[i].Key) (p.drop<|i+1)->again (IntKind.wrap .i64 ((i:Int)+1))=some (gW p):=λhc=>by
    rw[wrap64 ayT ayT];refine cW _ ⟨ayT,ayT,?_⟩ ayT;rw[hc,avk ayT,show((i:Int)+1).toNat=i+1 by omega,ax9,avs hi];rfl
   by_cases c0:0<(i:Int)
   ·obtain⟨q,rfl⟩:∃q,i=q+1:=⟨i-1,ayT⟩
    rw[avk ayW,wrap64 ayT ayT,show(((q+1:Nat):Int)-1)=(q:Int) by omega,bp ayT];rw[avk c0,ax9,avs ayT]at h3;simp only[avi,awq]at h3 ⊢;cases hs:slt (p[q]' ayT).Key p[q+1].Key with
    | false=>rw[hs]at h3;simp[gW,h3]
    | true=>
     rw[hs]at h3;simp only[avJ,avn,avB,axe]at h3 ⊢;exact hgo h3
   ·rw[avj azu]
    rw[avj c0]at h3;simp only[axe]at h3;exact hgo h3
 ·rw[avj ayY]
  have:i=p.length:=by omega
  subst this;rw[List.drop_length,TG]at h3;unfold ED gW;rw[h3];simp only[axe];congr 1;simp;omega
theorem UL(p:List ah)(k:ByteArray):(∃d,d∈p/\d.Key=k/\dY p k=d.aq)\/((∀d,d∈p->d.Key≠k)/\dY p k=⟨0,0⟩):=by
 induction p with
 | nil=>right;exact⟨λd h=>ay4,U⟩
 | cons x p ih=>
  rw[dY];by_cases c:x.Key=k
  ·left;rw[avk c];exact⟨x,ayW,c,U⟩
  ·rw[avj c]
   rcases ih with⟨d,h1,h2,h3⟩ | ⟨h1,h2⟩
   ·left;exact⟨d,aAw,h2,h3⟩
   ·right
    refine⟨λd hd=>?_,h2⟩;rcases List.mem_cons.1 hd with rfl | hd
    ·exact c
    ·exact h1 d hd
theorem Nw{d:ah}(hd:dh d.aq=true)(k:ByteArray):∀{p:List ah},bY p->dY (B0 d p) k=if d.Key=k then fq (dY p k) d.aq else dY p k
 | [],_=>by
  simp[B0,dY,fq,Dq hd]
 | x::p,hs=>by
  obtain⟨h1,h2⟩:=awx.1 hs;rw[B0];by_cases c:x.Key=d.Key
  ·rw[avk c]
   by_cases ck:d.Key=k
   ·rw[avk ck,dY,dY]
    rw[avk (c.trans ck)];cases hl:bM x.aq d.aq<;>simp[fq,hl,ck,c.trans ck]
   ·rw[avj ck,dY,dY,avj (λe=>ck<|c.symm.trans e)]
    have ck2:¬x.Key=k:=λe=>ck (c.symm.trans e);cases hl:bM x.aq d.aq<;>simp[ck,ck2]
  ·rw[avj c]
   by_cases c2:slt d.Key x.Key=true
   ·rw[avk c2,dY]
    by_cases ck:d.Key=k
    ·rw[avk ck,avk ck,HF (p:=x::p) (k:=k)]
     ·simp[fq,Dq hd]
     ·intro y hy e
      rcases List.mem_cons.1 hy with rfl | hy
      ·exact c (e.trans ck.symm)
      ·have:=vn c2 (h1 y hy)
       rw[e,ck,wW]at this;cases this
    ·rw[avj ck,avj ck]
   ·rw[avj c2,dY,dY,Nw hd k h2]
    by_cases cx:x.Key=k
    ·rw[avk cx,avk cx,avj (λe=>c<|cx.trans e.symm)]
    ·rw[avj cx,avj cx]
theorem Nv(hs:bY p)(d:ah)(k:ByteArray):dY (zk p d) k=if fE d=true/\d.Key=k then fq (dY p k) d.aq else dY p k:=by
 unfold zk;by_cases c:fE d=true
 ·rw[avk c,uq hs,Nw (by simp[fE]at c;exact c.2) k hs]
  simp[c]
 ·rw[avj c,avj (λh=>c h.1)]
theorem O7(hs:bY p)(d:ah)(k:ByteArray):zb (dY p k) (dY (zk p d) k):=by
 rw[Nv hs];split
 ·exact Gl _ _
 ·exact dG _
theorem nj:∀(p:List ah){acc:List ah},bY acc->∀k,zb (dY acc k) (dY (ee acc p) k)
 | [],_,_,_=>dG _
 | d::p,_,hs,k=>gJ (O7 hs d k) (nj p (sF hs) k)
theorem CF:∀(p:List ah){acc:List ah},bY acc->∀{d:ah},d∈p->fE d=true->zb d.aq (dY (ee acc p) d.Key)
 | [],_,_,_,h,_=>ay4
 | x::p,acc,hs,d,h,ho=>by
  rcases List.mem_cons.1 h with rfl | h
  ·refine gJ ?_ (nj p (sF hs) d.Key)
   rw[Nv hs,avk ⟨ho,rfl⟩];exact yz _ _
  ·exact CF p (sF hs) h ho
theorem Kh:∀(p:List ah){acc:List ah},(∀d,d∈acc->fE d=true)->∀d,d∈ee acc p->fE d=true
 | [],_,h=>h
 | x::p,_,h=>Kh p λd hd=>by
  unfold zk at hd;split at hd
  ·rename_i c
   rcases zj hd with rfl | hd
   ·exact c
   ·exact h d hd
  ·exact h d hd
theorem adP(h:∀d,d∈p->fE d=true)(x:ah):∀d,d∈zk p x->fE d=true:=Kh [x] h
theorem QB(ho:∀d,d∈p->fE d=true)(k:ByteArray):zb ⟨0,0⟩ (dY p k):=by
 rcases UL p k with⟨d,h1,rfl,h3⟩ | ⟨_,h2⟩
 ·rw[h3]
  have:=ho d h1;simp only[fE,avA]at this;exact xH (Dq this.2)
 ·rw[h2];exact dG _
theorem Bo{l:List ai}(hl:l.length<=140737488355328):jF l=some (l.foldl fq ⟨0,0⟩):=by
 unfold jF;refine bw (λ(v:Int×Int×Int)=>0<=v.1/\v.1<=(l.length:Int)) (λv=>((l.length:Int)-v.1).toNat) (λv=>some<|(l.drop v.1.toNat).foldl fq ⟨v.2.1,v.2.2⟩) ?_ FU (0,0,0) ⟨avK _,ayW⟩ ay0;rintro again ⟨i',n,t⟩ ⟨h1,h2⟩ cW;simp only at h1 h2 ⊢;obtain⟨i,rfl⟩:∃i:Nat,i'=i:=⟨i'.toNat,ayT⟩;unfold Bp;simp only;by_cases c:(i:Int)<(l.length:Int)
 ·have hi:i<l.length:=by omega
  rw[avk ayY,bp hi];simp only[avi,ji,avp];rw[wrap64 ayT ayT,av8 hi,awS];have e:((i:Int)+1).toNat=i+1:=by omega
  cases hq:bM ⟨n,t⟩ l[i]with
  | true=>
   simp only[avM];rw[cW _ ⟨ayU,ayU⟩ ayU];simp only[e];rw[show fq ⟨n,t⟩ l[i] =l[i] by unfold fq;rw[avk hq]]
  | false=>
   simp only[avn,avB];rw[cW _ ⟨ayU,ayU⟩ ayU];simp only[e];rw[show fq ⟨n,t⟩ l[i] =⟨n,t⟩ by unfold fq;rw[avj aAc]]
 ·rw[avj ayY]
  simp only[avp];rw[awo ayT];rfl
theorem MM{a b:ai}(ha:dh a=true):jF [a,b] =some (fq a b):=by
 rw[Bo ayW];simp only[awS,List.foldl_nil];rw[show fq ⟨0,0⟩ a=a by unfold fq;rw[avk (Dq ha)]]
theorem Kw{d:ah}:∀{p:List ah}{n:Nat},n<=p.length->(∀j(hj:j<p.length),j<n->slt p[j].Key d.Key=true)->(∀j(hj:j<p.length),n<=j->slt p[j].Key d.Key=false)->
  (∀x,x∈p->x.Key≠d.Key)->B0 d p=p.take n++d::p.drop n
 | [],n,h0,_,_,_=>by
  have:n=0:=by simpa using h0
  subst this;rfl
 | x::p,0,_,_,h2,hn=>by
  have h:slt d.Key x.Key=true:=by
   cases h3:slt d.Key x.Key with
   | true=>rfl
   | false=>exact absurd (DT (h2 0 ayW<|avq _) h3) (hn x<|by simp)
  rw[B0,avj (hn x<|by simp),avk h];rfl
 | x::p,n+1,h0,h1,h2,hn=>by
  have h:slt d.Key x.Key=false:=Ia (h1 0 ayW<|Nat.succ_pos _);rw[B0,avj (hn x<|by simp),avj azw,Kw (p:=p) (n:=n) azA (λj hj hjn=>h1 (j+1) (axw hj)<|axw hjn) (λj hj hjn=>h2 (j+1) (axw hj)<|Nat.succ_le_succ hjn) (λy hy=>hn y<|by simp[hy])];rfl
theorem RL{d:ah}:∀{p:List ah},bY p->∀{n:Nat}(hn:n<p.length),p[n].Key=d.Key->B0 d p=p.set n ⟨p[n].Key,fq p[n].aq d.aq⟩
 | [],_,n,hn,_=>by simp at hn
 | x::p,_,0,_,hk=>by
  have hk:x.Key=d.Key:=hk;rw[B0,avk hk];simp only[axi,List.set_cons_zero];unfold fq;split
  ·rw[hk]
  ·rfl
 | x::p,hs,n+1,hn,hk=>by
  obtain⟨h1,h2⟩:=awx.1 hs;have hn':n<p.length:=by simpa using hn
  have hk:p[n].Key=d.Key:=hk
  have hlt:=h1 p[n] (avu hn');rw[hk]at hlt;rw[B0,avj (FC hlt),avj (by rw[Ia hlt];simp),RL h2 hn' hk];simp
theorem Sk(hs:bY p)(ho:∀d,d∈p->fE d=true)(hl:p.length<1099511627776)(hk:d.Key.size<=9223372036854775807):zJ p d=some (zk p d):=by
 obtain⟨i,hi,hlo,hhi,he⟩:=V7 hs ayT d.Key;unfold zJ uZ zk;rw[he,IM hk];simp only[avi];cases hok:fE d with
 | false=>simp
 | true=>
  simp only[avJ,avn,avB,avM];rw[uq hs];have abG:cE p=some p:=m4 ayT ayT;by_cases c:∃h:i<p.length,p[i].Key=d.Key
  ·obtain⟨h1,h2⟩:=c
   simp only[h1,h2,exists_true_left,ayv,avJ,avn,avB];rw[abG];simp only[avi,bp h1];have h3:dh p[i].aq=true:=by
    have:=ho p[i] (avu h1);unfold fE at this;simp only[avA]at this;exact this.2
   rw[MM h3];simp only[avi];unfold sets;rw[avk ⟨ayT,ayT⟩];simp only[avi,avp];rw[RL hs h1 h2]
  ·rw[avY c]
   simp only[awG,avM];rw[abG];simp only[avi];unfold kY Ph;simp only;rw[avk ⟨ayT,ayT,ayT,ayT⟩];simp only[avi,avp];rw[Kw hi hlo hhi λx hx e=>?_];obtain⟨j,hj,rfl⟩:=avO hx;rcases Nat.lt_trichotomy j i with h | h | h
   ·exact FC (hlo j hj h) e
   ·subst h;exact c ⟨hj,e⟩
   ·have h3:=hhi i ayT (avq _)
    have:=FE hs h hj;rw[e]at this;rw[this]at h3;cases h3
theorem yG{l:List (List ah)}(hk:∀p,p∈l->∀d,d∈p->d.Key.size<=9223372036854775807)(hl:(l.map List.length).sum<1099511627776)(Wx:l.length<1099511627776):jS l=some (yB l):=by
 unfold jS yB;refine bw (λ(v:List ah×Int)=>0<=v.2/\v.2<=(l.length:Int)/\v.1.length+((l.drop v.2.toNat).map List.length).sum<1099511627776/\bY v.1/\∀d,d∈v.1->fE d=true) (λv=>((l.length:Int)-v.2).toNat)
  (λv=>some<|(l.drop v.2.toNat).foldl ee v.1) ?_ FU ([],0) ⟨avK _,ayW,azd,List.Pairwise.nil,λd h=>ay4⟩ ay0
 rintro again ⟨acc,v⟩ ⟨h1,h2,h3,hs,ho⟩ cW;simp only at h1 h2 h3 hs ho ⊢;unfold yH;simp only;by_cases c:v<(l.length:Int)
 ·obtain⟨i,rfl⟩:∃i:Nat,v=i:=⟨v.toNat,ayT⟩
  have hi:i<l.length:=by omega
  have e:IntKind.wrap .i64 ((i:Int)+1)=((i+1:Nat):Int):=by rw[wrap64 ayT ayT];omega
  simp only[avp]at h3 ⊢;rw[av8 hi]at h3 ⊢;simp only[avV,awZ]at h3;rw[avk ayY,awS,bp hi];simp only[avi];refine bw (λ(v:List ah×Int)=>0<=v.2/\v.2<=(l[i].length:Int)/\v.1.length+(l[i].drop v.2.toNat).length<=acc.length+l[i].length/\ee v.1 (l[i].drop v.2.toNat)=ee acc l[i]/\bY v.1/\∀d,d∈v.1->fE d=true)
   (λv=>((l[i].length:Int)-v.2).toNat) (λ_=>some<|(l.drop<|i+1).foldl ee<|ee acc l[i]) ?_ FU (acc,0) ⟨avK _,ayW,ayW,ayW,hs,ho⟩ ay0
  rintro Hr ⟨aaj,q⟩ ⟨h4,h5,h6,h7,hs2,ho2⟩ E9;simp only at h4 h5 h6 h7 hs2 ho2;unfold yI;simp only;by_cases c2:q<(l[i].length:Int)
  ·obtain⟨j,rfl⟩:∃j:Nat,q=j:=⟨q.toNat,ayT⟩
   have hj:j<l[i].length:=by omega
   have e2:IntKind.wrap .i64 ((j:Int)+1)=((j+1:Nat):Int):=by rw[wrap64 ayT ayT];omega
   simp only[avp]at h6 h7;rw[av8 hj]at h6 h7;simp only[avv]at h6;rw[avk ay5,bp hj];simp only[avi];rw[Sk hs2 ho2 ayT (hk _ (avu hi) _<|avu hj),e2];simp only[avi];have h8:=Cf aaj l[i][j];refine E9 _ ⟨ayU,ayU,by simp only[avp];omega,?_,sF hs2,adP ho2 _⟩ ayU;simp only[avp];rw[<-h7];rfl
  ·rw[avj ay5]
   rw[awo ayT]at h7;have h7:aaj=ee acc l[i]:=h7;subst h7;unfold EF EE;simp only;rw[e];have h8:=Au l[i] acc;rw[cW _ ⟨ayU,ayU,by simp only[avp];omega,hs2,ho2⟩ ayU];simp only[avp]
 ·rw[avj ayY]
  rw[awo ayT];rfl
theorem K8(hs:bY p)(hp:p.length<=140737488355328)(hl:q.length<=140737488355328):sV p q=some (Jp p q):=by
 unfold sV eF;rw[jB (p:=λd=>bM (dY p d.Key) d.aq) (λx _=>by unfold nE;rw[CX hs hp];simp only[avi,ji]) hl];simp only[avi];unfold Jp;rcases gQ (λd:ah=>bM (dY p d.Key) d.aq) q with⟨i,hi,h1,h2,h3⟩ | ⟨h1,h2⟩
 ·rw[h3,avP ayT]
  have:(q.all λd=>!bM (dY p d.Key) d.aq)=false:=List.all_eq_false.2 ⟨q[i],avu hi,aAw⟩;rw[this];rfl
 ·rw[h2,avY ayT]
  have:(q.all λd=>!bM (dY p d.Key) d.aq)=true:=avI.2 λd hd=>by simp[h1 d hd]
  rw[this];rfl
theorem IK(h:fE d=true):dh d.aq=true:=by
 unfold fE at h;simp only[avA]at h;exact h.2
theorem Ga:∀{p acc:List ah},bY (acc++p)->(∀d,d∈p->fE d=true)->ee acc p=acc++p
 | [],acc,_,_=>by simp[ee]
 | x::p,acc,hs,ho=>by
  have hx:zk acc x=acc++ [x]:=by
   unfold zk;have hsa:bY acc:=(ax1.1 hs).1
   rw[avk (ho x<|by simp),uq hsa,Kw (n:=acc.length) (avq _) (λj hj _=>(ax1.1 hs).2.2 _ (avu hj) x<|by simp) (λj hj h=>ayT) λy hy=>FC<|(ax1.1 hs).2.2 y hy x<|by simp];simp
  show ee (zk acc x) p=acc++x::p;rw[hx,Ga az4 λd hd=>ho d<|by simp[hd]];simp
theorem Ki(hs:bY p)(ho:∀d,d∈p->fE d=true):ee [] p=p:=by
 rw[Ga az4 ho];rfl
theorem IG(r:au)(k:ByteArray):zF r k=some (Gd r k):=by
 unfold zF Gd;rw[seq_eq];cases slt k r.From<;>by_cases h:r.To=ByteArray.empty<;>simp[h]
theorem AK{l:List au}(hl:l.length<=140737488355328)(k:ByteArray):fT l k=some (fidx (λr=>Gd r k) l):=by
 unfold fT;rw[xy (p:=λr=>Gd r k) (λx _=>by unfold sQ;rw[IG];rfl) hl];rfl
theorem Gt{l:List au}(hp:p.length<=1099511627776)(hl:l.length<=140737488355328):oT p l=some (p.filter λd=>eP l d.Key):=by
 unfold oT;rw[m4 hp ayT];simp only[avi];rw[nH (p:=λd=>!eP l d.Key) (λx _=>by
  unfold sW;rw[AK hl];simp only[avi,eP,<-zx];congr 1;by_cases c:0<=fidx (λr=>Gd r x.Key) l
  ·simp[c]
  ·simp[c];omega) ayT]
 simp
def fy(v:aa):Bool:=j8 v.Key&&(dh v.aq&&(gW v.bz&&(decide (v.Value.size<=32)&&(!v.Aj||decide (v.Value=ByteArray.empty)))))
def LF(v:aa):Prop:=v.Key.size<=9223372036854775807/\v.bz.length<=140737488355328/\∀d,d∈v.bz->d.Key.size<=9223372036854775807
variable{v:aa}
theorem kD(h:LF v):jl v=some (fy v):=by
 unfold jl yV yX yY fy;simp only[rY h.1,qt,yE h.2.1 h.2.2];have:((v.Value.size:Int)<=32)↔v.Value.size<=32:=by omega
 simp only[avi,seq_eq,this];cases j8 v.Key<;>cases dh v.aq<;>cases gW v.bz<;>cases v.Aj<;>by_cases h:v.Value.size<=32<;>simp[h]
theorem ZB(a b:aa):decide (a=b)=(decide (a.Key=b.Key)&&(decide (a.Value=b.Value)&&((a.Aj==b.Aj)&&(decide (a.aq=b.aq)&&decide (a.bz=b.bz))))):=by
 cases a;cases b;simp only[aa.mk.injEq,Bool.decide_and];congr 3
theorem yP{l:List ai}{s:ai}(hl:l.length<=140737488355328):e7 l s=some (decide (s∈l)):=by
 unfold e7 jW;have h:∃n:Int,aR (ij l s) FU 0=some n/\decide (0<=n)=decide (s∈l):=by
  refine eE (λ(v:Int)=>0<=v/\v<=(l.length:Int)/\∀j(hj:j<l.length),(j:Int)<v->l[j]≠s) (λv=>((l.length:Int)-v).toNat) (λn=>decide (0<=n)=decide (s∈l)) ?_ FU 0 ⟨avK _,ayT,λj _ h=>ayT⟩ azl;rintro again v ⟨h1,h2,h3⟩ cW;unfold ij;by_cases c:v<(l.length:Int)
  ·obtain⟨i,rfl⟩:∃i:Nat,v=i:=⟨v.toNat,ayT⟩
   have hi:i<l.length:=by omega
   rw[avk ayY,bp hi];simp only[avi,DW];by_cases hs:s=l[i]
   ·rw[avk az4]
    refine⟨_,U,?_⟩;rw[avP h1,avP (by rw[hs];exact avu hi)]
   ·rw[avj az4,wrap64 ayT ayT]
    refine cW _ ⟨ayT,ayT,λj hj h=>?_⟩ ayT;by_cases hji:j=i
    ·subst hji;exactλe=>hs e.symm
    ·exact h3 j hj ayT
  ·rw[avj ayY]
   refine⟨_,U,?_⟩;rw[avY ayZ,avY];intro hm;obtain⟨j,hj,e⟩:=avO hm;exact h3 j hj ayT e
 obtain⟨n,h1,h2⟩:=h;rw[h1];simp only[avi,h2]
theorem Ee(hp:p.length<=140737488355328):jA p q=some (decide (p=q)):=by
 unfold jA;by_cases hl:p.length=q.length
 ·rw[avj (by simp[hl])]
  refine bw (λ(v:Int)=>0<=v/\v<=(p.length:Int)/\∀j(h1:j<p.length)(h2:j<q.length),(j:Int)<v->p[j] =q[j]) (λv=>((p.length:Int)-v).toNat) (λ_=>some (decide (p=q))) ?_ FU 0 ⟨avK _,ayT,λj _ _ h=>ayT⟩ azl;rintro again v ⟨h1,h2,h3⟩ cW;unfold m6;by_cases c:v<(p.length:Int)
  ·obtain⟨i,rfl⟩:∃i:Nat,v=i:=⟨v.toNat,ayT⟩
   have hi:i<p.length:=by omega
   have hi2:i<q.length:=by omega
   rw[avk ayY,bp hi,bp hi2];simp only[avi,akc];by_cases hd:p[i] =q[i]
   ·rw[avj aAQ,wrap64 ayT ayT]
    refine cW _ ⟨ayT,ayT,λj h4 h5 h6=>?_⟩ ayT;by_cases hji:j=i
    ·subst hji;exact hd
    ·exact h3 j h4 h5 ayT
   ·rw[avk aAQ,avY λe=>hd (by subst e;rfl)]
  ·rw[avj ayY]
   unfold uk;rw[avP (List.ext_getElem hl λj h4 h5=>h3 j h4 h5<|by omega)]
 ·rw[avk ayV,avY λe=>hl<|by rw[e]]
theorem QA{a b:aa}(h:a.bz.length<=140737488355328):Af a b=some (decide (a=b)):=by
 unfold Af BF BG BH DN;rw[ZB];simp only[Ee h,avi,seq_eq,DW];cases decide (a.bz=b.bz)<;>cases decide (a.Key=b.Key)<;>cases decide (a.Value=b.Value)<;>cases(a.Aj==b.Aj)<;>cases decide (a.aq=b.aq)<;>simp
abbrev zeroV:aa:=⟨ByteArray.empty,ByteArray.empty,false,⟨0,0⟩,[]⟩
def dx(l:List aa):aa×Bool:=match l.getLast? with
 | some v=>(v,true)
 | none=>(zeroV,false)
def IX(l:List aa)(i:Int):aa×Bool:=match idx l i with
 | some v=>(v,true)
 | none=>(zeroV,false)
variable{l:List aa}
theorem Dj(h:i<l.length):IX l (i:Int)=(l[i],true):=by simp[IX,bp h]
theorem vq{i:Int}(h:i<0\/(l.length:Int)<=i):IX l i=(zeroV,false):=by
 have:idx l i=none:=by
  unfold idx;split
  ·exact aw3 ayT
  ·rfl
 simp[IX,this]
theorem x6(l:List aa)(i:Int):nT l i=some (IX l i):=by
 unfold nT yb;by_cases h0:i<0
 ·rw[avk azA,avk U,vq (.inl h0)]
 ·rw[avj azA]
  by_cases h1:(l.length:Int)<=i
  ·rw[avk ay7,vq (.inr h1)]
  ·obtain⟨j,rfl⟩:∃j:Nat,i=j:=⟨i.toNat,ayT⟩
   rw[avj ay7,Dj ayT,bp (show j<l.length by omega)];rfl
theorem LN(l:List aa):IX l ((l.length:Int)-1)=dx l:=by
 unfold dx;rw[List.getLast?_eq_getElem?];rcases Nat.eq_zero_or_pos l.length with h | h
 ·rw[vq (.inl<|by omega),aw3 ayT]
 ·rw[show(l.length:Int)-1=((l.length-1:Nat):Int) by omega,Dj ayT,avs ayT]
theorem El(hl:l.length<=140737488355328):qN l=some (dx l):=by
 unfold qN;rw[wrap64 ayT ayT,x6,LN];rfl
def gB(l:List aa):Prop:=l.Pairwise λa b=>bM a.aq b.aq=true
theorem QL(hs:gB l)(s:ai):∃n,n<=l.length/\(∀j(hj:j<l.length),j<n->bM l[j].aq s=true)/\(∀j(hj:j<l.length),n<=j->bM l[j].aq s=false)/\fidx (λv=>!bM v.aq s) l=if n=l.length then -1 else(n:Int):=by
 rcases gQ (λv:aa=>!bM v.aq s) l with⟨i,hi,h1,h2,h3⟩ | ⟨h1,h2⟩
 ·refine⟨i,ayT,λj hj hji=>by simpa using h2 j hj hji,λj hj hij=>?_,by rw[h3,avj ayT]⟩
  have h1:zb s l[i].aq:=by simpa[zb]using h1
  rcases Nat.lt_or_ge i j with h | h
  ·have:=awu.1 hs i j hi hj h
   exact gJ h1 (xH this)
  ·have:j=i:=by omega
   subst this;exact h1
 ·refine⟨l.length,avq _,λj hj _=>by simpa using h1 _ (avu hj),λj hj h=>ayT,by rw[h2,avk U]⟩
theorem xZ(hl:l.length<=140737488355328)(hs:gB l)(s:ai):∃n:Nat,nS l s=some (n:Int)/\n<=l.length/\(∀j(hj:j<l.length),j<n->bM l[j].aq s=true)/\(∀j(hj:j<l.length),n<=j->bM l[j].aq s=false):=by
 obtain⟨n,h1,h2,h3,h4⟩:=QL hs s;refine⟨n,?_,h1,h2,h3⟩;unfold nS;rw[eG (p:=λv=>!bM v.aq s) (λx _=>by unfold pF;rw[ji];rfl) hl,h4];simp only[avi];by_cases c:n=l.length
 ·rw[avk c,avk ayZ,c]
 ·rw[avj c,avj ayW]
variable{n:Nat}
theorem zy{p:α->Bool}{l:List α}(h1:∀j(hj:j<l.length),j<n->p l[j] =true)(h2:∀j(hj:j<l.length),n<=j->p l[j] =false):l.filter p=l.take n:=by
 have e:l=l.take n++l.drop n:=(axM n l).symm
 conv=>lhs;rw[e]
 rw[aw1,awL.2,axh.2,awY]
 ·intro x hx
  obtain⟨j,hj,rfl⟩:=avO hx;simp only[avZ]at hj;rw[List.getElem_drop,h2 _ ayT ayT];simp
 ·intro x hx
  obtain⟨j,hj,rfl⟩:=avO hx;simp only[avC]at hj;rw[axk];exact h1 _ ayT ayT
def Ou(l:List aa)(s:ai):aa×Bool:=dx (l.filter λv=>!bM s v.aq)
def atP(l:List aa)(s:ai):aa×Bool:=dx (l.filter λv=>decide (v.aq=s))
theorem Eu(hs:gB l)(hn:n<l.length):(l.filter λv=>decide (v.aq=l[n].aq))= [l[n]]:=by
 have e:l=l.take n++l[n] ::l.drop (n+1):=by rw[<-av8 hn,axM]
 have h1:(l.take n).filter (λv=>decide (v.aq=l[n].aq))= []:=axh.2 λx hx=>by
  obtain⟨j,hj,rfl⟩:=avO hx;simp only[avC]at hj;rw[axk];have:=awu.1 hs j n ayT hn ayT;simp only[awe];intro c;rw[c,fF]at this;cases this
 have h2:(l.drop<|n+1).filter (λv=>decide (v.aq=l[n].aq))= []:=axh.2 λx hx=>by
  obtain⟨j,hj,rfl⟩:=avO hx;simp only[avZ]at hj;rw[List.getElem_drop];have:=awu.1 hs n (n+1+j) hn ayT ayT;simp only[awe];intro c;rw[c,fF]at this;cases this
 have h3:l.filter (λv=>decide (v.aq=l[n].aq))=(l.take n).filter (λv=>decide (v.aq=l[n].aq))++([l[n]] ++(l.drop<|n+1).filter (λv=>decide (v.aq=l[n].aq))):=by
  conv=>lhs;arg 2;rw[e]
  rw[aw1,awC,avk ayW];rfl
 rw[h3,h1,h2];rfl
theorem Ir(hl:l.length<=140737488355328)(hs:gB l)(s:ai):zo l s=some (atP l s):=by
 obtain⟨n,h1,h2,h3,h4⟩:=xZ hl hs s;unfold zo Cj atP;rw[h1];simp only[avi,x6,DW];have hnone:(∀j(hj:j<l.length),l[j].aq≠s)->dx (l.filter λv=>decide (v.aq=s))=(zeroV,false):=λh=>by
  rw[axh.2 λx hx=>by
   obtain⟨j,hj,rfl⟩:=avO hx;simpa using h j hj]
  rfl
 by_cases c:n<l.length
 ·rw[Dj c]
  simp only[avJ,avn,avB];by_cases e:l[n].aq=s
  ·subst e
   rw[Eu hs c];simp[dx]
  ·rw[avk azs,hnone]
   intro j hj ej;rcases Nat.lt_trichotomy j n with g | g | g
   ·have:=h3 j hj g
    rw[ej,fF]at this;cases this
   ·subst g;exact e ej
   ·have:=awu.1 hs n j c hj g
    have h5:=h4 n c (avq _);rw[ej,h5]at this;cases this
 ·rw[vq (.inr<|by omega)]
  simp only[awG,avM];rw[hnone];intro j hj ej;have:=h3 j hj ayT;rw[ej,fF]at this;cases this
theorem JU(hl:l.length<=140737488355328)(hs:gB l)(s:ai):sH l s=some (Ou l s):=by
 obtain⟨n,h1,h2,h3,h4⟩:=xZ hl hs s;unfold sH;rw[Ir hl hs,h1];simp only[avi];unfold atP Ou;by_cases c:∃h:n<l.length,l[n].aq=s
 ·obtain⟨hn,e⟩:=c
  subst e;rw[Eu hs hn];have:(l.filter λv=>!bM l[n].aq v.aq)=l.take (n+1):=zy (λj hj hjn=>by
    rcases Nat.lt_or_ge j n with g | g
    ·rw[xI (awu.1 hs j n hj hn g)];rfl
    ·rw[show l[j] =l[n]from by congr 1;omega,fF];rfl)
   (λj hj hjn=>by rw[awu.1 hs n j hn hj ayT];rfl)
  rw[this];simp only[dx,List.getLast?_singleton,avM];rw[List.getLast?_eq_getElem?,avC,show min (n+1) l.length-1=n by omega,avR ayT,avs hn]
 ·have hno:∀j(hj:j<l.length),l[j].aq≠s:=by
   intro j hj ej;rcases Nat.lt_trichotomy j n with g | g | g
   ·have:=h3 j hj g
    rw[ej,fF]at this;cases this
   ·subst g;exact c ⟨hj,ej⟩
   ·have h5:=h4 n ayT (avq _)
    have:=awu.1 hs n j ayT hj g;rw[ej,h5]at this;cases this
  rw[axh.2 λx hx=>by
   obtain⟨j,hj,rfl⟩:=avO hx;simpa using hno j hj]
  have:(l.filter λv=>!bM s v.aq)=l.take n:=zy (λj hj hjn=>by rw[xI (h3 j hj hjn)];rfl)
   (λj hj hjn=>by
    cases hls:bM s l[j].aq with
    | true=>rfl
    | false=>exact absurd (DE (h4 j hj hjn) hls) (hno j hj))
  rw[this];simp only[dx,List.getLast?_nil,avn,avB];rw[wrap64 ayT ayT,x6];simp only[avi];have e:=LN (l.take n);rw[avC,show((min n l.length:Nat):Int)=n by omega]at e;have e2:IX l ((n:Int)-1)=IX (l.take n) ((n:Int)-1):=by
   rcases Nat.eq_zero_or_pos n with g | g
   ·subst g;rw[vq (.inl<|by omega),vq (.inl<|by omega)]
   ·rw[show(n:Int)-1=((n-1:Nat):Int) by omega,Dj ayT,Dj (by rw[avC];omega),axk]
  rw[e2,e];rfl
def Fg(l:List aa)(mA:ai)(pins:List ai)(v:aa):Bool:=
 decide (v.aq∈pins)||(!bM v.aq mA||(decide (dx l=(v,true))||decide (Ou l mA=(v,true))))
theorem aiz{a:aa×Bool}:decide (a=(v,true))=(a.2&&decide (a.1=v)):=by
 obtain⟨x,b⟩:=a;cases b<;>simp
def jo(l:List aa)(mA:ai)(pins:List ai):List aa:=l.filter λv=>Fg l mA pins v
def yu(v:aa):List aa->List aa
 | []=>[v]
 | x::l=>if bM v.aq x.aq then v::x::l else x::yu v l
theorem fK{v x:aa}:∀{l:List aa},x∈yu v l↔x=v\/x∈l
 | []=>by simp[yu]
 | y::l=>by
  rw[yu];split
  ·simp
  ·simp only[av0,fK (l:=l)]
   constructor
   ·rintro(h | h | h)
    ·exact .inr (.inl h)
    ·exact .inl h
    ·exact .inr (.inr h)
   ·rintro(h | h | h)
    ·exact .inr (.inl h)
    ·exact .inl h
    ·exact .inr (.inr h)
theorem xE{v:aa}:∀{l:List aa},gB l->(∀x,x∈l->x.aq≠v.aq)->gB (yu v l)
 | [],_,_=>by simp[yu,gB]
 | x::l,hs,hn=>by
  obtain⟨h1,h2⟩:=awx.1 hs;rw[yu];split
  ·rename_i c
   refine awx.2 ⟨λy hy=>?_,hs⟩;rcases List.mem_cons.1 hy with rfl | hy
   ·exact c
   ·exact RU c (h1 y hy)
  ·rename_i c
   refine awx.2 ⟨λy hy=>?_,xE h2 λy hy=>hn y<|by simp[hy]⟩;rcases fK.1 hy with rfl | hy
   ·cases h3:bM x.aq y.aq with
    | true=>rfl
    | false=>exact absurd (DE h3<|by simpa using c) (hn x<|by simp)
   ·exact h1 y hy
def N2(l:List aa)(k:ByteArray):Bool:=match l with
 | []=>true
 | x::_=>decide (x.Key=k)
def aiA(l:List aa)(v:aa):List aa×Bool:=
 if fy v&&(N2 l v.Key&& !l.any λx=>decide (x.aq=v.aq))then(yu v l,true)else(l,false)
theorem oQ(l:List α):l= []\/∃l' v,l=l'++ [v]:=by
 rcases List.eq_nil_or_concat l with h | ⟨l',v,h⟩
 ·exact .inl h
 ·exact .inr ⟨l',v,by rw[h,List.concat_eq_append]⟩
theorem iL(l:List aa)(v:aa):dx (l++ [v])=(v,true):=by simp[dx]
theorem Yz:dx [] =(zeroV,false):=rfl
theorem Vf(h:(dx l).2=false):l= []:=by
 rcases oQ l with rfl | ⟨l',v,rfl⟩
 ·rfl
 ·rw[iL]at h;cases h
theorem KE(h:dx l=(v,true)):∃l',l=l'++ [v]:=by
 rcases oQ l with rfl | ⟨l',u,rfl⟩
 ·rw[Yz]at h;cases h
 ·rw[iL]at h
  have:u=v:=awp Prod.fst h;subst this;exact⟨l',U⟩
theorem qV(h:dx l=(v,true)):v∈l:=by
 obtain⟨l',rfl⟩:=KE h;simp
theorem AL(h:(dx l).2=true):dx l=((dx l).1,true):=by rw[<-h]
theorem RT(hs:gB l)(h:dx l=(v,true)){x:aa}(hx:x∈l):zb x.aq v.aq:=by
 obtain⟨l',rfl⟩:=KE h;rcases List.mem_append.1 hx with hx | hx
 ·exact xH ((ax1.1 hs).2.2 x hx v<|by simp)
 ·simp at hx;subst hx;exact dG _
theorem Pm{p:aa->Bool}(h:∀v,dx l=(v,true)->p v=true):dx (l.filter p)=dx l:=by
 rcases oQ l with rfl | ⟨l',v,rfl⟩
 ·rfl
 ·have:=h v (iL _ _)
  rw[aw1,awC,avk this,List.filter_nil,iL,iL]
theorem aeR(p q:aa->Bool):(l.filter p).filter q=(l.filter q).filter p:=by
 rw[List.filter_filter,List.filter_filter];congr 1;funext x;exact Bool.and_comm _ _
variable{pins:List ai}
theorem RR{mA:ai}(h:dx l=(v,true)):Fg l mA pins v=true:=by
 simp[Fg,h]
theorem afq{mA:ai}(h:v.aq∈pins):Fg l mA pins v=true:=by
 simp[Fg,h]
theorem JW(l:List aa)(mA:ai)(pins:List ai):dx (jo l mA pins)=dx l:=Pm λ_ h=>RR h
theorem afU(mA:ai){s:ai}(h:s∈pins):atP (jo l mA pins) s=atP l s:=by
 unfold atP jo;rw[aeR];refine Pm λv hv=>?_;have:=(awc.1<|qV hv).2
 exact afq (by rw[awf this];exact h)
theorem WG{v:aa}:∀{l:List aa}{n:Nat},n<=l.length->(∀j(hj:j<l.length),j<n->bM l[j].aq v.aq=true)->(∀j(hj:j<l.length),n<=j->bM l[j].aq v.aq=false)->
  (∀x,x∈l->x.aq≠v.aq)->yu v l=l.take n++v::l.drop n
 | [],n,h0,_,_,_=>by
  have:n=0:=by simpa using h0
  subst this;rfl
 | x::l,0,_,_,h2,hn=>by
  have h:bM v.aq x.aq=true:=by
   cases h3:bM v.aq x.aq with
   | true=>rfl
   | false=>exact absurd (DE (h2 0 ayW<|avq _) h3) (hn x<|by simp)
  rw[yu,avk h];rfl
 | x::l,n+1,h0,h1,h2,hn=>by
  have h:bM v.aq x.aq=false:=xI (h1 0 ayW<|Nat.succ_pos _);rw[yu,avj azw,WG (l:=l) (n:=n) azA (λj hj hjn=>h1 (j+1) (axw hj)<|axw hjn) (λj hj hjn=>h2 (j+1) (axw hj)<|Nat.succ_le_succ hjn) (λy hy=>hn y<|by simp[hy])];rfl
theorem Oy(hl:l.length<=1099511627)(hs:gB l)(hv:LF v):zq l v=some (aiA l v):=by
 obtain⟨n,h0,h1,h2,h3⟩:=xZ ayT hs v.aq;unfold zq aiA;rw[h0,kD hv];simp only[avi];cases hok:fy v with
 | false=>simp[ew]
 | true=>
  simp only[avJ,avn,avB,axe];have ahD:(l.any λx=>decide (x.aq=v.aq))=true↔∃h:n<l.length,l[n].aq=v.aq:=by
   rw[awO];constructor
   ·rintro⟨x,hx,he⟩
    have he:x.aq=v.aq:=by simpa using he
    obtain⟨j,hj,rfl⟩:=avO hx;rcases Nat.lt_trichotomy j n with h | h | h
    ·have:=h2 j hj h
     rw[he,fF]at this;cases this
    ·subst h;exact⟨hj,he⟩
    ·have h4:=awu.1 hs n j ayT hj h
     rw[he,h3 n ayT (avq _)]at h4;cases h4
   ·rintro⟨h,he⟩
    exact⟨_,avu h,az5⟩
  have hk1:∀b,b=(l.any λx=>decide (x.aq=v.aq))->ew l v (n:Int) b=some (if(!l.any λx=>decide (x.aq=v.aq))=true then(yu v l,true)else(l,false)):=by
   rintro b rfl;unfold ew;cases ha:(l.any λx=>decide (x.aq=v.aq))with
   | true=>simp
   | false=>
    have hn:∀x,x∈l->x.aq≠v.aq:=λx hx=>by simpa using aw8.1 ha x hx
    rw[fU ayT ayT];simp only[avn,avB,avi,awG,avM];unfold e8 Ph;simp only;rw[avk ⟨ayT,ayT,ayT,ayT⟩,WG h1 h2 h3 hn];rfl
  have hend:(if decide ((n:Int)<(l.length:Int))=true then(idx l (n:Int)).bind λx=>ew l v (n:Int) (decide (x.aq.N=v.aq.N)&&decide (x.aq.Site=v.aq.Site))else ew l v (n:Int) false)=
    some (if(!l.any λx=>decide (x.aq=v.aq))=true then(yu v l,true)else(l,false)):=by
   by_cases c:n<l.length
   ·rw[avk ayY,bp c]
    simp only[avi,DW];refine hk1 _ ?_;by_cases e:l[n].aq=v.aq
    ·rw[ahD.2 ⟨c,e⟩];simpa using e
    ·have:(l.any λx=>decide (x.aq=v.aq))=false:=by
      cases h:(l.any λx=>decide (x.aq=v.aq))with
      | false=>rfl
      | true=>exact absurd (ahD.1 h).2 e
     rw[this];simpa using e
   ·rw[avj ayY]
    refine hk1 _ ?_;cases h:(l.any λx=>decide (x.aq=v.aq))with
    | false=>rfl
    | true=>exact absurd (ahD.1 h).1 c
  cases l with
  | nil=>
   simp only[av9,Int.natCast_zero,ayP,ayi,avn,avB,N2,axe]at hend ⊢;exact hend
  | cons x l=>
   rw[avk ayW,show idx (x::l) 0=some x by simp[idx]];simp only[avi,seq_eq];by_cases hk:x.Key=v.Key
   ·simp only[N2,hk,ayv,avJ,axe,avn,avB]
    exact hend
   ·simp[N2,hk,ew]
def kl(n:Nat):ByteArray:=⟨#[UInt8.ofNat (97+n)]⟩
def L8(k:ByteArray):Prop:=∃n,n<8/\k=kl n
theorem alc:∀n,n<8->j8 (kl n)=true:=by decide +kernel
theorem ab7:∀a,a<8->∀b,b<8->slt (kl a) (kl b)=decide (a<b):=by decide +kernel
theorem L8.ok(h:L8 k):j8 k=true:=by obtain⟨n,h,rfl⟩:=h;exact alc n h
theorem L8.size{k:ByteArray}(h:L8 k):k.size=1:=by obtain⟨n,h,rfl⟩:=h;rfl
theorem Gh:∀{l:List Nat}{a n:Nat},l.Pairwise (·< ·)->(∀x,x∈l->a<=x/\x<n)->l.length<=n-a
 | [],_,_,_,_=>ayW
 | x::l,a,n,h,hb=>by
  obtain⟨h1,h2⟩:=awx.1 h;have hx:=hb x ayW;have:=Gh (a:=x+1) (n:=n) h2 λy hy=>⟨h1 y hy,(hb y<|by simp[hy]).2⟩;simp only[avv];omega
structure GP(n:Nat)(p:List ah):Prop where
 sorted:bY p
 key:∀d,d∈p->L8 d.Key
 st:∀d,d∈p->dh d.aq=true/\d.aq.N<=n
theorem GP.ok{n:Nat}{p:List ah}(h:GP n p):∀d,d∈p->fE d=true:=λd hd=>by
 unfold fE;rw[(h.key d hd).ok,(h.st d hd).1];rfl
theorem GP.small(h:GP n p):∀d,d∈p->d.Key.size<=9223372036854775807:=λd hd=>by rw[(h.key d hd).size];omega
theorem GP.nil(n:Nat):GP n []:=⟨List.Pairwise.nil,λd h=>ay4,λd h=>ay4⟩
variable{m:Nat}
theorem GP.mono(h:GP n p)(hn:n<=m):GP m p:=⟨h.sorted,h.key,λd hd=>⟨(h.st d hd).1,by have:=(h.st d hd).2;omega⟩⟩
def WH(k:ByteArray):Nat:=(k.get! 0).toNat
theorem ab6:∀n,n<8->WH (kl n)=97+n:=by decide +kernel
theorem L8.lt{a b:ByteArray}(ha:L8 a)(hb:L8 b)(h:slt a b=true):WH a<WH b:=by
 obtain⟨n,h1,rfl⟩:=ha;obtain⟨m,h2,rfl⟩:=hb;rw[ab7 n h1 m h2]at h;rw[ab6 n h1,ab6 m h2];have:=awf h;omega
theorem SM{l:List ByteArray}(h:l.Pairwise λa b=>slt a b=true)(hk:∀k,k∈l->L8 k):l.length<=8:=by
 have:=Gh (l:=l.map WH) (a:=97) (n:=105) (by
  rw[axT];exact h.imp_of_mem λ{a b} ha hb hab=>(hk a ha).lt (hk b hb) hab) (λx hx=>by
  obtain⟨k,hk',rfl⟩:=avT.1 hx;obtain⟨n,h1,rfl⟩:=hk k hk';rw[ab6 n h1];omega)
 simpa using this
theorem GP.len(h:GP n p):p.length<=8:=by
 have:=SM (l:=p.map (·.Key)) (by rw[axT];exact h.sorted) (λk hk=>by
  obtain⟨d,hd,rfl⟩:=avT.1 hk;exact h.key d hd)
 simpa using this
theorem GP.gW{n:Nat}{p:List ah}(h:GP n p):gW p=true:=by
 unfold Ark.gW;rw[JT.2 ⟨h.ok,h.sorted,λk hk=>aBP⟩];simpa using awa h.len ayT
theorem GP.fold{acc:List ah}(ha:GP n acc)(hp:GP n p):GP n (ee acc p):=
 ⟨Av _ _ ha.sorted,λd hd=>(HB _ _ hd).elim (ha.key d)<|hp.key d,λd hd=>(HB _ _ hd).elim (ha.st d)<|hp.st d⟩
theorem GP.one(h1:L8 d.Key)(h2:dh d.aq=true)(h3:d.aq.N<=n):GP n [d]:=
 ⟨List.pairwise_singleton _ _,λx hx=>by simp at hx;subst hx;exact h1,λx hx=>by simp at hx;subst hx;exact⟨h2,h3⟩⟩
theorem GP.OW(h:GP n p):ee [] p=p:=Ki h.sorted h.ok
structure GV(n:Nat)(v:aa):Prop where
 key:L8 v.Key
 val:v.Value.size<=1
 gone:v.Aj=true->v.Value=ByteArray.empty
 st:dh v.aq=true
 le:v.aq.N<=n
 past:GP n v.bz
theorem GV.mono{n m:Nat}{v:aa}(h:GV n v)(hn:n<=m):GV m v:=⟨h.key,h.val,h.gone,h.st,by have:=h.le;omega,h.past.mono hn⟩
theorem GV.small{n:Nat}{v:aa}(h:GV n v):LF v:=⟨by rw[h.key.size];omega,by have:=h.past.len;omega,h.past.small⟩
theorem GV.ok{n:Nat}{v:aa}(h:GV n v):fy v=true:=by
 unfold fy;rw[h.key.ok,h.st,h.past.gW,avP (show v.Value.size<=32 by have:=h.val;omega)];cases e:v.Aj with
 | false=>rfl
 | true=>simp[h.gone e]
theorem GV.dep(h:GV n v):GP n [⟨v.Key,v.aq⟩]:=GP.one h.key h.st h.le
def MF(p:List ah)(v:aa):List ah:=yB [p,v.bz,[⟨v.Key,v.aq⟩]]
def Lv(p:List ah)(l:List aa):List ah:=l.foldl MF p
theorem P8(hp:GP n p)(v:aa):MF p v=ee (ee p v.bz) [⟨v.Key,v.aq⟩]:=by
 show ee (ee (ee [] p) v.bz) _=_;rw[hp.OW]
theorem GG(hp:GP n p)(hv:GV n v):GP n (MF p v):=by
 rw[P8 hp];exact(hp.fold hv.past).fold hv.dep
theorem JC{n:Nat}:∀{l:List aa}{p:List ah},GP n p->(∀v,v∈l->GV n v)->GP n (Lv p l)
 | [],_,hp,_=>hp
 | v::l,p,hp,h=>JC (l:=l) (p:=MF p v) (GG hp<|h v<|by simp) λu hu=>h u aAo
theorem YE(hp:GP n p)(hv:GV n v):jS [p,v.bz,[⟨v.Key,v.aq⟩]] =some (MF p v):=by
 refine yG (λq hq d hd=>?_) ?_ ayW
 ·simp only[av0,List.not_mem_nil,or_false]at hq
  rcases hq with rfl | rfl | rfl
  ·exact hp.small d hd
  ·exact hv.past.small d hd
  ·exact hv.dep.small d hd
 ·have:=hp.len;have:=hv.past.len
  simp;omega
theorem ye{s:aP}(hp:GP n s.bz)(hl:l.length<=1000)(hv:∀v,v∈l->GV n v):jO s l=some ⟨s.Site,Lv s.bz l⟩:=by
 unfold jO;refine bw (λ(v:Int×List ah)=>0<=v.1/\v.1<=(l.length:Int)/\GP n v.2/\Lv v.2 (l.drop v.1.toNat)=Lv s.bz l) (λv=>((l.length:Int)-v.1).toNat) (λ_=>some<|aP.mk s.Site<|Lv s.bz l) ?_ FU (0,s.bz) ⟨avK _,ayW,hp,ayW⟩ ay0;rintro again ⟨i',o⟩ ⟨h1,h2,h3,h4⟩ cW;simp only at h1 h2 h3 h4;obtain⟨i,rfl⟩:∃i:Nat,i'=i:=⟨i'.toNat,ayT⟩;simp only[avp]at h3 h4;have e:((i:Int)+1).toNat=i+1:=by omega
 unfold yf;simp only;by_cases c:(i:Int)<(l.length:Int)
 ·have hi:i<l.length:=by omega
  rw[avk ayY,bp hi];simp only[avi];have hvi:=hv l[i] (avu hi);rw[YE h3 hvi];simp only[avi];rw[wrap64 (n:=(i:Int)+1) ayT ayT];refine cW _ ⟨ayU,ayU,GG h3 hvi,?_⟩ ayU;simp only[e];rw[av8 hi]at h4;exact h4
 ·have hi:i=l.length:=by omega
  subst hi;rw[avj ayW];rw[List.drop_length]at h4;unfold En;rw[<-h4];rfl
theorem afx(hp:GP n p)(hv:GV n v)(k:ByteArray):zb (dY p k) (dY (MF p v) k):=by
 rw[P8 hp];exact gJ (nj _ hp.sorted k) (nj _ (hp.fold hv.past).sorted k)
theorem GH{n:Nat}:∀{l:List aa}{p:List ah},GP n p->(∀v,v∈l->GV n v)->∀k,zb (dY p k) (dY (Lv p l) k)
 | [],_,_,_,_=>dG _
 | v::l,p,hp,h,k=>gJ (afx hp (h v<|by simp) k) (GH (l:=l) (p:=MF p v) (GG hp<|h v<|by simp) (λu hu=>h u<|by simp[hu]) k)
theorem acK(hp:GP n p)(hv:GV n v):zb v.aq (dY (MF p v) v.Key):=by
 rw[P8 hp];exact CF _ (hp.fold hv.past).sorted (d:=⟨v.Key,v.aq⟩) ayW (hv.dep.ok _<|by simp)
theorem GJ{n:Nat}:∀{l:List aa}{p:List ah},GP n p->(∀v,v∈l->GV n v)->∀{v:aa},v∈l->zb v.aq (dY (Lv p l) v.Key)
 | v::l,p,hp,h,u,hu=>by
  rcases List.mem_cons.1 hu with rfl | hu
  ·exact gJ (acK hp<|h u<|by simp) (GH (l:=l) (p:=MF p u) (GG hp<|h u<|by simp) (λx hx=>h x<|by simp[hx]) _)
  ·exact GJ (l:=l) (p:=MF p v) (GG hp<|h v<|by simp) (λu hu=>h u<|by simp[hu]) hu
variable{own:List au}
theorem Em{s:aP}{vV:List ah}(hs:s.bz.length<=1000000)(hh:bY vV)(hl:vV.length<=1000000)(ho:own.length<=140737488355328):
  nU s vV own=some (Jp vV<|s.bz.filter λd=>eP own d.Key):=by
 unfold nU;rw[Gt ayT ho];simp only[avi];rw[K8 hh ayT (awa (aw5 _ _)<|by omega)];rfl
variable{γ:Type}
section
variable[DecidableEq α]
theorem iM:∀{m:List (α×γ)}{k:α}{v:γ},bx m k=some v->(k,v)∈m
 | [],_,_,h=>azm
 | (a,b)::m,k,v,h=>by
  simp only[bx]at h;split at h
  ·rename_i c;cases h;subst c;simp
  ·simp[iM h]
theorem uX{m:List (α×γ)}{k:α}:bx m k=none↔k∉m.map (·.1):=by
 induction m with
 | nil=>simp[bx]
 | cons e m ih=>
  obtain⟨a,b⟩:=e;simp only[bx,avV,av0,not_or];by_cases c:a=k
  ·simp[c]
  ·simp only[avj c,ih]
   exact⟨λh=>⟨λe=>c e.symm,h⟩,λh=>h.2⟩
theorem Po{m:List (α×γ)}{k:α}{v:γ}(hn:(m.map (·.1)).Nodup)(h:(k,v)∈m):bx m k=some v:=by
 induction m with
 | nil=>cases h
 | cons e m ih=>
  obtain⟨a,b⟩:=e;simp only[avV,axQ]at hn;simp only[bx];rcases List.mem_cons.1 h with h | h
  ·cases h;rw[avk U]
  ·rw[avj (λc=>hn.1 (by subst c;exact avT.2 ⟨_,h,U⟩)),ih hn.2 h]
theorem qX{m:List (α×γ)}{k x:α}{v:γ}:bx (cw m k v) x=if k=x then some v else bx m x:=by
 induction m with
 | nil=>simp[cw,bx]
 | cons e m ih=>
  obtain⟨a,b⟩:=e;simp only[cw];by_cases c:a=k
  ·subst c
   simp only[avk,bx];split<;>rfl
  ·rw[avj c]
   simp only[bx,ih];by_cases d:a=x
   ·subst d;rw[avk U,avj (λe=>c e.symm),avk U]
   ·simp[d]
theorem NG{m:List (α×γ)}{k:α}{v:γ}:(cw m k v).map (·.1)=if k∈m.map (·.1)then m.map (·.1)else m.map (·.1)++ [k]:=by
 induction m with
 | nil=>simp[cw]
 | cons e m ih=>
  obtain⟨a,b⟩:=e;simp only[cw];by_cases c:a=k
  ·subst c;simp
  ·rw[avj c]
   simp only[avV,ih,av0];by_cases d:k∈m.map (·.1)
   ·rw[avk d,avk (.inr d)]
   ·rw[avj d,avj (by rintro(e | e);exact c e.symm;exact d e)];rfl
theorem AO{m:List (α×γ)}{k:α}{v:γ}(h:(m.map (·.1)).Nodup):((cw m k v).map (·.1)).Nodup:=by
 rw[NG];split
 ·exact h
 ·rename_i c
  exact List.nodup_append.2 ⟨h,ayW,λa ha b hb e=>by simp at hb;subst hb;subst e;exact c ha⟩
theorem sR{m:List (α×γ)}{k:α}{v:γ}{e:α×γ}(h:e∈cw m k v):e=(k,v)\/e∈m:=by
 induction m with
 | nil=>simp[cw]at h;exact .inl h
 | cons a m ih=>
  obtain⟨a,b⟩:=a;simp only[cw]at h;split at h
  ·rcases List.mem_cons.1 h with h | h
   ·exact .inl h
   ·exact .inr azw
  ·rcases List.mem_cons.1 h with h | h
   ·exact .inr azw
   ·exact(ih h).imp id λq=>by simp[q]
theorem IJ{m:List (α×γ)}{k:α}(hn:(m.map (·.1)).Nodup):jR m k=m.filter λe=>!decide (e.1=k):=by
 induction m with
 | nil=>rfl
 | cons e m ih=>
  obtain⟨a,b⟩:=e;simp only[avV,axQ]at hn;simp only[jR];by_cases c:a=k
  ·subst c
   rw[avk rfl,awC,avj ayW];exact(awL.2 λe he=>by
    simp only[axj,axo];exactλq=>hn.1 (by rw[<-q];exact avT.2 ⟨e,he,U⟩)).symm
  ·rw[avj c,awC,avk ayY,ih hn.2]
theorem ach{m:List (α×γ)}{k:α}{v:γ}(hn:(m.map (·.1)).Nodup)(hk:k∈m.map (·.1)):cw m k v=m.map λe=>if e.1=k then(e.1,v)else e:=by
 induction m with
 | nil=>cases hk
 | cons e m ih=>
  obtain⟨a,b⟩:=e;simp only[avV,axQ]at hn;simp only[cw,avV];by_cases c:a=k
  ·subst c
   rw[avk rfl,avk rfl];congr 1;refine(List.map_id' m).symm.trans (awK λe he=>?_)
   rw[avj (λq=>hn.1 (by rw[<-q];exact avT.2 ⟨e,he,rfl⟩))]
  ·rw[avj c,avj c]
   congr 1;refine ih hn.2 ?_;simp only[avV,av0]at hk;exact hk.resolve_left λq=>c q.symm
end
theorem HU{α γ δ:Type}[DecidableEq α]{f:α->γ->δ}:∀{l:List (α×γ)}{k:α},bx (l.map λe=>(e.1,f e.1 e.2)) k=(bx l k).map (f k)
 | [],_=>rfl
 | (a,b)::l,k=>by
  simp only[avV,bx];by_cases c:a=k
  ·subst c;simp
  ·simp[c,HU]
def HM(l:List ByteArray)(k:ByteArray):Bool:=l.any λx=>decide (x=k)
theorem mK{l:List ByteArray}:HM l k=true↔k∈l:=by
 unfold HM;rw[awO];exact⟨λ⟨x,h1,h2⟩=>by rw[<-awf h2];exact h1,λh=>⟨k,h,ayW⟩⟩
theorem uV{l:List ByteArray}:HM l k=false↔k∉l:=by
 rw[<-Bool.not_eq_true,mK]
theorem ali{m:List (ByteArray×γ)}{v:γ}:(cw m k v).map (·.1)=if HM (m.map (·.1)) k then m.map (·.1)else m.map (·.1)++ [k]:=by
 rw[NG];by_cases c:k∈m.map (·.1)
 ·rw[avk c,avk (mK.2 c)]
 ·rw[avj c,avj (λq=>c<|mK.1 q)]
structure GC(n:Nat)(k:ByteArray)(l:List aa):Prop where
 sorted:gB l
 good:∀v,v∈l->GV n v/\v.Key=k
theorem GC.nil(n:Nat)(k:ByteArray):GC n k []:=⟨List.Pairwise.nil,λv h=>ay4⟩
theorem GC.mono{n m:Nat}{k:ByteArray}{l:List aa}(h:GC n k l)(hn:n<=m):GC m k l:=⟨h.sorted,λv hv=>⟨(h.good v hv).1.mono hn,(h.good v hv).2⟩⟩
theorem fN{s:ai}:dh s=true↔1<=s.N/\s.N<=1099511627776/\0<=s.Site/\s.Site<6:=by simp[dh]
theorem GC.len(h:GC n k l):l.length<=6*n+6:=by
 have:=Gh (l:=l.map λv=>(6*v.aq.N+v.aq.Site).toNat) (a:=0) (n:=6*n+6) (by
  rw[axT];refine h.sorted.imp_of_mem λ{a b} ha hb hab=>?_;have h1:=fN.1 (h.good a ha).1.st
  have h2:=fN.1 (h.good b hb).1.st
  rcases oK.1 hab with h3 | ⟨h3,h4⟩<;>omega) (λx hx=>by
  obtain⟨v,hv,rfl⟩:=avT.1 hx;have h1:=fN.1 (h.good v hv).1.st
  have h2:=(h.good v hv).1.le
  omega)
 simpa using this
theorem GC.filter{n:Nat}{k:ByteArray}{l:List aa}(h:GC n k l)(p:aa->Bool):GC n k (l.filter p):=⟨h.sorted.filter p,λv hv=>h.good v (awc.1 hv).1⟩
theorem GC.ins(h:GC n k l)(hv:GV n v)(hk:v.Key=k)(hf:∀x,x∈l->x.aq≠v.aq):GC n k (yu v l):=
 ⟨xE h.sorted hf,λx hx=>(fK.1 hx).elim (λe=>by subst e;exact⟨hv,hk⟩)<|h.good x⟩
theorem GC.last(h:GC n k l):(dx l).2=true->GV n (dx l).1/\(dx l).1.Key=k:=λq=>h.good _ (qV (AL q))
theorem uW(hs:gB l):dx l=(v,true)↔v∈l/\∀x,x∈l->zb x.aq v.aq:=by
 constructor
 ·exactλh=>⟨qV h,λx hx=>RT hs h hx⟩
 ·rintro⟨h1,h2⟩
  rcases oQ l with rfl | ⟨l',u,rfl⟩
  ·cases h1
  ·rw[iL]
   rcases List.mem_append.1 h1 with h3 | h3
   ·have h4:=(ax1.1 hs).2.2 v h3 u ayW
    have h5:=h2 u ayW;rw[zb,h4]at h5;cases h5
   ·simp at h3;rw[h3]
theorem qW(h:l≠[]):(dx l).2=true:=by
 rcases oQ l with rfl | ⟨l',u,rfl⟩
 ·exact absurd U h
 ·rw[iL]
theorem I5(hl:l.length<=140737488355328)(hs:gB l)(hp:∀v,v∈l->v.bz.length<=140737488355328)(hpl:pins.length<=140737488355328)(mA:ai)(v:aa):sI l mA pins v=some (Fg l mA pins v):=by
 have h1:∀(x:aa)(b:Bool),x.bz.length<=140737488355328->ko x b v=some (b&&decide (x=v)):=λx b hx=>by
  unfold ko;cases b with
  | false=>rfl
  | true=>
   rw[avk rfl,QA hx];simp
 have Ww:∀q:List aa,(∀x,x∈q->x∈l)->(dx q).1.bz.length<=140737488355328:=λq hq=>by
  rcases oQ q with rfl | ⟨l',u,rfl⟩
  ·simp[dx]
  ·rw[iL];exact hp u (hq u<|by simp)
 have hb:(Ou l mA).1.bz.length<=140737488355328:=Ww _ λx hx=>(awc.1 hx).1
 have hh:(dx l).1.bz.length<=140737488355328:=Ww _ λx hx=>hx
 unfold sI vD vE Fg;simp only[yP hpl,ji,El hl,JU hl hs,avi,h1 _ _ hb,h1 _ _ hh,aiz];cases decide (v.aq∈pins)<;>cases bM v.aq mA<;>cases((dx l).2&&decide ((dx l).1=v))<;>simp
theorem I4(hl:l.length<=1099511627)(hs:gB l)(hp:∀v,v∈l->v.bz.length<=140737488355328)(hpl:pins.length<=140737488355328)(mA:ai):ow l mA pins=some (jo l mA pins):=by
 unfold ow;rw[fU ayT ayT];simp only[avi];rw[j9 (p:=λv=>!Fg l mA pins v) (λx _=>by
  unfold ng;rw[I5 ayT hs hp hpl];rfl) ayT]
 simp[jo]
structure uO(n:Nat)(s:aM):Prop where
 nd:(s.aZ.map (·.1)).Nodup
 good:∀e,e∈s.aZ->L8 e.1/\GC n e.1 e.2/\e.2≠[]
 rl:s.ranges.length<=8
theorem uO.mono{n m:Nat}{s:aM}(h:uO n s)(hn:n<=m):uO m s:=⟨h.nd,λe he=>⟨(h.good e he).1,(h.good e he).2.1.mono hn,(h.good e he).2.2⟩,h.rl⟩
theorem uO.key{s:aM}(h:uO n s)(hk:k∈s.aZ.map (·.1)):L8 k:=by
 obtain⟨e,he,rfl⟩:=avT.1 hk;exact(h.good e he).1
theorem uO.chain{s:aM}(h:uO n s)(k:ByteArray):GC n k (aQ s k):=by
 unfold aQ;cases e:bx s.aZ k with
 | none=>exact GC.nil n k
 | some l=>exact(h.good (k,l)<|iM e).2.1
theorem uO.aav{s:aM}(h:uO n s):k∈s.aZ.map (·.1)↔aQ s k≠[]:=by
 unfold aQ;cases e:bx s.aZ k with
 | none=>simp[uX.1 e]
 | some l=>
  refine⟨λ_=>(h.good (k,l)<|iM e).2.2,λ_=>avT.2 ⟨_,iM e,U⟩⟩
theorem Oe{l:List ByteArray}(hn:l.Nodup)(hk:∀k,k∈l->L8 k):l.length<=8:=by
 have key:∀(m:Nat)(l:List ByteArray),l.Nodup->(∀k,k∈l->∃n,n<m/\k=kl n)->l.length<=m:=by
  intro m
  induction m with
  | zero=>
   intro l _ hk;cases l with
   | nil=>simp
   | cons a l=>obtain⟨n,h,_⟩:=hk a ayW;omega
  | succ m ih=>
   intro l hn hk;have h1:=ih (l.filter λk=>!decide (k=kl m)) (hn.filter _) λk hk'=>by
    obtain⟨h2,h3⟩:=awc.1 hk';obtain⟨n,h4,rfl⟩:=hk k h2;refine⟨n,?_,U⟩;rcases Nat.lt_or_ge n m with h | h
    ·exact h
    ·have:n=m:=by omega
     subst this;simp at h3
   have h2:l.length<=(l.filter λk=>!decide (k=kl m)).length+1:=by
    clear h1 hk ih
    induction l with
    | nil=>simp
    | cons a l ih=>
     simp only[axQ]at hn;simp only[awC,avv];by_cases c:a=kl m
     ·subst c
      rw[avj ayW,awL.2 λk hk=>by
       simp only[axj,axo];exactλe=>hn.1 (by rw[<-e];exact hk)]
      omega
     ·rw[avk ayY]
      have:=ih hn.2;simp only[avv];omega
   omega
 exact key 8 l hn hk
theorem uO.Pk{s:aM}(h:uO n s):s.aZ.length<=8:=by
 have:=Oe h.nd λk hk=>h.key hk;simpa using this
theorem alb:∀a,a<8->∀b,b<8->decide ((kl a).data.toList<=(kl b).data.toList)=decide (a<=b):=by decide +kernel
theorem Bl(l:List ByteArray):(cQ l).Perm l:=by
 unfold cQ;have h:=(List.mergeSort_perm (l.map λs=>s.data.toList) λx y=>decide (x<=y)).map λb=>(⟨b.toArray⟩:ByteArray)
 refine h.trans (List.Perm.of_eq ?_);rw[ax3];exact(awK λs _=>rfl).trans (List.map_id' l)
theorem DU{l:List ByteArray}:k∈cQ l↔k∈l:=(Bl l).mem_iff
theorem Qg{l:List ByteArray}(hn:l.Nodup)(hk:∀k,k∈l->L8 k):(cQ l).Pairwise λa b=>slt a b=true:=by
 have h1:(cQ l).Pairwise λa b=>decide (a.data.toList<=b.data.toList)=true:=by
  unfold cQ;rw[axT];exact List.pairwise_mergeSort (le:=λx y:List UInt8=>decide (x<=y)) (λa b c h1 h2=>by
   simp only[awe]at *;exact List.le_trans h1 h2) (λa b=>by
   simp only[awX,awe];exact List.le_total a b) _
 have h2:(cQ l).Pairwise (·≠·):=(Bl l).nodup_iff.2 hn
 refine(h1.and h2).imp_of_mem λ{a b} ha hb h=>?_
 obtain⟨n,hn,rfl⟩:=hk a (DU.1 ha);obtain⟨m,hm,rfl⟩:=hk b (DU.1 hb);rw[ab7 n hn m hm];rw[alb n hn m hm]at h;have h3:=awf h.1;have h4:n≠m:=λe=>h.2 (by rw[e]);exact avP ayT
theorem GW(l:List ByteArray):(cQ l).length=l.length:=(Bl l).length_eq
def sO(s:aM):List ah:=(cQ (s.aZ.map (·.1))).map λk=>⟨k,(dx (aQ s k)).1.aq⟩
theorem wQ{s:aM}(h:uO n s)(hn:n<=100000)(k:ByteArray):mh s k=some (aQ s k):=by
 have:=(h.chain k).len
 unfold mh;rw[fU ayT ayT];rfl
theorem EK{s:aM}(h:uO n s)(hn:n<=100000)(k:ByteArray):rz s k=some (dx (aQ s k)):=by
 have:=(h.chain k).len
 unfold rz;rw[wQ h hn];simp only[avi];rw[El ayT];rfl
theorem SD{s:aM}(h:uO n s)(hn:n<=100000)(k:ByteArray)(x:ai):Db s k x=some (atP (aQ s k) x):=by
 have:=(h.chain k).len
 unfold Db;rw[wQ h hn];simp only[avi];rw[Ir ayT (h.chain k).sorted];rfl
theorem DD{s:aM}(h:uO n s):(cQ (s.aZ.map (·.1))).length<=8:=by
 rw[GW];simpa using h.Pk
theorem EL{s:aM}(h:uO n s):mj s=some (cQ (s.aZ.map (·.1))):=avk ⟨h.nd,by have:=h.Pk;omega,λe he=>by rw[(h.good e he).1.size];omega⟩
theorem DB{s:aM}(h:uO n s):(sO s).length<=8:=by
 have:=DD h;simpa[sO]using this
theorem AB{s:aM}(h:uO n s):bY (sO s):=by
 unfold sO bY;rw[axT];exact Qg h.nd λk hk=>h.key hk
theorem MH{s:aM}(h:uO n s)(hn:n<=100000):ry s=some (sO s):=by
 unfold ry;rw[EL h];simp only[avi];have hl:=DD h;unfold sO;generalize cQ (s.aZ.map (·.1))=ks at hl ⊢;refine(pU (S:=List ah) ks (λo i=>(i,o)) (λl o=>some<|o++l.map λk=>⟨k,(dx<|aQ s k).1.aq⟩) (λi o=>o.length=i) ?_ ?_ (s0:=[]) U<|by omega).trans ayW
 ·intro again o _
  unfold uG;rw[avj ayW];simp
 ·intro again i o hi ho cW
  unfold uG;rw[avk ay8];simp only[bp hi,avi];rw[EK h hn];simp only[avi];rw[cJ ayV ayV];simp only[avi];rw[wrap64 ayT ayT,cW _ (by simp[ho]),avV,av6];rfl
def nB(s:aM)(v:aa):Bool:=eP s.ranges v.Key&& !(aQ s v.Key).any λx=>decide (x.aq=v.aq)
def fX(s:aM)(v:aa):aM:=if nB s v then{ s with aZ:=cw s.aZ v.Key (yu v (aQ s v.Key)) }else s
theorem vP{l:List au}(hl:l.length<=140737488355328)(k:ByteArray):∃i:Int,fT l k=some i/\decide (i<0)= !eP l k/\decide (0<=i)=eP l k:=by
 refine⟨_,AK hl k,?_,zx _ _⟩;have:=zx (λr=>Gd r k) l;unfold eP;rw[<-this];by_cases c:fidx (λr=>Gd r k) l<0
 ·rw[avP c,avY ayT];rfl
 ·rw[avY c,avP ayT];rfl
theorem Be{s:aM}(h:uO n s)(hn:n<=100000)(hv:GV n v):zW s v=some (nB s v,fX s v):=by
 have hl:=(h.chain v.Key).len
 obtain⟨i,h1,h2,_⟩:=vP (l:=s.ranges) (by have:=h.rl;omega) v.Key;unfold zW;rw[h1];simp only[avi,h2];unfold fX nB;cases ho:eP s.ranges v.Key with
 | false=>simp
 | true=>
  simp only[avJ,avn,avB,axe];rw[Oy ayT (h.chain v.Key).sorted hv.small];simp only[avi];unfold aiA;have hk:N2 (aQ s v.Key) v.Key=true:=by
   unfold N2;split
   ·rfl
   ·rename_i x l e
    exact avP ((h.chain v.Key).good x (by rw[e];simp)).2
  rw[hv.ok,hk];simp only[axe];cases(aQ s v.Key).any λx=>decide (x.aq=v.aq)with
  | false=>simp
  | true=>simp
theorem ou(s:aM)(v:aa)(k:ByteArray):aQ (fX s v) k=if nB s v=true/\v.Key=k then yu v (aQ s k)else aQ s k:=by
 unfold fX;by_cases c:nB s v=true
 ·rw[avk c]
  unfold aQ;rw[qX];by_cases e:v.Key=k
  ·subst e;rw[avk U,avk ⟨c,U⟩];rfl
  ·rw[avj e,avj λq=>e q.2]
 ·rw[avj c,avj λq=>c q.1]
theorem sX(s:aM)(v:aa):(fX s v).ranges=s.ranges:=by unfold fX;split<;>rfl
theorem R9{s:aM}(h:nB s v=true):∀x,x∈aQ s v.Key->x.aq≠v.aq:=λx hx=>by
 unfold nB at h;simp only[avA,axj,aw8,awe]at h;exact h.2 x hx
theorem uO.put{s:aM}(h:uO n s)(hv:GV n v):uO n (fX s v):=by
 unfold fX;by_cases c:nB s v=true
 ·rw[avk c]
  refine⟨AO h.nd,λe he=>?_,h.rl⟩;rcases sR he with rfl | he
  ·refine⟨hv.key,(h.chain v.Key).ins hv U<|R9 c,λq=>?_⟩
   have:v∈yu v (aQ s v.Key):=fK.2 (.inl U);simp only at q;rw[q]at this;cases this
  ·exact h.good e he
 ·rw[avj c];exact h
theorem HX(s:aM)(v:aa):(fX s v).aZ.map (·.1)=if(nB s v&& !HM (s.aZ.map (·.1)) v.Key)=true then s.aZ.map (·.1)++ [v.Key]else s.aZ.map (·.1):=by
 unfold fX;cases c:nB s v with
 | true=>
  rw[avk rfl];simp only;rw[ali];cases HM (s.aZ.map (·.1)) v.Key<;>simp
 | false=>simp
def jd(k:ByteArray)(pins:List ah):List ai:=(pins.filter λd=>decide (d.Key=k)).map (·.aq)
def m0(s:aM)(st:ai)(pins:List ah):aM:={ s with aZ:=s.aZ.map λe=>(e.1,jo e.2 st (jd e.1 pins)) }
theorem Ek(s:aM)(st:ai)(pins:List ah)(k:ByteArray):aQ (m0 s st pins) k=jo (aQ s k) st (jd k pins):=by
 unfold aQ m0;simp only;rw[HU (f:=λk l=>jo l st<|jd k pins)];cases bx s.aZ k<;>rfl
theorem Iu(s:aM)(st:ai)(pins:List ah):(m0 s st pins).aZ.map (·.1)=s.aZ.map (·.1):=by
 unfold m0;simp only[ax3];rfl
theorem XE{st:ai}(h:l≠[]):jo l st pins≠[]:=λe=>by
 have:=JW l st pins;rw[e]at this;have h2:=qW h;rw[<-this]at h2;cases h2
theorem uO.clean{s:aM}(h:uO n s)(st:ai)(pins:List ah):uO n (m0 s st pins):=by
 refine⟨by rw[Iu];exact h.nd,λe he=>?_,h.rl⟩;obtain⟨a,ha,rfl⟩:=avT.1 he;obtain⟨h1,h2,h3⟩:=h.good a ha;exact⟨h1,h2.filter _,XE h3⟩
theorem H9{pins:List ah}(hp:pins.length<=1000)(key:ByteArray)(kx:List ai->Option (Unit×aM)):aR (ku pins key kx) FU (0,[])=kx (jd key pins):=by
 refine(pU (S:=List ai) pins (λo i=>(i,o)) (λl o=>kx<|o++jd key l) (λi o=>o.length<=i) ?_ ?_ (s0:=[]) (avq _)<|by omega).trans ayW
 ·intro again o _
  unfold ku;rw[avj ayW];show kx o=kx (o++ []);rw[awY]
 ·intro again i o hi ho cW
  unfold ku;rw[avk ay8];simp only[bp hi,avi,seq_eq];rw[wrap64 ayT ayT];by_cases c:pins[i].Key=key
  ·rw[avk ayY,cJ ayV ayV]
   simp only[avi];rw[cW _ ayV];have:jd key (pins[i] ::pins.drop (i+1))=pins[i].aq::jd key (pins.drop<|i+1):=by
    unfold jd;rw[awC,avk ayY];rfl
   rw[this,av6];rfl
  ·rw[avj ayY,cW _ ayT]
   have:jd key (pins[i] ::pins.drop (i+1))=jd key (pins.drop<|i+1):=by
    unfold jd;rw[awC,avj ayY]
   rw[this]
theorem kr{l:List α}(h:i<l.length){x:α}:x∈l.take (i+1)↔x∈l.take i\/x=l[i]:=by
 rw[List.take_succ_eq_append_getElem h,av1,axn]
theorem RK{l:List ByteArray}(h:i<l.length)(d:k≠l[i]):HM (l.take (i+1)) k=HM (l.take i) k:=by
 cases c:HM (l.take i) k with
 | true=>exact mK.2 ((kr h).2<|.inl<|mK.1 c)
 | false=>exact uV.2 λq=>((kr h).1 q).elim (uV.1 c) d
theorem LB{s:aM}(h:uO n s)(hn:n<=100000)(st:ai){pins:List ah}(hp:pins.length<=1000):oV s st pins=some ((),m0 s st pins):=by
 unfold oV;rw[EL h];simp only[avi];have hl:=DD h;have hnd:(cQ (s.aZ.map (·.1))).Nodup:=(Bl _).nodup_iff.2 h.nd
 have hmem:∀k,k∈cQ (s.aZ.map (·.1))↔k∈s.aZ.map (·.1):=λk=>DU;generalize cQ (s.aZ.map (·.1))=ks at hl hnd hmem ⊢;refine bw (λ(v:Int×aM)=>∃i:Nat,v.1=i/\i<=ks.length/\v.2= { s with aZ:=s.aZ.map λe=>if HM (ks.take i) e.1 then(e.1,jo e.2 st (jd e.1 pins))else e }) (λv=>((ks.length:Int)-v.1).toNat) (λ_=>some ((),m0 s st pins)) ?_ FU (0,s) ⟨0,U,av5 _,by simp[HM]⟩ ay0;rintro again ⟨i',u⟩ ⟨i,hi',hi,hu⟩ cW;simp only at hi' hu;subst hi' hu;unfold sy;simp only;by_cases c:i<ks.length
 ·rw[avk ayY,bp c]
  simp only[avi];rw[H9 hp];have hk:ks[i]∈s.aZ.map (·.1):=(hmem _).1 (avu c)
  have hni:ks[i]∉ks.take i:=λq=>by
   obtain⟨j,hj,e⟩:=avO q;rw[axk]at e;simp only[avC]at hj;have:=(awu.1 hnd) j i ayT c ayT;exact this e
  have hch:aQ { s with aZ:=s.aZ.map λe=>if HM (ks.take i) e.1 then(e.1,jo e.2 st (jd e.1 pins))else e } ks[i] =aQ s ks[i]:=by
   unfold aQ;simp only;have e1:(s.aZ.map λe=>if HM (ks.take i) e.1 then(e.1,jo e.2 st (jd e.1 pins))else e)=s.aZ.map λe=>(e.1,(λk l=>if HM (ks.take i) k then jo l st (jd k pins)else l) e.1 e.2):=awK λe _=>by
    cases q:HM (ks.take i) e.1<;>simp[q]
   rw[e1,HU (f:=λk l=>if HM (ks.take i) k then jo l st (jd k pins)else l)];cases bx s.aZ ks[i]with
   | none=>rfl
   | some l=>simp only[awq,av7];rw[avj (λq=>hni<|mK.1 q)]
  rw[hch];have hlc:=(h.chain ks[i]).len
  rw[I4 ayT (h.chain ks[i]).sorted (λv hv=>by have:=((h.chain ks[i]).good v hv).1.past.len;omega) (by
   have:(jd ks[i] pins).length<=pins.length:=by
    unfold jd;rw[avN];exact aw5 _ _
   omega)]
  simp only[avi];rw[wrap64 ayT ayT];refine cW _ ⟨i+1,ayW,ayT,?_⟩ ayU;simp only;congr 1;rw[ach (by
   simp only[ax3];have e2:((·.1)∘λe:ByteArray×List aa=>if HM (ks.take i) e.1 then(e.1,jo e.2 st (jd e.1 pins))else e)=λe=>e.1:=funext λe=>by
    simp only[Function.comp];split<;>rfl
   rw[e2];exact h.nd) (by
   simp only[ax3];have e2:((·.1)∘λe:ByteArray×List aa=>if HM (ks.take i) e.1 then(e.1,jo e.2 st (jd e.1 pins))else e)=λe=>e.1:=funext λe=>by
    simp only[Function.comp];split<;>rfl
   rw[e2];exact hk)]
  rw[ax3];refine awK λe he=>?_;simp only[Function.comp];by_cases d:e.1=ks[i]
  ·have d2:HM (ks.take i) e.1=false:=uV.2 (by rw[d];exact hni)
   have d3:HM (ks.take<|i+1) e.1=true:=mK.2 ((kr c).2<|.inr d);have:aQ s ks[i] =e.2:=by rw[<-d];unfold aQ;rw[Po h.nd he];rfl
   rw[d2,d3];simp[d,this]
  ·cases d2:HM (ks.take i) e.1 with
   | true=>
    have d3:HM (ks.take<|i+1) e.1=true:=mK.2 ((kr c).2<|.inl<|mK.1 d2);rw[d3];simp[d]
   | false=>
    have d3:HM (ks.take<|i+1) e.1=false:=uV.2 λq=>((kr c).1 q).elim (uV.1 d2) d
    rw[d3];simp[d]
 ·have hi2:i=ks.length:=by omega
  subst hi2;rw[avj ayW];unfold m0;congr 3;refine awK λe he=>?_;rw[axc,avk (mK.2<|(hmem _).2<|avT.2 ⟨e,he,rfl⟩)]
def wh(s:aM)(l:List au):aM:={ ranges:=l,aZ:=s.aZ.filter λe=>eP l e.1 }
theorem ur{s:aM}(h:uO n s)(l:List au)(k:ByteArray):aQ (wh s l) k=if eP l k then aQ s k else[]:=by
 unfold aQ wh;simp only;cases e:bx s.aZ k with
 | none=>
  have:bx (s.aZ.filter λe=>eP l e.1) k=none:=uX.2 λq=>by
   obtain⟨a,ha,rfl⟩:=avT.1 q;exact uX.1 e (avT.2 ⟨a,(awc.1 ha).1,U⟩)
  rw[this];simp
 | some c=>
  by_cases o:eP l k=true
  ·have:bx (s.aZ.filter λe=>eP l e.1) k=some c:=Po (h.nd.sublist<|List.filter_sublist.map _) (awc.2 ⟨iM e,o⟩)
   rw[this,avk o]
  ·have:bx (s.aZ.filter λe=>eP l e.1) k=none:=uX.2 λq=>by
    obtain⟨a,ha,rfl⟩:=avT.1 q;exact o (awc.1 ha).2
   rw[this,avj o];rfl
theorem uO.move{s:aM}(h:uO n s){l:List au}(hl:l.length<=8):uO n (wh s l):=
 ⟨h.nd.sublist<|List.filter_sublist.map _,λe he=>h.good e (awc.1 he).1,hl⟩
theorem KK(s:aM)(l:List au):(wh s l).aZ.map (·.1)=(s.aZ.map (·.1)).filter (eP l):=by
 unfold wh;simp only[List.filter_map];rfl
theorem ig{s:List au}(hl:s.length<=1099511627776)(hl2:s.length*32<=140737488355328):di s=some s:=by
 unfold di;rw[cJ azd azL];rfl
theorem MI{s:aM}(h:uO n s){l:List au}(hr:l.length<=8):wR s l=some ((),wh s l):=by
 unfold wR;have hks:mj { s with ranges:=l } =some (cQ (s.aZ.map (·.1))):=avk ⟨h.nd,by have:=h.Pk;show s.aZ.length<=_;omega,λe he=>by rw[(h.good e he).1.size];omega⟩;rw[ig ayT ayT,avi,hks,avi];have hl:=DD h;have hmem:∀k,k∈cQ (s.aZ.map (·.1))↔k∈s.aZ.map (·.1):=λk=>DU;generalize cQ (s.aZ.map (·.1))=ks at hl hmem ⊢;refine bw (λ(v:Int×aM)=>∃i:Nat,v.1=i/\i<=ks.length/\v.2= { ranges:=l,aZ:=s.aZ.filter λe=>!HM (ks.take i) e.1||eP l e.1 }) (λv=>((ks.length:Int)-v.1).toNat) (λ_=>some ((),wh s l)) ?_ FU (0,{ s with ranges:=l }) ⟨0,U,av5 _,by
  simp only[List.take_zero];congr 1;exact(awL.2 λ_ _=>rfl).symm⟩ ay0
 rintro again ⟨i',u⟩ ⟨i,hi',hi,hu⟩ cW;simp only at hi' hu;subst hi' hu;unfold Bd;simp only;by_cases c:i<ks.length
 ·rw[avk ayY,bp c]
  simp only[avi];obtain⟨f,h1,h2,_⟩:=vP (l:=l) ayT ks[i];rw[h1];simp only[avi,h2];rw[wrap64 ayT ayT];cases ho:eP l ks[i]with
  | true=>
   rw[avj ayW];refine cW _ ⟨i+1,ayW,ayT,?_⟩ ayU;simp only;congr 1;refine ayL λe _=>?_;by_cases d:e.1=ks[i]
   ·rw[d,ho];simp
   ·rw[RK c d]
  | false=>
   rw[avk ayW];refine cW _ ⟨i+1,ayW,ayT,?_⟩ ayU;simp only;congr 1;rw[IJ (h.nd.sublist<|List.filter_sublist.map _),List.filter_filter];refine ayL λe _=>?_;by_cases d:e.1=ks[i]
   ·rw[mK.2 ((kr c).2<|.inr d),d,ho];simp
   ·rw[RK c d,avY d];simp
 ·have hi2:i=ks.length:=by omega
  subst hi2;rw[avj ayW];unfold wh;congr 3;refine ayL λe he=>?_;rw[axc,mK.2 ((hmem _).2<|avT.2 ⟨e,he,rfl⟩)];rfl
def E7(l:List (List Int)):List (List Int):=l.flatMap λp=>(List.range p.length).map λ(i:Nat)=>p++ [Int.ofNat i]
def trees:List (List Int):=[[-1,0]] ++(E7 [[-1,0]] ++(E7 (E7 [[-1,0]])++E7 (E7 (E7 [[-1,0]]))))
theorem LO:∀p,p∈trees->xh p=some true:=by decide +kernel
def oO(p:List Int)(a:Nat):List Int:=(vu p a).getD []
theorem MQ:∀p,p∈trees->∀a,a<p.length->vu p a=some (oO p a):=by decide +kernel
theorem MR:∀p,p∈trees->∀a,a<p.length->∀b,b<p.length->(Ac p a b).isSome=true:=by decide +kernel
theorem N6:∀p,p∈trees->2<=p.length/\p.length<=5:=by decide +kernel
theorem mq{s:List ByteArray}{f:ByteArray->Option Bool}{p:ByteArray->Bool}(hf:∀x,x∈s->f x=some (p x))(hl:s.length<=140737488355328):dK s f=some (fidx p s):=by
 unfold dK;refine bw (λv=>0<=v/\v<=(s.length:Int)/\∀j(hj:j<s.length),(j:Int)<v->p s[j] =false) (λv=>(s.length-v).toNat) (λ_=>some<|fidx p s) ?_ FU _ ⟨avK _,ayT,λj _ h=>ayT⟩ ?_
 ·rintro again v ⟨h1,h2,h3⟩ cW
  unfold mz;by_cases c:v<(s.length:Int)
  ·obtain⟨i,rfl⟩:∃i:Nat,v=i:=⟨v.toNat,ayT⟩
   have hi:i<s.length:=by omega
   rw[avk ayY,bp hi];simp only[avi,hf _ (avu hi)];cases hp:p s[i]with
   | true=>simp only[avM];rw[uS hi hp (λj hj h=>h3 j hj<|by omega)]
   | false=>
    simp only[avn,avB];rw[wrap64 ayT ayT];refine cW _ ⟨ayT,ayT,λj hj h=>?_⟩ ayT;rcases Nat.lt_or_ge j i with h4 | h4
    ·exact h3 j hj ayT
    ·rw[show s[j] =s[i]from by congr 1;omega];exact hp
  ·rw[avj ayY]
   simp only[ie];rw[uR λj hj=>h3 j hj<|by omega]
 ·have:=bF
  omega
theorem kV{s:List ByteArray}{f:ByteArray->Option Bool}{p:ByteArray->Bool}(hf:∀x,x∈s->f x=some (p x))(hl:s.length<=140737488355328):cN s f=some (s.filter λx=>!p x):=by
 unfold cN;rw[mq hf hl];simp only[avi];rcases gQ p s with⟨k,hk,hpk,hlo,he⟩ | ⟨hno,he⟩
 ·rw[he,avj ayW,wrap64 ayT ayT]
  refine bw (λv=>0<=v.1/\v.1<v.2.1/\v.2.1<=(s.length:Int)/\v.2.2.length=s.length/\v.2.2.take v.1.toNat=(s.take v.2.1.toNat).filter (λx=>!p x)/\v.2.2.drop v.2.1.toNat=s.drop v.2.1.toNat)
   (λv=>((s.length:Int)-v.2.1).toNat) (λ_=>some<|s.filter λx=>!p x) ?_ FU _ ?_ ?_
  ·rintro again ⟨a,b,row⟩ ⟨h1,h2,h3,h4,h5,h6⟩ cW
   simp only at h1 h2 h3 h4 h5 h6;obtain⟨i,rfl⟩:∃i:Nat,a=i:=⟨a.toNat,ayT⟩;obtain⟨j,rfl⟩:∃j:Nat,b=j:=⟨b.toNat,ayT⟩;simp only[avp]at h5 h6;unfold kW;simp only;by_cases c:j<s.length
   ·have hx:row[j]' ayT=s[j]:=by
     have e1:(row.drop j)[0]? =(s.drop j)[0]? :=by rw[h6]
     simp only[awm,awE]at e1;rw[avs ayT,avs c]at e1;exact aww e1
    have ud:(s.take<|j+1).filter (λx=>!p x)=(s.take j).filter (λx=>!p x)++if p s[j]then[]else[s[j]]:=by
     rw[awQ,avs c,aw1];cases hp:p s[j]<;>simp[hp]
    rw[avk ayV,bp (show j<row.length by omega),hx];simp only[avi,hf _ (avu c)];have e2:IntKind.wrap .i64 ((j:Int)+1)=((j+1:Nat):Int):=by rw[wrap64 ayT ayT];omega
    have e3:IntKind.wrap .i64 ((i:Int)+1)=((i+1:Nat):Int):=by rw[wrap64 ayT ayT];omega
    have qC:row.drop (j+1)=s.drop (j+1):=by rw[<-awV,h6,awV]
    cases hp:p s[j]with
    | true=>
     simp only[avJ,avn,avB,e2];exact cW _ ⟨ayU,ayU,ayU,h4,azZ,aAa⟩ ayU
    | false=>
     simp only[awG,avM,e2,e3];have Fe:sets row (i:Int) s[j] =some (row.set i s[j]):=by simp only[sets];rw[avk ⟨ayT,ayT⟩];simp
     rw[bp (show i<row.length by omega)];simp only[avi];rw[Fe];simp only[avi];refine cW _ ⟨ayU,ayU,ayU,az6,?_,?_⟩ ayU
     ·simp only[avp]
      rw[ud,hp,<-h5,awQ,awz];simp only[avM];rw[avk ayT,List.take_set,ax4 ayV];simp
     ·simp only[avp]
      rw[ayy ayT];exact qC
   ·have hj:j=s.length:=by omega
    subst hj;rw[avj ayV];simp only[gz];have hz:∀z:ByteArray,m9 row (i:Int) z=some (row.take i++List.replicate (row.length-i) z):=λz=>azH;rw[hz];simp only[avi];have hs:∀z:ByteArray,sub (row.take i++List.replicate (row.length-i) z) 0 (i:Int)=some (row.take i):=λz=>by
     simp only[sub];rw[avk ⟨ayT,ayT,ayV⟩];simp only[Int.toNat_zero,axL,avp];rw[axt ayV,List.take_take,Nat.min_self]
    rw[hs];simp only[avi];rw[h5,axc]
  ·refine⟨ayU,ayU,ayU,U,?_,U⟩
   simp only[avp];rw[show((k:Int)+1).toNat=k+1 by omega,awQ,avs hk,aw1];have:(s.take k).filter (λx=>!p x)=s.take k:=awL.2 λx hx=>by
    obtain⟨q,hq,rfl⟩:=avO hx;simp only[avC]at hq;simp only[axk];rw[hlo q ayT ayT];rfl
   rw[this];simp[hpk]
  ·have:=bF
   simp only;omega
 ·rw[he,avk ayZ]
  rw[awL.2 λx hx=>aAP]
def BB:ByteArray->List ByteArray->Prop
 | _,[]=>True
 | a,b::l=>L8 b/\slt a b=true/\BB b l
structure eN(n:Nat)(c:aF):Prop where
 tree:c.aK∈trees
 len:c.aK.length=n
 Ti:∃bs,BB ByteArray.empty bs/\c.bP=eL ByteArray.empty bs
 rl:c.bP.length<=5
 ol:c.cq.length=c.bP.length
 own:∀o,o∈c.cq->1<=o/\o<2 ^ n
variable{c:aF}
theorem eN.n2(h:eN n c):2<=n/\n<=5:=by have:=N6 _ h.tree;rw[h.len]at this;exact this
theorem K5:∀(bs:List ByteArray)(a k:ByteArray),slt k a=false->eP (eL a bs) k=true
 | [],a,k,h=>by simp[eL,eP,Gd,h]
 | b::l,a,k,h=>by
  unfold eL eP;rw[List.any_cons];cases c:slt k b with
  | true=>simp[Gd,h,c]
  | false=>rw[show(eL b l).any (λr=>Gd r k)=true from K5 l b k c,Bool.or_true]
theorem eN.whole(h:eN n c)(k:ByteArray):eP c.bP k=true:=by
 obtain⟨bs,_,e⟩:=h.Ti;rw[e];exact K5 bs _ k (Zj k)
theorem lS:∀(bs:List ByteArray)(a:ByteArray),(eL a bs).length=bs.length+1
 | [],_=>rfl
 | b::l,a=>by simp[eL,lS l b]
theorem L8.ne(h:L8 k):k≠ByteArray.empty:=λe=>by have:=h.size;rw[e]at this;cases this
theorem pS(h:s=ByteArray.empty\/L8 s):oJ s=some true:=by
 unfold oJ;rw[seq_eq];rcases h with rfl | h
 ·simp
 ·rw[avj (by simpa using h.ne),rY (by rw[h.size];omega),h.ok];rfl
theorem Mi(h:eN n c):vZ c.bP=some true:=by
 obtain⟨bs,hb,e⟩:=h.Ti;have hl:=h.rl;have hpos:0<c.bP.length:=by rw[e,lS];omega
 unfold vZ;refine bw (λ(v:ByteArray×Int)=>∃i:Nat,v.2=i/\((i<c.bP.length/\(v.1=ByteArray.empty\/L8 v.1)/\(0<i->v.1≠ByteArray.empty)/\∃bs,BB v.1 bs/\c.bP.drop i=eL v.1 bs)\/(i=c.bP.length/\v.1=ByteArray.empty))) (λv=>((c.bP.length:Int)-v.2).toNat) (λ_=>some true) ?_ FU (ByteArray.empty,0) ⟨0,U,.inl ⟨hpos,.inl U,λq=>absurd q<|by omega,bs,hb,by rw[axL];exact e⟩⟩ ay0;rintro again ⟨y,i'⟩ ⟨i,hi',hI⟩ cW;simp only at hi' hI;subst hi';unfold yy;simp only;rcases hI with⟨hi,hy,hne,bs,hbb,hd⟩ | ⟨hi,hy⟩
 ·rw[avk ay8,bp hi,avi]
  have aE:c.bP[i] =(eL y bs)[0]'(by rw[lS];omega):=by
   have:(c.bP.drop i)[0]' ayV=c.bP[i]:=by simp
   rw[<-this];simp only[hd]
  have hnext:c.bP.drop (i+1)=(eL y bs).tail:=by rw[<-hd,List.tail_drop]
  cases bs with
  | nil=>
   simp only[eL,axi]at aE;have abM:qU c.bP[i] =some true:=by
    rw[aE];unfold qU;rw[pS hy];simp only[avi,avM];rw[pS (.inl rfl)];simp[uA,seq_eq]
   rw[abM,avi,avj ayW,aE];simp only[seq_eq,ayv,avJ];have Ww:i+1=c.bP.length:=by
    simp only[eL,List.tail_cons]at hnext;have:=awp List.length hnext;simp at this;omega
   have hgo:again (ByteArray.empty,IntKind.wrap .i64 ((i:Int)+1))=some true:=by
    rw[wrap64 ayT ayT];exact cW _ ⟨i+1,ayW,.inr ⟨Ww,U⟩⟩ ayU
   unfold sj nw;simp only[avn,avB,seq_eq];by_cases c0:0<i
   ·rw[avk azu,avY (hne c0)]
    simpa using hgo
   ·rw[avj azu]
    exact hgo
  | cons b bs=>
   obtain⟨h1,h2,h3⟩:=hbb;simp only[eL,axi]at aE;have abM:qU c.bP[i] =some true:=by
    rw[aE];unfold qU;rw[pS hy];simp only[avi,avM];rw[pS (.inr h1)];simp[uA,seq_eq,h1.ne,h2]
   rw[abM,avi,avj ayW,aE];simp only[seq_eq,ayv,avJ];simp only[eL,List.tail_cons]at hnext;have hi2:i+1<c.bP.length:=by
    have:=awp List.length hnext;simp[lS]at this;omega
   have hgo:again (b,IntKind.wrap .i64 ((i:Int)+1))=some true:=by
    rw[wrap64 ayT ayT];exact cW _ ⟨i+1,ayW,.inl ⟨hi2,.inr h1,λ_=>h1.ne,bs,h3,hnext⟩⟩ ayU
   unfold sj nw;simp only[avn,avB,seq_eq];by_cases c0:0<i
   ·rw[avk azu,avY (hne c0)]
    simpa using hgo
   ·rw[avj azu]
    exact hgo
 ·subst hi hy
  rw[avj ayW];unfold Ez;rw[avk (by simpa using hpos),seq_eq];simp
theorem w5(h:eN n c):mB c=some true:=by
 have h2:=h.n2;have hl:=h.rl;have ho:=h.ol;have hp:=h.len;unfold mB ja;simp only[avi];rw[avj ayV];unfold w8 w9 xb;rw[avj ayV,avj ayV,avj ayV,Mi h,avi];unfold w6;rw[avj ayW];refine bw (λ(v:Int)=>0<=v/\v<=c.cq.length) (λv=>((c.cq.length:Int)-v).toNat) (λ_=>some true) ?_ FU 0 ⟨avK _,ayT⟩ azl;rintro again i' ⟨h3,h4⟩ cW;obtain⟨i,rfl⟩:∃i:Nat,i'=i:=⟨i'.toNat,ayT⟩;unfold xd;by_cases c1:i<c.cq.length
 ·rw[avk ay3,bp c1,avi]
  have hoo:=h.own _ (avu c1);have hdiv:Int.fdiv c.cq[i] (2 ^ min (Int.toNat (c.aK.length:Int)) (IntKind.bits .i64))=0:=by
   have e:min (Int.toNat (c.aK.length:Int)) (IntKind.bits .i64)=n:=by
    rw[hp];simp only[avp];show min n 64=n;omega
   rw[e,axX _ (Int.le_of_lt<|Int.pow_pos<|by decide)];exact Int.ediv_eq_zero_of_lt ayT hoo.2
  rw[avj ayV,nL,avk ayW,hdiv,avj ayW,wrap64 ayT ayT];exact cW _ ⟨ayT,ayT⟩ ayT
 ·rw[avj ayV];rfl
theorem qg(h:eN n c):jK c=some true:=by
 unfold jK;rw[w5 h,avi,avk rfl,LO _ h.tree];rfl
theorem tV(h:eN n c)(k:ByteArray):∃o,jY c k=some o/\o∈c.cq:=by
 have hl:=h.rl;have ho:=h.ol;have hw:=h.whole k;unfold jY;rw[w5 h,avi,avj ayW,AK ayT,avi];rcases gQ (λr=>Gd r k) c.bP with⟨i,hi,_,_,e⟩ | ⟨hno,_⟩
 ·rw[e,avj ayW,bp ayT]
  exact⟨_,U,avu _⟩
 ·obtain⟨r,h1,h2⟩:=awO.1 hw
  rw[hno r h1]at h2;cases h2
theorem aeG:∀o,o<32->∀s,s<6->(rL (o:Nat) (s:Nat)).isSome=true:=by decide +kernel
theorem XY:∀n,n<6->∀o,o<2 ^ n->o≠0->∃s,s<n/\aR (xg ((o:Nat):Int)) FU 0=some ((s:Nat):Int):=by decide +kernel
theorem afn(h:n<=5):(2:Int) ^ n<=32:=by
 have:(2:Nat) ^ n<=2 ^ 5:=axR ayZ h;have h2:((2 ^ n:Nat):Int)=2 ^ n:=by simp
 omega
theorem eN.als(h:eN n c){o:Int}(ho:o∈c.cq):∃m:Nat,o=m/\m<32/\m<2 ^ n/\m≠0:=by
 have h1:=h.own o ho;have h2:=afn h.n2.2;have h3:((2 ^ n:Nat):Int)=2 ^ n:=by simp
 exact⟨o.toNat,ayT,ayT,ayT,ayT⟩
theorem xe(h:eN n c)(k:ByteArray):∃s:Nat,s<n/\iY c k=some (s:Int):=by
 obtain⟨o,h1,h2⟩:=tV h k;obtain⟨m,rfl,_,h3,h4⟩:=h.als h2;obtain⟨s,h5,h6⟩:=XY n (by have:=h.n2;omega) m h3 h4;refine⟨s,h5,?_⟩;unfold iY;rw[h1,avi,h6]
theorem ER(h:eN n c){o:Int}(ho:o∈c.cq){s:Nat}(hs:s<6):∃b,rL o s=some b:=by
 obtain⟨m,rfl,h3,_,_⟩:=h.als ho;exact axu.1 (aeG m h3 s hs)
theorem Dh(h:eN n c)(k:ByteArray){s:Nat}(hs:s<6):∃b,rK c s k=some b:=by
 obtain⟨o,h1,h2⟩:=tV h k;obtain⟨b,h3⟩:=ER h h2 hs;unfold rK;rw[h1,avi,h3];exact⟨b,rfl⟩
theorem z7(h:eN n c){s:Nat}(hs:s<6):∃l,iZ c s=some l/\l.length<=5:=by
 have hl:=h.rl;have ho:=h.ol;unfold iZ;rw[w5 h,avi,avj ayW];refine eE (λ(v:Int×List au)=>0<=v.1/\v.1<=c.bP.length/\(v.2.length:Int)<=v.1) (λv=>((c.bP.length:Int)-v.1).toNat) (λ(l:List au)=>l.length<=5) ?_ FU (0,[]) ⟨avK _,ayW,ayW⟩ ay0;rintro again ⟨i',l⟩ ⟨h1,h2,h3⟩ cW;simp only at h1 h2 h3;obtain⟨i,rfl⟩:∃i:Nat,i'=i:=⟨i'.toNat,ayT⟩;unfold tW;simp only;by_cases c1:i<c.bP.length
 ·rw[avk ay3,bp c1,avi,bp (show i<c.cq.length by omega),avi]
  obtain⟨b,hb⟩:=ER h (avu (show i<c.cq.length by omega)) hs;rw[hb,avi,wrap64 ayT ayT];cases b with
  | false=>rw[avk ayW];exact cW _ ⟨ayU,ayU,ayU⟩ ayU
  | true=>
   rw[avj ayW,cJ ayV ayV,avi];exact cW _ ⟨ayU,ayU,ayV⟩ ayU
 ·rw[avj ayV]
  exact⟨l,U,ayT⟩
theorem MS{p:List Int}(hp:p∈trees){a b:Nat}(ha:a<p.length):∃m,DZ p a b=some m:=by
 have hl:=N6 p hp;have key:=eE (body:=uL p a b) (λ(v:Int×Int)=>0<=v.2/\v.2<=p.length) (λv=>((p.length:Int)-v.2).toNat) (λ_=>True) ?_ FU (0,0) ⟨avK _,ayU⟩ ay0
 ·obtain⟨m,h,_⟩:=key;exact⟨m,h⟩
 rintro again ⟨x,i'⟩ ⟨h1,h2⟩ cW;simp only at h1 h2;obtain⟨i,rfl⟩:∃i:Nat,i'=i:=⟨i'.toNat,ayT⟩;unfold uL;simp only;by_cases c1:i<p.length
 ·obtain⟨q,hq⟩:=axu.1 (MR p hp a ha i c1)
  rw[avk ay3,hq,avi];have hk3:∀y,∃r,uK again (x,(i:Int)) y=some r/\True:=λy=>by
   unfold uK;simp only;rw[wrap64 (n:=(i:Int)+1) ayT ayT];cases y with
   | true=>
    rw[avk rfl,nL,avk ayW];exact cW _ ⟨ayU,ayU⟩ ayU
   | false=>
    rw[avj ayW];exact cW _ ⟨ayU,ayU⟩ ayU
  by_cases c2:1<q.length
  ·rw[avk ayV,show(1:Int)=((1:Nat):Int)from U,bp c2,avi]
   exact hk3 _
  ·rw[avj ayV]
   exact hk3 _
 ·rw[avj ayV]
  exact⟨x,U,ayS⟩
theorem ae6:∀p,p∈trees->∀a,a<p.length->∀t,t∈oO p a->0<=t/\t<p.length:=by decide +kernel
theorem RX:∀p,p∈trees->∀a,a<p.length->(oO p a).length<=4:=by decide +kernel
theorem MB(h:eN n c){a:Nat}(ha:a<n)(from_:Int)(k:ByteArray):∃f:Int->Bool,jU c a from_ k=some ((oO c.aK a).filter f)/\f from_=false:=by
 have ha':a<c.aK.length:=by rw[h.len];exact ha
 obtain⟨o,h1,_⟩:=tV h k;have hone:∀t,t∈oO c.aK a->∃b,iQ t from_ c a o=some b/\(t=from_->b=true):=λt ht=>by
  unfold iQ;by_cases e:t=from_
  ·rw[avk azs];exact⟨true,U,λ_=>rfl⟩
  ·rw[avj azs]
   obtain⟨h2,h3⟩:=ae6 _ h.tree a ha' t ht;obtain⟨m,hm⟩:=MS (b:=t.toNat) h.tree ha';rw[show((t.toNat:Nat):Int)=t by omega]at hm;rw[hm,avi];exact⟨_,U,λq=>absurd q e⟩
 refine⟨λt=>!decide (t=from_)&& !((iQ t from_ c a o).getD true),?_,ayW⟩;unfold jU;rw[qg h,avi,avj ayW,h1,avi,MQ _ h.tree a ha',avi,
  yQ (p:=λt=>decide (t=from_)||(iQ t from_ c a o).getD true) (λt ht=>by
   obtain⟨b,hb,hb2⟩:=hone t ht;rw[hb];by_cases e:t=from_
   ·rw[hb2 e];simp
   ·simp[e]) (by have:=RX _ h.tree a ha';omega)]
 simp only[avi];congr 1;refine ayL λt _=>?_;simp
theorem qv(c:aF):ja c=some (c.aK.length:Int):=rfl
theorem Er{d:aF}(h:eN n c)(h2:eN n d):fW c d=some true:=by
 unfold fW;rw[qg h,avi,avk rfl,qg h2,avi,avk rfl,qv,avi,qv,avi,h.len,h2.len];simp
theorem XH(l:List ByteArray):(sJ l).length<=l.length:=by
 unfold sJ;have:=Lib.compact_length_le (l.map λs=>s.data.toList);simp only[avN]at this ⊢;exact this
theorem Ja{l:List au}(hl:l.length<=1000):∃b,oI l=some b/\b.length<=2*l.length:=by
 unfold oI;refine eE (λ(v:Int×List ByteArray)=>0<=v.1/\v.1<=l.length/\(v.2.length:Int)=2*v.1) (λv=>((l.length:Int)-v.1).toNat) (λ(b:List ByteArray)=>b.length<=2*l.length) ?_ FU (0,[]) ⟨avK _,ayW,ayW⟩ ay0;rintro again ⟨i',b⟩ ⟨h1,h2,h3⟩ cW;simp only at h1 h2 h3;obtain⟨i,rfl⟩:∃i:Nat,i'=i:=⟨i'.toNat,ayT⟩;unfold vX;simp only;by_cases c1:i<l.length
 ·rw[avk ay3,bp c1,avi,cJ ayV ayV,avi,wrap64 ayT ayT]
  exact cW _ ⟨ayU,ayU,ayV⟩ ayU
 ·rw[avj ayV]
  unfold CK;rw[kV (p:=λs=>decide (s=ByteArray.empty)) (λx _=>by unfold nk;rw[seq_eq]) ayT,avi];have hlf:=aw5 (λx=>!decide (x=ByteArray.empty)) b;unfold slices_Sort_string slices_Compact_string SK;rw[avk ayT];simp only[avi];refine⟨_,U,awa (XH _) ?_⟩;rw[GW];have:=aw5 (λx=>!decide (x=ByteArray.empty)) b;omega
theorem I8{d:aF}(h:eN n c)(h2:eN n d):∃l,lB c d=some l/\l.length<=21:=by
 have h3:=h.rl;have h4:=h2.rl;obtain⟨b,hb,hbl⟩:=Ja (l:=[c.bP,d.bP].flatten) ayV;have e:[c.bP,d.bP].flatten.length<=10:=by simp;omega
 unfold lB m5;rw[Er h h2,avi,avj ayW,nL,avk ayV,avi,hb,avi,nL,avk ayV];exact⟨_,U,by rw[lS];omega⟩
theorem Kb{d:aF}(h:eN n c)(h2:eN n d):∃l,nW c d=some l/\l.length<=105/\∀mv,mv∈l->(0<=mv.From/\mv.From<n)/\0<=mv.To/\mv.To<n:=by
 have hn:=h.n2;obtain⟨ps,hps,hpl⟩:=I8 h h2;unfold nW;rw[hps,avi]
 let Q:Nat->List aW->Prop:=λk l=>l.length<=k/\∀mv,mv∈l->(0<=mv.From/\mv.From<n)/\0<=mv.To/\mv.To<n
 refine eE (λ(v:Int×List aW)=>0<=v.1/\v.1<=ps.length/\Q (5*v.1.toNat) v.2) (λv=>((ps.length:Int)-v.1).toNat) (λ(l:List aW)=>l.length<=105/\∀mv,mv∈l->(0<=mv.From/\mv.From<n)/\0<=mv.To/\mv.To<n) ?_ FU (0,[]) ⟨avK _,ayW,by simp[Q]⟩ ay0;rintro again ⟨i',l⟩ ⟨h1,h3,h4⟩ cW;simp only at h1 h3 h4;obtain⟨i,rfl⟩:∃i:Nat,i'=i:=⟨i'.toNat,ayT⟩;simp only[avp]at h4;unfold yq;simp only;by_cases c1:i<ps.length
 ·rw[avk ay3,bp c1,avi,qv,avi,h2.len]
  refine eE (λ(v:Int×List aW)=>0<=v.1/\v.1<=n/\Q (5*i+v.1.toNat) v.2) (λv=>((n:Int)-v.1).toNat) _ ?_ FU (0,l) ⟨avK _,ayT,aAA⟩ ay0;rintro Hr ⟨s',m⟩ ⟨g1,g2,g3⟩ E9;simp only at g1 g2 g3;obtain⟨s,rfl⟩:∃s:Nat,s'=s:=⟨s'.toNat,ayT⟩;simp only[avp]at g3;unfold yt;simp only;by_cases c2:s<n
  ·rw[avk ay5]
   obtain⟨b1,hb1⟩:=Dh h2 ps[i].From (show s<6 by omega)
   obtain⟨b2,hb2⟩:=Dh h ps[i].From (show s<6 by omega)
   have abZ:∃b,pL s d ps[i] c=some b:=by
    unfold pL;rw[hb1,avi];cases b1 with
    | true=>rw[avk U,hb2];exact⟨_,U⟩
    | false=>exact⟨_,U⟩
   obtain⟨b,hb⟩:=abZ;have e1:((s:Int)+1).toNat=s+1:=by omega
   rw[hb,avi,wrap64 ayT ayT];cases b with
   | true=>
    obtain⟨f,hf1,hf2⟩:=xe h ps[i].From
    have gl:=g3.1;rw[avk rfl,hf2,avi,cJ ayV ayV,avi];refine E9 _ ⟨ayU,ayU,?_,λmv hmv=>?_⟩ ayU
    ·simp only[e1];simp;omega
    ·rcases List.mem_append.1 hmv with hmv | hmv
     ·exact g3.2 mv hmv
     ·simp at hmv;subst hmv;exact⟨⟨ayU,ayU⟩,ayU,ayU⟩
   | false=>
    rw[avj ayW];exact E9 _ ⟨ayU,ayU,by simp only[e1];exact awa g3.1<|by omega,g3.2⟩ ayU
  ·rw[avj ayV]
   unfold Et Es;rw[wrap64 ayU ayU];refine cW _ ⟨ayU,ayU,?_,g3.2⟩ ayU;have e1:((i:Int)+1).toNat=i+1:=by omega
   simp only[e1];exact awa g3.1 ayT
 ·rw[avj ayV]
  exact⟨l,U,by have:=h4.1;omega,h4.2⟩
theorem aeb(x y:Int):j6 x y=some (if x<y then -1 else if y<x then 1 else 0):=by
 unfold j6 cmp_isNaN_int;by_cases h1:x<y<;>by_cases h2:y<x<;>simp[h1,h2]
def qp(l:List aH):Prop:=l.Pairwise λa b=>a.ID<b.ID
theorem aar{p:List aH}(hs:qp p)(hl:p.length<=140737488355328)(k:Int):
  ∃i:Nat,i<=p.length/\(∀j(hj:j<p.length),j<i->p[j].ID<k)/\(∀j(hj:j<p.length),i<=j->¬p[j].ID<k)/\
   cO p k (λx0 x1=>lU x0 x1)=some ((i:Int),decide (∃h:i<p.length,p[i].ID=k)):=by
 have hcmp:∀d:aH,lU d k=some (if d.ID<k then -1 else if k<d.ID then 1 else 0):=λd=>by
  unfold lU;rw[aeb];rfl
 have hex:∃i:Nat,i<=p.length/\(∀j(hj:j<p.length),j<i->p[j].ID<k)/\(∀j(hj:j<p.length),i<=j->¬p[j].ID<k):=by
  clear hl
  induction p with
  | nil=>exact⟨0,avq _,λj hj=>aAe,λj hj=>aAe⟩
  | cons d p ih=>
   by_cases hd:d.ID<k
   ·obtain⟨i,h1,h2,h3⟩:=ih (awx.1 hs).2
    refine⟨i+1,ay7,λj hj h=>?_,λj hj h=>?_⟩
    ·cases j with
     | zero=>exact hd
     | succ j=>exact h2 j azg ayT
    ·cases j with
     | zero=>omega
     | succ j=>exact h3 j azg ayT
   ·refine⟨0,av5 _,λj hj h=>ayT,λj hj _=>?_⟩
    cases j with
    | zero=>exact hd
    | succ j=>
     have hj':j<p.length:=by simpa using hj
     have:=(awx.1 hs).1 p[j] (avu hj')
     show ¬p[j].ID<k
     omega
 obtain⟨i,hi,hlo,hhi⟩:=hex;refine⟨i,hi,hlo,hhi,?_⟩;unfold cO;have h2:dU p k (λx0 x1=>lU x0 x1) (i:Int)=some ((i:Int),decide (∃h:i<p.length,p[i].ID=k)):=by
  unfold dU;by_cases c:i<p.length
  ·rw[avk ayY,bp c]
   simp only[avi,hcmp];have h3:=hhi i c (avq _);rw[avj h3];by_cases h4:k<p[i].ID
   ·rw[avk h4]
    have:¬∃h:i<p.length,p[i].ID=k:=λ⟨_,e⟩=>ayT
    rw[avY this];rfl
   ·rw[avj h4]
    have:∃h:i<p.length,p[i].ID=k:=⟨c,ayT⟩
    rw[avP this];rfl
  ·rw[avj ayY]
   simp[c]
 refine bw (λv=>0<=v.1/\v.1<=(i:Int)/\(i:Int)<=v.2/\v.2<=(p.length:Int)) (λv=>(v.2-v.1).toNat) (λ_=>some ((i:Int),decide (∃h:i<p.length,p[i].ID=k))) ?_ FU _ ⟨avK _,ayW,ay8,avK _⟩ ?_
 ·rintro again ⟨a,b⟩ ⟨h4,h5,h6,h7⟩ cW
  simp only at h4 h5 h6 h7;unfold jz;simp only;by_cases c:a<b
  ·rw[avk ayY,half a b h4 ayT ayT]
   have hm1:a<=(a+b) / 2:=by omega
   have hm2:(a+b) / 2<b:=by omega
   generalize hm:(a+b) / 2=m at hm1 hm2;rw[uz ayT ayT];simp only[avi,hcmp];by_cases c2:m<i
   ·have:=hlo m.toNat ayT ayT
    rw[avk this,avk ayZ,wrap64 ayT ayT];exact cW _ ⟨ayT,ayU,ayU,ayU⟩ ayU
   ·have:=hhi m.toNat ayT ayT
    rw[avj this,avj (by split<;>decide)];exact cW _ ⟨ayU,ayU,ayU,ayU⟩ ayU
  ·rw[avj ayY,show a=(i:Int) by omega]
   exact h2
 ·have:=bF
  simp only;omega
def CG(l:List aH)(id:Int):Bool:=l.any λx=>decide (x.ID=id)
def Ec(p:aH):List aH->List aH
 | []=>[p]
 | x::l=>if p.ID<x.ID then p::x::l else x::Ec p l
def Cv(l:List aH)(id:Int):List aH:=l.filter λx=>!decide (x.ID=id)
theorem FD{p:List aH}(hs:qp p)(hij:i<j)(hj:j<p.length):(p[i]' ayT).ID<p[j].ID:=awu.1 hs i j ayT hj hij
theorem AV{l:List aH}(hs:qp l)(hl:l.length<=1000000)(id:Int):∃i:Nat,i<=l.length/\(∀j(hj:j<l.length),j<i->l[j].ID<id)/\(∀j(hj:j<l.length),i<=j->¬l[j].ID<id)/\
  q9 l id=some ((i:Int),CG l id)/\(CG l id=true↔∃h:i<l.length,l[i].ID=id):=by
 obtain⟨i,hi,hlo,hhi,he⟩:=aar hs ayT id;have hiff:CG l id=true↔∃h:i<l.length,l[i].ID=id:=by
  unfold CG;rw[awO];constructor
  ·rintro⟨x,hx,e⟩
   have e:x.ID=id:=by simpa using e
   obtain⟨j,hj,rfl⟩:=avO hx;rcases Nat.lt_trichotomy j i with h | h | h
   ·have:=hlo j hj h;omega
   ·subst h;exact⟨hj,e⟩
   ·have h1:=hhi i ayT (avq _)
    have:=FD hs h hj;omega
  ·rintro⟨h,e⟩
   exact⟨_,avu h,azs⟩
 refine⟨i,hi,hlo,hhi,?_,hiff⟩;unfold q9;rw[he];simp only[avi];congr 2;by_cases c:∃h:i<l.length,l[i].ID=id
 ·rw[avP c,hiff.2 c]
 ·rw[avY c]
  cases h:CG l id with
  | false=>rfl
  | true=>exact absurd (hiff.1 h) c
theorem WD{v:aH}:∀{l:List aH}{n:Nat},n<=l.length->(∀j(hj:j<l.length),j<n->l[j].ID<v.ID)->(∀j(hj:j<l.length),n<=j->v.ID<l[j].ID)->Ec v l=l.take n++v::l.drop n
 | [],n,h0,_,_=>by
  have:n=0:=by simpa using h0
  subst this;rfl
 | x::l,0,_,_,h2=>by
  have h:v.ID<x.ID:=h2 0 ayW (avq _);rw[Ec,avk h];rfl
 | x::l,n+1,h0,h1,h2=>by
  have h:x.ID<v.ID:=h1 0 ayW (Nat.succ_pos _);rw[Ec,avj ayT,WD (l:=l) (n:=n) azA (λj hj hjn=>h1 (j+1) (axw hj)<|axw hjn) (λj hj hjn=>h2 (j+1) (axw hj)<|Nat.succ_le_succ hjn)];rfl
theorem CJ{v x:aH}:∀{l:List aH},x∈Ec v l↔x=v\/x∈l
 | []=>by simp[Ec]
 | y::l=>by
  rw[Ec];split
  ·simp
  ·simp only[av0,CJ (l:=l)]
   constructor
   ·rintro(h | h | h)
    ·exact .inr (.inl h)
    ·exact .inl h
    ·exact .inr (.inr h)
   ·rintro(h | h | h)
    ·exact .inr (.inl h)
    ·exact .inl h
    ·exact .inr (.inr h)
theorem IC{v:aH}:∀{l:List aH},qp l->(∀x,x∈l->x.ID≠v.ID)->qp (Ec v l)
 | [],_,_=>by simp[Ec,qp]
 | x::l,hs,hn=>by
  obtain⟨h1,h2⟩:=awx.1 hs;rw[Ec];split
  ·rename_i c
   refine awx.2 ⟨λy hy=>?_,hs⟩;rcases List.mem_cons.1 hy with rfl | hy
   ·exact c
   ·have:=h1 y hy;omega
  ·rename_i c
   refine awx.2 ⟨λy hy=>?_,IC h2 λy hy=>hn y<|by simp[hy]⟩;rcases CJ.1 hy with rfl | hy
   ·have:=hn x ayW;omega
   ·exact h1 y hy
theorem Kl{l:List aH}{id:Int}(h:CG l id=false):∀x,x∈l->x.ID≠id:=λx hx=>by
 simpa using aw8.1 h x hx
theorem Sm{l:List aH}(hs:qp l)(hl:l.length<=1000000)(p:aH):
  zM l p=some (if p.ID<1 then([],1)else if CG l p.ID=true then([],13)else if 8<=l.length then([],15)else(Ec p l,0)):=by
 obtain⟨i,hi,hlo,hhi,he,hiff⟩:=AV hs hl p.ID;unfold zM;rw[he];simp only[avi];by_cases c1:p.ID<1
 ·rw[avk (avP c1),avk c1]
 ·rw[avj ay3,avj c1]
  cases c2:CG l p.ID with
  | true=>simp
  | false=>
   simp only[avn,avB];by_cases c3:8<=l.length
   ·rw[avk (avP<|by omega),avk c3]
   ·rw[avj (by rw[awe];omega),avj c3]
    unfold fB iX;rw[cJ ayV ayV];simp only[avi,avX];unfold Ph;simp only;rw[avk ⟨ayT,ayT,ayT,ayT⟩,WD hi hlo λj hj hij=>?_]
    ·rfl
    ·have h1:=hhi j hj hij
     have h2:=Kl c2 l[j] (avu hj);omega
theorem aaN{l:List aH}(hs:qp l)(hi:i<l.length):l.take i++l.drop (i+1)=Cv l l[i].ID:=by
 have e:l=l.take i++l[i] ::l.drop (i+1):=by rw[<-av8 hi,axM]
 have h1:(l.take i).filter (λx=>!decide (x.ID=l[i].ID))=l.take i:=awL.2 λx hx=>by
  obtain⟨j,hj,rfl⟩:=avO hx;rw[avC]at hj;rw[axk];have:=FD hs (show j<i by omega) hi;simp;omega
 have h2:(l.drop<|i+1).filter (λx=>!decide (x.ID=l[i].ID))=l.drop (i+1):=awL.2 λx hx=>by
  obtain⟨j,hj,rfl⟩:=avO hx;rw[avZ]at hj;rw[List.getElem_drop];have:=FD hs (show i<i+1+j by omega) ayT;simp;omega
 have h3:Cv (l.take i++l[i] ::l.drop (i+1)) l[i].ID=l.take i++l.drop (i+1):=by
  unfold Cv;rw[aw1,awC,h1,h2];simp
 rw[<-e]at h3;exact h3.symm
theorem PV{l:List aH}(hs:qp l)(hl:l.length<=1000000)(id:Int):u7 l id=some (if CG l id=true then(Cv l id,0)else([],12)):=by
 obtain⟨i,hi,hlo,hhi,he,hiff⟩:=AV hs hl id;unfold u7;rw[he];simp only[avi];cases c2:CG l id with
 | false=>simp
 | true=>
  obtain⟨h1,h2⟩:=hiff.1 c2;simp only[avJ,avn,avB,avM];unfold fB iW;rw[cJ ayV ayV,wrap64 ayT ayT];simp only[avi,avX];unfold aed;rw[avk ⟨ayT,ayT,rfl,ayT⟩];simp only[avi,avp];rw[aaN hs h1,h2]
theorem Sl{l:List aH}(hs:qp l)(hl:l.length<=1000000)(id:Int):∃x,wB l id=some (x,CG l id)/\(CG l id=true->x∈l/\x.ID=id):=by
 obtain⟨i,hi,hlo,hhi,he,hiff⟩:=AV hs hl id;unfold wB;rw[he];simp only[avi];cases c2:CG l id with
 | false=>exact⟨_,U,λh=>azm⟩
 | true=>
  obtain⟨h1,h2⟩:=hiff.1 c2;simp only[avJ,avn,avB,bp h1,avi];exact⟨_,U,λ_=>⟨avu h1,h2⟩⟩
theorem turned(a:Int){m:Int}(h0:0<m)(h1:m<=1000000):0<=Int.tmod (IntKind.wrap .i64 ((Int.tmod a m)+m)) m/\Int.tmod (IntKind.wrap .i64 ((Int.tmod a m)+m)) m<m:=by
 have g1:=Int.lt_tmod_of_pos a h0;have g2:=axN a h0;rw[wrap64 ayT ayT];exact⟨azo _<|by omega,axN _ h0⟩
def jZ:Nat->List (List Int)
 | 0=>[[-1,0]]
 | i+1=>E7 (jZ i)
theorem LP{p:List Int}(h:p∈jZ i){x:Int}(h0:0<=x)(h1:x<p.length):p++ [x]∈jZ (i+1):=by
 unfold jZ E7;refine axg.2 ⟨p,h,avT.2 ⟨x.toNat,awg.2<|by omega,?_⟩⟩;simp[Int.toNat_of_nonneg h0]
theorem xj:∀{i:Nat}{p:List Int},p∈jZ i->p.length=i+2
 | 0,p,h=>by simp[jZ]at h;subst h;rfl
 | i+1,p,h=>by
  unfold jZ E7 at h;obtain⟨q,h1,h2⟩:=axg.1 h;obtain⟨j,_,rfl⟩:=avT.1 h2;simp[xj h1]
theorem Qq(hi:i<=3){p:List Int}(h:p∈jZ i):p∈trees:=by
 unfold trees;have e0:jZ 0= [[-1,0]]:=rfl;have e1:jZ 1=E7 [[-1,0]]:=rfl;have e2:jZ 2=E7 (E7 [[-1,0]]):=rfl;have e3:jZ 3=E7 (E7<|E7 [[-1,0]]):=rfl;rw[<-e3,<-e2,<-e1,<-e0]
 match i,hi,h with
 | 0,_,h=>exact av1.2 (.inl h)
 | 1,_,h=>exact av1.2 (.inr<|av1.2<|.inl h)
 | 2,_,h=>exact av1.2 (.inr<|av1.2<|.inr<|av1.2<|.inl h)
 | 3,_,h=>exact av1.2 (.inr<|av1.2<|.inr<|av1.2<|.inr h)
theorem uP(x:Int)(m:Nat)(hm:m<1000):∃k:Nat,k<=m/\IntKind.wrap .i64 (BitVec.ofInt (IntKind.bits .i64) x&&& BitVec.ofInt (IntKind.bits .i64) (m:Int)).toNat=k:=by
 have e:(BitVec.ofInt (IntKind.bits .i64) (m:Int)).toNat=m:=by
  rw[BitVec.ofInt_natCast,BitVec.toNat_ofNat];exact axa (avE hm<|by decide)
 have h:(BitVec.ofInt (IntKind.bits .i64) x&&& BitVec.ofInt (IntKind.bits .i64) (m:Int)).toNat<=m:=by
  rw[BitVec.toNat_and,e];exact Nat.and_le_right
 exact⟨_,h,wrap64 ayT<|by omega⟩
theorem Vh:∀k,k<8->bytesOf [IntKind.wrap .u8 (IntKind.wrap .i64 (97+((k:Nat):Int)))] =kl k:=by decide +kernel
theorem ND{x:Int}(h0:0<=x)(h1:x<8):L8 (bytesOf [IntKind.wrap .u8 (IntKind.wrap .i64 (97+x))]):=by
 obtain⟨k,rfl⟩:∃k:Nat,x=k:=⟨x.toNat,ayT⟩;exact⟨k,ayT,Vh k<|by omega⟩
theorem GD(x:Int):∃k,zS x=some k/\L8 k:=by
 obtain⟨k,hk,e⟩:=uP x 7 ayZ;refine⟨_,U,?_⟩;rw[show(7:Int)=((7:Nat):Int)from rfl,e];exact ND ayT ayT
def preB:ByteArray->List ByteArray->List au
 | _,[]=>[]
 | a,b::l=>⟨a,b⟩::preB b l
def xF:ByteArray->List ByteArray->ByteArray
 | a,[]=>a
 | _,b::l=>xF b l
theorem K7:∀(bs:List ByteArray)(a:ByteArray),eL a bs=preB a bs++ [⟨xF a bs,ByteArray.empty⟩]
 | [],_=>rfl
 | b::l,a=>by simp[eL,preB,xF,K7 l b]
theorem NV:∀(bs:List ByteArray)(a w:ByteArray),preB a (bs++ [w])=preB a bs++ [⟨xF a bs,w⟩]
 | [],_,_=>rfl
 | b::l,a,w=>by simp[preB,xF,NV l b w]
theorem KC:∀(bs:List ByteArray)(a w:ByteArray),xF a (bs++ [w])=w
 | [],_,_=>rfl
 | b::l,a,w=>by simp[xF,KC l b w]
theorem VZ:∀(bs:List ByteArray){a w:ByteArray},BB a bs->L8 w->slt (xF a bs) w=true->BB a (bs++ [w])
 | [],_,_,_,h1,h2=>⟨h1,h2,ayS⟩
 | b::l,a,w,h,h1,h2=>⟨h.1,h.2.1,VZ l h.2.2 h1 h2⟩
theorem P3{q:cg}{p:List Int}{rs:List au}(hi:i<=3)(hp:p∈jZ i)(hrs:∃bs,BB ByteArray.empty bs/\rs=eL ByteArray.empty bs)(hl:rs.length<=5):
  ∃c,kS q p rs (((2 ^ (i+2):Nat)):Int)=some c/\eN (i+2) c/\c.aK=p:=by
 have ahX:4<=2 ^ (i+2)/\2 ^ (i+2)<=32:=⟨axR (n:=2) ayZ (show 2<=i+2 by omega),axR (n:=2) ayZ (show i+2<=5 by omega)⟩;have hcast:((2 ^ (i+2):Nat):Int)=(2:Int) ^ (i+2):=by simp
 unfold kS;generalize hy:2 ^ (i+2)=y at ahX hcast;refine eE (λ(v:Int×List Int)=>0<=v.1/\v.1<=rs.length/\(v.2.length:Int)=v.1/\∀o,o∈v.2->1<=o/\o<(y:Int)) (λv=>((rs.length:Int)-v.1).toNat) (λc=>eN (i+2) c/\c.aK=p) ?_ FU (0,[]) ⟨avK _,ayU,ayW,λo ho=>by simp at ho⟩ ay0;rintro again ⟨j',os⟩ ⟨h1,h2,h3,h4⟩ cW;simp only at h1 h2 h3 h4;obtain⟨j,rfl⟩:∃j:Nat,j'=j:=⟨j'.toNat,ayT⟩;unfold qd;simp only;have hk7:∀x:Int,0<=x->x<(y:Int)-1->(j:Int)<rs.length->∃r,kT again ((j:Int),os) x=some r/\eN (i+2) r/\r.aK=p:=λx hx0 hx1 hj=>by
  unfold kT;simp only;rw[cJ ayV ayV,avi,wrap64 (n:=1+x) ayT ayT,wrap64 (n:=(j:Int)+1) ayT ayT];refine cW _ ⟨ayU,ayU,ayV,λo ho=>?_⟩ ayU;rcases List.mem_append.1 ho with ho | ho
  ·exact h4 o ho
  ·simp at ho;subst ho;omega
 by_cases c1:(j:Int)<rs.length
 ·rw[avk ay3]
  by_cases c2:(j:Int)<q.cq.length
  ·rw[avk ay5,uz h1 c2,avi,wrap64 (n:=(y:Int)-1) ayT ayT,nL,avk ayV,nL,avk ayV]
   generalize q.cq[(j:Int).toNat]' ayT=a;have g1:=Int.lt_tmod_of_pos a (show(0:Int)<(y:Int)-1 by omega);have g2:=axN a (show(0:Int)<(y:Int)-1 by omega);rw[wrap64 (n:=Int.tmod a ((y:Int)-1)+y) ayT ayT,wrap64 ayT ayT];exact hk7 _ (azo _<|by omega) (axN _<|by omega) c1
  ·rw[avj ay5,wrap64 ayT ayT]
   exact hk7 _ ayT ayT c1
 ·rw[avj ay3]
  refine⟨⟨rs,os,p⟩,U,⟨Qq hi hp,xj hp,hrs,hl,ayU,λo ho=>?_⟩,U⟩;have:=h4 o ho;omega
theorem Su{q:cg}{p:List Int}{rs:List au}(hi:i<=3)(hp:p∈jZ i)(hrs:∃bs,BB ByteArray.empty bs/\rs=eL ByteArray.empty bs)(hl:rs.length<=5):
  ∃c,aR (kU q p rs) FU (1,0)=some c/\eN (i+2) c/\c.aK=p:=by
 have hpl:=xj hp;refine eE (λ(v:Int×Int)=>∃j:Nat,v.2=j/\j<=i+2/\v.1=((2 ^ j:Nat):Int)) (λv=>((p.length:Int)-v.2).toNat) (λc=>eN (i+2) c/\c.aK=p) ?_ FU (1,0) ⟨0,U,av5 _,U⟩ ay0;rintro again ⟨x,j'⟩ ⟨j,h1,h2,h3⟩ cW;simp only at h1 h3;subst h1 h3;unfold kU;simp only;by_cases c1:j<p.length
 ·have ahX:2 ^ j<=32:=axR (n:=2) ayZ (show j<=5 by omega)
  have hs:2 ^ (j+1)=2 ^ j*2:=Nat.pow_succ 2 j;generalize 2 ^ j=y at ahX hs ⊢;rw[avk ay3,wrap64 (n:=(y:Int)*2) ayT ayT,wrap64 ayT ayT];exact cW _ ⟨j+1,ayW,ayT,by rw[hs];simp⟩ ayU
 ·rw[avj ay3]
  have:j=i+2:=by omega
  subst this;exact P3 hi hp hrs hl
theorem Ll{q:cg}{p:List Int}(hi:i<=3)(hp:p∈jZ i):∃c,kR q p=some c/\eN (i+2) c/\c.aK=p:=by
 unfold kR;refine eE (λ(v:ByteArray×Int×List au)=>0<=v.2.1/\v.2.1<=4/\(v.2.2.length:Int)<=v.2.1/\∃bs,BB ByteArray.empty bs/\v.2.2=preB ByteArray.empty bs/\v.1=xF ByteArray.empty bs) (λv=>(4-v.2.1).toNat) (λc=>eN (i+2) c/\c.aK=p) ?_ FU (ByteArray.empty,0,[]) ⟨avK _,ayW,ayW,[],ayS,U,U⟩ ay0;rintro again ⟨at_,j',rs⟩ ⟨h1,h2,h3,bs,h4,h5,h6⟩ cW;simp only at h1 h2 h3 h5 h6;subst h5 h6;have hend:∃c,qc q p (xF ByteArray.empty bs,preB ByteArray.empty bs)=some c/\eN (i+2) c/\c.aK=p:=by
  unfold qc;simp only;rw[cJ ayV ayV,avi];exact Su hi hp ⟨bs,h4,(K7 bs _).symm⟩ ayV
 unfold qf oa;simp only;by_cases c1:j'<q.Ends.length
 ·rw[avk ay3]
  by_cases c2:j'<4
  ·rw[avk ay5,uz h1 c1,avi]
   generalize q.Ends[j'.toNat]' ayT=a;obtain⟨t0,t1⟩:=turned a (m:=8) ayZ ayZ;have hw:=ND t0 t1;generalize bytesOf [IntKind.wrap .u8 (IntKind.wrap .i64<|97+Int.tmod (IntKind.wrap .i64<|Int.tmod a 8+8) 8)] =w at hw ⊢;rw[wrap64 (n:=j'+1) ayT ayT];cases c3:(slt w (xF ByteArray.empty bs)||seq w (xF ByteArray.empty bs))with
   | true=>
    rw[avj ayW];exact cW _ ⟨ayU,ayU,ayU,bs,h4,U,U⟩ ayU
   | false=>
    simp only[axz,seq_eq,axo]at c3;have hlt:slt (xF ByteArray.empty bs) w=true:=by
     cases e:slt (xF ByteArray.empty bs) w with
     | true=>rfl
     | false=>exact absurd (DT c3.1 e) c3.2
    rw[avk ayW,cJ ayV ayV,avi];exact cW _ ⟨ayU,ayU,ayV,bs++ [w],VZ bs h4 hw hlt,(NV bs _ w).symm,(KC bs _ w).symm⟩ ayU
  ·rw[avj ay5];exact hend
 ·rw[avj ay3,avj ayW];exact hend
theorem Mz{q:cg}(h2:2<=n)(h5:n<=5):∃c,fO q n=some c/\eN n c:=by
 have h1:fO q n=iP q n [-1,0]:=by
  unfold fO;obtain⟨f,hf⟩:∃f,FU=f+1:=⟨FU-1,azl⟩;rw[hf,aR];unfold ic gY;simp only;have e:decide ((n:Int)=0)=false:=by simp;omega
  by_cases c1:(0:Int)<q.aK.length
  ·rw[avk ay3,avk ayZ,e,avj ayW]
  ·rw[avj ay3,avj ayW]
 rw[h1];unfold iP;have key:=eE (body:=ia q n) (λ(v:Int×List Int)=>∃i:Nat,v.1=i+2/\i+2<=n/\v.2∈jZ i) (λv=>((n:Int)-v.1).toNat) (λc=>eN n c) ?_ FU (2,[-1,0]) ⟨0,U,h2,by simp[jZ]⟩ ay0
 ·exact key
 rintro again ⟨j,p⟩ ⟨i,hj,hi,hp⟩ cW;simp only at hj hp;subst hj;have hpl:=xj hp;unfold ia;simp only;have akI:∀x:Int,0<=x->x<(i:Int)+2->i+2<n->∃r,jT again ((i:Int)+2,p) x=some r/\eN n r:=λx hx0 hx1 hn=>by
  unfold jT;simp only;rw[cJ ayV ayV,avi,wrap64 ayT ayT];exact cW _ ⟨i+1,ayU,ayT,LP hp hx0<|by omega⟩ ayU
 by_cases c1:i+2<n
 ·rw[avk ayV]
  by_cases c2:(i:Int)+2<q.aK.length
  ·rw[avk ay5,uz ayT c2,avi,nL,avk ayV,nL,avk ayV]
   obtain⟨t0,t1⟩:=turned (q.aK[((i:Int)+2).toNat]' ayT) (m:=(i:Int)+2) ayT ayT;exact akI _ t0 t1 c1
  ·rw[avj ay5]
   exact akI _ ayT ayT c1
 ·rw[avj ayV]
  have:n=i+2:=by omega
  subst this;obtain⟨c,h3,h4,_⟩:=Ll (q:=q) (show i<=3 by omega) hp;exact⟨c,h3,h4⟩
theorem Ji(q:lf):∃c n,qw q=some c/\eN n c:=by
 unfold qw;generalize(cg.mk q.Ends q.cq q.aK)=q;unfold fO;have key:=eE (body:=ic q 0) (λ(v:Int×List Int)=>∃i:Nat,v.1=i/\i<=3/\v.2∈jZ i) (λv=>(3-v.1).toNat) (λc=>∃n,eN n c) ?_ FU (0,[-1,0]) ⟨0,U,ayT,by simp[jZ]⟩ ay0
 ·obtain⟨c,h1,n,h2⟩:=key
  exact⟨c,n,by rw[h1];rfl,h2⟩
 rintro again ⟨j,p⟩ ⟨i,hj,hi,hp⟩ cW;simp only at hj hp;subst hj;have hpl:=xj hp;have hend:∃r,iP q 0 p=some r/\∃n,eN n r:=by
  unfold iP;obtain⟨f,hf⟩:∃f,FU=f+1:=⟨FU-1,azl⟩;rw[hf,aR];unfold ia;rw[avj ayW];obtain⟨c,h3,h4,_⟩:=Ll (q:=q) hi hp;exact⟨c,h3,_,h4⟩
 unfold ic gY;simp only;by_cases c1:(i:Int)<q.aK.length
 ·rw[avk ay3]
  by_cases c2:(i:Int)<3
  ·rw[avk ay5,avk ayZ,uz ayT c1,avi,wrap64 (n:=(i:Int)+2) ayT ayT,nL,avk ayV,nL,avk ayV]
   generalize q.aK[(i:Int).toNat]' ayT=a;have g1:=Int.lt_tmod_of_pos a (show(0:Int)<(i:Int)+2 by omega);have g2:=axN a (show(0:Int)<(i:Int)+2 by omega);rw[wrap64 (n:=Int.tmod a ((i:Int)+2)+i) ayT ayT,wrap64 (n:=Int.tmod a ((i:Int)+2)+i+2) ayT ayT,cJ ayV ayV,avi,wrap64 ayT ayT];exact cW _ ⟨i+1,ayW,ayT,LP hp (azo _<|by omega) (by
    have:=axN (Int.tmod a ((i:Int)+2)+i+2) (show(0:Int)<(i:Int)+2 by omega);omega)⟩ ayU
  ·rw[avj ay5,avj ayW];exact hend
 ·rw[avj ay3,avj ayW];exact hend
structure B2(n:Nat)(o:aI):Prop where
 k1:1<=o.Kind
 k2:o.Kind<=12
 c0:0<=o.Client
 c4:o.Client<4
 s0:0<=o.Site
 t0:0<=o.To
 a0:0<=o.At
 key:L8 o.Key
 val:o.Value.size<=1
 keys:∀k,k∈o.Keys->L8 k
 kl:o.Keys.length<=5
 row:o.Kind=12->eN n o.Row
theorem Yy:∀k,k<16->∃x,1<=x/\x<=11/\Ol 16 ([1,1,1,2,3,3,4,5,6,7,8,8,8,9,10,11]:List Int) ((k:Nat):Int)=some ((x:Nat):Int):=λk hk=>by
 have:∀k,k<16->∃x,x<12/\(1<=x/\Ol 16 ([1,1,1,2,3,3,4,5,6,7,8,8,8,9,10,11]:List Int) ((k:Nat):Int)=some ((x:Nat):Int)):=by decide +kernel
 obtain⟨x,h1,h2,h3⟩:=this k hk;exact⟨x,h2,ayT,h3⟩
theorem FX(x:Int):(bytesOf [x]).size=1:=rfl
theorem MO(a:mH)(h2:2<=n)(h5:n<=5):∃o,rM a n=some o/\B2 n o:=by
 unfold rM;generalize(js.mk a.Kind a.Client a.Site a.To a.At a.How a.Key a.Value a.Keys<|cg.mk a.Row.Ends a.Row.cq a.Row.aK)=a;suffices h:∃o,qb a n=some o/\B2 n o by
  obtain⟨o,h1,h2⟩:=h;exact⟨o,by rw[h1];rfl,h2⟩
 obtain⟨kd,hkd,ekd⟩:=uP a.Kind 15 ayZ;obtain⟨cl,hcl,ecl⟩:=uP a.Client 3 ayZ;obtain⟨at_,hat,eat⟩:=uP a.At 7 ayZ;obtain⟨vl,hvl,evl⟩:=uP a.Value 7 ayZ;obtain⟨hw,hhw,ehw⟩:=uP a.How 3 ayZ;obtain⟨k,hk1,hk2⟩:=GD a.Key;obtain⟨s0,s1⟩:=turned a.Site (m:=5) ayZ ayZ;obtain⟨t0,t1⟩:=turned a.To (m:=5) ayZ ayZ;obtain⟨x,hx1,hx2,hx3⟩:=Yy kd ayT;unfold qb;rw[show(15:Int)=((15:Nat):Int)from rfl,ekd,hx3,avi,hk1,avi];refine eE (λ(v:Int×List ByteArray)=>0<=v.1/\v.1<=5/\(v.2.length:Int)<=v.1/\∀k,k∈v.2->L8 k) (λv=>(5-v.1).toNat) (λo=>B2 n o) ?_ FU (0,[]) ⟨avK _,ayW,ayW,λk hk=>by simp at hk⟩ ay0;rintro again ⟨j,ks⟩ ⟨h1,h3,h4,h6⟩ cW;simp only at h1 h3 h4 h6;have hend:∃o,nM a n ((x:Nat):Int) k ks=some o/\B2 n o:=by
  have hplain:∃o,iH a n ((x:Nat):Int) k ks false=some o/\B2 n o:=by
   unfold iH;rw[avj ayW,show(3:Int)=((3:Nat):Int)from rfl,ecl,show(7:Int)=((7:Nat):Int)from rfl,eat,evl];exact⟨_,U,ayU,ayU,ayU,ayU,s0,t0,ayU,hk2,by rw[FX];omega,h6,ayU,λq=>by simp only at q;omega⟩
  unfold nM;by_cases c:((x:Nat):Int)=11
  ·rw[avk ayY]
   have e3:decide (IntKind.wrap .i64 (BitVec.ofInt (IntKind.bits .i64) a.How&&& BitVec.ofInt (IntKind.bits .i64) 3).toNat=3)=decide (hw=3):=by
    rw[show(3:Int)=((3:Nat):Int)from rfl,ehw];exact ayo.2 ayT
   rw[e3];by_cases c2:hw=3
   ·rw[avP c2]
    obtain⟨row,Mf,Pf⟩:=Mz (q:=a.Row) h2 h5;unfold iH;rw[avk rfl,Mf,avi,show(3:Int)=((3:Nat):Int)from rfl,ecl,show(7:Int)=((7:Nat):Int)from rfl,eat,evl];exact⟨_,U,ayU,ayU,ayU,ayU,s0,t0,ayU,hk2,by rw[FX];omega,h6,ayU,λ_=>Pf⟩
   ·rw[avY c2];exact hplain
  ·rw[avj ayY];exact hplain
 unfold nO nN;simp only;by_cases c1:j<a.Keys.length
 ·rw[avk ay3]
  by_cases c2:j<5
  ·rw[avk ay5,uz h1 c1,avi]
   obtain⟨k',an0,an1⟩:=GD (a.Keys[j.toNat]' ayT);rw[an0,avi,cJ ayV ayV,avi,wrap64 ayT ayT];exact cW _ ⟨ayU,ayU,ayV,λq hq=>(av1.1 hq).elim (h6 q) λe=>by simp at e;subst e;exact an1⟩ ayU
  ·rw[avj ay5];exact hend
 ·rw[avj ay3,avj ayW];exact hend
def ue(past:List ah)(vV:List ah)(own:List au):List ah:=(past.filter λd=>eP own d.Key).filter λd=>bM (dY vV d.Key) d.aq
variable{h:List ah}
theorem Jd(hv:v.bz.length<=1099511627776)(hs:bY h)(hh:h.length<=140737488355328)(hl:own.length<=140737488355328):pY v h own=some (ue v.bz h own):=by
 unfold pY;rw[Gt hv hl];simp only[avi];rw[nH (p:=λd=>!bM (dY h d.Key) d.aq) (λx _=>by
  unfold lV;rw[CX hs hh];simp only[avi,ji]) (awa (aw5 _ _) ayT)]
 simp[ue]
theorem Lc(hv:v.bz.length<=1099511627776)(hs:bY h)(hh:h.length<=140737488355328)(hl:own.length<=140737488355328):sY v h own=some (decide (ue v.bz h own= [])):=by
 unfold sY;rw[Jd hv hs hh hl];simp only[avi];congr 1;cases ue v.bz h own with
 | nil=>simp
 | cons a b=>simp;omega
theorem Mv(Wx:l.length<=1099511627776)(hv:∀v,v∈l->v.bz.length<=1099511627776)(hs:bY h)(hh:h.length<=140737488355328)(hl:own.length<=140737488355328):
  (∃i,∃hi:i<l.length,(∀j(hj:j<l.length),j<i->ue l[j].bz h own≠[])/\ue l[i].bz h own= []/\lW l h own=some (l[i],l.take i++l.drop (i+1),true))\/
  ((∀v,v∈l->ue v.bz h own≠[])/\lW l h own=some (aa.mk ByteArray.empty ByteArray.empty false (ai.mk 0 0) [],l,false)):=by
 have main:∀res,((∃i,∃hi:i<l.length,(∀j(hj:j<l.length),j<i->ue l[j].bz h own≠[])/\ue l[i].bz h own= []/\res=some (l[i],l.take i++l.drop (i+1),true))\/
  ((∀v,v∈l->ue v.bz h own≠[])/\res=some (aa.mk ByteArray.empty ByteArray.empty false (ai.mk 0 0) [],l,false)))->lW l h own=res:=by
  intro res hres;unfold lW;refine bw (λv=>0<=v/\v<=(l.length:Int)/\∀j(hj:j<l.length),(j:Int)<v->ue l[j].bz h own≠[]) (λv=>(l.length-v).toNat) (λ_=>res) ?_ FU _ ⟨avK _,ayT,λj _ h=>ayT⟩ ?_
  ·rintro again v ⟨h1,h2,h3⟩ cW
   unfold yK;by_cases c:v<(l.length:Int)
   ·obtain⟨i,rfl⟩:∃i:Nat,v=i:=⟨v.toNat,ayT⟩
    have hi:i<l.length:=by omega
    rw[avk ayY,bp hi];simp only[avi,Lc (hv _<|avu hi) hs hh hl];rw[wrap64 ayT ayT];by_cases hm:ue l[i].bz h own= []
    ·simp only[hm,ayv,avJ,avn,avB]
     have e1:sub l 0 (i:Int)=some (l.take i):=by simp only[sub];rw[avk ⟨ayT,ayT,ayT⟩];simp
     have e2:sub l ((i:Int)+1) (l.length:Int)=some (l.drop<|i+1):=by
      simp only[sub];rw[avk ⟨ayT,ayT,ayT⟩];simp only[avp,axc];congr 1
     rw[e1,e2];simp only[avi];rw[cJ ayV ayV];simp only[avi];rcases hres with⟨i',hi',h4,h5,rfl⟩ | ⟨h4,_⟩
     ·have:i=i':=by
       rcases Nat.lt_trichotomy i i' with h6 | h6 | h6
       ·exact absurd hm (h4 i hi h6)
       ·exact h6
       ·exact absurd h5 (h3 i' hi'<|by omega)
      subst this;rfl
     ·exact absurd hm (h4 _<|avu hi)
    ·simp only[avY hm,awG,avM]
     refine cW _ ⟨ayT,ayT,λj hj h=>?_⟩ ayT;rcases Nat.lt_or_ge j i with h4 | h4
     ·exact h3 j hj ayT
     ·have e:j=i:=by omega
      subst e;exact hm
   ·rw[avj ayY]
    simp only[EG];rcases hres with⟨i',hi',h4,h5,rfl⟩ | ⟨_,rfl⟩
    ·exact absurd h5 (h3 i' hi'<|by omega)
    ·rfl
  ·have:=bF
   omega
 by_cases hex:∃v,v∈l/\ue v.bz h own= []
 ·left
  rcases gQ (λv:aa=>decide (ue v.bz h own= [])) l with⟨i,hi,h1,h2,_⟩ | ⟨h1,_⟩
  ·have h3:∀j(hj:j<l.length),j<i->ue l[j].bz h own≠[]:=λj hj hji=>by simpa using h2 j hj hji
   exact⟨i,hi,h3,ay7,main _<|.inl ⟨i,hi,h3,ay7,U⟩⟩
  ·obtain⟨v,hv,hm⟩:=hex
   have:=h1 v hv;simp[hm]at this
 ·right
  have:∀v,v∈l->ue v.bz h own≠[]:=λv hv c=>hex ⟨v,hv,c⟩;exact⟨this,main _<|.inr ⟨this,U⟩⟩
def qE(n:Nat)(c:ai):Prop:=c=⟨0,0⟩\/dh c=true/\c.N<=n
theorem qE.mono{c:ai}(h:qE n c)(hn:n<=m):qE m c:=h.imp id λq=>⟨q.1,by have:=q.2;omega⟩
theorem max_zero{c:ai}(h:qE n c):fq ⟨0,0⟩ c=c:=by
 rcases h with rfl | h
 ·rfl
 ·unfold fq;rw[avk (Dq h.1)]
theorem yR{a b:ai}(h:qE n a):jF [a,b] =some (fq a b):=by
 rw[Bo ayW];simp only[awS,List.foldl_nil];rw[max_zero h]
theorem qE.max{a b:ai}(h:qE n a)(hb:dh b=true)(hn:b.N<=n):qE n (fq a b):=by
 unfold fq;split
 ·exact .inr ⟨hb,hn⟩
 ·exact h
theorem qE.zero(n:Nat):qE n ⟨0,0⟩:=.inl U
theorem qE.le{a:ai}(h:qE n a):0<=a.N/\a.N<=n:=by
 rcases h with rfl | ⟨h,h2⟩
 ·simp
 ·have:=fN.1 h;omega
structure GS(n:Nat)(s:aC):Prop where
 sh:uO n s.aO
 wl:s.wait.length<=24
 wg:∀v,v∈s.wait->GV n v
 G6:0<=s.id
 N8:s.id<6
 XF:qE n s.clock
theorem GS.mono{n m:Nat}{s:aC}(h:GS n s)(hn:n<=m):GS m s:=⟨h.sh.mono hn,h.wl,λv hv=>(h.wg v hv).mono hn,h.G6,h.N8,h.XF.mono hn⟩
theorem Dc{s:aC}(h:GS n s):tC s=some s.aO.ranges:=by
 have:=h.sh.rl;unfold tC uH;rw[ig ayT ayT];rfl
theorem Bg{s:aC}(h:GS n s)(k:ByteArray):rE s k=some (eP s.aO.ranges k):=by
 obtain⟨i,h1,_,h3⟩:=vP (l:=s.aO.ranges) (by have:=h.sh.rl;omega) k;unfold rE;rw[Dc h];simp only[avi];rw[h1];simp only[avi,h3]
theorem Bf{s:aC}(h:GS n s)(hn:n<=100000):rC s=some (sO s.aO):=by
 unfold rC;rw[MH h.sh hn];rfl
theorem EM{s:aC}(h:GS n s)(hn:n<=100000)(k:ByteArray):rA s k=some (aQ s.aO k):=by
 unfold rA;rw[wQ h.sh hn];rfl
def lX(s:aC)(k:ByteArray):aa×Bool×Int:=if eP s.aO.ranges k then((dx (aQ s.aO k)).1,(dx (aQ s.aO k)).2,0)else(Z0,false,14)
theorem Qf{s:aC}(h:GS n s)(hn:n<=100000)(k:ByteArray):vg s k=some (lX s k):=by
 unfold vg DC lX;rw[Bg h];simp only[avi];rw[EK h.sh hn];cases eP s.aO.ranges k<;>rfl
theorem C1{s:aC}(h:GS n s)(q:(lX s k).2.1=true):GV n (lX s k).1/\(lX s k).1.Key=k/\(lX s k).1∈aQ s.aO k:=by
 unfold lX at q ⊢;by_cases c:eP s.aO.ranges k=true
 ·rw[avk c]at q ⊢
  exact⟨((h.sh.chain k).last q).1,((h.sh.chain k).last q).2,qV<|AL q⟩
 ·rw[avj c]at q;cases q
theorem Ss{s:aC}(q:(lX s k).2.1=false):(lX s k).1=zeroV:=by
 unfold lX at q ⊢;by_cases c:eP s.aO.ranges k=true
 ·rw[avk c]at q ⊢
  simp only at q ⊢;rw[Vf q];rfl
 ·rw[avj c];rfl
theorem GU{s:aC}(h:GS n s)(hn:n<=100000):∃q,lW s.wait (sO s.aO) s.aO.ranges=some q/\(q.2.2=true->∃i,∃hi:i<s.wait.length,q.1=s.wait[i]/\q.2.1=s.wait.take i++s.wait.drop (i+1))/\
  vh s=some (if q.2.2 then((q.1,true),{ s with aO:=fX s.aO q.1,wait:=q.2.1 })else((q.1,false),s)):=by
 have hl:=h.wl;have hh:=DB h.sh;have hr:=h.sh.rl;unfold vh sP;rw[Bf h hn,Dc h];simp only[avi];rcases Mv (l:=s.wait) (h:=sO s.aO) (own:=s.aO.ranges) ayT (λv hv=>by have:=(h.wg v hv).past.len;omega) (AB h.sh) ayT ayT with⟨i,hi,_,_,h3⟩ | ⟨_,h3⟩
 ·refine⟨_,h3,λ_=>⟨i,hi,U,U⟩,?_⟩
  rw[h3];simp only[avi];rw[Be h.sh hn (h.wg _<|avu hi)];rfl
 ·refine⟨_,h3,λq=>absurd q<|by simp,?_⟩
  rw[h3];simp
theorem Ju{l:List α}{x:α}(h:x∈l.take i++l.drop (i+1)):x∈l:=(av1.1 h).elim axf aw0
theorem OI{l:List α}(h:i<l.length):(l.take i++l.drop (i+1)).length+1=l.length:=by
 simp only[avz,avC,avZ];omega
def yU(s:aC)(v:aa):Bool:=(aQ s.aO v.Key).any (λx=>decide (x.aq=v.aq))||s.wait.any λw=>decide (w.Key=v.Key)&&decide (w.aq=v.aq)
theorem adZ(l:List aa)(s:ai):(atP l s).2=l.any λx=>decide (x.aq=s):=by
 unfold atP;cases e:l.any λx=>decide (x.aq=s)with
 | true=>
  obtain⟨x,h1,h2⟩:=awO.1 e;exact qW λq=>by
   have:x∈l.filter λv=>decide (v.aq=s):=awc.2 ⟨h1,h2⟩;rw[q]at this;cases this
 | false=>
  rw[axh.2 λx hx=>aw8.1 e x hx];rfl
theorem ML{s:aC}(h:GS n s)(hn:n<=100000)(v:aa):wU s v=some (yU s v):=by
 have hl:=h.wl;unfold wU Jt yU;rw[SD h.sh hn];simp only[avi,adZ];cases(aQ s.aO v.Key).any λx=>decide (x.aq=v.aq)with
 | true=>simp
 | false=>
  simp only[avn,avB,aw6];unfold dH;rw[eG (p:=λw=>decide (w.Key=v.Key)&&decide (w.aq=v.aq)) (λx _=>by
   unfold iU;simp only[seq_eq,DW];cases decide (x.Key=v.Key)<;>simp) ayT]
  simp only[avi,zx]
def dF(s:aC)(v:aa):Int×aC:=
 if eP s.aO.ranges v.Key then if yU s v then(13,s)else if 24<=s.wait.length then(15,s)else(0,{ s with wait:=s.wait++ [v],clock:=fq s.clock v.aq })
 else(0,{ s with clock:=fq s.clock v.aq })
theorem LD{s:aC}(h:GS n s)(hn:n<=100000)(hv:GV n v):oW s v=some (dF s v):=by
 have hl:=h.wl;have hk:∀w,sA s v w=some (0,{ s with wait:=w,clock:=fq s.clock v.aq }):=λw=>by
  unfold sA;rw[yR h.XF];rfl
 unfold oW dF;rw[kD hv.small,hv.ok,Bg h,ML h hn];simp only[avi,avJ,avn,avB,hk];cases eP s.aO.ranges v.Key with
 | false=>simp
 | true=>
  rw[avk rfl,avk rfl];cases yU s v with
  | true=>simp
  | false=>
   simp only[avn,avB];unfold AX;rw[kD hv.small,hv.ok];simp only[avi,avJ,avn,avB];by_cases c:24<=s.wait.length
   ·rw[avk ayV,avk c];rfl
   ·rw[avj ayV,avj c]
    have hsub:sub s.wait 0 (s.wait.length:Int)=some s.wait:=by
     unfold sub;rw[avk ⟨ayT,ayT,ayT⟩];simp
    rw[hsub];simp only[avi];rw[cJ ayV ayV];simp only[avi];rw[avj ayW]
theorem GS.Tq{s:aC}(h:GS n s)(hv:GV n v):GS n (dF s v).2:=by
 unfold dF;split
 ·split
  ·exact h
  ·split
   ·exact h
   ·rename_i c
    exact⟨h.sh,ayV,λx hx=>(av1.1 hx).elim (h.wg x) λq=>by simp at q;subst q;exact hv,h.G6,h.N8,h.XF.max hv.st hv.le⟩
 ·exact⟨h.sh,h.wl,h.wg,h.G6,h.N8,h.XF.max hv.st hv.le⟩
def EJ(c:ai)(p:List ah):ai:=p.foldl (λs d=>fq s d.aq) c
theorem DS{n:Nat}:∀{p:List ah}{c:ai},qE n c->GP n p->qE n (EJ c p)
 | [],_,h,_=>h
 | d::p,c,h,hp=>DS (p:=p) (c:=fq c d.aq) (h.max (hp.st d<|by simp).1 (hp.st d<|by simp).2) ⟨(awx.1 hp.sorted).2,λx hx=>hp.key x<|by simp[hx],λx hx=>hp.st x<|by simp[hx]⟩
theorem acf(a b:ai):a.N<=(fq a b).N/\b.N<=(fq a b).N:=by
 unfold fq;split
 ·rename_i c
  rcases oK.1 c with h | ⟨h,_⟩<;>exact⟨ayT,ayT⟩
 ·rename_i c
  refine⟨avK _,?_⟩;rcases(show a.N<b.N\/b.N<=a.N by omega)with h | h
  ·exact absurd (oK.2<|.inl h) c
  ·exact h
theorem W9:∀(p:List ah)(c:ai),c.N<=(EJ c p).N/\∀d,d∈p->d.aq.N<=(EJ c p).N
 | [],_=>⟨avK _,λd h=>azm⟩
 | x::p,c=>by
  have h:=W9 p (fq c x.aq);have h2:=acf c x.aq;refine⟨by show c.N<=(EJ (fq c x.aq) p).N;omega,λd hd=>?_⟩;show d.aq.N<=(EJ (fq c x.aq) p).N
  rcases List.mem_cons.1 hd with rfl | hd
  ·omega
  ·exact h.2 d hd
def fM(s:aC)(p:List ah):ai:=⟨(EJ s.clock p).N+1,s.id⟩
def rU(s:aC)(k val:ByteArray)(gone:Bool)(p:List ah):aa:=⟨k,val,gone,fM s p,p⟩
theorem Ed(h:GP n p):cE p=some p:=by
 have:=h.len;exact m4 ayT ayT
theorem Oa{s:aC}(h:GS n s)(hn:n<=100000){val:ByteArray}{gone:Bool}(hk:L8 k)(hv:val.size<=1)(hg:gone=true->val=ByteArray.empty)(hp:GP n p):GV (n+1) (rU s k val gone p):=by
 have h1:=(DS h.XF hp).le
 have h2:=h.G6;have h3:=h.N8;exact⟨hk,hv,hg,fN.2 ⟨aAM,aAM,h2,h3⟩,aAM,hp.mono<|by omega⟩
theorem MK{s:aC}(h:GS n s)(hn:n<=99999){val:ByteArray}{gone:Bool}(hk:L8 k)(hv:val.size<=1)(hg:gone=true->val=ByteArray.empty)(hp:GP n p):
  rD s k val gone p=some (if eP s.aO.ranges k then((rU s k val gone p,0),{ s with aO:=fX s.aO<|rU s k val gone p,clock:=fM s p })else((Z0,14),s)):=by
 have hpl:=hp.len;have hgv:=Oa h ayT hk hv hg hp;unfold rD;rw[Bg h,avi];cases eP s.aO.ranges k with
 | false=>rw[avk ayW,avj ayW]
 | true=>
  rw[avj ayW,avk rfl];have hend:ql s k val gone p (EJ s.clock p)=some ((rU s k val gone p,0),{ s with aO:=fX s.aO<|rU s k val gone p,clock:=fM s p }):=by
   have h1:=(DS h.XF hp).le
   have h2:=h.G6;have h3:=h.N8;have hnext:wZ (EJ s.clock p) s.id=some (fM s p,0):=by
    unfold wZ yS;rw[avj azG,avj azx,avj ayV,avj ayT,wrap64 ayT ayT];rfl
   unfold ql;rw[hnext];simp only[avi];rw[avj ayW,Ed hp];simp only[avi];have e:(⟨k,val,gone,fM s p,p⟩:aa)=rU s k val gone p:=rfl;rw[e,kD hgv.small,hgv.ok];simp only[avi,avJ,avn,avB];unfold sP;rw[Be (h.sh.mono<|avD n) ayT hgv];rfl
  refine(pU (S:=ai) p (λo i=>(i,o)) (λl o=>ql s k val gone p<|EJ o l) (λi o=>qE n o) ?_ ?_ (s0:=s.clock) h.XF<|by omega).trans hend
  ·intro again o _
   unfold uI;rw[avj ayW];rfl
  ·intro again i o hi ho cW
   unfold uI;rw[avk ay8];simp only[bp hi,avi];rw[yR ho];simp only[avi];rw[wrap64 ayT ayT,cW _ (ho.max (hp.st _<|avu hi).1 (hp.st _<|avu hi).2)];rfl
theorem Pw{s:aC}(h:GS n s)(hn:n<=99999)(hp:GP n p):qE (n+1) (fM s p):=by
 have h1:=(DS h.XF hp).le
 have h2:=h.G6;have h3:=h.N8;exact .inr ⟨fN.2 ⟨by simp only[fM];omega,by simp only[fM];omega,h2,h3⟩,by simp only[fM];omega⟩
def xJ(s:aC)(l:List aa):aC:=l.foldl (λs v=>{ s with aO:=fX s.aO v,clock:=fq s.clock v.aq }) s
def lQ(s:aC)(own:List au)(l:List aa):aC:=xJ { s with aO:=wh s.aO own,wait:=s.wait.filter λv=>eP own v.Key } l
theorem GS.WO{s:aC}(h:GS n s)(hv:GV n v):GS n { s with aO:=fX s.aO v,clock:=fq s.clock v.aq }:=⟨h.sh.put hv,h.wl,h.wg,h.G6,h.N8,h.XF.max hv.st hv.le⟩
theorem GS.xJ{n:Nat}:∀{l:List aa}{s:aC},GS n s->(∀v,v∈l->GV n v)->GS n (xJ s l)
 | [],_,h,_=>h
 | v::l,s,h,hv=>GS.xJ (l:=l) (h.WO<|hv v<|by simp) λu hu=>hv u aAo
theorem GS.NF{s:aC}(h:GS n s)(ho:own.length<=8):GS n { s with aO:=wh s.aO own,wait:=s.wait.filter λv=>eP own v.Key }:=
 ⟨h.sh.move ho,awa (aw5 _ _) h.wl,λv hv=>h.wg v (awc.1 hv).1,h.G6,h.N8,h.XF⟩
theorem GS.move{s:aC}(h:GS n s)(ho:own.length<=8)(hl:∀v,v∈l->GV n v):GS n (lQ s own l):=(h.NF ho).xJ hl
theorem Mt(hl:l.length<=1000000)(ho:own.length<=1000):wC l own=some (l.filter λv=>eP own v.Key):=by
 unfold wC;rw[fU ayT ayT];simp only[avi];rw[j9 (p:=λv=>!eP own v.Key) (λx _=>by
  obtain⟨i,h1,h2,_⟩:=vP (l:=own) ayT x.Key;unfold pX;rw[h1];simp only[avi,h2]) ayT]
 simp
theorem Qe{s:aC}(h:GS n s)(hn:n<=100000)(ho:own.length<=8)(hl:∀v,v∈l->GV n v)(Wx:l.length<=1000000000):ve s own l=some ((),lQ s own l):=by
 have hw:=h.wl;unfold ve;rw[MI h.sh ho,avi,Mt ayT ayT,avi];refine(pU (S:=aC) l (λo i=>(i,o)) (λl o=>some ((),xJ o l)) (λi o=>GS n o) ?_ ?_ (s0:={ s with aO:=wh s.aO own,wait:=s.wait.filter λv=>eP own v.Key }) (h.NF ho)<|by omega).trans U
 ·intro again o _
  unfold xO;rw[avj ayW];rfl
 ·intro again i o hi ho cW
  have hv:=hl l[i] (avu hi);unfold xO sP;rw[avk ay8];simp only[bp hi,avi];rw[Be ho.sh hn hv];simp only[avi];rw[yR ho.XF];simp only[avi];rw[wrap64 ayT ayT,cW _ (ho.WO hv)];rfl
theorem MJ{s:aC}(h:GS n s)(hn:n<=100000)(st:ai){pins:List ah}(hp:pins.length<=1000):rB s st pins=some ((),{ s with aO:=m0 s.aO st pins }):=by
 unfold rB;rw[LB h.sh hn st hp];rfl
theorem GS.clean{n:Nat}{s:aC}(h:GS n s)(st:ai)(pins:List ah):GS n { s with aO:=m0 s.aO st pins }:=⟨h.sh.clean st pins,h.wl,h.wg,h.G6,h.N8,h.XF⟩
theorem GS.step{s:aC}(h:GS n s)(hi:i<s.wait.length):GS n { s with aO:=fX s.aO s.wait[i],wait:=s.wait.take i++s.wait.drop (i+1) }:=
 ⟨h.sh.put<|h.wg _<|avu hi,by have:=OI hi;have:=h.wl;simp only;omega,λv hv=>h.wg v<|Ju hv,h.G6,h.N8,h.XF⟩
theorem GS.write{s:aC}(h:GS n s)(hn:n<=99999)(hv:GV (n+1) v)(hp:GP n p):GS (n+1) { s with aO:=fX s.aO v,clock:=fM s p }:=
 ⟨(h.sh.mono<|avD n).put hv,h.wl,λv hv=>(h.wg v hv).mono<|avD n,h.G6,h.N8,Pw h hn hp⟩
structure GX(m:Nat)(P:ByteArray->Prop)(x:eM):Prop where
 r0:0<=x.zg.count.next
 nx:x.snd.count.next=x.zg.count.next+x.snd.open_.length
 nm:x.snd.count.next<=m
 ol:x.snd.open_.length<=8
 sq:∀j(h:j<x.snd.open_.length),x.snd.open_[j].Seq=x.zg.count.next+j
 wy:∀p,p∈x.way->p.Seq<x.zg.count.next\/p∈x.snd.open_
 wl:x.way.length<=32+m
 od:∀p,p∈x.snd.open_->P p.Data
structure GN(m:Nat)(P:ByteArray->Prop)(bh:bU):Prop where
 nd:(bh.map (·.1)).Nodup
 good:∀e,e∈bh->GX m P e.2
variable{x:eM}{P:ByteArray->Prop}
theorem GX.mono{m':Nat}{P':ByteArray->Prop}(h:GX m P x)(hm:m<=m')(hP:∀d,P d->P' d):GX m' P' x:=
 ⟨h.r0,h.nx,by have:=h.nm;omega,h.ol,h.sq,h.wy,by have:=h.wl;omega,λp hp=>hP _<|h.od p hp⟩
theorem GN.mono{m m':Nat}{P P':ByteArray->Prop}{bh:bU}(h:GN m P bh)(hm:m<=m')(hP:∀d,P d->P' d):GN m' P' bh:=⟨h.nd,λe he=>(h.good e he).mono hm hP⟩
theorem GN.at{bh:bU}(h:GN m P bh){k:Int×Int}(hx:bx bh k=some x):GX m P x:=h.good _ (iM hx)
theorem GN.set{bh:bU}(h:GN m P bh){k:Int×Int}(hx:GX m P x):GN m P (cw bh k x):=
 ⟨AO h.nd,λe he=>(sR he).elim (λq=>by rw[q];exact hx)<|h.good e⟩
theorem gw{s:List cA}(h:s.length<=1000000):dZ s=some s:=by
 unfold dZ;rw[cJ ayV ayV];rfl
theorem LJ{l:List α}(h:i<=l.length):sub l (i:Int) (l.length:Int)=some (l.drop i):=by
 unfold sub;rw[avk ⟨ayT,ayT,ayT⟩];simp
theorem VK{l:List α}(h:i<=l.length):sub l 0 (i:Int)=some (l.take i):=by
 unfold sub;rw[avk ⟨ayT,ayT,ayT⟩];simp
def xN(x:eM)(d:ByteArray):eM:=⟨⟨⟨x.snd.count.next+1⟩,x.snd.open_++ [⟨x.snd.count.next,d⟩]⟩,x.zg,x.way++ [⟨x.snd.count.next,d⟩]⟩
variable{a b:Int}
theorem R6{bh:bU}(h:GN m P bh)(hm:m<=1000000)(hx:bx bh (a,b)=some x)(hr:x.snd.open_.length<8)(d:ByteArray):wj bh a b d=some (0,cw bh (a,b) (xN x d)):=by
 have g:=h.at hx;have h1:=g.nm;have h2:=g.wl;have h3:=g.r0;have h4:=g.nx;unfold wj mM;rw[hx];simp only;rw[avj ayV,cJ ayV ayV];simp only[avi];rw[avk ayZ,cJ ayV ayV,wrap64 ayT ayT];rfl
theorem GX.send(h:GX m P x)(hr:x.snd.open_.length<8){d:ByteArray}(hd:P d):GX (m+1) P (xN x d):=by
 have h1:=h.nx;refine⟨h.r0,?_,?_,?_,?_,?_,?_,?_⟩
 ·simp only[xN,avz,avv,av9];omega
 ·have:=h.nm;simp only[xN];omega
 ·simp only[xN,avz,avv,av9];omega
 ·intro j hj
  simp only[xN,avz,avv,av9]at hj ⊢;rw[List.getElem_append];split
  ·rename_i c;exact h.sq j c
  ·rename_i c
   have:j=x.snd.open_.length:=by omega
   subst this;simp;omega
 ·intro p hp
  simp only[xN]at hp ⊢;rcases List.mem_append.1 hp with hp | hp
  ·exact(h.wy p hp).imp id λq=>av1.2 (.inl q)
  ·exact .inr (av1.2<|.inr hp)
 ·have:=h.wl;simp only[xN,avz,avv,av9];omega
 ·intro p hp
  simp only[xN]at hp;rcases List.mem_append.1 hp with hp | hp
  ·exact h.od p hp
  ·simp at hp;subst hp;exact hd
theorem R5{bh:bU}(h:GN m P bh)(hx:bx bh (a,b)=some x):sS bh a b=some (x.snd.open_.length:Int):=by
 have:=(h.at hx).ol
 unfold sS bW;rw[hx];simp only;rw[gw ayT];rfl
theorem Mp{bh:bU}(hx:bx bh (a,b)=none):sS bh a b=some 0:=by
 unfold sS;rw[hx]
theorem Mo{bh:bU}(h:GN m P bh)(hm:m<=100000)(hx:bx bh (a,b)=some x):gV bh a b=some x.way:=by
 have:=(h.at hx).wl
 unfold gV;rw[hx];simp only;rw[gw ayT];rfl
theorem Jc{bh:bU}(hx:bx bh (a,b)=none):gV bh a b=some []:=by
 unfold gV;rw[hx]
theorem Pt{bh:bU}(hx:bx bh (a,b)=some x)(hi:i<x.way.length):qY bh a b i=some (if x.way[i].Seq=x.zg.count.next then(x.way[i].Data,true)else(ByteArray.empty,false)):=by
 unfold qY eW zG;rw[hx];simp only;rw[avj ayW,avj ayV,bp hi];simp only[avi];by_cases c:x.way[i].Seq=x.zg.count.next
 ·rw[avj ayY,avk c]
 ·rw[avk ayY,avj c]
theorem GX.first(h:GX m P x){p:cA}(hp:p∈x.way)(hs:p.Seq=x.zg.count.next):∃q,x.snd.open_=p::q:=by
 rcases h.wy p hp with c | c
 ·omega
 ·obtain⟨j,hj,e⟩:=avO c
  have h1:=h.sq j hj;rw[e,hs]at h1;have:j=0:=by omega
  subst this;cases ho:x.snd.open_ with
  | nil=>rw[ho]at c;cases c
  | cons a q=>
   simp only[ho,axi]at e;subst e;exact⟨q,U⟩
theorem KG(h:GX m P x){p:cA}{q:List cA}(ho:x.snd.open_=p::q):gU x.snd (x.zg.count.next+1)=some (1,⟨x.snd.count,q⟩):=by
 have h1:=h.nx;rw[ho]at h1;simp only[avv]at h1;have h8:=h.ol;rw[ho]at h8;simp only[avv]at h8;have hs0:p.Seq=x.zg.count.next:=by
  have:=h.sq 0 (by rw[ho];simp);simp only[ho,axi]at this;omega
 unfold gU;rw[avj ayV];obtain⟨f,hf⟩:∃f,FU=f+2:=⟨FU-2,azl⟩;have hk:su x.snd 1=some (1,⟨x.snd.count,q⟩):=by
  unfold su;rw[ho,show(1:Int)=((1:Nat):Int)from rfl,LJ ayW];rfl
 rw[hf,aR];unfold yA;rw[ho,avk ayW,show(0:Int)=((0:Nat):Int)from rfl,bp ayW];simp only[avi,axi];rw[avk ayV,aR,wrap64 ayT ayT];simp only[Int.natCast_zero,Int.zero_add];rw[hk];cases q with
 | nil=>rw[avj ayW]
 | cons a q=>
  rw[avk ayV,show(1:Int)=((1:Nat):Int)from rfl,bp ayW];simp only[avi];have:=h.sq 1 (by rw[ho];simp);simp only[ho,ayc,axi]at this ⊢;rw[avj ayV]
def LU(x:eM)(i:Nat):List cA:=x.way.take i++x.way.drop (i+1)
def z8(x:eM)(i:Nat):eM:=⟨⟨x.snd.count,x.snd.open_.drop 1⟩,⟨⟨x.zg.count.next+1⟩⟩,LU x i⟩
theorem GX.way{m:Nat}{P:ByteArray->Prop}{x:eM}(h:GX m P x){w:List cA}(h1:∀p,p∈w->p∈x.way\/p∈x.snd.open_)(h2:w.length<=32+m):GX m P ⟨x.snd,x.zg,w⟩:=
 ⟨h.r0,h.nx,h.nm,h.ol,h.sq,λp hp=>(h1 p hp).elim (h.wy p) .inr,h2,h.od⟩
theorem GX.take(h:GX m P x)(hi:i<x.way.length)(hs:x.way[i].Seq=x.zg.count.next):GX m P (z8 x i):=by
 obtain⟨q,ho⟩:=h.first (avu hi) hs;have h1:=h.nx;rw[ho]at h1;simp only[avv]at h1;unfold z8;rw[ho];simp only[ayx,axL];refine⟨by have:=h.r0;simp only;omega,ayU,by have:=h.nm;simp only;omega,by have:=h.ol;rw[ho]at this;simp only[avv]at this;simp only;omega,?_,?_,?_,λp hp=>h.od p (by rw[ho];simp[hp])⟩
 ·intro j hj
  simp only at hj ⊢;have:=h.sq (j+1) (by rw[ho];simpa using hj);simp only[ho,ayc]at this;omega
 ·intro p hp
  simp only at hp ⊢;rcases h.wy p (Ju hp)with c | c
  ·exact .inl ayT
  ·rw[ho]at c
   rcases List.mem_cons.1 c with c | c
   ·subst c;exact .inl ayT
   ·exact .inr c
 ·have:=OI hi;have:=h.wl;unfold LU;simp only;omega
theorem Mq{bh:bU}(h:GN m P bh)(hm:m<=100000)(hx:bx bh (a,b)=some x)(hi:i<x.way.length)(hs:x.way[i].Seq=x.zg.count.next){how:Int}(h1:¬D6 how 3=1)(h2:¬D6 how 3=2):
  nA bh a b i how=some ((x.way[i].Data,true),cw bh (a,b) (z8 x i)):=by
 have g:=h.at hx;have g1:=g.wl;have g2:=g.nm;have g3:=g.nx;have g4:=g.r0;obtain⟨q,ho⟩:=g.first (avu hi) hs;unfold nA;rw[hx];simp only;rw[avj ayW,avj ayV,bp hi];simp only[avi];rw[avj azG,VK ayT];simp only[avi];rw[wrap64 ayT ayT,show((i:Int)+1)=((i+1:Nat):Int) by omega,LJ ayT];simp only[avi];rw[cJ ayV ayV];simp only[avi];rw[avj ay7];unfold gT;rw[avj az4];simp only[avi];rw[avk trivial];unfold eW zG;simp only[avi];rw[wrap64 ayT ayT,KG g ho];simp only[avi];unfold z8 LU;rw[ho];rfl
theorem KP{bh:bU}(h:GN m P bh)(hm:m<=100000)(hx:bx bh (a,b)=some x)(hi:i<x.way.length){how:Int}(hs:D6 how 3=1\/D6 how 3=2\/¬x.way[i].Seq=x.zg.count.next):
  ∃d w,nA bh a b i how=some (d,cw bh (a,b) ⟨x.snd,x.zg,w⟩)/\GX m P ⟨x.snd,x.zg,w⟩:=by
 have g:=h.at hx;have g1:=g.wl;have hcut:GX m P ⟨x.snd,x.zg,LU x i⟩:=g.way (λp hp=>.inl<|Ju hp) (by have:=OI hi;unfold LU;omega);unfold nA;rw[hx];simp only;rw[avj ayW,avj ayV,bp hi];simp only[avi];by_cases c2:D6 how 3=2
 ·rw[avk ay5]
  by_cases c:x.way.length<32
  ·rw[avk ayV,cJ ayV ayV]
   exact⟨_,_,U,g.way (λp hp=>(av1.1 hp).elim .inl λq=>by simp at q;subst q;exact .inl<|avu hi) ayV⟩
  ·rw[avj ayV]
   exact⟨_,_,U,g⟩
 ·rw[avj ay5,VK ayT]
  simp only[avi];rw[wrap64 ayT ayT,show((i:Int)+1)=((i+1:Nat):Int) by omega,LJ ayT];simp only[avi];rw[cJ ayV ayV];simp only[avi];by_cases c1:D6 how 3=1
  ·rw[avk ay3]
   exact⟨_,_,U,hcut⟩
  ·rw[avj ay3]
   have c3:=(hs.resolve_left c1).resolve_left c2
   unfold gT;rw[avk (by simpa using c3)];simp only[avi];exact⟨_,_,U,hcut⟩
theorem Pp{bh:bU}(h:GN m P bh)(hm:m<=100000)(hx:bx bh (a,b)=some x):∃k w,mN bh a b=some (k,cw bh (a,b) ⟨x.snd,x.zg,w⟩)/\GX m P ⟨x.snd,x.zg,w⟩:=by
 have g:=h.at hx;have g1:=g.wl;have g2:=g.ol;unfold mN bW;rw[hx];simp only;rw[gw ayT];simp only[avi];rw[wrap64 ayT ayT];generalize hc:(if(if 0>32-(x.way.length:Int)then 0 else 32-(x.way.length:Int))<(x.snd.open_.length:Int)then(if 0>32-(x.way.length:Int)then 0 else 32-(x.way.length:Int))else(x.snd.open_.length:Int))=c;have hc0:0<=c/\c<=x.snd.open_.length/\(x.way.length<=32->x.way.length+c<=32)/\(32<x.way.length->c=0):=by
  subst hc;refine⟨?_,?_,λ_=>?_,λ_=>?_⟩<;>(repeat' split)<;>omega
 obtain⟨k,rfl⟩:∃k:Nat,c=k:=⟨c.toNat,ayT⟩;rw[VK ayT];simp only[avi];have hk:(x.snd.open_.take k).length=k:=by rw[avC];omega
 rw[cJ (by rw[hk];omega) (by rw[hk];omega)];refine⟨_,_,U,g.way (λp hp=>(av1.1 hp).imp id axf) ?_⟩;rw[avz,hk];by_cases q:x.way.length<=32
 ·have:=hc0.2.2.1 q;omega
 ·have:=hc0.2.2.2 ayT;omega
theorem KL{bh:bU}(hx:bx bh (a,b)=none):mN bh a b=some (0,bh):=by
 unfold mN;rw[hx]
def Nz(bh:bU):Bool:=bh.all λe=>e.2.snd.open_.isEmpty
theorem RY{bh:bU}(h:GN m P bh):ny bh=some (Nz bh):=by
 have key:∀l:bU,(∀e,e∈l->e.2.snd.open_.length<=8)->(l.mapM λe=>bW e.2.snd)=some (l.map λe=>e.2.snd.open_):=by
  intro l
  induction l with
  | nil=>intro _;rfl
  | cons e l ih=>
   intro hl;have h1:bW e.2.snd=some e.2.snd.open_:=by
    unfold bW;rw[gw (by have:=hl e ayW;omega)];rfl
   rw[List.mapM_cons,h1,ih λx hx=>hl x<|by simp[hx]];rfl
 unfold ny Nz;rw[key bh λe he=>(h.good e he).ol];simp only[avi,List.all_map];rfl
structure D4(G Z:List aa):Prop where
 sub:∀v,v∈G->v∈Z
 last:dx G=dx Z
theorem D4.refl(l:List aa):D4 l l:=⟨λ_ h=>h,U⟩
variable{G Z:List aa}
theorem D4.ne(h:D4 G Z):G≠[]↔Z≠[]:=by
 constructor
 ·intro hg hz
  have:=qW hg;rw[h.last,hz]at this;cases this
 ·intro hz hg
  have:=qW hz;rw[<-h.last,hg]at this;cases this
theorem NC{A B:List aa}(hA:gB A)(hB:gB B)(h0:A≠[]↔B≠[])(h:∀v,dx B=(v,true)->v∈A/\∀x,x∈A->zb x.aq v.aq):dx A=dx B:=by
 by_cases hb:B= []
 ·have ha:A= []:=awH λc=>h0.1 c hb
  rw[ha,hb]
 ·have e:=AL (qW hb)
  rw[e];exact(uW hA).2 (h _ e)
theorem D4.ins(h:D4 G Z)(hG:gB G)(hZ:gB Z)(hf:∀x,x∈Z->x.aq≠v.aq):D4 (yu v G) (yu v Z):=by
 have hG':=xE hG λx hx=>hf x (h.sub x hx);have hZ':=xE hZ hf;refine⟨λx hx=>fK.2<|(fK.1 hx).imp id<|h.sub x,NC hG' hZ' ⟨λ_ q=>?_,λ_ q=>?_⟩ λu hu=>?_⟩
 ·have:v∈yu v Z:=fK.2 (.inl U)
  rw[q]at this;cases this
 ·have:v∈yu v G:=fK.2 (.inl U)
  rw[q]at this;cases this
 ·obtain⟨h1,h2⟩:=(uW hZ').1 hu
  refine⟨?_,λx hx=>h2 x<|fK.2<|(fK.1 hx).imp id<|h.sub x⟩;rcases fK.1 h1 with rfl | h1
  ·exact fK.2 (.inl U)
  ·have h3:dx Z=(u,true):=(uW hZ).2 ⟨h1,λx hx=>h2 x<|fK.2<|.inr hx⟩
   rw[<-h.last]at h3;exact fK.2 (.inr<|qV h3)
theorem D4.clean(h:D4 G Z)(st:ai)(pins:List ai):D4 (jo G st pins) Z:=⟨λv hv=>h.sub v (awc.1 hv).1,(JW G st pins).trans h.last⟩
structure j3(a b:aM):Prop where
 Ti:a.ranges=b.ranges
 keys:a.aZ.map (·.1)=b.aZ.map (·.1)
 ch:∀k,D4 (aQ a k) (aQ b k)
theorem j3.refl(a:aM):j3 a a:=⟨U,U,λ_=>D4.refl _⟩
theorem j3.vV{a b:aM}(h:j3 a b):sO a=sO b:=by
 unfold sO;rw[h.keys];exact awK λk _=>by rw[(h.ch k).last]
theorem j3.nB{a b:aM}(h:j3 a b){v:aa}(hf:∀x,x∈aQ b v.Key->x.aq≠v.aq):nB a v=eP b.ranges v.Key/\nB b v=eP b.ranges v.Key:=by
 have e:∀s:aM,(∀x,x∈aQ s v.Key->x.aq≠v.aq)->Ark.nB s v=eP s.ranges v.Key:=λs hs=>by
  unfold Ark.nB;rw[aw8.2 λx hx=>by simpa using hs x hx];simp
 exact⟨by rw[e a λx hx=>hf x<|(h.ch v.Key).sub x hx,h.Ti],e b hf⟩
theorem j3.put{a b:aM}(h:j3 a b)(ha:uO n a)(hb:uO n b)(hf:∀x,x∈aQ b v.Key->x.aq≠v.aq):j3 (fX a v) (fX b v):=by
 obtain⟨e1,e2⟩:=h.nB hf;refine⟨by rw[sX,sX,h.Ti],by rw[HX,HX,e1,e2,h.keys],λk=>?_⟩;rw[ou,ou,e1,e2];by_cases c:eP b.ranges v.Key=true/\v.Key=k
 ·rw[avk c,avk c]
  obtain⟨_,rfl⟩:=c;exact(h.ch _).ins (ha.chain _).sorted (hb.chain _).sorted hf
 ·rw[avj c,avj c];exact h.ch k
theorem j3.clean{a b:aM}(h:j3 a b)(st:ai)(pins:List ah):j3 (m0 a st pins) b:=
 ⟨h.Ti,by rw[Iu];exact h.keys,λk=>by rw[Ek];exact(h.ch k).clean st _⟩
theorem j3.move{a b:aM}(h:j3 a b)(ha:uO n a)(hb:uO n b)(l:List au):j3 (wh a l) (wh b l):=by
 refine⟨U,by rw[KK,KK,h.keys],λk=>?_⟩;rw[ur ha,ur hb];split
 ·exact h.ch k
 ·exact D4.refl _
def eC(s:aM)(l:List aa):aM:=l.foldl fX s
theorem uO.eC{n:Nat}:∀{l:List aa}{s:aM},uO n s->(∀v,v∈l->GV n v)->uO n (eC s l)
 | [],_,h,_=>h
 | v::l,s,h,hv=>uO.eC (l:=l) (h.put<|hv v<|by simp) λu hu=>hv u aAo
theorem yJ:∀(l:List aa)(s:aM),(eC s l).ranges=s.ranges
 | [],_=>rfl
 | v::l,s=>(yJ l<|fX s v).trans (sX s v)
theorem Fp:∀{l:List aa}{s:aM}{k:ByteArray},(∀v,v∈l->v.Key=k)->eP s.ranges k=false->eC s l=s
 | [],_,_,_,_=>rfl
 | v::l,s,k,hk,ho=>by
  have e:fX s v=s:=by
   unfold fX nB;rw[hk v ayW,ho];rfl
  show eC (fX s v) l=s;rw[e];exact Fp (λu hu=>hk u<|by simp[hu]) ho
theorem Fo:∀{l:List aa}{s:aM}{k:ByteArray},(∀v,v∈l->v.Key=k)->eP s.ranges k=true->(∀v w,(v∈aQ s k\/v∈l)->(w∈aQ s k\/w∈l)->v.aq=w.aq->v=w)->
  ∀x,x∈aQ (eC s l) k↔x∈aQ s k\/x∈l
 | [],s,k,_,_,_,x=>by simp[eC]
 | v::l,s,k,hk,ho,hu,x=>by
  have hvk:=hk v ayW;have h1:∀y,y∈aQ (fX s v) k↔y∈aQ s k\/y=v:=λy=>by
   rw[ou];by_cases c:nB s v=true
   ·rw[avk ⟨c,hvk⟩,fK]
    exact or_comm
   ·rw[avj λq=>c q.1]
    have c2:(aQ s v.Key).any (λx=>decide (x.aq=v.aq))=true:=by
     unfold nB at c;rw[hvk,ho]at c;rw[hvk];simpa using c
    obtain⟨z,hz,e⟩:=awO.1 c2;rw[hvk]at hz;have:z=v:=hu z v (.inl hz) (.inr<|by simp) (awf e);subst this;exact⟨.inl,λq=>q.elim id λq=>by rw[q];exact hz⟩
  show x∈aQ (eC (fX s v) l) k↔_;rw[Fo (l:=l) (s:=fX s v) (λu hu=>hk u<|by simp[hu]) (by rw[sX];exact ho) (λa b ha hb e=>hu a b ?_ ?_ e),h1]
  ·simp only[av0]
   exact or_assoc
  ·rcases ha with ha | ha
   ·rcases(h1 a).1 ha with ha | ha
    ·exact .inl ha
    ·exact .inr (by simp[ha])
   ·exact .inr (by simp[ha])
  ·rcases hb with hb | hb
   ·rcases(h1 b).1 hb with hb | hb
    ·exact .inl hb
    ·exact .inr (by simp[hb])
   ·exact .inr (by simp[hb])
theorem AW:∀{l:List aa}{s:aM}{k k':ByteArray},(∀v,v∈l->v.Key=k)->k'≠k->aQ (eC s l) k'=aQ s k'
 | [],_,_,_,_,_=>rfl
 | v::l,s,k,k',hk,hne=>by
  show aQ (eC (fX s v) l) k'=_;rw[AW (l:=l) (λu hu=>hk u<|by simp[hu]) hne,ou,avj λq=>hne (by rw[<-q.2];exact hk v<|by simp)]
theorem CY{n:Nat}:∀{l:List aa}{s:aM}{k:ByteArray},uO n s->(∀v,v∈l->GV n v)->(∀v,v∈l->v.Key=k)->eP s.ranges k=true->
  (eC s l).aZ.map (·.1)=if(!l.isEmpty&& !HM (s.aZ.map (·.1)) k)=true then s.aZ.map (·.1)++ [k]else s.aZ.map (·.1)
 | [],s,k,_,_,_,_=>by simp[eC]
 | v::l,s,k,h,hv,hk,ho=>by
  have hvk:=hk v ayW;have h':=h.put (hv v<|by simp);have hkeys:=HX s v;rw[hvk]at hkeys;have ih:=CY (l:=l) (s:=fX s v) h' (λu hu=>hv u<|by simp[hu]) (λu hu=>hk u<|by simp[hu]) (by rw[sX];exact ho);show(eC (fX s v) l).aZ.map (·.1)=_
  rw[ih];cases c:HM (s.aZ.map (·.1)) k with
  | true=>
   have e:(fX s v).aZ.map (·.1)=s.aZ.map (·.1):=by rw[hkeys,c];simp
   rw[e,c];simp
  | false=>
   have hne:aQ s k= []:=awH λq=>uV.1 c (h.aav.2 q);have hput:nB s v=true:=by
    unfold nB;rw[hvk,ho,hne];rfl
   have e:(fX s v).aZ.map (·.1)=s.aZ.map (·.1)++ [k]:=by rw[hkeys,hput,c];simp
   have e2:HM (s.aZ.map (·.1)++ [k]) k=true:=mK.2 ayW;rw[e,e2];simp
theorem j3.eC{n:Nat}{a b:aM}(h:j3 a b)(ha:uO n a)(hb:uO n b){G Z:List aa}{k:ByteArray}(hGZ:D4 G Z)(hG:GC n k G)(hZ:GC n k Z)
  (hu:∀v w,(v∈aQ b k\/v∈Z)->(w∈aQ b k\/w∈Z)->v.aq=w.aq->v=w):j3 (eC a G) (eC b Z):=by
 have kG:=λv hv=>(hG.good v hv).2
 have kZ:=λv hv=>(hZ.good v hv).2
 have gG:=λv hv=>(hG.good v hv).1
 have gZ:=λv hv=>(hZ.good v hv).1
 cases ho:eP b.ranges k with
 | false=>
  have ho':eP a.ranges k=false:=by rw[h.Ti];exact ho
  rw[Fp kG ho',Fp kZ ho];exact h
 | true=>
  have ho':eP a.ranges k=true:=by rw[h.Ti];exact ho
  have hua:∀v w,(v∈aQ a k\/v∈G)->(w∈aQ a k\/w∈G)->v.aq=w.aq->v=w:=λv w hv hw e=>hu v w (hv.imp ((h.ch k).sub v)<|hGZ.sub v) (hw.imp ((h.ch k).sub w)<|hGZ.sub w) e;have mG:=Fo kG ho' hua;have mZ:=Fo kZ ho hu;refine⟨by rw[yJ,yJ,h.Ti],?_,λk'=>?_⟩
  ·rw[CY ha gG kG ho',CY hb gZ kZ ho,h.keys]
   have e:G.isEmpty=Z.isEmpty:=by
    cases hz:Z with
    | nil=>
     have:G= []:=awH λq=>hGZ.ne.1 q hz;rw[this]
    | cons x Z'=>
     cases hg:G with
     | nil=>exact absurd hg (hGZ.ne.2 (by rw[hz];simp))
     | cons y G'=>rfl
   rw[e]
  ·by_cases e:k'=k
   ·subst e
    have sa:=((ha.eC gG).chain k').sorted
    have sb:=((hb.eC gZ).chain k').sorted
    refine⟨λv hv=>(mZ v).2<|((mG v).1 hv).imp ((h.ch k').sub v)<|hGZ.sub v,NC sa sb ?_ λv hv=>?_⟩
    ·have key:∀(l:List aa),l≠[]↔∃x,x∈l:=λl=>by
      cases l with
      | nil=>simp
      | cons x l=>simp
     have UZ:=(h.ch k').ne
     have hn2:=hGZ.ne;rw[key,key]at UZ hn2;rw[key,key];constructor
     ·rintro⟨x,hx⟩
      rcases(mG x).1 hx with q | q
      ·obtain⟨y,hy⟩:=UZ.1 ⟨x,q⟩;exact⟨y,(mZ y).2<|.inl hy⟩
      ·obtain⟨y,hy⟩:=hn2.1 ⟨x,q⟩;exact⟨y,(mZ y).2<|.inr hy⟩
     ·rintro⟨x,hx⟩
      rcases(mZ x).1 hx with q | q
      ·obtain⟨y,hy⟩:=UZ.2 ⟨x,q⟩;exact⟨y,(mG y).2<|.inl hy⟩
      ·obtain⟨y,hy⟩:=hn2.2 ⟨x,q⟩;exact⟨y,(mG y).2<|.inr hy⟩
    ·obtain⟨h1,h2⟩:=(uW sb).1 hv
     refine⟨?_,λx hx=>h2 x<|(mZ x).2<|((mG x).1 hx).imp ((h.ch k').sub x)<|hGZ.sub x⟩;rcases(mZ v).1 h1 with q | q
     ·have:dx (aQ b k')=(v,true):=(uW (hb.chain k').sorted).2 ⟨q,λx hx=>h2 x<|(mZ x).2<|.inl hx⟩
      rw[<-(h.ch k').last]at this;exact(mG v).2 (.inl<|qV this)
     ·have:dx Z=(v,true):=(uW hZ.sorted).2 ⟨q,λx hx=>h2 x<|(mZ x).2<|.inr hx⟩
      rw[<-hGZ.last]at this;exact(mG v).2 (.inr<|qV this)
   ·rw[AW kG e,AW kZ e];exact h.ch k'
structure Ca(a b:aC):Prop where
 id:a.id=b.id
 wait:a.wait=b.wait
 clock:a.clock=b.clock
 sh:j3 a.aO b.aO
theorem Ca.refl(a:aC):Ca a a:=⟨U,U,U,j3.refl _⟩
theorem Ca.read{a b:aC}(h:Ca a b)(k:ByteArray):lX a k=lX b k:=by
 unfold lX;rw[h.sh.Ti,(h.sh.ch k).last]
theorem Ca.there{a b:aC}(h:Ca a b)(hn:yU b v=false):yU a v=false:=by
 unfold yU at hn ⊢;rw[axz]at hn ⊢;refine⟨aw8.2 λx hx=>aw8.1 hn.1 x<|(h.sh.ch v.Key).sub x hx,?_⟩;rw[h.wait];exact hn.2
theorem Ca.Tq{a b:aC}(h:Ca a b)(hn:yU b v=false):(dF a v).1=(dF b v).1/\Ca (dF a v).2 (dF b v).2:=by
 unfold dF;rw[h.there hn,hn,h.sh.Ti,h.wait,h.clock];cases eP b.aO.ranges v.Key with
 | true=>
  simp only[avM,avn,avB];by_cases c:24<=b.wait.length
  ·rw[avk c,avk c];exact⟨U,h⟩
  ·rw[avj c,avj c];exact⟨U,h.id,U,U,h.sh⟩
 | false=>
  simp only[avn,avB];exact⟨ayS,h.id,U,U,h.sh⟩
theorem Ca.write{a b:aC}(h:Ca a b)(k val:ByteArray)(gone:Bool)(p:List ah):rU a k val gone p=rU b k val gone p/\fM a p=fM b p:=by
 unfold rU fM;rw[h.clock,h.id];exact⟨U,U⟩
theorem KJ:∀(l:List aa)(s:aC),xJ s l= { s with aO:=eC s.aO l,clock:=l.foldl (λc v=>fq c v.aq) s.clock }
 | [],_=>rfl
 | v::l,s=>by
  show xJ { s with aO:=fX s.aO v,clock:=fq s.clock v.aq } l=_;rw[KJ l];rfl
def lg(c:ai)(l:List aa):ai:=l.foldl (λc v=>fq c v.aq) c
theorem uQ:∀(l:List aa)(c:ai),zb c (lg c l)/\∀v,v∈l->zb v.aq (lg c l)
 | [],c=>⟨dG c,λv h=>azm⟩
 | v::l,c=>by
  obtain⟨h1,h2⟩:=uQ l (fq c v.aq);refine⟨gJ (Gl c v.aq) h1,λu hu=>?_⟩;rcases List.mem_cons.1 hu with rfl | hu
  ·exact gJ (yz c u.aq) h1
  ·exact h2 u hu
theorem Ht:∀(l:List aa)(c:ai),lg c l=c\/∃v,v∈l/\lg c l=v.aq
 | [],c=>.inl U
 | v::l,c=>by
  show lg (fq c v.aq) l=c\/∃u,u∈v::l/\lg (fq c v.aq) l=u.aq;rcases Ht l (fq c v.aq)with h | ⟨u,h1,h2⟩
  ·rw[h]
   unfold fq;split
   ·exact .inr ⟨v,ayW,U⟩
   ·exact .inl U
  ·exact .inr ⟨u,aAw,h2⟩
theorem TK(h:D4 G Z)(hZ:gB Z)(c:ai):lg c G=lg c Z:=by
 refine Gk ?_ ?_
 ·rcases Ht G c with e | ⟨v,h1,e⟩
  ·rw[e];exact(uQ Z c).1
  ·rw[e];exact(uQ Z c).2 v (h.sub v h1)
 ·rcases Ht Z c with e | ⟨v,h1,e⟩
  ·rw[e];exact(uQ G c).1
  ·rw[e]
   have hne:Z≠[]:=λq=>by rw[q]at h1;cases h1
   have hl:=AL (qW hne);have h2:=RT hZ hl h1;have hg:dx G=((dx Z).1,true):=h.last.trans hl;exact gJ h2 ((uQ G c).2 _<|qV hg)
abbrev bl(s:ByteArray):List UInt8:=s.data.toList
def uC(l:List UInt8):ByteArray:=⟨l.toArray⟩
theorem ju(l:List UInt8):bl (uC l)=l:=by simp[bl,uC]
theorem CR(s:ByteArray):uC (bl s)=s:=by cases s;simp[bl,uC]
theorem xV{t:ByteArray}(h:bl s=bl t):s=t:=by rw[<-CR s,<-CR t,h]
theorem Cg(s t:ByteArray):bl (s++t)=bl s++bl t:=by simp[bl,ByteArray.data_append]
theorem qL(s:ByteArray):(bl s).length=s.size:=by simp[bl]
theorem afd(l m:List UInt8):uC l++uC m=uC (l++m):=xV (by rw[Cg,ju,ju,ju])
theorem eT(l:List UInt8):(uC l).size=l.length:=by rw[<-qL,ju]
theorem rV(s:ByteArray)(l:List UInt8):s++uC l=uC (bl s++l):=xV (by rw[Cg,ju,ju])
theorem Tw(s:ByteArray)(a b:Nat):bl (s.extract a b)=((bl s).take b).drop a:=by
 unfold bl;rw[ByteArray.data_extract,Array.toList_extract,List.extract_eq_take_drop,List.drop_take]
theorem acL{t:ByteArray}(h:s.size+t.size<=9223372036854775807):P9 s t=some (s++t):=by unfold P9;rw[avk h]
theorem adn(n:Nat):IntKind.wrap .u8 (n:Int)=((n % 256:Nat):Int):=by
 simp only[IntKind.wrap,IntKind.signed,IntKind.bits];simp
theorem uN{n:Int}(h1:0<=n)(h2:n<18446744073709551616):IntKind.wrap .u64 n=n:=by
 simp only[IntKind.wrap,IntKind.signed,IntKind.bits];simp;omega
def sU:Nat->Nat->List UInt8
 | 0,n=>[UInt8.ofNat n]
 | f+1,n=>if n<128 then[UInt8.ofNat n]else UInt8.ofNat (128+n % 128)::sU f (n / 128)
theorem KR:∀{f n:Nat},n<128 ^ (f+1)->sU (f+1) n=sU f n
 | 0,n,h=>by
  have h:n<128:=by simpa using h
  show(if n<128 then[UInt8.ofNat n]else _)=_;rw[avk h];rfl
 | f+1,n,h=>by
  show(if n<128 then[UInt8.ofNat n]else UInt8.ofNat (128+n % 128)::sU (f+1) (n / 128))=(if n<128 then[UInt8.ofNat n]else UInt8.ofNat (128+n % 128)::sU f (n / 128));by_cases c:n<128
  ·rw[avk c,avk c]
  ·rw[avj c,avj c,KR]
   rw[Nat.pow_succ]at h;exact ax0 (by rw[awR];exact h)
def uB(n:Nat):List UInt8:=sU 10 n
theorem Vm(h:n<128):uB n= [UInt8.ofNat n]:=by unfold uB;rw[sU,avk h]
theorem acn(h:¬n<128)(hn:n<18446744073709551616):uB n=UInt8.ofNat (128+n % 128)::uB (n / 128):=by
 have e:uB n=if n<128 then[UInt8.ofNat n]else UInt8.ofNat (128+n % 128)::sU 9 (n / 128):=rfl
 rw[e,avj h];unfold uB;rw[KR (f:=9)];have:(128:Nat) ^ (9+1)=1180591620717411303424:=by decide
 rw[this];omega
theorem NJ:∀{f n:Nat},1<=(sU f n).length/\(sU f n).length<=f+1
 | 0,n=>by simp[sU]
 | f+1,n=>by
  have:=@NJ f (n / 128);rw[sU];split
  ·simp
  ·simp;omega
theorem iN(n:Nat):1<=(uB n).length/\(uB n).length<=11:=NJ
def B1(n:Nat):ByteArray:=uC (uB n)
theorem afI(n:Nat):IntKind.wrap .u8 (BitVec.ofInt (IntKind.bits .u8) (IntKind.wrap .u8 (n:Int))||| BitVec.ofInt (IntKind.bits .u8) 128).toNat=((128+n % 128:Nat):Int):=by
 have key:∀m:Fin 256,IntKind.wrap .u8 (BitVec.ofInt (IntKind.bits .u8) ((m.val:Nat):Int)||| BitVec.ofInt (IntKind.bits .u8) 128).toNat=((128+m.val % 128:Nat):Int):=by decide +kernel
 have hw:=adn n;rw[hw];have:=key ⟨n % 256,ayG _<|by decide⟩;simp only at this;rw[this];congr 2;omega
theorem zn{c:Nat}(hc:c<256)(hs:s.size+1<=140737488355328):jc s (c:Int)=some (s++uC [UInt8.ofNat c]):=by
 unfold jc;rw[avk ⟨ayT,ayT,hs⟩,avp];rfl
theorem gN{t:ByteArray}(hs:s.size+t.size<=140737488355328):dO s t=some (s++t):=by unfold dO;rw[avk hs]
theorem xW(_hs:s.size≠0):qM s=some s:=rfl
theorem S7{b:ByteArray}(hn:n<18446744073709551616)(hb:b.size<=100000000000000):Ad b (n:Int)=some (b++B1 n):=by
 unfold Ad;refine(bw (λ(v:Int×ByteArray)=>0<=v.1/\v.1<18446744073709551616/\v.2.size+(uB v.1.toNat).length<=140737488355328) (λv=>v.1.toNat) (λv=>some<|v.2++B1 v.1.toNat) ?_ FU ((n:Int),b) ⟨ayU,ayU,?_⟩ ay0).trans ayW
 ·rintro again ⟨m',c⟩ ⟨h1,h2,h3⟩ cW
  simp only at h1 h2 h3;obtain⟨m,rfl⟩:∃m:Nat,m'=m:=⟨m'.toNat,ayT⟩;simp only[avp]at h3;unfold Dl;simp only;by_cases c1:m<128
  ·rw[avj ayV]
   unfold IZ;simp only;rw[adn,axa ayT,zn ayT (by have:=(iN m).1;omega)];simp only[avi,avp];unfold B1;rw[Vm c1]
  ·rw[avk ayV,afI,zn ayT (by have:=(iN m).1;omega)]
   simp only[avi];have e:Int.fdiv (m:Int) (2 ^ min (Int.toNat 7) (IntKind.bits .u64))=((m / 128:Nat):Int):=by
    have:(2:Int) ^ min (Int.toNat 7) (IntKind.bits .u64)=128:=by rfl
    rw[this,axX _ ayT];rfl
   have hb:=acn c1 ayT;rw[e,cW _ ⟨ayU,ayU,?_⟩ ayU]
   ·simp only[avp]
    unfold B1;rw[hb,rV,rV,rV,ju];simp
   ·simp only[avp,aw4,eT,avv,av9]
    rw[hb]at h3;simp only[avv]at h3;omega
 ·have:=(iN n).2
  simp only[avp];omega
def IE(l:List Int):List UInt8:=l.flatMap λx=>uB x.toNat
theorem G7{l:List Int}(h:∀x,x∈l->0<=x/\x<18446744073709551616)(hne:l≠[])(hl:l.length<=1000):vv l=some (uC (IE l)):=by
 unfold vv;have hpos:∀m:List Int,m≠[]->(IE m).length≠0:=by
  intro m hm;cases m with
  | nil=>exact absurd U hm
  | cons x m=>
   have:=(iN x.toNat).1
   simp only[IE,awJ,avz];omega
 refine(pU (body:=qx l) l (λ(s:ByteArray) i=>(i,s)) (λrest s=>if s.size=0/\rest= []then none else some<|s++uC (IE rest)) (λi s=>s.size<=11*i/\(0<i->s.size≠0)) ?_ ?_ (s0:=ByteArray.empty) ayW<|by omega).trans ?_
 ·intro again s hs
  unfold qx G8;simp only[ayP,ayi,avn,avB];have hl0:l.length≠0:=λc=>hne (axd.1 c);have h0:=hs.2 ayT;rw[xW h0,avj (λc=>h0 c.1)];simp only[avi];rw[show IE [] = []from rfl,rV,awY,CR]
 ·intro again i s hi hI cW
  obtain⟨hx0,hx1⟩:=h l[i] (avu hi);obtain⟨m,hm⟩:∃m:Nat,l[i] =m:=⟨l[i].toNat,ayT⟩;unfold qx tE;simp only;rw[avk ay8,bp hi];simp only[avi];have h11:=iN m;rw[hm,S7 ayT ayT,wrap64 ayT ayT];simp only[avi];have hsz:(s++B1 m).size=s.size+(uB m).length:=by rw[aw4];unfold B1;rw[eT]
  rw[cW (s++B1 m) ⟨ayT,λ_=>ayT⟩,avj (λc=>ayT),avj (λc=>by simp at c)];unfold B1;rw[rV,rV,rV,ju];simp[IE]
 ·rw[avj (λc=>hne c.2),rV]
  rfl
theorem xk(hn:n<18446744073709551616):mC (n:Int)=some (B1 n):=by
 unfold mC;rw[G7 (λx hx=>by simp at hx;subst hx;omega) ayW ayW];simp[IE,B1]
def tD(s:ByteArray):List UInt8:=uB s.size++bl s
theorem vp(s:ByteArray):(tD s).length<=s.size+11:=by
 have:=(iN s.size).2
 simp only[tD,avz,qL];omega
theorem BA(hs:s.size<=1000000000000):rR s=some (uC (tD s)):=by
 have:=(iN s.size).2
 unfold rR;rw[uN ayT ayT,xk ayT];simp only[avi];unfold B1;rw[acL (by rw[eT];omega)];simp only[avi];exact awp some (xV (by rw[Cg,ju,ju];rfl))
def Ho:List UInt8->Nat->Nat->Option (Nat×Nat)
 | [],_,_=>none
 | c::l,j,n=>
  if 7*j<64/\c.toNat % 128*2 ^ (7*j)<18446744073709551616/\¬(c.toNat=0/\0<j)then
   if c.toNat<128 then some (n+c.toNat % 128*2 ^ (7*j),j+1)else Ho l (j+1) (n+c.toNat % 128*2 ^ (7*j))
  else none
theorem xL:∀{l:List UInt8}{j n m k:Nat},Ho l j n=some (m,k)->j<k/\k<=j+l.length
 | [],_,_,_,_,h=>azm
 | c::l,j,n,m,k,h=>by
  rw[Ho]at h;split at h
  ·split at h
   ·cases h;simp
   ·have:=xL h;simp;omega
  ·cases h
theorem VA:∀{l:List UInt8}{j n m k:Nat},n<2 ^ (7*j)->Ho l j n=some (m,k)->m<18446744073709551616
 | [],_,_,_,_,_,h=>azm
 | c::l,j,n,m,k,hn,h=>by
  rw[Ho]at h;have hp:2 ^ (7*(j+1))=128*2 ^ (7*j):=by rw[show 7*(j+1)=7*j+7 by omega,Nat.pow_add,awR]
  split at h
  ·rename_i c1
   split at h
   ·cases h
    have hj:j<=9:=by omega
    have:(18446744073709551616:Nat)=2 ^ (64-7*j)*2 ^ (7*j):=by rw[<-Nat.pow_add,show 64-7*j+7*j=64 by omega]
    rw[this]at c1 ⊢;have h2:c.toNat % 128<2 ^ (64-7*j):=Nat.lt_of_mul_lt_mul_right c1.2.1;have h3:(c.toNat % 128+1)*2 ^ (7*j)<=2 ^ (64-7*j)*2 ^ (7*j):=avr _ h2;rw[awn,ayu]at h3;omega
   ·refine VA ?_ h
    have h4:(c.toNat % 128+1)*2 ^ (7*j)<=128*2 ^ (7*j):=avr _ ayT;rw[awn,ayu]at h4;omega
  ·cases h
theorem ofNat_toNat{c:Nat}(h:c<256):(UInt8.ofNat c).toNat=c:=by
 rw[UInt8.toNat_ofNat'];exact axa h
theorem WZ:∀(f m j n:Nat)(r:List UInt8),m<128 ^ (f+1)->m*2 ^ (7*j)<18446744073709551616->(0<j->m≠0)->7*j<64->Ho (sU f m++r) j n=some (n+m*2 ^ (7*j),j+(sU f m).length)
 | 0,m,j,n,r,h1,h2,h3,h4=>by
  have h1:m<128:=by simpa using h1
  rw[sU,av4,Ho,ofNat_toNat ayT,axa h1,avk ⟨h4,h2,λc=>h3 c.2 c.1⟩,avk h1];rfl
 | f+1,m,j,n,r,h1,h2,h3,h4=>by
  have e:sU (f+1) m=if m<128 then[UInt8.ofNat m]else UInt8.ofNat (128+m % 128)::sU f (m / 128):=rfl
  rw[e];by_cases c:m<128
  ·rw[avk c,av4,Ho,ofNat_toNat ayT,axa c,avk ⟨h4,h2,λd=>h3 d.2 d.1⟩,avk c]
   rfl
  ·have hp:2 ^ (7*(j+1))=128*2 ^ (7*j):=by rw[show 7*(j+1)=7*j+7 by omega,Nat.pow_add,awR]
   have hm:m=128*(m / 128)+m % 128:=(ax6 m 128).symm
   have hpos:1<=2 ^ (7*j):=Nat.one_le_two_pow;have hmul:m*2 ^ (7*j)=m / 128*2 ^ (7*(j+1))+m % 128*2 ^ (7*j):=by
    rw[hp,<-Nat.mul_assoc,awR (m / 128) 128,<-awn,<-hm]
   have h5:m / 128*2 ^ (7*(j+1))<18446744073709551616:=by omega
   have hq:1<=m / 128:=by omega
   have h6:7*(j+1)<64:=by
    apply awH;intro c6;have h7:2 ^ 64<=2 ^ (7*(j+1)):=axR ayZ ayT;have h8:1*2 ^ (7*(j+1))<=m / 128*2 ^ (7*(j+1)):=avr _ hq;have:(2:Nat) ^ 64=18446744073709551616:=by decide
    omega
   have h9:m % 128*2 ^ (7*j)<18446744073709551616:=by omega
   rw[avj c,av4,Ho,ofNat_toNat ayT,show(128+m % 128) % 128=m % 128 by omega,avk ⟨h4,h9,λd=>ayT⟩,avj ayT];rw[WZ f (m / 128) (j+1) _ r (by rw[Nat.pow_succ]at h1;exact ax0 (by rw[awR];exact h1)) h5 (λ_=>ayT) h6];simp only[avv,awP,ayt];constructor<;>omega
theorem CZ(h:m<18446744073709551616)(r:List UInt8):Ho (uB m++r) 0 0=some (m,(uB m).length):=by
 have e:(128:Nat) ^ (10+1)=151115727451828646838272:=by decide
 have:=WZ 10 m 0 0 r ayT azi (λc=>ayT) ayT;unfold uB;rw[this];simp
theorem alh(c:UInt8):IntKind.wrap .u64 (BitVec.ofInt (IntKind.bits .u64) (IntKind.wrap .u64 (c.toNat:Int))&&& ~~~BitVec.ofInt (IntKind.bits .u64) 128).toNat=((c.toNat % 128:Nat):Int):=by
 have key:∀m:Fin 256,IntKind.wrap .u64 (BitVec.ofInt (IntKind.bits .u64) (IntKind.wrap .u64 ((m.val:Nat):Int))&&& ~~~BitVec.ofInt (IntKind.bits .u64) 128).toNat=((m.val % 128:Nat):Int):=by decide +kernel
 exact key ⟨c.toNat,c.toNat_lt⟩
theorem aix{a:Nat}(hn:n<2 ^ (7*j))(h:n+a*2 ^ (7*j)<18446744073709551616):IntKind.wrap .u64 (BitVec.ofInt (IntKind.bits .u64) (n:Int)||| BitVec.ofInt (IntKind.bits .u64) ((a*2 ^ (7*j):Nat):Int)).toNat=((n+a*2 ^ (7*j):Nat):Int):=by
 have e:∀m:Nat,m<18446744073709551616->(BitVec.ofInt (IntKind.bits .u64) (m:Int)).toNat=m:=λm hm=>by
  rw[BitVec.ofInt_natCast,BitVec.toNat_ofNat];exact axa hm
 rw[BitVec.toNat_or,e n ayT,e _ ayT,Nat.or_comm,awR a,<-Nat.two_pow_add_eq_or_of_lt hn,Nat.add_comm,awR];rw[awR]at h;rw[awR a];exact uN ayT ayT
theorem agw{a:Nat}(hj:j<=9):IntKind.wrap .u64 ((a:Int)*2 ^ min (Int.toNat ((7*j:Nat):Int)) (IntKind.bits .u64))=((a*2 ^ (7*j) % 18446744073709551616:Nat):Int):=by
 have e:min (Int.toNat ((7*j:Nat):Int)) (IntKind.bits .u64)=7*j:=by
  rw[avp];exact ax8 (by show 7*j<=64;omega)
 rw[e,show((a:Int)*2 ^ (7*j))=((a*2 ^ (7*j):Nat):Int) by simp];simp only[IntKind.wrap,IntKind.signed,IntKind.bits];simp
theorem ahc{a:Nat}(hj:j<=9):Int.fdiv ((a*2 ^ (7*j) % 18446744073709551616:Nat):Int) (2 ^ min (Int.toNat ((7*j:Nat):Int)) (IntKind.bits .u64))=((a*2 ^ (7*j) % 18446744073709551616 / 2 ^ (7*j):Nat):Int):=by
 have e:min (Int.toNat ((7*j:Nat):Int)) (IntKind.bits .u64)=7*j:=by
  rw[avp];exact ax8 (by show 7*j<=64;omega)
 rw[e,axX _ (by exact Int.le_of_lt<|Int.pow_pos<|by decide)];simp
theorem abx{a:Nat}:a*2 ^ (7*j) % 18446744073709551616 / 2 ^ (7*j)=a↔a*2 ^ (7*j)<18446744073709551616:=by
 have hpos:0<2 ^ (7*j):=Nat.two_pow_pos _;constructor
 ·intro h
  apply awH;intro c;have h1:a*2 ^ (7*j) % 18446744073709551616<18446744073709551616:=ayG _ ayZ;have h2:=Nat.div_mul_le_self (a*2 ^ (7*j) % 18446744073709551616) (2 ^ (7*j));rw[h]at h2;omega
 ·intro h
  rw[axa h];exact Nat.mul_div_cancel _ hpos
def VB(at_:Nat):Option (Nat×Nat)->Int×Int×Bool
 | some (n,k)=>((n:Int),((at_+k:Nat):Int),true)
 | none=>(0,0,false)
theorem zT(a n k:Nat):VB a (some (n,k))=((n:Int),((a+k:Nat):Int),true):=rfl
theorem mR(s:ByteArray)(at_:Nat)(hs:s.size<=1000000000000):mQ s (at_:Int)=some (VB at_ (Ho ((bl s).drop at_) 0 0)):=by
 unfold mQ;rw[avj ayW];unfold Bu;by_cases c:s.size<=at_
 ·rw[avk ayY,awo (by rw[qL];omega)]
  rfl
 ·rw[avj ayY]
  refine(bw (λ(v:Int×Int)=>∃j n:Nat,v=((n:Int),((at_+j:Nat):Int))/\at_+j<=s.size/\j<=10/\n<2 ^ (7*j)) (λv=>((s.size:Int)-v.2).toNat) (λv=>some<|VB at_<|Ho ((bl s).drop v.2.toNat) (v.2.toNat-at_) v.1.toNat) ?_ FU (0,(at_:Int)) ⟨0,0,ayW,ayT,ayT,ayW⟩ ay0).trans ayW
  rintro again v ⟨j,n,rfl,h1,h2,h3⟩ cW;simp only[avp,Nat.add_sub_cancel_left];unfold Bz;simp only;have esh:IntKind.wrap .i64 (7*(IntKind.wrap .i64 (((at_+j:Nat):Int)-(at_:Int))))=((7*j:Nat):Int):=by
   rw[show((at_+j:Nat):Int)-(at_:Int)=(j:Int) by omega,wrap64 (n:=(j:Int)) ayT ayT,wrap64 ayT ayT];omega
  by_cases c1:at_+j<s.size
  ·have aE:(bl s).drop (at_+j)=s[at_+j] ::(bl s).drop (at_+j+1):=by
    rw[av8 (by rw[qL];exact c1)];rfl
   rw[avk (by rw[awe];omega),Xb c1,aE];simp only[avi];generalize s[at_+j] =b;have hb:=b.toNat_lt;rw[esh,Ho];have aqu:some (VB at_ none)=Bv ():=rfl;by_cases c2:7*j<64
   ·have hj:j<=9:=by omega
    rw[avj ayV];simp only[nL,show decide ((0:Int)<=((7*j:Nat):Int))=true by simp;omega,avM];rw[alh,agw hj,ahc hj];unfold Bw;by_cases c3:b.toNat % 128*2 ^ (7*j)<18446744073709551616
    ·have hq:b.toNat % 128*2 ^ (7*j) % 18446744073709551616 / 2 ^ (7*j)=b.toNat % 128:=abx.2 c3
     rw[hq];simp only[ayv,avJ,avn,avB];have ewb:IntKind.wrap .u64 (b.toNat:Int)=(b.toNat:Int):=uN ayT ayT
     rw[ewb];have hk4:∀y:Bool,y=decide (b.toNat=0/\0<j)->qy (at_:Int) again ((n:Int),((at_+j:Nat):Int)) b y=some (VB at_<|if 7*j<64/\b.toNat % 128*2 ^ (7*j)<18446744073709551616/\¬(b.toNat=0/\0<j)then if b.toNat<128 then some (n+b.toNat % 128*2 ^ (7*j),j+1)else Ho ((bl s).drop<|at_+j+1) (j+1) (n+b.toNat % 128*2 ^ (7*j))else none):=by
      intro y hy;unfold qy;by_cases c4:b.toNat=0/\0<j
      ·rw[avk (by rw[hy];simpa using c4),avj (λd=>d.2.2 c4)];rfl
      ·have akB:7*j<64/\b.toNat % 128*2 ^ (7*j)<18446744073709551616/\¬(b.toNat=0/\0<j):=⟨c2,c3,c4⟩
       rw[avj (by rw[hy];simpa using c4),avk akB];simp only;rw[esh];simp only[nL,show decide ((0:Int)<=((7*j:Nat):Int))=true by simp;omega,avM];rw[alh,agw hj,axa c3];have hnl:n+b.toNat % 128*2 ^ (7*j)<18446744073709551616:=by
        have:(18446744073709551616:Nat)=2 ^ (64-7*j)*2 ^ (7*j):=by rw[<-Nat.pow_add,show 64-7*j+7*j=64 by omega]
        rw[this]at c3 ⊢;have h5:b.toNat % 128<2 ^ (64-7*j):=Nat.lt_of_mul_lt_mul_right c3;have h6:(b.toNat % 128+1)*2 ^ (7*j)<=2 ^ (64-7*j)*2 ^ (7*j):=avr _ h5;rw[awn,ayu]at h6;omega
       rw[aix h3 hnl,wrap64 ayT ayT];by_cases c5:b.toNat<128
       ·rw[avk (by rw[ewb,awe];omega),avk c5]
        simp only[VB];congr 3
       ·rw[avj (by rw[ewb,awe];omega),avj c5]
        have hp:2 ^ (7*(j+1))=128*2 ^ (7*j):=by rw[show 7*(j+1)=7*j+7 by omega,Nat.pow_add,awR]
        have h4:(b.toNat % 128+1)*2 ^ (7*j)<=128*2 ^ (7*j):=avr _ ayT;rw[awn,ayu]at h4;rw[cW (((n+b.toNat % 128*2 ^ (7*j):Nat):Int),((at_+j:Nat):Int)+1) ⟨j+1,n+b.toNat % 128*2 ^ (7*j),by simp only[ayt,true_and];omega,ayT,ayT,ayT⟩ ayU];have e1:(((at_+j:Nat):Int)+1).toNat=at_+j+1:=by omega
        simp only[e1,avp];rw[show at_+j+1-at_=j+1 by omega]
     by_cases c6:b.toNat=0
     ·rw[avk (by simpa using c6)]
      exact hk4 _ (by simp[c6];omega)
     ·rw[avj (by simpa using c6)]
      exact hk4 _ (by simp[c6])
    ·have hq:¬b.toNat % 128*2 ^ (7*j) % 18446744073709551616 / 2 ^ (7*j)=b.toNat % 128:=λe=>c3 (abx.1 e)
     rw[avk (by simp only[axj,axo];omega),avj (λd=>c3 d.2.1)];rfl
   ·rw[avk ayV,avj (λd=>c2 d.1)]
    rfl
  ·rw[avj (by rw[awe];omega),awo (by rw[qL];omega)]
   rfl
theorem Zc(s:ByteArray)(i:Nat):ir s i<=4:=by
 unfold ir
 repeat' split
 all_goals omega
theorem N1{s:ByteArray}:∀(m i:Nat)(n:Int),s.size-i<=m->0<=n->(eU s n i= -1\/(n<=eU s n i/\((s.size-i:Nat):Int)<=4*(eU s n i-n)))
 | 0,i,n,h,hn=>by
  rw[A9 ayT];exact .inr ⟨avK _,ayT⟩
 | m+1,i,n,h,hn=>by
  by_cases c:i<s.size
  ·by_cases hw:ir s i=0
   ·exact .inl (A8 c hw)
   ·rw[DR c hw]
    have h4:=Zc s i;have h5:=Lt c;have h8:=Nat.pos_of_ne_zero hw;rcases N1 (s:=s) m (i+ir s i) (n+1) ayT ayT with h6 | ⟨h6,h7⟩
    ·exact .inl h6
    ·exact .inr ⟨ayT,ayT⟩
  ·rw[A9 c]
   exact .inr ⟨avK _,ayT⟩
theorem Fj(h:j8 s=true):s.size<=32:=by
 unfold j8 at h;simp only[avA,awe]at h;rcases N1 (s:=s) s.size 0 0 ayT (Int.le_refl _)with h1 | ⟨_,h2⟩
 ·omega
 ·omega
def m8(s:ai):List UInt8:=uB s.N.toNat++uB s.Site.toNat
theorem Bn(s:ai):2<=(m8 s).length/\(m8 s).length<=22:=by
 have h1:=iN s.N.toNat;have h2:=iN s.Site.toNat;simp only[m8,avz];omega
def FF(s:ai):ByteArray:=if dh s then uC (m8 s)else ByteArray.empty
theorem De(s:ai):o7 s=some (FF s):=by
 unfold o7 FF;rw[qt];simp only[avi];cases h:dh s with
 | false=>rfl
 | true=>
  have h1:=fN.1 h;simp only[avJ,avn,avB,avM];rw[uN ayT ayT,uN ayT ayT,G7 (λx hx=>by simp at hx;rcases hx with rfl | rfl<;>omega) ayW ayW];simp[IE,m8]
def L6(d:ah):List UInt8:=tD d.Key++m8 d.aq
def CW(p:List ah):List UInt8:=uB p.length++p.flatMap L6
def Sj(p:List ah):ByteArray:=if gW p then uC (CW p)else ByteArray.empty
theorem Fk:gW p=true↔(∀d,d∈p->fE d=true)/\bY p/\p.length<=24:=by
 unfold gW;rw[avA,JT,awe];constructor
 ·rintro⟨⟨h1,h2,_⟩,h3⟩;exact⟨h1,h2,h3⟩
 ·rintro⟨h1,h2,h3⟩;exact⟨⟨h1,h2,λ_ e=>by cases e⟩,h3⟩
theorem NK(h:fE d=true):j8 d.Key=true:=by
 unfold fE at h;simp only[avA]at h;exact h.1
theorem Q3(hk:d.Key.size<=1000):(L6 d).length<=1033:=by
 have h1:=vp d.Key;have h2:=(Bn d.aq).2
 simp only[L6,avz];omega
theorem Mr(hl:p.length<=100000)(hk:∀d,d∈p->d.Key.size<=1000):wo p=some (Sj p):=by
 unfold wo Sj;rw[yE ayT (λd hd=>by have:=hk d hd;omega)];simp only[avi];cases h:gW p with
 | false=>rfl
 | true=>
  obtain⟨h1,_,h3⟩:=Fk.1 h;have hn:=iN p.length;simp only[avJ,avn,avB,avM];rw[uN ayT ayT,xk ayT];simp only[avi];rw[gN (by unfold B1;rw[eT];simp;omega)];simp only[avi];refine(pU (body:=nD p) p (λ(s:ByteArray) i=>(i,s)) (λrest s=>some<|s++uC (rest.flatMap L6)) (λi s=>s.size<=11+1033*i/\s.size≠0) ?_ ?_ (s0:=ByteArray.empty++B1 p.length) ?_<|by omega).trans ?_
  ·intro again s hs
   unfold nD EC;simp only[ayP,ayi,avn,avB];rw[xW hs.2];simp only[avi,List.flatMap_nil];rw[rV,awY,CR]
  ·intro again i s hi hI cW
   have hm:=avu hi;have hd:=hk _ hm;have hdl:=Q3 hd;have htl:=vp p[i].Key
   have U3:=(Bn p[i].aq).2
   have hst:FF p[i].aq=uC (m8 p[i].aq):=by unfold FF;rw[IK (h1 _ hm)];rfl
   unfold nD;simp only;rw[avk ay8,bp hi];simp only[avi];rw[BA ayT,De,hst];simp only[avi];rw[acL (by rw[eT,eT];omega),afd];simp only[avi];have hsz:(uC<|tD p[i].Key++m8 p[i].aq).size=(L6 p[i]).length:=eT _
   rw[gN ayT,wrap64 ayT ayT];simp only[avi];rw[cW _ ⟨by rw[aw4,hsz];omega,by rw[aw4];omega⟩];refine awp some (xV ?_);simp only[Cg,ju,awJ,L6,av6]
  ·simp only[aw4,B1,eT,ByteArray.size_empty]
   omega
  ·refine awp some (xV ?_)
   simp[ju,B1,CW]
def Y1(most:Nat)(l:List UInt8):Option (List UInt8×Nat):=match Ho l 0 0 with
 | some (n,k)=>if n<=most/\n<=l.length-k then some ((l.drop k).take n,k+n)else none
 | none=>none
def aiD(at_:Nat):Option (List UInt8×Nat)->ByteArray×Int×Bool
 | some (t,k)=>(uC t,((at_+k:Nat):Int),true)
 | none=>(ByteArray.empty,0,false)
theorem HY(a k:Nat)(t:List UInt8):aiD a (some (t,k))=(uC t,((a+k:Nat):Int),true):=rfl
theorem rN(s:ByteArray)(at_ most:Nat)(hs:s.size<=1000000000000)(hm:most<=1000000):kz s (at_:Int) (most:Int)=some (aiD at_ (Y1 most ((bl s).drop at_))):=by
 unfold kz;rw[mR s at_ hs];simp only[avi];unfold Y1;cases h:Ho ((bl s).drop at_) 0 0 with
 | none=>rfl
 | some x=>
  obtain⟨n,k⟩:=x;have h1:=xL h;have h2:=VA ayZ h;have Wx:((bl s).drop at_).length=s.size-at_:=by rw[avZ,qL]
  rw[Wx]at h1 ⊢;rw[zT];simp only[avJ,avn,avB];rw[show decide ((most:Int)<0)=false by simp];unfold rP;simp only[avn,avB];rw[uN (n:=(most:Int)) ayT ayT];unfold rQ;by_cases c1:n<=most
  ·rw[avj (λe=>absurd (awf e)<|by omega),wrap64 (n:=(s.size:Int)-((at_+k:Nat):Int)) ayT ayT,uN (n:=(s.size:Int)-((at_+k:Nat):Int)) ayT ayT]
   unfold rO;by_cases c2:n<=s.size-at_-k
   ·rw[avj (λe=>absurd (awf e)<|by omega),avk ⟨c1,c2⟩]
    simp only;rw[wrap64 (n:=(n:Int)) ayT ayT,wrap64 (n:=((at_+k:Nat):Int)+(n:Int)) ayT ayT];have hsub:Ib s ((at_+k:Nat):Int) (((at_+k:Nat):Int)+(n:Int))=some (uC<|(((bl s).drop at_).drop k).take n):=by
     unfold Ib;rw[avk ⟨ayT,ayT,ayT⟩];refine awp some (xV ?_);rw[Tw,ju,avp,show(((at_+k:Nat):Int)+(n:Int)).toNat=at_+k+n by omega,awV,List.drop_take];congr 1;omega
    rw[hsub];simp only[avi,aiD,awP,ayt,true_and,and_true];omega
   ·rw[avk (avP<|by omega),avj (λd=>c2 d.2)]
    rfl
  ·rw[avk (avP<|by omega),avj (λd=>c1 d.1)]
   rfl
theorem Gw{most:Nat}{l t:List UInt8}{k:Nat}(h:Y1 most l=some (t,k)):1<=k/\k<=l.length/\t.length<=most:=by
 unfold Y1 at h;cases hn:Ho l 0 0 with
 | none=>rw[hn]at h;cases h
 | some y=>
  obtain⟨n,j⟩:=y;rw[hn]at h;have hk:=xL hn;simp only at h;split at h
  ·rename_i c
   cases h;refine⟨ayT,ayT,?_⟩;rw[avC];omega
  ·cases h
theorem Ld{most:Nat}(hs:s.size<=most)(hm:most<=1000000)(r:List UInt8):Y1 most (tD s++r)=some (bl s,(tD s).length):=by
 unfold Y1 tD;rw[av6,CZ ayT];simp only;rw[avk ⟨hs,by simp only[avz,qL];omega⟩];have e:((uB s.size++(bl s++r)).drop (uB s.size).length).take s.size=bl s:=by
  rw[ayk,<-qL s,ayh]
 rw[e];simp
def S6(l:List UInt8):Option (ai×Nat):=match Ho l 0 0 with
 | some (n,k)=>match Ho (l.drop k) 0 0 with
  | some (t,k')=>if dh ⟨(n:Int),(t:Int)⟩then some (⟨(n:Int),(t:Int)⟩,k+k')else none
  | none=>none
 | none=>none
def afu(at_:Nat):Option (ai×Nat)->ai×Int×Bool
 | some (t,k)=>(t,((at_+k:Nat):Int),true)
 | none=>(⟨0,0⟩,0,false)
theorem NZ(a k:Nat)(t:ai):afu a (some (t,k))=(t,((a+k:Nat):Int),true):=rfl
theorem EO(s:ByteArray)(at_:Nat)(hs:s.size<=1000000000000):rH s (at_:Int)=some (afu at_ (S6 ((bl s).drop at_))):=by
 unfold rH;rw[mR s at_ hs];simp only[avi];unfold S6;cases h:Ho ((bl s).drop at_) 0 0 with
 | none=>
  simp only[VB];have:=mR s 0 hs;rw[show((0:Nat):Int)=0 from rfl]at this;rw[this];rfl
 | some x=>
  obtain⟨n,k⟩:=x;rw[zT];simp only[avJ,avn,avB];rw[mR s (at_+k) hs,awV];simp only[avi];unfold yT;cases h2:Ho ((bl s).drop<|at_+k) 0 0 with
  | none=>rfl
  | some y=>
   obtain⟨t,k'⟩:=y;rw[zT];simp only[avJ,avn,avB];unfold sB;by_cases c1:n<=1099511627776
   ·rw[avj (λe=>absurd (awf e)<|by omega)]
    by_cases c2:t<6
    ·rw[avj (λe=>absurd (awf e)<|by omega),qt]
     simp only[avi];rw[wrap64 (n:=(n:Int)) ayT ayT,wrap64 (n:=(t:Int)) ayT ayT];cases dh ⟨(n:Int),(t:Int)⟩with
     | false=>rfl
     | true=>
      simp only[avJ,avn,avB,avM,afu,awP,ayt,true_and,and_true];omega
    ·rw[avk (avP<|by omega),avj (λc=>c2 aAW)]
     rfl
   ·rw[avk (avP<|by omega),avk U,avj (λc=>c1 aAW)]
    rfl
theorem W6{l:List UInt8}{t:ai}{k:Nat}(h:S6 l=some (t,k)):1<=k/\k<=l.length/\dh t=true:=by
 unfold S6 at h;cases hn:Ho l 0 0 with
 | none=>rw[hn]at h;cases h
 | some y=>
  obtain⟨n,j⟩:=y;rw[hn]at h;have hk:=xL hn;simp only at h;cases hn2:Ho (l.drop j) 0 0 with
  | none=>rw[hn2]at h;cases h
  | some z=>
   obtain⟨t',k'⟩:=z;rw[hn2]at h;have hk2:=xL hn2;rw[avZ]at hk2;simp only at h;split at h
   ·rename_i c;cases h;exact⟨ayT,ayT,c⟩
   ·cases h
theorem NX{s:ai}(hs:dh s=true)(r:List UInt8):S6 (m8 s++r)=some (s,(m8 s).length):=by
 obtain⟨h1,h2,h3,h4⟩:=fN.1 hs;unfold S6 m8;rw[av6,CZ ayT];simp only[ayk];rw[CZ ayT];have e:(⟨((s.N.toNat:Nat):Int),((s.Site.toNat:Nat):Int)⟩:ai)=s:=by
  cases s;simp only[ai.mk.injEq];simp only at h1 h3;omega
 simp only[e];rw[avk hs];simp
def YZ:Nat->List UInt8->Option (List ah×Nat)
 | 0,_=>some ([],0)
 | n+1,l=>match Y1 32 l with
  | some (t,k)=>match S6 (l.drop k)with
   | some (s,k')=>match YZ n (l.drop<|k+k')with
    | some (ds,k'')=>some (⟨uC t,s⟩::ds,k+k'+k'')
    | none=>none
   | none=>none
  | none=>none
def rdP(l:List UInt8):Option (List ah×Nat):=match Ho l 0 0 with
 | some (n,k)=>if n<=24 then match YZ n (l.drop k)with
  | some (ds,k')=>if gW ds then some (ds,k+k')else none
  | none=>none
  else none
 | none=>none
theorem WY:∀{n:Nat}{l:List UInt8}{ds:List ah}{k:Nat},YZ n l=some (ds,k)->k<=l.length/\ds.length=n/\∀d,d∈ds->d.Key.size<=32
 | 0,_,_,_,h=>by cases h;exact⟨av5 _,U,λd h=>ay4⟩
 | n+1,l,ds,k0,h=>by
  rw[YZ]at h;cases h1:Y1 32 l with
  | none=>rw[h1]at h;cases h
  | some y=>
   obtain⟨t,k⟩:=y;rw[h1]at h;have hk:=Gw h1;simp only at h;cases h2:S6 (l.drop k)with
   | none=>rw[h2]at h;cases h
   | some z=>
    obtain⟨s,k'⟩:=z;rw[h2]at h;have hk2:=W6 h2;rw[avZ]at hk2;simp only at h;cases h3:YZ n (l.drop<|k+k')with
    | none=>rw[h3]at h;cases h
    | some w=>
     obtain⟨ds',k''⟩:=w;rw[h3]at h;simp only[awP,ayt]at h;obtain⟨rfl,rfl⟩:=h;obtain⟨q1,q2,q3⟩:=WY h3;rw[avZ]at q1;refine⟨ayT,by simp[q2],λd hd=>?_⟩;rcases List.mem_cons.1 hd with rfl | hd
     ·show(uC t).size<=32;rw[eT];exact hk.2.2
     ·exact q3 d hd
theorem Sq:∀{p:List ah},(∀d,d∈p->fE d=true)->∀(r:List UInt8),YZ p.length (p.flatMap L6++r)=some (p,(p.flatMap L6).length)
 | [],_,r=>rfl
 | d::p,h,r=>by
  have hd:=h d ayW;have hk:=Fj (NK hd);rw[avv,YZ,awJ,L6,av6,av6,Ld hk ayT];simp only[ayk];rw[NX (IK hd)];simp only;rw[<-av6,show(tD d.Key).length+(m8 d.aq).length=(tD d.Key++m8 d.aq).length by simp,ayk,Sq (λx hx=>h x<|by simp[hx]) r];simp only[CR];simp[axp]
theorem afr{l:List UInt8}{k:Nat}(h:rdP l=some (p,k)):1<=k/\k<=l.length/\gW p=true:=by
 unfold rdP at h;cases hn:Ho l 0 0 with
 | none=>rw[hn]at h;cases h
 | some y=>
  obtain⟨n,j⟩:=y;rw[hn]at h;have hk:=xL hn;simp only at h;split at h
  ·cases hd:YZ n (l.drop j)with
   | none=>rw[hd]at h;cases h
   | some z=>
    obtain⟨ds,k'⟩:=z;rw[hd]at h;have h2:=WY hd;rw[avZ]at h2;simp only at h;split at h
    ·rename_i c;cases h;exact⟨ayT,ayT,c⟩
    ·cases h
  ·cases h
theorem acB(h:gW p=true)(r:List UInt8):rdP (CW p++r)=some (p,(CW p).length):=by
 obtain⟨h1,_,h3⟩:=Fk.1 h;unfold rdP CW;rw[av6,CZ ayT];simp only[ayk];rw[avk h3,Sq h1];simp only;rw[avk h];simp
def acF(at_:Nat):Option (List ah×Nat)->List ah×Int×Bool
 | some (p,k)=>(p,((at_+k:Nat):Int),true)
 | none=>([],0,false)
theorem Gu(s:ByteArray)(at_:Nat)(hs:s.size<=1000000000000):zK s (at_:Int)=some (acF at_ (rdP ((bl s).drop at_))):=by
 unfold zK;rw[mR s at_ hs];simp only[avi];unfold rdP;cases h:Ho ((bl s).drop at_) 0 0 with
 | none=>rfl
 | some x=>
  obtain⟨n,k⟩:=x;have hk:=xL h;rw[zT];simp only[avJ,avn,avB];unfold AQ;by_cases c:n<=24
  ·rw[avj (λe=>absurd (awf e)<|by omega),avk c,awV]
   simp only;have key:∀(m:Nat)(v:Int×Bool×Int×List ah),(∃(e i:Nat)(acc:List ah),v=((e:Int),true,(i:Int),acc)/\i+m=n/\acc.length=i/\(∀d,d∈acc->d.Key.size<=32))->∀f,m<f->
     aR (mO s ((n:Int),((at_+k:Nat):Int),true)) f v=some (match YZ m ((bl s).drop v.1.toNat)with
      | some (ds,k')=>if gW (v.2.2.2++ds)then(v.2.2.2++ds,((v.1.toNat+k':Nat):Int),true)else([],0,false)
      | none=>([],0,false)):=by
    intro m
    induction m with
    | zero=>
     rintro v ⟨e,i,acc,rfl,h1,h2,h3⟩ f hf;obtain⟨f,rfl⟩:∃f',f=f'+1:=⟨f-1,ayT⟩;rw[aR,YZ];unfold mO pW;simp only;rw[avj (λe=>absurd (awf e)<|by omega),avj ayW,yE ayT (λd hd=>by have:=h3 d hd;omega)];simp only[avi,awY,avp,awE];unfold AR;cases gW acc<;>rfl
    | succ m ih=>
     rintro v ⟨e,i,acc,rfl,h1,h2,h3⟩ f hf;obtain⟨f,rfl⟩:∃f',f=f'+1:=⟨f-1,ayT⟩;have ihf:=λv hv=>ih v hv f ayT;rw[aR,YZ];generalize aR (mO s ((n:Int),((at_+k:Nat):Int),true)) f=again at ihf;unfold mO pW;simp only[avp];rw[avk (avP<|by omega),show(32:Int)=((32:Nat):Int)from rfl,rN s e 32 hs ayT];simp only[avi];cases h5:Y1 32 ((bl s).drop e)with
     | none=>rfl
     | some y=>
      obtain⟨t,k1⟩:=y;have hk1:=Gw h5;rw[HY];simp only[avJ,avn,avB];rw[EO s (e+k1) hs,awV];simp only[avi];cases h6:S6 ((bl s).drop<|e+k1)with
      | none=>rfl
      | some z=>
       obtain⟨t',k2⟩:=z;rw[NZ];simp only[avJ,avn,avB];rw[cJ ayV ayV,uN (n:=(i:Int)+1) ayT ayT];simp only[avi];have:=ihf (((e+k1+k2:Nat):Int),true,(i:Int)+1,acc++ [⟨uC t,t'⟩]) ⟨e+k1+k2,i+1,acc++ [⟨uC t,t'⟩],ayW,ayT,by simp[h2],λd hd=>by
        rcases List.mem_append.1 hd with hd | hd
        ·exact h3 d hd
        ·simp at hd;subst hd;show(uC t).size<=32;rw[eT];exact hk1.2.2⟩
       rw[this];simp only[avp,awV];rw[show e+(k1+k2)=e+k1+k2 by omega];cases YZ m ((bl s).drop<|e+k1+k2)with
       | none=>rfl
       | some w=>
        obtain⟨ds,k3⟩:=w;simp only[av6,ayR];rw[show e+(k1+k2+k3)=e+k1+k2+k3 by omega]
   rw[key n _ ⟨at_+k,0,[],ayW,ayT,rfl,λd h=>ay4⟩ FU azl];simp only[avp,avX];cases YZ n ((bl s).drop<|at_+k)with
   | none=>rfl
   | some w=>
    obtain⟨ds,k'⟩:=w;simp only;by_cases c2:gW ds=true
    ·rw[avk c2,avk c2];simp only[acF,axp]
    ·rw[avj c2,avj c2];rfl
  ·rw[avk (avP<|by omega),avj c]
   rfl
def zE(v:aa):Nat:=if v.Aj then 1 else 0
def MU(v:aa):List UInt8:=tD v.Key++(uB (zE v)++(tD v.Value++(m8 v.aq++CW v.bz)))
def Ae(v:aa):ByteArray:=if fy v then uC (MU v)else ByteArray.empty
def Bj(v:aa):Prop:=v.Key.size<=1000/\v.Value.size<=1000/\v.bz.length<=100/\∀d,d∈v.bz->d.Key.size<=1000
theorem Bj.small(h:Bj v):LF v:=⟨by have:=h.1;omega,by have:=h.2.2.1;omega,λd hd=>by have:=h.2.2.2 d hd;omega⟩
theorem EA:fy v=true↔j8 v.Key=true/\dh v.aq=true/\gW v.bz=true/\v.Value.size<=32/\(v.Aj=true->v.Value=ByteArray.empty):=by
 unfold fy;simp only[avA,awe,awX,axj];cases v.Aj<;>simp
theorem Nq:∀{q:List ah},(∀d,d∈q->d.Key.size<=1000)->(q.flatMap L6).length<=1033*q.length
 | [],_=>ayW
 | d::q,hq=>by
  have h1:=Nq (q:=q) λx hx=>hq x (by simp[hx]);have h2:=Q3 (d:=d) (hq d<|by simp);simp only[awJ,avz,avv];omega
theorem NU(hk:∀d,d∈p->d.Key.size<=1000):1<=(CW p).length/\(CW p).length<=11+1033*p.length:=by
 have h1:=iN p.length;have h2:=Nq hk;simp only[CW,avz];omega
theorem adk(h:Bj v):1<=(MU v).length/\(MU v).length<=200000:=by
 obtain⟨h1,h2,h3,h4⟩:=h;have q1:=vp v.Key;have q2:=iN (zE v);have q3:=vp v.Value;have q4:=Bn v.aq;have q5:=NU h4;have:1033*v.bz.length<=1033*100:=Nat.mul_le_mul_left _ h3;simp only[MU,avz];omega
theorem Jf{l:List ByteArray}(h2:2<=l.length)(hl:l.length<=100)(hs:∀s,s∈l->s.size<=1000000000)(h0:(l[0]' ayT).size≠0):qu l ByteArray.empty=some (uC (l.flatMap bl)):=by
 unfold qu;rw[avj (λe=>absurd (awf e)<|by omega),avj (λe=>absurd (awf e)<|by omega),avj ayW];unfold tT;have hk2:∀y:Int,0<=y->y<=140737488355328->tU l ByteArray.empty y=some (uC<|l.flatMap bl):=by
  intro y hy0 hy1;unfold tU;simp only[nL,avP (show 0<=y/\y<=140737488355328 from⟨hy0,hy1⟩),avM];have hi0:idx l 0=some (l[0]' ayT):=bp (i:=0) ayT;have hb0:=hs _ (avu (show 0<l.length by omega));rw[hi0];simp only[avi];rw[gN ayV];simp only[avi];have hsub:sub l 1 (l.length:Int)=some (l.drop 1):=by
   unfold sub;rw[avk ⟨ayT,ayT,ayT⟩];simp
  rw[hsub];simp only[avi];refine(pU (body:=kf ByteArray.empty<|l.drop 1) (l.drop 1) (λ(s:ByteArray) i=>(i,s)) (λrest s=>some<|s++uC (rest.flatMap bl)) (λi s=>s.size≠0/\s.size<=1000000000*(i+1)) ?_ ?_ (s0:=ByteArray.empty++l[0]' ayT) ?_ ayV).trans ?_
  ·intro again s hs'
   unfold kf BP;simp only[ayP,ayi,avn,avB];rw[xW hs'.1];simp only[avi,List.flatMap_nil];rw[rV,awY,CR]
  ·intro again i s hi hI cW
   have hx:=hs _ (aw0<|avu hi);have hi':i<100:=by rw[avZ]at hi;omega
   unfold kf;simp only;rw[avk (avP<|by omega),bp hi];simp only[avi];have he:s++ByteArray.empty=s:=xV (by rw[Cg];simp[bl]);rw[gN ayV,he];simp only[avi];rw[gN ayT,wrap64 ayT ayT];simp only[avi];rw[cW _ ⟨by rw[aw4];omega,by rw[aw4];omega⟩];exact awp some (xV<|by simp only[Cg,ju,awJ,av6])
  ·simp only[aw4,ByteArray.size_empty]
   omega
  ·refine awp some (xV ?_)
   rw[Cg,Cg,ju,ju];have e:l=l[0]' ayT::l.drop 1:=by
    rw[<-av8 (show 0<l.length by omega)];rfl
   conv=>rhs;rw[e]
   simp[bl]
 refine(pU (body:=ki l ByteArray.empty) l (λ(s:Int) i=>(s,i)) (λ_ _=>some<|uC<|l.flatMap bl) (λi s=>0<=s/\s<=1000000000*(i:Int)) ?_ ?_ (s0:=0) ⟨ayT,ayT⟩<|by omega)
 ·intro again s hs'
  unfold ki;simp only[ayP,ayi,avn,avB];exact hk2 s hs'.1 ayT
 ·intro again i s hi hI cW
  have hx:=hs _ (avu hi);unfold ki BQ;simp only;rw[avk (avP<|by omega),bp hi];simp only[avi];rw[wrap64 (n:=9223372036854775807-s) ayT ayT,avj (λe=>absurd (awf e)<|by omega),wrap64 (n:=s+(l[i].size:Int)) ayT ayT,wrap64 (n:=(i:Int)+1) ayT ayT];exact cW _ ⟨ayT,ayT⟩
theorem M3(h:Bj v):rT v=some (Ae v):=by
 unfold rT Ae;rw[kD h.small];simp only[avi];cases hok:fy v with
 | false=>rfl
 | true=>
  obtain⟨h1,h2,h3,h4⟩:=h;obtain⟨o1,o2,o3,o4,o5⟩:=EA.1 hok;have q1:=vp v.Key;have q3:=vp v.Value;have q4:=Bn v.aq;have q5:=NU h4;have q6:1033*v.bz.length<=1033*100:=Nat.mul_le_mul_left _ h3;have q7:=iN v.Key.size;simp only[avJ,avn,avB,avM];have hk1:∀g:Nat,g<=1->g=zE v->sC v (g:Int)=some (uC<|MU v):=by
   intro g hg hgn;have q2:=iN g;unfold sC;rw[BA ayT,xk ayT,BA ayT,De,Mr ayT h4];simp only[avi];have e1:FF v.aq=uC (m8 v.aq):=by unfold FF;rw[o2];rfl
   have e2:Sj v.bz=uC (CW v.bz):=by unfold Sj;rw[o3];rfl
   have hsz:∀s,s∈[uC (tD v.Key),B1 g,uC (tD v.Value),FF v.aq,Sj v.bz]->s.size<=1000000000:=by
    intro s hs;simp only[av0,List.not_mem_nil,or_false]at hs;rcases hs with rfl | rfl | rfl | rfl | rfl
    ·rw[eT];omega
    ·unfold B1;rw[eT];omega
    ·rw[eT];omega
    ·rw[e1,eT];omega
    ·rw[e2,eT];omega
   have h00:(uC<|tD v.Key).size≠0:=by
    rw[eT];simp only[tD,avz];omega
   rw[Jf ayW ayW hsz h00];simp only[avi];refine awp some (xV ?_);rw[ju,ju,e1,e2];simp only[awJ,List.flatMap_nil,ju,B1,MU,hgn,awY]
  cases hg:v.Aj with
  | true=>
   simp only[avM];exact hk1 1 ayT (by unfold zE;rw[hg];rfl)
  | false=>
   simp only[avn,avB];exact hk1 0 ayT (by unfold zE;rw[hg];rfl)
abbrev Rdr(α:Type):=List UInt8->Option (α×Nat)
def SB{α β:Type}(p:Rdr α)(f:α->Rdr β):Rdr β:=λl=>match p l with
 | some (x,k)=>match f x (l.drop k)with
  | some (y,j)=>some (y,k+j)
  | none=>none
 | none=>none
theorem GL{β:Type}{p:Rdr α}{f:α->Rdr β}{A r:List UInt8}{x:α}(h:p (A++r)=some (x,A.length)):SB p f (A++r)=match f x r with
  | some (y,j)=>some (y,A.length+j)
  | none=>none:=by
 unfold SB;rw[h];simp only[ayk]
def rdG:Rdr Nat:=λl=>match Ho l 0 0 with
 | some (g,k)=>if g<=1 then some (g,k)else none
 | none=>none
def rdV:Rdr aa:=SB (Y1 32) λk=>SB rdG λg=>SB (Y1 32) λt=>SB S6 λs=>SB rdP λp=>λ_=>some (⟨uC k,uC t,decide (g=1),s,p⟩,0)
theorem afs(h:fy v=true)(r:List UInt8):rdV (MU v++r)=some (v,(MU v).length):=by
 obtain⟨o1,o2,o3,o4,o5⟩:=EA.1 h;have hg:rdG (uB (zE v)++(tD v.Value++(m8 v.aq++(CW v.bz++r))))=some (zE v,(uB<|zE v).length):=by
  have:zE v<=1:=by unfold zE;split<;>omega
  unfold rdG;rw[CZ ayT];simp only;rw[avk this]
 unfold rdV MU;simp only[av6];rw[GL (Ld (Fj o1) ayT _),GL hg,GL (Ld o4 ayT _),GL (NX o2 _),GL (acB o3 _)];have e:(⟨uC<|bl v.Key,uC<|bl v.Value,decide (zE v=1),v.aq,v.bz⟩:aa)=v:=by
  rw[CR,CR];have:decide (zE v=1)=v.Aj:=by unfold zE;cases v.Aj<;>rfl
  rw[this]
 simp only[e];simp only[avz,awE]
def acm:aa:=⟨ByteArray.empty,ByteArray.empty,false,⟨0,0⟩,[]⟩
def afv(n:Nat):Option (aa×Nat)->aa×Bool
 | some (v,k)=>if k=n/\fy v=true then(v,true)else(acm,false)
 | none=>(acm,false)
theorem Y2(n k:Nat)(v:aa):afv n (some (v,k))=if k=n/\fy v=true then(v,true)else(acm,false):=rfl
theorem Qz(hs:s.size<=1000000000000):mS s=some (afv s.size (rdV (bl s))):=by
 have Pd:∀(at_ e:Int)(ok:Bool),ei ⟨s,at_,false⟩ e ok=some ⟨s,e,!ok⟩:=λ_ _ _=>rfl;unfold mS jG rdV SB;have t0:=rN s 0 32 hs ayT;rw[show((0:Nat):Int)=0 from rfl,show((32:Nat):Int)=32 from rfl,axL]at t0;simp only;rw[t0];simp only[avi];cases h1:Y1 32 (bl s)with
 | none=>rfl
 | some x1=>
  obtain⟨k,a⟩:=x1;obtain⟨-,l1,-⟩:=Gw h1;rw[qL]at l1;rw[HY];simp only;rw[Pd];simp only[avi,avJ,avn,avB];unfold j0;simp only;rw[mR s (0+a) hs,avS];simp only[avi];cases h2:Ho ((bl s).drop a) 0 0 with
  | none=>
   have:rdG ((bl s).drop a)=none:=by unfold rdG;rw[h2]
   rw[this];rfl
  | some x2=>
   obtain⟨g,b⟩:=x2;have l2:=xL h2;have asu:=VA ayZ h2;rw[avZ,qL]at l2;rw[zT];simp only[avM];rw[Pd];simp only[avi];unfold kK;simp only;by_cases c:g<=1
   ·have hG:rdG ((bl s).drop a)=some (g,b):=by unfold rdG;rw[h2];simp only;rw[avk c]
    rw[hG,avP (show(g:Int)<=1 by omega)];simp only[avJ,avn,avB,avi];have t2:=rN s (a+b) 32 hs ayT;rw[show((32:Nat):Int)=32 from rfl]at t2;rw[t2,awV];simp only[avi];cases h3:Y1 32 ((bl s).drop<|a+b)with
    | none=>rfl
    | some x3=>
     obtain⟨t,d⟩:=x3;obtain⟨-,l3,-⟩:=Gw h3;rw[avZ,qL]at l3;rw[HY];simp only;rw[Pd];simp only[avi,avJ,avn,avB];rw[EO s (a+b+d) hs,awV];simp only[avi];cases h4:S6 ((bl s).drop<|a+b+d)with
     | none=>
      have:=Gu s 0 hs;simp only[afu];rw[show((0:Nat):Int)=0 from rfl]at this;rw[this];rfl
     | some x4=>
      obtain⟨st,e⟩:=x4;obtain⟨-,l4,-⟩:=W6 h4;rw[avZ,qL]at l4;rw[NZ];simp only[avM];rw[Gu s (a+b+d+e) hs,awV];simp only[avi];cases h5:rdP ((bl s).drop<|a+b+d+e)with
      | none=>rfl
      | some x5=>
       obtain⟨p,f⟩:=x5;obtain⟨-,l5,okp⟩:=afr h5;rw[avZ,qL]at l5;simp only[acF];rw[Pd];simp only[avi,avJ];unfold BC mT;simp only[awG,avM,avi];have eg:(decide (IntKind.wrap .i64 (g:Int)=1))=decide (g=1):=by
        rw[wrap64 ayT ayT];by_cases c1:g=1
        ·subst c1;rfl
        ·rw[avY c1,avY ayT]
       rw[eg];have hk:=Fk.1 okp;have hsm:LF ⟨uC k,uC t,decide (g=1),st,p⟩:=⟨by have:=(Gw h1).2.2;show(uC k).size<=_;rw[eT];omega,by show p.length<=_;omega,λx hx=>by have:=Fj<|NK<|hk.1 x hx;omega⟩;unfold BD;by_cases c6:a+b+d+e+f=s.size
       ·rw[avP (show((a+b+d+e+f:Nat):Int)=(s.size:Int) by omega)]
        simp only[avJ,avn,avB];rw[kD hsm];simp only[avi,afv];have c7:a+(b+(d+(e+(f+0))))=s.size:=by omega
        cases hv:fy ⟨uC k,uC t,decide (g=1),st,p⟩with
        | true=>
         simp only[avJ,avn,avB];exact awp some (by rw[eg,avk ⟨c7,ayS⟩])
        | false=>
         simp only[awG,avM];rw[avj (λc=>(by cases c.2))];rfl
       ·rw[avY (show ¬((a+b+d+e+f:Nat):Int)=(s.size:Int) by omega)]
        simp only[awG,avM,afv];rw[avj (λc=>c6 (by have:=c.1;omega))];rfl
   ·have hG:rdG ((bl s).drop a)=none:=by unfold rdG;rw[h2];simp only;rw[avj c]
    rw[hG,avY (show ¬(g:Int)<=1 by omega)];rfl
theorem acD(h:Bj v)(ok:fy v=true):mS (uC (MU v))=some (v,true):=by
 have hl:=adk h;rw[Qz (by rw[eT];omega),ju];have:=afs ok [];rw[awY]at this;rw[this,eT];rw[Y2,avk ⟨rfl,ok⟩]
def Th(l:List aa)(key:ByteArray):ai:=((l.filter λv=>decide (v.Key=key)).map (·.aq)).foldl fq ⟨0,0⟩
theorem XK(hl:l.length<=1099511627776)(key:ByteArray):J9 l key=some (Th l key):=by
 unfold J9;refine bw (λ(v:Int×List ai)=>0<=v.1/\v.1<=(l.length:Int)/\(v.2.length:Int)<=v.1/\v.2++(((l.drop v.1.toNat).filter λv=>decide (v.Key=key)).map (·.aq))=((l.filter λv=>decide (v.Key=key)).map (·.aq)))
  (λv=>((l.length:Int)-v.1).toNat) (λ_=>some<|Th l key) ?_ FU (0,[]) ⟨avK _,ayW,ayW,ayW⟩ ay0
 rintro again ⟨i',o⟩ ⟨h1,h2,h3,h4⟩ cW;simp only at h1 h2 h3 h4;obtain⟨i,rfl⟩:∃i:Nat,i'=i:=⟨i'.toNat,ayT⟩;unfold Hv;simp only;have e:((i:Int)+1).toNat=i+1:=by omega
 simp only[avp]at h4;by_cases c:(i:Int)<(l.length:Int)
 ·have hi:i<l.length:=by omega
  rw[avk ayY,bp hi];simp only[avi,seq_eq];rw[av8 hi,awC]at h4;rw[wrap64 ayT ayT];by_cases hk:l[i].Key=key
  ·rw[avk azf,cJ ayV ayV]
   simp only[avi];rw[avk azf]at h4;exact cW _ ⟨ayU,ayU,by simp only[avz,avv,av9];omega,by simp only[e];rw[<-h4];simp⟩ ayU
  ·rw[avj azf]
   rw[avj azf]at h4;exact cW _ ⟨ayU,ayU,ayU,by simp only[e];exact h4⟩ ayU
 ·rw[avj ayY]
  rw[awo ayT]at h4;have h4:o=((l.filter λv=>decide (v.Key=key)).map (·.aq)):=by simpa using h4
  unfold Nf;subst h4;rw[Bo ayT];rfl
def xw(l:List aa)(seen:List ah):List ah:=yB (seen::l.map (·.bz))
def Bk(l:List aa)(seen:List ah):Prop:=l.length<=100/\seen.length<=100000/\(∀d,d∈seen->d.Key.size<=9223372036854775807)/\∀v,v∈l->v.Key.size<=9223372036854775807/\v.bz.length<=100/\∀d,d∈v.bz->d.Key.size<=9223372036854775807
theorem VL:∀{l:List aa},(∀v,v∈l->v.bz.length<=100)->((l.map (·.bz)).map List.length).sum<=100*l.length
 | [],_=>ayW
 | v::l,h=>by
  have h1:=VL (l:=l) λx hx=>h x (by simp[hx]);have h2:=h v ayW;simp only[avV,awZ,avv];omega
variable{seen:List ah}
theorem TM(hs:Bk l seen):F0 l seen=some (xw l seen):=by
 obtain⟨hl,Yn,hk,hv⟩:=hs;unfold F0;refine bw (λ(v:Int×List (List ah))=>0<=v.1/\v.1<=(l.length:Int)/\(v.2.length:Int)<=v.1+1/\v.2++(l.drop v.1.toNat).map (·.bz)=seen::l.map (·.bz))
  (λv=>((l.length:Int)-v.1).toNat) (λ_=>some<|xw l seen) ?_ FU (0,[seen]) ⟨avK _,ayW,ayW,ayW⟩ ay0
 rintro again ⟨i',o⟩ ⟨h1,h2,h3,h4⟩ cW;simp only at h1 h2 h3 h4;obtain⟨i,rfl⟩:∃i:Nat,i'=i:=⟨i'.toNat,ayT⟩;unfold E5;simp only;have e:((i:Int)+1).toNat=i+1:=by omega
 simp only[avp]at h4;by_cases c:(i:Int)<(l.length:Int)
 ·have hi:i<l.length:=by omega
  rw[avk ayY,bp hi];simp only[avi];rw[av8 hi,avV]at h4;rw[wrap64 ayT ayT,cJ ayV ayV];simp only[avi];exact cW _ ⟨ayU,ayU,by simp only[avz,avv,av9];omega,by simp only[e];rw[<-h4];simp⟩ ayU
 ·rw[avj ayY]
  rw[awo ayT]at h4;have h4:o=seen::l.map (·.bz):=by simpa using h4
  unfold E4;subst h4;have:=VL (l:=l) λv h=>(hv v h).2.1
  rw[yG (λp hp d hd=>?_) (by simp only[avV,awZ];omega) ayV]
  ·rfl
  ·rcases List.mem_cons.1 hp with rfl | hp
   ·exact hk d hd
   ·obtain⟨v,hv',rfl⟩:=avT.1 hp
    exact(hv v hv').2.2 d hd
theorem II(l:List aa)(seen:List ah):bY (xw l seen):=HT _ [] List.Pairwise.nil
theorem CL(hs:Bk l seen):(xw l seen).length<=110000:=by
 have h1:=HQ (seen::l.map (·.bz)) [];have h2:=VL (l:=l) λv h=>(hs.2.2.2 v h).2.1
 have h3:=hs.1;have h4:=hs.2.1;simp only[avV,awZ,av9]at h1;unfold xw yB;omega
def xG(keys:List ByteArray)(l:List aa)(seen:List ah):List ByteArray:=keys.filter λk=>bM (Th l k) (dY (xw l seen) k)
theorem Q2{keys:List ByteArray}(hs:Bk l seen)(hk:keys.length<=1099511627776):Cr keys l seen=some (xG keys l seen):=by
 have h5:=CL hs;have h6:=hs.1;unfold Cr;rw[TM hs,qo hk ayT];simp only[avi];rw[kV (p:=λk=>!bM (Th l k) (dY (xw l seen) k)) (λx _=>?_) ayT]
 ·simp only[avi,Bool.not_not]
  rfl
 ·unfold vJ
  rw[XK ayT,CX (II _ _) ayT];simp only[avi,ji]
theorem OH{keys:List ByteArray}(hs:Bk l seen)(hk:keys.length<=1099511627776):zw keys l seen=some (decide (xG keys l seen= [])):=by
 unfold zw;rw[Q2 hs hk];simp only[avi];congr 1;by_cases c:xG keys l seen= []
 ·simp[c]
 ·rw[avY c,avY]
  intro h;exact c (axd.1<|by omega)
theorem GV.Bj{n:Nat}{v:aa}(h:GV n v):Bj v:=⟨by rw[h.key.size];omega,by have:=h.val;omega,by have:=h.past.len;omega,λd hd=>by rw[(h.past.key d hd).size];omega⟩
theorem NY(h:GV n v):mS (Ae v)=some (v,true):=by
 unfold Ae;rw[avk h.ok];exact acD h.Bj h.ok
theorem TA(h:GV n v):rT v=some (Ae v):=M3 h.Bj
def wv(d:ByteArray):aa:=((mS d).getD (zeroV,false)).1
theorem JG(h:GV n v):wv (Ae v)=v:=by unfold wv;rw[NY h];rfl
def PD(t:Nat)(d:ByteArray):Prop:=∃v,GV t v/\d=Ae v
theorem PD.mono{t u:Nat}(h:t<=u){d:ByteArray}(hd:PD t d):PD u d:=by obtain⟨v,h1,h2⟩:=hd;exact⟨v,h1.mono h,h2⟩
def up(p:List Int)(s:Nat):Nat:=((p[s]?).getD 0).toNat
def anc(p:List Int)(r:Nat):Nat->Nat->Bool
 | 0,s=>decide (s=r)
 | f+1,s=>decide (s=r)||anc p r f (up p s)
def nG(p:List Int)(a b s:Nat):Bool:=if(p[b]?).getD (-1)=(a:Int)then anc p b 5 s else !anc p a 5 s
def mD(b:Bool):Nat:=if b then 1 else 0
theorem acO:∀p,p∈trees->∀a,a<p.length->∀s,s<p.length->((oO p a).map λt=>mD (nG p a t.toNat s)).sum+mD (decide (s=a))<=1:=by decide +kernel
theorem afA:∀p,p∈trees->∀a,a<p.length->∀b,b∈oO p a->∀s,s<p.length->
  (((oO p b.toNat).filter λt=>!decide (t=(a:Int))).map λt=>mD<|nG p b.toNat t.toNat s).sum+mD (decide ((s:Int)=b))<=mD (nG p a b.toNat s):=by decide +kernel
theorem ae7:∀p,p∈trees->∀a,a<p.length->(oO p a).Nodup:=by decide +kernel
def opn(x:eM)(st:ai):Nat:=x.snd.open_.countP λp=>decide ((wv p.Data).aq=st)
def eH(p:List Int)(bh:bU)(s:Nat)(st:ai):Nat:=(bh.map λe=>mD (nG p e.1.1.toNat e.1.2.toNat s)*opn e.2 st).sum
def xu(x:aC)(st:ai):Bool:=x.aO.aZ.any λe=>e.2.any λv=>decide (v.aq=st)
def ez(x:aC)(st:ai):Nat:=mD (xu x st)+x.wait.countP λv=>decide (v.aq=st)
def atS(x:aC)(v:aa):Prop:=(∃k,v∈aQ x.aO k)\/v∈x.wait
def Jl(z:aD)(v:aa):Prop:=(∃(i:Nat)(x:aC),z.sites[i]? =some x/\atS x v)\/∃e,e∈z.bh/\∃p,p∈e.2.snd.open_/\v=wv p.Data
theorem CI{x:aC}(h:uO n x.aO){st:ai}:xu x st=true↔∃k v,v∈aQ x.aO k/\v.aq=st:=by
 unfold xu;rw[awO];constructor
 ·rintro⟨e,h1,h2⟩
  obtain⟨v,h3,h4⟩:=awO.1 h2;refine⟨e.1,v,?_,awf h4⟩;unfold aQ;rw[Po h.nd h1];exact h3
 ·rintro⟨k,v,h1,h2⟩
  unfold aQ at h1;cases e:bx x.aO.aZ k with
  | none=>rw[e]at h1;simp at h1
  | some l=>
   rw[e]at h1;exact⟨_,iM e,awO.2 ⟨v,h1,avP h2⟩⟩
structure ZI(z:aD):Prop where
 ZW:∀v,Jl z v->∃(i:Nat)(x:aC),z.sites[i]? =some x/\v.aq.Site=(i:Int)/\v.aq.N<=x.clock.N
 unq:∀v w,Jl z v->Jl z w->v.aq=w.aq->v=w
 cnt:∀(s:Nat)(x:aC)(st:ai),z.sites[s]? =some x->eH z.row.aK z.bh s st+ez x st<=1
 near:∀e,e∈z.bh->e.2.snd.open_≠[]->e.1.2∈oO z.row.aK e.1.1.toNat
def PH(hs:List aC)(z:aD):Prop:=∀c:Nat,c<4->∀p,p∈z.pins->p.ID=(c:Int)+1->∀(i:Nat)(k:ByteArray)(d:ah),(cr z c).keys[i]? =some k->p.nR.find? (λd=>decide (d.Key=k))=some d->
 ∃(a:Int)(x:aC)(v:aa),(cr z c).sites[i]? =some a/\hs[a.toNat]? =some x/\v∈aQ x.aO k/\v.aq=d.aq
structure mF(t:Nat)(hs:List aC)(z:aD):Prop where
 len:hs.length=z.n
 good:∀(i:Nat)(x:aC),hs[i]? =some x->GS t x/\x.id=(i:Int)
 rel:∀(i:Nat)(x y:aC),hs[i]? =some x->z.sites[i]? =some y->Ca x y
 ph:PH hs z
structure R8(t:Nat)(p:aH):Prop where
 id1:1<=p.ID
 id4:p.ID<=4
 len:p.nR.length<=5
 dep:∀d,d∈p.nR->L8 d.Key/\dh d.aq=true/\d.aq.N<=t
structure aln(n:Nat)(b:tG):Prop where
 len:b.sites.length=b.keys.length
 five:b.keys.length<=5
 key:∀k,k∈b.keys->L8 k
 site:∀s,s∈b.sites->0<=s/\s<n
structure acp(z:aD)(e:cZ):Prop where
 seen:e.Seen.length<=8
 c0:0<=e.Client
 c4:e.Client<4
 le:zb e.aq (dY (bA z e.Client.toNat).bz e.Key)
structure KT(t n:Nat)(s:aP):Prop where
 past:GP t s.bz
 Xd: -1<=s.Site
 Xe:s.Site<n
structure GI(t:Nat)(z:aD):Prop where
 row:eN z.n z.row
 bh:GN (8*t) (PD t) z.bh
 KQ:∀e,e∈z.bh->(0<=e.1.1/\e.1.1<z.n)/\0<=e.1.2/\e.1.2<z.n
 JD:∀c,c<4->KT t z.n (bA z c)
 M8:∀c,c<4->aln z.n (cr z c)
 ps:qp z.pins
 Vy:∀p,p∈z.pins->R8 t p
 hl:z.bg.length<=5*t
 HJ:∀e,e∈z.bg->acp z e
 zi:ZI z
 self:mF t z.sites z
def wS(z:aD)(hs:List aC):aD:={ z with sites:=hs }
theorem afQ(z:aD):wS z z.sites=z:=rfl
theorem uy(z:aD)(hs:List aC)(c:Nat):bA (wS z hs) c=bA z c:=by unfold bA;split<;>rfl
theorem aex(z:aD)(hs:List aC)(c:Nat):cr (wS z hs) c=cr z c:=by unfold cr;split<;>rfl
theorem GM(z:aD)(hs:List aC)(x:aP)(c:Nat):og (wS z hs) x c=wS (og z x c) hs:=by unfold og;split<;>rfl
theorem afy(z:aD)(hs:List aC)(x:tG)(c:Nat):C9 (wS z hs) x c=wS (C9 z x c) hs:=by unfold C9;split<;>rfl
theorem four{c:Nat}(h:c<4):c=0\/c=1\/c=2\/c=3:=by omega
theorem iF(z:aD)(x:aP){c d:Nat}(hc:c<4)(hd:d<4):bA (og z x c) d=if d=c then x else bA z d:=by
 rcases four hc with rfl | rfl | rfl | rfl<;>rcases four hd with rfl | rfl | rfl | rfl<;>rfl
theorem Yb(z:aD)(x:tG){c d:Nat}(hc:c<4)(hd:d<4):cr (C9 z x c) d=if d=c then x else cr z d:=by
 rcases four hc with rfl | rfl | rfl | rfl<;>rcases four hd with rfl | rfl | rfl | rfl<;>rfl
theorem ru(z:aD)(x:aP)(c:Nat):(og z x c).row=z.row/\(og z x c).n=z.n/\(og z x c).sites=z.sites/\(og z x c).bh=z.bh/\(og z x c).pins=z.pins/\(og z x c).bg=z.bg/\∀d,cr (og z x c) d=cr z d:=by
 unfold og;split<;>exact⟨U,U,U,U,U,U,λd=>aza⟩
theorem VD(z:aD)(x:tG)(c:Nat):(C9 z x c).row=z.row/\(C9 z x c).n=z.n/\(C9 z x c).sites=z.sites/\(C9 z x c).bh=z.bh/\(C9 z x c).pins=z.pins/\(C9 z x c).bg=z.bg/\∀d,bA (C9 z x c) d=bA z d:=by
 unfold C9;split<;>exact⟨U,U,U,U,U,U,λd=>aze⟩
theorem mF.mono{t u:Nat}{hs:List aC}{z:aD}(h:mF t hs z)(hu:t<=u):mF u hs z:=⟨h.len,λi x hx=>⟨(h.good i x hx).1.mono hu,(h.good i x hx).2⟩,h.rel,h.ph⟩
variable{t:Nat}{hs:List aC}{z z':aD}
theorem mF.xo(h:mF t hs z)(h1:z'.n=z.n)(h2:z'.sites=z.sites)(h3:z'.pins=z.pins)(h4:∀c,cr z' c=cr z c):mF t hs z':=
 ⟨by rw[h1];exact h.len,h.good,λi x y hx hy=>h.rel i x y hx (by rw[<-h2];exact hy),λc hc p hp hi i k d hk hd=>by
  rw[h3]at hp;rw[h4]at hk ⊢;exact h.ph c hc p hp hi i k d hk hd⟩
theorem ZI.xo(h:ZI z)(h1:z'.row=z.row)(h2:z'.sites=z.sites)(h3:z'.bh=z.bh):ZI z':=by
 have hin:∀v,Jl z' v->Jl z v:=λv hv=>by
  unfold Jl at hv ⊢;rw[h2,h3]at hv;exact hv
 refine⟨λv hv=>?_,λv w hv hw=>h.unq v w (hin v hv)<|hin w hw,λs x st hx=>?_,λe he=>?_⟩
 ·rw[h2];exact h.ZW v (hin v hv)
 ·rw[h1,h3];exact h.cnt s x st (by rw[<-h2];exact hx)
 ·rw[h1];exact h.near e (by rw[<-h3];exact he)
theorem R8.mono{u:Nat}{p:aH}(h:R8 t p)(hu:t<=u):R8 u p:=⟨h.id1,h.id4,h.len,λd hd=>⟨(h.dep d hd).1,(h.dep d hd).2.1,by have:=(h.dep d hd).2.2;omega⟩⟩
theorem KT.mono{t u n:Nat}{s:aP}(h:KT t n s)(hu:t<=u):KT u n s:=⟨h.past.mono hu,h.Xd,h.Xe⟩
theorem GI.mono{t u:Nat}{z:aD}(h:GI t z)(hu:t<=u):GI u z:=
 ⟨h.row,h.bh.mono ayT λ_=>PD.mono hu,h.KQ,λc hc=>(h.JD c hc).mono hu,h.M8,h.ps,λp hp=>(h.Vy p hp).mono hu,by have:=h.hl;omega,h.HJ,h.zi,h.self.mono hu⟩
theorem GI.aiJ(h:GI t z):z.sites.length=z.n:=h.self.len
structure Post(t:Nat)(z:aD)(o:aI)(a:aA)(z':aD):Prop where
 fnd:∀v,v∈a.Found->GV (t+1) v
 fl:a.Found.length<=5
 M8:∀c,c<4->(cr z' c).keys=if o.Kind=6/\a.Err=0/\c=o.Client.toNat then o.Keys else(cr z c).keys
 bad:o.Kind=7->a.Err≠0->a.Found= []/\z'.bg=z.bg
 nn:z'.n=z.n
 good:o.Kind=7->a.Err=0->xG (cr z o.Client.toNat).keys a.Found (bA z o.Client.toNat).bz= []/\
  ∃es:List cZ,z'.bg=z.bg++es/\es.length=(cr z o.Client.toNat).keys.length/\∀(i:Nat)(k:ByteArray)(e:cZ),(cr z o.Client.toNat).keys[i]? =some k->es[i]? =some e->e.Key=k/\e.aq=Th a.Found k
def Step(t:Nat)(z:aD)(o:aI)(X:aD->Option (aA×aD)):Prop:=
 ∃(a:aA)(z':aD)(F:List aC->List aC),z'.sites=F z.sites/\(∀hs,mF t hs z->X (wS z hs)=some (a,wS z' (F hs))/\mF (t+1) (F hs) z')/\GI (t+1) z'/\Post t z o a z'
variable{o:aI}
theorem Step.told{X:aD->Option (aA×aD)}(h:GI t z)(e:Int)(he:o.Kind=6\/o.Kind=7->e≠0)(hX:∀hs,mF t hs z->X (wS z hs)=some (⟨e,[]⟩,wS z hs)):Step t z o X:=
 ⟨⟨e,[]⟩,z,id,U,λhs hh=>⟨hX hs hh,hh.mono<|avD t⟩,h.mono<|avD t,{
  fnd:=λv hv=>aBY
  fl:=by simp
  M8:=λc hc=>(avj λq=>he (.inl q.1) q.2.1).symm
  bad:=λ_ _=>⟨U,U⟩
  nn:=rfl
  good:=λh7 h0=>absurd h0 (he (.inr h7)) }⟩
theorem acp.xo{e:cZ}(h:acp z e)(hs:∀c,c<4->∀k,zb (dY (bA z c).bz k) (dY (bA z' c).bz k)):acp z' e:=
 ⟨h.seen,h.c0,h.c4,gJ h.le<|hs _ (by have:=h.c0;have:=h.c4;omega) _⟩
theorem pG{R:Type}{c:Int}(h0:0<=c)(h1:c<4)(X:Option R):JV c X=X:=by
 unfold JV nL;rw[avk ayV]
theorem fo{i:Int}(h0:0<=i)(h1:i<n):idx (List.range n) i=some i.toNat:=by
 rw[uz h0 ay7];simp
theorem mF.at(h:mF t hs z)(hi:i<z.n):∃x,hs[i]? =some x/\GS t x/\x.id=(i:Int):=by
 have hl:i<hs.length:=by rw[h.len];exact hi
 have e:hs[i]? =some hs[i]:=by simp[hl]
 exact⟨_,e,(h.good i _ e).1,(h.good i _ e).2⟩
theorem GI.next(h:GI t z)(h1:z'.row=z.row)(h2:z'.n=z.n)(h3:z'.sites=z.sites)(h4:z'.bh=z.bh)(h5:z'.pins=z.pins)(h6:∀c,cr z' c=cr z c)
  (ah0:∀c,c<4->KT (t+1) z.n (bA z' c)) (ahQ:∀c,c<4->∀k,zb (dY (bA z c).bz k) (dY (bA z' c).bz k)) {es:List cZ} (he:z'.bg=z.bg++es) (hl:es.length<=5) (hev:∀e,e∈es->acp z' e):GI (t+1) z':=
 ⟨by rw[h1,h2];exact h.row,by rw[h4];exact h.bh.mono ayT λ_=>PD.mono<|avD t,by rw[h4,h2];exact h.KQ,by rw[h2];exact ah0,λc hc=>by rw[h6,h2];exact h.M8 c hc,
  by rw[h5];exact h.ps,by rw[h5];exactλp hp=>(h.Vy p hp).mono<|avD t,by have:=h.hl;rw[he,avz];omega,
  λe hm=>by
   rw[he]at hm;rcases List.mem_append.1 hm with hm | hm
   ·exact(h.HJ e hm).xo ahQ
   ·exact hev e hm,
  h.zi.xo h1 h3 h4,by rw[h3];exact(h.self.mono (avD t)).xo h2 h3 h5 h6⟩
theorem Post.plain{a:aA}(h1:∀v,v∈a.Found->GV (t+1) v)(h2:a.Found.length<=5)(h3:∀c,c<4->(cr z' c).keys=(cr z c).keys)(h6:o.Kind≠6)(h7:o.Kind≠7)(hn:z'.n=z.n:=by first | rfl | assumption):Post t z o a z':=
 ⟨h1,h2,λc hc=>by rw[h3 c hc,avj λq=>h6 q.1],λq=>absurd q h7,hn,λq=>absurd q h7⟩
theorem Vg(h:GI t z)(ho:B2 n o)(hk:o.Kind=4):Step t z o λg=>jw g o:=by
 have hc:o.Client.toNat<4:=by have:=ho.c0;have:=ho.c4;omega
 obtain⟨p1,p2,p3,p4,p5,p6,p7⟩:=ru z ⟨-1,(bA z o.Client.toNat).bz⟩ o.Client.toNat;refine⟨⟨0,[]⟩,og z ⟨-1,(bA z o.Client.toNat).bz⟩ o.Client.toNat,id,p3,λhs hh=>⟨?_,(hh.mono<|avD t).xo p2 p3 p5 p7⟩,?_,Post.plain (λv hv=>aBY) ayW (λc _=>by rw[p7]) ayT<|by omega⟩
 ·show jw (wS z hs) o=_
  unfold jw uu;rw[pG ho.c0 ho.c4,uy,avi,GM];rfl
 ·refine h.next p1 p2 p3 p4 p5 p7 (λc hc'=>?_) (λc hc' k=>?_) (es:=[]) (by rw[p6];simp) ayW (λe he=>by cases he)
  ·rw[iF _ _ hc hc']
   split
   ·rename_i e
    subst e;have:=(h.JD _ hc').past
    have h2:=h.row.n2;exact⟨this.mono<|avD t,ayW,ayU⟩
   ·exact(h.JD c hc').mono (avD t)
  ·rw[iF _ _ hc hc']
   split
   ·rename_i e;subst e;exact dG _
   ·exact dG _
theorem mF.obs(h:mF t hs z)(hz:mF t z.sites z)(ht:t<=100000)(hi:i<z.n):∃y,z.sites[i]? =some y/\GS t y/\
  je hs i=some (sO y.aO)/\gL hs i=some y.aO.ranges/\(∀k,oh hs i k=some (lX y k))/\jf hs i=some (y.wait.length:Int)/\gF hs i=some y.clock:=by
 obtain⟨x,hx,gx,_⟩:=h.at hi;obtain⟨y,hy,gy,_⟩:=hz.at hi;have hr:=h.rel i x y hx hy;refine⟨y,hy,gy,?_,?_,λk=>?_,?_,?_⟩
 ·unfold je;rw[hx,avi,Bf gx ht,hr.sh.vV]
 ·unfold gL;rw[hx,avi,Dc gx,hr.sh.Ti]
 ·unfold oh;rw[hx,avi,Qf gx ht,hr.read]
 ·unfold jf qj;rw[hx,avi,hr.wait]
 ·unfold gF wT;rw[hx,avi,hr.clock]
theorem I6{s:aP}(hs:GP t s.bz){site:Int}(h0:0<=site)(h1:site<6){vV:List ah}(hh:bY vV)(hl:vV.length<=1000)(ho:own.length<=1000):
  ∃r,pI s site vV own=some r/\(r.2=0->r.1=⟨site,s.bz⟩):=by
 unfold pI tM;rw[avj azA,avj ay7];by_cases c: -1<s.Site
 ·rw[avk ayY];exact⟨_,U,λq=>by simp at q⟩
 ·rw[avj ayY,Em (by have:=hs.len;omega) hh ayT ayT,avi]
  split
  ·exact⟨_,U,λq=>by simp at q⟩
  ·exact⟨_,U,λ_=>rfl⟩
theorem TU(h:GI t z)(ht:t<=1000)(ho:B2 n o)(hk:o.Kind=5):Step t z o λg=>fk g o:=by
 have hc:o.Client.toNat<4:=by have:=ho.c0;have:=ho.c4;omega
 have hn:=h.row.n2;by_cases hsz:o.Site<z.n
 ·have Yn:o.Site.toNat<z.n:=by have:=ho.s0;omega
  obtain⟨y,hy,gy,_⟩:=h.self.obs h.self ayT Yn;obtain⟨r,Mf,Pf⟩:=I6 (h.JD _ hc).past ho.s0 (show o.Site<6 by omega) (AB gy.sh) (by have:=DB gy.sh;omega) (own:=y.aO.ranges) azI
  have hX:∀hs,mF t hs z->fk (wS z hs) o=if decide (r.2=0)then told (wS (og z r.1 o.Client.toNat) hs) r.2 else told (wS z hs) r.2:=λhs hh=>by
   obtain⟨y',hy',_,q1,q2,_⟩:=hh.obs h.self ayT Yn;have:y'=y:=by rw[hy]at hy';cases hy';rfl
   subst this;unfold fk CD;rw[pG ho.c0 ho.c4];show(match idx (List.range z.n) o.Site with | none=>_ | some i=>_)=_;rw[fo ho.s0 hsz];simp only;show((je hs o.Site.toNat).bind λh=>(gL hs o.Site.toNat).bind λw=>_)=_;rw[q1,avi,q2,avi,uy,Mf,avi,GM]
  by_cases e:r.2=0
  ·obtain⟨p1,p2,p3,p4,p5,p6,p7⟩:=ru z r.1 o.Client.toNat
   refine⟨⟨r.2,[]⟩,og z r.1 o.Client.toNat,id,p3,λhs hh=>⟨?_,(hh.mono<|avD t).xo p2 p3 p5 p7⟩,?_,Post.plain (λv hv=>aBY) ayW (λc _=>by rw[p7]) ayT<|by omega⟩
   ·show fk (wS z hs) o=_
    rw[hX hs hh,avk azs];rfl
   ·refine h.next p1 p2 p3 p4 p5 p7 (λc hc'=>?_) (λc hc' k=>?_) (es:=[]) (by rw[p6];simp) ayW (λe he=>by cases he)
    ·rw[iF _ _ hc hc']
     split
     ·rename_i q;subst q
      rw[Pf e];exact⟨((h.JD _ hc').past).mono<|avD t,by have:=ho.s0;simp only;omega,hsz⟩
     ·exact(h.JD c hc').mono (avD t)
    ·rw[iF _ _ hc hc']
     split
     ·rename_i q;subst q;rw[Pf e];exact dG _
     ·exact dG _
  ·exact Step.told h r.2 (λq=>ayT) λhs hh=>by
    show fk (wS z hs) o=_;rw[hX hs hh,avj azs];rfl
 ·refine Step.told h 1 (λq=>ayT) λhs hh=>?_
  show fk (wS z hs) o=_;unfold fk;rw[pG ho.c0 ho.c4];have:idx (List.range z.n) o.Site=none:=by
   unfold idx;split
   ·exact aw3 ayV
   ·rfl
  show(match idx (List.range z.n) o.Site with | none=>_ | some i=>_)=_;rw[this];rfl
theorem YD(hp:GP n p)(hq:GP n q):jS [p,q] =some (ee p q):=by
 rw[yG (λr hr d hd=>?_) (by have:=hp.len;have:=hq.len;simp;omega) ayW]
 ·show some (ee (ee [] p) q)=_
  rw[hp.OW]
 ·simp only[av0,List.not_mem_nil,or_false]at hr
  rcases hr with rfl | rfl
  ·exact hp.small d hd
  ·exact hq.small d hd
variable{g:aD}
theorem Ke(h:g.bg.length<=1000000)(kind cl:Int)(key:ByteArray)(s:ai)(seen:List ah):qT g kind cl key s seen=some ((),{ g with bg:=g.bg++ [⟨kind,cl,key,s,seen⟩] }):=by
 unfold qT;rw[cJ ayV ayV];rfl
theorem KT.site{s:aP}(h:KT t n s)(hs:s.Site≠-1):0<=s.Site/\s.Site<n:=⟨by have:=h.Xd;omega,h.Xe⟩
theorem Hh(h:GP t p)(k:ByteArray):zb ⟨0,0⟩ (dY p k):=QB h.ok k
theorem abD(h:GI t z)(ht:t<=1000)(ho:B2 n o)(hk:o.Kind=3)(hne:(bA z o.Client.toNat).Site≠-1):Step t z o λg=>kN g o:=by
 have hc:o.Client.toNat<4:=by have:=ho.c0;have:=ho.c4;omega
 have B6:=h.JD _ hc;obtain⟨s0,s1⟩:=B6.site hne;have Yn:(bA z o.Client.toNat).Site.toNat<z.n:=by omega
 obtain⟨y,hy,gy,_⟩:=h.self.obs h.self ayT Yn;have hh5:=h.hl;generalize hr:lX y o.Key=r;have RF:GP t r.1.bz:=by
  cases e:r.2.1 with
  | true=>rw[<-hr]at e ⊢;exact(C1 gy e).1.past
  | false=>rw[<-hr]at e ⊢;rw[Ss e];exact GP.nil t
 have hm:=B6.past.fold RF
 let ev:cZ:=⟨2,o.Client,o.Key,r.1.aq,ee (bA z o.Client.toNat).bz r.1.bz⟩
 let ze:aD:={ z with bg:=z.bg++ [ev] }
 have hze:∀c,bA ze c=bA z c:=λc=>aze;have Yp:∀c,cr ze c=cr z c:=λc=>aza;have hX:∀hs,mF t hs z->kN (wS z hs) o=if !(decide (r.2.2=0))then told (wS z hs) r.2.2 else if !r.2.1 then some (⟨0,[]⟩,wS ze hs)else
   (jO (bA z o.Client.toNat) [r.1]).bind λs=>some (⟨0,[r.1]⟩,wS (og ze s o.Client.toNat) hs):=λhs hh=>by
  obtain⟨y',hy',_,_,_,q3,_⟩:=hh.obs h.self ayT Yn;have:y'=y:=by rw[hy]at hy';cases hy';rfl
  subst this;unfold kN;rw[pG ho.c0 ho.c4,uy];show((idx (List.range z.n) (bA z o.Client.toNat).Site).bind λi=>(oh hs i o.Key).bind λr=>_)=_;rw[fo s0 s1,avi,q3,avi,hr];by_cases c:r.2.2=0
  ·rw[avj ayY,avj ayY,YD B6.past RF,avi,Ke aBJ,avi]
   show(if(!r.2.1)=true then some (⟨0,[]⟩,wS ze hs)else(jO (bA z o.Client.toNat) [r.1]).bind λs=>(gI [r.1]).bind λa=>some (a,og (wS ze hs) s o.Client.toNat))=_;cases r.2.1 with
   | false=>rfl
   | true=>
    simp only[avJ,avn,avB];unfold gI;simp only[avi,GM]
  ·rw[avk ayY,avk ayY]
 by_cases c:r.2.2=0
 ·cases e:r.2.1 with
  | false=>
   have hst:r.1=zeroV:=by rw[<-hr]at e ⊢;exact Ss e
   refine⟨⟨0,[]⟩,ze,id,U,λhs hh=>⟨?_,(hh.mono<|avD t).xo U U U Yp⟩,?_,Post.plain (λv hv=>aBY) ayW (λc _=>by rw[Yp]) ayT<|by omega⟩
   ·show kN (wS z hs) o=_
    rw[hX hs hh,avj ayY,e];rfl
   ·refine h.next U U U U U Yp (λc hc'=>by rw[hze];exact(h.JD c hc').mono<|avD t) (λc _ k=>by rw[hze];exact dG _) (es:=[ev]) U ayW λe' he'=>?_
    simp at he';subst he';refine⟨hm.len,ho.c0,ho.c4,?_⟩;rw[hze];show zb r.1.aq _;rw[hst];exact Hh B6.past _
  | true=>
   have hv:GV t r.1/\r.1.Key=o.Key:=by rw[<-hr]at e ⊢;exact⟨(C1 gy e).1,(C1 gy e).2.1⟩
   have hvl:∀v,v∈[r.1]->GV t v:=λv hv'=>by simp at hv';subst hv';exact hv.1
   have Ym:=ye (s:=bA z o.Client.toNat) B6.past (l:=[r.1]) ayW hvl
   let s2:aP:=⟨(bA z o.Client.toNat).Site,Lv (bA z o.Client.toNat).bz [r.1]⟩
   obtain⟨p1,p2,p3,p4,p5,p6,p7⟩:=ru ze s2 o.Client.toNat;refine⟨⟨0,[r.1]⟩,og ze s2 o.Client.toNat,id,p3,λhs hh=>⟨?_,(hh.mono<|avD t).xo p2 p3 p5 λc=>(p7 c).trans<|Yp c⟩,?_,Post.plain (λv hv'=>(hvl v hv').mono<|avD t) ayW (λc _=>by rw[p7,Yp]) ayT<|by omega⟩
   ·show kN (wS z hs) o=_
    rw[hX hs hh,avj ayY,e,avj ayW,Ym];rfl
   ·refine h.next p1 p2 p3 p4 p5 (λc=>(p7 c).trans<|Yp c) (λc hc'=>?_) (λc hc' k=>?_) (es:=[ev]) p6 ayW λe' he'=>?_
    ·rw[iF _ _ hc hc']
     split
     ·exact⟨(JC B6.past hvl).mono<|avD t,B6.Xd,B6.Xe⟩
     ·rw[hze];exact(h.JD c hc').mono (avD t)
    ·rw[iF _ _ hc hc']
     split
     ·rename_i q;subst q;exact GH B6.past hvl k
     ·rw[hze];exact dG _
    ·simp at he';subst he'
     refine⟨hm.len,ho.c0,ho.c4,?_⟩;rw[iF _ _ hc hc,avk rfl];show zb r.1.aq (dY (Lv (bA z o.Client.toNat).bz [r.1]) o.Key);rw[<-hv.2];exact GJ B6.past hvl ayW
 ·exact Step.told h r.2.2 (λq=>ayT) λhs hh=>by
   show kN (wS z hs) o=_;rw[hX hs hh,avk ayY];rfl
theorem ZI.bh{z z':aD}(h:ZI z)(h1:z'.row=z.row)(h2:z'.sites=z.sites)(hin:∀e,e∈z'.bh->∃e',e'∈z.bh/\e'.1=e.1/\∀p,p∈e.2.snd.open_->p∈e'.2.snd.open_)(ahJ:∀s st,eH z.row.aK z'.bh s st<=eH z.row.aK z.bh s st):ZI z':=by
 have hins:∀v,Jl z' v->Jl z v:=λv hv=>by
  rcases hv with⟨i,x,hx,ha⟩ | ⟨e,he,p,hp,hv⟩
  ·exact .inl ⟨i,x,by rw[<-h2];exact hx,ha⟩
  ·obtain⟨e',he',_,hsub⟩:=hin e he
   exact .inr ⟨e',he',p,hsub p hp,hv⟩
 refine⟨λv hv=>by rw[h2];exact h.ZW v<|hins v hv,λv w hv hw=>h.unq v w (hins v hv)<|hins w hw,λs x st hx=>?_,λe he hne=>?_⟩
 ·rw[h1]
  have:=h.cnt s x st (by rw[<-h2];exact hx);have:=ahJ s st;omega
 ·obtain⟨e',he',hk,hsub⟩:=hin e he
  rw[h1,<-hk];refine h.near e' he' λq=>hne ?_;cases ho:e.2.snd.open_ with
  | nil=>rfl
  | cons p l=>
   have:=hsub p (by rw[ho];simp);rw[q]at this;cases this
theorem LK{m:List ((Int×Int)×γ)}{k:Int×Int}{x y:γ}(hx:bx m k=some x)(f:(Int×Int)×γ->Nat):((cw m k y).map f).sum+f (k,x)=(m.map f).sum+f (k,y):=by
 induction m with
 | nil=>cases hx
 | cons e m ih=>
  obtain⟨a,b⟩:=e;simp only[bx]at hx;simp only[cw];by_cases c:a=k
  ·subst c
   rw[avk rfl]at hx;cases hx;rw[avk rfl];simp only[avV,awZ];omega
  ·rw[avj c]at hx
   rw[avj c];simp only[avV,awZ];have:=ih hx;omega
theorem GI.acj(h:GI t z){k:Int×Int}{y:eM}(hx:bx z.bh k=some x)(hy:GX (8*t) (PD t) y)(ho:y.snd.open_=x.snd.open_):GI (t+1) { z with bh:=cw z.bh k y }:=by
 have hb:∀c,cr { z with bh:=cw z.bh k y } c=cr z c:=λc=>aza;have hs:∀c,bA { z with bh:=cw z.bh k y } c=bA z c:=λc=>aze;have hmem:=iM hx;refine⟨h.row,(h.bh.set hy).mono ayT λ_=>PD.mono<|avD t,λe he=>?_,λc hc=>by rw[hs];exact(h.JD c hc).mono<|avD t,λc hc=>azK,h.ps,λp hp=>(h.Vy p hp).mono<|avD t,by have:=h.hl;simp only;omega,λe he=>(h.HJ e he).xo λc _ k=>by rw[hs];exact dG _,?_,(h.self.mono<|avD t).xo U U U hb⟩
 ·rcases sR he with rfl | he
  ·exact h.KQ (k,x) hmem
  ·exact h.KQ e he
 ·refine h.zi.bh U U (λe he=>?_) λs st=>?_
  ·rcases sR he with rfl | he
   ·exact⟨_,hmem,U,λp hp=>by rw[<-ho];exact hp⟩
   ·exact⟨e,he,U,λp hp=>hp⟩
  ·have:=LK hx (y:=y) λe=>mD (nG z.row.aK e.1.1.toNat e.1.2.toNat s)*opn e.2 st
   have e2:opn y st=opn x st:=by unfold opn;rw[ho]
   simp only[e2]at this;unfold eH;simp only;omega
theorem Tn(h:GI t z)(ht:t<=1000)(hk:o.Kind=9):Step t z o λg=>uT g o:=by
 cases hx:bx z.bh (o.Site,o.To)with
 | none=>
  refine Step.told h 12 (λq=>ayT) λhs hh=>?_;show(mN z.bh o.Site o.To).bind _=_
  rw[KL hx];rfl
 | some x=>
  obtain⟨k,w,h1,h2⟩:=Pp h.bh ayT hx;have hb:∀c,cr { z with bh:=cw z.bh (o.Site,o.To) ⟨x.snd,x.zg,w⟩ } c=cr z c:=λc=>aza;refine⟨if decide (k=0)then⟨12,[]⟩else⟨0,[]⟩,{ z with bh:=cw z.bh (o.Site,o.To) ⟨x.snd,x.zg,w⟩ },id,U,λhs hh=>⟨?_,(hh.mono<|avD t).xo U U U hb⟩,h.acj hx h2 U,Post.plain (λv hv=>?_) ?_ (λc _=>by rw[hb]) ayT<|by omega⟩
  ·show(mN z.bh o.Site o.To).bind _=_
   rw[h1,avi];by_cases c:k=0
   ·rw[avk ayY,avk ayY];rfl
   ·rw[avj ayY,avj ayY];rfl
  ·split at hv<;>cases hv
  ·split<;>simp
theorem ZI.ack(h:ZI z)(hin:∀v,Jl z' v->Jl z v)(abF:∀(s:Nat)(x:aC),z.sites[s]? =some x->∃x':aC,z'.sites[s]? =some x'/\x.clock.N<=x'.clock.N)
  (ahJ:∀(s:Nat)(x:aC)(st:ai),z'.sites[s]? =some x->eH z'.row.aK z'.bh s st+ez x st<=1) (abS:∀e,e∈z'.bh->e.2.snd.open_≠[]->e.1.2∈oO z'.row.aK e.1.1.toNat):ZI z':=
 ⟨λv hv=>by
  obtain⟨i,x,h1,h2,h3⟩:=h.ZW v (hin v hv);obtain⟨x',h4,h5⟩:=abF i x h1;exact⟨i,x',h4,h2,ayT⟩,λv w hv hw=>h.unq v w (hin v hv) (hin w hw),ahJ,abS⟩
theorem mP{l:List α}{s:Nat}{y' x:α}(h:(l.set i y')[s]? =some x):(s=i/\x=y'/\i<l.length)\/(s≠i/\l[s]? =some x):=by
 rw[awz]at h;by_cases c:i=s
 ·subst c
  rw[avk rfl]at h;split at h
  ·cases h;exact .inl ⟨U,U,ay6⟩
  ·cases h
 ·rw[avj c]at h
  exact .inr ⟨λq=>c q.symm,h⟩
theorem nY{l:List α}{x:α}(h:l[i]? =some x):i<l.length:=by
 rcases Nat.lt_or_ge i l.length with c | c
 ·exact c
 ·rw[aw3 c]at h;cases h
theorem ag3(b:Bool):mD b<=1:=by cases b<;>simp[mD]
theorem Qc{x:aC}(h:v∈x.wait):1<=x.wait.countP λw=>decide (w.aq=v.aq):=by
 have:0<x.wait.countP λw=>decide (w.aq=v.aq):=List.countP_pos_iff.2 ⟨v,h,ayW⟩;omega
theorem NW{s:aM}{x:aa}(h:x∈aQ s k):x∈aQ (fX s v) k:=by
 rw[ou];split
 ·exact fK.2 (.inr h)
 ·exact h
theorem JA{s:aM}{x:aa}(h:x∈aQ (fX s v) k):x∈aQ s k\/x=v:=by
 rw[ou]at h;split at h
 ·exact(fK.1 h).symm
 ·exact .inl h
variable{y:aC}
theorem Kv(h:uO n y.aO)(hv:GV n v)(st:ai){w:List aa}{c:ai}:mD (xu { y with aO:=fX y.aO v,wait:=w,clock:=c } st)<=mD (xu y st)+mD (decide (v.aq=st)):=by
 cases e:xu { y with aO:=fX y.aO v,wait:=w,clock:=c } st with
 | false=>simp[mD]
 | true=>
  obtain⟨k,x,h1,h2⟩:=(CI (x:={ y with aO:=fX y.aO v,wait:=w,clock:=c })<|h.put hv).1 e
  rcases JA h1 with h1 | rfl
  ·rw[(CI h).2 ⟨k,x,h1,h2⟩];simp[mD]
  ·rw[avP h2];simp[mD]
def LI(i:Nat)(v:aa)(w:List aa)(hs:List aC):List aC:=match hs[i]? with
 | some x=>hs.set i { x with aO:=fX x.aO v,wait:=w }
 | none=>hs
theorem VH(h:GI t z)(ht:t<=1000)(ho:B2 n o)(hk:o.Kind=10):Step t z o λg=>iE g o:=by
 by_cases hsz:o.Site<z.n
 ·have Yn:o.Site.toNat<z.n:=by have:=ho.s0;omega
  obtain⟨y,hy,gy,iy⟩:=h.self.at Yn;obtain⟨q,hq1,hq2,_⟩:=GU gy ayT;have hX:∀hs,mF t hs z->∀x,hs[o.Site.toNat]? =some x->iE (wS z hs) o=if q.2.2 then some (⟨0,[q.1]⟩,wS z (hs.set o.Site.toNat { x with aO:=fX x.aO q.1,wait:=q.2.1 }))else some (⟨12,[]⟩,wS z hs):=λhs hh x hx=>by
   have gx:=(hh.good _ x hx).1
   have hr:=hh.rel _ x y hx hy;obtain⟨q',h1,_,h3⟩:=GU gx ayT;rw[hr.wait,hr.sh.vV,hr.sh.Ti,hq1]at h1;cases h1;unfold iE CE;show(match idx (List.range z.n) o.Site with | none=>_ | some i=>_)=_;rw[fo ho.s0 hsz];simp only;show((Bi hs o.Site.toNat).bind _)=_;unfold Bi;rw[hx,avi,h3];simp only[avi];cases q.2.2 with
   | true=>rfl
   | false=>
    simp only[avn,avB,awG,avM];show told (wS z<|hs.set o.Site.toNat x) 12=_;have:hs.set o.Site.toNat x=hs:=by
     have hlt:=nY hx;have e:hs[o.Site.toNat] =x:=by
      have:=hx;rw[avs hlt]at this;cases this;rfl
     rw[<-e];exact List.set_getElem_self hlt
    rw[this];rfl
  cases hq:q.2.2 with
  | false=>
   refine Step.told h 12 (λq=>ayT) λhs hh=>?_;obtain⟨x,hx,_⟩:=hh.at Yn;show iE (wS z hs) o=_;rw[hX hs hh x hx,hq];rfl
  | true=>
   obtain⟨j,hj,e1,e2⟩:=hq2 hq;have hvw:q.1∈y.wait:=by rw[e1];exact avu hj
   have hv:GV t q.1:=gy.wg _ hvw;have hc1:=h.zi.cnt _ y q.1.aq hy;have Yg:=Qc hvw;have hin:xu y q.1.aq=false:=by
    cases e:xu y q.1.aq with
    | false=>rfl
    | true=>
     unfold ez at hc1;rw[e]at hc1;simp only[mD,avM]at hc1;omega
   have UW:∀x,x∈aQ y.aO q.1.Key->x.aq≠q.1.aq:=λx hx e=>by
    rw[(CI gy.sh).2 ⟨_,x,hx,e⟩]at hin;cases hin
   let y':aC:={ y with aO:=fX y.aO q.1,wait:=q.2.1 }
   let z':aD:={ z with sites:=z.sites.set o.Site.toNat y' }
   have hb:∀c,cr z' c=cr z c:=λc=>aza;have B6:∀c,bA z' c=bA z c:=λc=>aze;have Ye:LI o.Site.toNat q.1 q.2.1 z.sites=z.sites.set o.Site.toNat y':=by unfold LI;rw[hy]
   have Gc:∀hs,mF t hs z->mF (t+1) (LI o.Site.toNat q.1 q.2.1 hs) z':=λhs hh=>by
    obtain⟨x,hx,gx,ix⟩:=hh.at Yn;have hr:=hh.rel _ x y hx hy;have e:LI o.Site.toNat q.1 q.2.1 hs=hs.set o.Site.toNat { x with aO:=fX x.aO q.1,wait:=q.2.1 }:=by unfold LI;rw[hx]
    rw[e];have hwx:x.wait=y.wait:=hr.wait;refine⟨by rw[awT];exact hh.len,λi u hu=>?_,λi u w hu hw=>?_,λc hc p hp hid i k d hk hd=>?_⟩
    ·rcases mP hu with⟨rfl,rfl,_⟩ | ⟨_,hu⟩
     ·have g':=gx.step (i:=j) (by rw[hwx];exact hj)
      have e3:x.wait[j]'(by rw[hwx];exact hj)=q.1:=by rw[e1];simp only[hwx]
      rw[e3,hwx,<-e2]at g';exact⟨g'.mono<|avD t,ix⟩
     ·exact⟨(hh.good i u hu).1.mono<|avD t,(hh.good i u hu).2⟩
    ·rcases mP hu with⟨rfl,rfl,_⟩ | ⟨hne,hu⟩
     ·rcases mP hw with⟨_,rfl,_⟩ | ⟨hne,_⟩
      ·exact⟨hr.id,U,hr.clock,hr.sh.put gx.sh gy.sh UW⟩
      ·exact absurd U hne
     ·rcases mP hw with⟨rfl,_,_⟩ | ⟨_,hw⟩
      ·exact absurd U hne
      ·exact hh.rel i u w hu hw
    ·rw[hb]at hk ⊢
     obtain⟨a,u,v,q1,q2,q3,q4⟩:=hh.ph c hc p hp hid i k d hk hd;by_cases c2:a.toNat=o.Site.toNat
     ·rw[c2]at q2
      rw[hx]at q2;cases q2;refine⟨a,_,v,q1,by rw[c2,awz,avk U,avk (nY hx)],NW q3,q4⟩
     ·exact⟨a,u,v,q1,by rw[awz,avj λe=>c2 e.symm];exact q2,q3,q4⟩
   refine⟨⟨0,[q.1]⟩,z',LI o.Site.toNat q.1 q.2.1,Ye.symm,λhs hh=>⟨?_,Gc hs hh⟩,?_,Post.plain (λv hv'=>by simp at hv';subst hv';exact hv.mono<|avD t) ayW (λc _=>by rw[hb]) ayT<|by omega⟩
   ·obtain⟨x,hx,_⟩:=hh.at Yn
    show iE (wS z hs) o=_;rw[hX hs hh x hx,hq,avk rfl];unfold LI;rw[hx];rfl
   ·refine⟨h.row,h.bh.mono ayT λ_=>PD.mono<|avD t,h.KQ,λc hc=>az2,λc hc=>azK,h.ps,λp hp=>(h.Vy p hp).mono<|avD t,azX,λe he=>(h.HJ e he).xo λc _ k=>by rw[B6];exact dG _,?_,by have:=Gc z.sites h.self;rw[Ye]at this;exact this⟩
    refine h.zi.ack (λv hv'=>?_) (λs x hx=>?_) (λs x st hx=>?_) h.zi.near
    ·rcases hv' with⟨i,x,hx,ha⟩ | hv'
     ·rcases mP hx with⟨rfl,rfl,_⟩ | ⟨_,hx⟩
      ·refine .inl ⟨_,y,hy,?_⟩
       rcases ha with⟨k,ha⟩ | ha
       ·rcases JA ha with ha | rfl
        ·exact .inl ⟨k,ha⟩
        ·exact .inr hvw
       ·refine .inr (Ju (i:=j) ?_)
        rw[<-e2];exact ha
      ·exact .inl ⟨i,x,hx,ha⟩
     ·exact .inr hv'
    ·by_cases c:o.Site.toNat=s
     ·subst c
      rw[hy]at hx;cases hx;exact⟨y',by show(z.sites.set _ _)[_]? =_;rw[awz,avk U,avk (nY hy)],avK _⟩
     ·exact⟨x,by show(z.sites.set _ _)[_]? =_;rw[awz,avj c];exact hx,avK _⟩
    ·rcases mP hx with⟨rfl,rfl,_⟩ | ⟨_,hx⟩
     ·have h1:=h.zi.cnt _ y st hy
      have h2:=Kv gy.sh hv st (w:=q.2.1) (c:=y.clock);have h3:(q.2.1.countP λw=>decide (w.aq=st))+mD (decide (q.1.aq=st))=y.wait.countP λw=>decide (w.aq=st):=by
       have e3:y.wait=y.wait.take j++y.wait[j] ::y.wait.drop (j+1):=by rw[<-av8 hj,axM]
       conv=>rhs;rw[e3]
       rw[e2,ayE,ayE,axH,<-e1];unfold mD;omega
      show eH z.row.aK z.bh _ st+ez y' st<=1;unfold ez at h1 ⊢;show _+(mD (xu y' st)+q.2.1.countP _)<=1;have h4:mD (xu y' st)<=mD (xu y st)+mD (decide (q.1.aq=st)):=h2;omega
     ·exact h.zi.cnt s x st hx
 ·refine Step.told h 1 (λq=>ayT) λhs hh=>?_
  show iE (wS z hs) o=_;unfold iE;have:idx (List.range z.n) o.Site=none:=by
   unfold idx;split
   ·exact aw3 ayV
   ·rfl
  show(match idx (List.range z.n) o.Site with | none=>_ | some i=>_)=_;rw[this];rfl
def iq(bh:bU)(a b:Int):Nat:=match bx bh (a,b)with
 | none=>0
 | some x=>x.snd.open_.length
theorem KO{bh:bU}(h:GN m P bh)(a b:Int):sS bh a b=some (iq bh a b:Int):=by
 unfold iq;cases hx:bx bh (a,b)with
 | none=>rw[Mp hx];rfl
 | some x=>rw[R5 h hx]
variable{to:List Int}
theorem Wo(h:GN m P g.bh)(a:Int)(ht:to.length<=1000):vQ g a to=some (to.any λb=>decide (8<=iq g.bh a b)):=by
 unfold vQ bX;rw[o6 (p:=λb=>decide (8<=iq g.bh a b)) (λb _=>by
  unfold vR;rw[KO h];simp only[avi];congr 1;exact ayo.2 ayT) ayT,avi,avi,zx]
def zU(a:Int)(d:ByteArray)(bh:bU)(b:Int):bU:=match bx bh (a,b)with
 | none=>bh
 | some x=>cw bh (a,b) (xN x d)
def sendAll(bh:bU)(a:Int)(to:List Int)(d:ByteArray):bU:=to.foldl (zU a d) bh
theorem Zf(a:Int)(d:ByteArray)(bh:bU)(b:Int)(k:Int×Int):bx (zU a d bh b) k=if(a,b)=k then(bx bh k).map (λx=>xN x d)else bx bh k:=by
 unfold zU;cases hx:bx bh (a,b)with
 | none=>
  by_cases c:(a,b)=k
  ·subst c;rw[avk U,hx];rfl
  ·rw[avj c]
 | some x=>
  simp only;rw[qX];by_cases c:(a,b)=k
  ·subst c;rw[avk U,avk U,hx];rfl
  ·rw[avj c,avj c]
theorem Lw{d:ByteArray}{bh:bU}{c:Int}(hne:c≠b):iq (zU a d bh b) a c=iq bh a c:=by
 unfold iq;rw[Zf,avj λe=>hne (by cases e;rfl)]
theorem Sz{bh:bU}(h:GN m P bh){d:ByteArray}(hd:P d)(hr:iq bh a b<8):GN (m+1) P (zU a d bh b):=by
 unfold zU;cases hx:bx bh (a,b)with
 | none=>exact h.mono (avD m) λ_ q=>q
 | some x=>
  have hr':x.snd.open_.length<8:=by unfold iq at hr;rw[hx]at hr;exact hr
  exact(h.mono (avD m) λ_ q=>q).set ((h.at hx).send hr' hd)
theorem Zg{d:ByteArray}{bh:bU}{e:(Int×Int)×eM}(he:e∈zU a d bh b):∃e',e'∈bh/\e'.1=e.1/\∀p,p∈e.2.snd.open_->p∈e'.2.snd.open_\/(p.Data=d/\e.1=(a,b)):=by
 unfold zU at he;cases hx:bx bh (a,b)with
 | none=>rw[hx]at he;exact⟨e,he,U,λp hp=>.inl hp⟩
 | some x=>
  rw[hx]at he;rcases sR he with rfl | he
  ·refine⟨_,iM hx,U,λp hp=>?_⟩
   rcases List.mem_append.1 hp with hp | hp
   ·exact .inl hp
   ·simp at hp;subst hp;exact .inr ⟨U,U⟩
  ·exact⟨e,he,U,λp hp=>.inl hp⟩
theorem Ze(p:List Int){d:ByteArray}{bh:bU}(s:Nat)(st:ai):eH p (zU a d bh b) s st<=eH p bh s st+mD (nG p a.toNat b.toNat s)*mD (decide ((wv d).aq=st)):=by
 unfold zU;cases hx:bx bh (a,b)with
 | none=>exact ayp _ _
 | some x=>
  have h:=LK hx (y:=xN x d) λe=>mD (nG p e.1.1.toNat e.1.2.toNat s)*opn e.2 st;have e2:opn (xN x d) st=opn x st+mD (decide ((wv d).aq=st)):=by
   unfold opn xN;simp only[ayE,axH,List.countP_nil];unfold mD;omega
  simp only[e2,Nat.mul_add]at h;unfold eH;simp only at h ⊢;omega
theorem yO{a:Int}{d:ByteArray}{P:ByteArray->Prop}(hd:P d)(p:List Int):∀{to:List Int}{m:Nat}{bh:bU},GN m P bh->to.Nodup->(∀b,b∈to->iq bh a b<8)->
  GN (m+to.length) P (sendAll bh a to d)/\(∀e,e∈sendAll bh a to d->∃e',e'∈bh/\e'.1=e.1/\∀p,p∈e.2.snd.open_->p∈e'.2.snd.open_\/(p.Data=d/\e.1.1=a/\e.1.2∈to))/\
  ∀s st,eH p (sendAll bh a to d) s st<=eH p bh s st+(to.map λb=>mD<|nG p a.toNat b.toNat s).sum*mD (decide ((wv d).aq=st))
 | [],m,bh,h,_,_=>⟨h,λe he=>⟨e,he,U,λp hp=>.inl hp⟩,λs st=>by simp[sendAll]⟩
 | b::to,m,bh,h,hn,hr=>by
  obtain⟨hb,hn'⟩:=axQ.1 hn;obtain⟨i1,i2,i3⟩:=yO hd p (to:=to) (Sz h hd<|hr b<|by simp) hn' λc hc=>by
   rw[Lw (λe=>hb (by rw[<-e];exact hc))];exact hr c azU
  refine⟨?_,λe he=>?_,λs st=>?_⟩
  ·have:m+(b::to).length=m+1+to.length:=by simp only[avv];omega
   rw[this];exact i1
  ·obtain⟨e1,h1,h2,h3⟩:=i2 e he
   obtain⟨e2,h4,h5,h6⟩:=Zg h1;refine⟨e2,h4,h5.trans h2,λp hp=>?_⟩;rcases h3 p hp with q | ⟨q1,q2,q3⟩
   ·rcases h6 p q with q | ⟨q1,q2⟩
    ·exact .inl q
    ·rw[h2]at q2
     exact .inr ⟨q1,by rw[q2],by rw[q2];simp⟩
   ·exact .inr ⟨q1,q2,by simp[q3]⟩
  ·have h1:=i3 s st
   have h2:=Ze p (a:=a) (d:=d) (bh:=bh) (b:=b) s st;show eH p (sendAll (zU a d bh b) a to d) s st<=_;simp only[avV,awZ,awn];omega
theorem Xa(hv:GV n v)(hd:P (Ae v))(h:GN m P g.bh)(hm:m<=100000)(hl:to.length<=1000)(hn:to.Nodup)(hr:∀b,b∈to->iq g.bh a b<8):pP g a to v=some ((),{ g with bh:=sendAll g.bh a to (Ae v) }):=by
 unfold pP;refine(pU (S:=bU) to (λbh i=>(i,bh)) (λl bh=>some ((),{ g with bh:=sendAll bh a l (Ae v) })) (λi bh=>GN (m+i) P bh/\∀b,b∈to.drop i->iq bh a b<8) ?_ ?_ (s0:=g.bh) ⟨h,by simpa using hr⟩<|by omega).trans U
 ·intro again bh _
  unfold AA;rw[avj ayW];rfl
 ·intro again i bh hi ⟨hg,hr'⟩ cW
  unfold AA;rw[avk ay8];simp only[bp hi,avi];rw[TA hv,avi];have qC:to.drop i=to[i] ::to.drop (i+1):=av8 hi;have hroom:=hr' to[i] (by rw[qC];exact axK);have hnd:to[i]∉to.drop (i+1):=by
   have:=hn.sublist (List.drop_sublist i to);rw[qC]at this;exact(axQ.1 this).1
  have hsend:∃k,wj bh a to[i] (Ae v)=some (k,zU a (Ae v) bh to[i]):=by
   unfold zU;cases hx:bx bh (a,to[i])with
   | none=>exact⟨1,by unfold wj;rw[hx]⟩
   | some x=>
    have:x.snd.open_.length<8:=by unfold iq at hroom;rw[hx]at hroom;exact hroom
    exact⟨0,R6 hg ayT hx this _⟩
  obtain⟨k,hk⟩:=hsend;rw[hk,avi,wrap64 ayT ayT,cW _ ⟨by
   have:=Sz hg hd hroom;rw[show m+(i+1)=m+i+1 by omega];exact this,λb hb=>by
   rw[Lw (λe=>hnd (by rw[<-e];exact hb))];exact hr' b (by rw[qC];exact axy _ hb)⟩]
  rfl
theorem EP{α:Type}(f:α->Nat)(p:α->Bool):∀l:List α,((l.filter p).map f).sum<=(l.map f).sum
 | []=>ayW
 | a::l=>by
  have:=EP f p l;rw[awC];split
  ·simp only[avV,awZ];omega
  ·simp only[avV,awZ];omega
theorem Dg{α:Type}(f:α->Nat)(p q:α->Bool)(h:∀a,p a=true->q a=true):∀l:List α,((l.filter p).map f).sum<=((l.filter q).map f).sum
 | []=>ayW
 | a::l=>by
  have:=Dg f p q h l;rw[awC,awC];by_cases c:p a=true
  ·rw[avk c,avk (h a c)]
   simp only[avV,awZ];omega
  ·rw[avj c]
   split
   ·simp only[avV,awZ];omega
   ·exact this
theorem Qy{d:ByteArray}(h:PD t d):mS d=some (wv d,true)/\GV t (wv d)/\d=Ae (wv d):=by
 obtain⟨v,h1,rfl⟩:=h;rw[JG h1];exact⟨NY h1,h1,U⟩
theorem mF.set{t u:Nat}{hs:List aC}{z z':aD}(h:mF t hs z)(hu:t<=u){i:Nat}{y y' x x':aC}(hx:hs[i]? =some x)(hy:z.sites[i]? =some y)(h1:z'.n=z.n)(h2:z'.sites=z.sites.set i y')(h3:z'.pins=z.pins)(h4:∀c,cr z' c=cr z c)
  (hg:GS u x'/\x'.id=x.id) (hr:Ca x' y') (hp:∀k v,v∈aQ x.aO k->v∈aQ x'.aO k):mF u (hs.set i x') z':=by
 refine⟨by rw[awT,h1];exact h.len,λj w hw=>?_,λj w w' hw hw'=>?_,λc hc p hpp hid j k d hk hd=>?_⟩
 ·rcases mP hw with⟨rfl,rfl,_⟩ | ⟨_,hw⟩
  ·exact⟨hg.1,by rw[hg.2];exact(h.good _ x hx).2⟩
  ·exact⟨(h.good j w hw).1.mono hu,(h.good j w hw).2⟩
 ·rw[h2]at hw'
  rcases mP hw with⟨rfl,rfl,_⟩ | ⟨hne,hw⟩
  ·rcases mP hw' with⟨_,rfl,_⟩ | ⟨hne,_⟩
   ·exact hr
   ·exact absurd U hne
  ·rcases mP hw' with⟨rfl,_,_⟩ | ⟨_,hw'⟩
   ·exact absurd U hne
   ·exact h.rel j w w' hw hw'
 ·rw[h3]at hpp
  rw[h4]at hk ⊢;obtain⟨a,w,v,q1,q2,q3,q4⟩:=h.ph c hc p hpp hid j k d hk hd;by_cases e:a.toNat=i
  ·rw[e,hx]at q2;cases q2
   exact⟨a,x',v,q1,by rw[e,awz,avk U,avk (nY hx)],hp k v q3,q4⟩
  ·exact⟨a,w,v,q1,by rw[awz,avj λq=>e q.symm];exact q2,q3,q4⟩
theorem YH(gy:GS t y)(h:ez y v.aq=0):yU y v=false:=by
 unfold ez at h;have h1:mD (xu y v.aq)=0:=by omega
 have h2:(y.wait.countP λw=>decide (w.aq=v.aq))=0:=by omega
 unfold yU;rw[axz];refine⟨aw8.2 λx hx=>?_,aw8.2 λx hx=>?_⟩
 ·simp only[awe]
  intro e;rw[(CI gy.sh).2 ⟨_,x,hx,e⟩]at h1;simp[mD]at h1
 ·have:=ax5.1 h2 x hx
  simp only[awe]at this;simp[this]
theorem Tr(v:aa)(st:ai):ez (dF y v).2 st<=ez y st+mD (decide (v.aq=st)):=by
 unfold dF;split
 ·split
  ·exact ayp _ _
  ·split
   ·exact ayp _ _
   ·unfold ez xu
    simp only[ayE,axH,List.countP_nil];unfold mD;omega
 ·exact ayp _ _
theorem XA{w:aa}(h:atS (dF y v).2 w):atS y w\/w=v:=by
 unfold dF at h;split at h
 ·split at h
  ·exact .inl h
  ·split at h
   ·exact .inl h
   ·rcases h with⟨k,h⟩ | h
    ·exact .inl (.inl ⟨k,h⟩)
    ·rcases List.mem_append.1 h with h | h
     ·exact .inl (.inr h)
     ·simp at h;exact .inr h
 ·rcases h with⟨k,h⟩ | h
  ·exact .inl (.inl ⟨k,h⟩)
  ·exact .inl (.inr h)
theorem FV(y:aC)(v:aa):(dF y v).2.aO=y.aO/\(dF y v).2.id=y.id/\y.clock.N<=(dF y v).2.clock.N:=by
 have:=acf y.clock v.aq;unfold dF;split
 ·split
  ·exact⟨U,U,avK _⟩
  ·split
   ·exact⟨U,U,avK _⟩
   ·exact⟨U,U,this.1⟩
 ·exact⟨U,U,this.1⟩
def atF(i:Nat)(f:aC->aC)(hs:List aC):List aC:=match hs[i]? with
 | some x=>hs.set i (f x)
 | none=>hs
theorem zm{f:aC->aC}{x:aC}(h:hs[i]? =some x):atF i f hs=hs.set i (f x):=by unfold atF;rw[h]
theorem NH(h:GI t z){a:Nat}(ha:a<z.n)(from_:Int)(k:ByteArray):∃f:Int->Bool,jU z.row a from_ k=some ((oO z.row.aK a).filter f)/\f from_=false/\((oO z.row.aK a).filter f).Nodup/\((oO z.row.aK a).filter f).length<=4:=by
 obtain⟨f,h1,h2⟩:=MB h.row ha from_ k;have ha':a<z.row.aK.length:=by rw[h.row.len];exact ha
 exact⟨f,h1,h2,(ae7 _ h.row.tree a ha').filter f,awa (aw5 _ _)<|RX _ h.row.tree a ha'⟩
theorem FR{bh:bU}(h:(to.any λb=>decide (8<=iq bh a b))=false):∀b,b∈to->iq bh a b<8:=λb hb=>by
 have:=aw8.1 h b hb;simp at this;omega
theorem GZ:∀{l:List Nat},(∀q,q∈l->q=0)->l.sum=0
 | [],_=>rfl
 | a::l,h=>by rw[awZ,h a ayW,GZ λq hq=>h q<|by simp[hq]]
theorem Sn(h:GI t z)(ht:t<=1000)(ho:B2 n o)(hk:o.Kind=1\/o.Kind=2)(hne:(bA z o.Client.toNat).Site≠-1):Step t z o λg=>gp g o:=by
 have hc:o.Client.toNat<4:=by have:=ho.c0;have:=ho.c4;omega
 have B6:=h.JD _ hc;obtain⟨s0,s1⟩:=B6.site hne;have hh5:=h.hl;generalize Nx:(bA z o.Client.toNat).Site.toNat=a at *
 have ha:a<z.n:=by omega
 have hsa:(bA z o.Client.toNat).Site=(a:Int):=by omega
 obtain⟨y,hy,gy,iy⟩:=h.self.at ha;obtain⟨f,hnext,hfr,hnd,hln⟩:=NH h ha (-1) o.Key;generalize hto:(oO z.row.aK a).filter f=to at hnext hnd hln
 let val:=if o.Kind=2 then ByteArray.empty else o.Value
 let gone:=decide (o.Kind=2)
 have hval:val.size<=1:=by
  show(if o.Kind=2 then ByteArray.empty else o.Value).size<=1
  split
  ·exact av5 _
  ·exact ho.val
 have aga:gone=true->val=ByteArray.empty:=λq=>avk (awf q);have IB:=B6.past
 let v:=rU y o.Key val gone (bA z o.Client.toNat).bz
 have gv:GV (t+1) v:=Oa gy ayT ho.key hval aga IB;have Ym:=ye (s:=bA z o.Client.toNat) (IB.mono<|avD t) (l:=[v]) ayW (λu hu=>az1)
 let ns:=fM y (bA z o.Client.toNat).bz
 let F:=atF a λx=>{ x with aO:=fX x.aO v,clock:=ns }
 let Gp:=sendAll z.bh a to (Ae v)
 let ev:cZ:=⟨1,o.Client,v.Key,v.aq,(bA z o.Client.toNat).bz⟩
 let s2:aP:=⟨(bA z o.Client.toNat).Site,Lv (bA z o.Client.toNat).bz [v]⟩
 let ze:aD:={ z with sites:=F z.sites,bh:=Gp,bg:=z.bg++ [ev] }
 let z':=og ze s2 o.Client.toNat
 have hX:∀hs,mF t hs z->∀x,hs[a]? =some x->gp (wS z hs) o=
   if !eP y.aO.ranges o.Key then some (⟨14,[]⟩,wS z hs)else if(to.any λb=>decide (8<=iq z.bh a b))then some (⟨15,[]⟩,wS z hs)else some (⟨0,[v]⟩,wS z' (hs.set a { x with aO:=fX x.aO v,clock:=ns })):=λhs hh x hx=>by
  have gx:=(hh.good _ x hx).1
  have hr:=hh.rel _ x y hx hy;obtain⟨y',hy',_,_,q2,_⟩:=hh.obs h.self ayT ha;have:y'=y:=by rw[hy]at hy';cases hy';rfl
  subst this;obtain⟨fi,hf1,hf2,_⟩:=vP (l:=y'.aO.ranges) azI o.Key;unfold gp;rw[pG ho.c0 ho.c4];simp only[uy];show((jU z.row (bA z o.Client.toNat).Site (-1) o.Key).bind λto=>(idx (List.range z.n) (bA z o.Client.toNat).Site).bind λi=>_)=_;rw[hsa,hnext,avi,fo ayT ayT,avi];show((gL hs a).bind _)=_;rw[q2,avi,hf1,avi,hf2];cases ho':eP y'.aO.ranges o.Key with
  | false=>rfl
  | true=>
   simp only[avJ,avn,avB];rw[Wo (g:=wS z hs) h.bh _ ayT,avi];show(if(to.any λb=>decide (8<=iq z.bh a b))=true then _ else _)=_;cases hfull:to.any λb=>decide (8<=iq z.bh a b)with
   | true=>rfl
   | false=>
    simp only[avn,avB];have hroom:=FR hfull;have hwr:=hr.write o.Key val gone (bA z o.Client.toNat).bz
    have hpk:Dz (wS z hs) o to val gone=some (⟨0,[v]⟩,wS z' (hs.set a { x with aO:=fX x.aO v,clock:=ns })):=by
     unfold Dz;simp only[uy];show((idx (List.range z.n) (bA z o.Client.toNat).Site).bind λi=>(oY hs i o.Key val gone (bA z o.Client.toNat).bz).bind _)=_;rw[hsa,fo ayT ayT,avi];have hw:oY hs a o.Key val gone (bA z o.Client.toNat).bz=some ((v,0),hs.set a { x with aO:=fX x.aO v,clock:=ns }):=by
      unfold oY;rw[hx,avi,MK gx ayT ho.key hval aga IB,hr.sh.Ti,avk ho',hwr.1,hwr.2];rfl
     show((oY hs a o.Key val gone (bA z o.Client.toNat).bz).bind _)=_;rw[hw,avi,avj ayW];have hsend:=Xa (g:={ wS z hs with sites:=hs.set a { x with aO:=fX x.aO v,clock:=ns } }) (a:=(a:Int)) gv (show PD (t+1) (Ae v)from⟨v,gv,U⟩) (h.bh.mono (avq _) λ_=>PD.mono<|avD t) ayT ayT hnd hroom;rw[hsend,avi];rw[Ke aBJ,avi,Ym,avi];unfold gI;rw[avi];show some ((⟨0,[v]⟩:aA),og (wS ze _) s2 o.Client.toNat)=_;rw[GM]
    by_cases c:o.Kind=2
    ·rw[avk ayY]
     have e1:val=ByteArray.empty:=avk c;rw[<-hpk,e1]
    ·rw[avj ayY]
     have e1:val=o.Value:=avj c;rw[<-hpk,e1]
 cases hown:eP y.aO.ranges o.Key with
 | false=>
  refine Step.told h 14 (λq=>ayT) λhs hh=>?_;obtain⟨x,hx,_⟩:=hh.at ha;show gp (wS z hs) o=_;rw[hX hs hh x hx,hown];rfl
 | true=>
  cases hfull:to.any λb=>decide (8<=iq z.bh a b)with
  | true=>
   refine Step.told h 15 (λq=>ayT) λhs hh=>?_;obtain⟨x,hx,_⟩:=hh.at ha;show gp (wS z hs) o=_;rw[hX hs hh x hx,hown,hfull];rfl
  | false=>
   have hroom:=FR hfull;have hbe:∀c,cr ze c=cr z c:=λc=>aza;have ab0:∀c,bA ze c=bA z c:=λc=>aze;obtain⟨p1,p2,p3,p4,p5,p6,p7⟩:=ru ze s2 o.Client.toNat;have hb:∀c,cr z' c=cr z c:=λc=>(p7 c).trans (hbe c)
   let y':aC:={ y with aO:=fX y.aO v,clock:=ns }
   have Ye:F z.sites=z.sites.set a y':=zm hy;have hzs:z'.sites=z.sites.set a y':=p3.trans Ye;have abF:y.clock.N<ns.N:=by
    have:=(W9 (bA z o.Client.toNat).bz y.clock).1
    show y.clock.N<(EJ y.clock (bA z o.Client.toNat).bz).N+1
    omega
   have hvs:v.aq=ns:=rfl;have abW:ns.Site=(a:Int):=iy;have hnew:∀w,Jl z w->w.aq≠v.aq:=λw hw e=>by
    obtain⟨i,x,h1,h2,h3⟩:=h.zi.ZW w hw;rw[e,hvs]at h2 h3;rw[abW]at h2;have:i=a:=by omega
    subst this;rw[hy]at h1;cases h1;omega
   have UW:∀x,x∈aQ y.aO v.Key->x.aq≠v.aq:=λx hx=>hnew x (.inl ⟨a,y,hy,.inl ⟨_,hx⟩⟩);have Gc:∀hs,mF t hs z->mF (t+1) (F hs) z':=λhs hh=>by
    obtain⟨x,hx,gx,ix⟩:=hh.at ha;have hr:=hh.rel _ x y hx hy;have e:F hs=hs.set a { x with aO:=fX x.aO v,clock:=ns }:=zm hx;rw[e];have hwr:=hr.write o.Key val gone (bA z o.Client.toNat).bz
    refine hh.set (avD t) hx hy p2 hzs p5 hb ⟨?_,U⟩ ⟨hr.id,hr.wait,U,hr.sh.put gx.sh gy.sh UW⟩ λk u hu=>NW hu;have:=gx.write ayT gv IB;rw[hwr.2]at this;exact this
   have aE:∀s x',z'.sites[s]? =some x'->(s=a/\x'=y')\/(s≠a/\z.sites[s]? =some x'):=λs x' hx'=>by
    rw[hzs]at hx';rcases mP hx' with⟨h1,h2,_⟩ | h1
    ·exact .inl ⟨h1,h2⟩
    ·exact .inr h1
   obtain⟨n1,n2,n3⟩:=yO (a:=(a:Int)) (d:=Ae v) (P:=PD<|t+1) ⟨v,gv,U⟩ z.row.aK (h.bh.mono (avq _) λ_=>PD.mono<|avD t) hnd hroom;have U0:z'.bh=Gp:=p4;have hrow:z'.row=z.row:=p1;have hin:∀w,Jl z' w->Jl z w\/w=v:=λw hw=>by
    rcases hw with⟨i,x',hx',hat⟩ | ⟨e,he,p,hp,hw⟩
    ·rcases aE i x' hx' with⟨rfl,rfl⟩ | ⟨_,hx'⟩
     ·rcases hat with⟨k,hat⟩ | hat
      ·rcases JA hat with hat | rfl
       ·exact .inl (.inl ⟨_,y,hy,.inl ⟨k,hat⟩⟩)
       ·exact .inr U
      ·exact .inl (.inl ⟨_,y,hy,.inr hat⟩)
     ·exact .inl (.inl ⟨i,x',hx',hat⟩)
    ·rw[U0]at he
     obtain⟨e',h1,_,h3⟩:=n2 e he;rcases h3 p hp with q | ⟨q,_⟩
     ·exact .inl (.inr ⟨e',h1,p,q,hw⟩)
     ·rw[q,JG gv]at hw;exact .inr hw
   refine⟨⟨0,[v]⟩,z',F,p3,λhs hh=>⟨?_,Gc hs hh⟩,?_,Post.plain (λu hu=>az1) ayW (λc _=>by rw[hb]) ayT<|by omega⟩
   ·obtain⟨x,hx,_⟩:=hh.at ha
    show gp (wS z hs) o=_;rw[hX hs hh x hx,hown,hfull,avj ayW,avj ayW];show _=some (_,wS z' (F hs));have e:F hs=hs.set a { x with aO:=fX x.aO v,clock:=ns }:=zm hx;rw[e]
   ·refine⟨by rw[hrow,p2];exact h.row,?_,?_,λc hc'=>?_,λc hc'=>by rw[hb,p2];exact h.M8 c hc',by rw[p5];exact h.ps,by rw[p5];exactλp hp=>(h.Vy p hp).mono<|avD t,by rw[p6];show(z.bg++ [ev]).length<=_;simp;omega,?_,?_,by have:=Gc z.sites h.self;rw[Ye,<-hzs]at this;exact this⟩
    ·rw[U0];exact n1.mono ayT λ_ q=>q
    ·rw[U0,p2]
     intro e he;obtain⟨e',h1,h2,_⟩:=n2 e he;rw[<-h2];exact h.KQ e' h1
    ·rw[iF _ _ hc hc',p2]
     split
     ·exact⟨JC (IB.mono<|avD t) λu hu=>az1,B6.Xd,B6.Xe⟩
     ·rw[ab0];exact(h.JD c hc').mono (avD t)
    ·have ahQ:∀c,c<4->∀k,zb (dY (bA z c).bz k) (dY (bA z' c).bz k):=λc hc' k=>by
      rw[iF _ _ hc hc'];split
      ·rename_i q;subst q;exact GH (IB.mono<|avD t) (λu hu=>az1) k
      ·rw[ab0];exact dG _
     intro e he;rw[p6]at he;rcases List.mem_append.1 he with he | he
     ·exact(h.HJ e he).xo ahQ
     ·simp at he;subst he
      refine⟨IB.len,ho.c0,ho.c4,?_⟩;rw[iF _ _ hc hc,avk rfl];exact GJ (IB.mono<|avD t) (l:=[v]) (λu hu=>az1) (axn.2 U)
    ·refine⟨λw hw=>?_,λw u hw hu e=>?_,λs x' st hx'=>?_,λe he hop=>?_⟩
     ·rcases hin w hw with q | rfl
      ·obtain⟨i,x,h1,h2,h3⟩:=h.zi.ZW w q
       by_cases c:i=a
       ·subst c
        rw[hy]at h1;cases h1;exact⟨_,y',by rw[hzs,awz,avk U,avk (nY hy)],h2,by show w.aq.N<=ns.N;omega⟩
       ·exact⟨i,x,by rw[hzs,awz,avj λq=>c q.symm];exact h1,h2,h3⟩
      ·exact⟨a,y',by rw[hzs,awz,avk U,avk (nY hy)],abW,avK _⟩
     ·rcases hin w hw with q1 | rfl<;>rcases hin u hu with q2 | rfl
      ·exact h.zi.unq w u q1 q2 e
      ·exact absurd e (hnew w q1)
      ·exact absurd e.symm (hnew u q2)
      ·rfl
     ·rw[hrow,U0]
      have hb1:=n3 s st;rw[JG gv]at hb1;have hslt:s<z.row.aK.length:=by
       rw[h.row.len,<-h.aiJ];have:=nY hx';rw[hzs,awT]at this;exact this
      have WA:=acO _ h.row.tree a (by rw[h.row.len];exact ha) s hslt;have aoi:=EP (λb=>mD<|nG z.row.aK a b.toNat s) f (oO z.row.aK a);rw[hto]at aoi;simp only[avp]at hb1;by_cases est:v.aq=st
      ·
       rw[avP est]at hb1;have abT:eH z.row.aK z.bh s st=0:=by
        unfold eH;refine GZ λq hq=>?_;obtain⟨e,he,rfl⟩:=avT.1 hq;have:opn e.2 st=0:=by
         unfold opn;rw[ax5];intro p hp;simp only[awe];rw[<-est];exact hnew _ (.inr ⟨e,he,p,hp,U⟩)
        rw[this,Nat.mul_zero]
       have hno:∀(i:Nat)(x:aC),z.sites[i]? =some x->ez x st=0:=λi x hx=>by
        have gx:=(h.self.good i x hx).1
        unfold ez;have h1:xu x st=false:=by
         cases q:xu x st with
         | false=>rfl
         | true=>
          obtain⟨k,w,h3,h4⟩:=(CI gx.sh).1 q
          exact absurd (h4.trans est.symm) (hnew w<|.inl ⟨i,x,hx,.inl ⟨k,h3⟩⟩)
        have h2:(x.wait.countP λw=>decide (w.aq=st))=0:=by
         rw[ax5];intro w hw;simp only[awe];rw[<-est];exact hnew w (.inl ⟨i,x,hx,.inr hw⟩)
        rw[h1,h2];rfl
       have hsc:ez x' st<=mD (decide (s=a)):=by
        rcases aE s x' hx' with⟨rfl,rfl⟩ | ⟨_,hx'⟩
        ·have h1:=hno _ y hy
         have h2:ez y' st<=ez y st+mD (decide (v.aq=st)):=by
          have:=Kv (gy.sh.mono<|avD t) gv st (w:=y.wait) (c:=ns);unfold ez;have h3:mD (xu y' st)<=mD (xu y st)+mD (decide (v.aq=st)):=this;show mD (xu y' st)+y.wait.countP _<=_;omega
         rw[avP est]at h2;rw[avP rfl];omega
        ·rw[hno s x' hx'];exact av5 _
       have e1:mD true=1:=rfl;rw[e1,axP,abT]at hb1;show eH z.row.aK Gp s st+_<=1;have hb2:eH z.row.aK Gp s st<=0+(to.map λb=>mD<|nG z.row.aK a b.toNat s).sum:=hb1
       omega
      ·rw[avY est]at hb1
       have e0:mD false=0:=rfl;rw[e0,Nat.mul_zero]at hb1;have hb2:eH z.row.aK Gp s st<=eH z.row.aK z.bh s st+0:=hb1;rcases aE s x' hx' with⟨rfl,rfl⟩ | ⟨_,hx'⟩
       ·have h1:=h.zi.cnt _ y st hy
        have h2:ez y' st<=ez y st:=by
         have:=Kv (gy.sh.mono<|avD t) gv st (w:=y.wait) (c:=ns);rw[avY est]at this;unfold ez;have h3:mD (xu y' st)<=mD (xu y st)+mD false:=this;show mD (xu y' st)+y.wait.countP _<=_;omega
        omega
       ·have h1:=h.zi.cnt s x' st hx'
        omega
     ·rw[hrow]
      rw[U0]at he;obtain⟨e',h1,h2,h3⟩:=n2 e he;rw[<-h2];cases ho':e.2.snd.open_ with
      | nil=>exact absurd ho' hop
      | cons p l=>
       rcases h3 p (by rw[ho'];simp)with q | ⟨_,q2,q3⟩
       ·exact h.zi.near e' h1 λq'=>by rw[q']at q;cases q
       ·rw[h2,q2,avp]
        rw[<-hto]at q3;exact(awc.1 q3).1
theorem Xg{α:Type}(f:α->Nat):∀{l:List α}{a:α},a∈l->f a<=(l.map f).sum
 | b::l,a,h=>by
  rcases List.mem_cons.1 h with rfl | h
  ·simp only[avV,awZ];omega
  ·have:=Xg f h
   simp only[avV,awZ];omega
theorem YY(h:GI t z)(ht:t<=1000)(ho:B2 n o)(hk:o.Kind=8):Step t z o λg=>pO g o:=by
 cases hx:bx z.bh (o.Site,o.To)with
 | none=>
  refine Step.told h 12 (λq=>ayT) λhs hh=>?_;show(gV z.bh o.Site o.To).bind _=_
  rw[Jc hx,avi,avj azD,avk azD];rfl
 | some x=>
  have gx:=h.bh.at hx;have hfl:=Mo h.bh ayT hx;obtain⟨⟨ks0,ks1⟩,kt0,kt1⟩:=h.KQ _ (iM hx);simp only at ks0 ks1 kt0 kt1;by_cases hat:o.At<x.way.length
  ·generalize hi:o.At.toNat=i
   have hoi:o.At=(i:Int):=by have:=ho.a0;omega
   have hi':i<x.way.length:=by omega
   have htk:=Pt hx hi';by_cases Kt:D6 o.How 3=1\/D6 o.How 3=2\/¬x.way[i].Seq=x.zg.count.next
   ·
    obtain⟨d,w,h1,h2⟩:=KP h.bh ayT hx hi' Kt;have hb:∀c,cr { z with bh:=cw z.bh (o.Site,o.To) ⟨x.snd,x.zg,w⟩ } c=cr z c:=λc=>aza;refine⟨⟨0,[]⟩,{ z with bh:=cw z.bh (o.Site,o.To) ⟨x.snd,x.zg,w⟩ },id,U,λhs hh=>⟨?_,(hh.mono<|avD t).xo U U U hb⟩,h.acj hx h2 U,Post.plain (λv hv=>aBY) ayW (λc _=>by rw[hb]) ayT<|by omega⟩;have hpx:Az (wS z hs) o=some (⟨0,[]⟩,wS { z with bh:=cw z.bh (o.Site,o.To) ⟨x.snd,x.zg,w⟩ } hs):=by
     show(nA z.bh o.Site o.To o.At o.How).bind _=_
     rw[hoi,h1];rfl
    show(gV z.bh o.Site o.To).bind _=_
    rw[hfl,avi,avj azD,avj ayV];show(qY z.bh o.Site o.To o.At).bind _=_
    rw[hoi,htk,avi];by_cases c1:D6 o.How 3=1
    ·rw[avk ay3];exact hpx
    ·rw[avj ay3]
     by_cases c2:D6 o.How 3=2
     ·rw[avk ay5];exact hpx
     ·rw[avj ay5]
      have c3:=(Kt.resolve_left c1).resolve_left c2
      rw[avj c3];exact hpx
   ·
    have UZ:¬D6 o.How 3=1:=λq=>Kt (.inl q);have hn2:¬D6 o.How 3=2:=λq=>Kt (.inr<|.inl q);have hseq:x.way[i].Seq=x.zg.count.next:=awH λq=>Kt (.inr<|.inr q)
    obtain⟨q,Wz⟩:=gx.first (avu hi') hseq;generalize hp:x.way[i] =p at *;have hpd:PD t p.Data:=gx.od p (by rw[Wz];simp);obtain⟨hrd,gv,asV⟩:=Qy hpd;generalize hv:wv p.Data=v at *;generalize hbb:o.To.toNat=b;have hob:o.To=(b:Int):=by omega
    have hbn:b<z.n:=by omega
    generalize haa:o.Site.toNat=a;have hoa:o.Site=(a:Int):=by omega
    have han:a<z.n:=by omega
    obtain⟨y,hy,gy,iy⟩:=h.self.at hbn;obtain⟨f,hnext,hfr,hnd,hln⟩:=NH h hbn o.Site v.Key;generalize hto:(oO z.row.aK b).filter f=to at hnext hnd hln
    have agh:=Mq h.bh ayT hx hi' aAU UZ hn2;rw[hp]at agh
    let HV:=cw z.bh (o.Site,o.To) (z8 x i)
    let Gp:=sendAll HV b to (Ae v)
    have abS:(b:Int)∈oO z.row.aK a:=by
     have:=h.zi.near _ (iM hx) (by rw[Wz];simp);simp only at this;rw[haa,hob]at this;exact this
    have hlen:=h.row.len;have WA:=λs hs=>afA _ h.row.tree a (by rw[hlen];exact han) b abS s hs;simp only[avp]at WA;have hsub:∀s,(to.map λt=>mD<|nG z.row.aK b t.toNat s).sum<=(((oO z.row.aK b).filter λt=>!decide (t=(a:Int))).map λt=>mD<|nG z.row.aK b t.toNat s).sum:=λs=>by
     rw[<-hto];refine Dg _ f _ (λc hc=>?_) _;simp only[axj,axo];intro e;rw[<-hoa]at e;rw[e,hfr]at hc;cases hc
    have aeU:∀s st,mD (nG z.row.aK a b s)*opn x st<=eH z.row.aK z.bh s st:=λs st=>by
     have:=Xg (λe:(Int×Int)×eM=>mD (nG z.row.aK e.1.1.toNat e.1.2.toNat s)*opn e.2 st) (iM hx);simp only[haa,hbb]at this;exact this
    have akN:∀st,opn x st=opn (z8 x i) st+mD (decide (v.aq=st)):=λst=>by
     unfold opn z8;simp only[Wz,ayx,axL,axH,hv];unfold mD;omega
    have hsb:nG z.row.aK a b b=true:=by
     have:=WA b (by rw[hlen];exact hbn);rw[avP rfl]at this;cases e:nG z.row.aK a b b with
     | true=>rfl
     | false=>rw[e]at this;simp[mD]at this
    have aog:ez y v.aq=0:=by
     have h1:=h.zi.cnt b y v.aq hy;have h2:=aeU b v.aq;have h3:=akN v.aq;rw[avP rfl]at h3;rw[hsb]at h2;have e1:mD true=1:=rfl;rw[e1]at h2 h3;omega
    have hnt:=YH gy aog;have hX:∀hs,mF t hs z->∀u,hs[b]? =some u->pO (wS z hs) o=if(eP y.aO.ranges v.Key&&decide (24<=y.wait.length))||(to.any λc=>decide (8<=iq z.bh b c))then some (⟨15,[]⟩,wS z hs)else some (⟨0,[v]⟩,wS { z with bh:=Gp } (hs.set b (dF u v).2)):=λhs hh u hu=>by
     have gu:=(hh.good _ u hu).1
     have hr:=hh.rel _ u y hu hy;obtain⟨y',hy',_,_,q2,_,q4,_⟩:=hh.obs h.self ayT hbn;have:y'=y:=by rw[hy]at hy';cases hy';rfl
     subst this;obtain⟨fi,hf1,_,hf3⟩:=vP (l:=y'.aO.ranges) azI v.Key;have hpk:Ay (wS z hs) o v b to=if(to.any λc=>decide (8<=iq z.bh b c))then some (⟨15,[]⟩,wS z hs)else some (⟨0,[v]⟩,wS { z with bh:=Gp } (hs.set b (dF u v).2)):=by
      unfold Ay;rw[Wo (g:=wS z hs) h.bh _ ayT,avi,hob];show(if(to.any λc=>decide (8<=iq z.bh b c))=true then _ else _)=_;cases hfull:to.any λc=>decide (8<=iq z.bh b c)with
      | true=>rfl
      | false=>
       simp only[avn,avB];have hroom:=FR hfull;show((nA z.bh o.Site b o.At o.How).bind _)=_;rw[hoi,<-hob,agh,avi];have har:qm hs b v=some ((dF u v).1,hs.set b (dF u v).2):=by
        unfold qm;rw[hu,avi,LD gu ayT gv];rfl
       show((qm hs b v).bind _)=_;rw[har,avi];have gn1:GN (8*t) (PD t) HV:=h.bh.set (gx.take hi' aAU);have U2:∀c,c∈to->iq HV b c<8:=λc hc=>by
        have:=hroom c hc;show iq (cw z.bh (o.Site,o.To)<|z8 x i) b c<8;unfold iq at this ⊢;rw[qX];by_cases e:(o.Site,o.To)=((b:Int),c)
        ·rw[avk e]
         rw[<-e,hx]at this;simp only at this ⊢;unfold z8;simp only[avZ];omega
        ·rw[avj e];exact this
       have hsend:=Xa (g:={ wS z hs with bh:=HV,sites:=hs.set b (dF u v).2 }) (a:=(b:Int)) gv (show PD t (Ae v)from⟨v,gv,U⟩) gn1 ayT ayT hnd U2;have hcg:pP { wS z hs with bh:=HV,sites:=hs.set b (dF u v).2 } o.To to v=pP { wS z hs with bh:=HV,sites:=hs.set b (dF u v).2 } (b:Int) to v:=by rw[hob]
       show((pP { wS z hs with bh:=HV,sites:=hs.set b (dF u v).2 } o.To to v).bind _)=_;rw[hcg,hsend,avi];rfl
     show(gV z.bh o.Site o.To).bind _=_
     rw[hfl,avi,avj azD,avj ayV];show(qY z.bh o.Site o.To o.At).bind _=_
     rw[hoi,htk,avi,avj (by simpa using UZ),avj (by simpa using hn2),avk hseq,avj ayW,hrd,avi];show((idx (List.range z.n) o.To).bind λi=>(jU z.row o.To o.Site v.Key).bind _)=_;rw[hob,fo ayT ayT,avi,hnext,avi];show((gL hs b).bind _)=_;rw[q2,avi,hf1,avi,hf3];cases hown:eP y'.aO.ranges v.Key with
     | false=>
      rw[avj ayW,Bool.false_and,aw6];exact hpk
     | true=>
      rw[avk rfl];show((jf hs b).bind _)=_;rw[q4,avi,axe];by_cases c:24<=y'.wait.length
      ·rw[avk ayV,avP c,Bool.true_or,avk U];rfl
      ·rw[avj ayV,avY c,aw6]
       exact hpk
    cases BZ:(eP y.aO.ranges v.Key&&decide (24<=y.wait.length))||(to.any λc=>decide (8<=iq z.bh b c))with
    | true=>
     refine Step.told h 15 (λq=>ayT) λhs hh=>?_;obtain⟨u,hu,_⟩:=hh.at hbn;show pO (wS z hs) o=_;rw[hX hs hh u hu,BZ];rfl
    | false=>
     have hroom:=FR (axz.1 BZ).2
     let F:=atF b λu=>(dF u v).2
     let y':aC:=(dF y v).2
     let z':aD:={ z with sites:=F z.sites,bh:=Gp }
     have Ye:F z.sites=z.sites.set b y':=zm hy;have hb:∀c,cr z' c=cr z c:=λc=>aza;have B6:∀c,bA z' c=bA z c:=λc=>aze;have Gc:∀hs,mF t hs z->mF (t+1) (F hs) z':=λhs hh=>by
      obtain⟨u,hu,gu,iu⟩:=hh.at hbn;have hr:=hh.rel _ u y hu hy;have e:F hs=hs.set b (dF u v).2:=zm hu
      rw[e];have hsh:=FV u v;exact hh.set (avD t) hu hy U Ye U hb ⟨(gu.Tq gv).mono<|avD t,hsh.2.1⟩ (hr.Tq hnt).2 λk w hw=>by rw[hsh.1];exact hw
     have gn1:GN (8*t) (PD t) HV:=h.bh.set (gx.take hi' aAU);have U2:∀c,c∈to->iq HV b c<8:=λc hc=>by
      have:=hroom c hc;show iq (cw z.bh (o.Site,o.To)<|z8 x i) b c<8;unfold iq at this ⊢;rw[qX];by_cases e:(o.Site,o.To)=((b:Int),c)
      ·rw[avk e]
       rw[<-e,hx]at this;simp only at this ⊢;unfold z8;simp only[avZ];omega
      ·rw[avj e];exact this
     obtain⟨n1,n2,n3⟩:=yO (a:=(b:Int)) (d:=Ae v) (P:=PD t) ⟨v,gv,U⟩ z.row.aK gn1 hnd U2;have ak3:wv (Ae v)=v:=JG gv;have abU:∀e,e∈HV->∃e',e'∈z.bh/\e'.1=e.1/\∀r,r∈e.2.snd.open_->r∈e'.2.snd.open_:=λe he=>by
      rcases sR he with rfl | he
      ·exact⟨_,iM hx,U,λr hr=>aw0 hr⟩
      ·exact⟨e,he,U,λr hr=>hr⟩
     have ak0:Jl z v:=.inr ⟨_,iM hx,p,by rw[Wz];simp,hv.symm⟩
     refine⟨⟨0,[v]⟩,z',F,U,λhs hh=>⟨?_,Gc hs hh⟩,?_,Post.plain (λw hw=>by rw[axn.1 hw];exact gv.mono<|avD t) ayW (λc _=>by rw[hb]) ayT<|by omega⟩
     ·obtain⟨u,hu,_⟩:=hh.at hbn
      show pO (wS z hs) o=_;rw[hX hs hh u hu,BZ,avj ayW];have e:F hs=hs.set b (dF u v).2:=zm hu
      show _=some (_,wS z' (F hs));rw[e];rfl
     ·refine⟨h.row,n1.mono ayT λ_=>PD.mono<|avD t,?_,λc hc=>az2,λc hc=>azK,h.ps,λp hp=>(h.Vy p hp).mono<|avD t,azX,λe he=>(h.HJ e he).xo λc _ k=>by rw[B6];exact dG _,?_,by have:=Gc z.sites h.self;rw[Ye]at this;show mF _ (F z.sites) _;rw[Ye];exact this⟩
      ·intro e he
       obtain⟨e1,h1,h2,_⟩:=n2 e he;obtain⟨e2,h3,h4,_⟩:=abU e1 h1;rw[<-h2,<-h4];exact h.KQ e2 h3
      ·refine h.zi.ack (λw hw=>?_) (λs w hw=>?_) (λs w st hw=>?_) λe he hop=>?_
       ·rcases hw with⟨j,w',hw',hat'⟩ | ⟨e,he,r,hr,hw⟩
        ·have ZZ:(z.sites.set b y')[j]? =some w':=by rw[<-Ye];exact hw'
         rcases mP ZZ with⟨rfl,rfl,_⟩ | ⟨_,ZZ⟩
         ·rcases XA hat' with q | rfl
          ·exact .inl ⟨_,y,hy,q⟩
          ·exact ak0
         ·exact .inl ⟨j,w',ZZ,hat'⟩
        ·obtain⟨e1,h1,_,h3⟩:=n2 e he
         rcases h3 r hr with q' | ⟨q',_⟩
         ·obtain⟨e2,h4,_,h6⟩:=abU e1 h1
          exact .inr ⟨e2,h4,r,h6 r q',hw⟩
         ·rw[q',ak3]at hw
          rw[hw];exact ak0
       ·by_cases c:b=s
        ·subst c
         rw[hy]at hw;cases hw;exact⟨y',by show(F z.sites)[_]? =_;rw[Ye,awz,avk U,avk (nY hy)],(FV y v).2.2⟩
        ·exact⟨w,by show(F z.sites)[_]? =_;rw[Ye,awz,avj c];exact hw,avK _⟩
       ·have ZZ:(z.sites.set b y')[s]? =some w:=by rw[<-Ye];exact hw
        have hslt:s<z.row.aK.length:=by
         rw[hlen,<-h.aiJ];have:=nY ZZ;rw[awT]at this;exact this
        have g1:=n3 s st;rw[ak3]at g1;simp only[avp]at g1;have g2:=WA s hslt;have g3:=hsub s;have g4:=LK hx (y:=z8 x i) λe=>mD (nG z.row.aK e.1.1.toNat e.1.2.toNat s)*opn e.2 st;simp only[haa,hbb,akN st,Nat.mul_add]at g4;have g5:eH z.row.aK HV s st+mD (nG z.row.aK a b s)*mD (decide (v.aq=st))=eH z.row.aK z.bh s st:=by
         unfold eH;have:((HV.map λe=>mD (nG z.row.aK e.1.1.toNat e.1.2.toNat s)*opn e.2 st).sum)=((cw z.bh (o.Site,o.To)<|z8 x i).map λe=>mD (nG z.row.aK e.1.1.toNat e.1.2.toNat s)*opn e.2 st).sum:=rfl
         omega
        have g6:∃w0,z.sites[s]? =some w0/\ez w st<=ez w0 st+mD (decide (s=b))*mD (decide (v.aq=st)):=by
         rcases mP ZZ with⟨rfl,rfl,_⟩ | ⟨_,hw3⟩
         ·refine⟨y,hy,?_⟩
          have:=Tr (y:=y) v st;rw[avP rfl];have e1:mD true=1:=rfl;rw[e1,ayu];exact this
         ·exact⟨w,hw3,ayp _ _⟩
        obtain⟨w0,hw0,g7⟩:=g6;have g8:=h.zi.cnt s w0 st hw0;have g9:mD (decide ((s:Int)=(b:Int)))=mD (decide (s=b)):=by
         congr 1;exact ayo.2 ayT
        rw[g9]at g2;show eH z.row.aK Gp s st+ez w st<=1;have g1':eH z.row.aK Gp s st<=eH z.row.aK HV s st+(to.map λt=>mD<|nG z.row.aK b t.toNat s).sum*mD (decide (v.aq=st)):=g1
        cases est:decide (v.aq=st)with
        | true=>
         rw[est]at g1' g5 g7;have e1:mD true=1:=rfl;rw[e1]at g1' g5 g7;omega
        | false=>
         rw[est]at g1' g5 g7;have e1:mD false=0:=rfl;rw[e1]at g1' g5 g7;omega
       ·obtain⟨e1,h1,h2,h3⟩:=n2 e he
        obtain⟨e2,h4,h5,h6⟩:=abU e1 h1;show e.1.2∈oO z.row.aK e.1.1.toNat;rw[<-h2];cases ho':e.2.snd.open_ with
        | nil=>exact absurd ho' hop
        | cons r l=>
         rcases h3 r (by rw[ho'];simp)with q' | ⟨_,q2,q3⟩
         ·rw[<-h5]
          exact h.zi.near e2 h4 λq''=>by
           have:=h6 r q';rw[q'']at this;cases this
         ·rw[h2,q2,avp]
          rw[<-hto]at q3;exact(awc.1 q3).1
  ·refine Step.told h 12 (λq=>ayT) λhs hh=>?_
   show(gV z.bh o.Site o.To).bind _=_
   rw[hfl,avi,avj azD,avk ayV];rfl
theorem PW{l:List ByteArray}(hk:∀k,k∈l->L8 k)(hl:l.length<=5):∃b,jQ l=some b:=by
 unfold jQ;by_cases c1:(l.length:Int)<1
 ·rw[avk ay3];exact⟨_,U⟩
 ·rw[avj ay3]
  by_cases c2:4<(l.length:Int)
  ·rw[avk ay5];exact⟨_,U⟩
  ·rw[avj ay5]
   unfold dN;rw[mq (p:=λk=>!j8 k) (λk hm=>by unfold gS;rw[rY (by rw[(hk k hm).size];omega)];rfl) ayT,avi,avi];split
   ·exact⟨_,U⟩
   ·unfold vT nL
    rw[avk ayV];exact⟨_,U⟩
def atK(y:aC)(s:Nat)(row:aF)(k:ByteArray):Nat:=if eP y.aO.ranges k then s else((iY row k).getD 0).toNat
def Sr(z:aD)(f:ByteArray->Nat)(k:ByteArray):aa×Bool:=match z.sites[f k]? with
 | some y=>((lX y k).1,(lX y k).2.1)
 | none=>(zeroV,false)
def Cs(R:ByteArray->aa×Bool)(l:List ByteArray):List ah:=(l.filter λk=>(R k).2).map λk=>⟨k,(R k).1.aq⟩
def G9(R:ByteArray->aa×Bool)(l:List ByteArray):List aa:=(l.filter λk=>(R k).2).map λk=>(R k).1
theorem GI.PU(h:GI t z):z.pins.length<=4:=by
 have h1:(z.pins.map λp=>p.ID.toNat).Pairwise (·< ·):=by
  rw[axT];refine h.ps.imp_of_mem λ{a b} ha hb q=>?_;have:=(h.Vy a ha).id1
  have:=(h.Vy b hb).id1
  omega
 have h2:=Gh (a:=1) (n:=5) h1 λx hx=>by
  obtain⟨p,hp,rfl⟩:=avT.1 hx;have:=(h.Vy p hp).id1
  have:=(h.Vy p hp).id4
  omega
 simpa using h2
theorem Uf{R:ByteArray->aa×Bool}:∀{l:List ByteArray},(Cs R l).find? (λd=>decide (d.Key=k))=some d->(R k).2=true/\d=⟨k,(R k).1.aq⟩:=λ{l} h=>by
 have h1:=List.find?_some h;have h2:=ayA h;unfold Cs at h2;obtain⟨k',h3,rfl⟩:=avT.1 h2;have:k'=k:=awf h1;subst this;exact⟨(awc.1 h3).2,U⟩
theorem Tu(h:GI t z)(ht:t<=1000)(ho:B2 n o)(hk:o.Kind=6)(hne:(bA z o.Client.toNat).Site≠-1):Step t z o λg=>fh g o:=by
 have hc:o.Client.toNat<4:=by have:=ho.c0;have:=ho.c4;omega
 have B6:=h.JD _ hc;obtain⟨s0,s1⟩:=B6.site hne;have hpl:=h.PU;have hkl:=ho.kl;have hkey:=ho.keys;obtain⟨b,hb⟩:=PW hkey hkl;cases hbb:b with
 | false=>
  refine Step.told h 1 (λq=>ayT) λhs hh=>?_;show fh (wS z hs) o=_;unfold fh;rw[pG ho.c0 ho.c4,hb,avi,hbb];rfl
 | true=>
  subst hbb;generalize Nx:(bA z o.Client.toNat).Site.toNat=a
  have hsa:(bA z o.Client.toNat).Site=(a:Int):=by omega
  have ha:a<z.n:=by omega
  obtain⟨y,hy,gy,_⟩:=h.self.obs h.self ayT ha
  let f:=atK y a z.row
  have hf:∀k,f k<z.n:=λk=>by
   show(if eP y.aO.ranges k then a else _)<_;split
   ·exact ha
   ·obtain⟨s,h1,h2⟩:=xe h.row k
    rw[h2];exact h1
  let R:=Sr z f
  have hR:∀k,(R k).2=true->∃x,z.sites[f k]? =some x/\R k=((lX x k).1,(lX x k).2.1):=λk _=>by
   obtain⟨x,hx,_⟩:=h.self.at (hf k);exact⟨x,hx,by show Sr z f k=_;unfold Sr;rw[hx]⟩
  have hRg:∀k,(R k).2=true->GV t (R k).1/\(R k).1.Key=k:=λk hr=>by
   obtain⟨x,hx,e⟩:=hR k hr;rw[e]at hr ⊢;have:=C1 (h.self.good _ x hx).1 hr
   exact⟨this.1,this.2.1⟩
  have hlen:∀l:List ByteArray,(Cs R l).length<=l.length/\(G9 R l).length<=l.length:=λl=>by
   unfold Cs G9;rw[avN,avN];exact⟨aw5 _ _,aw5 _ _⟩
  let ds:=Cs R o.Keys
  let ss:=o.Keys.map λk=>(f k:Int)
  let vs:=G9 R o.Keys
  have hX:∀hs,mF t hs z->fh (wS z hs) o=lH (wS z hs) o o.Keys ds ss vs:=λhs hh=>by
   obtain⟨y',hy',_,_,q2,_⟩:=hh.obs h.self ayT ha;have:y'=y:=by rw[hy]at hy';cases hy';rfl
   subst this;unfold fh;rw[pG ho.c0 ho.c4,hb,avi,avj ayW,qo ayT ayT,avi];refine(pU (S:=List ah×List Int×List aa) o.Keys (λs i=>(i,s.1,s.2.1,s.2.2))
    (λl s=>lH (wS z hs) o o.Keys (s.1++Cs R l) (s.2.1++l.map λk=>(f k:Int)) (s.2.2++G9 R l)) (λi s=>s.1.length<=i/\s.2.1.length<=i/\s.2.2.length<=i) ?_ ?_ (s0:=([],[],[])) ⟨avq _,avq _,avq _⟩ ayT).trans ?_
   ·rintro again ⟨p1,p2,p3⟩ _
    unfold CC;rw[avj ayW];simp[Cs,G9]
   ·rintro again i ⟨p1,p2,p3⟩ hi ⟨l1,l2,l3⟩ cW
    simp only at l1 l2 l3;unfold CC;rw[avk ay8];simp only[bp hi,avi];rw[uy];show((idx (List.range z.n) (bA z o.Client.toNat).Site).bind _)=_;rw[hsa,fo ayT ayT,avi];show((gL hs a).bind _)=_;rw[q2,avi];obtain⟨fi,hf1,hf2,_⟩:=vP (l:=y'.aO.ranges) azI o.Keys[i];rw[hf1,avi,hf2];have hbk:∀k,k=o.Keys[i]->xC (wS z hs) k (f k:Int) again ((i:Int),p1,p2,p3)=lH (wS z hs) o o.Keys (p1++Cs R (o.Keys[i] ::o.Keys.drop (i+1))) (p2++(o.Keys[i] ::o.Keys.drop (i+1)).map λk=>(f k:Int)) (p3++G9 R (o.Keys[i] ::o.Keys.drop (i+1))):=λk ek=>by
     obtain⟨x,hx,_,_,_,q3,_⟩:=hh.obs h.self ayT (hf k);unfold xC;rw[cJ ayV ayV,avi];show((idx (List.range z.n) (f k:Int)).bind _)=_;rw[fo ayT (by have:=hf k;omega),avi];show((oh hs (f k) k).bind _)=_;rw[q3 k,avi,wrap64 ayT ayT];have eR:R k=((lX x k).1,(lX x k).2.1):=by show Sr z f k=_;unfold Sr;rw[hx]
     have e1:(lX x k).2.1=(R k).2:=by rw[eR]
     have e2:(lX x k).1=(R k).1:=by rw[eR]
     rw[e1,e2,<-ek];unfold Cs G9;cases c:(R k).2 with
     | false=>
      rw[avj ayW,awC,avj (by rw[c];simp)];rw[cW (p1,p2++ [(f k:Int)],p3) ⟨ayU,ayV,ayU⟩];simp[Cs,G9]
     | true=>
      rw[avk rfl,awC,avk c,cJ ayV ayV,avi,cJ ayV ayV,avi];rw[cW (p1++ [(⟨k,(R k).1.aq⟩:ah)],p2++ [(f k:Int)],p3++ [(R k).1]) ⟨ayV,ayV,ayV⟩];simp[Cs,G9]
    have hfk:f o.Keys[i] =if eP y'.aO.ranges o.Keys[i]then a else((iY z.row o.Keys[i]).getD 0).toNat:=rfl
    cases hown:eP y'.aO.ranges o.Keys[i]with
    | false=>
     rw[hown]at hfk;obtain⟨s,h1,h2⟩:=xe h.row o.Keys[i];rw[h2]at hfk;simp only[avn,avB,av7,avp]at hfk;rw[avk ayW];show((iY z.row o.Keys[i]).bind _)=_;rw[h2,avi,<-hbk _ rfl,hfk]
    | true=>
     rw[hown]at hfk;simp only[avM]at hfk;rw[avj ayW,<-hbk _ rfl,hfk]
   ·simp only[avX]
    rfl
  let p:aH:=⟨o.Client+1,ds⟩
  have hpk:∀hs,lH (wS z hs) o o.Keys ds ss vs=if CG z.pins p.ID=true then some (⟨13,[]⟩,wS z hs)else some (⟨0,vs⟩,wS (C9 { z with pins:=Ec p z.pins } ⟨o.Keys,ss⟩ o.Client.toNat) hs):=λhs=>by
   have h0:=ho.c0;have h4:=ho.c4;unfold lH;show((zM z.pins _).bind _)=_;rw[wrap64 ayT ayT];have e:=Sm h.ps ayT p;rw[avj (show ¬p.ID<1 by show ¬o.Client+1<1;omega)]at e;cases hq:CG z.pins p.ID with
   | true=>
    rw[hq,avk rfl]at e;rw[e];rfl
   | false=>
    rw[hq,avj ayW,avj ayT]at e;rw[e];show((gI vs).bind λa=>some (a,C9 (wS { z with pins:=Ec p z.pins } hs) ⟨o.Keys,ss⟩ o.Client.toNat))=_;rw[afy];rfl
  cases RH:CG z.pins p.ID with
  | true=>
   refine Step.told h 13 (λq=>ayT) λhs hh=>?_;show fh (wS z hs) o=_;rw[hX hs hh,hpk,RH];rfl
  | false=>
   let ze:aD:={ z with pins:=Ec p z.pins }
   let z':=C9 ze ⟨o.Keys,ss⟩ o.Client.toNat
   have hbe:∀c,cr ze c=cr z c:=λc=>aza;have ab0:∀c,bA ze c=bA z c:=λc=>aze;obtain⟨p1,p2,p3,p4,p5,p6,p7⟩:=VD ze ⟨o.Keys,ss⟩ o.Client.toNat;have hgb:∀c,c<4->cr z' c=if c=o.Client.toNat then⟨o.Keys,ss⟩else cr z c:=λc hc'=>by
    show cr (C9 ze _ _) c=_;rw[Yb _ _ hc hc',hbe]
   have hnone:=Kl RH;have hvs:∀v,v∈vs->GV t v:=λv hv=>by
    obtain⟨k,h1,rfl⟩:=avT.1 hv;exact(hRg k (awc.1 h1).2).1
   have Yl:R8 t p:=⟨by show 1<=o.Client+1;have:=ho.c0;omega,by show o.Client+1<=4;have:=ho.c4;omega,awa (hlen _).1 hkl,λd hd=>by
    obtain⟨k,h1,rfl⟩:=avT.1 hd;obtain⟨h2,h3⟩:=awc.1 h1;have:=(hRg k h3).1
    exact⟨hkey k h2,this.st,this.le⟩⟩
   have Gc:∀hs,mF t hs z->mF (t+1) hs z':=λhs hh=>by
    refine⟨by rw[hh.len];exact p2.symm,λi x hx=>⟨(hh.good i x hx).1.mono<|avD t,(hh.good i x hx).2⟩,λi x w hx hw=>hh.rel i x w hx (by rw[<-p3];exact hw),λc hc' q hq hid i k d hk' hd=>?_⟩;rw[hgb c hc']at hk' ⊢;have hq':q∈Ec p z.pins:=by rw[<-show z'.pins=Ec p z.pins from p5];exact hq
    by_cases e:c=o.Client.toNat
    ·rw[avk e]at hk' ⊢
     have hqp:q=p:=by
      rcases CJ.1 hq' with q1 | q1
      ·exact q1
      ·exact absurd (show q.ID=p.ID by rw[hid,e];show _=o.Client+1;have:=ho.c0;omega) (hnone q q1)
     rw[hqp]at hd;obtain⟨r1,r2⟩:=Uf hd;obtain⟨x,hx,_⟩:=hh.at (hf k);obtain⟨w,hw,eR⟩:=hR k r1;have hr:=(hh.rel _ x w hx hw).read k
     rw[eR]at r1;have r3:=C1 (hh.good _ x hx).1 (k:=k) (by rw[hr];exact r1)
     refine⟨(f k:Int),x,(R k).1,?_,by rw[avp];exact hx,?_,by rw[r2]⟩
     ·show(o.Keys.map λk=>(f k:Int))[i]? =_
      simp only at hk';rw[avL,hk'];rfl
     ·rw[eR,<-hr];exact r3.2.2
    ·rw[avj e]at hk' ⊢
     have hqz:q∈z.pins:=by
      rcases CJ.1 hq' with q1 | q1
      ·exact absurd hid (by rw[q1];show ¬o.Client+1=_;have:=ho.c0;omega)
      ·exact q1
     exact hh.ph c hc' q hqz hid i k d hk' hd
   refine⟨⟨0,vs⟩,z',id,p3,λhs hh=>⟨?_,Gc hs hh⟩,?_,⟨λv hv=>(hvs v hv).mono<|avD t,awa (hlen _).2 hkl,λc hc'=>?_,λq=>ayT,p2,λq=>ayT⟩⟩
   ·show fh (wS z hs) o=_
    rw[hX hs hh,hpk,RH];rfl
   ·refine⟨by rw[show z'.row=z.row from p1,p2];exact h.row,by rw[p4];exact h.bh.mono ayT λ_=>PD.mono<|avD t,by rw[p4,p2];exact h.KQ,λc hc'=>?_,λc hc'=>?_,by rw[p5];exact IC h.ps hnone,λq hq=>?_,by rw[p6];have:=h.hl;show z.bg.length<=_;omega,λe he=>?_,h.zi.xo p1 p3 p4,by rw[show z'.sites=z.sites from p3];exact Gc _ h.self⟩
    ·rw[p7,ab0,p2];exact(h.JD c hc').mono (avD t)
    ·rw[hgb c hc',p2]
     split
     ·refine⟨by simp[ss],hkl,hkey,λs hs=>?_⟩
      obtain⟨k,_,rfl⟩:=avT.1 hs;exact⟨ayT,by have:=hf k;show(f k:Int)<z.n;omega⟩
     ·exact h.M8 c hc'
    ·rw[p5]at hq
     rcases CJ.1 hq with rfl | q1
     ·exact Yl.mono (avD t)
     ·exact(h.Vy q q1).mono (avD t)
    ·rw[p6]at he
     exact(h.HJ e he).xo λc _ k=>by rw[p7,ab0];exact dG _
   ·rw[hgb c hc']
    by_cases e:c=o.Client.toNat
    ·rw[avk e,avk ⟨hk,U,e⟩]
    ·rw[avj e,avj λq=>e q.2.2]
theorem KU{s:ai}(h:dh s=true):zb ⟨0,0⟩ s/\¬s.N=0:=by
 have:=fN.1 h;refine⟨?_,ayT⟩;unfold zb bM;simp;omega
theorem YB(s:ai):fq s s=s:=by unfold fq;split<;>rfl
theorem YC{s:ai}(h:zb ⟨0,0⟩ s):fq ⟨0,0⟩ s=s:=Gk (by
 unfold fq;split
 ·exact dG s
 ·exact h) (yz _ _)
theorem F9{s:ai}:∀{l:List ai},(∀x,x∈l->x=s)->l.foldl fq s=s
 | [],_=>rfl
 | a::l,h=>by
  rw[awS,h a ayW,YB];exact F9 λx hx=>h x (by simp[hx])
theorem OV{s:ai}(h0:zb ⟨0,0⟩ s){l:List ai}(hne:l≠[])(h:∀x,x∈l->x=s):l.foldl fq ⟨0,0⟩=s:=by
 cases l with
 | nil=>exact absurd U hne
 | cons a l=>
  rw[awS,h a ayW,YC h0];exact F9 λx hx=>h x (by simp[hx])
def Ea(p:aH)(k:ByteArray):Option ah:=p.nR.find? λd=>decide (d.Key=k)
def uo(p:aH)(k:ByteArray):ai:=match Ea p k with
 | some d=>d.aq
 | none=>⟨0,0⟩
open Classical in
noncomputable def ua(z:aD)(s:ai):aa:=if h:∃v,Jl z v/\v.aq=s then h.choose else Z0
theorem RE(h:ZI z)(hv:Jl z v):ua z v.aq=v:=by
 unfold ua;have hex:∃w,Jl z w/\w.aq=v.aq:=⟨v,hv,U⟩;rw[dif_pos hex];exact h.unq _ _ hex.choose_spec.1 hv hex.choose_spec.2
theorem GC.Q6(h:GC n k l){w:aa}(hv:v∈l)(hw:w∈l)(e:v.aq=w.aq):v=w:=by
 obtain⟨i,hi,rfl⟩:=avO hv;obtain⟨j,hj,rfl⟩:=avO hw;rcases Nat.lt_trichotomy i j with q | q | q
 ·have:=awu.1 h.sorted i j hi hj q
  rw[e,fF]at this;cases this
 ·subst q;rfl
 ·have:=awu.1 h.sorted j i hj hi q
  rw[e,fF]at this;cases this
theorem Zm(a b:ai):(decide (a.N=b.N)&&decide (a.Site=b.Site))=decide (a=b):=by
 cases a;cases b;simp
theorem XX{p:α->Bool}{s:List α}(hi:i<s.length)(h1:p s[i] =true)(h2:∀j(hj:j<s.length),j<i->p s[j] =false):s.find? p=some s[i]:=by
 rw[List.find?_eq_some_iff_getElem];exact⟨h1,i,hi,U,λj hj=>by rw[h2 j ayT hj];rfl⟩
structure Held(t:Nat)(z:aD)(p:aH)(k:ByteArray)(d:ah):Prop where
 key:d.Key=k
 st:dh d.aq=true
 ins:Jl z (ua z d.aq)
 gv:GV t (ua z d.aq)
 vk:(ua z d.aq).Key=k
 vs:(ua z d.aq).aq=d.aq
theorem Wu(h:GI t z)(ht:t<=1000){c:Nat}(hc:c<4){p:aH}(hp:p∈z.pins)(hid:p.ID=(c:Int)+1)(hk:(cr z c).keys[i]? =some k)(ha:(cr z c).sites[i]? =some a):
  (∀d,Ea p k=some d->Held t z p k d)/\∀hs,mF t hs z->∀ps,vS { wS z hs with pins:=ps } p k a=some (if(Ea p k).isSome then ua z (uo p k)else Z0,uo p k,true):=by
 have Yl:=h.Vy p hp;have Yf:=h.M8 c hc;obtain⟨a0,a1⟩:=Yf.site a (avH ha);have UU:∀d,Ea p k=some d->d∈p.nR/\d.Key=k:=λd hd=>⟨ayA hd,by
  have h1:p.nR.find? (λd=>decide (d.Key=k))=some d:=hd;have:=List.find?_some h1;exact awf this⟩
 have hH:∀d,Ea p k=some d->Held t z p k d/\∀hs,mF t hs z->∃x,hs[a.toNat]? =some x/\GS t x/\ua z d.aq∈aQ x.aO k:=λd hd=>by
  have main:∀hs,mF t hs z->∃x v,hs[a.toNat]? =some x/\GS t x/\v∈aQ x.aO k/\v.aq=d.aq/\Jl z v:=λhs hh=>by
   obtain⟨a',x,v,q1,q2,q3,q4⟩:=hh.ph c hc p hp hid i k d hk hd;rw[ha]at q1;cases q1;have hlt:a.toNat<z.n:=by omega
   obtain⟨y,hy,_⟩:=h.self.at hlt;exact⟨x,v,q2,(hh.good _ x q2).1,q3,q4,.inl ⟨_,y,hy,.inl ⟨k,((hh.rel _ x y q2 hy).sh.ch k).sub v q3⟩⟩⟩
  obtain⟨x,v,q1,q2,q3,q4,q5⟩:=main z.sites h.self;have hv:=RE h.zi q5;rw[q4]at hv;have hg:=(q2.sh.chain k).good v q3
  obtain⟨h1,h2⟩:=UU d hd;refine⟨⟨h2,(Yl.dep d h1).2.1,by rw[hv];exact q5,by rw[hv];exact hg.1,by rw[hv];exact hg.2,by rw[hv];exact q4⟩,λhs hh=>?_⟩;obtain⟨x',v',r1,r2,r3,r4,r5⟩:=main hs hh;have hv':=RE h.zi r5;rw[r4]at hv';exact⟨x',r1,r2,by rw[hv'];exact r3⟩
 refine⟨λd hd=>(hH d hd).1,λhs hh ps=>?_⟩;unfold vS;rw[jB (p:=λd=>decide (d.Key=k)) (λd _=>by unfold lD;rw[seq_eq]) (by have:=Yl.len;omega),avi];rcases gQ (λd:ah=>decide (d.Key=k)) p.nR with⟨j,hj,e1,e2,e3⟩ | ⟨e1,e2⟩
 ·have hd:Ea p k=some p.nR[j]:=XX hj e1 e2
  obtain⟨g1,g2⟩:=hH _ hd;obtain⟨x,hx,gx,hmem⟩:=g2 hs hh;rw[e3,avj ayW,bp hj,avi];show((idx (List.range z.n) a).bind _)=_;rw[fo a0 a1,avi];show((mo hs a.toNat k).bind _)=_;unfold mo;rw[hx,avi,EM gx ayT,avi];have hcl:=(gx.sh.chain k).len
  rw[eG (p:=λv=>decide (v.aq=p.nR[j].aq)) (λv _=>by
   unfold lG;rw[Zm]) ayT,avi]
  have hst:uo p k=p.nR[j].aq:=by unfold uo;rw[hd]
  rw[hst,hd];rcases gQ (λv:aa=>decide (v.aq=p.nR[j].aq)) (aQ x.aO k)with⟨m,hm,f1,_,f3⟩ | ⟨f1,_⟩
  ·rw[f3,avj ayW,bp hm]
   simp only[avi,Option.isSome_some,avM];have:(aQ x.aO k)[m] =ua z p.nR[j].aq:=(gx.sh.chain k).Q6 (avu hm) hmem ((awf f1).trans g1.vs.symm)
   rw[this]
  ·have:=f1 _ hmem
   rw[avP g1.vs]at this;cases this
 ·have hd:Ea p k=none:=by
   unfold Ea;rw[List.find?_eq_none];intro d hd;have:=e1 d hd;simpa using this
  have hst:uo p k=⟨0,0⟩:=by unfold uo;rw[hd]
  rw[e2,avk ayW,hst,hd];rfl
end Go.Ark
