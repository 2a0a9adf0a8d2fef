/- Machine, typed functions, plain laws and walks, part 23, for TopCleans. Conditions: none but those that stand in each law. -/
import Derived.Test.YtgjndeeaafimiaaGreatD19
import Derived.Test.YtgjndeeaafimiaaGreatD20
import Derived.Test.YtgjndeeaafimiaaGreatD21
import Derived.Test.YtgjndeeaafimiaaGreatD22
set_option linter.all false
open Go.Proofs.Tryz
namespace Go.Ark
open Go Go.Ab Go.RowKit Go.Proofs
theorem Dp{p:Prop}(h:p:=by
 repeat' (first
  | (show SG (.call ⟨.value<|.tmp _,_,_⟩);first | refine pN 1000 U D2 cI U U U U U (λ_ _=>oM) U ayX λ_ _ _=>?_)
  | refine qG ?_
  | refine qF ?_
  | refine rJ ?_
  | refine rG ?_ ?_
  | exact pq
  | intro _)):p:=h
def vU(_:dm)(k:Int):Option Unit:=DA k
instance(A:dm)(k:Int):dW prog (vU A k) 33 [bZ A.b,bV k] (λ_=>.one (.d (.v .nilFunc))):=⟨λr h=>OB A k r h⟩
def HD(_:dm)(k:Int)(n:Nat):Option Unit:=if Df k=some n then some ()else none
instance(A:dm)(k:Int)(n:Nat):dW prog (HD A k n) 33 [bZ A.b,bV k] (λ_=>.one (.d (.v (fnV A n)))):=⟨λr h=>by
 unfold HD at h;split at h
 ·rename_i c
  have:=OC A k () (by simp[HC,c]);rw[c]at this;exact this
 ·cases h⟩
section
variable(A:dm)(g:aD)
abbrev BW(o:aI):Prop:=∀r,gR g o=some r->fc prog (γ:=Unit) 11 (eY A g) (λ_=>eY A r.2) [.g (.d (.v (.pointer (some ⟨A.b,0,none⟩)))),.g (.agg (bQ o))] (λ_=>.one (.agg (aU r.1)))
abbrev oC(o:aI)(k c:Int):aI:={ o with Kind:=k,Client:=c }
abbrev Eb(k:Int)(n:Nat)(Y:Option (aA×aD)):Option (aA×aD):=(HD A k n).bind λ_=>Y.bind λr=>some r
abbrev Jr(c:Nat)(Y:Option (aA×aD)):Option (aA×aD):=if decide ((bA g c).Site= -1)then told g 13 else Y
theorem Cu{A:dm}{g:aD}{o:aI}{F:Option (aA×aD)}{code:Code}{n:Nat}(e:gR g o=F)(hb:f11.body=some code)(hn:f11.ntmps=n)(hle:Nat.ble 2 n=true)
  (h:∀r(C0:Cx prog n),GF C0 (λr=>bodyPost prog f11<|BM C0 (λ_:Unit=>eY A r.2) λ_=>.one<|.agg<|aU r.1) r F [.c code] ⟨m7 0 [.g (.d<|.v<|.pointer<|some ⟨A.b,0,none⟩),.g (.agg<|bQ o)],[kO (eY A g)]⟩):BW A g o:=λr hF=>
 fc.iB (iz:=λr _=>eY A r.2) (res:=λr _=>.one<|.agg<|aU r.1) func11 hb hn (by exact hle) (by rfl) oM (e ▸ hF) (h r)
set_option maxHeartbeats 4000000 in
theorem Ug(o:aI):BW A g (oC o 1 0):=Cu (F:=Jr g 0 (Eb A 1 50 (gp g (oC o 1 0)))) U U ntmps11 U λ_ _=>Dp
set_option maxHeartbeats 4000000 in
theorem Uh(o:aI):BW A g (oC o 1 1):=Cu (F:=Jr g 1 (Eb A 1 50 (gp g (oC o 1 1)))) U U ntmps11 U λ_ _=>Dp
set_option maxHeartbeats 4000000 in
theorem Ui(o:aI):BW A g (oC o 1 2):=Cu (F:=Jr g 2 (Eb A 1 50 (gp g (oC o 1 2)))) U U ntmps11 U λ_ _=>Dp
set_option maxHeartbeats 4000000 in
theorem Uj(o:aI):BW A g (oC o 1 3):=Cu (F:=Jr g 3 (Eb A 1 50 (gp g (oC o 1 3)))) U U ntmps11 U λ_ _=>Dp
set_option maxHeartbeats 4000000 in
theorem Uk(o:aI):BW A g (oC o 2 0):=Cu (F:=Jr g 0 (Eb A 2 50 (gp g (oC o 2 0)))) U U ntmps11 U λ_ _=>Dp
set_option maxHeartbeats 4000000 in
theorem Ul(o:aI):BW A g (oC o 2 1):=Cu (F:=Jr g 1 (Eb A 2 50 (gp g (oC o 2 1)))) U U ntmps11 U λ_ _=>Dp
set_option maxHeartbeats 4000000 in
theorem Um(o:aI):BW A g (oC o 2 2):=Cu (F:=Jr g 2 (Eb A 2 50 (gp g (oC o 2 2)))) U U ntmps11 U λ_ _=>Dp
set_option maxHeartbeats 4000000 in
theorem Un(o:aI):BW A g (oC o 2 3):=Cu (F:=Jr g 3 (Eb A 2 50 (gp g (oC o 2 3)))) U U ntmps11 U λ_ _=>Dp
set_option maxHeartbeats 4000000 in
theorem Uo(o:aI):BW A g (oC o 3 0):=Cu (F:=Jr g 0 (Eb A 3 51 (kN g (oC o 3 0)))) U U ntmps11 U λ_ _=>Dp
set_option maxHeartbeats 4000000 in
theorem Up(o:aI):BW A g (oC o 3 1):=Cu (F:=Jr g 1 (Eb A 3 51 (kN g (oC o 3 1)))) U U ntmps11 U λ_ _=>Dp
set_option maxHeartbeats 4000000 in
theorem Uq(o:aI):BW A g (oC o 3 2):=Cu (F:=Jr g 2 (Eb A 3 51 (kN g (oC o 3 2)))) U U ntmps11 U λ_ _=>Dp
set_option maxHeartbeats 4000000 in
theorem Ur(o:aI):BW A g (oC o 3 3):=Cu (F:=Jr g 3 (Eb A 3 51 (kN g (oC o 3 3)))) U U ntmps11 U λ_ _=>Dp
set_option maxHeartbeats 4000000 in
theorem Us(o:aI):BW A g (oC o 4 0):=Cu (F:=Jr g 0 (Eb A 4 52 (jw g (oC o 4 0)))) U U ntmps11 U λ_ _=>Dp
set_option maxHeartbeats 4000000 in
theorem Ut(o:aI):BW A g (oC o 4 1):=Cu (F:=Jr g 1 (Eb A 4 52 (jw g (oC o 4 1)))) U U ntmps11 U λ_ _=>Dp
set_option maxHeartbeats 4000000 in
theorem Uu(o:aI):BW A g (oC o 4 2):=Cu (F:=Jr g 2 (Eb A 4 52 (jw g (oC o 4 2)))) U U ntmps11 U λ_ _=>Dp
set_option maxHeartbeats 4000000 in
theorem Uv(o:aI):BW A g (oC o 4 3):=Cu (F:=Jr g 3 (Eb A 4 52 (jw g (oC o 4 3)))) U U ntmps11 U λ_ _=>Dp
set_option maxHeartbeats 4000000 in
theorem Uw(o:aI):BW A g (oC o 5 0):=Cu (F:=Eb A 5 53 (fk g (oC o 5 0))) U U ntmps11 U λ_ _=>Dp
set_option maxHeartbeats 4000000 in
theorem Ux(o:aI):BW A g (oC o 5 1):=Cu (F:=Eb A 5 53 (fk g (oC o 5 1))) U U ntmps11 U λ_ _=>Dp
set_option maxHeartbeats 4000000 in
theorem Uy(o:aI):BW A g (oC o 5 2):=Cu (F:=Eb A 5 53 (fk g (oC o 5 2))) U U ntmps11 U λ_ _=>Dp
set_option maxHeartbeats 4000000 in
theorem Uz(o:aI):BW A g (oC o 5 3):=Cu (F:=Eb A 5 53 (fk g (oC o 5 3))) U U ntmps11 U λ_ _=>Dp
set_option maxHeartbeats 4000000 in
theorem UA(o:aI):BW A g (oC o 6 0):=Cu (F:=Jr g 0 (Eb A 6 54 (fh g (oC o 6 0)))) U U ntmps11 U λ_ _=>Dp
set_option maxHeartbeats 4000000 in
theorem UB(o:aI):BW A g (oC o 6 1):=Cu (F:=Jr g 1 (Eb A 6 54 (fh g (oC o 6 1)))) U U ntmps11 U λ_ _=>Dp
set_option maxHeartbeats 4000000 in
theorem UC(o:aI):BW A g (oC o 6 2):=Cu (F:=Jr g 2 (Eb A 6 54 (fh g (oC o 6 2)))) U U ntmps11 U λ_ _=>Dp
set_option maxHeartbeats 4000000 in
theorem UD(o:aI):BW A g (oC o 6 3):=Cu (F:=Jr g 3 (Eb A 6 54 (fh g (oC o 6 3)))) U U ntmps11 U λ_ _=>Dp
set_option maxHeartbeats 4000000 in
theorem UE(o:aI):BW A g (oC o 7 0):=Cu (F:=Jr g 0 (Eb A 7 55 (jP g (oC o 7 0)))) U U ntmps11 U λ_ _=>Dp
set_option maxHeartbeats 4000000 in
theorem UF(o:aI):BW A g (oC o 7 1):=Cu (F:=Jr g 1 (Eb A 7 55 (jP g (oC o 7 1)))) U U ntmps11 U λ_ _=>Dp
set_option maxHeartbeats 4000000 in
theorem UG(o:aI):BW A g (oC o 7 2):=Cu (F:=Jr g 2 (Eb A 7 55 (jP g (oC o 7 2)))) U U ntmps11 U λ_ _=>Dp
set_option maxHeartbeats 4000000 in
theorem UH(o:aI):BW A g (oC o 7 3):=Cu (F:=Jr g 3 (Eb A 7 55 (jP g (oC o 7 3)))) U U ntmps11 U λ_ _=>Dp
set_option maxHeartbeats 4000000 in
theorem abz(o:aI):BW A g (oC o 8 o.Client):=Cu (F:=Eb A 8 56 (pO g (oC o 8 o.Client))) U U ntmps11 U λ_ _=>Dp
set_option maxHeartbeats 4000000 in
theorem abA(o:aI):BW A g (oC o 9 o.Client):=Cu (F:=Eb A 9 57 (uT g (oC o 9 o.Client))) U U ntmps11 U λ_ _=>Dp
set_option maxHeartbeats 4000000 in
theorem X8(o:aI):BW A g (oC o 10 o.Client):=Cu (F:=Eb A 10 58 (iE g (oC o 10 o.Client))) U U ntmps11 U λ_ _=>Dp
set_option maxHeartbeats 4000000 in
theorem X9(o:aI):BW A g (oC o 11 o.Client):=Cu (F:=Eb A 11 59 (mJ g (oC o 11 o.Client))) U U ntmps11 U λ_ _=>Dp
set_option maxHeartbeats 4000000 in
theorem Ya(o:aI):BW A g (oC o 12 o.Client):=Cu (F:=Eb A 12 60 (ni g (oC o 12 o.Client))) U U ntmps11 U λ_ _=>Dp
set_option maxHeartbeats 4000000 in
theorem abB(o:aI)(hk:decide (1<=o.Kind)&&decide (o.Kind<=7))(hc:o.Client<0\/4<=o.Client):BW A g (o):=Cu (F:=if decide (1<=o.Kind)then if decide (o.Kind<=7)then if decide (o.Client<0)then told g 1 else if decide (4<=o.Client)then told g 1 else none else none else none) (by
  obtain⟨h3,h4⟩:=by simpa using hk
  by_cases h1:o.Client<0
  ·simp[gR,h1,h3,h4]
  ·have h2:4<=o.Client:=by omega
   simp[gR,h1,h2,h3,h4]) rfl ntmps11 rfl λ_ _=>Dp
set_option maxHeartbeats 4000000 in
theorem abC(o:aI)(hk:o.Kind<1\/12<o.Kind):BW A g o:=by
 have hs:Df o.Kind=none:=by
  unfold Df
  repeat(first | rw[avj ayT] | rfl)
 have h0:vU A o.Kind=some ():=by
  unfold vU DA
  repeat(first | rw[avj ayV] | rfl)
 exact Cu (F:=if decide (1<=o.Kind)then(if decide (o.Kind<=7)then none else(vU A o.Kind).bind λ_=>told g 1)else(vU A o.Kind).bind λ_=>told g 1) (by
  rw[h0];by_cases h1:1<=o.Kind
  ·have h2:¬o.Kind<=7:=by omega
   simp[gR,fR,h1,h2,hs]
  ·simp[gR,fR,h1,hs]) U ntmps11 U λ_ _=>Dp
set_option maxHeartbeats 4000000 in
theorem UI(o:aI):BW A g o:=by
 by_cases hk:o.Kind<1\/12<o.Kind
 ·exact abC A g o hk
 ·by_cases hx:o.Kind<=7/\(o.Client<0\/4<=o.Client)
  ·exact abB A g o ayV hx.2
  ·obtain⟨k,cl,site,to,at_,how,key,value,keys,row⟩:=o
   simp only at hk hx;have h8:k=8\/k=9\/k=10\/k=11\/k=12\/(k<=7/\(cl=0\/cl=1\/cl=2\/cl=3)):=by omega
   rcases h8 with rfl | rfl | rfl | rfl | rfl | ⟨h7,h8⟩
   ·exact abz A g ⟨0,cl,site,to,at_,how,key,value,keys,row⟩
   ·exact abA A g ⟨0,cl,site,to,at_,how,key,value,keys,row⟩
   ·exact X8 A g ⟨0,cl,site,to,at_,how,key,value,keys,row⟩
   ·exact X9 A g ⟨0,cl,site,to,at_,how,key,value,keys,row⟩
   ·exact Ya A g ⟨0,cl,site,to,at_,how,key,value,keys,row⟩
   have h1:k=1\/k=2\/k=3\/k=4\/k=5\/k=6\/k=7:=by omega
   rcases h1 with rfl | rfl | rfl | rfl | rfl | rfl | rfl<;>rcases h8 with rfl | rfl | rfl | rfl
   ·exact Ug A g ⟨0,0,site,to,at_,how,key,value,keys,row⟩
   ·exact Uh A g ⟨0,0,site,to,at_,how,key,value,keys,row⟩
   ·exact Ui A g ⟨0,0,site,to,at_,how,key,value,keys,row⟩
   ·exact Uj A g ⟨0,0,site,to,at_,how,key,value,keys,row⟩
   ·exact Uk A g ⟨0,0,site,to,at_,how,key,value,keys,row⟩
   ·exact Ul A g ⟨0,0,site,to,at_,how,key,value,keys,row⟩
   ·exact Um A g ⟨0,0,site,to,at_,how,key,value,keys,row⟩
   ·exact Un A g ⟨0,0,site,to,at_,how,key,value,keys,row⟩
   ·exact Uo A g ⟨0,0,site,to,at_,how,key,value,keys,row⟩
   ·exact Up A g ⟨0,0,site,to,at_,how,key,value,keys,row⟩
   ·exact Uq A g ⟨0,0,site,to,at_,how,key,value,keys,row⟩
   ·exact Ur A g ⟨0,0,site,to,at_,how,key,value,keys,row⟩
   ·exact Us A g ⟨0,0,site,to,at_,how,key,value,keys,row⟩
   ·exact Ut A g ⟨0,0,site,to,at_,how,key,value,keys,row⟩
   ·exact Uu A g ⟨0,0,site,to,at_,how,key,value,keys,row⟩
   ·exact Uv A g ⟨0,0,site,to,at_,how,key,value,keys,row⟩
   ·exact Uw A g ⟨0,0,site,to,at_,how,key,value,keys,row⟩
   ·exact Ux A g ⟨0,0,site,to,at_,how,key,value,keys,row⟩
   ·exact Uy A g ⟨0,0,site,to,at_,how,key,value,keys,row⟩
   ·exact Uz A g ⟨0,0,site,to,at_,how,key,value,keys,row⟩
   ·exact UA A g ⟨0,0,site,to,at_,how,key,value,keys,row⟩
   ·exact UB A g ⟨0,0,site,to,at_,how,key,value,keys,row⟩
   ·exact UC A g ⟨0,0,site,to,at_,how,key,value,keys,row⟩
   ·exact UD A g ⟨0,0,site,to,at_,how,key,value,keys,row⟩
   ·exact UE A g ⟨0,0,site,to,at_,how,key,value,keys,row⟩
   ·exact UF A g ⟨0,0,site,to,at_,how,key,value,keys,row⟩
   ·exact UG A g ⟨0,0,site,to,at_,how,key,value,keys,row⟩
   ·exact UH A g ⟨0,0,site,to,at_,how,key,value,keys,row⟩
end
instance(g:aD)(o:aI):mU prog (gR g o) 11 (λA:dm=>eY A g) (λ(A:dm)(_:Unit)(r:aA×aD)=>eY A r.2) (λA=>[bZ A.b,.g (.agg (bQ o))]) (λ_ r=>.one (.agg (aU r.1))):=⟨λA r h=>UI A g o r h,λ_ _ _=>oM,⟨()⟩⟩
end Go.Ark
