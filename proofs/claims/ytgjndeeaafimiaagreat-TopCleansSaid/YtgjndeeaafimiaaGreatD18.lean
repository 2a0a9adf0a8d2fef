/- Machine, typed functions, plain laws and walks, part 18, for TopCleans. Conditions: none but those that stand in each law. -/
import Derived.Test.YtgjndeeaafimiaaGreatD17
set_option linter.all false
open Go.Proofs.Tryz
namespace Go.Ark
open Go Go.Ab Go.RowKit Go.Proofs
set_option maxHeartbeats 4000000 in
instance(g:aD)(o_:aI):mU prog (gp g o_) 50 (λA:dm=>eY A g) (λ(A:dm)(_:Unit)(r:aA×aD)=>eY A r.2) (λA=>[bZ A.b,.g (.agg (bQ o_))]) (λ_ r=>.one (.agg (aU r.1))):=Gn func50 U ntmps50 (λ_=>rfl) (λ_=>rfl) (λ_=>oM) (λ_ _ _=>oM) λA r C0=>by
 refine GF.yZ 1000 U (λ_=>oM) λhv=>?_;unfold gp;refine GF.nL λh=>?_;obtain⟨kind,cl,site,to,at_,how,key,value,keys,row⟩:=o_;rcases Kz h with h | h | h | h<;>(simp only at h;subst h;exact wk)
set_option maxHeartbeats 4000000 in
instance(g:aD)(o_:aI):mU prog (pO g o_) 56 (λA:dm=>eY A g) (λ(A:dm)(_:Unit)(r:aA×aD)=>eY A r.2) (λA=>[bZ A.b,.g (.agg (bQ o_))]) (λ_ r=>.one (.agg (aU r.1))):=Gn func56 U ntmps56 (λ_=>rfl) (λ_=>rfl) (λ_=>oM) (λ_ _ _=>oM) λA r C0=>by
 refine GF.yZ 1000 U (λ_=>oM) λhv=>?_;unfold pO;exact wk
set_option maxHeartbeats 4000000 in
theorem VT(A:dm)(hv:Value)(g:aD)(p:aH)(key:ByteArray)(at_:Int)(r:aa×ai×Bool)(hF:vS g p key at_=some r):fc prog (γ:=Unit) 88 (kF A g hv) (λ_=>kF A g hv) [bZ A.b,.g (.agg (aS p)),fP key,bV at_] (λ_=>.eV [.agg (aj r.1),.agg (aB r.2.1),.d (.v (.bool r.2.2))]):=by
 apply fc.iB func88 U ntmps88 U U oM hF λC0=>?_;unfold vS;exact wk
instance(g:aD)(p:aH)(key:ByteArray)(at_:Int):Z8 prog (vS g p key at_) 88 (λ(A:dm) v=>kF A g v) (λA=>[bZ A.b,.g (.agg (aS p)),fP key,bV at_]) (λr=>.eV [.agg (aj r.1),.agg (aB r.2.1),.d (.v (.bool r.2.2))]):=⟨λ_ v r h=>VT _ v g p key at_ r h⟩
end Go.Ark
