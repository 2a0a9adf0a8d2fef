/- Machine, typed functions, plain laws and walks, part 20, for TopCleans. Conditions: none but those that stand in each law. -/
import Derived.Test.YtgjndeeaafimiaaGreatD18
set_option linter.all false
open Go.Proofs.Tryz
namespace Go.Ark
open Go Go.Ab Go.RowKit Go.Proofs
theorem Cl(bC:List aH)(r:List ah)(hF:wz bC=some r):Ct prog 102 [bt 2 aS bC] (fu 3 ak r):=HP.Cl bC r hF
instance(bC:List aH):dW prog (wz bC) 102 [bt 2 aS bC] (λr=>fu 3 ak r):=⟨Cl bC⟩
def HC(_:dm)(k:Int):Option Unit:=if(Df k).isSome then some ()else none
abbrev fnV(A:dm)(n:Nat):Value:=.func (.func n) #[.pointer (some ⟨A.b,0,none⟩)] #[]
set_option maxHeartbeats 4000000 in
theorem OC(A:dm)(k:Int)(r:Unit)(hF:HC A k=some r):Ct prog 33 [bZ A.b,bV k] (.one (.d (.v (fnV A ((Df k).getD 0))))):=by
 refine Ct.iB (R:=Unit) (res:=λ_=>.one<|.d<|.v<|fnV A<|(Df k).getD 0) func33 U ntmps33 U U hF λC0=>?_;by_cases h1:k=1
 ·subst h1;exact GF.eq (F':=some ()) U wk
 by_cases h2:k=2
 ·subst h2;exact GF.eq (F':=some ()) U wk
 by_cases h3:k=3
 ·subst h3;exact GF.eq (F':=some ()) U wk
 by_cases h4:k=4
 ·subst h4;exact GF.eq (F':=some ()) U wk
 by_cases h5:k=5
 ·subst h5;exact GF.eq (F':=some ()) U wk
 by_cases h6:k=6
 ·subst h6;exact GF.eq (F':=some ()) U wk
 by_cases h7:k=7
 ·subst h7;exact GF.eq (F':=some ()) U wk
 by_cases h8:k=8
 ·subst h8;exact GF.eq (F':=some ()) U wk
 by_cases h9:k=9
 ·subst h9;exact GF.eq (F':=some ()) U wk
 by_cases h10:k=10
 ·subst h10;exact GF.eq (F':=some ()) U wk
 by_cases h11:k=11
 ·subst h11;exact GF.eq (F':=some ()) U wk
 by_cases h12:k=12
 ·subst h12;exact GF.eq (F':=some ()) U wk
 simp[HC,Df,h1,h2,h3,h4,h5,h6,h7,h8,h9,h10,h11,h12]at hF
set_option maxHeartbeats 4000000 in
theorem OB(A:dm)(k:Int)(r:Unit)(hF:DA k=some r):Ct prog 33 [bZ A.b,bV k] (.one (.d (.v .nilFunc))):=by
 refine Ct.iB (R:=Unit) (res:=λ_=>.one<|.d<|.v .nilFunc) func33 U ntmps33 U U hF λC0=>?_;unfold DA;exact wk
set_option maxHeartbeats 4000000 in
instance(g:aD)(o_:aI):mU prog (mJ g o_) 59 (λA:dm=>eY A g) (λ(A:dm)(_:Unit)(r:aA×aD)=>eY A r.2) (λA=>[bZ A.b,.g (.agg (bQ o_))]) (λ_ r=>.one (.agg (aU r.1))):=Gn func59 U ntmps59 (λ_=>rfl) (λ_=>rfl) (λ_=>oM) (λ_ _ _=>oM) λA r C0=>by
 refine GF.yZ 1000 U (λ_=>oM) λhv=>?_;have:bT (xD g) (λv=>⟨[(0,.one (pt A.b 0)),(4,.one (.ptr 104 0)),(5,.one (.ptr 105 0)),(20,.one (.g<|.d<|.sl 1<|(List.range g.n).map λi=>[pv (A.st i).1])),(21,aV ((List.range g.n).length)),(22,aV v.1)],[kO (kF A g hv),(104,some (.blk 49<|dat<|aU ⟨0,[]⟩)),(105,some (.blk 53<|dat<|aB v.2))]⟩):=⟨ayS⟩;have:=λleast=>(⟨ayS⟩:bT (oG g least) (λv=>⟨[(0,.one (pt A.b 0)),(4,.one (.ptr 104 0)),(5,.one (.ptr 105 0)),(36,.one (.g<|.d<|.sl 1<|(List.range g.n).map λi=>[pv (A.st i).1])),(37,aV ((List.range g.n).length)),(38,aV v.1)],[kO (kF A { g with sites:=v.2 } hv),(104,some (.blk 49<|dat<|aU ⟨0,[]⟩)),(105,some (.blk 53<|dat<|aB least))]⟩));unfold mJ;exact wk
end Go.Ark
