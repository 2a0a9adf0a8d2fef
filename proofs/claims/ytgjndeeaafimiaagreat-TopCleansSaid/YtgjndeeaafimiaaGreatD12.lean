/- Machine, typed functions, plain laws and walks, part 12, for TopCleans. Conditions: none but those that stand in each law. -/
import Derived.Test.YtgjndeeaafimiaaGreatD11
set_option linter.all false
open Go.Proofs.Tryz
namespace Go.Ark
open Go Go.Ab Go.RowKit Go.Lib Go.Proofs
set_option maxRecDepth 20000
set_option maxHeartbeats 2000000
set_option maxRecDepth 100000
abbrev iV(i:Int):DV:=.v (.int .i64 i)
abbrev opC(o:aI)(v:DV):List DV:=[iV o.Kind,iV o.Client,iV o.Site,iV o.To,iV o.At,iV o.How,.v (.string o.Key),.v (.string o.Value),v,nV,nV,nV]
abbrev opZ:aI:=⟨0,0,0,0,0,0,ByteArray.empty,ByteArray.empty,[],⟨[],[],[]⟩⟩
instance:EZ prog 36 (opC opZ nV):=⟨_,_,_,Ql,⟨.v _ U,.v _ U,.v _ U,.v _ U,.v _ U,.v _ U,.v _ U,.v _ U,.v _ U,.v _ U,.v _ U,.v _ U,ayS⟩,U⟩
abbrev opB(a:js)(x:Int)(k:ByteArray)(l:List ByteArray):aI:=⟨x,(IntKind.wrap .i64 (BitVec.ofInt (IntKind.bits .i64) a.Client&&& BitVec.ofInt (IntKind.bits .i64) 3).toNat),(Int.tmod (IntKind.wrap .i64 ((Int.tmod a.Site 5)+5)) 5),(Int.tmod (IntKind.wrap .i64 ((Int.tmod a.To 5)+5)) 5),(IntKind.wrap .i64 (BitVec.ofInt (IntKind.bits .i64) a.At&&& BitVec.ofInt (IntKind.bits .i64) 7).toNat),a.How,k,(bytesOf [IntKind.wrap .u8 (IntKind.wrap .i64 (112+(IntKind.wrap .i64 (BitVec.ofInt (IntKind.bits .i64) a.Value&&& BitVec.ofInt (IntKind.bits .i64) 7).toNat)))]),l,⟨[],[],[]⟩⟩
abbrev opT(a:js)(n:Int)(b:Nat)(sl:SL)(Φ:OP):St:=⟨iS 1 n::(2,.one (.ptr 102 0))::(4,.one (.ptr 104 0))::(6,.one (pt b 0))::sl,[kO Φ,(102,some (.blk 92 (dat (F3 a)))),(104,some (.blk 36 (dat (bQ opZ))))]⟩
abbrev opO(b:Nat)(o:aI):OP:=qA λv=>Sep (Sep tH (eu b 36 (opC o (.v v)))) (Row v 9 1 (List.map encS o.Keys))
set_option maxHeartbeats 4000000 in
instance(a:js)(n:Int):dW prog (qb a n) 30 [.g (.agg (F3 a)),bV n] (λr=>.one (.agg (bQ r))):=fV func30 U ntmps30 U U λr C0=>by
 refine GF.pre (λa w q=>q.D5 1000 U U) ?_;unfold qb
 repeat' (first
  | (show GO _ _ _ _ _ _ (⟨some 6,.alloc _,_,_,_,_⟩::_) _ _;refine iK 1000 U zR U U ayX λb=>?_;have:=λx k=>(⟨ayS⟩:bT (nO a n x k) (λu=>opT a n b [iS 7 u.1]<|opO b<|opB a x k u.2));have:=λx k l=>(⟨λC0 a' w h=>(h.vs 1000 U (VS.same λ_ _ _ h=>⟨(),_,Lx ayZ h⟩) oM).cv ⟨U,U,U,U,U,ayS⟩ ⟨U,U,U,ayS⟩ U⟩:EX (aR (nO a n x k) FU (0,l)) (opT a n b [iS 7 0]<|Sep tH<|eu b 36<|opC (opB a x k []) nV) (opT a n b [iS 7 0]<|opO b<|opB a x k []));have:=λx k l y=>(⟨λC0 a' w h=>by obtain⟨v,h⟩:=h.yZ 1000 U λ_=>oM;exact(h.vs 1000 U (VS.trans (VS.aew 8 oM U)<|VS.trans (VS.aau (n:=2) 9 U)<|VS.trans (VS.aau (n:=1) 10 U)<|VS.aau (n:=1) 11 U) oM).cv ⟨U,U,U,U,U,ayS⟩ ⟨U,U,U,ayS⟩ U⟩:EX (iH a n x k l y) (opT a n b [(73,.one (bB y))]<|opO b<|opB a x k l) (opT a n b [(73,.one (bB y))]<|Sep tH<|eu b 36<|bQ<|opB a x k l));skip)
  | (show SG (.build 36 _);refine jr U zR lI U U U ?_)
  | ((with_reducible show GO _ _ _ (nN _ _ _ _ _ _ false) _ _ _ _ _);refine GO.eq' (F':=nM a n _ _ _) U ?_)
  | refine Xf ?_
  | refine qG ?_
  | refine qF ?_
  | refine VI ?_
  | refine rJ ?_
  | refine rG ?_ ?_
  | refine Zi ?_ ?_
  | exact pq
  | intro _)
end Go.Ark
