/- Machine, typed functions, plain laws and walks, part 10, for TopCleans. Conditions: none but those that stand in each law. -/
import Derived.Test.YtgjndeeaafimiaaGreatD9
set_option linter.all false
open Go.Proofs.Tryz
namespace Go.Ark
open Go Go.Ab Go.RowKit Go.Lib Go.Proofs
set_option maxRecDepth 20000
set_option maxHeartbeats 2000000
set_option maxRecDepth 100000
abbrev nV:DV:=.v (.slice none 0 0)
instance:EZ prog 29 [nV,nV,nV]:=⟨_,_,_,SW,⟨.v _ U,.v _ U,.v _ U,ayS⟩,U⟩
abbrev Wk(q:cg)(b:Nat)(sl:SL)(Φ:OP):St:=⟨(2,.one (.ptr 102 0))::(4,.one (.ptr 104 0))::(5,.one (pt b 0))::sl,[kO Φ,(102,some (.blk 74 (dat (Ep q)))),(104,some (.blk 29 (dat (bf ⟨[],[],[]⟩))))]⟩
abbrev spO{α:Type}(b:Nat)(e:α->List DV)(n T:Nat)(l:List α)(c:Value->List DV):OP:=qA λv=>Sep (Sep tH (eu b 29 (c v))) (Row v T n (List.map e l))
abbrev spP(b:Nat)(l:List Int):OP:=qA λv=>Sep (Sep tH (Row v 3 1 (List.map ay l))) (eu b 29 [nV,nV,.v v])
abbrev iS(k:Nat)(i:Int):Nat×SV:=(k,aV i)
set_option maxHeartbeats 4000000 in
instance(q:cg)(n:Int):dW prog (fO q n) 22 [.g (.agg (Ep q)),bV n] (λr=>.one (.agg (bf r))):=fV func22 U ntmps22 U U λr C0=>by
 refine GF.pre (λa w q=>q.D5 1000 U U) ?_;unfold fO
 repeat' (first
  | (show GO _ _ _ _ _ _ (⟨some 5,.alloc _,_,_,_,_⟩::_) _ _;refine iK 1000 U zR U U ayX λb=>?_;have:bT (ic q n) (λx=>Wk q b [iS 1 n,iS 6 x.1]<|spP b x.2):=⟨ayS⟩;have:bT (ia q n) (λx=>Wk q b [iS 1 n,iS 7 x.1]<|spP b x.2):=⟨ayS⟩;have:=λy=>(⟨ayS⟩:bT (qf q y) (λx=>Wk q b [(9,.one (bS x.1)),iS 10 x.2.1]<|spO b az 2 68 x.2.2 λv=>[.v v,nV,.sl 1 (List.map ay y)]));have:=λy l=>(⟨ayS⟩:bT (kU q y l) (λx=>Wk q b [iS 12 x.1,iS 13 x.2]<|spO b az 2 68 l λv=>[.v v,nV,.sl 1 (List.map ay y)]));have:=λy l i=>(⟨ayS⟩:bT (qd q y l i) (λx=>Wk q b [iS 12 i,iS 14 x.1]<|spO b ay 1 3 x.2 λv=>[.sl 2 (List.map az l),.v v,.sl 1 (List.map ay y)]));have:=λy=>(⟨λC0 a w h=>by obtain⟨v,h⟩:=h.yZ 1000 U λ_=>oM;exact(h.vs 1000 U (VS.trans (VS.eq<|by ac_rfl)<|VS.trans (VS.aew (A:=tH) (cs:=[nV,nV,.v v]) 2 oM U)<|VS.same λ_ _ _ h=>⟨(),_,Lx ayZ h⟩) oM).cv ⟨U,U,U,ayS⟩ ⟨U,U,U,ayS⟩ U⟩:EX (kR q y) (Wk q b []<|spP b y) (Wk q b []<|spO b az 2 68 [] λv=>[.v v,nV,.sl 1 (List.map ay y)]));have:=λy l i=>(⟨λC0 a w h=>by obtain⟨v,h⟩:=h.yZ 1000 U λ_=>oM;exact(h.vs 1000 U (VS.trans (VS.aew 0 oM U)<|VS.same λ_ _ _ h=>⟨(),_,Lx ayZ h⟩) oM).cv ⟨U,U,U,U,ayS⟩ ⟨U,U,U,ayS⟩ U⟩:EX (kS q y l i) (Wk q b [iS 12 i]<|spO b az 2 68 l λv=>[.v v,nV,.sl 1 (List.map ay y)]) (Wk q b [iS 12 i]<|spO b ay 1 3 [] λv=>[.sl 2 (List.map az l),.v v,.sl 1 (List.map ay y)]));have:=λy l z=>(⟨λC0 a w h=>by obtain⟨v,h⟩:=h.yZ 1000 U λ_=>oM;exact(h.vs 1000 U (VS.aew 1 oM U) oM).cv ⟨U,U,U,ayS⟩ ⟨U,U,U,ayS⟩ U⟩:EX (xM y l z) (Wk q b []<|spO b ay 1 3 z λv=>[.sl 2 (List.map az l),.v v,.sl 1 (List.map ay y)]) (Wk q b []<|Sep tH<|eu b 29<|bf ⟨l,z,y⟩));exact M4)
  | (show GO _ _ _ _ _ _ (⟨some 16,.buildSlice _ _ _,_,_,_,_⟩::_) _ _;refine Mc 1000 U uU iI U U U U U U U U U U U ayX λ_=>?_)
  | (show GO _ _ _ _ _ _ (⟨some 17,.build _ _,_,_,_,_⟩::_) _ _;refine jr U zR lI U U U ?_)
  | refine Xf ?_
  | refine qG ?_
  | refine qF ?_
  | refine VI ?_
  | refine rJ ?_
  | refine rG ?_ ?_
  | refine Zi ?_ ?_
  | exact pq
  | intro _)
end Go.Ark
