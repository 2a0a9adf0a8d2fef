/- Machine, typed functions, plain laws and walks, part 14, for TopCleans. Conditions: none but those that stand in each law. -/
import Derived.Test.YtgjndeeaafimiaaGreatD13
set_option linter.all false
open Go.Proofs.Tryz
namespace Go.Ark
open Go Go.Ab Go.RowKit Go.Proofs
abbrev jt(a:Nat×Nat×Nat)(s:aC):OP:=Sep (eu a.1 130 [.v (.pointer (some ⟨a.2.1,0,none⟩)),.v (.int .i64 s.id),.sl 6 (s.wait.map aj),.v (.int .i64 s.clock.N),.v (.int .i64 s.clock.Site)]) (eA a.2 s.aO)
instance(s:aM)(v:aa):mU prog (sP s v) 132 (λa:Nat×Nat=>eA a s) (λ(a:Nat×Nat)(_:Unit)(r:Bool×aM)=>eA a r.2) (λa=>[.g (.agg [.v (.pointer (some ⟨a.1,0,none⟩))]),.g (.agg (aj v))]) (λ_ r=>bH r.1):=Gn func132 U ntmps132 (λ_=>rfl) (λ_=>rfl) (λ_=>oM) (λ_ _ _=>oM) λa r C0=>by
 unfold sP;exact wk
instance(s:aM)(key:ByteArray):tF prog (DC s key) 135 (λa:Nat×Nat=>eA a s) (λa=>[.g (.agg [.v (.pointer (some ⟨a.1,0,none⟩))]),fP key]) (λr=>.eV [.agg (aj r.1),.d (.v (.bool r.2))]):=Mn func135 U ntmps135 (λ_=>rfl) (λ_=>rfl) (λ_=>oM) λa r C0=>by
 unfold DC;exact wk
instance(s:aM)(key:ByteArray)(x:ai):tF prog (Jt s key x) 220 (λa:Nat×Nat=>eA a s) (λa=>[.g (.agg [.v (.pointer (some ⟨a.1,0,none⟩))]),fP key,.g (.agg (aB x))]) (λr=>.eV [.agg (aj r.1),.d (.v (.bool r.2))]):=Mn func220 U ntmps220 (λ_=>rfl) (λ_=>rfl) (λ_=>oM) λa r C0=>by
 unfold Jt;exact wk
instance(s:aC):tF prog (tC s) 71 (λa:Nat×Nat×Nat=>jt a s) (λa=>[bZ a.1]) (λr=>fu 2 az r):=Mn func71 U ntmps71 (λ_=>rfl) (λ_=>rfl) (λ_=>oM) λa r C0=>by
 unfold tC;exact wk
instance(s:aC)(key:ByteArray):tF prog (rE s key) 127 (λa:Nat×Nat×Nat=>jt a s) (λa=>[bZ a.1,fP key]) bH:=Mn func127 U ntmps127 (λ_=>rfl) (λ_=>rfl) (λ_=>oM) λa r C0=>by
 unfold rE;exact wk
instance(s:aC):tF prog (wT s) 99 (λa:Nat×Nat×Nat=>jt a s) (λa=>[bZ a.1]) (λr=>.one (.agg (aB r))):=Mn func99 U ntmps99 (λ_=>rfl) (λ_=>rfl) (λ_=>oM) λa r C0=>by
 unfold wT;exact wk
instance(s:aC):tF prog (qj s) 95 (λa:Nat×Nat×Nat=>jt a s) (λa=>[bZ a.1]) j7:=Mn func95 U ntmps95 (λ_=>rfl) (λ_=>rfl) (λ_=>oM) λa r C0=>by
 unfold qj;exact wk
instance(s:aC):tF prog (rC s) 40 (λa:Nat×Nat×Nat=>jt a s) (λa=>[bZ a.1]) (λr=>fu 3 ak r):=Mn func40 U ntmps40 (λ_=>rfl) (λ_=>rfl) (λ_=>oM) λa r C0=>by
 unfold rC;exact wk
instance(s:aC)(key:ByteArray):tF prog (rA s key) 63 (λa:Nat×Nat×Nat=>jt a s) (λa=>[bZ a.1,fP key]) (λr=>fu 6 aj r):=Mn func63 U ntmps63 (λ_=>rfl) (λ_=>rfl) (λ_=>oM) λa r C0=>by
 unfold rA;exact wk
instance(s:aC)(key:ByteArray):tF prog (vg s key) 78 (λa:Nat×Nat×Nat=>jt a s) (λa=>[bZ a.1,fP key]) (λr=>.eV [.agg (aj r.1),.d (.v (.bool r.2.1)),.d (.v (.int .i64 r.2.2))]):=Mn func78 U ntmps78 (λ_=>rfl) (λ_=>rfl) (λ_=>oM) λa r C0=>by
 unfold vg;exact wk
instance(s:aC):mU prog (vh s) 98 (λa:Nat×Nat×Nat=>jt a s) (λ(a:Nat×Nat×Nat)(_:Unit)(r:(aa×Bool)×aC)=>jt a r.2) (λa=>[bZ a.1]) (λ_ r=>.eV [.agg (aj r.1.1),.d (.v (.bool r.1.2))]):=Gn func98 U ntmps98 (λ_=>rfl) (λ_=>rfl) (λ_=>oM) (λ_ _ _=>oM) λa r C0=>by
 unfold vh;exact wk
instance(s:aC)(st:ai)(pins:List ah):mU prog (rB s st pins) 101 (λa:Nat×Nat×Nat=>jt a s) (λ(a:Nat×Nat×Nat)(_:Unit)(r:Unit×aC)=>jt a r.2) (λa=>[bZ a.1,.g (.agg (aB st)),bt 3 ak pins]) (λ_ r=>.eV []):=Gn func101 U ntmps101 (λ_=>rfl) (λ_=>rfl) (λ_=>oM) (λ_ _ _=>oM) λa r C0=>by
 unfold rB;exact wk
instance(s:aC)(v:aa):tF prog (wU s v) 164 (λa:Nat×Nat×Nat=>jt a s) (λa=>[bZ a.1,.g (.agg (aj v))]) bH:=Mn func164 U ntmps164 (λ_=>rfl) (λ_=>rfl) (λ_=>oM) λa r C0=>by
 unfold wU;exact wk
instance(s:aC)(v:aa):mU prog (oW s v) 96 (λa:Nat×Nat×Nat=>jt a s) (λ(a:Nat×Nat×Nat)(_:Unit)(r:Int×aC)=>jt a r.2) (λa=>[bZ a.1,.g (.agg (aj v))]) (λ_ r=>j7 r.1):=Gn func96 U ntmps96 (λ_=>rfl) (λ_=>rfl) (λ_=>oM) (λ_ _ _=>oM) λa r C0=>by
 unfold oW;exact wk
instance(s:aC)(key value:ByteArray)(gone:Bool)(past:List ah):mU prog (rD s key value gone past) 73 (λa:Nat×Nat×Nat=>jt a s) (λ(a:Nat×Nat×Nat)(_:Unit)(r:(aa×Int)×aC)=>jt a r.2) (λa=>[bZ a.1,fP key,fP value,.g (.d (.v (.bool gone))),bt 3 ak past]) (λ_ r=>.eV [.agg (aj r.1.1),.d (.v (.int .i64 r.1.2))]):=Gn func73 U ntmps73 (λ_=>rfl) (λ_=>rfl) (λ_=>oM) (λ_ _ _=>oM) λa r C0=>by
 have:bT (uI past<|ql s key value gone past) (λv=>⟨[(0,.one (pt a.1 0)),(1,.one (bS key)),(2,.one (bS value)),(3,.one (bB gone)),(4,cP 3 ak past),(10,.one (.ptr 110 0)),(12,.one (.ptr 112 0)),(32,cP 3 ak past),(33,aV past.length),(34,aV v.1)],[kO (jt a s),(110,some (.blk 73<|dat<|aj Z0)),(112,some (.blk 53<|dat<|aB v.2))]⟩):=⟨ayS⟩;unfold rD;exact wk
instance(s:aC)(own:List au)(l:List aa):mU prog (ve s own l) 109 (λa:Nat×Nat×Nat=>jt a s) (λ(a:Nat×Nat×Nat)(_:Unit)(r:Unit×aC)=>jt a r.2) (λa=>[bZ a.1,bt 2 az own,bt 6 aj l]) (λ_ r=>.eV []):=Gn func109 U ntmps109 (λ_=>rfl) (λ_=>rfl) (λ_=>oM) (λ_ _ _=>oM) λa r C0=>by
 have:bT (xO l) (λv=>⟨[(0,.one (pt a.1 0)),(26,cP 6 aj l),(27,aV l.length),(28,aV v.1)],[kO (jt a v.2)]⟩):=⟨ayS⟩;unfold ve;exact wk
theorem VW(id:Int)(own:List au)(r:aC)(hF:zX id own=some r):fc prog (γ:=Nat×Nat×Nat) 27 tH (λg=>jt g r) [bV id,bt 2 az own] (λg=>.one (.d (.v (.pointer (some ⟨g.1,0,none⟩))))):=by
 apply fc.iB func27 U ntmps27 U U CS hF λC0=>?_;unfold zX;exact wkn
end Go.Ark
