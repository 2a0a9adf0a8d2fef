/- Machine, typed functions, plain laws and walks, part 15, for TopCleans. Conditions: none but those that stand in each law. -/
import Derived.Test.YtgjndeeaafimiaaGreatD13
set_option linter.all false
open Go.Proofs.Tryz
namespace Go.Ark
open Go Go.Ab Go.RowKit Go.Proofs
abbrev QI(b:Nat)(s:cX):OP:=eu b 146 [.v (.int .i64 s.count.next)]
abbrev ajV(b:Nat)(s:b9)(v:Value):OP:=Sep (eu b 144 [.v (.int .i64 s.count.next),.v v]) (Row v 235 2 (s.open_.map dP))
abbrev Oh(b:Nat)(s:b9):OP:=qA (ajV b s)
theorem LS(v:Value)(l:List cA)(r:List cA)(hF:dZ l=some r):fc prog (γ:=Unit) 154 (Row v 235 2 (l.map dP)) (λ_=>Row v 235 2 (l.map dP)) [.g (.d (.v v))] (λ_=>fu 2 dP r):=by
 apply fc.iB func154 U ntmps154 U U oM hF λC0=>?_;unfold dZ;cases hn:yw v
 ·exact wk
 ·refine GF.fact 1000 U (λ_ _ _ h=>h.nil hn) λhe=>?_
  obtain rfl:l= []:=by simpa using he
  refine GF.eq (F':=some []) U ?_;exact wk
instance(l:List cA):tF prog (dZ l) 154 (λv:Value=>Row v 235 2 (l.map dP)) (λv=>[.g (.d (.v v))]) (λr=>fu 2 dP r):=⟨λv r h=>LS v l r h⟩
instance(s:cX)(p:cA):mU prog (gT s p) 156 (λb:Nat=>QI b s) (λ(b:Nat)(_:Unit)(r:(ByteArray×Bool)×cX)=>QI b r.2) (λb=>[bZ b,.g (.agg (dP p))]) (λ_ r=>.eV [.d (.v (.string r.1.1)),.d (.v (.bool r.1.2))]):=Gn func156 U ntmps156 (λ_=>rfl) (λ_=>rfl) (λ_=>oM) (λ_ _ _=>oM) λb r C0=>by
 unfold gT;exact wk
instance(s:b9)(d:ByteArray):mU prog (mM s d) 189 (λb:Nat=>Oh b s) (λ(b:Nat)(_:Unit)(r:(cA×Int)×b9)=>Oh b r.2) (λb=>[bZ b,fP d]) (λ_ r=>.eV [.agg (dP r.1.1),.d (.v (.int .i64 r.1.2))]):=Gn func189 U ntmps189 (λ_=>rfl) (λ_=>rfl) (λ_=>oM) (λ_ _ _=>oM) λb r C0=>by
 refine GF.yZ 1000 U (λ_=>oM) λv=>?_;unfold mM;exact wk
instance(s:b9):tF prog (bW s) 166 (λb:Nat=>Oh b s) (λb=>[bZ b]) (λr=>fu 2 dP r):=Mn func166 U ntmps166 (λ_=>rfl) (λ_=>rfl) (λ_=>oM) λb r C0=>by
 refine GF.yZ 1000 U (λ_=>oM) λv=>?_;unfold bW;exact wk
instance(s:cX):tF prog (zG s) 217 (λb:Nat=>QI b s) (λb=>[bZ b]) j7:=Mn func217 U ntmps217 (λ_=>rfl) (λ_=>rfl) (λ_=>oM) λb r C0=>by
 unfold zG;exact wk
instance(s:cX):tF prog (eW s) 155 (λb:Nat=>QI b s) (λb=>[bZ b]) j7:=Mn func155 U ntmps155 (λ_=>rfl) (λ_=>rfl) (λ_=>oM) λb r C0=>by
 unfold eW;exact wk
instance(s:b9)(seq:Int):mU prog (gU s seq) 157 (λb:Nat=>Oh b s) (λ(b:Nat)(_:Unit)(r:Int×b9)=>Oh b r.2) (λb=>[bZ b,bV seq]) (λ_ r=>j7 r.1):=Gn func157 U ntmps157 (λ_=>rfl) (λ_=>rfl) (λ_=>oM) (λ_ _ _=>oM) λb r C0=>by
 refine GF.yZ 1000 U (λ_=>oM) λv=>?_;have:bT (yA s seq) (λn=>⟨[(0,.one (pt b 0)),(1,aV seq),(5,aV n)],[kO (ajV b s v)]⟩):=⟨ayS⟩;unfold gU;exact wk
instance:EZ prog 144 [.v (.int .i64 0),.v (.slice none 0 0)]:=⟨_,_,_,al1,⟨.v _ U,.v _ U,ayS⟩,U⟩
theorem S9(r:b9)(hF:pT=some r):fc prog (γ:=Nat) 45 tH (λg=>Oh g r) [] (λg=>.one (.d (.v (.pointer (some ⟨g,0,none⟩))))):=by
 apply fc.iB func45 U ntmps45 U U CS hF λC0=>?_;unfold pT;exact wkn
theorem MW(r:cX)(hF:mL=some r):fc prog (γ:=Nat) 46 tH (λg=>QI g r) [] (λg=>.one (.d (.v (.pointer (some ⟨g,0,none⟩))))):=by
 apply fc.iB func46 U ntmps46 U U CS hF λC0=>?_;unfold mL;exact wkn
instance:mU prog pT 45 (λ_:Unit=>tH) (λ_(g:Nat) r=>Oh g r) (λ_=>[]) (λg _=>.one (.d (.v (.pointer (some ⟨g,0,none⟩))))):=⟨λ_ r h=>S9 r h,λ_ _ _=>oM,⟨0⟩⟩
instance:mU prog mL 46 (λ_:Unit=>tH) (λ_(g:Nat) r=>QI g r) (λ_=>[]) (λg _=>.one (.d (.v (.pointer (some ⟨g,0,none⟩))))):=⟨λ_ r h=>MW r h,λ_ _ _=>oM,⟨0⟩⟩
end Go.Ark
