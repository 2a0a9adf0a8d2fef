/- Machine, typed functions, plain laws and walks, part 25, for TopCleans. Conditions: none but those that stand in each law. -/
import Derived.Test.YtgjndeeaafimiaaGreatD24
set_option linter.all false
open Go.Proofs.Tryz
namespace Go.Ark
open Go Go.Ab Go.RowKit Go.Proofs
theorem OD(r:Bool)(hF:Aa=some r):Ct prog 5 [] (bH r):=by
 refine Ct.iB (R:=Bool) (res:=λr=>bH r) func5 U ntmps5 U U hF λC0=>?_;refine GF.pre (λa w q=>q.D5 1000 U U) ?_;unfold Aa
 repeat' (first
  | refine qG ?_
  | refine qF ?_
  | refine rJ ?_
  | refine rG ?_ ?_
  | exact pq
  | intro _)
instance:dW prog Aa 5 [] bH:=⟨OD⟩
section
variable{P:Program}{nt:Nat}{R:Type}{C0:Cx P nt}{Q:R->Exit->Act->World->Prop}{r:R}{F:Option R}{m:Ab.Mode}{k:List KI}{ops:Array Oper}{rest:List Oper}{sl:SL}{hp:HL}{dst:Nat}{ty:TypeId}{pos:String}{af:Array Edge}{gd:Option (Nat×Bool)}{x y:Operand}
end
section
variable{P:Program}{nt:Nat}{R:Type}{C0:Cx P nt}{Q:R->Exit->Act->World->Prop}{r:R}{F:Option R}{m:Ab.Mode}{k:List KI}{ops:Array Oper}{rest:List Oper}{sl:SL}{hp:HL}{dst:Nat}{ty:TypeId}{pos:String}{af:Array Edge}{gd:Option (Nat×Bool)}{x y:Operand}
end
end Go.Ark
