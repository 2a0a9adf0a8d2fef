/- Machine, typed functions, plain laws and walks, part 11, for TopCleans. Conditions: none but those that stand in each law. -/
import Derived.Test.YtgjndeeaafimiaaGreatD10
set_option linter.all false
open Go.Proofs.Tryz
namespace Go.Ark
open Go Go.Ab Go.RowKit Go.Lib Go.Proofs
set_option maxRecDepth 20000
set_option maxHeartbeats 2000000
set_option maxRecDepth 100000
instance(Ah:lf):dW prog (qw Ah) 6 [.g (.agg (Cw Ah))] (λr=>.one (.agg (bf r))):=fV func6 U ntmps6 U U λr C0=>by
 unfold qw;exact jm
instance(S5:Int):dW prog (zS S5) 49 [bV S5] KS:=fV func49 U ntmps49 U U λr C0=>by
 unfold zS;exact jm
end Go.Ark
