/- Plain laws, no program in sight: numbers, texts, lists by numbers, loops by rounds. Conditions: none but those that stand in each law. -/
import Derived.Test.YtfhlilpkgodilaaDoorFT
import Derived.Laws.StructEq
import Derived.OpenShut
namespace Go.Ark
open Go Go.Ab Go.RowKit

/-! texts -/
/-! lists by numbers -/
end Go.Ark
