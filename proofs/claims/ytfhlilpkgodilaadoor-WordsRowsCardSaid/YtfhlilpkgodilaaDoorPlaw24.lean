/- Plain laws: chapter 24: the example, short texts. Conditions: none but those that stand in each law. -/
import Derived.Test.YtfhlilpkgodilaaDoorPwords2
import Derived.Test.YtfhlilpkgodilaaDoorFlaw24
import Derived.KernelRfl
namespace Go.Ark
open Go Go.Ab Go.RowKit

theorem awake_t : law24_awake = some true := by kernel_rfl
end Go.Ark
