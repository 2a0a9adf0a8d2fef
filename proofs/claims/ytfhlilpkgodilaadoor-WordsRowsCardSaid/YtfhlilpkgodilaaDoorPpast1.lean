/- Plain laws: pasts. Conditions: none but those that stand in each law. -/
import Derived.Test.YtfhlilpkgodilaaDoorPkeys1
import Derived.Test.YtfhlilpkgodilaaDoorPstamp
import Derived.Test.YtfhlilpkgodilaaDoorFpast
import Derived.Test.YtfhlilpkgodilaaDoorFref04
namespace Go.Ark
open Go Go.Ab Go.RowKit

/-! pasts that are compared, and that may be -/
/-! what is got of a past that was added to -/
end Go.Ark
