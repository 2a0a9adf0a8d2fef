/- Plain laws: pasts that are added to, put together, held against each other. Conditions: none but those that stand in each law. -/
import Derived.Test.YtfhlilpkgodilaaDoorPpast1
namespace Go.Ark
open Go Go.Ab Go.RowKit

end Go.Ark
