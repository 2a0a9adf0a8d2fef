import Derived.Test.YtfhlilpkgodilaaGreatDoorP0
import Derived.Test.YtfhlilpkgodilaaGreatDoorFA
/- Plain laws: stamps. Conditions: none but those that stand in each law. -/
namespace Go.Ark
open Go Go.Ab Go.RowKit

end Go.Ark
