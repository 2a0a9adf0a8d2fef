import Derived.Test.YtfhlilpkgodilaaGreatDoorPpast1
/- Plain laws: pasts that are added to, put together, held against each other. Conditions: none but those that stand in each law. -/
namespace Go.Ark
open Go Go.Ab Go.RowKit

end Go.Ark
