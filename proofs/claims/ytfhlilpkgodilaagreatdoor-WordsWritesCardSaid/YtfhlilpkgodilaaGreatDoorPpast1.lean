import Derived.Test.YtfhlilpkgodilaaGreatDoorPkeys1
import Derived.Test.YtfhlilpkgodilaaGreatDoorPstamp
import Derived.Test.YtfhlilpkgodilaaGreatDoorFA
/- Plain laws: pasts. Conditions: none but those that stand in each law. -/
namespace Go.Ark
open Go Go.Ab Go.RowKit

/-! pasts that are compared, and that may be -/
/-! what is got of a past that was added to -/
end Go.Ark
