/- Plain laws: pasts. Conditions: none but those that stand in each law. -/
import Derived.Test.YtjidbmelmcmmhabPkeys1
import Derived.Test.YtjidbmelmcmmhabPstamp
import Derived.Test.YtjidbmelmcmmhabFpast
import Derived.Test.YtjidbmelmcmmhabFref04
namespace Go.Ark
open Go Go.Ab Go.RowKit

/-! pasts that are compared, and that may be -/
/-! what is got of a past that was added to -/
end Go.Ark
