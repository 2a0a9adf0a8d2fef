/- Plain laws: what chapter 06's laws make of versions. Conditions: none but those that stand in each law. -/
import Derived.Test.YtjidbmelmcmmhabPwireb
import Derived.Test.YtjidbmelmcmmhabFlaw06
namespace Go.Ark
open Go Go.Ab Go.RowKit

theorem law06_awake_eq : law06_awake = some true := by decide +kernel

end Go.Ark
