/- Plain laws: stamps. Conditions: none but those that stand in each law. -/
import Derived.Test.YtjidbmelmcmmhabP0
import Derived.Test.YtjidbmelmcmmhabFstamp
import Derived.Test.YtjidbmelmcmmhabFref03
namespace Go.Ark
open Go Go.Ab Go.RowKit

end Go.Ark
