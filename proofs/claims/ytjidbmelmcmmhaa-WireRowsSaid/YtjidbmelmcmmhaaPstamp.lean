/- Plain laws: stamps. Conditions: none but those that stand in each law. -/
import Derived.Test.YtjidbmelmcmmhaaP0
import Derived.Test.YtjidbmelmcmmhaaFstamp
import Derived.Test.YtjidbmelmcmmhaaFref03
namespace Go.Ark
open Go Go.Ab Go.RowKit

end Go.Ark
