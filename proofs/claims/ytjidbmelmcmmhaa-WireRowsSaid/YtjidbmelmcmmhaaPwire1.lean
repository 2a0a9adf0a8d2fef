/- Plain laws: versions that may be, and that are compared. Conditions: none but those that stand in each law. -/
import Derived.Test.YtjidbmelmcmmhaaPpast1
import Derived.Test.YtjidbmelmcmmhaaFwire
import Derived.Test.YtjidbmelmcmmhaaFref06
namespace Go.Ark
open Go Go.Ab Go.RowKit

end Go.Ark
