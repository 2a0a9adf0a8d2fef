/- Plain laws: versions that may be, and that are compared. Conditions: none but those that stand in each law. -/
import Derived.Test.YtjidbmelmcmmhabPpast1
import Derived.Test.YtjidbmelmcmmhabFwire
import Derived.Test.YtjidbmelmcmmhabFref06
namespace Go.Ark
open Go Go.Ab Go.RowKit

end Go.Ark
