/- Plain laws: the document's reading of versions is the program's. Conditions: none but those that stand in each law. -/
import Derived.Test.YtjidbmelmcmmhabPturn
import Derived.Test.YtjidbmelmcmmhabPlaw06
namespace Go.Ark
open Go Go.Ab Go.RowKit

end Go.Ark
