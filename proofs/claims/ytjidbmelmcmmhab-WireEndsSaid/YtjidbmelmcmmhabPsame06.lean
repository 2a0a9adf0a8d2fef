/- Plain law: rows that may be are the same as themselves. Conditions: none but those that stand in each law. -/
import Derived.Test.YtjidbmelmcmmhabPspec06
import Derived.Test.YtjidbmelmcmmhabPlaw06
namespace Go.Ark
open Go Go.Ab Go.RowKit

end Go.Ark
