/- Plain laws: stamps. Conditions: none but those that stand in each law. -/
import Derived.Test.YtfhlilpkgodilaaDoorP0
import Derived.Test.YtfhlilpkgodilaaDoorFstamp
import Derived.Test.YtfhlilpkgodilaaDoorFref03
namespace Go.Ark
open Go Go.Ab Go.RowKit

end Go.Ark
