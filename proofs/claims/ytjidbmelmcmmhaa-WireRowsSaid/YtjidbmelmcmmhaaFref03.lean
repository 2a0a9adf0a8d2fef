/- Typed functions, printed by a program of mine out of the translated code. -/
import Derived.Test.YtjidbmelmcmmhaaFT
import Derived.Test.YtjidbmelmcmmhaaFref01
namespace Go.Ark
open Go Go.Ab

end Go.Ark
