/- Typed functions, printed by a program of mine out of the translated code. -/
import Derived.Test.YtjidbmelmcmmhabFT
import Derived.Test.YtjidbmelmcmmhabFref01
import Derived.Test.YtjidbmelmcmmhabFref02
import Derived.Test.YtjidbmelmcmmhabFref03
namespace Go.Ark
open Go Go.Ab

end Go.Ark
