/- Typed functions, printed by a program of mine out of the translated code. -/
import Derived.Test.YtfhlilpkgodilaaDoorFT
import Derived.Test.YtfhlilpkgodilaaDoorFref01
import Derived.Test.YtfhlilpkgodilaaDoorFref02
namespace Go.Ark
open Go Go.Ab

end Go.Ark
