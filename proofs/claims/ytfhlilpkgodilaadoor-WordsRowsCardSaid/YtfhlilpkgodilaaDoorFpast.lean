/- Typed functions, printed by a program of mine out of the translated code. -/
import Derived.Test.YtfhlilpkgodilaaDoorFT
import Derived.Test.YtfhlilpkgodilaaDoorFkeys
import Derived.Test.YtfhlilpkgodilaaDoorFlib
import Derived.Test.YtfhlilpkgodilaaDoorFstamp
import Derived.Test.YtfhlilpkgodilaaDoorFvary
namespace Go.Ark
open Go Go.Ab

end Go.Ark
