/- Typed functions, printed by a program of mine out of the translated code. -/
import Derived.Test.YtknhoebmoljopaaFT
import Derived.Test.YtknhoebmoljopaaFref04
namespace Go.Ark
open Go Go.Ab

def ref15_Same (a_0 : Api_Session) (b_1 : Api_Session) : Option Bool :=
  (ref04_Same a_0.Past b_1.Past).bind fun r1 =>
  if r1 then
    some (decide (a_0.Site = b_1.Site))
  else
    some false
end Go.Ark
