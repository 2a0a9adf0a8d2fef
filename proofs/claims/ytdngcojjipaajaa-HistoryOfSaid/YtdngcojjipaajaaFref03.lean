/- Typed functions, printed by a program of mine out of the translated code. -/
import Derived.Test.YtdngcojjipaajaaFT
import Derived.Test.YtdngcojjipaajaaFref01
namespace Go.Ark
open Go Go.Ab

def ref03_Check_k2 (s_0 : Api_Stamp) (y2 : Bool) : Option Bool :=
  if y2 then
    some (decide (s_0.Site < 6))
  else
    some false

def ref03_Check_k1 (s_0 : Api_Stamp) (y1 : Bool) : Option Bool :=
  if y1 then
    ref03_Check_k2 s_0 (decide (0 ≤ s_0.Site))
  else
    ref03_Check_k2 s_0 false

def ref03_Check (s_0 : Api_Stamp) : Option Bool :=
  if decide (1 ≤ s_0.N) then
    ref03_Check_k1 s_0 (decide (s_0.N ≤ 1099511627776))
  else
    ref03_Check_k1 s_0 false

def ref03_Less (a_0 : Api_Stamp) (b_1 : Api_Stamp) : Option Bool :=
  if !decide (a_0.N = b_1.N) then
    some (decide (a_0.N < b_1.N))
  else
    some (decide (a_0.Site < b_1.Site))

end Go.Ark
