/- Typed functions, printed by a program of mine out of the translated code. -/
import Derived.Test.YtjidbmelmcmmhaaFT
import Derived.Test.YtjidbmelmcmmhaaFref06
namespace Go.Ark
open Go Go.Ab

def ref12_Same_k1 (_y2 : Unit) : Option Bool :=
  some true

def ref12_Same_l2 (a_0 : (List Api_Version)) (b_1 : (List Api_Version)) (again6 : Int → Option Bool) (v4 : Int) : Option Bool :=
  if decide (v4 < (a_0.length : Int)) then
    (idx a_0 v4).bind fun x9 =>
    (idx b_1 v4).bind fun x10 =>
    (ref06_Same x9 x10).bind fun r11 =>
    if !r11 then
      some false
    else
      again6 (IntKind.wrap .i64 (v4 + 1))
  else
    ref12_Same_k1 ()

def ref12_Same (a_0 : (List Api_Version)) (b_1 : (List Api_Version)) : Option Bool :=
  if !decide ((a_0.length : Int) = (b_1.length : Int)) then
    some false
  else
    loopF (ref12_Same_l2 a_0 b_1) FU 0
end Go.Ark
