/- Typed functions, printed by a program of mine out of the translated code. -/
import Derived.Test.YtdngcojjipaajaaFT
import Derived.Test.YtdngcojjipaajaaFvary
namespace Go.Ark
open Go Go.Ab

def stamp_Check_k2 (s_0 : Api_Stamp) (y2 : Bool) : Option Bool :=
  if y2 then
    some (decide (s_0.Site < 6))
  else
    some false

def stamp_Check_k1 (s_0 : Api_Stamp) (y1 : Bool) : Option Bool :=
  if y1 then
    stamp_Check_k2 s_0 (decide (0 ≤ s_0.Site))
  else
    stamp_Check_k2 s_0 false

def stamp_Check (s_0 : Api_Stamp) : Option Bool :=
  if decide (1 ≤ s_0.N) then
    stamp_Check_k1 s_0 (decide (s_0.N ≤ 1099511627776))
  else
    stamp_Check_k1 s_0 false

def stamp_Less (a_0 : Api_Stamp) (b_1 : Api_Stamp) : Option Bool :=
  if !(decide (a_0.N = b_1.N) && decide (a_0.Site = b_1.Site)) then
    if decide (a_0.N < b_1.N) then
      some true
    else
      if decide (a_0.N = b_1.N) then
        some (decide (a_0.Site ≤ b_1.Site))
      else
        some false
  else
    some false

def stamp_Max_k1 (y1 : Int × Int) : Option Api_Stamp :=
  some (Api_Stamp.mk y1.1 y1.2)

def stamp_Max_l2 (l_0 : (List Api_Stamp)) (again5 : Int × Int × Int → Option Api_Stamp) (v3 : Int × Int × Int) : Option Api_Stamp :=
  if decide (v3.1 < (l_0.length : Int)) then
    (idx l_0 v3.1).bind fun x8 =>
    (stamp_Less (Api_Stamp.mk v3.2.1 v3.2.2) x8).bind fun r9 =>
    if r9 then
      again5 (IntKind.wrap .i64 (v3.1 + 1), x8.N, x8.Site)
    else
      again5 (IntKind.wrap .i64 (v3.1 + 1), v3.2.1, v3.2.2)
  else
    stamp_Max_k1 (v3.2.1, v3.2.2)

def stamp_Max (l_0 : (List Api_Stamp)) : Option Api_Stamp :=
  loopF (stamp_Max_l2 l_0) FU (0, 0, 0)
end Go.Ark
