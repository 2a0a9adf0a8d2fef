/- Typed functions, printed by a program of mine out of the translated code. -/
import Derived.Test.YtdngcojjipaajaaFT
import Derived.Test.YtdngcojjipaajaaFref02
import Derived.Test.YtdngcojjipaajaaFref03
import Derived.Test.YtdngcojjipaajaaFref04
namespace Go.Ark
open Go Go.Ab

def ref20_Behind_k1 (l_0 : (List Api_Event)) (i_1 : Int) (y1 : Bool) : Option (List Api_Dep) :=
  if y1 then
    some ([] : (List Api_Dep))
  else
    (idx l_0 i_1).bind fun x3 =>
    (idx l_0 i_1).bind fun x4 =>
    (idx l_0 i_1).bind fun x5 =>
    (ref04_Merge ([x3.Seen, [(Api_Dep.mk x4.Key x5.Stamp)]])).bind fun r6 =>
    some r6

def ref20_Behind (l_0 : (List Api_Event)) (i_1 : Int) : Option (List Api_Dep) :=
  if decide (i_1 < 0) then
    ref20_Behind_k1 l_0 i_1 true
  else
    ref20_Behind_k1 l_0 i_1 (decide ((l_0.length : Int) ≤ i_1))

def ref20_Same_k1 (_y2 : Unit) : Option Bool :=
  some true

def ref20_Same_l2 (a_0 : (List Api_Event)) (b_1 : (List Api_Event)) (again6 : Int → Option Bool) (v4 : Int) : Option Bool :=
  if decide (v4 < (a_0.length : Int)) then
    (idx a_0 v4).bind fun x9 =>
    (idx b_1 v4).bind fun x10 =>
    (ref04_Same x9.Seen x10.Seen).bind fun r11 =>
    if !r11 then
      some false
    else
      (idx a_0 v4).bind fun x13 =>
      (idx b_1 v4).bind fun x14 =>
      if !decide (x13.Kind = x14.Kind) then
        some false
      else
        (idx a_0 v4).bind fun x16 =>
        (idx b_1 v4).bind fun x17 =>
        if !decide (x16.Client = x17.Client) then
          some false
        else
          (idx a_0 v4).bind fun x19 =>
          (idx b_1 v4).bind fun x20 =>
          if !seq x19.Key x20.Key then
            some false
          else
            (idx a_0 v4).bind fun x22 =>
            (idx b_1 v4).bind fun x23 =>
            if !(decide (x22.Stamp.N = x23.Stamp.N) && decide (x22.Stamp.Site = x23.Stamp.Site)) then
              some false
            else
              again6 (IntKind.wrap .i64 (v4 + 1))
  else
    ref20_Same_k1 ()

def ref20_Same (a_0 : (List Api_Event)) (b_1 : (List Api_Event)) : Option Bool :=
  if !decide ((a_0.length : Int) = (b_1.length : Int)) then
    some false
  else
    loopF (ref20_Same_l2 a_0 b_1) FU 0

end Go.Ark
