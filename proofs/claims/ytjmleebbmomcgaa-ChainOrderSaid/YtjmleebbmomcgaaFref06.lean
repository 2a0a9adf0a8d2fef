/- Typed functions, printed by a program of mine out of the translated code. -/
import Derived.Test.YtjmleebbmomcgaaFT
import Derived.Test.YtjmleebbmomcgaaFref02
import Derived.Test.YtjmleebbmomcgaaFref03
import Derived.Test.YtjmleebbmomcgaaFref04
namespace Go.Ark
open Go Go.Ab

def ref06_Same_k3 (a_0 : Api_Version) (b_1 : Api_Version) (y4 : Bool) : Option Bool :=
  if y4 then
    some (decide (a_0.Stamp.N = b_1.Stamp.N) && decide (a_0.Stamp.Site = b_1.Stamp.Site))
  else
    some false

def ref06_Same_k2 (a_0 : Api_Version) (b_1 : Api_Version) (y3 : Bool) : Option Bool :=
  if y3 then
    ref06_Same_k3 a_0 b_1 (a_0.Gone == b_1.Gone)
  else
    ref06_Same_k3 a_0 b_1 false

def ref06_Same_k1 (a_0 : Api_Version) (b_1 : Api_Version) (y2 : Bool) : Option Bool :=
  if y2 then
    ref06_Same_k2 a_0 b_1 (seq a_0.Value b_1.Value)
  else
    ref06_Same_k2 a_0 b_1 false

def ref06_Same (a_0 : Api_Version) (b_1 : Api_Version) : Option Bool :=
  (ref04_Same a_0.Past b_1.Past).bind fun r1 =>
  if r1 then
    ref06_Same_k1 a_0 b_1 (seq a_0.Key b_1.Key)
  else
    ref06_Same_k1 a_0 b_1 false

def ref06_Check_k3 (v_0 : Api_Version) (y6 : Bool) : Option Bool :=
  if y6 then
    if !v_0.Gone then
      some true
    else
      some (seq v_0.Value ByteArray.empty)
  else
    some false

def ref06_Check_k2 (v_0 : Api_Version) (y5 : Bool) : Option Bool :=
  if y5 then
    ref06_Check_k3 v_0 (decide ((v_0.Value.size : Int) ≤ 32))
  else
    ref06_Check_k3 v_0 false

def ref06_Check_k1 (v_0 : Api_Version) (r3 : Bool) (y4 : Bool) : Option Bool :=
  if y4 then
    ref06_Check_k2 v_0 r3
  else
    ref06_Check_k2 v_0 false

def ref06_Check (v_0 : Api_Version) : Option Bool :=
  (ref02_Check v_0.Key).bind fun r1 =>
  (ref03_Check v_0.Stamp).bind fun r2 =>
  (ref04_Check v_0.Past).bind fun r3 =>
  if r1 then
    ref06_Check_k1 v_0 r3 r2
  else
    ref06_Check_k1 v_0 r3 false
end Go.Ark
