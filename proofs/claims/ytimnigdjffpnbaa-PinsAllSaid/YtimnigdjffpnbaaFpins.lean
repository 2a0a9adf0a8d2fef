/- Typed functions, printed by a program of mine out of the translated code. -/
import Derived.Test.YtimnigdjffpnbaaFT
import Derived.Test.YtimnigdjffpnbaaFlib
namespace Go.Ark
open Go Go.Ab

def pins_find_1 (p_0 : Api_Pin) (id_1 : Int) : Option Int :=
  (cmp_Compare_int p_0.ID id_1).bind fun r1 =>
  some r1

def pins_find (l_0 : (List Api_Pin)) (id_1 : Int) : Option (Int × Bool) :=
  (slices_BinarySearchFunc_int l_0 id_1 (fun x0 x1 => pins_find_1 x0 x1)).bind fun r1 =>
  some (r1.1, r1.2)

def pins_Put (l_0 : (List Api_Pin)) (p_1 : Api_Pin) : Option ((List Api_Pin) × Int) :=
  (pins_find l_0 p_1.ID).bind fun r1 =>
  if decide (p_1.ID < 1) then
    some (([] : (List Api_Pin)), 1)
  else
    if r1.2 then
      some (([] : (List Api_Pin)), 13)
    else
      if decide (8 ≤ (l_0.length : Int)) then
        some (([] : (List Api_Pin)), 15)
      else
        (slices_Clone_Pin l_0).bind fun r5 =>
        (slices_Insert_Pin r5 r1.1 ([p_1])).bind fun r6 =>
        some (r6, 0)

def pins_Drop (l_0 : (List Api_Pin)) (id_1 : Int) : Option ((List Api_Pin) × Int) :=
  (pins_find l_0 id_1).bind fun r1 =>
  if !r1.2 then
    some (([] : (List Api_Pin)), 12)
  else
    (slices_Clone_Pin l_0).bind fun r3 =>
    (slices_Delete_Pin r3 r1.1 (IntKind.wrap .i64 (r1.1 + 1))).bind fun r4 =>
    some (r4, 0)

def pins_Get (l_0 : (List Api_Pin)) (id_1 : Int) : Option (Api_Pin × Bool) :=
  (pins_find l_0 id_1).bind fun r1 =>
  if !r1.2 then
    some ((Api_Pin.mk 0 ([] : (List Api_Dep))), false)
  else
    (idx l_0 r1.1).bind fun x3 =>
    some (x3, true)

def flatP (l : List Api_Pin) : List Api_Dep := l.flatMap (·.Deps)

def pins_All (l_0 : List Api_Pin) : Option (List Api_Dep) := if (flatP l_0).length ≤ 1000000 then some (flatP l_0) else none

def ofP (key : ByteArray) (l : List Api_Dep) : List Api_Stamp := (l.filter fun d => decide (d.Key = key)).map (·.Stamp)

def pins_Of (l_0 : List Api_Pin) (key_1 : ByteArray) : Option (List Api_Stamp) := if (flatP l_0).length ≤ 1000000 then some (ofP key_1 (flatP l_0)) else none
end Go.Ark
