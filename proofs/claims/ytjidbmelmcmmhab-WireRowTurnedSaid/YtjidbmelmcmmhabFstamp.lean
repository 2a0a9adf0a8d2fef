/- Typed functions, printed by a program of mine out of the translated code. -/
import Derived.Test.YtjidbmelmcmmhabFT
import Derived.Test.YtjidbmelmcmmhabFvary
namespace Go.Ark
open Go Go.Ab

def stamp_Check_k2 (s_0 : Api_Stamp) (y2 : Bool) : Option Bool :=
  if y2 then
    some (decide (s_0.Site < 6))
  else
    some false

def stamp_Check_k1 (s_0 : Api_Stamp) (y1 : Bool) : Option Bool :=
  if y1 then
    stamp_Check_k2 s_0 (decide (0 ≤ s_0.Site))
  else
    stamp_Check_k2 s_0 false

def stamp_Check (s_0 : Api_Stamp) : Option Bool :=
  if decide (1 ≤ s_0.N) then
    stamp_Check_k1 s_0 (decide (s_0.N ≤ 1099511627776))
  else
    stamp_Check_k1 s_0 false

def stamp_Read_k1 (r1 : (Int × Int × Bool)) (r2 : (Int × Int × Bool)) (y3 : Bool) : Option (Api_Stamp × Int × Bool) :=
  if y3 then
    some ((Api_Stamp.mk 0 0), 0, false)
  else
    (stamp_Check (Api_Stamp.mk (IntKind.wrap .i64 r1.1) (IntKind.wrap .i64 r2.1))).bind fun r5 =>
    if !r5 then
      some ((Api_Stamp.mk 0 0), 0, false)
    else
      some ((Api_Stamp.mk (IntKind.wrap .i64 r1.1) (IntKind.wrap .i64 r2.1)), r2.2.1, true)

def stamp_Read_k2 (r1 : (Int × Int × Bool)) (r2 : (Int × Int × Bool)) (y8 : Bool) : Option (Api_Stamp × Int × Bool) :=
  if y8 then
    stamp_Read_k1 r1 r2 true
  else
    if decide (1099511627776 < r1.1) then
      stamp_Read_k1 r1 r2 true
    else
      stamp_Read_k1 r1 r2 (decide (6 ≤ r2.1))

def stamp_Read (s_0 : ByteArray) (at_1 : Int) : Option (Api_Stamp × Int × Bool) :=
  (vary_Read s_0 at_1).bind fun r1 =>
  (vary_Read s_0 r1.2.1).bind fun r2 =>
  if !r1.2.2 then
    stamp_Read_k2 r1 r2 true
  else
    stamp_Read_k2 r1 r2 (!r2.2.2)

def stamp_Bytes (s_0 : Api_Stamp) : Option ByteArray :=
  (stamp_Check s_0).bind fun r1 =>
  if !r1 then
    some ByteArray.empty
  else
    (vary_Join ([IntKind.wrap .u64 s_0.N, IntKind.wrap .u64 s_0.Site])).bind fun r3 =>
    some r3

end Go.Ark
