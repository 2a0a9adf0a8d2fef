/- Typed functions, printed by a program of mine out of the translated code. -/
import Derived.Test.YtjmleebbmomcgaaFT
import Derived.Test.YtjmleebbmomcgaaFkeys
import Derived.Test.YtjmleebbmomcgaaFpast
import Derived.Test.YtjmleebbmomcgaaFstamp
namespace Go.Ark
open Go Go.Ab

def wire_Check_k3 (v_0 : Api_Version) (y4 : Bool) : Option Bool :=
  if y4 then
    if !v_0.Gone then
      some true
    else
      some (seq v_0.Value ByteArray.empty)
  else
    some false

def wire_Check_k2 (v_0 : Api_Version) (y3 : Bool) : Option Bool :=
  if y3 then
    wire_Check_k3 v_0 (decide ((v_0.Value.size : Int) ≤ 32))
  else
    wire_Check_k3 v_0 false

def wire_Check_k1 (v_0 : Api_Version) (y2 : Bool) : Option Bool :=
  if y2 then
    (past_Check v_0.Past).bind fun r11 =>
    wire_Check_k2 v_0 r11
  else
    wire_Check_k2 v_0 false

def wire_Check (v_0 : Api_Version) : Option Bool :=
  (keys_Check v_0.Key).bind fun r1 =>
  if r1 then
    (stamp_Check v_0.Stamp).bind fun r14 =>
    wire_Check_k1 v_0 r14
  else
    wire_Check_k1 v_0 false

def wire_Same_k3 (a_0 : Api_Version) (b_1 : Api_Version) (y3 : Bool) : Option Bool :=
  if y3 then
    (past_Same a_0.Past b_1.Past).bind fun r5 =>
    some r5
  else
    some false

def wire_Same_k2 (a_0 : Api_Version) (b_1 : Api_Version) (y2 : Bool) : Option Bool :=
  if y2 then
    wire_Same_k3 a_0 b_1 (decide (a_0.Stamp.N = b_1.Stamp.N) && decide (a_0.Stamp.Site = b_1.Stamp.Site))
  else
    wire_Same_k3 a_0 b_1 false

def wire_Same_k1 (a_0 : Api_Version) (b_1 : Api_Version) (y1 : Bool) : Option Bool :=
  if y1 then
    wire_Same_k2 a_0 b_1 (a_0.Gone == b_1.Gone)
  else
    wire_Same_k2 a_0 b_1 false

def wire_Same (a_0 : Api_Version) (b_1 : Api_Version) : Option Bool :=
  if seq a_0.Key b_1.Key then
    wire_Same_k1 a_0 b_1 (seq a_0.Value b_1.Value)
  else
    wire_Same_k1 a_0 b_1 false
end Go.Ark
