/- Typed functions, printed by a program of mine out of the translated code. -/
import Derived.Test.YtfckeeglbhlnmaaFT
import Derived.Test.YtfckeeglbhlnmaaFkeys
import Derived.Test.YtfckeeglbhlnmaaFpast
import Derived.Test.YtfckeeglbhlnmaaFstamp
namespace Go.Ark
open Go Go.Ab

def wire_Check_k3 (v_0 : Api_Version) (y4 : Bool) : Option Bool :=
  if y4 then
    if !v_0.Gone then
      some true
    else
      some (seq v_0.Value ByteArray.empty)
  else
    some false

def wire_Check_k2 (v_0 : Api_Version) (y3 : Bool) : Option Bool :=
  if y3 then
    wire_Check_k3 v_0 (decide ((v_0.Value.size : Int) ≤ 32))
  else
    wire_Check_k3 v_0 false

def wire_Check_k1 (v_0 : Api_Version) (y2 : Bool) : Option Bool :=
  if y2 then
    (past_Check v_0.Past).bind fun r11 =>
    wire_Check_k2 v_0 r11
  else
    wire_Check_k2 v_0 false

def wire_Check (v_0 : Api_Version) : Option Bool :=
  (keys_Check v_0.Key).bind fun r1 =>
  if r1 then
    (stamp_Check v_0.Stamp).bind fun r14 =>
    wire_Check_k1 v_0 r14
  else
    wire_Check_k1 v_0 false
end Go.Ark
