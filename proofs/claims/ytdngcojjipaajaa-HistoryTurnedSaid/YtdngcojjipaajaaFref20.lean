/- Typed functions, printed by a program of mine out of the translated code. -/
import Derived.Test.YtdngcojjipaajaaFT
import Derived.Test.YtdngcojjipaajaaFref02
import Derived.Test.YtdngcojjipaajaaFref03
import Derived.Test.YtdngcojjipaajaaFref04
namespace Go.Ark
open Go Go.Ab

def ref20_Behind_k1 (l_0 : (List Api_Event)) (i_1 : Int) (y1 : Bool) : Option (List Api_Dep) :=
  if y1 then
    some ([] : (List Api_Dep))
  else
    (idx l_0 i_1).bind fun x3 =>
    (idx l_0 i_1).bind fun x4 =>
    (idx l_0 i_1).bind fun x5 =>
    (ref04_Merge ([x3.Seen, [(Api_Dep.mk x4.Key x5.Stamp)]])).bind fun r6 =>
    some r6

def ref20_Behind (l_0 : (List Api_Event)) (i_1 : Int) : Option (List Api_Dep) :=
  if decide (i_1 < 0) then
    ref20_Behind_k1 l_0 i_1 true
  else
    ref20_Behind_k1 l_0 i_1 (decide ((l_0.length : Int) ≤ i_1))

def ref20_Same_k1 (_y2 : Unit) : Option Bool :=
  some true

def ref20_Same_l2 (a_0 : (List Api_Event)) (b_1 : (List Api_Event)) (again6 : Int → Option Bool) (v4 : Int) : Option Bool :=
  if decide (v4 < (a_0.length : Int)) then
    (idx a_0 v4).bind fun x9 =>
    (idx b_1 v4).bind fun x10 =>
    (ref04_Same x9.Seen x10.Seen).bind fun r11 =>
    if !r11 then
      some false
    else
      (idx a_0 v4).bind fun x13 =>
      (idx b_1 v4).bind fun x14 =>
      if !decide (x13.Kind = x14.Kind) then
        some false
      else
        (idx a_0 v4).bind fun x16 =>
        (idx b_1 v4).bind fun x17 =>
        if !decide (x16.Client = x17.Client) then
          some false
        else
          (idx a_0 v4).bind fun x19 =>
          (idx b_1 v4).bind fun x20 =>
          if !seq x19.Key x20.Key then
            some false
          else
            (idx a_0 v4).bind fun x22 =>
            (idx b_1 v4).bind fun x23 =>
            if !(decide (x22.Stamp.N = x23.Stamp.N) && decide (x22.Stamp.Site = x23.Stamp.Site)) then
              some false
            else
              again6 (IntKind.wrap .i64 (v4 + 1))
  else
    ref20_Same_k1 ()

def ref20_Same (a_0 : (List Api_Event)) (b_1 : (List Api_Event)) : Option Bool :=
  if !decide ((a_0.length : Int) = (b_1.length : Int)) then
    some false
  else
    loopF (ref20_Same_l2 a_0 b_1) FU 0

def ref20_Writes_k1 (y1 : (List Api_Stamp)) : Option (List Api_Stamp) :=
  some y1

def ref20_Writes_k3 (l_0 : (List Api_Event)) (again5 : Int × (List Api_Stamp) → Option (List Api_Stamp)) (v3 : Int × (List Api_Stamp)) (y8 : Bool) : Option (List Api_Stamp) :=
  if y8 then
    (idx l_0 v3.1).bind fun x10 =>
    (app 16 v3.2 ([x10.Stamp])).bind fun l11 =>
    again5 (IntKind.wrap .i64 (v3.1 + 1), l11)
  else
    again5 (IntKind.wrap .i64 (v3.1 + 1), v3.2)

def ref20_Writes_l2 (l_0 : (List Api_Event)) (key_1 : ByteArray) (again5 : Int × (List Api_Stamp) → Option (List Api_Stamp)) (v3 : Int × (List Api_Stamp)) : Option (List Api_Stamp) :=
  if decide (v3.1 < (l_0.length : Int)) then
    (idx l_0 v3.1).bind fun x13 =>
    if decide (x13.Kind = 1) then
      (idx l_0 v3.1).bind fun x15 =>
      ref20_Writes_k3 l_0 again5 v3 (seq x15.Key key_1)
    else
      ref20_Writes_k3 l_0 again5 v3 false
  else
    ref20_Writes_k1 v3.2

def ref20_Writes (l_0 : (List Api_Event)) (key_1 : ByteArray) : Option (List Api_Stamp) :=
  loopF (ref20_Writes_l2 l_0 key_1) FU (0, ([] : (List Api_Stamp)))

def ref20_Of_k1 (y1 : (List Api_Event)) : Option (List Api_Event) :=
  some y1

def ref20_Of_l2 (l_0 : (List Api_Event)) (client_1 : Int) (again5 : Int × (List Api_Event) → Option (List Api_Event)) (v3 : Int × (List Api_Event)) : Option (List Api_Event) :=
  if decide (v3.1 < (l_0.length : Int)) then
    (idx l_0 v3.1).bind fun x8 =>
    if decide (x8.Client = client_1) then
      (idx l_0 v3.1).bind fun x10 =>
      (app 72 v3.2 ([x10])).bind fun l11 =>
      again5 (IntKind.wrap .i64 (v3.1 + 1), l11)
    else
      again5 (IntKind.wrap .i64 (v3.1 + 1), v3.2)
  else
    ref20_Of_k1 v3.2

def ref20_Of (l_0 : (List Api_Event)) (client_1 : Int) : Option (List Api_Event) :=
  loopF (ref20_Of_l2 l_0 client_1) FU (0, ([] : (List Api_Event)))

def ref20_row_k1 (_y1 : Unit) : Option Bool :=
  some true

def ref20_row_l2 (p_0 : (List Api_Dep)) (again5 : Int → Option Bool) (v3 : Int) : Option Bool :=
  if decide (v3 < (p_0.length : Int)) then
    (idx p_0 v3).bind fun x8 =>
    (ref02_Check x8.Key).bind fun r9 =>
    (idx p_0 v3).bind fun x10 =>
    (ref03_Check x10.Stamp).bind fun r11 =>
    if !r9 then
      some false
    else
      if !r11 then
        some false
      else
        if decide (0 < v3) then
          (idx p_0 (IntKind.wrap .i64 (v3 - 1))).bind fun x15 =>
          (idx p_0 v3).bind fun x16 =>
          if !slt x15.Key x16.Key then
            some false
          else
            again5 (IntKind.wrap .i64 (v3 + 1))
        else
          again5 (IntKind.wrap .i64 (v3 + 1))
  else
    ref20_row_k1 ()

def ref20_row (p_0 : (List Api_Dep)) : Option Bool :=
  loopF (ref20_row_l2 p_0) FU 0

def ref20_right_k3 (_y10 : Unit) : Option Bool :=
  some false

def ref20_right_k4 (y6 : Bool × Int) (r13 : Bool) (_y14 : Unit) : Option Bool :=
  if r13 then
    some (!y6.1)
  else
    some false

def ref20_right_l5 (x1 : Api_Event) (y6 : Bool × Int) (r13 : Bool) (again19 : Int → Option Bool) (v17 : Int) : Option Bool :=
  if decide (v17 < (x1.Seen.length : Int)) then
    (idx x1.Seen v17).bind fun x22 =>
    (ref03_Less x22.Stamp x1.Stamp).bind fun r23 =>
    if !r23 then
      some false
    else
      again19 (IntKind.wrap .i64 (v17 + 1))
  else
    ref20_right_k4 y6 r13 ()

def ref20_right_k6 (x1 : Api_Event) (y6 : Bool × Int) (y26 : Bool) : Option Bool :=
  (ref04_Get x1.Seen x1.Key).bind fun r27 =>
  (ref03_Less x1.Stamp r27).bind fun r28 =>
  if !r28 then
    if y26 then
      some true
    else
      some y6.1
  else
    some false

def ref20_right_k2 (l_0 : (List Api_Event)) (x1 : Api_Event) (y6 : Bool × Int) : Option Bool :=
  (ref20_Behind l_0 y6.2).bind fun r7 =>
  (ref04_Covers x1.Seen r7).bind fun r8 =>
  if !r8 then
    some false
  else
    if decide (x1.Kind = 1) then
      (ref03_Check x1.Stamp).bind fun r13 =>
      loopF (ref20_right_l5 x1 y6 r13) FU 0
    else
      if decide (x1.Kind = 2) then
        if decide (x1.Stamp.N = 0) then
          ref20_right_k6 x1 y6 (decide (x1.Stamp.Site = 0))
        else
          ref20_right_k6 x1 y6 false
      else
        ref20_right_k3 ()

def ref20_right_k9 (l_0 : (List Api_Event)) (x1 : Api_Event) (again36 : Bool × Int × Int → Option Bool) (v34 : Bool × Int × Int) (y40 : Bool) : Option Bool :=
  (idx l_0 v34.2.2).bind fun x41 =>
  if decide (x41.Client = x1.Client) then
    again36 (y40, v34.2.2, IntKind.wrap .i64 (v34.2.2 + 1))
  else
    again36 (y40, v34.2.1, IntKind.wrap .i64 (v34.2.2 + 1))

def ref20_right_k8 (l_0 : (List Api_Event)) (x1 : Api_Event) (again36 : Bool × Int × Int → Option Bool) (v34 : Bool × Int × Int) (y39 : Bool) : Option Bool :=
  if y39 then
    ref20_right_k9 l_0 x1 again36 v34 true
  else
    ref20_right_k9 l_0 x1 again36 v34 v34.1

def ref20_right_l7 (l_0 : (List Api_Event)) (i_1 : Int) (x1 : Api_Event) (again36 : Bool × Int × Int → Option Bool) (v34 : Bool × Int × Int) : Option Bool :=
  if decide (v34.2.2 < i_1) then
    (idx l_0 v34.2.2).bind fun x46 =>
    if decide (x46.Kind = 1) then
      (idx l_0 v34.2.2).bind fun x48 =>
      if (decide (x48.Stamp.N = x1.Stamp.N) && decide (x48.Stamp.Site = x1.Stamp.Site)) then
        if decide (x1.Kind = 1) then
          ref20_right_k8 l_0 x1 again36 v34 true
        else
          (idx l_0 v34.2.2).bind fun x51 =>
          ref20_right_k8 l_0 x1 again36 v34 (seq x51.Key x1.Key)
      else
        ref20_right_k8 l_0 x1 again36 v34 false
    else
      ref20_right_k8 l_0 x1 again36 v34 false
  else
    ref20_right_k2 l_0 x1 (v34.1, v34.2.1)

def ref20_right_k1 (l_0 : (List Api_Event)) (i_1 : Int) (x1 : Api_Event) (y4 : Bool) : Option Bool :=
  if y4 then
    some false
  else
    loopF (ref20_right_l7 l_0 i_1 x1) FU (false, (-1), 0)

def ref20_right (l_0 : (List Api_Event)) (i_1 : Int) : Option Bool :=
  (idx l_0 i_1).bind fun x1 =>
  (ref02_Check x1.Key).bind fun r2 =>
  (ref20_row x1.Seen).bind fun r3 =>
  if !r2 then
    ref20_right_k1 l_0 i_1 x1 true
  else
    ref20_right_k1 l_0 i_1 x1 (!r3)

def ref20_Check_k1 (_y1 : Unit) : Option Int :=
  some (-1)

def ref20_Check_l2 (l_0 : (List Api_Event)) (again5 : Int → Option Int) (v3 : Int) : Option Int :=
  if decide (v3 < (l_0.length : Int)) then
    (ref20_right l_0 v3).bind fun r8 =>
    if !r8 then
      some v3
    else
      again5 (IntKind.wrap .i64 (v3 + 1))
  else
    ref20_Check_k1 ()

def ref20_Check (l_0 : (List Api_Event)) : Option Int :=
  loopF (ref20_Check_l2 l_0) FU 0
end Go.Ark
