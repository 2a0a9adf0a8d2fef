/- Typed functions, printed by a program of mine out of the translated code. -/
import Derived.Test.YtdngcojjipaajaaFT
namespace Go.Ark
open Go Go.Ab

def ref02_long_k2 (c_0 : Int) (y4 : Bool) : Option Int :=
  if y4 then
    some 3
  else
    if decide (240 ≤ c_0) then
      if decide (c_0 ≤ 244) then
        some 4
      else
        some 0
    else
      some 0

def ref02_long_k1 (c_0 : Int) (y2 : Bool) : Option Int :=
  if y2 then
    some 2
  else
    if decide (224 ≤ c_0) then
      ref02_long_k2 c_0 (decide (c_0 ≤ 239))
    else
      ref02_long_k2 c_0 false

def ref02_long (c_0 : Int) : Option Int :=
  if decide (c_0 < 128) then
    some 1
  else
    if decide (194 ≤ c_0) then
      ref02_long_k1 c_0 (decide (c_0 ≤ 223))
    else
      ref02_long_k1 c_0 false

def ref02_Runes_k1 (y1 : Int) : Option Int :=
  some y1

def ref02_Runes_k5 (again5 : Int × Int → Option Int) (v3 : Int × Int) (r9 : Int) (y13 : Bool) : Option Int :=
  if y13 then
    some (-1)
  else
    again5 (IntKind.wrap .i64 (v3.1 + 1), IntKind.wrap .i64 (v3.2 + r9))

def ref02_Runes_k8 (s_0 : ByteArray) (again5 : Int × Int → Option Int) (v3 : Int × Int) (r9 : Int) (y19 : Bool) : Option Int :=
  if y19 then
    ref02_Runes_k5 again5 v3 r9 true
  else
    (sidx s_0 v3.2).bind fun b21 =>
    if decide ((b21.toNat : Int) = 244) then
      (sidx s_0 (IntKind.wrap .i64 (v3.2 + 1))).bind fun b23 =>
      ref02_Runes_k5 again5 v3 r9 (decide (143 < (b23.toNat : Int)))
    else
      ref02_Runes_k5 again5 v3 r9 false

def ref02_Runes_k7 (s_0 : ByteArray) (again5 : Int × Int → Option Int) (v3 : Int × Int) (r9 : Int) (y18 : Bool) : Option Int :=
  if y18 then
    ref02_Runes_k8 s_0 again5 v3 r9 true
  else
    (sidx s_0 v3.2).bind fun b26 =>
    if decide ((b26.toNat : Int) = 240) then
      (sidx s_0 (IntKind.wrap .i64 (v3.2 + 1))).bind fun b28 =>
      ref02_Runes_k8 s_0 again5 v3 r9 (decide ((b28.toNat : Int) < 144))
    else
      ref02_Runes_k8 s_0 again5 v3 r9 false

def ref02_Runes_k6 (s_0 : ByteArray) (again5 : Int × Int → Option Int) (v3 : Int × Int) (r9 : Int) (y17 : Bool) : Option Int :=
  if y17 then
    ref02_Runes_k7 s_0 again5 v3 r9 true
  else
    (sidx s_0 v3.2).bind fun b31 =>
    if decide ((b31.toNat : Int) = 237) then
      (sidx s_0 (IntKind.wrap .i64 (v3.2 + 1))).bind fun b33 =>
      ref02_Runes_k7 s_0 again5 v3 r9 (decide (159 < (b33.toNat : Int)))
    else
      ref02_Runes_k7 s_0 again5 v3 r9 false

def ref02_Runes_k4 (s_0 : ByteArray) (again5 : Int × Int → Option Int) (v3 : Int × Int) (r9 : Int) (_y12 : Unit) : Option Int :=
  (sidx s_0 v3.2).bind fun b16 =>
  if decide ((b16.toNat : Int) = 224) then
    (sidx s_0 (IntKind.wrap .i64 (v3.2 + 1))).bind fun b36 =>
    ref02_Runes_k6 s_0 again5 v3 r9 (decide ((b36.toNat : Int) < 160))
  else
    ref02_Runes_k6 s_0 again5 v3 r9 false

def ref02_Runes_l9 (s_0 : ByteArray) (again5 : Int × Int → Option Int) (v3 : Int × Int) (r9 : Int) (again40 : Int → Option Int) (v38 : Int) : Option Int :=
  if decide (v38 < r9) then
    (sidx s_0 (IntKind.wrap .i64 (v3.2 + v38))).bind fun b43 =>
    if decide ((b43.toNat : Int) < 128) then
      some (-1)
    else
      (sidx s_0 (IntKind.wrap .i64 (v3.2 + v38))).bind fun b45 =>
      if decide (191 < (b45.toNat : Int)) then
        some (-1)
      else
        again40 (IntKind.wrap .i64 (v38 + 1))
  else
    ref02_Runes_k4 s_0 again5 v3 r9 ()

def ref02_Runes_k3 (s_0 : ByteArray) (again5 : Int × Int → Option Int) (v3 : Int × Int) (r9 : Int) (y10 : Bool) : Option Int :=
  if y10 then
    some (-1)
  else
    loopF (ref02_Runes_l9 s_0 again5 v3 r9) FU 1

def ref02_Runes_l2 (s_0 : ByteArray) (again5 : Int × Int → Option Int) (v3 : Int × Int) : Option Int :=
  if decide (v3.2 < (s_0.size : Int)) then
    (sidx s_0 v3.2).bind fun b8 =>
    (ref02_long (b8.toNat : Int)).bind fun r9 =>
    if decide (r9 = 0) then
      ref02_Runes_k3 s_0 again5 v3 r9 true
    else
      ref02_Runes_k3 s_0 again5 v3 r9 (decide ((IntKind.wrap .i64 ((s_0.size : Int) - v3.2)) < r9))
  else
    ref02_Runes_k1 v3.1

def ref02_Runes (s_0 : ByteArray) : Option Int :=
  loopF (ref02_Runes_l2 s_0) FU (0, 0)

def ref02_Check_k1 (r1 : Int) (_y2 : Unit) : Option Bool :=
  if decide (1 ≤ r1) then
    some (decide (r1 ≤ 8))
  else
    some false

def ref02_Check_l2 (s_0 : ByteArray) (r1 : Int) (again7 : Int → Option Bool) (v5 : Int) : Option Bool :=
  if decide (v5 < (s_0.size : Int)) then
    (sidx s_0 v5).bind fun b10 =>
    if decide ((b10.toNat : Int) < 33) then
      some false
    else
      again7 (IntKind.wrap .i64 (v5 + 1))
  else
    ref02_Check_k1 r1 ()

def ref02_Check (s_0 : ByteArray) : Option Bool :=
  (ref02_Runes s_0).bind fun r1 =>
  loopF (ref02_Check_l2 s_0 r1) FU 0

end Go.Ark
