/- Typed functions, printed by a program of mine out of the translated code. -/
import Derived.Test.YtdngcojjipaajaaFT
namespace Go.Ark
open Go Go.Ab



def cmp_isNaN_string (x_0 : ByteArray) : Option Bool :=
  some (!seq x_0 x_0)

def cmp_Compare_string (x_0 : ByteArray) (y_1 : ByteArray) : Option Int :=
  (cmp_isNaN_string x_0).bind fun r1 =>
  (cmp_isNaN_string y_1).bind fun r2 =>
  if r1 then
    if r2 then
      some 0
    else
      some (-1)
  else
    if r2 then
      some 1
    else
      if slt x_0 y_1 then
        some (-1)
      else
        if !(slt x_0 y_1 || seq x_0 y_1) then
          some 1
        else
          some 0

def slices_BinarySearchFunc_string_k1 (x_0 : (List Api_Dep)) (target_1 : ByteArray) (cmp_2 : (Api_Dep → ByteArray → Option Int)) (y1 : Int) : Option (Int × Bool) :=
  if decide (y1 < (x_0.length : Int)) then
    (idx x_0 y1).bind fun x3 =>
    (cmp_2 x3 target_1).bind fun r4 =>
    some (y1, decide (r4 = 0))
  else
    some (y1, false)

def slices_BinarySearchFunc_string_l2 (x_0 : (List Api_Dep)) (target_1 : ByteArray) (cmp_2 : (Api_Dep → ByteArray → Option Int)) (again8 : Int × Int → Option (Int × Bool)) (v6 : Int × Int) : Option (Int × Bool) :=
  if decide (v6.1 < v6.2) then
    (idx x_0 (IntKind.wrap .i64 (Int.fdiv (IntKind.wrap .u64 (IntKind.wrap .i64 (v6.1 + v6.2))) (2 ^ min (Int.toNat 1) (IntKind.bits .u64))))).bind fun x11 =>
    (cmp_2 x11 target_1).bind fun r12 =>
    if decide (r12 < 0) then
      again8 (IntKind.wrap .i64 ((IntKind.wrap .i64 (Int.fdiv (IntKind.wrap .u64 (IntKind.wrap .i64 (v6.1 + v6.2))) (2 ^ min (Int.toNat 1) (IntKind.bits .u64)))) + 1), v6.2)
    else
      again8 (v6.1, IntKind.wrap .i64 (Int.fdiv (IntKind.wrap .u64 (IntKind.wrap .i64 (v6.1 + v6.2))) (2 ^ min (Int.toNat 1) (IntKind.bits .u64))))
  else
    slices_BinarySearchFunc_string_k1 x_0 target_1 cmp_2 v6.1

def slices_BinarySearchFunc_string (x_0 : (List Api_Dep)) (target_1 : ByteArray) (cmp_2 : (Api_Dep → ByteArray → Option Int)) : Option (Int × Bool) :=
  loopF (slices_BinarySearchFunc_string_l2 x_0 target_1 cmp_2) FU (0, (x_0.length : Int))

def slices_IndexFunc_Dep_k1 (_y1 : Unit) : Option Int :=
  some (-1)

def slices_IndexFunc_Dep_l2 (s_0 : (List Api_Dep)) (f_1 : (Api_Dep → Option Bool)) (again5 : Int → Option Int) (v3 : Int) : Option Int :=
  if decide (v3 < (s_0.length : Int)) then
    (idx s_0 v3).bind fun x8 =>
    (f_1 x8).bind fun r9 =>
    if r9 then
      some v3
    else
      again5 (IntKind.wrap .i64 (v3 + 1))
  else
    slices_IndexFunc_Dep_k1 ()

def slices_IndexFunc_Dep (s_0 : (List Api_Dep)) (f_1 : (Api_Dep → Option Bool)) : Option Int :=
  loopF (slices_IndexFunc_Dep_l2 s_0 f_1) FU 0

def slices_ContainsFunc_Dep (s_0 : (List Api_Dep)) (f_1 : (Api_Dep → Option Bool)) : Option Bool :=
  (slices_IndexFunc_Dep s_0 f_1).bind fun r1 =>
  some (decide (0 ≤ r1))

def slices_Index_string_k1 (_y1 : Unit) : Option Int :=
  some (-1)

def slices_Index_string_l2 (s_0 : (List ByteArray)) (v_1 : ByteArray) (again5 : Int → Option Int) (v3 : Int) : Option Int :=
  if decide (v3 < (s_0.length : Int)) then
    (idx s_0 v3).bind fun x8 =>
    if seq v_1 x8 then
      some v3
    else
      again5 (IntKind.wrap .i64 (v3 + 1))
  else
    slices_Index_string_k1 ()

def slices_Index_string (s_0 : (List ByteArray)) (v_1 : ByteArray) : Option Int :=
  loopF (slices_Index_string_l2 s_0 v_1) FU 0

def slices_Contains_string (s_0 : (List ByteArray)) (v_1 : ByteArray) : Option Bool :=
  (slices_Index_string s_0 v_1).bind fun r1 =>
  some (decide (0 ≤ r1))

def slices_Clone_Dep (s_0 : (List Api_Dep)) : Option (List Api_Dep) :=
  (app 32 ([] : List Api_Dep) s_0).bind fun l2 =>
  some l2

def slices_Insert_Dep (s_0 : List Api_Dep) (i_1 : Int) (v_2 : List Api_Dep) : Option (List Api_Dep) := insL 32 s_0 i_1 v_2

def slices_Clone_Event (s_0 : (List Api_Event)) : Option (List Api_Event) :=
  (app 72 ([] : List Api_Event) s_0).bind fun l2 =>
  some l2

def slices_IndexFunc_Event_k1 (_y1 : Unit) : Option Int :=
  some (-1)

def slices_IndexFunc_Event_l2 (s_0 : (List Api_Event)) (f_1 : (Api_Event → Option Bool)) (again5 : Int → Option Int) (v3 : Int) : Option Int :=
  if decide (v3 < (s_0.length : Int)) then
    (idx s_0 v3).bind fun x8 =>
    (f_1 x8).bind fun r9 =>
    if r9 then
      some v3
    else
      again5 (IntKind.wrap .i64 (v3 + 1))
  else
    slices_IndexFunc_Event_k1 ()

def slices_IndexFunc_Event (s_0 : (List Api_Event)) (f_1 : (Api_Event → Option Bool)) : Option Int :=
  loopF (slices_IndexFunc_Event_l2 s_0 f_1) FU 0

def slices_DeleteFunc_Event_k1 (y3 : Int × (List Api_Event)) : Option (List Api_Event) :=
  (zeroes y3.2 y3.1 (Api_Event.mk 0 0 ByteArray.empty (Api_Stamp.mk 0 0) ([] : (List Api_Dep)))).bind fun l4 =>
  (sub l4 0 y3.1).bind fun l5 =>
  some l5

def slices_DeleteFunc_Event_l2 (del_1 : (Api_Event → Option Bool)) (again9 : Int × Int × (List Api_Event) → Option (List Api_Event)) (v7 : Int × Int × (List Api_Event)) : Option (List Api_Event) :=
  if decide (v7.2.1 < (v7.2.2.length : Int)) then
    (idx v7.2.2 v7.2.1).bind fun x12 =>
    (del_1 x12).bind fun r13 =>
    if !r13 then
      (sets v7.2.2 v7.1 x12).bind fun l15 =>
      again9 (IntKind.wrap .i64 (v7.1 + 1), IntKind.wrap .i64 (v7.2.1 + 1), l15)
    else
      again9 (v7.1, IntKind.wrap .i64 (v7.2.1 + 1), v7.2.2)
  else
    slices_DeleteFunc_Event_k1 (v7.1, v7.2.2)

def slices_DeleteFunc_Event (s_0 : (List Api_Event)) (del_1 : (Api_Event → Option Bool)) : Option (List Api_Event) :=
  (slices_IndexFunc_Event s_0 del_1).bind fun r1 =>
  if decide (r1 = (-1)) then
    some s_0
  else
    loopF (slices_DeleteFunc_Event_l2 del_1) FU (r1, IntKind.wrap .i64 (r1 + 1), s_0)
end Go.Ark
