/- Typed functions, printed by a program of mine out of the translated code. -/
import Derived.Test.YtdngcojjipaajaaFT
import Derived.Test.YtdngcojjipaajaaAbB
import Derived.Test.YtdngcojjipaajaaFkeys
import Derived.Test.YtdngcojjipaajaaFlib
import Derived.Test.YtdngcojjipaajaaFpast
import Derived.Test.YtdngcojjipaajaaFstamp
namespace Go.Ark
open Go Go.Ab

def history_row_k1 (_y1 : Unit) : Option Bool :=
  some true

def history_row_l2 (p_0 : (List Api_Dep)) (again5 : Int → Option Bool) (v3 : Int) : Option Bool :=
  if decide (v3 < (p_0.length : Int)) then
    (idx p_0 v3).bind fun x8 =>
    (keys_Check x8.Key).bind fun r9 =>
    if !r9 then
      some false
    else
      (stamp_Check x8.Stamp).bind fun r11 =>
      if !r11 then
        some false
      else
        if decide (0 < v3) then
          (idx p_0 (IntKind.wrap .i64 (v3 - 1))).bind fun x14 =>
          if !slt x14.Key x8.Key then
            some false
          else
            again5 (IntKind.wrap .i64 (v3 + 1))
        else
          again5 (IntKind.wrap .i64 (v3 + 1))
  else
    history_row_k1 ()

def history_row (p_0 : (List Api_Dep)) : Option Bool :=
  loopF (history_row_l2 p_0) FU 0

def kindN (k : Int) : Nat := if k = 1 then 77 else if k = 2 then 80 else 0

def history_book_right_1 (d_0 : Api_Dep) (c0 : Api_Event) : Option Bool :=
  (stamp_Less d_0.Stamp c0.Stamp).bind fun r1 =>
  some (!r1)

abbrev keyApi_Stamp (x : Api_Stamp) : Value := .agg #[.int .i64 x.N, .int .i64 x.Site]

abbrev agL_encS (x : (List ByteArray)) : AG := .d (.sl 1 (List.map encS x))

abbrev keyI64 (n : Int) : Value := Value.int .i64 n

abbrev agL_encApi_Dep (x : (List Api_Dep)) : AG := .d (.sl 3 (List.map encApi_Dep x))

def history_book_right_k2 (e_1 : Api_Event) (y5 : Bool) : Option Bool :=
  if y5 then
    (slices_ContainsFunc_Dep e_1.Seen (fun x0 => history_book_right_1 x0 e_1)).bind fun r7 =>
    some (!r7)
  else
    some false

def history_book_right_k1 (m0_0 : (List (Api_Stamp × (List ByteArray)))) (e_1 : Api_Event) (y1 : Bool) : Option Bool :=
  if y1 then
    some false
  else
    if decide (kindN e_1.Kind = 77) then
      (stamp_Check e_1.Stamp).bind fun r4 =>
      if r4 then
        history_book_right_k2 e_1 (decide ((((mget m0_0 e_1.Stamp).getD []).length : Int) = 0))
      else
        history_book_right_k2 e_1 false
    else
      if decide (kindN e_1.Kind = 80) then
        (past_Get e_1.Seen e_1.Key).bind fun r11 =>
        (stamp_Less e_1.Stamp r11).bind fun r12 =>
        if !r12 then
          if (decide (e_1.Stamp.N = 0) && decide (e_1.Stamp.Site = 0)) then
            some true
          else
            (slices_Contains_string ((mget m0_0 e_1.Stamp).getD []) e_1.Key).bind fun r15 =>
            some r15
        else
          some false
      else
        some false

def history_book_right (m0_0 : (List (Api_Stamp × (List ByteArray)))) (m1_0 : (List (Int × (List Api_Dep)))) (e_1 : Api_Event) : Option Bool :=
  (keys_Check e_1.Key).bind fun r17 =>
  if !r17 then
    history_book_right_k1 m0_0 e_1 true
  else
    (history_row e_1.Seen).bind fun r19 =>
    if !r19 then
      history_book_right_k1 m0_0 e_1 true
    else
      (past_Covers e_1.Seen ((mget m1_0 e_1.Client).getD [])).bind fun r21 =>
      history_book_right_k1 m0_0 e_1 (!r21)

def history_Behind_k1 (l_0 : (List Api_Event)) (i_1 : Int) (y1 : Bool) : Option (List Api_Dep) :=
  if y1 then
    some ([] : (List Api_Dep))
  else
    (idx l_0 i_1).bind fun x3 =>
    (idx l_0 i_1).bind fun x4 =>
    (idx l_0 i_1).bind fun x5 =>
    (past_Merge ([x3.Seen, [(Api_Dep.mk x4.Key x5.Stamp)]])).bind fun r6 =>
    some r6

def history_Behind (l_0 : (List Api_Event)) (i_1 : Int) : Option (List Api_Dep) :=
  if decide (i_1 < 0) then
    history_Behind_k1 l_0 i_1 true
  else
    history_Behind_k1 l_0 i_1 (decide ((l_0.length : Int) ≤ i_1))

def history_Check_k1 (y1 : Int) : Option Int :=
  some y1

def history_Check_k3 (l_0 : (List Api_Event)) (again5 : Int × (List (Api_Stamp × (List ByteArray))) × (List (Int × (List Api_Dep))) → Option Int) (v3 : Int × (List (Api_Stamp × (List ByteArray))) × (List (Int × (List Api_Dep)))) (x8 : Api_Event) (y11 : (List (Api_Stamp × (List ByteArray)))) : Option Int :=
  (history_Behind l_0 v3.1).bind fun r12 =>
  again5 (IntKind.wrap .i64 (v3.1 + 1), y11, mset v3.2.2 x8.Client r12)

def history_Check_l2 (l_0 : (List Api_Event)) (again5 : Int × (List (Api_Stamp × (List ByteArray))) × (List (Int × (List Api_Dep))) → Option Int) (v3 : Int × (List (Api_Stamp × (List ByteArray))) × (List (Int × (List Api_Dep)))) : Option Int :=
  if decide (v3.1 < (l_0.length : Int)) then
    (idx l_0 v3.1).bind fun x8 =>
    (history_book_right v3.2.1 v3.2.2 x8).bind fun r9 =>
    if !r9 then
      history_Check_k1 v3.1
    else
      if decide (x8.Kind = 1) then
        chk ((mget v3.2.1 x8.Stamp).isNone) (
        (app 16 ([] : (List ByteArray)) ([x8.Key])).bind fun l16 =>
        history_Check_k3 l_0 again5 v3 x8 (v3.2.1 ++ [(x8.Stamp, l16)]))
      else
        history_Check_k3 l_0 again5 v3 x8 v3.2.1
  else
    history_Check_k1 (-1)

def history_Check (l_0 : (List Api_Event)) : Option Int :=
  loopF (history_Check_l2 l_0) FU (0, ([] : (List (Api_Stamp × (List ByteArray)))), ([] : (List (Int × (List Api_Dep)))))

def history_Writes_k1 (y1 : (List Api_Stamp)) : Option (List Api_Stamp) :=
  some y1

def history_Writes_k3 (again5 : Int × (List Api_Stamp) → Option (List Api_Stamp)) (v3 : Int × (List Api_Stamp)) (x8 : Api_Event) (y9 : Bool) : Option (List Api_Stamp) :=
  if y9 then
    (app 16 v3.2 ([x8.Stamp])).bind fun l11 =>
    again5 (IntKind.wrap .i64 (v3.1 + 1), l11)
  else
    again5 (IntKind.wrap .i64 (v3.1 + 1), v3.2)

def history_Writes_l2 (l_0 : (List Api_Event)) (key_1 : ByteArray) (again5 : Int × (List Api_Stamp) → Option (List Api_Stamp)) (v3 : Int × (List Api_Stamp)) : Option (List Api_Stamp) :=
  if decide (v3.1 < (l_0.length : Int)) then
    (idx l_0 v3.1).bind fun x8 =>
    if decide (x8.Kind = 1) then
      history_Writes_k3 again5 v3 x8 (seq x8.Key key_1)
    else
      history_Writes_k3 again5 v3 x8 false
  else
    history_Writes_k1 v3.2

def history_Writes (l_0 : (List Api_Event)) (key_1 : ByteArray) : Option (List Api_Stamp) :=
  loopF (history_Writes_l2 l_0 key_1) FU (0, ([] : (List Api_Stamp)))

def history_Greatest (l_0 : (List Api_Event)) (key_1 : ByteArray) : Option Api_Stamp :=
  (history_Writes l_0 key_1).bind fun r1 =>
  (stamp_Max r1).bind fun r2 =>
  some r2

def history_Of_1 (e_0 : Api_Event) (c0 : Int) : Option Bool :=
  some (!decide (e_0.Client = c0))

def history_Of (l_0 : (List Api_Event)) (client_1 : Int) : Option (List Api_Event) :=
  (slices_Clone_Event l_0).bind fun r1 =>
  (slices_DeleteFunc_Event r1 (fun x0 => history_Of_1 x0 client_1)).bind fun r2 =>
  some r2
end Go.Ark
