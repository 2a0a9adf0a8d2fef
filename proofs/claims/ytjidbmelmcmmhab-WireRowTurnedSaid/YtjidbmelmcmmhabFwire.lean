/- Typed functions, printed by a program of mine out of the translated code. -/
import Derived.Test.YtjidbmelmcmmhabFT
import Derived.Test.YtjidbmelmcmmhabFkeys
import Derived.Test.YtjidbmelmcmmhabFlib
import Derived.Test.YtjidbmelmcmmhabFpast
import Derived.Test.YtjidbmelmcmmhabFstamp
import Derived.Test.YtjidbmelmcmmhabFvary
namespace Go.Ark
open Go Go.Ab

def wire_reader_moves (r_0 : Wire_reader) (end_1 : Int) (ok_2 : Bool) : Option Wire_reader :=
  if r_0.bad then
    some (Wire_reader.mk r_0.s end_1 true)
  else
    some (Wire_reader.mk r_0.s end_1 (!ok_2))

def wire_reader_text (r_0 : Wire_reader) (most_1 : Int) : Option (Wire_reader × ByteArray) :=
  (vary_ReadText r_0.s r_0.at_ most_1).bind fun r1 =>
  (wire_reader_moves r_0 r1.2.1 r1.2.2).bind fun r2 =>
  some (r2, r1.1)

def wire_reader_number_k1 (r1 : (Int × Int × Bool)) (y2 : ByteArray × Int × Bool) : Option (Wire_reader × Int) :=
  if y2.2.2 then
    some ((Wire_reader.mk y2.1 y2.2.1 y2.2.2), 0)
  else
    some ((Wire_reader.mk y2.1 y2.2.1 y2.2.2), IntKind.wrap .i64 r1.1)

def wire_reader_number (r_0 : Wire_reader) (most_1 : Int) : Option (Wire_reader × Int) :=
  (vary_Read r_0.s r_0.at_).bind fun r1 =>
  if r1.2.2 then
    (wire_reader_moves r_0 r1.2.1 (decide (r1.1 ≤ most_1))).bind fun r6 =>
    wire_reader_number_k1 r1 (r6.s, r6.at_, r6.bad)
  else
    (wire_reader_moves r_0 r1.2.1 false).bind fun r7 =>
    wire_reader_number_k1 r1 (r7.s, r7.at_, r7.bad)

def wire_reader_done (r_0 : Wire_reader) : Option (Wire_reader × Bool) :=
  if !r_0.bad then
    some (r_0, decide (r_0.at_ = (r_0.s.size : Int)))
  else
    some (r_0, false)

def wire_Check_k3 (v_0 : Api_Version) (y4 : Bool) : Option Bool :=
  if y4 then
    if !v_0.Gone then
      some true
    else
      some (seq v_0.Value ByteArray.empty)
  else
    some false

def wire_Check_k2 (v_0 : Api_Version) (y3 : Bool) : Option Bool :=
  if y3 then
    wire_Check_k3 v_0 (decide ((v_0.Value.size : Int) ≤ 32))
  else
    wire_Check_k3 v_0 false

def wire_Check_k1 (v_0 : Api_Version) (y2 : Bool) : Option Bool :=
  if y2 then
    (past_Check v_0.Past).bind fun r11 =>
    wire_Check_k2 v_0 r11
  else
    wire_Check_k2 v_0 false

def wire_Check (v_0 : Api_Version) : Option Bool :=
  (keys_Check v_0.Key).bind fun r1 =>
  if r1 then
    (stamp_Check v_0.Stamp).bind fun r14 =>
    wire_Check_k1 v_0 r14
  else
    wire_Check_k1 v_0 false

def wire_Read_k2 (r1 : (Wire_reader × ByteArray)) (r3 : (Wire_reader × Int)) (r5 : (Wire_reader × ByteArray)) (r7 : (Api_Stamp × Int × Bool)) (r8 : ((List Api_Dep) × Int × Bool)) (y10 : Bool) : Option (Api_Version × Bool) :=
  if y10 then
    some ((Api_Version.mk ByteArray.empty ByteArray.empty false (Api_Stamp.mk 0 0) ([] : (List Api_Dep))), false)
  else
    some ((Api_Version.mk r1.2 r5.2 (decide (r3.2 = 1)) r7.1 r8.1), true)

def wire_Read_k1 (r1 : (Wire_reader × ByteArray)) (r3 : (Wire_reader × Int)) (r5 : (Wire_reader × ByteArray)) (r7 : (Api_Stamp × Int × Bool)) (r8 : ((List Api_Dep) × Int × Bool)) (y9 : ByteArray × Int × Bool) : Option (Api_Version × Bool) :=
  (wire_reader_done (Wire_reader.mk y9.1 y9.2.1 y9.2.2)).bind fun r13 =>
  if !r13.2 then
    wire_Read_k2 r1 r3 r5 r7 r8 true
  else
    (wire_Check (Api_Version.mk r1.2 r5.2 (decide (r3.2 = 1)) r7.1 r8.1)).bind fun r15 =>
    wire_Read_k2 r1 r3 r5 r7 r8 (!r15)

def wire_Read (s_0 : ByteArray) : Option (Api_Version × Bool) :=
  (wire_reader_text (Wire_reader.mk s_0 0 false) 32).bind fun r1 =>
  if r1.1.bad then
    some ((Api_Version.mk ByteArray.empty ByteArray.empty false (Api_Stamp.mk 0 0) ([] : (List Api_Dep))), false)
  else
    (wire_reader_number r1.1 1).bind fun r3 =>
    if r3.1.bad then
      some ((Api_Version.mk ByteArray.empty ByteArray.empty false (Api_Stamp.mk 0 0) ([] : (List Api_Dep))), false)
    else
      (wire_reader_text r3.1 32).bind fun r5 =>
      if r5.1.bad then
        some ((Api_Version.mk ByteArray.empty ByteArray.empty false (Api_Stamp.mk 0 0) ([] : (List Api_Dep))), false)
      else
        (stamp_Read s_0 r5.1.at_).bind fun r7 =>
        (past_Read s_0 r7.2.1).bind fun r8 =>
        if r7.2.2 then
          (wire_reader_moves r5.1 r8.2.1 r8.2.2).bind fun r18 =>
          wire_Read_k1 r1 r3 r5 r7 r8 (r18.s, r18.at_, r18.bad)
        else
          (wire_reader_moves r5.1 r8.2.1 false).bind fun r19 =>
          wire_Read_k1 r1 r3 r5 r7 r8 (r19.s, r19.at_, r19.bad)

def wire_Bytes_k1 (v_0 : Api_Version) (y3 : Int) : Option ByteArray :=
  (vary_Text v_0.Key).bind fun r4 =>
  (vary_Number y3).bind fun r5 =>
  (vary_Text v_0.Value).bind fun r6 =>
  (stamp_Bytes v_0.Stamp).bind fun r7 =>
  (past_Bytes v_0.Past).bind fun r8 =>
  (strings_Join ([r4, r5, r6, r7, r8]) ByteArray.empty).bind fun r9 =>
  some r9

def wire_Bytes (v_0 : Api_Version) : Option ByteArray :=
  (wire_Check v_0).bind fun r1 =>
  if !r1 then
    some ByteArray.empty
  else
    if v_0.Gone then
      wire_Bytes_k1 v_0 1
    else
      wire_Bytes_k1 v_0 0

def wire_Same_k3 (a_0 : Api_Version) (b_1 : Api_Version) (y3 : Bool) : Option Bool :=
  if y3 then
    (past_Same a_0.Past b_1.Past).bind fun r5 =>
    some r5
  else
    some false

def wire_Same_k2 (a_0 : Api_Version) (b_1 : Api_Version) (y2 : Bool) : Option Bool :=
  if y2 then
    wire_Same_k3 a_0 b_1 (decide (a_0.Stamp.N = b_1.Stamp.N) && decide (a_0.Stamp.Site = b_1.Stamp.Site))
  else
    wire_Same_k3 a_0 b_1 false

def wire_Same_k1 (a_0 : Api_Version) (b_1 : Api_Version) (y1 : Bool) : Option Bool :=
  if y1 then
    wire_Same_k2 a_0 b_1 (a_0.Gone == b_1.Gone)
  else
    wire_Same_k2 a_0 b_1 false

def wire_Same (a_0 : Api_Version) (b_1 : Api_Version) : Option Bool :=
  if seq a_0.Key b_1.Key then
    wire_Same_k1 a_0 b_1 (seq a_0.Value b_1.Value)
  else
    wire_Same_k1 a_0 b_1 false

def wire_written_1 (p_0 : Int) : Option Bool :=
  if decide (p_0 < (-1)) then
    some true
  else
    some (decide (6 ≤ p_0))

def wire_written_2 (o_0 : Int) (c0 : Int) : Option Bool :=
  if decide (o_0 < 1) then
    some true
  else
    chk (decide (0 ≤ c0)) (
    some (!decide ((Int.fdiv o_0 (2 ^ min (Int.toNat c0) (IntKind.bits .i64))) = 0)))

def wire_written_k1 (c_0 : Api_Row) (y1 : Bool) : Option Bool :=
  if y1 then
    some false
  else
    (slices_ContainsFunc_int c_0.Parents (fun x0 => wire_written_1 x0)).bind fun r3 =>
    if !r3 then
      (slices_ContainsFunc_int c_0.Owners (fun x0 => wire_written_2 x0 (c_0.Parents.length : Int))).bind fun r5 =>
      some (!r5)
    else
      some false

def wire_written_k4 (c_0 : Api_Row) (y9 : Bool) : Option Bool :=
  if y9 then
    wire_written_k1 c_0 true
  else
    (keys_Whole c_0.Ranges).bind fun r11 =>
    wire_written_k1 c_0 (!r11)

def wire_written_k3 (c_0 : Api_Row) (y8 : Bool) : Option Bool :=
  if y8 then
    wire_written_k4 c_0 true
  else
    wire_written_k4 c_0 (!decide ((c_0.Owners.length : Int) = (c_0.Ranges.length : Int)))

def wire_written_k2 (c_0 : Api_Row) (y7 : Bool) : Option Bool :=
  if y7 then
    wire_written_k3 c_0 true
  else
    wire_written_k3 c_0 (decide (8 < (c_0.Ranges.length : Int)))

def wire_written (c_0 : Api_Row) : Option Bool :=
  if decide ((c_0.Parents.length : Int) < 1) then
    wire_written_k2 c_0 true
  else
    wire_written_k2 c_0 (decide (6 < (c_0.Parents.length : Int)))

def wire_RowBytes_k3 (y6 : ByteArray) (y9 : (List Int)) : Option ByteArray :=
  (bld_String y6).bind fun r10 =>
  (vary_Join y9).bind fun r11 =>
  (scat r10 r11).bind fun s12 =>
  some s12

def wire_RowBytes_l4 (c_0 : Api_Row) (y6 : ByteArray) (again16 : Int × (List Int) → Option ByteArray) (v14 : Int × (List Int)) : Option ByteArray :=
  if decide (v14.1 < (c_0.Parents.length : Int)) then
    (idx c_0.Parents v14.1).bind fun x19 =>
    (app 8 v14.2 ([IntKind.wrap .u64 (IntKind.wrap .i64 (x19 + 1))])).bind fun l20 =>
    again16 (IntKind.wrap .i64 (v14.1 + 1), l20)
  else
    wire_RowBytes_k3 y6 v14.2

def wire_RowBytes_k2 (c_0 : Api_Row) (y6 : ByteArray) (y7 : (List Int)) : Option ByteArray :=
  (app 8 y7 ([IntKind.wrap .u64 (c_0.Parents.length : Int)])).bind fun l8 =>
  loopF (wire_RowBytes_l4 c_0 y6) FU (0, l8)

def wire_RowBytes_l5 (c_0 : Api_Row) (y6 : ByteArray) (again24 : Int × (List Int) → Option ByteArray) (v22 : Int × (List Int)) : Option ByteArray :=
  if decide (v22.1 < (c_0.Owners.length : Int)) then
    (idx c_0.Owners v22.1).bind fun x27 =>
    (app 8 v22.2 ([IntKind.wrap .u64 x27])).bind fun l28 =>
    again24 (IntKind.wrap .i64 (v22.1 + 1), l28)
  else
    wire_RowBytes_k2 c_0 y6 v22.2

def wire_RowBytes_k1 (c_0 : Api_Row) (y6 : ByteArray) : Option ByteArray :=
  loopF (wire_RowBytes_l5 c_0 y6) FU (0, ([] : (List Int)))

def wire_RowBytes_l6 (c_0 : Api_Row) (l5 : (List Api_Range)) (again32 : Int × ByteArray → Option ByteArray) (v30 : Int × ByteArray) : Option ByteArray :=
  if decide (v30.1 < (l5.length : Int)) then
    (idx l5 v30.1).bind fun x35 =>
    (vary_Text x35.To).bind fun r36 =>
    (bld_WriteString v30.2 r36).bind fun r37 =>
    again32 (IntKind.wrap .i64 (v30.1 + 1), r37)
  else
    wire_RowBytes_k1 c_0 v30.2

def wire_RowBytes (c_0 : Api_Row) : Option ByteArray :=
  (wire_written c_0).bind fun r1 =>
  if !r1 then
    some ByteArray.empty
  else
    (vary_Number (IntKind.wrap .u64 (c_0.Ranges.length : Int))).bind fun r3 =>
    (bld_WriteString ByteArray.empty r3).bind fun r4 =>
    (sub c_0.Ranges 0 (IntKind.wrap .i64 ((c_0.Ranges.length : Int) - 1))).bind fun l5 =>
    loopF (wire_RowBytes_l6 c_0 l5) FU (0, r4)

def wire_many_k1 (y1 : ByteArray × Int × Bool × (List Int)) : Option (Wire_reader × (List Int)) :=
  some ((Wire_reader.mk y1.1 y1.2.1 y1.2.2.1), y1.2.2.2)

def wire_many_l2 (n_0 : Int) (most_1 : Int) (again5 : Int × ByteArray × Int × Bool × (List Int) → Option (Wire_reader × (List Int))) (v3 : Int × ByteArray × Int × Bool × (List Int)) : Option (Wire_reader × (List Int)) :=
  if decide (v3.1 < n_0) then
    (wire_reader_number (Wire_reader.mk v3.2.1 v3.2.2.1 v3.2.2.2.1) most_1).bind fun r8 =>
    (app 8 v3.2.2.2.2 ([r8.2])).bind fun l9 =>
    again5 (IntKind.wrap .i64 (v3.1 + 1), r8.1.s, r8.1.at_, r8.1.bad, l9)
  else
    wire_many_k1 (v3.2.1, v3.2.2.1, v3.2.2.2.1, v3.2.2.2.2)

def wire_many (n_0 : Int) (most_1 : Int) (number_2 : Wire_reader) : Option (Wire_reader × (List Int)) :=
  loopF (wire_many_l2 n_0 most_1) FU (0, number_2.s, number_2.at_, number_2.bad, ([] : (List Int)))

def wire_ReadRow_k4 (y11 : Bool × (List Api_Range) × (List Int) × (List Int)) : Option (Api_Row × Bool) :=
  if y11.1 then
    some ((Api_Row.mk ([] : (List Api_Range)) ([] : (List Int)) ([] : (List Int))), false)
  else
    some ((Api_Row.mk y11.2.1 y11.2.2.1 y11.2.2.2), true)

def wire_ReadRow_k3 (l5 : (List Api_Range)) (r6 : (Wire_reader × (List Int))) (r9 : (Wire_reader × (List Int))) (y10 : (List Int)) : Option (Api_Row × Bool) :=
  (wire_reader_done r9.1).bind fun r14 =>
  if !r14.2 then
    wire_ReadRow_k4 (true, l5, r6.2, y10)
  else
    (wire_written (Api_Row.mk l5 r6.2 y10)).bind fun r16 =>
    wire_ReadRow_k4 (!r16, l5, r6.2, y10)

def wire_ReadRow_l5 (l5 : (List Api_Range)) (r6 : (Wire_reader × (List Int))) (r9 : (Wire_reader × (List Int))) (again20 : Int × (List Int) → Option (Api_Row × Bool)) (v18 : Int × (List Int)) : Option (Api_Row × Bool) :=
  if decide (v18.1 < (r9.2.length : Int)) then
    (idx v18.2 v18.1).bind fun x23 =>
    (idx v18.2 v18.1).bind fun _x24 =>
    (sets v18.2 v18.1 (IntKind.wrap .i64 (x23 - 1))).bind fun l25 =>
    again20 (IntKind.wrap .i64 (v18.1 + 1), l25)
  else
    wire_ReadRow_k3 l5 r6 r9 v18.2

def wire_ReadRow_k2 (r1 : (Wire_reader × Int)) (y4 : ByteArray × ByteArray × Int × Bool × (List Api_Range)) : Option (Api_Row × Bool) :=
  (app 32 y4.2.2.2.2 ([(Api_Range.mk y4.1 ByteArray.empty)])).bind fun l5 =>
  (wire_many r1.2 63 (Wire_reader.mk y4.2.1 y4.2.2.1 y4.2.2.2.1)).bind fun r6 =>
  if r6.1.bad then
    some ((Api_Row.mk ([] : (List Api_Range)) ([] : (List Int)) ([] : (List Int))), false)
  else
    (wire_reader_number r6.1 6).bind fun r8 =>
    (wire_many r8.2 6 r8.1).bind fun r9 =>
    loopF (wire_ReadRow_l5 l5 r6 r9) FU (0, r9.2)

def wire_ReadRow_k7 (again29 : ByteArray × Int × ByteArray × Int × Bool × (List Api_Range) → Option (Api_Row × Bool)) (v27 : ByteArray × Int × ByteArray × Int × Bool × (List Api_Range)) (r32 : (Wire_reader × ByteArray)) (y33 : Bool) : Option (Api_Row × Bool) :=
  if y33 then
    some ((Api_Row.mk ([] : (List Api_Range)) ([] : (List Int)) ([] : (List Int))), false)
  else
    (app 32 v27.2.2.2.2.2 ([(Api_Range.mk v27.1 r32.2)])).bind fun l35 =>
    again29 (r32.2, IntKind.wrap .i64 (v27.2.1 + 1), r32.1.s, r32.1.at_, r32.1.bad, l35)

def wire_ReadRow_l6 (r1 : (Wire_reader × Int)) (again29 : ByteArray × Int × ByteArray × Int × Bool × (List Api_Range) → Option (Api_Row × Bool)) (v27 : ByteArray × Int × ByteArray × Int × Bool × (List Api_Range)) : Option (Api_Row × Bool) :=
  if decide (v27.2.1 < (IntKind.wrap .i64 (r1.2 - 1))) then
    (wire_reader_text (Wire_reader.mk v27.2.2.1 v27.2.2.2.1 v27.2.2.2.2.1) 32).bind fun r32 =>
    if r32.1.bad then
      wire_ReadRow_k7 again29 v27 r32 true
    else
      wire_ReadRow_k7 again29 v27 r32 (seq r32.2 ByteArray.empty)
  else
    wire_ReadRow_k2 r1 (v27.1, v27.2.2.1, v27.2.2.2.1, v27.2.2.2.2.1, v27.2.2.2.2.2)

def wire_ReadRow_k1 (r1 : (Wire_reader × Int)) (y2 : Bool) : Option (Api_Row × Bool) :=
  if y2 then
    some ((Api_Row.mk ([] : (List Api_Range)) ([] : (List Int)) ([] : (List Int))), false)
  else
    loopF (wire_ReadRow_l6 r1) FU (ByteArray.empty, 0, r1.1.s, r1.1.at_, r1.1.bad, ([] : List Api_Range))

def wire_ReadRow (s_0 : ByteArray) : Option (Api_Row × Bool) :=
  (wire_reader_number (Wire_reader.mk s_0 0 false) 8).bind fun r1 =>
  if r1.1.bad then
    wire_ReadRow_k1 r1 true
  else
    wire_ReadRow_k1 r1 (decide (r1.2 = 0))
end Go.Ark
