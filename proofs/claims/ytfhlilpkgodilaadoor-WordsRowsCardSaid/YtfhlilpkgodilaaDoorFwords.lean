/- Typed functions, printed by a program of mine out of the translated code. -/
import Derived.Test.YtfhlilpkgodilaaDoorFT
import Derived.Test.YtfhlilpkgodilaaDoorFlib
import Derived.Test.YtfhlilpkgodilaaDoorFscript
import Derived.Test.YtfhlilpkgodilaaDoorFwire
namespace Go.Ark
open Go Go.Ab

def words_silent (line_0 : ByteArray) : Option Bool :=
  (strings_TrimLeft line_0 (ByteArray.mk #[32, 9])).bind fun r1 =>
  if seq r1 ByteArray.empty then
    some true
  else
    (sidx r1 0).bind fun b3 =>
    some (decide ((b3.toNat : Int) = 35))

def words_bare_k1 (s_0 : ByteArray) (y1 : Int) : Option (ByteArray × Int) :=
  (ssub s_0 0 y1).bind fun s2 =>
  (unicode_utf8_ValidString s2).bind fun r3 =>
  if !r3 then
    some (ByteArray.empty, 0)
  else
    (ssub s_0 0 y1).bind fun s5 =>
    some (s5, y1)

def words_bare_k3 (s_0 : ByteArray) (again9 : Nat → Option (ByteArray × Int)) (v7 : Nat) (y12 : Bool × Nat) : Option (ByteArray × Int) :=
  if y12.1 then
    words_bare_k1 s_0 (v7 : Int)
  else
    if decide (((Utf8.decode s_0 v7).1 : Int) < 32) then
      some (ByteArray.empty, 0)
    else
      if decide (((Utf8.decode s_0 v7).1 : Int) = 127) then
        some (ByteArray.empty, 0)
      else
        if decide (((Utf8.decode s_0 v7).1 : Int) = 34) then
          some (ByteArray.empty, 0)
        else
          again9 y12.2

def words_bare_l2 (s_0 : ByteArray) (again9 : Nat → Option (ByteArray × Int)) (v7 : Nat) : Option (ByteArray × Int) :=
  if decide (v7 < s_0.size) then
    if decide (((Utf8.decode s_0 v7).1 : Int) = 32) then
      words_bare_k3 s_0 again9 v7 (true, v7 + (Utf8.decode s_0 v7).2)
    else
      words_bare_k3 s_0 again9 v7 (decide (((Utf8.decode s_0 v7).1 : Int) = 9), v7 + (Utf8.decode s_0 v7).2)
  else
    words_bare_k1 s_0 (s_0.size : Int)

def words_bare (s_0 : ByteArray) : Option (ByteArray × Int) :=
  loopF (words_bare_l2 s_0) FU 0

def words_plain_k1 (c_0 : Int) (y1 : Bool) : Option Bool :=
  if y1 then
    if !decide (c_0 = 34) then
      some (!decide (c_0 = 92))
    else
      some false
  else
    some false

def words_plain (c_0 : Int) : Option Bool :=
  if decide (32 ≤ c_0) then
    words_plain_k1 c_0 (decide (c_0 ≤ 126))
  else
    words_plain_k1 c_0 false

def words_quoted_k1 (_y1 : Unit) : Option (ByteArray × Int) :=
  some (ByteArray.empty, 0)

def words_quoted_k3 (v3 : Int × (List Int)) (y10 : Bool) : Option (ByteArray × Int) :=
  if y10 then
    some (ByteArray.empty, 0)
  else
    some (bytesOf v3.2, IntKind.wrap .i64 (v3.1 + 1))

def words_quoted_k5 (again5 : Int × (List Int) → Option (ByteArray × Int)) (v3 : Int × (List Int)) (r19 : Int) (r21 : Int) (y22 : Bool) : Option (ByteArray × Int) :=
  if y22 then
    some (ByteArray.empty, 0)
  else
    (app 1 v3.2 ([IntKind.wrap .u8 (IntKind.wrap .i64 ((IntKind.wrap .i64 (r19 * 16)) + r21))])).bind fun l24 =>
    again5 (IntKind.wrap .i64 (v3.1 + 3), l24)

def words_quoted_k4 (s_0 : ByteArray) (again5 : Int × (List Int) → Option (ByteArray × Int)) (v3 : Int × (List Int)) (b8 : UInt8) (y16 : Bool) : Option (ByteArray × Int) :=
  if y16 then
    (sidx s_0 (IntKind.wrap .i64 (v3.1 + 1))).bind fun b18 =>
    (strings_IndexByte (ByteArray.mk #[48, 49, 50, 51, 52, 53, 54, 55, 56, 57, 97, 98, 99, 100, 101, 102]) (b18.toNat : Int)).bind fun r19 =>
    (sidx s_0 (IntKind.wrap .i64 (v3.1 + 2))).bind fun b20 =>
    (strings_IndexByte (ByteArray.mk #[48, 49, 50, 51, 52, 53, 54, 55, 56, 57, 97, 98, 99, 100, 101, 102]) (b20.toNat : Int)).bind fun r21 =>
    if decide (r19 < 0) then
      words_quoted_k5 again5 v3 r19 r21 true
    else
      words_quoted_k5 again5 v3 r19 r21 (decide (r21 < 0))
  else
    (words_plain (b8.toNat : Int)).bind fun r27 =>
    if r27 then
      (app 1 v3.2 ([(b8.toNat : Int)])).bind fun l29 =>
      again5 (IntKind.wrap .i64 (v3.1 + 1), l29)
    else
      some (ByteArray.empty, 0)

def words_quoted_l2 (s_0 : ByteArray) (again5 : Int × (List Int) → Option (ByteArray × Int)) (v3 : Int × (List Int)) : Option (ByteArray × Int) :=
  if decide (v3.1 < (s_0.size : Int)) then
    (sidx s_0 v3.1).bind fun b8 =>
    if decide ((b8.toNat : Int) = 34) then
      if decide ((IntKind.wrap .i64 (v3.1 + 1)) < (s_0.size : Int)) then
        (sidx s_0 (IntKind.wrap .i64 (v3.1 + 1))).bind fun b14 =>
        (strings_IndexByte (ByteArray.mk #[32, 9]) (b14.toNat : Int)).bind fun r15 =>
        words_quoted_k3 v3 (decide (r15 < 0))
      else
        words_quoted_k3 v3 false
    else
      if decide ((b8.toNat : Int) = 92) then
        words_quoted_k4 s_0 again5 v3 b8 (decide (3 ≤ (IntKind.wrap .i64 ((s_0.size : Int) - v3.1))))
      else
        words_quoted_k4 s_0 again5 v3 b8 false
  else
    words_quoted_k1 ()

def words_quoted (s_0 : ByteArray) : Option (ByteArray × Int) :=
  loopF (words_quoted_l2 s_0) FU (1, [34])

def words_Words_l1 (again3 : ByteArray × (List ByteArray) → Option ((List ByteArray) × Bool)) (v1 : ByteArray × (List ByteArray)) : Option ((List ByteArray) × Bool) :=
  (strings_TrimLeft v1.1 (ByteArray.mk #[32, 9])).bind fun r5 =>
  if seq r5 ByteArray.empty then
    some (v1.2, true)
  else
    (sidx r5 0).bind fun b7 =>
    if decide ((b7.toNat : Int) = 34) then
      (words_quoted r5).bind fun r9 =>
      if decide (r9.2 = 0) then
        some (([] : (List ByteArray)), false)
      else
        (app 16 v1.2 ([r9.1])).bind fun l11 =>
        (ssub r5 r9.2 (r5.size : Int)).bind fun s12 =>
        again3 (s12, l11)
    else
      (words_bare r5).bind fun r13 =>
      if decide (r13.2 = 0) then
        some (([] : (List ByteArray)), false)
      else
        (app 16 v1.2 ([r13.1])).bind fun l15 =>
        (ssub r5 r13.2 (r5.size : Int)).bind fun s16 =>
        again3 (s16, l15)

def words_Words (line_0 : ByteArray) : Option ((List ByteArray) × Bool) :=
  loopF (words_Words_l1) FU (line_0, ([] : (List ByteArray)))

def words_name (kind_0 : Int) : Option ByteArray :=
  if decide (kind_0 = 1) then
    some (ByteArray.mk #[112, 117, 116])
  else
    if decide (kind_0 = 2) then
      some (ByteArray.mk #[100, 101, 108])
    else
      if decide (kind_0 = 3) then
        some (ByteArray.mk #[103, 101, 116])
      else
        if decide (kind_0 = 4) then
          some (ByteArray.mk #[108, 101, 97, 118, 101])
        else
          if decide (kind_0 = 5) then
            some (ByteArray.mk #[101, 110, 116, 101, 114])
          else
            if decide (kind_0 = 6) then
              some (ByteArray.mk #[98, 101, 103, 105, 110])
            else
              if decide (kind_0 = 7) then
                some (ByteArray.mk #[101, 110, 100])
              else
                if decide (kind_0 = 8) then
                  some (ByteArray.mk #[112, 105, 99, 107])
                else
                  if decide (kind_0 = 9) then
                    some (ByteArray.mk #[97, 103, 97, 105, 110])
                  else
                    if decide (kind_0 = 10) then
                      some (ByteArray.mk #[115, 116, 101, 112])
                    else
                      if decide (kind_0 = 11) then
                        some (ByteArray.mk #[99, 108, 101, 97, 110])
                      else
                        if decide (kind_0 = 12) then
                          some (ByteArray.mk #[114, 111, 119])
                        else
                          some ByteArray.empty

def words_kind_k1 (_y1 : Unit) : Option Int :=
  some 0

def words_kind_l2 (word_0 : ByteArray) (again5 : Int → Option Int) (v3 : Int) : Option Int :=
  if decide (v3 ≤ 12) then
    (words_name v3).bind fun r8 =>
    if seq r8 word_0 then
      some v3
    else
      again5 (IntKind.wrap .i64 (v3 + 1))
  else
    words_kind_k1 ()

def words_kind (word_0 : ByteArray) : Option Int :=
  loopF (words_kind_l2 word_0) FU 1

def words_reader_next (r_0 : Words_reader) : Option (Words_reader × ByteArray) :=
  if decide ((r_0.words.length : Int) = 0) then
    some ((Words_reader.mk r_0.words true), ByteArray.empty)
  else
    (idx r_0.words 0).bind fun x2 =>
    (sub r_0.words 1 (r_0.words.length : Int)).bind fun l3 =>
    some ((Words_reader.mk l3 r_0.bad), x2)

def words_decimal_k2 (y3 : Int) : Option (Int × Bool) :=
  some (y3, decide (y3 ≤ 63))

def words_decimal_k4 (s_0 : ByteArray) (again7 : Int × Int → Option (Int × Bool)) (v5 : Int × Int) (y10 : Bool) : Option (Int × Bool) :=
  if y10 then
    some (0, false)
  else
    (sidx s_0 v5.2).bind fun b12 =>
    again7 (IntKind.wrap .i64 ((IntKind.wrap .i64 (v5.1 * 10)) + (IntKind.wrap .i64 (IntKind.wrap .u8 ((b12.toNat : Int) - 48)))), IntKind.wrap .i64 (v5.2 + 1))

def words_decimal_l3 (s_0 : ByteArray) (again7 : Int × Int → Option (Int × Bool)) (v5 : Int × Int) : Option (Int × Bool) :=
  if decide (v5.2 < (s_0.size : Int)) then
    (sidx s_0 v5.2).bind fun b14 =>
    if decide ((b14.toNat : Int) < 48) then
      words_decimal_k4 s_0 again7 v5 true
    else
      (sidx s_0 v5.2).bind fun b16 =>
      words_decimal_k4 s_0 again7 v5 (decide (57 < (b16.toNat : Int)))
  else
    words_decimal_k2 v5.1

def words_decimal_k1 (s_0 : ByteArray) (y1 : Bool) : Option (Int × Bool) :=
  if y1 then
    some (0, false)
  else
    loopF (words_decimal_l3 s_0) FU (0, 0)

def words_decimal_k5 (s_0 : ByteArray) (y18 : Bool) : Option (Int × Bool) :=
  if y18 then
    words_decimal_k1 s_0 true
  else
    if decide ((s_0.size : Int) = 2) then
      (sidx s_0 0).bind fun b21 =>
      words_decimal_k1 s_0 (decide ((b21.toNat : Int) = 48))
    else
      words_decimal_k1 s_0 false

def words_decimal (s_0 : ByteArray) : Option (Int × Bool) :=
  if seq s_0 ByteArray.empty then
    words_decimal_k5 s_0 true
  else
    words_decimal_k5 s_0 (decide (2 < (s_0.size : Int)))

def words_reader_number (r_0 : Words_reader) : Option (Words_reader × Int) :=
  (words_reader_next r_0).bind fun r1 =>
  (words_decimal r1.2).bind fun r2 =>
  if r1.1.bad then
    some ((Words_reader.mk r1.1.words true), r2.1)
  else
    some ((Words_reader.mk r1.1.words (!r2.2)), r2.1)

def words_reader_text (r_0 : Words_reader) : Option (Words_reader × ByteArray) :=
  (words_reader_next r_0).bind fun r1 =>
  (strings_TrimPrefix r1.2 (ByteArray.mk #[34])).bind fun r2 =>
  if r1.1.bad then
    some ((Words_reader.mk r1.1.words true), r2)
  else
    some ((Words_reader.mk r1.1.words (decide (32 < (r2.size : Int)))), r2)

def words_reader_more (r_0 : Words_reader) : Option (Words_reader × Bool) :=
  if decide (0 < (r_0.words.length : Int)) then
    some (r_0, !r_0.bad)
  else
    some (r_0, false)

def words_reader_row_k2 (y1 : (List ByteArray) × Bool × (List Api_Range) × (List Int)) (y2 : (List ByteArray) × Bool × (List Int)) : Option (Words_reader × Api_Row) :=
  if y2.2.1 then
    some ((Words_reader.mk y2.1 true), (Api_Row.mk y1.2.2.1 y1.2.2.2 y2.2.2))
  else
    (wire_RowBytes (Api_Row.mk y1.2.2.1 y1.2.2.2 y2.2.2)).bind fun r4 =>
    some ((Words_reader.mk y2.1 (seq r4 ByteArray.empty)), (Api_Row.mk y1.2.2.1 y1.2.2.2 y2.2.2))

def words_reader_row_l3 (y1 : (List ByteArray) × Bool × (List Api_Range) × (List Int)) (again8 : (List ByteArray) × Bool × (List Int) → Option (Words_reader × Api_Row)) (v6 : (List ByteArray) × Bool × (List Int)) : Option (Words_reader × Api_Row) :=
  (words_reader_more (Words_reader.mk v6.1 v6.2.1)).bind fun r10 =>
  if r10.2 then
    (idx r10.1.words 0).bind fun x12 =>
    if seq x12 (ByteArray.mk #[45]) then
      (words_reader_next r10.1).bind fun r14 =>
      (app 8 v6.2.2 ([(-1)])).bind fun l15 =>
      again8 (r14.1.words, r14.1.bad, l15)
    else
      (words_reader_number r10.1).bind fun r16 =>
      (app 8 v6.2.2 ([r16.2])).bind fun l17 =>
      again8 (r16.1.words, r16.1.bad, l17)
  else
    words_reader_row_k2 y1 (r10.1.words, r10.1.bad, v6.2.2)

def words_reader_row_k1 (y1 : (List ByteArray) × Bool × (List Api_Range) × (List Int)) : Option (Words_reader × Api_Row) :=
  loopF (words_reader_row_l3 y1) FU (y1.1, y1.2.1, ([] : List Int))

def words_reader_row_k5 (again21 : ByteArray × (List ByteArray) × Bool × (List Api_Range) × (List Int) → Option (Words_reader × Api_Row)) (v19 : ByteArray × (List ByteArray) × Bool × (List Api_Range) × (List Int)) (l25 : (List Int)) (y26 : Bool × (List ByteArray) × Bool) : Option (Words_reader × Api_Row) :=
  if y26.1 then
    words_reader_row_k1 (y26.2.1, true, v19.2.2.2.1, l25)
  else
    (idx y26.2.1 0).bind fun x28 =>
    if seq x28 (ByteArray.mk #[47]) then
      (words_reader_next (Words_reader.mk y26.2.1 y26.2.2)).bind fun r30 =>
      (app 32 v19.2.2.2.1 ([(Api_Range.mk v19.1 ByteArray.empty)])).bind fun l31 =>
      words_reader_row_k1 (r30.1.words, r30.1.bad, l31, l25)
    else
      (words_reader_text (Words_reader.mk y26.2.1 y26.2.2)).bind fun r32 =>
      (app 32 v19.2.2.2.1 ([(Api_Range.mk v19.1 r32.2)])).bind fun l33 =>
      again21 (r32.2, r32.1.words, r32.1.bad, l33, l25)

def words_reader_row_l4 (again21 : ByteArray × (List ByteArray) × Bool × (List Api_Range) × (List Int) → Option (Words_reader × Api_Row)) (v19 : ByteArray × (List ByteArray) × Bool × (List Api_Range) × (List Int)) : Option (Words_reader × Api_Row) :=
  if !v19.2.2.1 then
    (words_reader_number (Words_reader.mk v19.2.1 v19.2.2.1)).bind fun r24 =>
    (app 8 v19.2.2.2.2 ([r24.2])).bind fun l25 =>
    if r24.1.bad then
      words_reader_row_k5 again21 v19 l25 (true, r24.1.words, r24.1.bad)
    else
      (words_reader_more r24.1).bind fun r36 =>
      words_reader_row_k5 again21 v19 l25 (!r36.2, r36.1.words, r36.1.bad)
  else
    words_reader_row_k1 (v19.2.1, v19.2.2.1, v19.2.2.2.1, v19.2.2.2.2)

def words_reader_row (r_0 : Words_reader) : Option (Words_reader × Api_Row) :=
  loopF (words_reader_row_l4) FU (ByteArray.empty, r_0.words, r_0.bad, ([] : List Api_Range), ([] : List Int))

def words_step_k4 (r3 : Int) (y5 : Int × Int × (List ByteArray) × Bool) (y6 : Int × Int × Int × Int × ByteArray × ByteArray × (List Api_Range) × (List Int) × (List Int) × (List ByteArray) × Bool × (List ByteArray)) (y7 : Bool) : Option (Api_Op × Bool) :=
  if y7 then
    some ((Api_Op.mk 0 0 0 0 0 0 ByteArray.empty ByteArray.empty ([] : (List ByteArray)) (Api_Row.mk ([] : (List Api_Range)) ([] : (List Int)) ([] : (List Int)))), false)
  else
    some ((Api_Op.mk r3 y5.1 y6.1 y6.2.1 y6.2.2.1 y6.2.2.2.1 y6.2.2.2.2.1 y6.2.2.2.2.2.1 y6.2.2.2.2.2.2.2.2.2.2.2 (Api_Row.mk y6.2.2.2.2.2.2.1 y6.2.2.2.2.2.2.2.1 y6.2.2.2.2.2.2.2.2.1)), true)

def words_step_k3 (r3 : Int) (y5 : Int × Int × (List ByteArray) × Bool) (y6 : Int × Int × Int × Int × ByteArray × ByteArray × (List Api_Range) × (List Int) × (List Int) × (List ByteArray) × Bool × (List ByteArray)) : Option (Api_Op × Bool) :=
  if y6.2.2.2.2.2.2.2.2.2.2.1 then
    words_step_k4 r3 y5 y6 true
  else
    words_step_k4 r3 y5 y6 (decide (0 < (y6.2.2.2.2.2.2.2.2.2.1.length : Int)))

def words_step_k6 (r3 : Int) (y5 : Int × Int × (List ByteArray) × Bool) (y21 : (List ByteArray) × Bool × (List ByteArray)) : Option (Api_Op × Bool) :=
  if y21.2.1 then
    words_step_k3 r3 y5 (y5.2.1, 0, 0, 0, ByteArray.empty, ByteArray.empty, ([] : (List Api_Range)), ([] : (List Int)), ([] : (List Int)), y21.1, true, y21.2.2)
  else
    words_step_k3 r3 y5 (y5.2.1, 0, 0, 0, ByteArray.empty, ByteArray.empty, ([] : (List Api_Range)), ([] : (List Int)), ([] : (List Int)), y21.1, decide (8 < (y21.2.2.length : Int)), y21.2.2)

def words_step_l7 (r3 : Int) (y5 : Int × Int × (List ByteArray) × Bool) (again26 : (List ByteArray) × Bool × (List ByteArray) → Option (Api_Op × Bool)) (v24 : (List ByteArray) × Bool × (List ByteArray)) : Option (Api_Op × Bool) :=
  (words_reader_more (Words_reader.mk v24.1 v24.2.1)).bind fun r28 =>
  if r28.2 then
    (words_reader_text r28.1).bind fun r30 =>
    (app 16 v24.2.2 ([r30.2])).bind fun l31 =>
    again26 (r30.1.words, r30.1.bad, l31)
  else
    words_step_k6 r3 y5 (r28.1.words, r28.1.bad, v24.2.2)

def words_step_k5 (r3 : Int) (y5 : Int × Int × (List ByteArray) × Bool) (y15 : Bool) : Option (Api_Op × Bool) :=
  if y15 then
    (words_reader_text (Words_reader.mk y5.2.2.1 y5.2.2.2)).bind fun r17 =>
    words_step_k3 r3 y5 (y5.2.1, 0, 0, 0, r17.2, ByteArray.empty, ([] : (List Api_Range)), ([] : (List Int)), ([] : (List Int)), r17.1.words, r17.1.bad, ([] : List ByteArray))
  else
    if decide (r3 = 5) then
      (words_reader_number (Words_reader.mk y5.2.2.1 y5.2.2.2)).bind fun r19 =>
      words_step_k3 r3 y5 (r19.2, 0, 0, 0, ByteArray.empty, ByteArray.empty, ([] : (List Api_Range)), ([] : (List Int)), ([] : (List Int)), r19.1.words, r19.1.bad, ([] : List ByteArray))
    else
      if decide (r3 = 6) then
        loopF (words_step_l7 r3 y5) FU (y5.2.2.1, y5.2.2.2, ([] : List ByteArray))
      else
        if decide (r3 = 8) then
          (words_reader_number (Words_reader.mk y5.2.2.1 y5.2.2.2)).bind fun r33 =>
          (words_reader_number r33.1).bind fun r34 =>
          (words_reader_number r34.1).bind fun r35 =>
          words_step_k3 r3 y5 (y5.2.1, r33.2, r34.2, r35.2, ByteArray.empty, ByteArray.empty, ([] : (List Api_Range)), ([] : (List Int)), ([] : (List Int)), r35.1.words, r35.1.bad, ([] : List ByteArray))
        else
          if decide (r3 = 9) then
            (words_reader_number (Words_reader.mk y5.2.2.1 y5.2.2.2)).bind fun r37 =>
            words_step_k3 r3 y5 (y5.2.1, r37.2, 0, 0, ByteArray.empty, ByteArray.empty, ([] : (List Api_Range)), ([] : (List Int)), ([] : (List Int)), r37.1.words, r37.1.bad, ([] : List ByteArray))
          else
            if decide (r3 = 12) then
              (words_reader_row (Words_reader.mk y5.2.2.1 y5.2.2.2)).bind fun r39 =>
              words_step_k3 r3 y5 (y5.2.1, 0, 0, 0, ByteArray.empty, ByteArray.empty, r39.2.Ranges, r39.2.Owners, r39.2.Parents, r39.1.words, r39.1.bad, ([] : List ByteArray))
            else
              words_step_k3 r3 y5 (y5.2.1, 0, 0, 0, ByteArray.empty, ByteArray.empty, ([] : (List Api_Range)), ([] : (List Int)), ([] : (List Int)), y5.2.2.1, y5.2.2.2, ([] : List ByteArray))

def words_step_k2 (r3 : Int) (y5 : Int × Int × (List ByteArray) × Bool) : Option (Api_Op × Bool) :=
  if decide (r3 = 1) then
    (words_reader_text (Words_reader.mk y5.2.2.1 y5.2.2.2)).bind fun r13 =>
    (words_reader_text r13.1).bind fun r14 =>
    words_step_k3 r3 y5 (y5.2.1, 0, 0, 0, r13.2, r14.2, ([] : (List Api_Range)), ([] : (List Int)), ([] : (List Int)), r14.1.words, r14.1.bad, ([] : List ByteArray))
  else
    if decide (r3 = 2) then
      words_step_k5 r3 y5 (decide (r3 = 2))
    else
      words_step_k5 r3 y5 (decide (r3 = 3))

def words_step_k8 (l1 : (List ByteArray)) (r3 : Int) (y45 : Bool) : Option (Api_Op × Bool) :=
  if y45 then
    (words_reader_number (Words_reader.mk l1 false)).bind fun r47 =>
    words_step_k2 r3 (0, r47.2, r47.1.words, r47.1.bad)
  else
    if decide (r3 = 0) then
      some ((Api_Op.mk 0 0 0 0 0 0 ByteArray.empty ByteArray.empty ([] : (List ByteArray)) (Api_Row.mk ([] : (List Api_Range)) ([] : (List Int)) ([] : (List Int)))), false)
    else
      words_step_k2 r3 (0, 0, l1, false)

def words_step_k1 (l1 : (List ByteArray)) (r3 : Int) (y4 : Bool) : Option (Api_Op × Bool) :=
  if y4 then
    (words_reader_number (Words_reader.mk l1 false)).bind fun r44 =>
    words_step_k2 r3 (r44.2, 0, r44.1.words, r44.1.bad)
  else
    if decide (r3 = 8) then
      words_step_k8 l1 r3 (decide (r3 = 8))
    else
      if decide (r3 = 9) then
        words_step_k8 l1 r3 (decide (r3 = 9))
      else
        words_step_k8 l1 r3 (decide (r3 = 10))

def words_step (w_0 : (List ByteArray)) : Option (Api_Op × Bool) :=
  (sub w_0 1 (w_0.length : Int)).bind fun l1 =>
  (idx w_0 0).bind fun x2 =>
  (words_kind x2).bind fun r3 =>
  if decide (r3 = 1) then
    words_step_k1 l1 r3 (decide (r3 = 1))
  else
    if decide (r3 = 2) then
      words_step_k1 l1 r3 (decide (r3 = 2))
    else
      if decide (r3 = 3) then
        words_step_k1 l1 r3 (decide (r3 = 3))
      else
        if decide (r3 = 4) then
          words_step_k1 l1 r3 (decide (r3 = 4))
        else
          if decide (r3 = 5) then
            words_step_k1 l1 r3 (decide (r3 = 5))
          else
            if decide (r3 = 6) then
              words_step_k1 l1 r3 (decide (r3 = 6))
            else
              words_step_k1 l1 r3 (decide (r3 = 7))

def words_Parse_k1 (y2 : (List Api_Op)) : Option ((List Api_Op) × Int) :=
  some (y2, 0)

def words_Parse_l2 (r1 : (List ByteArray)) (again6 : Int × (List Api_Op) → Option ((List Api_Op) × Int)) (v4 : Int × (List Api_Op)) : Option ((List Api_Op) × Int) :=
  if decide (v4.1 < (r1.length : Int)) then
    (idx r1 v4.1).bind fun x9 =>
    (words_silent x9).bind fun r10 =>
    if r10 then
      again6 (IntKind.wrap .i64 (v4.1 + 1), v4.2)
    else
      (words_Words x9).bind fun r12 =>
      if !r12.2 then
        some (([] : (List Api_Op)), IntKind.wrap .i64 (v4.1 + 1))
      else
        (words_step r12.1).bind fun r14 =>
        if !r14.2 then
          some (([] : (List Api_Op)), IntKind.wrap .i64 (v4.1 + 1))
        else
          (app 176 v4.2 ([r14.1])).bind fun l16 =>
          again6 (IntKind.wrap .i64 (v4.1 + 1), l16)
  else
    words_Parse_k1 v4.2

def words_Parse (s_0 : ByteArray) : Option ((List Api_Op) × Int) :=
  (strings_Split s_0 (ByteArray.mk #[10])).bind fun r1 =>
  loopF (words_Parse_l2 r1) FU (0, ([] : (List Api_Op)))

def words_small (n_0 : Int) : Option ByteArray :=
  if decide (n_0 < 10) then
    some (bytesOf ([IntKind.wrap .u8 (48 + (IntKind.wrap .u8 n_0))]))
  else
    some (bytesOf ([IntKind.wrap .u8 (48 + (IntKind.wrap .u8 (IntKind.wrap .i64 (Int.tdiv n_0 10)))), IntKind.wrap .u8 (48 + (IntKind.wrap .u8 (Int.tmod n_0 10)))]))

def words_Quote_k1 (y1 : (List Int)) : Option ByteArray :=
  (app 1 y1 ([34])).bind fun l2 =>
  some (bytesOf l2)

def words_Quote_l2 (s_0 : ByteArray) (again6 : Int × (List Int) → Option ByteArray) (v4 : Int × (List Int)) : Option ByteArray :=
  if decide (v4.1 < (s_0.size : Int)) then
    (sidx s_0 v4.1).bind fun b9 =>
    (words_plain (b9.toNat : Int)).bind fun r10 =>
    if r10 then
      (sidx s_0 v4.1).bind fun b12 =>
      (app 1 v4.2 ([(b12.toNat : Int)])).bind fun l13 =>
      again6 (IntKind.wrap .i64 (v4.1 + 1), l13)
    else
      (sidx s_0 v4.1).bind fun b14 =>
      (sidx (ByteArray.mk #[48, 49, 50, 51, 52, 53, 54, 55, 56, 57, 97, 98, 99, 100, 101, 102]) (IntKind.wrap .u8 (Int.tdiv (b14.toNat : Int) 16))).bind fun b15 =>
      (sidx s_0 v4.1).bind fun b16 =>
      (sidx (ByteArray.mk #[48, 49, 50, 51, 52, 53, 54, 55, 56, 57, 97, 98, 99, 100, 101, 102]) (Int.tmod (b16.toNat : Int) 16)).bind fun b17 =>
      (app 1 v4.2 ([92, (b15.toNat : Int), (b17.toNat : Int)])).bind fun l18 =>
      again6 (IntKind.wrap .i64 (v4.1 + 1), l18)
  else
    words_Quote_k1 v4.2

def words_Quote (s_0 : ByteArray) : Option ByteArray :=
  loopF (words_Quote_l2 s_0) FU (0, [34])

def words_put (line_0 : ByteArray) (words_1 : (List ByteArray)) : Option ByteArray :=
  (app 16 ([line_0]) words_1).bind fun l1 =>
  (strings_Join l1 (ByteArray.mk #[32])).bind fun r2 =>
  some r2

def words_rowLine_k2 (y3 : ByteArray) : Option ByteArray :=
  some y3

def words_rowLine_l3 (c_1 : Api_Row) (again7 : ByteArray × Int → Option ByteArray) (v5 : ByteArray × Int) : Option ByteArray :=
  if decide (v5.2 < (c_1.Parents.length : Int)) then
    (idx c_1.Parents v5.2).bind fun x10 =>
    if decide (x10 < 0) then
      (words_put v5.1 ([(ByteArray.mk #[45])])).bind fun r12 =>
      again7 (r12, IntKind.wrap .i64 (v5.2 + 1))
    else
      (words_small x10).bind fun r13 =>
      (words_put v5.1 ([r13])).bind fun r14 =>
      again7 (r14, IntKind.wrap .i64 (v5.2 + 1))
  else
    words_rowLine_k2 v5.1

def words_rowLine_k1 (c_1 : Api_Row) (y1 : ByteArray) : Option ByteArray :=
  (words_put y1 ([(ByteArray.mk #[47])])).bind fun r2 =>
  loopF (words_rowLine_l3 c_1) FU (r2, 0)

def words_rowLine_l4 (c_1 : Api_Row) (again18 : ByteArray × Int → Option ByteArray) (v16 : ByteArray × Int) : Option ByteArray :=
  if decide (v16.2 < (c_1.Owners.length : Int)) then
    (idx c_1.Owners v16.2).bind fun x21 =>
    (words_small x21).bind fun r22 =>
    (words_put v16.1 ([r22])).bind fun r23 =>
    if decide ((IntKind.wrap .i64 (v16.2 + 1)) < (c_1.Ranges.length : Int)) then
      (idx c_1.Ranges v16.2).bind fun x25 =>
      (words_Quote x25.To).bind fun r26 =>
      (words_put r23 ([r26])).bind fun r27 =>
      again18 (r27, IntKind.wrap .i64 (v16.2 + 1))
    else
      again18 (r23, IntKind.wrap .i64 (v16.2 + 1))
  else
    words_rowLine_k1 c_1 v16.1

def words_rowLine (s_0 : ByteArray) (c_1 : Api_Row) : Option ByteArray :=
  loopF (words_rowLine_l4 c_1) FU (s_0, 0)

def words_line_k1 (y2 : ByteArray) : Option ByteArray :=
  (scat y2 (ByteArray.mk #[10])).bind fun s3 =>
  some s3

def words_line_k4 (y26 : ByteArray) : Option ByteArray :=
  words_line_k1 y26

def words_line_l5 (o_0 : Api_Op) (again30 : ByteArray × Int → Option ByteArray) (v28 : ByteArray × Int) : Option ByteArray :=
  if decide (v28.2 < (o_0.Keys.length : Int)) then
    (idx o_0.Keys v28.2).bind fun x33 =>
    (words_Quote x33).bind fun r34 =>
    (words_put v28.1 ([r34])).bind fun r35 =>
    again30 (r35, IntKind.wrap .i64 (v28.2 + 1))
  else
    words_line_k4 v28.1

def words_line_k3 (o_0 : Api_Op) (r1 : ByteArray) (y15 : Bool) : Option ByteArray :=
  if y15 then
    (words_small o_0.Client).bind fun r17 =>
    (words_put r1 ([r17])).bind fun r18 =>
    words_line_k1 r18
  else
    if decide (o_0.Kind = 5) then
      (words_small o_0.Client).bind fun r20 =>
      (words_small o_0.Site).bind fun r21 =>
      (words_put r1 ([r20, r21])).bind fun r22 =>
      words_line_k1 r22
    else
      if decide (o_0.Kind = 6) then
        (words_small o_0.Client).bind fun r24 =>
        (words_put r1 ([r24])).bind fun r25 =>
        loopF (words_line_l5 o_0) FU (r25, 0)
      else
        if decide (o_0.Kind = 8) then
          (words_small o_0.Site).bind fun r37 =>
          (words_small o_0.To).bind fun r38 =>
          (words_small o_0.At).bind fun r39 =>
          (words_small o_0.How).bind fun r40 =>
          (words_put r1 ([r37, r38, r39, r40])).bind fun r41 =>
          words_line_k1 r41
        else
          if decide (o_0.Kind = 9) then
            (words_small o_0.Site).bind fun r43 =>
            (words_small o_0.To).bind fun r44 =>
            (words_put r1 ([r43, r44])).bind fun r45 =>
            words_line_k1 r45
          else
            if decide (o_0.Kind = 10) then
              (words_small o_0.Site).bind fun r47 =>
              (words_put r1 ([r47])).bind fun r48 =>
              words_line_k1 r48
            else
              if decide (o_0.Kind = 12) then
                (words_rowLine r1 o_0.Row).bind fun r50 =>
                words_line_k1 r50
              else
                words_line_k1 r1

def words_line_k2 (o_0 : Api_Op) (r1 : ByteArray) (y10 : Bool) : Option ByteArray :=
  if y10 then
    (words_small o_0.Client).bind fun r12 =>
    (words_Quote o_0.Key).bind fun r13 =>
    (words_put r1 ([r12, r13])).bind fun r14 =>
    words_line_k1 r14
  else
    if decide (o_0.Kind = 4) then
      words_line_k3 o_0 r1 (decide (o_0.Kind = 4))
    else
      words_line_k3 o_0 r1 (decide (o_0.Kind = 7))

def words_line (o_0 : Api_Op) : Option ByteArray :=
  (words_name o_0.Kind).bind fun r1 =>
  if decide (o_0.Kind = 1) then
    (words_small o_0.Client).bind fun r6 =>
    (words_Quote o_0.Key).bind fun r7 =>
    (words_Quote o_0.Value).bind fun r8 =>
    (words_put r1 ([r6, r7, r8])).bind fun r9 =>
    words_line_k1 r9
  else
    if decide (o_0.Kind = 2) then
      words_line_k2 o_0 r1 (decide (o_0.Kind = 2))
    else
      words_line_k2 o_0 r1 (decide (o_0.Kind = 3))

def words_same (a_0 : Api_Op) (b_1 : Api_Op) : Option Bool :=
  (script_Bytes ([a_0])).bind fun r1 =>
  (script_Bytes ([b_1])).bind fun r2 =>
  if seq r1 r2 then
    (slices_Equal_string a_0.Keys b_1.Keys).bind fun r4 =>
    some r4
  else
    some false

def words_Check_k1 (o_0 : Api_Op) (y1 : Bool) : Option Bool :=
  if y1 then
    some false
  else
    (words_line o_0).bind fun r3 =>
    (words_Parse r3).bind fun r4 =>
    if decide (r4.2 = 0) then
      if decide ((r4.1.length : Int) = 1) then
        (idx r4.1 0).bind fun x7 =>
        (words_same x7 o_0).bind fun r8 =>
        some r8
      else
        some false
    else
      some false

def words_Check (o_0 : Api_Op) : Option Bool :=
  (script_Check o_0).bind fun r10 =>
  if !r10 then
    words_Check_k1 o_0 true
  else
    words_Check_k1 o_0 ((decide ((o_0.Row.Ranges.length : Int) = 0)) == (decide (o_0.Kind = 12)))

def words_Text_k1 (y1 : ByteArray) : Option ByteArray :=
  (bld_String y1).bind fun r2 =>
  some r2

def words_Text_l2 (l_0 : (List Api_Op)) (again6 : Int × ByteArray → Option ByteArray) (v4 : Int × ByteArray) : Option ByteArray :=
  if decide (v4.1 < (l_0.length : Int)) then
    (idx l_0 v4.1).bind fun x9 =>
    (words_Check x9).bind fun r10 =>
    if !r10 then
      some ByteArray.empty
    else
      (words_line x9).bind fun r12 =>
      (bld_WriteString v4.2 r12).bind fun r13 =>
      again6 (IntKind.wrap .i64 (v4.1 + 1), r13)
  else
    words_Text_k1 v4.2

def words_Text (l_0 : (List Api_Op)) : Option ByteArray :=
  loopF (words_Text_l2 l_0) FU (0, ByteArray.empty)
end Go.Ark
