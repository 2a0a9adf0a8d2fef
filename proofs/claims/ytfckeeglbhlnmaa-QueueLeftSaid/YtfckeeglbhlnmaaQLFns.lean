/- Typed functions, printed by a program of mine out of the translated code. -/
import Derived.Test.YtfckeeglbhlnmaaAb18
namespace Go.Ark
open Go Go.Ab

structure Api_Stamp where
  N : Int
  Site : Int

abbrev encApi_Stamp (x : Api_Stamp) : List DV := [.v (.int .i64 x.N), .v (.int .i64 x.Site)]

structure Api_Dep where
  Key : ByteArray
  Stamp : Api_Stamp

abbrev encApi_Dep (x : Api_Dep) : List DV := [.v (.string x.Key), .v (.int .i64 x.Stamp.N), .v (.int .i64 x.Stamp.Site)]

structure Api_Version where
  Key : ByteArray
  Value : ByteArray
  Gone : Bool
  Stamp : Api_Stamp
  Past : (List Api_Dep)

abbrev encApi_Version (x : Api_Version) : List DV := [.v (.string x.Key), .v (.string x.Value), .v (.bool x.Gone), .v (.int .i64 x.Stamp.N), .v (.int .i64 x.Stamp.Site), .sl 3 (List.map encApi_Dep x.Past)]

structure Api_Range where
  From : ByteArray
  To : ByteArray

abbrev encApi_Range (x : Api_Range) : List DV := [.v (.string x.From), .v (.string x.To)]

structure Law14_Write where
  Key : Int
  Site : Int
  Saw : (List Int)

abbrev encI_i64 (x : Int) : List DV := [.v (.int .i64 x)]

abbrev encLaw14_Write (x : Law14_Write) : List DV := [.v (.int .i64 x.Key), .v (.int .i64 x.Site), .sl 1 (List.map encI_i64 x.Saw)]

abbrev encL_encApi_Dep (x : (List Api_Dep)) : List DV := [.sl 3 (List.map encApi_Dep x)]

abbrev encI_u8 (x : Int) : List DV := [.v (.int .u8 x)]

def wfApi_Stamp (x : Api_Stamp) : Prop := ((Lit.int .i64 x.N).wf = true) ∧ ((Lit.int .i64 x.Site).wf = true)

def wfApi_Dep (x : Api_Dep) : Prop := (x.Key.size ≤ maxLen) ∧ (wfApi_Stamp x.Stamp)

def wfApi_Version (x : Api_Version) : Prop := (x.Key.size ≤ maxLen) ∧ (x.Value.size ≤ maxLen) ∧ (True) ∧ (wfApi_Stamp x.Stamp) ∧ (x.Past.length ≤ maxLen ∧ ∀ y, y ∈ x.Past → wfApi_Dep y)

def wfApi_Range (x : Api_Range) : Prop := (x.From.size ≤ maxLen) ∧ (x.To.size ≤ maxLen)

def wfLaw14_Write (x : Law14_Write) : Prop := ((Lit.int .i64 x.Key).wf = true) ∧ ((Lit.int .i64 x.Site).wf = true) ∧ (x.Saw.length ≤ maxLen ∧ ∀ y, y ∈ x.Saw → (Lit.int .i64 y).wf = true)

def law14_ver (key_0 : ByteArray) (n_1 : Int) (past_2 : (List Api_Dep)) : Option Api_Version :=
  some (Api_Version.mk key_0 ByteArray.empty false (Api_Stamp.mk n_1 0) past_2)

def slices_Clone_Dep (s_0 : (List Api_Dep)) : Option (List Api_Dep) :=
  (app 32 ([] : List Api_Dep) s_0).bind fun l2 =>
  some l2

def keys_Has (r_0 : Api_Range) (key_1 : ByteArray) : Option Bool :=
  if !slt key_1 r_0.From then
    if seq r_0.To ByteArray.empty then
      some true
    else
      some (slt key_1 r_0.To)
  else
    some false

def keys_Find_1 (r_0 : Api_Range) (c0 : ByteArray) : Option Bool :=
  (keys_Has r_0 c0).bind fun r1 =>
  some r1

def slices_IndexFunc_Range_k2 (y1 : Unit) : Option Int :=
  some (-1)

def slices_IndexFunc_Range_l3 (s_0 : (List Api_Range)) (f_1 : (Api_Range → Option Bool)) (again5 : Int → Option Int) (v3 : Int) : Option Int :=
  if decide (v3 < (s_0.length : Int)) then
    (idx s_0 v3).bind fun x8 =>
    (f_1 x8).bind fun r9 =>
    if r9 then
      some v3
    else
      again5 (IntKind.wrap .i64 (v3 + 1))
  else
    slices_IndexFunc_Range_k2 ()

def slices_IndexFunc_Range (s_0 : (List Api_Range)) (f_1 : (Api_Range → Option Bool)) : Option Int :=
  loopF (slices_IndexFunc_Range_l3 s_0 f_1) FU 0

def keys_Find (l_0 : (List Api_Range)) (key_1 : ByteArray) : Option Int :=
  (slices_IndexFunc_Range l_0 (fun x0 => keys_Find_1 x0 key_1)).bind fun r1 =>
  some r1

def past_Only_1 (d_0 : Api_Dep) (c0 : (List Api_Range)) : Option Bool :=
  (keys_Find c0 d_0.Key).bind fun r1 =>
  some (decide (r1 < 0))

def slices_IndexFunc_Dep_k2 (y1 : Unit) : Option Int :=
  some (-1)

def slices_IndexFunc_Dep_l3 (s_0 : (List Api_Dep)) (f_1 : (Api_Dep → Option Bool)) (again5 : Int → Option Int) (v3 : Int) : Option Int :=
  if decide (v3 < (s_0.length : Int)) then
    (idx s_0 v3).bind fun x8 =>
    (f_1 x8).bind fun r9 =>
    if r9 then
      some v3
    else
      again5 (IntKind.wrap .i64 (v3 + 1))
  else
    slices_IndexFunc_Dep_k2 ()

def slices_IndexFunc_Dep (s_0 : (List Api_Dep)) (f_1 : (Api_Dep → Option Bool)) : Option Int :=
  loopF (slices_IndexFunc_Dep_l3 s_0 f_1) FU 0

def slices_DeleteFunc_Dep_k2 (y3 : Int × (List Api_Dep)) : Option (List Api_Dep) :=
  (zeroes y3.2 y3.1 (Api_Dep.mk ByteArray.empty (Api_Stamp.mk 0 0))).bind fun l4 =>
  (sub l4 0 y3.1).bind fun l5 =>
  some l5

def slices_DeleteFunc_Dep_l3 (del_1 : (Api_Dep → Option Bool)) (again9 : Int × Int × (List Api_Dep) → Option (List Api_Dep)) (v7 : Int × Int × (List Api_Dep)) : Option (List Api_Dep) :=
  if decide (v7.2.1 < (v7.2.2.length : Int)) then
    (idx v7.2.2 v7.2.1).bind fun x12 =>
    (del_1 x12).bind fun r13 =>
    if !r13 then
      (sets v7.2.2 v7.1 x12).bind fun l15 =>
      again9 (IntKind.wrap .i64 (v7.1 + 1), IntKind.wrap .i64 (v7.2.1 + 1), l15)
    else
      again9 (v7.1, IntKind.wrap .i64 (v7.2.1 + 1), v7.2.2)
  else
    slices_DeleteFunc_Dep_k2 (v7.1, v7.2.2)

def slices_DeleteFunc_Dep (s_0 : (List Api_Dep)) (del_1 : (Api_Dep → Option Bool)) : Option (List Api_Dep) :=
  (slices_IndexFunc_Dep s_0 del_1).bind fun r1 =>
  if decide (r1 = (-1)) then
    some s_0
  else
    loopF (slices_DeleteFunc_Dep_l3 del_1) FU (r1, IntKind.wrap .i64 (r1 + 1), s_0)

def past_Only (p_0 : (List Api_Dep)) (l_1 : (List Api_Range)) : Option (List Api_Dep) :=
  (slices_Clone_Dep p_0).bind fun r1 =>
  (slices_DeleteFunc_Dep r1 (fun x0 => past_Only_1 x0 l_1)).bind fun r2 =>
  some r2

def cmp_isNaN_string (x_0 : ByteArray) : Option Bool :=
  some (!seq x_0 x_0)

def cmp_Compare_string (x_0 : ByteArray) (y_1 : ByteArray) : Option Int :=
  (cmp_isNaN_string x_0).bind fun r1 =>
  (cmp_isNaN_string y_1).bind fun r2 =>
  if r1 then
    if r2 then
      some 0
    else
      some (-1)
  else
    if r2 then
      some 1
    else
      if slt x_0 y_1 then
        some (-1)
      else
        if !(slt x_0 y_1 || seq x_0 y_1) then
          some 1
        else
          some 0

def past_find_1 (d_0 : Api_Dep) (key_1 : ByteArray) : Option Int :=
  (cmp_Compare_string d_0.Key key_1).bind fun r1 =>
  some r1

def slices_BinarySearchFunc_string_k2 (x_0 : (List Api_Dep)) (target_1 : ByteArray) (cmp_2 : (Api_Dep → ByteArray → Option Int)) (y1 : Int) : Option (Int × Bool) :=
  if decide (y1 < (x_0.length : Int)) then
    (idx x_0 y1).bind fun x3 =>
    (cmp_2 x3 target_1).bind fun r4 =>
    some (y1, decide (r4 = 0))
  else
    some (y1, false)

def slices_BinarySearchFunc_string_l3 (x_0 : (List Api_Dep)) (target_1 : ByteArray) (cmp_2 : (Api_Dep → ByteArray → Option Int)) (again8 : Int × Int → Option (Int × Bool)) (v6 : Int × Int) : Option (Int × Bool) :=
  if decide (v6.1 < v6.2) then
    (idx x_0 (IntKind.wrap .i64 (Int.fdiv (IntKind.wrap .u64 (IntKind.wrap .i64 (v6.1 + v6.2))) (2 ^ min (Int.toNat 1) (IntKind.bits .u64))))).bind fun x11 =>
    (cmp_2 x11 target_1).bind fun r12 =>
    if decide (r12 < 0) then
      again8 (IntKind.wrap .i64 ((IntKind.wrap .i64 (Int.fdiv (IntKind.wrap .u64 (IntKind.wrap .i64 (v6.1 + v6.2))) (2 ^ min (Int.toNat 1) (IntKind.bits .u64)))) + 1), v6.2)
    else
      again8 (v6.1, IntKind.wrap .i64 (Int.fdiv (IntKind.wrap .u64 (IntKind.wrap .i64 (v6.1 + v6.2))) (2 ^ min (Int.toNat 1) (IntKind.bits .u64))))
  else
    slices_BinarySearchFunc_string_k2 x_0 target_1 cmp_2 v6.1

def slices_BinarySearchFunc_string (x_0 : (List Api_Dep)) (target_1 : ByteArray) (cmp_2 : (Api_Dep → ByteArray → Option Int)) : Option (Int × Bool) :=
  loopF (slices_BinarySearchFunc_string_l3 x_0 target_1 cmp_2) FU (0, (x_0.length : Int))

def past_find (p_0 : (List Api_Dep)) (key_1 : ByteArray) : Option (Int × Bool) :=
  (slices_BinarySearchFunc_string p_0 key_1 (fun x0 x1 => past_find_1 x0 x1)).bind fun r1 =>
  some (r1.1, r1.2)

def past_Get (p_0 : (List Api_Dep)) (key_1 : ByteArray) : Option Api_Stamp :=
  (past_find p_0 key_1).bind fun r1 =>
  if !r1.2 then
    some (Api_Stamp.mk 0 0)
  else
    (idx p_0 r1.1).bind fun x3 =>
    some x3.Stamp

def stamp_Less (a_0 : Api_Stamp) (b_1 : Api_Stamp) : Option Bool :=
  if !(decide (a_0.N = b_1.N) && decide (a_0.Site = b_1.Site)) then
    if decide (a_0.N < b_1.N) then
      some true
    else
      if decide (a_0.N = b_1.N) then
        some (decide (a_0.Site ≤ b_1.Site))
      else
        some false
  else
    some false

def queue_Misses_1 (d_0 : Api_Dep) (c0 : (List Api_Dep)) : Option Bool :=
  (past_Get c0 d_0.Key).bind fun r1 =>
  (stamp_Less r1 d_0.Stamp).bind fun r2 =>
  some (!r2)

def queue_Misses (v_0 : Api_Version) (have_1 : (List Api_Dep)) (own_2 : (List Api_Range)) : Option (List Api_Dep) :=
  (past_Only v_0.Past own_2).bind fun r1 =>
  (slices_DeleteFunc_Dep r1 (fun x0 => queue_Misses_1 x0 have_1)).bind fun r2 =>
  some r2

def queue_Check (v_0 : Api_Version) (have_1 : (List Api_Dep)) (own_2 : (List Api_Range)) : Option Bool :=
  (queue_Misses v_0 have_1 own_2).bind fun r1 =>
  some (decide ((r1.length : Int) = 0))

def queue_Next_k2 (l_0 : (List Api_Version)) (y1 : Unit) : Option (Api_Version × (List Api_Version) × Bool) :=
  some ((Api_Version.mk ByteArray.empty ByteArray.empty false (Api_Stamp.mk 0 0) ([] : (List Api_Dep))), l_0, false)

def queue_Next_l3 (l_0 : (List Api_Version)) (have_1 : (List Api_Dep)) (own_2 : (List Api_Range)) (again5 : Int → Option (Api_Version × (List Api_Version) × Bool)) (v3 : Int) : Option (Api_Version × (List Api_Version) × Bool) :=
  if decide (v3 < (l_0.length : Int)) then
    (idx l_0 v3).bind fun x8 =>
    (queue_Check x8 have_1 own_2).bind fun r9 =>
    if !r9 then
      again5 (IntKind.wrap .i64 (v3 + 1))
    else
      (sub l_0 0 v3).bind fun l11 =>
      (sub l_0 (IntKind.wrap .i64 (v3 + 1)) (l_0.length : Int)).bind fun l12 =>
      (app 80 l11 l12).bind fun l13 =>
      some (x8, l13, true)
  else
    queue_Next_k2 l_0 ()

def queue_Next (l_0 : (List Api_Version)) (have_1 : (List Api_Dep)) (own_2 : (List Api_Range)) : Option (Api_Version × (List Api_Version) × Bool) :=
  loopF (queue_Next_l3 l_0 have_1 own_2) FU 0

def law14_awake : Option Bool :=
  (law14_ver (ByteArray.mk #[97]) 1 ([] : (List Api_Dep))).bind fun r1 =>
  (law14_ver (ByteArray.mk #[98]) 2 ([(Api_Dep.mk (ByteArray.mk #[97]) r1.Stamp)])).bind fun r2 =>
  (queue_Next ([r2, r1]) ([] : (List Api_Dep)) ([(Api_Range.mk ByteArray.empty ByteArray.empty)])).bind fun r3 =>
  (queue_Next r3.2.1 ([(Api_Dep.mk (ByteArray.mk #[97]) r1.Stamp)]) ([(Api_Range.mk ByteArray.empty ByteArray.empty)])).bind fun r4 =>
  if r3.2.2 then
    if r4.2.2 then
      if seq r3.1.Key (ByteArray.mk #[97]) then
        if seq r4.1.Key (ByteArray.mk #[98]) then
          if decide ((r4.2.1.length : Int) = 0) then
            (queue_Check r2 ([] : (List Api_Dep)) ([(Api_Range.mk ByteArray.empty ByteArray.empty)])).bind fun r10 =>
            some (!r10)
          else
            some false
        else
          some false
      else
        some false
    else
      some false
  else
    some false

def ref02_long_k2 (c_0 : Int) (y4 : Bool) : Option Int :=
  if y4 then
    some 3
  else
    if decide (240 ≤ c_0) then
      if decide (c_0 ≤ 244) then
        some 4
      else
        some 0
    else
      some 0

def ref02_long_k1 (c_0 : Int) (y2 : Bool) : Option Int :=
  if y2 then
    some 2
  else
    if decide (224 ≤ c_0) then
      ref02_long_k2 c_0 (decide (c_0 ≤ 239))
    else
      ref02_long_k2 c_0 false

def ref02_long (c_0 : Int) : Option Int :=
  if decide (c_0 < 128) then
    some 1
  else
    if decide (194 ≤ c_0) then
      ref02_long_k1 c_0 (decide (c_0 ≤ 223))
    else
      ref02_long_k1 c_0 false

def ref02_Runes_k7 (y1 : Int) : Option Int :=
  some y1

def ref02_Runes_k12 (again5 : Int × Int → Option Int) (v3 : Int × Int) (r9 : Int) (y13 : Bool) : Option Int :=
  if y13 then
    some (-1)
  else
    again5 (IntKind.wrap .i64 (v3.1 + 1), IntKind.wrap .i64 (v3.2 + r9))

def ref02_Runes_k11 (s_0 : ByteArray) (again5 : Int × Int → Option Int) (v3 : Int × Int) (r9 : Int) (y12 : Unit) : Option Int :=
  (sidx s_0 v3.2).bind fun b16 =>
  if decide ((b16.toNat : Int) = 224) then
    (sidx s_0 (IntKind.wrap .i64 (v3.2 + 1))).bind fun b18 =>
    if decide ((b18.toNat : Int) < 160) then
      ref02_Runes_k12 again5 v3 r9 true
    else
      (sidx s_0 v3.2).bind fun b20 =>
      if decide ((b20.toNat : Int) = 237) then
        (sidx s_0 (IntKind.wrap .i64 (v3.2 + 1))).bind fun b22 =>
        if decide (159 < (b22.toNat : Int)) then
          ref02_Runes_k12 again5 v3 r9 true
        else
          (sidx s_0 v3.2).bind fun b24 =>
          if decide ((b24.toNat : Int) = 240) then
            (sidx s_0 (IntKind.wrap .i64 (v3.2 + 1))).bind fun b26 =>
            if decide ((b26.toNat : Int) < 144) then
              ref02_Runes_k12 again5 v3 r9 true
            else
              (sidx s_0 v3.2).bind fun b28 =>
              if decide ((b28.toNat : Int) = 244) then
                (sidx s_0 (IntKind.wrap .i64 (v3.2 + 1))).bind fun b30 =>
                ref02_Runes_k12 again5 v3 r9 (decide (143 < (b30.toNat : Int)))
              else
                ref02_Runes_k12 again5 v3 r9 false
          else
            (sidx s_0 v3.2).bind fun b31 =>
            if decide ((b31.toNat : Int) = 244) then
              (sidx s_0 (IntKind.wrap .i64 (v3.2 + 1))).bind fun b33 =>
              ref02_Runes_k12 again5 v3 r9 (decide (143 < (b33.toNat : Int)))
            else
              ref02_Runes_k12 again5 v3 r9 false
      else
        (sidx s_0 v3.2).bind fun b34 =>
        if decide ((b34.toNat : Int) = 240) then
          (sidx s_0 (IntKind.wrap .i64 (v3.2 + 1))).bind fun b36 =>
          if decide ((b36.toNat : Int) < 144) then
            ref02_Runes_k12 again5 v3 r9 true
          else
            (sidx s_0 v3.2).bind fun b38 =>
            if decide ((b38.toNat : Int) = 244) then
              (sidx s_0 (IntKind.wrap .i64 (v3.2 + 1))).bind fun b40 =>
              ref02_Runes_k12 again5 v3 r9 (decide (143 < (b40.toNat : Int)))
            else
              ref02_Runes_k12 again5 v3 r9 false
        else
          (sidx s_0 v3.2).bind fun b41 =>
          if decide ((b41.toNat : Int) = 244) then
            (sidx s_0 (IntKind.wrap .i64 (v3.2 + 1))).bind fun b43 =>
            ref02_Runes_k12 again5 v3 r9 (decide (143 < (b43.toNat : Int)))
          else
            ref02_Runes_k12 again5 v3 r9 false
  else
    (sidx s_0 v3.2).bind fun b44 =>
    if decide ((b44.toNat : Int) = 237) then
      (sidx s_0 (IntKind.wrap .i64 (v3.2 + 1))).bind fun b46 =>
      if decide (159 < (b46.toNat : Int)) then
        ref02_Runes_k12 again5 v3 r9 true
      else
        (sidx s_0 v3.2).bind fun b48 =>
        if decide ((b48.toNat : Int) = 240) then
          (sidx s_0 (IntKind.wrap .i64 (v3.2 + 1))).bind fun b50 =>
          if decide ((b50.toNat : Int) < 144) then
            ref02_Runes_k12 again5 v3 r9 true
          else
            (sidx s_0 v3.2).bind fun b52 =>
            if decide ((b52.toNat : Int) = 244) then
              (sidx s_0 (IntKind.wrap .i64 (v3.2 + 1))).bind fun b54 =>
              ref02_Runes_k12 again5 v3 r9 (decide (143 < (b54.toNat : Int)))
            else
              ref02_Runes_k12 again5 v3 r9 false
        else
          (sidx s_0 v3.2).bind fun b55 =>
          if decide ((b55.toNat : Int) = 244) then
            (sidx s_0 (IntKind.wrap .i64 (v3.2 + 1))).bind fun b57 =>
            ref02_Runes_k12 again5 v3 r9 (decide (143 < (b57.toNat : Int)))
          else
            ref02_Runes_k12 again5 v3 r9 false
    else
      (sidx s_0 v3.2).bind fun b58 =>
      if decide ((b58.toNat : Int) = 240) then
        (sidx s_0 (IntKind.wrap .i64 (v3.2 + 1))).bind fun b60 =>
        if decide ((b60.toNat : Int) < 144) then
          ref02_Runes_k12 again5 v3 r9 true
        else
          (sidx s_0 v3.2).bind fun b62 =>
          if decide ((b62.toNat : Int) = 244) then
            (sidx s_0 (IntKind.wrap .i64 (v3.2 + 1))).bind fun b64 =>
            ref02_Runes_k12 again5 v3 r9 (decide (143 < (b64.toNat : Int)))
          else
            ref02_Runes_k12 again5 v3 r9 false
      else
        (sidx s_0 v3.2).bind fun b65 =>
        if decide ((b65.toNat : Int) = 244) then
          (sidx s_0 (IntKind.wrap .i64 (v3.2 + 1))).bind fun b67 =>
          ref02_Runes_k12 again5 v3 r9 (decide (143 < (b67.toNat : Int)))
        else
          ref02_Runes_k12 again5 v3 r9 false

def ref02_Runes_l13 (s_0 : ByteArray) (again5 : Int × Int → Option Int) (v3 : Int × Int) (r9 : Int) (again71 : Int → Option Int) (v69 : Int) : Option Int :=
  if decide (v69 < r9) then
    (sidx s_0 (IntKind.wrap .i64 (v3.2 + v69))).bind fun b74 =>
    if decide ((b74.toNat : Int) < 128) then
      some (-1)
    else
      (sidx s_0 (IntKind.wrap .i64 (v3.2 + v69))).bind fun b76 =>
      if decide (191 < (b76.toNat : Int)) then
        some (-1)
      else
        again71 (IntKind.wrap .i64 (v69 + 1))
  else
    ref02_Runes_k11 s_0 again5 v3 r9 ()

def ref02_Runes_k9 (s_0 : ByteArray) (again5 : Int × Int → Option Int) (v3 : Int × Int) (r9 : Int) (y10 : Bool) : Option Int :=
  if y10 then
    some (-1)
  else
    loopF (ref02_Runes_l13 s_0 again5 v3 r9) FU 1

def ref02_Runes_l8 (s_0 : ByteArray) (again5 : Int × Int → Option Int) (v3 : Int × Int) : Option Int :=
  if decide (v3.2 < (s_0.size : Int)) then
    (sidx s_0 v3.2).bind fun b8 =>
    (ref02_long (b8.toNat : Int)).bind fun r9 =>
    if decide (r9 = 0) then
      ref02_Runes_k9 s_0 again5 v3 r9 true
    else
      ref02_Runes_k9 s_0 again5 v3 r9 (decide ((IntKind.wrap .i64 ((s_0.size : Int) - v3.2)) < r9))
  else
    ref02_Runes_k7 v3.1

def ref02_Runes (s_0 : ByteArray) : Option Int :=
  loopF (ref02_Runes_l8 s_0) FU (0, 0)

def ref02_Check_k2 (r1 : Int) (y2 : Unit) : Option Bool :=
  if decide (1 ≤ r1) then
    some (decide (r1 ≤ 8))
  else
    some false

def ref02_Check_l3 (s_0 : ByteArray) (r1 : Int) (again7 : Int → Option Bool) (v5 : Int) : Option Bool :=
  if decide (v5 < (s_0.size : Int)) then
    (sidx s_0 v5).bind fun b10 =>
    if decide ((b10.toNat : Int) < 33) then
      some false
    else
      again7 (IntKind.wrap .i64 (v5 + 1))
  else
    ref02_Check_k2 r1 ()

def ref02_Check (s_0 : ByteArray) : Option Bool :=
  (ref02_Runes s_0).bind fun r1 =>
  loopF (ref02_Check_l3 s_0 r1) FU 0

def ref03_Check (s_0 : Api_Stamp) : Option Bool :=
  if decide (1 ≤ s_0.N) then
    if decide (s_0.N ≤ 1099511627776) then
      if decide (0 ≤ s_0.Site) then
        some (decide (s_0.Site < 6))
      else
        some false
    else
      some false
  else
    some false

def ref03_Less (a_0 : Api_Stamp) (b_1 : Api_Stamp) : Option Bool :=
  if !decide (a_0.N = b_1.N) then
    some (decide (a_0.N < b_1.N))
  else
    some (decide (a_0.Site < b_1.Site))

def ref04_Add_k6 (d_1 : Api_Dep) (y5 : Bool × (List Api_Dep)) : Option (List Api_Dep) :=
  if !y5.1 then
    (app 32 y5.2 ([d_1])).bind fun l7 =>
    some l7
  else
    some y5.2

def ref04_Add_k10 (again11 : Bool × Int × (List Api_Dep) → Option (List Api_Dep)) (v9 : Bool × Int × (List Api_Dep)) (y15 : Bool × ByteArray × Int × Int) (y17 : Bool × (List Api_Dep)) : Option (List Api_Dep) :=
  (app 32 y17.2 ([(Api_Dep.mk y15.2.1 (Api_Stamp.mk y15.2.2.1 y15.2.2.2))])).bind fun l18 =>
  again11 (y17.1, IntKind.wrap .i64 (v9.2.1 + 1), l18)

def ref04_Add_k9 (d_1 : Api_Dep) (again11 : Bool × Int × (List Api_Dep) → Option (List Api_Dep)) (v9 : Bool × Int × (List Api_Dep)) (y15 : Bool × ByteArray × Int × Int) (y16 : Bool) : Option (List Api_Dep) :=
  if y16 then
    (app 32 v9.2.2 ([d_1])).bind fun l21 =>
    ref04_Add_k10 again11 v9 y15 (true, l21)
  else
    ref04_Add_k10 again11 v9 y15 (y15.1, v9.2.2)

def ref04_Add_k8 (d_1 : Api_Dep) (again11 : Bool × Int × (List Api_Dep) → Option (List Api_Dep)) (v9 : Bool × Int × (List Api_Dep)) (y15 : Bool × ByteArray × Int × Int) : Option (List Api_Dep) :=
  if !y15.1 then
    ref04_Add_k9 d_1 again11 v9 y15 (!(slt y15.2.1 d_1.Key || seq y15.2.1 d_1.Key))
  else
    ref04_Add_k9 d_1 again11 v9 y15 false

def ref04_Add_l7 (p_0 : (List Api_Dep)) (d_1 : Api_Dep) (again11 : Bool × Int × (List Api_Dep) → Option (List Api_Dep)) (v9 : Bool × Int × (List Api_Dep)) : Option (List Api_Dep) :=
  if decide (v9.2.1 < (p_0.length : Int)) then
    (idx p_0 v9.2.1).bind fun x14 =>
    if seq x14.Key d_1.Key then
      (ref03_Less x14.Stamp d_1.Stamp).bind fun r26 =>
      if r26 then
        ref04_Add_k8 d_1 again11 v9 (true, d_1.Key, d_1.Stamp.N, d_1.Stamp.Site)
      else
        ref04_Add_k8 d_1 again11 v9 (true, x14.Key, x14.Stamp.N, x14.Stamp.Site)
    else
      ref04_Add_k8 d_1 again11 v9 (v9.1, x14.Key, x14.Stamp.N, x14.Stamp.Site)
  else
    ref04_Add_k6 d_1 (v9.1, v9.2.2)

def ref04_Add_k1 (p_0 : (List Api_Dep)) (d_1 : Api_Dep) (y3 : Bool) : Option (List Api_Dep) :=
  if y3 then
    some p_0
  else
    loopF (ref04_Add_l7 p_0 d_1) FU (false, 0, ([] : (List Api_Dep)))

def ref04_Add (p_0 : (List Api_Dep)) (d_1 : Api_Dep) : Option (List Api_Dep) :=
  (ref02_Check d_1.Key).bind fun r1 =>
  (ref03_Check d_1.Stamp).bind fun r2 =>
  if !r1 then
    ref04_Add_k1 p_0 d_1 true
  else
    ref04_Add_k1 p_0 d_1 (!r2)

def ref04_Merge_k9 (y1 : (List Api_Dep)) : Option (List Api_Dep) :=
  some y1

def ref04_Merge_k14 (again5 : (List Api_Dep) × Int → Option (List Api_Dep)) (v3 : (List Api_Dep) × Int) (y8 : (List Api_Dep)) : Option (List Api_Dep) :=
  again5 (y8, IntKind.wrap .i64 (v3.2 + 1))

def ref04_Merge_k16 (again5 : (List Api_Dep) × Int → Option (List Api_Dep)) (v3 : (List Api_Dep) × Int) (y10 : (List Api_Dep)) : Option (List Api_Dep) :=
  ref04_Merge_k14 again5 v3 y10

def ref04_Merge_l17 (l_0 : (List (List Api_Dep))) (again5 : (List Api_Dep) × Int → Option (List Api_Dep)) (v3 : (List Api_Dep) × Int) (again14 : (List Api_Dep) × Int → Option (List Api_Dep)) (v12 : (List Api_Dep) × Int) : Option (List Api_Dep) :=
  (idx l_0 v3.2).bind fun x16 =>
  if decide (v12.2 < (x16.length : Int)) then
    (idx l_0 v3.2).bind fun x18 =>
    (idx x18 v12.2).bind fun x19 =>
    (ref04_Add v12.1 x19).bind fun r20 =>
    again14 (r20, IntKind.wrap .i64 (v12.2 + 1))
  else
    ref04_Merge_k16 again5 v3 v12.1

def ref04_Merge_l10 (l_0 : (List (List Api_Dep))) (again5 : (List Api_Dep) × Int → Option (List Api_Dep)) (v3 : (List Api_Dep) × Int) : Option (List Api_Dep) :=
  if decide (v3.2 < (l_0.length : Int)) then
    loopF (ref04_Merge_l17 l_0 again5 v3) FU (v3.1, 0)
  else
    ref04_Merge_k9 v3.1

def ref04_Merge (l_0 : (List (List Api_Dep))) : Option (List Api_Dep) :=
  loopF (ref04_Merge_l10 l_0) FU (([] : (List Api_Dep)), 0)

def law14_word (n_0 : Int) : Option ByteArray :=
  some (bytesOf ([IntKind.wrap .u8 (IntKind.wrap .i64 (97 + (IntKind.wrap .i64 (3 * (IntKind.wrap .i64 (BitVec.ofInt (IntKind.bits .i64) n_0 &&& BitVec.ofInt (IntKind.bits .i64) 7).toNat)))))]))

def law14_made_k26 (y1 : (List Api_Version)) : Option (List Api_Version) :=
  some y1

def law14_made_k40 (again5 : Int × (List Api_Version) → Option (List Api_Version)) (v3 : Int × (List Api_Version)) (y9 : (List Api_Version)) : Option (List Api_Version) :=
  again5 (IntKind.wrap .i64 (v3.1 + 1), y9)

def law14_made_k47 (again5 : Int × (List Api_Version) → Option (List Api_Version)) (v3 : Int × (List Api_Version)) (y11 : (List Api_Dep)) (y12 : Int) (r14 : ByteArray) (x15 : Law14_Write) (y16 : Bool) : Option (List Api_Version) :=
  if !y16 then
    (app 80 v3.2 ([(Api_Version.mk r14 ByteArray.empty false (Api_Stamp.mk (IntKind.wrap .i64 (y12 + 1)) (IntKind.wrap .i64 (BitVec.ofInt (IntKind.bits .i64) x15.Site &&& BitVec.ofInt (IntKind.bits .i64) 3).toNat)) y11)])).bind fun l18 =>
    law14_made_k40 again5 v3 l18
  else
    law14_made_k40 again5 v3 v3.2

def law14_made_l48 (again5 : Int × (List Api_Version) → Option (List Api_Version)) (v3 : Int × (List Api_Version)) (y11 : (List Api_Dep)) (y12 : Int) (r14 : ByteArray) (x15 : Law14_Write) (again22 : Bool × Int → Option (List Api_Version)) (v20 : Bool × Int) : Option (List Api_Version) :=
  if decide (v20.2 < (v3.2.length : Int)) then
    if v20.1 then
      again22 (true, IntKind.wrap .i64 (v20.2 + 1))
    else
      (idx v3.2 v20.2).bind fun x26 =>
      if seq x26.Key r14 then
        (idx v3.2 v20.2).bind fun x28 =>
        again22 ((decide (x28.Stamp.N = IntKind.wrap .i64 (y12 + 1)) && decide (x28.Stamp.Site = IntKind.wrap .i64 (BitVec.ofInt (IntKind.bits .i64) x15.Site &&& BitVec.ofInt (IntKind.bits .i64) 3).toNat)), IntKind.wrap .i64 (v20.2 + 1))
      else
        again22 (false, IntKind.wrap .i64 (v20.2 + 1))
  else
    law14_made_k47 again5 v3 y11 y12 r14 x15 v20.1

def law14_made_k45 (l_0 : (List Law14_Write)) (again5 : Int × (List Api_Version) → Option (List Api_Version)) (v3 : Int × (List Api_Version)) (y11 : (List Api_Dep)) (y12 : Int) : Option (List Api_Version) :=
  (idx l_0 v3.1).bind fun x13 =>
  (law14_word x13.Key).bind fun r14 =>
  (idx l_0 v3.1).bind fun x15 =>
  loopF (law14_made_l48 again5 v3 y11 y12 r14 x15) FU (false, 0)

def law14_made_l49 (l_0 : (List Law14_Write)) (again5 : Int × (List Api_Version) → Option (List Api_Version)) (v3 : Int × (List Api_Version)) (y11 : (List Api_Dep)) (again32 : Int × Int → Option (List Api_Version)) (v30 : Int × Int) : Option (List Api_Version) :=
  if decide (v30.2 < (y11.length : Int)) then
    (idx y11 v30.2).bind fun x35 =>
    if decide (v30.1 < x35.Stamp.N) then
      (idx y11 v30.2).bind fun x37 =>
      again32 (x37.Stamp.N, IntKind.wrap .i64 (v30.2 + 1))
    else
      again32 (v30.1, IntKind.wrap .i64 (v30.2 + 1))
  else
    law14_made_k45 l_0 again5 v3 y11 v30.1

def law14_made_k43 (l_0 : (List Law14_Write)) (again5 : Int × (List Api_Version) → Option (List Api_Version)) (v3 : Int × (List Api_Version)) (y11 : (List Api_Dep)) : Option (List Api_Version) :=
  loopF (law14_made_l49 l_0 again5 v3 y11) FU (0, 0)

def law14_made_k51 (l_0 : (List Law14_Write)) (again5 : Int × (List Api_Version) → Option (List Api_Version)) (v3 : Int × (List Api_Version)) (again41 : (List Api_Dep) × Int → Option (List Api_Version)) (v39 : (List Api_Dep) × Int) (y43 : Bool) : Option (List Api_Version) :=
  if y43 then
    if decide (0 < (v3.2.length : Int)) then
      (idx l_0 v3.1).bind fun x46 =>
      (idx x46.Saw v39.2).bind fun x47 =>
      chk (!decide ((v3.2.length : Int) = 0)) (
      chk (!decide ((v3.2.length : Int) = 0)) (
      (idx v3.2 (Int.tmod (IntKind.wrap .i64 ((Int.tmod x47 (v3.2.length : Int)) + (v3.2.length : Int))) (v3.2.length : Int))).bind fun x50 =>
      (ref04_Merge ([v39.1, x50.Past, [(Api_Dep.mk x50.Key x50.Stamp)]])).bind fun r51 =>
      again41 (r51, IntKind.wrap .i64 (v39.2 + 1))))
    else
      again41 (v39.1, IntKind.wrap .i64 (v39.2 + 1))
  else
    law14_made_k43 l_0 again5 v3 v39.1

def law14_made_l50 (l_0 : (List Law14_Write)) (again5 : Int × (List Api_Version) → Option (List Api_Version)) (v3 : Int × (List Api_Version)) (again41 : (List Api_Dep) × Int → Option (List Api_Version)) (v39 : (List Api_Dep) × Int) : Option (List Api_Version) :=
  (idx l_0 v3.1).bind fun x53 =>
  if decide (v39.2 < (x53.Saw.length : Int)) then
    law14_made_k51 l_0 again5 v3 again41 v39 (decide (v39.2 < 4))
  else
    law14_made_k51 l_0 again5 v3 again41 v39 false

def law14_made_k28 (l_0 : (List Law14_Write)) (again5 : Int × (List Api_Version) → Option (List Api_Version)) (v3 : Int × (List Api_Version)) (y7 : Bool) : Option (List Api_Version) :=
  if y7 then
    loopF (law14_made_l50 l_0 again5 v3) FU (([] : (List Api_Dep)), 0)
  else
    law14_made_k26 v3.2

def law14_made_l27 (l_0 : (List Law14_Write)) (again5 : Int × (List Api_Version) → Option (List Api_Version)) (v3 : Int × (List Api_Version)) : Option (List Api_Version) :=
  if decide (v3.1 < (l_0.length : Int)) then
    law14_made_k28 l_0 again5 v3 (decide (v3.1 < 14))
  else
    law14_made_k28 l_0 again5 v3 false

def law14_made (l_0 : (List Law14_Write)) : Option (List Api_Version) :=
  loopF (law14_made_l27 l_0) FU (0, ([] : (List Api_Version)))

def law14_ranges (n_0 : Int) : Option (List Api_Range) :=
  if decide ((IntKind.wrap .i64 (BitVec.ofInt (IntKind.bits .i64) n_0 &&& BitVec.ofInt (IntKind.bits .i64) 3).toNat) = 0) then
    some ([(Api_Range.mk ByteArray.empty ByteArray.empty)])
  else
    if decide ((IntKind.wrap .i64 (BitVec.ofInt (IntKind.bits .i64) n_0 &&& BitVec.ofInt (IntKind.bits .i64) 3).toNat) = 1) then
      some ([(Api_Range.mk ByteArray.empty (ByteArray.mk #[106]))])
    else
      if decide ((IntKind.wrap .i64 (BitVec.ofInt (IntKind.bits .i64) n_0 &&& BitVec.ofInt (IntKind.bits .i64) 3).toNat) = 2) then
        some ([(Api_Range.mk (ByteArray.mk #[100]) (ByteArray.mk #[109])), (Api_Range.mk (ByteArray.mk #[115]) ByteArray.empty)])
      else
        some ([] : (List Api_Range))

def ref02_Has (r_0 : Api_Range) (key_1 : ByteArray) : Option Bool :=
  if !slt key_1 r_0.From then
    if seq r_0.To ByteArray.empty then
      some true
    else
      some (slt key_1 r_0.To)
  else
    some false

def ref02_Find_k2 (y1 : Unit) : Option Int :=
  some (-1)

def ref02_Find_l3 (l_0 : (List Api_Range)) (key_1 : ByteArray) (again5 : Int → Option Int) (v3 : Int) : Option Int :=
  if decide (v3 < (l_0.length : Int)) then
    (idx l_0 v3).bind fun x8 =>
    (ref02_Has x8 key_1).bind fun r9 =>
    if r9 then
      some v3
    else
      again5 (IntKind.wrap .i64 (v3 + 1))
  else
    ref02_Find_k2 ()

def ref02_Find (l_0 : (List Api_Range)) (key_1 : ByteArray) : Option Int :=
  loopF (ref02_Find_l3 l_0 key_1) FU 0

def ref04_Only_k2 (y1 : (List Api_Dep)) : Option (List Api_Dep) :=
  some y1

def ref04_Only_l3 (p_0 : (List Api_Dep)) (l_1 : (List Api_Range)) (again5 : Int × (List Api_Dep) → Option (List Api_Dep)) (v3 : Int × (List Api_Dep)) : Option (List Api_Dep) :=
  if decide (v3.1 < (p_0.length : Int)) then
    (idx p_0 v3.1).bind fun x8 =>
    (ref02_Find l_1 x8.Key).bind fun r9 =>
    if decide (0 ≤ r9) then
      (idx p_0 v3.1).bind fun x11 =>
      (app 32 v3.2 ([x11])).bind fun l12 =>
      again5 (IntKind.wrap .i64 (v3.1 + 1), l12)
    else
      again5 (IntKind.wrap .i64 (v3.1 + 1), v3.2)
  else
    ref04_Only_k2 v3.2

def ref04_Only (p_0 : (List Api_Dep)) (l_1 : (List Api_Range)) : Option (List Api_Dep) :=
  loopF (ref04_Only_l3 p_0 l_1) FU (0, ([] : (List Api_Dep)))

def ref04_Get_k2 (y1 : Unit) : Option Api_Stamp :=
  some (Api_Stamp.mk 0 0)

def ref04_Get_l3 (p_0 : (List Api_Dep)) (key_1 : ByteArray) (again5 : Int → Option Api_Stamp) (v3 : Int) : Option Api_Stamp :=
  if decide (v3 < (p_0.length : Int)) then
    (idx p_0 v3).bind fun x8 =>
    if seq x8.Key key_1 then
      (idx p_0 v3).bind fun x10 =>
      some x10.Stamp
    else
      again5 (IntKind.wrap .i64 (v3 + 1))
  else
    ref04_Get_k2 ()

def ref04_Get (p_0 : (List Api_Dep)) (key_1 : ByteArray) : Option Api_Stamp :=
  loopF (ref04_Get_l3 p_0 key_1) FU 0

def ref04_Covers_k2 (y1 : Unit) : Option Bool :=
  some true

def ref04_Covers_l3 (p_0 : (List Api_Dep)) (q_1 : (List Api_Dep)) (again5 : Int → Option Bool) (v3 : Int) : Option Bool :=
  if decide (v3 < (q_1.length : Int)) then
    (idx q_1 v3).bind fun x8 =>
    (ref04_Get p_0 x8.Key).bind fun r9 =>
    (idx q_1 v3).bind fun x10 =>
    (ref03_Less r9 x10.Stamp).bind fun r11 =>
    if r11 then
      some false
    else
      again5 (IntKind.wrap .i64 (v3 + 1))
  else
    ref04_Covers_k2 ()

def ref04_Covers (p_0 : (List Api_Dep)) (q_1 : (List Api_Dep)) : Option Bool :=
  loopF (ref04_Covers_l3 p_0 q_1) FU 0

def law14_QueueLeft_k6 (r1 : Bool) (y6 : Unit) : Option Bool :=
  some r1

def law14_QueueLeft_l7 (r1 : Bool) (r3 : (List Api_Range)) (y5 : (List Api_Version) × (List Api_Dep)) (again10 : Int → Option Bool) (v8 : Int) : Option Bool :=
  if decide (v8 < (y5.1.length : Int)) then
    (idx y5.1 v8).bind fun x13 =>
    (queue_Misses x13 y5.2 r3).bind fun r14 =>
    if decide ((r14.length : Int) = 0) then
      some false
    else
      (idx r14 0).bind fun x16 =>
      (ref04_Get y5.2 x16.Key).bind fun r17 =>
      (idx r14 0).bind fun x18 =>
      (ref03_Less r17 x18.Stamp).bind fun r19 =>
      if !r19 then
        some false
      else
        again10 (IntKind.wrap .i64 (v8 + 1))
  else
    law14_QueueLeft_k6 r1 ()

def law14_QueueLeft_k4 (r1 : Bool) (r3 : (List Api_Range)) (y5 : (List Api_Version) × (List Api_Dep)) : Option Bool :=
  loopF (law14_QueueLeft_l7 r1 r3 y5) FU 0

def law14_QueueLeft_l8 (r1 : Bool) (r3 : (List Api_Range)) (again24 : (List Api_Version) × (List Api_Dep) × Int → Option Bool) (v22 : (List Api_Version) × (List Api_Dep) × Int) : Option Bool :=
  if decide (v22.2.2 < 15) then
    (queue_Next v22.1 v22.2.1 r3).bind fun r27 =>
    if !r27.2.2 then
      law14_QueueLeft_k4 r1 r3 (v22.1, v22.2.1)
    else
      (ref04_Only r27.1.Past r3).bind fun r29 =>
      (ref04_Covers v22.2.1 r29).bind fun r30 =>
      if !r30 then
        some false
      else
        (ref04_Add v22.2.1 (Api_Dep.mk r27.1.Key r27.1.Stamp)).bind fun r32 =>
        again24 (r27.2.1, r32, IntKind.wrap .i64 (v22.2.2 + 1))
  else
    law14_QueueLeft_k4 r1 r3 (v22.1, v22.2.1)

def law14_QueueLeft_k2 (r1 : Bool) (r3 : (List Api_Range)) (y4 : (List Api_Version)) : Option Bool :=
  loopF (law14_QueueLeft_l8 r1 r3) FU (y4, ([] : (List Api_Dep)), 0)

def law14_QueueLeft_l9 (out_1 : Int) (r1 : Bool) (r2 : (List Api_Version)) (r3 : (List Api_Range)) (again36 : Int × (List Api_Version) → Option Bool) (v34 : Int × (List Api_Version)) : Option Bool :=
  if decide (v34.1 < (r2.length : Int)) then
    if !decide (v34.1 = (IntKind.wrap .i64 (BitVec.ofInt (IntKind.bits .i64) out_1 &&& BitVec.ofInt (IntKind.bits .i64) 15).toNat)) then
      (idx r2 (IntKind.wrap .i64 ((IntKind.wrap .i64 ((r2.length : Int) - 1)) - v34.1))).bind fun x40 =>
      (app 80 v34.2 ([x40])).bind fun l41 =>
      again36 (IntKind.wrap .i64 (v34.1 + 1), l41)
    else
      again36 (IntKind.wrap .i64 (v34.1 + 1), v34.2)
  else
    law14_QueueLeft_k2 r1 r3 v34.2

def law14_QueueLeft (l_0 : (List Law14_Write)) (out_1 : Int) (which_2 : Int) : Option Bool :=
  (law14_awake).bind fun r1 =>
  (law14_made l_0).bind fun r2 =>
  (law14_ranges which_2).bind fun r3 =>
  loopF (law14_QueueLeft_l9 out_1 r1 r2 r3) FU (0, ([] : (List Api_Version)))

end Go.Ark
