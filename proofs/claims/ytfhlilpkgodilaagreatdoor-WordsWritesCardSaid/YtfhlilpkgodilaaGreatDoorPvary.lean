import Derived.Test.YtfhlilpkgodilaaGreatDoorP0
import Derived.Test.YtfhlilpkgodilaaGreatDoorFA
/- Plain laws: numbers and texts, as bytes and out of bytes. Conditions: none but those that stand in each law. -/
namespace Go.Ark
open Go Go.Ab Go.RowKit

/-! texts and their bytes -/
abbrev bl (s : ByteArray) : List UInt8 := s.data.toList
def ofL (l : List UInt8) : ByteArray := ⟨l.toArray⟩
theorem bl_ofL (l : List UInt8) : bl (ofL l) = l := by simp [bl, ofL]
theorem ofL_bl (s : ByteArray) : ofL (bl s) = s := by cases s; simp [bl, ofL]
theorem bl_inj {s t : ByteArray} (h : bl s = bl t) : s = t := by rw [← ofL_bl s, ← ofL_bl t, h]
theorem bl_app (s t : ByteArray) : bl (s ++ t) = bl s ++ bl t := by simp [bl, ByteArray.data_append]
theorem bl_len (s : ByteArray) : (bl s).length = s.size := by simp [bl]
theorem ofL_app (l m : List UInt8) : ofL l ++ ofL m = ofL (l ++ m) := bl_inj (by rw [bl_app, bl_ofL, bl_ofL, bl_ofL])
theorem ofL_size (l : List UInt8) : (ofL l).size = l.length := by rw [← bl_len, bl_ofL]
theorem app_ofL (s : ByteArray) (l : List UInt8) : s ++ ofL l = ofL (bl s ++ l) := bl_inj (by rw [bl_app, bl_ofL, bl_ofL])
theorem bl_extract (s : ByteArray) (a b : Nat) : bl (s.extract a b) = ((bl s).take b).drop a := by
  unfold bl
  rw [ByteArray.data_extract, Array.toList_extract, List.extract_eq_take_drop, List.drop_take]
theorem scat_L {s t : ByteArray} (h : s.size + t.size ≤ 9223372036854775807) : scat s t = some (s ++ t) := by unfold scat; rw [if_pos h]
theorem bytesOf_one (n : Nat) : bytesOf [(n : Int)] = ofL [UInt8.ofNat n] := by simp [bytesOf, ofL]

theorem wrapu8 (n : Nat) : IntKind.wrap .u8 (n : Int) = ((n % 256 : Nat) : Int) := by
  simp only [IntKind.wrap, IntKind.signed, IntKind.bits]
  simp
theorem wrapu64 {n : Int} (h1 : 0 ≤ n) (h2 : n < 18446744073709551616) : IntKind.wrap .u64 n = n := by
  simp only [IntKind.wrap, IntKind.signed, IntKind.bits]
  simp; omega

/-! a number's bytes -/
def numLf : Nat → Nat → List UInt8
  | 0, n => [UInt8.ofNat n]
  | f + 1, n => if n < 128 then [UInt8.ofNat n] else UInt8.ofNat (128 + n % 128) :: numLf f (n / 128)
theorem numLf_more : ∀ {f n : Nat}, n < 128 ^ (f + 1) → numLf (f + 1) n = numLf f n
  | 0, n, h => by
    have h : n < 128 := by simpa using h
    show (if n < 128 then [UInt8.ofNat n] else _) = _
    rw [if_pos h]; rfl
  | f + 1, n, h => by
    show (if n < 128 then [UInt8.ofNat n] else UInt8.ofNat (128 + n % 128) :: numLf (f + 1) (n / 128)) = (if n < 128 then [UInt8.ofNat n] else UInt8.ofNat (128 + n % 128) :: numLf f (n / 128))
    by_cases c : n < 128
    · rw [if_pos c, if_pos c]
    · rw [if_neg c, if_neg c, numLf_more]
      rw [Nat.pow_succ] at h
      exact Nat.div_lt_of_lt_mul (by rw [Nat.mul_comm]; exact h)
def numL (n : Nat) : List UInt8 := numLf 10 n
theorem numL_small {n : Nat} (h : n < 128) : numL n = [UInt8.ofNat n] := by unfold numL; rw [numLf, if_pos h]
theorem numL_big {n : Nat} (h : ¬ n < 128) (hn : n < 18446744073709551616) : numL n = UInt8.ofNat (128 + n % 128) :: numL (n / 128) := by
  have e : numL n = if n < 128 then [UInt8.ofNat n] else UInt8.ofNat (128 + n % 128) :: numLf 9 (n / 128) := rfl
  rw [e, if_neg h]
  unfold numL
  rw [numLf_more (f := 9)]
  have : (128 : Nat) ^ (9 + 1) = 1180591620717411303424 := by decide
  rw [this]
  omega
theorem numLf_len : ∀ {f n : Nat}, 1 ≤ (numLf f n).length ∧ (numLf f n).length ≤ f + 1
  | 0, n => by simp [numLf]
  | f + 1, n => by
    have := @numLf_len f (n / 128)
    rw [numLf]
    split
    · simp
    · simp; omega
theorem numL_len (n : Nat) : 1 ≤ (numL n).length ∧ (numL n).length ≤ 11 := numLf_len
def numP (n : Nat) : ByteArray := ofL (numL n)

theorem u8_more (n : Nat) : IntKind.wrap .u8 (BitVec.ofInt (IntKind.bits .u8) (IntKind.wrap .u8 (n : Int)) ||| BitVec.ofInt (IntKind.bits .u8) 128).toNat = ((128 + n % 128 : Nat) : Int) := by
  have key : ∀ m : Fin 256, IntKind.wrap .u8 (BitVec.ofInt (IntKind.bits .u8) ((m.val : Nat) : Int) ||| BitVec.ofInt (IntKind.bits .u8) 128).toNat = ((128 + m.val % 128 : Nat) : Int) := by decide +kernel
  have hw := wrapu8 n
  rw [hw]
  have := key ⟨n % 256, Nat.mod_lt _ (by decide)⟩
  simp only at this
  rw [this]
  congr 2
  omega

theorem bld_WriteByte_eq {s : ByteArray} {c : Nat} (hc : c < 256) (hs : s.size + 1 ≤ 140737488355328) : bld_WriteByte s (c : Int) = some (s ++ ofL [UInt8.ofNat c]) := by
  unfold bld_WriteByte
  rw [if_pos ⟨by omega, by omega, hs⟩, Int.toNat_natCast]
  rfl
theorem bld_WriteString_eq {s t : ByteArray} (hs : s.size + t.size ≤ 140737488355328) : bld_WriteString s t = some (s ++ t) := by unfold bld_WriteString; rw [if_pos hs]
theorem bld_String_eq {s : ByteArray} (_hs : s.size ≠ 0) : bld_String s = some s := rfl

theorem vary_put_eq {b : ByteArray} {n : Nat} (hn : n < 18446744073709551616) (hb : b.size ≤ 100000000000000) : vary_put b (n : Int) = some (b ++ numP n) := by
  unfold vary_put
  refine (loopF_inv (fun (v : Int × ByteArray) => 0 ≤ v.1 ∧ v.1 < 18446744073709551616 ∧ v.2.size + (numL v.1.toNat).length ≤ 140737488355328) (fun v => v.1.toNat) (fun v => some (v.2 ++ numP v.1.toNat)) ?_ FU ((n : Int), b) ⟨by simp only; omega, by simp only; omega, ?_⟩ (by have := FU_big; simp only; omega)).trans (by simp)
  · rintro again ⟨m', c⟩ ⟨h1, h2, h3⟩ hag
    simp only at h1 h2 h3
    obtain ⟨m, rfl⟩ : ∃ m : Nat, m' = m := ⟨m'.toNat, by omega⟩
    simp only [Int.toNat_natCast] at h3
    unfold vary_put_l2
    simp only
    by_cases c1 : m < 128
    · rw [if_neg (by simp; omega)]
      unfold vary_put_k1
      simp only
      rw [wrapu8, Nat.mod_eq_of_lt (by omega), bld_WriteByte_eq (by omega) (by have := (numL_len m).1; omega)]
      simp only [Option.bind_some, Int.toNat_natCast]
      unfold numP
      rw [numL_small c1]
    · rw [if_pos (by simp; omega), u8_more, bld_WriteByte_eq (by omega) (by have := (numL_len m).1; omega)]
      simp only [Option.bind_some]
      have e : Int.fdiv (m : Int) (2 ^ min (Int.toNat 7) (IntKind.bits .u64)) = ((m / 128 : Nat) : Int) := by
        have : (2 : Int) ^ min (Int.toNat 7) (IntKind.bits .u64) = 128 := by rfl
        rw [this, Int.fdiv_eq_ediv_of_nonneg _ (by omega)]; rfl
      have hb := numL_big c1 (by omega)
      rw [e, hag _ ⟨by simp only; omega, by simp only; omega, ?_⟩ (by simp only; omega)]
      · simp only [Int.toNat_natCast]
        unfold numP
        rw [hb, app_ofL, app_ofL, app_ofL, bl_ofL]
        simp
      · simp only [Int.toNat_natCast, ByteArray.size_append, ofL_size, List.length_cons, List.length_nil]
        rw [hb] at h3
        simp only [List.length_cons] at h3
        omega
  · have := (numL_len n).2
    simp only [Int.toNat_natCast]
    omega

def joinL (l : List Int) : List UInt8 := l.flatMap fun x => numL x.toNat
theorem vary_Join_eq {l : List Int} (h : ∀ x, x ∈ l → 0 ≤ x ∧ x < 18446744073709551616) (hne : l ≠ []) (hl : l.length ≤ 1000) : vary_Join l = some (ofL (joinL l)) := by
  unfold vary_Join
  have hpos : ∀ m : List Int, m ≠ [] → (joinL m).length ≠ 0 := by
    intro m hm
    cases m with
    | nil => exact absurd rfl hm
    | cons x m =>
      have := (numL_len x.toNat).1
      simp only [joinL, List.flatMap_cons, List.length_append]
      omega
  refine (loopL (body := vary_Join_l2 l) l (fun (s : ByteArray) i => (i, s)) (fun rest s => if s.size = 0 ∧ rest = [] then none else some (s ++ ofL (joinL rest))) (fun i s => s.size ≤ 11 * i ∧ (0 < i → s.size ≠ 0)) ?_ ?_ (s0 := ByteArray.empty) (by simp) (by omega)).trans ?_
  · intro again s hs
    unfold vary_Join_l2 vary_Join_k1
    simp only [Int.lt_irrefl, decide_false, Bool.false_eq_true, if_false]
    have hl0 : l.length ≠ 0 := fun c => hne (List.length_eq_zero_iff.1 c)
    have h0 := hs.2 (by omega)
    rw [bld_String_eq h0, if_neg (fun c => h0 c.1)]
    simp only [Option.bind_some]
    rw [show joinL [] = [] from rfl, app_ofL, List.append_nil, ofL_bl]
  · intro again i s hi hI hag
    obtain ⟨hx0, hx1⟩ := h l[i] (List.getElem_mem hi)
    obtain ⟨m, hm⟩ : ∃ m : Nat, l[i] = m := ⟨l[i].toNat, by omega⟩
    unfold vary_Join_l2 vary_Join_1
    simp only
    rw [if_pos (by simpa using hi), idx_at hi]
    simp only [Option.bind_some]
    have h11 := numL_len m
    rw [hm, vary_put_eq (by omega) (by omega), wrap64 (by omega) (by omega)]
    simp only [Option.bind_some]
    have hsz : (s ++ numP m).size = s.size + (numL m).length := by rw [ByteArray.size_append]; unfold numP; rw [ofL_size]
    rw [hag (s ++ numP m) ⟨by omega, fun _ => by omega⟩, if_neg (fun c => by omega), if_neg (fun c => by simp at c)]
    unfold numP
    rw [app_ofL, app_ofL, app_ofL, bl_ofL]
    simp [joinL]
  · rw [if_neg (fun c => hne c.2), app_ofL]
    rfl
theorem vary_Number_eq {n : Nat} (hn : n < 18446744073709551616) : vary_Number (n : Int) = some (numP n) := by
  unfold vary_Number
  rw [vary_Join_eq (fun x hx => by simp at hx; subst hx; omega) (by simp) (by simp)]
  simp [joinL, numP]

def textL (s : ByteArray) : List UInt8 := numL s.size ++ bl s
theorem textL_len (s : ByteArray) : (textL s).length ≤ s.size + 11 := by
  have := (numL_len s.size).2
  simp only [textL, List.length_append, bl_len]
  omega
theorem vary_Text_eq {s : ByteArray} (hs : s.size ≤ 1000000000000) : vary_Text s = some (ofL (textL s)) := by
  have := (numL_len s.size).2
  unfold vary_Text
  rw [wrapu64 (by omega) (by omega), vary_Number_eq (by omega)]
  simp only [Option.bind_some]
  unfold numP
  rw [scat_L (by rw [ofL_size]; omega)]
  simp only [Option.bind_some]
  exact congrArg some (bl_inj (by rw [bl_app, bl_ofL, bl_ofL]; rfl))

theorem ref01_Number_eq {n : Nat} (hn : n < 18446744073709551616) : ref01_Number (n : Int) = some (numP n) := by
  unfold ref01_Number
  refine (loopF_inv (fun (v : Int) => 0 ≤ v ∧ v < 18446744073709551616) (fun v => v.toNat) (fun v => some (numP v.toNat)) ?_ FU (n : Int) ⟨by omega, by omega⟩ (by have := FU_big; omega)).trans (by simp)
  rintro again m' ⟨h1, h2⟩ hag
  obtain ⟨m, rfl⟩ : ∃ m : Nat, m' = m := ⟨m'.toNat, by omega⟩
  unfold ref01_Number_b
  by_cases c : m < 128
  · rw [if_pos (by simp; omega), wrapu8, Nat.mod_eq_of_lt (by omega), bytesOf_one]
    unfold numP
    rw [Int.toNat_natCast, numL_small c]
  · have e1 : Int.tdiv (m : Int) 128 = ((m / 128 : Nat) : Int) := by rw [Int.tdiv_eq_ediv_of_nonneg (by omega)]; rfl
    have e2 : Int.tmod (m : Int) 128 = ((m % 128 : Nat) : Int) := by rw [Int.tmod_eq_emod_of_nonneg (by omega)]; rfl
    rw [if_neg (by simp; omega), e1, e2, wrapu64 (by omega) (by omega), hag _ ⟨by omega, by omega⟩ (by omega)]
    simp only [Option.bind_some]
    have e3 : IntKind.wrap .u8 (IntKind.wrap .u64 (128 + ((m % 128 : Nat) : Int))) = ((128 + m % 128 : Nat) : Int) := by
      rw [wrapu64 (by omega) (by omega), show (128 : Int) + ((m % 128 : Nat) : Int) = ((128 + m % 128 : Nat) : Int) by omega, wrapu8, Nat.mod_eq_of_lt (by omega)]
    have := (numL_len (m / 128)).2
    rw [e3, bytesOf_one, Int.toNat_natCast]
    unfold numP
    rw [scat_L (by rw [ofL_size, ofL_size]; simp; omega)]
    simp only [Option.bind_some]
    rw [ofL_app, Int.toNat_natCast, numL_big c (by omega)]
    rfl
theorem ref01_Text_eq {s : ByteArray} (hs : s.size ≤ 1000000000000) : ref01_Text s = some (ofL (textL s)) := by
  have := (numL_len s.size).2
  unfold ref01_Text
  rw [wrapu64 (by omega) (by omega), ref01_Number_eq (by omega)]
  simp only [Option.bind_some]
  unfold numP
  rw [scat_L (by rw [ofL_size]; omega)]
  simp only [Option.bind_some]
  exact congrArg some (bl_inj (by rw [bl_app, bl_ofL, bl_ofL]; rfl))
end Go.Ark
