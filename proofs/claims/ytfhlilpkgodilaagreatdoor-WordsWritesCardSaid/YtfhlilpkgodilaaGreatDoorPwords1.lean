import Derived.Test.YtfhlilpkgodilaaGreatDoorPvary
import Derived.Test.YtfhlilpkgodilaaGreatDoorFA
/- Plain laws: words: texts between quotes. Conditions: none but those that stand in each law. -/
namespace Go.Ark
open Go Go.Ab Go.RowKit

def plB (c : UInt8) : Bool := decide (32 ≤ c.toNat) && (decide (c.toNat ≤ 126) && (!decide (c.toNat = 34) && !decide (c.toNat = 92)))
def hexB (n : Nat) : UInt8 := if n < 10 then UInt8.ofNat (48 + n) else UInt8.ofNat (87 + n)
def escL (c : UInt8) : List UInt8 := if plB c then [c] else [92, hexB (c.toNat / 16), hexB (c.toNat % 16)]
def quoteL (l : List UInt8) : List UInt8 := 34 :: (l.flatMap escL ++ [34])
def ints (l : List UInt8) : List Int := l.map fun b => (b.toNat : Int)

theorem bytesOf_ints (l : List UInt8) : bytesOf (ints l) = ofL l := by
  unfold bytesOf ints ofL
  rw [List.map_map]
  congr 2
  exact (List.map_congr_left fun b _ => by simp).trans (List.map_id l)
theorem escL_len (c : UInt8) : 1 ≤ (escL c).length ∧ (escL c).length ≤ 3 := by
  unfold escL; split <;> simp
theorem escs_len : ∀ l : List UInt8, l.length ≤ (l.flatMap escL).length ∧ (l.flatMap escL).length ≤ 3 * l.length
  | [] => by simp
  | c :: l => by
    have := escs_len l
    have := escL_len c
    simp only [List.flatMap_cons, List.length_append, List.length_cons]
    omega
theorem quoteL_len (l : List UInt8) : (quoteL l).length ≤ 3 * l.length + 2 := by
  have := escs_len l
  simp only [quoteL, List.length_cons, List.length_append, List.length_nil]; omega
theorem sidx_bl (s : ByteArray) (i : Nat) : sidx s (i : Int) = (bl s)[i]? := by
  by_cases h : i < s.size
  · rw [sidx_at h, List.getElem?_eq_getElem (by rw [bl_len]; exact h)]
    rfl
  · have : (bl s)[i]? = none := List.getElem?_eq_none (by rw [bl_len]; omega)
    rw [this]
    simp only [sidx, Int.natCast_nonneg, if_true, Int.toNat_natCast]
    exact getElem?_neg s i h
theorem app1 {acc ys : List Int} (h : acc.length + ys.length ≤ 1000000) : app 1 acc ys = some (acc ++ ys) := by
  unfold app
  rw [if_pos]
  simp only [List.length_append]
  omega
theorem plain_all : ∀ n : Nat, n < 256 → words_plain (n : Int) = some (plB (UInt8.ofNat n)) := by decide +kernel
theorem words_plain_eq (c : UInt8) : words_plain (c.toNat : Int) = some (plB c) := by
  have := plain_all c.toNat c.toNat_lt
  rwa [UInt8.ofNat_toNat] at this
theorem hex_all : ∀ n : Nat, n < 256 → sidx (ByteArray.mk #[48, 49, 50, 51, 52, 53, 54, 55, 56, 57, 97, 98, 99, 100, 101, 102]) (IntKind.wrap .u8 (Int.tdiv (n : Int) 16)) = some (hexB (n / 16)) ∧
    sidx (ByteArray.mk #[48, 49, 50, 51, 52, 53, 54, 55, 56, 57, 97, 98, 99, 100, 101, 102]) (Int.tmod (n : Int) 16) = some (hexB (n % 16)) := by decide +kernel

theorem quote_loop (s : ByteArray) (hs : s.size ≤ 1000) : ∀ (r done : List UInt8) (acc : List Int) (n : Nat), bl s = done ++ r → r.length < n → acc.length + 3 * r.length ≤ 10000 →
    loopF (words_Quote_l2 s) n ((done.length : Int), acc) = some (bytesOf (acc ++ ints (r.flatMap escL ++ [34])))
  | [], done, acc, 0, _, h, _ => by simp at h
  | [], done, acc, n + 1, hb, _, hl => by
    have hd : done.length = s.size := by rw [← bl_len, hb]; simp
    rw [loopF]
    rw [words_Quote_l2]
    rw [if_neg (by simp [hd])]
    unfold words_Quote_k1
    have hl' : acc.length ≤ 10000 := by simpa using hl
    rw [app1 (by simp; omega)]
    rfl
  | c :: r, done, acc, 0, _, h, _ => by simp at h
  | c :: r, done, acc, n + 1, hb, h, hl => by
    have hd : done.length < s.size := by rw [← bl_len, hb]; simp
    have hc : sidx s (done.length : Int) = some c := by rw [sidx_bl, hb]; simp
    have hw : IntKind.wrap .i64 ((done.length : Int) + 1) = ((done ++ [c]).length : Int) := by rw [wrap64 (by omega) (by omega)]; simp
    have hl' : acc.length + 3 * (r.length + 1) ≤ 10000 := by simpa using hl
    have hx := hex_all c.toNat c.toNat_lt
    rw [loopF]
    rw [words_Quote_l2]
    rw [if_pos (by simpa using hd)]
    simp only [hc, Option.bind_some, words_plain_eq, hx.1, hx.2]
    cases hp : plB c with
    | true =>
      rw [if_pos rfl, app1 (by simp; omega)]
      simp only [Option.bind_some, hw]
      rw [quote_loop s hs r (done ++ [c]) _ n (by simpa using hb) (by simp at h; omega) (by simp; omega)]
      simp [escL, hp, ints]
    | false =>
      rw [if_neg (by simp), app1 (by simp; omega)]
      simp only [Option.bind_some, hw]
      rw [quote_loop s hs r (done ++ [c]) _ n (by simpa using hb) (by simp at h; omega) (by simp; omega)]
      simp [escL, hp, ints]

theorem words_Quote_eq {s : ByteArray} (hs : s.size ≤ 1000) : words_Quote s = some (ofL (quoteL (bl s))) := by
  unfold words_Quote
  have := quote_loop s hs (bl s) [] [34] FU rfl (by rw [bl_len]; unfold FU; omega) (by simp; omega)
  rw [show ((0 : Int), ([34] : List Int)) = ((([] : List UInt8).length : Int), [34]) from rfl, this, show ([34] : List Int) ++ ints ((bl s).flatMap escL ++ [34]) = ints (quoteL (bl s)) from rfl, bytesOf_ints]
/-! a text between quotes, read -/
def endsQ : List UInt8 → Bool
  | [] => true
  | b :: _ => decide (b = 32) || decide (b = 9)
theorem blank_all : ∀ n : Nat, n < 256 → strings_IndexByte (ByteArray.mk #[32, 9]) (n : Int) = some (if n = 32 then 0 else if n = 9 then 1 else -1) := by decide +kernel
theorem blank_eq (b : UInt8) : strings_IndexByte (ByteArray.mk #[32, 9]) (b.toNat : Int) = some (if b = 32 then 0 else if b = 9 then 1 else -1) := by
  rw [blank_all b.toNat b.toNat_lt]
  have h1 : (b.toNat = 32) ↔ (b = 32) := by rw [← UInt8.toNat_inj]; rfl
  have h2 : (b.toNat = 9) ↔ (b = 9) := by rw [← UInt8.toNat_inj]; rfl
  simp only [h1, h2]
theorem digit_all : ∀ k : Nat, k < 16 → strings_IndexByte (ByteArray.mk #[48, 49, 50, 51, 52, 53, 54, 55, 56, 57, 97, 98, 99, 100, 101, 102]) ((hexB k).toNat : Int) = some (k : Int) := by decide +kernel
theorem unhex_all : ∀ n : Nat, n < 256 → IntKind.wrap .u8 (IntKind.wrap .i64 ((IntKind.wrap .i64 (((n / 16 : Nat) : Int) * 16)) + ((n % 16 : Nat) : Int))) = (n : Int) := by decide +kernel

theorem quoted_loop (s : ByteArray) (hs : s.size ≤ 100000) (rest : List UInt8) : ∀ (l done : List UInt8) (acc : List Int) (n : Nat), bl s = done ++ (l.flatMap escL ++ 34 :: rest) → l.length < n → acc.length + l.length ≤ 100000 →
    loopF (words_quoted_l2 s) n ((done.length : Int), acc) = some (if endsQ rest then (bytesOf (acc ++ ints l), ((done.length + (l.flatMap escL).length + 1 : Nat) : Int)) else (ByteArray.empty, 0))
  | _, _, _, 0, _, h, _ => by omega
  | [], done, acc, n + 1, hb, _, _ => by
    have hz : s.size = done.length + (rest.length + 1) := by rw [← bl_len, hb]; simp
    have hc : sidx s (done.length : Int) = some 34 := by rw [sidx_bl, hb]; simp
    have hw : IntKind.wrap .i64 ((done.length : Int) + 1) = ((done.length + 1 : Nat) : Int) := by rw [wrap64 (by omega) (by omega)]; simp
    rw [loopF, words_quoted_l2]
    rw [if_pos (by simp; omega)]
    simp only [hc, Option.bind_some, hw]
    rw [if_pos (by decide)]
    cases rest with
    | nil =>
      rw [if_neg (by simp at hz ⊢; omega)]
      simp [words_quoted_k3, endsQ, ints, hw]
    | cons b rest =>
      have hb1 : sidx s ((done.length + 1 : Nat) : Int) = some b := by rw [sidx_bl, hb]; simp
      rw [if_pos (by simp at hz ⊢; omega)]
      simp only [hb1, Option.bind_some, blank_eq]
      by_cases h1 : b = 32
      · simp [words_quoted_k3, endsQ, ints, hw, h1]
      · by_cases h2 : b = 9
        · simp [words_quoted_k3, endsQ, ints, hw, h2]
        · simp [words_quoted_k3, endsQ, h1, h2]
  | c :: l, done, acc, n + 1, hb, h, hl => by
    have hl' : acc.length + (l.length + 1) ≤ 100000 := by simpa using hl
    have hz : s.size = done.length + ((escL c).length + ((l.flatMap escL).length + (rest.length + 1))) := by
      rw [← bl_len, hb]
      simp only [List.length_append, List.flatMap_cons, List.length_cons]
      omega
    rw [loopF, words_quoted_l2]
    rw [if_pos (by simp; omega)]
    cases hp : plB c with
    | true =>
      have he : escL c = [c] := by simp [escL, hp]
      have hc : sidx s (done.length : Int) = some c := by rw [sidx_bl, hb]; simp [he]
      have hw : IntKind.wrap .i64 ((done.length : Int) + 1) = ((done ++ [c]).length : Int) := by rw [wrap64 (by omega) (by omega)]; simp
      have hq := hp
      simp only [plB, Bool.and_eq_true, Bool.not_eq_true', decide_eq_true_eq, decide_eq_false_iff_not] at hq
      simp only [hc, Option.bind_some]
      rw [if_neg (by simp; omega), if_neg (by simp; omega)]
      unfold words_quoted_k4
      rw [if_neg (by simp)]
      simp only [words_plain_eq, hp, Option.bind_some, if_true]
      rw [app1 (by simp; omega)]
      simp only [Option.bind_some, hw]
      rw [quoted_loop s hs rest l (done ++ [c]) _ n (by rw [hb]; simp [he]) (by simp at h; omega) (by simp; omega)]
      simp only [ints, List.map_cons, List.append_assoc, List.singleton_append, List.flatMap_cons, he, List.length_append, List.length_cons, List.length_nil]
      congr 4
      omega
    | false =>
      have he : escL c = [92, hexB (c.toNat / 16), hexB (c.toNat % 16)] := by simp [escL, hp]
      have hc : sidx s (done.length : Int) = some 92 := by rw [sidx_bl, hb]; simp [he]
      have hc1 : sidx s ((done.length + 1 : Nat) : Int) = some (hexB (c.toNat / 16)) := by rw [sidx_bl, hb]; simp [he]
      have hc2 : sidx s ((done.length + 2 : Nat) : Int) = some (hexB (c.toNat % 16)) := by rw [sidx_bl, hb]; simp [he]
      have hw1 : IntKind.wrap .i64 ((done.length : Int) + 1) = ((done.length + 1 : Nat) : Int) := by rw [wrap64 (by omega) (by omega)]; simp
      have hw2 : IntKind.wrap .i64 ((done.length : Int) + 2) = ((done.length + 2 : Nat) : Int) := by rw [wrap64 (by omega) (by omega)]; simp
      have hw3 : IntKind.wrap .i64 ((done.length : Int) + 3) = ((done ++ [92, hexB (c.toNat / 16), hexB (c.toNat % 16)]).length : Int) := by rw [wrap64 (by omega) (by omega)]; simp
      have hw4 : IntKind.wrap .i64 ((s.size : Int) - (done.length : Int)) = (s.size : Int) - (done.length : Int) := wrap64 (by omega) (by omega)
      have hz3 : (escL c).length = 3 := by rw [he]; rfl
      simp only [hc, Option.bind_some]
      rw [if_neg (by decide), if_pos (by decide), hw4, decide_eq_true (by omega : (3 : Int) ≤ (s.size : Int) - (done.length : Int))]
      unfold words_quoted_k4
      rw [if_pos rfl]
      simp only [hw1, hw2, hc1, hc2, Option.bind_some, digit_all _ (show c.toNat / 16 < 16 by have := c.toNat_lt; omega), digit_all _ (show c.toNat % 16 < 16 by omega)]
      rw [if_neg (by simp; omega), decide_eq_false (by omega : ¬ ((c.toNat % 16 : Nat) : Int) < 0)]
      unfold words_quoted_k5
      rw [if_neg (by simp), unhex_all _ c.toNat_lt, app1 (by simp; omega)]
      simp only [Option.bind_some, hw3]
      rw [quoted_loop s hs rest l (done ++ [92, hexB (c.toNat / 16), hexB (c.toNat % 16)]) _ n (by rw [hb]; simp [he]) (by simp at h; omega) (by simp; omega)]
      simp only [ints, List.map_cons, List.append_assoc, List.singleton_append, List.flatMap_cons, he, List.length_append, List.length_cons, List.length_nil]
      congr 4
      omega

/-- what is read of a text that begins with a text between quotes -/
theorem words_quoted_eq {l rest : List UInt8} (hs : (quoteL l ++ rest).length ≤ 100000) : words_quoted (ofL (quoteL l ++ rest)) = some (if endsQ rest then (ofL (34 :: l), ((quoteL l).length : Int)) else (ByteArray.empty, 0)) := by
  have hq := escs_len l
  have hq2 : (quoteL l).length = (l.flatMap escL).length + 2 := by simp only [quoteL, List.length_cons, List.length_append, List.length_nil]
  have hlen : (quoteL l).length + rest.length ≤ 100000 := by simpa only [List.length_append] using hs
  unfold words_quoted
  have := quoted_loop (ofL (quoteL l ++ rest)) (by rw [ofL_size]; exact hs) rest l [34] [34] FU (by rw [bl_ofL]; simp [quoteL]) (by unfold FU; omega) (by simp; omega)
  rw [show ((1 : Int), ([34] : List Int)) = (((([34] : List UInt8).length : Nat) : Int), ([34] : List Int)) from rfl, this, show ([34] : List Int) ++ ints l = ints (34 :: l) from rfl, bytesOf_ints, hq2]
  congr 4
  simp only [List.length_cons, List.length_nil]
  omega
end Go.Ark
