import Derived.Test.YtfhlilpkgodilaaGreatDoorPr24a
/- Plain laws: the document's answer for words: words of a line. Conditions: none but those that stand in each law. -/
namespace Go.Ark
open Go Go.Ab Go.RowKit

theorem r24_digit_all : ∀ k : Nat, k < 16 → ref24_digit ((hexB k).toNat : Int) = some (k : Int) := by decide +kernel
theorem r24_unhex_all : ∀ n : Nat, n < 256 → IntKind.wrap .u8 (IntKind.wrap .i64 ((IntKind.wrap .i64 (16 * ((n / 16 : Nat) : Int))) + ((n % 16 : Nat) : Int))) = (n : Int) := by decide +kernel

theorem r24_quoted_loop (s : ByteArray) (hs : s.size ≤ 100000) (rest : List UInt8) (hr : endsQ rest = true) : ∀ (n : Nat) (l done : List UInt8) (acc : List Int), bl s = done ++ (l.flatMap escL ++ 34 :: rest) → l.length < n → acc.length + l.length ≤ 100000 →
    loopF (ref24_quoted_l4 s) n ((done.length : Int), acc) = some ⟨ofL [34] ++ bytesOf (acc ++ ints l), ((done.length + (l.flatMap escL).length + 1 : Nat) : Int)⟩ := by
  intro n
  induction n with
  | zero => intro l done acc _ h; omega
  | succ n ih =>
    intro l done acc hb h hl
    cases l with
    | nil =>
      have hz : s.size = done.length + (rest.length + 1) := by rw [← bl_len, hb]; simp
      have hc : sidx s (done.length : Int) = some 34 := by rw [sidx_bl, hb]; simp
      have hw : IntKind.wrap .i64 ((done.length : Int) + 1) = ((done.length + 1 : Nat) : Int) := by rw [wrap64 (by omega) (by omega)]; simp
      have hacc : acc.length ≤ 100000 := by simpa using hl
      have k2 : ref24_quoted_k2 ((done.length : Int), acc) false = some ⟨ofL [34] ++ bytesOf (acc ++ ints []), ((done.length + (([] : List UInt8).flatMap escL).length + 1 : Nat) : Int)⟩ := by
        have hsz : (bytesOf acc).size = acc.length := by simp [bytesOf, ByteArray.size]
        unfold ref24_quoted_k2
        rw [if_neg (by simp), show ByteArray.mk #[34] = ofL [34] from rfl, scat_L (by rw [ofL_size, hsz]; simp; omega), Option.bind_some]
        simp only [hw, ints, List.map_nil, List.append_nil, List.flatMap_nil, List.length_nil, Nat.add_zero]
      rw [loopF, ref24_quoted_l4, if_pos (by simp; omega), hc, Option.bind_some]
      unfold ref24_quoted_k5
      rw [if_neg (by decide)]
      unfold ref24_quoted_k1
      rw [if_neg (by simp; omega)]
      cases rest with
      | nil =>
        rw [if_neg (by simp at hz ⊢; omega)]
        unfold ref24_quoted_k3
        rw [if_neg (by simp)]
        exact k2
      | cons b rest =>
        have hb1 : sidx s ((done.length + 1 : Nat) : Int) = some b := by rw [sidx_bl, hb]; simp
        simp only [endsQ, Bool.or_eq_true, decide_eq_true_eq] at hr
        dsimp only
        rw [hw, if_pos (by simp at hz ⊢; omega), hb1, Option.bind_some]
        unfold ref24_quoted_k3
        rcases hr with h | h
        · subst h
          rw [if_neg (by decide)]
          exact k2
        · subst h
          rw [if_pos (by decide)]
          dsimp only
          rw [hw, hb1, Option.bind_some]
          exact k2
    | cons c l =>
      have hl' : acc.length + (l.length + 1) ≤ 100000 := by simpa using hl
      have hz : s.size = done.length + ((escL c).length + ((l.flatMap escL).length + (rest.length + 1))) := by
        rw [← bl_len, hb]
        simp only [List.length_append, List.flatMap_cons, List.length_cons]
        omega
      rw [loopF, ref24_quoted_l4, if_pos (by simp; omega)]
      cases hp : plB c with
      | true =>
        have he : escL c = [c] := by simp [escL, hp]
        have hc : sidx s (done.length : Int) = some c := by rw [sidx_bl, hb]; simp [he]
        have hw : IntKind.wrap .i64 ((done.length : Int) + 1) = ((done ++ [c]).length : Int) := by rw [wrap64 (by omega) (by omega)]; simp
        have hq := hp
        simp only [plB, Bool.and_eq_true, Bool.not_eq_true', decide_eq_true_eq, decide_eq_false_iff_not] at hq
        rw [hc, Option.bind_some]
        unfold ref24_quoted_k5
        rw [if_pos (by simp; omega), hc, Option.bind_some, if_neg (by simp; omega), Option.bind_some, r24_plain_eq, Option.bind_some, hp, if_neg (by simp), Option.bind_some, app1 (by simp; omega), Option.bind_some]
        dsimp only
        rw [hw, ih l (done ++ [c]) _ (by rw [hb]; simp [he]) (by simp at h; omega) (by simp; omega)]
        simp only [ints, List.map_cons, List.append_assoc, List.singleton_append, List.flatMap_cons, he, List.length_append, List.length_cons, List.length_nil]
        congr 2
        omega
      | false =>
        have he : escL c = [92, hexB (c.toNat / 16), hexB (c.toNat % 16)] := by simp [escL, hp]
        have hc : sidx s (done.length : Int) = some 92 := by rw [sidx_bl, hb]; simp [he]
        have hc1 : sidx s ((done.length + 1 : Nat) : Int) = some (hexB (c.toNat / 16)) := by rw [sidx_bl, hb]; simp [he]
        have hc2 : sidx s ((done.length + 2 : Nat) : Int) = some (hexB (c.toNat % 16)) := by rw [sidx_bl, hb]; simp [he]
        have hw1 : IntKind.wrap .i64 ((done.length : Int) + 1) = ((done.length + 1 : Nat) : Int) := by rw [wrap64 (by omega) (by omega)]; simp
        have hw2 : IntKind.wrap .i64 ((done.length : Int) + 2) = ((done.length + 2 : Nat) : Int) := by rw [wrap64 (by omega) (by omega)]; simp
        have hw3 : IntKind.wrap .i64 ((done.length : Int) + 3) = ((done ++ [92, hexB (c.toNat / 16), hexB (c.toNat % 16)]).length : Int) := by rw [wrap64 (by omega) (by omega)]; simp
        have hw4 : IntKind.wrap .i64 ((s.size : Int) - (done.length : Int)) = (s.size : Int) - (done.length : Int) := wrap64 (by omega) (by omega)
        have hz3 : (escL c).length = 3 := by rw [he]; rfl
        have d1 := r24_digit_all (c.toNat / 16) (by have := c.toNat_lt; omega)
        have d2 := r24_digit_all (c.toNat % 16) (by omega)
        rw [hc, Option.bind_some]
        unfold ref24_quoted_k5
        rw [if_pos (by decide), hc, Option.bind_some, if_pos (by decide)]
        dsimp only
        rw [hw4, if_neg (by simp; omega), hw1, hc1, Option.bind_some, d1, Option.bind_some, decide_eq_false (by omega : ¬ ((c.toNat / 16 : Nat) : Int) < 0)]
        unfold ref24_quoted_k7
        rw [if_neg (by simp)]
        dsimp only
        rw [hw2, hc2, Option.bind_some, d2, Option.bind_some, decide_eq_false (by omega : ¬ ((c.toNat % 16 : Nat) : Int) < 0)]
        unfold ref24_quoted_k6
        rw [if_neg (by simp)]
        dsimp only
        rw [hw1, hc1, Option.bind_some, d1, Option.bind_some, hw2, hc2, Option.bind_some, d2, Option.bind_some, r24_unhex_all _ c.toNat_lt, app1 (by simp; omega), Option.bind_some, hw3,
          ih l (done ++ [92, hexB (c.toNat / 16), hexB (c.toNat % 16)]) _ (by rw [hb]; simp [he]) (by simp at h; omega) (by simp; omega)]
        simp only [ints, List.map_cons, List.append_assoc, List.singleton_append, List.flatMap_cons, he, List.length_append, List.length_cons, List.length_nil]
        congr 2
        omega

theorem r24_quoted_eq {l rest : List UInt8} (hs : (quoteL l ++ rest).length ≤ 100000) (hr : endsQ rest = true) : ref24_quoted (ofL (quoteL l ++ rest)) = some ⟨ofL (34 :: l), ((quoteL l).length : Int)⟩ := by
  have hq := escs_len l
  have hq2 : (quoteL l).length = (l.flatMap escL).length + 2 := by simp only [quoteL, List.length_cons, List.length_append, List.length_nil]
  have hlen : (quoteL l).length + rest.length ≤ 100000 := by simpa only [List.length_append] using hs
  unfold ref24_quoted
  have := r24_quoted_loop (ofL (quoteL l ++ rest)) (by rw [ofL_size]; exact hs) rest hr FU l [34] [] (by rw [bl_ofL]; simp [quoteL]) (by unfold FU; omega) (by simp; omega)
  refine Eq.trans this ?_
  rw [List.nil_append, bytesOf_ints, ofL_app, hq2]
  congr 2
  simp only [List.length_cons, List.length_nil]
  omega

/-- a bare word that the document takes -/
def runeOK (l : List UInt8) : Prop := ∃ m : Int, 0 ≤ m ∧ ref02_Runes (ofL l) = some m
theorem r24_bare_loop (s : ByteArray) (hs : s.size ≤ 100000) {l0 : List UInt8} (hro : runeOK l0) (rest : List UInt8) (hr : endsQ rest = true) : ∀ (n : Nat) (l done : List UInt8), l0 = done ++ l → bl s = done ++ (l ++ rest) → l.length < n → (∀ b, b ∈ done ++ l → grB b = true) →
    loopF (ref24_one_l2 s) n (done.length : Int) = some ⟨ofL l0, (l0.length : Int)⟩ := by
  intro n
  induction n with
  | zero => intro l done _ _ h; omega
  | succ n ih =>
    intro l done hl0 hb h hg
    cases l with
    | nil =>
      have hz : s.size = done.length + rest.length := by rw [← bl_len, hb]; simp
      have e0 : l0 = done := by rw [hl0]; simp
      obtain ⟨m, hm0, hm⟩ := hro
      have k1 : ref24_one_k1 s (done.length : Int) = some ⟨ofL l0, (l0.length : Int)⟩ := by
        have hss : ssub s 0 (done.length : Int) = some (ofL l0) := by
          rw [ssub_bl s done.length (by omega), hb, e0]
          simp
        unfold ref24_one_k1
        rw [hss, Option.bind_some, hm, Option.bind_some, if_neg (by simp; omega), Option.bind_some, e0]
      rw [loopF, ref24_one_l2]
      cases rest with
      | nil =>
        rw [if_neg (by simp at hz ⊢; omega)]
        unfold ref24_one_k6
        rw [if_neg (by simp)]
        unfold ref24_one_k3
        rw [if_neg (by simp)]
        exact k1
      | cons b rest =>
        have hb1 : sidx s (done.length : Int) = some b := by rw [sidx_bl, hb]; simp
        simp only [endsQ, Bool.or_eq_true, decide_eq_true_eq] at hr
        rw [if_pos (by simp at hz ⊢; omega), hb1, Option.bind_some]
        unfold ref24_one_k6
        rcases hr with h | h
        · subst h
          rw [if_neg (by decide)]
          unfold ref24_one_k3
          rw [if_neg (by simp)]
          exact k1
        · subst h
          rw [if_pos (by decide), hb1, Option.bind_some]
          unfold ref24_one_k3
          rw [if_neg (by decide)]
          exact k1
    | cons c l =>
      have hz : s.size = done.length + (l.length + 1 + rest.length) := by rw [← bl_len, hb]; simp; omega
      have hc1 : sidx s (done.length : Int) = some c := by rw [sidx_bl, hb]; simp
      have hc := (grB_iff c).1 (hg c (by simp))
      have hw : IntKind.wrap .i64 ((done.length : Int) + 1) = ((done ++ [c]).length : Int) := by rw [wrap64 (by omega) (by omega)]; simp
      rw [loopF, ref24_one_l2, if_pos (by simp; omega), hc1, Option.bind_some]
      unfold ref24_one_k6
      rw [if_pos (by simp; omega), hc1, Option.bind_some]
      unfold ref24_one_k3
      rw [if_pos (by simp; omega), hc1, Option.bind_some, if_neg (by simp; omega), Option.bind_some, decide_eq_false (by omega : ¬ (c.toNat : Int) = 127)]
      unfold ref24_one_k5
      rw [if_neg (by simp), hc1, Option.bind_some, decide_eq_false (by omega : ¬ (c.toNat : Int) = 34)]
      unfold ref24_one_k4
      rw [if_neg (by simp), hw]
      exact ih l (done ++ [c]) (by rw [hl0]; simp) (by rw [hb]; simp) (by simp at h; omega) (by simpa using hg)

def wdR (w : Wd) : Prop := w.q = false → runeOK w.l
theorem r24_one_eq {w : Wd} {rest : List UInt8} (hok : wdOK w) (hrn : wdR w) (hs : (wdL w ++ rest).length ≤ 100000) (hr : endsQ rest = true) : ref24_one (ofL (wdL w ++ rest)) = some ⟨ofL (wdW w), ((wdL w).length : Int)⟩ := by
  obtain ⟨b, t, hw, hbl, hq⟩ := wdL_head hok
  have h0 : sidx (ofL (wdL w ++ rest)) 0 = some b := by
    show sidx _ ((0 : Nat) : Int) = _
    rw [sidx_bl, bl_ofL, hw]
    rfl
  unfold ref24_one
  rw [h0, Option.bind_some]
  cases hwq : w.q with
  | true =>
    have e1 : wdL w = quoteL w.l := by simp [wdL, hwq]
    have e2 : wdW w = 34 :: w.l := by simp [wdW, hwq]
    rw [if_pos (by rw [decide_eq_true_eq]; have := hq.2 hwq; omega), e1, e2]
    rw [e1] at hs
    rw [r24_quoted_eq hs hr]
    rfl
  | false =>
    obtain ⟨n1, n2⟩ := hok hwq
    have e1 : wdL w = w.l := by simp [wdL, hwq]
    have e2 : wdW w = w.l := by simp [wdW, hwq]
    have hn : ¬ b.toNat = 34 := fun c => by rw [hq.1 c] at hwq; cases hwq
    rw [if_neg (by rw [decide_eq_true_eq]; omega), e1, e2]
    rw [e1] at hs
    have hl : w.l.length + rest.length ≤ 100000 := by simpa using hs
    exact r24_bare_loop _ (by rw [ofL_size]; exact hs) (hrn hwq) rest hr FU w.l [] rfl (by rw [bl_ofL]; rfl) (by unfold FU; omega) (by simpa using n2)
end Go.Ark
