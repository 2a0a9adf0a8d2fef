import Derived.Test.YtfhlilpkgodilaaGreatDoorPwords1
import Derived.Lib.ValidLaws
import Derived.Laws.RangeString
/- Plain laws: words: the words of a line that is made of words. Conditions: none but those that stand in each law. -/
namespace Go.Ark
open Go Go.Ab Go.RowKit

def isBl (b : UInt8) : Bool := [(32 : UInt8), 9].contains b
theorem isBl_iff (b : UInt8) : isBl b = (decide (b = 32) || decide (b = 9)) := by
  unfold isBl; rw [Bool.eq_iff_iff]; simp
theorem trim_eq (s : ByteArray) : strings_TrimLeft s (ByteArray.mk #[32, 9]) = some (ofL ((bl s).dropWhile isBl)) := by
  unfold strings_TrimLeft
  rw [if_pos (by decide)]
  rfl

/-- a byte of a bare word -/
def grB (b : UInt8) : Bool := decide (33 ≤ b.toNat) && (decide (b.toNat ≤ 126) && !decide (b.toNat = 34))
theorem grB_iff (b : UInt8) : grB b = true ↔ 33 ≤ b.toNat ∧ b.toNat ≤ 126 ∧ b.toNat ≠ 34 := by simp [grB]

theorem ssub_bl (s : ByteArray) (n : Nat) (h : n ≤ s.size) : ssub s 0 (n : Int) = some (ofL ((bl s).take n)) := by
  unfold ssub
  rw [if_pos (by omega)]
  congr 1
  apply bl_inj
  rw [bl_ofL, bl_extract]
  simp
theorem ssub_from (s : ByteArray) (n : Nat) (h : n ≤ s.size) : ssub s (n : Int) (s.size : Int) = some (ofL ((bl s).drop n)) := by
  unfold ssub
  rw [if_pos (by omega)]
  congr 1
  apply bl_inj
  rw [bl_ofL, bl_extract, Int.toNat_natCast, Int.toNat_natCast, List.take_of_length_le (by rw [bl_len]; omega)]

theorem valid_gr : ∀ l : List UInt8, (∀ b, b ∈ l → grB b = true) → Lib.validD l = true
  | [], _ => rfl
  | b :: l, h => by
    have := (grB_iff b).1 (h b (by simp))
    rw [Lib.validD_cons b l (by omega)]
    exact valid_gr l fun c hc => h c (by simp [hc])

theorem bare_end (s : ByteArray) (n : Nat) (hn : n ≤ s.size) (hs : s.size ≤ 100000) (hv : ∀ b, b ∈ (bl s).take n → grB b = true) : words_bare_k1 s (n : Int) = some (ofL ((bl s).take n), (n : Int)) := by
  unfold words_bare_k1
  rw [ssub_bl s n hn]
  have hsz : (ofL ((bl s).take n)).size ≤ 9223372036854775807 := by rw [ofL_size]; simp; omega
  simp only [Option.bind_some, unicode_utf8_ValidString]
  rw [if_pos hsz]
  have : Lib.validD (ofL ((bl s).take n)).data.toList = true := by
    have := valid_gr _ hv
    rwa [← bl_ofL ((bl s).take n)] at this
  simp [this]

theorem bare_loop (s : ByteArray) (hs : s.size ≤ 100000) (rest : List UInt8) (hr : endsQ rest = true) : ∀ (l done : List UInt8) (n : Nat), bl s = done ++ (l ++ rest) → l.length < n → (∀ b, b ∈ done ++ l → grB b = true) →
    loopF (words_bare_l2 s) n done.length = some (ofL (done ++ l), ((done ++ l).length : Int))
  | _, _, 0, _, h, _ => by omega
  | [], done, n + 1, hb, _, hg => by
    have hz : s.size = done.length + rest.length := by rw [← bl_len, hb]; simp
    have ht : (bl s).take done.length = done := by rw [hb]; simp
    have he := bare_end s done.length (by omega) hs (by rw [ht]; simpa using hg)
    rw [ht] at he
    rw [loopF, words_bare_l2]
    cases rest with
    | nil =>
      have hz' : done.length = s.size := by simp at hz; omega
      rw [if_neg (by simp; omega), ← hz', he]
      simp
    | cons b rest =>
      have hlt : done.length < s.size := by simp at hz; omega
      have hb1 : (s[done.length]'hlt) = b := by
        have h1 : sidx s (done.length : Int) = some b := by rw [sidx_bl, hb]; simp
        rw [sidx_at hlt] at h1
        exact Option.some.inj h1
      rw [if_pos (by simpa using hlt)]
      simp only [endsQ, Bool.or_eq_true, decide_eq_true_eq] at hr
      have hd := Go.decode_ascii s done.length hlt (by rw [hb1]; rcases hr with h | h <;> rw [h] <;> decide)
      rw [hd, hb1]
      rcases hr with h | h
      · subst h
        rw [if_pos (by decide)]
        unfold words_bare_k3
        rw [if_pos rfl, he]
        simp
      · subst h
        rw [if_neg (by decide)]
        unfold words_bare_k3
        rw [if_pos (show decide (((UInt8.toNat 9 : Nat) : Int) = 9) = true by decide), he]
        simp
  | c :: l, done, n + 1, hb, h, hg => by
    have hz : s.size = done.length + (l.length + 1 + rest.length) := by rw [← bl_len, hb]; simp; omega
    have hlt : done.length < s.size := by omega
    have hb1 : (s[done.length]'hlt) = c := by
      have h1 : sidx s (done.length : Int) = some c := by rw [sidx_bl, hb]; simp
      rw [sidx_at hlt] at h1
      exact Option.some.inj h1
    have hc := (grB_iff c).1 (hg c (by simp))
    have hd := Go.decode_ascii s done.length hlt (by rw [hb1]; omega)
    rw [loopF, words_bare_l2]
    rw [if_pos (by simpa using hlt), hd, hb1]
    rw [if_neg (by simp; omega), decide_eq_false (by simp; omega)]
    unfold words_bare_k3
    rw [if_neg (by simp), hd, hb1]
    rw [if_neg (by simp; omega), if_neg (by simp; omega), if_neg (by simp; omega)]
    have := bare_loop s hs rest hr l (done ++ [c]) n (by rw [hb]; simp) (by simp at h; omega) (by simpa using hg)
    rw [show done.length + 1 = (done ++ [c]).length by simp]
    simpa using this

theorem words_bare_eq {l rest : List UInt8} (hs : (l ++ rest).length ≤ 100000) (hr : endsQ rest = true) (hg : ∀ b, b ∈ l → grB b = true) : words_bare (ofL (l ++ rest)) = some (ofL l, (l.length : Int)) := by
  unfold words_bare
  have hl : l.length + rest.length ≤ 100000 := by simpa using hs
  have := bare_loop (ofL (l ++ rest)) (by rw [ofL_size]; exact hs) rest hr l [] FU (by rw [bl_ofL]; rfl) (by unfold FU; omega) (by simpa using hg)
  simpa using this

/-! words -/
structure Wd where
  q : Bool
  l : List UInt8
def wdL (w : Wd) : List UInt8 := if w.q then quoteL w.l else w.l
def wdW (w : Wd) : List UInt8 := if w.q then 34 :: w.l else w.l
def wdOK (w : Wd) : Prop := w.q = false → w.l ≠ [] ∧ ∀ b, b ∈ w.l → grB b = true

theorem app16 {acc ys : List ByteArray} (h : acc.length + ys.length ≤ 1000000) : app 16 acc ys = some (acc ++ ys) := by
  unfold app
  rw [if_pos]
  simp only [List.length_append]
  omega

theorem wdL_head {w : Wd} (h : wdOK w) : ∃ b t, wdL w = b :: t ∧ isBl b = false ∧ (b.toNat = 34 ↔ w.q = true) := by
  cases w with
  | mk q l =>
    cases q with
    | true => exact ⟨34, l.flatMap escL ++ [34], rfl, by decide, by simp⟩
    | false =>
      obtain ⟨h1, h2⟩ := h rfl
      cases l with
      | nil => exact absurd rfl h1
      | cons b t =>
        have hb := (grB_iff b).1 (h2 b (by simp))
        refine ⟨b, t, rfl, ?_, by simp; omega⟩
        rw [isBl_iff]
        have e1 : b ≠ 32 := fun c => by rw [c] at hb; exact absurd hb.1 (by decide)
        have e2 : b ≠ 9 := fun c => by rw [c] at hb; exact absurd hb.1 (by decide)
        simp [e1, e2]

/-- one word is taken -/
theorem words_one {again : ByteArray × List ByteArray → Option (List ByteArray × Bool)} {s : ByteArray} {out : List ByteArray} {w : Wd} {pre rest : List UInt8} (hok : wdOK w) (hb : bl s = pre ++ (wdL w ++ rest)) (hp : ∀ b, b ∈ pre → isBl b = true) (hr : endsQ rest = true)
    (hs : s.size ≤ 100000) (ho : out.length ≤ 100000) : words_Words_l1 again (s, out) = again (ofL rest, out ++ [ofL (wdW w)]) := by
  obtain ⟨b, t, hw, hbl, hq⟩ := wdL_head hok
  have hd : (bl s).dropWhile isBl = wdL w ++ rest := by
    rw [hb, List.dropWhile_append_of_pos hp, hw]
    simp [hbl]
  have hlen : (wdL w ++ rest).length ≤ 100000 := by
    have := (List.dropWhile_sublist (p := isBl) (l := bl s)).length_le
    rw [hd, bl_len] at this
    omega
  rw [words_Words_l1, trim_eq, hd]
  simp only [Option.bind_some]
  have hne : seq (ofL (wdL w ++ rest)) ByteArray.empty = false := by
    rw [seq_eq, decide_eq_false]
    intro c
    have := congrArg bl c
    rw [bl_ofL, hw] at this
    cases this
  rw [hne, if_neg (by simp)]
  have h0 : sidx (ofL (wdL w ++ rest)) 0 = some b := by
    show sidx _ ((0 : Nat) : Int) = _
    rw [sidx_bl, bl_ofL, hw]
    rfl
  rw [h0]
  simp only [Option.bind_some]
  have hdrop : ∀ k : Nat, k = (wdL w).length → ssub (ofL (wdL w ++ rest)) (k : Int) ((ofL (wdL w ++ rest)).size : Int) = some (ofL rest) := fun k hk => by
    rw [ssub_from _ _ (by rw [ofL_size, hk]; simp), bl_ofL, hk]
    simp
  cases hwq : w.q with
  | true =>
    have e1 : wdL w = quoteL w.l := by simp [wdL, hwq]
    have e2 : wdW w = 34 :: w.l := by simp [wdW, hwq]
    rw [if_pos (by rw [decide_eq_true_eq]; have := hq.2 hwq; omega)]
    rw [e1] at hlen hdrop ⊢
    rw [words_quoted_eq hlen, hr, if_pos rfl]
    simp only [Option.bind_some]
    rw [if_neg (by rw [decide_eq_true_eq]; simp only [quoteL, List.length_cons]; omega), app16 (by simp; omega)]
    simp only [Option.bind_some]
    rw [hdrop _ rfl, e2]
    rfl
  | false =>
    obtain ⟨n1, n2⟩ := hok hwq
    have e1 : wdL w = w.l := by simp [wdL, hwq]
    have e2 : wdW w = w.l := by simp [wdW, hwq]
    have hn : ¬ b.toNat = 34 := fun c => by rw [hq.1 c] at hwq; cases hwq
    rw [if_neg (by rw [decide_eq_true_eq]; omega)]
    rw [e1] at hlen hdrop ⊢
    rw [words_bare_eq hlen hr n2]
    simp only [Option.bind_some]
    have hl0 : w.l.length ≠ 0 := fun c => n1 (List.eq_nil_of_length_eq_zero c)
    rw [if_neg (by rw [decide_eq_true_eq]; omega), app16 (by simp; omega)]
    simp only [Option.bind_some]
    rw [hdrop _ rfl, e2]
    rfl

theorem words_end {again : ByteArray × List ByteArray → Option (List ByteArray × Bool)} {s : ByteArray} {out : List ByteArray} (hb : ∀ b, b ∈ bl s → isBl b = true) : words_Words_l1 again (s, out) = some (out, true) := by
  have hd : (bl s).dropWhile isBl = [] := by
    have := List.dropWhile_append_of_pos (l₂ := []) hb
    simpa using this
  have he : seq (ofL []) ByteArray.empty = true := by decide +kernel
  rw [words_Words_l1, trim_eq, hd]
  simp only [Option.bind_some]
  rw [he, if_pos rfl]

/-- words with blanks ahead of each -/
def wdsL : List (List UInt8 × Wd) → List UInt8
  | [] => []
  | (p, w) :: r => p ++ (wdL w ++ wdsL r)
/-- each is a word, with blanks ahead of it, and some ahead of all but the first -/
def wdsOK : List (List UInt8 × Wd) → Prop
  | [] => True
  | (p, w) :: r => wdOK w ∧ (∀ b, b ∈ p → isBl b = true) ∧ (∀ x, x ∈ r → x.1 ≠ []) ∧ wdsOK r
theorem wds_ends {r : List (List UInt8 × Wd)} (h : wdsOK r) (hx : ∀ x, x ∈ r → x.1 ≠ []) : endsQ (wdsL r) = true := by
  cases r with
  | nil => rfl
  | cons x r =>
    obtain ⟨p, w⟩ := x
    cases p with
    | nil => exact absurd rfl (hx ([], w) (by simp))
    | cons b p =>
      have := h.2.1 b (by simp)
      rw [isBl_iff] at this
      simpa [wdsL, endsQ] using this

theorem words_loop : ∀ (r : List (List UInt8 × Wd)) (s : ByteArray) (out : List ByteArray) (n : Nat), bl s = wdsL r → wdsOK r → r.length < n → s.size ≤ 100000 → out.length + r.length ≤ 100000 →
    loopF words_Words_l1 n (s, out) = some (out ++ r.map (fun x => ofL (wdW x.2)), true)
  | _, _, _, 0, _, _, h, _, _ => by omega
  | [], s, out, n + 1, hb, _, _, _, _ => by
    rw [loopF, words_end (by rw [hb]; simp [wdsL])]
    simp
  | (p, w) :: r, s, out, n + 1, hb, hok, h, hs, ho => by
    have hl : out.length + (r.length + 1) ≤ 100000 := by simpa using ho
    rw [loopF, words_one hok.1 hb hok.2.1 (wds_ends hok.2.2.2 hok.2.2.1) hs (by omega)]
    have hsz : (wdsL r).length ≤ s.size := by
      rw [← bl_len, hb]
      simp [wdsL]
      omega
    rw [words_loop r _ _ n (bl_ofL _) hok.2.2.2 (by simp at h; omega) (by rw [ofL_size]; omega) (by simp; omega)]
    simp

theorem words_Words_eq {r : List (List UInt8 × Wd)} (hok : wdsOK r) (hs : (wdsL r).length ≤ 100000) (hr : r.length ≤ 100000) : words_Words (ofL (wdsL r)) = some (r.map (fun x => ofL (wdW x.2)), true) := by
  unfold words_Words
  rw [words_loop r (ofL (wdsL r)) [] FU (bl_ofL _) hok (by unfold FU; omega) (by rw [ofL_size]; exact hs) (by simpa using hr)]
  simp

end Go.Ark
