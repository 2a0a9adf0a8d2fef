import Derived.Test.YtfhlilpkgodilaaGreatDoorPwcheck
import Derived.Test.YtfhlilpkgodilaaGreatDoorFA
/- Plain laws: the document's answer for words: texts between quotes, numbers, lines. Conditions: none but those that stand in each law. -/
namespace Go.Ark
open Go Go.Ab Go.RowKit

theorem r24_plain_all : ∀ n : Nat, n < 256 → ref24_plain (n : Int) = some (plB (UInt8.ofNat n)) := by decide +kernel
theorem r24_plain_eq (c : UInt8) : ref24_plain (c.toNat : Int) = some (plB c) := by
  have := r24_plain_all c.toNat c.toNat_lt
  rwa [UInt8.ofNat_toNat] at this
def digs : ByteArray := ByteArray.mk #[48, 49, 50, 51, 52, 53, 54, 55, 56, 57, 97, 98, 99, 100, 101, 102]
theorem r24_hex_all : ∀ n : Nat, n < 256 → ssub digs (IntKind.wrap .u8 (Int.tdiv (n : Int) 16)) (IntKind.wrap .u8 ((IntKind.wrap .u8 (Int.tdiv (n : Int) 16)) + 1)) = some (ofL [hexB (n / 16)]) ∧
    ssub digs (Int.tmod (n : Int) 16) (IntKind.wrap .u8 ((Int.tmod (n : Int) 16) + 1)) = some (ofL [hexB (n % 16)]) := by decide +kernel
theorem ssub_one (s : ByteArray) (i : Nat) (h : i < s.size) {c : UInt8} (hc : (bl s)[i]? = some c) : ssub s (i : Int) (((i + 1 : Nat)) : Int) = some (ofL [c]) := by
  unfold ssub
  rw [if_pos (by omega)]
  congr 1
  apply bl_inj
  have hi : i < (bl s).length := by rw [bl_len]; exact h
  rw [bl_extract, bl_ofL, Int.toNat_natCast, Int.toNat_natCast, List.drop_take, show i + 1 - i = 1 by omega]
  rw [List.getElem?_eq_getElem hi] at hc
  rw [List.drop_eq_getElem_cons hi]
  simpa using hc
theorem scatL {p q : List UInt8} (hp : p.length ≤ 1000000) (hq : q.length ≤ 1000000) : scat (ofL p) (ofL q) = some (ofL (p ++ q)) := by
  rw [scat_L (by rw [ofL_size, ofL_size]; omega), ofL_app]

theorem r24_quote_loop (s : ByteArray) (hs : s.size ≤ 1000) : ∀ (n : Nat) (r done : List UInt8) (p : List UInt8), bl s = done ++ r → r.length < n → p.length + 3 * r.length ≤ 10000 →
    loopF (ref24_Quote_l2 s) n (ofL p, (done.length : Int)) = some (ofL (p ++ (r.flatMap escL ++ [34]))) := by
  intro n
  induction n with
  | zero => intro r done p _ h; omega
  | succ n ih =>
    intro r done p hb h hl
    cases r with
    | nil =>
      have hd : done.length = s.size := by rw [← bl_len, hb]; simp
      rw [loopF, ref24_Quote_l2, if_neg (by simp [hd])]
      unfold ref24_Quote_k1
      rw [show ByteArray.mk #[34] = ofL [34] from rfl, scatL (by simp at hl; omega) (by simp)]
      rfl
    | cons c r =>
      have hd : done.length < s.size := by rw [← bl_len, hb]; simp
      have hc0 : (bl s)[done.length]? = some c := by rw [hb]; simp
      have hc : sidx s (done.length : Int) = some c := by rw [sidx_bl, hc0]
      have hw : IntKind.wrap .i64 ((done.length : Int) + 1) = ((done.length + 1 : Nat) : Int) := by rw [wrap64 (by omega) (by omega)]; simp
      have hl' : p.length + 3 * (r.length + 1) ≤ 10000 := by simpa using hl
      have hx := r24_hex_all c.toNat c.toNat_lt
      have h1 := ssub_one s done.length hd hc0
      have hdl : ((done.length + 1 : Nat) : Int) = ((done ++ [c]).length : Int) := by simp
      rw [loopF, ref24_Quote_l2, if_pos (by simpa using hd), hc, Option.bind_some, r24_plain_eq, Option.bind_some]
      cases hp : plB c with
      | true =>
        rw [if_pos rfl]
        simp only [hw]
        rw [h1, Option.bind_some, scatL (by omega) (by simp), Option.bind_some, hdl, ih r (done ++ [c]) (p ++ [c]) (by simpa using hb) (by simp at h; omega) (by simp; omega)]
        simp [escL, hp]
      | false =>
        rw [if_neg (by simp), show ByteArray.mk #[92] = ofL [92] from rfl, scatL (by omega) (by simp), Option.bind_some]
        rw [show ssub (ByteArray.mk #[48, 49, 50, 51, 52, 53, 54, 55, 56, 57, 97, 98, 99, 100, 101, 102]) (IntKind.wrap .u8 (Int.tdiv (c.toNat : Int) 16)) (IntKind.wrap .u8 ((IntKind.wrap .u8 (Int.tdiv (c.toNat : Int) 16)) + 1)) = some (ofL [hexB (c.toNat / 16)]) from hx.1, Option.bind_some, scatL (by simp; omega) (by simp), Option.bind_some,
          show ssub (ByteArray.mk #[48, 49, 50, 51, 52, 53, 54, 55, 56, 57, 97, 98, 99, 100, 101, 102]) (Int.tmod (c.toNat : Int) 16) (IntKind.wrap .u8 ((Int.tmod (c.toNat : Int) 16) + 1)) = some (ofL [hexB (c.toNat % 16)]) from hx.2, Option.bind_some, scatL (by simp; omega) (by simp), Option.bind_some]
        simp only [hw]
        rw [hdl, ih r (done ++ [c]) _ (by simpa using hb) (by simp at h; omega) (by simp; omega)]
        simp [escL, hp]
theorem r24_Quote_eq {s : ByteArray} (hs : s.size ≤ 1000) : ref24_Quote s = some (ofL (wdL (txtW s))) := by
  unfold ref24_Quote
  have := r24_quote_loop s hs FU (bl s) [] [34] rfl (by rw [bl_len]; unfold FU; omega) (by rw [bl_len]; simp; omega)
  refine Eq.trans this ?_
  rfl
theorem r24_small_all : ∀ n : Nat, n < 64 → ref24_small (n : Int) = some (ofL (smallL n)) := by decide +kernel
theorem r24_small_eq {n : Int} (h : okN n) : ref24_small n = some (ofL (wdL (numW n))) := by
  have := r24_small_all n.toNat (by have := h.2; have := h.1; omega)
  rw [show ((n.toNat : Nat) : Int) = n from Int.toNat_of_nonneg h.1] at this
  exact this

/-! lines -/
theorem add1 {β : Type} {p : List UInt8} {ws : List Wd} {w : Wd} {f : ByteArray → Option β} (hp : p.length ≤ 1000) (hw : szW w) (hws : ∀ x, x ∈ ws → szW x) (hl : ws.length ≤ 40) :
    ((scat (ofL (p ++ spW ws)) (ByteArray.mk #[32])).bind fun s => (scat s (ofL (wdL w))).bind f) = f (ofL (p ++ spW (ws ++ [w]))) := by
  have h1 := spW_len hws
  unfold szW at hw
  rw [show ByteArray.mk #[32] = ofL [32] from rfl, scatL (by rw [List.length_append]; omega) (by simp), Option.bind_some, scatL (by simp only [List.length_append, List.length_cons, List.length_nil]; omega) (by omega), Option.bind_some]
  congr 2
  simp [spW]
theorem r24_end {p : List UInt8} (h : p.length ≤ 900000) : ref24_line_k1 (ofL p) = some (ofL (p ++ [10])) := by
  unfold ref24_line_k1
  rw [show ByteArray.mk #[10] = ofL [10] from rfl, scatL (by omega) (by simp)]
  rfl
theorem r24_keys {o : Api_Op} (hk : o.Keys.length ≤ 8 ∧ ∀ s, s ∈ o.Keys → s.size ≤ 32) (p0 : List UInt8) (h0 : p0.length ≤ 1000) : loopF (ref24_line_l5 o) FU (ofL p0, 0) = some (ofL (p0 ++ spW (o.Keys.map txtW) ++ [10])) := by
  have hk1 := hk.1
  have h : loopF (ref24_line_l5 o) FU (ofL (p0 ++ spW []), 0) = some (ofL (p0 ++ spW ([] ++ o.Keys.map txtW) ++ [10])) := by
   refine loopL (body := ref24_line_l5 o) o.Keys (fun (s : List Wd) i => (ofL (p0 ++ spW s), i)) (fun rest s => some (ofL (p0 ++ spW (s ++ rest.map txtW) ++ [10]))) (fun i s => s.length ≤ i ∧ ∀ x, x ∈ s → szW x) ?_ ?_ (s0 := []) ⟨by simp, by simp⟩ (by omega)
   · intro again s hs
     have := spW_len hs.2
     unfold ref24_line_l5 ref24_line_k4
     rw [if_neg (by simp), r24_end (by rw [List.length_append]; omega)]
     simp
   · intro again i s hi hI hag
     have hm := hk.2 _ (List.getElem_mem hi)
     unfold ref24_line_l5
     rw [if_pos (decide_eq_true (by omega))]
     simp only [idx_at hi, Option.bind_some, r24_Quote_eq (show o.Keys[i].size ≤ 1000 by omega)]
     rw [add1 h0 (txtW_sz (by omega)) hI.2 (by omega), wrap64 (by omega) (by omega), hag _ ⟨by simp; omega, fun x hx => by
       rcases List.mem_append.1 hx with hx | hx
       · exact hI.2 x hx
       · have : x = txtW o.Keys[i] := by simpa using hx
         subst this
         exact txtW_sz (by omega)⟩]
     simp only [List.map_cons, List.append_assoc, List.cons_append, List.nil_append]
  simpa [spW] using h

theorem add2 {β : Type} {p : List UInt8} {ws : List Wd} {l : List UInt8} {f : ByteArray → Option β} (hp : p.length ≤ 1000) (hw : szW ⟨false, l⟩) (hws : ∀ x, x ∈ ws → szW x) (hl : ws.length ≤ 40) {b : ByteArray} (hb : b = ofL (32 :: l)) :
    (scat (ofL (p ++ spW ws)) b).bind f = f (ofL (p ++ spW (ws ++ [⟨false, l⟩]))) := by
  have h1 := spW_len hws
  have hw : l.length ≤ 1000 := hw
  subst hb
  rw [scatL (by rw [List.length_append]; omega) (by simp; omega), Option.bind_some]
  congr 2
  simp [spW, wdL]
theorem r24_pars {o : Api_Op} (hp : ∀ p, p ∈ o.Row.Parents → parOK p = true) (hl : o.Row.Parents.length ≤ 6) (p0 : List UInt8) (h0 : p0.length ≤ 1000) (w0 : List Wd) (hw0 : w0.length ≤ 20 ∧ ∀ x, x ∈ w0 → szW x) :
    loopF (ref24_line_l8 o) FU (ofL (p0 ++ spW w0), 0) = some (ofL (p0 ++ spW (w0 ++ o.Row.Parents.map parW) ++ [10])) := by
  refine loopL (body := ref24_line_l8 o) o.Row.Parents (fun (s : List Wd) i => (ofL (p0 ++ spW s), i)) (fun rest s => some (ofL (p0 ++ spW (s ++ rest.map parW) ++ [10]))) (fun i s => s.length ≤ 20 + i ∧ ∀ x, x ∈ s → szW x) ?_ ?_ (s0 := w0) ⟨by omega, hw0.2⟩ (by omega)
  · intro again s hs
    have := spW_len hs.2
    unfold ref24_line_l8 ref24_line_k7
    rw [if_neg (by simp), r24_end (by rw [List.length_append]; omega)]
    simp
  · intro again i s hi hI hag
    have hm := hp _ (List.getElem_mem hi)
    simp only [parOK, Bool.and_eq_true, decide_eq_true_eq] at hm
    have hz : szW (parW o.Row.Parents[i]) := by
      unfold parW
      split
      · simp [szW, wdL]
      · exact numW_sz ⟨by omega, by omega⟩
    have hnext : ∀ x, x ∈ s ++ [parW o.Row.Parents[i]] → szW x := fun x hx => by
      rcases List.mem_append.1 hx with hx | hx
      · exact hI.2 x hx
      · have : x = parW o.Row.Parents[i] := by simpa using hx
        subst this
        exact hz
    unfold ref24_line_l8
    rw [if_pos (decide_eq_true (by omega)), idx_at hi, Option.bind_some]
    by_cases hn : o.Row.Parents[i] < 0
    · have e : parW o.Row.Parents[i] = ⟨false, [45]⟩ := if_pos hn
      rw [e] at hnext
      rw [if_pos (decide_eq_true hn)]
      dsimp only
      rw [add2 (l := [45]) (b := ByteArray.mk #[32, 45]) h0 (by simp [szW, wdL]) hI.2 (by omega) rfl, wrap64 (by omega) (by omega), hag _ ⟨by simp; omega, hnext⟩]
      simp only [List.map_cons, List.append_assoc, List.cons_append, List.nil_append, e]
    · have hok : okN o.Row.Parents[i] := ⟨by omega, by omega⟩
      have e : parW o.Row.Parents[i] = numW o.Row.Parents[i] := if_neg hn
      rw [e] at hnext
      rw [if_neg (by simpa using hn)]
      simp only [Option.bind_some, r24_small_eq hok]
      rw [add1 h0 (numW_sz hok) hI.2 (by omega), wrap64 (by omega) (by omega), hag _ ⟨by simp; omega, hnext⟩]
      simp only [List.map_cons, List.append_assoc, List.cons_append, List.nil_append, e]
theorem r24_rows {o : Api_Op} (h : okRow o.Row = true) (p0 : List UInt8) (h0 : p0.length ≤ 1000) : loopF (ref24_line_l9 o) FU (ofL p0, 0) = some (ofL (p0 ++ spW (rowWds o.Row) ++ [10])) := by
  obtain ⟨⟨_, h2, h3, h4⟩, _⟩ := okRow_iff.1 h
  have ho := ownN_of h
  have hr := to_of h
  have hzl : (o.Row.Owners.zip o.Row.Ranges).length = o.Row.Owners.length := by rw [List.length_zip]; omega
  have key : loopF (ref24_line_l9 o) FU (ofL (p0 ++ spW []), 0) = some (ofL (p0 ++ spW ([] ++ (ownWds (o.Row.Owners.zip o.Row.Ranges) ++ slash :: o.Row.Parents.map parW)) ++ [10])) := by
    refine loopL (body := ref24_line_l9 o) (o.Row.Owners.zip o.Row.Ranges) (fun (s : List Wd) i => (ofL (p0 ++ spW s), i)) (fun rest s => some (ofL (p0 ++ spW (s ++ (ownWds rest ++ slash :: o.Row.Parents.map parW)) ++ [10]))) (fun i s => s.length ≤ 2 * i ∧ ∀ x, x ∈ s → szW x) ?_ ?_ (s0 := []) ⟨by simp, by simp⟩ (by omega)
    · intro again s hs
      unfold ref24_line_l9
      rw [if_neg (by rw [hzl]; simp)]
      unfold ref24_line_k6
      dsimp only
      rw [add2 (l := [47]) (b := ByteArray.mk #[32, 47]) h0 (by simp [szW, wdL]) hs.2 (by omega) rfl, r24_pars (parOK_of h) h2 p0 h0 _ ⟨by simp; omega, fun x hx => by
        rcases List.mem_append.1 hx with hx | hx
        · exact hs.2 x hx
        · have : x = ⟨false, [47]⟩ := by simpa using hx
          subst this
          simp [szW, wdL]⟩]
      simp only [ownWds, slash, List.append_assoc, List.cons_append, List.nil_append]
    · intro again i s hi hI hag
      have hi1 : i < o.Row.Owners.length := by omega
      have hi2 : i < o.Row.Ranges.length := by omega
      have hok := ho _ (List.getElem_mem hi1)
      have hrt := hr _ (List.getElem_mem hi2)
      have hn1 : ∀ x, x ∈ s ++ [numW o.Row.Owners[i]] → szW x := fun x hx => by
        rcases List.mem_append.1 hx with hx | hx
        · exact hI.2 x hx
        · have : x = numW o.Row.Owners[i] := by simpa using hx
          subst this
          exact numW_sz hok
      unfold ref24_line_l9
      rw [if_pos (decide_eq_true (by omega))]
      simp only [idx_at hi1, Option.bind_some, r24_small_eq hok]
      rw [add1 h0 (numW_sz hok) hI.2 (by omega), wrap64 (by omega) (by omega)]
      by_cases hlast : i + 1 < o.Row.Ranges.length
      · rw [if_pos (decide_eq_true (by omega))]
        simp only [idx_at hi2, Option.bind_some, r24_Quote_eq (show o.Row.Ranges[i].To.size ≤ 1000 by omega)]
        rw [add1 h0 (txtW_sz (by omega)) hn1 (by simp; omega), hag _ ⟨by simp; omega, fun x hx => by
          rcases List.mem_append.1 hx with hx | hx
          · exact hn1 x hx
          · have : x = txtW o.Row.Ranges[i].To := by simpa using hx
            subst this
            exact txtW_sz (by omega)⟩]
        have hd : (o.Row.Owners.zip o.Row.Ranges).drop (i + 1) = (o.Row.Owners.zip o.Row.Ranges)[i + 1]'(by omega) :: (o.Row.Owners.zip o.Row.Ranges).drop (i + 2) := List.drop_eq_getElem_cons (by omega)
        have hg : (o.Row.Owners.zip o.Row.Ranges)[i] = (o.Row.Owners[i], o.Row.Ranges[i]) := by simp
        rw [hd, hg]
        simp only [ownWds, List.append_assoc, List.cons_append, List.nil_append]
      · rw [if_neg (by simp; omega), hag _ ⟨by simp; omega, hn1⟩]
        have hd : (o.Row.Owners.zip o.Row.Ranges).drop (i + 1) = [] := List.drop_eq_nil_of_le (by omega)
        have hg : (o.Row.Owners.zip o.Row.Ranges)[i] = (o.Row.Owners[i], o.Row.Ranges[i]) := by simp
        rw [hd, hg]
        simp only [ownWds, List.append_assoc, List.cons_append, List.nil_append]
  simpa [spW, rowWds] using key

theorem r24_line_eq {o : Api_Op} (h : okOp o) : ref24_line o = some (ofL (bodyL o ++ [10])) := by
  obtain ⟨k, hk⟩ : ∃ k : Nat, o.Kind = k := ⟨o.Kind.toNat, by have := h.k; omega⟩
  have hk1 : 1 ≤ k := by have := h.k; omega
  have hk2 : k < 13 := by have := h.k; omega
  have hl := ((name_all k hk2).2 hk1).2.2.1
  have z1 := numW_sz h.cl; have z2 := numW_sz h.si; have z3 := numW_sz h.to; have z4 := numW_sz h.at'; have z5 := numW_sz h.how
  have y1 := txtW_sz (s := o.Key) (by have := h.key; omega); have y2 := txtW_sz (s := o.Value) (by have := h.val; omega)
  have q1 := h.key; have q2 := h.val
  have w1 := r24_small_eq h.cl; have w2 := r24_small_eq h.si; have w3 := r24_small_eq h.to; have w4 := r24_small_eq h.at'; have w5 := r24_small_eq h.how
  have v1 := r24_Quote_eq (s := o.Key) (by omega); have v2 := r24_Quote_eq (s := o.Value) (by omega)
  have hp : (nameL k).length ≤ 1000 := by omega
  have hb : bodyL o = nameL k ++ spW (argW o) := by unfold bodyL; rw [hk]; rfl
  have nm : ∀ f : ByteArray → Option ByteArray, (ref24_names.bind fun r1 => (aidx 13 r1 (k : Int)).bind f) = f (ofL (nameL k)) := by
    intro f
    unfold ref24_names
    rw [Option.bind_some]
    have : ∀ k : Nat, k < 13 → aidx 13 ([ByteArray.empty, (ByteArray.mk #[112, 117, 116]), (ByteArray.mk #[100, 101, 108]), (ByteArray.mk #[103, 101, 116]), (ByteArray.mk #[108, 101, 97, 118, 101]), (ByteArray.mk #[101, 110, 116, 101, 114]), (ByteArray.mk #[98, 101, 103, 105, 110]), (ByteArray.mk #[101, 110, 100]), (ByteArray.mk #[112, 105, 99, 107]), (ByteArray.mk #[97, 103, 97, 105, 110]), (ByteArray.mk #[115, 116, 101, 112]), (ByteArray.mk #[99, 108, 101, 97, 110]), (ByteArray.mk #[114, 111, 119])]) (k : Int) = some (ofL (nameL k)) := by decide +kernel
    rw [this k hk2, Option.bind_some]
  have p0 : ofL (nameL k) = ofL (nameL k ++ spW []) := by simp [spW]
  have fin : ∀ ws : List Wd, (∀ w, w ∈ ws → szW w) → ws.length ≤ 30 → ref24_line_k1 (ofL (nameL k ++ spW ws)) = some (ofL (nameL k ++ spW ws ++ [10])) := fun ws hw hlen => by
    have := spW_len hw
    exact r24_end (by simp only [List.length_append]; omega)
  unfold ref24_line
  rw [hk, nm, hb]
  match k, hk1, hk2 with
  | 1, _, _ =>
    rw [if_pos (by decide)]
    simp only [argW, hk, w1, v1, v2, Option.bind_some, p0]
    rw [add1 hp z1 (by simp) (by simp), add1 hp y1 (by simp [z1]) (by simp), add1 hp y2 (by simp [z1, y1]) (by simp)]
    exact fin _ (by simp [z1, y1, y2]) (by simp)
  | 2, _, _ =>
    rw [if_neg (by decide), if_pos (by decide)]
    unfold ref24_line_k2
    simp only [argW, hk, w1, v1, Option.bind_some, p0]
    rw [add1 hp z1 (by simp) (by simp), add1 hp y1 (by simp [z1]) (by simp)]
    exact fin _ (by simp [z1, y1]) (by simp)
  | 3, _, _ =>
    rw [if_neg (by decide), if_neg (by decide)]
    unfold ref24_line_k2
    simp only [argW, hk, w1, v1, Option.bind_some, p0]
    rw [add1 hp z1 (by simp) (by simp), add1 hp y1 (by simp [z1]) (by simp)]
    exact fin _ (by simp [z1, y1]) (by simp)
  | 4, _, _ =>
    rw [if_neg (by decide), if_neg (by decide)]
    unfold ref24_line_k2 ref24_line_k3
    simp only [argW, hk, w1, Option.bind_some, p0]
    rw [if_neg (by decide), if_pos (by decide), if_pos (by decide), add1 hp z1 (by simp) (by simp)]
    exact fin _ (by simp [z1]) (by simp)
  | 5, _, _ =>
    rw [if_neg (by decide), if_neg (by decide)]
    unfold ref24_line_k2 ref24_line_k3
    simp only [argW, hk, w1, w2, Option.bind_some, p0]
    rw [if_neg (by decide), if_neg (by decide), if_neg (by decide), if_pos (by decide), add1 hp z1 (by simp) (by simp), add1 hp z2 (by simp [z1]) (by simp)]
    exact fin _ (by simp [z1, z2]) (by simp)
  | 6, _, _ =>
    rw [if_neg (by decide), if_neg (by decide)]
    unfold ref24_line_k2 ref24_line_k3
    simp only [argW, hk, w1, Option.bind_some, p0]
    rw [if_neg (by decide), if_neg (by decide), if_neg (by decide), if_neg (by decide), if_pos (by decide), add1 hp z1 (by simp) (by simp)]
    have hnl := numW_len h.cl
    have := r24_keys h.ks (nameL 6 ++ spW ([] ++ [numW o.Client])) (by simp only [spW, List.nil_append, List.flatMap_cons, List.flatMap_nil, List.length_append, List.length_cons, List.append_nil]; omega)
    refine Eq.trans this ?_
    simp [spW]
  | 7, _, _ =>
    rw [if_neg (by decide), if_neg (by decide)]
    unfold ref24_line_k2 ref24_line_k3
    simp only [argW, hk, w1, Option.bind_some, p0]
    rw [if_neg (by decide), if_neg (by decide), if_pos (by decide), add1 hp z1 (by simp) (by simp)]
    exact fin _ (by simp [z1]) (by simp)
  | 8, _, _ =>
    rw [if_neg (by decide), if_neg (by decide)]
    unfold ref24_line_k2 ref24_line_k3
    simp only [argW, hk, w2, w3, w4, w5, Option.bind_some, p0]
    rw [if_neg (by decide), if_neg (by decide), if_neg (by decide), if_neg (by decide), if_neg (by decide), if_pos (by decide), add1 hp z2 (by simp) (by simp), add1 hp z3 (by simp [z2]) (by simp), add1 hp z4 (by simp [z2, z3]) (by simp), add1 hp z5 (by simp [z2, z3, z4]) (by simp)]
    exact fin _ (by simp [z2, z3, z4, z5]) (by simp)
  | 9, _, _ =>
    rw [if_neg (by decide), if_neg (by decide)]
    unfold ref24_line_k2 ref24_line_k3
    simp only [argW, hk, w2, w3, Option.bind_some, p0]
    rw [if_neg (by decide), if_neg (by decide), if_neg (by decide), if_neg (by decide), if_neg (by decide), if_neg (by decide), if_pos (by decide), add1 hp z2 (by simp) (by simp), add1 hp z3 (by simp [z2]) (by simp)]
    exact fin _ (by simp [z2, z3]) (by simp)
  | 10, _, _ =>
    rw [if_neg (by decide), if_neg (by decide)]
    unfold ref24_line_k2 ref24_line_k3
    simp only [argW, hk, w2, Option.bind_some, p0]
    rw [if_neg (by decide), if_neg (by decide), if_neg (by decide), if_neg (by decide), if_neg (by decide), if_neg (by decide), if_neg (by decide), if_pos (by decide), add1 hp z2 (by simp) (by simp)]
    exact fin _ (by simp [z2]) (by simp)
  | 11, _, _ =>
    rw [if_neg (by decide), if_neg (by decide)]
    unfold ref24_line_k2 ref24_line_k3
    simp only [argW, hk, p0]
    exact fin [] (by simp) (by simp)
  | 12, _, _ =>
    rw [if_neg (by decide), if_neg (by decide)]
    unfold ref24_line_k2 ref24_line_k3
    have hr := r24_rows (h.row (by rw [hk]; rfl)) (nameL 12) hp
    simp only [argW, hk]
    exact hr
end Go.Ark
