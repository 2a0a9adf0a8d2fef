import Derived.Test.YtfhlilpkgodilaaGreatDoorPwline2
/- Plain laws: words: the line of a step, whole. Conditions: none but those that stand in each law. -/
namespace Go.Ark
open Go Go.Ab Go.RowKit

theorem key_loop {o : Api_Op} (hk : o.Keys.length ≤ 8 ∧ ∀ s, s ∈ o.Keys → s.size ≤ 32) (p0 : List UInt8) (h0 : p0.length ≤ 1000) : loopF (words_line_l5 o) FU (ofL p0, 0) = some (ofL (p0 ++ spW (o.Keys.map txtW) ++ [10])) := by
  refine (loopL (body := words_line_l5 o) o.Keys (fun (s : List UInt8) i => (ofL s, i)) (fun rest s => some (ofL (s ++ spW (rest.map txtW) ++ [10]))) (fun i s => s.length ≤ 1000 + 1001 * i) ?_ ?_ (s0 := p0) (by omega) (by have := hk.1; omega))
  · intro again s hs
    have := hk.1
    unfold words_line_l5 words_line_k4 words_line_k1
    rw [if_neg (by simp)]
    rw [show ByteArray.mk #[10] = ofL [10] from rfl, scat_L (by rw [ofL_size, ofL_size]; simp; omega), ofL_app]
    simp [spW]
  · intro again i s hi hI hag
    have h1 := hk.1
    have hm := hk.2 _ (List.getElem_mem hi)
    have hx := txtW_len o.Keys[i]
    unfold words_line_l5
    rw [if_pos (decide_eq_true (by omega)), idx_at hi]
    simp only [Option.bind_some]
    rw [words_Quote_w (by omega)]
    simp only [Option.bind_some]
    rw [putW1 (by omega) (txtW_sz (by omega)), wrap64 (by omega) (by omega)]
    simp only [Option.bind_some]
    rw [hag _ (by simp only [spW, List.flatMap_cons, List.flatMap_nil, List.length_append, List.length_cons, List.append_nil]; omega)]
    simp only [spW, List.map_cons, List.flatMap_cons, List.flatMap_nil, List.append_assoc, List.append_nil, List.cons_append]

theorem line_end {p : List UInt8} (h : p.length ≤ 1000000) : words_line_k1 (ofL p) = some (ofL (p ++ [10])) := by
  unfold words_line_k1
  rw [show ByteArray.mk #[10] = ofL [10] from rfl, scat_L (by rw [ofL_size, ofL_size]; simp; omega), ofL_app]
  rfl

theorem parOK_of {c : Api_Row} (h : okRow c = true) : ∀ p, p ∈ c.Parents → parOK p = true := by
  have := (okRow_iff.1 h).2.2.2
  intro p hp
  have := this p hp
  simp only [parOK, Bool.and_eq_true, decide_eq_true_eq]
  omega
theorem ownN_of {c : Api_Row} (h : okRow c = true) : ∀ o, o ∈ c.Owners → okN o := by
  obtain ⟨⟨_, h2, _, _⟩, _, h3, _⟩ := okRow_iff.1 h
  intro o ho
  have := h3 o ho
  have hp : (2 : Int) ^ c.Parents.length ≤ 2 ^ 6 := by
    have : (2 : Nat) ^ c.Parents.length ≤ 2 ^ 6 := Nat.pow_le_pow_right (by decide) h2
    exact_mod_cast this
  have e : (2 : Int) ^ 6 = 64 := by decide
  exact ⟨by omega, by omega⟩
theorem to_of {c : Api_Row} (h : okRow c = true) : ∀ r, r ∈ c.Ranges → r.To.size ≤ 32 := fun r hr => (whole_small (okRow_iff.1 h).2.1 r hr).2

theorem ownWds_sz : ∀ {l : List (Int × Api_Range)}, (∀ x, x ∈ l → okN x.1 ∧ x.2.To.size ≤ 32) → ∀ w, w ∈ ownWds l → szW w
  | [], _, w, hw => by simp [ownWds] at hw
  | [(o, r)], h, w, hw => by
    have : w = numW o := by simpa [ownWds] using hw
    subst this
    exact numW_sz (h (o, r) (by simp)).1
  | (o, r) :: x :: l, h, w, hw => by
    simp only [ownWds, List.mem_cons] at hw
    rcases hw with rfl | rfl | hw
    · exact numW_sz (h (o, r) (by simp)).1
    · have := (h (o, r) (by simp)).2
      exact txtW_sz (by simpa using Nat.le_trans this (by decide))
    · exact ownWds_sz (fun y hy => h y (by simp only [List.mem_cons] at hy ⊢; exact .inr hy)) w hw
theorem ownWds_len : ∀ l : List (Int × Api_Range), (ownWds l).length ≤ 2 * l.length
  | [] => by simp [ownWds]
  | [(o, r)] => by simp [ownWds]
  | (o, r) :: x :: l => by
    have := ownWds_len (x :: l)
    simp only [ownWds, List.length_cons] at this ⊢
    omega
theorem zip_ok {c : Api_Row} (h : okRow c = true) : ∀ x, x ∈ c.Owners.zip c.Ranges → okN x.1 ∧ x.2.To.size ≤ 32 := fun x hx => by
  have hx : (x.1, x.2) ∈ c.Owners.zip c.Ranges := hx
  exact ⟨ownN_of h _ (List.of_mem_zip hx).1, to_of h _ (List.of_mem_zip hx).2⟩
theorem rowWds_sz {c : Api_Row} (h : okRow c = true) : (∀ w, w ∈ rowWds c → szW w) ∧ (rowWds c).length ≤ 23 := by
  obtain ⟨⟨_, h2, h3, h4⟩, _⟩ := okRow_iff.1 h
  constructor
  · intro w hw
    simp only [rowWds, List.mem_append, List.mem_cons, List.mem_map] at hw
    rcases hw with hw | rfl | ⟨p, hp, rfl⟩
    · exact ownWds_sz (zip_ok h) w hw
    · simp [szW, wdL, slash]
    · have := parOK_of h p hp
      simp only [parOK, Bool.and_eq_true, decide_eq_true_eq] at this
      unfold parW
      split
      · simp [szW, wdL]
      · exact numW_sz ⟨by omega, by omega⟩
  · have := ownWds_len (c.Owners.zip c.Ranges)
    have hz : (c.Owners.zip c.Ranges).length ≤ 8 := by rw [List.length_zip]; omega
    simp only [rowWds, List.length_append, List.length_cons, List.length_map]
    omega

theorem words_line_eq {o : Api_Op} (h : okOp o) : words_line o = some (ofL (nameL o.Kind.toNat ++ spW (argW o) ++ [10])) := by
  obtain ⟨k, hk⟩ : ∃ k : Nat, o.Kind = k := ⟨o.Kind.toNat, by have := h.k; omega⟩
  have hk1 : 1 ≤ k := by have := h.k; omega
  have hk2 : k < 13 := by have := h.k; omega
  have hn := name_all k hk2
  have hl := (hn.2 hk1).2.2.1
  have n1 := numW_len h.cl; have n2 := numW_len h.si; have n3 := numW_len h.to; have n4 := numW_len h.at'; have n5 := numW_len h.how
  have z1 := numW_sz h.cl; have z2 := numW_sz h.si; have z3 := numW_sz h.to; have z4 := numW_sz h.at'; have z5 := numW_sz h.how
  have t1 := txtW_len o.Key; have t2 := txtW_len o.Value
  have y1 := txtW_sz (s := o.Key) (by have := h.key; omega); have y2 := txtW_sz (s := o.Value) (by have := h.val; omega)
  have q1 := h.key; have q2 := h.val
  unfold words_line
  rw [hk, hn.1, Int.toNat_natCast]
  simp only [Option.bind_some]
  have w1 := words_small_eq h.cl; have w2 := words_small_eq h.si; have w3 := words_small_eq h.to; have w4 := words_small_eq h.at'; have w5 := words_small_eq h.how
  have v1 := words_Quote_w (s := o.Key) (by omega); have v2 := words_Quote_w (s := o.Value) (by omega)
  have fin : ∀ ws : List Wd, (∀ w, w ∈ ws → szW w) → ws.length ≤ 30 → words_line_k1 (ofL (nameL k ++ spW ws)) = some (ofL (nameL k ++ spW ws ++ [10])) := fun ws hw hlen => by
    have := spW_len hw
    exact line_end (by simp only [List.length_append]; omega)
  have fin0 : words_line_k1 (ofL (nameL k)) = some (ofL (nameL k ++ spW [] ++ [10])) := by
    have := fin [] (by simp) (by simp)
    simpa [spW] using this
  have hp : (nameL k).length ≤ 900000 := by omega
  match k, hk1, hk2 with
  | 1, _, _ =>
    simp only [argW, hk, w1, v1, v2, Option.bind_some]
    rw [if_pos (by decide), putW3 hp z1 y1 y2]
    exact fin _ (by simp [z1, y1, y2]) (by simp)
  | 2, _, _ =>
    simp only [argW, hk]
    rw [if_neg (by decide), if_pos (by decide)]
    unfold words_line_k2
    simp only [w1, v1, Option.bind_some, putW2 hp z1 y1]
    exact fin _ (by simp [z1, y1]) (by simp)
  | 3, _, _ =>
    simp only [argW, hk]
    rw [if_neg (by decide), if_neg (by decide)]
    unfold words_line_k2
    simp only [w1, v1, Option.bind_some, putW2 hp z1 y1]
    exact fin _ (by simp [z1, y1]) (by simp)
  | 4, _, _ =>
    simp only [argW, hk]
    rw [if_neg (by decide), if_neg (by decide)]
    unfold words_line_k2 words_line_k3
    simp only [hk, w1, Option.bind_some, putW1 hp z1]
    exact fin _ (by simp [z1]) (by simp)
  | 5, _, _ =>
    simp only [argW, hk]
    rw [if_neg (by decide), if_neg (by decide)]
    unfold words_line_k2 words_line_k3
    simp only [hk, w1, w2, Option.bind_some, putW2 hp z1 z2]
    exact fin _ (by simp [z1, z2]) (by simp)
  | 6, _, _ =>
    simp only [argW, hk]
    rw [if_neg (by decide), if_neg (by decide)]
    unfold words_line_k2 words_line_k3
    simp only [hk, w1, Option.bind_some, putW1 hp z1]
    have := key_loop h.ks (nameL 6 ++ spW [numW o.Client]) (by simp only [spW, List.flatMap_cons, List.flatMap_nil, List.length_append, List.length_cons, List.append_nil]; omega)
    refine Eq.trans this ?_
    simp [spW]
  | 7, _, _ =>
    simp only [argW, hk]
    rw [if_neg (by decide), if_neg (by decide)]
    unfold words_line_k2 words_line_k3
    simp only [hk, w1, Option.bind_some, putW1 hp z1]
    exact fin _ (by simp [z1]) (by simp)
  | 8, _, _ =>
    simp only [argW, hk]
    rw [if_neg (by decide), if_neg (by decide)]
    unfold words_line_k2 words_line_k3
    simp only [hk, w2, w3, w4, w5, Option.bind_some, putW4 hp z2 z3 z4 z5]
    exact fin _ (by simp [z2, z3, z4, z5]) (by simp)
  | 9, _, _ =>
    simp only [argW, hk]
    rw [if_neg (by decide), if_neg (by decide)]
    unfold words_line_k2 words_line_k3
    simp only [hk, w2, w3, Option.bind_some, putW2 hp z2 z3]
    exact fin _ (by simp [z2, z3]) (by simp)
  | 10, _, _ =>
    simp only [argW, hk]
    rw [if_neg (by decide), if_neg (by decide)]
    unfold words_line_k2 words_line_k3
    simp only [hk, w2, Option.bind_some, putW1 hp z2]
    exact fin _ (by simp [z2]) (by simp)
  | 11, _, _ =>
    simp only [argW, hk]
    rw [if_neg (by decide), if_neg (by decide)]
    unfold words_line_k2 words_line_k3
    simp only [hk]
    exact fin0
  | 12, _, _ =>
    have hr := h.row (by rw [hk]; rfl)
    obtain ⟨⟨_, r2, r3, r4⟩, _⟩ := okRow_iff.1 hr
    simp only [argW, hk]
    rw [if_neg (by decide), if_neg (by decide)]
    unfold words_line_k2 words_line_k3
    simp only [hk, own_loop (ownN_of hr) (to_of hr) r4 r3 (parOK_of hr) r2 (nameL 12) (by omega), Option.bind_some]
    have := rowWds_sz hr
    exact fin _ this.1 (by omega)
end Go.Ark
