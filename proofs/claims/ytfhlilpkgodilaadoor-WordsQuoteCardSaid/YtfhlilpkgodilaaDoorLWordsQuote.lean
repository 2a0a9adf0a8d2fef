/- WordsQuote: texts between quotes are one word. Conditions: none. -/
import Derived.Test.YtfhlilpkgodilaaDoorPlaw24
namespace Go.Ark
open Go Go.Ab Go.RowKit

theorem hexB_vis : ∀ n, n < 16 → 32 ≤ (hexB n).toNat ∧ (hexB n).toNat ≤ 126 := by decide
theorem escL_vis {c b : UInt8} (h : b ∈ escL c) : 32 ≤ b.toNat ∧ b.toNat ≤ 126 := by
  unfold escL at h
  split at h
  · rename_i hp
    simp only [plB, Bool.and_eq_true, decide_eq_true_eq] at hp
    have : b = c := by simpa using h
    subst this
    exact ⟨hp.1, hp.2.1⟩
  · have := c.toNat_lt
    simp only [List.mem_cons, List.mem_nil_iff, or_false] at h
    rcases h with h | h | h
    · subst h; decide
    · subst h; exact hexB_vis _ (by omega)
    · subst h; exact hexB_vis _ (by omega)
theorem quoteL_vis {l : List UInt8} {b : UInt8} (h : b ∈ quoteL l) : 32 ≤ b.toNat ∧ b.toNat ≤ 126 := by
  simp only [quoteL, List.mem_cons, List.mem_append, List.mem_flatMap, List.mem_nil_iff, or_false] at h
  rcases h with h | ⟨c, _, h⟩ | h
  · subst h; decide
  · exact escL_vis h
  · subst h; decide
theorem quoteL_inj {l m : List UInt8} (hl : l.length ≤ 1000) (hm : m.length ≤ 1000) (h : quoteL l = quoteL m) : l = m := by
  have h1 := words_quoted_eq (l := l) (rest := []) (by have := quoteL_len l; simp; omega)
  have h2 := words_quoted_eq (l := m) (rest := []) (by have := quoteL_len m; simp; omega)
  rw [h, h2] at h1
  have h3 := congrArg bl (congrArg Prod.fst (Option.some.inj h1))
  simp only [endsQ, if_true, bl_ofL] at h3
  exact (List.cons.inj h3).2.symm

theorem quote_law {a b : ByteArray} (ha : a.size ≤ 60) (hb : b.size ≤ 60) : law24_WordsQuote_k1 true a b (ofL (quoteL (bl a))) () = some true := by
  have la : (quoteL (bl a)).length ≤ 182 := by have := quoteL_len (bl a); rw [bl_len] at this; omega
  have lb : (quoteL (bl b)).length ≤ 182 := by have := quoteL_len (bl b); rw [bl_len] at this; omega
  have hqa : (ofL (quoteL (bl a))).size ≤ 182 := by rw [ofL_size]; exact la
  have hqb : (ofL (quoteL (bl b))).size ≤ 182 := by rw [ofL_size]; exact lb
  unfold law24_WordsQuote_k1
  have e1 : ByteArray.mk #[32] = ofL [32] := rfl
  have e2 : ByteArray.mk #[9] = ofL [9] := rfl
  have e3 : ByteArray.mk #[34] = ofL [34] := rfl
  rw [e1, scat_L (by rw [ofL_size]; simp; omega), ofL_app]
  simp only [Option.bind_some]
  rw [e2, scat_L (by rw [ofL_size, ofL_size]; simp; omega), ofL_app]
  simp only [Option.bind_some]
  rw [words_Quote_eq (by omega)]
  simp only [Option.bind_some]
  rw [scat_L (by rw [ofL_size, ofL_size]; simp; omega), ofL_app]
  simp only [Option.bind_some]
  have hw : [32] ++ quoteL (bl a) ++ [9] ++ quoteL (bl b) = wdsL [([32], ⟨true, bl a⟩), ([9], ⟨true, bl b⟩)] := by
    simp [wdsL, wdL]
  have hok : wdsOK [([32], ⟨true, bl a⟩), ([9], ⟨true, bl b⟩)] :=
    ⟨fun h => (by cases h), by decide, by simp, fun h => (by cases h), by decide, by simp, trivial⟩
  rw [hw, words_Words_eq hok (by rw [← hw]; simp; omega) (by simp)]
  simp only [Option.bind_some]
  rw [scat_L (by rw [ofL_size, ofL_size]; omega), ofL_app]
  simp only [Option.bind_some]
  rw [words_glued (by simp; omega) (by simp [quoteL, endsQ])]
  simp only [Option.bind_some, if_true, List.map_cons, List.map_nil, wdW]
  unfold law24_WordsQuote_k2
  rw [if_pos rfl]
  unfold law24_WordsQuote_k3
  rw [if_pos (by simp)]
  have i0 : ∀ x y : ByteArray, idx [x, y] 0 = some x := fun _ _ => rfl
  have i1 : ∀ x y : ByteArray, idx [x, y] 1 = some y := fun _ _ => rfl
  rw [i0, e3, scat_L (by rw [ofL_size]; simp; omega), app_pre a]
  simp only [Option.bind_some]
  rw [seq_eq, decide_eq_true rfl]
  unfold law24_WordsQuote_k4
  rw [if_pos rfl, i1, e3, scat_L (by rw [ofL_size]; simp; omega), app_pre b]
  simp only [Option.bind_some]
  rw [seq_eq, decide_eq_true rfl]
  unfold law24_WordsQuote_k5
  rw [if_pos rfl]
  unfold law24_WordsQuote_k6
  rw [if_pos (by rfl), words_Quote_eq (by omega)]
  simp only [Option.bind_some, seq_eq]
  congr 1
  by_cases h : a = b
  · subst h; simp
  · have : ¬ ofL (quoteL (bl b)) = ofL (quoteL (bl a)) := fun c => by
      have c1 := congrArg bl c
      rw [bl_ofL, bl_ofL] at c1
      exact h (bl_inj (quoteL_inj (by rw [bl_len]; omega) (by rw [bl_len]; omega) c1)).symm
    simp [h, this]

theorem law24_WordsQuote_plain (s_0 : ByteArray) (t_1 : ByteArray) (_h0 : s_0.size ≤ reachBytes) (_h1 : t_1.size ≤ reachBytes) : law24_WordsQuote s_0 t_1 = some true := by
  obtain ⟨a, ha, la⟩ := short_eq s_0 60
  obtain ⟨b, hb, lb⟩ := short_eq t_1 60
  unfold law24_WordsQuote
  rw [awake_t]
  simp only [Option.bind_some]
  rw [show law24_short s_0 60 = some a from ha, show law24_short t_1 60 = some b from hb]
  simp only [Option.bind_some]
  rw [words_Quote_eq (by omega)]
  simp only [Option.bind_some]
  have hq : (quoteL (bl a)).length ≤ 182 := by have := quoteL_len (bl a); rw [bl_len] at this; omega
  have key : ∀ (r done : List UInt8) (n : Nat), quoteL (bl a) = done ++ r → r.length < n → loopF (law24_WordsQuote_l7 true a b (ofL (quoteL (bl a)))) n (done.length : Int) = some true := by
    intro r
    induction r with
    | nil =>
      intro done n hd hn
      cases n with
      | zero => omega
      | succ n =>
        rw [loopF, law24_WordsQuote_l7, if_neg (by rw [ofL_size, hd]; simp)]
        exact quote_law la lb
    | cons c r ih =>
      intro done n hd hn
      cases n with
      | zero => omega
      | succ n =>
        have hlen : done.length < (quoteL (bl a)).length := by rw [hd]; simp
        have hc : sidx (ofL (quoteL (bl a))) (done.length : Int) = some c := by rw [sidx_bl, bl_ofL, hd]; simp
        have hv : 32 ≤ c.toNat ∧ c.toNat ≤ 126 := quoteL_vis (l := bl a) (by rw [hd]; simp)
        have hw : IntKind.wrap .i64 ((done.length : Int) + 1) = ((done ++ [c]).length : Int) := by rw [wrap64 (by omega) (by omega)]; simp
        rw [loopF, law24_WordsQuote_l7, if_pos (by rw [ofL_size]; simpa using hlen), hc]
        simp only [Option.bind_some]
        rw [if_neg (by simp; omega), if_neg (by simp; omega), hw]
        exact ih (done ++ [c]) n (by rw [hd]; simp) (by simp at hn; omega)
  exact key (quoteL (bl a)) [] FU rfl (by unfold FU; omega)
end Go.Ark
