import Derived.Test.YtfhlilpkgodilaaGreatDoorPr24g
/- Plain laws: both answers on words agree. Conditions: none but those that stand in each law. -/
namespace Go.Ark
open Go Go.Ab Go.RowKit

theorem text_inj {s t : ByteArray} {r q : List UInt8} (hs : s.size ≤ 32) (ht : t.size ≤ 32) (h : textL s ++ r = textL t ++ q) : r = q := by
  unfold textL at h
  rw [numL_small (by omega), numL_small (by omega)] at h
  simp only [List.cons_append, List.nil_append] at h
  obtain ⟨h1, h2⟩ := List.cons.inj h
  have e : s.size = t.size := by
    have := congrArg UInt8.toNat h1
    simp only [UInt8.toNat_ofNat'] at this
    omega
  exact (List.append_inj h2 (by rw [bl_len, bl_len, e])).2
theorem numsL_len {o : Api_Op} (h : okOp o) : (numsL o).length = 6 := by
  have hN := okN_nums h
  have e : ∀ n, n ∈ [o.Kind, o.Client, o.Site, o.To, o.At, o.How] → (numL n.toNat).length = 1 := fun n hn => by
    have := hN n hn
    rw [numL_small (by omega)]; rfl
  simp only [List.mem_cons, List.mem_nil_iff, or_false, forall_eq_or_imp, forall_eq] at e
  obtain ⟨e1, e2, e3, e4, e5, e6⟩ := e
  simp only [numsL, List.flatMap_cons, List.flatMap_nil, List.length_append, List.length_nil, e1, e2, e3, e4, e5, e6]
theorem opL_keys {a b : Api_Op} (ha : okOp a) (hb : okOp b) (h : opL a = opL b) : a.Keys.length = b.Keys.length := by
  have h1 := ha.ks.1; have h2 := hb.ks.1
  unfold opL at h
  have e1 := (List.append_inj h (by rw [numsL_len ha, numsL_len hb])).2
  have e2 := text_inj ha.key hb.key e1
  have e3 := text_inj ha.val hb.val e2
  rw [numL_small (by omega), numL_small (by omega)] at e3
  simp only [List.cons_append, List.nil_append] at e3
  have := congrArg UInt8.toNat (List.cons.inj e3).1
  simp only [UInt8.toNat_ofNat'] at this
  omega
theorem canon_keys {o : Api_Op} (h : okOp o) (he : opL (canon o) = opL o) : (canon o).Keys = o.Keys := by
  have hl := opL_keys (canon_ok h) h he
  by_cases hk : o.Kind = 6
  · simp [canon, hk]
  · have : (canon o).Keys = [] := by
      unfold canon
      repeat' split
      all_goals first | rfl | (rename_i c; exact absurd c hk)
    rw [this] at hl ⊢
    exact (List.eq_nil_of_length_eq_zero hl.symm).symm
theorem equal_string_refl {a : List ByteArray} (hl : a.length ≤ 1000000) : slices_Equal_string a a = some true := by
  unfold slices_Equal_string
  rw [if_neg (by simp)]
  refine loopL (body := slices_Equal_string_l2 a a) a (fun (_ : Unit) i => i) (fun _ _ => some true) (fun _ _ => True) ?_ ?_ (s0 := ()) trivial (by omega)
  · intro again _ _
    unfold slices_Equal_string_l2
    rw [if_neg (by simp)]
    rfl
  · intro again i _ hi _ hag
    unfold slices_Equal_string_l2
    rw [if_pos (decide_eq_true (by omega)), idx_at hi, Option.bind_some, Option.bind_some, seq_eq, decide_eq_true rfl, if_neg (by simp), wrap64 (by omega) (by omega)]
    exact hag () trivial
theorem words_same_eq {o : Api_Op} (h : okOp o) : words_same (canon o) o = some (decide (opL (canon o) = opL o)) := by
  unfold words_same
  rw [script_Bytes_eq (canon_ok h), Option.bind_some, script_Bytes_eq h, Option.bind_some, seq_eq]
  by_cases c : opL (canon o) = opL o
  · rw [c, decide_eq_true rfl, if_pos rfl, canon_keys h c, equal_string_refl (by have := h.ks.1; omega), decide_eq_true rfl]
    rfl
  · have hne : ¬ ofL (numL 1 ++ opL (canon o)) = ofL (numL 1 ++ opL o) := fun e => by
      have := congrArg bl e
      rw [bl_ofL, bl_ofL] at this
      exact c (List.append_cancel_left this)
    rw [decide_eq_false hne, if_neg (by simp), decide_eq_false c]

/-- both answers say the same of a step -/
theorem checks_agree {o : Api_Op} (h : smallOp o) : ∃ r, words_Check o = some r ∧ ref24_Check o = some r ∧ (r = true → okOp o) := by
  cases hs : okS o with
  | false =>
    refine ⟨false, ?_, ?_, fun c => by cases c⟩
    · unfold words_Check words_Check_k1
      rw [script_Check_eq h, Option.bind_some, hs, if_pos (by rfl), if_pos rfl]
    · unfold ref24_Check
      rw [ref22_Check_eq h, Option.bind_some, hs, if_pos (by rfl)]
  | true =>
    by_cases hx : (o.Row.Ranges.length = 0) ↔ ¬ o.Kind = 12
    · have hok := okS_op hs hx
      have hb : ((decide ((o.Row.Ranges.length : Int) = 0)) == (decide (o.Kind = 12))) = false := by
        by_cases hk : o.Kind = 12
        · have := okRow_ne (hok.row hk)
          rw [decide_eq_false (by omega : ¬ (o.Row.Ranges.length : Int) = 0), decide_eq_true hk]; rfl
        · rw [hok.no hk, decide_eq_false hk]; rfl
      refine ⟨decide (opL (canon o) = opL o), ?_, ?_, fun _ => hok⟩
      · unfold words_Check words_Check_k1
        rw [script_Check_eq h, Option.bind_some, hs, if_neg (by simp), hb, if_neg (by simp), line_eq hok, Option.bind_some, parse_one hok, Option.bind_some, if_pos (by simp), if_pos (by simp), show idx [canon o] 0 = some (canon o) from rfl, Option.bind_some, words_same_eq hok]
        rfl
      · have hk1 : ref24_Check_k1 o false = some (decide (opL (canon o) = opL o)) := by
          unfold ref24_Check_k1
          rw [if_neg (by simp), r24_line_eq hok, Option.bind_some, r24_parse_one hok, Option.bind_some, if_pos (by simp), if_pos (by simp), show idx [canon o] 0 = some (canon o) from rfl, Option.bind_some, sameOp_eq (canon_ok hok) hok]
          rfl
        unfold ref24_Check ref24_Check_k2
        rw [ref22_Check_eq h, Option.bind_some, hs, if_neg (by simp)]
        by_cases hk : o.Kind = 12
        · have := okRow_ne (hok.row hk)
          rw [if_pos (decide_eq_true hk), decide_eq_false (by omega : ¬ (o.Row.Ranges.length : Int) = 0), if_neg (by simp), decide_eq_true hk, if_neg (by simp), hk1]
        · rw [if_neg (by simpa using hk), if_neg (by simp), decide_eq_false hk, if_pos (by rfl), hok.no hk]
          exact hk1
    · refine ⟨false, ?_, ?_, fun c => by cases c⟩
      · have hb : ((decide ((o.Row.Ranges.length : Int) = 0)) == (decide (o.Kind = 12))) = true := by
          by_cases hk : o.Kind = 12
          · by_cases hr : o.Row.Ranges.length = 0
            · rw [decide_eq_true hk, decide_eq_true (by omega)]; rfl
            · exact absurd ⟨fun c => absurd c hr, fun c => absurd hk c⟩ hx
          · by_cases hr : o.Row.Ranges.length = 0
            · exact absurd ⟨fun _ => hk, fun _ => hr⟩ hx
            · rw [decide_eq_false hk, decide_eq_false (by omega)]; rfl
        unfold words_Check words_Check_k1
        rw [script_Check_eq h, Option.bind_some, hs, if_neg (by simp), hb, if_pos rfl]
      · unfold ref24_Check ref24_Check_k2 ref24_Check_k1
        rw [ref22_Check_eq h, Option.bind_some, hs, if_neg (by simp)]
        by_cases hk : o.Kind = 12
        · by_cases hr : o.Row.Ranges.length = 0
          · rw [if_pos (decide_eq_true hk), decide_eq_true (by omega), if_pos rfl, if_pos rfl]
          · exact absurd ⟨fun c => absurd c hr, fun c => absurd hk c⟩ hx
        · by_cases hr : o.Row.Ranges.length = 0
          · exact absurd ⟨fun _ => hk, fun _ => hr⟩ hx
          · rw [if_neg (by simpa using hk), if_neg (by simp), decide_eq_false hk, if_pos (by rfl), decide_eq_true (by omega), if_pos rfl]
end Go.Ark
