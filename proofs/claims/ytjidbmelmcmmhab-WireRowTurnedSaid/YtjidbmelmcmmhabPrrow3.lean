/- Plain laws: the program's reading of rows is that of the parts, of rows that may be. Conditions: none but those that stand in each law. -/
import Derived.Test.YtjidbmelmcmmhabPrrow2
namespace Go.Ark
open Go Go.Ab Go.RowKit

/-! ### the reader -/
theorem moves_false (s : ByteArray) (a e : Int) (ok : Bool) : wire_reader_moves ⟨s, a, false⟩ e ok = some ⟨s, e, !ok⟩ := rfl
theorem moves_true (s : ByteArray) (a e : Int) (ok : Bool) : wire_reader_moves ⟨s, a, true⟩ e ok = some ⟨s, e, true⟩ := rfl
theorem num_ok {s : ByteArray} (hs : s.size ≤ 1000000000000) {at_ most n k : Nat} (hm : most ≤ 1000) (h : rdK most ((bl s).drop at_) = some (n, k)) : wire_reader_number ⟨s, (at_ : Int), false⟩ (most : Int) = some (⟨s, ((at_ + k : Nat) : Int), false⟩, (n : Int)) := by
  obtain ⟨h1, h2⟩ := rdK_some.1 h
  unfold wire_reader_number
  simp only
  rw [vary_Read_eq s at_ hs, h1, resN_some, Option.bind_some]
  simp only [if_true]
  rw [moves_false, decide_eq_true (show (n : Int) ≤ (most : Int) by omega), Option.bind_some]
  unfold wire_reader_number_k1
  simp only [Bool.not_true, Bool.false_eq_true, if_false]
  rw [wrap64 (by omega) (by omega)]
theorem num_bad {s : ByteArray} (hs : s.size ≤ 1000000000000) {at_ most : Nat} (h : rdK most ((bl s).drop at_) = none) : ∃ e : Int, wire_reader_number ⟨s, (at_ : Int), false⟩ (most : Int) = some (⟨s, e, true⟩, 0) ∧ ∃ e' : Nat, e = e' := by
  unfold wire_reader_number
  simp only
  rw [vary_Read_eq s at_ hs]
  rcases rdK_none.1 h with h1 | ⟨n, k, h1, h2⟩
  · rw [h1]
    exact ⟨0, rfl, 0, rfl⟩
  · rw [h1, resN_some, Option.bind_some]
    simp only [if_true]
    rw [moves_false, decide_eq_false (show ¬ (n : Int) ≤ (most : Int) by omega), Option.bind_some]
    exact ⟨_, rfl, at_ + k, rfl⟩
theorem num_was {s : ByteArray} (hs : s.size ≤ 1000000000000) (at_ : Nat) (most : Int) : ∃ e : Int, wire_reader_number ⟨s, (at_ : Int), true⟩ most = some (⟨s, e, true⟩, 0) ∧ ∃ e' : Nat, e = e' := by
  unfold wire_reader_number
  simp only
  rw [vary_Read_eq s at_ hs]
  cases rdN ((bl s).drop at_) 0 0 with
  | none => exact ⟨0, rfl, 0, rfl⟩
  | some z =>
    obtain ⟨n, k⟩ := z
    rw [resN_some, Option.bind_some]
    simp only [if_true]
    rw [moves_true, Option.bind_some]
    exact ⟨_, rfl, at_ + k, rfl⟩
theorem text_ok {s : ByteArray} (hs : s.size ≤ 1000000000000) {at_ k : Nat} {t : List UInt8} (h : rdT 32 ((bl s).drop at_) = some (t, k)) : wire_reader_text ⟨s, (at_ : Int), false⟩ 32 = some (⟨s, ((at_ + k : Nat) : Int), false⟩, ofL t) := by
  unfold wire_reader_text
  have ht := vary_ReadText_eq s at_ 32 hs (by omega)
  rw [show ((32 : Nat) : Int) = 32 from rfl] at ht
  simp only
  rw [ht, h, resT_some, Option.bind_some]
  rfl
theorem text_bad {s : ByteArray} (hs : s.size ≤ 1000000000000) {at_ : Nat} (h : rdT 32 ((bl s).drop at_) = none) : wire_reader_text ⟨s, (at_ : Int), false⟩ 32 = some (⟨s, 0, true⟩, ByteArray.empty) := by
  unfold wire_reader_text
  have ht := vary_ReadText_eq s at_ 32 hs (by omega)
  rw [show ((32 : Nat) : Int) = 32 from rfl] at ht
  simp only
  rw [ht, h]
  rfl
theorem many_zero (most : Int) (r : Wire_reader) : wire_many 0 most r = some (r, []) := by
  unfold wire_many
  have : ∃ f, FU = f + 1 := ⟨FU - 1, by have := FU_big; omega⟩
  obtain ⟨f, hf⟩ := this
  rw [hf, loopF]
  rfl
theorem many_spec {s : ByteArray} (hs : s.size ≤ 1000000000000) {n most at_ : Nat} (hn : n ≤ 1000) (hm : most ≤ 1000) : ∃ r ys, wire_many (n : Int) (most : Int) ⟨s, (at_ : Int), false⟩ = some (r, ys) ∧ r.s = s ∧ match rdMany most n ((bl s).drop at_) with
    | some (xs, k) => r = ⟨s, ((at_ + k : Nat) : Int), false⟩ ∧ ys = xs.map Int.ofNat
    | none => r.bad = true := by
  unfold wire_many
  have hgoal : ∃ q : Wire_reader × List Int, loopF (wire_many_l2 (n : Int) (most : Int)) FU (0, s, (at_ : Int), false, []) = some q ∧ (q.1.s = s ∧ match rdMany most n ((bl s).drop at_) with
      | some (xs, k) => q.1 = ⟨s, ((at_ + k : Nat) : Int), false⟩ ∧ q.2 = xs.map Int.ofNat
      | none => q.1.bad = true) := by
    refine loopF_tot (fun (v : Int × ByteArray × Int × Bool × List Int) => ∃ i at2 : Nat, v.1 = i ∧ i ≤ n ∧ v.2.1 = s ∧ v.2.2.1 = at2 ∧ v.2.2.2.2.length = i ∧ if v.2.2.2.1 = true then rdMany most n ((bl s).drop at_) = none else ∃ d : Nat, at2 = at_ + d ∧ ∃ acc : List Nat, v.2.2.2.2 = acc.map Int.ofNat ∧ rdMany most n ((bl s).drop at_) = match rdMany most (n - i) ((bl s).drop at2) with
      | some (xs, k) => some (acc ++ xs, d + k)
      | none => none) (fun v => ((n : Int) - v.1).toNat) _ ?_ FU (0, s, (at_ : Int), false, []) ⟨0, at_, rfl, by omega, rfl, rfl, rfl, by
        simp only [Bool.false_eq_true, if_false]
        refine ⟨0, rfl, [], rfl, ?_⟩
        rw [Nat.sub_zero]
        cases rdMany most n ((bl s).drop at_) with
        | none => rfl
        | some z => obtain ⟨xs, k⟩ := z; simp⟩ (by have := FU_big; simp only; omega)
    rintro again ⟨v1, v2, v3, bad, acc⟩ ⟨i, at2, h1, h2, h3, h4, h5, h6⟩ hag
    simp only at h1 h3 h4 h5 h6
    subst h1 h3 h4
    unfold wire_many_l2
    simp only
    by_cases c : (i : Int) < (n : Int)
    · rw [if_pos (by simpa using c), wrap64 (by omega) (by omega)]
      cases bad with
      | true =>
        rw [if_pos rfl] at h6
        obtain ⟨e, q1, e', rfl⟩ := num_was hs at2 (most : Int)
        rw [q1, Option.bind_some]
        simp only
        rw [app_ok (by simp; omega) (by simp; omega), Option.bind_some]
        exact hag _ ⟨i + 1, e', rfl, by omega, rfl, rfl, by simp [h5], by rw [if_pos rfl]; exact h6⟩ (by simp only; omega)
      | false =>
        rw [if_neg (by decide)] at h6
        obtain ⟨d, rfl, acc2, rfl, h7⟩ := h6
        obtain ⟨m, hm'⟩ : ∃ m, n - i = m + 1 := ⟨n - i - 1, by omega⟩
        rw [hm', rdMany_succ] at h7
        cases h8 : rdK most ((bl v2).drop (at_ + d)) with
        | none =>
          rw [h8] at h7
          obtain ⟨e, q1, e', rfl⟩ := num_bad hs h8
          rw [q1, Option.bind_some]
          simp only
          rw [app_ok (by simp at h5 ⊢; omega) (by simp at h5 ⊢; omega), Option.bind_some]
          exact hag _ ⟨i + 1, e', rfl, by omega, rfl, rfl, by simp at h5 ⊢; omega, by rw [if_pos rfl]; exact h7⟩ (by simp only; omega)
        | some z =>
          obtain ⟨x, k⟩ := z
          rw [h8] at h7
          rw [num_ok hs hm h8, Option.bind_some]
          simp only at h7 ⊢
          rw [app_ok (by simp at h5 ⊢; omega) (by simp at h5 ⊢; omega), Option.bind_some]
          refine hag _ ⟨i + 1, at_ + d + k, rfl, by omega, rfl, rfl, by simp at h5 ⊢; omega, ?_⟩ (by simp only; omega)
          simp only
          rw [if_neg (by decide)]
          refine ⟨d + k, by omega, acc2 ++ [x], by simp, ?_⟩
          rw [h7, List.drop_drop, show n - (i + 1) = m by omega]
          cases rdMany most m ((bl v2).drop (at_ + d + k)) with
          | none => rfl
          | some w =>
            obtain ⟨xs, j⟩ := w
            simp only [List.append_assoc, List.cons_append, List.nil_append, Nat.add_assoc]
    · rw [if_neg (by simpa using c)]
      have hin : n - i = 0 := by omega
      unfold wire_many_k1
      simp only
      refine ⟨_, rfl, rfl, ?_⟩
      cases bad with
      | true => rw [if_pos rfl] at h6; rw [h6]
      | false =>
        rw [if_neg (by decide)] at h6
        obtain ⟨d, rfl, acc2, rfl, h7⟩ := h6
        rw [hin] at h7
        rw [h7]
        simp [rdMany]
  obtain ⟨⟨r, ys⟩, h1, h2⟩ := hgoal
  exact ⟨r, ys, h1, h2⟩

/-! ### the whole -/
def finW (size : Nat) (c : Api_Row) (k : Nat) : Api_Row × Bool := if k = size ∧ okRow c = true then (c, true) else (noRow, false)
theorem wholeG_tail : ∀ {acc l : List Api_Range} {b : Bool} {a : ByteArray}, wholeG b a (acc ++ l) = true → ∃ b' a', wholeG b' a' l = true
  | [], _, b, a, h => ⟨b, a, h⟩
  | r :: acc, l, b, a, h => by
    rw [List.cons_append, wholeG_cons] at h
    simp only [Bool.and_eq_true] at h
    exact wholeG_tail h.2.2.2
theorem whole_gap (acc : List Api_Range) (from_ : ByteArray) (ts : List ByteArray) : wholeP (acc ++ mkG from_ (ByteArray.empty :: ts)) = false := by
  cases h : wholeP (acc ++ mkG from_ (ByteArray.empty :: ts)) with
  | false => rfl
  | true =>
    obtain ⟨b, a, h1⟩ := wholeG_tail h
    rw [mkG, wholeG_cons] at h1
    simp only [Bool.and_eq_true] at h1
    have h2 := h1.2.2.2
    cases ts with
    | nil => rw [mkG, wholeG_cons] at h2; simp at h2
    | cons t ts => rw [mkG, wholeG_cons] at h2; simp at h2
theorem okRow_whole {c : Api_Row} (h : wholeP c.Ranges = false) : okRow c = false := by
  cases h1 : okRow c with
  | false => rfl
  | true => rw [(okRow_iff.1 h1).2.1] at h; cases h
theorem finW_gap {size : Nat} {L : List UInt8} {rs : List Api_Range} (h : wholeP rs = false) (n at_ : Nat) : tOwn (finW size) L rs n at_ = (noRow, false) := by
  have hf : ∀ os ps k, finW size ⟨rs, os, ps⟩ k = (noRow, false) := fun os ps k => by
    unfold finW
    rw [if_neg]
    rintro ⟨-, h2⟩
    rw [okRow_whole (c := ⟨rs, os, ps⟩) h] at h2
    cases h2
  unfold tOwn
  cases rdMany 63 n (L.drop at_) with
  | none => rfl
  | some z =>
    obtain ⟨os, k⟩ := z
    simp only
    unfold tM
    cases rdK 6 (L.drop (at_ + k)) with
    | none => rfl
    | some z =>
      obtain ⟨m, k2⟩ := z
      simp only
      unfold tPar
      cases rdMany 6 m (L.drop (at_ + k + k2)) with
      | none => rfl
      | some z => obtain ⟨ps, k3⟩ := z; exact hf _ _ _

theorem wire_ReadRow_eq {s : ByteArray} (hs : s.size ≤ 1000000000000) : wire_ReadRow s = some (runF (finW s.size) (rdRow (bl s))) := by
  rw [← tAll_eq]
  generalize hR : tAll (finW s.size) (bl s) = R
  have hno : (⟨([] : List Api_Range), ([] : List Int), ([] : List Int)⟩ : Api_Row) = noRow := rfl
  -- behind the parents
  have hdec : ∀ (rs : List Api_Range) (r6 : Wire_reader × List Int) (r9 : Wire_reader × List Int), r9.2.length ≤ 1000 → (∀ y, y ∈ r9.2 → 0 ≤ y ∧ y ≤ 6) → wire_ReadRow_k3 rs r6 r9 (r9.2.map fun y => y - 1) = some R → loopF (wire_ReadRow_l5 rs r6 r9) FU (0, r9.2) = some R := by
    intro rs r6 r9 hl hy hk
    refine loopF_inv (fun (v : Int × List Int) => ∃ i : Nat, v.1 = i ∧ i ≤ r9.2.length ∧ v.2 = ((r9.2.take i).map fun y => y - 1) ++ r9.2.drop i) (fun v => ((r9.2.length : Int) - v.1).toNat) (fun _ => some R) ?_ FU (0, r9.2) ⟨0, rfl, by omega, by simp⟩ (by have := FU_big; simp only; omega)
    rintro again ⟨v, l⟩ ⟨i, h1, h2, h3⟩ hag
    simp only at h1 h3
    subst h1 h3
    unfold wire_ReadRow_l5
    simp only
    by_cases c : (i : Int) < (r9.2.length : Int)
    · have hi : i < r9.2.length := by omega
      have hy1 := hy _ (List.getElem_mem hi)
      have htl : ((r9.2.take i).map fun y => y - 1).length = i := by rw [List.length_map, List.length_take]; omega
      have hlt : i < (((r9.2.take i).map fun y => y - 1) ++ r9.2.drop i).length := by rw [List.length_append, htl, List.length_drop]; omega
      have hget : (((r9.2.take i).map fun y => y - 1) ++ r9.2.drop i)[i] = r9.2[i] := by
        rw [List.getElem_append_right (by omega)]
        simp only [htl, Nat.sub_self, List.getElem_drop, Nat.add_zero]
      have hsets : sets (((r9.2.take i).map fun y => y - 1) ++ r9.2.drop i) (i : Int) (r9.2[i] - 1) = some (((r9.2.take (i + 1)).map fun y => y - 1) ++ r9.2.drop (i + 1)) := by
        unfold sets
        rw [if_pos (by omega), Int.toNat_natCast, List.set_append_right _ _ (by omega), htl, Nat.sub_self, List.drop_eq_getElem_cons hi, List.set_cons_zero, List.take_add_one, List.getElem?_eq_getElem hi]
        simp only [Option.toList, List.map_append, List.map_cons, List.map_nil, List.append_assoc, List.cons_append, List.nil_append]
      rw [if_pos (by simpa using c), idx_at hlt, Option.bind_some, Option.bind_some, hget, wrap64 (by omega) (by omega), hsets, Option.bind_some, wrap64 (by omega) (by omega)]
      exact hag _ ⟨i + 1, rfl, by omega, rfl⟩ (by simp only; omega)
    · rw [if_neg (by simpa using c)]
      have : i = r9.2.length := by omega
      subst this
      rw [List.take_length, List.drop_length, List.append_nil]
      exact hk
  have hbadloop : ∀ (rs : List Api_Range) (r6 : Wire_reader × List Int) (r9 : Wire_reader × List Int), r9.1.bad = true → r9.2.length ≤ 1000 → R = (noRow, false) → loopF (wire_ReadRow_l5 rs r6 r9) FU (0, r9.2) = some R := by
    intro rs r6 r9 hb hl hR
    refine loopF_inv (fun (v : Int × List Int) => 0 ≤ v.1 ∧ v.2.length = r9.2.length) (fun v => ((r9.2.length : Int) - v.1).toNat) (fun _ => some R) ?_ FU (0, r9.2) ⟨Int.le_refl _, rfl⟩ (by have := FU_big; simp only; omega)
    rintro again ⟨v, l⟩ ⟨h1, h2⟩ hag
    simp only at h1 h2
    unfold wire_ReadRow_l5
    simp only
    by_cases c : v < (r9.2.length : Int)
    · rw [if_pos (by simpa using c), idx_int h1 (by omega), Option.bind_some, Option.bind_some]
      unfold sets
      rw [if_pos (by omega), Option.bind_some, wrap64 (n := v + 1) (by omega) (by omega)]
      exact hag _ ⟨by simp only; omega, by simp [h2]⟩ (by simp only; omega)
    · rw [if_neg (by simpa using c)]
      unfold wire_ReadRow_k3 wire_reader_done wire_ReadRow_k4
      rw [hb, hR]
      rfl
  -- behind the ends
  have hk2 : ∀ (rs : List Api_Range) (from_ : ByteArray) (r1 : Wire_reader) (n at_ : Nat), n ≤ 8 → rs.length ≤ 8 → (∀ r, r ∈ rs ++ [(⟨from_, ByteArray.empty⟩ : Api_Range)] → r.From.size ≤ 32 ∧ r.To.size ≤ 32) → R = tOwn (finW s.size) (bl s) (rs ++ [⟨from_, ByteArray.empty⟩]) n at_ → wire_ReadRow_k2 (r1, (n : Int)) (from_, s, (at_ : Int), false, rs) = some R := by
    intro rs from_ r1 n at_ hn hrs hsm hR
    unfold wire_ReadRow_k2
    simp only
    rw [app_ok (by simp; omega) (by simp; omega), Option.bind_some]
    obtain ⟨r6, os, q1, q2, q3⟩ := many_spec hs (n := n) (most := 63) (at_ := at_) (by omega) (by omega)
    rw [show ((63 : Nat) : Int) = 63 from rfl] at q1
    rw [q1, Option.bind_some]
    unfold tOwn at hR
    cases h1 : rdMany 63 n ((bl s).drop at_) with
    | none =>
      rw [h1] at hR q3
      simp only at hR q3 ⊢
      rw [if_pos q3, hR]
      rfl
    | some z =>
      obtain ⟨xs, k⟩ := z
      rw [h1] at hR q3
      simp only at hR q3 ⊢
      obtain ⟨rfl, rfl⟩ := q3
      obtain ⟨-, hxl, hx63⟩ := rdMany_sound h1
      simp only [Bool.false_eq_true, if_false]
      unfold tM at hR
      cases h2 : rdK 6 ((bl s).drop (at_ + k)) with
      | none =>
        rw [h2] at hR
        obtain ⟨e, p1, e', rfl⟩ := num_bad hs h2
        rw [show ((6 : Nat) : Int) = 6 from rfl] at p1
        rw [p1, Option.bind_some, many_zero, Option.bind_some]
        exact hbadloop _ _ _ rfl (by simp) hR
      | some z =>
        obtain ⟨m, k2⟩ := z
        rw [h2] at hR
        have p1 := num_ok hs (by omega) h2
        rw [show ((6 : Nat) : Int) = 6 from rfl] at p1
        have hm6 := (rdK_some.1 h2).2
        rw [p1, Option.bind_some]
        simp only at hR ⊢
        obtain ⟨r9, ys, t1, t2, t3⟩ := many_spec hs (n := m) (most := 6) (at_ := at_ + k + k2) (by omega) (by omega)
        rw [show ((6 : Nat) : Int) = 6 from rfl] at t1
        rw [t1, Option.bind_some]
        unfold tPar at hR
        cases h3 : rdMany 6 m ((bl s).drop (at_ + k + k2)) with
        | none =>
          rw [h3] at hR t3
          refine hbadloop _ _ (r9, ys) t3 ?_ hR
          have : ∀ (n : Nat) (r : Wire_reader) (q : Wire_reader × List Int), n ≤ 1000 → wire_many (n : Int) 6 r = some q → q.2.length ≤ 1000 := by
            intro n r q hn hq
            unfold wire_many at hq
            have hl : ∀ (f : Nat) (v : Int × ByteArray × Int × Bool × List Int) (q : Wire_reader × List Int), 0 ≤ v.1 → v.2.2.2.2.length ≤ v.1.toNat → v.1 ≤ n → loopF (wire_many_l2 (n : Int) 6) f v = some q → q.2.length ≤ n := by
              intro f
              induction f with
              | zero => intro v q _ _ _ h; cases h
              | succ f ih =>
                intro v q h0 h1 h1n h
                rw [loopF] at h
                unfold wire_many_l2 at h
                split at h
                · rename_i c
                  have c := of_decide_eq_true c
                  obtain ⟨z, -, h2⟩ := bindS h
                  obtain ⟨l, h3, h4⟩ := bindS h2
                  rw [wrap64 (by omega) (by omega)] at h4
                  refine ih _ q (by show 0 ≤ v.1 + 1; omega) ?_ (by show v.1 + 1 ≤ _; omega) h4
                  unfold app at h3
                  split at h3
                  · cases h3
                    show (v.2.2.2.2 ++ [z.2]).length ≤ (v.1 + 1).toNat
                    rw [List.length_append]
                    simp only [List.length_cons, List.length_nil]
                    omega
                  · cases h3
                · unfold wire_many_k1 at h
                  cases h
                  show v.2.2.2.2.length ≤ n
                  omega
            have := hl FU _ q (by simp) (by simp) (by simp) hq
            omega
          exact this m _ _ (by omega) t1
        | some z =>
          obtain ⟨ps, k3⟩ := z
          rw [h3] at hR t3
          simp only at hR t3
          obtain ⟨rfl, rfl⟩ := t3
          obtain ⟨-, hpl, hp6⟩ := rdMany_sound h3
          refine hdec _ _ (_, ps.map Int.ofNat) (by simp; omega) (fun y hy => ?_) ?_
          · obtain ⟨p, hp, rfl⟩ := List.mem_map.1 hy
            have := hp6 p hp
            show (0 : Int) ≤ (p : Int) ∧ (p : Int) ≤ 6
            omega
          · have e1 : ((ps.map Int.ofNat).map fun y => y - 1) = ps.map fun (p : Nat) => (p : Int) - 1 := by rw [List.map_map]; rfl
            simp only
            rw [e1]
            unfold wire_ReadRow_k3 wire_reader_done
            simp only [Bool.not_false, if_true, Option.bind_some]
            unfold finW at hR
            by_cases c6 : at_ + k + k2 + k3 = s.size
            · rw [decide_eq_true (show ((at_ + k + k2 + k3 : Nat) : Int) = (s.size : Int) by omega)]
              simp only [Bool.not_true, Bool.false_eq_true, if_false]
              have hS : RowS (⟨rs ++ [(⟨from_, ByteArray.empty⟩ : Api_Range)], xs.map Int.ofNat, ps.map fun (p : Nat) => (p : Int) - 1⟩ : Api_Row) := ⟨by simp; omega, by simp; omega, by simp; omega, fun r hr => by have := hsm r hr; omega⟩
              rw [wire_written_eq hS, Option.bind_some]
              unfold wire_ReadRow_k4
              simp only
              cases hok : okRow ⟨rs ++ [(⟨from_, ByteArray.empty⟩ : Api_Range)], xs.map Int.ofNat, ps.map fun (p : Nat) => (p : Int) - 1⟩ with
              | true =>
                rw [if_pos ⟨c6, hok⟩] at hR
                rw [hR]
                rfl
              | false =>
                rw [if_neg (fun q => by rw [hok] at q; cases q.2)] at hR
                rw [hR]
                rfl
            · rw [decide_eq_false (show ¬ ((at_ + k + k2 + k3 : Nat) : Int) = (s.size : Int) by omega)]
              rw [if_neg (fun q => c6 q.1)] at hR
              rw [hR]
              rfl
  have hends : ∀ (n at_ : Nat), 1 ≤ n → n ≤ 8 → R = tEnds (finW s.size) (bl s) [] ByteArray.empty (n - 1) n at_ → loopF (wire_ReadRow_l6 (⟨s, (at_ : Int), false⟩, (n : Int))) FU (ByteArray.empty, 0, s, (at_ : Int), false, []) = some R := by
    intro n at_ hn1 hn8 hR
    refine loopF_inv (fun (v : ByteArray × Int × ByteArray × Int × Bool × List Api_Range) => ∃ at2 i : Nat, v.2.1 = i ∧ i ≤ n - 1 ∧ v.2.2.1 = s ∧ v.2.2.2.1 = at2 ∧ v.2.2.2.2.1 = false ∧ v.2.2.2.2.2.length = i ∧ (∀ r, r ∈ v.2.2.2.2.2 ++ [(⟨v.1, ByteArray.empty⟩ : Api_Range)] → r.From.size ≤ 32 ∧ r.To.size ≤ 32) ∧ R = tEnds (finW s.size) (bl s) v.2.2.2.2.2 v.1 (n - 1 - i) n at2) (fun v => ((n : Int) - v.2.1).toNat) (fun _ => some R) ?_ FU _
      ⟨at_, 0, rfl, by omega, rfl, rfl, rfl, rfl, fun r hr => by simp at hr; subst hr; exact ⟨by show ByteArray.empty.size ≤ 32; decide, by show ByteArray.empty.size ≤ 32; decide⟩, hR⟩ (by have := FU_big; simp only; omega)
    rintro again ⟨from_, v2, s2, v4, bad, acc⟩ ⟨at2, i, h1, h2, h3, h4, h5, h6, h7, h8⟩ hag
    simp only at h1 h3 h4 h5 h6 h7 h8
    subst h1 h3 h4 h5
    unfold wire_ReadRow_l6
    simp only
    rw [wrap64 (n := (n : Int) - 1) (by omega) (by omega)]
    unfold tEnds at h8
    by_cases c : (i : Int) < (n : Int) - 1
    · rw [if_pos (by simpa using c)]
      obtain ⟨d, hd⟩ : ∃ d, n - 1 - i = d + 1 := ⟨n - 1 - i - 1, by omega⟩
      rw [hd, rdEnds_succ] at h8
      cases h9 : rdT 32 ((bl s2).drop at2) with
      | none =>
        rw [h9] at h8
        rw [text_bad hs h9, Option.bind_some]
        unfold wire_ReadRow_k7
        rw [h8]
        rfl
      | some z =>
        obtain ⟨t, k⟩ := z
        have hl := rdT_len h9
        rw [h9] at h8
        rw [text_ok hs h9, Option.bind_some]
        simp only [Bool.false_eq_true, if_false] at h8 ⊢
        unfold wire_ReadRow_k7
        rw [seq_eq]
        simp only
        by_cases c0 : ofL t = ByteArray.empty
        · rw [decide_eq_true c0, if_pos rfl]
          have : R = (noRow, false) := by
            rw [h8]
            cases rdEnds d (List.drop k (List.drop at2 (bl s2))) with
            | none => rfl
            | some w =>
              obtain ⟨es, j⟩ := w
              simp only
              rw [c0]
              exact finW_gap (whole_gap acc from_ es) _ _
          rw [this]
          rfl
        · rw [decide_eq_false c0, if_neg (by decide), app_ok (by simp; omega) (by simp; omega), Option.bind_some, wrap64 (by omega) (by omega)]
          refine hag _ ⟨at2 + k, i + 1, rfl, by omega, rfl, rfl, rfl, by simp [h6], fun r hr => ?_, ?_⟩ (by simp only; omega)
          · have ht32 : (ofL t).size ≤ 32 := by rw [ofL_size]; exact hl.2.2
            have hfrom := (h7 ⟨from_, ByteArray.empty⟩ (by simp)).1
            simp only at hr hfrom
            rcases List.mem_append.1 hr with hr | hr
            · rcases List.mem_append.1 hr with hr | hr
              · exact h7 r (by simp [hr])
              · simp at hr; subst hr; exact ⟨hfrom, ht32⟩
            · simp at hr; subst hr; exact ⟨ht32, by show ByteArray.empty.size ≤ 32; decide⟩
          · simp only
            rw [h8, List.drop_drop, show n - 1 - (i + 1) = d by omega]
            unfold tEnds
            cases rdEnds d ((bl s2).drop (at2 + k)) with
            | none => rfl
            | some w =>
              obtain ⟨es, j⟩ := w
              simp only [mkG, List.append_assoc, List.cons_append, List.nil_append, Nat.add_assoc]
    · rw [if_neg (by simpa using c)]
      have : n - 1 - i = 0 := by omega
      rw [this] at h8
      simp only [rdEnds, mkG, Nat.add_zero] at h8
      exact hk2 acc from_ _ n at2 hn8 (by omega) h7 h8
  unfold wire_ReadRow wire_ReadRow_k1
  unfold tAll at hR
  have h0 : (⟨s, 0, false⟩ : Wire_reader) = ⟨s, ((0 : Nat) : Int), false⟩ := rfl
  cases h1 : rdK 8 (bl s) with
  | none =>
    rw [h1] at hR
    obtain ⟨e, p1, e', rfl⟩ := num_bad hs (at_ := 0) (most := 8) (by rw [List.drop_zero]; exact h1)
    rw [show ((8 : Nat) : Int) = 8 from rfl] at p1
    rw [h0, p1, Option.bind_some, ← hR]
    rfl
  | some z =>
    obtain ⟨n, k⟩ := z
    rw [h1] at hR
    have p1 := num_ok hs (at_ := 0) (most := 8) (by omega) (by rw [List.drop_zero]; exact h1)
    rw [show ((8 : Nat) : Int) = 8 from rfl] at p1
    rw [h0, p1, Option.bind_some]
    simp only [Bool.false_eq_true, if_false] at hR ⊢
    by_cases c1 : n = 0
    · rw [if_pos (by simp; omega)]
      rw [if_pos c1] at hR
      rw [← hR]
      rfl
    · rw [if_neg (by simp; omega)]
      rw [if_neg c1] at hR
      rw [Nat.zero_add]
      exact hends n k (by omega) (rdK_some.1 h1).2 hR.symm
end Go.Ark
