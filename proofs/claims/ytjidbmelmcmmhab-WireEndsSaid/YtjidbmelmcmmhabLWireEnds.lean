/- The plain law of WireEnds: a row's last range comes back open; all begin where the one ahead ends. Conditions: none but those that stand in each law. -/
import Derived.Test.YtjidbmelmcmmhabPsame06
namespace Go.Ark
open Go Go.Ab Go.RowKit

theorem whole_at : ∀ {l : List Api_Range} {b : Bool} {a : ByteArray}, wholeG b a l = true → ∀ i (hi : i < l.length), l[i].From = (if i = 0 then a else ((l[i - 1]?).map (·.To)).getD ByteArray.empty) ∧ ((0 < i ∨ b = true) → l[i].From ≠ ByteArray.empty) ∧ (i + 1 = l.length → l[i].To = ByteArray.empty)
  | [], _, _, _, i, hi => by simp at hi
  | r :: l, b, a, h, i, hi => by
    rw [wholeG_cons] at h
    simp only [Bool.and_eq_true, decide_eq_true_eq, Bool.not_eq_true', Bool.and_eq_false_iff, decide_eq_false_iff_not] at h
    obtain ⟨-, h2, h3, h4⟩ := h
    cases i with
    | zero =>
      simp only [List.getElem_cons_zero, if_true]
      refine ⟨h2, fun hb => ?_, fun hl => ?_⟩
      · rcases hb with hb | hb
        · omega
        · rcases h3 with h3 | h3
          · rw [hb] at h3; cases h3
          · rw [h2]; exact h3
      · have : l = [] := by
          cases l with
          | nil => rfl
          | cons x l => simp at hl
        subst this
        rw [wholeG_nil] at h4
        simpa using h4
    | succ j =>
      have hj : j < l.length := by simpa using hi
      obtain ⟨q1, q2, q3⟩ := whole_at h4 j hj
      simp only [List.getElem_cons_succ]
      refine ⟨?_, fun _ => q2 (.inr rfl), fun hl => q3 (by simpa using hl)⟩
      rw [q1, if_neg (show ¬ (j + 1 = 0) by omega), Nat.add_sub_cancel]
      cases j with
      | zero => rw [if_pos rfl]; rfl
      | succ k => rw [if_neg (show ¬ (k + 1 = 0) by omega), List.getElem?_cons_succ, Nat.add_sub_cancel]

theorem law06_WireEnds_plain (q_0 : Law06_Spec) (_h0 : wfLaw06_Spec q_0) : law06_WireEnds q_0 = some true := by
  obtain ⟨c, hc, hok⟩ := law06_Spec_row_tot q_0
  have hl := rowL_len hok
  obtain ⟨⟨h1, h2, h3, h4⟩, h5, h6, h7⟩ := okRow_iff.1 hok
  have hn := okRow_ne hok
  have hat := whole_at h5
  unfold law06_WireEnds
  rw [law06_awake_eq, hc]
  simp only [Option.bind_some]
  rw [wire_RowBytes_eq (okRow_S hok), Option.bind_some]
  unfold rowB
  rw [hok, if_pos rfl]
  have hs : (ofL (rowL c)).size = (rowL c).length := ofL_size _
  rw [wire_ReadRow_eq (by omega), Option.bind_some, bl_ofL]
  have h8 := rdRow_at hok []
  rw [List.append_nil] at h8
  rw [h8, runF_some]
  have e1 : finW (ofL (rowL c)).size c (rowL c).length = (c, true) := by
    unfold finW
    rw [if_pos ⟨hs.symm, hok⟩]
  rw [e1]
  simp only [Bool.not_true, Bool.false_eq_true, if_false, decide_true]
  unfold law06_WireEnds_k1
  rw [if_neg (by decide)]
  refine loopF_inv (fun (v : ByteArray × Int) => 0 ≤ v.2 ∧ v.2 ≤ (c.Ranges.length : Int) ∧ v.1 = if v.2.toNat = 0 then ByteArray.empty else ((c.Ranges[v.2.toNat - 1]?).map (·.To)).getD ByteArray.empty) (fun v => ((c.Ranges.length : Int) - v.2).toNat) (fun _ => some true) ?_ FU (ByteArray.empty, 0) ⟨Int.le_refl _, by simp, rfl⟩ (by have := FU_big; simp only; omega)
  rintro again ⟨at_, v⟩ ⟨g1, g2, g3⟩ hag
  simp only at g1 g2 g3
  obtain ⟨i, rfl⟩ : ∃ i : Nat, v = i := ⟨v.toNat, by omega⟩
  simp only [Int.toNat_natCast] at g3
  unfold law06_WireEnds_l4
  simp only
  by_cases c1 : (i : Int) < (c.Ranges.length : Int)
  · have hi : i < c.Ranges.length := by omega
    obtain ⟨q1, q2, -⟩ := hat i hi
    rw [← g3] at q1
    have hgo : ∃ y, y = false ∧ (if decide ((0 : Int) < (i : Int)) = true then law06_WireEnds_k5 (c, true) again (at_, (i : Int)) (seq at_ ByteArray.empty) else law06_WireEnds_k5 (c, true) again (at_, (i : Int)) false) = law06_WireEnds_k5 (c, true) again (at_, (i : Int)) y := by
      by_cases c2 : 0 < i
      · rw [if_pos (decide_eq_true (by omega)), seq_eq]
        exact ⟨_, decide_eq_false (by rw [← q1]; exact q2 (.inl c2)), rfl⟩
      · rw [if_neg (by simp; omega)]
        exact ⟨_, rfl, rfl⟩
    obtain ⟨y, rfl, hy⟩ := hgo
    rw [if_pos (by simpa using c1), idx_at hi, Option.bind_some, seq_eq, decide_eq_true q1, if_neg (by decide), hy]
    unfold law06_WireEnds_k5
    simp only [Bool.false_eq_true, if_false]
    rw [idx_at hi, Option.bind_some, wrap64 (by omega) (by omega)]
    refine hag _ ⟨by simp only; omega, by simp only; omega, ?_⟩ (by simp only; omega)
    simp only [show ((i : Int) + 1).toNat = i + 1 by omega]
    rw [if_neg (by omega), Nat.add_sub_cancel, List.getElem?_eq_getElem hi]
    rfl
  · rw [if_neg (by simpa using c1)]
    have hin : i = c.Ranges.length := by omega
    subst hin
    have hlast := (hat (c.Ranges.length - 1) (by omega)).2.2 (by omega)
    rw [if_neg (by omega), List.getElem?_eq_getElem (by omega)] at g3
    have g3 : at_ = ByteArray.empty := by rw [g3]; exact hlast
    have hol : 0 < c.Owners.length := by omega
    have hbad : okRow ⟨c.Ranges, c.Owners.set 0 0, c.Parents⟩ = false := by
      cases h9 : okRow ⟨c.Ranges, c.Owners.set 0 0, c.Parents⟩ with
      | false => rfl
      | true =>
        obtain ⟨-, -, q, -⟩ := okRow_iff.1 h9
        have := (q 0 (List.mem_iff_getElem.2 ⟨0, by simpa using hol, by simp⟩)).1
        omega
    have hS := okRow_S hok
    unfold law06_WireEnds_k2
    rw [app_ok (by simp; omega) (by simp; omega), Option.bind_some, List.nil_append, show (0 : Int) = ((0 : Nat) : Int) from rfl, idx_at hol, Option.bind_some]
    have hsets : sets c.Owners ((0 : Nat) : Int) ((0 : Nat) : Int) = some (c.Owners.set 0 0) := by
      unfold sets
      rw [if_pos (by omega)]
      rfl
    rw [hsets, Option.bind_some, if_pos rfl, seq_eq, decide_eq_true g3]
    unfold law06_WireEnds_k3
    have hS2 : RowS ⟨c.Ranges, c.Owners.set 0 0, c.Parents⟩ := ⟨hS.ranges, by show (c.Owners.set 0 0).length ≤ _; rw [List.length_set]; exact hS.owners, hS.parents, hS.keys⟩
    rw [if_pos rfl, wire_RowBytes_eq hS2, Option.bind_some]
    unfold rowB
    rw [hbad, if_neg (by decide), seq_eq]
    simp
end Go.Ark
