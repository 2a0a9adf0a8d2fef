/- The plain law of WireRowTurned: bytes that are no row's are read as none; what is read is written so. Conditions: none but those that stand in each law. -/
import Derived.Test.YtjidbmelmcmmhabPsame06
namespace Go.Ark
open Go Go.Ab Go.RowKit

theorem turned_k1 {s : ByteArray} (hs : s.size ≤ 1000000000000) : law06_turned_k1 s = some true := by
  unfold law06_turned_k1
  rw [wire_ReadRow_eq hs, ref06_ReadRow_eq hs]
  simp only [Option.bind_some]
  cases h1 : rdRow (bl s) with
  | none => rfl
  | some z =>
    obtain ⟨c, k⟩ := z
    obtain ⟨a1, a2, a3, a4, a5, a6, a7, a8⟩ := rdRow_sound h1
    have hS : RowS c := ⟨by omega, by omega, by omega, fun r hr => by have := a6 r hr; omega⟩
    rw [runF_some, runF_some]
    unfold finG
    by_cases hk : k = s.size
    · rw [decide_eq_true hk]
      cases hok : okRow c with
      | true =>
        have ew : finW s.size c k = (c, true) := by
          unfold finW
          rw [if_pos ⟨hk, hok⟩]
        rw [ew]
        simp only [Bool.not_true, Bool.false_eq_true, if_false, if_true]
        rw [law06_same_eq hok, Option.bind_some]
        unfold law06_turned_k11
        rw [if_pos rfl, wire_RowBytes_eq hS, Option.bind_some]
        unfold rowB
        rw [hok, if_pos rfl, seq_eq, ← a1, List.take_of_length_le (by rw [bl_len]; omega), ofL_bl, decide_eq_true rfl]
      | false =>
        have ew : finW s.size c k = (noRow, false) := by
          unfold finW
          rw [if_neg (fun q => by rw [hok] at q; cases q.2)]
        rw [ew]
        simp only [Bool.not_false, if_true, Bool.not_true, Bool.false_eq_true, if_false]
        rw [ref02_Whole_eq (by omega) hS.keys, Option.bind_some]
        -- what is found of the parts
        have hk5 : law06_turned_k5 (noRow, false) false = some true := rfl
        have hk4 : ∀ b : Bool, b = false → law06_turned_k4 (noRow, false) (c, true) b = some true := by
          rintro b rfl
          unfold law06_turned_k4
          refine loopF_inv (fun (v : Bool × Int) => 0 ≤ v.2 ∧ v.1 = false) (fun v => ((c.Parents.length : Int) - v.2).toNat) (fun _ => some true) ?_ FU (false, 0) ⟨Int.le_refl _, rfl⟩ (by have := FU_big; simp only; omega)
          rintro again ⟨b, v⟩ ⟨g1, g2⟩ hag
          simp only at g1 g2
          subst g2
          unfold law06_turned_l7
          simp only
          by_cases c1 : v < (c.Parents.length : Int)
          · rw [if_pos (by simpa using c1), if_neg (by decide), wrap64 (by omega) (by omega)]
            exact hag _ ⟨by simp only; omega, rfl⟩ (by simp only; omega)
          · rw [if_neg (by simpa using c1)]
            exact hk5
        have hk3f : ∀ all : Int, law06_turned_k3 (noRow, false) (c, true) false all = some true := by
          intro all
          unfold law06_turned_k3
          refine loopF_inv (fun (v : Bool × Int) => 0 ≤ v.2 ∧ v.1 = false) (fun v => ((c.Owners.length : Int) - v.2).toNat) (fun _ => some true) ?_ FU (false, 0) ⟨Int.le_refl _, rfl⟩ (by have := FU_big; simp only; omega)
          rintro again ⟨b, v⟩ ⟨g1, g2⟩ hag
          simp only at g1 g2
          subst g2
          unfold law06_turned_l8 law06_turned_k9
          simp only
          by_cases c1 : v < (c.Owners.length : Int)
          · rw [if_pos (by simpa using c1), if_neg (by decide), if_neg (by decide), wrap64 (by omega) (by omega)]
            exact hag _ ⟨by simp only; omega, rfl⟩ (by simp only; omega)
          · rw [if_neg (by simpa using c1)]
            exact hk4 _ rfl
        have hk3 : wholeP c.Ranges = true → 1 ≤ c.Parents.length → law06_turned_k3 (noRow, false) (c, true) true (2 ^ c.Parents.length) = some true := by
          intro hw hp
          -- some owner is out
          have hout : ∃ o, o ∈ c.Owners ∧ ¬ (1 ≤ o ∧ o < 2 ^ c.Parents.length) := by
            refine Classical.byContradiction fun hn => ?_
            have : okRow c = true := okRow_iff.2 ⟨⟨hp, a5, a3, a4⟩, hw, fun o ho => Classical.byContradiction fun h => hn ⟨o, ho, h⟩, a8⟩
            rw [hok] at this
            cases this
          generalize (2 : Int) ^ c.Parents.length = all at hout
          unfold law06_turned_k3
          refine loopF_inv (fun (v : Bool × Int) => 0 ≤ v.2 ∧ v.2 ≤ (c.Owners.length : Int) ∧ (v.1 = true → ∀ o, o ∈ c.Owners.take v.2.toNat → 1 ≤ o ∧ o < all)) (fun v => ((c.Owners.length : Int) - v.2).toNat) (fun _ => some true) ?_ FU (true, 0) ⟨Int.le_refl _, by simp, fun _ o ho => by simp at ho⟩ (by have := FU_big; simp only; omega)
          rintro again ⟨b, v⟩ ⟨g1, g2, g3⟩ hag
          simp only at g1 g2 g3
          obtain ⟨i, rfl⟩ : ∃ i : Nat, v = i := ⟨v.toNat, by omega⟩
          simp only [Int.toNat_natCast] at g3
          unfold law06_turned_l8
          simp only
          by_cases c1 : (i : Int) < (c.Owners.length : Int)
          · have hi : i < c.Owners.length := by omega
            have hno : law06_turned_k9 (c, true) all again (b, (i : Int)) false = some true := by
              unfold law06_turned_k9
              rw [if_neg (by decide), wrap64 (by omega) (by omega)]
              exact hag _ ⟨by simp only; omega, by simp only; omega, fun h => by cases h⟩ (by simp only; omega)
            rw [if_pos (by simpa using c1)]
            cases b with
            | false => exact hno
            | true =>
              rw [if_pos rfl, idx_at hi, Option.bind_some]
              by_cases c2 : 1 ≤ c.Owners[i]
              · rw [decide_eq_true c2]
                unfold law06_turned_k9
                rw [if_pos rfl, idx_at hi, Option.bind_some, wrap64 (by omega) (by omega)]
                refine hag _ ⟨by simp only; omega, by simp only; omega, fun h o ho => ?_⟩ (by simp only; omega)
                simp only [show ((i : Int) + 1).toNat = i + 1 by omega] at ho
                rw [List.take_add_one, List.getElem?_eq_getElem hi] at ho
                rcases List.mem_append.1 ho with ho | ho
                · exact g3 rfl o ho
                · simp at ho
                  subst ho
                  exact ⟨c2, of_decide_eq_true h⟩
              · rw [decide_eq_false c2]
                exact hno
          · rw [if_neg (by simpa using c1)]
            refine hk4 _ ?_
            cases b with
            | false => rfl
            | true =>
              obtain ⟨o, ho, hn⟩ := hout
              exact absurd (g3 rfl o (by rw [List.take_of_length_le (by omega)]; exact ho)) hn
        have hk2 : ∀ b : Bool, (b = true → wholeP c.Ranges = true ∧ 1 ≤ c.Parents.length) → law06_turned_k2 (noRow, false) (c, true) b = some true := by
          intro b hb
          unfold law06_turned_k2
          refine loopF_inv (fun (v : Int × Int) => 0 ≤ v.2 ∧ v.2 ≤ (c.Parents.length : Int) ∧ v.1 = 2 ^ v.2.toNat) (fun v => ((c.Parents.length : Int) - v.2).toNat) (fun _ => some true) ?_ FU (1, 0) ⟨Int.le_refl _, by simp, rfl⟩ (by have := FU_big; simp only; omega)
          rintro again ⟨x, v⟩ ⟨g1, g2, g3⟩ hag
          simp only at g1 g2 g3
          obtain ⟨i, rfl⟩ : ∃ i : Nat, v = i := ⟨v.toNat, by omega⟩
          simp only [Int.toNat_natCast] at g3
          unfold law06_turned_l10
          simp only
          by_cases c1 : (i : Int) < (c.Parents.length : Int)
          · have hb : 0 ≤ x ∧ x ≤ 64 := by
              have e1 : (2 : Nat) ^ i ≤ 2 ^ 6 := Nat.pow_le_pow_right (by decide) (by omega)
              have h64 : (2 : Nat) ^ 6 = 64 := rfl
              have e3 : ((2 ^ i : Nat) : Int) ≤ 64 := by omega
              have e4 : (0 : Int) ≤ ((2 ^ i : Nat) : Int) := Int.natCast_nonneg _
              rw [g3]
              exact ⟨by simpa using e4, by simpa using e3⟩
            rw [if_pos (by simpa using c1), wrap64 (n := x * 2) (by omega) (by omega), wrap64 (by omega) (by omega)]
            refine hag _ ⟨by simp only; omega, by simp only; omega, ?_⟩ (by simp only; omega)
            simp only [show ((i : Int) + 1).toNat = i + 1 by omega]
            rw [g3]
            exact (Int.pow_succ _ _).symm
          · rw [if_neg (by simpa using c1)]
            have : i = c.Parents.length := by omega
            subst this
            rw [g3]
            cases b with
            | false => exact hk3f _
            | true => exact hk3 (hb rfl).1 (hb rfl).2
        cases hw : wholeP c.Ranges with
        | true =>
          rw [if_pos rfl]
          exact hk2 _ fun h => ⟨hw, by have := of_decide_eq_true h; omega⟩
        | false =>
          rw [if_neg (by decide)]
          exact hk2 _ fun h => by cases h
    · have ew : finW s.size c k = (noRow, false) := by
        unfold finW
        rw [if_neg (fun q => hk q.1)]
      rw [decide_eq_false hk, ew]
      rfl

theorem law06_WireRowTurned_plain (q_0 : Law06_Spec) (at_1 : (List Int)) (cut_2 : Bool) (_h0 : wfLaw06_Spec q_0) (h1 : at_1.length = 2 ∧ ∀ x, x ∈ at_1 → (Lit.int .i64 x).wf = true) (_h2 : True) : law06_WireRowTurned q_0 at_1 cut_2 = some true := by
  obtain ⟨c, hc, hok⟩ := law06_Spec_row_tot q_0
  have hl := rowL_len hok
  obtain ⟨a, b, rfl⟩ : ∃ a b, at_1 = [a, b] := by
    match at_1, h1.1 with
    | [a, b], _ => exact ⟨a, b, rfl⟩
  unfold law06_WireRowTurned
  rw [law06_awake_eq, Option.bind_some, if_pos rfl]
  have e0 : aidx 2 [a, b] 0 = some a := rfl
  have e1 : aidx 2 [a, b] 1 = some b := rfl
  rw [e0, e1, Option.bind_some, Option.bind_some]
  have hs : (ofL (rowL c)).size = (rowL c).length := ofL_size _
  have ht : law06_turned q_0 a (IntKind.wrap .u8 b) cut_2 = some true := by
    unfold law06_turned
    rw [hc, Option.bind_some, ref06_RowBytes_eq hok, Option.bind_some]
    generalize ofL (rowL c) = B at hs
    obtain ⟨m1, m2⟩ := turnedI a (m := (B.size : Int)) (by omega) (by omega)
    have hne : (!decide ((B.size : Int) = 0)) = true := by rw [decide_eq_false (by omega)]; rfl
    rw [chk_if (decide_eq_true (by omega)), chk_if hne, chk_if hne, chk_if (decide_eq_true ⟨m1, m2⟩), chk_if (decide_eq_true ⟨m1, m2⟩), chk_if (decide_eq_true (u8range _))]
    generalize Int.tmod (IntKind.wrap .i64 (Int.tmod a (B.size : Int) + (B.size : Int))) (B.size : Int) = m at m1 m2
    generalize IntKind.wrap .u8 (BitVec.ofInt (IntKind.bits .u8) _ ^^^ BitVec.ofInt (IntKind.bits .u8) (IntKind.wrap .u8 b)).toNat = y
    have hsz : (bset B m y).size = B.size := by simp only [bset_size]
    cases cut_2 with
    | true =>
      rw [if_pos rfl]
      have hsub : ssub (bset B m y) 0 m = some ((bset B m y).extract 0 m.toNat) := by
        unfold ssub
        rw [if_pos ⟨by omega, m1, by omega⟩]
        rfl
      rw [hsub, Option.bind_some]
      exact turned_k1 (by rw [ByteArray.size_extract]; omega)
    | false =>
      rw [if_neg (by decide)]
      exact turned_k1 (by omega)
  rw [ht]
  rfl
end Go.Ark
