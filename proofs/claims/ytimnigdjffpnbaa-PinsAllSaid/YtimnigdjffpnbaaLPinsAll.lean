/- The plain law of PinsAll: what all hold is what each holds, one behind the other; of a key it is what is held of it. Conditions: none but those that stand in each law. -/
import Derived.Test.YtimnigdjffpnbaaPpins3
namespace Go.Ark
open Go Go.Ab Go.RowKit

theorem law16_PinsAll_plain (l_0 : (List (List Api_Dep))) (key_1 : ByteArray) (h0 : l_0.length ≤ reachBytes ∧ ∀ x, x ∈ l_0 → x.length ≤ reachBytes ∧ ∀ y, y ∈ x → wfApi_Dep y) (_h1 : key_1.size ≤ reachBytes) : law16_PinsAll l_0 key_1 = some true := by
  unfold law16_PinsAll
  rw [law16_awake_eq]
  simp only [Option.bind_some]
  refine loopF_inv (fun (v : List Api_Pin × Int × Int × Int) => 0 ≤ v.2.2.2 ∧ v.2.2.2 ≤ 6 ∧ sortedI v.1 ∧ (v.1.length : Int) = v.2.2.2 ∧ (∀ x, x ∈ v.1 → x.ID ≤ v.2.2.2) ∧ v.2.1 = ((flatP v.1).length : Int) ∧ v.2.2.1 = ((ofP key_1 (flatP v.1)).length : Int) ∧ ((flatP v.1).length : Int) ≤ 5 * v.2.2.2) (fun v => (6 - v.2.2.2).toNat) (fun _ => some true) ?_ FU ([], 0, 0, 0) ⟨Int.le_refl _, by simp, List.Pairwise.nil, rfl, fun x hx => by simp at hx, rfl, rfl, by simp [flatP]⟩ (by have := FU_big; simp only; omega)
  rintro again ⟨p, n, o, i⟩ ⟨g1, g2, g3, g4, g5, g6, g7, g8⟩ hag
  simp only at g1 g2 g3 g4 g5 g6 g7 g8
  have hol := ofP_len key_1 (flatP p)
  have hend : law16_PinsAll_k4 l_0 key_1 true again (p, n, o, i) false = some true := by
    unfold law16_PinsAll_k4 law16_PinsAll_k1 law16_PinsAll_k2
    simp only [Bool.false_eq_true, if_false, if_true]
    rw [pins_All_eq (by omega), pins_Of_eq (by omega)]
    simp [g6, g7]
  unfold law16_PinsAll_l3
  by_cases c1 : i < (l_0.length : Int)
  · rw [if_pos (by simpa using c1)]
    by_cases c2 : i < 6
    · rw [decide_eq_true c2]
      unfold law16_PinsAll_k4
      simp only [if_true]
      obtain ⟨k, rfl⟩ : ∃ k : Nat, i = k := ⟨i.toNat, by omega⟩
      have hk : k < l_0.length := by omega
      rw [idx_at hk, wrap64 (n := (k : Int) + 1) (by omega) (by omega)]
      simp only [Option.bind_some]
      obtain ⟨x, hx, hid, hxl⟩ := few16_tot (p := ⟨(k : Int) + 1, l_0[k]⟩) (h0.2 _ (List.getElem_mem hk)).1
      rw [hx]
      simp only [Option.bind_some]
      simp only at hid
      have hno : hasI p x.ID = false := hasI_none fun y hy => by have := g5 y hy; omega
      rw [pins_Put_eq g3 (by omega), if_neg (by omega), hno]
      simp only [Bool.false_eq_true, if_false]
      rw [if_neg (by omega)]
      simp only [Option.bind_some, decide_true, Bool.not_true, Bool.false_eq_true, if_false]
      have hxo := ofP_len key_1 x.Deps
      have hfl := flatP_ins_len x p
      have hfo := ofP_ins_len key_1 x p
      have hil := insI_length x p
      refine (loopL (body := law16_PinsAll_l7 key_1 again (p, n, o, (k : Int)) x (insI x p, 0)) x.Deps (fun (s : Int) j => (s, j)) (fun rest s => law16_PinsAll_k6 again (p, n, o, (k : Int)) x (insI x p, 0) (s + ((ofP key_1 rest).length : Int))) (fun j s => 0 ≤ s ∧ s ≤ o + j) ?_ ?_ (s0 := o) ⟨by omega, by simp⟩ (by omega)).trans ?_
      · rintro again2 s ⟨-, -⟩
        unfold law16_PinsAll_l7
        rw [if_neg (by simp)]
        simp [ofP]
      · rintro again2 j s hj ⟨s1, s2⟩ hag2
        unfold law16_PinsAll_l7
        rw [if_pos (decide_eq_true (by simp only; omega))]
        simp only
        rw [idx_at hj, wrap64 (n := (j : Int) + 1) (by omega) (by omega)]
        simp only [Option.bind_some, seq_eq]
        have hsp : ofP key_1 (x.Deps[j] :: x.Deps.drop (j + 1)) = ofP key_1 [x.Deps[j]] ++ ofP key_1 (x.Deps.drop (j + 1)) := ofP_app key_1 [x.Deps[j]] _
        by_cases c3 : x.Deps[j].Key = key_1
        · rw [if_pos (decide_eq_true c3), wrap64 (n := s + 1) (by omega) (by omega), hag2 (s + 1) ⟨by omega, by omega⟩, hsp, ofP_hit c3]
          congr 1
          simp only [List.length_append, List.length_cons, List.length_nil]
          omega
        · rw [if_neg (by simpa using c3), hag2 s ⟨by omega, by omega⟩, hsp, ofP_miss c3]
          rfl
      · unfold law16_PinsAll_k6 law16_PinsAll_k5
        simp only
        rw [wrap64 (n := n + _) (by omega) (by omega), wrap64 (n := (k : Int) + 1) (by omega) (by omega)]
        refine hag _ ⟨by simp only; omega, by simp only; omega, insI_sorted g3 fun y hy => by have := g5 y hy; omega, by simp only; omega, fun y hy => ?_, by simp only; omega, by simp only; omega, by simp only; omega⟩ (by simp only; omega)
        rcases insI_mem.1 hy with rfl | hy
        · simp only; omega
        · have := g5 y hy; simp only; omega
    · rw [decide_eq_false c2]; exact hend
  · rw [if_neg (by simpa using c1)]; exact hend
end Go.Ark
