/- The plain law of PinsKeys: of a key nothing is held that no pin has; all that is held of it stands in All, in that order. Conditions: none but those that stand in each law. -/
import Derived.Test.YtimnigdjffpnbaaPpins3
namespace Go.Ark
open Go Go.Ab Go.RowKit

theorem keys_end (key : ByteArray) {p : List Api_Pin} (hl : (flatP p).length ≤ 1000) : law16_PinsKeys_k1 key true p = some true := by
  have hol := ofP_len key (flatP p)
  unfold law16_PinsKeys_k1
  rw [pins_All_eq (by omega), pins_Of_eq (by omega)]
  simp only [Option.bind_some]
  refine loopF_inv (fun (v : Int × Int) => ∃ i : Nat, v.2 = (i : Int) ∧ i ≤ (flatP p).length ∧ v.1 = ((ofP key ((flatP p).take i)).length : Int)) (fun v => ((flatP p).length - v.2.toNat : Nat)) (fun _ => some true) ?_ FU (0, 0) ⟨0, rfl, Nat.zero_le _, by simp [ofP]⟩ (by have := FU_big; simp only; omega)
  rintro again ⟨k, i'⟩ ⟨i, rfl, hi, rfl⟩ hag
  simp only at hag
  unfold law16_PinsKeys_l3
  simp only
  by_cases c : i < (flatP p).length
  · have hsplit : ofP key (flatP p) = ofP key ((flatP p).take i) ++ (ofP key [(flatP p)[i]] ++ ofP key ((flatP p).drop (i + 1))) := by
      rw [← ofP_app, ← ofP_app, List.singleton_append, ← List.drop_eq_getElem_cons c, List.take_append_drop]
    have hnext : ofP key ((flatP p).take (i + 1)) = ofP key ((flatP p).take i) ++ ofP key [(flatP p)[i]] := by rw [take_snoc c, ofP_app]
    have hil := ofP_len key ((flatP p).take i)
    have hit := List.length_take_le i (flatP p)
    rw [if_pos (decide_eq_true (by omega)), idx_at c, wrap64 (n := (i : Int) + 1) (by omega) (by omega)]
    simp only [Option.bind_some, seq_eq]
    by_cases c2 : (flatP p)[i].Key = key
    · rw [ofP_hit c2] at hsplit hnext
      have hlen : (ofP key (flatP p)).length = (ofP key ((flatP p).take i)).length + (1 + (ofP key ((flatP p).drop (i + 1))).length) := by rw [hsplit]; simp; omega
      have hlt : (ofP key ((flatP p).take i)).length < (ofP key (flatP p)).length := by omega
      have hget : (ofP key (flatP p))[(ofP key ((flatP p).take i)).length] = (flatP p)[i].Stamp := by
        have : (ofP key (flatP p))[(ofP key ((flatP p).take i)).length]? = some (flatP p)[i].Stamp := by
          rw [hsplit, List.getElem?_append_right (Nat.le_refl _), Nat.sub_self]; rfl
        rw [List.getElem?_eq_getElem hlt] at this
        exact Option.some.inj this
      rw [decide_eq_true c2, if_neg (by simp), if_neg (by rw [decide_eq_true_eq]; omega), idx_at hlt, hget]
      simp only [Option.bind_some, decide_true, Bool.and_self, Bool.not_true]
      unfold law16_PinsKeys_k4
      rw [if_neg (by simp), wrap64 (n := ((ofP key ((flatP p).take i)).length : Int) + 1) (by omega) (by omega), wrap64 (n := (i : Int) + 1) (by omega) (by omega)]
      exact hag _ ⟨i + 1, by simp, by omega, by rw [hnext]; simp⟩ (by simp only; omega)
    · rw [ofP_miss c2] at hnext
      rw [decide_eq_false c2, if_pos (by simp)]
      exact hag _ ⟨i + 1, by simp, by omega, by rw [hnext]; simp⟩ (by simp only; omega)
  · obtain rfl : i = (flatP p).length := by omega
    rw [if_neg (by simp)]
    unfold law16_PinsKeys_k2
    simp
theorem law16_PinsKeys_plain (l_0 : (List (List Api_Dep))) (key_1 : ByteArray) (h0 : l_0.length ≤ reachBytes ∧ ∀ x, x ∈ l_0 → x.length ≤ reachBytes ∧ ∀ y, y ∈ x → wfApi_Dep y) (_h1 : key_1.size ≤ reachBytes) : law16_PinsKeys l_0 key_1 = some true := by
  unfold law16_PinsKeys
  rw [law16_awake_eq]
  simp only [Option.bind_some]
  refine loopF_inv (fun (v : List Api_Pin × Int) => 0 ≤ v.2 ∧ v.2 ≤ 6 ∧ sortedI v.1 ∧ (v.1.length : Int) = v.2 ∧ (∀ x, x ∈ v.1 → 10 - v.2 < x.ID) ∧ ((flatP v.1).length : Int) ≤ 5 * v.2) (fun v => (6 - v.2).toNat) (fun _ => some true) ?_ FU ([], 0) ⟨Int.le_refl _, by simp, List.Pairwise.nil, rfl, fun x hx => by simp at hx, by simp [flatP]⟩ (by have := FU_big; simp only; omega)
  rintro again ⟨p, i⟩ ⟨g1, g2, g3, g4, g5, g8⟩ hag
  simp only at g1 g2 g3 g4 g5 g8
  unfold law16_PinsKeys_l5
  by_cases c1 : i < (l_0.length : Int)
  · rw [if_pos (by simpa using c1)]
    by_cases c2 : i < 6
    · rw [decide_eq_true c2]
      unfold law16_PinsKeys_k6
      simp only [if_true]
      obtain ⟨k, rfl⟩ : ∃ k : Nat, i = k := ⟨i.toNat, by omega⟩
      have hk : k < l_0.length := by omega
      rw [idx_at hk, wrap64 (n := 10 - (k : Int)) (by omega) (by omega)]
      simp only [Option.bind_some]
      obtain ⟨x, hx, hid, hxl⟩ := few16_tot (p := ⟨10 - (k : Int), l_0[k]⟩) (h0.2 _ (List.getElem_mem hk)).1
      rw [hx]
      simp only [Option.bind_some]
      simp only at hid
      have hno : hasI p x.ID = false := hasI_none fun y hy => by have := g5 y hy; omega
      rw [pins_Put_eq g3 (by omega), if_neg (by omega), hno]
      simp only [Bool.false_eq_true, if_false]
      rw [if_neg (by omega)]
      simp only [Option.bind_some, decide_true, Bool.not_true, Bool.false_eq_true, if_false]
      have hfl := flatP_ins_len x p
      have hil := insI_length x p
      rw [wrap64 (n := (k : Int) + 1) (by omega) (by omega)]
      refine hag _ ⟨by simp only; omega, by simp only; omega, insI_sorted g3 fun y hy => by have := g5 y hy; omega, by simp only; omega, fun y hy => ?_, by simp only; omega⟩ (by simp only; omega)
      rcases insI_mem.1 hy with rfl | hy
      · simp only; omega
      · have := g5 y hy; simp only; omega
    · rw [decide_eq_false c2]; exact keys_end key_1 (p := p) (by omega)
  · rw [if_neg (by simpa using c1)]; exact keys_end key_1 (p := p) (by omega)
end Go.Ark
