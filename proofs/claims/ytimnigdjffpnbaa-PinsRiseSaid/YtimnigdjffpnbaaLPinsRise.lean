/- The plain law of PinsRise: pins rise, and are at most 8; what was put is got, what was dropped is not. Conditions: none but those that stand in each law. -/
import Derived.Test.YtimnigdjffpnbaaPlaw16
namespace Go.Ark
open Go Go.Ab Go.RowKit

/-- what is known of pins that were put -/
def PinI (p : List Api_Pin) : Prop := sortedI p ∧ (∀ x, x ∈ p → 1 ≤ x.ID) ∧ p.length ≤ 8

theorem PinI_drop {p : List Api_Pin} (h : PinI p) (id : Int) : PinI (dropI p id) :=
  ⟨h.1.filter _, fun x hx => h.2.1 x (List.mem_filter.1 hx).1, Nat.le_trans (List.length_filter_le _ _) h.2.2⟩
theorem PinI_ins {p : List Api_Pin} (h : PinI p) {v : Api_Pin} (h1 : 1 ≤ v.ID) (h2 : hasI p v.ID = false) (h3 : p.length < 8) : PinI (insI v p) :=
  ⟨insI_sorted h.1 (hasI_false h2), fun x hx => (insI_mem.1 hx).elim (fun e => by rw [e]; exact h1) (h.2.1 x), by rw [insI_length]; omega⟩
theorem has_drop (p : List Api_Pin) (id : Int) : hasI (dropI p id) id = false := hasI_none fun x hx => by simpa using (List.mem_filter.1 hx).2
theorem has_ins (v : Api_Pin) (p : List Api_Pin) : hasI (insI v p) v.ID = true := hasI_true (insI_mem.2 (.inl rfl))

theorem rise_k5 {again : List Api_Pin × Int → Option Bool} {v : List Api_Pin × Int} {q : List Api_Pin} (hq : PinI q) (h : again (q, IntKind.wrap .i64 (v.2 + 1)) = some true) : law16_PinsRise_k5 again v q = some true := by
  unfold law16_PinsRise_k5
  have h8 := hq.2.2
  refine loopF_inv (fun (i : Int) => 0 ≤ i ∧ i ≤ (q.length : Int)) (fun i => ((q.length : Int) - i).toNat) (fun _ => some true) ?_ FU 0 ⟨Int.le_refl _, by omega⟩ (by have := FU_big; omega)
  rintro again2 i' ⟨g1, g2⟩ hag
  obtain ⟨i, rfl⟩ : ∃ i : Nat, i' = i := ⟨i'.toNat, by omega⟩
  unfold law16_PinsRise_l7
  by_cases c : (i : Int) < (q.length : Int)
  · have hi : i < q.length := by omega
    have h1 := hq.2.1 q[i] (List.getElem_mem hi)
    have hgo : again2 ((i : Int) + 1) = some true := hag _ ⟨by omega, by omega⟩ (by omega)
    rw [if_pos (by simpa using c)]
    by_cases c2 : (0 : Int) < (i : Int)
    · rw [if_pos (by simpa using c2), wrap64 (n := (i : Int) - 1) (by omega) (by omega), show (i : Int) - 1 = ((i - 1 : Nat) : Int) by omega, idx_at (show i - 1 < q.length by omega), idx_at hi]
      simp only [Option.bind_some]
      have h2 := sortedI_lt hq.1 (show i - 1 < i by omega) hi
      rw [if_neg (by rw [decide_eq_true_eq]; omega), if_neg (by rw [decide_eq_true_eq]; omega), wrap64 (by omega) (by omega)]
      exact hgo
    · rw [if_neg (by simpa using c2), idx_at hi]
      simp only [Option.bind_some]
      rw [if_neg (by rw [decide_eq_true_eq]; omega), wrap64 (by omega) (by omega)]
      exact hgo
  · rw [if_neg (by simpa using c)]
    unfold law16_PinsRise_k6 law16_PinsRise_k4
    rw [if_neg (by rw [decide_eq_true_eq]; omega)]
    exact h

theorem law16_PinsRise_plain (l_0 : (List Int)) (_h0 : l_0.length ≤ reachBytes ∧ ∀ x, x ∈ l_0 → (Lit.int .i64 x).wf = true) : law16_PinsRise l_0 = some true := by
  unfold law16_PinsRise
  rw [law16_awake_eq]
  simp only [Option.bind_some]
  refine loopF_inv (fun (v : List Api_Pin × Int) => 0 ≤ v.2 ∧ v.2 ≤ 40 ∧ PinI v.1) (fun v => (40 - v.2).toNat) (fun _ => some true) ?_ FU ([], 0) ⟨Int.le_refl _, by simp, List.Pairwise.nil, fun x h => by simp at h, by simp⟩ (by have := FU_big; simp only; omega)
  rintro again ⟨p, i⟩ ⟨g1, g2, g3⟩ hag
  simp only at g1 g2 g3
  have h8 := g3.2.2
  unfold law16_PinsRise_l2 law16_PinsRise_k3 law16_PinsRise_k1
  simp only
  by_cases c : i < (l_0.length : Int)
  · rw [if_pos (by simpa using c)]
    by_cases c2 : i < 40
    · rw [if_pos (by simpa using c2), idx_int g1 c]
      simp only [Option.bind_some]
      generalize l_0[i.toNat]'(by omega) = x
      have b1 := Int.lt_tmod_of_pos x (b := 20) (by decide)
      have b2 := Int.tmod_lt_of_pos x (b := 20) (by decide)
      rw [wrap64 (n := Int.tmod x 20 - 5) (by omega) (by omega)]
      obtain ⟨n, hn⟩ : ∃ n, n = Int.tmod x 20 - 5 := ⟨_, rfl⟩
      rw [← hn]
      have hn1 : -25 < n ∧ n < 15 := by omega
      have hgo : ∀ q, PinI q → law16_PinsRise_k5 again (p, i) q = some true := fun q hq => rise_k5 hq (by
        simp only
        rw [wrap64 (by omega) (by omega)]
        exact hag _ ⟨by simp only; omega, by simp only; omega, hq⟩ (by simp only; omega))
      by_cases c3 : n < 0
      · rw [if_pos (by simpa using c3), wrap64 (n := 0 - n) (by omega) (by omega)]
        rw [pins_Drop_eq g3.1 (by omega)]
        obtain ⟨y, hy, _⟩ := pins_Get_eq g3.1 (by omega) (0 - n)
        rw [hy]
        simp only [Option.bind_some]
        cases hh : hasI p (0 - n) with
        | false => simpa using hgo p g3
        | true =>
          have hd := PinI_drop g3 (0 - n)
          have hdl := hd.2.2
          simp only [if_true, decide_true, beq_self_eq_true, Bool.not_true, Bool.false_eq_true, if_false]
          obtain ⟨z, hz, _⟩ := pins_Get_eq hd.1 (by omega) (0 - n)
          rw [hz, has_drop]
          simp only [Option.bind_some, Bool.false_eq_true, if_false]
          exact hgo _ hd
      · rw [if_neg (by simpa using c3), pins_Put_eq g3.1 (by omega)]
        obtain ⟨y, hy, _⟩ := pins_Get_eq g3.1 (by omega) n
        rw [hy]
        simp only [Option.bind_some]
        by_cases c4 : n < 1
        · rw [if_pos c4]
          have : n = 0 := by omega
          subst this
          simp only [decide_eq_false (show ¬ (1 : Int) = 0 by decide), Bool.false_eq_true, if_false, decide_true, if_true]
          unfold law16_PinsRise_k8 law16_PinsRise_k9
          simpa using hgo p g3
        · rw [if_neg c4]
          have hn0 : n ≠ 0 := by omega
          cases hh : hasI p n with
          | true =>
            simp only [if_true, decide_eq_false (show ¬ (13 : Int) = 0 by decide), Bool.false_eq_true, if_false, decide_eq_false hn0]
            unfold law16_PinsRise_k8
            simp only [Bool.false_eq_true, if_false, if_true, decide_true]
            unfold law16_PinsRise_k9
            simpa using hgo p g3
          | false =>
            simp only [Bool.false_eq_true, if_false]
            by_cases c5 : 8 ≤ p.length
            · rw [if_pos c5]
              simp only [decide_eq_false (show ¬ (15 : Int) = 0 by decide), Bool.false_eq_true, if_false, decide_eq_false hn0]
              unfold law16_PinsRise_k8
              simp only [Bool.false_eq_true, if_false]
              unfold law16_PinsRise_k9
              simp only [Bool.false_eq_true, if_false]
              rw [if_pos (decide_eq_true (by omega))]
              simpa using hgo p g3
            · rw [if_neg c5]
              have hi := PinI_ins g3 (v := ⟨n, []⟩) (by simp only; omega) hh (by omega)
              have hil := hi.2.2
              simp only [decide_true, if_true]
              obtain ⟨z, hz, _⟩ := pins_Get_eq hi.1 (by omega) n
              have hin : hasI (insI ⟨n, []⟩ p) n = true := has_ins ⟨n, []⟩ p
              rw [hz, hin]
              simp only [Option.bind_some, Bool.not_true, Bool.false_eq_true, if_false]
              exact hgo _ hi
    · rw [if_neg (by simpa using c2)]
  · rw [if_neg (by simpa using c), if_neg (by simp)]
end Go.Ark
