/- The plain law of ChainClean: behind cleaning the head is the same, what is pinned is there, and from stable on the same is told; cleaned again it is the same. Conditions: none but those that stand in each law. -/
import Derived.Test.YtjmleebbmomcgaaPchain2
namespace Go.Ark
open Go Go.Ab Go.RowKit

theorem law12_ChainClean_plain (l_0 : (List Api_Stamp)) (q_1 : Law12_Ask) (at_2 : Api_Stamp) (_h0 : l_0.length ≤ reachBytes ∧ ∀ x, x ∈ l_0 → wfApi_Stamp x) (h1 : wfLaw12_Ask q_1) (_h2 : wfApi_Stamp at_2) : law12_ChainClean l_0 q_1 at_2 = some true := by
  obtain ⟨c, hc, hI, hl⟩ := law12_made_tot l_0
  have hp := CI_past hI
  have hql : q_1.Pins.length ≤ 140737488351232 := Nat.le_trans h1.2.2.1 (by decide)
  unfold law12_ChainClean
  rw [law12_awake_eq, hc]
  simp only [Option.bind_some]
  have hk1 : ∀ pins : List Api_Stamp, pins.length ≤ 8 → law12_ChainClean_k1 q_1 at_2 true c pins = some true := by
    intro pins hpl
    unfold law12_ChainClean_k1
    have hId := CI_clean hI q_1.Stable pins
    have hld := clean_length c q_1.Stable pins
    have hpd := CI_past hId
    rw [chain_Clean_eq (by omega) hI.1 hp (by omega)]
    simp only [Option.bind_some]
    rw [chain_Head_eq (by omega), chain_Head_eq (by omega), clean_head]
    simp only [Option.bind_some]
    rw [ref06_Same_eq (lastP_pastlen hp)]
    simp only [Option.bind_some, decide_true]
    have hk3 : law12_ChainClean_k3 q_1 true c pins (cleanP c q_1.Stable pins) (lastP c) (lastP c) true () = some true := by
      unfold law12_ChainClean_k3
      rw [chain_Clean_eq (by omega) hId.1 hpd (by omega), clean_again]
      simp only [Option.bind_some]
      rw [ref12_Same_eq (by omega) (CI_pastlen hId)]
      simp only [Option.bind_some, decide_true]
      unfold law12_ChainClean_k4 law12_ChainClean_k5 law12_ChainClean_k6
      rw [chain_Check_eq (by omega) (CI_small hId), CI_check hId]
      simp; omega
    have hk2 : law12_ChainClean_k2 q_1 at_2 true c pins (cleanP c q_1.Stable pins) (lastP c) (lastP c) true () = some true := by
      unfold law12_ChainClean_k2
      rw [ref03_Less_eq]
      simp only [Option.bind_some]
      cases hl2 : lessP at_2 q_1.Stable with
      | true => simpa using hk3
      | false =>
        simp only [Bool.not_false, if_true]
        rw [chain_Below_eq (by omega) hI.1, chain_Below_eq (by omega) hId.1, clean_below pins hl2]
        simp only [Option.bind_some]
        have hbp : (belowP c at_2).1.Past.length ≤ 140737488355328 := lastP_pastlen fun v hv => hp v (List.mem_filter.1 hv).1
        rw [ref06_Same_eq hbp]
        simp [hk3]
    refine loopF_inv (fun (v : Int) => 0 ≤ v ∧ v ≤ (pins.length : Int)) (fun v => ((pins.length : Int) - v).toNat) (fun _ => some true) ?_ FU 0 ⟨Int.le_refl _, by omega⟩ (by have := FU_big; omega)
    rintro again v ⟨g1, g2⟩ hag
    obtain ⟨i, rfl⟩ : ∃ i : Nat, v = i := ⟨v.toNat, by omega⟩
    unfold law12_ChainClean_l7
    by_cases g : (i : Int) < (pins.length : Int)
    · have hi : i < pins.length := by omega
      rw [if_pos (by simpa using g), idx_at hi]
      simp only [Option.bind_some]
      rw [chain_At_eq (by omega) hI.1, chain_At_eq (by omega) hId.1, clean_at _ (List.getElem_mem hi)]
      simp only [Option.bind_some]
      have hap : (atP c pins[i]).1.Past.length ≤ 140737488355328 := lastP_pastlen fun v hv => hp v (List.mem_filter.1 hv).1
      rw [ref06_Same_eq hap, wrap64 (by omega) (by omega)]
      have hgo := hag ((i : Int) + 1) ⟨by omega, by omega⟩ (by omega)
      simp [hgo]
    · rw [if_neg (by simpa using g)]
      exact hk2
  by_cases g : 8 < (q_1.Pins.length : Int)
  · rw [if_pos (by simpa using g)]
    have hsub : sub q_1.Pins 0 8 = some (q_1.Pins.take 8) := by
      simp only [sub]; rw [if_pos ⟨by omega, by omega, by omega⟩]; rfl
    rw [hsub]
    exact hk1 _ (by rw [List.length_take]; omega)
  · rw [if_neg (by simpa using g)]
    exact hk1 _ (by omega)
end Go.Ark
