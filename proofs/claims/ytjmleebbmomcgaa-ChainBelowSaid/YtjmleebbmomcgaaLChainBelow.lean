/- The plain law of ChainBelow: what is told at a stamp is not above it, and none that is not above it is later; at the head's own stamp it is the head. Conditions: none but those that stand in each law. -/
import Derived.Test.YtjmleebbmomcgaaPchain2
namespace Go.Ark
open Go Go.Ab Go.RowKit

theorem law12_ChainBelow_plain (l_0 : (List Api_Stamp)) (s_1 : Api_Stamp) (_h0 : l_0.length ≤ reachBytes ∧ ∀ x, x ∈ l_0 → wfApi_Stamp x) (_h1 : wfApi_Stamp s_1) : law12_ChainBelow l_0 s_1 = some true := by
  obtain ⟨c, hc, hI, hl⟩ := law12_made_tot l_0
  unfold law12_ChainBelow
  rw [law12_awake_eq, hc]
  simp only [Option.bind_some]
  rw [chain_Below_eq (by omega) hI.1]
  simp only [Option.bind_some]
  have hk2 : law12_ChainBelow_k2 true c (belowP c s_1) false = some true := by
    unfold law12_ChainBelow_k2
    simp only [Bool.false_eq_true, if_false]
    rw [chain_Head_eq (by omega)]
    simp only [Option.bind_some]
    cases hh : (lastP c).2 with
    | false =>
      have := lastP_none hh
      subst this
      simp [law12_ChainBelow_k3, belowP, lastP_nil]
    | true =>
      have hp := lastP_pair hh
      simp only [Bool.not_true, Bool.false_eq_true, if_false]
      rw [chain_Below_eq (by omega) hI.1]
      have hb : belowP c (lastP c).1.Stamp = lastP c := by
        unfold belowP
        rw [List.filter_eq_self.2 fun x hx => ?_]
        have : lessP (lastP c).1.Stamp x.Stamp = false := lastP_le hI.1 hp hx
        rw [this]; rfl
      rw [hb]
      simp only [Option.bind_some]
      rw [ref06_Same_eq (lastP_pastlen (CI_past hI))]
      simp [hh]
  have hk1 : law12_ChainBelow_k1 s_1 true c (belowP c s_1) () = some true := by
    unfold law12_ChainBelow_k1
    cases hb : (belowP c s_1).2 with
    | false => rw [if_neg (by simp)]; exact hk2
    | true =>
      rw [if_pos rfl, ref03_Less_eq]
      simp only [Option.bind_some]
      have hm := lastP_mem (lastP_pair hb)
      have := (List.mem_filter.1 hm).2
      rw [show lessP s_1 (belowP c s_1).1.Stamp = false by simpa [belowP] using this]
      exact hk2
  refine loopF_inv (fun (v : Int) => 0 ≤ v ∧ v ≤ (c.length : Int)) (fun v => ((c.length : Int) - v).toNat) (fun _ => some true) ?_ FU 0 ⟨Int.le_refl _, by omega⟩ (by have := FU_big; omega)
  rintro again v ⟨h1, h2⟩ hag
  obtain ⟨i, rfl⟩ : ∃ i : Nat, v = i := ⟨v.toNat, by omega⟩
  unfold law12_ChainBelow_l4
  by_cases g : (i : Int) < (c.length : Int)
  · have hi : i < c.length := by omega
    rw [if_pos (by simpa using g), idx_at hi]
    simp only [Option.bind_some, ref03_Less_eq]
    rw [wrap64 (by omega) (by omega)]
    have hgo := hag ((i : Int) + 1) ⟨by omega, by omega⟩ (by omega)
    cases hf : lessP s_1 c[i].Stamp with
    | true => simpa using hgo
    | false =>
      have hin : c[i] ∈ c.filter fun v => !lessP s_1 v.Stamp := List.mem_filter.2 ⟨List.getElem_mem hi, by simp [hf]⟩
      simp only [Bool.not_false, if_true]
      cases hb : (belowP c s_1).2 with
      | false =>
        have := lastP_none hb
        rw [this] at hin; simp at hin
      | true =>
        have hle : lessP (belowP c s_1).1.Stamp c[i].Stamp = false := lastP_le (sortedV_filter hI.1 _) (lastP_pair hb) hin
        simp only [Bool.not_true, Bool.false_eq_true, if_false, hle]
        exact hgo
  · rw [if_neg (by simpa using g)]
    exact hk1
end Go.Ark
