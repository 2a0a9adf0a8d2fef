/- Plain laws: what chapter 4's laws make. Conditions: none but those that stand in each law. -/
import Derived.Test.YtedpjlinmkingaaPpast2
import Derived.Test.YtedpjlinmkingaaFlaw04
namespace Go.Ark
open Go Go.Ab Go.RowKit

theorem law04_awake_eq : law04_awake = some true := by decide +kernel

/-- what is known of a past that was made -/
def PI (p : List Api_Dep) : Prop := sortedP p ∧ (∀ d, d ∈ p → okDep d = true) ∧ ∀ d, d ∈ p → d.Key.size ≤ 20

theorem PI_add {p : List Api_Dep} (h : PI p) {d : Api_Dep} (hk : d.Key.size ≤ 20) : PI (addP p d) :=
  ⟨addP_sorted h.1, addP_ok h.2.1 d, fun x hx => (addP_mem hx).elim (fun e => by rw [e]; exact hk) (h.2.2 x)⟩

theorem law04_made_tot (l : List Api_Dep) : ∃ p, law04_made l = some p ∧ PI p ∧ p.length ≤ 12 := by
  unfold law04_made
  refine loopF_tot (fun (v : List Api_Dep × Int) => 0 ≤ v.2 ∧ v.2 ≤ 12 ∧ PI v.1 ∧ (v.1.length : Int) ≤ v.2) (fun v => (12 - v.2).toNat) (fun p => PI p ∧ p.length ≤ 12) ?_ FU ([], 0) ⟨Int.le_refl _, by simp, ⟨List.Pairwise.nil, fun v h => by simp at h, fun v h => by simp at h⟩, by simp⟩ (by have := FU_big; simp only; omega)
  rintro again ⟨c, i⟩ ⟨h1, h2, h3, h4⟩ hag
  simp only at h1 h2 h3 h4
  unfold law04_made_l2 law04_made_k3 law04_made_k1
  simp only
  have hend : ∃ r, some c = some r ∧ PI r ∧ r.length ≤ 12 := ⟨c, rfl, h3, by omega⟩
  by_cases c1 : i < (l.length : Int)
  · rw [if_pos (by simpa using c1)]
    by_cases c2 : i < 12
    · rw [if_pos (by simpa using c2), idx_int h1 c1]
      simp only [Option.bind_some]
      generalize l[i.toNat]'(by omega) = d
      have hk4 : ∀ k : ByteArray, k.size ≤ 20 → ∃ r, law04_made_k4 again (c, i) d k = some r ∧ PI r ∧ r.length ≤ 12 := fun k hk => by
        unfold law04_made_k4
        simp only
        rw [ref04_Add_eq (by omega) (by simp only; omega), wrap64 (n := i + 1) (by omega) (by omega)]
        simp only [Option.bind_some]
        have := addP_length c ⟨k, d.Stamp⟩
        exact hag _ ⟨by simp only; omega, by simp only; omega, PI_add h3 hk, by simp only; omega⟩ (by simp only; omega)
      by_cases c3 : (20 : Int) < (d.Key.size : Int)
      · rw [if_pos (by simpa using c3)]
        have hsub : ssub d.Key 0 20 = some (d.Key.extract 0 20) := by
          simp only [ssub]; rw [if_pos ⟨by omega, by omega, by omega⟩]; rfl
        rw [hsub]
        simp only [Option.bind_some]
        exact hk4 _ (by rw [ByteArray.size_extract]; omega)
      · rw [if_neg (by simpa using c3)]
        exact hk4 _ (by omega)
    · rw [if_neg (by simpa using c2)]; exact hend
  · rw [if_neg (by simpa using c1), if_neg (by simp)]; exact hend
end Go.Ark
