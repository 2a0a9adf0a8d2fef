/- Plain laws: stamps. Conditions: none but those that stand in each law. -/
import Derived.Test.YtdngcojjipaajaaP0
import Derived.Test.YtdngcojjipaajaaFstamp
import Derived.Test.YtdngcojjipaajaaFref03
namespace Go.Ark
open Go Go.Ab Go.RowKit

def lessP (a b : Api_Stamp) : Bool := decide (a.N < b.N) || (decide (a.N = b.N) && decide (a.Site < b.Site))

theorem ref03_Less_eq (a b : Api_Stamp) : ref03_Less a b = some (lessP a b) := by
  unfold ref03_Less lessP
  by_cases h : a.N = b.N <;> simp [h]

theorem stamp_Less_eq (a b : Api_Stamp) : stamp_Less a b = some (lessP a b) := by
  unfold stamp_Less lessP
  by_cases h : a.N = b.N
  · by_cases h2 : a.Site = b.Site
    · simp [h, h2]
    · by_cases h3 : a.Site < b.Site
      · simp [h, h2, h3]; omega
      · simp [h, h2, h3]; omega
  · by_cases h3 : a.N < b.N
    · simp [h, h3]
    · simp [h, h3]

def okStamp (s : Api_Stamp) : Bool := decide (1 ≤ s.N) && (decide (s.N ≤ 1099511627776) && (decide (0 ≤ s.Site) && decide (s.Site < 6)))
theorem ref03_Check_eq (s : Api_Stamp) : ref03_Check s = some (okStamp s) := by
  unfold ref03_Check ref03_Check_k1 ref03_Check_k2 okStamp
  by_cases h1 : 1 ≤ s.N <;> by_cases h2 : s.N ≤ 1099511627776 <;> by_cases h3 : 0 ≤ s.Site <;> simp [h1, h2, h3]

theorem stamp_Check_eq (s : Api_Stamp) : stamp_Check s = some (okStamp s) := by
  unfold stamp_Check stamp_Check_k1 stamp_Check_k2 okStamp
  by_cases h1 : 1 ≤ s.N <;> by_cases h2 : s.N ≤ 1099511627776 <;> by_cases h3 : 0 ≤ s.Site <;> simp [h1, h2, h3]

theorem lessP_iff {a b : Api_Stamp} : lessP a b = true ↔ a.N < b.N ∨ a.N = b.N ∧ a.Site < b.Site := by simp [lessP]
theorem lessP_irrefl (a : Api_Stamp) : lessP a a = false := by simp [lessP]
theorem lessP_asymm {a b : Api_Stamp} (h1 : lessP a b = true) : lessP b a = false := by
  cases h : lessP b a with
  | false => rfl
  | true => rw [lessP_iff] at *; omega
/-- not greater -/
def leS (a b : Api_Stamp) : Prop := lessP b a = false
theorem leS_refl (a : Api_Stamp) : leS a a := lessP_irrefl a
theorem leS_trans {a b c : Api_Stamp} (h1 : leS a b) (h2 : leS b c) : leS a c := by
  unfold leS at *
  cases h : lessP c a with
  | false => rfl
  | true =>
    have h3 : ¬ (lessP b a = true) := by simp [h1]
    have h4 : ¬ (lessP c b = true) := by simp [h2]
    rw [lessP_iff] at *; omega
theorem leS_of_less {a b : Api_Stamp} (h : lessP a b = true) : leS a b := lessP_asymm h
/-- the greater one -/
def maxS (a b : Api_Stamp) : Api_Stamp := if lessP a b then b else a
theorem le_maxS_left (a b : Api_Stamp) : leS a (maxS a b) := by
  unfold maxS; split
  · exact leS_of_less (by assumption)
  · exact leS_refl a
theorem le_maxS_right (a b : Api_Stamp) : leS b (maxS a b) := by
  unfold maxS; split
  · exact leS_refl b
  · rename_i h; simpa [leS] using h
theorem zero_leS {s : Api_Stamp} (h : okStamp s = true) : lessP ⟨0, 0⟩ s = true := by
  simp only [okStamp, Bool.and_eq_true, decide_eq_true_eq] at h
  rw [lessP_iff]; exact .inl (by simp only; omega)
end Go.Ark
