/- Plain law: rows that may be are the same as themselves. Conditions: none but those that stand in each law. -/
import Derived.Test.YtjidbmelmcmmhabPspec06
import Derived.Test.YtjidbmelmcmmhabPlaw06
namespace Go.Ark
open Go Go.Ab Go.RowKit

theorem law06_same_self {c : Api_Row} (h1 : c.Ranges.length ≤ 1000) (h3 : c.Parents.length ≤ 1000) : law06_same c c = some true := by
  have hk2 : law06_same_k2 c c () = some true := by
    unfold law06_same_k2
    refine loopF_inv (fun (v : Int) => 0 ≤ v) (fun v => ((c.Parents.length : Int) - v).toNat) (fun _ => some true) ?_ FU 0 (Int.le_refl _) (by have := FU_big; omega)
    rintro again v g1 hag
    unfold law06_same_l4
    by_cases c1 : v < (c.Parents.length : Int)
    · rw [if_pos (by simpa using c1), idx_int g1 c1, Option.bind_some, Option.bind_some, if_neg (by simp), wrap64 (by omega) (by omega)]
      exact hag _ (by omega) (by omega)
    · rw [if_neg (by simpa using c1)]
      rfl
  unfold law06_same law06_same_k6
  rw [if_neg (by simp), if_neg (by simp)]
  unfold law06_same_k1
  rw [if_neg (by simp)]
  refine loopF_inv (fun (v : Int) => 0 ≤ v) (fun v => ((c.Ranges.length : Int) - v).toNat) (fun _ => some true) ?_ FU 0 (Int.le_refl _) (by have := FU_big; omega)
  rintro again v g1 hag
  unfold law06_same_l5
  by_cases c1 : v < (c.Ranges.length : Int)
  · rw [if_pos (by simpa using c1), idx_int g1 c1, Option.bind_some, Option.bind_some, if_neg (by simp), wrap64 (by omega) (by omega)]
    by_cases c2 : v < (c.Owners.length : Int)
    · rw [if_pos (by simpa using c2), idx_int g1 c2, Option.bind_some, Option.bind_some, if_neg (by simp)]
      exact hag _ (by omega) (by omega)
    · rw [if_neg (by simpa using c2)]
      exact hag _ (by omega) (by omega)
  · rw [if_neg (by simpa using c1)]
    exact hk2
theorem law06_same_eq {c : Api_Row} (h : okRow c = true) : law06_same c c = some true := by
  obtain ⟨⟨h1, h2, h3, h4⟩, -⟩ := okRow_iff.1 h
  exact law06_same_self (by omega) (by omega)
end Go.Ark
