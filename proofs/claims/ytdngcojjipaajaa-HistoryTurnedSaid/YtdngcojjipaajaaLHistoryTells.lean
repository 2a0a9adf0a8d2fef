/- The plain law of HistoryTells: rows are told, and found right or not, as the document says. Conditions: none but those that stand in each law. -/
import Derived.Test.YtdngcojjipaajaaPlaw20
import Derived.Test.YtdngcojjipaajaaPtells20
namespace Go.Ark
open Go Go.Ab Go.RowKit

theorem law20_short_tot (s : ByteArray) : ∃ t, law20_short s = some t ∧ t.size ≤ 12 := by
  unfold law20_short
  by_cases c : (12 : Int) < (s.size : Int)
  · rw [if_pos (by simpa using c)]
    have hsub : ssub s 0 12 = some (s.extract 0 12) := by
      simp only [ssub]; rw [if_pos ⟨by omega, by omega, by omega⟩]; rfl
    rw [hsub]
    exact ⟨_, rfl, by rw [ByteArray.size_extract]; omega⟩
  · rw [if_neg (by simpa using c)]
    exact ⟨_, rfl, by omega⟩

end Go.Ark
