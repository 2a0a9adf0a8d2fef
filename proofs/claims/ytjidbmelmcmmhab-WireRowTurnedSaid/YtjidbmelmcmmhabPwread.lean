/- Plain laws: the document's reading of versions is the program's. Conditions: none but those that stand in each law. -/
import Derived.Test.YtjidbmelmcmmhabPturn
import Derived.Test.YtjidbmelmcmmhabPlaw06
namespace Go.Ark
open Go Go.Ab Go.RowKit

theorem rdT_sound {most : Nat} {l t : List UInt8} {k : Nat} (h : rdT most l = some (t, k)) : l.take k = textL (ofL t) := by
  unfold rdT at h
  cases hn : rdN l 0 0 with
  | none => rw [hn] at h; cases h
  | some y =>
    obtain ⟨n, j⟩ := y
    rw [hn] at h
    have hk := rdN_len hn
    obtain ⟨h1, h2⟩ := rdN_sound hn
    simp only at h
    split at h
    · rename_i c
      cases h
      have hl : ((l.drop j).take n).length = n := by rw [List.length_take, List.length_drop]; omega
      unfold textL
      rw [ofL_size, hl, bl_ofL, ← h1, List.take_add]
    · cases h
end Go.Ark
