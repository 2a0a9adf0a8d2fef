/- Plain laws: what is nearest. Conditions: none but those that stand in each law. -/
import Derived.Test.YtildciopogbhcaaPpast3
import Derived.Test.YtildciopogbhcaaFnearest
namespace Go.Ark
open Go Go.Ab Go.RowKit

/-- is it a dep's version? -/
def isP (v : Api_Version) (d : Api_Dep) : Bool := decide (v.Key = d.Key) && decide (v.Stamp = d.Stamp)
theorem nearest_is_eq (v : Api_Version) (d : Api_Dep) : nearest_is v d = some (isP v d) := by
  unfold nearest_is isP
  rw [seq_eq]
  by_cases h : v.Key = d.Key
  · rw [if_pos (by simpa using h), stampEq, decide_eq_true h]; rfl
  · rw [if_neg (by simpa using h), decide_eq_false h]; rfl

def noV : Api_Version := ⟨ByteArray.empty, ByteArray.empty, false, ⟨0, 0⟩, []⟩
/-- a dep's version -/
def findV (l : List Api_Version) (d : Api_Dep) : Api_Version × Bool := match l.find? fun v => isP v d with
  | some v => (v, true)
  | none => (noV, false)

theorem findV_some {l : List Api_Version} {d : Api_Dep} (h : (findV l d).2 = true) : (findV l d).1 ∈ l ∧ isP (findV l d).1 d = true := by
  unfold findV at h ⊢
  cases hf : l.find? fun v => isP v d with
  | none => rw [hf] at h; cases h
  | some v =>
    simp only
    exact ⟨List.mem_of_find?_eq_some hf, by have := List.find?_some hf; simpa using this⟩
theorem findV_none {l : List Api_Version} {d : Api_Dep} (h : (findV l d).2 = false) : (∀ v, v ∈ l → isP v d = false) ∧ findV l d = (noV, false) := by
  unfold findV at h ⊢
  cases hf : l.find? fun v => isP v d with
  | none => exact ⟨fun v hv => by have := List.find?_eq_none.1 hf v hv; simpa using this, rfl⟩
  | some v => rw [hf] at h; cases h

theorem nearest_Find_eq {l : List Api_Version} (hl : l.length ≤ 1000000) (d : Api_Dep) : nearest_Find l d = some (findV l d) := by
  unfold nearest_Find nearest_first_api_Version_
  rw [slices_IndexFunc_Version_eq (p := fun v => isP v d) (fun x _ => by unfold nearest_Find_1; rw [nearest_is_eq]; rfl) (by omega)]
  simp only [Option.bind_some]
  rcases fidx_cases (fun v : Api_Version => isP v d) l with ⟨i, hi, h1, h2, h3⟩ | ⟨h1, h2⟩
  · rw [h3, if_neg (by rw [decide_eq_true_eq]; omega), idx_at hi]
    simp only [Option.bind_some]
    have : l.find? (fun v => isP v d) = some l[i] := List.find?_eq_some_iff_getElem.2 ⟨h1, i, hi, rfl, fun j hj => by simpa using h2 j (by omega) hj⟩
    unfold findV
    rw [this]
  · rw [h2, if_pos (by decide)]
    simp only [Option.bind_some]
    have : l.find? (fun v => isP v d) = none := List.find?_eq_none.2 fun v hv => by simpa using h1 v hv
    unfold findV
    rw [this]
    rfl

/-- does a dep's version tell of another one? -/
def tellsP (l : List Api_Version) (by_ of_ : Api_Dep) : Bool := (findV l by_).2 && !lessP (getP (findV l by_).1.Past of_.Key) of_.Stamp
theorem nearest_tells_eq {l : List Api_Version} (hl : l.length ≤ 1000000) (hv : ∀ v, v ∈ l → sortedP v.Past ∧ v.Past.length ≤ 1000000) (by_ of_ : Api_Dep) : nearest_tells l by_ of_ = some (tellsP l by_ of_) := by
  unfold nearest_tells tellsP
  rw [nearest_Find_eq hl]
  simp only [Option.bind_some]
  cases h : (findV l by_).2 with
  | false => simp
  | true =>
    obtain ⟨h1, h2⟩ := hv _ (findV_some h).1
    simp only [if_true]
    rw [past_Get_eq h1 (by omega)]
    simp only [Option.bind_some, stamp_Less_eq, Bool.true_and]
end Go.Ark
