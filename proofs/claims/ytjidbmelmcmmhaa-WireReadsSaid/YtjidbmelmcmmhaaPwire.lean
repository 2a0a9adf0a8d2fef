/- Plain laws: versions that may be, and that are compared. Conditions: none but those that stand in each law. -/
import Derived.Test.YtjidbmelmcmmhaaPpast
import Derived.Test.YtjidbmelmcmmhaaFwire
import Derived.Test.YtjidbmelmcmmhaaFref06
import Derived.Test.YtjidbmelmcmmhaaFref12
namespace Go.Ark
open Go Go.Ab Go.RowKit

def okVersion (v : Api_Version) : Bool := okKey v.Key && (okStamp v.Stamp && (okPast v.Past && (decide (v.Value.size ≤ 32) && (!v.Gone || decide (v.Value = ByteArray.empty)))))

/-- sizes that no key or past passes -/
def smallV (v : Api_Version) : Prop := v.Key.size ≤ 9223372036854775807 ∧ v.Past.length ≤ 140737488355328 ∧ ∀ d, d ∈ v.Past → d.Key.size ≤ 9223372036854775807

theorem wire_Check_eq {v : Api_Version} (h : smallV v) : wire_Check v = some (okVersion v) := by
  unfold wire_Check wire_Check_k1 wire_Check_k2 wire_Check_k3 okVersion
  simp only [keys_Check_eq h.1, stamp_Check_eq, past_Check_eq h.2.1 h.2.2]
  have : ((v.Value.size : Int) ≤ 32) ↔ v.Value.size ≤ 32 := by omega
  simp only [Option.bind_some, seq_eq, this]
  cases okKey v.Key <;> cases okStamp v.Stamp <;> cases okPast v.Past <;> cases v.Gone <;> by_cases h : v.Value.size ≤ 32 <;> simp [h]

theorem ref06_Check_eq {v : Api_Version} (h : smallV v) : ref06_Check v = some (okVersion v) := by
  unfold ref06_Check ref06_Check_k1 ref06_Check_k2 ref06_Check_k3 okVersion
  rw [ref02_Check_eq h.1, ref03_Check_eq, ref04_Check_eq h.2.1 h.2.2]
  have : ((v.Value.size : Int) ≤ 32) ↔ v.Value.size ≤ 32 := by omega
  simp only [Option.bind_some, seq_eq, this]
  cases okKey v.Key <;> cases okStamp v.Stamp <;> cases okPast v.Past <;> cases v.Gone <;> by_cases h : v.Value.size ≤ 32 <;> simp [h]

theorem versionEq (a b : Api_Version) : decide (a = b) = (decide (a.Key = b.Key) && (decide (a.Value = b.Value) && ((a.Gone == b.Gone) && (decide (a.Stamp = b.Stamp) && decide (a.Past = b.Past))))) := by
  cases a; cases b
  simp only [Api_Version.mk.injEq, Bool.decide_and]
  congr 3

theorem ref06_Same_eq {a b : Api_Version} (h : a.Past.length ≤ 140737488355328) : ref06_Same a b = some (decide (a = b)) := by
  unfold ref06_Same ref06_Same_k1 ref06_Same_k2 ref06_Same_k3
  rw [ref04_Same_eq h, versionEq]
  simp only [Option.bind_some, seq_eq, stampEq]
  cases decide (a.Past = b.Past) <;> cases decide (a.Key = b.Key) <;> cases decide (a.Value = b.Value) <;> cases (a.Gone == b.Gone) <;> simp

theorem ref12_Same_eq {p q : List Api_Version} (hp : p.length ≤ 140737488355328) (hpast : ∀ v, v ∈ p → v.Past.length ≤ 140737488355328) : ref12_Same p q = some (decide (p = q)) := by
  unfold ref12_Same
  by_cases hl : p.length = q.length
  · rw [if_neg (by simp [hl])]
    refine loopF_inv (fun (v : Int) => 0 ≤ v ∧ v ≤ (p.length : Int) ∧ ∀ j (h1 : j < p.length) (h2 : j < q.length), (j : Int) < v → p[j] = q[j]) (fun v => ((p.length : Int) - v).toNat) (fun _ => some (decide (p = q))) ?_ FU 0 ⟨Int.le_refl _, by omega, fun j _ _ h => by omega⟩ (by have := FU_big; omega)
    rintro again v ⟨h1, h2, h3⟩ hag
    unfold ref12_Same_l2
    by_cases c : v < (p.length : Int)
    · obtain ⟨i, rfl⟩ : ∃ i : Nat, v = i := ⟨v.toNat, by omega⟩
      have hi : i < p.length := by omega
      have hi2 : i < q.length := by omega
      rw [if_pos (by simpa using c), idx_at hi, idx_at hi2]
      simp only [Option.bind_some, ref06_Same_eq (hpast _ (List.getElem_mem hi))]
      by_cases hd : p[i] = q[i]
      · rw [if_neg (by simp [hd]), wrap64 (by omega) (by omega)]
        refine hag _ ⟨by omega, by omega, fun j h4 h5 h6 => ?_⟩ (by omega)
        by_cases hji : j = i
        · subst hji; exact hd
        · exact h3 j h4 h5 (by omega)
      · rw [if_pos (by simp [hd]), decide_eq_false fun e => hd (by subst e; rfl)]
    · rw [if_neg (by simpa using c)]
      unfold ref12_Same_k1
      rw [decide_eq_true (List.ext_getElem hl fun j h4 h5 => h3 j h4 h5 (by omega))]
  · rw [if_pos (by simp; omega), decide_eq_false fun e => hl (by rw [e])]
end Go.Ark
