/- The plain law of WireParts: versions that differ in some part have other bytes. Conditions: none but those that stand in each law. -/
import Derived.Test.YtjidbmelmcmmhaaPlaw06
namespace Go.Ark
open Go Go.Ab Go.RowKit

theorem law06_WireParts_plain (v_0 : Api_Version) (w_1 : Api_Version) (_h0 : wfApi_Version v_0) (_h1 : wfApi_Version w_1) : law06_WireParts v_0 w_1 = some true := by
  obtain ⟨v, hv, vi⟩ := law06_few_tot v_0
  obtain ⟨w, hw, wi⟩ := law06_few_tot w_1
  have hp : v.Past.length ≤ 140737488355328 := by have := vi.2.2.1; omega
  unfold law06_WireParts
  rw [law06_awake_eq, hv, hw]
  simp only [Option.bind_some]
  rw [wire_Check_eq vi.small.small]
  simp only [Option.bind_some]
  cases okv : okVersion v with
  | false => rfl
  | true =>
    simp only [Bool.not_true, Bool.false_eq_true, if_false]
    rw [wire_Check_eq wi.small.small]
    simp only [Option.bind_some]
    cases okw : okVersion w with
    | false => rfl
    | true =>
      obtain ⟨a1, a2, a3, a4, a5⟩ := okVersion_iff.1 okv
      obtain ⟨b1, b2, b3, b4, b5⟩ := okVersion_iff.1 okw
      unfold law06_WireParts_k1
      simp only [Bool.not_true, Bool.false_eq_true, if_false, if_true]
      have sx : smallB ⟨v.Key, w.Value, w.Gone, v.Stamp, v.Past⟩ := ⟨vi.small.1, wi.small.2.1, vi.small.2.2⟩
      have sy : smallB ⟨v.Key, v.Value, v.Gone, w.Stamp, v.Past⟩ := ⟨vi.small.1, vi.small.2.1, vi.small.2.2⟩
      have okx : okVersion ⟨v.Key, w.Value, w.Gone, v.Stamp, v.Past⟩ = true := okVersion_iff.2 ⟨a1, a2, a3, b4, b5⟩
      have oky : okVersion ⟨v.Key, v.Value, v.Gone, w.Stamp, v.Past⟩ = true := okVersion_iff.2 ⟨a1, b2, a3, a4, a5⟩
      rw [wire_Same_eq hp, wire_Bytes_eq vi.small, wire_Bytes_eq wi.small, wire_Bytes_eq sx, wire_Bytes_eq sy]
      simp only [Option.bind_some]
      rw [verB_seq okv okw, verB_seq okx okv, verB_seq oky okv]
      have e1 : ∀ x y : Api_Version, (⟨x.Key, y.Value, y.Gone, x.Stamp, x.Past⟩ : Api_Version) = x ↔ x.Value = y.Value ∧ x.Gone = y.Gone := fun x y => by
        cases x; cases y
        simp only [Api_Version.mk.injEq, true_and, and_true]
        exact ⟨fun h => ⟨h.1.symm, h.2.symm⟩, fun h => ⟨h.1.symm, h.2.symm⟩⟩
      have e2 : ∀ x y : Api_Version, (⟨x.Key, x.Value, x.Gone, y.Stamp, x.Past⟩ : Api_Version) = x ↔ x.Stamp = y.Stamp := fun x y => by
        cases x; cases y
        simp only [Api_Version.mk.injEq, true_and, and_true]
        exact ⟨fun h => h.symm, fun h => h.symm⟩
      simp only [e1, e2, seq_eq, stampEq, beq_self_eq_true, if_true]
      by_cases c1 : v.Value = w.Value
      · cases v.Gone <;> cases w.Gone <;> simp [c1]
      · simp [c1]
end Go.Ark
