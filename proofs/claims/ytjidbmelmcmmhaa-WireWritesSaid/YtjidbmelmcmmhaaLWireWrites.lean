/- The plain law of WireWrites: versions are told, and written, as the document says. Conditions: none but those that stand in each law. -/
import Derived.Test.YtjidbmelmcmmhaaPlaw06
namespace Go.Ark
open Go Go.Ab Go.RowKit

theorem law06_WireWrites_plain (v_0 : Api_Version) (w_1 : Api_Version) (_h0 : wfApi_Version v_0) (_h1 : wfApi_Version w_1) : law06_WireWrites v_0 w_1 = some true := by
  obtain ⟨v, hv, vi⟩ := law06_few_tot v_0
  obtain ⟨w, hw, -⟩ := law06_few_tot w_1
  have hp : v.Past.length ≤ 140737488355328 := by have := vi.2.2.1; omega
  unfold law06_WireWrites
  rw [law06_awake_eq, hv, hw]
  simp only [Option.bind_some, if_true]
  rw [wire_Check_eq vi.small.small, ref06_Check_eq vi.small.small]
  simp only [Option.bind_some, beq_self_eq_true, if_true]
  rw [wire_Bytes_eq vi.small, ref06_Bytes_eq vi.small]
  simp only [Option.bind_some, seq_eq, decide_true, if_true]
  rw [wire_Same_eq hp, ref06_Same_eq hp, wire_Same_eq hp]
  simp
end Go.Ark
