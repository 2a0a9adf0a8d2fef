/- The plain law of WireReads: any bytes are read as a version, or not, as the document says. Conditions: none but those that stand in each law. -/
import Derived.Test.YtjidbmelmcmmhaaPwread
namespace Go.Ark
open Go Go.Ab Go.RowKit

theorem wire_same (s : ByteArray) (hs : s.size ≤ 1000000000) : law06_WireReads_k2 true s = some true := by
  unfold law06_WireReads_k2
  rw [wire_Read_eq (by omega), ref06_Read_eq (by omega)]
  simp only [Option.bind_some]
  have hp : (resV s.size (rdV (bl s))).1.Past.length ≤ 140737488355328 := by
    cases h : rdV (bl s) with
    | none => exact Nat.zero_le _
    | some x =>
      obtain ⟨v, k⟩ := x
      rw [resV_some]
      split
      · rename_i c
        have := (okPast_iff.1 (okVersion_iff.1 c.2).2.2.1).2.2
        show v.Past.length ≤ _
        omega
      · exact Nat.zero_le _
  rw [ref06_Same_eq hp]
  simp [law06_WireReads_k3]

theorem law06_WireReads_plain (v_0 : Api_Version) (s_1 : ByteArray) (q_2 : (List Int)) (_h0 : wfApi_Version v_0) (_h1 : s_1.size ≤ reachBytes) (h2 : q_2.length = 3 ∧ ∀ x, x ∈ q_2 → (Lit.int .i64 x).wf = true) : law06_WireReads v_0 s_1 q_2 = some true := by
  obtain ⟨a, b, c, rfl, ha⟩ := three h2
  obtain ⟨v, hv, vi⟩ := law06_few_tot v_0
  have hk1 : ∀ y2 : ByteArray, y2.size ≤ 80 → law06_WireReads_k1 v_0 [a, b, c] true y2 = some true := by
    intro y2 hy
    unfold law06_WireReads_k1
    rw [show aidx 3 [a, b, c] 0 = some a from rfl, show aidx 3 [a, b, c] 1 = some b from rfl, show aidx 3 [a, b, c] 2 = some c from rfl]
    simp only [Option.bind_some]
    split
    · rw [hv, Option.bind_some, ref06_Bytes_eq vi.small, Option.bind_some]
      have hsz : (verB v).size ≤ 200000 := by
        unfold verB
        split
        · rw [ofL_size]; exact (verL_len vi.small).2
        · simp
      generalize verB v = r at hsz
      rw [chk_if (decide_eq_true (by omega))]
      by_cases c1 : 0 < r.size
      · have ht := turnedI b (m := (r.size : Int)) (by omega) (by omega)
        rw [if_pos (decide_eq_true (by omega)), chk_if (by rw [decide_eq_false (by omega)]; rfl), chk_if (by rw [decide_eq_false (by omega)]; rfl), chk_if (decide_eq_true ht), chk_if (decide_eq_true ht), chk_if (decide_eq_true (u8range _))]
        generalize Int.tmod (IntKind.wrap .i64 ((Int.tmod b (r.size : Int)) + (r.size : Int))) (r.size : Int) = k at ht
        generalize IntKind.wrap .u8 _ = x
        have hb := bset_size r k x
        generalize bset r k x = y at hb
        split
        · have hsub : ssub y 0 k = some (y.extract 0 k.toNat) := by
            simp only [ssub]; rw [if_pos ⟨by omega, by omega, by omega⟩]; rfl
          rw [hsub, Option.bind_some]
          exact wire_same _ (by rw [ByteArray.size_extract]; omega)
        · exact wire_same _ (by omega)
      · rw [if_neg (fun e => absurd (of_decide_eq_true e) (by omega))]
        exact wire_same _ (by omega)
    · exact wire_same _ (by omega)
  unfold law06_WireReads
  rw [law06_awake_eq]
  simp only [Option.bind_some]
  by_cases c1 : 80 < s_1.size
  · rw [if_pos (decide_eq_true (by omega))]
    have hsub : ssub s_1 0 80 = some (s_1.extract 0 80) := by
      simp only [ssub]; rw [if_pos ⟨by omega, by omega, by omega⟩]; rfl
    rw [hsub, Option.bind_some]
    exact hk1 _ (by rw [ByteArray.size_extract]; omega)
  · rw [if_neg (fun e => absurd (of_decide_eq_true e) (by omega))]
    exact hk1 _ (by omega)
end Go.Ark
