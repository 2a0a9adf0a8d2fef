/- The plain law of WireGone: a version that is gone has no value; one with more than 32 bytes may not be. Conditions: none but those that stand in each law. -/
import Derived.Test.YtjidbmelmcmmhaaPlaw06
namespace Go.Ark
open Go Go.Ab Go.RowKit

theorem bytesOf_size (l : List Int) : (bytesOf l).size = l.length := by simp [bytesOf, ByteArray.size]
theorem read_none : wire_Read ByteArray.empty = some (noVer, false) := by
  rw [wire_Read_eq (by simp)]
  rfl
theorem law06_WireGone_plain (n_0 : Int) (gone_1 : Bool) (_h0 : (Lit.int .i64 n_0).wf = true) (_h1 : True) : law06_WireGone n_0 gone_1 = some true := by
  have h1 : -41 < Int.tmod n_0 41 := Int.lt_tmod_of_pos _ (by decide)
  have h2 : Int.tmod n_0 41 < 41 := Int.tmod_lt_of_pos _ (by decide)
  have hw : IntKind.wrap .i64 (Int.tmod n_0 41 + 41) = Int.tmod n_0 41 + 41 := wrap64 (by omega) (by omega)
  unfold law06_WireGone law06_WireGone_k1
  rw [hw]
  have k0 : 0 ≤ Int.tmod (Int.tmod n_0 41 + 41) 41 := Int.tmod_nonneg _ (by omega)
  have k1 : Int.tmod (Int.tmod n_0 41 + 41) 41 < 41 := Int.tmod_lt_of_pos _ (by decide)
  generalize hkk : Int.tmod (Int.tmod n_0 41 + 41) 41 = k at k0 k1 ⊢
  generalize hv : (Api_Version.mk (ByteArray.mk #[107]) (bytesOf (List.replicate (Int.toNat k) (0 : Int))) gone_1 (Api_Stamp.mk 1 0) ([] : (List Api_Dep))) = v
  have hs : v.Value.size = k.toNat := by rw [← hv]; simp [bytesOf_size]
  have hg : v.Gone = gone_1 := by rw [← hv]
  have hsm : smallB v := by
    refine ⟨?_, by omega, ?_, ?_⟩ <;> rw [← hv] <;> simp
    decide
  have hok : okVersion v = (decide (k ≤ 32) && (!gone_1 || decide (k = 0))) := by
    rw [Bool.eq_iff_iff, okVersion_iff, hs, hg]
    have e1 : okKey v.Key = true := by rw [← hv]; exact (by decide +kernel : okKey (ByteArray.mk #[107]) = true)
    have e2 : okStamp v.Stamp = true := by rw [← hv]; exact (by decide +kernel : okStamp ⟨1, 0⟩ = true)
    have e3 : okPast v.Past = true := by rw [← hv]; exact (by decide +kernel : okPast [] = true)
    have e4 : v.Value = ByteArray.empty ↔ k = 0 := by
      rw [← ByteArray.size_eq_zero_iff, hs]; omega
    rw [e4]
    simp only [e1, e2, e3, true_and, Bool.and_eq_true, decide_eq_true_eq, Bool.or_eq_true, Bool.not_eq_true']
    cases gone_1 <;> simp <;> omega
  have hb := wire_Bytes_eq hsm
  have hc := wire_Check_eq hsm.small
  have hp : v.Past.length ≤ 140737488355328 := by rw [← hv]; simp
  have hr : wire_Read (verB v) = some (if okVersion v then v else noVer, okVersion v) := by
    unfold verB
    cases ok : okVersion v with
    | true => rw [if_pos rfl, if_pos rfl]; exact read_ver hsm ok
    | false => exact read_none
  have fin : ∀ y3 : Bool, y3 = okVersion v → ((wire_Bytes v).bind fun r4 => (wire_Read r4).bind fun r5 => if true = true then (wire_Check v).bind fun r16 => law06_WireGone_k2 n_0 gone_1 y3 r5 (r16 == y3) else law06_WireGone_k2 n_0 gone_1 y3 r5 false) = some true := by
    intro y3 hy
    rw [hb]
    simp only [Option.bind_some]
    rw [hr, hc, hy]
    simp only [Option.bind_some, if_true, beq_self_eq_true]
    unfold law06_WireGone_k2 law06_WireGone_k3
    simp only [if_true, beq_self_eq_true]
    cases ok : okVersion v with
    | false => rfl
    | true =>
      simp only [Bool.not_true, Bool.false_eq_true, if_false, if_true]
      rw [hw, hkk, hv, wire_Same_eq hp]
      simp [hg]
  rw [law06_awake_eq, Option.bind_some]
  show (if decide (0 ≤ k ∧ k ≤ 1048576) = true then _ else none) = _
  rw [if_pos (decide_eq_true ⟨by omega, by omega⟩)]
  by_cases c : k ≤ 32
  · rw [if_pos (decide_eq_true c)]
    cases gone_1 with
    | false => exact fin _ (by rw [hok]; simp [c])
    | true => exact fin _ (by rw [hok]; simp [c])
  · rw [if_neg (fun e => c (of_decide_eq_true e))]
    exact fin _ (by rw [hok]; simp [c])
end Go.Ark
