/- The plain law of PastReads: any bytes are read as a past, or not, as the document says. Conditions: none but those that stand in each law. -/
import Derived.Test.YtedpjlinmkingaaPturn
import Derived.Test.YtedpjlinmkingaaPlaw04
namespace Go.Ark
open Go Go.Ab Go.RowKit

theorem past_Read_neg (s : ByteArray) {a : Int} (h : a < 0) : past_Read s a = some ([], 0, false) := by
  unfold past_Read vary_Read vary_Read_k1
  rw [if_pos (decide_eq_true h)]
  rfl
theorem ref04_Read_neg (s : ByteArray) {a : Int} (h : a < 0) : ref04_Read s a = some ⟨[], 0⟩ := by
  unfold ref04_Read
  rw [ref01_Read_neg s h]
  rfl
theorem past_same (s : ByteArray) (a : Int) (hs : s.size ≤ 1000000000) (ha : a ≤ 9223372036854775807) : law04_PastReads_k2 true (s, a) = some true := by
  unfold law04_PastReads_k2
  simp only
  by_cases c : a < 0
  · rw [past_Read_neg s c, ref04_Read_neg s c]
    simp only [Option.bind_some]
    rw [ref04_Same_eq (by simp)]
    rfl
  · obtain ⟨n, rfl⟩ : ∃ n : Nat, a = n := ⟨a.toNat, by omega⟩
    rw [past_Read_eq s n (by omega), ref04_Read_eq s n (by omega) (by omega)]
    simp only [Option.bind_some]
    cases h : rdP ((bl s).drop n) with
    | none =>
      simp only [resP, resPG]
      rw [ref04_Same_eq (by simp)]
      rfl
    | some x =>
      obtain ⟨p, k⟩ := x
      have hk := rdP_len h
      have hp := okPast_iff.1 hk.2.2
      simp only [resP, resPG]
      rw [ref04_Same_eq (by omega)]
      simp only [decide_true, Option.bind_some, if_true]
      unfold law04_PastReads_k3 law04_PastReads_k4
      simp only [if_true, decide_true]
      rw [decide_eq_true (by omega)]
      rfl

theorem law04_PastReads_plain (l_0 : (List Api_Dep)) (s_1 : ByteArray) (q_2 : (List Int)) (_h0 : l_0.length ≤ reachBytes ∧ ∀ x, x ∈ l_0 → wfApi_Dep x) (_h1 : s_1.size ≤ reachBytes) (h2 : q_2.length = 3 ∧ ∀ x, x ∈ q_2 → (Lit.int .i64 x).wf = true) : law04_PastReads l_0 s_1 q_2 = some true := by
  obtain ⟨a, b, c, rfl, ha⟩ := three h2
  obtain ⟨p, hp, ⟨p1, p2, p3⟩, p4⟩ := law04_made_tot l_0
  have hok : okPast p = true := okPast_iff.2 ⟨p2, p1, by omega⟩
  have hL : (pastL p).length ≤ 11 + 1033 * p.length := (pastL_len2 fun d hd => by have := p3 d hd; omega).2
  have hk5 : ∀ (y2 r y : ByteArray), y2.size ≤ 60 → r.size ≤ 20000 → y.size = r.size → law04_PastReads_k5 true y2 r y = some true := by
    intro y2 r y h1 h2 h3
    unfold law04_PastReads_k5
    rw [chk_if (decide_eq_true h3.symm), scat_L (by omega), Option.bind_some]
    exact past_same _ 0 (by rw [ByteArray.size_append]; omega) (by omega)
  have hk1 : ∀ y2 : ByteArray, y2.size ≤ 60 → law04_PastReads_k1 l_0 [a, b, c] true y2 = some true := by
    intro y2 hy
    unfold law04_PastReads_k1
    rw [show aidx 3 [a, b, c] 0 = some a from rfl, show aidx 3 [a, b, c] 1 = some b from rfl, show aidx 3 [a, b, c] 2 = some c from rfl]
    simp only [Option.bind_some]
    split
    · rw [hp]
      simp only [Option.bind_some]
      rw [ref04_Bytes_eq (by omega) (fun d hd => by have := p3 d hd; omega)]
      simp only [Option.bind_some]
      have hs : (pastB p).size ≤ 20000 := by unfold pastB; rw [hok, if_pos rfl, ofL_size]; omega
      generalize pastB p = r at hs
      rw [chk_if (decide_eq_true (by omega))]
      by_cases c1 : 0 < r.size
      · have ht := turnedI c (m := (r.size : Int)) (by omega) (by omega)
        rw [if_pos (decide_eq_true (by omega)), chk_if (by rw [decide_eq_false (by omega)]; rfl), chk_if (by rw [decide_eq_false (by omega)]; rfl), chk_if (decide_eq_true ht), chk_if (decide_eq_true ht), chk_if (decide_eq_true (u8range _))]
        exact hk5 y2 r _ hy hs (bset_size _ _ _)
      · rw [if_neg (fun e => absurd (of_decide_eq_true e) (by omega))]
        exact hk5 y2 r r hy hs rfl
    · exact past_same _ a (by omega) ha.2
  unfold law04_PastReads
  rw [law04_awake_eq]
  simp only [Option.bind_some]
  by_cases c1 : 60 < s_1.size
  · rw [if_pos (decide_eq_true (by omega))]
    have hsub : ssub s_1 0 60 = some (s_1.extract 0 60) := by
      simp only [ssub]; rw [if_pos ⟨by omega, by omega, by omega⟩]; rfl
    rw [hsub, Option.bind_some]
    exact hk1 _ (by rw [ByteArray.size_extract]; omega)
  · rw [if_neg (fun e => absurd (of_decide_eq_true e) (by omega))]
    exact hk1 _ (by omega)
end Go.Ark
