/- The plain law of PastBack: what was written is read, wherever it stands. Conditions: none but those that stand in each law. -/
import Derived.Test.YtedpjlinmkingaaPbytes
import Derived.Test.YtedpjlinmkingaaPlaw04
namespace Go.Ark
open Go Go.Ab Go.RowKit

theorem ssub_six (a : ByteArray) (h : 6 < a.size) : ∃ t, ssub a 0 6 = some t ∧ t.size ≤ 6 := by
  refine ⟨a.extract 0 6, ?_, by rw [ByteArray.size_extract]; omega⟩
  simp only [ssub]; rw [if_pos ⟨by omega, by omega, by omega⟩]; rfl

theorem law04_PastBack_plain (l_0 : (List Api_Dep)) (a_1 : ByteArray) (b_2 : ByteArray) (_h0 : l_0.length ≤ reachBytes ∧ ∀ x, x ∈ l_0 → wfApi_Dep x) (_h1 : a_1.size ≤ reachBytes) (_h2 : b_2.size ≤ reachBytes) : law04_PastBack l_0 a_1 b_2 = some true := by
  obtain ⟨p, hp, ⟨h1, h2, h3⟩, h4⟩ := law04_made_tot l_0
  unfold law04_PastBack
  rw [law04_awake_eq, hp]
  simp only [Option.bind_some]
  have hok : okPast p = true := okPast_iff.2 ⟨h2, h1, by omega⟩
  have hL : (pastL p).length ≤ 11 + 1033 * 12 := by
    have e : ∀ q : List Api_Dep, (∀ d, d ∈ q → d.Key.size ≤ 20) → (q.flatMap depL).length ≤ 1033 * q.length := by
      intro q
      induction q with
      | nil => intro _; simp
      | cons d q ih =>
        intro hq
        have := ih fun x hx => hq x (by simp [hx])
        have := depL_len (d := d) (by have := hq d (by simp); omega)
        simp only [List.flatMap_cons, List.length_append, List.length_cons]
        omega
    have h5 := e p h3
    have h6 := (numL_len p.length).2
    simp only [pastL, List.length_append]
    have : 1033 * p.length ≤ 1033 * 12 := Nat.mul_le_mul_left _ h4
    omega
  have hk2 : ∀ a b : ByteArray, a.size ≤ 6 → b.size ≤ 6 → law04_PastBack_k2 true p a b = some true := by
    intro a b ha hb
    have hb0 := (numL_len p.length).1
    have hs : (ofL (pastL p)).size = (pastL p).length := ofL_size _
    have hpos : 0 < (pastL p).length := by simp only [pastL, List.length_append]; omega
    unfold law04_PastBack_k2
    rw [past_Bytes_eq (by omega) (fun d hd => by have := h3 d hd; omega)]
    unfold pastB
    rw [hok]
    simp only [Option.bind_some, if_true]
    rw [scat_L (by omega)]
    simp only [Option.bind_some]
    rw [scat_L (by rw [ByteArray.size_append]; omega)]
    simp only [Option.bind_some]
    rw [past_Read_eq _ a.size (by rw [ByteArray.size_append, ByteArray.size_append]; omega)]
    have e : (bl (a ++ ofL (pastL p) ++ b)).drop a.size = pastL p ++ bl b := by
      rw [bl_app, bl_app, bl_ofL, List.append_assoc, ← bl_len a, List.drop_left]
    rw [e, rdP_past hok]
    simp only [Option.bind_some, resP]
    unfold law04_PastBack_k3
    simp only [if_true]
    rw [past_Same_eq (by omega), decide_eq_true rfl]
    simp only [Option.bind_some]
    unfold law04_PastBack_k4 law04_PastBack_k5
    simp only [if_true]
    rw [wrap64 (by omega) (by omega), hs, decide_eq_true (by omega), if_pos rfl, decide_eq_true (by omega)]
  have hk1 : ∀ a : ByteArray, a.size ≤ 6 → law04_PastBack_k1 b_2 true p a = some true := by
    intro a ha
    unfold law04_PastBack_k1
    by_cases c : 6 < b_2.size
    · obtain ⟨t, h5, h6⟩ := ssub_six b_2 c
      rw [if_pos (decide_eq_true (by omega)), h5]
      exact hk2 a t ha h6
    · rw [if_neg (fun e => absurd (of_decide_eq_true e) (by omega))]
      exact hk2 a b_2 ha (by omega)
  by_cases c : 6 < a_1.size
  · obtain ⟨t, h5, h6⟩ := ssub_six a_1 c
    rw [if_pos (decide_eq_true (by omega)), h5]
    exact hk1 t h6
  · rw [if_neg (fun e => absurd (of_decide_eq_true e) (by omega))]
    exact hk1 a_1 (by omega)
end Go.Ark
