/- The plain law of HistoryTells: rows are told, and found right or not, as the document says. Conditions: none but those that stand in each law. -/
import Derived.Test.YtdngcojjipaajaaPlaw20
import Derived.Test.YtdngcojjipaajaaPtells20
namespace Go.Ark
open Go Go.Ab Go.RowKit

theorem law20_short_tot (s : ByteArray) : ∃ t, law20_short s = some t ∧ t.size ≤ 12 := by
  unfold law20_short
  by_cases c : (12 : Int) < (s.size : Int)
  · rw [if_pos (by simpa using c)]
    have hsub : ssub s 0 12 = some (s.extract 0 12) := by
      simp only [ssub]; rw [if_pos ⟨by omega, by omega, by omega⟩]; rfl
    rw [hsub]
    exact ⟨_, rfl, by rw [ByteArray.size_extract]; omega⟩
  · rw [if_neg (by simpa using c)]
    exact ⟨_, rfl, by omega⟩

theorem law20_few_tot (l : List Api_Event) : ∃ r, law20_few l = some r ∧ r.length ≤ 14 ∧ ∀ e, e ∈ r → EvS e := by
  unfold law20_few
  refine loopF_tot (fun (v : Int × List Api_Event) => 0 ≤ v.1 ∧ v.1 ≤ 14 ∧ (v.2.length : Int) ≤ v.1 ∧ ∀ e, e ∈ v.2 → EvS e) (fun v => (14 - v.1).toNat) (fun (r : List Api_Event) => r.length ≤ 14 ∧ ∀ e, e ∈ r → EvS e) ?_ FU (0, []) ⟨Int.le_refl _, by simp, by simp, fun e h => by simp at h⟩ (by have := FU_big; simp only; omega)
  rintro again ⟨i, o⟩ ⟨h1, h2, h3, h4⟩ hag
  simp only at h1 h2 h3 h4
  have hend : ∃ r, law20_few_k1 o = some r ∧ r.length ≤ 14 ∧ ∀ e, e ∈ r → EvS e := ⟨o, rfl, by omega, h4⟩
  unfold law20_few_l2 law20_few_k3
  simp only
  by_cases c : i < (l.length : Int)
  · rw [if_pos (by simpa using c)]
    by_cases c14 : i < 14
    · rw [if_pos (by simpa using c14), idx_int h1 c]
      simp only [Option.bind_some]
      generalize l[i.toNat]'(by omega) = x
      obtain ⟨k, hk, hks⟩ := law20_short_tot x.Key
      rw [hk, Option.bind_some]
      refine loopF_tot (fun (v : List Api_Dep × Int) => 0 ≤ v.2 ∧ v.2 ≤ 5 ∧ (v.1.length : Int) ≤ v.2 ∧ ∀ d, d ∈ v.1 → d.Key.size ≤ 12) (fun v => (5 - v.2).toNat) (fun (r : List Api_Event) => r.length ≤ 14 ∧ ∀ e, e ∈ r → EvS e) ?_ FU ([], 0) ⟨Int.le_refl _, by simp, by simp, fun e h => by simp at h⟩ (by have := FU_big; simp only; omega)
      rintro again2 ⟨p, j⟩ ⟨h5, h6, h7, h8⟩ hag2
      simp only at h5 h6 h7 h8
      have hend2 : ∃ r, law20_few_k5 again (i, o) x k p = some r ∧ r.length ≤ 14 ∧ ∀ e, e ∈ r → EvS e := by
        unfold law20_few_k5 law20_few_k4
        simp only
        rw [app_ok (by simp; omega) (by simp; omega), Option.bind_some, wrap64 (by omega) (by omega)]
        refine hag _ ⟨by simp only; omega, by simp only; omega, by simp; omega, fun e he => ?_⟩ (by simp only; omega)
        rcases List.mem_append.1 he with he | he
        · exact h4 e he
        · simp at he
          subst he
          exact ⟨by show k.size ≤ _; omega, by show p.length ≤ _; omega, fun d hd => by have := h8 d hd; omega⟩
      unfold law20_few_l6 law20_few_k7
      simp only
      by_cases c2 : j < (x.Seen.length : Int)
      · rw [if_pos (by simpa using c2)]
        by_cases c5 : j < 5
        · rw [if_pos (by simpa using c5), idx_int h5 c2]
          simp only [Option.bind_some]
          generalize x.Seen[j.toNat]'(by omega) = y
          obtain ⟨k', hk', hks'⟩ := law20_short_tot y.Key
          rw [hk', Option.bind_some, ref04_Add_eq (by omega) (by simp only; omega), Option.bind_some, wrap64 (by omega) (by omega)]
          have := addP_length p ⟨k', y.Stamp⟩
          exact hag2 _ ⟨by simp only; omega, by simp only; omega, by simp only; omega, fun d hd => (addP_mem hd).elim (fun e => by rw [e]; exact hks') (h8 d)⟩ (by simp only; omega)
        · rw [if_neg (by simpa using c5)]
          exact hend2
      · rw [if_neg (by simpa using c2), if_neg (by decide)]
        exact hend2
    · rw [if_neg (by simpa using c14)]; exact hend
  · rw [if_neg (by simpa using c), if_neg (by decide)]; exact hend

theorem law20_HistoryTells_plain (l_0 : (List Api_Event)) (key_1 : ByteArray) (q_2 : (List Int)) (_h0 : l_0.length ≤ reachBytes ∧ ∀ x, x ∈ l_0 → wfApi_Event x) (_h1 : key_1.size ≤ reachBytes) (h2 : q_2.length = 2 ∧ ∀ x, x ∈ q_2 → (Lit.int .i64 x).wf = true) : law20_HistoryTells l_0 key_1 q_2 = some true := by
  obtain ⟨r, hr, hl, hs⟩ := law20_few_tot l_0
  unfold law20_HistoryTells
  rw [law20_awake_eq, Option.bind_some, if_pos rfl, hr, Option.bind_some, chk, if_pos (decide_eq_true h2.1), law20_tells_eq hs (by omega) key_1 h2.1]
  rfl
end Go.Ark
