/- The plain law of ClientEnters: where a client may enter, all that it saw of the site's keys is there. Conditions: none but those that stand in each law. -/
import Derived.Test.YtknhoebmoljopaaPlaw15
namespace Go.Ark
open Go Go.Ab Go.RowKit

theorem site_in (a : Int) : 0 ≤ Int.tmod (IntKind.wrap .i64 ((Int.tmod a 6) + 6)) 6 ∧ Int.tmod (IntKind.wrap .i64 ((Int.tmod a 6) + 6)) 6 < 6 := by
  have h1 := Int.lt_tmod_of_pos a (b := 6) (by decide)
  have h2 := Int.tmod_lt_of_pos a (b := 6) (by decide)
  rw [wrap64 (by omega) (by omega)]
  exact ⟨Int.tmod_nonneg _ (by omega), Int.tmod_lt_of_pos _ (by decide)⟩

theorem client_Enter_eq {s : Api_Session} {k : Int} {have_ : List Api_Dep} {own : List Api_Range} (hk : 0 ≤ k ∧ k < 6) (hs : s.Past.length ≤ 1000000) (hh : sortedP have_) (hl : have_.length ≤ 1000000) (ho : own.length ≤ 140737488355328) :
    client_Enter s k have_ own = some (if -1 < s.Site then (⟨0, []⟩, 13) else if coversP have_ (s.Past.filter fun d => ownP own d.Key) = true then (⟨k, s.Past⟩, 0) else (⟨0, []⟩, 17)) := by
  unfold client_Enter
  rw [if_neg (by rw [decide_eq_true_eq]; omega), decide_eq_false (by omega)]
  unfold client_Enter_k1
  simp only [Bool.false_eq_true, if_false]
  by_cases c : -1 < s.Site
  · rw [if_pos (decide_eq_true c), if_pos c]
  · rw [if_neg (by simpa using c), if_neg c, client_May_eq hs hh hl ho]
    simp only [Option.bind_some]
    cases coversP have_ (s.Past.filter fun d => ownP own d.Key) <;> simp

theorem law15_ranges_eq (l : List Api_Range) : law15_ranges l = some (l.take 4) := by
  unfold law15_ranges
  by_cases c : 4 < l.length
  · rw [if_pos (decide_eq_true (by omega))]
    unfold sub
    rw [if_pos ⟨by omega, by omega, by omega⟩]
    simp
  · rw [if_neg (by rw [decide_eq_true_eq]; omega), List.take_of_length_le (by omega)]

theorem law15_ClientEnters_plain (q_0 : Law15_Ask) (site_1 : Int) (_h0 : wfLaw15_Ask q_0) (_h1 : (Lit.int .i64 site_1).wf = true) : law15_ClientEnters q_0 site_1 = some true := by
  obtain ⟨p, hp, hP⟩ := law15_row_tot q_0.Past
  obtain ⟨w, hw, hW⟩ := law15_row_tot q_0.Have
  have hpl := hP.2.2.2
  have hwl := hW.2.2.2
  have hk := site_in site_1
  have hol : (q_0.Own.take 4).length ≤ 4 := by rw [List.length_take]; omega
  unfold law15_ClientEnters
  rw [law15_awake_eq, hp, hw, law15_ranges_eq]
  simp only [Option.bind_some, show client_Leave ⟨0, p⟩ = some ⟨-1, p⟩ from rfl, show client_New (-1) = some ⟨-1, []⟩ from rfl]
  generalize q_0.Own.take 4 = own at hol
  rw [client_Enter_eq (s := ⟨-1, p⟩) hk (by simp only; omega) hW.1 (by omega) (by omega), client_Enter_eq (s := ⟨-1, []⟩) hk (by simp) hW.1 (by omega) (by omega)]
  simp only [Option.bind_some, Int.lt_irrefl, if_false, List.filter_nil, show coversP w [] = true from rfl, if_true, decide_true, Bool.not_true, Bool.false_eq_true]
  unfold law15_ClientEnters_k1
  simp only [Bool.false_eq_true, if_false]
  cases c : coversP w (p.filter fun d => ownP own d.Key) with
  | false =>
    simp only [Bool.false_eq_true, if_false, if_true]
    rw [if_pos (by decide)]
    unfold law15_ClientEnters_k3
    rw [if_pos (by decide), client_May_eq (s := ⟨-1, p⟩) (by simp only; omega) hW.1 (by omega) (by omega), c]
    rfl
  | true =>
    simp only [if_true, decide_true, Bool.not_true, Bool.false_eq_true, if_false]
    refine loopF_inv (fun (i : Int) => 0 ≤ i ∧ i ≤ (p.length : Int)) (fun i => ((p.length : Int) - i).toNat) (fun _ => some true) ?_ FU 0 ⟨Int.le_refl _, by omega⟩ (by have := FU_big; omega)
    rintro again i' ⟨g1, g2⟩ hag
    obtain ⟨i, rfl⟩ : ∃ i : Nat, i' = i := ⟨i'.toNat, by omega⟩
    unfold law15_ClientEnters_l6
    by_cases c1 : (i : Int) < (p.length : Int)
    · have hi : i < p.length := by omega
      rw [if_pos (by simpa using c1), idx_at hi]
      simp only [Option.bind_some]
      rw [ref02_Find_eq (by omega), wrap64 (by omega) (by omega)]
      simp only [Option.bind_some, fidx_any]
      rw [show (own.any fun r => hasP r p[i].Key) = ownP own p[i].Key from rfl]
      have hgo : again ((i : Int) + 1) = some true := hag _ ⟨by omega, by omega⟩ (by omega)
      by_cases c2 : ownP own p[i].Key = true
      · rw [if_pos c2, ref04_Get_eq (by omega)]
        simp only [Option.bind_some, ref03_Less_eq]
        have := coversP_iff.1 c p[i] (List.mem_filter.2 ⟨List.getElem_mem hi, c2⟩)
        rw [show lessP (getP w p[i].Key) p[i].Stamp = false from this]
        simpa using hgo
      · rw [if_neg c2]
        exact hgo
    · rw [if_neg (by simpa using c1)]
      unfold law15_ClientEnters_k4
      simp only
      rw [client_Enter_eq hk (by simp only; omega) hW.1 (by omega) (by omega), if_pos (by simp only; omega)]
      simp only [Option.bind_some]
      rw [ref04_Same_eq (by omega)]
      simp only [Option.bind_some, decide_true, if_true]
      unfold law15_ClientEnters_k5
      simp
end Go.Ark
