/- The plain law of HistoryStale: a read of what is older than what was seen is not right, nor is one of a write that there isn't. Conditions: none but those that stand in each law. -/
import Derived.Test.YtdngcojjipaajaaPlaw20
import Derived.Test.YtdngcojjipaajaaPhist3
namespace Go.Ark
open Go Go.Ab Go.RowKit

theorem law20_HistoryStale_plain (l_0 : (List Law20_Act)) (at_1 : Int) (h0 : l_0.length ≤ reachBytes ∧ ∀ x, x ∈ l_0 → wfLaw20_Act x) (_h1 : (Lit.int .i64 at_1).wf = true) : law20_HistoryStale l_0 at_1 = some true := by
  have hr : reachBytes = 140737488351232 := rfl
  obtain ⟨l, hl, h⟩ := law20_made_tot (l := l_0) (by have := h0.1; omega)
  have hlen := h.len
  have hev := h.evs
  unfold law20_HistoryStale
  rw [law20_awake_eq, hl]
  simp only [Option.bind_some]
  by_cases c0 : (l.length : Int) = 0
  · rw [if_pos (by simpa using c0)]
  · rw [if_neg (by simpa using c0)]
    have hne : (!decide ((l.length : Int) = 0)) = true := by rw [decide_eq_false c0]; rfl
    simp only [chk, hne, if_true]
    have hm1 : Int.tmod at_1 (l.length : Int) < l.length := Int.tmod_lt_of_pos _ (by omega)
    have hm2 : -(l.length : Int) < Int.tmod at_1 (l.length : Int) := by
      have := Int.tmod_lt_of_pos (-at_1) (show (0 : Int) < l.length by omega)
      rw [Int.neg_tmod] at this
      omega
    have hk1e : law20_HistoryStale_k1 at_1 l = fun l15 l17 y18 => law20_HistoryStale_k1 at_1 l l15 l17 y18 := rfl
    unfold law20_HistoryStale_k1
    clear hk1e
    rw [wrap64 (n := Int.tmod at_1 (l.length : Int) + l.length) (by omega) (by omega)]
    have hm3 : 0 ≤ Int.tmod (Int.tmod at_1 (l.length : Int) + l.length) (l.length : Int) := Int.tmod_nonneg _ (by omega)
    have hm4 : Int.tmod (Int.tmod at_1 (l.length : Int) + l.length) (l.length : Int) < l.length := Int.tmod_lt_of_pos _ (by omega)
    generalize Int.tmod (Int.tmod at_1 (l.length : Int) + l.length) (l.length : Int) = m at hm3 hm4
    obtain ⟨k, rfl⟩ : ∃ k : Nat, m = k := ⟨m.toNat, by omega⟩
    have hk : k < l.length := by omega
    have hmem := List.getElem_mem hk
    have hb4 := behE_len l[k]
    have hp := h.parts hmem
    rw [idx_at hk, Option.bind_some, history_Behind_eq hev, behP_at hk, Option.bind_some, ref04_Get_eq (by omega), Option.bind_some]
    by_cases c1 : (getP (behE l[k]) l[k].Key).N = 0
    · rw [if_pos (by simpa using c1)]
    · rw [if_neg (by simpa using c1)]
      have hsub : sub l 0 ((k : Int) + 1) = some (l.take (k + 1)) := by
        unfold sub
        rw [if_pos ⟨by omega, by omega, by omega⟩, show ((k : Int) + 1).toNat = k + 1 by omega]
        rfl
      have htl : (l.take (k + 1)).length = k + 1 := by rw [List.length_take]; omega
      have happ : app 72 ([] : List Api_Event) (l.take (k + 1)) = some (l.take (k + 1)) := app_ok (by simp; omega) (by simp; omega)
      have happ2 : ∀ e : Api_Event, app 72 (l.take (k + 1)) [e] = some (l.take (k + 1) ++ [e]) := fun e => app_ok (by simp; omega) (by simp; omega)
      rw [wrap64 (by omega) (by omega), hsub, Option.bind_some, happ]
      simp only [Option.bind_some]
      rw [happ]
      simp only [Option.bind_some, happ2]
      have hg := h.good.take (k + 1)
      -- what is known of the place
      have hcases := getP_cases (behE l[k]) l[k].Key
      obtain ⟨d, d1, d2, d3⟩ : ∃ d, d ∈ behE l[k] ∧ d.Key = l[k].Key ∧ getP (behE l[k]) l[k].Key = d.Stamp := by
        rcases hcases with hc | ⟨-, hc⟩
        · exact hc
        · rw [hc] at c1; exact absurd rfl c1
      obtain ⟨b1, b2, b3, -⟩ := h.beh hmem d1
      have okd := okDep_stamp b1
      have hlast : lastB (l.take (k + 1)) l[k].Client = behE l[k] := by rw [take_snoc' hk, lastB_snoc, if_pos rfl]
      have hcov : coversP (behE l[k]) (behE l[k]) = true := by
        unfold coversP
        refine List.all_eq_true.2 fun x hx => ?_
        rw [getP_mem (behE_sorted _) hx, lessP_irrefl]; rfl
      have hch : chainP none (behE l[k]) = true := chainP_iff.2 ⟨behE_ok _, behE_sorted _, fun _ e => by cases e⟩
      have hev2 : ∀ s : Api_Stamp, ∀ e, e ∈ l.take (k + 1) ++ [(⟨2, l[k].Client, l[k].Key, s, behE l[k]⟩ : Api_Event)] → EvS e := by
        intro s e he
        rcases List.mem_append.1 he with he | he
        · exact hev e (List.mem_of_mem_take he)
        · simp at he
          subst he
          refine ⟨(hev _ hmem).key, by show (behE l[k]).length ≤ _; omega, fun x hx => ?_⟩
          have := (keys4_ok _ (h.beh hmem hx).2.1).2
          omega
      have hcheck : ∀ s : Api_Stamp, history_Check (l.take (k + 1) ++ [(⟨2, l[k].Client, l[k].Key, s, behE l[k]⟩ : Api_Event)]) = some (if rightP (l.take (k + 1)) ⟨2, l[k].Client, l[k].Key, s, behE l[k]⟩ = true then -1 else (k : Int) + 1) := by
        intro s
        rw [history_Check_eq (hev2 s) (by simp; omega), hg.app, firstBad_cons, firstBad_nil, htl]
        split <;> simp
      have hright : ∀ s : Api_Stamp, rightP (l.take (k + 1)) ⟨2, l[k].Client, l[k].Key, s, behE l[k]⟩ = (!lessP s d.Stamp && (decide (s = ⟨0, 0⟩) || thereP (l.take (k + 1)) ⟨2, l[k].Client, l[k].Key, s, behE l[k]⟩)) := by
        intro s
        unfold rightP
        simp only [hlast, hcov, hch, (keys4_ok _ (h.each _ hmem).1).1, Bool.true_and]
        simp only [show ¬ ((2 : Int) = 1) by decide, if_false, if_true, d3]
      have r1 : rightP (l.take (k + 1)) ⟨2, l[k].Client, l[k].Key, ⟨0, 0⟩, behE l[k]⟩ = false := by
        rw [hright, zero_leS okd]; rfl
      have r2 : rightP (l.take (k + 1)) ⟨2, l[k].Client, l[k].Key, ⟨1099511627776, 5⟩, behE l[k]⟩ = false := by
        rw [hright]
        have : thereP (l.take (k + 1)) ⟨2, l[k].Client, l[k].Key, ⟨1099511627776, 5⟩, behE l[k]⟩ = false := by
          unfold thereP
          rw [List.any_eq_false]
          intro w hw hx
          simp only [Bool.and_eq_true, decide_eq_true_eq] at hx
          have := (h.each w (List.mem_of_mem_take hw)).2.2.2.1
          rw [hx.2.1] at this
          simp only at this
          omega
        rw [this, decide_eq_false (by simp)]
        simp
      have r3 : rightP (l.take (k + 1)) ⟨2, l[k].Client, l[k].Key, getP (behE l[k]) l[k].Key, behE l[k]⟩ = true := by
        rw [hright, d3, lessP_irrefl]
        obtain ⟨w, w1, w2, w3, w4⟩ : ∃ w, w ∈ l.take (k + 1) ∧ w.Kind = 1 ∧ w.Key = d.Key ∧ w.Stamp = d.Stamp := by
          have hs := (h.good k hk).2
          have := hs d ((behE_mem d1).imp id fun e => ⟨e, b1⟩)
          rw [← take_snoc' hk] at this
          exact this
        have : thereP (l.take (k + 1)) ⟨2, l[k].Client, l[k].Key, d.Stamp, behE l[k]⟩ = true := by
          unfold thereP
          refine List.any_eq_true.2 ⟨w, w1, ?_⟩
          simp [w2, w3, w4, d2]
        rw [this]
        simp
      rw [hcheck, r1]
      simp only [Option.bind_some, Bool.false_eq_true, if_false, decide_true, if_true]
      rw [hcheck, r2]
      simp only [Option.bind_some, Bool.false_eq_true, if_false, decide_true]
      unfold law20_HistoryStale_k2
      rw [if_pos rfl, hcheck, r3]
      rfl
end Go.Ark
