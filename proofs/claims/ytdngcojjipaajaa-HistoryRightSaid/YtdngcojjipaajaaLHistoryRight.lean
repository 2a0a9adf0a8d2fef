/- The plain law of HistoryRight: rows of clients that go on from what they saw are right, and so is each part; along each client what was seen is never less. Conditions: none but those that stand in each law. -/
import Derived.Test.YtdngcojjipaajaaPlaw20
import Derived.Test.YtdngcojjipaajaaPhist3
namespace Go.Ark
open Go Go.Ab Go.RowKit

theorem lastB_ofC (l : List Api_Event) (c : Int) {n : Nat} (h : (ofC l c).length = n + 1) : lastB l c = behE ((ofC l c)[n]'(by omega)) := by
  have : (ofC l c).getLast? = some ((ofC l c)[n]'(by omega)) := by
    rw [List.getLast?_eq_getElem?]
    have e : (ofC l c).length - 1 = n := by omega
    simp only [e]
    exact List.getElem?_eq_getElem (by omega)
  unfold lastB
  unfold ofC at this ⊢
  rw [this]
theorem AllG.along {l : List Api_Event} (h : AllG l) (c : Int) : ∀ n, n ≤ l.length → ∀ i (hi : i + 1 < (ofC (l.take n) c).length), coversP ((ofC (l.take n) c)[i + 1]).Seen (behE ((ofC (l.take n) c)[i]'(by omega))) = true := by
  intro n
  induction n with
  | zero => intro _ i hi; simp [ofC] at hi
  | succ n ih =>
    intro hn i hi
    have hl : n < l.length := by omega
    have e : ofC (l.take (n + 1)) c = if l[n].Client = c then ofC (l.take n) c ++ [l[n]] else ofC (l.take n) c := by rw [take_snoc' hl, ofC_snoc]
    by_cases cc : l[n].Client = c
    · rw [if_pos cc] at e
      simp only [e] at hi ⊢
      by_cases c2 : i + 1 < (ofC (l.take n) c).length
      · rw [List.getElem_append_left c2, List.getElem_append_left (by omega)]
        exact ih (by omega) i c2
      · have h3 : (ofC (l.take n) c).length = i + 1 := by simp at hi; omega
        have h4 := (right_parts (h n hl).1).2.2.2
        rw [cc, lastB_ofC _ _ h3] at h4
        rw [List.getElem_append_right (by omega), List.getElem_append_left (by omega)]
        simpa [h3] using h4
    · rw [if_neg cc] at e
      simp only [e] at hi ⊢
      exact ih (by omega) i hi

theorem law20_HistoryRight_plain (l_0 : (List Law20_Act)) (h0 : l_0.length ≤ reachBytes ∧ ∀ x, x ∈ l_0 → wfLaw20_Act x) : law20_HistoryRight l_0 = some true := by
  have hr : reachBytes = 140737488351232 := rfl
  obtain ⟨l, hl, h⟩ := law20_made_tot (l := l_0) (by have := h0.1; omega)
  have hlen := h.len
  have hev := h.evs
  unfold law20_HistoryRight
  rw [law20_awake_eq, hl]
  simp only [Option.bind_some]
  rw [history_Check_eq hev (by omega), Option.bind_some, h.good.fine, if_neg (by decide)]
  refine loopF_inv (fun (v : Int) => 0 ≤ v ∧ v ≤ 4) (fun v => (4 - v).toNat) (fun _ => some true) ?_ FU 0 ⟨Int.le_refl _, by omega⟩ (by have := FU_big; omega)
  rintro again v ⟨h1, h2⟩ hag
  unfold law20_HistoryRight_l4
  by_cases c : v < 4
  · rw [if_pos (by simpa using c), history_Of_eq (by omega), Option.bind_some]
    have hofl := ofC_len l v
    have hal : ∀ i (hi : i + 1 < (ofC l v).length), coversP ((ofC l v)[i + 1]).Seen (behE ((ofC l v)[i]'(by omega))) = true := by
      have := h.good.along v l.length (Nat.le_refl _)
      simp only [List.take_length] at this
      exact this
    have hof : ∀ e, e ∈ ofC l v → e ∈ l := fun e he => (List.mem_filter.1 he).1
    obtain ⟨o, ho⟩ : ∃ o, o = ofC l v := ⟨_, rfl⟩
    rw [← ho] at hofl hof ⊢
    simp only [← ho] at hal
    refine loopF_inv (fun (v : Int) => 1 ≤ v) (fun v => ((o.length : Int) - v).toNat) (fun _ => some true) ?_ FU 1 (Int.le_refl _) (by have := FU_big; omega)
    rintro again2 q h3 hag2
    unfold law20_HistoryRight_l7
    by_cases c2 : q < (o.length : Int)
    · obtain ⟨i, rfl⟩ : ∃ i : Nat, q = ((i + 1 : Nat) : Int) := ⟨(q - 1).toNat, by omega⟩
      have hi : i + 1 < o.length := by omega
      have hm := h.parts (hof _ (List.getElem_mem hi))
      have hb := behE_len (o[i]'(by omega))
      have hm2 := h.parts (hof _ (List.getElem_mem (show i < o.length by omega)))
      rw [if_pos (by simpa using c2), idx_at hi, Option.bind_some, wrap64 (by omega) (by omega), show (((i + 1 : Nat) : Int) - 1) = (i : Int) by omega,
        history_Behind_eq (fun e he => hev e (hof e he)), behP_at (by omega), Option.bind_some, ref04_Covers_eq (by omega) (by omega), hal i hi, Option.bind_some, if_neg (by decide), wrap64 (by omega) (by omega)]
      exact hag2 _ (by omega) (by omega)
    · rw [if_neg (by simpa using c2)]
      unfold law20_HistoryRight_k6 law20_HistoryRight_k5
      rw [wrap64 (by omega) (by omega)]
      exact hag _ ⟨by omega, by omega⟩ (by omega)
  · rw [if_neg (by simpa using c)]
    unfold law20_HistoryRight_k1
    refine loopF_inv (fun (v : Int) => 0 ≤ v) (fun v => ((l.length : Int) + 1 - v).toNat) (fun _ => some true) ?_ FU 0 (Int.le_refl _) (by have := FU_big; omega)
    rintro again2 q h3 hag2
    unfold law20_HistoryRight_l3
    by_cases c2 : q ≤ (l.length : Int)
    · have hsub : sub l 0 q = some (l.take q.toNat) := by
        unfold sub
        rw [if_pos ⟨by omega, by omega, c2⟩]
        rfl
      rw [if_pos (by simpa using c2), hsub, Option.bind_some, history_Check_eq (fun e he => hev e (List.mem_of_mem_take he)) (by simp; omega), (h.good.take _).fine, Option.bind_some, if_neg (by decide), wrap64 (by omega) (by omega)]
      exact hag2 _ (by omega) (by omega)
    · rw [if_neg (by simpa using c2)]
      rfl
end Go.Ark
