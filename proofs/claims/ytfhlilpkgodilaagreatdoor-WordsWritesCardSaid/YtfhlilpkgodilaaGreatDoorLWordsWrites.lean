import Derived.Test.YtfhlilpkgodilaaGreatDoorPr24h
import Derived.Test.YtfhlilpkgodilaaGreatDoorLWordsBack
/- WordsWrites: which steps have lines, and which, is as the document says. Conditions: none. -/
namespace Go.Ark
open Go Go.Ab Go.RowKit

def chkB (o : Api_Op) : Bool := (words_Check o).getD false
theorem chkB_eq {o : Api_Op} (h : smallOp o) : words_Check o = some (chkB o) ∧ ref24_Check o = some (chkB o) ∧ (chkB o = true → okOp o) := by
  obtain ⟨r, h1, h2, h3⟩ := checks_agree h
  have e : chkB o = r := by unfold chkB; rw [h1]; rfl
  rw [e]
  exact ⟨h1, h2, h3⟩
theorem words_Text_all {l : List Api_Op} (h : ∀ o, o ∈ l → smallOp o) (hl : l.length ≤ 10) : words_Text l = some (if l.all chkB then ofL (l.flatMap lineB) else ByteArray.empty) := by
  unfold words_Text
  rw [show ((0 : Int), ByteArray.empty) = ((0 : Int), ofL []) from rfl]
  refine (loopL (body := words_Text_l2 l) l (fun (s : List UInt8) i => (i, ofL s)) (fun rest s => some (if rest.all chkB then ofL (s ++ rest.flatMap lineB) else ByteArray.empty)) (fun i s => s.length ≤ 30101 * i) ?_ ?_ (s0 := []) (by simp) (by omega)).trans (by simp)
  · intro again s _
    unfold words_Text_l2 words_Text_k1
    rw [if_neg (by simp)]
    simp [bld_String]
  · intro again i s hi hI hag
    obtain ⟨h1, _, h3⟩ := chkB_eq (h _ (List.getElem_mem hi))
    unfold words_Text_l2
    rw [if_pos (decide_eq_true (by omega)), idx_at hi, Option.bind_some, h1, Option.bind_some]
    cases hc : chkB l[i] with
    | false => rw [if_pos (by rfl), List.all_cons, hc]; rfl
    | true =>
      have hok := h3 hc
      have hb := body_len hok
      rw [if_neg (by simp), line_eq hok, Option.bind_some, bld_WriteString_eq (by rw [ofL_size, ofL_size, List.length_append]; simp; omega), Option.bind_some, ofL_app, wrap64 (by omega) (by omega),
        hag _ (by simp only [List.length_append, List.length_cons, List.length_nil]; omega), List.all_cons, hc, Bool.true_and]
      simp only [List.flatMap_cons, lineB, List.append_assoc]
theorem r24_Text_all {l : List Api_Op} (h : ∀ o, o ∈ l → smallOp o) (hl : l.length ≤ 10) : ref24_Text l = some (if l.all chkB then ofL (l.flatMap lineB) else ByteArray.empty) := by
  unfold ref24_Text
  rw [show (ByteArray.empty, (0 : Int)) = (ofL [], (0 : Int)) from rfl]
  refine (loopL (body := ref24_Text_l2 l) l (fun (s : List UInt8) i => (ofL s, i)) (fun rest s => some (if rest.all chkB then ofL (s ++ rest.flatMap lineB) else ByteArray.empty)) (fun i s => s.length ≤ 30101 * i) ?_ ?_ (s0 := []) (by simp) (by omega)).trans (by simp)
  · intro again s _
    unfold ref24_Text_l2 ref24_Text_k1
    rw [if_neg (by simp)]
    simp
  · intro again i s hi hI hag
    obtain ⟨_, h1, h3⟩ := chkB_eq (h _ (List.getElem_mem hi))
    unfold ref24_Text_l2
    rw [if_pos (decide_eq_true (by omega)), idx_at hi, Option.bind_some, h1, Option.bind_some]
    cases hc : chkB l[i] with
    | false => rw [if_pos (by rfl), List.all_cons, hc]; rfl
    | true =>
      have hok := h3 hc
      have hb := body_len hok
      rw [if_neg (by simp), Option.bind_some, r24_line_eq hok, Option.bind_some, scatL (by omega) (by simp; omega), Option.bind_some, wrap64 (by omega) (by omega),
        hag _ (by simp only [List.length_append, List.length_cons, List.length_nil]; omega), List.all_cons, hc, Bool.true_and]
      simp only [List.flatMap_cons, lineB, List.append_assoc]
theorem writes_end {m : List Api_Op} (h : ∀ o, o ∈ m → smallOp o) (hl : m.length ≤ 5) : law24_WordsWrites_k1 true m = some true := by
  unfold law24_WordsWrites_k1
  rw [if_pos rfl, words_Text_all h (by omega), Option.bind_some, r24_Text_all h (by omega), Option.bind_some, seq_eq, decide_eq_true rfl]

theorem law24_WordsWrites_plain (l_0 : (List Api_Op)) (_h0 : l_0.length ≤ reachBytes ∧ ∀ y, y ∈ l_0 → wfApi_Op y) : law24_WordsWrites l_0 = some true := by
  unfold law24_WordsWrites
  rw [awake_t, Option.bind_some]
  refine loopF_inv (body := law24_WordsWrites_l2 l_0 true) (fun v => 0 ≤ v.1 ∧ v.1 ≤ 5 ∧ v.1 ≤ (l_0.length : Int) ∧ (v.2.length : Int) ≤ v.1 ∧ ∀ o, o ∈ v.2 → smallOp o) (fun v => (5 - v.1).toNat) (fun _ => some true) ?_ FU _ ⟨by simp, by simp, by simp, by simp, by simp⟩ (by simp [FU])
  rintro again ⟨i, m⟩ ⟨h1, h2, h3, h4, h6⟩ hag
  simp only at h1 h2 h3 h4 h6
  have hml : m.length ≤ 5 := by omega
  unfold law24_WordsWrites_l2
  by_cases c : i < (l_0.length : Int)
  · rw [if_pos (decide_eq_true c)]
    unfold law24_WordsWrites_k3
    by_cases c5 : i < 5
    · rw [if_pos (decide_eq_true c5)]
      obtain ⟨j, rfl⟩ : ∃ j : Nat, i = j := ⟨i.toNat, by omega⟩
      have hj : j < l_0.length := by omega
      obtain ⟨q, hq, hsm⟩ := few_eq l_0[j]
      obtain ⟨g1, g2, _⟩ := chkB_eq hsm
      rw [idx_at hj, Option.bind_some, hq, Option.bind_some, g1, Option.bind_some, g2, Option.bind_some, if_neg (by simp), app176 (by show m.length + 1 ≤ 1000000; omega), Option.bind_some, wrap64 (by omega) (by omega)]
      refine hag _ ⟨by simp only; omega, by simp only; omega, by simp only; omega, by simp; omega, fun o ho => ?_⟩ (by simp only; omega)
      rcases List.mem_append.1 ho with ho | ho
      · exact h6 o ho
      · have : o = q := by simpa using ho
        subst this
        exact hsm
    · rw [if_neg (by simpa using c5)]
      exact writes_end h6 hml
  · rw [if_neg (by simpa using c)]
    unfold law24_WordsWrites_k3
    rw [if_neg (by simp)]
    exact writes_end h6 hml
end Go.Ark
