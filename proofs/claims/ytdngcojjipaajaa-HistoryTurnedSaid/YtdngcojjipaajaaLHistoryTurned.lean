/- The plain law of HistoryTurned: a row of which something is otherwise is found right or not as the document says. Conditions: none but those that stand in each law. -/
import Derived.Test.YtdngcojjipaajaaLHistoryTells
namespace Go.Ark
open Go Go.Ab Go.RowKit

theorem law20_HistoryTurned_plain (l_0 : (List Law20_Act)) (q_1 : Law20_Change) (key_2 : ByteArray) (h0 : l_0.length ≤ reachBytes ∧ ∀ x, x ∈ l_0 → wfLaw20_Act x) (_h1 : wfLaw20_Change q_1) (_h2 : key_2.size ≤ reachBytes) : law20_HistoryTurned l_0 q_1 key_2 = some true := by
  have hr : reachBytes = 140737488351232 := rfl
  obtain ⟨l, hl, h⟩ := law20_made_tot (l := l_0) (by have := h0.1; omega)
  have hlen := h.len
  have hev := h.evs
  have hk1 : ∀ e : List Api_Event, e.length = l.length → (∀ x, x ∈ e → EvS x) → law20_HistoryTurned_k1 q_1 key_2 true e = some true := by
    intro e he hs
    unfold law20_HistoryTurned_k1
    rw [if_pos rfl, law20_tells_eq hs (by omega) key_2 rfl]
    rfl
  unfold law20_HistoryTurned
  rw [law20_awake_eq, hl]
  simp only [Option.bind_some]
  by_cases c0 : (0 : Int) < (l.length : Int)
  · rw [if_pos (by simpa using c0)]
    have hne : (!decide ((l.length : Int) = 0)) = true := by rw [decide_eq_false (by omega)]; rfl
    have hm1 : Int.tmod q_1.At (l.length : Int) < l.length := Int.tmod_lt_of_pos _ c0
    have hm2 : -(l.length : Int) < Int.tmod q_1.At (l.length : Int) := by
      have := Int.tmod_lt_of_pos (-q_1.At) c0
      rw [Int.neg_tmod] at this
      omega
    have hm3 : 0 ≤ Int.tmod (Int.tmod q_1.At (l.length : Int) + l.length) (l.length : Int) := Int.tmod_nonneg _ (by omega)
    have hm4 : Int.tmod (Int.tmod q_1.At (l.length : Int) + l.length) (l.length : Int) < l.length := Int.tmod_lt_of_pos _ c0
    have hk2 : ∀ (a b : Int) (k : ByteArray) (n s : Int) (p : List Api_Dep), EvS ⟨a, b, k, ⟨n, s⟩, p⟩ → law20_HistoryTurned_k2 q_1 key_2 true l (a, b, k, n, s, p) = some true := by
      intro a b k n s p hx
      unfold law20_HistoryTurned_k2
      rw [wrap64 (n := Int.tmod q_1.At (l.length : Int) + l.length) (by omega) (by omega)]
      generalize Int.tmod (Int.tmod q_1.At (l.length : Int) + l.length) (l.length : Int) = m at hm3 hm4
      unfold sets
      rw [if_pos (by omega), Option.bind_some]
      refine hk1 _ (by simp) fun x hm => ?_
      rcases List.mem_or_eq_of_mem_set hm with hm | rfl
      · exact hev x hm
      · exact hx
    simp only [chk, hne, if_true]
    rw [wrap64 (n := Int.tmod q_1.At (l.length : Int) + l.length) (by omega) (by omega), idx_int hm3 hm4, Option.bind_some]
    have hmem : l[(Int.tmod (Int.tmod q_1.At (l.length : Int) + l.length) (l.length : Int)).toNat]'(by omega) ∈ l := List.getElem_mem _
    generalize l[(Int.tmod (Int.tmod q_1.At (l.length : Int) + l.length) (l.length : Int)).toNat]'(by omega) = x at hmem
    have hx := hev x hmem
    have hp := h.parts hmem
    obtain ⟨k, e1, e2⟩ := law20_short_tot q_1.Dep.Key
    rw [e1]
    simp only [Option.bind_some]
    rw [ref04_Add_eq (by omega) (by simp only; omega)]
    simp only [Option.bind_some]
    have hadd := addP_length x.Seen ⟨k, q_1.Dep.Stamp⟩
    have hkeys : ∀ d, d ∈ x.Seen → d.Key.size ≤ 12 := fun d hd => by
      have := (keys4_ok _ ((h.each x hmem).2.2.2.2.1 d hd).1).2
      omega
    split
    · exact hk2 _ _ _ _ _ _ ⟨hx.key, hx.seen, hx.keys⟩
    · split
      · exact hk2 _ _ _ _ _ _ ⟨by show k.size ≤ _; omega, hx.seen, hx.keys⟩
      · split
        · exact hk2 _ _ _ _ _ _ ⟨hx.key, hx.seen, hx.keys⟩
        · split
          · exact hk2 _ _ _ _ _ _ ⟨hx.key, hx.seen, hx.keys⟩
          · split
            · refine hk2 _ _ _ _ _ _ ⟨hx.key, by show (addP x.Seen ⟨k, q_1.Dep.Stamp⟩).length ≤ _; omega, fun d hd => ?_⟩
              rcases addP_mem hd with rfl | hd
              · show k.size ≤ _
                omega
              · have := hkeys d hd
                omega
            · split
              · exact hk2 _ _ _ _ _ _ ⟨hx.key, by show 0 ≤ _; omega, fun d hd => by simp at hd⟩
              · exact hk2 _ _ _ _ _ _ ⟨hx.key, hx.seen, hx.keys⟩
  · rw [if_neg (by simpa using c0)]
    exact hk1 l rfl hev
end Go.Ark
