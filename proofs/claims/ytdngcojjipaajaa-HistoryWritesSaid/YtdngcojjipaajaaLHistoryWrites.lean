/- The plain law of HistoryWrites: the writes to all keys are all writes; each is not above the greatest of its key. Conditions: none but those that stand in each law. -/
import Derived.Test.YtdngcojjipaajaaPlaw20
import Derived.Test.YtdngcojjipaajaaPhist3
namespace Go.Ark
open Go Go.Ab Go.RowKit

theorem foldMax_mem : ∀ (l : List Api_Stamp) (s : Api_Stamp), l.foldl maxS s = s ∨ l.foldl maxS s ∈ l
  | [], _ => .inl rfl
  | x :: l, s => by
    rw [List.foldl_cons]
    rcases foldMax_mem l (maxS s x) with h | h
    · rw [h]
      unfold maxS
      split
      · exact .inr (by simp)
      · exact .inl rfl
    · exact .inr (by simp [h])
theorem foldMax_le : ∀ (l : List Api_Stamp) (s : Api_Stamp), leS s (l.foldl maxS s) ∧ ∀ x, x ∈ l → leS x (l.foldl maxS s)
  | [], s => ⟨leS_refl s, fun x h => by simp at h⟩
  | y :: l, s => by
    rw [List.foldl_cons]
    obtain ⟨h1, h2⟩ := foldMax_le l (maxS s y)
    refine ⟨leS_trans (le_maxS_left s y) h1, fun x hx => ?_⟩
    rcases List.mem_cons.1 hx with rfl | hx
    · exact leS_trans (le_maxS_right s x) h1
    · exact h2 x hx

/-- how many writes there are -/
def cntW (l : List Api_Event) : Nat := (l.filter fun e => decide (e.Kind = 1)).length
theorem cntW_snoc (l : List Api_Event) (e : Api_Event) : cntW (l ++ [e]) = if e.Kind = 1 then cntW l + 1 else cntW l := by
  unfold cntW
  rw [List.filter_append, List.length_append]
  by_cases h : e.Kind = 1 <;> simp [h]
theorem wr_none {k : ByteArray} {e : Api_Event} {l : List Api_Event} (h : ¬ (e.Kind = 1 ∧ e.Key = k)) : (wrK (e :: l) k).length = (wrK l k).length := by
  unfold wrK
  rw [List.filter_cons, if_neg (by simpa using h)]
theorem wr_some {k : ByteArray} {e : Api_Event} {l : List Api_Event} (h : e.Kind = 1 ∧ e.Key = k) : (wrK (e :: l) k).length = (wrK l k).length + 1 := by
  unfold wrK
  rw [List.filter_cons, if_pos (by simpa using h)]
  simp
def sumW (l : List Api_Event) : List ByteArray → Nat
  | [] => 0
  | k :: K => (wrK l k).length + sumW l K
theorem sumW_nil : ∀ K : List ByteArray, sumW [] K = 0
  | [] => rfl
  | k :: K => by rw [sumW, sumW_nil K]; rfl
theorem sumW_out {e : Api_Event} {l : List Api_Event} : ∀ {K : List ByteArray}, (e.Kind = 1 → e.Key ∉ K) → sumW (e :: l) K = sumW l K
  | [], _ => rfl
  | k :: K, h => by
    rw [sumW, sumW, wr_none (fun q => h q.1 (by simp [q.2])), sumW_out fun q hk => h q (by simp [hk])]
theorem sumW_in {e : Api_Event} {l : List Api_Event} (k1 : e.Kind = 1) : ∀ {K : List ByteArray}, K.Pairwise (fun a b => slt a b = true) → e.Key ∈ K → sumW (e :: l) K = sumW l K + 1
  | k :: K, hK, h => by
    obtain ⟨a, b⟩ := List.pairwise_cons.1 hK
    rw [sumW, sumW]
    by_cases c : e.Key = k
    · rw [wr_some ⟨k1, c⟩, sumW_out fun _ hk => ?_]
      · omega
      · rw [c] at hk
        exact slt_ne (a k hk) rfl
    · rw [wr_none fun q => c q.2, sumW_in k1 b ((List.mem_cons.1 h).resolve_left c)]
      omega
theorem sumW_all : ∀ {l : List Api_Event}, (∀ e, e ∈ l → e.Key ∈ keys4) → sumW l keys4 = cntW l
  | [], _ => sumW_nil _
  | e :: l, h => by
    have ih := sumW_all (l := l) fun x hx => h x (by simp [hx])
    unfold cntW at ih ⊢
    rw [List.filter_cons]
    by_cases k1 : e.Kind = 1
    · rw [if_pos (by simpa using k1), sumW_in k1 keys4_sorted (h e (by simp)), ih]
      rfl
    · rw [if_neg (by simpa using k1), sumW_out fun q => absurd q k1, ih]
theorem sumW_take (l : List Api_Event) : ∀ (K : List ByteArray) (n : Nat) (h : n < K.length), sumW l (K.take (n + 1)) = sumW l (K.take n) + (wrK l K[n]).length
  | k :: K, 0, _ => by simp [sumW]
  | k :: K, n + 1, h => by
    rw [List.take_succ_cons, List.take_succ_cons, sumW, sumW, sumW_take l K n (by simpa using h)]
    simp
    omega

theorem law20_HistoryWrites_plain (l_0 : (List Law20_Act)) (h0 : l_0.length ≤ reachBytes ∧ ∀ x, x ∈ l_0 → wfLaw20_Act x) : law20_HistoryWrites l_0 = some true := by
  have hr : reachBytes = 140737488351232 := rfl
  obtain ⟨l, hl, h⟩ := law20_made_tot (l := l_0) (by have := h0.1; omega)
  have hlen := h.len
  unfold law20_HistoryWrites
  rw [law20_awake_eq, hl]
  simp only [Option.bind_some]
  refine loopF_inv (fun (v : Int × Int) => 0 ≤ v.2 ∧ v.2 ≤ 4 ∧ v.1 = (sumW l (keys4.take v.2.toNat) : Nat) ∧ v.1 ≤ 16 * v.2) (fun v => (4 - v.2).toNat) (fun _ => some true) ?_ FU (0, 0) ⟨Int.le_refl _, by simp, by simp [sumW], by simp⟩ (by have := FU_big; simp only; omega)
  rintro again ⟨n, v⟩ ⟨h1, h2, h3, h4⟩ hag
  simp only at h1 h2 h3 h4
  obtain ⟨k, rfl⟩ : ∃ k : Nat, v = k := ⟨v.toNat, by omega⟩
  simp only [Int.toNat_natCast] at h3
  unfold law20_HistoryWrites_l4
  simp only
  by_cases c : (k : Int) < 4
  · have hk : k < keys4.length := by show k < 4; omega
    have hkey : aidx 4 ([(ByteArray.mk #[97]), (ByteArray.mk #[98]), (ByteArray.mk #[99]), (ByteArray.mk #[100])]) (k : Int) = some keys4[k] := by
      show aidx 4 keys4 (k : Int) = _
      unfold aidx
      rw [if_pos (by omega), Int.toNat_natCast]
      exact List.getElem?_eq_getElem hk
    have hst := sumW_take l keys4 k hk
    rw [if_pos (by simpa using c), hkey]
    simp only [Option.bind_some]
    rw [history_Writes_eq (by omega), Option.bind_some, history_Greatest_eq (by omega), Option.bind_some]
    generalize hw : wrK l keys4[k] = w at hst
    have hwl : w.length ≤ 16 := by have := wrK_len l keys4[k]; rw [hw] at this; omega
    have hpos : ∀ x, x ∈ w → lessP ⟨0, 0⟩ x = true := by
      intro x hx
      rw [← hw] at hx
      obtain ⟨e, he, rfl⟩ := List.mem_map.1 hx
      obtain ⟨he, hk1⟩ := List.mem_filter.1 he
      obtain ⟨i, hi, rfl, g1, -⟩ := h.good.mem he
      simp only [Bool.and_eq_true, decide_eq_true_eq] at hk1
      exact zero_leS (right_stamp g1 hk1.1)
    obtain ⟨g1, g2⟩ := foldMax_le w ⟨0, 0⟩
    generalize hm : w.foldl maxS ⟨0, 0⟩ = m at g1 g2
    have hmem : w ≠ [] → m ∈ w := by
      intro hne
      rcases foldMax_mem w ⟨0, 0⟩ with e | e
      · exfalso
        obtain ⟨x, hx⟩ := List.exists_mem_of_ne_nil w hne
        have := g2 x hx
        rw [hm] at e
        rw [e] at this
        unfold leS at this
        rw [hpos x hx] at this; cases this
      · rw [hm] at e; exact e
    have hk6 : ∀ b : Bool, (w = [] → b = true) → law20_HistoryWrites_k6 again (n, (k : Int)) w m b = some true := by
      intro b hb
      unfold law20_HistoryWrites_k6
      refine loopF_inv (fun (v : Bool × Int) => 0 ≤ v.2 ∧ v.2 ≤ (w.length : Int) ∧ (v.1 = true ∨ (w ≠ [] ∧ m ∉ w.take v.2.toNat))) (fun v => ((w.length : Int) - v.2).toNat) (fun _ => some true) ?_ FU (b, 0) ⟨Int.le_refl _, by simp, ?_⟩ (by have := FU_big; simp only; omega)
      · rintro again2 ⟨q, v⟩ ⟨h5, h6, h7⟩ hag2
        simp only at h5 h6 h7
        obtain ⟨i, rfl⟩ : ∃ i : Nat, v = i := ⟨v.toNat, by omega⟩
        simp only [Int.toNat_natCast] at h7
        unfold law20_HistoryWrites_l8
        simp only
        by_cases c2 : (i : Int) < (w.length : Int)
        · have hi : i < w.length := by omega
          have hle : lessP m w[i] = false := g2 _ (List.getElem_mem hi)
          rw [if_pos (by simpa using c2), idx_at hi]
          simp only [Option.bind_some]
          rw [ref03_Less_eq, hle, wrap64 (by omega) (by omega), stampEq]
          simp only [Option.bind_some, Bool.false_eq_true, if_false]
          cases q with
          | true => exact hag2 _ ⟨by simp only; omega, by simp only; omega, .inl rfl⟩ (by simp only; omega)
          | false =>
            refine hag2 _ ⟨by simp only; omega, by simp only; omega, ?_⟩ (by simp only; omega)
            simp only [show ((i : Int) + 1).toNat = i + 1 by omega]
            by_cases e : w[i] = m
            · exact .inl (decide_eq_true e)
            · refine .inr ⟨fun e => by subst e; simp at hi, fun hx => ?_⟩
              rw [take_snoc' hi] at hx
              rcases List.mem_append.1 hx with hx | hx
              · rcases h7 with h7 | h7
                · cases h7
                · exact h7.2 hx
              · simp at hx
                exact e hx.symm
        · rw [if_neg (by simpa using c2)]
          have hq : q = true := by
            rcases h7 with h7 | h7
            · exact h7
            · rw [List.take_of_length_le (by omega)] at h7
              exact absurd (hmem h7.1) h7.2
          subst hq
          unfold law20_HistoryWrites_k7 law20_HistoryWrites_k5
          simp only [Bool.not_true, Bool.false_eq_true, if_false]
          rw [wrap64 (by omega) (by omega), wrap64 (by omega) (by omega)]
          exact hag _ ⟨by simp only; omega, by simp only; omega, by simp only [show ((k : Int) + 1).toNat = k + 1 by omega]; rw [hst]; omega, by simp only; omega⟩ (by simp only; omega)
      · by_cases e : w = []
        · exact .inl (hb e)
        · exact .inr ⟨e, by simp⟩
    by_cases c3 : (w.length : Int) = 0
    · rw [if_pos (by simpa using c3)]
      have hw0 : w = [] := List.length_eq_zero_iff.1 (by omega)
      refine hk6 _ fun _ => ?_
      rw [← hm, hw0]
      rfl
    · rw [if_neg (by simpa using c3)]
      exact hk6 _ fun e => absurd e (fun e => c3 (by rw [e]; rfl))
  · rw [if_neg (by simpa using c)]
    have hk4 : k = 4 := by omega
    subst hk4
    have h3 : n = (sumW l keys4 : Nat) := h3
    rw [sumW_all fun e he => (h.each e he).1] at h3
    unfold law20_HistoryWrites_k1
    refine loopF_inv (fun (v : Int × Int) => 0 ≤ v.2 ∧ v.2 ≤ (l.length : Int) ∧ v.1 = (cntW (l.take v.2.toNat) : Nat) ∧ v.1 ≤ v.2) (fun v => ((l.length : Int) - v.2).toNat) (fun _ => some true) ?_ FU (0, 0) ⟨Int.le_refl _, by simp, by simp [cntW], by simp⟩ (by have := FU_big; simp only; omega)
    rintro again2 ⟨m, v⟩ ⟨h5, h6, h7, h8⟩ hag2
    simp only at h5 h6 h7 h8
    obtain ⟨i, rfl⟩ : ∃ i : Nat, v = i := ⟨v.toNat, by omega⟩
    simp only [Int.toNat_natCast] at h7
    unfold law20_HistoryWrites_l3
    simp only
    by_cases c2 : (i : Int) < (l.length : Int)
    · have hi : i < l.length := by omega
      have hc := cntW_snoc (l.take i) l[i]
      rw [← take_snoc' hi] at hc
      rw [if_pos (by simpa using c2), idx_at hi, Option.bind_some, wrap64 (by omega) (by omega), wrap64 (by omega) (by omega)]
      by_cases k1 : l[i].Kind = 1
      · rw [if_pos k1] at hc
        rw [if_pos (by simpa using k1)]
        exact hag2 _ ⟨by simp only; omega, by simp only; omega, by simp only [show ((i : Int) + 1).toNat = i + 1 by omega]; omega, by simp only; omega⟩ (by simp only; omega)
      · rw [if_neg k1] at hc
        rw [if_neg (by simpa using k1)]
        exact hag2 _ ⟨by simp only; omega, by simp only; omega, by simp only [show ((i : Int) + 1).toNat = i + 1 by omega]; omega, by simp only; omega⟩ (by simp only; omega)
    · rw [if_neg (by simpa using c2)]
      rw [List.take_of_length_le (by omega)] at h7
      unfold law20_HistoryWrites_k2
      rw [if_pos rfl, decide_eq_true (by omega)]
end Go.Ark
