/- Plain laws: pasts that are added to, put together, held against each other. Conditions: none but those that stand in each law. -/
import Derived.Test.YtdngcojjipaajaaPpast1
namespace Go.Ark
open Go Go.Ab Go.RowKit

theorem stamp_Max_eq {l : List Api_Stamp} (hl : l.length ≤ 140737488355328) : stamp_Max l = some (l.foldl maxS ⟨0, 0⟩) := by
  unfold stamp_Max
  refine loopF_inv (fun (v : Int × Int × Int) => 0 ≤ v.1 ∧ v.1 ≤ (l.length : Int)) (fun v => ((l.length : Int) - v.1).toNat) (fun v => some ((l.drop v.1.toNat).foldl maxS ⟨v.2.1, v.2.2⟩)) ?_ FU (0, 0, 0) ⟨Int.le_refl _, by simp⟩ (by have := FU_big; simp only; omega)
  rintro again ⟨i', n, t⟩ ⟨h1, h2⟩ hag
  simp only at h1 h2 ⊢
  obtain ⟨i, rfl⟩ : ∃ i : Nat, i' = i := ⟨i'.toNat, by omega⟩
  unfold stamp_Max_l2
  simp only
  by_cases c : (i : Int) < (l.length : Int)
  · have hi : i < l.length := by omega
    rw [if_pos (by simpa using c), idx_at hi]
    simp only [Option.bind_some, stamp_Less_eq, Int.toNat_natCast]
    rw [wrap64 (by omega) (by omega), List.drop_eq_getElem_cons hi, List.foldl_cons]
    have e : ((i : Int) + 1).toNat = i + 1 := by omega
    cases hq : lessP ⟨n, t⟩ l[i] with
    | true =>
      simp only [if_true]
      rw [hag _ ⟨by simp only; omega, by simp only; omega⟩ (by simp only; omega)]
      simp only [e]
      rw [show maxS ⟨n, t⟩ l[i] = l[i] by unfold maxS; rw [if_pos hq]]
    | false =>
      simp only [Bool.false_eq_true, if_false]
      rw [hag _ ⟨by simp only; omega, by simp only; omega⟩ (by simp only; omega)]
      simp only [e]
      rw [show maxS ⟨n, t⟩ l[i] = ⟨n, t⟩ by unfold maxS; rw [if_neg (by simp [hq])]]
  · rw [if_neg (by simpa using c)]
    simp only [Int.toNat_natCast]
    rw [List.drop_of_length_le (by omega)]
    rfl

theorem stamp_Max_two {a b : Api_Stamp} (ha : okStamp a = true) : stamp_Max [a, b] = some (maxS a b) := by
  rw [stamp_Max_eq (by simp)]
  simp only [List.foldl_cons, List.foldl_nil]
  rw [show maxS ⟨0, 0⟩ a = a by unfold maxS; rw [if_pos (zero_leS ha)]]

theorem insD_new {d : Api_Dep} : ∀ {p : List Api_Dep} {n : Nat}, n ≤ p.length → (∀ j (hj : j < p.length), j < n → slt p[j].Key d.Key = true) → (∀ j (hj : j < p.length), n ≤ j → slt p[j].Key d.Key = false) →
    (∀ x, x ∈ p → x.Key ≠ d.Key) → insD d p = p.take n ++ d :: p.drop n
  | [], n, h0, _, _, _ => by
    have : n = 0 := by simpa using h0
    subst this; rfl
  | x :: p, 0, _, _, h2, hn => by
    have h : slt d.Key x.Key = true := by
      cases h3 : slt d.Key x.Key with
      | true => rfl
      | false => exact absurd (slt_tri (h2 0 (by simp) (Nat.le_refl _)) h3) (hn x (by simp))
    rw [insD, if_neg (hn x (by simp)), if_pos h]; rfl
  | x :: p, n + 1, h0, h1, h2, hn => by
    have h : slt d.Key x.Key = false := slt_asymm (h1 0 (by simp) (Nat.succ_pos _))
    rw [insD, if_neg (hn x (by simp)), if_neg (by simp [h]), insD_new (p := p) (n := n) (by simpa using h0) (fun j hj hjn => h1 (j + 1) (Nat.succ_lt_succ hj) (Nat.succ_lt_succ hjn)) (fun j hj hjn => h2 (j + 1) (Nat.succ_lt_succ hj) (Nat.succ_le_succ hjn)) (fun y hy => hn y (by simp [hy]))]
    rfl

theorem insD_old {d : Api_Dep} : ∀ {p : List Api_Dep}, sortedP p → ∀ {n : Nat} (hn : n < p.length), p[n].Key = d.Key → insD d p = p.set n ⟨p[n].Key, maxS p[n].Stamp d.Stamp⟩
  | [], _, n, hn, _ => by simp at hn
  | x :: p, _, 0, _, hk => by
    have hk : x.Key = d.Key := hk
    rw [insD, if_pos hk]
    simp only [List.getElem_cons_zero, List.set_cons_zero]
    unfold maxS
    split
    · rw [hk]
    · rfl
  | x :: p, hs, n + 1, hn, hk => by
    obtain ⟨h1, h2⟩ := List.pairwise_cons.1 hs
    have hn' : n < p.length := by simpa using hn
    have hk : p[n].Key = d.Key := hk
    have hlt := h1 p[n] (List.getElem_mem hn')
    rw [hk] at hlt
    rw [insD, if_neg (slt_ne hlt), if_neg (by rw [slt_asymm hlt]; simp), insD_old h2 hn' hk]
    simp

theorem past_Add_eq {p : List Api_Dep} (hs : sortedP p) (ho : ∀ d, d ∈ p → okDep d = true) (hl : p.length < 1099511627776) {d : Api_Dep} (hk : d.Key.size ≤ 9223372036854775807) : past_Add p d = some (addP p d) := by
  obtain ⟨i, hi, hlo, hhi, he⟩ := bsearch hs (by omega) d.Key
  unfold past_Add past_find addP
  rw [he, past_may_eq hk]
  simp only [Option.bind_some]
  cases hok : okDep d with
  | false => simp
  | true =>
    simp only [Bool.not_true, Bool.false_eq_true, if_false, if_true]
    rw [addGo_sorted hs]
    have hclone : slices_Clone_Dep p = some p := slices_Clone_Dep_eq (by omega) (by omega)
    by_cases c : ∃ h : i < p.length, p[i].Key = d.Key
    · obtain ⟨h1, h2⟩ := c
      simp only [h1, h2, exists_true_left, decide_true, Bool.not_true, Bool.false_eq_true, if_false]
      rw [hclone]
      simp only [Option.bind_some, idx_at h1]
      have h3 : okStamp p[i].Stamp = true := by
        have := ho p[i] (List.getElem_mem h1)
        unfold okDep at this
        simp only [Bool.and_eq_true] at this
        exact this.2
      rw [stamp_Max_two h3]
      simp only [Option.bind_some]
      unfold sets
      rw [if_pos ⟨by omega, by omega⟩]
      simp only [Option.bind_some, Int.toNat_natCast]
      rw [insD_old hs h1 h2]
    · rw [decide_eq_false c]
      simp only [Bool.not_false, if_true]
      rw [hclone]
      simp only [Option.bind_some]
      unfold slices_Insert_Dep insL
      simp only
      rw [if_pos ⟨by omega, by omega, by omega, by omega⟩]
      simp only [Option.bind_some, Int.toNat_natCast]
      rw [insD_new hi hlo hhi fun x hx e => ?_]
      obtain ⟨j, hj, rfl⟩ := List.getElem_of_mem hx
      rcases Nat.lt_trichotomy j i with h | h | h
      · exact slt_ne (hlo j hj h) e
      · subst h; exact c ⟨hj, e⟩
      · have h3 := hhi i (by omega) (Nat.le_refl _)
        have := sortedP_lt hs h hj
        rw [e] at this
        rw [this] at h3; cases h3

theorem mergeFold_ok : ∀ (l : List (List Api_Dep)) {acc : List Api_Dep}, (∀ d, d ∈ acc → okDep d = true) → ∀ d, d ∈ l.foldl foldP acc → okDep d = true
  | [], _, h => h
  | p :: l, _, h => mergeFold_ok l (foldP_ok p h)

theorem past_Merge_eq {l : List (List Api_Dep)} (hk : ∀ p, p ∈ l → ∀ d, d ∈ p → d.Key.size ≤ 9223372036854775807) (hl : (l.map List.length).sum < 1099511627776) (hll : l.length < 1099511627776) : past_Merge l = some (mergeP l) := by
  unfold past_Merge mergeP
  refine loopF_inv (fun (v : List Api_Dep × Int) => 0 ≤ v.2 ∧ v.2 ≤ (l.length : Int) ∧ v.1.length + ((l.drop v.2.toNat).map List.length).sum < 1099511627776 ∧ sortedP v.1 ∧ ∀ d, d ∈ v.1 → okDep d = true) (fun v => ((l.length : Int) - v.2).toNat)
    (fun v => some ((l.drop v.2.toNat).foldl foldP v.1)) ?_ FU ([], 0) ⟨Int.le_refl _, by simp, by simpa using hl, List.Pairwise.nil, fun d h => by simp at h⟩ (by have := FU_big; simp only; omega)
  rintro again ⟨acc, v⟩ ⟨h1, h2, h3, hs, ho⟩ hag
  simp only at h1 h2 h3 hs ho ⊢
  unfold past_Merge_l2
  simp only
  by_cases c : v < (l.length : Int)
  · obtain ⟨i, rfl⟩ : ∃ i : Nat, v = i := ⟨v.toNat, by omega⟩
    have hi : i < l.length := by omega
    have e : IntKind.wrap .i64 ((i : Int) + 1) = ((i + 1 : Nat) : Int) := by rw [wrap64 (by omega) (by omega)]; omega
    simp only [Int.toNat_natCast] at h3 ⊢
    rw [List.drop_eq_getElem_cons hi] at h3 ⊢
    simp only [List.map_cons, List.sum_cons] at h3
    rw [if_pos (by simpa using c), List.foldl_cons, idx_at hi]
    simp only [Option.bind_some]
    refine loopF_inv (fun (v : List Api_Dep × Int) => 0 ≤ v.2 ∧ v.2 ≤ (l[i].length : Int) ∧ v.1.length + (l[i].drop v.2.toNat).length ≤ acc.length + l[i].length ∧ foldP v.1 (l[i].drop v.2.toNat) = foldP acc l[i] ∧ sortedP v.1 ∧ ∀ d, d ∈ v.1 → okDep d = true)
      (fun v => ((l[i].length : Int) - v.2).toNat) (fun _ => some ((l.drop (i + 1)).foldl foldP (foldP acc l[i]))) ?_ FU (acc, 0) ⟨Int.le_refl _, by simp, by simp, by simp, hs, ho⟩ (by have := FU_big; simp only; omega)
    rintro again2 ⟨acc2, q⟩ ⟨h4, h5, h6, h7, hs2, ho2⟩ hag2
    simp only at h4 h5 h6 h7 hs2 ho2
    unfold past_Merge_l5
    simp only
    by_cases c2 : q < (l[i].length : Int)
    · obtain ⟨j, rfl⟩ : ∃ j : Nat, q = j := ⟨q.toNat, by omega⟩
      have hj : j < l[i].length := by omega
      have e2 : IntKind.wrap .i64 ((j : Int) + 1) = ((j + 1 : Nat) : Int) := by rw [wrap64 (by omega) (by omega)]; omega
      simp only [Int.toNat_natCast] at h6 h7
      rw [List.drop_eq_getElem_cons hj] at h6 h7
      simp only [List.length_cons] at h6
      rw [if_pos (by simpa using c2), idx_at hj]
      simp only [Option.bind_some]
      rw [past_Add_eq hs2 ho2 (by omega) (hk _ (List.getElem_mem hi) _ (List.getElem_mem hj)), e2]
      simp only [Option.bind_some]
      have h8 := addP_length acc2 l[i][j]
      refine hag2 _ ⟨by simp only; omega, by simp only; omega, by simp only [Int.toNat_natCast]; omega, ?_, addP_sorted hs2, addP_ok ho2 _⟩ (by simp only; omega)
      simp only [Int.toNat_natCast]
      rw [← h7]
      rfl
    · rw [if_neg (by simpa using c2)]
      rw [List.drop_of_length_le (by omega)] at h7
      have h7 : acc2 = foldP acc l[i] := h7
      subst h7
      unfold past_Merge_k4 past_Merge_k3
      simp only
      rw [e]
      have h8 := foldP_length l[i] acc
      rw [hag _ ⟨by simp only; omega, by simp only; omega, by simp only [Int.toNat_natCast]; omega, hs2, ho2⟩ (by simp only; omega)]
      simp only [Int.toNat_natCast]
  · rw [if_neg (by simpa using c)]
    rw [List.drop_of_length_le (by omega)]
    rfl

theorem past_Covers_eq {p q : List Api_Dep} (hs : sortedP p) (hp : p.length ≤ 140737488355328) (hl : q.length ≤ 140737488355328) : past_Covers p q = some (coversP p q) := by
  unfold past_Covers slices_ContainsFunc_Dep
  rw [slices_IndexFunc_Dep_eq (p := fun d => lessP (getP p d.Key) d.Stamp) (fun x _ => by unfold past_Covers_1; rw [past_Get_eq hs hp]; simp only [Option.bind_some, stamp_Less_eq]) hl]
  simp only [Option.bind_some]
  unfold coversP
  rcases fidx_cases (fun d : Api_Dep => lessP (getP p d.Key) d.Stamp) q with ⟨i, hi, h1, h2, h3⟩ | ⟨h1, h2⟩
  · rw [h3, decide_eq_true (by omega)]
    have : (q.all fun d => !lessP (getP p d.Key) d.Stamp) = false := List.all_eq_false.2 ⟨q[i], List.getElem_mem hi, by simp [h1]⟩
    rw [this]; rfl
  · rw [h2, decide_eq_false (by omega)]
    have : (q.all fun d => !lessP (getP p d.Key) d.Stamp) = true := List.all_eq_true.2 fun d hd => by simp [h1 d hd]
    rw [this]; rfl

theorem okDep_stamp {d : Api_Dep} (h : okDep d = true) : okStamp d.Stamp = true := by
  unfold okDep at h
  simp only [Bool.and_eq_true] at h
  exact h.2
end Go.Ark
