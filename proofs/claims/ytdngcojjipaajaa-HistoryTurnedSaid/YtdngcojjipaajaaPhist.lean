/- Plain laws: rows of events, what was seen behind them, which of them are right. Conditions: none but those that stand in each law. -/
import Derived.Test.YtdngcojjipaajaaPpast2
import Derived.Test.YtdngcojjipaajaaPlib3
import Derived.Test.YtdngcojjipaajaaFhistory
import Derived.Test.YtdngcojjipaajaaFref20
namespace Go.Ark
open Go Go.Ab Go.RowKit

/-! ### lists -/
theorem contains_Dep_eq {s : List Api_Dep} {f : Api_Dep → Option Bool} {p : Api_Dep → Bool} (hf : ∀ x, x ∈ s → f x = some (p x)) (hl : s.length ≤ 140737488355328) : slices_ContainsFunc_Dep s f = some (s.any p) := by
  unfold slices_ContainsFunc_Dep
  rw [slices_IndexFunc_Dep_eq hf hl, Option.bind_some, fidx_any]
theorem slices_Index_string_eq {s : List ByteArray} (v : ByteArray) (hl : s.length ≤ 140737488355328) : slices_Index_string s v = some (fidx (fun x => decide (v = x)) s) := by
  unfold slices_Index_string
  refine loopF_inv (fun i => 0 ≤ i ∧ i ≤ (s.length : Int) ∧ ∀ j (hj : j < s.length), (j : Int) < i → decide (v = s[j]) = false) (fun i => (s.length - i).toNat) (fun _ => some (fidx (fun x => decide (v = x)) s)) ?_ FU _ ⟨Int.le_refl _, by omega, fun j _ h => by omega⟩ (by have := FU_big; omega)
  rintro again i ⟨h1, h2, h3⟩ hag
  unfold slices_Index_string_l2
  by_cases c : i < (s.length : Int)
  · obtain ⟨i, rfl⟩ : ∃ k : Nat, i = k := ⟨i.toNat, by omega⟩
    have hi : i < s.length := by omega
    rw [if_pos (by simpa using c), idx_at hi]
    simp only [Option.bind_some, seq_eq]
    cases hp : decide (v = s[i]) with
    | true => simp only [if_true]; rw [fidx_some hi hp (fun j hj h => h3 j hj (by omega))]
    | false =>
      simp only [Bool.false_eq_true, if_false]
      rw [wrap64 (by omega) (by omega)]
      refine hag _ ⟨by omega, by omega, fun j hj h => ?_⟩ (by omega)
      by_cases e : j = i
      · subst e; exact hp
      · exact h3 j hj (by omega)
  · rw [if_neg (by simpa using c)]
    unfold slices_Index_string_k1
    rw [fidx_none fun j hj => h3 j hj (by omega)]
theorem contains_string_eq {s : List ByteArray} (v : ByteArray) (hl : s.length ≤ 140737488355328) : slices_Contains_string s v = some (s.any fun x => decide (v = x)) := by
  unfold slices_Contains_string
  rw [slices_Index_string_eq v hl, Option.bind_some, fidx_any]

theorem ref03_Max_eq {l : List Api_Stamp} (hl : l.length ≤ 140737488355328) : ref03_Max l = some (l.foldl maxS ⟨0, 0⟩) := by
  unfold ref03_Max
  refine loopL (pk := fun (s : Api_Stamp) i => (i, s.N, s.Site)) l (fun l s => some (l.foldl maxS s)) (fun _ _ => True) (fun again s _ => ?_) (fun again i s h _ hag => ?_) (s0 := ⟨0, 0⟩) trivial (by omega)
  · unfold ref03_Max_l2
    rw [if_neg (by simp)]
    rfl
  · unfold ref03_Max_l2
    rw [if_pos (by simpa using h), idx_at h]
    simp only [Option.bind_some, ref03_Less_eq]
    rw [wrap64 (by omega) (by omega)]
    cases hc : lessP s l[i] with
    | true =>
      simp only [if_true]
      rw [hag l[i] trivial, List.foldl_cons, show maxS s l[i] = l[i] by simp [maxS, hc]]
    | false =>
      simp only [Bool.false_eq_true, if_false]
      rw [hag s trivial, List.foldl_cons, show maxS s l[i] = s by simp [maxS, hc]]

/-! ### events -/
/-- sizes that a machine holds -/
structure EvS (e : Api_Event) : Prop where
  key : e.Key.size ≤ 1099511627776
  seen : e.Seen.length ≤ 1099511
  keys : ∀ d, d ∈ e.Seen → d.Key.size ≤ 1099511627776
def behE (e : Api_Event) : List Api_Dep := mergeP [e.Seen, [⟨e.Key, e.Stamp⟩]]
def behP (l : List Api_Event) (i : Int) : List Api_Dep := if i < 0 then [] else match l[i.toNat]? with | some e => behE e | none => []
theorem behE_len (e : Api_Event) : (behE e).length ≤ e.Seen.length + 1 := by
  have := mergeFold_length [e.Seen, [⟨e.Key, e.Stamp⟩]] []
  simpa [behE, mergeP] using this
theorem behE_sorted (e : Api_Event) : sortedP (behE e) := mergeFold_sorted _ _ List.Pairwise.nil
theorem behE_ok (e : Api_Event) : ∀ d, d ∈ behE e → okDep d = true := mergeFold_ok _ (fun d h => by simp at h)
theorem behE_mem {e : Api_Event} {d : Api_Dep} (h : d ∈ behE e) : d ∈ e.Seen ∨ d = ⟨e.Key, e.Stamp⟩ := by
  rcases mergeFold_mem _ _ h with h | ⟨p, hp, hd⟩
  · simp at h
  · simp at hp
    rcases hp with rfl | rfl
    · exact .inl hd
    · exact .inr (by simpa using hd)

theorem merge_beh {e : Api_Event} (h : EvS e) : past_Merge [e.Seen, [⟨e.Key, e.Stamp⟩]] = some (behE e) ∧ ref04_Merge [e.Seen, [⟨e.Key, e.Stamp⟩]] = some (behE e) := by
  have h1 : ∀ p, p ∈ [e.Seen, [(⟨e.Key, e.Stamp⟩ : Api_Dep)]] → ∀ d, d ∈ p → d.Key.size ≤ 9223372036854775807 := by
    intro p hp d hd
    simp at hp
    rcases hp with rfl | rfl
    · have := h.keys d hd; omega
    · have := h.key
      simp at hd; subst hd; simp; omega
  have h2 : ([e.Seen, [(⟨e.Key, e.Stamp⟩ : Api_Dep)]].map List.length).sum < 1099511627776 := by
    have := h.seen
    simp; omega
  exact ⟨past_Merge_eq h1 h2 (by simp), ref04_Merge_eq h1 h2 (by simp)⟩
theorem behP_at {l : List Api_Event} {i : Nat} (h : i < l.length) : behP l (i : Int) = behE l[i] := by
  unfold behP
  rw [if_neg (by omega), Int.toNat_natCast, List.getElem?_eq_getElem h]
theorem history_Behind_eq {l : List Api_Event} (hs : ∀ e, e ∈ l → EvS e) (i : Int) : history_Behind l i = some (behP l i) := by
  unfold history_Behind
  by_cases c : i < 0
  · rw [if_pos (by simpa using c)]
    unfold history_Behind_k1 behP
    rw [if_pos rfl, if_pos c]
  · rw [if_neg (by simpa using c)]
    unfold history_Behind_k1
    by_cases c2 : (l.length : Int) ≤ i
    · rw [if_pos (by simpa using c2)]
      unfold behP
      rw [if_neg c, List.getElem?_eq_none (by omega)]
    · obtain ⟨n, rfl⟩ : ∃ n : Nat, i = n := ⟨i.toNat, by omega⟩
      have hn : n < l.length := by omega
      rw [if_neg (by simpa using c2), idx_at hn]
      simp only [Option.bind_some]
      rw [(merge_beh (hs _ (List.getElem_mem hn))).1, behP_at hn]
      rfl
theorem ref20_Behind_eq {l : List Api_Event} (hs : ∀ e, e ∈ l → EvS e) (i : Int) : ref20_Behind l i = some (behP l i) := by
  unfold ref20_Behind
  by_cases c : i < 0
  · rw [if_pos (by simpa using c)]
    unfold ref20_Behind_k1 behP
    rw [if_pos rfl, if_pos c]
  · rw [if_neg (by simpa using c)]
    unfold ref20_Behind_k1
    by_cases c2 : (l.length : Int) ≤ i
    · rw [if_pos (by simpa using c2)]
      unfold behP
      rw [if_neg c, List.getElem?_eq_none (by omega)]
    · obtain ⟨n, rfl⟩ : ∃ n : Nat, i = n := ⟨i.toNat, by omega⟩
      have hn : n < l.length := by omega
      rw [if_neg (by simpa using c2), idx_at hn]
      simp only [Option.bind_some]
      rw [(merge_beh (hs _ (List.getElem_mem hn))).2, behP_at hn]
      rfl

/-! ### is what was seen a past? -/
theorem history_row_eq {p : List Api_Dep} (hl : p.length ≤ 140737488355328) (hk : ∀ d, d ∈ p → d.Key.size ≤ 9223372036854775807) : history_row p = some (chainP none p) := by
  unfold history_row
  refine loopF_inv (fun (v : Int) => 0 ≤ v ∧ v ≤ (p.length : Int) ∧ chainP none p = chainP (if 0 < v then (p[v.toNat - 1]?).map (·.Key) else none) (p.drop v.toNat)) (fun v => ((p.length : Int) - v).toNat) (fun _ => some (chainP none p)) ?_ FU 0 ⟨Int.le_refl _, by omega, by simp⟩ (by have := FU_big; omega)
  rintro again v ⟨h1, h2, h3⟩ hag
  obtain ⟨i, rfl⟩ : ∃ i : Nat, v = i := ⟨v.toNat, by omega⟩
  unfold history_row_l2
  simp only [Int.toNat_natCast] at h3
  by_cases c : (i : Int) < (p.length : Int)
  · have hi : i < p.length := by omega
    rw [List.drop_eq_getElem_cons hi, chainP_cons, okDep] at h3
    rw [if_pos (by simpa using c), idx_at hi]
    simp only [Option.bind_some, keys_Check_eq (hk _ (List.getElem_mem hi)), stamp_Check_eq]
    cases hd1 : okKey p[i].Key with
    | false => rw [hd1] at h3; simp [h3]
    | true =>
    cases hd2 : okStamp p[i].Stamp with
    | false => rw [hd1, hd2] at h3; simp [h3]
    | true =>
      rw [hd1, hd2] at h3
      simp only [Bool.not_true, Bool.false_eq_true, if_false, Bool.true_and] at h3 ⊢
      have hgo : chainP none p = chainP (some p[i].Key) (p.drop (i + 1)) → again (IntKind.wrap .i64 ((i : Int) + 1)) = some (chainP none p) := fun hc => by
        rw [wrap64 (by omega) (by omega)]
        refine hag _ ⟨by omega, by omega, ?_⟩ (by omega)
        rw [hc, if_pos (by omega), show ((i : Int) + 1).toNat = i + 1 by omega, Nat.add_sub_cancel, List.getElem?_eq_getElem hi]
        rfl
      by_cases c0 : 0 < (i : Int)
      · obtain ⟨q, rfl⟩ : ∃ q, i = q + 1 := ⟨i - 1, by omega⟩
        rw [if_pos (by simp), wrap64 (by omega) (by omega), show (((q + 1 : Nat) : Int) - 1) = (q : Int) by omega, idx_at (by omega)]
        rw [if_pos c0, Nat.add_sub_cancel, List.getElem?_eq_getElem (by omega)] at h3
        simp only [Option.bind_some, Option.map_some] at h3 ⊢
        cases hs : slt (p[q]'(by omega)).Key p[q + 1].Key with
        | false => rw [hs] at h3; simp [h3]
        | true =>
          rw [hs] at h3
          simp only [Bool.not_true, Bool.false_eq_true, if_false, Bool.true_and] at h3 ⊢
          exact hgo h3
      · rw [if_neg (by simpa using c0)]
        rw [if_neg c0] at h3
        simp only [Bool.true_and] at h3
        exact hgo h3
  · rw [if_neg (by simpa using c)]
    have : i = p.length := by omega
    subst this
    rw [List.drop_length, chainP_nil] at h3
    unfold history_row_k1
    rw [h3]
theorem ref20_row_eq {p : List Api_Dep} (hl : p.length ≤ 140737488355328) (hk : ∀ d, d ∈ p → d.Key.size ≤ 9223372036854775807) : ref20_row p = some (chainP none p) := by
  unfold ref20_row
  refine loopF_inv (fun (v : Int) => 0 ≤ v ∧ v ≤ (p.length : Int) ∧ chainP none p = chainP (if 0 < v then (p[v.toNat - 1]?).map (·.Key) else none) (p.drop v.toNat)) (fun v => ((p.length : Int) - v).toNat) (fun _ => some (chainP none p)) ?_ FU 0 ⟨Int.le_refl _, by omega, by simp⟩ (by have := FU_big; omega)
  rintro again v ⟨h1, h2, h3⟩ hag
  obtain ⟨i, rfl⟩ : ∃ i : Nat, v = i := ⟨v.toNat, by omega⟩
  unfold ref20_row_l2
  simp only [Int.toNat_natCast] at h3
  by_cases c : (i : Int) < (p.length : Int)
  · have hi : i < p.length := by omega
    rw [List.drop_eq_getElem_cons hi, chainP_cons, okDep] at h3
    rw [if_pos (by simpa using c), idx_at hi]
    simp only [Option.bind_some, ref02_Check_eq (hk _ (List.getElem_mem hi)), ref03_Check_eq]
    cases hd1 : okKey p[i].Key with
    | false => rw [hd1] at h3; simp [h3]
    | true =>
    cases hd2 : okStamp p[i].Stamp with
    | false => rw [hd1, hd2] at h3; simp [h3]
    | true =>
      rw [hd1, hd2] at h3
      simp only [Bool.not_true, Bool.false_eq_true, if_false, Bool.true_and] at h3 ⊢
      have hgo : chainP none p = chainP (some p[i].Key) (p.drop (i + 1)) → again (IntKind.wrap .i64 ((i : Int) + 1)) = some (chainP none p) := fun hc => by
        rw [wrap64 (by omega) (by omega)]
        refine hag _ ⟨by omega, by omega, ?_⟩ (by omega)
        rw [hc, if_pos (by omega), show ((i : Int) + 1).toNat = i + 1 by omega, Nat.add_sub_cancel, List.getElem?_eq_getElem hi]
        rfl
      by_cases c0 : 0 < (i : Int)
      · obtain ⟨q, rfl⟩ : ∃ q, i = q + 1 := ⟨i - 1, by omega⟩
        rw [if_pos (by simp), wrap64 (by omega) (by omega), show (((q + 1 : Nat) : Int) - 1) = (q : Int) by omega, idx_at (by omega)]
        rw [if_pos c0, Nat.add_sub_cancel, List.getElem?_eq_getElem (by omega)] at h3
        simp only [Option.bind_some, Option.map_some] at h3 ⊢
        cases hs : slt (p[q]'(by omega)).Key p[q + 1].Key with
        | false => rw [hs] at h3; simp [h3]
        | true =>
          rw [hs] at h3
          simp only [Bool.not_true, Bool.false_eq_true, if_false, Bool.true_and] at h3 ⊢
          exact hgo h3
      · rw [if_neg (by simpa using c0)]
        rw [if_neg c0] at h3
        simp only [Bool.true_and] at h3
        exact hgo h3
  · rw [if_neg (by simpa using c)]
    have : i = p.length := by omega
    subst this
    rw [List.drop_length, chainP_nil] at h3
    unfold ref20_row_k1
    rw [h3]
end Go.Ark
