/- Plain laws: cuts. Conditions: none but those that stand in each law. -/
import Derived.Test.YtimklpfnpmjdcaaPpast2
import Derived.Test.YtimklpfnpmjdcaaPlib2
import Derived.Test.YtimklpfnpmjdcaaFcut
import Derived.Test.YtimklpfnpmjdcaaFref19
namespace Go.Ark
open Go Go.Ab Go.RowKit

/-- the greatest stamp of a key -/
def ofP (l : List Api_Version) (key : ByteArray) : Api_Stamp := ((l.filter fun v => decide (v.Key = key)).map (·.Stamp)).foldl maxS ⟨0, 0⟩

theorem cut_Of_eq {l : List Api_Version} (hl : l.length ≤ 1099511627776) (key : ByteArray) : cut_Of l key = some (ofP l key) := by
  unfold cut_Of
  refine loopF_inv (fun (v : Int × List Api_Stamp) => 0 ≤ v.1 ∧ v.1 ≤ (l.length : Int) ∧ (v.2.length : Int) ≤ v.1 ∧ v.2 ++ (((l.drop v.1.toNat).filter fun v => decide (v.Key = key)).map (·.Stamp)) = ((l.filter fun v => decide (v.Key = key)).map (·.Stamp)))
    (fun v => ((l.length : Int) - v.1).toNat) (fun _ => some (ofP l key)) ?_ FU (0, []) ⟨Int.le_refl _, by simp, by simp, by simp⟩ (by have := FU_big; simp only; omega)
  rintro again ⟨i', o⟩ ⟨h1, h2, h3, h4⟩ hag
  simp only at h1 h2 h3 h4
  obtain ⟨i, rfl⟩ : ∃ i : Nat, i' = i := ⟨i'.toNat, by omega⟩
  unfold cut_Of_l2
  simp only
  have e : ((i : Int) + 1).toNat = i + 1 := by omega
  simp only [Int.toNat_natCast] at h4
  by_cases c : (i : Int) < (l.length : Int)
  · have hi : i < l.length := by omega
    rw [if_pos (by simpa using c), idx_at hi]
    simp only [Option.bind_some, seq_eq]
    rw [List.drop_eq_getElem_cons hi, List.filter_cons] at h4
    rw [wrap64 (by omega) (by omega)]
    by_cases hk : l[i].Key = key
    · rw [if_pos (by simpa using hk), app_ok (by simp; omega) (by simp; omega)]
      simp only [Option.bind_some]
      rw [if_pos (by simpa using hk)] at h4
      exact hag _ ⟨by simp only; omega, by simp only; omega, by simp only [List.length_append, List.length_cons, List.length_nil]; omega, by simp only [e]; rw [← h4]; simp⟩ (by simp only; omega)
    · rw [if_neg (by simpa using hk)]
      rw [if_neg (by simpa using hk)] at h4
      exact hag _ ⟨by simp only; omega, by simp only; omega, by simp only; omega, by simp only [e]; exact h4⟩ (by simp only; omega)
  · rw [if_neg (by simpa using c)]
    rw [List.drop_of_length_le (by omega)] at h4
    have h4 : o = ((l.filter fun v => decide (v.Key = key)).map (·.Stamp)) := by simpa using h4
    unfold cut_Of_k1
    subst h4
    rw [stamp_Max_eq (by omega)]
    rfl

theorem ref19_Of_eq {l : List Api_Version} (hl : l.length ≤ 1099511627776) (key : ByteArray) : ref19_Of l key = some (ofP l key) := by
  unfold ref19_Of
  refine loopF_inv (fun (v : Int × Int × Int) => 0 ≤ v.1 ∧ v.1 ≤ (l.length : Int) ∧ ((((l.drop v.1.toNat).filter fun v => decide (v.Key = key)).map (·.Stamp))).foldl maxS ⟨v.2.1, v.2.2⟩ = ofP l key)
    (fun v => ((l.length : Int) - v.1).toNat) (fun _ => some (ofP l key)) ?_ FU (0, 0, 0) ⟨Int.le_refl _, by simp, rfl⟩ (by have := FU_big; simp only; omega)
  rintro again ⟨i', n, t⟩ ⟨h1, h2, h4⟩ hag
  simp only at h1 h2 h4
  obtain ⟨i, rfl⟩ : ∃ i : Nat, i' = i := ⟨i'.toNat, by omega⟩
  unfold ref19_Of_l2
  simp only
  have e : ((i : Int) + 1).toNat = i + 1 := by omega
  simp only [Int.toNat_natCast] at h4
  by_cases c : (i : Int) < (l.length : Int)
  · have hi : i < l.length := by omega
    rw [if_pos (by simpa using c), idx_at hi]
    simp only [Option.bind_some, seq_eq]
    rw [List.drop_eq_getElem_cons hi, List.filter_cons] at h4
    unfold ref19_Of_k3
    rw [wrap64 (by omega) (by omega)]
    by_cases hk : l[i].Key = key
    · rw [if_pos (by simpa using hk), ref03_Less_eq]
      simp only [Option.bind_some, idx_at hi]
      rw [if_pos (by simpa using hk), List.map_cons, List.foldl_cons] at h4
      unfold maxS at h4
      cases hq : lessP ⟨n, t⟩ l[i].Stamp with
      | true =>
        rw [if_pos hq] at h4
        simp only [if_true]
        exact hag _ ⟨by simp only; omega, by simp only; omega, by simp only [e]; exact h4⟩ (by simp only; omega)
      | false =>
        rw [if_neg (by simp [hq])] at h4
        simp only [Bool.false_eq_true, if_false]
        exact hag _ ⟨by simp only; omega, by simp only; omega, by simp only [e]; exact h4⟩ (by simp only; omega)
    · rw [if_neg (by simpa using hk)]
      rw [if_neg (by simpa using hk)] at h4
      simp only [Bool.false_eq_true, if_false]
      exact hag _ ⟨by simp only; omega, by simp only; omega, by simp only [e]; exact h4⟩ (by simp only; omega)
  · rw [if_neg (by simpa using c)]
    rw [List.drop_of_length_le (by omega)] at h4
    have h4 : (⟨n, t⟩ : Api_Stamp) = ofP l key := h4
    unfold ref19_Of_k1
    rw [← h4]

/-- what all hang on -/
def lowP (l : List Api_Version) (seen : List Api_Dep) : List Api_Dep := mergeP (seen :: l.map (·.Past))
/-- sizes that no version of a law passes -/
def smallL (l : List Api_Version) (seen : List Api_Dep) : Prop := l.length ≤ 100 ∧ seen.length ≤ 100000 ∧ (∀ d, d ∈ seen → d.Key.size ≤ 9223372036854775807) ∧ ∀ v, v ∈ l → v.Key.size ≤ 9223372036854775807 ∧ v.Past.length ≤ 100 ∧ ∀ d, d ∈ v.Past → d.Key.size ≤ 9223372036854775807

theorem sum_le : ∀ {l : List Api_Version}, (∀ v, v ∈ l → v.Past.length ≤ 100) → ((l.map (·.Past)).map List.length).sum ≤ 100 * l.length
  | [], _ => by simp
  | v :: l, h => by
    have h1 := sum_le (l := l) fun x hx => h x (by simp [hx])
    have h2 := h v (by simp)
    simp only [List.map_cons, List.sum_cons, List.length_cons]
    omega

theorem cut_Low_eq {l : List Api_Version} {seen : List Api_Dep} (hs : smallL l seen) : cut_Low l seen = some (lowP l seen) := by
  obtain ⟨hl, hsn, hk, hv⟩ := hs
  unfold cut_Low
  refine loopF_inv (fun (v : Int × List (List Api_Dep)) => 0 ≤ v.1 ∧ v.1 ≤ (l.length : Int) ∧ (v.2.length : Int) ≤ v.1 + 1 ∧ v.2 ++ (l.drop v.1.toNat).map (·.Past) = seen :: l.map (·.Past))
    (fun v => ((l.length : Int) - v.1).toNat) (fun _ => some (lowP l seen)) ?_ FU (0, [seen]) ⟨Int.le_refl _, by simp, by simp, by simp⟩ (by have := FU_big; simp only; omega)
  rintro again ⟨i', o⟩ ⟨h1, h2, h3, h4⟩ hag
  simp only at h1 h2 h3 h4
  obtain ⟨i, rfl⟩ : ∃ i : Nat, i' = i := ⟨i'.toNat, by omega⟩
  unfold cut_Low_l2
  simp only
  have e : ((i : Int) + 1).toNat = i + 1 := by omega
  simp only [Int.toNat_natCast] at h4
  by_cases c : (i : Int) < (l.length : Int)
  · have hi : i < l.length := by omega
    rw [if_pos (by simpa using c), idx_at hi]
    simp only [Option.bind_some]
    rw [List.drop_eq_getElem_cons hi, List.map_cons] at h4
    rw [wrap64 (by omega) (by omega), app_ok (by simp; omega) (by simp; omega)]
    simp only [Option.bind_some]
    exact hag _ ⟨by simp only; omega, by simp only; omega, by simp only [List.length_append, List.length_cons, List.length_nil]; omega, by simp only [e]; rw [← h4]; simp⟩ (by simp only; omega)
  · rw [if_neg (by simpa using c)]
    rw [List.drop_of_length_le (by omega)] at h4
    have h4 : o = seen :: l.map (·.Past) := by simpa using h4
    unfold cut_Low_k1
    subst h4
    have := sum_le (l := l) fun v h => (hv v h).2.1
    rw [past_Merge_eq (fun p hp d hd => ?_) (by simp only [List.map_cons, List.sum_cons]; omega) (by simp; omega)]
    · rfl
    · rcases List.mem_cons.1 hp with rfl | hp
      · exact hk d hd
      · obtain ⟨v, hv', rfl⟩ := List.mem_map.1 hp
        exact (hv v hv').2.2 d hd

/-- a past is put together of its deps, one by one -/
theorem foldP_append : ∀ {p acc : List Api_Dep}, sortedP (acc ++ p) → (∀ d, d ∈ p → okDep d = true) → foldP acc p = acc ++ p
  | [], acc, _, _ => by simp [foldP]
  | x :: p, acc, hs, ho => by
    have hx : addP acc x = acc ++ [x] := by
      unfold addP
      have hsa : sortedP acc := (List.pairwise_append.1 hs).1
      rw [if_pos (ho x (by simp)), addGo_sorted hsa, insD_new (n := acc.length) (Nat.le_refl _) (fun j hj _ => (List.pairwise_append.1 hs).2.2 _ (List.getElem_mem hj) x (by simp)) (fun j hj h => by omega) fun y hy => slt_ne ((List.pairwise_append.1 hs).2.2 y hy x (by simp))]
      simp
    show foldP (addP acc x) p = acc ++ x :: p
    rw [hx, foldP_append (by simpa using hs) fun d hd => ho d (by simp [hd])]
    simp
theorem foldP_self {p : List Api_Dep} (hs : sortedP p) (ho : ∀ d, d ∈ p → okDep d = true) : foldP [] p = p := by
  rw [foldP_append (by simpa using hs) ho]; rfl

theorem lowP_sorted (l : List Api_Version) (seen : List Api_Dep) : sortedP (lowP l seen) := mergeFold_sorted _ [] List.Pairwise.nil
theorem lowP_ok (l : List Api_Version) (seen : List Api_Dep) : ∀ d, d ∈ lowP l seen → okDep d = true := mergeFold_ok _ fun d hd => by simp at hd
theorem lowP_length {l : List Api_Version} {seen : List Api_Dep} (hs : smallL l seen) : (lowP l seen).length ≤ 110000 := by
  have h1 := mergeFold_length (seen :: l.map (·.Past)) []
  have h2 := sum_le (l := l) fun v h => (hs.2.2.2 v h).2.1
  have h3 := hs.1
  have h4 := hs.2.1
  simp only [List.map_cons, List.sum_cons, List.length_nil] at h1
  unfold lowP mergeP
  omega
theorem lowP_keys {l : List Api_Version} {seen : List Api_Dep} {n : Nat} (h1 : ∀ d, d ∈ seen → d.Key.size ≤ n) (h2 : ∀ v, v ∈ l → ∀ d, d ∈ v.Past → d.Key.size ≤ n) : ∀ d, d ∈ lowP l seen → d.Key.size ≤ n := fun d hd => by
  rcases mergeFold_mem _ _ hd with h | ⟨p, hp, h⟩
  · simp at h
  · rcases List.mem_cons.1 hp with rfl | hp
    · exact h1 d h
    · obtain ⟨v, hv, rfl⟩ := List.mem_map.1 hp
      exact h2 v hv d h

theorem ref19_Low_eq {l : List Api_Version} {seen : List Api_Dep} (hs : smallL l seen) : ref19_Low l seen = some (lowP l seen) := by
  have hs0 := hs
  obtain ⟨hl, hsn, hk, hv⟩ := hs
  unfold ref19_Low
  rw [ref04_Merge_eq (l := [seen]) (fun p hp => by simp at hp; subst hp; exact hk) (by simp; omega) (by simp)]
  simp only [Option.bind_some]
  refine loopF_inv (fun (v : List Api_Dep × Int) => 0 ≤ v.2 ∧ v.2 ≤ (l.length : Int) ∧ v.1 = lowP (l.take v.2.toNat) seen)
    (fun v => ((l.length : Int) - v.2).toNat) (fun _ => some (lowP l seen)) ?_ FU (mergeP [seen], 0) ⟨Int.le_refl _, by simp, by simp [lowP]⟩ (by have := FU_big; simp only; omega)
  rintro again ⟨o, i'⟩ ⟨h1, h2, h4⟩ hag
  simp only at h1 h2 h4
  obtain ⟨i, rfl⟩ : ∃ i : Nat, i' = i := ⟨i'.toNat, by omega⟩
  unfold ref19_Low_l2
  simp only
  have e : ((i : Int) + 1).toNat = i + 1 := by omega
  simp only [Int.toNat_natCast] at h4
  subst h4
  by_cases c : (i : Int) < (l.length : Int)
  · have hi : i < l.length := by omega
    have hsm : smallL (l.take i) seen := ⟨by rw [List.length_take]; omega, hsn, hk, fun v h => hv v (List.mem_of_mem_take h)⟩
    have h5 := lowP_length hsm
    have h6 := (hv l[i] (List.getElem_mem hi)).2.1
    rw [if_pos (by simpa using c), idx_at hi]
    simp only [Option.bind_some]
    rw [wrap64 (by omega) (by omega), ref04_Merge_eq (l := [lowP (l.take i) seen, l[i].Past]) (fun p hp => ?_) (by simp; omega) (by simp)]
    · simp only [Option.bind_some]
      refine hag _ ⟨by simp only; omega, by simp only; omega, ?_⟩ (by simp only; omega)
      simp only [e]
      rw [List.take_add_one, List.getElem?_eq_getElem hi]
      show foldP (foldP [] (lowP (l.take i) seen)) l[i].Past = _
      rw [foldP_self (lowP_sorted _ _) (lowP_ok _ _)]
      unfold lowP mergeP
      rw [List.map_append, List.foldl_cons, List.foldl_cons, List.foldl_append]
      rfl
    · simp at hp
      rcases hp with rfl | rfl
      · exact lowP_keys hk fun v h => (hsm.2.2.2 v h).2.2
      · exact (hv _ (List.getElem_mem hi)).2.2
  · rw [if_neg (by simpa using c)]
    unfold ref19_Low_k1
    rw [List.take_of_length_le (by omega)]

/-- the keys that were read too early -/
def lateP (keys : List ByteArray) (l : List Api_Version) (seen : List Api_Dep) : List ByteArray := keys.filter fun k => lessP (ofP l k) (getP (lowP l seen) k)

theorem cut_Late_eq {keys : List ByteArray} {l : List Api_Version} {seen : List Api_Dep} (hs : smallL l seen) (hk : keys.length ≤ 1099511627776) : cut_Late keys l seen = some (lateP keys l seen) := by
  have h5 := lowP_length hs
  have h6 := hs.1
  unfold cut_Late
  rw [cut_Low_eq hs, slices_Clone_string_eq hk (by omega)]
  simp only [Option.bind_some]
  rw [slices_DeleteFunc_string_eq (p := fun k => !lessP (ofP l k) (getP (lowP l seen) k)) (fun x _ => ?_) (by omega)]
  · simp only [Option.bind_some, Bool.not_not]
    rfl
  · unfold cut_Late_1
    rw [cut_Of_eq (by omega), past_Get_eq (lowP_sorted _ _) (by omega)]
    simp only [Option.bind_some, stamp_Less_eq]

theorem cut_Check_eq {keys : List ByteArray} {l : List Api_Version} {seen : List Api_Dep} (hs : smallL l seen) (hk : keys.length ≤ 1099511627776) : cut_Check keys l seen = some (decide (lateP keys l seen = [])) := by
  unfold cut_Check
  rw [cut_Late_eq hs hk]
  simp only [Option.bind_some]
  congr 1
  by_cases c : lateP keys l seen = []
  · simp [c]
  · rw [decide_eq_false c, decide_eq_false]
    intro h
    exact c (List.length_eq_zero_iff.1 (by omega))

theorem ref19_Late_eq {keys : List ByteArray} {l : List Api_Version} {seen : List Api_Dep} (hs : smallL l seen) (hk : keys.length ≤ 1099511627776) : ref19_Late keys l seen = some (lateP keys l seen) := by
  have h5 := lowP_length hs
  have h6 := hs.1
  unfold ref19_Late
  rw [ref19_Low_eq hs]
  simp only [Option.bind_some]
  refine loopF_inv (fun (v : Int × List ByteArray) => 0 ≤ v.1 ∧ v.1 ≤ (keys.length : Int) ∧ (v.2.length : Int) ≤ v.1 ∧ v.2 ++ (keys.drop v.1.toNat).filter (fun k => lessP (ofP l k) (getP (lowP l seen) k)) = lateP keys l seen)
    (fun v => ((keys.length : Int) - v.1).toNat) (fun _ => some (lateP keys l seen)) ?_ FU (0, []) ⟨Int.le_refl _, by simp, by simp, by simp [lateP]⟩ (by have := FU_big; simp only; omega)
  rintro again ⟨i', o⟩ ⟨h1, h2, h3, h4⟩ hag
  simp only at h1 h2 h3 h4
  obtain ⟨i, rfl⟩ : ∃ i : Nat, i' = i := ⟨i'.toNat, by omega⟩
  unfold ref19_Late_l2
  simp only
  have e : ((i : Int) + 1).toNat = i + 1 := by omega
  simp only [Int.toNat_natCast] at h4
  by_cases c : (i : Int) < (keys.length : Int)
  · have hi : i < keys.length := by omega
    rw [if_pos (by simpa using c), idx_at hi]
    simp only [Option.bind_some]
    rw [ref04_Get_eq (by omega), ref19_Of_eq (by omega)]
    simp only [Option.bind_some, ref03_Less_eq]
    rw [List.drop_eq_getElem_cons hi, List.filter_cons] at h4
    rw [wrap64 (by omega) (by omega)]
    cases hq : lessP (ofP l keys[i]) (getP (lowP l seen) keys[i]) with
    | true =>
      rw [if_pos hq] at h4
      simp only [if_true]
      rw [app_ok (by simp; omega) (by simp; omega)]
      simp only [Option.bind_some]
      exact hag _ ⟨by simp only; omega, by simp only; omega, by simp only [List.length_append, List.length_cons, List.length_nil]; omega, by simp only [e]; rw [← h4]; simp⟩ (by simp only; omega)
    | false =>
      rw [if_neg (by simp [hq])] at h4
      simp only [Bool.false_eq_true, if_false]
      exact hag _ ⟨by simp only; omega, by simp only; omega, by simp only; omega, by simp only [e]; exact h4⟩ (by simp only; omega)
  · rw [if_neg (by simpa using c)]
    rw [List.drop_of_length_le (by omega)] at h4
    unfold ref19_Late_k1
    rw [← h4]
    simp
theorem ref19_Check_eq {keys : List ByteArray} {l : List Api_Version} {seen : List Api_Dep} (hs : smallL l seen) (hk : keys.length ≤ 1099511627776) : ref19_Check keys l seen = some (decide (lateP keys l seen = [])) := by
  unfold ref19_Check
  rw [ref19_Late_eq hs hk]
  simp only [Option.bind_some]
  congr 1
  by_cases c : lateP keys l seen = []
  · simp [c]
  · rw [decide_eq_false c, decide_eq_false]
    intro h
    exact c (List.length_eq_zero_iff.1 (by omega))

/-- what was seen then -/
def afterP (seen : List Api_Dep) (l : List Api_Version) : List Api_Dep := foldP (lowP l seen) (l.map fun v => ⟨v.Key, v.Stamp⟩)

theorem cut_After_eq {seen : List Api_Dep} {l : List Api_Version} (hs : smallL l seen) : cut_After seen l = some (afterP seen l) := by
  have h5 := lowP_length hs
  have h6 := hs.1
  unfold cut_After
  rw [cut_Low_eq hs]
  simp only [Option.bind_some]
  refine loopF_inv (fun (v : List Api_Dep × Int) => 0 ≤ v.2 ∧ v.2 ≤ (l.length : Int) ∧ (v.1.length : Int) ≤ 110000 + v.2 ∧ sortedP v.1 ∧ (∀ d, d ∈ v.1 → okDep d = true) ∧ foldP v.1 ((l.drop v.2.toNat).map fun v => ⟨v.Key, v.Stamp⟩) = afterP seen l)
    (fun v => ((l.length : Int) - v.2).toNat) (fun _ => some (afterP seen l)) ?_ FU (lowP l seen, 0) ⟨Int.le_refl _, by simp, by simp only; omega, lowP_sorted _ _, lowP_ok _ _, by simp [afterP]⟩ (by have := FU_big; simp only; omega)
  rintro again ⟨o, i'⟩ ⟨h1, h2, h3, hso, hok, h4⟩ hag
  simp only at h1 h2 h3 hso hok h4
  obtain ⟨i, rfl⟩ : ∃ i : Nat, i' = i := ⟨i'.toNat, by omega⟩
  unfold cut_After_l2
  simp only
  have e : ((i : Int) + 1).toNat = i + 1 := by omega
  simp only [Int.toNat_natCast] at h4
  by_cases c : (i : Int) < (l.length : Int)
  · have hi : i < l.length := by omega
    rw [if_pos (by simpa using c), idx_at hi]
    simp only [Option.bind_some]
    rw [List.drop_eq_getElem_cons hi, List.map_cons] at h4
    rw [past_Add_eq hso hok (by omega) (hs.2.2.2 _ (List.getElem_mem hi)).1, wrap64 (by omega) (by omega)]
    simp only [Option.bind_some]
    have h7 := addP_length o ⟨l[i].Key, l[i].Stamp⟩
    exact hag _ ⟨by simp only; omega, by simp only; omega, by simp only; omega, addP_sorted hso, addP_ok hok _, by simp only [e]; exact h4⟩ (by simp only; omega)
  · rw [if_neg (by simpa using c)]
    rw [List.drop_of_length_le (by omega)] at h4
    unfold cut_After_k1
    rw [← h4]
    rfl
theorem ref19_After_eq {seen : List Api_Dep} {l : List Api_Version} (hs : smallL l seen) : ref19_After seen l = some (afterP seen l) := by
  have h5 := lowP_length hs
  have h6 := hs.1
  unfold ref19_After
  rw [ref19_Low_eq hs]
  simp only [Option.bind_some]
  refine loopF_inv (fun (v : List Api_Dep × Int) => 0 ≤ v.2 ∧ v.2 ≤ (l.length : Int) ∧ (v.1.length : Int) ≤ 110000 + v.2 ∧ foldP v.1 ((l.drop v.2.toNat).map fun v => ⟨v.Key, v.Stamp⟩) = afterP seen l)
    (fun v => ((l.length : Int) - v.2).toNat) (fun _ => some (afterP seen l)) ?_ FU (lowP l seen, 0) ⟨Int.le_refl _, by simp, by simp only; omega, by simp [afterP]⟩ (by have := FU_big; simp only; omega)
  rintro again ⟨o, i'⟩ ⟨h1, h2, h3, h4⟩ hag
  simp only at h1 h2 h3 h4
  obtain ⟨i, rfl⟩ : ∃ i : Nat, i' = i := ⟨i'.toNat, by omega⟩
  unfold ref19_After_l2
  simp only
  have e : ((i : Int) + 1).toNat = i + 1 := by omega
  simp only [Int.toNat_natCast] at h4
  by_cases c : (i : Int) < (l.length : Int)
  · have hi : i < l.length := by omega
    rw [if_pos (by simpa using c), idx_at hi]
    simp only [Option.bind_some]
    rw [List.drop_eq_getElem_cons hi, List.map_cons] at h4
    rw [ref04_Add_eq (by omega) (hs.2.2.2 _ (List.getElem_mem hi)).1, wrap64 (by omega) (by omega)]
    simp only [Option.bind_some]
    have h7 := addP_length o ⟨l[i].Key, l[i].Stamp⟩
    exact hag _ ⟨by simp only; omega, by simp only; omega, by simp only; omega, by simp only [e]; exact h4⟩ (by simp only; omega)
  · rw [if_neg (by simpa using c)]
    rw [List.drop_of_length_le (by omega)] at h4
    unfold ref19_After_k1
    rw [← h4]
    rfl
end Go.Ark
