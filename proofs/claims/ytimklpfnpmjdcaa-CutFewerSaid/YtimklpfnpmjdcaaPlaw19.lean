/- Plain laws: what chapter 19's laws make. Conditions: none but those that stand in each law. -/
import Derived.Test.YtimklpfnpmjdcaaPcut
import Derived.Test.YtimklpfnpmjdcaaFlaw19
namespace Go.Ark
open Go Go.Ab Go.RowKit

theorem law19_awake_eq : law19_awake = some true := by decide +kernel

theorem law19_short_tot (s : ByteArray) : ∃ t, law19_short s = some t ∧ t.size ≤ 12 := by
  unfold law19_short
  by_cases c : (12 : Int) < (s.size : Int)
  · rw [if_pos (by simpa using c)]
    have hsub : ssub s 0 12 = some (s.extract 0 12) := by
      simp only [ssub]; rw [if_pos ⟨by omega, by omega, by omega⟩]; rfl
    rw [hsub]
    exact ⟨_, rfl, by rw [ByteArray.size_extract]; omega⟩
  · rw [if_neg (by simpa using c)]
    exact ⟨_, rfl, by omega⟩

/-- what is known of a past that was made -/
def RI (p : List Api_Dep) : Prop := sortedP p ∧ (∀ d, d ∈ p → okDep d = true) ∧ (∀ d, d ∈ p → d.Key.size ≤ 12) ∧ p.length ≤ 6

theorem law19_row_tot (l : List Api_Dep) : ∃ p, law19_row l = some p ∧ RI p := by
  unfold law19_row
  refine loopF_tot (fun (v : List Api_Dep × Int) => 0 ≤ v.2 ∧ v.2 ≤ 6 ∧ sortedP v.1 ∧ (∀ d, d ∈ v.1 → okDep d = true) ∧ (∀ d, d ∈ v.1 → d.Key.size ≤ 12) ∧ (v.1.length : Int) ≤ v.2) (fun v => (6 - v.2).toNat) (fun p => RI p) ?_ FU ([], 0) ⟨Int.le_refl _, by simp, List.Pairwise.nil, fun v h => by simp at h, fun v h => by simp at h, by simp⟩ (by have := FU_big; simp only; omega)
  rintro again ⟨c, i⟩ ⟨h1, h2, h3, h4, h5, h6⟩ hag
  simp only at h1 h2 h3 h4 h5 h6
  unfold law19_row_l2 law19_row_k3 law19_row_k1
  simp only
  have hend : ∃ r, some c = some r ∧ RI r := ⟨c, rfl, h3, h4, h5, by omega⟩
  by_cases c1 : i < (l.length : Int)
  · rw [if_pos (by simpa using c1)]
    by_cases c2 : i < 6
    · rw [if_pos (by simpa using c2), idx_int h1 c1]
      simp only [Option.bind_some]
      obtain ⟨t, ht, hts⟩ := law19_short_tot (l[i.toNat]'(by omega)).Key
      rw [ht]
      simp only [Option.bind_some]
      rw [ref04_Add_eq (by omega) (by simp only; omega), wrap64 (n := i + 1) (by omega) (by omega)]
      simp only [Option.bind_some]
      have := addP_length c ⟨t, (l[i.toNat]'(by omega)).Stamp⟩
      exact hag _ ⟨by simp only; omega, by simp only; omega, addP_sorted h3, addP_ok h4 _, fun d hd => (addP_mem hd).elim (fun e => by rw [e]; exact hts) (h5 d), by simp only; omega⟩ (by simp only; omega)
    · rw [if_neg (by simpa using c2)]; exact hend
  · rw [if_neg (by simpa using c1), if_neg (by simp)]; exact hend

/-- what is known of versions that were made -/
def FI (v : List Api_Version) : Prop := v.length ≤ 6 ∧ ∀ x, x ∈ v → x.Key.size ≤ 12 ∧ RI x.Past

theorem law19_few_tot (l : List Api_Version) : ∃ v, law19_few l = some v ∧ FI v ∧ (l.length = 1 → v.length = 1) := by
  unfold law19_few
  refine loopF_tot (fun (v : Int × List Api_Version) => 0 ≤ v.1 ∧ v.1 ≤ 6 ∧ v.1 ≤ (l.length : Int) ∧ (v.2.length : Int) = v.1 ∧ ∀ x, x ∈ v.2 → x.Key.size ≤ 12 ∧ RI x.Past) (fun v => (6 - v.1).toNat) (fun v => FI v ∧ (l.length = 1 → v.length = 1)) ?_ FU (0, []) ⟨Int.le_refl _, by simp, by simp, by simp, fun v h => by simp at h⟩ (by have := FU_big; simp only; omega)
  rintro again ⟨i, c⟩ ⟨h1, h2, h3, h4, h5⟩ hag
  simp only at h1 h2 h3 h4 h5
  unfold law19_few_l2 law19_few_k3 law19_few_k1
  simp only
  by_cases c1 : i < (l.length : Int)
  · rw [if_pos (by simpa using c1)]
    by_cases c2 : i < 6
    · rw [if_pos (by simpa using c2), idx_int h1 c1]
      simp only [Option.bind_some]
      obtain ⟨t, ht, hts⟩ := law19_short_tot (l[i.toNat]'(by omega)).Key
      obtain ⟨p, hp, hpi⟩ := law19_row_tot (l[i.toNat]'(by omega)).Past
      rw [ht, hp]
      simp only [Option.bind_some]
      rw [app_ok (by simp; omega) (by simp; omega), wrap64 (n := i + 1) (by omega) (by omega)]
      simp only [Option.bind_some]
      refine hag _ ⟨by simp only; omega, by simp only; omega, by simp only; omega, by simp only [List.length_append, List.length_cons, List.length_nil]; omega, fun x hx => ?_⟩ (by simp only; omega)
      rcases List.mem_append.1 hx with hx | hx
      · exact h5 x hx
      · simp at hx; subst hx; exact ⟨hts, hpi⟩
    · rw [if_neg (by simpa using c2)]; exact ⟨c, rfl, ⟨by omega, h5⟩, fun h => by omega⟩
  · rw [if_neg (by simpa using c1), if_neg (by simp)]; exact ⟨c, rfl, ⟨by omega, h5⟩, fun h => by omega⟩

theorem law19_keys_eq (l : List ByteArray) : law19_keys l = some (l.take 6) := by
  unfold law19_keys
  by_cases c : 6 < l.length
  · rw [if_pos (decide_eq_true (by omega))]
    unfold sub
    rw [if_pos ⟨by omega, by omega, by omega⟩]
    simp
  · rw [if_neg (by rw [decide_eq_true_eq]; omega), List.take_of_length_le (by omega)]

theorem small_of {v : List Api_Version} {p : List Api_Dep} (hv : FI v) (hp : RI p) : smallL v p :=
  ⟨by have := hv.1; omega, by have := hp.2.2.2; omega, fun d hd => Nat.le_trans (hp.2.2.1 d hd) (by decide), fun x hx => ⟨Nat.le_trans (hv.2 x hx).1 (by decide), by have := (hv.2 x hx).2.2.2.2; omega, fun d hd => Nat.le_trans ((hv.2 x hx).2.2.2.1 d hd) (by decide)⟩⟩

theorem RI_nil : RI [] := ⟨List.Pairwise.nil, fun d h => by simp at h, fun d h => by simp at h, by simp⟩

/-! the greatest stamps -/
theorem less_maxS {s a b : Api_Stamp} : lessP s (maxS a b) = true ↔ lessP s a = true ∨ lessP s b = true := by
  unfold maxS
  split
  · rename_i c
    exact ⟨.inr, fun h => h.elim (fun h => lessP_trans h c) id⟩
  · rename_i c
    exact ⟨.inl, fun h => h.elim id fun h => less_of_leS' h (by simpa [leS] using c)⟩

theorem foldMax_ge : ∀ (l : List Api_Stamp) (a : Api_Stamp), leS a (l.foldl maxS a) ∧ ∀ s, s ∈ l → leS s (l.foldl maxS a)
  | [], a => ⟨leS_refl a, fun s h => by simp at h⟩
  | x :: l, a => by
    obtain ⟨h1, h2⟩ := foldMax_ge l (maxS a x)
    refine ⟨leS_trans (le_maxS_left a x) h1, fun s hs => ?_⟩
    rcases List.mem_cons.1 hs with rfl | hs
    · exact leS_trans (le_maxS_right a s) h1
    · exact h2 s hs
theorem zero_le_ofP (l : List Api_Version) (k : ByteArray) : leS ⟨0, 0⟩ (ofP l k) := (foldMax_ge _ _).1
theorem le_ofP {l : List Api_Version} {v : Api_Version} (h : v ∈ l) : leS v.Stamp (ofP l v.Key) := (foldMax_ge _ _).2 _ (List.mem_map.2 ⟨v, List.mem_filter.2 ⟨h, by simp⟩, rfl⟩)

/-! what is later than a stamp, in pasts that were put together -/
theorem less_foldP {s : Api_Stamp} {k : ByteArray} : ∀ {p acc : List Api_Dep}, sortedP acc → lessP s (getP (foldP acc p) k) = true → lessP s (getP acc k) = true ∨ ∃ d, d ∈ p ∧ d.Key = k ∧ lessP s d.Stamp = true
  | [], _, _, h => .inl h
  | x :: p, acc, hs, h => by
    rcases less_foldP (p := p) (acc := addP acc x) (addP_sorted hs) h with h | ⟨d, h1, h2⟩
    · rw [getP_addP hs] at h
      split at h
      · rename_i c
        rcases less_maxS.1 h with h | h
        · exact .inl h
        · exact .inr ⟨x, by simp, c.2, h⟩
      · exact .inl h
    · exact .inr ⟨d, by simp [h1], h2⟩
theorem less_foldP' {s : Api_Stamp} {k : ByteArray} {p acc : List Api_Dep} (hs : sortedP acc) (ho : ∀ d, d ∈ p → okDep d = true) (h : lessP s (getP acc k) = true ∨ ∃ d, d ∈ p ∧ d.Key = k ∧ lessP s d.Stamp = true) : lessP s (getP (foldP acc p) k) = true := by
  rcases h with h | ⟨d, h1, rfl, h3⟩
  · exact less_of_leS' h (getP_foldP_le p hs k)
  · exact less_of_leS' h3 (getP_foldP_mem p hs h1 (ho d h1))
theorem not_less_zero {s : Api_Stamp} (h : leS ⟨0, 0⟩ s) : lessP s ⟨0, 0⟩ = false := h
theorem less_getP {s : Api_Stamp} (h0 : leS ⟨0, 0⟩ s) {k : ByteArray} {p : List Api_Dep} (hs : sortedP p) : (∃ d, d ∈ p ∧ d.Key = k ∧ lessP s d.Stamp = true) ↔ lessP s (getP p k) = true := by
  constructor
  · rintro ⟨d, h1, rfl, h3⟩
    rw [getP_mem hs h1]; exact h3
  · intro h
    rcases getP_cases p k with ⟨d, h1, h2, h3⟩ | ⟨_, h2⟩
    · exact ⟨d, h1, h2, by rw [← h3]; exact h⟩
    · rw [h2, not_less_zero h0] at h; cases h
theorem less_folds {s : Api_Stamp} (h0 : leS ⟨0, 0⟩ s) {k : ByteArray} : ∀ {v : List Api_Version} {acc : List Api_Dep}, sortedP acc → (∀ x, x ∈ v → RI x.Past) →
    (lessP s (getP ((v.map (·.Past)).foldl foldP acc) k) = true ↔ lessP s (getP acc k) = true ∨ ∃ x, x ∈ v ∧ lessP s (getP x.Past k) = true)
  | [], acc, _, _ => by simp
  | y :: v, acc, hs, hv => by
    have hy := hv y (by simp)
    rw [List.map_cons, List.foldl_cons, less_folds h0 (v := v) (foldP_sorted y.Past acc hs) fun x hx => hv x (by simp [hx])]
    have h1 : lessP s (getP (foldP acc y.Past) k) = true ↔ lessP s (getP acc k) = true ∨ lessP s (getP y.Past k) = true := by
      rw [← less_getP h0 hy.1]
      exact ⟨less_foldP hs, less_foldP' hs hy.2.1⟩
    rw [h1]
    constructor
    · rintro ((h | h) | ⟨x, h2, h3⟩)
      · exact .inl h
      · exact .inr ⟨y, by simp, h⟩
      · exact .inr ⟨x, by simp [h2], h3⟩
    · rintro (h | ⟨x, h2, h3⟩)
      · exact .inl (.inl h)
      · rcases List.mem_cons.1 h2 with rfl | h2
        · exact .inl (.inr h3)
        · exact .inr ⟨x, h2, h3⟩
theorem less_low {s : Api_Stamp} (h0 : leS ⟨0, 0⟩ s) {k : ByteArray} {v : List Api_Version} {p : List Api_Dep} (hv : FI v) (hp : sortedP p) (ho : ∀ d, d ∈ p → okDep d = true) :
    lessP s (getP (lowP v p) k) = true ↔ lessP s (getP p k) = true ∨ ∃ x, x ∈ v ∧ lessP s (getP x.Past k) = true := by
  have : lowP v p = (v.map (·.Past)).foldl foldP p := by
    show (v.map (·.Past)).foldl foldP (foldP [] p) = _
    rw [foldP_self hp ho]
  rw [this]
  exact less_folds h0 hp fun x hx => (hv.2 x hx).2
theorem lateP_mem {keys : List ByteArray} {v : List Api_Version} {p : List Api_Dep} (hv : FI v) (hp : sortedP p) (ho : ∀ d, d ∈ p → okDep d = true) {k : ByteArray} :
    k ∈ lateP keys v p ↔ k ∈ keys ∧ (lessP (ofP v k) (getP p k) = true ∨ ∃ x, x ∈ v ∧ lessP (ofP v k) (getP x.Past k) = true) := by
  unfold lateP
  rw [List.mem_filter, less_low (zero_le_ofP v k) hv hp ho]

/-! nothing is added where all is covered -/
theorem foldP_cov : ∀ {q p : List Api_Dep}, sortedP p → (∀ d, d ∈ q → okDep d = true → leS d.Stamp (getP p d.Key)) → foldP p q = p
  | [], _, _, _ => rfl
  | d :: q, p, hs, h => by
    have h1 : addP p d = p := by
      cases c : okDep d with
      | true => exact addP_covered hs (h d (by simp) c)
      | false => unfold addP; rw [c]; rfl
    show foldP (addP p d) q = p
    rw [h1]
    exact foldP_cov hs fun x hx => h x (by simp [hx])
theorem folds_cov : ∀ {v : List Api_Version} {p : List Api_Dep}, sortedP p → (∀ x, x ∈ v → ∀ d, d ∈ x.Past → leS d.Stamp (getP p d.Key)) → (v.map (·.Past)).foldl foldP p = p
  | [], _, _, _ => rfl
  | x :: v, p, hs, h => by
    rw [List.map_cons, List.foldl_cons, foldP_cov hs fun d hd _ => h x (by simp) d hd]
    exact folds_cov hs fun y hy => h y (by simp [hy])
theorem folds_le : ∀ {v : List Api_Version} {p : List Api_Dep}, sortedP p → ∀ k, leS (getP p k) (getP ((v.map (·.Past)).foldl foldP p) k)
  | [], _, _, _ => leS_refl _
  | x :: v, p, hs, k => by
    rw [List.map_cons, List.foldl_cons]
    exact leS_trans (getP_foldP_le x.Past hs k) (folds_le (foldP_sorted x.Past p hs) k)
theorem folds_mem : ∀ {v : List Api_Version} {p : List Api_Dep}, sortedP p → ∀ {x : Api_Version}, x ∈ v → ∀ {d : Api_Dep}, d ∈ x.Past → okDep d = true → leS d.Stamp (getP ((v.map (·.Past)).foldl foldP p) d.Key)
  | [], _, _, _, h, _, _, _ => by simp at h
  | y :: v, p, hs, x, h, d, hd, ho => by
    rw [List.map_cons, List.foldl_cons]
    rcases List.mem_cons.1 h with rfl | h
    · exact leS_trans (getP_foldP_mem x.Past hs hd ho) (folds_le (foldP_sorted x.Past p hs) d.Key)
    · exact folds_mem (foldP_sorted y.Past p hs) h hd ho
theorem low_seen {v : List Api_Version} {p : List Api_Dep} {d : Api_Dep} (h : d ∈ p) (ho : okDep d = true) : leS d.Stamp (getP (lowP v p) d.Key) :=
  leS_trans (getP_foldP_mem p List.Pairwise.nil h ho) (folds_le (foldP_sorted p [] List.Pairwise.nil) d.Key)
theorem low_past {v : List Api_Version} {p : List Api_Dep} {x : Api_Version} (hx : x ∈ v) {d : Api_Dep} (h : d ∈ x.Past) (ho : okDep d = true) : leS d.Stamp (getP (lowP v p) d.Key) :=
  folds_mem (foldP_sorted p [] List.Pairwise.nil) hx h ho
theorem after_low (v : List Api_Version) (p : List Api_Dep) (k : ByteArray) : leS (getP (lowP v p) k) (getP (afterP p v) k) := getP_foldP_le _ (lowP_sorted v p) k
theorem after_sorted (v : List Api_Version) (p : List Api_Dep) : sortedP (afterP p v) := foldP_sorted _ _ (lowP_sorted v p)
theorem after_ok (v : List Api_Version) (p : List Api_Dep) : ∀ d, d ∈ afterP p v → okDep d = true := foldP_ok _ (lowP_ok v p)
theorem after_mem {v : List Api_Version} {p : List Api_Dep} {x : Api_Version} (hx : x ∈ v) (ho : okDep ⟨x.Key, x.Stamp⟩ = true) : leS x.Stamp (getP (afterP p v) x.Key) :=
  getP_foldP_mem _ (lowP_sorted v p) (List.mem_map.2 ⟨x, hx, rfl⟩) ho
theorem lowP_len {l : List Api_Version} {seen : List Api_Dep} (hl : FI l) : (lowP l seen).length ≤ seen.length + 600 := by
  have h1 := mergeFold_length (seen :: l.map (·.Past)) []
  have h2 := sum_le (l := l) fun v h => by have := (hl.2 v h).2.2.2.2; omega
  have h3 := hl.1
  simp only [List.map_cons, List.sum_cons, List.length_nil] at h1
  unfold lowP mergeP
  omega
theorem after_len {l : List Api_Version} {seen : List Api_Dep} (hl : FI l) : (afterP seen l).length ≤ seen.length + 606 := by
  have h1 := foldP_length (l.map fun v => (⟨v.Key, v.Stamp⟩ : Api_Dep)) (lowP l seen)
  have h2 := lowP_len (seen := seen) hl
  have h3 := hl.1
  rw [List.length_map] at h1
  unfold afterP
  omega
theorem low_keys {l : List Api_Version} {seen : List Api_Dep} (hl : FI l) (hs : ∀ d, d ∈ seen → d.Key.size ≤ 12) : ∀ d, d ∈ lowP l seen → d.Key.size ≤ 12 := lowP_keys hs fun v hv => (hl.2 v hv).2.2.2.1
theorem after_keys {l : List Api_Version} {seen : List Api_Dep} (hl : FI l) (hs : ∀ d, d ∈ seen → d.Key.size ≤ 12) : ∀ d, d ∈ afterP seen l → d.Key.size ≤ 12 := fun d hd => by
  rcases foldP_mem _ _ hd with h | h
  · exact low_keys hl hs d h
  · obtain ⟨v, hv, rfl⟩ := List.mem_map.1 h
    exact (hl.2 v hv).1
theorem small_of' {v : List Api_Version} {p : List Api_Dep} (hv : FI v) (hl : p.length ≤ 1000) (hk : ∀ d, d ∈ p → d.Key.size ≤ 12) : smallL v p :=
  ⟨by have := hv.1; omega, by omega, fun d hd => Nat.le_trans (hk d hd) (by decide), fun x hx => ⟨Nat.le_trans (hv.2 x hx).1 (by decide), by have := (hv.2 x hx).2.2.2.2; omega, fun d hd => Nat.le_trans ((hv.2 x hx).2.2.2.1 d hd) (by decide)⟩⟩

theorem ref02_Same_eq {p q : List ByteArray} (hp : p.length ≤ 140737488355328) : ref02_Same p q = some (decide (p = q)) := by
  unfold ref02_Same
  by_cases hl : p.length = q.length
  · rw [if_neg (by simp [hl])]
    refine loopF_inv (fun (v : Int) => 0 ≤ v ∧ v ≤ (p.length : Int) ∧ ∀ j (h1 : j < p.length) (h2 : j < q.length), (j : Int) < v → p[j] = q[j]) (fun v => ((p.length : Int) - v).toNat) (fun _ => some (decide (p = q))) ?_ FU 0 ⟨Int.le_refl _, by omega, fun j _ _ h => by omega⟩ (by have := FU_big; omega)
    rintro again v ⟨h1, h2, h3⟩ hag
    unfold ref02_Same_l2
    by_cases c : v < (p.length : Int)
    · obtain ⟨i, rfl⟩ : ∃ i : Nat, v = i := ⟨v.toNat, by omega⟩
      have hi : i < p.length := by omega
      have hi2 : i < q.length := by omega
      rw [if_pos (by simpa using c), idx_at hi, idx_at hi2]
      simp only [Option.bind_some, seq_eq]
      by_cases hd : p[i] = q[i]
      · rw [if_neg (by simp [hd]), wrap64 (by omega) (by omega)]
        refine hag _ ⟨by omega, by omega, fun j h4 h5 h6 => ?_⟩ (by omega)
        by_cases hji : j = i
        · subst hji; exact hd
        · exact h3 j h4 h5 (by omega)
      · rw [if_pos (by simp [hd]), decide_eq_false fun e => hd (by subst e; rfl)]
    · rw [if_neg (by simpa using c)]
      unfold ref02_Same_k1
      rw [decide_eq_true (List.ext_getElem hl fun j h4 h5 => h3 j h4 h5 (by omega))]
  · rw [if_pos (by simp; omega), decide_eq_false fun e => hl (by rw [e])]
end Go.Ark
