/- Plain laws: clients, and what chapter 15's laws make. Conditions: none but those that stand in each law. -/
import Derived.Test.YtknhoebmoljopaaPpast3
import Derived.Test.YtknhoebmoljopaaFlaw15
namespace Go.Ark
open Go Go.Ab Go.RowKit

theorem law15_awake_eq : law15_awake = some true := by decide +kernel

/-- what is known of a past that was made -/
def RI (p : List Api_Dep) : Prop := sortedP p ∧ (∀ d, d ∈ p → okDep d = true) ∧ (∀ d, d ∈ p → d.Key.size ≤ 12) ∧ p.length ≤ 6

theorem law15_row_tot (l : List Api_Dep) : ∃ p, law15_row l = some p ∧ RI p := by
  unfold law15_row
  refine loopF_tot (fun (v : List Api_Dep × Int) => 0 ≤ v.2 ∧ v.2 ≤ 6 ∧ sortedP v.1 ∧ (∀ d, d ∈ v.1 → okDep d = true) ∧ (∀ d, d ∈ v.1 → d.Key.size ≤ 12) ∧ (v.1.length : Int) ≤ v.2) (fun v => (6 - v.2).toNat) (fun p => RI p) ?_ FU ([], 0) ⟨Int.le_refl _, by simp, List.Pairwise.nil, fun v h => by simp at h, fun v h => by simp at h, by simp⟩ (by have := FU_big; simp only; omega)
  rintro again ⟨c, i⟩ ⟨h1, h2, h3, h4, h5, h6⟩ hag
  simp only at h1 h2 h3 h4 h5 h6
  unfold law15_row_l2 law15_row_k3 law15_row_k1
  simp only
  have hend : ∃ r, some c = some r ∧ RI r := ⟨c, rfl, h3, h4, h5, by omega⟩
  by_cases c1 : i < (l.length : Int)
  · rw [if_pos (by simpa using c1)]
    by_cases c2 : i < 6
    · rw [if_pos (by simpa using c2), idx_int h1 c1]
      simp only [Option.bind_some]
      generalize l[i.toNat]'(by omega) = d
      have hk4 : ∀ k : ByteArray, k.size ≤ 12 → ∃ r, law15_row_k4 again (c, i) d k = some r ∧ RI r := fun k hk => by
        unfold law15_row_k4
        simp only
        rw [ref04_Add_eq (by omega) (by simp only; omega), wrap64 (n := i + 1) (by omega) (by omega)]
        simp only [Option.bind_some]
        have := addP_length c ⟨k, d.Stamp⟩
        exact hag _ ⟨by simp only; omega, by simp only; omega, addP_sorted h3, addP_ok h4 _, fun x hx => (addP_mem hx).elim (fun e => by rw [e]; exact hk) (h5 x), by simp only; omega⟩ (by simp only; omega)
      by_cases c3 : (12 : Int) < (d.Key.size : Int)
      · rw [if_pos (by simpa using c3)]
        have hsub : ssub d.Key 0 12 = some (d.Key.extract 0 12) := by
          simp only [ssub]; rw [if_pos ⟨by omega, by omega, by omega⟩]; rfl
        rw [hsub]
        simp only [Option.bind_some]
        exact hk4 _ (by rw [ByteArray.size_extract]; omega)
      · rw [if_neg (by simpa using c3)]
        exact hk4 _ (by omega)
    · rw [if_neg (by simpa using c2)]; exact hend
  · rw [if_neg (by simpa using c1), if_neg (by simp)]; exact hend

/-- what is known of versions that were made -/
def FI (v : List Api_Version) : Prop := v.length ≤ 4 ∧ ∀ x, x ∈ v → x.Key.size ≤ 12 ∧ RI x.Past

theorem law15_few_tot (l : List Api_Version) : ∃ v, law15_few l = some v ∧ FI v := by
  unfold law15_few
  refine loopF_tot (fun (v : Int × List Api_Version) => 0 ≤ v.1 ∧ v.1 ≤ 4 ∧ (v.2.length : Int) = v.1 ∧ ∀ x, x ∈ v.2 → x.Key.size ≤ 12 ∧ RI x.Past) (fun v => (4 - v.1).toNat) (fun v => FI v) ?_ FU (0, []) ⟨Int.le_refl _, by simp, by simp, fun v h => by simp at h⟩ (by have := FU_big; simp only; omega)
  rintro again ⟨i, c⟩ ⟨h1, h2, h4, h5⟩ hag
  simp only at h1 h2 h4 h5
  unfold law15_few_l2 law15_few_k3 law15_few_k1
  simp only
  have hend : ∃ r, some c = some r ∧ FI r := ⟨c, rfl, by omega, h5⟩
  by_cases c1 : i < (l.length : Int)
  · rw [if_pos (by simpa using c1)]
    by_cases c2 : i < 4
    · rw [if_pos (by simpa using c2), idx_int h1 c1]
      simp only [Option.bind_some]
      generalize l[i.toNat]'(by omega) = d
      have hk4 : ∀ k : ByteArray, k.size ≤ 12 → ∃ r, law15_few_k4 again (i, c) d k = some r ∧ FI r := fun k hk => by
        obtain ⟨p, hp, hpi⟩ := law15_row_tot d.Past
        unfold law15_few_k4
        simp only
        rw [hp]
        simp only [Option.bind_some]
        rw [app_ok (by simp; omega) (by simp; omega), wrap64 (n := i + 1) (by omega) (by omega)]
        simp only [Option.bind_some]
        refine hag _ ⟨by simp only; omega, by simp only; omega, by simp only [List.length_append, List.length_cons, List.length_nil]; omega, fun x hx => ?_⟩ (by simp only; omega)
        rcases List.mem_append.1 hx with hx | hx
        · exact h5 x hx
        · simp at hx; subst hx; exact ⟨hk, hpi⟩
      by_cases c3 : (12 : Int) < (d.Key.size : Int)
      · rw [if_pos (by simpa using c3)]
        have hsub : ssub d.Key 0 12 = some (d.Key.extract 0 12) := by
          simp only [ssub]; rw [if_pos ⟨by omega, by omega, by omega⟩]; rfl
        rw [hsub]
        simp only [Option.bind_some]
        exact hk4 _ (by rw [ByteArray.size_extract]; omega)
      · rw [if_neg (by simpa using c3)]
        exact hk4 _ (by omega)
    · rw [if_neg (by simpa using c2)]; exact hend
  · rw [if_neg (by simpa using c1), if_neg (by simp)]; exact hend

/-- what was seen behind one more -/
def saw1 (p : List Api_Dep) (v : Api_Version) : List Api_Dep := mergeP [p, v.Past, [⟨v.Key, v.Stamp⟩]]
def sawP (p : List Api_Dep) (l : List Api_Version) : List Api_Dep := l.foldl saw1 p

/-- what is known of what was seen -/
def SI (n : Nat) (p : List Api_Dep) : Prop := sortedP p ∧ (∀ d, d ∈ p → okDep d = true) ∧ (∀ d, d ∈ p → d.Key.size ≤ 12) ∧ p.length ≤ n
theorem saw1_eq {n : Nat} {p : List Api_Dep} (hp : SI n p) (v : Api_Version) : saw1 p v = foldP (foldP p v.Past) [⟨v.Key, v.Stamp⟩] := by
  show foldP (foldP (foldP [] p) v.Past) _ = _
  rw [foldP_self hp.1 hp.2.1]
theorem saw1_SI {n : Nat} {p : List Api_Dep} (hp : SI n p) {v : Api_Version} (hk : v.Key.size ≤ 12) (hv : RI v.Past) : SI (n + 7) (saw1 p v) := by
  rw [saw1_eq hp]
  refine ⟨foldP_sorted _ _ (foldP_sorted _ _ hp.1), foldP_ok _ (foldP_ok _ hp.2.1), fun d hd => ?_, ?_⟩
  · rcases foldP_mem _ _ hd with h | h
    · rcases foldP_mem _ _ h with h | h
      · exact hp.2.2.1 d h
      · exact hv.2.2.1 d h
    · simp at h; rw [h]; exact hk
  · have h1 := foldP_length [⟨v.Key, v.Stamp⟩] (foldP p v.Past)
    have h2 := foldP_length v.Past p
    have h3 := hp.2.2.2
    have h4 := hv.2.2.2
    simp only [List.length_cons, List.length_nil] at h1
    omega

theorem client_Saw_eq {n : Nat} {s : Api_Session} {l : List Api_Version} (hp : SI n s.Past) (hn : n ≤ 1000000) (hl : l.length ≤ 100) (hv : ∀ v, v ∈ l → v.Key.size ≤ 12 ∧ RI v.Past) : client_Saw s l = some ⟨s.Site, sawP s.Past l⟩ := by
  unfold client_Saw
  refine loopF_inv (fun (v : Int × List Api_Dep) => 0 ≤ v.1 ∧ v.1 ≤ (l.length : Int) ∧ SI (n + 7 * v.1.toNat) v.2 ∧ sawP v.2 (l.drop v.1.toNat) = sawP s.Past l) (fun v => ((l.length : Int) - v.1).toNat) (fun _ => some (Api_Session.mk s.Site (sawP s.Past l))) ?_ FU (0, s.Past) ⟨Int.le_refl _, by simp, by simpa using hp, by simp⟩ (by have := FU_big; simp only; omega)
  rintro again ⟨i', o⟩ ⟨h1, h2, h3, h4⟩ hag
  simp only at h1 h2 h3 h4
  obtain ⟨i, rfl⟩ : ∃ i : Nat, i' = i := ⟨i'.toNat, by omega⟩
  simp only [Int.toNat_natCast] at h3 h4
  have e : ((i : Int) + 1).toNat = i + 1 := by omega
  unfold client_Saw_l2
  simp only
  by_cases c : (i : Int) < (l.length : Int)
  · have hi : i < l.length := by omega
    have hx := hv l[i] (List.getElem_mem hi)
    have h5 := h3.2.2.2
    have h6 := hx.2.2.2.2
    rw [if_pos (by simpa using c), idx_at hi]
    simp only [Option.bind_some]
    rw [List.drop_eq_getElem_cons hi] at h4
    rw [past_Merge_eq (fun p hp d hd => ?_) (by simp; omega) (by simp), wrap64 (by omega) (by omega)]
    · simp only [Option.bind_some]
      refine hag _ ⟨by simp only; omega, by simp only; omega, ?_, by simp only [e]; exact h4⟩ (by simp only; omega)
      simp only [e]
      have := saw1_SI h3 hx.1 hx.2
      rw [show n + 7 * (i + 1) = n + 7 * i + 7 by omega]
      exact this
    · simp at hp
      rcases hp with rfl | rfl | rfl
      · exact Nat.le_trans (h3.2.2.1 d hd) (by decide)
      · exact Nat.le_trans (hx.2.2.2.1 d hd) (by decide)
      · simp at hd; rw [hd]; exact Nat.le_trans hx.1 (by decide)
  · rw [if_neg (by simpa using c)]
    rw [List.drop_of_length_le (by omega)] at h4
    have h4 : o = sawP s.Past l := h4
    unfold client_Saw_k1
    rw [h4]

theorem sawP_SI : ∀ {l : List Api_Version} {n : Nat} {p : List Api_Dep}, SI n p → (∀ v, v ∈ l → v.Key.size ≤ 12 ∧ RI v.Past) → SI (n + 7 * l.length) (sawP p l)
  | [], _, _, hp, _ => hp
  | v :: l, n, p, hp, h => by
    have := sawP_SI (l := l) (saw1_SI hp (h v (by simp)).1 (h v (by simp)).2) fun x hx => h x (by simp [hx])
    rw [List.length_cons, show n + 7 * (l.length + 1) = n + 7 + 7 * l.length by omega]
    exact this

/-- what is later, of what a version brings -/
def brings (v : Api_Version) (k : ByteArray) (s : Api_Stamp) : Prop := gives v.Past k s ∨ gives [⟨v.Key, v.Stamp⟩] k s
theorem less_sawP {s : Api_Stamp} {k : ByteArray} : ∀ {l : List Api_Version} {n : Nat} {p : List Api_Dep}, SI n p → (∀ v, v ∈ l → v.Key.size ≤ 12 ∧ RI v.Past) → (lessP s (getP (sawP p l) k) = true ↔ lessP s (getP p k) = true ∨ ∃ v, v ∈ l ∧ brings v k s)
  | [], _, p, _, _ => by
    show lessP s (getP p k) = true ↔ _
    simp
  | v :: l, n, p, hp, h => by
    show lessP s (getP (sawP (saw1 p v) l) k) = true ↔ _
    rw [less_sawP (l := l) (saw1_SI hp (h v (by simp)).1 (h v (by simp)).2) fun x hx => h x (by simp [hx])]
    rw [saw1_eq hp, less_fold_iff (foldP_sorted _ _ hp.1), less_fold_iff hp.1]
    constructor
    · rintro (((h1 | h1) | h1) | ⟨x, h1, h2⟩)
      · exact .inl h1
      · exact .inr ⟨v, by simp, .inl h1⟩
      · exact .inr ⟨v, by simp, .inr h1⟩
      · exact .inr ⟨x, by simp [h1], h2⟩
    · rintro (h1 | ⟨x, h1, h2⟩)
      · exact .inl (.inl (.inl h1))
      · rcases List.mem_cons.1 h1 with rfl | h1
        · rcases h2 with h2 | h2
          · exact .inl (.inl (.inr h2))
          · exact .inl (.inr h2)
        · exact .inr ⟨x, h1, h2⟩
theorem sawP_ext {l m : List Api_Version} {n : Nat} {p : List Api_Dep} (hp : SI n p) (hl : ∀ v, v ∈ l → v.Key.size ≤ 12 ∧ RI v.Past) (hm : ∀ v, v ∈ m ↔ v ∈ l) : sawP p m = sawP p l := by
  have hm' : ∀ v, v ∈ m → v.Key.size ≤ 12 ∧ RI v.Past := fun v hv => hl v ((hm v).1 hv)
  have h1 := sawP_SI hp hl
  have h2 := sawP_SI hp hm'
  refine past_ext h2.1 h1.1 h2.2.1 h1.2.1 fun k s _ => ?_
  rw [less_sawP hp hm', less_sawP hp hl]
  simp only [hm]

theorem client_May_eq {s : Api_Session} {have_ : List Api_Dep} {own : List Api_Range} (hs : s.Past.length ≤ 1000000) (hh : sortedP have_) (hl : have_.length ≤ 1000000) (ho : own.length ≤ 140737488355328) :
    client_May s have_ own = some (coversP have_ (s.Past.filter fun d => ownP own d.Key)) := by
  unfold client_May
  rw [past_Only_eq (by omega) ho]
  simp only [Option.bind_some]
  have := List.length_filter_le (fun d : Api_Dep => ownP own d.Key) s.Past
  rw [past_Covers_eq hh (by omega) (by omega)]
  rfl
theorem ref15_Same_eq {a b : Api_Session} (h : a.Past.length ≤ 140737488355328) : ref15_Same a b = some (decide (a.Past = b.Past) && decide (a.Site = b.Site)) := by
  unfold ref15_Same
  rw [ref04_Same_eq h]
  simp only [Option.bind_some]
  by_cases c : a.Past = b.Past <;> simp [c]
theorem own_all (k : ByteArray) : ownP [⟨ByteArray.empty, ByteArray.empty⟩] k = true := by
  simp [ownP, hasP, slt_empty]
theorem only_all (p : List Api_Dep) : (p.filter fun d => ownP [⟨ByteArray.empty, ByteArray.empty⟩] d.Key) = p := List.filter_eq_self.2 fun d _ => own_all d.Key
theorem coversP_iff {p q : List Api_Dep} : coversP p q = true ↔ ∀ d, d ∈ q → leS d.Stamp (getP p d.Key) := by
  unfold coversP leS
  rw [List.all_eq_true]
  simp
theorem RI_SI {p : List Api_Dep} (h : RI p) : SI 6 p := h
end Go.Ark
