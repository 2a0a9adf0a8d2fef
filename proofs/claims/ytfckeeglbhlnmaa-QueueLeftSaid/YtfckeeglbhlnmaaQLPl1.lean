/- Plain laws, no program in sight: numbers, texts, loops by rounds; deps and pasts. Conditions: none but those that stand in each law. -/
import Derived.Test.YtfckeeglbhlnmaaQLFns
import Derived.Laws.StructEq
import Derived.OpenShut
namespace Go.Ark
open Go Go.Ab

theorem wrap64 {n : Int} (h1 : -9223372036854775808 ≤ n) (h2 : n ≤ 9223372036854775807) : IntKind.wrap .i64 n = n := by
  simp only [IntKind.wrap, IntKind.signed, IntKind.bits]
  simp
  split <;> omega

theorem loopF_inv {T R : Type} {body : (T → Option R) → T → Option R} (I : T → Prop) (μ : T → Nat) (spec : T → Option R)
    (step : ∀ again v, I v → (∀ v', I v' → μ v' < μ v → again v' = spec v') → body again v = spec v) : ∀ n v, I v → μ v < n → loopF body n v = spec v
  | 0, v, _, h => by omega
  | n + 1, v, hI, h => by
    rw [loopF]
    exact step _ _ hI fun v' hI' hlt => loopF_inv I μ spec step n v' hI' (by omega)

theorem FU_big : 18446744073709551616 ≤ FU := by unfold FU; exact Nat.pow_le_pow_right (n := 2) (by decide) (show 64 ≤ 70 by decide)

/-! texts -/
theorem seq_eq (s t : ByteArray) : seq s t = decide (s = t) := by
  have h : seq s t = (s.data == t.data) := (beq_toListBytes s t).symm
  rw [h]
  by_cases h : s = t
  · subst h; simp
  · have : s.data ≠ t.data := fun c => h (by cases s; cases t; simp_all)
    simp [h, this]

theorem bl_irrefl : ∀ s : List UInt8, Op.bytesLess s s = false
  | [] => rfl
  | a :: s => by
    have h : ¬ a < a := by simp [UInt8.lt_iff_toNat_lt]
    simp [Op.bytesLess, bl_irrefl s, h]
theorem bl_trans : ∀ {a b c : List UInt8}, Op.bytesLess a b = true → Op.bytesLess b c = true → Op.bytesLess a c = true
  | _, [], _, h, _ => by cases ‹List UInt8› <;> simp [Op.bytesLess] at h
  | _, _ :: _, [], _, h => by simp [Op.bytesLess] at h
  | [], _ :: _, _ :: _, _, _ => rfl
  | x :: a, y :: b, z :: c, h1, h2 => by
    simp only [Op.bytesLess, Bool.or_eq_true, decide_eq_true_eq, Bool.and_eq_true, beq_iff_eq] at h1 h2 ⊢
    rcases h1 with h1 | ⟨rfl, h1⟩
    · rcases h2 with h2 | ⟨rfl, h2⟩
      · left; simp only [UInt8.lt_iff_toNat_lt] at *; omega
      · exact .inl h1
    · rcases h2 with h2 | ⟨rfl, h2⟩
      · exact .inl h2
      · exact .inr ⟨rfl, bl_trans h1 h2⟩
theorem bl_tri : ∀ {a b : List UInt8}, Op.bytesLess a b = false → Op.bytesLess b a = false → a = b
  | [], [], _, _ => rfl
  | [], _ :: _, h, _ => by simp [Op.bytesLess] at h
  | _ :: _, [], _, h => by simp [Op.bytesLess] at h
  | x :: a, y :: b, h1, h2 => by
    simp only [Op.bytesLess, Bool.or_eq_false_iff, decide_eq_false_iff_not, Bool.and_eq_false_iff, beq_eq_false_iff_ne] at h1 h2
    have hxy : x = y := by
      have h3 := h1.1
      have h4 := h2.1
      simp only [UInt8.lt_iff_toNat_lt] at h3 h4
      exact UInt8.toNat_inj.1 (by omega)
    subst hxy
    rw [bl_tri (h1.2.resolve_left (fun c => c rfl)) (h2.2.resolve_left (fun c => c rfl))]

theorem slt_irrefl (s : ByteArray) : slt s s = false := bl_irrefl _
theorem slt_trans {a b c : ByteArray} (h1 : slt a b = true) (h2 : slt b c = true) : slt a c = true := bl_trans h1 h2
theorem slt_asymm {a b : ByteArray} (h1 : slt a b = true) : slt b a = false := by
  cases h : slt b a with
  | false => rfl
  | true => exact absurd (slt_trans h1 h) (by rw [slt_irrefl]; simp)
theorem slt_tri {a b : ByteArray} (h1 : slt a b = false) (h2 : slt b a = false) : a = b := by
  have := bl_tri h1 h2
  have h3 : seq a b = true := by unfold seq; rw [this]; simp
  rw [seq_eq] at h3
  exact of_decide_eq_true h3
theorem slt_ne {a b : ByteArray} (h : slt a b = true) : a ≠ b := fun c => by rw [c, slt_irrefl] at h; cases h

/-! lists by numbers -/
theorem idx_at {α : Type} {xs : List α} {i : Nat} (h : i < xs.length) : idx xs (i : Int) = some xs[i] := by simp [idx, h]
theorem idx_int {α : Type} {xs : List α} {i : Int} (h0 : 0 ≤ i) (h : i < xs.length) : idx xs i = some (xs[i.toNat]'(by omega)) := by
  simp only [idx, h0, if_true]
  exact List.getElem?_eq_getElem (by omega)
theorem app_ok {α : Type} {n : Nat} {xs ys : List α} (h : xs.length + ys.length ≤ 1099511627776) (h2 : (xs.length + ys.length) * n ≤ 140737488355328) : app n xs ys = some (xs ++ ys) := by
  simp only [app, List.length_append]
  rw [if_pos ⟨h, h2⟩]

/-! stamps and pasts -/
def lessP (a b : Api_Stamp) : Bool := decide (a.N < b.N) || (decide (a.N = b.N) && decide (a.Site < b.Site))

theorem ref03_Less_eq (a b : Api_Stamp) : ref03_Less a b = some (lessP a b) := by
  unfold ref03_Less lessP
  by_cases h : a.N = b.N <;> simp [h]

theorem stamp_Less_eq (a b : Api_Stamp) : stamp_Less a b = some (lessP a b) := by
  unfold stamp_Less lessP
  by_cases h : a.N = b.N
  · by_cases h2 : a.Site = b.Site
    · simp [h, h2]
    · by_cases h3 : a.Site < b.Site
      · simp [h, h2, h3]; omega
      · simp [h, h2, h3]; omega
  · by_cases h3 : a.N < b.N
    · simp [h, h3]
    · simp [h, h3]

def getP : List Api_Dep → ByteArray → Api_Stamp
  | [], _ => ⟨0, 0⟩
  | d :: p, k => if d.Key = k then d.Stamp else getP p k

def sortedP (p : List Api_Dep) : Prop := p.Pairwise fun a b => slt a.Key b.Key = true

theorem getP_none {p : List Api_Dep} {k : ByteArray} (h : ∀ d, d ∈ p → d.Key ≠ k) : getP p k = ⟨0, 0⟩ := by
  induction p with
  | nil => rfl
  | cons d p ih => rw [getP, if_neg (h d (by simp)), ih fun d hd => h d (by simp [hd])]

theorem getP_at {p : List Api_Dep} (hs : sortedP p) {i : Nat} (hi : i < p.length) : getP p p[i].Key = p[i].Stamp := by
  induction p generalizing i with
  | nil => simp at hi
  | cons d p ih =>
    have h := List.pairwise_cons.1 hs
    cases i with
    | zero => simp [getP]
    | succ i =>
      have hi' : i < p.length := by simpa using hi
      have hne := slt_ne (h.1 p[i] (List.getElem_mem hi'))
      simp only [List.getElem_cons_succ]
      rw [getP, if_neg hne]
      exact ih h.2 hi'

theorem cmp_eq (x y : ByteArray) : cmp_Compare_string x y = some (if slt x y then -1 else if slt y x then 1 else 0) := by
  have hx : cmp_isNaN_string x = some false := by simp [cmp_isNaN_string, seq_eq]
  have hy : cmp_isNaN_string y = some false := by simp [cmp_isNaN_string, seq_eq]
  unfold cmp_Compare_string
  rw [hx, hy]
  simp only [Option.bind_some, Bool.false_eq_true, if_false]
  cases h1 : slt x y
  · simp only [Bool.false_eq_true, if_false, Bool.false_or, seq_eq]
    cases h2 : slt y x
    · have := slt_tri h1 h2; simp [this]
    · have := slt_ne h2; simp; exact fun c => this c.symm
  · simp

theorem sortedP_lt {p : List Api_Dep} (hs : sortedP p) {i j : Nat} (hij : i < j) (hj : j < p.length) : slt (p[i]'(by omega)).Key p[j].Key = true := List.pairwise_iff_getElem.1 hs i j (by omega) hj hij

theorem half (a b : Int) (h0 : 0 ≤ a) (h1 : a ≤ b) (h2 : b ≤ 140737488355328) : IntKind.wrap .i64 (Int.fdiv (IntKind.wrap .u64 (IntKind.wrap .i64 (a + b))) (2 ^ min (Int.toNat 1) (IntKind.bits .u64))) = (a + b) / 2 := by
  have e1 : IntKind.wrap .i64 (a + b) = a + b := wrap64 (by omega) (by omega)
  have e2 : IntKind.wrap .u64 (a + b) = a + b := by
    simp only [IntKind.wrap, IntKind.signed, IntKind.bits]
    simp; omega
  have e3 : Int.fdiv (a + b) (2 ^ min (Int.toNat 1) (IntKind.bits .u64)) = (a + b) / 2 := by
    have : (2 : Int) ^ min (Int.toNat 1) (IntKind.bits .u64) = 2 := by rfl
    rw [this]
    exact Int.fdiv_eq_ediv_of_nonneg _ (by omega)
  rw [e1, e2, e3]
  exact wrap64 (by omega) (by omega)

theorem bsearch {p : List Api_Dep} (hs : sortedP p) (hl : p.length ≤ 140737488355328) (k : ByteArray) :
    ∃ i : Nat, i ≤ p.length ∧ (∀ j (hj : j < p.length), j < i → slt p[j].Key k = true) ∧ (∀ j (hj : j < p.length), i ≤ j → slt p[j].Key k = false) ∧
      slices_BinarySearchFunc_string p k (fun x0 x1 => past_find_1 x0 x1) = some ((i : Int), decide (∃ h : i < p.length, p[i].Key = k)) := by
  have hcmp : ∀ d : Api_Dep, past_find_1 d k = some (if slt d.Key k then -1 else if slt k d.Key then 1 else 0) := fun d => by
    unfold past_find_1; rw [cmp_eq]; rfl
  -- where it ends
  have hex : ∃ i : Nat, i ≤ p.length ∧ (∀ j (hj : j < p.length), j < i → slt p[j].Key k = true) ∧ (∀ j (hj : j < p.length), i ≤ j → slt p[j].Key k = false) := by
    clear hl
    induction p with
    | nil => exact ⟨0, Nat.le_refl _, fun j hj => by simp at hj, fun j hj => by simp at hj⟩
    | cons d p ih =>
      cases hd : slt d.Key k with
      | false =>
        refine ⟨0, Nat.zero_le _, fun j hj h => by omega, fun j hj _ => ?_⟩
        cases hj' : slt (d :: p)[j].Key k with
        | false => rfl
        | true =>
          cases j with
          | zero => simp at hj'; rw [hd] at hj'; cases hj'
          | succ j =>
            have := slt_trans (sortedP_lt hs (Nat.succ_pos j) hj) hj'
            simp at this; rw [hd] at this; cases this
      | true =>
        obtain ⟨i, h1, h2, h3⟩ := ih (List.pairwise_cons.1 hs).2
        refine ⟨i + 1, by simpa using h1, fun j hj h => ?_, fun j hj h => ?_⟩
        · cases j with
          | zero => exact hd
          | succ j => exact h2 j (by simpa using hj) (by omega)
        · cases j with
          | zero => omega
          | succ j => exact h3 j (by simpa using hj) (by omega)
  obtain ⟨i, hi, hlo, hhi⟩ := hex
  refine ⟨i, hi, hlo, hhi, ?_⟩
  unfold slices_BinarySearchFunc_string
  have h2 : slices_BinarySearchFunc_string_k2 p k (fun x0 x1 => past_find_1 x0 x1) (i : Int) = some ((i : Int), decide (∃ h : i < p.length, p[i].Key = k)) := by
    unfold slices_BinarySearchFunc_string_k2
    by_cases c : i < p.length
    · rw [if_pos (by simpa using c), idx_at c]
      simp only [Option.bind_some, hcmp]
      have h3 := hhi i c (Nat.le_refl _)
      simp only [h3, Bool.false_eq_true, if_false, c]
      cases h4 : slt k p[i].Key
      · have := slt_tri h3 h4; simp [this]
      · have := slt_ne h4; simp; exact fun e => this e.symm
    · rw [if_neg (by simpa using c)]
      simp [c]
  refine loopF_inv (fun v => 0 ≤ v.1 ∧ v.1 ≤ (i : Int) ∧ (i : Int) ≤ v.2 ∧ v.2 ≤ (p.length : Int)) (fun v => (v.2 - v.1).toNat) (fun _ => some ((i : Int), decide (∃ h : i < p.length, p[i].Key = k))) ?_ FU _ ⟨Int.le_refl _, by simp, by simpa using hi, Int.le_refl _⟩ ?_
  · rintro again ⟨a, b⟩ ⟨h4, h5, h6, h7⟩ hag
    simp only at h4 h5 h6 h7
    unfold slices_BinarySearchFunc_string_l3
    simp only
    by_cases c : a < b
    · rw [if_pos (by simpa using c), half a b h4 (by omega) (by omega)]
      have hm1 : a ≤ (a + b) / 2 := by omega
      have hm2 : (a + b) / 2 < b := by omega
      generalize hm : (a + b) / 2 = m at hm1 hm2
      rw [idx_int (by omega) (by omega)]
      simp only [Option.bind_some, hcmp]
      by_cases c2 : m < i
      · have := hlo m.toNat (by omega) (by omega)
        simp only [this, if_true]
        rw [if_pos (by decide), wrap64 (by omega) (by omega)]
        exact hag _ ⟨by omega, by simp only; omega, by simp only; omega, by simp only; omega⟩ (by simp only; omega)
      · have := hhi m.toNat (by omega) (by omega)
        simp only [this, Bool.false_eq_true, if_false]
        rw [if_neg (by split <;> decide)]
        exact hag _ ⟨by simp only; omega, by simp only; omega, by simp only; omega, by simp only; omega⟩ (by simp only; omega)
    · rw [if_neg (by simpa using c), show a = (i : Int) by omega]
      exact h2
  · have := FU_big
    simp only
    omega

theorem past_Get_eq {p : List Api_Dep} (hs : sortedP p) (hl : p.length ≤ 140737488355328) (k : ByteArray) : past_Get p k = some (getP p k) := by
  obtain ⟨i, hi, hlo, hhi, he⟩ := bsearch hs hl k
  unfold past_Get past_find
  rw [he]
  simp only [Option.bind_some]
  by_cases c : ∃ h : i < p.length, p[i].Key = k
  · obtain ⟨h1, h2⟩ := c
    simp only [h1, h2, exists_true_left, decide_true, Bool.not_true, Bool.false_eq_true, if_false, idx_at h1, Option.bind_some]
    rw [← h2, getP_at hs h1]
  · rw [decide_eq_false c]
    simp only [Bool.not_false, if_true]
    rw [getP_none]
    intro d hd hk
    obtain ⟨j, hj, rfl⟩ := List.getElem_of_mem hd
    rcases Nat.lt_trichotomy j i with h | h | h
    · exact slt_ne (hlo j hj h) hk
    · subst h; exact c ⟨hj, hk⟩
    · have h3 := hhi i (by omega) (Nat.le_refl _)
      have := sortedP_lt hs h hj
      rw [hk] at this
      rw [this] at h3; cases h3

end Go.Ark
