/- Plain laws: pins. Conditions: none but those that stand in each law. -/
import Derived.Test.YtimnigdjffpnbaaP0
import Derived.Test.YtimnigdjffpnbaaFpins
namespace Go.Ark
open Go Go.Ab Go.RowKit

theorem cmpI_eq (x y : Int) : cmp_Compare_int x y = some (if x < y then -1 else if y < x then 1 else 0) := by
  unfold cmp_Compare_int cmp_isNaN_int
  by_cases h1 : x < y <;> by_cases h2 : y < x <;> simp [h1, h2]

def sortedI (l : List Api_Pin) : Prop := l.Pairwise fun a b => a.ID < b.ID

theorem bsearchI {p : List Api_Pin} (hs : sortedI p) (hl : p.length ≤ 140737488355328) (k : Int) :
    ∃ i : Nat, i ≤ p.length ∧ (∀ j (hj : j < p.length), j < i → p[j].ID < k) ∧ (∀ j (hj : j < p.length), i ≤ j → ¬ p[j].ID < k) ∧
      slices_BinarySearchFunc_int p k (fun x0 x1 => pins_find_1 x0 x1) = some ((i : Int), decide (∃ h : i < p.length, p[i].ID = k)) := by
  have hcmp : ∀ d : Api_Pin, pins_find_1 d k = some (if d.ID < k then -1 else if k < d.ID then 1 else 0) := fun d => by
    unfold pins_find_1; rw [cmpI_eq]; rfl
  -- where it ends
  have hex : ∃ i : Nat, i ≤ p.length ∧ (∀ j (hj : j < p.length), j < i → p[j].ID < k) ∧ (∀ j (hj : j < p.length), i ≤ j → ¬ p[j].ID < k) := by
    clear hl
    induction p with
    | nil => exact ⟨0, Nat.le_refl _, fun j hj => by simp at hj, fun j hj => by simp at hj⟩
    | cons d p ih =>
      by_cases hd : d.ID < k
      · obtain ⟨i, h1, h2, h3⟩ := ih (List.pairwise_cons.1 hs).2
        refine ⟨i + 1, by simpa using h1, fun j hj h => ?_, fun j hj h => ?_⟩
        · cases j with
          | zero => exact hd
          | succ j => exact h2 j (by simpa using hj) (by omega)
        · cases j with
          | zero => omega
          | succ j => exact h3 j (by simpa using hj) (by omega)
      · refine ⟨0, Nat.zero_le _, fun j hj h => by omega, fun j hj _ => ?_⟩
        cases j with
        | zero => exact hd
        | succ j =>
          have hj' : j < p.length := by simpa using hj
          have := (List.pairwise_cons.1 hs).1 p[j] (List.getElem_mem hj')
          show ¬ p[j].ID < k
          omega
  obtain ⟨i, hi, hlo, hhi⟩ := hex
  refine ⟨i, hi, hlo, hhi, ?_⟩
  unfold slices_BinarySearchFunc_int
  have h2 : slices_BinarySearchFunc_int_k1 p k (fun x0 x1 => pins_find_1 x0 x1) (i : Int) = some ((i : Int), decide (∃ h : i < p.length, p[i].ID = k)) := by
    unfold slices_BinarySearchFunc_int_k1
    by_cases c : i < p.length
    · rw [if_pos (by simpa using c), idx_at c]
      simp only [Option.bind_some, hcmp]
      have h3 := hhi i c (Nat.le_refl _)
      rw [if_neg h3]
      by_cases h4 : k < p[i].ID
      · rw [if_pos h4]
        have : ¬ ∃ h : i < p.length, p[i].ID = k := fun ⟨_, e⟩ => by omega
        rw [decide_eq_false this]; rfl
      · rw [if_neg h4]
        have : ∃ h : i < p.length, p[i].ID = k := ⟨c, by omega⟩
        rw [decide_eq_true this]; rfl
    · rw [if_neg (by simpa using c)]
      simp [c]
  refine loopF_inv (fun v => 0 ≤ v.1 ∧ v.1 ≤ (i : Int) ∧ (i : Int) ≤ v.2 ∧ v.2 ≤ (p.length : Int)) (fun v => (v.2 - v.1).toNat) (fun _ => some ((i : Int), decide (∃ h : i < p.length, p[i].ID = k))) ?_ FU _ ⟨Int.le_refl _, by simp, by simpa using hi, Int.le_refl _⟩ ?_
  · rintro again ⟨a, b⟩ ⟨h4, h5, h6, h7⟩ hag
    simp only at h4 h5 h6 h7
    unfold slices_BinarySearchFunc_int_l2
    simp only
    by_cases c : a < b
    · rw [if_pos (by simpa using c), half a b h4 (by omega) (by omega)]
      have hm1 : a ≤ (a + b) / 2 := by omega
      have hm2 : (a + b) / 2 < b := by omega
      generalize hm : (a + b) / 2 = m at hm1 hm2
      rw [idx_int (by omega) (by omega)]
      simp only [Option.bind_some, hcmp]
      by_cases c2 : m < i
      · have := hlo m.toNat (by omega) (by omega)
        rw [if_pos this, if_pos (by decide), wrap64 (by omega) (by omega)]
        exact hag _ ⟨by omega, by simp only; omega, by simp only; omega, by simp only; omega⟩ (by simp only; omega)
      · have := hhi m.toNat (by omega) (by omega)
        rw [if_neg this, if_neg (by split <;> decide)]
        exact hag _ ⟨by simp only; omega, by simp only; omega, by simp only; omega, by simp only; omega⟩ (by simp only; omega)
    · rw [if_neg (by simpa using c), show a = (i : Int) by omega]
      exact h2
  · have := FU_big
    simp only
    omega


def hasI (l : List Api_Pin) (id : Int) : Bool := l.any fun x => decide (x.ID = id)
def insI (p : Api_Pin) : List Api_Pin → List Api_Pin
  | [] => [p]
  | x :: l => if p.ID < x.ID then p :: x :: l else x :: insI p l
def dropI (l : List Api_Pin) (id : Int) : List Api_Pin := l.filter fun x => !decide (x.ID = id)
def getI (l : List Api_Pin) (id : Int) : Api_Pin × Bool := match l.find? fun x => decide (x.ID = id) with
  | some x => (x, true)
  | none => (⟨0, []⟩, false)

theorem sortedI_lt {p : List Api_Pin} (hs : sortedI p) {i j : Nat} (hij : i < j) (hj : j < p.length) : (p[i]'(by omega)).ID < p[j].ID := List.pairwise_iff_getElem.1 hs i j (by omega) hj hij

theorem pins_find_eq {l : List Api_Pin} (hs : sortedI l) (hl : l.length ≤ 1000000) (id : Int) : ∃ i : Nat, i ≤ l.length ∧ (∀ j (hj : j < l.length), j < i → l[j].ID < id) ∧ (∀ j (hj : j < l.length), i ≤ j → ¬ l[j].ID < id) ∧
    pins_find l id = some ((i : Int), hasI l id) ∧ (hasI l id = true ↔ ∃ h : i < l.length, l[i].ID = id) := by
  obtain ⟨i, hi, hlo, hhi, he⟩ := bsearchI hs (by omega) id
  have hiff : hasI l id = true ↔ ∃ h : i < l.length, l[i].ID = id := by
    unfold hasI
    rw [List.any_eq_true]
    constructor
    · rintro ⟨x, hx, e⟩
      have e : x.ID = id := by simpa using e
      obtain ⟨j, hj, rfl⟩ := List.getElem_of_mem hx
      rcases Nat.lt_trichotomy j i with h | h | h
      · have := hlo j hj h; omega
      · subst h; exact ⟨hj, e⟩
      · have h1 := hhi i (by omega) (Nat.le_refl _)
        have := sortedI_lt hs h hj
        omega
    · rintro ⟨h, e⟩
      exact ⟨_, List.getElem_mem h, by simpa using e⟩
  refine ⟨i, hi, hlo, hhi, ?_, hiff⟩
  unfold pins_find
  rw [he]
  simp only [Option.bind_some]
  congr 2
  by_cases c : ∃ h : i < l.length, l[i].ID = id
  · rw [decide_eq_true c, hiff.2 c]
  · rw [decide_eq_false c]
    cases h : hasI l id with
    | false => rfl
    | true => exact absurd (hiff.1 h) c

theorem insI_at {v : Api_Pin} : ∀ {l : List Api_Pin} {n : Nat}, n ≤ l.length → (∀ j (hj : j < l.length), j < n → l[j].ID < v.ID) → (∀ j (hj : j < l.length), n ≤ j → v.ID < l[j].ID) → insI v l = l.take n ++ v :: l.drop n
  | [], n, h0, _, _ => by
    have : n = 0 := by simpa using h0
    subst this; rfl
  | x :: l, 0, _, _, h2 => by
    have h : v.ID < x.ID := h2 0 (by simp) (Nat.le_refl _)
    rw [insI, if_pos h]; rfl
  | x :: l, n + 1, h0, h1, h2 => by
    have h : x.ID < v.ID := h1 0 (by simp) (Nat.succ_pos _)
    rw [insI, if_neg (by omega), insI_at (l := l) (n := n) (by simpa using h0) (fun j hj hjn => h1 (j + 1) (Nat.succ_lt_succ hj) (Nat.succ_lt_succ hjn)) (fun j hj hjn => h2 (j + 1) (Nat.succ_lt_succ hj) (Nat.succ_le_succ hjn))]
    rfl
theorem insI_mem {v x : Api_Pin} : ∀ {l : List Api_Pin}, x ∈ insI v l ↔ x = v ∨ x ∈ l
  | [] => by simp [insI]
  | y :: l => by
    rw [insI]
    split
    · simp
    · simp only [List.mem_cons, insI_mem (l := l)]
      constructor
      · rintro (h | h | h)
        · exact .inr (.inl h)
        · exact .inl h
        · exact .inr (.inr h)
      · rintro (h | h | h)
        · exact .inr (.inl h)
        · exact .inl h
        · exact .inr (.inr h)
theorem insI_length (v : Api_Pin) : ∀ l : List Api_Pin, (insI v l).length = l.length + 1
  | [] => rfl
  | x :: l => by
    rw [insI]
    split
    · rfl
    · simp [insI_length v l]
theorem insI_sorted {v : Api_Pin} : ∀ {l : List Api_Pin}, sortedI l → (∀ x, x ∈ l → x.ID ≠ v.ID) → sortedI (insI v l)
  | [], _, _ => by simp [insI, sortedI]
  | x :: l, hs, hn => by
    obtain ⟨h1, h2⟩ := List.pairwise_cons.1 hs
    rw [insI]
    split
    · rename_i c
      refine List.pairwise_cons.2 ⟨fun y hy => ?_, hs⟩
      rcases List.mem_cons.1 hy with rfl | hy
      · exact c
      · have := h1 y hy; omega
    · rename_i c
      refine List.pairwise_cons.2 ⟨fun y hy => ?_, insI_sorted h2 fun y hy => hn y (by simp [hy])⟩
      rcases insI_mem.1 hy with rfl | hy
      · have := hn x (by simp); omega
      · exact h1 y hy
theorem hasI_false {l : List Api_Pin} {id : Int} (h : hasI l id = false) : ∀ x, x ∈ l → x.ID ≠ id := fun x hx => by
  simpa using List.any_eq_false.1 h x hx
theorem hasI_true {l : List Api_Pin} {x : Api_Pin} (h : x ∈ l) : hasI l x.ID = true := List.any_eq_true.2 ⟨x, h, by simp⟩
theorem hasI_none {l : List Api_Pin} {id : Int} (h : ∀ x, x ∈ l → x.ID ≠ id) : hasI l id = false := List.any_eq_false.2 fun x hx => by simpa using h x hx

theorem pins_Put_eq {l : List Api_Pin} (hs : sortedI l) (hl : l.length ≤ 1000000) (p : Api_Pin) :
    pins_Put l p = some (if p.ID < 1 then ([], 1) else if hasI l p.ID = true then ([], 13) else if 8 ≤ l.length then ([], 15) else (insI p l, 0)) := by
  obtain ⟨i, hi, hlo, hhi, he, hiff⟩ := pins_find_eq hs hl p.ID
  unfold pins_Put
  rw [he]
  simp only [Option.bind_some]
  by_cases c1 : p.ID < 1
  · rw [if_pos (decide_eq_true c1), if_pos c1]
  · rw [if_neg (by simpa using c1), if_neg c1]
    cases c2 : hasI l p.ID with
    | true => simp
    | false =>
      simp only [Bool.false_eq_true, if_false]
      by_cases c3 : 8 ≤ l.length
      · rw [if_pos (decide_eq_true (by omega)), if_pos c3]
      · rw [if_neg (by rw [decide_eq_true_eq]; omega), if_neg c3]
        unfold slices_Clone_Pin slices_Insert_Pin
        rw [app_ok (by simp; omega) (by simp; omega)]
        simp only [Option.bind_some, List.nil_append]
        unfold insL
        simp only
        rw [if_pos ⟨by omega, by omega, by omega, by omega⟩, insI_at hi hlo fun j hj hij => ?_]
        · rfl
        · have h1 := hhi j hj hij
          have h2 := hasI_false c2 l[j] (List.getElem_mem hj)
          omega

theorem dropI_at {l : List Api_Pin} (hs : sortedI l) {i : Nat} (hi : i < l.length) : l.take i ++ l.drop (i + 1) = dropI l l[i].ID := by
  have e : l = l.take i ++ l[i] :: l.drop (i + 1) := by rw [← List.drop_eq_getElem_cons hi, List.take_append_drop]
  have h1 : (l.take i).filter (fun x => !decide (x.ID = l[i].ID)) = l.take i := List.filter_eq_self.2 fun x hx => by
    obtain ⟨j, hj, rfl⟩ := List.getElem_of_mem hx
    rw [List.length_take] at hj
    rw [List.getElem_take]
    have := sortedI_lt hs (show j < i by omega) hi
    simp; omega
  have h2 : (l.drop (i + 1)).filter (fun x => !decide (x.ID = l[i].ID)) = l.drop (i + 1) := List.filter_eq_self.2 fun x hx => by
    obtain ⟨j, hj, rfl⟩ := List.getElem_of_mem hx
    rw [List.length_drop] at hj
    rw [List.getElem_drop]
    have := sortedI_lt hs (show i < i + 1 + j by omega) (by omega)
    simp; omega
  have h3 : dropI (l.take i ++ l[i] :: l.drop (i + 1)) l[i].ID = l.take i ++ l.drop (i + 1) := by
    unfold dropI
    rw [List.filter_append, List.filter_cons, h1, h2]
    simp
  rw [← e] at h3
  exact h3.symm

theorem pins_Drop_eq {l : List Api_Pin} (hs : sortedI l) (hl : l.length ≤ 1000000) (id : Int) : pins_Drop l id = some (if hasI l id = true then (dropI l id, 0) else ([], 12)) := by
  obtain ⟨i, hi, hlo, hhi, he, hiff⟩ := pins_find_eq hs hl id
  unfold pins_Drop
  rw [he]
  simp only [Option.bind_some]
  cases c2 : hasI l id with
  | false => simp
  | true =>
    obtain ⟨h1, h2⟩ := hiff.1 c2
    simp only [Bool.not_true, Bool.false_eq_true, if_false, if_true]
    unfold slices_Clone_Pin slices_Delete_Pin
    rw [app_ok (by simp; omega) (by simp; omega), wrap64 (by omega) (by omega)]
    simp only [Option.bind_some, List.nil_append]
    unfold delL
    rw [if_pos ⟨by omega, by omega, rfl, by omega⟩]
    simp only [Option.bind_some, Int.toNat_natCast]
    rw [dropI_at hs h1, h2]

theorem pins_Get_eq {l : List Api_Pin} (hs : sortedI l) (hl : l.length ≤ 1000000) (id : Int) : ∃ x, pins_Get l id = some (x, hasI l id) ∧ (hasI l id = true → x ∈ l ∧ x.ID = id) := by
  obtain ⟨i, hi, hlo, hhi, he, hiff⟩ := pins_find_eq hs hl id
  unfold pins_Get
  rw [he]
  simp only [Option.bind_some]
  cases c2 : hasI l id with
  | false => exact ⟨_, rfl, fun h => (by cases h)⟩
  | true =>
    obtain ⟨h1, h2⟩ := hiff.1 c2
    simp only [Bool.not_true, Bool.false_eq_true, if_false, idx_at h1, Option.bind_some]
    exact ⟨_, rfl, fun _ => ⟨List.getElem_mem h1, h2⟩⟩
end Go.Ark
