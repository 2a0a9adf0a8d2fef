/- Plain laws: pasts. Conditions: none but those that stand in each law. -/
import Derived.Test.YtdngcojjipaajaaPkeys1
import Derived.Test.YtdngcojjipaajaaPstamp
import Derived.Test.YtdngcojjipaajaaFpast
import Derived.Test.YtdngcojjipaajaaFref04
namespace Go.Ark
open Go Go.Ab Go.RowKit

def getP : List Api_Dep → ByteArray → Api_Stamp
  | [], _ => ⟨0, 0⟩
  | d :: p, k => if d.Key = k then d.Stamp else getP p k

def sortedP (p : List Api_Dep) : Prop := p.Pairwise fun a b => slt a.Key b.Key = true

theorem getP_none {p : List Api_Dep} {k : ByteArray} (h : ∀ d, d ∈ p → d.Key ≠ k) : getP p k = ⟨0, 0⟩ := by
  induction p with
  | nil => rfl
  | cons d p ih => rw [getP, if_neg (h d (by simp)), ih fun d hd => h d (by simp [hd])]

theorem getP_at {p : List Api_Dep} (hs : sortedP p) {i : Nat} (hi : i < p.length) : getP p p[i].Key = p[i].Stamp := by
  induction p generalizing i with
  | nil => simp at hi
  | cons d p ih =>
    have h := List.pairwise_cons.1 hs
    cases i with
    | zero => simp [getP]
    | succ i =>
      have hi' : i < p.length := by simpa using hi
      have hne := slt_ne (h.1 p[i] (List.getElem_mem hi'))
      simp only [List.getElem_cons_succ]
      rw [getP, if_neg hne]
      exact ih h.2 hi'

theorem sortedP_lt {p : List Api_Dep} (hs : sortedP p) {i j : Nat} (hij : i < j) (hj : j < p.length) : slt (p[i]'(by omega)).Key p[j].Key = true := List.pairwise_iff_getElem.1 hs i j (by omega) hj hij

theorem bsearch {p : List Api_Dep} (hs : sortedP p) (hl : p.length ≤ 140737488355328) (k : ByteArray) :
    ∃ i : Nat, i ≤ p.length ∧ (∀ j (hj : j < p.length), j < i → slt p[j].Key k = true) ∧ (∀ j (hj : j < p.length), i ≤ j → slt p[j].Key k = false) ∧
      slices_BinarySearchFunc_string p k (fun x0 x1 => past_find_1 x0 x1) = some ((i : Int), decide (∃ h : i < p.length, p[i].Key = k)) := by
  have hcmp : ∀ d : Api_Dep, past_find_1 d k = some (if slt d.Key k then -1 else if slt k d.Key then 1 else 0) := fun d => by
    unfold past_find_1; rw [cmp_eq]; rfl
  -- where it ends
  have hex : ∃ i : Nat, i ≤ p.length ∧ (∀ j (hj : j < p.length), j < i → slt p[j].Key k = true) ∧ (∀ j (hj : j < p.length), i ≤ j → slt p[j].Key k = false) := by
    clear hl
    induction p with
    | nil => exact ⟨0, Nat.le_refl _, fun j hj => by simp at hj, fun j hj => by simp at hj⟩
    | cons d p ih =>
      cases hd : slt d.Key k with
      | false =>
        refine ⟨0, Nat.zero_le _, fun j hj h => by omega, fun j hj _ => ?_⟩
        cases hj' : slt (d :: p)[j].Key k with
        | false => rfl
        | true =>
          cases j with
          | zero => simp at hj'; rw [hd] at hj'; cases hj'
          | succ j =>
            have := slt_trans (sortedP_lt hs (Nat.succ_pos j) hj) hj'
            simp at this; rw [hd] at this; cases this
      | true =>
        obtain ⟨i, h1, h2, h3⟩ := ih (List.pairwise_cons.1 hs).2
        refine ⟨i + 1, by simpa using h1, fun j hj h => ?_, fun j hj h => ?_⟩
        · cases j with
          | zero => exact hd
          | succ j => exact h2 j (by simpa using hj) (by omega)
        · cases j with
          | zero => omega
          | succ j => exact h3 j (by simpa using hj) (by omega)
  obtain ⟨i, hi, hlo, hhi⟩ := hex
  refine ⟨i, hi, hlo, hhi, ?_⟩
  unfold slices_BinarySearchFunc_string
  have h2 : slices_BinarySearchFunc_string_k1 p k (fun x0 x1 => past_find_1 x0 x1) (i : Int) = some ((i : Int), decide (∃ h : i < p.length, p[i].Key = k)) := by
    unfold slices_BinarySearchFunc_string_k1
    by_cases c : i < p.length
    · rw [if_pos (by simpa using c), idx_at c]
      simp only [Option.bind_some, hcmp]
      have h3 := hhi i c (Nat.le_refl _)
      simp only [h3, Bool.false_eq_true, if_false, c]
      cases h4 : slt k p[i].Key
      · have := slt_tri h3 h4; simp [this]
      · have := slt_ne h4; simp; exact fun e => this e.symm
    · rw [if_neg (by simpa using c)]
      simp [c]
  refine loopF_inv (fun v => 0 ≤ v.1 ∧ v.1 ≤ (i : Int) ∧ (i : Int) ≤ v.2 ∧ v.2 ≤ (p.length : Int)) (fun v => (v.2 - v.1).toNat) (fun _ => some ((i : Int), decide (∃ h : i < p.length, p[i].Key = k))) ?_ FU _ ⟨Int.le_refl _, by simp, by simpa using hi, Int.le_refl _⟩ ?_
  · rintro again ⟨a, b⟩ ⟨h4, h5, h6, h7⟩ hag
    simp only at h4 h5 h6 h7
    unfold slices_BinarySearchFunc_string_l2
    simp only
    by_cases c : a < b
    · rw [if_pos (by simpa using c), half a b h4 (by omega) (by omega)]
      have hm1 : a ≤ (a + b) / 2 := by omega
      have hm2 : (a + b) / 2 < b := by omega
      generalize hm : (a + b) / 2 = m at hm1 hm2
      rw [idx_int (by omega) (by omega)]
      simp only [Option.bind_some, hcmp]
      by_cases c2 : m < i
      · have := hlo m.toNat (by omega) (by omega)
        simp only [this, if_true]
        rw [if_pos (by decide), wrap64 (by omega) (by omega)]
        exact hag _ ⟨by omega, by simp only; omega, by simp only; omega, by simp only; omega⟩ (by simp only; omega)
      · have := hhi m.toNat (by omega) (by omega)
        simp only [this, Bool.false_eq_true, if_false]
        rw [if_neg (by split <;> decide)]
        exact hag _ ⟨by simp only; omega, by simp only; omega, by simp only; omega, by simp only; omega⟩ (by simp only; omega)
    · rw [if_neg (by simpa using c), show a = (i : Int) by omega]
      exact h2
  · have := FU_big
    simp only
    omega

theorem past_Get_eq {p : List Api_Dep} (hs : sortedP p) (hl : p.length ≤ 140737488355328) (k : ByteArray) : past_Get p k = some (getP p k) := by
  obtain ⟨i, hi, hlo, hhi, he⟩ := bsearch hs hl k
  unfold past_Get past_find
  rw [he]
  simp only [Option.bind_some]
  by_cases c : ∃ h : i < p.length, p[i].Key = k
  · obtain ⟨h1, h2⟩ := c
    simp only [h1, h2, exists_true_left, decide_true, Bool.not_true, Bool.false_eq_true, if_false, idx_at h1, Option.bind_some]
    rw [← h2, getP_at hs h1]
  · rw [decide_eq_false c]
    simp only [Bool.not_false, if_true]
    rw [getP_none]
    intro d hd hk
    obtain ⟨j, hj, rfl⟩ := List.getElem_of_mem hd
    rcases Nat.lt_trichotomy j i with h | h | h
    · exact slt_ne (hlo j hj h) hk
    · subst h; exact c ⟨hj, hk⟩
    · have h3 := hhi i (by omega) (Nat.le_refl _)
      have := sortedP_lt hs h hj
      rw [hk] at this
      rw [this] at h3; cases h3

theorem getP_first {p : List Api_Dep} {i : Nat} (hi : i < p.length) (h : ∀ j (hj : j < p.length), j < i → p[j].Key ≠ p[i].Key) : getP p p[i].Key = p[i].Stamp := by
  induction p generalizing i with
  | nil => simp at hi
  | cons d p ih =>
    cases i with
    | zero => simp [getP]
    | succ i =>
      have hi' : i < p.length := by simpa using hi
      have hne := h 0 (by simp) (by omega)
      simp only [List.getElem_cons_zero, List.getElem_cons_succ] at hne ⊢
      rw [getP, if_neg hne]
      exact ih hi' fun j hj hji => by have := h (j + 1) (by simpa using hj) (by omega); simpa using this

theorem ref04_Get_eq {s : List Api_Dep} (hl : s.length ≤ 140737488355328) (k : ByteArray) : ref04_Get s k = some (getP s k) := by
  unfold ref04_Get
  refine loopF_inv (fun v => 0 ≤ v ∧ v ≤ (s.length : Int) ∧ ∀ j (hj : j < s.length), (j : Int) < v → s[j].Key ≠ k) (fun v => (s.length - v).toNat) (fun _ => some (getP s k)) ?_ FU _ ⟨Int.le_refl _, by omega, fun j _ h => by omega⟩ ?_
  · rintro again v ⟨h1, h2, h3⟩ hag
    unfold ref04_Get_l2
    by_cases c : v < (s.length : Int)
    · obtain ⟨i, rfl⟩ : ∃ i : Nat, v = i := ⟨v.toNat, by omega⟩
      have hi : i < s.length := by omega
      rw [if_pos (by simpa using c), idx_at hi]
      simp only [Option.bind_some, seq_eq]
      by_cases hp : s[i].Key = k
      · rw [if_pos (by simpa using hp)]
        subst hp
        rw [getP_first hi fun j hj h => h3 j hj (by omega)]
      · rw [if_neg (by simpa using hp), wrap64 (by omega) (by omega)]
        refine hag _ ⟨by omega, by omega, fun j hj h => ?_⟩ (by omega)
        rcases Nat.lt_or_ge j i with h4 | h4
        · exact h3 j hj (by omega)
        · rw [show s[j] = s[i] from by congr 1; omega]; exact hp
    · rw [if_neg (by simpa using c)]
      simp only [ref04_Get_k1]
      rw [getP_none]
      intro d hd
      obtain ⟨j, hj, rfl⟩ := List.getElem_of_mem hd
      exact h3 j hj (by omega)
  · have := FU_big
    omega

def coversP (p q : List Api_Dep) : Bool := q.all fun d => !lessP (getP p d.Key) d.Stamp

theorem ref04_Covers_eq {p s : List Api_Dep} (hp : p.length ≤ 140737488355328) (hl : s.length ≤ 140737488355328) : ref04_Covers p s = some (coversP p s) := by
  unfold ref04_Covers
  refine loopF_inv (fun v => 0 ≤ v ∧ v ≤ (s.length : Int) ∧ ∀ j (hj : j < s.length), (j : Int) < v → lessP (getP p s[j].Key) s[j].Stamp = false) (fun v => (s.length - v).toNat) (fun _ => some (coversP p s)) ?_ FU _ ⟨Int.le_refl _, by omega, fun j _ h => by omega⟩ ?_
  · rintro again v ⟨h1, h2, h3⟩ hag
    unfold ref04_Covers_l2
    by_cases c : v < (s.length : Int)
    · obtain ⟨i, rfl⟩ : ∃ i : Nat, v = i := ⟨v.toNat, by omega⟩
      have hi : i < s.length := by omega
      rw [if_pos (by simpa using c), idx_at hi]
      simp only [Option.bind_some, ref04_Get_eq hp, ref03_Less_eq]
      cases hq : lessP (getP p s[i].Key) s[i].Stamp with
      | true =>
        simp only [if_true]
        have : coversP p s = false := List.all_eq_false.2 ⟨s[i], List.getElem_mem hi, by simp [hq]⟩
        rw [this]
      | false =>
        simp only [Bool.false_eq_true, if_false]
        rw [wrap64 (by omega) (by omega)]
        refine hag _ ⟨by omega, by omega, fun j hj h => ?_⟩ (by omega)
        rcases Nat.lt_or_ge j i with h4 | h4
        · exact h3 j hj (by omega)
        · have e : j = i := by omega
          subst e; exact hq
    · rw [if_neg (by simpa using c)]
      simp only [ref04_Covers_k1]
      have : coversP p s = true := List.all_eq_true.2 fun d hd => by
        obtain ⟨j, hj, rfl⟩ := List.getElem_of_mem hd
        simp [h3 j hj (by omega)]
      rw [this]
  · have := FU_big
    omega

def okDep (d : Api_Dep) : Bool := okKey d.Key && okStamp d.Stamp

def addGo (d : Api_Dep) : Bool → List Api_Dep → List Api_Dep
  | put, [] => if put then [] else [d]
  | put, x :: p => if x.Key = d.Key then (if lessP x.Stamp d.Stamp then d else x) :: addGo d true p
    else if put = false ∧ slt d.Key x.Key = true then d :: x :: addGo d true p else x :: addGo d put p

def insD (d : Api_Dep) : List Api_Dep → List Api_Dep
  | [] => [d]
  | x :: p => if x.Key = d.Key then (if lessP x.Stamp d.Stamp then d else x) :: p else if slt d.Key x.Key = true then d :: x :: p else x :: insD d p

theorem addGo_true {d : Api_Dep} {p : List Api_Dep} (h : ∀ x, x ∈ p → x.Key ≠ d.Key) : addGo d true p = p := by
  induction p with
  | nil => rfl
  | cons x p ih => rw [addGo, if_neg (h x (by simp)), if_neg (by simp), ih fun y hy => h y (by simp [hy])]

theorem addGo_sorted {d : Api_Dep} {p : List Api_Dep} (hs : sortedP p) : addGo d false p = insD d p := by
  induction p with
  | nil => rfl
  | cons x p ih =>
    obtain ⟨h1, h2⟩ := List.pairwise_cons.1 hs
    rw [addGo, insD]
    by_cases c : x.Key = d.Key
    · rw [if_pos c, if_pos c, addGo_true fun y hy e => by have := h1 y hy; rw [c, e, slt_irrefl] at this; cases this]
    · rw [if_neg c, if_neg c]
      by_cases c2 : slt d.Key x.Key = true
      · rw [if_pos ⟨rfl, c2⟩, if_pos c2, addGo_true fun y hy e => by
          have := slt_trans c2 (h1 y hy)
          rw [e, slt_irrefl] at this; cases this]
      · rw [if_neg (fun h => c2 h.2), if_neg c2, ih h2]

theorem insD_keys {d : Api_Dep} {p : List Api_Dep} {x : Api_Dep} (h : x ∈ insD d p) : x.Key = d.Key ∨ ∃ y, y ∈ p ∧ y.Key = x.Key := by
  induction p with
  | nil => simp [insD] at h; exact .inl (by rw [h])
  | cons y p ih =>
    rw [insD] at h
    split at h
    · rename_i c
      rcases List.mem_cons.1 h with h | h
      · split at h
        · exact .inl (by rw [h])
        · exact .inl (by rw [h, c])
      · exact .inr ⟨x, by simp [h], rfl⟩
    · split at h
      · rcases List.mem_cons.1 h with h | h
        · exact .inl (by rw [h])
        · exact .inr ⟨x, h, rfl⟩
      · rcases List.mem_cons.1 h with h | h
        · exact .inr ⟨y, by simp, by rw [h]⟩
        · rcases ih h with h | ⟨z, hz, e⟩
          · exact .inl h
          · exact .inr ⟨z, by simp [hz], e⟩

theorem insD_sorted {d : Api_Dep} {p : List Api_Dep} (hs : sortedP p) : sortedP (insD d p) := by
  induction p with
  | nil => simp [insD, sortedP]
  | cons x p ih =>
    obtain ⟨h1, h2⟩ := List.pairwise_cons.1 hs
    rw [insD]
    split
    · rename_i c
      refine List.pairwise_cons.2 ⟨fun y hy => ?_, h2⟩
      split
      · rw [← c]; exact h1 y hy
      · exact h1 y hy
    · rename_i c
      split
      · rename_i c2
        refine List.pairwise_cons.2 ⟨fun y hy => ?_, hs⟩
        rcases List.mem_cons.1 hy with rfl | hy
        · exact c2
        · exact slt_trans c2 (h1 y hy)
      · rename_i c2
        refine List.pairwise_cons.2 ⟨fun y hy => ?_, ih h2⟩
        rcases insD_keys hy with h | ⟨z, hz, e⟩
        · rw [h]
          cases h3 : slt x.Key d.Key with
          | true => rfl
          | false => exact absurd (slt_tri h3 (by simpa using c2)) c
        · rw [← e]; exact h1 z hz

theorem addGo_length {d : Api_Dep} : ∀ (put : Bool) (p : List Api_Dep), (addGo d put p).length ≤ p.length + (if put then 0 else 1)
  | true, [] => by simp [addGo]
  | false, [] => by simp [addGo]
  | put, x :: p => by
    have h1 := addGo_length (d := d) true p
    have h2 := addGo_length (d := d) put p
    rw [addGo]
    repeat' split
    all_goals simp only [List.length_cons] at *
    all_goals (try simp_all)
    all_goals omega

def addP (p : List Api_Dep) (d : Api_Dep) : List Api_Dep := if okDep d then addGo d false p else p

theorem addP_sorted {p : List Api_Dep} {d : Api_Dep} (hs : sortedP p) : sortedP (addP p d) := by
  unfold addP
  split
  · rw [addGo_sorted hs]; exact insD_sorted hs
  · exact hs
theorem addP_length (p : List Api_Dep) (d : Api_Dep) : (addP p d).length ≤ p.length + 1 := by
  unfold addP
  split
  · exact addGo_length false p
  · omega

theorem ref04_Add_eq {p : List Api_Dep} {d : Api_Dep} (hp : p.length < 1099511627776) (hk : d.Key.size ≤ 9223372036854775807) : ref04_Add p d = some (addP p d) := by
  unfold ref04_Add
  rw [ref02_Check_eq hk, ref03_Check_eq]
  simp only [Option.bind_some]
  unfold addP okDep ref04_Add_k1
  cases h1 : okKey d.Key with
  | false => simp
  | true =>
    cases h2 : okStamp d.Stamp with
    | false => simp
    | true =>
      simp only [Bool.not_true, Bool.false_eq_true, if_false, Bool.and_self, if_true]
      refine loopF_inv (fun (v : Bool × Int × List Api_Dep) => 0 ≤ v.2.1 ∧ v.2.1 ≤ (p.length : Int) ∧ v.2.2.length ≤ v.2.1.toNat + (if v.1 then 1 else 0) ∧ v.2.2 ++ addGo d v.1 (p.drop v.2.1.toNat) = addGo d false p)
        (fun v => ((p.length : Int) - v.2.1).toNat) (fun _ => some (addGo d false p)) ?_ FU (false, 0, []) ⟨Int.le_refl _, by simp, by simp, by simp⟩ (by have := FU_big; simp only; omega)
      rintro again ⟨put, v, out⟩ ⟨h3, h4, h5, h6⟩ hag
      simp only at h3 h4 h5 h6
      unfold ref04_Add_l3
      simp only
      have hput : (if put = true then 1 else 0) ≤ 1 := by cases put <;> simp
      by_cases c : v < (p.length : Int)
      · obtain ⟨i, rfl⟩ : ∃ i : Nat, v = i := ⟨v.toNat, by omega⟩
        have hi : i < p.length := by omega
        simp only [Int.toNat_natCast] at h5 h6
        have e : IntKind.wrap .i64 ((i : Int) + 1) = ((i + 1 : Nat) : Int) := by rw [wrap64 (by omega) (by omega)]; omega
        rw [List.drop_eq_getElem_cons hi, addGo] at h6
        rw [if_pos (by simpa using c), idx_at hi]
        simp only [Option.bind_some, seq_eq, ref03_Less_eq]
        have fin : ∀ (put' : Bool) (x : Api_Dep), (put' = true → out.length + 1 ≤ i + 1 + 1) → out ++ x :: addGo d put' (p.drop (i + 1)) = addGo d false p → (put' = false → put = false) →
            (app 32 out [x]).bind (fun l => again (put', IntKind.wrap .i64 ((i : Int) + 1), l)) = some (addGo d false p) := by
          intro put' x hle heq hpp
          rw [app_ok (by simp; omega) (by simp; omega), e]
          simp only [Option.bind_some]
          refine hag _ ⟨by simp only; omega, by simp only; omega, ?_, by simp only [Int.toNat_natCast]; rw [List.append_assoc]; exact heq⟩ (by simp only; omega)
          simp only [Int.toNat_natCast, List.length_append, List.length_cons, List.length_nil]
          cases put' with
          | true => simp; omega
          | false => rw [hpp rfl] at h5; simp at h5 ⊢; omega
        by_cases hk : p[i].Key = d.Key
        · rw [if_pos (by simpa using hk)]
          rw [if_pos hk] at h6
          unfold ref04_Add_k4 ref04_Add_k5 ref04_Add_k6
          cases hl : lessP p[i].Stamp d.Stamp with
          | true =>
            simp only [if_true, Bool.not_true, Bool.false_eq_true, if_false]
            rw [hl, if_pos rfl] at h6
            exact fin true d (fun _ => by omega) h6 (fun c => by cases c)
          | false =>
            simp only [Bool.not_true, Bool.false_eq_true, if_false]
            rw [hl, if_neg (by simp)] at h6
            exact fin true p[i] (fun _ => by omega) h6 (fun c => by cases c)
        · rw [if_neg (by simpa using hk)]
          rw [if_neg hk] at h6
          unfold ref04_Add_k4 ref04_Add_k5 ref04_Add_k6
          cases put with
          | true =>
            simp only [Bool.not_true, Bool.false_eq_true, if_false]
            rw [if_neg (by simp)] at h6
            exact fin true p[i] (fun _ => by simp at h5; omega) h6 (fun c => by cases c)
          | false =>
            simp only [Bool.not_false, if_true]
            have hgt : (!(slt p[i].Key d.Key || decide (p[i].Key = d.Key))) = slt d.Key p[i].Key := by
              rw [decide_eq_false hk, Bool.or_false]
              cases h7 : slt p[i].Key d.Key with
              | true => rw [slt_asymm h7]; rfl
              | false =>
                cases h8 : slt d.Key p[i].Key with
                | true => rfl
                | false => exact absurd (slt_tri h7 h8) hk
            rw [seq_eq, hgt]
            cases h7 : slt d.Key p[i].Key with
            | true =>
              simp only [if_true]
              rw [if_pos ⟨rfl, h7⟩] at h6
              simp at h5
              rw [app_ok (by simp; omega) (by simp; omega)]
              simp only [Option.bind_some]
              rw [app_ok (by simp; omega) (by simp; omega), e]
              simp only [Option.bind_some]
              exact hag _ ⟨by simp only; omega, by simp only; omega, by simp; omega, by simp only [Int.toNat_natCast]; rw [← h6]; simp⟩ (by simp only; omega)
            | false =>
              simp only [Bool.false_eq_true, if_false]
              rw [h7, if_neg (by simp)] at h6
              exact fin false p[i] (fun c => by cases c) h6 (fun _ => rfl)
      · rw [if_neg (by simpa using c)]
        unfold ref04_Add_k2
        rw [List.drop_of_length_le (by omega)] at h6
        cases put with
        | true => simp [addGo] at h6 ⊢; exact h6
        | false =>
          simp only [Bool.not_false, if_true]
          simp only [addGo, Bool.false_eq_true, if_false] at h6
          simp at h5
          rw [app_ok (by simp; omega) (by simp; omega), h6]
          rfl

def foldP (acc : List Api_Dep) (p : List Api_Dep) : List Api_Dep := p.foldl addP acc
def mergeP (l : List (List Api_Dep)) : List Api_Dep := l.foldl foldP []

theorem foldP_length (p : List Api_Dep) : ∀ acc, (foldP acc p).length ≤ acc.length + p.length := by
  induction p with
  | nil => intro acc; simp [foldP]
  | cons d p ih =>
    intro acc
    have h1 := ih (addP acc d)
    have h2 := addP_length acc d
    simp only [foldP, List.foldl_cons, List.length_cons] at *
    omega
theorem foldP_sorted (p : List Api_Dep) : ∀ acc, sortedP acc → sortedP (foldP acc p) := by
  induction p with
  | nil => intro acc h; exact h
  | cons d p ih => intro acc h; exact ih _ (addP_sorted h)
theorem mergeFold_length (l : List (List Api_Dep)) : ∀ acc, (l.foldl foldP acc).length ≤ acc.length + (l.map List.length).sum := by
  induction l with
  | nil => intro acc; simp
  | cons p l ih =>
    intro acc
    have h1 := ih (foldP acc p)
    have h2 := foldP_length p acc
    simp only [List.foldl_cons, List.map_cons, List.sum_cons]
    omega
theorem mergeFold_sorted (l : List (List Api_Dep)) : ∀ acc, sortedP acc → sortedP (l.foldl foldP acc) := by
  induction l with
  | nil => intro acc h; exact h
  | cons p l ih => intro acc h; exact ih _ (foldP_sorted p acc h)

/-- what is in a merged past was in one of its parts -/
theorem addGo_mem {d x : Api_Dep} : ∀ {put : Bool} {p : List Api_Dep}, x ∈ addGo d put p → x = d ∨ x ∈ p
  | put, [], h => by
    unfold addGo at h
    split at h
    · simp at h
    · simp at h; exact .inl h
  | put, y :: p, h => by
    rw [addGo] at h
    split at h
    · rcases List.mem_cons.1 h with h | h
      · split at h
        · exact .inl h
        · exact .inr (by simp [h])
      · exact (addGo_mem h).imp id fun h => by simp [h]
    · split at h
      · rcases List.mem_cons.1 h with h | h
        · exact .inl h
        · rcases List.mem_cons.1 h with h | h
          · exact .inr (by simp [h])
          · exact (addGo_mem h).imp id fun h => by simp [h]
      · rcases List.mem_cons.1 h with h | h
        · exact .inr (by simp [h])
        · exact (addGo_mem h).imp id fun h => by simp [h]
theorem addP_mem {d x : Api_Dep} {p : List Api_Dep} (h : x ∈ addP p d) : x = d ∨ x ∈ p := by
  unfold addP at h
  split at h
  · exact addGo_mem h
  · exact .inr h
theorem foldP_mem {x : Api_Dep} (p : List Api_Dep) : ∀ acc, x ∈ foldP acc p → x ∈ acc ∨ x ∈ p := by
  induction p with
  | nil => intro acc h; exact .inl h
  | cons d p ih =>
    intro acc h
    rcases ih _ h with h | h
    · rcases addP_mem h with h | h
      · exact .inr (by simp [h])
      · exact .inl h
    · exact .inr (by simp [h])
theorem mergeFold_mem {x : Api_Dep} (l : List (List Api_Dep)) : ∀ acc, x ∈ l.foldl foldP acc → x ∈ acc ∨ ∃ p, p ∈ l ∧ x ∈ p := by
  induction l with
  | nil => intro acc h; exact .inl h
  | cons p l ih =>
    intro acc h
    rcases ih _ h with h | ⟨q, hq, h⟩
    · rcases foldP_mem p acc h with h | h
      · exact .inl h
      · exact .inr ⟨p, by simp, h⟩
    · exact .inr ⟨q, by simp [hq], h⟩

theorem ref04_Merge_eq {l : List (List Api_Dep)} (hk : ∀ p, p ∈ l → ∀ d, d ∈ p → d.Key.size ≤ 9223372036854775807) (hl : (l.map List.length).sum < 1099511627776) (hll : l.length < 1099511627776) : ref04_Merge l = some (mergeP l) := by
  unfold ref04_Merge mergeP
  refine loopF_inv (fun (v : List Api_Dep × Int) => 0 ≤ v.2 ∧ v.2 ≤ (l.length : Int) ∧ v.1.length + ((l.drop v.2.toNat).map List.length).sum < 1099511627776) (fun v => ((l.length : Int) - v.2).toNat)
    (fun v => some ((l.drop v.2.toNat).foldl foldP v.1)) ?_ FU ([], 0) ⟨Int.le_refl _, by simp, by simpa using hl⟩ (by have := FU_big; simp only; omega)
  rintro again ⟨acc, v⟩ ⟨h1, h2, h3⟩ hag
  simp only at h1 h2 h3 ⊢
  unfold ref04_Merge_l2
  simp only
  by_cases c : v < (l.length : Int)
  · obtain ⟨i, rfl⟩ : ∃ i : Nat, v = i := ⟨v.toNat, by omega⟩
    have hi : i < l.length := by omega
    have e : IntKind.wrap .i64 ((i : Int) + 1) = ((i + 1 : Nat) : Int) := by rw [wrap64 (by omega) (by omega)]; omega
    simp only [Int.toNat_natCast] at h3 ⊢
    rw [List.drop_eq_getElem_cons hi] at h3 ⊢
    simp only [List.map_cons, List.sum_cons] at h3
    rw [if_pos (by simpa using c), List.foldl_cons]
    refine loopF_inv (fun (v : List Api_Dep × Int) => 0 ≤ v.2 ∧ v.2 ≤ (l[i].length : Int) ∧ v.1.length + (l[i].drop v.2.toNat).length ≤ acc.length + l[i].length ∧ foldP v.1 (l[i].drop v.2.toNat) = foldP acc l[i])
      (fun v => ((l[i].length : Int) - v.2).toNat) (fun _ => some ((l.drop (i + 1)).foldl foldP (foldP acc l[i]))) ?_ FU (acc, 0) ⟨Int.le_refl _, by simp, by simp, by simp⟩ (by have := FU_big; simp only; omega)
    rintro again2 ⟨acc2, q⟩ ⟨h4, h5, h6, h7⟩ hag2
    simp only at h4 h5 h6 h7
    unfold ref04_Merge_l5
    simp only
    rw [idx_at hi]
    simp only [Option.bind_some]
    by_cases c2 : q < (l[i].length : Int)
    · obtain ⟨j, rfl⟩ : ∃ j : Nat, q = j := ⟨q.toNat, by omega⟩
      have hj : j < l[i].length := by omega
      have e2 : IntKind.wrap .i64 ((j : Int) + 1) = ((j + 1 : Nat) : Int) := by rw [wrap64 (by omega) (by omega)]; omega
      simp only [Int.toNat_natCast] at h6 h7
      rw [List.drop_eq_getElem_cons hj] at h6 h7
      simp only [List.length_cons] at h6
      rw [if_pos (by simpa using c2), idx_at hj]
      simp only [Option.bind_some]
      rw [ref04_Add_eq (by omega) (hk _ (List.getElem_mem hi) _ (List.getElem_mem hj)), e2]
      simp only [Option.bind_some]
      have h8 := addP_length acc2 l[i][j]
      refine hag2 _ ⟨by simp only; omega, by simp only; omega, by simp only [Int.toNat_natCast]; omega, ?_⟩ (by simp only; omega)
      simp only [Int.toNat_natCast]
      rw [← h7]
      rfl
    · rw [if_neg (by simpa using c2)]
      rw [List.drop_of_length_le (by omega)] at h7
      have h7 : acc2 = foldP acc l[i] := h7
      subst h7
      unfold ref04_Merge_k4 ref04_Merge_k3
      simp only
      rw [e]
      have h8 := foldP_length l[i] acc
      rw [hag _ ⟨by simp only; omega, by simp only; omega, by simp only [Int.toNat_natCast]; omega⟩ (by simp only; omega)]
      simp only [Int.toNat_natCast]
  · rw [if_neg (by simpa using c)]
    rw [List.drop_of_length_le (by omega)]
    rfl

/-! pasts that are compared, and that may be -/
theorem stampEq (a b : Api_Stamp) : (decide (a.N = b.N) && decide (a.Site = b.Site)) = decide (a = b) := by
  cases a; cases b; simp [Bool.decide_and]
theorem depEq (x y : Api_Dep) : (decide (x.Key = y.Key) && decide (x.Stamp.N = y.Stamp.N) && decide (x.Stamp.Site = y.Stamp.Site)) = decide (x = y) := by
  rw [Bool.and_assoc, stampEq]
  cases x; cases y; simp [Bool.decide_and]

theorem ref04_Same_eq {p q : List Api_Dep} (hp : p.length ≤ 140737488355328) : ref04_Same p q = some (decide (p = q)) := by
  unfold ref04_Same
  by_cases hl : p.length = q.length
  · rw [if_neg (by simp [hl])]
    refine loopF_inv (fun (v : Int) => 0 ≤ v ∧ v ≤ (p.length : Int) ∧ ∀ j (h1 : j < p.length) (h2 : j < q.length), (j : Int) < v → p[j] = q[j]) (fun v => ((p.length : Int) - v).toNat) (fun _ => some (decide (p = q))) ?_ FU 0 ⟨Int.le_refl _, by omega, fun j _ _ h => by omega⟩ (by have := FU_big; omega)
    rintro again v ⟨h1, h2, h3⟩ hag
    unfold ref04_Same_l2
    by_cases c : v < (p.length : Int)
    · obtain ⟨i, rfl⟩ : ∃ i : Nat, v = i := ⟨v.toNat, by omega⟩
      have hi : i < p.length := by omega
      have hi2 : i < q.length := by omega
      rw [if_pos (by simpa using c), idx_at hi, idx_at hi2]
      simp only [Option.bind_some, depEq]
      by_cases hd : p[i] = q[i]
      · rw [if_neg (by simp [hd]), wrap64 (by omega) (by omega)]
        refine hag _ ⟨by omega, by omega, fun j h4 h5 h6 => ?_⟩ (by omega)
        by_cases hji : j = i
        · subst hji; exact hd
        · exact h3 j h4 h5 (by omega)
      · rw [if_pos (by simp [hd]), decide_eq_false fun e => hd (by subst e; rfl)]
    · rw [if_neg (by simpa using c)]
      unfold ref04_Same_k1
      rw [decide_eq_true (List.ext_getElem hl fun j h4 h5 => h3 j h4 h5 (by omega))]
  · rw [if_pos (by simp; omega), decide_eq_false fun e => hl (by rw [e])]

/-- deps that may be, each behind a smaller key -/
def chainP : Option ByteArray → List Api_Dep → Bool
  | _, [] => true
  | o, d :: p => okDep d && ((match o with | none => true | some k => slt k d.Key) && chainP (some d.Key) p)

theorem chainP_cons (o : Option ByteArray) (d : Api_Dep) (p : List Api_Dep) : chainP o (d :: p) = (okDep d && ((match o with | none => true | some k => slt k d.Key) && chainP (some d.Key) p)) := by
  cases o <;> rfl
theorem chainP_nil (o : Option ByteArray) : chainP o [] = true := by cases o <;> rfl

theorem chainP_iff {p : List Api_Dep} : ∀ {o : Option ByteArray}, chainP o p = true ↔ (∀ d, d ∈ p → okDep d = true) ∧ sortedP p ∧ ∀ k, o = some k → ∀ d, d ∈ p → slt k d.Key = true := by
  induction p with
  | nil => intro o; simp [chainP, sortedP]
  | cons d p ih =>
    intro o
    simp only [chainP, Bool.and_eq_true, ih, sortedP, List.pairwise_cons, List.mem_cons, forall_eq_or_imp]
    constructor
    · rintro ⟨h1, h2, h3, h4, h5⟩
      refine ⟨⟨h1, h3⟩, ⟨h5 _ rfl, h4⟩, fun k hk => ?_⟩
      subst hk
      exact ⟨h2, fun x hx => slt_trans h2 (h5 _ rfl x hx)⟩
    · rintro ⟨⟨h1, h2⟩, ⟨h3, h4⟩, h5⟩
      refine ⟨h1, ?_, h2, h4, fun k hk => by cases hk; exact h3⟩
      cases o with
      | none => rfl
      | some k => exact (h5 k rfl).1

theorem past_may_eq {d : Api_Dep} (hk : d.Key.size ≤ 9223372036854775807) : past_may d = some (okDep d) := by
  unfold past_may okDep
  rw [keys_Check_eq hk]
  cases okKey d.Key <;> simp [stamp_Check_eq]

/-! what is got of a past that was added to -/
theorem getP_mem {p : List Api_Dep} (hs : sortedP p) {d : Api_Dep} (h : d ∈ p) : getP p d.Key = d.Stamp := by
  obtain ⟨i, hi, rfl⟩ := List.getElem_of_mem h
  exact getP_at hs hi
theorem getP_cases (p : List Api_Dep) (k : ByteArray) : (∃ d, d ∈ p ∧ d.Key = k ∧ getP p k = d.Stamp) ∨ ((∀ d, d ∈ p → d.Key ≠ k) ∧ getP p k = ⟨0, 0⟩) := by
  induction p with
  | nil => right; exact ⟨fun d h => by simp at h, rfl⟩
  | cons x p ih =>
    rw [getP]
    by_cases c : x.Key = k
    · left; rw [if_pos c]; exact ⟨x, by simp, c, rfl⟩
    · rw [if_neg c]
      rcases ih with ⟨d, h1, h2, h3⟩ | ⟨h1, h2⟩
      · left; exact ⟨d, by simp [h1], h2, h3⟩
      · right
        refine ⟨fun d hd => ?_, h2⟩
        rcases List.mem_cons.1 hd with rfl | hd
        · exact c
        · exact h1 d hd

theorem getP_insD {d : Api_Dep} (hd : okStamp d.Stamp = true) (k : ByteArray) : ∀ {p : List Api_Dep}, sortedP p → getP (insD d p) k = if d.Key = k then maxS (getP p k) d.Stamp else getP p k
  | [], _ => by
    simp [insD, getP, maxS, zero_leS hd]
  | x :: p, hs => by
    obtain ⟨h1, h2⟩ := List.pairwise_cons.1 hs
    rw [insD]
    by_cases c : x.Key = d.Key
    · rw [if_pos c]
      by_cases ck : d.Key = k
      · rw [if_pos ck, getP, getP]
        rw [if_pos (c.trans ck)]
        cases hl : lessP x.Stamp d.Stamp <;> simp [maxS, hl, ck, c.trans ck]
      · rw [if_neg ck, getP, getP, if_neg (fun e => ck (c.symm.trans e))]
        have ck2 : ¬ x.Key = k := fun e => ck (c.symm.trans e)
        cases hl : lessP x.Stamp d.Stamp <;> simp [ck, ck2]
    · rw [if_neg c]
      by_cases c2 : slt d.Key x.Key = true
      · rw [if_pos c2, getP]
        by_cases ck : d.Key = k
        · rw [if_pos ck, if_pos ck, getP_none (p := x :: p) (k := k)]
          · simp [maxS, zero_leS hd]
          · intro y hy e
            rcases List.mem_cons.1 hy with rfl | hy
            · exact c (e.trans ck.symm)
            · have := slt_trans c2 (h1 y hy)
              rw [e, ck, slt_irrefl] at this; cases this
        · rw [if_neg ck, if_neg ck]
      · rw [if_neg c2, getP, getP, getP_insD hd k h2]
        by_cases cx : x.Key = k
        · rw [if_pos cx, if_pos cx, if_neg (fun e => c (cx.trans e.symm))]
        · rw [if_neg cx, if_neg cx]

theorem getP_addP {p : List Api_Dep} (hs : sortedP p) (d : Api_Dep) (k : ByteArray) : getP (addP p d) k = if okDep d = true ∧ d.Key = k then maxS (getP p k) d.Stamp else getP p k := by
  unfold addP
  by_cases c : okDep d = true
  · rw [if_pos c, addGo_sorted hs, getP_insD (by simp [okDep] at c; exact c.2) k hs]
    simp [c]
  · rw [if_neg c, if_neg (fun h => c h.1)]

theorem getP_addP_le {p : List Api_Dep} (hs : sortedP p) (d : Api_Dep) (k : ByteArray) : leS (getP p k) (getP (addP p d) k) := by
  rw [getP_addP hs]
  split
  · exact le_maxS_left _ _
  · exact leS_refl _
theorem getP_foldP_le : ∀ (p : List Api_Dep) {acc : List Api_Dep}, sortedP acc → ∀ k, leS (getP acc k) (getP (foldP acc p) k)
  | [], _, _, _ => leS_refl _
  | d :: p, _, hs, k => leS_trans (getP_addP_le hs d k) (getP_foldP_le p (addP_sorted hs) k)
theorem getP_foldP_mem : ∀ (p : List Api_Dep) {acc : List Api_Dep}, sortedP acc → ∀ {d : Api_Dep}, d ∈ p → okDep d = true → leS d.Stamp (getP (foldP acc p) d.Key)
  | [], _, _, _, h, _ => by simp at h
  | x :: p, acc, hs, d, h, ho => by
    rcases List.mem_cons.1 h with rfl | h
    · refine leS_trans ?_ (getP_foldP_le p (addP_sorted hs) d.Key)
      rw [getP_addP hs, if_pos ⟨ho, rfl⟩]
      exact le_maxS_right _ _
    · exact getP_foldP_mem p (addP_sorted hs) h ho
theorem foldP_ok : ∀ (p : List Api_Dep) {acc : List Api_Dep}, (∀ d, d ∈ acc → okDep d = true) → ∀ d, d ∈ foldP acc p → okDep d = true
  | [], _, h => h
  | x :: p, _, h => foldP_ok p fun d hd => by
    unfold addP at hd
    split at hd
    · rename_i c
      rcases addGo_mem hd with rfl | hd
      · exact c
      · exact h d hd
    · exact h d hd
theorem addP_ok {p : List Api_Dep} (h : ∀ d, d ∈ p → okDep d = true) (x : Api_Dep) : ∀ d, d ∈ addP p x → okDep d = true := foldP_ok [x] h

end Go.Ark
