/- Plain laws: chains of versions. Conditions: none but those that stand in each law. -/
import Derived.Test.YtjmleebbmomcgaaPwire
import Derived.Test.YtjmleebbmomcgaaFchain
namespace Go.Ark
open Go Go.Ab Go.RowKit

theorem slices_Contains_Stamp_eq {l : List Api_Stamp} {s : Api_Stamp} (hl : l.length ≤ 140737488355328) : slices_Contains_Stamp l s = some (decide (s ∈ l)) := by
  unfold slices_Contains_Stamp slices_Index_Stamp
  have h : ∃ n : Int, loopF (slices_Index_Stamp_l2 l s) FU 0 = some n ∧ decide (0 ≤ n) = decide (s ∈ l) := by
    refine loopF_tot (fun (v : Int) => 0 ≤ v ∧ v ≤ (l.length : Int) ∧ ∀ j (hj : j < l.length), (j : Int) < v → l[j] ≠ s) (fun v => ((l.length : Int) - v).toNat) (fun n => decide (0 ≤ n) = decide (s ∈ l)) ?_ FU 0 ⟨Int.le_refl _, by omega, fun j _ h => by omega⟩ (by have := FU_big; omega)
    rintro again v ⟨h1, h2, h3⟩ hag
    unfold slices_Index_Stamp_l2
    by_cases c : v < (l.length : Int)
    · obtain ⟨i, rfl⟩ : ∃ i : Nat, v = i := ⟨v.toNat, by omega⟩
      have hi : i < l.length := by omega
      rw [if_pos (by simpa using c), idx_at hi]
      simp only [Option.bind_some, stampEq]
      by_cases hs : s = l[i]
      · rw [if_pos (by simpa using hs)]
        refine ⟨_, rfl, ?_⟩
        rw [decide_eq_true h1, decide_eq_true (by rw [hs]; exact List.getElem_mem hi)]
      · rw [if_neg (by simpa using hs), wrap64 (by omega) (by omega)]
        refine hag _ ⟨by omega, by omega, fun j hj h => ?_⟩ (by omega)
        by_cases hji : j = i
        · subst hji; exact fun e => hs e.symm
        · exact h3 j hj (by omega)
    · rw [if_neg (by simpa using c)]
      refine ⟨_, rfl, ?_⟩
      rw [decide_eq_false (by decide), decide_eq_false]
      intro hm
      obtain ⟨j, hj, e⟩ := List.getElem_of_mem hm
      exact h3 j hj (by omega) e
  obtain ⟨n, h1, h2⟩ := h
  rw [h1]
  simp only [Option.bind_some, h2]

theorem slices_Equal_Dep_eq {p q : List Api_Dep} (hp : p.length ≤ 140737488355328) : slices_Equal_Dep p q = some (decide (p = q)) := by
  unfold slices_Equal_Dep
  by_cases hl : p.length = q.length
  · rw [if_neg (by simp [hl])]
    refine loopF_inv (fun (v : Int) => 0 ≤ v ∧ v ≤ (p.length : Int) ∧ ∀ j (h1 : j < p.length) (h2 : j < q.length), (j : Int) < v → p[j] = q[j]) (fun v => ((p.length : Int) - v).toNat) (fun _ => some (decide (p = q))) ?_ FU 0 ⟨Int.le_refl _, by omega, fun j _ _ h => by omega⟩ (by have := FU_big; omega)
    rintro again v ⟨h1, h2, h3⟩ hag
    unfold slices_Equal_Dep_l2
    by_cases c : v < (p.length : Int)
    · obtain ⟨i, rfl⟩ : ∃ i : Nat, v = i := ⟨v.toNat, by omega⟩
      have hi : i < p.length := by omega
      have hi2 : i < q.length := by omega
      rw [if_pos (by simpa using c), idx_at hi, idx_at hi2]
      simp only [Option.bind_some, depEq]
      by_cases hd : p[i] = q[i]
      · rw [if_neg (by simp [hd]), wrap64 (by omega) (by omega)]
        refine hag _ ⟨by omega, by omega, fun j h4 h5 h6 => ?_⟩ (by omega)
        by_cases hji : j = i
        · subst hji; exact hd
        · exact h3 j h4 h5 (by omega)
      · rw [if_pos (by simp [hd]), decide_eq_false fun e => hd (by subst e; rfl)]
    · rw [if_neg (by simpa using c)]
      unfold slices_Equal_Dep_k1
      rw [decide_eq_true (List.ext_getElem hl fun j h4 h5 => h3 j h4 h5 (by omega))]
  · rw [if_pos (by simp; omega), decide_eq_false fun e => hl (by rw [e])]

theorem wire_Same_eq {a b : Api_Version} (h : a.Past.length ≤ 140737488355328) : wire_Same a b = some (decide (a = b)) := by
  unfold wire_Same wire_Same_k1 wire_Same_k2 wire_Same_k3 past_Same
  rw [versionEq]
  simp only [slices_Equal_Dep_eq h, Option.bind_some, seq_eq, stampEq]
  cases decide (a.Past = b.Past) <;> cases decide (a.Key = b.Key) <;> cases decide (a.Value = b.Value) <;> cases (a.Gone == b.Gone) <;> cases decide (a.Stamp = b.Stamp) <;> simp

abbrev zeroV : Api_Version := ⟨ByteArray.empty, ByteArray.empty, false, ⟨0, 0⟩, []⟩
/-- the last one, if there is one -/
def lastP (l : List Api_Version) : Api_Version × Bool := match l.getLast? with
  | some v => (v, true)
  | none => (zeroV, false)
def toldP (l : List Api_Version) (i : Int) : Api_Version × Bool := match idx l i with
  | some v => (v, true)
  | none => (zeroV, false)

theorem toldP_in {l : List Api_Version} {i : Nat} (h : i < l.length) : toldP l (i : Int) = (l[i], true) := by simp [toldP, idx_at h]
theorem toldP_out {l : List Api_Version} {i : Int} (h : i < 0 ∨ (l.length : Int) ≤ i) : toldP l i = (zeroV, false) := by
  have : idx l i = none := by
    unfold idx
    split
    · exact List.getElem?_eq_none (by omega)
    · rfl
  simp [toldP, this]

theorem chain_told_eq (l : List Api_Version) (i : Int) : chain_told l i = some (toldP l i) := by
  unfold chain_told chain_told_k1
  by_cases h0 : i < 0
  · rw [if_pos (by simpa using h0), if_pos rfl, toldP_out (.inl h0)]
  · rw [if_neg (by simpa using h0)]
    by_cases h1 : (l.length : Int) ≤ i
    · rw [if_pos (by simpa using h1), toldP_out (.inr h1)]
    · obtain ⟨j, rfl⟩ : ∃ j : Nat, i = j := ⟨i.toNat, by omega⟩
      rw [if_neg (by simpa using h1), toldP_in (by omega), idx_at (show j < l.length by omega)]
      rfl

theorem toldP_last (l : List Api_Version) : toldP l ((l.length : Int) - 1) = lastP l := by
  unfold lastP
  rw [List.getLast?_eq_getElem?]
  rcases Nat.eq_zero_or_pos l.length with h | h
  · rw [toldP_out (.inl (by omega)), List.getElem?_eq_none (by omega)]
  · rw [show (l.length : Int) - 1 = ((l.length - 1 : Nat) : Int) by omega, toldP_in (by omega), List.getElem?_eq_getElem (by omega)]

theorem chain_Head_eq {l : List Api_Version} (hl : l.length ≤ 140737488355328) : chain_Head l = some (lastP l) := by
  unfold chain_Head
  rw [wrap64 (by omega) (by omega), chain_told_eq, toldP_last]
  rfl

/-- by their stamps, one above the other -/
def sortedV (l : List Api_Version) : Prop := l.Pairwise fun a b => lessP a.Stamp b.Stamp = true

/-- how many are below a stamp: they stand first -/
theorem below_split {l : List Api_Version} (hs : sortedV l) (s : Api_Stamp) : ∃ n, n ≤ l.length ∧ (∀ j (hj : j < l.length), j < n → lessP l[j].Stamp s = true) ∧ (∀ j (hj : j < l.length), n ≤ j → lessP l[j].Stamp s = false) ∧ fidx (fun v => !lessP v.Stamp s) l = if n = l.length then -1 else (n : Int) := by
  rcases fidx_cases (fun v : Api_Version => !lessP v.Stamp s) l with ⟨i, hi, h1, h2, h3⟩ | ⟨h1, h2⟩
  · refine ⟨i, by omega, fun j hj hji => by simpa using h2 j hj hji, fun j hj hij => ?_, by rw [h3, if_neg (by omega)]⟩
    have h1 : leS s l[i].Stamp := by simpa [leS] using h1
    rcases Nat.lt_or_ge i j with h | h
    · have := List.pairwise_iff_getElem.1 hs i j hi hj h
      exact leS_trans h1 (leS_of_less this)
    · have : j = i := by omega
      subst this; exact h1
  · refine ⟨l.length, Nat.le_refl _, fun j hj _ => by simpa using h1 _ (List.getElem_mem hj), fun j hj h => by omega, by rw [h2, if_pos rfl]⟩

theorem chain_from_eq {l : List Api_Version} (hl : l.length ≤ 140737488355328) (hs : sortedV l) (s : Api_Stamp) : ∃ n : Nat, chain_from l s = some (n : Int) ∧ n ≤ l.length ∧ (∀ j (hj : j < l.length), j < n → lessP l[j].Stamp s = true) ∧ (∀ j (hj : j < l.length), n ≤ j → lessP l[j].Stamp s = false) := by
  obtain ⟨n, h1, h2, h3, h4⟩ := below_split hs s
  refine ⟨n, ?_, h1, h2, h3⟩
  unfold chain_from
  rw [slices_IndexFunc_Version_eq (p := fun v => !lessP v.Stamp s) (fun x _ => by unfold chain_from_1; rw [stamp_Less_eq]; rfl) hl, h4]
  simp only [Option.bind_some]
  by_cases c : n = l.length
  · rw [if_pos c, if_pos (by decide), c]
  · rw [if_neg c, if_neg (by simp)]

theorem filter_take_drop {α : Type} {p : α → Bool} {l : List α} {n : Nat} (h1 : ∀ j (hj : j < l.length), j < n → p l[j] = true) (h2 : ∀ j (hj : j < l.length), n ≤ j → p l[j] = false) : l.filter p = l.take n := by
  have e : l = l.take n ++ l.drop n := (List.take_append_drop n l).symm
  conv => lhs; rw [e]
  rw [List.filter_append, List.filter_eq_self.2, List.filter_eq_nil_iff.2, List.append_nil]
  · intro x hx
    obtain ⟨j, hj, rfl⟩ := List.getElem_of_mem hx
    simp only [List.length_drop] at hj
    rw [List.getElem_drop, h2 _ (by omega) (by omega)]
    simp
  · intro x hx
    obtain ⟨j, hj, rfl⟩ := List.getElem_of_mem hx
    simp only [List.length_take] at hj
    rw [List.getElem_take]
    exact h1 _ (by omega) (by omega)

def belowP (l : List Api_Version) (s : Api_Stamp) : Api_Version × Bool := lastP (l.filter fun v => !lessP s v.Stamp)
def atP (l : List Api_Version) (s : Api_Stamp) : Api_Version × Bool := lastP (l.filter fun v => decide (v.Stamp = s))

theorem filter_at_one {l : List Api_Version} (hs : sortedV l) {n : Nat} (hn : n < l.length) : (l.filter fun v => decide (v.Stamp = l[n].Stamp)) = [l[n]] := by
  have e : l = l.take n ++ l[n] :: l.drop (n + 1) := by rw [← List.drop_eq_getElem_cons hn, List.take_append_drop]
  have h1 : (l.take n).filter (fun v => decide (v.Stamp = l[n].Stamp)) = [] := List.filter_eq_nil_iff.2 fun x hx => by
    obtain ⟨j, hj, rfl⟩ := List.getElem_of_mem hx
    simp only [List.length_take] at hj
    rw [List.getElem_take]
    have := List.pairwise_iff_getElem.1 hs j n (by omega) hn (by omega)
    simp only [decide_eq_true_eq]
    intro c
    rw [c, lessP_irrefl] at this; cases this
  have h2 : (l.drop (n + 1)).filter (fun v => decide (v.Stamp = l[n].Stamp)) = [] := List.filter_eq_nil_iff.2 fun x hx => by
    obtain ⟨j, hj, rfl⟩ := List.getElem_of_mem hx
    simp only [List.length_drop] at hj
    rw [List.getElem_drop]
    have := List.pairwise_iff_getElem.1 hs n (n + 1 + j) hn (by omega) (by omega)
    simp only [decide_eq_true_eq]
    intro c
    rw [c, lessP_irrefl] at this; cases this
  have h3 : l.filter (fun v => decide (v.Stamp = l[n].Stamp)) = (l.take n).filter (fun v => decide (v.Stamp = l[n].Stamp)) ++ ([l[n]] ++ (l.drop (n + 1)).filter (fun v => decide (v.Stamp = l[n].Stamp))) := by
    conv => lhs; arg 2; rw [e]
    rw [List.filter_append, List.filter_cons, if_pos (by simp)]
    rfl
  rw [h3, h1, h2]
  rfl

theorem chain_At_eq {l : List Api_Version} (hl : l.length ≤ 140737488355328) (hs : sortedV l) (s : Api_Stamp) : chain_At l s = some (atP l s) := by
  obtain ⟨n, h1, h2, h3, h4⟩ := chain_from_eq hl hs s
  unfold chain_At chain_At_k1 atP
  rw [h1]
  simp only [Option.bind_some, chain_told_eq, stampEq]
  have hnone : (∀ j (hj : j < l.length), l[j].Stamp ≠ s) → lastP (l.filter fun v => decide (v.Stamp = s)) = (zeroV, false) := fun h => by
    rw [List.filter_eq_nil_iff.2 fun x hx => by
      obtain ⟨j, hj, rfl⟩ := List.getElem_of_mem hx
      simpa using h j hj]
    rfl
  by_cases c : n < l.length
  · rw [toldP_in c]
    simp only [Bool.not_true, Bool.false_eq_true, if_false]
    by_cases e : l[n].Stamp = s
    · subst e
      rw [filter_at_one hs c]
      simp [lastP]
    · rw [if_pos (by simpa using e), hnone]
      intro j hj ej
      rcases Nat.lt_trichotomy j n with g | g | g
      · have := h3 j hj g
        rw [ej, lessP_irrefl] at this; cases this
      · subst g; exact e ej
      · have := List.pairwise_iff_getElem.1 hs n j c hj g
        have h5 := h4 n c (Nat.le_refl _)
        rw [ej, h5] at this; cases this
  · rw [toldP_out (.inr (by omega))]
    simp only [Bool.not_false, if_true]
    rw [hnone]
    intro j hj ej
    have := h3 j hj (by omega)
    rw [ej, lessP_irrefl] at this; cases this

theorem chain_Below_eq {l : List Api_Version} (hl : l.length ≤ 140737488355328) (hs : sortedV l) (s : Api_Stamp) : chain_Below l s = some (belowP l s) := by
  obtain ⟨n, h1, h2, h3, h4⟩ := chain_from_eq hl hs s
  unfold chain_Below
  rw [chain_At_eq hl hs, h1]
  simp only [Option.bind_some]
  unfold atP belowP
  by_cases c : ∃ h : n < l.length, l[n].Stamp = s
  · obtain ⟨hn, e⟩ := c
    subst e
    rw [filter_at_one hs hn]
    have : (l.filter fun v => !lessP l[n].Stamp v.Stamp) = l.take (n + 1) := filter_take_drop (fun j hj hjn => by
        rcases Nat.lt_or_ge j n with g | g
        · rw [lessP_asymm (List.pairwise_iff_getElem.1 hs j n hj hn g)]; rfl
        · rw [show l[j] = l[n] from by congr 1; omega, lessP_irrefl]; rfl)
      (fun j hj hjn => by rw [List.pairwise_iff_getElem.1 hs n j hn hj (by omega)]; rfl)
    rw [this]
    simp only [lastP, List.getLast?_singleton, if_true]
    rw [List.getLast?_eq_getElem?, List.length_take, show min (n + 1) l.length - 1 = n by omega, List.getElem?_take_of_lt (by omega), List.getElem?_eq_getElem hn]
  · have hno : ∀ j (hj : j < l.length), l[j].Stamp ≠ s := by
      intro j hj ej
      rcases Nat.lt_trichotomy j n with g | g | g
      · have := h3 j hj g
        rw [ej, lessP_irrefl] at this; cases this
      · subst g; exact c ⟨hj, ej⟩
      · have h5 := h4 n (by omega) (Nat.le_refl _)
        have := List.pairwise_iff_getElem.1 hs n j (by omega) hj g
        rw [ej, h5] at this; cases this
    rw [List.filter_eq_nil_iff.2 fun x hx => by
      obtain ⟨j, hj, rfl⟩ := List.getElem_of_mem hx
      simpa using hno j hj]
    have : (l.filter fun v => !lessP s v.Stamp) = l.take n := filter_take_drop (fun j hj hjn => by rw [lessP_asymm (h3 j hj hjn)]; rfl)
      (fun j hj hjn => by
        cases hls : lessP s l[j].Stamp with
        | true => rfl
        | false => exact absurd (lessP_tri (h4 j hj hjn) hls) (hno j hj))
    rw [this]
    simp only [lastP, List.getLast?_nil, Bool.false_eq_true, if_false]
    rw [wrap64 (by omega) (by omega), chain_told_eq]
    simp only [Option.bind_some]
    have e := toldP_last (l.take n)
    rw [List.length_take, show ((min n l.length : Nat) : Int) = n by omega] at e
    have e2 : toldP l ((n : Int) - 1) = toldP (l.take n) ((n : Int) - 1) := by
      rcases Nat.eq_zero_or_pos n with g | g
      · subst g; rw [toldP_out (.inl (by omega)), toldP_out (.inl (by omega))]
      · rw [show (n : Int) - 1 = ((n - 1 : Nat) : Int) by omega, toldP_in (by omega), toldP_in (by rw [List.length_take]; omega), List.getElem_take]
    rw [e2, e]
    rfl

def keepsP (l : List Api_Version) (stable : Api_Stamp) (pins : List Api_Stamp) (v : Api_Version) : Bool :=
  decide (v.Stamp ∈ pins) || (!lessP v.Stamp stable || (decide (lastP l = (v, true)) || decide (belowP l stable = (v, true))))

theorem pairEq {a : Api_Version × Bool} {v : Api_Version} : decide (a = (v, true)) = (a.2 && decide (a.1 = v)) := by
  obtain ⟨x, b⟩ := a
  cases b <;> simp

theorem lastP_small {l : List Api_Version} (h : ∀ v, v ∈ l → v.Past = []) : (lastP l).1.Past = [] := by
  unfold lastP
  cases e : l.getLast? with
  | none => rfl
  | some v => exact h v (List.mem_of_getLast? e)

theorem chain_Keeps_eq {l : List Api_Version} (hl : l.length ≤ 140737488355328) (hs : sortedV l) (hp : ∀ v, v ∈ l → v.Past = []) {pins : List Api_Stamp} (hpl : pins.length ≤ 140737488355328) (stable : Api_Stamp) (v : Api_Version) : chain_Keeps l stable pins v = some (keepsP l stable pins v) := by
  have h1 : ∀ (x : Api_Version) (b : Bool), x.Past = [] → chain_Keeps_1 x b v = some (b && decide (x = v)) := fun x b hx => by
    unfold chain_Keeps_1
    cases b with
    | false => rfl
    | true =>
      rw [if_pos rfl, wire_Same_eq (by rw [hx]; simp)]
      simp
  have hb : (belowP l stable).1.Past = [] := lastP_small fun x hx => hp x (List.mem_filter.1 hx).1
  have hh : (lastP l).1.Past = [] := lastP_small hp
  unfold chain_Keeps chain_Keeps_k1 chain_Keeps_k2 keepsP
  simp only [slices_Contains_Stamp_eq hpl, stamp_Less_eq, chain_Head_eq hl, chain_Below_eq hl hs, Option.bind_some, h1 _ _ hb, h1 _ _ hh, pairEq]
  cases decide (v.Stamp ∈ pins) <;> cases lessP v.Stamp stable <;> cases ((lastP l).2 && decide ((lastP l).1 = v)) <;> simp

def cleanP (l : List Api_Version) (stable : Api_Stamp) (pins : List Api_Stamp) : List Api_Version := l.filter fun v => keepsP l stable pins v

theorem chain_Clean_eq {l : List Api_Version} (hl : l.length ≤ 1099511627) (hs : sortedV l) (hp : ∀ v, v ∈ l → v.Past = []) {pins : List Api_Stamp} (hpl : pins.length ≤ 140737488355328) (stable : Api_Stamp) : chain_Clean l stable pins = some (cleanP l stable pins) := by
  unfold chain_Clean
  rw [slices_Clone_Version_eq (by omega) (by omega)]
  simp only [Option.bind_some]
  rw [slices_DeleteFunc_Version_eq (p := fun v => !keepsP l stable pins v) (fun x _ => by
    unfold chain_Clean_1
    rw [chain_Keeps_eq (by omega) hs hp hpl]
    rfl) (by omega)]
  simp [cleanP]

/-! chains that may be -/
def checkGo (key : ByteArray) : Option Api_Stamp → List Api_Version → Bool
  | _, [] => true
  | o, v :: l => okVersion v && (decide (v.Key = key) && ((match o with | none => true | some s => lessP s v.Stamp) && checkGo key (some v.Stamp) l))
theorem checkGo_cons (key : ByteArray) (o : Option Api_Stamp) (v : Api_Version) (l : List Api_Version) : checkGo key o (v :: l) = (okVersion v && (decide (v.Key = key) && ((match o with | none => true | some s => lessP s v.Stamp) && checkGo key (some v.Stamp) l))) := by
  cases o <;> rfl
def checkV (l : List Api_Version) : Bool := checkGo (match l with | v :: _ => v.Key | [] => ByteArray.empty) none l

theorem checkGo_true {key : ByteArray} {l : List Api_Version} (h1 : ∀ v, v ∈ l → okVersion v = true ∧ v.Key = key) (hs : sortedV l) : ∀ {o : Option Api_Stamp}, (∀ s, o = some s → ∀ v, v ∈ l → lessP s v.Stamp = true) → checkGo key o l = true := by
  induction l with
  | nil => intro o _; cases o <;> rfl
  | cons v l ih =>
    intro o ho
    obtain ⟨h2, h3⟩ := List.pairwise_cons.1 hs
    obtain ⟨h4, h5⟩ := h1 v (by simp)
    rw [checkGo_cons, h4, decide_eq_true h5, ih (fun u hu => h1 u (by simp [hu])) h3 (fun s hs u hu => by cases hs; exact h2 u hu)]
    cases o with
    | none => rfl
    | some s => simp [ho s rfl v (by simp)]

theorem checkV_true {key : ByteArray} {l : List Api_Version} (h1 : ∀ v, v ∈ l → okVersion v = true ∧ v.Key = key) (hs : sortedV l) : checkV l = true := by
  cases l with
  | nil => rfl
  | cons v l =>
    unfold checkV
    exact checkGo_true (fun u hu => ⟨(h1 u hu).1, by rw [(h1 u hu).2]; exact (h1 v (by simp)).2.symm⟩) hs (fun s h => by cases h)

theorem checkV_at {l : List Api_Version} (h : 0 < l.length) : checkV l = checkGo l[0].Key none l := by
  cases l with
  | nil => simp at h
  | cons v l => rfl

theorem chain_Check_eq {l : List Api_Version} (hl : l.length ≤ 140737488355328) (hsm : ∀ v, v ∈ l → smallV v) : chain_Check l = some (checkV l) := by
  rcases Nat.eq_zero_or_pos l.length with h0 | h0
  · have : l = [] := List.length_eq_zero_iff.1 h0
    subst this
    have := FU_big
    unfold chain_Check
    rw [show FU = FU - 1 + 1 by omega, loopF]
    rfl
  rw [checkV_at h0]
  unfold chain_Check
  refine loopF_inv (fun (v : Bool × Int) => 0 ≤ v.2 ∧ v.2 ≤ (l.length : Int) ∧ v.1 = true ∧ checkGo l[0].Key none l = checkGo l[0].Key (if 0 < v.2 then (l[v.2.toNat - 1]?).map (·.Stamp) else none) (l.drop v.2.toNat)) (fun v => ((l.length : Int) - v.2).toNat) (fun _ => some (checkGo l[0].Key none l)) ?_ FU (true, 0) ⟨Int.le_refl _, by simp, rfl, by simp⟩ (by have := FU_big; simp only; omega)
  rintro again ⟨f, v⟩ ⟨h1, h2, h3, h4⟩ hag
  simp only at h1 h2 h3 h4
  subst h3
  obtain ⟨i, rfl⟩ : ∃ i : Nat, v = i := ⟨v.toNat, by omega⟩
  simp only [Int.toNat_natCast] at h4
  unfold chain_Check_l2 chain_Check_k1
  simp only
  by_cases c : (i : Int) < (l.length : Int)
  · have hi : i < l.length := by omega
    have hgo : checkGo l[0].Key none l = checkGo l[0].Key (some l[i].Stamp) (l.drop (i + 1)) → again (true, IntKind.wrap .i64 ((i : Int) + 1)) = some (checkGo l[0].Key none l) := fun hc => by
      rw [wrap64 (by omega) (by omega)]
      refine hag _ ⟨by simp only; omega, by simp only; omega, rfl, ?_⟩ (by simp only; omega)
      simp only
      rw [if_pos (by omega), show ((i : Int) + 1).toNat = i + 1 by omega, Nat.add_sub_cancel, List.getElem?_eq_getElem hi]
      exact hc
    rw [List.drop_eq_getElem_cons hi, checkGo_cons] at h4
    rw [if_pos (by simpa using c), idx_at hi]
    have e0 : idx l 0 = some l[0] := idx_at (i := 0) h0
    simp only [Option.bind_some, wire_Check_eq (hsm _ (List.getElem_mem hi)), e0, seq_eq]
    cases hv : okVersion l[i] with
    | false => rw [hv] at h4; simp [h4]
    | true =>
      rw [hv] at h4
      simp only [if_true, Bool.true_and] at h4 ⊢
      by_cases hk : l[i].Key = l[0].Key
      · rw [decide_eq_true hk] at h4
        rw [if_pos (by simpa using hk)]
        simp only [Bool.true_and] at h4
        by_cases c0 : (i : Int) = 0
        · rw [if_neg (by omega)] at h4
          rw [if_pos (by simpa using c0), if_neg (by simp)]
          exact hgo (by simpa using h4)
        · obtain ⟨q, rfl⟩ : ∃ q, i = q + 1 := ⟨i - 1, by omega⟩
          rw [if_pos (by omega), Nat.add_sub_cancel, List.getElem?_eq_getElem (by omega)] at h4
          rw [if_neg (by simpa using c0), wrap64 (n := ((q + 1 : Nat) : Int) - 1) (by omega) (by omega), show (((q + 1 : Nat) : Int) - 1) = (q : Int) by omega, idx_at (show q < l.length by omega)]
          simp only [Option.bind_some, Option.map_some, stamp_Less_eq] at h4 ⊢
          cases hs : lessP (l[q]'(by omega)).Stamp l[q + 1].Stamp with
          | false => rw [hs] at h4; simp [h4]
          | true =>
            rw [hs] at h4
            simp only [Bool.not_true, Bool.false_eq_true, if_false, Bool.true_and] at h4 ⊢
            exact hgo h4
      · rw [decide_eq_false hk] at h4
        rw [if_neg (by simpa using hk)]
        simp [h4]
  · rw [if_neg (by simpa using c)]
    have : i = l.length := by omega
    subst this
    rw [List.drop_length] at h4
    rw [h4]
    cases (if 0 < ((l.length : Nat) : Int) then (l[l.length - 1]?).map (·.Stamp) else none) <;> rfl
end Go.Ark
