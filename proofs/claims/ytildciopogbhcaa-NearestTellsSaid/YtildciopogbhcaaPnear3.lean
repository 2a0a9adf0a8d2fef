/- Plain laws: what the chapter's functions tell is what was defined. Conditions: none but those that stand in each law. -/
import Derived.Test.YtildciopogbhcaaPnear2
import Derived.Test.YtildciopogbhcaaFref05
namespace Go.Ark
open Go Go.Ab Go.RowKit

/-- pasts of versions that are small, and in order -/
def SV (l : List Api_Version) : Prop := l.length ≤ 1000000 ∧ ∀ v, v ∈ l → sortedP v.Past ∧ v.Past.length ≤ 1000

theorem SV.find {l : List Api_Version} (h : SV l) (d : Api_Dep) : sortedP (findV l d).1.Past ∧ (findV l d).1.Past.length ≤ 1000 := by
  cases c : (findV l d).2 with
  | true => exact h.2 _ (findV_some c).1
  | false => rw [(findV_none c).2]; exact ⟨List.Pairwise.nil, by simp [noV]⟩

theorem sorted_inj {p : List Api_Dep} (hs : sortedP p) {i j : Nat} (hi : i < p.length) (hj : j < p.length) : p[i] = p[j] ↔ i = j := by
  constructor
  · intro h
    rcases Nat.lt_trichotomy i j with c | c | c
    · have := sortedP_lt hs c hj
      rw [h, slt_irrefl] at this; cases this
    · exact c
    · have := sortedP_lt hs c hi
      rw [h, slt_irrefl] at this; cases this
  · intro h; subst h; rfl

theorem nearest_Reduce_eq {p : List Api_Dep} {l : List Api_Version} (hs : sortedP p) (hp : p.length ≤ 1000000000) (hl : SV l) : nearest_Reduce p l = some (redP p l) := by
  unfold nearest_Reduce
  refine (loopL (body := nearest_Reduce_l2 p l) p (fun (s : List Api_Dep) i => (i, s)) (fun rest s => some (s ++ rest.filter fun d => !toldP p l d)) (fun i s => s.length ≤ i) ?_ ?_ (s0 := []) (by simp) (by omega)).trans (by simp [redP])
  · intro again s _
    unfold nearest_Reduce_l2 nearest_Reduce_k1
    simp
  · intro again i s hi hI hag
    unfold nearest_Reduce_l2
    simp only
    rw [if_pos (by simpa using hi), idx_at hi]
    simp only [Option.bind_some]
    refine (loopL (body := nearest_Reduce_l5 p l again ((i : Int), s) p[i]) p (fun (_ : Unit) k => k) (fun rest _ => if rest.any (fun x => decide (x ≠ p[i]) && tellsP l x p[i]) then some (s ++ (p.drop (i + 1)).filter fun d => !toldP p l d) else some (s ++ p[i] :: (p.drop (i + 1)).filter fun d => !toldP p l d)) (fun _ _ => True) ?_ ?_ (s0 := ()) trivial (by omega)).trans ?_
    · intro again2 _ _
      unfold nearest_Reduce_l5 nearest_Reduce_k4 nearest_Reduce_k3
      simp only [Int.lt_irrefl, decide_false, Bool.false_eq_true, if_false, List.any_nil]
      rw [app_ok (by simp; omega) (by simp; omega), wrap64 (by omega) (by omega)]
      simp only [Option.bind_some]
      rw [hag (s ++ [p[i]]) (by simp; omega)]
      simp
    · intro again2 k _ hk _ hag2
      unfold nearest_Reduce_l5
      rw [if_pos (by simpa using hk), idx_at hk]
      simp only [Option.bind_some]
      rw [nearest_tells_eq hl.1 (fun v hv => ⟨(hl.2 v hv).1, Nat.le_trans (hl.2 v hv).2 (by decide)⟩), wrap64 (n := (k : Int) + 1) (by omega) (by omega), List.any_cons]
      simp only [Option.bind_some]
      by_cases c : k = i
      · subst c
        rw [if_neg (by simp), hag2 () trivial]
        simp
      · have hne : p[k] ≠ p[i] := fun e => c ((sorted_inj hs hk hi).1 e)
        rw [if_pos (by simp; omega), decide_eq_true hne, Bool.true_and]
        cases ht : tellsP l p[k] p[i] with
        | true =>
          simp only [if_true, Bool.true_or]
          unfold nearest_Reduce_k3
          simp only
          rw [wrap64 (by omega) (by omega)]
          exact hag s (by omega)
        | false =>
          simp only [Bool.false_eq_true, if_false, Bool.false_or]
          rw [hag2 () trivial]
    · show (if toldP p l p[i] then _ else _) = _
      rw [List.filter_cons]
      cases ht : toldP p l p[i] <;> simp

theorem nearest_Expand_eq {p : List Api_Dep} {l : List Api_Version} (hp : p.length ≤ 100000) (hk : ∀ d, d ∈ p → d.Key.size ≤ 9223372036854775807) (hl : SV l) (hkl : ∀ v, v ∈ l → ∀ d, d ∈ v.Past → d.Key.size ≤ 9223372036854775807) : nearest_Expand p l = some (expP p l) := by
  have hsum : ∀ q : List Api_Dep, ((q.map fun d => (findV l d).1.Past).map List.length).sum ≤ q.length * 1000 := by
    intro q
    induction q with
    | nil => simp
    | cons d q ih =>
      simp only [List.map_cons, List.sum_cons, List.length_cons]
      have := (hl.find d).2
      omega
  unfold nearest_Expand
  refine (loopL (body := nearest_Expand_l2 p l) p (fun (s : List (List Api_Dep)) i => (i, s)) (fun rest s => if s ++ (rest.map fun d => (findV l d).1.Past) = p :: p.map (fun d => (findV l d).1.Past) then some (expP p l) else none) (fun i s => s = p :: (p.take i).map fun d => (findV l d).1.Past) ?_ ?_ (s0 := [p]) (by simp) (by omega)).trans (by simp)
  · intro again s hs
    unfold nearest_Expand_l2 nearest_Expand_k1
    simp only [Int.lt_irrefl, decide_false, Bool.false_eq_true, if_false]
    rw [List.take_length] at hs
    subst hs
    rw [past_Merge_eq]
    · simp [expP]
    · intro q hq d hd
      rcases List.mem_cons.1 hq with rfl | hq
      · exact hk d hd
      · obtain ⟨x, hx, rfl⟩ := List.mem_map.1 hq
        cases c : (findV l x).2 with
        | true => exact hkl _ (findV_some c).1 d hd
        | false => rw [(findV_none c).2] at hd; simp [noV] at hd
    · have := hsum p
      simp only [List.map_cons, List.sum_cons]
      omega
    · simp; omega
  · intro again i s hi hI hag
    unfold nearest_Expand_l2
    simp only
    rw [if_pos (by simpa using hi), idx_at hi]
    simp only [Option.bind_some]
    rw [nearest_Find_eq hl.1]
    simp only [Option.bind_some]
    have hs : s.length = i + 1 := by rw [hI]; simp; omega
    rw [app_ok (by simp; omega) (by simp; omega), wrap64 (by omega) (by omega)]
    simp only [Option.bind_some]
    rw [hag (s ++ [(findV l p[i]).1.Past]) (by rw [hI, List.take_add_one, List.getElem?_eq_getElem hi, List.map_append]; rfl), List.map_cons, List.append_assoc]
    rfl

theorem nearest_Closed_eq {p : List Api_Dep} {l : List Api_Version} (hs : sortedP p) (hp : p.length ≤ 1000000000) (hl : SV l) : nearest_Closed p l = some (closedP p l) := by
  unfold nearest_Closed slices_ContainsFunc_Dep
  rw [slices_IndexFunc_Dep_eq (p := fun d => !((findV l d).2 && coversP p (findV l d).1.Past)) (fun x _ => by
    unfold nearest_Closed_1
    rw [nearest_Find_eq hl.1]
    simp only [Option.bind_some]
    cases c : (findV l x).2 with
    | false => simp
    | true =>
      simp only [Bool.not_true, Bool.false_eq_true, if_false]
      rw [past_Covers_eq hs (by omega) (by have := (hl.find x).2; omega)]
      simp) (by omega)]
  simp only [Option.bind_some]
  unfold closedP
  rcases fidx_cases (fun d : Api_Dep => !((findV l d).2 && coversP p (findV l d).1.Past)) p with ⟨i, hi, h1, h2, h3⟩ | ⟨h1, h2⟩
  · rw [h3, decide_eq_true (by omega)]
    rw [show (p.all fun d => (findV l d).2 && coversP p (findV l d).1.Past) = false from List.all_eq_false.2 ⟨p[i], List.getElem_mem hi, by rw [Bool.not_eq_true]; simpa only [Bool.not_eq_true'] using h1⟩]
    rfl
  · rw [h2, decide_eq_false (by omega)]
    rw [show (p.all fun d => (findV l d).2 && coversP p (findV l d).1.Past) = true from List.all_eq_true.2 fun d hd => by simpa using h1 d hd]
    rfl

/-- is this version sound? -/
def soundV (l : List Api_Version) (i : Nat) (v : Api_Version) : Bool := !(findV (l.take i) (depOf v)).2 && okPast v.Past && okStamp v.Stamp && (v.Past.all fun d => lessP d.Stamp v.Stamp) && closedP v.Past l

theorem findV_any (l : List Api_Version) (d : Api_Dep) : (findV l d).2 = l.any fun v => isP v d := by
  cases c : (findV l d).2 with
  | true =>
    obtain ⟨h1, h2⟩ := findV_some c
    exact (List.any_eq_true.2 ⟨_, h1, h2⟩).symm
  | false => exact (List.any_eq_false.2 fun v hv => by simp [(findV_none c).1 v hv]).symm

theorem nearest_Sound_eq {l : List Api_Version} (hl : SV l) (hk : ∀ v, v ∈ l → ∀ d, d ∈ v.Past → d.Key.size ≤ 9223372036854775807) : nearest_Sound l = some (decide (∀ i (h : i < l.length), soundV l i l[i] = true)) := by
  have hl1 := hl.1
  unfold nearest_Sound
  refine loopF_inv (fun (v : Int) => 0 ≤ v ∧ v ≤ (l.length : Int) ∧ ∀ i (h : i < l.length), (i : Int) < v → soundV l i l[i] = true) (fun v => ((l.length : Int) - v).toNat) (fun _ => some (decide (∀ i (h : i < l.length), soundV l i l[i] = true))) ?_ FU 0 ⟨Int.le_refl _, by omega, fun i _ h => by omega⟩ (by have := FU_big; omega)
  rintro again v ⟨h1, h2, h3⟩ hag
  unfold nearest_Sound_l2
  by_cases c : v < (l.length : Int)
  · obtain ⟨i, rfl⟩ : ∃ i : Nat, v = i := ⟨v.toNat, by omega⟩
    have hi : i < l.length := by omega
    have hm := List.getElem_mem hi
    obtain ⟨hv1, hv2⟩ := hl.2 _ hm
    have hsub : sub l 0 (i : Int) = some (l.take i) := by simp [sub]; omega
    rw [if_pos (by simpa using c), idx_at hi, hsub]
    simp only [Option.bind_some]
    rw [nearest_Find_eq (by simp; omega)]
    simp only [Option.bind_some]
    have hno : ∀ b, soundV l i l[i] = false → some b = some (decide (∀ i (h : i < l.length), soundV l i l[i] = true)) ∨ b = true := fun b h => by
      cases b with
      | true => exact .inr rfl
      | false =>
        refine .inl ?_
        rw [decide_eq_false fun hh => by rw [hh i hi] at h; cases h]
    have hbad : soundV l i l[i] = false → some false = some (decide (∀ i (h : i < l.length), soundV l i l[i] = true)) := fun h => (hno false h).resolve_right (by simp)
    have e : (⟨l[i].Key, l[i].Stamp⟩ : Api_Dep) = depOf l[i] := rfl
    rw [e]
    cases c1 : (findV (l.take i) (depOf l[i])).2 with
    | true =>
      unfold nearest_Sound_k3 nearest_Sound_k4 nearest_Sound_k5
      simp only [if_true]
      exact hbad (by unfold soundV; rw [c1]; rfl)
    | false =>
      simp only [Bool.false_eq_true, if_false]
      rw [past_Check_eq (by omega) (hk _ hm)]
      simp only [Option.bind_some]
      unfold nearest_Sound_k3
      cases c2 : okPast l[i].Past with
      | false =>
        unfold nearest_Sound_k4 nearest_Sound_k5
        simp only [Bool.not_false, if_true]
        exact hbad (by unfold soundV; rw [c1, c2]; rfl)
      | true =>
        simp only [Bool.not_true, Bool.false_eq_true, if_false]
        rw [stamp_Check_eq]
        simp only [Option.bind_some]
        unfold nearest_Sound_k4
        cases c3 : okStamp l[i].Stamp with
        | false =>
          unfold nearest_Sound_k5
          simp only [Bool.not_false, if_true]
          exact hbad (by unfold soundV; rw [c1, c2, c3]; rfl)
        | true =>
          simp only [Bool.not_true, Bool.false_eq_true, if_false]
          have hcf : slices_ContainsFunc_Dep l[i].Past (fun x0 => nearest_Sound_1 x0 l[i]) = some (!(l[i].Past.all fun d => lessP d.Stamp l[i].Stamp)) := by
            unfold slices_ContainsFunc_Dep
            rw [slices_IndexFunc_Dep_eq (p := fun d => !lessP d.Stamp l[i].Stamp) (fun x _ => by unfold nearest_Sound_1; rw [stamp_Less_eq]; rfl) (by omega)]
            simp only [Option.bind_some, fidx_any]
            rw [List.not_all_eq_any_not]
          rw [hcf]
          simp only [Option.bind_some]
          unfold nearest_Sound_k5
          cases c4 : l[i].Past.all fun d => lessP d.Stamp l[i].Stamp with
          | false =>
            simp only [Bool.not_false, if_true]
            exact hbad (by unfold soundV; rw [c1, c2, c3, c4]; rfl)
          | true =>
            simp only [Bool.not_true, Bool.false_eq_true, if_false]
            rw [nearest_Closed_eq hv1 (by omega) hl]
            simp only [Option.bind_some]
            cases c5 : closedP l[i].Past l with
            | false =>
              simp only [Bool.not_false, if_true]
              exact hbad (by unfold soundV; rw [c1, c2, c3, c4, c5]; rfl)
            | true =>
              simp only [Bool.not_true, Bool.false_eq_true, if_false]
              rw [wrap64 (by omega) (by omega)]
              refine hag _ ⟨by omega, by omega, fun j hj hji => ?_⟩ (by omega)
              by_cases cj : j = i
              · subst cj; unfold soundV; rw [c1, c2, c3, c4, c5]; rfl
              · exact h3 j hj (by omega)
  · rw [if_neg (by simpa using c)]
    unfold nearest_Sound_k1
    rw [decide_eq_true fun i h => h3 i h (by omega)]

theorem ref05_Find_eq {l : List Api_Version} (hl : l.length ≤ 1000000) (d : Api_Dep) : ref05_Find l d = some (findV l d) := by
  unfold ref05_Find
  refine (loopL (body := ref05_Find_l2 l d) l (fun (_ : Unit) i => i) (fun rest _ => some (findV rest d)) (fun _ _ => True) ?_ ?_ (s0 := ()) trivial (by omega))
  · intro again _ _
    unfold ref05_Find_l2 ref05_Find_k1
    simp [findV, noV]
  · intro again i _ hi _ hag
    unfold ref05_Find_l2 ref05_Find_k3
    rw [if_pos (by simpa using hi), idx_at hi]
    simp only [Option.bind_some, seq_eq]
    rw [wrap64 (by omega) (by omega), hag () trivial, stampEq]
    have hc : findV (l[i] :: l.drop (i + 1)) d = if isP l[i] d then (l[i], true) else findV (l.drop (i + 1)) d := by
      unfold findV
      rw [List.find?_cons]
      cases isP l[i] d <;> rfl
    rw [hc]
    unfold isP
    by_cases c1 : l[i].Key = d.Key
    · by_cases c2 : l[i].Stamp = d.Stamp
      · simp [c1, c2]
      · simp [c1, c2]
    · simp [c1]
end Go.Ark
