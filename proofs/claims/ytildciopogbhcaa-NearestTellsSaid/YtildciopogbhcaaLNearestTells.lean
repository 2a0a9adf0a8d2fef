/- The plain law of NearestTells: what is found, sound, closed, reduced and expanded is as the document says. Conditions: none but those that stand in each law. -/
import Derived.Test.YtildciopogbhcaaPlaw05
namespace Go.Ark
open Go Go.Ab Go.RowKit

theorem runeW_four (s : ByteArray) (i : Nat) : runeW s i ≤ 4 := by
  unfold runeW
  repeat' split
  all_goals omega
theorem runesP_from {s : ByteArray} : ∀ (m i : Nat) (n : Int), s.size - i ≤ m → 0 ≤ n → (runesP s n i = -1 ∨ (n ≤ runesP s n i ∧ ((s.size - i : Nat) : Int) ≤ 4 * (runesP s n i - n)))
  | 0, i, n, h, hn => by
    rw [runesP_end (by omega)]
    exact .inr ⟨Int.le_refl _, by omega⟩
  | m + 1, i, n, h, hn => by
    by_cases c : i < s.size
    · by_cases hw : runeW s i = 0
      · exact .inl (runesP_bad c hw)
      · rw [runesP_ok c hw]
        have h4 := runeW_four s i
        have h5 := runeW_le c
        have h8 := Nat.pos_of_ne_zero hw
        rcases runesP_from (s := s) m (i + runeW s i) (n + 1) (by omega) (by omega) with h6 | ⟨h6, h7⟩
        · exact .inl h6
        · exact .inr ⟨by omega, by omega⟩
    · rw [runesP_end c]
      exact .inr ⟨Int.le_refl _, by omega⟩
theorem okKey_size' {s : ByteArray} (h : okKey s = true) : s.size ≤ 32 := by
  unfold okKey at h
  simp only [Bool.and_eq_true, decide_eq_true_eq] at h
  rcases runesP_from (s := s) s.size 0 0 (by omega) (Int.le_refl _) with h1 | ⟨_, h2⟩
  · omega
  · omega

theorem turnedR (a : Int) {m : Int} (h0 : 0 < m) (h1 : m ≤ 1000000) : 0 ≤ Int.tmod (IntKind.wrap .i64 ((Int.tmod a m) + m)) m ∧ Int.tmod (IntKind.wrap .i64 ((Int.tmod a m) + m)) m < m := by
  have g1 := Int.lt_tmod_of_pos a h0
  have g2 := Int.tmod_lt_of_pos a h0
  rw [wrap64 (by omega) (by omega)]
  exact ⟨Int.tmod_nonneg _ (by omega), Int.tmod_lt_of_pos _ h0⟩
theorem ref05_Reduce_eq {p : List Api_Dep} {l : List Api_Version} (hs : sortedP p) (hp : p.length ≤ 1000000) (hl : SV l) : ref05_Reduce p l = some (redP p l) := by
  unfold ref05_Reduce
  refine (loopL (body := ref05_Reduce_l2 p l) p (fun (s : List Api_Dep) i => (i, s)) (fun rest s => some (s ++ rest.filter fun d => !toldP p l d)) (fun i s => s.length ≤ i) ?_ ?_ (s0 := []) (by simp) (by omega)).trans (by simp [redP])
  · intro again s _
    unfold ref05_Reduce_l2 ref05_Reduce_k1
    simp
  · intro again i s hi hI hag
    unfold ref05_Reduce_l2
    simp only
    rw [if_pos (by simpa using hi)]
    refine (loopL (body := ref05_Reduce_l5 p l again ((i : Int), s)) p (fun (t : Bool) k => (t, k)) (fun rest t => ref05_Reduce_k4 p again ((i : Int), s) (t || rest.any (fun x => decide (x ≠ p[i]) && tellsP l x p[i]))) (fun _ _ => True) ?_ ?_ (s0 := false) trivial (by omega)).trans ?_
    · intro again2 t _
      unfold ref05_Reduce_l5
      simp
    · intro again2 k t hk _ hag2
      unfold ref05_Reduce_l5
      simp only
      rw [if_pos (by simpa using hk), idx_at hk]
      simp only [Option.bind_some]
      rw [ref05_Find_eq hl.1, idx_at hi, wrap64 (n := (k : Int) + 1) (by omega) (by omega), List.any_cons]
      simp only [Option.bind_some]
      rw [ref04_Get_eq (by have := (hl.find p[k]).2; omega)]
      simp only [Option.bind_some]
      by_cases c : k = i
      · subst c
        rw [if_neg (by simp), hag2 t trivial]
        simp
      · have hne : p[k] ≠ p[i] := fun e => c ((sorted_inj hs hk hi).1 e)
        rw [if_pos (by simp; omega), decide_eq_true hne, Bool.true_and]
        unfold tellsP
        cases hf : (findV l p[k]).2 with
        | false =>
          simp only [Bool.false_eq_true, if_false, Bool.false_and, Bool.false_or]
          exact hag2 t trivial
        | true =>
          rw [ref03_Less_eq]
          simp only [if_true, Option.bind_some, Bool.true_and]
          cases lessP (getP (findV l p[k]).1.Past p[i].Key) p[i].Stamp with
          | false =>
            simp only [Bool.not_false, if_true, Bool.true_or, Bool.or_true]
            rw [hag2 true trivial, Bool.true_or]
          | true =>
            simp only [Bool.not_true, Bool.false_eq_true, if_false, Bool.false_or]
            exact hag2 t trivial
    · show ref05_Reduce_k4 p again ((i : Int), s) (false || toldP p l p[i]) = _
      rw [Bool.false_or, List.filter_cons]
      unfold ref05_Reduce_k4 ref05_Reduce_k3
      simp only
      cases ht : toldP p l p[i] with
      | true =>
        simp only [Bool.not_true, Bool.false_eq_true, if_false]
        rw [wrap64 (by omega) (by omega)]
        exact hag s (by omega)
      | false =>
        simp only [Bool.not_false, if_true]
        rw [idx_at hi]
        simp only [Option.bind_some]
        rw [app_ok (by simp; omega) (by simp; omega), wrap64 (by omega) (by omega)]
        simp only [Option.bind_some]
        rw [hag (s ++ [p[i]]) (by simp; omega)]
        simp

def foundL (l : List Api_Version) (q : List Api_Dep) : List (List Api_Dep) := (q.filter fun d => (findV l d).2).map fun d => (findV l d).1.Past
theorem found_fold (l : List Api_Version) : ∀ (q acc : List Api_Dep), (foundL l q).foldl foldP acc = (q.map fun d => (findV l d).1.Past).foldl foldP acc
  | [], _ => rfl
  | d :: q, acc => by
    unfold foundL
    rw [List.filter_cons]
    cases c : (findV l d).2 with
    | true =>
      simp only [if_true, List.map_cons, List.foldl_cons]
      exact found_fold l q _
    | false =>
      simp only [Bool.false_eq_true, if_false, List.map_cons, List.foldl_cons]
      rw [(findV_none c).2]
      exact found_fold l q _
theorem ref05_Expand_eq {p : List Api_Dep} {l : List Api_Version} (hp : p.length ≤ 100000) (hk : ∀ d, d ∈ p → d.Key.size ≤ 9223372036854775807) (hl : SV l) (hkl : ∀ v, v ∈ l → ∀ d, d ∈ v.Past → d.Key.size ≤ 9223372036854775807) : ref05_Expand p l = some (expP p l) := by
  have hsum : ∀ q : List Api_Dep, ((foundL l q).map List.length).sum ≤ q.length * 1000 := by
    intro q
    induction q with
    | nil => simp [foundL]
    | cons d q ih =>
      have := (hl.find d).2
      unfold foundL at ih ⊢
      rw [List.filter_cons]
      split
      · simp only [List.map_cons, List.sum_cons, List.length_cons]
        omega
      · exact Nat.le_trans ih (Nat.mul_le_mul_right _ (Nat.le_succ _))
  have hlen : ∀ q : List Api_Dep, (foundL l q).length ≤ q.length := fun q => by unfold foundL; rw [List.length_map]; exact List.length_filter_le _ _
  unfold ref05_Expand
  refine (loopL (body := ref05_Expand_l2 p l) p (fun (s : List (List Api_Dep)) i => (i, s)) (fun rest s => if s ++ foundL l rest = p :: foundL l p then some (expP p l) else none) (fun i s => s = p :: foundL l (p.take i)) ?_ ?_ (s0 := [p]) (by simp [foundL]) (by omega)).trans (by simp)
  · intro again s hs
    unfold ref05_Expand_l2 ref05_Expand_k1
    simp only [Int.lt_irrefl, decide_false, Bool.false_eq_true, if_false]
    rw [List.take_length] at hs
    subst hs
    have hM : ref04_Merge (p :: foundL l p) = some (mergeP (p :: foundL l p)) := by
      refine ref04_Merge_eq (fun q hq d hd => ?_) ?_ ?_
      · rcases List.mem_cons.1 hq with rfl | hq
        · exact hk d hd
        · unfold foundL at hq
          obtain ⟨x, hx, rfl⟩ := List.mem_map.1 hq
          have c := (List.mem_filter.1 hx).2
          exact hkl _ (findV_some c).1 d hd
      · have := hsum p
        simp only [List.map_cons, List.sum_cons]
        omega
      · have := hlen p
        simp; omega
    have hnil : foundL l [] = [] := rfl
    rw [hM, Option.bind_some, hnil, List.append_nil, if_pos rfl]
    unfold expP mergeP
    rw [List.foldl_cons, List.foldl_cons, found_fold]
  · intro again i s hi hI hag
    unfold ref05_Expand_l2
    simp only
    rw [if_pos (by simpa using hi), idx_at hi]
    simp only [Option.bind_some]
    rw [ref05_Find_eq hl.1]
    simp only [Option.bind_some]
    have hs : s.length ≤ i + 1 := by
      have := hlen (p.take i)
      have := List.length_take_le i p
      rw [hI]; simp only [List.length_cons]; omega
    have hsnoc : foundL l (p.take (i + 1)) = foundL l (p.take i) ++ foundL l [p[i]] := by
      unfold foundL
      rw [List.take_add_one, List.getElem?_eq_getElem hi, List.filter_append, List.map_append]; rfl
    have hcons : foundL l (p[i] :: p.drop (i + 1)) = foundL l [p[i]] ++ foundL l (p.drop (i + 1)) := by
      unfold foundL
      rw [← List.map_append, ← List.filter_append]; rfl
    rw [wrap64 (by omega) (by omega), hcons]
    cases c : (findV l p[i]).2 with
    | true =>
      have e1 : foundL l [p[i]] = [(findV l p[i]).1.Past] := by simp [foundL, c]
      rw [e1] at hsnoc ⊢
      simp only [if_true]
      rw [app_ok (by simp; omega) (by simp; omega)]
      simp only [Option.bind_some]
      rw [hag (s ++ [(findV l p[i]).1.Past]) (by rw [hI, hsnoc]; rfl), List.append_assoc]
    | false =>
      have e1 : foundL l [p[i]] = [] := by simp [foundL, c]
      rw [e1] at hsnoc ⊢
      simp only [Bool.false_eq_true, if_false]
      rw [hag s (by rw [hI, hsnoc, List.append_nil]), List.nil_append]

theorem ref05_Closed_eq {p : List Api_Dep} {l : List Api_Version} (hp : p.length ≤ 1000000) (hl : SV l) : ref05_Closed p l = some (closedP p l) := by
  unfold ref05_Closed
  refine (loopL (body := ref05_Closed_l2 p l) p (fun (_ : Unit) i => i) (fun rest _ => some (rest.all fun d => (findV l d).2 && coversP p (findV l d).1.Past)) (fun _ _ => True) ?_ ?_ (s0 := ()) trivial (by omega)).trans rfl
  · intro again _ _
    unfold ref05_Closed_l2 ref05_Closed_k1
    simp
  · intro again i _ hi _ hag
    unfold ref05_Closed_l2
    rw [if_pos (by simpa using hi), idx_at hi]
    simp only [Option.bind_some]
    rw [ref05_Find_eq hl.1]
    simp only [Option.bind_some]
    rw [ref04_Covers_eq (by omega) (by have := (hl.find p[i]).2; omega), wrap64 (by omega) (by omega), hag () trivial, List.all_cons]
    simp only [Option.bind_some]
    cases (findV l p[i]).2 <;> cases coversP p (findV l p[i]).1.Past <;> simp

theorem ref05_Sound_eq {l : List Api_Version} (hl : SV l) (hk : ∀ v, v ∈ l → ∀ d, d ∈ v.Past → d.Key.size ≤ 9223372036854775807) : ref05_Sound l = some (decide (∀ i (h : i < l.length), soundV l i l[i] = true)) := by
  have hl1 := hl.1
  unfold ref05_Sound
  refine loopF_inv (fun (v : Int) => 0 ≤ v ∧ v ≤ (l.length : Int) ∧ ∀ i (h : i < l.length), (i : Int) < v → soundV l i l[i] = true) (fun v => ((l.length : Int) - v).toNat) (fun _ => some (decide (∀ i (h : i < l.length), soundV l i l[i] = true))) ?_ FU 0 ⟨Int.le_refl _, by omega, fun i _ h => by omega⟩ (by have := FU_big; omega)
  rintro again v ⟨h1, h2, h3⟩ hag
  unfold ref05_Sound_l2
  by_cases c : v < (l.length : Int)
  · obtain ⟨i, rfl⟩ : ∃ i : Nat, v = i := ⟨v.toNat, by omega⟩
    have hi : i < l.length := by omega
    have hm := List.getElem_mem hi
    obtain ⟨hv1, hv2⟩ := hl.2 _ hm
    rw [if_pos (by simpa using c), idx_at hi]
    simp only [Option.bind_some]
    have hbad : soundV l i l[i] = false → some false = some (decide (∀ i (h : i < l.length), soundV l i l[i] = true)) := fun h => by
      rw [decide_eq_false fun hh => by rw [hh i hi] at h; cases h]
    rw [ref04_Check_eq (by omega) (hk _ hm), ref03_Check_eq, ref05_Closed_eq (by omega) hl]
    simp only [Option.bind_some]
    unfold ref05_Sound_k4
    cases c2 : okPast l[i].Past with
    | false =>
      simp only [Bool.not_false, if_true]
      exact hbad (by unfold soundV; rw [c2]; simp)
    | true =>
    cases c3 : okStamp l[i].Stamp with
    | false =>
      simp only [Bool.not_true, Bool.false_eq_true, if_false, Bool.not_false, if_true]
      exact hbad (by unfold soundV; rw [c3]; simp)
    | true =>
    cases c5 : closedP l[i].Past l with
    | false =>
      simp only [Bool.not_true, Bool.false_eq_true, if_false, Bool.not_false, if_true]
      exact hbad (by unfold soundV; rw [c5]; simp)
    | true =>
      simp only [Bool.not_true, Bool.false_eq_true, if_false]
      -- its deps, one by one
      refine (loopF_inv (fun (j : Int) => 0 ≤ j ∧ j ≤ (l[i].Past.length : Int) ∧ ∀ k (h : k < l[i].Past.length), (k : Int) < j → lessP l[i].Past[k].Stamp l[i].Stamp = true) (fun j => ((l[i].Past.length : Int) - j).toNat) (fun _ => some (decide (∀ i (h : i < l.length), soundV l i l[i] = true))) ?_ FU 0 ⟨Int.le_refl _, by omega, fun k _ h => by omega⟩ (by have := FU_big; omega))
      rintro again2 j' ⟨g1, g2, g3⟩ hag2
      obtain ⟨j, rfl⟩ : ∃ j : Nat, j' = j := ⟨j'.toNat, by omega⟩
      unfold ref05_Sound_l8
      rw [idx_at hi]
      simp only [Option.bind_some]
      by_cases c6 : (j : Int) < (l[i].Past.length : Int)
      · have hj : j < l[i].Past.length := by omega
        rw [if_pos (by simpa using c6), idx_at hj]
        simp only [Option.bind_some]
        rw [ref03_Less_eq]
        simp only [Option.bind_some]
        cases c7 : lessP l[i].Past[j].Stamp l[i].Stamp with
        | false =>
          simp only [Bool.not_false, if_true]
          refine hbad ?_
          have : (l[i].Past.all fun d => lessP d.Stamp l[i].Stamp) = false := List.all_eq_false.2 ⟨_, List.getElem_mem hj, by rw [c7]; simp⟩
          unfold soundV; rw [this]; simp
        | true =>
          simp only [Bool.not_true, Bool.false_eq_true, if_false]
          rw [wrap64 (by omega) (by omega)]
          refine hag2 _ ⟨by omega, by omega, fun k hk2 hkj => ?_⟩ (by omega)
          by_cases ck : k = j
          · subst ck; exact c7
          · exact g3 k hk2 (by omega)
      · rw [if_neg (by simpa using c6)]
        have hall : (l[i].Past.all fun d => lessP d.Stamp l[i].Stamp) = true := List.all_eq_true.2 fun d hd => by
          obtain ⟨k, hk2, rfl⟩ := List.getElem_of_mem hd
          exact g3 k hk2 (by omega)
        -- no other one of it ahead
        unfold ref05_Sound_k5
        refine (loopF_inv (fun (j : Int) => 0 ≤ j ∧ j ≤ (i : Int) ∧ ∀ k (h : k < i), (k : Int) < j → isP (l[k]'(by omega)) (depOf l[i]) = false) (fun j => ((i : Int) - j).toNat) (fun _ => some (decide (∀ i (h : i < l.length), soundV l i l[i] = true))) ?_ FU 0 ⟨Int.le_refl _, by omega, fun k _ h => by omega⟩ (by have := FU_big; omega))
        rintro again3 j3 ⟨q1, q2, q3⟩ hag3
        obtain ⟨m, rfl⟩ : ∃ m : Nat, j3 = m := ⟨j3.toNat, by omega⟩
        unfold ref05_Sound_l7
        by_cases c8 : (m : Int) < (i : Int)
        · have hm2 : m < l.length := by omega
          rw [if_pos (by simpa using c8), idx_at hi, idx_at hm2]
          simp only [Option.bind_some, seq_eq]
          rw [stampEq, wrap64 (by omega) (by omega)]
          have hnext : isP l[m] (depOf l[i]) = false → again3 ((m : Int) + 1) = some (decide (∀ i (h : i < l.length), soundV l i l[i] = true)) := fun hf => by
            refine hag3 _ ⟨by omega, by omega, fun k hk2 hkj => ?_⟩ (by omega)
            by_cases ck : k = m
            · subst ck; exact hf
            · exact q3 k hk2 (by omega)
          have hisP : isP l[m] (depOf l[i]) = (decide (l[m].Key = l[i].Key) && decide (l[m].Stamp = l[i].Stamp)) := rfl
          by_cases c9 : l[m].Key = l[i].Key
          · rw [if_pos (decide_eq_true c9)]
            by_cases c10 : l[m].Stamp = l[i].Stamp
            · rw [if_pos (decide_eq_true c10)]
              refine hbad ?_
              have : (findV (l.take i) (depOf l[i])).2 = true := by
                rw [findV_any]
                refine List.any_eq_true.2 ⟨l[m], ?_, by rw [hisP, decide_eq_true c9, decide_eq_true c10]; rfl⟩
                have : m < (l.take i).length := by rw [List.length_take]; omega
                rw [← List.getElem_take (h := this)]
                exact List.getElem_mem _
              unfold soundV; rw [this]; simp
            · rw [if_neg (by simpa using c10)]
              exact hnext (by rw [hisP, decide_eq_false c10, Bool.and_false])
          · rw [if_neg (by simpa using c9)]
            exact hnext (by rw [hisP, decide_eq_false c9, Bool.false_and])
        · rw [if_neg (by simpa using c8)]
          unfold ref05_Sound_k6 ref05_Sound_k3
          rw [wrap64 (by omega) (by omega)]
          refine hag _ ⟨by omega, by omega, fun j hj hji => ?_⟩ (by omega)
          by_cases cj : j = i
          · subst cj
            have : (findV (l.take j) (depOf l[j])).2 = false := by
              rw [findV_any]
              refine List.any_eq_false.2 fun x hx => ?_
              obtain ⟨k, hk2, rfl⟩ := List.getElem_of_mem hx
              rw [List.getElem_take]
              have hk3 : k < j := by rw [List.length_take] at hk2; omega
              rw [q3 k hk3 (by omega)]
              simp
            unfold soundV
            rw [this, c2, c3, hall, c5]
            rfl
          · exact h3 j hj (by omega)
  · rw [if_neg (by simpa using c)]
    unfold ref05_Sound_k1
    rw [decide_eq_true fun i h => h3 i h (by omega)]

/-- what is known of versions of which one is another one -/
def TV (l : List Api_Version) : Prop := l.length ≤ 14 ∧ ∀ v, v ∈ l → PO v.Past ∧ v.Past.length ≤ 8 ∧ v.Key.size ≤ 140737488351232
theorem okSize {p : List Api_Dep} (h : PO p) {d : Api_Dep} (hd : d ∈ p) : d.Key.size ≤ 32 := by
  have := h.2 d hd
  unfold okDep at this
  simp only [Bool.and_eq_true] at this
  exact okKey_size' this.1
theorem TV.sv {l : List Api_Version} (h : TV l) : SV l := ⟨by have := h.1; omega, fun v hv => ⟨(h.2 v hv).1.1, by have := (h.2 v hv).2.1; omega⟩⟩
theorem NI.tv {l : List Api_Version} (h : NI l) : TV l := ⟨h.len, fun v hv => ⟨h.w.past v hv, h.vlen hv, by have := (keys8_ok _ (h.key v hv)).2; omega⟩⟩
theorem TV.set {l : List Api_Version} (h : TV l) {k : Nat} {x : Api_Version} (h1 : PO x.Past) (h2 : x.Past.length ≤ 8) (h3 : x.Key.size ≤ 140737488351232) : TV (l.set k x) := by
  refine ⟨by simpa using h.1, fun v hv => ?_⟩
  rcases List.mem_or_eq_of_mem_set hv with hv | rfl
  · exact h.2 v hv
  · exact ⟨h1, h2, h3⟩
theorem TV.all {l : List Api_Version} (h : TV l) : ∃ p, law05_all l = some p ∧ PO p ∧ p.length ≤ 126 := by
  have hlen := h.1
  unfold law05_all
  refine loopF_tot (fun (v : List Api_Dep × Int) => 0 ≤ v.2 ∧ v.2 ≤ (l.length : Int) ∧ PO v.1 ∧ (v.1.length : Int) ≤ 9 * v.2) (fun v => ((l.length : Int) - v.2).toNat) (fun p => PO p ∧ p.length ≤ 126) ?_ FU ([], 0) ⟨Int.le_refl _, by simp, ⟨List.Pairwise.nil, fun v h => by simp at h⟩, by simp⟩ (by have := FU_big; simp only; omega)
  rintro again ⟨p, q⟩ ⟨h1, h2, h3, h4⟩ hag
  simp only at h1 h2 h3 h4
  unfold law05_all_l2
  simp only
  by_cases c : q < (l.length : Int)
  · obtain ⟨i, rfl⟩ : ∃ i : Nat, q = i := ⟨q.toNat, by omega⟩
    have hi : i < l.length := by omega
    have hm := List.getElem_mem hi
    obtain ⟨v1, v2, v3⟩ := h.2 _ hm
    rw [if_pos (by simpa using c), idx_at hi]
    simp only [Option.bind_some]
    rw [ref04_Merge_eq (l := [p, l[i].Past, [Api_Dep.mk l[i].Key l[i].Stamp]]) (fun q hq d hd => by
      simp only [List.mem_cons, List.not_mem_nil, or_false] at hq
      rcases hq with rfl | rfl | rfl
      · have := okSize h3 hd; omega
      · have := okSize v1 hd; omega
      · simp at hd; subst hd; simp only; omega) (by simp; omega) (by simp), wrap64 (by omega) (by omega)]
    simp only [Option.bind_some]
    have hml := mergeFold_length [p, l[i].Past, [Api_Dep.mk l[i].Key l[i].Stamp]] []
    simp only [List.length_nil, List.map_cons, List.map_nil, List.sum_cons, List.sum_nil, List.length_cons] at hml
    exact hag _ ⟨by simp only; omega, by simp only; omega, mergeP_PO _, by show ((mergeP _).length : Int) ≤ _; unfold mergeP; omega⟩ (by simp only; omega)
  · rw [if_neg (by simpa using c)]
    exact ⟨p, rfl, h3, by omega⟩

theorem tells_k3 {q : Law05_Change} {l : List Api_Version} {p : List Api_Dep} (hl : TV l) (hp : PO p) (hn : p.length ≤ 126) : law05_NearestTells_k3 q true l p = some true := by
  have hk : ∀ d, d ∈ p → d.Key.size ≤ 9223372036854775807 := fun d hd => by have := okSize hp hd; omega
  have hkl : ∀ v, v ∈ l → ∀ d, d ∈ v.Past → d.Key.size ≤ 9223372036854775807 := fun v hv d hd => by have := okSize (hl.2 v hv).1 hd; omega
  have hr : (redP p l).length ≤ p.length := List.length_filter_le _ _
  have he : (expP p l).length ≤ 1000000 := by
    have h1 := mergeFold_length (p :: p.map fun d => (findV l d).1.Past) []
    have h2 : ∀ q : List Api_Dep, ((q.map fun d => (findV l d).1.Past).map List.length).sum ≤ q.length * 1000 := by
      intro q
      induction q with
      | nil => simp
      | cons d q ih =>
        simp only [List.map_cons, List.sum_cons, List.length_cons]
        have := (hl.sv.find d).2
        omega
    have h3 := h2 p
    simp only [List.length_nil, List.map_cons, List.sum_cons] at h1
    unfold expP mergeP
    omega
  have hx := (hl.sv.find q.Dep).2
  unfold law05_NearestTells_k3
  rw [nearest_Reduce_eq hp.1 (by omega) hl.sv, ref05_Reduce_eq hp.1 (by omega) hl.sv]
  simp only [Option.bind_some]
  rw [ref04_Same_eq (by omega), nearest_Expand_eq (by omega) hk hl.sv hkl, ref05_Expand_eq (by omega) hk hl.sv hkl]
  simp only [Option.bind_some]
  rw [ref04_Same_eq (by omega), nearest_Find_eq hl.sv.1, ref05_Find_eq hl.sv.1]
  simp only [Option.bind_some]
  rw [ref04_Same_eq (by omega)]
  simp only [Option.bind_some, decide_true, if_true]
  unfold law05_NearestTells_k4 law05_NearestTells_k5 law05_NearestTells_k6 law05_NearestTells_k7
  simp only [if_true, beq_self_eq_true, decide_true, Bool.and_self]
  unfold law05_NearestTells_k8 law05_NearestTells_k9
  rw [nearest_Sound_eq hl.sv hkl, ref05_Sound_eq hl.sv hkl, nearest_Closed_eq hp.1 (by omega) hl.sv, ref05_Closed_eq (by omega) hl.sv]
  simp

theorem law05_NearestTells_plain (l_0 : (List Law05_Write)) (q_1 : Law05_Change) (m_2 : (List Api_Dep)) (h0 : l_0.length ≤ reachBytes ∧ ∀ x, x ∈ l_0 → wfLaw05_Write x) (h1 : wfLaw05_Change q_1) (_h2 : m_2.length ≤ reachBytes ∧ ∀ x, x ∈ m_2 → wfApi_Dep x) : law05_NearestTells l_0 q_1 m_2 = some true := by
  obtain ⟨r, hr, ni⟩ := law05_made_is h0
  have hre : reachBytes = 140737488351232 := rfl
  have hqk : q_1.Dep.Key.size ≤ 140737488351232 := h1.2.2.2.1
  have hk2 : ∀ l : List Api_Version, TV l → law05_NearestTells_k2 q_1 m_2 true l = some true := by
    intro l hl
    obtain ⟨p, hp, p1, p2, p3⟩ := law05_few_tot m_2
    obtain ⟨p', hp', p1', p3'⟩ := hl.all
    unfold law05_NearestTells_k2
    rw [hp, hp']
    simp only [Option.bind_some]
    split
    · exact tells_k3 hl p1' p3'
    · exact tells_k3 hl p1 (by omega)
  have hlen := ni.len
  unfold law05_NearestTells
  rw [law05_awake_eq, hr]
  simp only [Option.bind_some]
  unfold law05_NearestTells_k1
  by_cases c1 : 0 < r.length
  · rw [if_pos (decide_eq_true (by omega))]
    split
    · have ht := turnedR q_1.At (m := (r.length : Int)) (by omega) (by omega)
      rw [decide_eq_false (show ¬ (r.length : Int) = 0 by omega)]
      simp only [chk, Bool.not_false, if_true]
      obtain ⟨n, hkn⟩ : ∃ n : Nat, Int.tmod (IntKind.wrap .i64 ((Int.tmod q_1.At (r.length : Int)) + (r.length : Int))) (r.length : Int) = n := ⟨(Int.tmod (IntKind.wrap .i64 ((Int.tmod q_1.At (r.length : Int)) + (r.length : Int))) (r.length : Int)).toNat, by omega⟩
      rw [hkn] at ht ⊢
      have hn : n < r.length := by omega
      have hm := ni.tv.2 _ (List.getElem_mem hn)
      rw [idx_at hn]
      simp only [Option.bind_some]
      have hk10 : ∀ y : ByteArray × Int × Int × List Api_Dep, PO y.2.2.2 → y.2.2.2.length ≤ 8 → y.1.size ≤ 140737488351232 → law05_NearestTells_k10 q_1 m_2 true r r[n] y = some true := by
        intro y y1 y2 y3
        unfold law05_NearestTells_k10
        rw [hkn]
        have hset : ∀ x : Api_Version, sets r (n : Int) x = some (r.set n x) := fun x => by
          unfold sets
          rw [if_pos ⟨by omega, by omega⟩, Int.toNat_natCast]
        generalize hx : (Api_Version.mk y.1 r[n].Value r[n].Gone (Api_Stamp.mk y.2.1 y.2.2.1) y.2.2.2) = x
        have e1 : x.Past = y.2.2.2 := by rw [← hx]
        have e2 : x.Key = y.1 := by rw [← hx]
        rw [hset, Option.bind_some]
        exact hk2 _ (ni.tv.set (by rw [e1]; exact y1) (by rw [e1]; exact y2) (by rw [e2]; exact y3))
      split
      · exact hk10 _ hm.1 hm.2.1 hm.2.2
      · split
        · obtain ⟨p, hp, p1, p2, p3⟩ := law05_few_tot [q_1.Dep]
          rw [hp]
          exact hk10 _ p1 (by simp only; omega) hm.2.2
        · exact hk10 _ hm.1 hm.2.1 hqk
    · exact hk2 r ni.tv
  · rw [if_neg (fun e => absurd (of_decide_eq_true e) (by omega))]
    simp only [Bool.false_eq_true, if_false]
    exact hk2 r ni.tv
end Go.Ark
