/- The plain law of QueueHave: with more that is there nothing more is missed; of keys that are not own nothing is; a version misses nothing of its own past. Conditions: none but those that stand in each law. -/
import Derived.Test.YtfckeeglbhlnmaaPlaw14
namespace Go.Ark
open Go Go.Ab Go.RowKit

theorem filter_len_mono {α : Type} {p q : α → Bool} (h : ∀ x, q x = true → p x = true) (l : List α) : (l.filter q).length ≤ (l.filter p).length := by
  induction l with
  | nil => simp
  | cons a l ih =>
    cases hq : q a with
    | true => simp [hq, h a hq]; exact ih
    | false =>
      cases hp : p a with
      | true => simp [hq, hp]; omega
      | false => simp [hq, hp]; exact ih

theorem missP_mono {past h h' : List Api_Dep} {own : List Api_Range} (hle : ∀ k, leS (getP h k) (getP h' k)) : (missP past h' own).length ≤ (missP past h own).length :=
  filter_len_mono (fun _ hx => less_of_leS (hle _) hx) _

theorem missP_own {past : List Api_Dep} (hs : sortedP past) (own : List Api_Range) : missP past past own = [] := by
  refine List.filter_eq_nil_iff.2 fun d hd => ?_
  have := (List.mem_filter.1 hd).1
  rw [getP_mem hs this, lessP_irrefl]
  simp

theorem missP_nil (past h : List Api_Dep) : missP past h [] = [] := by simp [missP, ownP]

def goodP (p : List Api_Dep) : Prop := sortedP p ∧ ∀ d, d ∈ p → okDep d = true ∧ d.Key.size ≤ 12

theorem goodP_addP {p : List Api_Dep} (h : goodP p) {d : Api_Dep} (hd : d.Key.size ≤ 12) : goodP (addP p d) :=
  ⟨addP_sorted h.1, fun x hx => ⟨addP_ok (fun y hy => (h.2 y hy).1) d x hx, by
    rcases addP_mem hx with rfl | hx
    · exact hd
    · exact (h.2 x hx).2⟩⟩

theorem law14_QueueHave_plain (l_0 : (List Law14_Write)) (have_1 : (List (List Api_Dep))) (which_2 : Int) (h0 : l_0.length ≤ reachBytes ∧ ∀ x, x ∈ l_0 → wfLaw14_Write x) (h1 : have_1.length = 2 ∧ ∀ x, x ∈ have_1 → x.length ≤ reachBytes ∧ ∀ y, y ∈ x → wfApi_Dep y) (_h2 : (Lit.int .i64 which_2).wf = true) : law14_QueueHave l_0 have_1 which_2 = some true := by
  obtain ⟨vs, hvs, _, hb⟩ := made_ind (fun _ => True) trivial (fun _ _ _ _ _ _ _ _ _ _ _ _ => trivial) (l := l_0) (Nat.le_trans h0.1 (by decide)) fun x hx => ⟨Nat.le_trans (h0.2 x hx).2.2.1 (by decide), fun y hy => bounds_i64 ((h0.2 x hx).2.2.2 y hy)⟩
  obtain ⟨rs, hrs, hrl⟩ := law14_ranges_tot which_2
  have hv14 := hb.1
  have hvb : ∀ v, v ∈ vs → v.Past.length ≤ 6103515625 ∧ sortedP v.Past := fun v hv => ⟨Nat.le_trans (hb.2 v hv).1 (pow5 hb.1), (hb.2 v hv).2.2.2.1⟩
  unfold law14_QueueHave
  rw [law14_awake_eq, hvs, hrs]
  simp only [Option.bind_some]
  -- behind the loops that make what is there
  have hk1 : ∀ a b : List Api_Dep, goodP a → goodP b → a.length ≤ 12 → b.length ≤ 12 → law14_QueueHave_k1 true vs rs [a, b] = some true := by
    intro a b ha hb' hal hbl
    unfold law14_QueueHave_k1
    have e0 : aidx 2 [a, b] 0 = some a := rfl
    have e1 : aidx 2 [a, b] 1 = some b := rfl
    rw [e0, e1]
    simp only [Option.bind_some]
    rw [ref04_Merge_eq (l := [a, b]) (fun p hp d hd => by
      simp only [List.mem_cons, List.not_mem_nil, or_false] at hp
      rcases hp with rfl | rfl
      · have := (ha.2 d hd).2; omega
      · have := (hb'.2 d hd).2; omega) (by simp; omega) (by simp)]
    simp only [Option.bind_some]
    have hboth : mergeP [a, b] = foldP (foldP [] a) b := rfl
    have hs0 : sortedP (foldP [] a) := foldP_sorted a [] List.Pairwise.nil
    have hsb : sortedP (mergeP [a, b]) := by rw [hboth]; exact foldP_sorted b _ hs0
    have hlen : (mergeP [a, b]).length ≤ 24 := by
      have h3 := foldP_length a []
      have h4 := foldP_length b (foldP [] a)
      rw [hboth]; simp at h3; omega
    have hok : ∀ d, d ∈ mergeP [a, b] → okDep d = true := by
      rw [hboth]; exact foldP_ok b (foldP_ok a fun d hd => by simp at hd)
    have hle : ∀ k, leS (getP a k) (getP (mergeP [a, b]) k) := by
      intro k
      rcases getP_foldP_past (p := a) (acc := []) List.Pairwise.nil (fun d hd => (ha.2 d hd).1) k with h | h
      · rw [hboth]; exact leS_trans h (getP_foldP_le b hs0 k)
      · rw [h]; exact zero_le_getP hok k
    refine loopF_inv (fun (v : Int) => 0 ≤ v ∧ v ≤ (vs.length : Int)) (fun v => ((vs.length : Int) - v).toNat) (fun _ => some true) ?_ FU 0 ⟨Int.le_refl _, by omega⟩ (by have := FU_big; omega)
    rintro again v ⟨h3, h4⟩ hag
    obtain ⟨i, rfl⟩ : ∃ i : Nat, v = i := ⟨v.toNat, by omega⟩
    unfold law14_QueueHave_l3
    by_cases c : (i : Int) < (vs.length : Int)
    · have hi : i < vs.length := by omega
      obtain ⟨hp1, hp2⟩ := hvb _ (List.getElem_mem hi)
      rw [if_pos (by simpa using c)]
      have m1 := queue_Misses_eq (v := vs[i]) (h := a) (own := rs) (by omega) ha.1 (by omega) (by omega)
      have m2 := queue_Misses_eq (v := vs[i]) (h := mergeP [a, b]) (own := rs) (by omega) hsb (by omega) (by omega)
      have m3 := queue_Misses_eq (v := vs[i]) (h := a) (own := []) (by omega) ha.1 (by omega) (by simp)
      have c1 := queue_Check_eq (v := vs[i]) (h := a) (own := rs) (by omega) ha.1 (by omega) (by omega)
      have c2 := queue_Check_eq (v := vs[i]) (h := mergeP [a, b]) (own := rs) (by omega) hsb (by omega) (by omega)
      have c3 := queue_Check_eq (v := vs[i]) (h := vs[i].Past) (own := rs) (by omega) hp2 (by omega) (by omega)
      have hmono := missP_mono (past := vs[i].Past) (own := rs) hle
      simp only [idx_at hi, e0, Option.bind_some, m1, m2, m3, c1, c2, c3, missP_nil, missP_own hp2]
      rw [if_neg (by simp; omega), wrap64 (by omega) (by omega)]
      have hgo : again ((i : Int) + 1) = some true := hag _ ⟨by omega, by omega⟩ (by omega)
      by_cases hm : missP vs[i].Past a rs = []
      · have hm2 : missP vs[i].Past (mergeP [a, b]) rs = [] := by
          rw [hm] at hmono
          exact List.length_eq_zero_iff.1 (by simpa using hmono)
        simp [hm, hm2, hgo]
      · simp [hm, hgo]
    · rw [if_neg (by simpa using c)]
      rfl
  -- the loops
  obtain ⟨ha, hb'⟩ : ∃ p q, have_1 = [p, q] := by
    obtain ⟨h2, _⟩ := h1
    match have_1, h2 with
    | [p, q], _ => exact ⟨p, q, rfl⟩
  obtain ⟨hb', hhave⟩ := hb'
  have hkeys : ∀ p, p ∈ have_1 → p.length ≤ 9223372036854775807 := fun p hp => Nat.le_trans (h1.2 p hp).1 (by decide)
  refine loopF_inv (fun (v : Int × List (List Api_Dep)) => 0 ≤ v.1 ∧ v.1 ≤ 2 ∧ ∃ a b, v.2 = [a, b] ∧ goodP a ∧ goodP b ∧ (a.length : Int) ≤ (if v.1 = 0 then 0 else 6) ∧ (b.length : Int) ≤ if v.1 = 2 then 6 else 0) (fun v => (2 - v.1).toNat) (fun _ => some true) ?_ FU _
    ⟨Int.le_refl _, by simp, [], [], rfl, ⟨List.Pairwise.nil, fun d h => by simp at h⟩, ⟨List.Pairwise.nil, fun d h => by simp at h⟩, by simp, by simp⟩ (by have := FU_big; simp only; omega)
  rintro again ⟨k, y⟩ ⟨h3, h4, a, b, h5, h6, h7, h8, h9⟩ hag
  simp only at h3 h4 h5 h8 h9
  unfold law14_QueueHave_l4
  simp only
  by_cases c : k < 2
  · rw [if_pos (by simpa using c)]
    rw [if_neg (by omega)] at h9
    have hk : k = 0 ∨ k = 1 := by omega
    obtain ⟨p, hp1, hp2⟩ : ∃ p, aidx 2 have_1 k = some p ∧ p ∈ have_1 := by
      rcases hk with rfl | rfl
      · exact ⟨ha, by rw [hhave]; rfl, by rw [hhave]; simp⟩
      · exact ⟨hb', by rw [hhave]; rfl, by rw [hhave]; simp⟩
    have hpl := hkeys p hp2
    refine loopF_inv (fun (v : Int × List (List Api_Dep)) => 0 ≤ v.1 ∧ v.1 ≤ 6 ∧ v.1 ≤ (p.length : Int) ∧ ∃ a b, v.2 = [a, b] ∧ goodP a ∧ goodP b ∧ (a.length : Int) ≤ (if k = 0 then v.1 else 6) ∧ (b.length : Int) ≤ if k = 1 then v.1 else 0) (fun v => (6 - v.1).toNat) (fun _ => some true) ?_ FU _
      ⟨Int.le_refl _, by simp, by simp, a, b, h5, h6, h7, ?_, ?_⟩ (by have := FU_big; simp only; omega)
    · rintro again2 ⟨q, y2⟩ ⟨g1, g2, g3, a2, b2, g4, g5, g6, g7, g8⟩ hag2
      simp only at g1 g2 g3 g4 g7 g8
      unfold law14_QueueHave_l7 law14_QueueHave_k8 law14_QueueHave_k6 law14_QueueHave_k5
      simp only [hp1, Option.bind_some]
      have hend : again (IntKind.wrap .i64 (k + 1), y2) = some true := by
        rw [wrap64 (by omega) (by omega)]
        refine hag _ ⟨by simp only; omega, by simp only; omega, a2, b2, g4, g5, g6, ?_, ?_⟩ (by simp only; omega)
        · simp only
          rcases hk with rfl | rfl
          · rw [if_pos rfl] at g7; rw [if_neg (by decide)]; omega
          · rw [if_neg (by decide)] at g7; rw [if_neg (by decide)]; omega
        · simp only
          rcases hk with rfl | rfl
          · rw [if_neg (by decide)] at g8; rw [if_neg (by decide)]; exact g8
          · rw [if_pos rfl] at g8; rw [if_pos (by decide)]; omega
      by_cases c2 : q < (p.length : Int)
      · rw [if_pos (by simpa using c2)]
        by_cases c3 : q < 6
        · rw [if_pos (by simpa using c3), idx_int g1 c2]
          simp only [Option.bind_some]
          generalize p[q.toNat]'(by omega) = d
          have hk9 : ∀ key : ByteArray, key.size ≤ 12 → law14_QueueHave_k9 (k, y) again2 (q, y2) d key = some true := by
            intro key hkey
            unfold law14_QueueHave_k9
            simp only
            have hadd : ∀ x : List Api_Dep, goodP x → (x.length : Int) ≤ 12 → ref04_Add x (Api_Dep.mk key d.Stamp) = some (addP x (Api_Dep.mk key d.Stamp)) := fun x _ hx => ref04_Add_eq (by omega) (by simp only; omega)
            subst g4
            rw [wrap64 (by omega) (by omega)]
            rcases hk with rfl | rfl
            · rw [if_pos rfl] at g7
              have e0 : aidx 2 [a2, b2] 0 = some a2 := rfl
              rw [e0]
              simp only [Option.bind_some]
              rw [hadd a2 g5 (by omega)]
              simp only [Option.bind_some]
              have e1 : asets 2 [a2, b2] 0 (addP a2 (Api_Dep.mk key d.Stamp)) = some [addP a2 (Api_Dep.mk key d.Stamp), b2] := rfl
              rw [e1]
              simp only [Option.bind_some]
              have hal := addP_length a2 (Api_Dep.mk key d.Stamp)
              exact hag2 _ ⟨by simp only; omega, by simp only; omega, by simp only; omega, _, _, rfl, goodP_addP g5 hkey, g6, by rw [if_pos rfl]; simp only; omega, by rw [if_neg (by decide)] at g8 ⊢; exact g8⟩ (by simp only; omega)
            · rw [if_pos rfl] at g8
              rw [if_neg (by decide)] at g7
              have e0 : aidx 2 [a2, b2] 1 = some b2 := rfl
              rw [e0]
              simp only [Option.bind_some]
              rw [hadd b2 g6 (by omega)]
              simp only [Option.bind_some]
              have e1 : asets 2 [a2, b2] 1 (addP b2 (Api_Dep.mk key d.Stamp)) = some [a2, addP b2 (Api_Dep.mk key d.Stamp)] := rfl
              rw [e1]
              simp only [Option.bind_some]
              have hal := addP_length b2 (Api_Dep.mk key d.Stamp)
              exact hag2 _ ⟨by simp only; omega, by simp only; omega, by simp only; omega, _, _, rfl, g5, goodP_addP g6 hkey, by rw [if_neg (by decide)]; exact g7, by rw [if_pos rfl]; simp only; omega⟩ (by simp only; omega)
          by_cases c4 : 12 < (d.Key.size : Int)
          · rw [if_pos (by simpa using c4)]
            have hsub : ssub d.Key 0 12 = some (d.Key.extract 0 12) := by
              simp only [ssub]; rw [if_pos ⟨by omega, by omega, by omega⟩]; rfl
            rw [hsub]
            exact hk9 _ (by rw [ByteArray.size_extract]; omega)
          · rw [if_neg (by simpa using c4)]
            exact hk9 _ (by omega)
        · rw [if_neg (by simpa using c3)]
          exact hend
      · rw [if_neg (by simpa using c2), if_neg (by simp)]
        exact hend
    · rcases hk with rfl | rfl
      · rw [if_pos rfl] at h8 ⊢; exact h8
      · rw [if_neg (by decide)] at h8 ⊢; exact h8
    · simp only
      rcases hk with rfl | rfl
      · rw [if_neg (by decide)]; exact h9
      · rw [if_pos rfl]; exact h9
  · rw [if_neg (by simpa using c), h5]
    rw [if_pos (by omega)] at h9
    rw [if_neg (by omega)] at h8
    exact hk1 a b h6 h7 (by omega) (by omega)
end Go.Ark
