/- The plain law of CutSeen: what was seen, and not read, is late; read again it is not. Conditions: none but those that stand in each law. -/
import Derived.Test.YtimklpfnpmjdcaaPlaw19
namespace Go.Ark
open Go Go.Ab Go.RowKit

/-- the version that a dep names -/
abbrev depV (d : Api_Dep) : Api_Version := Api_Version.mk d.Key ByteArray.empty false d.Stamp ([] : (List Api_Dep))

theorem FI_dep {p : List Api_Dep} (hp : RI p) : FI (p.map depV) :=
  ⟨by rw [List.length_map]; exact hp.2.2.2, fun x hx => by obtain ⟨d, hd, rfl⟩ := List.mem_map.1 hx; exact ⟨hp.2.2.1 d hd, RI_nil⟩⟩
theorem RI_take {p : List Api_Dep} (hp : RI p) (n : Nat) : RI (p.take n) :=
  ⟨List.Pairwise.sublist (List.take_sublist n p) hp.1, fun d hd => hp.2.1 d (List.mem_of_mem_take hd), fun d hd => hp.2.2.1 d (List.mem_of_mem_take hd), by have := hp.2.2.2; rw [List.length_take]; omega⟩

theorem getP_inj {p : List Api_Dep} (hs : sortedP p) {i j : Nat} (hi : i < p.length) (hj : j < p.length) (h : p[i].Key = p[j].Key) : i = j := by
  rcases Nat.lt_trichotomy i j with c | c | c
  · exact absurd h (slt_ne (sortedP_lt hs c hj))
  · exact c
  · exact absurd h.symm (slt_ne (sortedP_lt hs c hi))

theorem late_take {p : List Api_Dep} (hp : RI p) {n : Nat} (hn : n ≤ p.length) : lateP (p.map (·.Key)) ((p.take n).map depV) p = (p.drop n).map (·.Key) := by
  have hV := FI_dep (RI_take hp n)
  have hin : ∀ j (hj : j < p.length), lessP (ofP ((p.take n).map depV) p[j].Key) (getP (lowP ((p.take n).map depV) p) p[j].Key) = decide (n ≤ j) := fun j hj => by
    have hg : getP p p[j].Key = p[j].Stamp := getP_at hp.1 hj
    by_cases c : n ≤ j
    · rw [decide_eq_true c]
      refine (less_low (zero_le_ofP _ _) hV hp.1 hp.2.1).2 (.inl ?_)
      rw [hg]
      have : ofP ((p.take n).map depV) p[j].Key = ⟨0, 0⟩ := by
        unfold ofP
        have : (((p.take n).map depV).filter fun v => decide (v.Key = p[j].Key)) = [] := by
          refine List.filter_eq_nil_iff.2 fun x hx h => ?_
          obtain ⟨d, hd, rfl⟩ := List.mem_map.1 hx
          obtain ⟨i, hi, rfl⟩ := List.getElem_of_mem hd
          rw [List.length_take] at hi
          rw [List.getElem_take] at h
          have h : p[i].Key = p[j].Key := by simpa using h
          have := getP_inj hp.1 (by omega) hj h
          omega
        rw [this]; rfl
      rw [this]
      exact zero_leS (okDep_stamp (hp.2.1 _ (List.getElem_mem hj)))
    · rw [decide_eq_false c]
      cases hq : lessP (ofP ((p.take n).map depV) p[j].Key) (getP (lowP ((p.take n).map depV) p) p[j].Key) with
      | false => rfl
      | true =>
        rcases (less_low (zero_le_ofP _ _) hV hp.1 hp.2.1).1 hq with h | ⟨x, hx, h⟩
        · rw [hg] at h
          have hmem : depV p[j] ∈ (p.take n).map depV := List.mem_map.2 ⟨p[j], by
            rw [List.mem_iff_getElem]
            exact ⟨j, by rw [List.length_take]; omega, by rw [List.getElem_take]⟩, rfl⟩
          have hle : leS p[j].Stamp (ofP ((p.take n).map depV) p[j].Key) := le_ofP hmem
          rw [show lessP (ofP ((p.take n).map depV) p[j].Key) p[j].Stamp = false from hle] at h; cases h
        · obtain ⟨d, _, rfl⟩ := List.mem_map.1 hx
          rw [show getP (depV d).Past p[j].Key = ⟨0, 0⟩ from rfl, not_less_zero (zero_le_ofP _ _)] at h; cases h
  unfold lateP
  have e : p = p.take n ++ p.drop n := (List.take_append_drop n p).symm
  have h1 : ((p.take n).map (·.Key)).filter (fun k => lessP (ofP ((p.take n).map depV) k) (getP (lowP ((p.take n).map depV) p) k)) = [] := by
    refine List.filter_eq_nil_iff.2 fun k hk h => ?_
    obtain ⟨d, hd, rfl⟩ := List.mem_map.1 hk
    obtain ⟨i, hi, rfl⟩ := List.getElem_of_mem hd
    rw [List.length_take] at hi
    rw [List.getElem_take] at h
    rw [hin i (by omega), decide_eq_true_eq] at h
    omega
  have h2 : ((p.drop n).map (·.Key)).filter (fun k => lessP (ofP ((p.take n).map depV) k) (getP (lowP ((p.take n).map depV) p) k)) = (p.drop n).map (·.Key) := by
    refine List.filter_eq_self.2 fun k hk => ?_
    obtain ⟨d, hd, rfl⟩ := List.mem_map.1 hk
    obtain ⟨i, hi, rfl⟩ := List.getElem_of_mem hd
    rw [List.length_drop] at hi
    rw [List.getElem_drop, hin (n + i) (by omega)]
    exact decide_eq_true (by omega)
  have h3 : p.map (·.Key) = (p.take n).map (·.Key) ++ (p.drop n).map (·.Key) := by rw [← List.map_append, ← e]
  rw [h3, List.filter_append, h1, h2]
  rfl

theorem low_bare {v : List Api_Version} {p : List Api_Dep} (hv : ∀ x, x ∈ v → x.Past = []) (hs : sortedP p) (ho : ∀ d, d ∈ p → okDep d = true) : lowP v p = p := by
  show (v.map (·.Past)).foldl foldP (foldP [] p) = p
  rw [foldP_self hs ho, folds_cov hs fun x hx d hd => by rw [hv x hx] at hd; simp at hd]

theorem law19_CutSeen_plain (seen_0 : (List Api_Dep)) (_h0 : seen_0.length ≤ reachBytes ∧ ∀ x, x ∈ seen_0 → wfApi_Dep x) : law19_CutSeen seen_0 = some true := by
  obtain ⟨p, hp, hP⟩ := law19_row_tot seen_0
  have h5 := hP.2.2.2
  have hV := FI_dep hP
  have hs := small_of hV hP
  have hs0 := small_of (v := []) ⟨by simp, fun x hx => by simp at hx⟩ hP
  have hsn := small_of hV RI_nil
  have hbare : ∀ x, x ∈ p.map depV → x.Past = [] := fun x hx => by obtain ⟨d, _, rfl⟩ := List.mem_map.1 hx; rfl
  have hmap : (p.map depV).map (fun v => (⟨v.Key, v.Stamp⟩ : Api_Dep)) = p := by rw [List.map_map]; exact List.map_id p
  have hk1 : law19_CutSeen_k1 true p (p.map (·.Key), p.map depV) = some true := by
    unfold law19_CutSeen_k1
    simp only
    rw [cut_Late_eq hs0 (by rw [List.length_map]; omega)]
    simp only [Option.bind_some]
    have h0 := late_take hP (n := 0) (Nat.zero_le _)
    simp only [List.take_zero, List.map_nil, List.drop_zero] at h0
    rw [h0, ref02_Same_eq (by rw [List.length_map]; omega)]
    simp only [Option.bind_some, decide_true]
    refine loopF_inv (fun (i : Int) => 0 ≤ i ∧ i ≤ (p.length : Int)) (fun i => ((p.length : Int) - i).toNat) (fun _ => some true) ?_ FU 0 ⟨Int.le_refl _, by omega⟩ (by have := FU_big; omega)
    rintro again i' ⟨g1, g2⟩ hag
    obtain ⟨i, rfl⟩ : ∃ i : Nat, i' = i := ⟨i'.toNat, by omega⟩
    unfold law19_CutSeen_l6
    simp only [List.length_map]
    by_cases c : (i : Int) < (p.length : Int)
    · rw [if_pos (by simpa using c)]
      have hs1 : sub (p.map depV) 0 (i : Int) = some ((p.take i).map depV) := by
        unfold sub; rw [if_pos ⟨by omega, by omega, by rw [List.length_map]; omega⟩]; simp [List.map_take]
      rw [hs1]
      simp only [Option.bind_some]
      rw [cut_Late_eq (small_of (FI_dep (RI_take hP i)) hP) (by rw [List.length_map]; omega), late_take hP (by omega)]
      simp only [Option.bind_some]
      rw [wrap64 (n := (p.length : Int) - i) (by omega) (by omega), decide_eq_true (by rw [List.length_map, List.length_drop]; omega), wrap64 (by omega) (by omega)]
      simp only [Bool.not_true, Bool.false_eq_true, if_false]
      exact hag _ ⟨by omega, by omega⟩ (by omega)
    · rw [if_neg (by simpa using c)]
      unfold law19_CutSeen_k2 law19_CutSeen_k3 law19_CutSeen_k4 law19_CutSeen_k5
      simp only [if_true]
      have hn := late_take hP (n := p.length) (Nat.le_refl _)
      rw [List.take_length, List.drop_length, List.map_nil] at hn
      rw [cut_Check_eq hs (by rw [List.length_map]; omega), decide_eq_true hn]
      simp only [Option.bind_some, if_true]
      have ha1 : afterP p (p.map depV) = p := by
        unfold afterP
        rw [low_bare hbare hP.1 hP.2.1, hmap]
        exact foldP_cov hP.1 fun d hd _ => by rw [getP_mem hP.1 hd]; exact leS_refl _
      have ha2 : afterP [] (p.map depV) = p := by
        unfold afterP
        rw [low_bare hbare List.Pairwise.nil (fun d hd => by simp at hd), hmap]
        exact foldP_self hP.1 hP.2.1
      rw [cut_After_eq hs, ha1]
      simp only [Option.bind_some]
      rw [ref04_Same_eq (by omega)]
      simp only [Option.bind_some, decide_true, if_true]
      rw [cut_After_eq hsn, ha2]
      simp only [Option.bind_some]
      rw [ref04_Same_eq (by omega)]
      simp
  unfold law19_CutSeen
  rw [law19_awake_eq, hp]
  simp only [Option.bind_some]
  refine loopF_inv (fun (q : Int × List ByteArray × List Api_Version) => 0 ≤ q.1 ∧ q.1 ≤ (p.length : Int) ∧ q.2.1 = (p.take q.1.toNat).map (·.Key) ∧ q.2.2 = (p.take q.1.toNat).map depV) (fun q => ((p.length : Int) - q.1).toNat) (fun _ => some true) ?_ FU (0, [], []) ⟨Int.le_refl _, by simp, by simp, by simp⟩ (by have := FU_big; simp only; omega)
  rintro again ⟨i', ks, vs⟩ ⟨g1, g2, g3, g4⟩ hag
  simp only at g1 g2 g3 g4
  obtain ⟨i, rfl⟩ : ∃ i : Nat, i' = i := ⟨i'.toNat, by omega⟩
  simp only [Int.toNat_natCast] at g3 g4
  subst g3 g4
  have e : ((i : Int) + 1).toNat = i + 1 := by omega
  unfold law19_CutSeen_l7
  simp only
  by_cases c : (i : Int) < (p.length : Int)
  · have hi : i < p.length := by omega
    rw [if_pos (by simpa using c), idx_at hi]
    simp only [Option.bind_some]
    rw [app_ok (by simp; omega) (by simp; omega)]
    simp only [Option.bind_some]
    rw [app_ok (by simp; omega) (by simp; omega), wrap64 (by omega) (by omega)]
    simp only [Option.bind_some]
    refine hag _ ⟨by simp only; omega, by simp only; omega, ?_, ?_⟩ (by simp only; omega)
    · simp only [e]; rw [List.take_add_one, List.getElem?_eq_getElem hi, List.map_append]; rfl
    · simp only [e]; rw [List.take_add_one, List.getElem?_eq_getElem hi, List.map_append]; rfl
  · rw [if_neg (by simpa using c), List.take_of_length_le (by omega)]
    exact hk1
end Go.Ark
