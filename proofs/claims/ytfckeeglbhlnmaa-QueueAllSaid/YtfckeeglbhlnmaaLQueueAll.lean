/- The plain law of QueueAll: one by one all come out, each behind what it hangs on; nothing is left. Conditions: none but those that stand in each law. -/
import Derived.Test.YtfckeeglbhlnmaaLQueueTells
namespace Go.Ark
open Go Go.Ab Go.RowKit

/-! the words -/
theorem wordP_rest (n : Int) : ∃ m : Fin 8, wordP n = wordP (m.val : Int) := by
  have h : (BitVec.ofInt (IntKind.bits .i64) n &&& BitVec.ofInt (IntKind.bits .i64) 7).toNat ≤ 7 := by
    rw [BitVec.toNat_and]
    exact Nat.and_le_right
  refine ⟨⟨(BitVec.ofInt (IntKind.bits .i64) n &&& BitVec.ofInt (IntKind.bits .i64) 7).toNat, by omega⟩, ?_⟩
  have key : ∀ m : Fin 8, (BitVec.ofInt (IntKind.bits .i64) (m.val : Int) &&& BitVec.ofInt (IntKind.bits .i64) 7).toNat = m.val := by decide +kernel
  have := key ⟨(BitVec.ofInt (IntKind.bits .i64) n &&& BitVec.ofInt (IntKind.bits .i64) 7).toNat, by omega⟩
  unfold wordP
  rw [this]

theorem words_ok : ∀ m : Fin 8, keys_Check (wordP (m.val : Int)) = some true := by decide +kernel
theorem okKey_word (n : Int) : okKey (wordP n) = true := by
  obtain ⟨m, hm⟩ := wordP_rest n
  have h := words_ok m
  rw [keys_Check_eq (by rw [wordP_size]; omega)] at h
  rw [hm]
  exact Option.some.inj h
theorem words_lt : ∀ m k : Fin 8, slt (wordP (m.val : Int)) (wordP (k.val : Int)) = true → m.val < k.val := by decide +kernel

/-- of words there are eight, so no past of them has more deps -/
theorem words_few : ∀ (p : List Api_Dep) (a : Nat), a ≤ 8 → sortedP p → (∀ d, d ∈ p → ∃ m : Fin 8, a ≤ m.val ∧ d.Key = wordP (m.val : Int)) → p.length ≤ 8 - a
  | [], _, _, _, _ => by simp
  | d :: p, a, ha, hs, h => by
    obtain ⟨h1, h2⟩ := List.pairwise_cons.1 hs
    obtain ⟨m, hm, hk⟩ := h d (by simp)
    have := words_few p (m.val + 1) (by omega) h2 fun x hx => by
      obtain ⟨k, _, hk'⟩ := h x (by simp [hx])
      have := h1 x hx
      rw [hk, hk'] at this
      exact ⟨k, words_lt m k this, hk'⟩
    simp only [List.length_cons]
    omega

theorem pastOf_mem (cs : List Api_Version) {d : Api_Dep} : d ∈ pastOf cs → ∃ c, c ∈ cs ∧ (d ∈ c.Past ∨ d = depOf c) := by
  have key : ∀ (n : Nat) (cs : List Api_Version), cs.length = n → d ∈ pastOf cs → ∃ c, c ∈ cs ∧ (d ∈ c.Past ∨ d = depOf c) := by
    intro n
    induction n with
    | zero =>
      intro cs hl h
      have : cs = [] := List.length_eq_zero_iff.1 hl
      subst this
      simp [pastOf] at h
    | succ n ih =>
      intro cs hl h
      obtain ⟨cs', c, rfl⟩ : ∃ cs' c, cs = cs' ++ [c] := ⟨cs.dropLast, cs.getLast (fun e => by simp [e] at hl), (List.dropLast_concat_getLast _).symm⟩
      rw [pastOf_snoc] at h
      rcases mergeFold_mem _ _ h with h | ⟨p, hp, h⟩
      · simp at h
      · simp only [List.mem_cons, List.not_mem_nil, or_false] at hp
        rcases hp with rfl | rfl | rfl
        · obtain ⟨x, hx, hd⟩ := ih cs' (by simpa using hl) h
          exact ⟨x, by simp [hx], hd⟩
        · exact ⟨c, by simp, .inl h⟩
        · exact ⟨c, by simp, .inr (by simpa using h)⟩
  exact key _ cs rfl

/-- what is known of what was made: each dep is that of an earlier one -/
def MI (out : List Api_Version) : Prop :=
  (∀ (i : Nat) (hi : i < out.length) (d : Api_Dep), d ∈ out[i].Past → ∃ j, ∃ hj : j < out.length, j < i ∧ d = depOf out[j]) ∧
  ∀ v, v ∈ out → (∃ n, v.Key = wordP n) ∧ okStamp v.Stamp = true ∧ v.Value = ByteArray.empty ∧ v.Gone = false

theorem MI_snoc {out cs : List Api_Version} {n site : Int} (h : MI out) (hb : BI out) (hl : out.length < 14) (hcs : ∀ c, c ∈ cs → c ∈ out) (h0 : 0 ≤ site) (h3 : site ≤ 3) : MI (out ++ [newV (wordP n) site cs]) := by
  constructor
  · intro i hi d hd
    simp only [List.length_append, List.length_cons, List.length_nil] at hi
    by_cases c : i < out.length
    · rw [List.getElem_append_left c] at hd
      obtain ⟨j, hj, h4, h5⟩ := h.1 i c d hd
      exact ⟨j, by simp; omega, h4, by rw [List.getElem_append_left hj]; exact h5⟩
    · have e : i = out.length := by omega
      subst e
      have hd : d ∈ pastOf cs := by simpa [newV] using hd
      obtain ⟨x, hx, hxd⟩ := pastOf_mem cs hd
      obtain ⟨q, hq, rfl⟩ := List.getElem_of_mem (hcs x hx)
      rcases hxd with hxd | rfl
      · obtain ⟨j, hj, h4, h5⟩ := h.1 q hq d hxd
        exact ⟨j, by simp; omega, by omega, by rw [List.getElem_append_left hj]; exact h5⟩
      · exact ⟨q, by simp; omega, hq, by rw [List.getElem_append_left hq]⟩
  · intro v hv
    rcases List.mem_append.1 hv with hv | hv
    · exact h.2 v hv
    · simp at hv
      subst hv
      have h5 := maxN_ge (p := pastOf cs)
      have h6 : maxN (pastOf cs) ≤ (out.length : Int) := maxN_le (by omega) fun d hd => by
        have := ((pastOf_bound hb hcs).2.2 d hd).2; omega
      refine ⟨⟨n, rfl⟩, ?_, rfl, rfl⟩
      have e1 : (newV (wordP n) site cs).Stamp.N = maxN (pastOf cs) + 1 := rfl
      have e2 : (newV (wordP n) site cs).Stamp.Site = site := rfl
      simp only [okStamp, e1, e2, Bool.and_eq_true, decide_eq_true_eq]
      omega

theorem okVersion_made {vs : List Api_Version} (h : MI vs) (hb : BI vs) {v : Api_Version} (hv : v ∈ vs) : okVersion v = true ∧ okDep (depOf v) = true := by
  obtain ⟨⟨n, h1⟩, h2, h3, h4⟩ := h.2 v hv
  have hd : ∀ u, u ∈ vs → okDep (depOf u) = true ∧ ∃ m : Fin 8, 0 ≤ m.val ∧ (depOf u).Key = wordP (m.val : Int) := fun u hu => by
    obtain ⟨⟨k, g1⟩, g2, _, _⟩ := h.2 u hu
    obtain ⟨m, hm⟩ := wordP_rest k
    refine ⟨?_, m, Nat.zero_le _, by show u.Key = _; rw [g1, hm]⟩
    simp only [okDep, depOf, g1, okKey_word, g2, Bool.and_self]
  obtain ⟨i, hi, rfl⟩ := List.getElem_of_mem hv
  have hpast : ∀ d, d ∈ vs[i].Past → okDep d = true ∧ ∃ m : Fin 8, 0 ≤ m.val ∧ d.Key = wordP (m.val : Int) := fun d hdm => by
    obtain ⟨j, hj, _, rfl⟩ := h.1 i hi d hdm
    exact hd _ (List.getElem_mem hj)
  have hs := (hb.2 _ hv).2.2.2.1
  have hfew := words_few vs[i].Past 0 (by omega) hs fun d hdm => (hpast d hdm).2
  refine ⟨?_, (hd _ hv).1⟩
  have hc : chainP none vs[i].Past = true := chainP_iff.2 ⟨fun d hdm => (hpast d hdm).1, hs, fun k hk => by cases hk⟩
  have h8 : vs[i].Past.length ≤ 24 := by omega
  have hsz : ByteArray.empty.size = 0 := rfl
  simp [okVersion, okPast, h1, okKey_word, h2, h3, h4, hc, h8, hsz]

theorem own_all (k : ByteArray) : ownP [Api_Range.mk ByteArray.empty ByteArray.empty] k = true := by simp [ownP, hasP, slt_empty]

theorem count_all : ∀ n : Fin 15, ((List.range 14).map fun k => decide (k < n.val)).countP id = n.val := by decide

theorem first_in {vs wait : List Api_Version} (h : ∀ x, x ∈ wait → x ∈ vs) (hne : wait ≠ []) : ∃ k, ∃ hk : k < vs.length, vs[k] ∈ wait ∧ ∀ j (hj : j < vs.length), j < k → ¬ vs[j] ∈ wait := by
  have hex : ∃ v, v ∈ vs ∧ v ∈ wait := by
    cases wait with
    | nil => exact absurd rfl hne
    | cons x w => exact ⟨x, h x (by simp), by simp⟩
  rcases fidx_cases (fun v => decide (v ∈ wait)) vs with ⟨i, hi, h1, h2, _⟩ | ⟨h1, _⟩
  · exact ⟨i, hi, by simpa using h1, fun j hj hji => by simpa using h2 j hj hji⟩
  · obtain ⟨v, hv, hw⟩ := hex
    have := h1 v hv
    simp [hw] at this

theorem law14_QueueAll_plain (l_0 : (List Law14_Write)) (order_1 : (List Int)) (h0 : l_0.length ≤ reachBytes ∧ ∀ x, x ∈ l_0 → wfLaw14_Write x) (h1 : order_1.length ≤ reachBytes ∧ ∀ x, x ∈ order_1 → (Lit.int .i64 x).wf = true) : law14_QueueAll l_0 order_1 = some true := by
  obtain ⟨vs, hvs, hI, hb⟩ := made_ind MI ⟨fun i hi => by simp at hi, fun v h => by simp at h⟩ (fun out cs n site g1 g2 g3 _ g5 g6 g7 _ => MI_snoc g1 g2 g3 g5 g6 g7) (l := l_0) (Nat.le_trans h0.1 (by decide)) fun x hx => ⟨Nat.le_trans (h0.2 x hx).2.2.1 (by decide), fun y hy => bounds_i64 ((h0.2 x hx).2.2.2 y hy)⟩
  have hv14 := hb.1
  have hvb : ∀ v, v ∈ vs → v.Past.length ≤ 6103515625 ∧ v.Key.size ≤ 1 ∧ ∀ d, d ∈ v.Past → d.Key.size ≤ 1 := fun v hv => ⟨Nat.le_trans (hb.2 v hv).1 (pow5 hb.1), (hb.2 v hv).2.1, fun d hd => ((hb.2 v hv).2.2.2.2 d hd).1⟩
  have hsm : ∀ v, v ∈ vs → smallV v := fun v hv => by
    obtain ⟨g1, g2, g3⟩ := hvb v hv
    exact ⟨by omega, by omega, fun d hd => by have := g3 d hd; omega⟩
  have hol : order_1.length ≤ 140737488351232 := Nat.le_trans h1.1 (by decide)
  unfold law14_QueueAll
  rw [law14_awake_eq, hvs]
  simp only [Option.bind_some]
  -- they come out
  have hk1 : ∀ wait : List Api_Version, wait.length = vs.length → (∀ x, x ∈ wait → x ∈ vs) → (∀ k (hk : k < vs.length), vs[k] ∈ wait) → law14_QueueAll_k1 true vs wait = some true := by
    intro wait hwl hw1 hw2
    unfold law14_QueueAll_k1
    have hr : law14_ranges 0 = some [Api_Range.mk ByteArray.empty ByteArray.empty] := by decide +kernel
    rw [hr]
    simp only [Option.bind_some]
    refine loopF_inv (fun (v : List Api_Version × List Api_Dep × Int) => 0 ≤ v.2.2 ∧ v.2.2 ≤ (vs.length : Int) ∧ (v.1.length : Int) = vs.length - v.2.2 ∧ (∀ x, x ∈ v.1 → x ∈ vs) ∧ (∀ k (hk : k < vs.length), vs[k] ∈ v.1 ∨ leS vs[k].Stamp (getP v.2.1 vs[k].Key)) ∧ sortedP v.2.1 ∧ (v.2.1.length : Int) ≤ v.2.2)
      (fun v => ((vs.length : Int) - v.2.2).toNat) (fun _ => some true) ?_ FU (wait, [], 0) ⟨Int.le_refl _, by simp, by simp only; omega, hw1, fun k hk => .inl (hw2 k hk), List.Pairwise.nil, by simp⟩ (by have := FU_big; simp only; omega)
    rintro again ⟨w, have_, r⟩ ⟨g1, g2, g3, g4, g5, g6, g7⟩ hag
    simp only at g1 g2 g3 g4 g5 g6 g7
    unfold law14_QueueAll_l3
    simp only
    by_cases c : r < (vs.length : Int)
    · rw [if_pos (by simpa using c)]
      -- the first of those that wait misses nothing
      obtain ⟨k, hk, hkw, hkf⟩ := first_in g4 (fun e => by rw [e] at g3; simp at g3; omega)
      have hmiss : missP vs[k].Past have_ [Api_Range.mk ByteArray.empty ByteArray.empty] = [] := by
        refine List.filter_eq_nil_iff.2 fun d hd => ?_
        obtain ⟨j, hj, hjk, rfl⟩ := hI.1 k hk d (List.mem_filter.1 hd).1
        rcases g5 j hj with h | h
        · exact absurd h (hkf j hj hjk)
        · have h : lessP (getP have_ vs[j].Key) vs[j].Stamp = false := h
          simp [depOf, h]
      rcases queue_Next_eq (l := w) (h := have_) (own := [Api_Range.mk ByteArray.empty ByteArray.empty]) (by omega) (fun v hv => by have := (hvb v (g4 v hv)).1; omega) g6 (by omega) (by simp) with ⟨i, hi, _, hm, he⟩ | ⟨hno, _⟩
      · rw [he]
        simp only [Option.bind_some]
        have hmem := g4 _ (List.getElem_mem hi)
        obtain ⟨b1, b2, b3⟩ := hvb _ hmem
        have hcov : coversP have_ w[i].Past = true := by
          have e : (w[i].Past.filter fun d => ownP [Api_Range.mk ByteArray.empty ByteArray.empty] d.Key) = w[i].Past := List.filter_eq_self.2 fun d _ => own_all d.Key
          unfold missP at hm
          rw [e] at hm
          refine List.all_eq_true.2 fun d hd => ?_
          have := List.filter_eq_nil_iff.1 hm d hd
          simpa using this
        rw [ref04_Covers_eq (by omega) (by omega), hcov]
        simp only [Option.bind_some, Bool.not_true, Bool.false_eq_true, if_false]
        unfold law14_QueueAll_k5 law14_QueueAll_k4
        simp only [Bool.false_eq_true, if_false]
        have hlen : (((w.take i ++ w.drop (i + 1)).length : Nat) : Int) = (w.length : Int) - 1 := by simp only [List.length_append, List.length_take, List.length_drop]; omega
        rw [wrap64 (n := (w.length : Int) - 1) (by omega) (by omega), if_neg (by simp only [hlen]; simp)]
        rw [ref04_Add_eq (by omega) (by simp only; omega), wrap64 (by omega) (by omega)]
        simp only [Option.bind_some]
        have hal := addP_length have_ (Api_Dep.mk w[i].Key w[i].Stamp)
        refine hag _ ⟨by simp only; omega, by simp only; omega, by simp only; omega, fun x hx => ?_, fun q hq => ?_, addP_sorted g6, by simp only; omega⟩ (by simp only; omega)
        · rcases List.mem_append.1 hx with hx | hx
          · exact g4 x (List.mem_of_mem_take hx)
          · exact g4 x (List.mem_of_mem_drop hx)
        · simp only
          rcases g5 q hq with h | h
          · by_cases hqi : vs[q] = w[i]
            · right
              rw [hqi, getP_addP g6, if_pos ⟨(okVersion_made hI hb hmem).2, rfl⟩]
              exact le_maxS_right _ _
            · left
              have e : w = w.take i ++ w[i] :: w.drop (i + 1) := by rw [← List.drop_eq_getElem_cons hi, List.take_append_drop]
              rw [e] at h
              rcases List.mem_append.1 h with h | h
              · exact List.mem_append.2 (.inl h)
              · rcases List.mem_cons.1 h with h | h
                · exact absurd h hqi
                · exact List.mem_append.2 (.inr h)
          · right
            exact leS_trans h (getP_addP_le g6 _ _)
      · exact absurd hmiss (hno _ hkw)
    · rw [if_neg (by simpa using c)]
      unfold law14_QueueAll_k2
      rw [if_pos rfl, decide_eq_true (by omega)]
  -- they wait
  refine loopF_inv (fun (v : List Api_Version × Int × List Bool) => 0 ≤ v.2.1 ∧ v.2.1 ≤ (order_1.length : Int) + vs.length ∧ v.2.2.length = 14 ∧ v.1.length = v.2.2.countP id ∧ (∀ x, x ∈ v.1 → x ∈ vs) ∧
      (∀ k (hk : k < v.2.2.length), v.2.2[k] = true → ∃ hk2 : k < vs.length, vs[k] ∈ v.1) ∧ ∀ k (hk : k < v.2.2.length), (k : Int) < v.2.1 - order_1.length → v.2.2[k] = true)
    (fun v => ((order_1.length : Int) + vs.length - v.2.1).toNat) (fun _ => some true) ?_ FU ([], 0, List.replicate 14 false) ⟨Int.le_refl _, by simp only; omega, by simp, by decide, fun x h => by simp at h, fun k hk h => (by simp only [List.getElem_replicate] at h; cases h), fun k hk h => by simp only at h; omega⟩ (by have := FU_big; simp only; omega)
  rintro again ⟨w, i, used⟩ ⟨g1, g2, g3, g4, g5, g6, g7⟩ hag
  simp only at g1 g2 g3 g4 g5 g6 g7
  have hc14 : used.countP id ≤ 14 := by rw [← g3]; exact List.countP_le_length
  unfold law14_QueueAll_l6
  simp only
  rw [wrap64 (n := (order_1.length : Int) + vs.length) (by omega) (by omega)]
  by_cases c : i < (order_1.length : Int) + vs.length
  · rw [if_pos (by simpa using c)]
    -- one place
    have hk8 : ∀ k : Int, k < vs.length → (k < 0 → i < order_1.length) → (¬ i < (order_1.length : Int) → k = i - order_1.length) → law14_QueueAll_k8 vs again (w, i, used) k = some true := by
      intro k hkn hneg hpos
      unfold law14_QueueAll_k8 law14_QueueAll_k9
      simp only
      have e : IntKind.wrap .i64 (i + 1) = i + 1 := wrap64 (by omega) (by omega)
      rw [e]
      by_cases c0 : k < 0
      · rw [if_pos (by simpa using c0), if_pos trivial]
        exact hag _ ⟨by simp only; omega, by simp only; omega, g3, g4, g5, g6, fun q hq hlt => by
          simp only at hlt
          have := hneg c0
          omega⟩ (by simp only; omega)
      · rw [if_neg (by simpa using c0)]
        obtain ⟨q, rfl⟩ : ∃ q : Nat, k = q := ⟨k.toNat, by omega⟩
        have hq : q < vs.length := by omega
        have hqu : q < used.length := by omega
        have ea : aidx 14 used (q : Int) = some used[q] := by
          unfold aidx
          rw [if_pos ⟨by omega, by omega⟩, Int.toNat_natCast, List.getElem?_eq_getElem hqu]
        rw [ea]
        simp only [Option.bind_some]
        cases hu : used[q] with
        | true =>
          simp only [if_true]
          refine hag _ ⟨by simp only; omega, by simp only; omega, g3, g4, g5, g6, fun q' hq' hlt => ?_⟩ (by simp only; omega)
          simp only at hlt ⊢
          by_cases hlt2 : (q' : Int) < i - order_1.length
          · exact g7 q' hq' hlt2
          · have e3 := hpos (by omega)
            have : q' = q := by omega
            subst this; exact hu
        | false =>
          simp only [Bool.false_eq_true, if_false]
          have es : asets 14 used (q : Int) true = some (used.set q true) := by
            unfold asets
            rw [if_pos ⟨by omega, by omega, by omega⟩, Int.toNat_natCast]
          have hok := (okVersion_made hI hb (List.getElem_mem hq)).1
          rw [es]
          simp only [Option.bind_some]
          rw [idx_at hq]
          simp only [Option.bind_some]
          rw [queue_Push_eq (hsm _ (List.getElem_mem hq)) (by omega)]
          simp only [Option.bind_some, pushP, hok, if_true]
          rw [if_neg (show ¬ 24 ≤ w.length by omega)]
          simp only [decide_true, Bool.not_true, Bool.false_eq_true, if_false]
          refine hag _ ⟨by simp only; omega, by simp only; omega, by simp only [List.length_set]; exact g3, ?_, fun x hx => ?_, fun q' hq' h => ?_, fun q' hq' hlt => ?_⟩ (by simp only; omega)
          · simp only [List.length_append, List.length_cons, List.length_nil]
            rw [List.countP_set hqu, g4]
            simp [hu]
          · rcases List.mem_append.1 hx with hx | hx
            · exact g5 x hx
            · simp at hx; subst hx; exact List.getElem_mem _
          · simp only [List.length_set] at hq'
            by_cases hqq : q = q'
            · subst hqq; exact ⟨hq, by simp⟩
            · simp only [List.getElem_set, hqq, if_false] at h
              obtain ⟨h5, h6⟩ := g6 q' hq' h
              exact ⟨h5, by simp [h6]⟩
          · simp only [List.length_set] at hq'
            simp only at hlt ⊢
            rw [List.getElem_set]
            by_cases hqq : q = q'
            · rw [if_pos hqq]
            · rw [if_neg hqq]
              by_cases hlt2 : (q' : Int) < i - order_1.length
              · exact g7 q' hq' hlt2
              · have e3 := hpos (by omega)
                omega
    unfold law14_QueueAll_k7
    simp only
    have hlate : ¬ (i < (order_1.length : Int) ∧ 0 < (vs.length : Int)) → law14_QueueAll_k8 vs again (w, i, used) (IntKind.wrap .i64 (i - order_1.length)) = some true := fun hn => by
      rw [wrap64 (by omega) (by omega)]
      exact hk8 _ (by omega) (by omega) (fun _ => rfl)
    by_cases c1 : i < (order_1.length : Int)
    · rw [if_pos (by simpa using c1)]
      by_cases c2 : 0 < (vs.length : Int)
      · rw [if_pos (by simpa using c2), idx_int g1 c1]
        have hne : (!decide ((vs.length : Int) = 0)) = true := by rw [decide_eq_false (by omega)]; rfl
        simp only [Option.bind_some, chk, hne, if_true]
        generalize order_1[i.toNat]'(by omega) = x
        have hm1 : Int.tmod x (vs.length : Int) < vs.length := Int.tmod_lt_of_pos _ c2
        have hm2 : -(vs.length : Int) < Int.tmod x (vs.length : Int) := by
          have := Int.tmod_lt_of_pos (-x) c2
          rw [Int.neg_tmod] at this
          omega
        rw [wrap64 (by omega) (by omega)]
        have hm3 : 0 ≤ Int.tmod (Int.tmod x (vs.length : Int) + vs.length) (vs.length : Int) := Int.tmod_nonneg _ (by omega)
        have hm4 : Int.tmod (Int.tmod x (vs.length : Int) + vs.length) (vs.length : Int) < vs.length := Int.tmod_lt_of_pos _ c2
        exact hk8 _ hm4 (by omega) (fun h => absurd c1 h)
      · rw [if_neg (by simpa using c2)]
        exact hlate (fun h => c2 h.2)
    · rw [if_neg (by simpa using c1), if_neg (by simp)]
      exact hlate (fun h => c1 h.1)
  · rw [if_neg (by simpa using c)]
    have hall : ∀ k (hk : k < used.length), used[k] = decide (k < vs.length) := fun k hk => by
      by_cases hkn : k < vs.length
      · rw [g7 k hk (by omega), decide_eq_true hkn]
      · cases hu : used[k] with
        | false => rw [decide_eq_false hkn]
        | true => exact absurd (g6 k hk hu).1 hkn
    have heq : used = (List.range 14).map fun k => decide (k < vs.length) := List.ext_getElem (by simp [g3]) fun k hk1 hk2 => by simp [hall k hk1]
    have hcnt := count_all ⟨vs.length, by omega⟩
    exact hk1 w (by rw [g4, heq]; exact hcnt) g5 fun k hk => (g6 k (by omega) (by rw [hall k (by omega), decide_eq_true hk])).2
end Go.Ark
