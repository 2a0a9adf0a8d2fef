/- The plain law of ChainOrder: two orders of putting make the same chain, and its head is the greatest. Conditions: none but those that stand in each law. -/
import Derived.Test.YtjmleebbmomcgaaPchain2
namespace Go.Ark
open Go Go.Ab Go.RowKit

theorem insV_at {v : Api_Version} : ∀ {l : List Api_Version} {n : Nat}, n ≤ l.length → (∀ j (hj : j < l.length), j < n → lessP l[j].Stamp v.Stamp = true) → (∀ j (hj : j < l.length), n ≤ j → lessP l[j].Stamp v.Stamp = false) →
    (∀ x, x ∈ l → x.Stamp ≠ v.Stamp) → insV v l = l.take n ++ v :: l.drop n
  | [], n, h0, _, _, _ => by
    have : n = 0 := by simpa using h0
    subst this; rfl
  | x :: l, 0, _, _, h2, hn => by
    have h : lessP v.Stamp x.Stamp = true := by
      cases h3 : lessP v.Stamp x.Stamp with
      | true => rfl
      | false => exact absurd (lessP_tri (h2 0 (by simp) (Nat.le_refl _)) h3) (hn x (by simp))
    rw [insV, if_pos h]; rfl
  | x :: l, n + 1, h0, h1, h2, hn => by
    have h : lessP v.Stamp x.Stamp = false := lessP_asymm (h1 0 (by simp) (Nat.succ_pos _))
    rw [insV, if_neg (by simp [h]), insV_at (l := l) (n := n) (by simpa using h0) (fun j hj hjn => h1 (j + 1) (Nat.succ_lt_succ hj) (Nat.succ_lt_succ hjn)) (fun j hj hjn => h2 (j + 1) (Nat.succ_lt_succ hj) (Nat.succ_le_succ hjn)) (fun y hy => hn y (by simp [hy]))]
    rfl

theorem chain_Put_eq {l : List Api_Version} (hl : l.length ≤ 1099511627) (hs : sortedV l) {v : Api_Version} (hv : smallV v) : chain_Put l v = some (putV l v) := by
  obtain ⟨n, h0, h1, h2, h3⟩ := chain_from_eq (by omega) hs v.Stamp
  unfold chain_Put putV
  rw [h0, wire_Check_eq hv]
  simp only [Option.bind_some]
  cases hok : okVersion v with
  | false => simp [chain_Put_k1]
  | true =>
    simp only [Bool.not_true, Bool.false_eq_true, if_false, Bool.true_and]
    have hany : (l.any fun x => decide (x.Stamp = v.Stamp)) = true ↔ ∃ h : n < l.length, l[n].Stamp = v.Stamp := by
      rw [List.any_eq_true]
      constructor
      · rintro ⟨x, hx, he⟩
        have he : x.Stamp = v.Stamp := by simpa using he
        obtain ⟨j, hj, rfl⟩ := List.getElem_of_mem hx
        rcases Nat.lt_trichotomy j n with h | h | h
        · have := h2 j hj h
          rw [he, lessP_irrefl] at this; cases this
        · subst h; exact ⟨hj, he⟩
        · have h4 := List.pairwise_iff_getElem.1 hs n j (by omega) hj h
          rw [he, h3 n (by omega) (Nat.le_refl _)] at h4; cases h4
      · rintro ⟨h, he⟩
        exact ⟨_, List.getElem_mem h, by simpa using he⟩
    have hk1 : ∀ b, b = (l.any fun x => decide (x.Stamp = v.Stamp)) → chain_Put_k1 l v (n : Int) b = some (if (!l.any fun x => decide (x.Stamp = v.Stamp)) = true then (insV v l, true) else (l, false)) := by
      rintro b rfl
      unfold chain_Put_k1
      cases ha : (l.any fun x => decide (x.Stamp = v.Stamp)) with
      | true => simp
      | false =>
        have hn : ∀ x, x ∈ l → x.Stamp ≠ v.Stamp := fun x hx => by simpa using List.any_eq_false.1 ha x hx
        rw [slices_Clone_Version_eq (by omega) (by omega)]
        simp only [Bool.false_eq_true, if_false, Option.bind_some, Bool.not_false, if_true]
        unfold slices_Insert_Version insL
        simp only
        rw [if_pos ⟨by omega, by omega, by omega, by omega⟩, insV_at h1 h2 h3 hn]
        rfl
    have hend : (if decide ((n : Int) < (l.length : Int)) = true then (idx l (n : Int)).bind fun x => chain_Put_k1 l v (n : Int) (decide (x.Stamp.N = v.Stamp.N) && decide (x.Stamp.Site = v.Stamp.Site)) else chain_Put_k1 l v (n : Int) false) =
        some (if (!l.any fun x => decide (x.Stamp = v.Stamp)) = true then (insV v l, true) else (l, false)) := by
      by_cases c : n < l.length
      · rw [if_pos (by simpa using c), idx_at c]
        simp only [Option.bind_some, stampEq]
        refine hk1 _ ?_
        by_cases e : l[n].Stamp = v.Stamp
        · rw [hany.2 ⟨c, e⟩]; simpa using e
        · have : (l.any fun x => decide (x.Stamp = v.Stamp)) = false := by
            cases h : (l.any fun x => decide (x.Stamp = v.Stamp)) with
            | false => rfl
            | true => exact absurd (hany.1 h).2 e
          rw [this]; simpa using e
      · rw [if_neg (by simpa using c)]
        refine hk1 _ ?_
        cases h : (l.any fun x => decide (x.Stamp = v.Stamp)) with
        | false => rfl
        | true => exact absurd (hany.1 h).1 c
    cases l with
    | nil =>
      simp only [List.length_nil, Int.natCast_zero, Int.lt_irrefl, decide_false, Bool.false_eq_true, if_false, sameK, Bool.true_and] at hend ⊢
      exact hend
    | cons x l =>
      rw [if_pos (by simp), show idx (x :: l) 0 = some x by simp [idx]]
      simp only [Option.bind_some, seq_eq]
      by_cases hk : x.Key = v.Key
      · simp only [sameK, hk, decide_true, Bool.not_true, Bool.true_and, Bool.false_eq_true, if_false]
        exact hend
      · simp [sameK, hk, chain_Put_k1]

/-- a version that only its stamp tells from others -/
abbrev bareV (s : Api_Stamp) : Api_Version := Api_Version.mk (ByteArray.mk #[97]) ByteArray.empty false s ([] : (List Api_Dep))

theorem bareV_ok (s : Api_Stamp) : okVersion (bareV s) = okStamp s := by
  unfold okVersion bareV
  have h1 : okKey (ByteArray.mk #[97]) = true := by decide +kernel
  have h2 : okPast [] = true := by decide +kernel
  simp only [h1, h2, Bool.true_and]
  simp
theorem bareV_small (s : Api_Stamp) : smallV (bareV s) := ⟨by simp only; decide, by simp, by simp⟩

/-- what is known of a chain of bare versions -/
def BI (l : List Api_Version) (p : Api_Stamp → Prop) : Prop := sortedV l ∧ ∀ v, v ∈ l ↔ ∃ s, p s ∧ okStamp s = true ∧ v = bareV s

theorem BI_put {l : List Api_Version} {p q : Api_Stamp → Prop} (h : BI l p) {s : Api_Stamp} (hq : ∀ t, q t ↔ p t ∨ t = s) : BI (putV l (bareV s)).1 q := by
  have hkey : sameK l (bareV s).Key = true := by
    unfold sameK
    split
    · rfl
    · rename_i x l'
      obtain ⟨t, _, _, rfl⟩ := (h.2 x).1 (by simp)
      simp
  unfold putV
  rw [bareV_ok, hkey, Bool.true_and]
  split
  · rename_i c
    simp only [Bool.and_eq_true, Bool.not_eq_true', List.any_eq_false, decide_eq_true_eq] at c
    refine ⟨insV_sorted h.1 fun x hx => c.2 x hx, fun v => ?_⟩
    rw [insV_mem, h.2 v]
    constructor
    · rintro (rfl | ⟨t, h1, h2, h3⟩)
      · exact ⟨s, (hq s).2 (.inr rfl), c.1, rfl⟩
      · exact ⟨t, (hq t).2 (.inl h1), h2, h3⟩
    · rintro ⟨t, h1, h2, h3⟩
      rcases (hq t).1 h1 with h1 | rfl
      · exact .inr ⟨t, h1, h2, h3⟩
      · exact .inl h3
  · rename_i c
    refine ⟨h.1, fun v => ?_⟩
    simp only
    rw [h.2 v]
    constructor
    · rintro ⟨t, h1, h2, h3⟩
      exact ⟨t, (hq t).2 (.inl h1), h2, h3⟩
    · rintro ⟨t, h1, h2, h3⟩
      rcases (hq t).1 h1 with h1 | rfl
      · exact ⟨t, h1, h2, h3⟩
      · have ha : (l.any fun x => decide (x.Stamp = (bareV t).Stamp)) = true := by
          cases ha : (l.any fun x => decide (x.Stamp = (bareV t).Stamp)) with
          | true => rfl
          | false => exact absurd (by rw [h2, ha]; rfl) c
        obtain ⟨x, hx, he⟩ := List.any_eq_true.1 ha
        obtain ⟨u, h4, h5, rfl⟩ := (h.2 x).1 hx
        have he : u = t := by simpa using he
        subst he
        exact ⟨u, h4, h5, h3⟩

theorem sorted_ext : ∀ {a b : List Api_Version}, sortedV a → sortedV b → (∀ v, v ∈ a ↔ v ∈ b) → a = b
  | [], [], _, _, _ => rfl
  | [], y :: b, _, _, h => absurd ((h y).2 (by simp)) (by simp)
  | x :: a, [], _, _, h => absurd ((h x).1 (by simp)) (by simp)
  | x :: a, y :: b, ha, hb, h => by
    obtain ⟨a1, a2⟩ := List.pairwise_cons.1 ha
    obtain ⟨b1, b2⟩ := List.pairwise_cons.1 hb
    have hxy : x = y := by
      rcases List.mem_cons.1 ((h x).1 (by simp)) with e | hx
      · exact e
      · rcases List.mem_cons.1 ((h y).2 (by simp)) with e | hy
        · exact e.symm
        · have h1 := a1 y hy
          have h2 := lessP_asymm (b1 x hx)
          rw [h1] at h2; cases h2
    subst hxy
    rw [sorted_ext a2 b2 fun v => ?_]
    have hv := h v
    simp only [List.mem_cons] at hv
    constructor
    · intro hva
      rcases hv.1 (.inr hva) with rfl | h1
      · have := a1 _ hva; rw [lessP_irrefl] at this; cases this
      · exact h1
    · intro hvb
      rcases hv.2 (.inr hvb) with rfl | h1
      · have := b1 _ hvb; rw [lessP_irrefl] at this; cases this
      · exact h1

/-- the greatest of the good stamps among those told of -/
def Top (p : Api_Stamp → Prop) (t : Api_Stamp) : Prop := (∀ s, p s → okStamp s = true → leS s t) ∧ (t = ⟨0, 0⟩ ∨ (p t ∧ okStamp t = true))

theorem BI_head {l : List Api_Version} {p : Api_Stamp → Prop} (h : BI l p) {t : Api_Stamp} (ht : Top p t) : (lastP l).2 = decide (0 < t.N) ∧ (lastP l).1.Stamp = t := by
  cases hh : (lastP l).2 with
  | false =>
    have := lastP_none hh
    subst this
    rcases ht.2 with rfl | ⟨h1, h2⟩
    · exact ⟨rfl, rfl⟩
    · have := (h.2 (bareV t)).2 ⟨t, h1, h2, rfl⟩
      simp at this
  | true =>
    have hp := lastP_pair hh
    obtain ⟨s, h1, h2, h3⟩ := (h.2 _).1 (lastP_mem hp)
    have hs : leS s t := ht.1 s h1 h2
    rcases ht.2 with rfl | ⟨h4, h5⟩
    · have h6 : lessP ⟨0, 0⟩ s = true := zero_leS h2
      rw [show lessP ⟨0, 0⟩ s = false from hs] at h6; cases h6
    · have h6 : leS (bareV t).Stamp (lastP l).1.Stamp := lastP_le h.1 hp ((h.2 _).2 ⟨t, h4, h5, rfl⟩)
      rw [h3] at h6 ⊢
      refine ⟨?_, (leS_antisymm hs h6)⟩
      have : 1 ≤ t.N := by
        unfold okStamp at h5
        simp only [Bool.and_eq_true, decide_eq_true_eq] at h5
        exact h5.1
      exact (decide_eq_true (by omega)).symm

theorem law12_ChainOrder_plain (l_0 : (List Api_Stamp)) (_h0 : l_0.length ≤ reachBytes ∧ ∀ x, x ∈ l_0 → wfApi_Stamp x) : law12_ChainOrder l_0 = some true := by
  have main : ∀ n : Nat, n ≤ l_0.length → n ≤ 10 → law12_ChainOrder_k1 l_0 true (n : Int) = some true := by
    intro n hn hn10
    unfold law12_ChainOrder_k1
    refine loopF_inv (fun (v : (List Api_Version) × (List Api_Version) × Int × Int × Int) => 0 ≤ v.2.2.1 ∧ v.2.2.1 ≤ (n : Int) ∧ BI v.1 (fun s => ∃ j : Nat, ∃ hj : j < l_0.length, (j : Int) < v.2.2.1 ∧ l_0[j] = s) ∧
        BI v.2.1 (fun s => ∃ j : Nat, ∃ hj : j < l_0.length, j < n ∧ (n : Int) ≤ j + v.2.2.1 ∧ l_0[j] = s) ∧ Top (fun s => ∃ j : Nat, ∃ hj : j < l_0.length, (j : Int) < v.2.2.1 ∧ l_0[j] = s) ⟨v.2.2.2.1, v.2.2.2.2⟩ ∧ (v.1.length : Int) ≤ v.2.2.1 ∧ (v.2.1.length : Int) ≤ v.2.2.1)
      (fun v => ((n : Int) - v.2.2.1).toNat) (fun _ => some true) ?_ FU ([], [], 0, 0, 0)
      ⟨Int.le_refl _, by simp, ⟨List.Pairwise.nil, fun v => ⟨fun h => by simp at h, fun ⟨s, ⟨j, _, h, _⟩, _⟩ => by simp only at h; omega⟩⟩,
        ⟨List.Pairwise.nil, fun v => ⟨fun h => by simp at h, fun ⟨s, ⟨j, _, h, h', _⟩, _⟩ => by simp only at h h'; omega⟩⟩,
        ⟨fun s ⟨j, _, h, _⟩ _ => by simp only at h; omega, .inl rfl⟩, by simp, by simp⟩ (by have := FU_big; simp only; omega)
    rintro again ⟨a, b, i', tN, tS⟩ ⟨h1, h2, hA, hB, hT, hla, hlb⟩ hag
    simp only at h1 h2 hA hB hT hla hlb
    obtain ⟨i, rfl⟩ : ∃ i : Nat, i' = i := ⟨i'.toNat, by omega⟩
    unfold law12_ChainOrder_l6
    simp only
    by_cases c : (i : Int) < (n : Int)
    · have hi : i < l_0.length := by omega
      rw [if_pos (by simpa using c), idx_at hi]
      simp only [Option.bind_some]
      rw [chain_Put_eq (by omega) hA.1 (bareV_small _)]
      simp only [Option.bind_some, ref03_Check_eq]
      have hA' := BI_put (q := fun s => ∃ j : Nat, ∃ hj : j < l_0.length, (j : Int) < (i : Int) + 1 ∧ l_0[j] = s) hA (s := l_0[i]) fun t => by
        constructor
        · rintro ⟨j, hj, hji, e⟩
          by_cases hq : j = i
          · subst hq; exact .inr e.symm
          · exact .inl ⟨j, hj, by omega, e⟩
        · rintro (⟨j, hj, hji, e⟩ | rfl)
          · exact ⟨j, hj, by omega, e⟩
          · exact ⟨i, hi, by omega, rfl⟩
      have hk7 : law12_ChainOrder_k7 l_0 (n : Int) again (a, b, (i : Int), tN, tS) (putV a (bareV l_0[i])) (okStamp l_0[i]) false = some true := by
        unfold law12_ChainOrder_k7
        simp only [Bool.false_eq_true, if_false]
        rw [wrap64 (n := (n : Int) - 1) (by omega) (by omega), wrap64 (n := (n : Int) - 1 - (i : Int)) (by omega) (by omega), show ((n : Int) - 1 - (i : Int)) = ((n - 1 - i : Nat) : Int) by omega, idx_at (show n - 1 - i < l_0.length by omega)]
        simp only [Option.bind_some]
        rw [chain_Put_eq (by omega) hB.1 (bareV_small _)]
        simp only [Option.bind_some]
        have hB' := BI_put (q := fun s => ∃ j : Nat, ∃ hj : j < l_0.length, j < n ∧ (n : Int) ≤ j + ((i : Int) + 1) ∧ l_0[j] = s) hB (s := l_0[n - 1 - i]'(by omega)) fun t => by
          constructor
          · rintro ⟨j, hj, hjn, hji, e⟩
            by_cases hq : j = n - 1 - i
            · subst hq; exact .inr e.symm
            · exact .inl ⟨j, hj, hjn, by omega, e⟩
          · rintro (⟨j, hj, hjn, hji, e⟩ | rfl)
            · exact ⟨j, hj, hjn, by omega, e⟩
            · exact ⟨n - 1 - i, by omega, by omega, by omega, rfl⟩
        have hgo : ∀ t : Api_Stamp, Top (fun s => ∃ j : Nat, ∃ hj : j < l_0.length, (j : Int) < (i : Int) + 1 ∧ l_0[j] = s) t → again ((putV a (bareV l_0[i])).1, (putV b (bareV (l_0[n - 1 - i]'(by omega)))).1, (i : Int) + 1, t.N, t.Site) = some true := fun t ht => by
          have q1 := putV_length a (bareV l_0[i])
          have q2 := putV_length b (bareV (l_0[n - 1 - i]'(by omega)))
          exact hag _ ⟨by simp only; omega, by simp only; omega, hA', hB', ht, by simp only; omega, by simp only; omega⟩ (by simp only; omega)
        have hk8 : ∀ y : Bool, (y = true → okStamp l_0[i] = true ∧ lessP ⟨tN, tS⟩ l_0[i] = true) → (y = false → okStamp l_0[i] = true → lessP ⟨tN, tS⟩ l_0[i] = false) →
            law12_ChainOrder_k8 l_0 again (a, b, (i : Int), tN, tS) (putV a (bareV l_0[i])) (putV b (bareV (l_0[n - 1 - i]'(by omega)))) y = some true := by
          intro y hy hy'
          unfold law12_ChainOrder_k8
          rw [wrap64 (n := (i : Int) + 1) (by omega) (by omega)]
          cases y with
          | true =>
            obtain ⟨q1, q2⟩ := hy rfl
            simp only [if_true, idx_at hi, Option.bind_some]
            refine hgo l_0[i] ⟨?_, .inr ⟨⟨i, hi, by omega, rfl⟩, q1⟩⟩
            rintro s ⟨j, hj, hji, rfl⟩ hok
            by_cases hq : j = i
            · subst hq; exact leS_refl _
            · exact leS_trans (hT.1 _ ⟨j, hj, by omega, rfl⟩ hok) (leS_of_less q2)
          | false =>
            simp only [Bool.false_eq_true, if_false]
            refine hgo ⟨tN, tS⟩ ⟨?_, hT.2.imp id fun ⟨⟨j, hj, hji, e⟩, q⟩ => ⟨⟨j, hj, by omega, e⟩, q⟩⟩
            rintro s ⟨j, hj, hji, rfl⟩ hok
            by_cases hq : j = i
            · subst hq; exact hy' rfl hok
            · exact hT.1 _ ⟨j, hj, by omega, rfl⟩ hok
        cases hok : okStamp l_0[i] with
        | false =>
          simp only [Bool.false_eq_true, if_false]
          exact hk8 false (fun h => (by cases h)) (fun _ h => by rw [hok] at h; cases h)
        | true =>
          simp only [if_true, idx_at hi, Option.bind_some, ref03_Less_eq]
          exact hk8 _ (fun h => ⟨hok, h⟩) (fun h _ => h)
      cases hp : (putV a (bareV l_0[i])).2 with
      | false => simp only [Bool.false_eq_true, if_false]; exact hk7
      | true =>
        simp only [if_true]
        have : okStamp l_0[i] = true := by
          unfold putV at hp
          rw [bareV_ok] at hp
          cases hok : okStamp l_0[i] with
          | true => rfl
          | false => rw [hok] at hp; simp at hp
        rw [this]
        rw [this] at hk7
        exact hk7
    · rw [if_neg (by simpa using c)]
      have hin : i = n := by omega
      subst hin
      have hab : a = b := sorted_ext hA.1 hB.1 fun v => by
        rw [hA.2 v, hB.2 v]
        constructor
        · rintro ⟨s, ⟨j, hj, hji, e⟩, h⟩; exact ⟨s, ⟨j, hj, by omega, by omega, e⟩, h⟩
        · rintro ⟨s, ⟨j, hj, hji, _, e⟩, h⟩; exact ⟨s, ⟨j, hj, by omega, e⟩, h⟩
      subst hab
      obtain ⟨hd1, hd2⟩ := BI_head hA hT
      have hbare : ∀ v, v ∈ a → ∃ s, okStamp s = true ∧ v = bareV s := fun v hv => let ⟨s, _, h1, h2⟩ := (hA.2 v).1 hv; ⟨s, h1, h2⟩
      unfold law12_ChainOrder_k2
      rw [chain_Head_eq (by simp only; omega)]
      simp only [Option.bind_some, if_true]
      rw [ref12_Same_eq (by omega) (fun v hv => by obtain ⟨s, _, rfl⟩ := hbare v hv; simp)]
      simp only [Option.bind_some, decide_true]
      unfold law12_ChainOrder_k3
      simp only [if_true]
      rw [chain_Check_eq (by omega) (fun v hv => by obtain ⟨s, _, rfl⟩ := hbare v hv; exact bareV_small s), checkV_true (key := ByteArray.mk #[97]) (fun v hv => by obtain ⟨s, h, rfl⟩ := hbare v hv; exact ⟨by rw [bareV_ok]; exact h, rfl⟩) hA.1]
      simp only [Option.bind_some]
      unfold law12_ChainOrder_k4 law12_ChainOrder_k5
      simp [hd1, hd2]
  unfold law12_ChainOrder
  rw [law12_awake_eq]
  simp only [Option.bind_some]
  by_cases c : 10 < l_0.length
  · rw [if_pos (decide_eq_true (show (10 : Int) < (l_0.length : Int) by omega))]
    exact main 10 (by omega) (Nat.le_refl _)
  · rw [if_neg (by rw [decide_eq_true_eq]; omega)]
    exact main l_0.length (Nat.le_refl _) (by omega)
end Go.Ark
