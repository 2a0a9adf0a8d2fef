/- Plain laws: what chapter 12's laws make. Conditions: none but those that stand in each law. -/
import Derived.Test.YtjmleebbmomcgaaPchain
import Derived.Test.YtjmleebbmomcgaaFlaw12
namespace Go.Ark
open Go Go.Ab Go.RowKit

theorem law12_awake_eq : law12_awake = some true := by decide +kernel

def insV (v : Api_Version) : List Api_Version → List Api_Version
  | [] => [v]
  | x :: l => if lessP v.Stamp x.Stamp then v :: x :: l else x :: insV v l

theorem insV_mem {v x : Api_Version} : ∀ {l : List Api_Version}, x ∈ insV v l ↔ x = v ∨ x ∈ l
  | [] => by simp [insV]
  | y :: l => by
    rw [insV]
    split
    · simp
    · simp only [List.mem_cons, insV_mem (l := l)]
      constructor
      · rintro (h | h | h)
        · exact .inr (.inl h)
        · exact .inl h
        · exact .inr (.inr h)
      · rintro (h | h | h)
        · exact .inr (.inl h)
        · exact .inl h
        · exact .inr (.inr h)

theorem insV_length (v : Api_Version) : ∀ l : List Api_Version, (insV v l).length = l.length + 1
  | [] => rfl
  | x :: l => by
    rw [insV]
    split
    · rfl
    · simp [insV_length v l]

theorem insV_sorted {v : Api_Version} : ∀ {l : List Api_Version}, sortedV l → (∀ x, x ∈ l → x.Stamp ≠ v.Stamp) → sortedV (insV v l)
  | [], _, _ => by simp [insV, sortedV]
  | x :: l, hs, hn => by
    obtain ⟨h1, h2⟩ := List.pairwise_cons.1 hs
    rw [insV]
    split
    · rename_i c
      refine List.pairwise_cons.2 ⟨fun y hy => ?_, hs⟩
      rcases List.mem_cons.1 hy with rfl | hy
      · exact c
      · exact lessP_trans c (h1 y hy)
    · rename_i c
      refine List.pairwise_cons.2 ⟨fun y hy => ?_, insV_sorted h2 fun y hy => hn y (by simp [hy])⟩
      rcases insV_mem.1 hy with rfl | hy
      · cases h3 : lessP x.Stamp y.Stamp with
        | true => rfl
        | false => exact absurd (lessP_tri h3 (by simpa using c)) (hn x (by simp))
      · exact h1 y hy

def sameK (l : List Api_Version) (k : ByteArray) : Bool := match l with
  | [] => true
  | x :: _ => decide (x.Key = k)
/-- one more: the chain and whether it is put -/
def putV (l : List Api_Version) (v : Api_Version) : List Api_Version × Bool :=
  if okVersion v && (sameK l v.Key && !l.any fun x => decide (x.Stamp = v.Stamp)) then (insV v l, true) else (l, false)

theorem ref12_Put_eq {l : List Api_Version} {v : Api_Version} (hv : smallV v) (hl : l.length ≤ 1099511627) : ref12_Put l v = some (putV l v) := by
  unfold ref12_Put putV
  rw [ref06_Check_eq hv]
  simp only [Option.bind_some]
  cases hok : okVersion v with
  | false => simp [ref12_Put_k1]
  | true =>
    simp only [Bool.not_true, Bool.false_eq_true, if_false, Bool.true_and]
    have hk1 : ref12_Put_k1 l v false = some (if (!l.any fun x => decide (x.Stamp = v.Stamp)) = true then (insV v l, true) else (l, false)) := by
      unfold ref12_Put_k1
      simp only [Bool.false_eq_true, if_false]
      refine loopF_inv (fun (q : Bool × Int × List Api_Version) => 0 ≤ q.2.1 ∧ q.2.1 ≤ (l.length : Int) ∧ (∀ j (hj : j < l.length), (j : Int) < q.2.1 → l[j].Stamp ≠ v.Stamp) ∧ q.2.2 ++ (if q.1 then l.drop q.2.1.toNat else insV v (l.drop q.2.1.toNat)) = insV v l ∧ q.2.2.length ≤ q.2.1.toNat + (if q.1 then 1 else 0))
        (fun q => ((l.length : Int) - q.2.1).toNat) (fun _ => some (if (!l.any fun x => decide (x.Stamp = v.Stamp)) = true then (insV v l, true) else (l, false))) ?_ FU (false, 0, []) ⟨Int.le_refl _, by simp, fun j _ h => by simp only at h; omega, by simp, by simp⟩ (by have := FU_big; simp only; omega)
      rintro again ⟨put, i', out⟩ ⟨h1, h2, h3, h4, h5⟩ hag
      simp only at h1 h2 h3 h4 h5
      obtain ⟨i, rfl⟩ : ∃ i : Nat, i' = i := ⟨i'.toNat, by omega⟩
      simp only [Int.toNat_natCast] at h4 h5
      have hput : (if put = true then 1 else 0) ≤ 1 := by cases put <;> simp
      unfold ref12_Put_l3
      simp only
      by_cases c : (i : Int) < (l.length : Int)
      · have hi : i < l.length := by omega
        rw [if_pos (by simpa using c), idx_at hi]
        simp only [Option.bind_some, stampEq]
        by_cases e : l[i].Stamp = v.Stamp
        · rw [if_pos (by simpa using e)]
          have : l.any (fun x => decide (x.Stamp = v.Stamp)) = true := List.any_eq_true.2 ⟨l[i], List.getElem_mem hi, by simpa using e⟩
          rw [this]
          simp
        · rw [if_neg (by simpa using e)]
          have hne : ∀ j (hj : j < l.length), (j : Int) < (i : Int) + 1 → l[j].Stamp ≠ v.Stamp := fun j hj hji => by
            by_cases hq : j = i
            · subst hq; exact e
            · exact h3 j hj (by omega)
          have hk5 : ∀ (p : Bool) (o : List Api_Version), o ++ l[i] :: (if p then l.drop (i + 1) else insV v (l.drop (i + 1))) = insV v l → o.length ≤ i + (if p then 1 else 0) →
              ref12_Put_k5 l again (put, (i : Int), out) (p, o) = some (if (!l.any fun x => decide (x.Stamp = v.Stamp)) = true then (insV v l, true) else (l, false)) := by
            intro p o ho hol
            have hp1 : (if p = true then 1 else 0) ≤ 1 := by cases p <;> simp
            unfold ref12_Put_k5
            simp only [idx_at hi, Option.bind_some]
            rw [app_ok (by simp; omega) (by simp; omega), wrap64 (by omega) (by omega)]
            simp only [Option.bind_some]
            refine hag _ ⟨by simp only; omega, by simp only; omega, hne, ?_, ?_⟩ (by simp only; omega)
            · simp only [show ((i : Int) + 1).toNat = i + 1 by omega]
              rw [List.append_assoc]
              exact ho
            · simp only [List.length_append, List.length_cons, List.length_nil, show ((i : Int) + 1).toNat = i + 1 by omega]
              omega
          rw [List.drop_eq_getElem_cons hi] at h4
          unfold ref12_Put_k4
          cases put with
          | true =>
            simp only [Bool.not_true, Bool.false_eq_true, if_false, if_true] at h4 h5 ⊢
            exact hk5 true out (by simpa using h4) (by simpa using h5)
          | false =>
            simp only [Bool.not_false, if_true, Option.bind_some, ref03_Less_eq, Bool.false_eq_true, if_false] at h4 h5 ⊢
            rw [insV] at h4
            cases hl : lessP v.Stamp l[i].Stamp with
            | true =>
              rw [if_pos hl] at h4
              simp only [if_true]
              rw [app_ok (by simp; omega) (by simp; omega)]
              simp only [Option.bind_some]
              exact hk5 true (out ++ [v]) (by simpa using h4) (by simp; omega)
            | false =>
              rw [if_neg (by simp [hl])] at h4
              simp only [Bool.false_eq_true, if_false]
              exact hk5 false out (by simpa using h4) (by simpa using h5)
      · rw [if_neg (by simpa using c)]
        have : i = l.length := by omega
        subst this
        have hany : l.any (fun x => decide (x.Stamp = v.Stamp)) = false := List.any_eq_false.2 fun x hx => by
          obtain ⟨j, hj, rfl⟩ := List.getElem_of_mem hx
          simpa using h3 j hj (by omega)
        rw [hany]
        rw [List.drop_length] at h4
        unfold ref12_Put_k2
        simp only
        cases put with
        | true => simpa using h4
        | false =>
          simp only [Bool.not_false, if_true] at h5 ⊢
          simp only [Bool.false_eq_true, if_false, insV, Nat.add_zero] at h4 h5
          rw [app_ok (by simp; omega) (by simp; omega)]
          simp [h4]
    cases l with
    | nil =>
      simp only [List.length_nil, Int.natCast_zero, Int.lt_irrefl, decide_false, Bool.false_eq_true, if_false, sameK, Bool.true_and]
      exact hk1
    | cons x l =>
      rw [if_pos (by simp), show idx (x :: l) 0 = some x by simp [idx]]
      simp only [Option.bind_some, seq_eq]
      by_cases hk : x.Key = v.Key
      · simp only [sameK, hk, decide_true, Bool.not_true, Bool.true_and]
        exact hk1
      · simp [sameK, hk, ref12_Put_k1]

/-- what is known of a chain that was made -/
def CI (l : List Api_Version) : Prop := sortedV l ∧ ∀ v, v ∈ l → v.Key = ByteArray.mk #[97] ∧ v.Past = [] ∧ okVersion v = true

theorem CI_put {l : List Api_Version} (h : CI l) {v : Api_Version} (hk : v.Key = ByteArray.mk #[97]) (hp : v.Past = []) : CI (putV l v).1 := by
  unfold putV
  split
  · rename_i c
    simp only [Bool.and_eq_true, Bool.not_eq_true', List.any_eq_false, decide_eq_true_eq] at c
    refine ⟨insV_sorted h.1 fun x hx => c.2.2 x hx, fun x hx => ?_⟩
    rcases insV_mem.1 hx with rfl | hx
    · exact ⟨hk, hp, c.1⟩
    · exact h.2 x hx
  · exact h
theorem putV_length (l : List Api_Version) (v : Api_Version) : (putV l v).1.length ≤ l.length + 1 := by
  unfold putV
  split
  · rw [insV_length]; exact Nat.le_refl _
  · simp

theorem CI_small {l : List Api_Version} (h : CI l) : ∀ v, v ∈ l → smallV v := fun v hv => by
  obtain ⟨h1, h2, _⟩ := h.2 v hv
  exact ⟨by rw [h1]; decide, by rw [h2]; simp, by rw [h2]; simp⟩

theorem law12_made_tot (l : List Api_Stamp) : ∃ c, law12_made l = some c ∧ CI c ∧ c.length ≤ 16 := by
  unfold law12_made
  refine loopF_tot (fun (v : List Api_Version × Int) => 0 ≤ v.2 ∧ v.2 ≤ 16 ∧ CI v.1 ∧ (v.1.length : Int) ≤ v.2) (fun v => (16 - v.2).toNat) (fun c => CI c ∧ c.length ≤ 16) ?_ FU ([], 0) ⟨Int.le_refl _, by simp, ⟨List.Pairwise.nil, fun v h => by simp at h⟩, by simp⟩ (by have := FU_big; simp only; omega)
  rintro again ⟨c, i⟩ ⟨h1, h2, h3, h4⟩ hag
  simp only at h1 h2 h3 h4
  unfold law12_made_l2 law12_made_k3 law12_made_k1
  simp only
  have hend : ∃ r, some c = some r ∧ CI r ∧ r.length ≤ 16 := ⟨c, rfl, h3, by omega⟩
  by_cases c1 : i < (l.length : Int)
  · rw [if_pos (by simpa using c1)]
    by_cases c2 : i < 16
    · rw [if_pos (by simpa using c2), idx_int h1 c1]
      simp only [Option.bind_some]
      generalize l[i.toNat]'(by omega) = s
      rw [ref12_Put_eq ⟨(by simp only; decide), by simp, by simp⟩ (by omega), wrap64 (n := i + 1) (by omega) (by omega)]
      simp only [Option.bind_some]
      refine hag _ ⟨by simp only; omega, by simp only; omega, CI_put h3 rfl rfl, ?_⟩ (by simp only; omega)
      have := putV_length c ⟨ByteArray.mk #[97], bytesOf [IntKind.wrap .u8 (IntKind.wrap .i64 (97 + i))], false, s, []⟩
      simp only
      omega
    · rw [if_neg (by simpa using c2)]; exact hend
  · rw [if_neg (by simpa using c1), if_neg (by simp)]; exact hend
end Go.Ark
