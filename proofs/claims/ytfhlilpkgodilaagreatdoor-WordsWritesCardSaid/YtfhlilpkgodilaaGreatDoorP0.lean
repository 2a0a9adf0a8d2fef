import Derived.Test.YtfhlilpkgodilaaGreatDoorFA
import Derived.Laws.StructEq
import Derived.OpenShut
/- Plain laws, no program in sight: numbers, texts, lists by numbers, loops by rounds. Conditions: none but those that stand in each law. -/
namespace Go.Ark
open Go Go.Ab Go.RowKit

theorem wrap64 {n : Int} (h1 : -9223372036854775808 ≤ n) (h2 : n ≤ 9223372036854775807) : IntKind.wrap .i64 n = n := by
  simp only [IntKind.wrap, IntKind.signed, IntKind.bits]
  simp
  split <;> omega

theorem loopF_inv {T R : Type} {body : (T → Option R) → T → Option R} (I : T → Prop) (μ : T → Nat) (spec : T → Option R)
    (step : ∀ again v, I v → (∀ v', I v' → μ v' < μ v → again v' = spec v') → body again v = spec v) : ∀ n v, I v → μ v < n → loopF body n v = spec v
  | 0, v, _, h => by omega
  | n + 1, v, hI, h => by
    rw [loopF]
    exact step _ _ hI fun v' hI' hlt => loopF_inv I μ spec step n v' hI' (by omega)

theorem FU_big : 18446744073709551616 ≤ FU := by unfold FU; exact Nat.pow_le_pow_right (n := 2) (by decide) (show 64 ≤ 70 by decide)

/-! texts -/
theorem seq_eq (s t : ByteArray) : seq s t = decide (s = t) := by
  have h : seq s t = (s.data == t.data) := (beq_toListBytes s t).symm
  rw [h]
  by_cases h : s = t
  · subst h; simp
  · have : s.data ≠ t.data := fun c => h (by cases s; cases t; simp_all)
    simp [h, this]

/-! lists by numbers -/
theorem idx_at {α : Type} {xs : List α} {i : Nat} (h : i < xs.length) : idx xs (i : Int) = some xs[i] := by simp [idx, h]
theorem app_ok {α : Type} {n : Nat} {xs ys : List α} (h : xs.length + ys.length ≤ 1099511627776) (h2 : (xs.length + ys.length) * n ≤ 140737488355328) : app n xs ys = some (xs ++ ys) := by
  simp only [app, List.length_append]
  rw [if_pos ⟨h, h2⟩]

theorem loopF_tot {T R : Type} {body : (T → Option R) → T → Option R} (I : T → Prop) (μ : T → Nat) (Q : R → Prop)
    (step : ∀ again v, I v → (∀ v', I v' → μ v' < μ v → ∃ r, again v' = some r ∧ Q r) → ∃ r, body again v = some r ∧ Q r) : ∀ n v, I v → μ v < n → ∃ r, loopF body n v = some r ∧ Q r
  | 0, v, _, h => by omega
  | n + 1, v, hI, h => by
    rw [loopF]
    exact step _ _ hI fun v' hI' hlt => loopF_tot I μ Q step n v' hI' (by omega)

theorem sidx_at {s : ByteArray} {i : Nat} (h : i < s.size) : sidx s (i : Int) = some s[i] := by
  simp only [sidx, Int.natCast_nonneg, if_true, Int.toNat_natCast]
  exact getElem?_pos s i h

/-- a loop over the places of a list: G says what comes of the elements that are left -/
theorem loopL {α S T R : Type} {body : (T → Option R) → T → Option R} (l : List α) (pk : S → Int → T) (G : List α → S → Option R) (I : Nat → S → Prop)
    (hnil : ∀ again s, I l.length s → body again (pk s (l.length : Int)) = G [] s)
    (hcons : ∀ again i s (h : i < l.length), I i s → (∀ s', I (i + 1) s' → again (pk s' ((i : Int) + 1)) = G (l.drop (i + 1)) s') → body again (pk s (i : Int)) = G (l[i] :: l.drop (i + 1)) s)
    {s0 : S} (h0 : I 0 s0) (hl : l.length ≤ 9223372036854775807) : loopF body FU (pk s0 0) = G l s0 := by
  have key : ∀ n i s, I i s → i ≤ l.length → l.length - i < n → loopF body n (pk s (i : Int)) = G (l.drop i) s := by
    intro n
    induction n with
    | zero => intro i s _ _ h; omega
    | succ n ih =>
      intro i s hI hi hn
      rw [loopF]
      rcases Nat.lt_or_ge i l.length with h | h
      · rw [List.drop_eq_getElem_cons h]
        exact hcons _ i s h hI fun s' hI' => by
          have := ih (i + 1) s' hI' h (by omega)
          rw [show ((i : Int) + 1) = ((i + 1 : Nat) : Int) by omega]
          exact this
      · obtain rfl : i = l.length := by omega
        rw [List.drop_length]
        exact hnil _ s hI
  have := key FU 0 s0 h0 (Nat.zero_le _) (by have := FU_big; omega)
  simpa using this

end Go.Ark
