/- Plain laws: the program's and the document's reading of rows are that of the parts. Conditions: none but those that stand in each law. -/
import Derived.Test.YtjidbmelmcmmhabPrrow
namespace Go.Ark
open Go Go.Ab Go.RowKit

def noRow : Api_Row := ⟨[], [], []⟩
section
variable (F : Api_Row → Nat → Api_Row × Bool) (L : List UInt8)
def tPar (rs : List Api_Range) (os : List Int) (m at_ : Nat) : Api_Row × Bool := match rdMany 6 m (L.drop at_) with
  | some (ps, k) => F ⟨rs, os, ps.map fun (p : Nat) => (p : Int) - 1⟩ (at_ + k)
  | none => (noRow, false)
def tM (rs : List Api_Range) (os : List Int) (at_ : Nat) : Api_Row × Bool := match rdK 6 (L.drop at_) with
  | some (m, k) => tPar F L rs os m (at_ + k)
  | none => (noRow, false)
def tOwn (rs : List Api_Range) (n at_ : Nat) : Api_Row × Bool := match rdMany 63 n (L.drop at_) with
  | some (os, k) => tM F L rs (os.map Int.ofNat) (at_ + k)
  | none => (noRow, false)
def tEnds (rs : List Api_Range) (from_ : ByteArray) (m n at_ : Nat) : Api_Row × Bool := match rdEnds m (L.drop at_) with
  | some (es, k) => tOwn F L (rs ++ mkG from_ es) n (at_ + k)
  | none => (noRow, false)
def runF : Option (Api_Row × Nat) → Api_Row × Bool
  | some (c, k) => F c k
  | none => (noRow, false)
theorem runF_some (c : Api_Row) (k : Nat) : runF F (some (c, k)) = F c k := rfl
def tAll : Api_Row × Bool := match rdK 8 L with
  | some (n, k) => if n = 0 then (noRow, false) else tEnds F L [] ByteArray.empty (n - 1) n k
  | none => (noRow, false)
theorem tAll_eq : tAll F L = runF F (rdRow L) := by
  unfold tAll rdRow runF
  cases h1 : rdK 8 L with
  | none => unfold seqR; rw [h1]
  | some z =>
    obtain ⟨n, k⟩ := z
    unfold seqR
    rw [h1]
    simp only
    by_cases hn : n = 0
    · rw [if_pos hn, if_pos hn]
    · rw [if_neg hn, if_neg hn]
      unfold tEnds
      cases h2 : rdEnds (n - 1) (L.drop k) with
      | none => rfl
      | some z =>
        obtain ⟨es, k2⟩ := z
        simp only [List.nil_append]
        unfold tOwn
        rw [List.drop_drop]
        cases h3 : rdMany 63 n (L.drop (k + k2)) with
        | none => rfl
        | some z =>
          obtain ⟨os, k3⟩ := z
          simp only
          unfold tM
          rw [List.drop_drop]
          cases h4 : rdK 6 (L.drop (k + k2 + k3)) with
          | none => rfl
          | some z =>
            obtain ⟨m, k4⟩ := z
            simp only
            unfold tPar
            rw [List.drop_drop]
            cases h5 : rdMany 6 m (L.drop (k + k2 + k3 + k4)) with
            | none => rfl
            | some z =>
              obtain ⟨ps, k5⟩ := z
              simp only
              rw [show k + k2 + k3 + k4 + k5 = k + (k2 + (k3 + (k4 + (k5 + 0)))) by omega]
end
theorem rdMany_succ (most m : Nat) (l : List UInt8) : rdMany most (m + 1) l = match rdK most l with
    | some (x, k) => (match rdMany most m (l.drop k) with
      | some (xs, j) => some (x :: xs, k + j)
      | none => none)
    | none => none := by
  rw [rdMany]
  unfold seqR
  cases rdK most l with
  | none => rfl
  | some z =>
    obtain ⟨x, k⟩ := z
    simp only
    cases rdMany most m (l.drop k) with
    | none => rfl
    | some w => rfl
theorem rdEnds_succ (m : Nat) (l : List UInt8) : rdEnds (m + 1) l = match rdT 32 l with
    | some (t, k) => (match rdEnds m (l.drop k) with
      | some (es, j) => some (ofL t :: es, k + j)
      | none => none)
    | none => none := by
  rw [rdEnds]
  unfold seqR
  cases rdT 32 l with
  | none => rfl
  | some z =>
    obtain ⟨x, k⟩ := z
    simp only
    cases rdEnds m (l.drop k) with
    | none => rfl
    | some w => rfl

/-! ### the document -/
theorem ref01_cases (s : ByteArray) (at_ : Nat) (hs : s.size ≤ 1000000000000) (ha : at_ ≤ s.size) : (∃ n k, rdN ((bl s).drop at_) 0 0 = some (n, k) ∧ 1 ≤ k ∧ at_ + k ≤ s.size ∧ n < 18446744073709551616 ∧ ref01_Read s (at_ : Int) = some ⟨(n : Int), ((at_ + k : Nat) : Int)⟩) ∨ (rdN ((bl s).drop at_) 0 0 = none ∧ ref01_Read s (at_ : Int) = some ⟨0, 0⟩) := by
  have h := ref01_Read_eq s at_ hs (by omega)
  cases h1 : rdN ((bl s).drop at_) 0 0 with
  | none => rw [h1] at h; exact .inr ⟨rfl, h⟩
  | some z =>
    obtain ⟨n, k⟩ := z
    have hl := rdN_len h1
    rw [List.length_drop, bl_len] at hl
    rw [h1, resG_some] at h
    exact .inl ⟨n, k, rfl, by omega, by omega, rdN_lt (by decide) h1, h⟩
theorem rdK_none {most : Nat} {l : List UInt8} : rdK most l = none ↔ rdN l 0 0 = none ∨ ∃ n k, rdN l 0 0 = some (n, k) ∧ most < n := by
  unfold rdK
  cases h : rdN l 0 0 with
  | none => simp
  | some z =>
    obtain ⟨n, k⟩ := z
    simp only [Option.some.injEq, Prod.mk.injEq, reduceCtorEq, false_or]
    by_cases c : n ≤ most
    · rw [if_pos c]
      constructor
      · intro h; cases h
      · rintro ⟨n', k', ⟨rfl, rfl⟩, h⟩; omega
    · rw [if_neg c]
      exact ⟨fun _ => ⟨n, k, ⟨rfl, rfl⟩, by omega⟩, fun _ => rfl⟩
def finG (size : Nat) (c : Api_Row) (k : Nat) : Api_Row × Bool := (c, decide (k = size))
theorem ref06_ReadRow_eq {s : ByteArray} (hs : s.size ≤ 1000000000000) : ref06_ReadRow s = some (runF (finG s.size) (rdRow (bl s))) := by
  rw [← tAll_eq]
  generalize hR : tAll (finG s.size) (bl s) = R
  have hno : (⟨([] : List Api_Range), ([] : List Int), ([] : List Int)⟩ : Api_Row) = noRow := rfl
  -- parents
  have hpar : ∀ (rs : List Api_Range) (os : List Int) (a b : Int) (m at_ : Nat) (e : Int), m ≤ 6 → at_ ≤ s.size → R = tPar (finG s.size) (bl s) rs os m at_ → loopF (ref06_ReadRow_l6 s (a, rs) (b, os) ⟨(m : Int), e⟩) FU ((at_ : Int), 0, []) = some R := by
    intro rs os a b m at_ e hm hat hR
    refine loopF_inv (fun (v : Int × Int × List Int) => ∃ at2 i : Nat, v.1 = at2 ∧ v.2.1 = i ∧ i ≤ m ∧ at2 ≤ s.size ∧ v.2.2.length = i ∧ R = match rdMany 6 (m - i) ((bl s).drop at2) with
      | some (ps, k) => finG s.size ⟨rs, os, v.2.2 ++ ps.map fun (p : Nat) => (p : Int) - 1⟩ (at2 + k)
      | none => (noRow, false)) (fun v => ((m : Int) - v.2.1).toNat) (fun _ => some R) ?_ FU ((at_ : Int), 0, []) ⟨at_, 0, rfl, rfl, by omega, hat, rfl, hR⟩ (by have := FU_big; simp only; omega)
    rintro again ⟨v1, v2, acc⟩ ⟨at2, i, h1, h2, h3, h4, h5, h6⟩ hag
    simp only at h1 h2 h5 h6
    subst h1 h2
    unfold ref06_ReadRow_l6
    simp only
    by_cases c : (i : Int) < (m : Int)
    · rw [if_pos (by simpa using c)]
      obtain ⟨d, hd⟩ : ∃ d, m - i = d + 1 := ⟨m - i - 1, by omega⟩
      rw [hd, rdMany_succ] at h6
      rcases ref01_cases s at2 hs h4 with ⟨n, k, q1, q2, q3, q4, q5⟩ | ⟨q1, q5⟩
      · rw [q5, Option.bind_some]
        simp only
        rw [if_neg (by simp; omega)]
        unfold ref06_ReadRow_k7
        by_cases c6 : n ≤ 6
        · rw [if_neg (by simp; omega)]
          rw [rdK_some.2 ⟨q1, c6⟩] at h6
          simp only at h6 ⊢
          rw [wrap64 (n := (n : Int)) (by omega) (by omega), wrap64 (by omega) (by omega), app_ok (by simp; omega) (by simp; omega), Option.bind_some, wrapu64 (by omega) (by omega)]
          refine hag _ ⟨at2 + k, i + 1, rfl, rfl, by omega, by omega, by simp [h5], ?_⟩ (by simp only; omega)
          rw [h6, List.drop_drop, show m - (i + 1) = d by omega]
          simp only
          cases rdMany 6 d ((bl s).drop (at2 + k)) with
          | none => rfl
          | some z =>
            obtain ⟨ps, j⟩ := z
            simp only [List.map_cons, List.append_assoc, List.cons_append, List.nil_append, Nat.add_assoc]
        · rw [if_pos (by simp; omega)]
          rw [rdK_none.2 (.inr ⟨n, k, q1, by omega⟩)] at h6
          rw [h6]
          rfl
      · rw [q5, Option.bind_some]
        simp only
        rw [if_pos (by simp)]
        rw [rdK_none.2 (.inl q1)] at h6
        rw [h6]
        rfl
    · rw [if_neg (by simpa using c)]
      have : m - i = 0 := by omega
      rw [this] at h6
      simp only [rdMany, List.map_nil, List.append_nil, Nat.add_zero] at h6
      unfold ref06_ReadRow_k5
      rw [h6]
      unfold finG
      simp only
      congr 2
      exact decide_eq_decide.2 (by omega)
  have hM : ∀ (rs : List Api_Range) (os : List Int) (a : Int) (at_ : Nat), at_ ≤ s.size → R = tM (finG s.size) (bl s) rs os at_ → ref06_ReadRow_k3 s (a, rs) ((at_ : Int), os) = some R := by
    intro rs os a at_ hat hR
    unfold tM at hR
    unfold ref06_ReadRow_k3 ref06_ReadRow_k4
    simp only
    rcases ref01_cases s at_ hs hat with ⟨n, k, q1, q2, q3, q4, q5⟩ | ⟨q1, q5⟩
    · rw [q5, Option.bind_some]
      simp only
      rw [if_neg (by simp; omega)]
      by_cases c6 : n ≤ 6
      · rw [if_neg (by simp; omega)]
        rw [rdK_some.2 ⟨q1, c6⟩] at hR
        exact hpar rs os a _ n (at_ + k) _ c6 q3 hR
      · rw [if_pos (by simp; omega)]
        rw [rdK_none.2 (.inr ⟨n, k, q1, by omega⟩)] at hR
        rw [hR]
        rfl
    · rw [q5, Option.bind_some]
      simp only
      rw [if_pos (by simp), if_pos trivial]
      rw [rdK_none.2 (.inl q1)] at hR
      rw [hR]
      rfl
  -- owners
  have hown : ∀ (rs : List Api_Range) (n at_ : Nat) (e : Int), n ≤ 8 → at_ ≤ s.size → R = tOwn (finG s.size) (bl s) rs n at_ → ref06_ReadRow_k2 s ⟨(n : Int), e⟩ ((at_ : Int), rs) = some R := by
    intro rs n at_ e hn hat hR
    unfold ref06_ReadRow_k2
    refine loopF_inv (fun (v : Int × Int × List Int) => ∃ at2 i : Nat, v.1 = at2 ∧ v.2.1 = i ∧ i ≤ n ∧ at2 ≤ s.size ∧ v.2.2.length = i ∧ R = match rdMany 63 (n - i) ((bl s).drop at2) with
      | some (os, k) => tM (finG s.size) (bl s) rs (v.2.2 ++ os.map Int.ofNat) (at2 + k)
      | none => (noRow, false)) (fun v => ((n : Int) - v.2.1).toNat) (fun _ => some R) ?_ FU ((at_ : Int), 0, []) ⟨at_, 0, rfl, rfl, by omega, hat, rfl, hR⟩ (by have := FU_big; simp only; omega)
    rintro again ⟨v1, v2, acc⟩ ⟨at2, i, h1, h2, h3, h4, h5, h6⟩ hag
    simp only at h1 h2 h5 h6
    subst h1 h2
    unfold ref06_ReadRow_l8
    simp only
    by_cases c : (i : Int) < (n : Int)
    · rw [if_pos (by simpa using c)]
      obtain ⟨d, hd⟩ : ∃ d, n - i = d + 1 := ⟨n - i - 1, by omega⟩
      rw [hd, rdMany_succ] at h6
      unfold ref06_ReadRow_k9
      rcases ref01_cases s at2 hs h4 with ⟨x, k, q1, q2, q3, q4, q5⟩ | ⟨q1, q5⟩
      · rw [q5, Option.bind_some]
        simp only
        rw [if_neg (by simp; omega)]
        by_cases c6 : x ≤ 63
        · rw [if_neg (by simp; omega)]
          rw [rdK_some.2 ⟨q1, c6⟩] at h6
          simp only at h6 ⊢
          rw [wrap64 (by omega) (by omega), app_ok (by simp; omega) (by simp; omega), Option.bind_some, wrapu64 (by omega) (by omega)]
          refine hag _ ⟨at2 + k, i + 1, rfl, rfl, by omega, by omega, by simp [h5], ?_⟩ (by simp only; omega)
          rw [h6, List.drop_drop, show n - (i + 1) = d by omega]
          simp only
          cases rdMany 63 d ((bl s).drop (at2 + k)) with
          | none => rfl
          | some z =>
            obtain ⟨ps, j⟩ := z
            simp only [List.map_cons, List.append_assoc, List.cons_append, List.nil_append, Nat.add_assoc]
            rfl
        · rw [if_pos (by simp; omega)]
          rw [rdK_none.2 (.inr ⟨x, k, q1, by omega⟩)] at h6
          rw [h6]
          rfl
      · rw [q5, Option.bind_some]
        simp only
        rw [if_pos (by simp), if_pos trivial]
        rw [rdK_none.2 (.inl q1)] at h6
        rw [h6]
        rfl
    · rw [if_neg (by simpa using c)]
      have : n - i = 0 := by omega
      rw [this] at h6
      simp only [rdMany, List.map_nil, List.append_nil, Nat.add_zero] at h6
      exact hM rs acc _ at2 h4 h6
  -- ends
  have hends : ∀ (n at_ : Nat), 1 ≤ n → n ≤ 8 → at_ ≤ s.size → R = tEnds (finG s.size) (bl s) [] ByteArray.empty (n - 1) n at_ → loopF (ref06_ReadRow_l10 s ⟨(n : Int), (at_ : Int)⟩) FU ((at_ : Int), ByteArray.empty, 0, []) = some R := by
    intro n at_ hn1 hn8 hat hR
    refine loopF_inv (fun (v : Int × ByteArray × Int × List Api_Range) => ∃ at2 i : Nat, v.1 = at2 ∧ v.2.2.1 = i ∧ i ≤ n ∧ at2 ≤ s.size ∧ v.2.2.2.length = i ∧ R = if i < n then tEnds (finG s.size) (bl s) v.2.2.2 v.2.1 (n - 1 - i) n at2 else tOwn (finG s.size) (bl s) v.2.2.2 n at2) (fun v => ((n : Int) - v.2.2.1).toNat) (fun _ => some R) ?_ FU ((at_ : Int), ByteArray.empty, 0, []) ⟨at_, 0, rfl, rfl, by omega, hat, rfl, by rw [if_pos (by omega)]; exact hR⟩ (by have := FU_big; simp only; omega)
    rintro again ⟨v1, from_, v2, acc⟩ ⟨at2, i, h1, h2, h3, h4, h5, h6⟩ hag
    simp only at h1 h2 h5 h6
    subst h1 h2
    unfold ref06_ReadRow_l10 ref06_ReadRow_k11
    simp only
    by_cases c : (i : Int) < (n : Int)
    · rw [if_pos (by simpa using c), wrapu64 (by omega) (by omega)]
      rw [if_pos (by omega)] at h6
      unfold tEnds at h6
      by_cases c2 : (i : Int) + 1 < (n : Int)
      · rw [if_pos (by simpa using c2)]
        obtain ⟨d, hd⟩ : ∃ d, n - 1 - i = d + 1 := ⟨n - 1 - i - 1, by omega⟩
        rw [hd, rdEnds_succ] at h6
        have ht := ref01_ReadText_eq s at2 32 hs (by omega) (by omega)
        rw [show ((32 : Nat) : Int) = 32 from rfl] at ht
        rw [ht, Option.bind_some]
        cases h7 : rdT 32 ((bl s).drop at2) with
        | none =>
          rw [h7] at h6
          rw [h6]
          rfl
        | some z =>
          obtain ⟨t, k⟩ := z
          have hl := rdT_len h7
          rw [List.length_drop, bl_len] at hl
          rw [h7] at h6
          rw [resTG_some]
          simp only at h6 ⊢
          rw [if_neg (by simp; omega), app_ok (by simp; omega) (by simp; omega), Option.bind_some]
          refine hag _ ⟨at2 + k, i + 1, rfl, rfl, by omega, by omega, by simp [h5], ?_⟩ (by simp only; omega)
          rw [h6, if_pos (by omega), show n - 1 - (i + 1) = d by omega, List.drop_drop]
          unfold tEnds
          cases rdEnds d ((bl s).drop (at2 + k)) with
          | none => rfl
          | some w =>
            obtain ⟨es, j⟩ := w
            simp only [mkG, List.append_assoc, List.cons_append, List.nil_append, Nat.add_assoc]
      · rw [if_neg (by simpa using c2), app_ok (by simp; omega) (by simp; omega), Option.bind_some]
        refine hag _ ⟨at2, i + 1, rfl, rfl, by omega, h4, by simp [h5], ?_⟩ (by simp only; omega)
        have : n - 1 - i = 0 := by omega
        rw [this] at h6
        rw [if_neg (by omega), h6]
        simp only [rdEnds, mkG, Nat.add_zero]
    · rw [if_neg (by simpa using c)]
      rw [if_neg (by omega)] at h6
      exact hown acc n at2 _ hn8 h4 h6
  unfold ref06_ReadRow ref06_ReadRow_k12 ref06_ReadRow_k1
  have h0 := ref01_cases s 0 hs (by omega)
  rw [show ((0 : Nat) : Int) = 0 from rfl, List.drop_zero] at h0
  unfold tAll at hR
  rcases h0 with ⟨n, k, q1, q2, q3, q4, q5⟩ | ⟨q1, q5⟩
  · rw [q5, Option.bind_some]
    simp only
    rw [if_neg (by simp; omega)]
    by_cases c1 : n = 0
    · rw [if_pos (by simp; omega), if_pos trivial]
      rw [rdK_some.2 ⟨q1, by omega⟩] at hR
      simp only at hR
      rw [if_pos c1] at hR
      rw [← hR]
      rfl
    · rw [if_neg (by simp; omega)]
      by_cases c8 : n ≤ 8
      · rw [if_neg (by simp; omega)]
        rw [rdK_some.2 ⟨q1, c8⟩] at hR
        simp only at hR
        rw [if_neg c1] at hR
        have := hends n (0 + k) (by omega) c8 q3 (by rw [Nat.zero_add]; exact hR.symm)
        exact this
      · rw [if_pos (by simp; omega)]
        rw [rdK_none.2 (.inr ⟨n, k, q1, by omega⟩)] at hR
        rw [← hR]
        rfl
  · rw [q5, Option.bind_some]
    simp only
    rw [if_pos (by simp), if_pos trivial, if_pos trivial]
    rw [rdK_none.2 (.inl q1)] at hR
    rw [← hR]
    rfl
end Go.Ark
