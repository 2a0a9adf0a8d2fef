/- Plain laws: the document's reading of numbers, texts, stamps and pasts is the program's. Conditions: none but those that stand in each law. -/
import Derived.Test.YtjidbmelmcmmhabPbytes
namespace Go.Ark
open Go Go.Ab Go.RowKit

/-- the bytes of a number, one by one -/
inductive Digs : Nat → List UInt8 → Prop
  | last (q : Nat) (h : q < 128) : Digs q [UInt8.ofNat q]
  | more (q : Nat) (l : List UInt8) (h : 128 ≤ q) (t : Digs (q / 128) l) : Digs q (UInt8.ofNat (128 + q % 128) :: l)
theorem Digs.numLf {q : Nat} {l : List UInt8} (h : Digs q l) : ∀ {f : Nat}, l.length ≤ f + 1 → numLf f q = l := by
  induction h with
  | last q h =>
    intro f _
    cases f with
    | zero => rfl
    | succ f => rw [Go.Ark.numLf, if_pos h]
  | more q l h t ih =>
    intro f hf
    cases f with
    | zero =>
      cases t <;> simp at hf
    | succ f => rw [Go.Ark.numLf, if_neg (by omega), ih (by simpa using hf)]
theorem rdN_le10 : ∀ {l : List UInt8} {j n m k : Nat}, rdN l j n = some (m, k) → k ≤ 10
  | [], _, _, _, _, h => (by cases h)
  | c :: l, j, n, m, k, h => by
    rw [rdN] at h
    split at h
    · split at h
      · cases h; omega
      · exact rdN_le10 h
    · cases h
theorem rdN_digs : ∀ {l : List UInt8} {j n m k : Nat}, rdN l j n = some (m, k) → ∃ q, m = n + q * 2 ^ (7 * j) ∧ (0 < j → q ≠ 0) ∧ Digs q (l.take (k - j))
  | [], _, _, _, _, h => (by cases h)
  | c :: l, j, n, m, k, h => by
    have hc := c.toNat_lt
    rw [rdN] at h
    split at h
    · rename_i c1
      split at h
      · rename_i c2
        cases h
        rw [Nat.mod_eq_of_lt c2]
        refine ⟨c.toNat, rfl, fun hj e => c1.2.2 ⟨e, hj⟩, ?_⟩
        have h2 := Digs.last c.toNat c2
        rw [show j + 1 - j = 1 by omega]
        simpa using h2
      · rename_i c2
        obtain ⟨q, h1, h2, h3⟩ := rdN_digs h
        have hlen := rdN_len h
        have hq := h2 (by omega)
        have hp : 2 ^ (7 * (j + 1)) = 128 * 2 ^ (7 * j) := by rw [show 7 * (j + 1) = 7 * j + 7 by omega, Nat.pow_add, Nat.mul_comm]
        refine ⟨128 * q + c.toNat % 128, ?_, fun _ => by omega, ?_⟩
        · rw [h1, hp, Nat.add_mul, ← Nat.mul_assoc, Nat.mul_comm q 128]; omega
        · have e : k - j = (k - (j + 1)) + 1 := by omega
          rw [e, List.take_succ_cons]
          have h4 := Digs.more (128 * q + c.toNat % 128) (l.take (k - (j + 1))) (by omega) (by rw [show (128 * q + c.toNat % 128) / 128 = q by omega]; exact h3)
          rw [show 128 + (128 * q + c.toNat % 128) % 128 = c.toNat by omega] at h4
          simpa using h4
    · cases h
/-- what is read was written so -/
theorem rdN_sound {l : List UInt8} {m k : Nat} (h : rdN l 0 0 = some (m, k)) : l.take k = numL m ∧ k = (numL m).length := by
  obtain ⟨q, h1, -, h3⟩ := rdN_digs h
  have hk := rdN_len h
  have h10 := rdN_le10 h
  have : m = q := by rw [h1]; simp
  subst this
  have h4 := h3.numLf (f := 10) (by simp only [Nat.sub_zero, List.length_take]; omega)
  have h5 : l.take k = numL m := by rw [Nat.sub_zero] at h4; exact h4.symm
  refine ⟨h5, ?_⟩
  rw [← h5, List.length_take]; omega

/-- the first bytes up to one below 128, as the document sums them up -/
def term : Nat → List UInt8 → Nat → Nat → Nat → Option (Nat × Nat)
  | 0, _, _, _, _ => none
  | _, [], _, _, _ => none
  | f + 1, c :: l, n, b, j => if c.toNat < 128 then some ((n + c.toNat % 128 * b % 18446744073709551616) % 18446744073709551616, j + 1) else term f l ((n + c.toNat % 128 * b % 18446744073709551616) % 18446744073709551616) (b * 128 % 18446744073709551616) (j + 1)
theorem term_digs {q : Nat} {l : List UInt8} (h : Digs q l) : ∀ {f n b j : Nat} {r : List UInt8}, l.length ≤ f → term f (l ++ r) n b j = some ((n + q * b) % 18446744073709551616, j + l.length) := by
  induction h with
  | last q h =>
    intro f n b j r hf
    obtain ⟨f, rfl⟩ : ∃ f', f = f' + 1 := ⟨f - 1, by simp at hf; omega⟩
    rw [List.cons_append, term, ofNat_toNat (by omega), if_pos h, Nat.mod_eq_of_lt h]
    simp only [List.length_cons, List.length_nil, Option.some.injEq, Prod.mk.injEq, and_true]
    rw [Nat.add_mod_mod]
  | more q l h t ih =>
    intro f n b j r hf
    obtain ⟨f, rfl⟩ : ∃ f', f = f' + 1 := ⟨f - 1, by simp at hf; omega⟩
    rw [List.cons_append, term, ofNat_toNat (by omega), if_neg (by omega), ih (by simpa using hf), show (128 + q % 128) % 128 = q % 128 by omega]
    simp only [List.length_cons, Option.some.injEq, Prod.mk.injEq]
    refine ⟨?_, by omega⟩
    have hq : q * b = q % 128 * b + q / 128 * (b * 128) := by
      rw [Nat.mul_comm b 128, ← Nat.mul_assoc, ← Nat.add_mul]
      congr 1
      omega
    have e1 : q / 128 * (b * 128 % 18446744073709551616) % 18446744073709551616 = q / 128 * (b * 128) % 18446744073709551616 := Nat.mul_mod_mod _ _ _
    rw [hq]
    generalize q / 128 * (b * 128 % 18446744073709551616) = x1 at e1
    generalize q / 128 * (b * 128) = x2 at e1
    generalize q % 128 * b = x3
    omega
theorem term_lt : ∀ {f : Nat} {l : List UInt8} {n b j m k : Nat}, term f l n b j = some (m, k) → m < 18446744073709551616 ∧ j < k ∧ k ≤ j + l.length
  | 0, _, _, _, _, _, _, h => (by cases h)
  | _ + 1, [], _, _, _, _, _, h => (by cases h)
  | f + 1, c :: l, n, b, j, m, k, h => by
    rw [term] at h
    split at h
    · cases h; exact ⟨Nat.mod_lt _ (by decide), by simp⟩
    · have := term_lt h
      simp only [List.length_cons]; omega

def resG (at_ : Nat) : Option (Nat × Nat) → Ref01_Got
  | some (n, k) => ⟨(n : Int), ((at_ + k : Nat) : Int)⟩
  | none => ⟨0, 0⟩
theorem resG_some (a n k : Nat) : resG a (some (n, k)) = ⟨(n : Int), ((a + k : Nat) : Int)⟩ := rfl
/-- what the document's loop comes to -/
def endG (at_ : Nat) (l : List UInt8) : Option (Nat × Nat) → Ref01_Got
  | some (n, k) => if numL n = l.take k then ⟨(n : Int), ((at_ + k : Nat) : Int)⟩ else ⟨0, 0⟩
  | none => ⟨0, 0⟩
theorem endG_rdN (at_ : Nat) (l : List UInt8) : endG at_ l (term 10 l 0 1 0) = resG at_ (rdN l 0 0) := by
  cases h : rdN l 0 0 with
  | some x =>
    obtain ⟨m, k⟩ := x
    obtain ⟨q, h1, -, h3⟩ := rdN_digs h
    obtain ⟨h4, h5⟩ := rdN_sound h
    have hk := rdN_len h
    have h10 := rdN_le10 h
    have h6 := rdN_lt (by decide) h
    rw [Nat.sub_zero] at h3
    have : m = q := by rw [h1]; simp
    subst this
    have ht := term_digs h3 (f := 10) (n := 0) (b := 1) (j := 0) (r := l.drop k) (by rw [List.length_take]; omega)
    rw [List.take_append_drop, List.length_take, show min k l.length = k by omega, Nat.zero_add, Nat.zero_add, Nat.mul_one, Nat.mod_eq_of_lt h6] at ht
    rw [ht]
    simp only [endG, resG]
    rw [if_pos h4.symm]
  | none =>
    cases ht : term 10 l 0 1 0 with
    | none => rfl
    | some y =>
      obtain ⟨n, k⟩ := y
      have h1 := term_lt ht
      simp only [endG, resG]
      rw [if_neg fun e => ?_]
      have h2 := rdN_numL h1.1 (l.drop k)
      rw [e, List.take_append_drop, h] at h2
      cases h2

theorem u64mod (n : Nat) : IntKind.wrap .u64 (n : Int) = ((n % 18446744073709551616 : Nat) : Int) := by
  simp only [IntKind.wrap, IntKind.signed, IntKind.bits]
  simp
theorem ref01_Read_eq (s : ByteArray) (at_ : Nat) (hs : s.size ≤ 1000000000000) (ha : at_ ≤ 9223372036854775807) : ref01_Read s (at_ : Int) = some (resG at_ (rdN ((bl s).drop at_) 0 0)) := by
  rw [← endG_rdN]
  unfold ref01_Read
  rw [if_neg (by simp)]
  by_cases c0 : at_ ≤ s.size
  · refine (loopF_inv (fun (v : Int × Int × Int) => ∃ j n b : Nat, v = ((n : Int), (b : Int), ((at_ + j : Nat) : Int)) ∧ at_ + j ≤ s.size ∧ j ≤ 10) (fun v => ((s.size : Int) - v.2.2).toNat) (fun v => some (endG at_ ((bl s).drop at_) (term (10 - (v.2.2.toNat - at_)) ((bl s).drop v.2.2.toNat) v.1.toNat v.2.1.toNat (v.2.2.toNat - at_)))) ?_ FU (0, 1, (at_ : Int)) ⟨0, 0, 1, by simp, by omega, by omega⟩ (by have := FU_big; simp only; omega)).trans (by simp)
    rintro again v ⟨j, n, b, rfl, h1, h2⟩ hag
    simp only [Int.toNat_natCast, Nat.add_sub_cancel_left]
    unfold ref01_Read_l2
    simp only
    rw [wrap64 (n := (at_ : Int) + 10) (by omega) (by omega)]
    have hend : ∀ f, ((bl s).drop (at_ + j) = [] ∨ f = 0) → some (endG at_ ((bl s).drop at_) (term f ((bl s).drop (at_ + j)) n b j)) = ref01_Read_k1 () := fun f hf => by
      have : term f ((bl s).drop (at_ + j)) n b j = none := by
        rcases hf with hf | rfl
        · rw [hf]; cases f <;> rfl
        · rfl
      rw [this]; rfl
    by_cases c1 : at_ + j < s.size
    · rw [if_pos (by rw [decide_eq_true_eq]; omega)]
      unfold ref01_Read_k3
      by_cases c2 : j < 10
      · rw [decide_eq_true (show ((at_ + j : Nat) : Int) < (at_ : Int) + 10 by omega), if_pos rfl]
        simp only
        rw [sidx_at c1]
        have hget : (bl s).drop (at_ + j) = s[at_ + j] :: (bl s).drop (at_ + j + 1) := by
          rw [List.drop_eq_getElem_cons (by rw [bl_len]; exact c1)]; rfl
        rw [hget]
        obtain ⟨f, hf⟩ : ∃ f, 10 - j = f + 1 := ⟨10 - j - 1, by omega⟩
        rw [hf, term]
        simp only [Option.bind_some]
        generalize s[at_ + j] = c
        have hc := c.toNat_lt
        rw [wrapu64 (n := (c.toNat : Int)) (by omega) (by omega)]
        have e1 : Int.tmod (c.toNat : Int) 128 = ((c.toNat % 128 : Nat) : Int) := by
          rw [Int.tmod_eq_emod_of_nonneg (by omega)]; simp
        have e2 : IntKind.wrap .u64 ((n : Int) + (IntKind.wrap .u64 ((Int.tmod (c.toNat : Int) 128) * (b : Int)))) = (((n + c.toNat % 128 * b % 18446744073709551616) % 18446744073709551616 : Nat) : Int) := by
          rw [e1, show ((c.toNat % 128 : Nat) : Int) * (b : Int) = ((c.toNat % 128 * b : Nat) : Int) by simp, u64mod, show (n : Int) + ((c.toNat % 128 * b % 18446744073709551616 : Nat) : Int) = ((n + c.toNat % 128 * b % 18446744073709551616 : Nat) : Int) by simp, u64mod]
        rw [e2]
        have hN : (n + c.toNat % 128 * b % 18446744073709551616) % 18446744073709551616 < 18446744073709551616 := Nat.mod_lt _ (by decide)
        generalize (n + c.toNat % 128 * b % 18446744073709551616) % 18446744073709551616 = N at hN
        rw [wrap64 (n := ((at_ + j : Nat) : Int) + 1) (by omega) (by omega)]
        by_cases c3 : c.toNat < 128
        · rw [if_pos (by rw [decide_eq_true_eq]; omega), if_pos c3, ref01_Number_eq hN]
          have hsub : ssub s (at_ : Int) (((at_ + j : Nat) : Int) + 1) = some (ofL (((bl s).drop at_).take (j + 1))) := by
            unfold ssub
            rw [if_pos ⟨by omega, by omega, by omega⟩]
            refine congrArg some (bl_inj ?_)
            rw [bl_extract, bl_ofL, Int.toNat_natCast, show (((at_ + j : Nat) : Int) + 1).toNat = at_ + (j + 1) by omega, List.drop_take]
            congr 1
            omega
          rw [hsub]
          simp only [Option.bind_some, seq_eq, endG, numP]
          by_cases c4 : numL N = ((bl s).drop at_).take (j + 1)
          · rw [if_pos c4, c4, if_neg (by simp)]
            congr 2
          · rw [if_neg c4, if_pos (by
              simp only [Bool.not_eq_true', decide_eq_false_iff_not]
              exact fun e => c4 (by rw [← bl_ofL (numL N), e, bl_ofL]))]
        · rw [if_neg (by rw [decide_eq_true_eq]; omega), if_neg c3]
          have e3 : IntKind.wrap .u64 ((b : Int) * 128) = ((b * 128 % 18446744073709551616 : Nat) : Int) := by
            rw [show (b : Int) * 128 = ((b * 128 : Nat) : Int) by simp, u64mod]
          rw [e3, hag ((N : Int), ((b * 128 % 18446744073709551616 : Nat) : Int), ((at_ + j : Nat) : Int) + 1) ⟨j + 1, N, b * 128 % 18446744073709551616, by simp only [Prod.mk.injEq, true_and]; omega, by omega, by omega⟩ (by simp only; omega)]
          have e4 : (((at_ + j : Nat) : Int) + 1).toNat = at_ + j + 1 := by omega
          simp only [e4, Int.toNat_natCast]
          rw [show at_ + j + 1 - at_ = j + 1 by omega, show 10 - (j + 1) = f by omega]
      · rw [decide_eq_false (show ¬ ((at_ + j : Nat) : Int) < (at_ : Int) + 10 by omega), if_neg (by simp)]
        exact (hend _ (.inr (by omega))).symm
    · rw [if_neg (by rw [decide_eq_true_eq]; omega)]
      unfold ref01_Read_k3
      rw [if_neg (by simp)]
      exact (hend _ (.inl (List.drop_of_length_le (by rw [bl_len]; omega)))).symm
  · rw [List.drop_of_length_le (by rw [bl_len]; omega)]
    obtain ⟨f, hf⟩ : ∃ f, FU = f + 1 := ⟨FU - 1, by have := FU_big; omega⟩
    rw [hf, loopF]
    unfold ref01_Read_l2 ref01_Read_k3
    simp only
    rw [if_neg (by rw [decide_eq_true_eq]; omega), if_neg (by simp)]
    rfl
def resTG (at_ : Nat) : Option (List UInt8 × Nat) → Ref01_GotText
  | some (t, k) => ⟨ofL t, ((at_ + k : Nat) : Int)⟩
  | none => ⟨ByteArray.empty, 0⟩
theorem resTG_some (a k : Nat) (t : List UInt8) : resTG a (some (t, k)) = ⟨ofL t, ((a + k : Nat) : Int)⟩ := rfl
theorem ref01_ReadText_eq (s : ByteArray) (at_ most : Nat) (hs : s.size ≤ 1000000000000) (ha : at_ ≤ 9223372036854775807) (hm : most ≤ 1000000) : ref01_ReadText s (at_ : Int) (most : Int) = some (resTG at_ (rdT most ((bl s).drop at_))) := by
  unfold ref01_ReadText
  rw [ref01_Read_eq s at_ hs ha]
  simp only [Option.bind_some]
  unfold rdT
  cases h : rdN ((bl s).drop at_) 0 0 with
  | none => rfl
  | some x =>
    obtain ⟨n, k⟩ := x
    have h1 := rdN_len h
    have h2 := rdN_lt (by decide) h
    have hll : ((bl s).drop at_).length = s.size - at_ := by rw [List.length_drop, bl_len]
    rw [hll] at h1 ⊢
    rw [resG_some]
    simp only
    rw [if_neg (fun e => absurd (of_decide_eq_true e) (by omega)), show decide ((most : Int) < 0) = false by simp]
    unfold ref01_ReadText_k2
    simp only [Bool.false_eq_true, if_false]
    rw [wrapu64 (n := (most : Int)) (by omega) (by omega)]
    unfold ref01_ReadText_k3
    by_cases c1 : n ≤ most
    · rw [if_neg (fun e => absurd (of_decide_eq_true e) (by omega)), wrap64 (n := (s.size : Int) - ((at_ + k : Nat) : Int)) (by omega) (by omega), wrapu64 (n := (s.size : Int) - ((at_ + k : Nat) : Int)) (by omega) (by omega)]
      unfold ref01_ReadText_k1
      by_cases c2 : n ≤ s.size - at_ - k
      · rw [if_neg (fun e => absurd (of_decide_eq_true e) (by simp only; omega)), if_pos ⟨c1, c2⟩]
        simp only
        rw [wrap64 (n := (n : Int)) (by omega) (by omega), wrap64 (n := ((at_ + k : Nat) : Int) + (n : Int)) (by omega) (by omega)]
        have hsub : ssub s ((at_ + k : Nat) : Int) (((at_ + k : Nat) : Int) + (n : Int)) = some (ofL ((((bl s).drop at_).drop k).take n)) := by
          unfold ssub
          rw [if_pos ⟨by omega, by omega, by omega⟩]
          refine congrArg some (bl_inj ?_)
          rw [bl_extract, bl_ofL, Int.toNat_natCast, show (((at_ + k : Nat) : Int) + (n : Int)).toNat = at_ + k + n by omega, List.drop_drop, List.drop_take]
          congr 1
          omega
        rw [hsub]
        simp only [Option.bind_some, resTG, Option.some.injEq, Ref01_GotText.mk.injEq, true_and]
        omega
      · rw [if_pos (decide_eq_true (by simp only; omega)), if_neg (fun d => c2 d.2)]
        rfl
    · rw [if_pos (decide_eq_true (by omega)), if_neg (fun d => c1 d.1)]
      rfl

end Go.Ark
