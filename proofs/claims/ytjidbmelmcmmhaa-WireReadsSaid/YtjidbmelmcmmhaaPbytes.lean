/- Plain laws: stamps and pasts, as bytes and out of bytes. Conditions: none but those that stand in each law. -/
import Derived.Test.YtjidbmelmcmmhaaPvread
import Derived.Test.YtjidbmelmcmmhaaPpast3
namespace Go.Ark
open Go Go.Ab Go.RowKit

/-! a key that may be has 32 bytes at most -/
theorem runeW_le4 (s : ByteArray) (i : Nat) : runeW s i ≤ 4 := by
  unfold runeW
  repeat' split
  all_goals omega
theorem runesP_ge {s : ByteArray} : ∀ (m i : Nat) (n : Int), s.size - i ≤ m → 0 ≤ n → (runesP s n i = -1 ∨ (n ≤ runesP s n i ∧ ((s.size - i : Nat) : Int) ≤ 4 * (runesP s n i - n)))
  | 0, i, n, h, hn => by
    rw [runesP_end (by omega)]
    exact .inr ⟨Int.le_refl _, by omega⟩
  | m + 1, i, n, h, hn => by
    by_cases c : i < s.size
    · by_cases hw : runeW s i = 0
      · exact .inl (runesP_bad c hw)
      · rw [runesP_ok c hw]
        have h4 := runeW_le4 s i
        have h5 := runeW_le c
        have h8 := Nat.pos_of_ne_zero hw
        rcases runesP_ge (s := s) m (i + runeW s i) (n + 1) (by omega) (by omega) with h6 | ⟨h6, h7⟩
        · exact .inl h6
        · exact .inr ⟨by omega, by omega⟩
    · rw [runesP_end c]
      exact .inr ⟨Int.le_refl _, by omega⟩
theorem okKey_size {s : ByteArray} (h : okKey s = true) : s.size ≤ 32 := by
  unfold okKey at h
  simp only [Bool.and_eq_true, decide_eq_true_eq] at h
  rcases runesP_ge (s := s) s.size 0 0 (by omega) (Int.le_refl _) with h1 | ⟨_, h2⟩
  · omega
  · omega

/-! stamps -/
def stampL (s : Api_Stamp) : List UInt8 := numL s.N.toNat ++ numL s.Site.toNat
theorem stampL_len (s : Api_Stamp) : 2 ≤ (stampL s).length ∧ (stampL s).length ≤ 22 := by
  have h1 := numL_len s.N.toNat
  have h2 := numL_len s.Site.toNat
  simp only [stampL, List.length_append]
  omega
theorem okStamp_iff {s : Api_Stamp} : okStamp s = true ↔ 1 ≤ s.N ∧ s.N ≤ 1099511627776 ∧ 0 ≤ s.Site ∧ s.Site < 6 := by
  unfold okStamp
  simp only [Bool.and_eq_true, decide_eq_true_eq]
def stampB (s : Api_Stamp) : ByteArray := if okStamp s then ofL (stampL s) else ByteArray.empty
theorem stamp_Bytes_eq (s : Api_Stamp) : stamp_Bytes s = some (stampB s) := by
  unfold stamp_Bytes stampB
  rw [stamp_Check_eq]
  simp only [Option.bind_some]
  cases h : okStamp s with
  | false => rfl
  | true =>
    have h1 := okStamp_iff.1 h
    simp only [Bool.not_true, Bool.false_eq_true, if_false, if_true]
    rw [wrapu64 (by omega) (by omega), wrapu64 (by omega) (by omega), vary_Join_eq (fun x hx => by simp at hx; rcases hx with rfl | rfl <;> omega) (by simp) (by simp)]
    simp [joinL, stampL]
theorem ref03_Bytes_eq (s : Api_Stamp) : ref03_Bytes s = some (stampB s) := by
  unfold ref03_Bytes stampB
  rw [ref03_Check_eq]
  simp only [Option.bind_some]
  cases h : okStamp s with
  | false => rfl
  | true =>
    obtain ⟨h1, h2, h3, h4⟩ := okStamp_iff.1 h
    obtain ⟨a, ha⟩ : ∃ a : Nat, s.N = a := ⟨s.N.toNat, by omega⟩
    obtain ⟨b, hb⟩ : ∃ b : Nat, s.Site = b := ⟨s.Site.toNat, by omega⟩
    have l1 := (numL_len a).2
    have l2 := (numL_len b).2
    simp only [Bool.not_true, Bool.false_eq_true, if_false, if_true]
    rw [wrapu64 (by omega) (by omega), wrapu64 (by omega) (by omega), ha, hb, ref01_Number_eq (by omega), ref01_Number_eq (by omega)]
    simp only [Option.bind_some]
    unfold numP
    rw [scat_L (by rw [ofL_size, ofL_size]; omega), ofL_app]
    simp [stampL, ha, hb]

/-! pasts -/
def depL (d : Api_Dep) : List UInt8 := textL d.Key ++ stampL d.Stamp
def pastL (p : List Api_Dep) : List UInt8 := numL p.length ++ p.flatMap depL
def pastB (p : List Api_Dep) : ByteArray := if okPast p then ofL (pastL p) else ByteArray.empty
theorem okPast_iff {p : List Api_Dep} : okPast p = true ↔ (∀ d, d ∈ p → okDep d = true) ∧ sortedP p ∧ p.length ≤ 24 := by
  unfold okPast
  rw [Bool.and_eq_true, chainP_iff, decide_eq_true_eq]
  constructor
  · rintro ⟨⟨h1, h2, _⟩, h3⟩; exact ⟨h1, h2, h3⟩
  · rintro ⟨h1, h2, h3⟩; exact ⟨⟨h1, h2, fun _ e => by cases e⟩, h3⟩
theorem okDep_key {d : Api_Dep} (h : okDep d = true) : okKey d.Key = true := by
  unfold okDep at h
  simp only [Bool.and_eq_true] at h
  exact h.1
theorem depL_len {d : Api_Dep} (hk : d.Key.size ≤ 1000) : (depL d).length ≤ 1033 := by
  have h1 := textL_len d.Key
  have h2 := (stampL_len d.Stamp).2
  simp only [depL, List.length_append]
  omega

theorem past_Bytes_eq {p : List Api_Dep} (hl : p.length ≤ 100000) (hk : ∀ d, d ∈ p → d.Key.size ≤ 1000) : past_Bytes p = some (pastB p) := by
  unfold past_Bytes pastB
  rw [past_Check_eq (by omega) (fun d hd => by have := hk d hd; omega)]
  simp only [Option.bind_some]
  cases h : okPast p with
  | false => rfl
  | true =>
    obtain ⟨h1, _, h3⟩ := okPast_iff.1 h
    have hn := numL_len p.length
    simp only [Bool.not_true, Bool.false_eq_true, if_false, if_true]
    rw [wrapu64 (by omega) (by omega), vary_Number_eq (by omega)]
    simp only [Option.bind_some]
    rw [bld_WriteString_eq (by unfold numP; rw [ofL_size]; simp; omega)]
    simp only [Option.bind_some]
    refine (loopL (body := past_Bytes_l2 p) p (fun (s : ByteArray) i => (i, s)) (fun rest s => some (s ++ ofL (rest.flatMap depL))) (fun i s => s.size ≤ 11 + 1033 * i ∧ s.size ≠ 0) ?_ ?_ (s0 := ByteArray.empty ++ numP p.length) ?_ (by omega)).trans ?_
    · intro again s hs
      unfold past_Bytes_l2 past_Bytes_k1
      simp only [Int.lt_irrefl, decide_false, Bool.false_eq_true, if_false]
      rw [bld_String_eq hs.2]
      simp only [Option.bind_some, List.flatMap_nil]
      rw [app_ofL, List.append_nil, ofL_bl]
    · intro again i s hi hI hag
      have hm := List.getElem_mem hi
      have hd := hk _ hm
      have hdl := depL_len hd
      have htl := textL_len p[i].Key
      have hsl := (stampL_len p[i].Stamp).2
      have hst : stampB p[i].Stamp = ofL (stampL p[i].Stamp) := by unfold stampB; rw [okDep_stamp (h1 _ hm)]; rfl
      unfold past_Bytes_l2
      simp only
      rw [if_pos (by simpa using hi), idx_at hi]
      simp only [Option.bind_some]
      rw [vary_Text_eq (by omega), stamp_Bytes_eq, hst]
      simp only [Option.bind_some]
      rw [scat_L (by rw [ofL_size, ofL_size]; omega), ofL_app]
      simp only [Option.bind_some]
      have hsz : (ofL (textL p[i].Key ++ stampL p[i].Stamp)).size = (depL p[i]).length := ofL_size _
      rw [bld_WriteString_eq (by omega), wrap64 (by omega) (by omega)]
      simp only [Option.bind_some]
      rw [hag _ ⟨by rw [ByteArray.size_append, hsz]; omega, by rw [ByteArray.size_append]; omega⟩]
      refine congrArg some (bl_inj ?_)
      simp only [bl_app, bl_ofL, List.flatMap_cons, depL, List.append_assoc]
    · simp only [ByteArray.size_append, numP, ofL_size, ByteArray.size_empty]
      omega
    · refine congrArg some (bl_inj ?_)
      simp [bl_ofL, numP, pastL]
theorem ref04_Bytes_eq {p : List Api_Dep} (hl : p.length ≤ 100000) (hk : ∀ d, d ∈ p → d.Key.size ≤ 1000) : ref04_Bytes p = some (pastB p) := by
  unfold ref04_Bytes pastB
  rw [ref04_Check_eq (by omega) (fun d hd => by have := hk d hd; omega)]
  simp only [Option.bind_some]
  cases h : okPast p with
  | false => rfl
  | true =>
    obtain ⟨h1, _, h3⟩ := okPast_iff.1 h
    have hn := numL_len p.length
    simp only [Bool.not_true, Bool.false_eq_true, if_false, if_true]
    rw [wrapu64 (by omega) (by omega), ref01_Number_eq (by omega)]
    simp only [Option.bind_some]
    refine (loopL (body := ref04_Bytes_l2 p) p (fun (s : ByteArray) i => (s, i)) (fun rest s => some (s ++ ofL (rest.flatMap depL))) (fun i s => s.size ≤ 11 + 1033 * i) ?_ ?_ (s0 := numP p.length) ?_ (by omega)).trans ?_
    · intro again s hs
      unfold ref04_Bytes_l2 ref04_Bytes_k1
      simp only [Int.lt_irrefl, decide_false, Bool.false_eq_true, if_false, List.flatMap_nil]
      rw [app_ofL, List.append_nil, ofL_bl]
    · intro again i s hi hI hag
      have hm := List.getElem_mem hi
      have hd := hk _ hm
      have hdl := depL_len hd
      have htl := textL_len p[i].Key
      have hsl := (stampL_len p[i].Stamp).2
      have hst : stampB p[i].Stamp = ofL (stampL p[i].Stamp) := by unfold stampB; rw [okDep_stamp (h1 _ hm)]; rfl
      unfold ref04_Bytes_l2
      simp only
      rw [if_pos (by simpa using hi), idx_at hi]
      simp only [Option.bind_some]
      rw [ref01_Text_eq (by omega)]
      simp only [Option.bind_some]
      rw [scat_L (by rw [ofL_size]; omega)]
      simp only [Option.bind_some]
      rw [ref03_Bytes_eq, hst]
      simp only [Option.bind_some]
      have hdd : (depL p[i]).length = (textL p[i].Key).length + (stampL p[i].Stamp).length := by simp [depL]
      rw [scat_L (by rw [ByteArray.size_append, ofL_size, ofL_size]; omega), wrap64 (by omega) (by omega)]
      simp only [Option.bind_some]
      rw [hag _ (by rw [ByteArray.size_append, ByteArray.size_append, ofL_size, ofL_size]; omega)]
      refine congrArg some (bl_inj ?_)
      simp only [bl_app, bl_ofL, List.flatMap_cons, depL, List.append_assoc]
    · simp only [numP, ofL_size]
      omega
    · refine congrArg some (bl_inj ?_)
      simp [bl_ofL, numP, pastL]

/-! reading -/
def rdT (most : Nat) (l : List UInt8) : Option (List UInt8 × Nat) := match rdN l 0 0 with
  | some (n, k) => if n ≤ most ∧ n ≤ l.length - k then some ((l.drop k).take n, k + n) else none
  | none => none
def resT (at_ : Nat) : Option (List UInt8 × Nat) → ByteArray × Int × Bool
  | some (t, k) => (ofL t, ((at_ + k : Nat) : Int), true)
  | none => (ByteArray.empty, 0, false)
theorem resT_some (a k : Nat) (t : List UInt8) : resT a (some (t, k)) = (ofL t, ((a + k : Nat) : Int), true) := rfl
theorem vary_ReadText_eq (s : ByteArray) (at_ most : Nat) (hs : s.size ≤ 1000000000000) (hm : most ≤ 1000000) : vary_ReadText s (at_ : Int) (most : Int) = some (resT at_ (rdT most ((bl s).drop at_))) := by
  unfold vary_ReadText
  rw [vary_Read_eq s at_ hs]
  simp only [Option.bind_some]
  unfold rdT
  cases h : rdN ((bl s).drop at_) 0 0 with
  | none => rfl
  | some x =>
    obtain ⟨n, k⟩ := x
    have h1 := rdN_len h
    have h2 := rdN_lt (by decide) h
    have hll : ((bl s).drop at_).length = s.size - at_ := by rw [List.length_drop, bl_len]
    rw [hll] at h1 ⊢
    rw [resN_some]
    simp only [Bool.not_true, Bool.false_eq_true, if_false]
    rw [show decide ((most : Int) < 0) = false by simp]
    unfold vary_ReadText_k2
    simp only [Bool.false_eq_true, if_false]
    rw [wrapu64 (n := (most : Int)) (by omega) (by omega)]
    unfold vary_ReadText_k3
    by_cases c1 : n ≤ most
    · rw [if_neg (fun e => absurd (of_decide_eq_true e) (by omega)), wrap64 (n := (s.size : Int) - ((at_ + k : Nat) : Int)) (by omega) (by omega), wrapu64 (n := (s.size : Int) - ((at_ + k : Nat) : Int)) (by omega) (by omega)]
      unfold vary_ReadText_k1
      by_cases c2 : n ≤ s.size - at_ - k
      · rw [if_neg (fun e => absurd (of_decide_eq_true e) (by omega)), if_pos ⟨c1, c2⟩]
        simp only
        rw [wrap64 (n := (n : Int)) (by omega) (by omega), wrap64 (n := ((at_ + k : Nat) : Int) + (n : Int)) (by omega) (by omega)]
        have hsub : ssub s ((at_ + k : Nat) : Int) (((at_ + k : Nat) : Int) + (n : Int)) = some (ofL ((((bl s).drop at_).drop k).take n)) := by
          unfold ssub
          rw [if_pos ⟨by omega, by omega, by omega⟩]
          refine congrArg some (bl_inj ?_)
          rw [bl_extract, bl_ofL, Int.toNat_natCast, show (((at_ + k : Nat) : Int) + (n : Int)).toNat = at_ + k + n by omega, List.drop_drop, List.drop_take]
          congr 1
          omega
        rw [hsub]
        simp only [Option.bind_some, resT, Option.some.injEq, Prod.mk.injEq, true_and, and_true]
        omega
      · rw [if_pos (decide_eq_true (by omega)), if_neg (fun d => c2 d.2)]
        rfl
    · rw [if_pos (decide_eq_true (by omega)), if_neg (fun d => c1 d.1)]
      rfl
theorem rdT_app {most : Nat} {l r : List UInt8} {x : List UInt8 × Nat} (h : rdT most l = some x) : rdT most (l ++ r) = some x := by
  unfold rdT at h ⊢
  cases hn : rdN l 0 0 with
  | none => rw [hn] at h; cases h
  | some y =>
    obtain ⟨n, k⟩ := y
    rw [hn] at h
    have hk := rdN_len hn
    rw [rdN_app hn]
    simp only at h ⊢
    split at h
    · rename_i c
      cases h
      rw [if_pos ⟨c.1, by rw [List.length_append]; omega⟩, List.drop_append_of_le_length (by omega), List.take_append_of_le_length (by rw [List.length_drop]; omega)]
    · cases h
theorem rdT_len {most : Nat} {l t : List UInt8} {k : Nat} (h : rdT most l = some (t, k)) : 1 ≤ k ∧ k ≤ l.length ∧ t.length ≤ most := by
  unfold rdT at h
  cases hn : rdN l 0 0 with
  | none => rw [hn] at h; cases h
  | some y =>
    obtain ⟨n, j⟩ := y
    rw [hn] at h
    have hk := rdN_len hn
    simp only at h
    split at h
    · rename_i c
      cases h
      refine ⟨by omega, by omega, ?_⟩
      rw [List.length_take]; omega
    · cases h
theorem rdT_text {most : Nat} {s : ByteArray} (hs : s.size ≤ most) (hm : most ≤ 1000000) (r : List UInt8) : rdT most (textL s ++ r) = some (bl s, (textL s).length) := by
  unfold rdT textL
  rw [List.append_assoc, rdN_numL (by omega)]
  simp only
  rw [if_pos ⟨hs, by simp only [List.length_append, bl_len]; omega⟩]
  have e : ((numL s.size ++ (bl s ++ r)).drop (numL s.size).length).take s.size = bl s := by
    rw [List.drop_left, ← bl_len s, List.take_left]
  rw [e]
  simp

def rdS (l : List UInt8) : Option (Api_Stamp × Nat) := match rdN l 0 0 with
  | some (n, k) => match rdN (l.drop k) 0 0 with
    | some (t, k') => if okStamp ⟨(n : Int), (t : Int)⟩ then some (⟨(n : Int), (t : Int)⟩, k + k') else none
    | none => none
  | none => none
def resS (at_ : Nat) : Option (Api_Stamp × Nat) → Api_Stamp × Int × Bool
  | some (t, k) => (t, ((at_ + k : Nat) : Int), true)
  | none => (⟨0, 0⟩, 0, false)
theorem resS_some (a k : Nat) (t : Api_Stamp) : resS a (some (t, k)) = (t, ((a + k : Nat) : Int), true) := rfl
theorem stamp_Read_eq (s : ByteArray) (at_ : Nat) (hs : s.size ≤ 1000000000000) : stamp_Read s (at_ : Int) = some (resS at_ (rdS ((bl s).drop at_))) := by
  unfold stamp_Read
  rw [vary_Read_eq s at_ hs]
  simp only [Option.bind_some]
  unfold rdS
  cases h : rdN ((bl s).drop at_) 0 0 with
  | none =>
    simp only [resN]
    have := vary_Read_eq s 0 hs
    rw [show ((0 : Nat) : Int) = 0 from rfl] at this
    rw [this]
    rfl
  | some x =>
    obtain ⟨n, k⟩ := x
    rw [resN_some]
    simp only [Bool.not_true, Bool.false_eq_true, if_false]
    rw [vary_Read_eq s (at_ + k) hs, List.drop_drop]
    simp only [Option.bind_some]
    unfold stamp_Read_k2
    cases h2 : rdN ((bl s).drop (at_ + k)) 0 0 with
    | none => rfl
    | some y =>
      obtain ⟨t, k'⟩ := y
      rw [resN_some]
      simp only [Bool.not_true, Bool.false_eq_true, if_false]
      unfold stamp_Read_k1
      by_cases c1 : n ≤ 1099511627776
      · rw [if_neg (fun e => absurd (of_decide_eq_true e) (by omega))]
        by_cases c2 : t < 6
        · rw [if_neg (fun e => absurd (of_decide_eq_true e) (by omega)), stamp_Check_eq]
          simp only [Option.bind_some]
          rw [wrap64 (n := (n : Int)) (by omega) (by omega), wrap64 (n := (t : Int)) (by omega) (by omega)]
          cases okStamp ⟨(n : Int), (t : Int)⟩ with
          | false => rfl
          | true =>
            simp only [Bool.not_true, Bool.false_eq_true, if_false, if_true, resS, Option.some.injEq, Prod.mk.injEq, true_and, and_true]
            omega
        · rw [if_pos (decide_eq_true (by omega)), if_neg (fun c => c2 (by have := okStamp_iff.1 c; simp only at this; omega))]
          rfl
      · rw [if_pos (decide_eq_true (by omega)), if_pos rfl, if_neg (fun c => c1 (by have := okStamp_iff.1 c; simp only at this; omega))]
        rfl
theorem rdS_app {l r : List UInt8} {x : Api_Stamp × Nat} (h : rdS l = some x) : rdS (l ++ r) = some x := by
  unfold rdS at h ⊢
  cases hn : rdN l 0 0 with
  | none => rw [hn] at h; cases h
  | some y =>
    obtain ⟨n, k⟩ := y
    rw [hn] at h
    have hk := rdN_len hn
    rw [rdN_app hn]
    simp only at h ⊢
    rw [List.drop_append_of_le_length (by omega)]
    cases hn2 : rdN (l.drop k) 0 0 with
    | none => rw [hn2] at h; cases h
    | some z => rw [hn2] at h; rw [rdN_app hn2]; exact h
theorem rdS_len {l : List UInt8} {t : Api_Stamp} {k : Nat} (h : rdS l = some (t, k)) : 1 ≤ k ∧ k ≤ l.length ∧ okStamp t = true := by
  unfold rdS at h
  cases hn : rdN l 0 0 with
  | none => rw [hn] at h; cases h
  | some y =>
    obtain ⟨n, j⟩ := y
    rw [hn] at h
    have hk := rdN_len hn
    simp only at h
    cases hn2 : rdN (l.drop j) 0 0 with
    | none => rw [hn2] at h; cases h
    | some z =>
      obtain ⟨t', k'⟩ := z
      rw [hn2] at h
      have hk2 := rdN_len hn2
      rw [List.length_drop] at hk2
      simp only at h
      split at h
      · rename_i c; cases h; exact ⟨by omega, by omega, c⟩
      · cases h
theorem rdS_stamp {s : Api_Stamp} (hs : okStamp s = true) (r : List UInt8) : rdS (stampL s ++ r) = some (s, (stampL s).length) := by
  obtain ⟨h1, h2, h3, h4⟩ := okStamp_iff.1 hs
  unfold rdS stampL
  rw [List.append_assoc, rdN_numL (by omega)]
  simp only [List.drop_left]
  rw [rdN_numL (by omega)]
  have e : (⟨((s.N.toNat : Nat) : Int), ((s.Site.toNat : Nat) : Int)⟩ : Api_Stamp) = s := by
    cases s
    simp only [Api_Stamp.mk.injEq]
    simp only at h1 h3
    omega
  simp only [e]
  rw [if_pos hs]
  simp

def rdD : Nat → List UInt8 → Option (List Api_Dep × Nat)
  | 0, _ => some ([], 0)
  | n + 1, l => match rdT 32 l with
    | some (t, k) => match rdS (l.drop k) with
      | some (s, k') => match rdD n (l.drop (k + k')) with
        | some (ds, k'') => some (⟨ofL t, s⟩ :: ds, k + k' + k'')
        | none => none
      | none => none
    | none => none
def rdP (l : List UInt8) : Option (List Api_Dep × Nat) := match rdN l 0 0 with
  | some (n, k) => if n ≤ 24 then match rdD n (l.drop k) with
    | some (ds, k') => if okPast ds then some (ds, k + k') else none
    | none => none
    else none
  | none => none
theorem rdD_app : ∀ {n : Nat} {l r : List UInt8} {x : List Api_Dep × Nat}, rdD n l = some x → rdD n (l ++ r) = some x
  | 0, _, _, _, h => h
  | n + 1, l, r, x, h => by
    rw [rdD] at h ⊢
    cases h1 : rdT 32 l with
    | none => rw [h1] at h; cases h
    | some y =>
      obtain ⟨t, k⟩ := y
      rw [h1] at h
      have hk := rdT_len h1
      rw [rdT_app h1]
      simp only at h ⊢
      rw [List.drop_append_of_le_length (by omega)]
      cases h2 : rdS (l.drop k) with
      | none => rw [h2] at h; cases h
      | some z =>
        obtain ⟨s, k'⟩ := z
        rw [h2] at h
        have hk2 := rdS_len h2
        rw [List.length_drop] at hk2
        rw [rdS_app h2]
        simp only at h ⊢
        rw [List.drop_append_of_le_length (by omega)]
        cases h3 : rdD n (l.drop (k + k')) with
        | none => rw [h3] at h; cases h
        | some w => rw [h3] at h; rw [rdD_app h3]; exact h
theorem rdD_len : ∀ {n : Nat} {l : List UInt8} {ds : List Api_Dep} {k : Nat}, rdD n l = some (ds, k) → k ≤ l.length ∧ ds.length = n ∧ ∀ d, d ∈ ds → d.Key.size ≤ 32
  | 0, _, _, _, h => by cases h; exact ⟨Nat.zero_le _, rfl, fun d h => by simp at h⟩
  | n + 1, l, ds, k0, h => by
    rw [rdD] at h
    cases h1 : rdT 32 l with
    | none => rw [h1] at h; cases h
    | some y =>
      obtain ⟨t, k⟩ := y
      rw [h1] at h
      have hk := rdT_len h1
      simp only at h
      cases h2 : rdS (l.drop k) with
      | none => rw [h2] at h; cases h
      | some z =>
        obtain ⟨s, k'⟩ := z
        rw [h2] at h
        have hk2 := rdS_len h2
        rw [List.length_drop] at hk2
        simp only at h
        cases h3 : rdD n (l.drop (k + k')) with
        | none => rw [h3] at h; cases h
        | some w =>
          obtain ⟨ds', k''⟩ := w
          rw [h3] at h
          simp only [Option.some.injEq, Prod.mk.injEq] at h
          obtain ⟨rfl, rfl⟩ := h
          obtain ⟨q1, q2, q3⟩ := rdD_len h3
          rw [List.length_drop] at q1
          refine ⟨by omega, by simp [q2], fun d hd => ?_⟩
          rcases List.mem_cons.1 hd with rfl | hd
          · show (ofL t).size ≤ 32; rw [ofL_size]; exact hk.2.2
          · exact q3 d hd
theorem rdD_deps : ∀ {p : List Api_Dep}, (∀ d, d ∈ p → okDep d = true) → ∀ (r : List UInt8), rdD p.length (p.flatMap depL ++ r) = some (p, (p.flatMap depL).length)
  | [], _, r => rfl
  | d :: p, h, r => by
    have hd := h d (by simp)
    have hk := okKey_size (okDep_key hd)
    rw [List.length_cons, rdD, List.flatMap_cons, depL, List.append_assoc, List.append_assoc, rdT_text hk (by omega)]
    simp only [List.drop_left]
    rw [rdS_stamp (okDep_stamp hd)]
    simp only
    rw [← List.append_assoc, show (textL d.Key).length + (stampL d.Stamp).length = (textL d.Key ++ stampL d.Stamp).length by simp, List.drop_left, rdD_deps (fun x hx => h x (by simp [hx])) r]
    simp only [ofL_bl]
    simp [Nat.add_assoc]
theorem rdP_app {l r : List UInt8} {x : List Api_Dep × Nat} (h : rdP l = some x) : rdP (l ++ r) = some x := by
  unfold rdP at h ⊢
  cases hn : rdN l 0 0 with
  | none => rw [hn] at h; cases h
  | some y =>
    obtain ⟨n, k⟩ := y
    rw [hn] at h
    have hk := rdN_len hn
    rw [rdN_app hn]
    simp only at h ⊢
    rw [List.drop_append_of_le_length (by omega)]
    split at h
    · rename_i c
      rw [if_pos c]
      cases hd : rdD n (l.drop k) with
      | none => rw [hd] at h; cases h
      | some z => rw [hd] at h; rw [rdD_app hd]; exact h
    · cases h
theorem rdP_len {l : List UInt8} {p : List Api_Dep} {k : Nat} (h : rdP l = some (p, k)) : 1 ≤ k ∧ k ≤ l.length ∧ okPast p = true := by
  unfold rdP at h
  cases hn : rdN l 0 0 with
  | none => rw [hn] at h; cases h
  | some y =>
    obtain ⟨n, j⟩ := y
    rw [hn] at h
    have hk := rdN_len hn
    simp only at h
    split at h
    · cases hd : rdD n (l.drop j) with
      | none => rw [hd] at h; cases h
      | some z =>
        obtain ⟨ds, k'⟩ := z
        rw [hd] at h
        have h2 := rdD_len hd
        rw [List.length_drop] at h2
        simp only at h
        split at h
        · rename_i c; cases h; exact ⟨by omega, by omega, c⟩
        · cases h
    · cases h
theorem rdP_past {p : List Api_Dep} (h : okPast p = true) (r : List UInt8) : rdP (pastL p ++ r) = some (p, (pastL p).length) := by
  obtain ⟨h1, _, h3⟩ := okPast_iff.1 h
  unfold rdP pastL
  rw [List.append_assoc, rdN_numL (by omega)]
  simp only [List.drop_left]
  rw [if_pos h3, rdD_deps h1]
  simp only
  rw [if_pos h]
  simp

def resP (at_ : Nat) : Option (List Api_Dep × Nat) → List Api_Dep × Int × Bool
  | some (p, k) => (p, ((at_ + k : Nat) : Int), true)
  | none => ([], 0, false)
theorem past_Read_eq (s : ByteArray) (at_ : Nat) (hs : s.size ≤ 1000000000000) : past_Read s (at_ : Int) = some (resP at_ (rdP ((bl s).drop at_))) := by
  unfold past_Read
  rw [vary_Read_eq s at_ hs]
  simp only [Option.bind_some]
  unfold rdP
  cases h : rdN ((bl s).drop at_) 0 0 with
  | none => rfl
  | some x =>
    obtain ⟨n, k⟩ := x
    have hk := rdN_len h
    rw [resN_some]
    simp only [Bool.not_true, Bool.false_eq_true, if_false]
    unfold past_Read_k1
    by_cases c : n ≤ 24
    · rw [if_neg (fun e => absurd (of_decide_eq_true e) (by omega)), if_pos c, List.drop_drop]
      simp only
      -- n deps, one by one
      have key : ∀ (m : Nat) (v : Int × Bool × Int × List Api_Dep), (∃ (e i : Nat) (acc : List Api_Dep), v = ((e : Int), true, (i : Int), acc) ∧ i + m = n ∧ acc.length = i ∧ (∀ d, d ∈ acc → d.Key.size ≤ 32)) → ∀ f, m < f →
          loopF (past_Read_l4 s ((n : Int), ((at_ + k : Nat) : Int), true)) f v = some (match rdD m ((bl s).drop v.1.toNat) with
            | some (ds, k') => if okPast (v.2.2.2 ++ ds) then (v.2.2.2 ++ ds, ((v.1.toNat + k' : Nat) : Int), true) else ([], 0, false)
            | none => ([], 0, false)) := by
        intro m
        induction m with
        | zero =>
          rintro v ⟨e, i, acc, rfl, h1, h2, h3⟩ f hf
          obtain ⟨f, rfl⟩ : ∃ f', f = f' + 1 := ⟨f - 1, by omega⟩
          rw [loopF, rdD]
          unfold past_Read_l4 past_Read_k2
          simp only
          rw [if_neg (fun e => absurd (of_decide_eq_true e) (by omega)), if_neg (by simp), past_Check_eq (by omega) (fun d hd => by have := h3 d hd; omega)]
          simp only [Option.bind_some, List.append_nil, Int.toNat_natCast, Nat.add_zero]
          unfold past_Read_k3
          cases okPast acc <;> rfl
        | succ m ih =>
          rintro v ⟨e, i, acc, rfl, h1, h2, h3⟩ f hf
          obtain ⟨f, rfl⟩ : ∃ f', f = f' + 1 := ⟨f - 1, by omega⟩
          have ihf := fun v hv => ih v hv f (by omega)
          rw [loopF, rdD]
          generalize loopF (past_Read_l4 s ((n : Int), ((at_ + k : Nat) : Int), true)) f = again at ihf
          unfold past_Read_l4 past_Read_k2
          simp only [Int.toNat_natCast]
          rw [if_pos (decide_eq_true (by omega)), show (32 : Int) = ((32 : Nat) : Int) from rfl, vary_ReadText_eq s e 32 hs (by omega)]
          simp only [Option.bind_some]
          cases h5 : rdT 32 ((bl s).drop e) with
          | none => rfl
          | some y =>
            obtain ⟨t, k1⟩ := y
            have hk1 := rdT_len h5
            rw [resT_some]
            simp only [Bool.not_true, Bool.false_eq_true, if_false]
            rw [stamp_Read_eq s (e + k1) hs, List.drop_drop]
            simp only [Option.bind_some]
            cases h6 : rdS ((bl s).drop (e + k1)) with
            | none => rfl
            | some z =>
              obtain ⟨t', k2⟩ := z
              rw [resS_some]
              simp only [Bool.not_true, Bool.false_eq_true, if_false]
              rw [app_ok (by simp; omega) (by simp; omega), wrapu64 (n := (i : Int) + 1) (by omega) (by omega)]
              simp only [Option.bind_some]
              have := ihf (((e + k1 + k2 : Nat) : Int), true, (i : Int) + 1, acc ++ [⟨ofL t, t'⟩]) ⟨e + k1 + k2, i + 1, acc ++ [⟨ofL t, t'⟩], by simp, by omega, by simp [h2], fun d hd => by
                rcases List.mem_append.1 hd with hd | hd
                · exact h3 d hd
                · simp at hd; subst hd; show (ofL t).size ≤ 32; rw [ofL_size]; exact hk1.2.2⟩
              rw [this]
              simp only [Int.toNat_natCast, List.drop_drop]
              rw [show e + (k1 + k2) = e + k1 + k2 by omega]
              cases rdD m ((bl s).drop (e + k1 + k2)) with
              | none => rfl
              | some w =>
                obtain ⟨ds, k3⟩ := w
                simp only [List.append_assoc, List.singleton_append]
                rw [show e + (k1 + k2 + k3) = e + k1 + k2 + k3 by omega]
      rw [key n _ ⟨at_ + k, 0, [], by simp, by omega, rfl, fun d h => by simp at h⟩ FU (by have := FU_big; omega)]
      simp only [Int.toNat_natCast, List.nil_append]
      cases rdD n ((bl s).drop (at_ + k)) with
      | none => rfl
      | some w =>
        obtain ⟨ds, k'⟩ := w
        simp only
        by_cases c2 : okPast ds = true
        · rw [if_pos c2, if_pos c2]; simp only [resP, Nat.add_assoc]
        · rw [if_neg c2, if_neg c2]; rfl
    · rw [if_pos (decide_eq_true (by omega)), if_neg c]
      rfl
end Go.Ark
