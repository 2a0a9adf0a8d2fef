/- Plain laws: versions as bytes, and out of bytes. Conditions: none but those that stand in each law. -/
import Derived.Test.YtjidbmelmcmmhaaPbytes
import Derived.Test.YtjidbmelmcmmhaaPwire
import Derived.Test.YtjidbmelmcmmhaaPpast2
namespace Go.Ark
open Go Go.Ab Go.RowKit

def goneN (v : Api_Version) : Nat := if v.Gone then 1 else 0
def verL (v : Api_Version) : List UInt8 := textL v.Key ++ (numL (goneN v) ++ (textL v.Value ++ (stampL v.Stamp ++ pastL v.Past)))
def verB (v : Api_Version) : ByteArray := if okVersion v then ofL (verL v) else ByteArray.empty
/-- sizes, of what a law makes -/
def smallB (v : Api_Version) : Prop := v.Key.size ≤ 1000 ∧ v.Value.size ≤ 1000 ∧ v.Past.length ≤ 100 ∧ ∀ d, d ∈ v.Past → d.Key.size ≤ 1000
theorem smallB.small {v : Api_Version} (h : smallB v) : smallV v := ⟨by have := h.1; omega, by have := h.2.2.1; omega, fun d hd => by have := h.2.2.2 d hd; omega⟩
theorem okVersion_iff {v : Api_Version} : okVersion v = true ↔ okKey v.Key = true ∧ okStamp v.Stamp = true ∧ okPast v.Past = true ∧ v.Value.size ≤ 32 ∧ (v.Gone = true → v.Value = ByteArray.empty) := by
  unfold okVersion
  simp only [Bool.and_eq_true, decide_eq_true_eq, Bool.or_eq_true, Bool.not_eq_true']
  cases v.Gone <;> simp

theorem flatD_len : ∀ {q : List Api_Dep}, (∀ d, d ∈ q → d.Key.size ≤ 1000) → (q.flatMap depL).length ≤ 1033 * q.length
  | [], _ => by simp
  | d :: q, hq => by
    have h1 := flatD_len (q := q) fun x hx => hq x (by simp [hx])
    have h2 := depL_len (d := d) (hq d (by simp))
    simp only [List.flatMap_cons, List.length_append, List.length_cons]
    omega
theorem pastL_len {p : List Api_Dep} (hk : ∀ d, d ∈ p → d.Key.size ≤ 1000) : 1 ≤ (pastL p).length ∧ (pastL p).length ≤ 11 + 1033 * p.length := by
  have h1 := numL_len p.length
  have h2 := flatD_len hk
  simp only [pastL, List.length_append]
  omega
theorem verL_len {v : Api_Version} (h : smallB v) : 1 ≤ (verL v).length ∧ (verL v).length ≤ 200000 := by
  obtain ⟨h1, h2, h3, h4⟩ := h
  have q1 := textL_len v.Key
  have q2 := numL_len (goneN v)
  have q3 := textL_len v.Value
  have q4 := stampL_len v.Stamp
  have q5 := pastL_len h4
  have : 1033 * v.Past.length ≤ 1033 * 100 := Nat.mul_le_mul_left _ h3
  simp only [verL, List.length_append]
  omega

/-! texts joined, with nothing between them -/
def sumS (l : List ByteArray) : Nat := (l.map ByteArray.size).sum
theorem strings_Join_eq {l : List ByteArray} (h2 : 2 ≤ l.length) (hl : l.length ≤ 100) (hs : ∀ s, s ∈ l → s.size ≤ 1000000000) (h0 : (l[0]'(by omega)).size ≠ 0) : strings_Join l ByteArray.empty = some (ofL (l.flatMap bl)) := by
  unfold strings_Join
  rw [if_neg (fun e => absurd (of_decide_eq_true e) (by omega)), if_neg (fun e => absurd (of_decide_eq_true e) (by omega)), if_neg (by simp)]
  unfold strings_Join_k1
  have hk2 : ∀ y : Int, 0 ≤ y → y ≤ 140737488355328 → strings_Join_k2 l ByteArray.empty y = some (ofL (l.flatMap bl)) := by
    intro y hy0 hy1
    unfold strings_Join_k2
    simp only [chk, decide_eq_true (show 0 ≤ y ∧ y ≤ 140737488355328 from ⟨hy0, hy1⟩), if_true]
    have hi0 : idx l 0 = some (l[0]'(by omega)) := idx_at (i := 0) (by omega)
    have hb0 := hs _ (List.getElem_mem (show 0 < l.length by omega))
    rw [hi0]
    simp only [Option.bind_some]
    rw [bld_WriteString_eq (by simp; omega)]
    simp only [Option.bind_some]
    have hsub : sub l 1 (l.length : Int) = some (l.drop 1) := by
      unfold sub
      rw [if_pos ⟨by omega, by omega, by omega⟩]
      simp
    rw [hsub]
    simp only [Option.bind_some]
    refine (loopL (body := strings_Join_l4 ByteArray.empty (l.drop 1)) (l.drop 1) (fun (s : ByteArray) i => (i, s)) (fun rest s => some (s ++ ofL (rest.flatMap bl))) (fun i s => s.size ≠ 0 ∧ s.size ≤ 1000000000 * (i + 1)) ?_ ?_ (s0 := ByteArray.empty ++ l[0]'(by omega)) ?_ (by simp; omega)).trans ?_
    · intro again s hs'
      unfold strings_Join_l4 strings_Join_k3
      simp only [Int.lt_irrefl, decide_false, Bool.false_eq_true, if_false]
      rw [bld_String_eq hs'.1]
      simp only [Option.bind_some, List.flatMap_nil]
      rw [app_ofL, List.append_nil, ofL_bl]
    · intro again i s hi hI hag
      have hx := hs _ (List.mem_of_mem_drop (List.getElem_mem hi))
      have hi' : i < 100 := by rw [List.length_drop] at hi; omega
      unfold strings_Join_l4
      simp only
      rw [if_pos (decide_eq_true (by omega)), idx_at hi]
      simp only [Option.bind_some]
      have he : s ++ ByteArray.empty = s := bl_inj (by rw [bl_app]; simp [bl])
      rw [bld_WriteString_eq (by simp; omega), he]
      simp only [Option.bind_some]
      rw [bld_WriteString_eq (by omega), wrap64 (by omega) (by omega)]
      simp only [Option.bind_some]
      rw [hag _ ⟨by rw [ByteArray.size_append]; omega, by rw [ByteArray.size_append]; omega⟩]
      exact congrArg some (bl_inj (by simp only [bl_app, bl_ofL, List.flatMap_cons, List.append_assoc]))
    · simp only [ByteArray.size_append, ByteArray.size_empty]
      omega
    · refine congrArg some (bl_inj ?_)
      rw [bl_app, bl_app, bl_ofL, bl_ofL]
      have e : l = l[0]'(by omega) :: l.drop 1 := by
        rw [← List.drop_eq_getElem_cons (show 0 < l.length by omega)]; rfl
      conv => rhs; rw [e]
      simp [bl]
  refine (loopL (body := strings_Join_l5 l ByteArray.empty) l (fun (s : Int) i => (s, i)) (fun _ _ => some (ofL (l.flatMap bl))) (fun i s => 0 ≤ s ∧ s ≤ 1000000000 * (i : Int)) ?_ ?_ (s0 := 0) ⟨by omega, by omega⟩ (by omega))
  · intro again s hs'
    unfold strings_Join_l5
    simp only [Int.lt_irrefl, decide_false, Bool.false_eq_true, if_false]
    exact hk2 s hs'.1 (by omega)
  · intro again i s hi hI hag
    have hx := hs _ (List.getElem_mem hi)
    unfold strings_Join_l5 strings_Join_k6
    simp only
    rw [if_pos (decide_eq_true (by omega)), idx_at hi]
    simp only [Option.bind_some]
    rw [wrap64 (n := 9223372036854775807 - s) (by omega) (by omega), if_neg (fun e => absurd (of_decide_eq_true e) (by omega)), wrap64 (n := s + (l[i].size : Int)) (by omega) (by omega), wrap64 (n := (i : Int) + 1) (by omega) (by omega)]
    exact hag _ ⟨by omega, by omega⟩

theorem wire_Bytes_eq {v : Api_Version} (h : smallB v) : wire_Bytes v = some (verB v) := by
  unfold wire_Bytes verB
  rw [wire_Check_eq h.small]
  simp only [Option.bind_some]
  cases hok : okVersion v with
  | false => rfl
  | true =>
    obtain ⟨h1, h2, h3, h4⟩ := h
    obtain ⟨o1, o2, o3, o4, o5⟩ := okVersion_iff.1 hok
    have q1 := textL_len v.Key
    have q3 := textL_len v.Value
    have q4 := stampL_len v.Stamp
    have q5 := pastL_len h4
    have q6 : 1033 * v.Past.length ≤ 1033 * 100 := Nat.mul_le_mul_left _ h3
    have q7 := numL_len v.Key.size
    simp only [Bool.not_true, Bool.false_eq_true, if_false, if_true]
    have hk1 : ∀ g : Nat, g ≤ 1 → g = goneN v → wire_Bytes_k1 v (g : Int) = some (ofL (verL v)) := by
      intro g hg hgn
      have q2 := numL_len g
      unfold wire_Bytes_k1
      rw [vary_Text_eq (by omega), vary_Number_eq (by omega), vary_Text_eq (by omega), stamp_Bytes_eq, past_Bytes_eq (by omega) h4]
      simp only [Option.bind_some]
      have e1 : stampB v.Stamp = ofL (stampL v.Stamp) := by unfold stampB; rw [o2]; rfl
      have e2 : pastB v.Past = ofL (pastL v.Past) := by unfold pastB; rw [o3]; rfl
      have hsz : ∀ s, s ∈ [ofL (textL v.Key), numP g, ofL (textL v.Value), stampB v.Stamp, pastB v.Past] → s.size ≤ 1000000000 := by
        intro s hs
        simp only [List.mem_cons, List.not_mem_nil, or_false] at hs
        rcases hs with rfl | rfl | rfl | rfl | rfl
        · rw [ofL_size]; omega
        · unfold numP; rw [ofL_size]; omega
        · rw [ofL_size]; omega
        · rw [e1, ofL_size]; omega
        · rw [e2, ofL_size]; omega
      have h00 : (ofL (textL v.Key)).size ≠ 0 := by
        rw [ofL_size]
        simp only [textL, List.length_append]
        omega
      rw [strings_Join_eq (by simp) (by simp) hsz h00]
      simp only [Option.bind_some]
      refine congrArg some (bl_inj ?_)
      rw [bl_ofL, bl_ofL, e1, e2]
      simp only [List.flatMap_cons, List.flatMap_nil, bl_ofL, numP, verL, hgn, List.append_nil]
    cases hg : v.Gone with
    | true =>
      simp only [if_true]
      exact hk1 1 (by omega) (by unfold goneN; rw [hg]; rfl)
    | false =>
      simp only [Bool.false_eq_true, if_false]
      exact hk1 0 (by omega) (by unfold goneN; rw [hg]; rfl)
theorem ref06_Bytes_eq {v : Api_Version} (h : smallB v) : ref06_Bytes v = some (verB v) := by
  unfold ref06_Bytes verB
  rw [ref06_Check_eq h.small]
  simp only [Option.bind_some]
  cases hok : okVersion v with
  | false => rfl
  | true =>
    obtain ⟨h1, h2, h3, h4⟩ := h
    obtain ⟨o1, o2, o3, o4, o5⟩ := okVersion_iff.1 hok
    have q1 := textL_len v.Key
    have q3 := textL_len v.Value
    have q4 := stampL_len v.Stamp
    have q5 := pastL_len h4
    have q6 : 1033 * v.Past.length ≤ 1033 * 100 := Nat.mul_le_mul_left _ h3
    simp only [Bool.not_true, Bool.false_eq_true, if_false, if_true]
    have hk1 : ∀ g : Nat, g ≤ 1 → g = goneN v → ref06_Bytes_k1 v (g : Int) = some (ofL (verL v)) := by
      intro g hg hgn
      have q2 := numL_len g
      have e1 : stampB v.Stamp = ofL (stampL v.Stamp) := by unfold stampB; rw [o2]; rfl
      have e2 : pastB v.Past = ofL (pastL v.Past) := by unfold pastB; rw [o3]; rfl
      unfold ref06_Bytes_k1
      rw [ref01_Text_eq (by omega), ref01_Number_eq (by omega), ref01_Text_eq (by omega), ref03_Bytes_eq, ref04_Bytes_eq (by omega) h4, e1, e2]
      simp only [Option.bind_some]
      unfold numP
      rw [scat_L (by rw [ofL_size, ofL_size]; omega), ofL_app]
      simp only [Option.bind_some]
      rw [scat_L (by rw [ofL_size, ofL_size]; simp only [List.length_append]; omega), ofL_app]
      simp only [Option.bind_some]
      rw [scat_L (by rw [ofL_size, ofL_size]; simp only [List.length_append]; omega), ofL_app]
      simp only [Option.bind_some]
      rw [scat_L (by rw [ofL_size, ofL_size]; simp only [List.length_append]; omega), ofL_app]
      simp only [Option.bind_some]
      refine congrArg some (bl_inj ?_)
      rw [bl_ofL, bl_ofL]
      simp only [verL, hgn, List.append_assoc]
    cases hg : v.Gone with
    | true =>
      simp only [if_true]
      exact hk1 1 (by omega) (by unfold goneN; rw [hg]; rfl)
    | false =>
      simp only [Bool.false_eq_true, if_false]
      exact hk1 0 (by omega) (by unfold goneN; rw [hg]; rfl)

theorem wire_Same_eq {a b : Api_Version} (h : a.Past.length ≤ 140737488355328) : wire_Same a b = some (decide (a = b)) := by
  unfold wire_Same wire_Same_k1 wire_Same_k2 wire_Same_k3
  rw [past_Same_eq h, versionEq]
  simp only [Option.bind_some, seq_eq, stampEq]
  cases decide (a.Past = b.Past) <;> cases decide (a.Key = b.Key) <;> cases decide (a.Value = b.Value) <;> cases (a.Gone == b.Gone) <;> cases decide (a.Stamp = b.Stamp) <;> simp

/-! one part behind the other -/
abbrev Rdr (α : Type) := List UInt8 → Option (α × Nat)
def seqR {α β : Type} (p : Rdr α) (f : α → Rdr β) : Rdr β := fun l => match p l with
  | some (x, k) => match f x (l.drop k) with
    | some (y, j) => some (y, k + j)
    | none => none
  | none => none
def Mono {α : Type} (p : Rdr α) : Prop := ∀ l x k, p l = some (x, k) → k ≤ l.length ∧ ∀ r, p (l ++ r) = some (x, k)
theorem Mono.seq {α β : Type} {p : Rdr α} {f : α → Rdr β} (hp : Mono p) (hf : ∀ x, Mono (f x)) : Mono (seqR p f) := by
  intro l y k h
  unfold seqR at h ⊢
  cases h1 : p l with
  | none => rw [h1] at h; cases h
  | some z =>
    obtain ⟨x, i⟩ := z
    rw [h1] at h
    obtain ⟨q1, q2⟩ := hp l x i h1
    simp only at h
    cases h2 : f x (l.drop i) with
    | none => rw [h2] at h; cases h
    | some w =>
      obtain ⟨y', j⟩ := w
      rw [h2] at h
      simp only [Option.some.injEq, Prod.mk.injEq] at h
      obtain ⟨rfl, rfl⟩ := h
      obtain ⟨q3, q4⟩ := hf x _ _ _ h2
      rw [List.length_drop] at q3
      refine ⟨by omega, fun r => ?_⟩
      simp only [q2 r]
      rw [List.drop_append_of_le_length q1, q4 r]
theorem seqR_at {α β : Type} {p : Rdr α} {f : α → Rdr β} {A r : List UInt8} {x : α} (h : p (A ++ r) = some (x, A.length)) : seqR p f (A ++ r) = match f x r with
    | some (y, j) => some (y, A.length + j)
    | none => none := by
  unfold seqR
  rw [h]
  simp only [List.drop_left]
def rdG : Rdr Nat := fun l => match rdN l 0 0 with
  | some (g, k) => if g ≤ 1 then some (g, k) else none
  | none => none
theorem mono_rdG : Mono rdG := by
  intro l x k h
  unfold rdG at h ⊢
  cases h1 : rdN l 0 0 with
  | none => rw [h1] at h; cases h
  | some z =>
    obtain ⟨g, j⟩ := z
    rw [h1] at h
    simp only at h
    have := rdN_len h1
    split at h
    · rename_i c
      cases h
      exact ⟨by omega, fun r => by rw [rdN_app h1]; simp only; rw [if_pos c]⟩
    · cases h
theorem mono_rdT (most : Nat) : Mono (rdT most) := fun _ _ _ h => ⟨(rdT_len h).2.1, fun _ => rdT_app h⟩
theorem mono_rdS : Mono rdS := fun _ _ _ h => ⟨(rdS_len h).2.1, fun _ => rdS_app h⟩
theorem mono_rdP : Mono rdP := fun _ _ _ h => ⟨(rdP_len h).2.1, fun _ => rdP_app h⟩
theorem mono_pure {α : Type} (x : α) : Mono (fun _ => some (x, 0)) := fun l y k h => by
  simp only [Option.some.injEq, Prod.mk.injEq] at h
  exact ⟨by omega, fun _ => by rw [h.1, h.2]⟩

/-- a version's parts, and how many bytes they were -/
def rdV : Rdr Api_Version := seqR (rdT 32) fun k => seqR rdG fun g => seqR (rdT 32) fun t => seqR rdS fun s => seqR rdP fun p => fun _ => some (⟨ofL k, ofL t, decide (g = 1), s, p⟩, 0)
theorem mono_rdV : Mono rdV := (mono_rdT 32).seq fun _ => mono_rdG.seq fun _ => (mono_rdT 32).seq fun _ => mono_rdS.seq fun _ => mono_rdP.seq fun _ => mono_pure _
theorem rdV_ver {v : Api_Version} (h : okVersion v = true) (r : List UInt8) : rdV (verL v ++ r) = some (v, (verL v).length) := by
  obtain ⟨o1, o2, o3, o4, o5⟩ := okVersion_iff.1 h
  have hg : rdG (numL (goneN v) ++ (textL v.Value ++ (stampL v.Stamp ++ (pastL v.Past ++ r)))) = some (goneN v, (numL (goneN v)).length) := by
    have : goneN v ≤ 1 := by unfold goneN; split <;> omega
    unfold rdG
    rw [rdN_numL (by omega)]
    simp only
    rw [if_pos this]
  unfold rdV verL
  simp only [List.append_assoc]
  rw [seqR_at (rdT_text (okKey_size o1) (by omega) _), seqR_at hg, seqR_at (rdT_text o4 (by omega) _), seqR_at (rdS_stamp o2 _), seqR_at (rdP_past o3 _)]
  have e : (⟨ofL (bl v.Key), ofL (bl v.Value), decide (goneN v = 1), v.Stamp, v.Past⟩ : Api_Version) = v := by
    rw [ofL_bl, ofL_bl]
    have : decide (goneN v = 1) = v.Gone := by unfold goneN; cases v.Gone <;> rfl
    rw [this]
  simp only [e]
  simp only [List.length_append, Nat.add_zero]

def noVer : Api_Version := ⟨ByteArray.empty, ByteArray.empty, false, ⟨0, 0⟩, []⟩
def resV (n : Nat) : Option (Api_Version × Nat) → Api_Version × Bool
  | some (v, k) => if k = n ∧ okVersion v = true then (v, true) else (noVer, false)
  | none => (noVer, false)

theorem resV_some (n k : Nat) (v : Api_Version) : resV n (some (v, k)) = if k = n ∧ okVersion v = true then (v, true) else (noVer, false) := rfl
theorem wire_Read_eq {s : ByteArray} (hs : s.size ≤ 1000000000000) : wire_Read s = some (resV s.size (rdV (bl s))) := by
  have hmoves : ∀ (at_ e : Int) (ok : Bool), wire_reader_moves ⟨s, at_, false⟩ e ok = some ⟨s, e, !ok⟩ := fun _ _ _ => rfl
  unfold wire_Read wire_reader_text rdV seqR
  have t0 := vary_ReadText_eq s 0 32 hs (by omega)
  rw [show ((0 : Nat) : Int) = 0 from rfl, show ((32 : Nat) : Int) = 32 from rfl, List.drop_zero] at t0
  simp only
  rw [t0]
  simp only [Option.bind_some]
  cases h1 : rdT 32 (bl s) with
  | none => rfl
  | some x1 =>
    obtain ⟨k, a⟩ := x1
    obtain ⟨-, l1, -⟩ := rdT_len h1
    rw [bl_len] at l1
    rw [resT_some]
    simp only
    rw [hmoves]
    simp only [Option.bind_some, Bool.not_true, Bool.false_eq_true, if_false]
    unfold wire_reader_number
    simp only
    rw [vary_Read_eq s (0 + a) hs, Nat.zero_add]
    simp only [Option.bind_some]
    cases h2 : rdN ((bl s).drop a) 0 0 with
    | none =>
      have : rdG ((bl s).drop a) = none := by unfold rdG; rw [h2]
      rw [this]
      rfl
    | some x2 =>
      obtain ⟨g, b⟩ := x2
      have l2 := rdN_len h2
      have hg64 := rdN_lt (by decide) h2
      rw [List.length_drop, bl_len] at l2
      rw [resN_some]
      simp only [if_true]
      rw [hmoves]
      simp only [Option.bind_some]
      unfold wire_reader_number_k1
      simp only
      by_cases c : g ≤ 1
      · have hG : rdG ((bl s).drop a) = some (g, b) := by unfold rdG; rw [h2]; simp only; rw [if_pos c]
        rw [hG, decide_eq_true (show (g : Int) ≤ 1 by omega)]
        simp only [Bool.not_true, Bool.false_eq_true, if_false, Option.bind_some]
        have t2 := vary_ReadText_eq s (a + b) 32 hs (by omega)
        rw [show ((32 : Nat) : Int) = 32 from rfl] at t2
        rw [t2, List.drop_drop]
        simp only [Option.bind_some]
        cases h3 : rdT 32 ((bl s).drop (a + b)) with
        | none => rfl
        | some x3 =>
          obtain ⟨t, d⟩ := x3
          obtain ⟨-, l3, -⟩ := rdT_len h3
          rw [List.length_drop, bl_len] at l3
          rw [resT_some]
          simp only
          rw [hmoves]
          simp only [Option.bind_some, Bool.not_true, Bool.false_eq_true, if_false]
          rw [stamp_Read_eq s (a + b + d) hs, List.drop_drop]
          simp only [Option.bind_some]
          cases h4 : rdS ((bl s).drop (a + b + d)) with
          | none =>
            have := past_Read_eq s 0 hs
            simp only [resS]
            rw [show ((0 : Nat) : Int) = 0 from rfl] at this
            rw [this]
            rfl
          | some x4 =>
            obtain ⟨st, e⟩ := x4
            obtain ⟨-, l4, -⟩ := rdS_len h4
            rw [List.length_drop, bl_len] at l4
            rw [resS_some]
            simp only [if_true]
            rw [past_Read_eq s (a + b + d + e) hs, List.drop_drop]
            simp only [Option.bind_some]
            cases h5 : rdP ((bl s).drop (a + b + d + e)) with
            | none => rfl
            | some x5 =>
              obtain ⟨p, f⟩ := x5
              obtain ⟨-, l5, okp⟩ := rdP_len h5
              rw [List.length_drop, bl_len] at l5
              simp only [resP]
              rw [hmoves]
              simp only [Option.bind_some, Bool.not_true]
              unfold wire_Read_k1 wire_reader_done
              simp only [Bool.not_false, if_true, Option.bind_some]
              have eg : (decide (IntKind.wrap .i64 (g : Int) = 1)) = decide (g = 1) := by
                rw [wrap64 (by omega) (by omega)]
                by_cases c1 : g = 1
                · subst c1; rfl
                · rw [decide_eq_false c1, decide_eq_false (by omega)]
              rw [eg]
              have hk := okPast_iff.1 okp
              have hsm : smallV ⟨ofL k, ofL t, decide (g = 1), st, p⟩ := ⟨by have := (rdT_len h1).2.2; show (ofL k).size ≤ _; rw [ofL_size]; omega, by show p.length ≤ _; omega, fun x hx => by have := okKey_size (okDep_key (hk.1 x hx)); omega⟩
              unfold wire_Read_k2
              by_cases c6 : a + b + d + e + f = s.size
              · rw [decide_eq_true (show ((a + b + d + e + f : Nat) : Int) = (s.size : Int) by omega)]
                simp only [Bool.not_true, Bool.false_eq_true, if_false]
                rw [wire_Check_eq hsm]
                simp only [Option.bind_some, resV]
                have c7 : a + (b + (d + (e + (f + 0)))) = s.size := by omega
                cases hv : okVersion ⟨ofL k, ofL t, decide (g = 1), st, p⟩ with
                | true =>
                  simp only [Bool.not_true, Bool.false_eq_true, if_false]
                  exact congrArg some (by rw [eg, if_pos ⟨c7, trivial⟩])
                | false =>
                  simp only [Bool.not_false, if_true]
                  rw [if_neg (fun c => (by cases c.2))]
                  rfl
              · rw [decide_eq_false (show ¬ ((a + b + d + e + f : Nat) : Int) = (s.size : Int) by omega)]
                simp only [Bool.not_false, if_true, resV]
                rw [if_neg (fun c => c6 (by have := c.1; omega))]
                rfl
      · have hG : rdG ((bl s).drop a) = none := by unfold rdG; rw [h2]; simp only; rw [if_neg c]
        rw [hG, decide_eq_false (show ¬ (g : Int) ≤ 1 by omega)]
        rfl
end Go.Ark
