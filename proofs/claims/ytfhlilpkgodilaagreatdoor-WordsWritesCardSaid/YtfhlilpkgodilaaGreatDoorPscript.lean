import Derived.Test.YtfhlilpkgodilaaGreatDoorPwparse
import Derived.Test.YtfhlilpkgodilaaGreatDoorFA
/- Plain laws: steps: which may be, and their bytes. Conditions: none but those that stand in each law. -/
namespace Go.Ark
open Go Go.Ab Go.RowKit

theorem slices_IndexFunc_string_eq {s : List ByteArray} {f : ByteArray → Option Bool} {p : ByteArray → Bool} (hf : ∀ x, x ∈ s → f x = some (p x)) (hl : s.length ≤ 140737488355328) : slices_IndexFunc_string s f = some (fidx p s) := by
  unfold slices_IndexFunc_string
  refine loopF_inv (fun i => 0 ≤ i ∧ i ≤ (s.length : Int) ∧ ∀ j (hj : j < s.length), (j : Int) < i → p s[j] = false) (fun i => (s.length - i).toNat) (fun _ => some (fidx p s)) ?_ FU _ ⟨Int.le_refl _, by omega, fun j _ h => by omega⟩ (by have := FU_big; omega)
  rintro again i ⟨h1, h2, h3⟩ hag
  unfold slices_IndexFunc_string_l2
  by_cases c : i < (s.length : Int)
  · obtain ⟨i, rfl⟩ : ∃ k : Nat, i = k := ⟨i.toNat, by omega⟩
    have hi : i < s.length := by omega
    rw [if_pos (by simpa using c), idx_at hi]
    simp only [Option.bind_some]
    rw [hf _ (List.getElem_mem hi)]
    simp only [Option.bind_some]
    cases hp : p s[i] with
    | true => simp only [if_true]; rw [fidx_some hi hp (fun j hj h => h3 j hj (by omega))]
    | false =>
      simp only [Bool.false_eq_true, if_false]
      rw [wrap64 (by omega) (by omega)]
      refine hag _ ⟨by omega, by omega, fun j hj h => ?_⟩ (by omega)
      by_cases e : j = i
      · subst e; exact hp
      · exact h3 j hj (by omega)
  · rw [if_neg (by simpa using c)]
    unfold slices_IndexFunc_string_k1
    rw [fidx_none fun j hj => h3 j hj (by omega)]
theorem containsF_string_eq {s : List ByteArray} {f : ByteArray → Option Bool} {p : ByteArray → Bool} (hf : ∀ x, x ∈ s → f x = some (p x)) (hl : s.length ≤ 140737488355328) : slices_ContainsFunc_string s f = some (s.any p) := by
  unfold slices_ContainsFunc_string
  rw [slices_IndexFunc_string_eq hf hl, Option.bind_some, fidx_any]

structure smallOp (o : Api_Op) : Prop where
  keys : o.Keys.length ≤ 9 ∧ ∀ s, s ∈ o.Keys → s.size ≤ 40
  key : o.Key.size ≤ 40
  val : o.Value.size ≤ 40
  ranges : o.Row.Ranges.length ≤ 9 ∧ ∀ r, r ∈ o.Row.Ranges → r.From.size ≤ 40 ∧ r.To.size ≤ 40
  owners : o.Row.Owners.length ≤ 9
  parents : o.Row.Parents.length ≤ 9
theorem smallOp.row {o : Api_Op} (h : smallOp o) : RowS o.Row :=
  ⟨by have := h.ranges.1; omega, by have := h.owners; omega, by have := h.parents; omega, fun r hr => by have := h.ranges.2 r hr; omega⟩

def emptyRow (c : Api_Row) : Bool := decide (c.Ranges.length + c.Owners.length + c.Parents.length = 0)
theorem script_empty_eq {c : Api_Row} (h : RowS c) : script_empty c = some (emptyRow c) := by
  have h1 := h.ranges; have h2 := h.owners; have h3 := h.parents
  unfold script_empty emptyRow
  rw [wrap64 (n := (c.Ranges.length : Int) + (c.Owners.length : Int)) (by omega) (by omega), wrap64 (by omega) (by omega)]
  congr 1
  rw [Bool.eq_iff_iff, decide_eq_true_eq, decide_eq_true_eq]
  omega
theorem rowB_empty (c : Api_Row) : seq (rowB c) ByteArray.empty = !okRow c := by
  rw [seq_eq]
  unfold rowB
  cases h : okRow c with
  | false => simp
  | true =>
    have hl := rowL_len h
    rw [if_pos rfl, decide_eq_false]
    · rfl
    · intro e
      have := congrArg ByteArray.size e
      rw [ofL_size] at this
      have h0 : ByteArray.empty.size = 0 := rfl
      omega
theorem emptyRow_iff {c : Api_Row} : emptyRow c = true ↔ c = ⟨[], [], []⟩ := by
  unfold emptyRow
  rw [decide_eq_true_eq]
  constructor
  · intro h
    cases c with
    | mk r o p =>
      have h : r.length + o.length + p.length = 0 := h
      have h1 : r.length = 0 := by omega
      have h2 : o.length = 0 := by omega
      have h3 : p.length = 0 := by omega
      rw [List.eq_nil_of_length_eq_zero h1, List.eq_nil_of_length_eq_zero h2, List.eq_nil_of_length_eq_zero h3]
  · intro h; rw [h]; rfl

def wildN (n : Int) : Bool := decide (n < 0) || decide (63 < n)
def okS (o : Api_Op) : Bool :=
  decide (1 ≤ o.Kind ∧ o.Kind ≤ 12) && (!([o.Kind, o.Client, o.Site, o.To, o.At, o.How].any wildN) && (decide (o.Keys.length ≤ 8) && (!(o.Keys.any fun s => decide (32 < s.size)) && (decide (o.Key.size ≤ 32) && (decide (o.Value.size ≤ 32) && (emptyRow o.Row || okRow o.Row))))))
theorem script_Check_eq {o : Api_Op} (h : smallOp o) : script_Check o = some (okS o) := by
  have e1 : ∀ n : Int, script_Check_1 n = some (wildN n) := fun n => by
    unfold script_Check_1 wildN
    by_cases c : n < 0
    · rw [if_pos (by simpa using c)]; simp [c]
    · rw [if_neg (by simpa using c)]; simp [c]
  have e2 : ∀ s : ByteArray, script_Check_2 s = some (decide (32 < s.size)) := fun s => by
    unfold script_Check_2
    congr 1
    rw [Bool.eq_iff_iff, decide_eq_true_eq, decide_eq_true_eq]
    omega
  have c1 := contains_int_eq (s := [o.Kind, o.Client, o.Site, o.To, o.At, o.How]) (f := fun x0 => script_Check_1 x0) (p := wildN) (fun x _ => e1 x) (by simp)
  have c2 := containsF_string_eq (s := o.Keys) (f := fun x0 => script_Check_2 x0) (p := fun s => decide (32 < s.size)) (fun x _ => e2 x) (by have := h.keys.1; omega)
  have q1 : decide ((o.Keys.length : Int) ≤ 8) = decide (o.Keys.length ≤ 8) := by rw [Bool.eq_iff_iff, decide_eq_true_eq, decide_eq_true_eq]; omega
  have k6 : ∀ y, script_Check_k6 o y = some (y && (emptyRow o.Row || okRow o.Row)) := fun y => by
    unfold script_Check_k6
    cases y with
    | false => rfl
    | true =>
      rw [if_pos rfl, script_empty_eq h.row, Option.bind_some]
      cases he : emptyRow o.Row with
      | true => rfl
      | false => rw [if_neg (by simp), wire_RowBytes_eq h.row, Option.bind_some, rowB_empty]; simp
  have k5 : ∀ y, script_Check_k5 o y = some (y && (decide (o.Value.size ≤ 32) && (emptyRow o.Row || okRow o.Row))) := fun y => by
    unfold script_Check_k5
    cases y with
    | false => rw [if_neg (by simp), k6]; rfl
    | true =>
      rw [if_pos rfl, e2, Option.bind_some, k6, Bool.true_and]
      congr 2
      rw [Bool.eq_iff_iff]; simp
  have k4 : ∀ y, script_Check_k4 o y = some (y && (decide (o.Key.size ≤ 32) && (decide (o.Value.size ≤ 32) && (emptyRow o.Row || okRow o.Row)))) := fun y => by
    unfold script_Check_k4
    cases y with
    | false => rw [if_neg (by simp), k5]; rfl
    | true =>
      rw [if_pos rfl, e2, Option.bind_some, k5, Bool.true_and]
      congr 2
      rw [Bool.eq_iff_iff]; simp
  unfold script_Check script_Check_k1 script_Check_k2 script_Check_k3 script_numbers
  simp only [c1, c2, k4, q1, Option.bind_some, okS]
  by_cases a1 : 1 ≤ o.Kind
  · by_cases a2 : o.Kind ≤ 12
    · cases hw : [o.Kind, o.Client, o.Site, o.To, o.At, o.How].any wildN with
      | true => simp [a1, a2]
      | false =>
        by_cases a3 : o.Keys.length ≤ 8
        · simp [a1, a2, a3]
        · simp [a1, a2, a3]
    · simp [a1, a2]
  · simp [a1]

theorem okS_op {o : Api_Op} (h : okS o = true) (hr : (o.Row.Ranges.length = 0) ↔ ¬ o.Kind = 12) : okOp o := by
  simp only [okS, Bool.and_eq_true, decide_eq_true_eq, Bool.not_eq_true', Bool.or_eq_true, List.any_cons, List.any_nil, Bool.or_false, Bool.or_eq_false_iff, wildN, decide_eq_false_iff_not] at h
  obtain ⟨h1, ⟨_, h3, h4, h5, h6, h7⟩, h8, h9, h10, h11, h12⟩ := h
  refine ⟨h1, ⟨by omega, by omega⟩, ⟨by omega, by omega⟩, ⟨by omega, by omega⟩, ⟨by omega, by omega⟩, ⟨by omega, by omega⟩, ⟨h8, fun s hs => ?_⟩, h10, h11, fun hk => ?_, fun hk => ?_⟩
  · rw [List.any_eq_false] at h9
    have := h9 s hs
    simpa using this
  · rcases h12 with h12 | h12
    · rw [emptyRow_iff] at h12
      exact absurd hk (hr.1 (by rw [h12]; rfl))
    · exact h12
  · rcases h12 with h12 | h12
    · exact emptyRow_iff.1 h12
    · have := okRow_ne h12
      have := hr.2 hk
      omega

/-! the bytes of a step -/
def rowT (o : Api_Op) : ByteArray := if o.Kind = 12 then ofL (rowL o.Row) else ByteArray.empty
def numsL (o : Api_Op) : List UInt8 := [o.Kind, o.Client, o.Site, o.To, o.At, o.How].flatMap fun n => numL n.toNat
def opL (o : Api_Op) : List UInt8 := numsL o ++ (textL o.Key ++ (textL o.Value ++ (numL o.Keys.length ++ (o.Keys.flatMap textL ++ textL (rowT o)))))
theorem okN_nums {o : Api_Op} (h : okOp o) : ∀ n, n ∈ [o.Kind, o.Client, o.Site, o.To, o.At, o.How] → 0 ≤ n ∧ n ≤ 63 := by
  intro n hn
  simp only [List.mem_cons, List.mem_nil_iff, or_false] at hn
  rcases hn with rfl | rfl | rfl | rfl | rfl | rfl
  · have := h.k; omega
  · exact h.cl
  · exact h.si
  · exact h.to
  · exact h.at'
  · exact h.how
theorem keysL_len {l : List ByteArray} (h : ∀ s, s ∈ l → s.size ≤ 32) : (l.flatMap textL).length ≤ 43 * l.length := by
  induction l with
  | nil => simp
  | cons s l ih =>
    have h1 := ih fun x hx => h x (by simp [hx])
    have h2 := h s (by simp)
    have h3 := textL_len s
    simp only [List.flatMap_cons, List.length_append, List.length_cons]
    omega
theorem rowT_size {o : Api_Op} (h : okOp o) : (rowT o).size ≤ 600 := by
  unfold rowT
  split
  · rename_i hk
    have := rowL_len (h.row hk)
    rw [ofL_size]; omega
  · exact Nat.zero_le _

theorem ref22_one_eq {o : Api_Op} (h : okOp o) : ref22_one o = some (ofL (opL o)) := by
  have hN := okN_nums h
  have hk := h.ks
  have hkl := keysL_len hk.2
  have ht1 := textL_len o.Key; have ht2 := textL_len o.Value; have hq1 := h.key; have hq2 := h.val
  have hnl := numL_len o.Keys.length
  have hrt := rowT_size h
  have htr := textL_len (rowT o)
  have k2 : ∀ p : List UInt8, p.length ≤ 100000 → ref22_one_k2 o (ofL p) = some (ofL (p ++ textL (rowT o))) := fun p hp => by
    unfold ref22_one_k2
    by_cases hkk : o.Kind = 12
    · have hr := h.row hkk
      have hne := okRow_ne hr
      have e : rowT o = ofL (rowL o.Row) := if_pos hkk
      rw [if_neg (by rw [decide_eq_true_eq]; omega), ref06_RowBytes_eq hr, Option.bind_some, ← e, ref01_Text_eq (by omega), Option.bind_some, scat_L (by rw [ofL_size, ofL_size]; omega), Option.bind_some, ofL_app]
    · have e : rowT o = ByteArray.empty := if_neg hkk
      rw [if_pos (by rw [h.no hkk]; rfl), ← e, ref01_Text_eq (by omega), Option.bind_some, scat_L (by rw [ofL_size, ofL_size]; omega), Option.bind_some, ofL_app]
  have l3 : ∀ p : List UInt8, p.length ≤ 10000 → loopF (ref22_one_l3 o) FU (ofL p, 0) = some (ofL (p ++ (o.Keys.flatMap textL ++ textL (rowT o)))) := fun p hp => by
    refine (loopL (body := ref22_one_l3 o) o.Keys (fun (s : List UInt8) i => (ofL s, i)) (fun rest s => some (ofL (s ++ (rest.flatMap textL ++ textL (rowT o))))) (fun i s => s.length ≤ 10000 + 43 * i) ?_ ?_ (s0 := p) (by omega) (by omega))
    · intro again s hs
      unfold ref22_one_l3
      rw [if_neg (by simp), k2 _ (by omega)]
      simp
    · intro again i s hi hI hag
      have hx := hk.2 _ (List.getElem_mem hi)
      have htx := textL_len o.Keys[i]
      unfold ref22_one_l3
      rw [if_pos (decide_eq_true (by omega)), idx_at hi, Option.bind_some, ref01_Text_eq (by omega), Option.bind_some, scat_L (by rw [ofL_size, ofL_size]; omega), Option.bind_some, ofL_app, wrap64 (by omega) (by omega), hag _ (by rw [List.length_append]; omega)]
      simp only [List.flatMap_cons, List.append_assoc]
  have k1 : ∀ p : List UInt8, p.length ≤ 1000 → ref22_one_k1 o (ofL p) = some (ofL (p ++ (textL o.Key ++ (textL o.Value ++ (numL o.Keys.length ++ (o.Keys.flatMap textL ++ textL (rowT o))))))) := fun p hp => by
    unfold ref22_one_k1
    rw [ref01_Text_eq (by omega), Option.bind_some, scat_L (by rw [ofL_size, ofL_size]; omega), Option.bind_some, ofL_app, ref01_Text_eq (by omega), Option.bind_some, scat_L (by rw [ofL_size, ofL_size, List.length_append]; omega), Option.bind_some, ofL_app,
      wrapu64 (by omega) (by omega), ref01_Number_eq (by omega), Option.bind_some]
    unfold numP
    rw [scat_L (by rw [ofL_size, ofL_size, List.length_append, List.length_append]; omega), Option.bind_some, ofL_app, l3 _ (by simp only [List.length_append]; omega)]
    simp only [List.append_assoc]
  unfold ref22_one
  rw [show ByteArray.empty = ofL [] from rfl]
  refine (loopL (body := ref22_one_l4 o) [o.Kind, o.Client, o.Site, o.To, o.At, o.How] (fun (s : List UInt8) i => (ofL s, i)) (fun rest s => some (ofL (s ++ (rest.flatMap (fun n => numL n.toNat) ++ (textL o.Key ++ (textL o.Value ++ (numL o.Keys.length ++ (o.Keys.flatMap textL ++ textL (rowT o)))))))))
    (fun i s => s.length ≤ 11 * i) ?_ ?_ (s0 := []) (by simp) (by simp)).trans (by rfl)
  · intro again s hs
    unfold ref22_one_l4
    rw [if_neg (by simp), k1 _ (by simp at hs; omega)]
    simp
  · intro again i s hi hI hag
    have hi6 : i < 6 := hi
    have hm := hN _ (List.getElem_mem hi)
    have ha : aidx 6 [o.Kind, o.Client, o.Site, o.To, o.At, o.How] (i : Int) = some ([o.Kind, o.Client, o.Site, o.To, o.At, o.How][i]) := by
      unfold aidx
      rw [if_pos ⟨by omega, by omega⟩, Int.toNat_natCast, List.getElem?_eq_getElem hi]
    obtain ⟨n, hn⟩ : ∃ n : Nat, [o.Kind, o.Client, o.Site, o.To, o.At, o.How][i] = n := ⟨_, (Int.toNat_of_nonneg hm.1).symm⟩
    have hnl2 := numL_len n
    unfold ref22_one_l4
    rw [if_pos (decide_eq_true (by omega)), ha, Option.bind_some, hn, wrapu64 (by omega) (by omega), ref01_Number_eq (by omega), Option.bind_some]
    unfold numP
    rw [scat_L (by rw [ofL_size, ofL_size]; omega), Option.bind_some, ofL_app, wrap64 (by omega) (by omega), hag _ (by rw [List.length_append]; omega)]
    simp only [List.flatMap_cons, List.append_assoc, Int.toNat_natCast]
theorem sameOp_eq {a b : Api_Op} (ha : okOp a) (hb : okOp b) : ref22_SameOp a b = some (decide (opL a = opL b)) := by
  unfold ref22_SameOp
  rw [ref22_one_eq ha, Option.bind_some, ref22_one_eq hb, Option.bind_some, seq_eq]
  congr 1
  rw [Bool.eq_iff_iff, decide_eq_true_eq, decide_eq_true_eq]
  exact ⟨fun h => by have := congrArg bl h; rwa [bl_ofL, bl_ofL] at this, fun h => by rw [h]⟩
end Go.Ark
