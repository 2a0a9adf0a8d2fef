import Derived.Test.YtfhlilpkgodilaaGreatDoorPscript
/- Plain laws: words: which steps have lines; their text. Conditions: none but those that stand in each law. -/
namespace Go.Ark
open Go Go.Ab Go.RowKit

theorem okOp.okS {o : Api_Op} (h : okOp o) : okS o = true := by
  have hN := okN_nums h
  have hw : ∀ n, 0 ≤ n ∧ n ≤ 63 → wildN n = false := fun n hn => by
    unfold wildN
    rw [decide_eq_false (by omega), decide_eq_false (by omega)]; rfl
  have h1 : ([o.Kind, o.Client, o.Site, o.To, o.At, o.How].any wildN) = false := by
    rw [List.any_eq_false]
    intro n hn
    rw [hw n (hN n hn)]; simp
  have h2 : (o.Keys.any fun s => decide (32 < s.size)) = false := by
    rw [List.any_eq_false]
    intro s hs
    have := h.ks.2 s hs
    simp; omega
  have h3 : (emptyRow o.Row || okRow o.Row) = true := by
    by_cases hk : o.Kind = 12
    · rw [h.row hk]; simp
    · rw [emptyRow_iff.2 (h.no hk)]; rfl
  unfold Go.Ark.okS
  rw [h1, h2, h3, decide_eq_true h.k, decide_eq_true h.ks.1, decide_eq_true h.key, decide_eq_true h.val]
  rfl
theorem okOp.small {o : Api_Op} (h : okOp o) : smallOp o := by
  have hk := h.ks; have h1 := h.key; have h2 := h.val
  refine ⟨⟨by omega, fun s hs => by have := hk.2 s hs; omega⟩, by omega, by omega, ?_, ?_, ?_⟩
  · by_cases c : o.Kind = 12
    · have hr := okRow_iff.1 (h.row c)
      exact ⟨by omega, fun r hr' => by have := whole_small hr.2.1 r hr'; omega⟩
    · rw [h.no c]; simp
  · by_cases c : o.Kind = 12
    · have hr := okRow_iff.1 (h.row c); omega
    · rw [h.no c]; simp
  · by_cases c : o.Kind = 12
    · have hr := okRow_iff.1 (h.row c); omega
    · rw [h.no c]; simp

theorem script_Bytes_eq {o : Api_Op} (h : okOp o) : script_Bytes [o] = some (ofL (numL 1 ++ opL o)) := by
  have hN := okN_nums h
  have hk := h.ks
  have hkl := keysL_len hk.2
  have ht1 := textL_len o.Key; have ht2 := textL_len o.Value; have hq1 := h.key; have hq2 := h.val
  have hnl := numL_len o.Keys.length
  have hn1 := numL_len 1
  have hrt := rowT_size h
  have htr := textL_len (rowT o)
  have W : ∀ p q : List UInt8, p.length ≤ 100000 → q.length ≤ 100000 → bld_WriteString (ofL p) (ofL q) = some (ofL (p ++ q)) := fun p q hp hq => by
    rw [bld_WriteString_eq (by rw [ofL_size, ofL_size]; omega), ofL_app]
  -- behind the one step there is none
  have kend : ∀ (n : Nat) (s : ByteArray), 0 < n → loopF (script_Bytes_l2 [o]) n (1, s) = some s := fun n s hn => by
    cases n with
    | zero => omega
    | succ n =>
      rw [loopF, script_Bytes_l2, if_neg (by simp)]
      rfl
  obtain ⟨m, hm⟩ : ∃ m, FU = m + 1 := ⟨FU - 1, by unfold FU; omega⟩
  have hm0 : 0 < m := by unfold FU at hm; omega
  generalize hag : loopF (script_Bytes_l2 [o]) m = again
  have hagn : ∀ s, again (1, s) = some s := fun s => by rw [← hag]; exact kend m s hm0
  have k3 : ∀ (v : ByteArray) (s : ByteArray), script_Bytes_k3 again (0, v) s = some s := fun v s => by
    unfold script_Bytes_k3
    rw [wrap64 (by omega) (by omega)]
    exact hagn s
  have k5 : ∀ (v : ByteArray) (p : List UInt8), p.length ≤ 50000 → script_Bytes_k5 again (0, v) o (ofL p) = some (ofL (p ++ textL (rowT o))) := fun v p hp => by
    unfold script_Bytes_k5
    rw [script_empty_eq h.small.row, Option.bind_some]
    by_cases hkk : o.Kind = 12
    · have hr := h.row hkk
      have hne := okRow_ne hr
      have he : emptyRow o.Row = false := by
        unfold emptyRow
        rw [decide_eq_false]
        omega
      have e : rowB o.Row = rowT o := by unfold rowB rowT; rw [if_pos hr, if_pos hkk]
      rw [he, if_pos (by rfl), wire_RowBytes_eq h.small.row, Option.bind_some, e, vary_Text_eq (by omega), Option.bind_some, W _ _ (by omega) (by omega), Option.bind_some, k3]
    · have he : emptyRow o.Row = true := emptyRow_iff.2 (h.no hkk)
      have e : rowT o = ByteArray.empty := if_neg hkk
      rw [he, if_neg (by simp), ← e, vary_Text_eq (by omega), Option.bind_some, W _ _ (by omega) (by omega), Option.bind_some, k3]
  have l6 : ∀ (v : ByteArray) (p : List UInt8), p.length ≤ 10000 → loopF (script_Bytes_l6 again (0, v) o) FU (0, ofL p) = some (ofL (p ++ (o.Keys.flatMap textL ++ textL (rowT o)))) := fun v p hp => by
    refine (loopL (body := script_Bytes_l6 again (0, v) o) o.Keys (fun (s : List UInt8) i => (i, ofL s)) (fun rest s => some (ofL (s ++ (rest.flatMap textL ++ textL (rowT o))))) (fun i s => s.length ≤ 10000 + 43 * i) ?_ ?_ (s0 := p) (by omega) (by omega))
    · intro again s hs
      unfold script_Bytes_l6
      rw [if_neg (by simp), k5 _ _ (by omega)]
      simp
    · intro again i s hi hI hag
      have hx := hk.2 _ (List.getElem_mem hi)
      have htx := textL_len o.Keys[i]
      unfold script_Bytes_l6
      rw [if_pos (decide_eq_true (by omega)), idx_at hi, Option.bind_some, vary_Text_eq (by omega), Option.bind_some, W _ _ (by omega) (by omega), Option.bind_some, wrap64 (by omega) (by omega), hag _ (by rw [List.length_append]; omega)]
      simp only [List.flatMap_cons, List.append_assoc]
  have k4 : ∀ (v : ByteArray) (p : List UInt8), p.length ≤ 1000 → script_Bytes_k4 again (0, v) o (ofL p) = some (ofL (p ++ (textL o.Key ++ (textL o.Value ++ (numL o.Keys.length ++ (o.Keys.flatMap textL ++ textL (rowT o))))))) := fun v p hp => by
    unfold script_Bytes_k4
    rw [vary_Text_eq (by omega), Option.bind_some, vary_Text_eq (by omega), Option.bind_some, scat_L (by rw [ofL_size, ofL_size]; omega), Option.bind_some, ofL_app, wrapu64 (by omega) (by omega), vary_Number_eq (by omega), Option.bind_some]
    unfold numP
    rw [scat_L (by rw [ofL_size, ofL_size, List.length_append]; omega), Option.bind_some, ofL_app, W _ _ (by omega) (by simp only [List.length_append]; omega), Option.bind_some, l6 _ _ (by simp only [List.length_append]; omega)]
    simp only [List.append_assoc]
  have l7 : ∀ (v : ByteArray) (p : List UInt8), p.length ≤ 100 → loopF (script_Bytes_l7 again (0, v) o [o.Kind, o.Client, o.Site, o.To, o.At, o.How]) FU (0, ofL p) = some (ofL (p ++ opL o)) := fun v p hp => by
    refine (loopL (body := script_Bytes_l7 again (0, v) o [o.Kind, o.Client, o.Site, o.To, o.At, o.How]) [o.Kind, o.Client, o.Site, o.To, o.At, o.How] (fun (s : List UInt8) i => (i, ofL s)) (fun rest s => some (ofL (s ++ (rest.flatMap (fun n => numL n.toNat) ++ (textL o.Key ++ (textL o.Value ++ (numL o.Keys.length ++ (o.Keys.flatMap textL ++ textL (rowT o)))))))))
      (fun i s => s.length ≤ 100 + 11 * i) ?_ ?_ (s0 := p) (by omega) (by simp)).trans (by rfl)
    · intro again2 s hs
      unfold script_Bytes_l7
      rw [if_neg (by simp), k4 _ _ (by simp at hs; omega)]
      simp
    · intro again2 i s hi hI hag2
      have hi6 : i < 6 := hi
      have hmm := hN _ (List.getElem_mem hi)
      obtain ⟨n, hn⟩ : ∃ n : Nat, [o.Kind, o.Client, o.Site, o.To, o.At, o.How][i] = n := ⟨_, (Int.toNat_of_nonneg hmm.1).symm⟩
      have hnl2 := numL_len n
      unfold script_Bytes_l7
      rw [if_pos (decide_eq_true (by omega)), idx_at hi, Option.bind_some, hn, wrapu64 (by omega) (by omega), vary_Number_eq (by omega), Option.bind_some]
      unfold numP
      rw [W _ _ (by omega) (by omega), Option.bind_some, wrap64 (by omega) (by omega), hag2 _ (by rw [List.length_append]; omega)]
      simp only [List.flatMap_cons, List.append_assoc, Int.toNat_natCast]
  unfold script_Bytes
  rw [show (([o].length : Nat) : Int) = ((1 : Nat) : Int) from rfl, wrapu64 (by omega) (by omega), vary_Number_eq (by omega), Option.bind_some]
  unfold numP
  rw [show ByteArray.empty = ofL [] from rfl, W _ _ (by simp) (by omega), Option.bind_some, hm, loopF, hag, script_Bytes_l2, if_pos (by simp), show idx [o] 0 = some o from rfl, Option.bind_some, script_Check_eq h.small, Option.bind_some, h.okS, if_neg (by simp)]
  unfold script_numbers
  rw [Option.bind_some, l7 _ _ (by simp; omega)]
  simp
end Go.Ark
