/- Plain laws: which events are right, told by a book of what was ahead, and by the document's answer. Conditions: none but those that stand in each law. -/
import Derived.Test.YtdngcojjipaajaaPhist
namespace Go.Ark
open Go Go.Ab Go.RowKit

/-! ### what was ahead -/
def lastB (pre : List Api_Event) (c : Int) : List Api_Dep := match (pre.filter fun x => decide (x.Client = c)).getLast? with | some x => behE x | none => []
def thereP (pre : List Api_Event) (e : Api_Event) : Bool := pre.any fun x => decide (x.Kind = 1) && (decide (x.Stamp = e.Stamp) && (decide (e.Kind = 1) || decide (x.Key = e.Key)))
def rightP (pre : List Api_Event) (e : Api_Event) : Bool := okKey e.Key && (chainP none e.Seen && (coversP e.Seen (lastB pre e.Client) &&
  (if e.Kind = 1 then okStamp e.Stamp && (!thereP pre e && e.Seen.all fun d => lessP d.Stamp e.Stamp)
   else if e.Kind = 2 then !lessP e.Stamp (getP e.Seen e.Key) && (decide (e.Stamp = ⟨0, 0⟩) || thereP pre e) else false)))
def firstBad : List Api_Event → List Api_Event → Int
  | _, [] => -1
  | pre, e :: r => if rightP pre e = true then firstBad (pre ++ [e]) r else (pre.length : Int)

theorem lastB_snoc (pre : List Api_Event) (e : Api_Event) (c : Int) : lastB (pre ++ [e]) c = if e.Client = c then behE e else lastB pre c := by
  unfold lastB
  rw [List.filter_append]
  by_cases h : e.Client = c
  · simp [h]
  · simp [h]
theorem lastB_len {pre : List Api_Event} (hs : ∀ e, e ∈ pre → EvS e) (c : Int) : (lastB pre c).length ≤ 1099512 := by
  unfold lastB
  split
  · rename_i x h
    have hx := List.mem_of_getLast? h
    have := behE_len x
    have := (hs x (List.mem_filter.1 hx).1).seen
    omega
  · simp
theorem take_snoc' {α : Type} {l : List α} {i : Nat} (h : i < l.length) : l.take (i + 1) = l.take i ++ [l[i]] := by
  rw [List.take_add_one, List.getElem?_eq_getElem h]; rfl
theorem thereP_snoc (pre : List Api_Event) (x e : Api_Event) : thereP (pre ++ [x]) e = (thereP pre e || (decide (x.Kind = 1) && (decide (x.Stamp = e.Stamp) && (decide (e.Kind = 1) || decide (x.Key = e.Key))))) := by
  simp [thereP]
theorem EvS.keys9 {e : Api_Event} (h : EvS e) : ∀ d, d ∈ e.Seen → d.Key.size ≤ 9223372036854775807 := fun d hd => by have := h.keys d hd; omega

/-! ### the book -/
def wrB (pre : List Api_Event) : List (Api_Stamp × List ByteArray) := (pre.filter fun x => decide (x.Kind = 1)).map fun x => (x.Stamp, [x.Key])
def uniq (pre : List Api_Event) : Prop := (pre.filter fun x => decide (x.Kind = 1)).Pairwise fun a b => a.Stamp ≠ b.Stamp
theorem mget_mset {α γ : Type} [DecidableEq α] : ∀ (m : List (α × γ)) (k : α) (v : γ) (c : α), mget (mset m k v) c = if k = c then some v else mget m c
  | [], k, v, c => rfl
  | (a, b) :: m, k, v, c => by
    rw [mset]
    by_cases h : a = k
    · subst h
      rw [if_pos rfl, mget, mget]
      split <;> rfl
    · rw [if_neg h, mget, mget, mget_mset m k v c]
      by_cases h1 : a = c
      · subst h1
        rw [if_pos rfl, if_neg (fun e => h e.symm), if_pos rfl]
      · rw [if_neg h1, if_neg h1]
def mgW (ws : List Api_Event) (s : Api_Stamp) : Option (List ByteArray) := mget (ws.map fun x => (x.Stamp, [x.Key])) s
theorem mgW_cons (x : Api_Event) (ws : List Api_Event) (s : Api_Stamp) : mgW (x :: ws) s = if x.Stamp = s then some [x.Key] else mgW ws s := rfl
theorem mgW_none {s : Api_Stamp} : ∀ {ws : List Api_Event}, (ws.any fun x => decide (x.Stamp = s)) = false → mgW ws s = none
  | [], _ => rfl
  | x :: ws, h => by
    simp only [List.any_cons, Bool.or_eq_false_iff, decide_eq_false_iff_not] at h
    rw [mgW_cons, if_neg h.1]
    exact mgW_none h.2
theorem mgW_len {s : Api_Stamp} : ∀ {ws : List Api_Event}, decide ((((mgW ws s).getD []).length : Int) = 0) = !(ws.any fun x => decide (x.Stamp = s))
  | [] => rfl
  | x :: ws => by
    rw [mgW_cons, List.any_cons]
    by_cases h : x.Stamp = s
    · rw [if_pos h]; simp [h]
    · rw [if_neg h, mgW_len (ws := ws)]; simp [h]
theorem mgW_any {s : Api_Stamp} {k : ByteArray} : ∀ {ws : List Api_Event}, (ws.Pairwise fun a b => a.Stamp ≠ b.Stamp) → (((mgW ws s).getD []).any fun x => decide (k = x)) = ws.any fun x => decide (x.Stamp = s) && decide (x.Key = k)
  | [], _ => rfl
  | x :: ws, h => by
    rw [List.pairwise_cons] at h
    rw [mgW_cons, List.any_cons]
    by_cases c : x.Stamp = s
    · have : (ws.any fun x => decide (x.Stamp = s) && decide (x.Key = k)) = false := by
        rw [List.any_eq_false]
        intro y hy
        have := h.1 y hy
        rw [c] at this
        simp [show y.Stamp ≠ s from fun e => this e.symm]
      rw [if_pos c, this]
      simp [c, eq_comm]
    · rw [if_neg c, mgW_any h.2]; simp [c]
theorem mgW_size {s : Api_Stamp} {ws : List Api_Event} : ((mgW ws s).getD []).length ≤ 1 := by
  induction ws with
  | nil => simp [mgW, mget]
  | cons x ws ih =>
    rw [mgW_cons]
    split
    · simp
    · exact ih
theorem wrB_get (pre : List Api_Event) (s : Api_Stamp) : mget (wrB pre) s = mgW (pre.filter fun x => decide (x.Kind = 1)) s := rfl
theorem there_write {pre : List Api_Event} {e : Api_Event} (h : e.Kind = 1) : thereP pre e = (pre.filter fun x => decide (x.Kind = 1)).any fun x => decide (x.Stamp = e.Stamp) := by
  unfold thereP
  rw [List.any_filter]
  simp [h]
theorem there_read {pre : List Api_Event} {e : Api_Event} (h : e.Kind ≠ 1) : thereP pre e = (pre.filter fun x => decide (x.Kind = 1)).any fun x => decide (x.Stamp = e.Stamp) && decide (x.Key = e.Key) := by
  unfold thereP
  rw [List.any_filter]
  simp [h]

theorem history_book_right_eq {pre : List Api_Event} {m2 : List (Int × List Api_Dep)} {e : Api_Event} (hs : ∀ x, x ∈ pre → EvS x) (he : EvS e) (hu : uniq pre) (hm : (mget m2 e.Client).getD [] = lastB pre e.Client) :
    history_book_right (wrB pre) m2 e = some (rightP pre e) := by
  have hk : e.Key.size ≤ 9223372036854775807 := by have := he.key; omega
  have hl : e.Seen.length ≤ 140737488355328 := by have := he.seen; omega
  unfold history_book_right
  rw [keys_Check_eq hk, Option.bind_some]
  unfold rightP
  cases c1 : okKey e.Key with
  | false => simp [history_book_right_k1]
  | true =>
  rw [history_row_eq hl he.keys9]
  simp only [Bool.not_true, Bool.false_eq_true, if_false, Option.bind_some, Bool.true_and]
  cases c2 : chainP none e.Seen with
  | false => simp [history_book_right_k1]
  | true =>
  have hsort : sortedP e.Seen := (chainP_iff.1 c2).2.1
  simp only [Bool.not_true, Bool.false_eq_true, if_false, Bool.true_and]
  rw [hm, past_Covers_eq hsort hl (by have := lastB_len hs e.Client; omega), Option.bind_some]
  cases c3 : coversP e.Seen (lastB pre e.Client) with
  | false => simp [history_book_right_k1]
  | true =>
  unfold history_book_right_k1 kindN
  simp only [Bool.not_true, Bool.false_eq_true, if_false, Bool.true_and]
  by_cases k1 : e.Kind = 1
  · rw [if_pos k1, if_pos (by decide), if_pos k1, stamp_Check_eq, Option.bind_some, wrB_get, mgW_len, ← there_write k1]
    unfold history_book_right_k2
    cases okStamp e.Stamp with
    | false => simp
    | true =>
    cases thereP pre e with
    | true => simp
    | false =>
      simp only [Bool.not_false, if_true, Bool.true_and]
      rw [contains_Dep_eq (p := fun d => !lessP d.Stamp e.Stamp) (fun d _ => by unfold history_book_right_1; rw [stamp_Less_eq]; rfl) hl, Option.bind_some]
      congr 1
      rw [List.not_any_eq_all_not]
      simp
  · rw [if_neg k1, if_neg k1]
    by_cases k2 : e.Kind = 2
    · rw [if_pos k2, if_neg (by decide), if_pos (by decide), if_pos k2, past_Get_eq hsort hl, Option.bind_some, stamp_Less_eq, Option.bind_some]
      cases lessP e.Stamp (getP e.Seen e.Key) with
      | true => simp
      | false =>
        simp only [Bool.not_false, if_true, Bool.true_and]
        rw [stampEq e.Stamp ⟨0, 0⟩]
        cases c4 : decide (e.Stamp = ⟨0, 0⟩) with
        | true => simp
        | false =>
          simp only [Bool.false_eq_true, if_false, Bool.false_or]
          rw [wrB_get, contains_string_eq _ (by have := mgW_size (s := e.Stamp) (ws := pre.filter fun x => decide (x.Kind = 1)); omega), Option.bind_some, mgW_any hu, there_read k1]
    · rw [if_neg k2, if_neg (by decide), if_neg (by decide), if_neg k2]

theorem firstBad_nil (pre : List Api_Event) : firstBad pre [] = -1 := rfl
theorem firstBad_cons (pre : List Api_Event) (e : Api_Event) (r : List Api_Event) : firstBad pre (e :: r) = if rightP pre e = true then firstBad (pre ++ [e]) r else (pre.length : Int) := rfl
theorem right_write {pre : List Api_Event} {e : Api_Event} (h : rightP pre e = true) (k : e.Kind = 1) : thereP pre e = false := by
  unfold rightP at h
  rw [if_pos k] at h
  simp only [Bool.and_eq_true, Bool.not_eq_true'] at h
  exact h.2.2.2.2.1

theorem history_Check_eq {l : List Api_Event} (hs : ∀ e, e ∈ l → EvS e) (hl : l.length ≤ 1000000) : history_Check l = some (firstBad [] l) := by
  unfold history_Check
  refine loopF_inv (fun (v : Int × (List (Api_Stamp × (List ByteArray))) × (List (Int × (List Api_Dep)))) => 0 ≤ v.1 ∧ v.1 ≤ (l.length : Int) ∧ firstBad [] l = firstBad (l.take v.1.toNat) (l.drop v.1.toNat) ∧ v.2.1 = wrB (l.take v.1.toNat) ∧
    (∀ c, (mget v.2.2 c).getD [] = lastB (l.take v.1.toNat) c) ∧ uniq (l.take v.1.toNat)) (fun v => ((l.length : Int) - v.1).toNat) (fun _ => some (firstBad [] l)) ?_ FU (0, [], []) ⟨Int.le_refl _, by simp, by simp, by simp [wrB], fun c => by simp [mget, lastB], by simp [uniq]⟩ (by have := FU_big; show ((l.length : Int) - 0).toNat < FU; omega)
  rintro again ⟨v, m1, m2⟩ ⟨h1, h2, h3, h4, h5, h6⟩ hag
  obtain ⟨i, rfl⟩ : ∃ i : Nat, v = i := ⟨v.toNat, by simp at h1; omega⟩
  simp only [Int.toNat_natCast] at h1 h2 h3 h4 h5 h6 hag
  subst h4
  unfold history_Check_l2
  by_cases c : (i : Int) < (l.length : Int)
  · have hi : i < l.length := by omega
    have hpre : ∀ x, x ∈ l.take i → EvS x := fun x hx => hs x (List.mem_of_mem_take hx)
    rw [List.drop_eq_getElem_cons hi, firstBad_cons] at h3
    rw [if_pos (by simpa using c), idx_at hi, Option.bind_some, history_book_right_eq hpre (hs _ (List.getElem_mem hi)) h6 (h5 _), Option.bind_some]
    cases hr : rightP (l.take i) l[i] with
    | false =>
      rw [hr, if_neg (by decide), List.length_take, Nat.min_eq_left (by omega)] at h3
      rw [if_pos (by decide), h3]
      rfl
    | true =>
      rw [hr, if_pos rfl, ← take_snoc' hi] at h3
      rw [if_neg (by decide)]
      have hbe : history_Behind l (i : Int) = some (behE l[i]) := by rw [history_Behind_eq hs, behP_at hi]
      have h5' : ∀ c, (mget (mset m2 l[i].Client (behE l[i])) c).getD [] = lastB (l.take (i + 1)) c := fun c => by
        rw [mget_mset, take_snoc' hi, lastB_snoc]
        split
        · rfl
        · exact h5 c
      by_cases k1 : l[i].Kind = 1
      · have hth := right_write hr k1
        rw [there_write k1] at hth
        have hmg : mget (wrB (l.take i)) l[i].Stamp = none := by rw [wrB_get]; exact mgW_none hth
        have hw : wrB (l.take i) ++ [(l[i].Stamp, [l[i].Key])] = wrB (l.take (i + 1)) := by rw [take_snoc' hi]; unfold wrB; rw [List.filter_append, List.map_append]; simp [k1]
        have hu' : uniq (l.take (i + 1)) := by
          rw [take_snoc' hi]
          unfold uniq
          rw [List.filter_append, List.pairwise_append]
          refine ⟨h6, by simp [k1], fun a ha b hb => ?_⟩
          simp [k1] at hb
          subst hb
          rw [List.any_eq_false] at hth
          simpa using hth a ha
        rw [if_pos (by simpa using k1), hmg, chk, if_pos (show (none : Option (List ByteArray)).isNone = true from rfl), app_ok (by simp) (by simp), Option.bind_some]
        unfold history_Check_k3
        simp only [List.nil_append]
        rw [hw, hbe, Option.bind_some, wrap64 (by omega) (by omega)]
        refine hag ((i : Int) + 1, wrB (l.take (i + 1)), _) ⟨by simp; omega, by simp; omega, ?_, ?_, ?_, ?_⟩ (by simp; omega) <;> simp only [show ((i : Int) + 1).toNat = i + 1 by omega]
        · exact h3
        · exact h5'
        · exact hu'
      · have hw : wrB (l.take i) = wrB (l.take (i + 1)) := by rw [take_snoc' hi]; unfold wrB; rw [List.filter_append, List.map_append]; simp [k1]
        have hu' : uniq (l.take (i + 1)) := by
          rw [take_snoc' hi]
          unfold uniq
          rw [List.filter_append, show [l[i]].filter (fun x => decide (x.Kind = 1)) = [] by simp [k1], List.append_nil]
          exact h6
        rw [if_neg (by simpa using k1)]
        unfold history_Check_k3
        rw [hw, hbe, Option.bind_some, wrap64 (by omega) (by omega)]
        refine hag ((i : Int) + 1, wrB (l.take (i + 1)), _) ⟨by simp; omega, by simp; omega, ?_, ?_, ?_, ?_⟩ (by simp; omega) <;> simp only [show ((i : Int) + 1).toNat = i + 1 by omega]
        · exact h3
        · exact h5'
        · exact hu'
  · rw [if_neg (by simpa using c)]
    have : i = l.length := by omega
    subst this
    rw [List.drop_length, firstBad_nil] at h3
    rw [h3]
    rfl

/-! ### the document's answer -/
theorem ref20_right_eq {l : List Api_Event} (hs : ∀ e, e ∈ l → EvS e) (hl : l.length ≤ 1000000) {i : Nat} (hi : i < l.length) : ref20_right l (i : Int) = some (rightP (l.take i) l[i]) := by
  have he := hs _ (List.getElem_mem hi)
  have hk : l[i].Key.size ≤ 9223372036854775807 := by have := he.key; omega
  have hsl : l[i].Seen.length ≤ 140737488355328 := by have := he.seen; omega
  unfold ref20_right
  rw [idx_at hi, Option.bind_some, ref02_Check_eq hk, Option.bind_some, ref20_row_eq hsl he.keys9, Option.bind_some]
  unfold rightP
  cases c1 : okKey l[i].Key with
  | false => simp [ref20_right_k1]
  | true =>
  cases c2 : chainP none l[i].Seen with
  | false => simp [ref20_right_k1]
  | true =>
  unfold ref20_right_k1
  simp only [Bool.not_true, Bool.false_eq_true, if_false, Bool.true_and]
  generalize hR : (coversP l[i].Seen (lastB (l.take i) l[i].Client) && _) = R
  refine loopF_inv (fun (v : Bool × Int × Int) => 0 ≤ v.2.2 ∧ v.2.2 ≤ (i : Int) ∧ v.1 = thereP (l.take v.2.2.toNat) l[i] ∧ behP l v.2.1 = lastB (l.take v.2.2.toNat) l[i].Client) (fun v => ((i : Int) - v.2.2).toNat) (fun _ => some R) ?_ FU (false, -1, 0) ⟨Int.le_refl _, by simp, by simp [thereP], by simp [behP, lastB]⟩ (by have := FU_big; show ((i : Int) - 0).toNat < FU; omega)
  rintro again ⟨b, last, v⟩ ⟨h1, h2, h3, h4⟩ hag
  obtain ⟨k, rfl⟩ : ∃ k : Nat, v = k := ⟨v.toNat, by simp at h1; omega⟩
  simp only [Int.toNat_natCast] at h1 h2 h3 h4 hag
  unfold ref20_right_l7
  by_cases c : (k : Int) < (i : Int)
  · have hki : k < l.length := by omega
    rw [if_pos (by simpa using c), idx_at hki]
    simp only [Option.bind_some]
    have h9 : ∀ b', b' = thereP (l.take (k + 1)) l[i] → ref20_right_k9 l l[i] again (b, last, (k : Int)) b' = some R := fun b' hb' => by
      unfold ref20_right_k9
      rw [idx_at hki, Option.bind_some, wrap64 (by simp; omega) (by simp; omega)]
      by_cases cc : l[k].Client = l[i].Client
      · rw [if_pos (by simpa using cc)]
        refine hag (b', (k : Int), (k : Int) + 1) ⟨by simp; omega, by simp; omega, ?_, ?_⟩ (by simp; omega) <;> simp only [show ((k : Int) + 1).toNat = k + 1 by omega]
        · exact hb'
        · rw [behP_at hki, take_snoc' hki, lastB_snoc, if_pos cc]
      · rw [if_neg (by simpa using cc)]
        refine hag (b', last, (k : Int) + 1) ⟨by simp; omega, by simp; omega, ?_, ?_⟩ (by simp; omega) <;> simp only [show ((k : Int) + 1).toNat = k + 1 by omega]
        · exact hb'
        · rw [h4, take_snoc' hki, lastB_snoc, if_neg cc]
    have h8 : ∀ q, q = (decide (l[k].Kind = 1) && (decide (l[k].Stamp = l[i].Stamp) && (decide (l[i].Kind = 1) || decide (l[k].Key = l[i].Key)))) → ref20_right_k8 l l[i] again (b, last, (k : Int)) q = some R := fun q hq => by
      have ht := thereP_snoc (l.take k) l[k] l[i]
      rw [← take_snoc' hki, ← hq, ← h3] at ht
      unfold ref20_right_k8
      cases q with
      | true => rw [if_pos rfl]; exact h9 _ (by rw [ht, Bool.or_true])
      | false => rw [if_neg (by decide)]; exact h9 _ (by rw [ht, Bool.or_false])
    by_cases k1 : l[k].Kind = 1
    · rw [if_pos (by simpa using k1), stampEq]
      by_cases k2 : l[k].Stamp = l[i].Stamp
      · rw [if_pos (by simpa using k2)]
        by_cases k3 : l[i].Kind = 1
        · rw [if_pos (by simpa using k3)]
          exact h8 _ (by simp [k1, k2, k3])
        · rw [if_neg (by simpa using k3)]
          exact h8 _ (by simp [k1, k2, k3, seq_eq])
      · rw [if_neg (by simpa using k2)]
        exact h8 _ (by simp [k2])
    · rw [if_neg (by simpa using k1)]
      exact h8 _ (by simp [k1])
  · rw [if_neg (by simpa using c)]
    have hki : k = i := by omega
    subst hki
    subst h3
    unfold ref20_right_k2
    rw [ref20_Behind_eq hs, Option.bind_some, h4, ref04_Covers_eq hsl (by have := lastB_len (fun x hx => hs x (List.mem_of_mem_take hx)) (pre := l.take k) l[k].Client; omega), Option.bind_some]
    cases c3 : coversP l[k].Seen (lastB (l.take k) l[k].Client) with
    | false =>
      rw [c3] at hR
      rw [if_pos (by decide), ← hR]
      rfl
    | true =>
      rw [c3, Bool.true_and] at hR
      rw [if_neg (by decide)]
      by_cases k1 : l[k].Kind = 1
      · rw [if_pos k1] at hR
        rw [if_pos (by simpa using k1), ref03_Check_eq, Option.bind_some]
        generalize thereP (l.take k) l[k] = th at hR ⊢
        have hgo := loopL (pk := fun (_ : Unit) (j : Int) => j) (body := ref20_right_l5 l[k] (th, last) (okStamp l[k].Stamp)) l[k].Seen
          (fun r _ => some (okStamp l[k].Stamp && (!th && r.all fun d => lessP d.Stamp l[k].Stamp))) (fun _ _ => True) (fun again _ _ => ?_) (fun again j _ hj _ hag => ?_) (s0 := ()) trivial (by omega)
        · rw [hgo, hR]
        · unfold ref20_right_l5
          rw [if_neg (by simp)]
          unfold ref20_right_k4
          cases okStamp l[k].Stamp <;> simp
        · unfold ref20_right_l5
          rw [if_pos (by simpa using hj), idx_at hj, Option.bind_some, ref03_Less_eq, Option.bind_some, List.all_cons]
          cases hle : lessP l[k].Seen[j].Stamp l[k].Stamp with
          | false => simp
          | true =>
            rw [if_neg (by decide), wrap64 (by omega) (by omega), hag () trivial]
            simp
      · rw [if_neg k1] at hR
        rw [if_neg (by simpa using k1)]
        by_cases k2 : l[k].Kind = 2
        · rw [if_pos k2] at hR
          rw [if_pos (by simpa using k2)]
          have h6 : ∀ q, q = decide (l[k].Stamp = ⟨0, 0⟩) → ref20_right_k6 l[k] (thereP (l.take k) l[k], last) q = some R := fun q hq => by
            unfold ref20_right_k6
            rw [ref04_Get_eq hsl, Option.bind_some, ref03_Less_eq, Option.bind_some, ← hR, ← hq]
            cases lessP l[k].Stamp (getP l[k].Seen l[k].Key) <;> cases q <;> rfl
          have hz := stampEq l[k].Stamp ⟨0, 0⟩
          by_cases z1 : l[k].Stamp.N = 0
          · rw [if_pos (by simpa using z1)]
            refine h6 _ ?_
            rw [← hz]
            simp [z1]
          · rw [if_neg (by simpa using z1)]
            refine h6 _ ?_
            rw [← hz]
            simp [z1]
        · rw [if_neg k2] at hR
          rw [if_neg (by simpa using k2), ← hR]
          rfl
theorem ref20_Check_eq {l : List Api_Event} (hs : ∀ e, e ∈ l → EvS e) (hl : l.length ≤ 1000000) : ref20_Check l = some (firstBad [] l) := by
  unfold ref20_Check
  refine loopF_inv (fun (v : Int) => 0 ≤ v ∧ v ≤ (l.length : Int) ∧ firstBad [] l = firstBad (l.take v.toNat) (l.drop v.toNat)) (fun v => ((l.length : Int) - v).toNat) (fun _ => some (firstBad [] l)) ?_ FU 0 ⟨Int.le_refl _, by omega, by simp⟩ (by have := FU_big; omega)
  rintro again v ⟨h1, h2, h3⟩ hag
  obtain ⟨i, rfl⟩ : ∃ i : Nat, v = i := ⟨v.toNat, by omega⟩
  unfold ref20_Check_l2
  simp only [Int.toNat_natCast] at h3
  by_cases c : (i : Int) < (l.length : Int)
  · have hi : i < l.length := by omega
    rw [List.drop_eq_getElem_cons hi, firstBad_cons] at h3
    rw [if_pos (by simpa using c), ref20_right_eq hs hl hi, Option.bind_some]
    cases hr : rightP (l.take i) l[i] with
    | false =>
      rw [hr, if_neg (by decide), List.length_take, Nat.min_eq_left (by omega)] at h3
      rw [if_pos (by decide), h3]
    | true =>
      rw [hr, if_pos rfl, ← take_snoc' hi] at h3
      rw [if_neg (by decide), wrap64 (by omega) (by omega)]
      refine hag _ ⟨by omega, by omega, ?_⟩ (by omega)
      rw [show ((i : Int) + 1).toNat = i + 1 by omega]
      exact h3
  · rw [if_neg (by simpa using c)]
    have : i = l.length := by omega
    subst this
    rw [List.drop_length, firstBad_nil] at h3
    rw [h3]
    rfl
end Go.Ark
