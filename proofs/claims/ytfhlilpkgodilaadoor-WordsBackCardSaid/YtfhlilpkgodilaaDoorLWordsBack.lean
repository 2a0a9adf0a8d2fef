/- WordsBack: steps that were written are read, the same. Conditions: none. -/
import Derived.Test.YtfhlilpkgodilaaDoorPwcheck
namespace Go.Ark
open Go Go.Ab Go.RowKit

theorem few_par {o : Api_Op} {k : List ByteArray} {a b : ByteArray} {r : List Api_Range} {w : List Int} (hk : k.length ≤ 9 ∧ ∀ s, s ∈ k → s.size ≤ 40) (ha : a.size ≤ 40) (hb : b.size ≤ 40) (hr : r.length ≤ 9 ∧ ∀ x, x ∈ r → x.From.size ≤ 40 ∧ x.To.size ≤ 40) (hw : w.length ≤ 9) :
    ∃ q, law24_few_k4 o k a b r w = some q ∧ smallOp q := by
  unfold law24_few_k4
  by_cases c : (9 : Int) < (o.Row.Parents.length : Int)
  · rw [if_pos (decide_eq_true c)]
    have hs : sub o.Row.Parents 0 9 = some (o.Row.Parents.take 9) := by
      unfold sub
      rw [if_pos ⟨by omega, by omega, by omega⟩]
      rfl
    rw [hs, Option.bind_some]
    exact ⟨_, rfl, hk, ha, hb, hr, hw, by simp; omega⟩
  · rw [if_neg (by simpa using c)]
    exact ⟨_, rfl, hk, ha, hb, hr, hw, by show o.Row.Parents.length ≤ 9; omega⟩
theorem few_own {o : Api_Op} {k : List ByteArray} {a b : ByteArray} {r : List Api_Range} (hk : k.length ≤ 9 ∧ ∀ s, s ∈ k → s.size ≤ 40) (ha : a.size ≤ 40) (hb : b.size ≤ 40) (hr : r.length ≤ 9 ∧ ∀ x, x ∈ r → x.From.size ≤ 40 ∧ x.To.size ≤ 40) :
    ∃ q, law24_few_k3 o k a b r = some q ∧ smallOp q := by
  unfold law24_few_k3
  by_cases c : (9 : Int) < (o.Row.Owners.length : Int)
  · rw [if_pos (decide_eq_true c)]
    have hs : sub o.Row.Owners 0 9 = some (o.Row.Owners.take 9) := by
      unfold sub
      rw [if_pos ⟨by omega, by omega, by omega⟩]
      rfl
    rw [hs, Option.bind_some]
    exact few_par hk ha hb hr (by simp; omega)
  · rw [if_neg (by simpa using c)]
    exact few_par hk ha hb hr (by omega)
theorem few_ranges {o : Api_Op} {k : List ByteArray} (hk : k.length ≤ 9 ∧ ∀ s, s ∈ k → s.size ≤ 40) : ∃ q, law24_few_k2 o k = some q ∧ smallOp q := by
  unfold law24_few_k2
  obtain ⟨a, ha, la⟩ := short_eq o.Key 40
  obtain ⟨b, hb, lb⟩ := short_eq o.Value 40
  rw [show law24_short o.Key 40 = some a from ha, Option.bind_some, show law24_short o.Value 40 = some b from hb, Option.bind_some]
  refine loopF_tot (body := law24_few_l5 o k a b) (fun v => 0 ≤ v.1 ∧ v.1 ≤ (o.Row.Ranges.length : Int) ∧ v.1 ≤ 9 ∧ (v.2.length : Int) = v.1 ∧ ∀ x, x ∈ v.2 → x.From.size ≤ 40 ∧ x.To.size ≤ 40) (fun v => (9 - v.1).toNat) smallOp ?_ FU (0, []) ⟨by simp, by simp, by simp, by simp, by simp⟩ (by simp [FU])
  rintro again ⟨i, r⟩ ⟨h1, h2, h3, h4, h5⟩ hag
  simp only at h1 h2 h3 h4 h5
  unfold law24_few_l5
  by_cases c : i < (o.Row.Ranges.length : Int)
  · rw [if_pos (decide_eq_true c)]
    unfold law24_few_k6
    by_cases c9 : i < 9
    · rw [if_pos (decide_eq_true c9)]
      obtain ⟨j, rfl⟩ : ∃ j : Nat, i = j := ⟨i.toNat, by omega⟩
      have hj : j < o.Row.Ranges.length := by omega
      obtain ⟨x, hx, lx⟩ := short_eq o.Row.Ranges[j].From 40
      obtain ⟨y, hy, ly⟩ := short_eq o.Row.Ranges[j].To 40
      simp only [idx_at hj, Option.bind_some]
      rw [show law24_short o.Row.Ranges[j].From 40 = some x from hx, Option.bind_some, show law24_short o.Row.Ranges[j].To 40 = some y from hy, Option.bind_some, app32 (by show r.length + 1 ≤ 1000000; omega), Option.bind_some, wrap64 (by omega) (by omega)]
      refine hag _ ⟨by simp only; omega, by simp only; omega, by simp only; omega, by simp; omega, fun z hz => ?_⟩ (by simp only; omega)
      rcases List.mem_append.1 hz with hz | hz
      · exact h5 z hz
      · have : z = ⟨x, y⟩ := by simpa using hz
        subst this
        exact ⟨lx, ly⟩
    · rw [if_neg (by simpa using c9)]
      exact few_own hk la lb ⟨by show r.length ≤ 9; omega, h5⟩
  · rw [if_neg (by simpa using c)]
    unfold law24_few_k6
    rw [if_neg (by simp)]
    exact few_own hk la lb ⟨by show r.length ≤ 9; omega, h5⟩
theorem few_keys {o : Api_Op} {k : List ByteArray} (hk : k.length ≤ 9) : ∃ q, law24_few_k1 o k = some q ∧ smallOp q := by
  unfold law24_few_k1
  refine loopF_tot (body := law24_few_l7 o k) (fun v => 0 ≤ v.1 ∧ v.1 ≤ (k.length : Int) ∧ (v.2.length : Int) = v.1 ∧ ∀ x, x ∈ v.2 → x.size ≤ 40) (fun v => (k.length - v.1).toNat) smallOp ?_ FU (0, []) ⟨by simp, by simp, by simp, by simp⟩ (by have := FU_big; simp only; omega)
  rintro again ⟨i, r⟩ ⟨h1, h2, h4, h5⟩ hag
  simp only at h1 h2 h4 h5
  unfold law24_few_l7
  by_cases c : i < (k.length : Int)
  · obtain ⟨j, rfl⟩ : ∃ j : Nat, i = j := ⟨i.toNat, by omega⟩
    have hj : j < k.length := by omega
    obtain ⟨x, hx, lx⟩ := short_eq k[j] 40
    rw [if_pos (decide_eq_true c), idx_at hj, Option.bind_some, show law24_short k[j] 40 = some x from hx, Option.bind_some, app16 (by show r.length + 1 ≤ 1000000; omega), Option.bind_some, wrap64 (by omega) (by omega)]
    refine hag _ ⟨by simp only; omega, by simp only; omega, by simp; omega, fun z hz => ?_⟩ (by simp only; omega)
    rcases List.mem_append.1 hz with hz | hz
    · exact h5 z hz
    · have : z = x := by simpa using hz
      subst this
      exact lx
  · rw [if_neg (by simpa using c)]
    exact few_ranges ⟨by show r.length ≤ 9; omega, h5⟩
theorem few_eq (o : Api_Op) : ∃ q, law24_few o = some q ∧ smallOp q := by
  unfold law24_few
  by_cases c : (9 : Int) < (o.Keys.length : Int)
  · rw [if_pos (decide_eq_true c)]
    have hs : sub o.Keys 0 9 = some (o.Keys.take 9) := by
      unfold sub
      rw [if_pos ⟨by omega, by omega, by omega⟩]
      rfl
    rw [hs, Option.bind_some]
    exact few_keys (by simp; omega)
  · rw [if_neg (by simpa using c)]
    exact few_keys (by omega)

/-! the text with lines between -/
def gapL : List UInt8 := [10, 32, 32, 35, 32, 255, 34, 10]
def gapsL (m : List Api_Op) : List UInt8 := [32, 9, 10] ++ m.flatMap fun o => lineB o ++ gapL
abbrev endS : ByteArray × Option Api_Op := (ofL [], none)
def linesOf (m : List Api_Op) : List (ByteArray × Option Api_Op) := m.flatMap fun o => [(ofL (bodyL o), some (canon o))]
def linesOfG (m : List Api_Op) : List (ByteArray × Option Api_Op) := m.flatMap fun o => [(ofL (bodyL o), some (canon o)), (ofL [], none), (ofL ([32, 32] ++ 35 :: [32, 255, 34]), none)]
theorem text_len {m : List Api_Op} (h : ∀ o, o ∈ m → goodOp o) : (m.flatMap lineB).length ≤ 30101 * m.length := by
  induction m with
  | nil => simp
  | cons o m ih =>
    have h1 := ih fun x hx => h x (by simp [hx])
    have h2 := body_len (h o (by simp)).ok
    simp only [List.flatMap_cons, List.length_append, List.length_cons, lineB, List.length_nil] at h1 ⊢
    omega
theorem gaps_len {m : List Api_Op} (h : ∀ o, o ∈ m → goodOp o) : (gapsL m).length ≤ 3 + 30109 * m.length := by
  unfold gapsL
  induction m with
  | nil => simp
  | cons o m ih =>
    have h1 := ih fun x hx => h x (by simp [hx])
    have h2 := body_len (h o (by simp)).ok
    simp only [List.flatMap_cons, List.length_append, List.length_cons, lineB, gapL, List.length_nil] at h1 ⊢
    omega
theorem lines_text {m : List Api_Op} (h : ∀ o, o ∈ m → goodOp o) : linesB (ofL (m.flatMap lineB)) = (linesOf m ++ [endS]).map (·.1) := by
  induction m with
  | nil => exact lines_end (by simp)
  | cons o m ih =>
    have h1 := ih fun x hx => h x (by simp [hx])
    have e : (o :: m).flatMap lineB = bodyL o ++ 10 :: m.flatMap lineB := by simp [lineB]
    rw [e, lines_cons (body_vis (h o (by simp)).ok), h1]
    simp [linesOf]
theorem lines_gaps {m : List Api_Op} (h : ∀ o, o ∈ m → goodOp o) : linesB (ofL (m.flatMap fun o => lineB o ++ gapL)) = (linesOfG m ++ [endS]).map (·.1) := by
  induction m with
  | nil => exact lines_end (by simp)
  | cons o m ih =>
    have h1 := ih fun x hx => h x (by simp [hx])
    have e : (o :: m).flatMap (fun o => lineB o ++ gapL) = bodyL o ++ 10 :: ([] ++ 10 :: ([32, 32, 35, 32, 255, 34] ++ 10 :: m.flatMap fun o => lineB o ++ gapL)) := by simp [lineB, gapL]
    rw [e, lines_cons (body_vis (h o (by simp)).ok), lines_cons (by simp), lines_cons (by decide), h1]
    simp [linesOfG]
theorem map_text {m : List Api_Op} : (linesOf m ++ [endS]).filterMap (·.2) = m.map canon := by
  induction m with
  | nil => rfl
  | cons o m ih => simpa [linesOf] using ih
theorem map_gaps {m : List Api_Op} : ((ofL [32, 9], none) :: (linesOfG m ++ [endS])).filterMap (·.2) = m.map canon := by
  induction m with
  | nil => rfl
  | cons o m ih => simpa [linesOfG] using ih

theorem parse_text {m : List Api_Op} (h : ∀ o, o ∈ m → goodOp o) (hl : m.length ≤ 5) : words_Parse (ofL (m.flatMap lineB)) = some (m.map canon, 0) := by
  have ht := text_len h
  have hll : (linesOf m).length = m.length := by
    clear h hl ht
    induction m with
    | nil => rfl
    | cons o m ih => simp [linesOf] at ih ⊢; omega
  have := parse_lines (l := linesOf m ++ [endS]) (by
    intro x hx
    rcases List.mem_append.1 hx with hx | hx
    · simp only [linesOf, List.mem_flatMap, List.mem_cons, List.mem_nil_iff, or_false] at hx
      obtain ⟨o, ho, rfl⟩ := hx
      exact body_is (h o ho).ok
    · have : x = endS := by simpa using hx
      subst this
      exact silent_blank (by simp)) (by rw [List.length_append, hll]; simp; omega) (s := ofL (m.flatMap lineB)) (by rw [ofL_size]; omega) (lines_text h)
  rw [this, map_text]
theorem parse_gaps {m : List Api_Op} (h : ∀ o, o ∈ m → goodOp o) (hl : m.length ≤ 5) : words_Parse (ofL (gapsL m)) = some (m.map canon, 0) := by
  have ht := gaps_len h
  have hll : (linesOfG m).length = 3 * m.length := by
    clear h hl ht
    induction m with
    | nil => rfl
    | cons o m ih => simp [linesOfG] at ih ⊢; omega
  have := parse_lines (l := (ofL [32, 9], none) :: (linesOfG m ++ [endS])) (by
    intro x hx
    rcases List.mem_cons.1 hx with rfl | hx
    · exact silent_blank (by decide)
    rcases List.mem_append.1 hx with hx | hx
    · simp only [linesOfG, List.mem_flatMap, List.mem_cons, List.mem_nil_iff, or_false] at hx
      obtain ⟨o, ho, rfl | rfl | rfl⟩ := hx
      · exact body_is (h o ho).ok
      · exact silent_blank (by simp)
      · exact silent_mark (by decide)
    · have : x = endS := by simpa using hx
      subst this
      exact silent_blank (by simp)) (by rw [List.length_cons, List.length_append, hll]; simp; omega) (s := ofL (gapsL m)) (by rw [ofL_size]; omega) (by
    show linesB (ofL ([32, 9] ++ 10 :: m.flatMap fun o => lineB o ++ gapL)) = _
    rw [lines_cons (by decide), lines_gaps h]; rfl)
  rw [this, map_gaps]

theorem back_end {m : List Api_Op} (h : ∀ o, o ∈ m → goodOp o) (hl : m.length ≤ 5) : law24_WordsBack_k1 true (ofL (gapsL m), m) = some true := by
  unfold law24_WordsBack_k1
  rw [words_Text_eq h (by omega), Option.bind_some, parse_text h hl, Option.bind_some, parse_gaps h hl, Option.bind_some, same_eq h (by omega), Option.bind_some, Option.bind_some, if_pos rfl]
  unfold law24_WordsBack_k2
  rfl

theorem law24_WordsBack_plain (l_0 : (List Api_Op)) (_h0 : l_0.length ≤ reachBytes ∧ ∀ y, y ∈ l_0 → wfApi_Op y) : law24_WordsBack l_0 = some true := by
  unfold law24_WordsBack
  rw [awake_t, Option.bind_some]
  refine (loopF_inv (body := law24_WordsBack_l3 l_0 true) (fun v => 0 ≤ v.2.1 ∧ v.2.1 ≤ 5 ∧ v.2.1 ≤ (l_0.length : Int) ∧ (v.2.2.length : Int) ≤ v.2.1 ∧ v.1 = ofL (gapsL v.2.2) ∧ ∀ o, o ∈ v.2.2 → goodOp o) (fun v => (5 - v.2.1).toNat) (fun _ => some true) ?_ FU _ ⟨by simp, by simp, by simp, by simp, rfl, by simp⟩ (by simp [FU]))
  rintro again ⟨s, i, m⟩ ⟨h1, h2, h3, h4, h5, h6⟩ hag
  simp only at h1 h2 h3 h4 h5 h6
  subst h5
  have hml : m.length ≤ 5 := by omega
  unfold law24_WordsBack_l3
  by_cases c : i < (l_0.length : Int)
  · rw [if_pos (decide_eq_true c)]
    unfold law24_WordsBack_k4
    by_cases c5 : i < 5
    · rw [if_pos (decide_eq_true c5)]
      obtain ⟨j, rfl⟩ : ∃ j : Nat, i = j := ⟨i.toNat, by omega⟩
      have hj : j < l_0.length := by omega
      obtain ⟨q, hq, hsm⟩ := few_eq l_0[j]
      obtain ⟨r, hr, hg⟩ := words_Check_tot hsm
      simp only [idx_at hj, Option.bind_some, hq, hr]
      cases r with
      | false =>
        rw [if_neg (by simp), wrap64 (by omega) (by omega)]
        exact hag _ ⟨by simp only; omega, by simp only; omega, by simp only; omega, by simp only; omega, rfl, h6⟩ (by simp only; omega)
      | true =>
        have hgq := hg rfl
        have hb := body_len hgq.ok
        have hgl := gaps_len h6
        have ht := words_Text_eq (l := [q]) (by simpa using hgq) (by simp)
        have hgs : (ofL (gapsL m)).size ≤ 200000 := by rw [ofL_size]; omega
        have hts : (ofL ([q].flatMap lineB)).size ≤ 40000 := by rw [ofL_size]; simp [lineB]; omega
        rw [if_pos rfl, app176 (by show m.length + 1 ≤ 1000000; omega)]
        simp only [Option.bind_some, ht]
        rw [scat_L (by omega)]
        simp only [Option.bind_some]
        rw [show ByteArray.mk #[10, 32, 32, 35, 32] = ofL [10, 32, 32, 35, 32] from rfl, show ByteArray.mk #[255, 34, 10] = ofL [255, 34, 10] from rfl, ofL_app, scat_L (by rw [ofL_size, ofL_size]; simp [lineB]; simp [ofL_size] at hgs; omega)]
        simp only [Option.bind_some]
        rw [ofL_app, scat_L (by rw [ofL_size, ofL_size]; simp [lineB]; simp [ofL_size] at hgs; omega)]
        simp only [Option.bind_some]
        rw [ofL_app, wrap64 (by omega) (by omega)]
        refine hag _ ⟨by simp only; omega, by simp only; omega, by simp only; omega, by simp; omega, ?_, ?_⟩ (by simp only; omega)
        · simp only [gapsL, List.flatMap_append, List.flatMap_cons, List.flatMap_nil, List.append_assoc, gapL, List.append_nil, List.cons_append, List.nil_append]
        · intro o ho
          rcases List.mem_append.1 ho with ho | ho
          · exact h6 o ho
          · have : o = q := by simpa using ho
            subst this
            exact hgq
    · rw [if_neg (by simpa using c5)]
      exact back_end h6 hml
  · rw [if_neg (by simpa using c)]
    unfold law24_WordsBack_k4
    rw [if_neg (by simp)]
    exact back_end h6 hml
end Go.Ark
