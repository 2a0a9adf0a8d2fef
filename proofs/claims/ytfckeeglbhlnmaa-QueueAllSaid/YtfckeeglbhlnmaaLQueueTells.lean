/- The plain law of QueueTells: what the program tells of a queue is what the document's answer tells. Conditions: none but those that stand in each law. -/
import Derived.Test.YtfckeeglbhlnmaaLQueueHave
import Derived.Test.YtfckeeglbhlnmaaLQueueDrop
import Derived.Test.YtfckeeglbhlnmaaFref14
namespace Go.Ark
open Go Go.Ab Go.RowKit

theorem ref14_Misses_eq {v : Api_Version} {h : List Api_Dep} {own : List Api_Range} (hv : v.Past.length ≤ 1099511627776) (hh : h.length ≤ 140737488355328) (hl : own.length ≤ 140737488355328) : ref14_Misses v h own = some (missP v.Past h own) := by
  unfold ref14_Misses
  rw [ref04_Only_eq hv hl]
  simp only [Option.bind_some]
  have hfl := List.length_filter_le (fun d : Api_Dep => ownP own d.Key) v.Past
  refine loopL (v.Past.filter fun d => ownP own d.Key) (fun acc i => (i, acc)) (fun xs acc => some (acc ++ xs.filter fun d => lessP (getP h d.Key) d.Stamp)) (fun i acc => acc.length ≤ i) ?_ ?_ (s0 := []) (by simp) (by omega)
  · intro again s _
    unfold ref14_Misses_l2
    simp [ref14_Misses_k1]
  · intro again i s hi hI hgo
    unfold ref14_Misses_l2
    simp only
    rw [if_pos (by simpa using hi)]
    simp only [idx_at hi, Option.bind_some, ref04_Get_eq hh, ref03_Less_eq]
    rw [wrap64 (by omega) (by omega)]
    cases hq : lessP (getP h ((v.Past.filter fun d => ownP own d.Key)[i]).Key) ((v.Past.filter fun d => ownP own d.Key)[i]).Stamp with
    | true =>
      simp only [if_true]
      rw [app_ok (by simp; omega) (by simp; omega)]
      simp only [Option.bind_some]
      rw [hgo _ (by simp; omega), List.filter_cons, if_pos hq]
      simp
    | false =>
      simp only [Bool.false_eq_true, if_false]
      rw [hgo _ (by omega), List.filter_cons, if_neg (by simp [hq])]

theorem ref14_Check_eq {v : Api_Version} {h : List Api_Dep} {own : List Api_Range} (hv : v.Past.length ≤ 1099511627776) (hh : h.length ≤ 140737488355328) (hl : own.length ≤ 140737488355328) : ref14_Check v h own = some (decide (missP v.Past h own = [])) := by
  unfold ref14_Check
  rw [ref14_Misses_eq hv hh hl]
  simp only [Option.bind_some]
  congr 1
  cases missP v.Past h own with
  | nil => simp
  | cons a b => simp; omega

/-- the first one that misses nothing, and the others -/
def nextP (h : List Api_Dep) (own : List Api_Range) (l : List Api_Version) : Api_Version × List Api_Version × Bool :=
  match l.findIdx? (fun v => decide (missP v.Past h own = [])) with
  | some i => (l.getD i ⟨ByteArray.empty, ByteArray.empty, false, ⟨0, 0⟩, []⟩, l.take i ++ l.drop (i + 1), true)
  | none => (⟨ByteArray.empty, ByteArray.empty, false, ⟨0, 0⟩, []⟩, l, false)

theorem nextP_some {h : List Api_Dep} {own : List Api_Range} {l : List Api_Version} {i : Nat} (hi : i < l.length) (h1 : missP l[i].Past h own = []) (h2 : ∀ j (hj : j < l.length), j < i → missP l[j].Past h own ≠ []) : nextP h own l = (l[i], l.take i ++ l.drop (i + 1), true) := by
  have : l.findIdx? (fun v => decide (missP v.Past h own = [])) = some i := List.findIdx?_eq_some_iff_getElem.2 ⟨hi, by simp [h1], fun j hj => by simpa using h2 j (by omega) hj⟩
  simp [nextP, this, hi]
theorem nextP_none {h : List Api_Dep} {own : List Api_Range} {l : List Api_Version} (h1 : ∀ v, v ∈ l → missP v.Past h own ≠ []) : nextP h own l = (⟨ByteArray.empty, ByteArray.empty, false, ⟨0, 0⟩, []⟩, l, false) := by
  have : l.findIdx? (fun v => decide (missP v.Past h own = [])) = none := List.findIdx?_eq_none_iff.2 fun v hv => by simpa using h1 v hv
  simp [nextP, this]

theorem queue_Next_nextP {l : List Api_Version} {h : List Api_Dep} {own : List Api_Range} (hll : l.length ≤ 1099511627776) (hv : ∀ v, v ∈ l → v.Past.length ≤ 1099511627776) (hs : sortedP h) (hh : h.length ≤ 140737488355328) (hl : own.length ≤ 140737488355328) : queue_Next l h own = some (nextP h own l) := by
  rcases queue_Next_eq hll hv hs hh hl with ⟨i, hi, h1, h2, he⟩ | ⟨h1, he⟩
  · rw [he, nextP_some hi h2 h1]
  · rw [he, nextP_none h1]

theorem ref14_Next_eq {l : List Api_Version} {h : List Api_Dep} {own : List Api_Range} (hll : l.length ≤ 1099511627) (hv : ∀ v, v ∈ l → v.Past.length ≤ 1099511627776) (hh : h.length ≤ 140737488355328) (hl : own.length ≤ 140737488355328) :
    ref14_Next l h own = some ⟨(nextP h own l).1, (nextP h own l).2.1, (nextP h own l).2.2⟩ := by
  unfold ref14_Next
  refine loopF_inv (fun v => 0 ≤ v ∧ v ≤ (l.length : Int) ∧ ∀ j (hj : j < l.length), (j : Int) < v → missP l[j].Past h own ≠ []) (fun v => (l.length - v).toNat) (fun _ => some (Ref14_Got.mk (nextP h own l).1 (nextP h own l).2.1 (nextP h own l).2.2)) ?_ FU _ ⟨Int.le_refl _, by omega, fun j _ h => by omega⟩ (by have := FU_big; omega)
  rintro again v ⟨h1, h2, h3⟩ hag
  unfold ref14_Next_l2
  by_cases c : v < (l.length : Int)
  · obtain ⟨i, rfl⟩ : ∃ i : Nat, v = i := ⟨v.toNat, by omega⟩
    have hi : i < l.length := by omega
    rw [if_pos (by simpa using c), idx_at hi]
    simp only [Option.bind_some, ref14_Check_eq (hv _ (List.getElem_mem hi)) hh hl]
    rw [wrap64 (by omega) (by omega)]
    by_cases hm : missP l[i].Past h own = []
    · simp only [hm, decide_true, if_true]
      have e1 : sub l 0 (i : Int) = some (l.take i) := by simp only [sub]; rw [if_pos ⟨by omega, by omega, by omega⟩]; simp
      have e2 : sub l ((i : Int) + 1) (l.length : Int) = some (l.drop (i + 1)) := by
        simp only [sub]; rw [if_pos ⟨by omega, by omega, by omega⟩]
        simp only [Int.toNat_natCast, List.take_length]
        congr 1
      rw [e1, e2]
      simp only [Option.bind_some]
      rw [app_ok (by simp; omega) (by simp; omega)]
      simp only [Option.bind_some, List.nil_append]
      rw [app_ok (by simp; omega) (by simp; omega)]
      simp only [Option.bind_some]
      rw [nextP_some hi hm fun j hj hji => h3 j hj (by omega)]
    · simp only [decide_eq_false hm, Bool.false_eq_true, if_false]
      refine hag _ ⟨by omega, by omega, fun j hj h => ?_⟩ (by omega)
      rcases Nat.lt_or_ge j i with h4 | h4
      · exact h3 j hj (by omega)
      · have e : j = i := by omega
        subst e; exact hm
  · rw [if_neg (by simpa using c)]
    simp only [ref14_Next_k1]
    rw [nextP_none fun v hv => by
      obtain ⟨j, hj, rfl⟩ := List.getElem_of_mem hv
      exact h3 j hj (by omega)]

/-- one more that waits -/
def pushP (l : List Api_Version) (v : Api_Version) : List Api_Version × Int := if okVersion v then (if 24 ≤ l.length then ([], 15) else (l ++ [v], 0)) else ([], 1)

theorem queue_Push_eq {l : List Api_Version} {v : Api_Version} (hv : smallV v) (hl : l.length ≤ 1099511627776) : queue_Push l v = some (pushP l v) := by
  unfold queue_Push pushP
  rw [wire_Check_eq hv]
  simp only [Option.bind_some]
  cases okVersion v with
  | false => simp
  | true =>
    simp only [Bool.not_true, Bool.false_eq_true, if_false, if_true]
    by_cases c : 24 ≤ l.length
    · rw [if_pos (by simp; omega), if_pos c]
    · rw [if_neg (by simp; omega), if_neg c]
      have e : sub l 0 (l.length : Int) = some l := by simp only [sub]; rw [if_pos ⟨by omega, by omega, by omega⟩]; simp
      rw [e]
      simp only [Option.bind_some]
      rw [app_ok (by simp; omega) (by simp; omega)]
      rfl
theorem ref14_Push_eq {l : List Api_Version} {v : Api_Version} (hv : smallV v) (hl : l.length ≤ 1099511627776) : ref14_Push l v = some (pushP l v) := by
  unfold ref14_Push pushP
  rw [ref06_Check_eq hv]
  simp only [Option.bind_some]
  cases okVersion v with
  | false => simp
  | true =>
    simp only [Bool.not_true, Bool.false_eq_true, if_false, if_true]
    by_cases c : 24 ≤ l.length
    · rw [if_pos (by simp; omega), if_pos c]
    · rw [if_neg (by simp; omega), if_neg c]
      rw [app_ok (by simp; omega) (by simp; omega)]
      simp only [Option.bind_some, List.nil_append]
      rw [app_ok (by simp; omega) (by simp; omega)]
      rfl

theorem ref14_Drop_eq {l : List Api_Version} {own : List Api_Range} (hl : l.length ≤ 1099511627) (ho : own.length ≤ 140737488355328) : ref14_Drop l own = some (l.filter fun v => ownP own v.Key) := by
  unfold ref14_Drop
  refine loopL l (fun acc i => (i, acc)) (fun xs acc => some (acc ++ xs.filter fun v => ownP own v.Key)) (fun i acc => acc.length ≤ i) ?_ ?_ (s0 := []) (by simp) (by omega)
  · intro again s _
    unfold ref14_Drop_l2
    simp [ref14_Drop_k1]
  · intro again i s hi hI hgo
    unfold ref14_Drop_l2
    simp only
    rw [if_pos (by simpa using hi)]
    simp only [idx_at hi, Option.bind_some, ref02_Find_eq ho, fidx_any]
    rw [wrap64 (by omega) (by omega)]
    show (if ownP own l[i].Key = true then _ else _) = _
    cases hq : ownP own l[i].Key with
    | true =>
      simp only [if_true]
      rw [app_ok (by simp; omega) (by simp; omega)]
      simp only [Option.bind_some]
      rw [hgo _ (by simp; omega), List.filter_cons, if_pos hq]
      simp
    | false =>
      simp only [Bool.false_eq_true, if_false]
      rw [hgo _ (by omega), List.filter_cons, if_neg (by simp [hq])]

theorem and15_le (n : Int) : 0 ≤ IntKind.wrap .i64 (BitVec.ofInt (IntKind.bits .i64) n &&& BitVec.ofInt (IntKind.bits .i64) 15).toNat ∧ IntKind.wrap .i64 (BitVec.ofInt (IntKind.bits .i64) n &&& BitVec.ofInt (IntKind.bits .i64) 15).toNat ≤ 15 := by
  have h : (BitVec.ofInt (IntKind.bits .i64) n &&& BitVec.ofInt (IntKind.bits .i64) 15).toNat ≤ 15 := by
    rw [BitVec.toNat_and]
    exact Nat.and_le_right
  rw [wrap64 (by omega) (by omega)]
  omega

theorem law14_QueueTells_plain (l_0 : (List Law14_Write)) (have_1 : (List Api_Dep)) (q_2 : Law14_Ask) (h0 : l_0.length ≤ reachBytes ∧ ∀ x, x ∈ l_0 → wfLaw14_Write x) (h1 : have_1.length ≤ reachBytes ∧ ∀ x, x ∈ have_1 → wfApi_Dep x) (h2 : wfLaw14_Ask q_2) : law14_QueueTells l_0 have_1 q_2 = some true := by
  obtain ⟨vs, hvs, _, hb⟩ := made_ind (fun _ => True) trivial (fun _ _ _ _ _ _ _ _ _ _ _ _ => trivial) (l := l_0) (Nat.le_trans h0.1 (by decide)) fun x hx => ⟨Nat.le_trans (h0.2 x hx).2.2.1 (by decide), fun y hy => bounds_i64 ((h0.2 x hx).2.2.2 y hy)⟩
  obtain ⟨rs, hrs, hrl⟩ := law14_ranges_tot q_2.Ranges
  have hv14 := hb.1
  have hvb : ∀ v, v ∈ vs → v.Past.length ≤ 6103515625 ∧ sortedP v.Past := fun v hv => ⟨Nat.le_trans (hb.2 v hv).1 (pow5 hb.1), (hb.2 v hv).2.2.2.1⟩
  have hvb2 : ∀ v, v ∈ vs → v.Past.length ≤ 140737488355328 := fun v hv => by have := (hvb v hv).1; omega
  have hqk : q_2.Version.Key.size ≤ 9223372036854775807 := Nat.le_trans h2.2.2.1 (by decide)
  have hhl : have_1.length ≤ 9223372036854775807 := Nat.le_trans h1.1 (by decide)
  unfold law14_QueueTells
  rw [law14_awake_eq, hvs]
  simp only [Option.bind_some]
  have hk1 : ∀ p : List Api_Dep, goodP p → p.length ≤ 8 → law14_QueueTells_k1 q_2 true vs p = some true := by
    intro p hp hpl
    unfold law14_QueueTells_k1
    rw [hrs]
    simp only [Option.bind_some]
    -- behind the loops
    have hk4 : ∀ (val : ByteArray) (long : List Api_Version), long.length ≤ 29 → (∀ v, v ∈ long → v ∈ vs) → law14_QueueTells_k4 q_2 true vs p rs (nextP p rs vs) ⟨(nextP p rs vs).1, (nextP p rs vs).2.1, (nextP p rs vs).2.2⟩ true true val long = some true := by
      intro val long hl hin
      have hsm : smallV (Api_Version.mk q_2.Version.Key val q_2.Version.Gone q_2.Version.Stamp p) := ⟨hqk, by simp only; omega, fun d hd => by have := (hp.2 d hd).2; omega⟩
      have hpush : ∀ v, v ∈ (pushP long (Api_Version.mk q_2.Version.Key val q_2.Version.Gone q_2.Version.Stamp p)).1 → v.Past.length ≤ 140737488355328 := by
        intro v hv
        unfold pushP at hv
        split at hv
        · split at hv
          · simp at hv
          · rcases List.mem_append.1 hv with hv | hv
            · exact hvb2 v (hin v hv)
            · simp at hv; subst hv; simp only; omega
        · simp at hv
      have hpl2 : (pushP long (Api_Version.mk q_2.Version.Key val q_2.Version.Gone q_2.Version.Stamp p)).1.length ≤ 30 := by
        unfold pushP
        split
        · split <;> simp; omega
        · simp
      have hfl := List.length_filter_le (fun v : Api_Version => ownP rs v.Key) vs
      unfold law14_QueueTells_k4
      rw [queue_Push_eq hsm (by omega), ref14_Push_eq hsm (by omega)]
      simp only [Option.bind_some]
      rw [ref12_Same_eq (by omega) hpush, queue_Drop_eq (by omega) (by omega), ref14_Drop_eq (by omega) (by omega)]
      simp only [Option.bind_some]
      rw [ref12_Same_eq (by omega) fun v hv => hvb2 v (List.mem_filter.1 hv).1]
      simp [law14_QueueTells_k5, law14_QueueTells_k6, law14_QueueTells_k7, law14_QueueTells_k8]
    have hk3 : ∀ val : ByteArray, law14_QueueTells_k3 q_2 true vs p rs (nextP p rs vs) ⟨(nextP p rs vs).1, (nextP p rs vs).2.1, (nextP p rs vs).2.2⟩ true true val = some true := by
      intro val
      unfold law14_QueueTells_k3
      rw [app_ok (by simp; omega) (by simp; omega)]
      simp only [Option.bind_some, List.nil_append]
      obtain ⟨m1, m2⟩ := and15_le q_2.More
      generalize hm : IntKind.wrap .i64 (BitVec.ofInt (IntKind.bits .i64) q_2.More &&& BitVec.ofInt (IntKind.bits .i64) 15).toNat = m at m1 m2
      refine loopF_inv (fun (v : Int × List Api_Version) => 0 ≤ v.1 ∧ v.1 ≤ m ∧ (v.2.length : Int) ≤ 14 + v.1 ∧ ∀ x, x ∈ v.2 → x ∈ vs) (fun v => (m - v.1).toNat) (fun _ => some true) ?_ FU (0, vs) ⟨Int.le_refl _, m1, by simp only; omega, fun x hx => hx⟩ (by have := FU_big; simp only; omega)
      rintro again ⟨j, long⟩ ⟨g1, g2, g3, g4⟩ hag
      simp only at g1 g2 g3 g4
      unfold law14_QueueTells_l9 law14_QueueTells_k10
      simp only [hm]
      have hend := hk4 val long (by omega) g4
      by_cases c : j < m
      · rw [if_pos (by simpa using c)]
        by_cases c0 : 0 < (vs.length : Int)
        · rw [if_pos (by simpa using c0), show (0 : Int) = ((0 : Nat) : Int) from rfl, idx_at (show 0 < vs.length by omega)]
          simp only [Option.bind_some]
          rw [app_ok (by simp; omega) (by simp; omega), wrap64 (by omega) (by omega)]
          simp only [Option.bind_some]
          refine hag _ ⟨by simp only; omega, by simp only; omega, by simp only [List.length_append, List.length_cons, List.length_nil]; omega, fun x hx => ?_⟩ (by simp only; omega)
          rcases List.mem_append.1 hx with hx | hx
          · exact g4 x hx
          · simp at hx; subst hx; exact List.getElem_mem _
        · rw [if_neg (by simpa using c0)]
          exact hend
      · rw [if_neg (by simpa using c), if_neg (by simp)]
        exact hend
    have hk2 : law14_QueueTells_k2 q_2 true vs p rs () = some true := by
      unfold law14_QueueTells_k2
      rw [queue_Next_nextP (by omega) (fun v hv => by have := (hvb v hv).1; omega) hp.1 (by omega) (by omega), ref14_Next_eq (by omega) (fun v hv => by have := (hvb v hv).1; omega) (by omega) (by omega)]
      simp only [Option.bind_some]
      obtain ⟨n1, n2, n3⟩ : (nextP p rs vs).1.Past.length ≤ 140737488355328 ∧ (nextP p rs vs).2.1.length ≤ 14 ∧ ∀ v, v ∈ (nextP p rs vs).2.1 → v ∈ vs := by
        unfold nextP
        split
        · rename_i i hi
          have hi := (List.findIdx?_eq_some_iff_getElem.1 hi).1
          refine ⟨?_, ?_, fun v hv => ?_⟩
          · simp only [List.getD_eq_getElem?_getD, List.getElem?_eq_getElem hi, Option.getD_some]
            exact hvb2 _ (List.getElem_mem hi)
          · simp only [List.length_append, List.length_take, List.length_drop]; omega
          · rcases List.mem_append.1 hv with hv | hv
            · exact List.mem_of_mem_take hv
            · exact List.mem_of_mem_drop hv
        · exact ⟨by simp, by simpa using hv14, fun v hv => hv⟩
      rw [ref06_Same_eq n1, ref12_Same_eq (by omega) fun v hv => hvb2 v (n3 v hv)]
      simp only [Option.bind_some, decide_true]
      split
      · rename_i c
        have c : 40 < (q_2.Version.Value.size : Int) := by simpa using c
        have hsub : ssub q_2.Version.Value 0 40 = some (q_2.Version.Value.extract 0 40) := by
          simp only [ssub]; rw [if_pos ⟨by omega, by omega, by omega⟩]; rfl
        rw [hsub]
        exact hk3 _
      · exact hk3 _
    refine loopF_inv (fun (v : Int) => 0 ≤ v ∧ v ≤ (vs.length : Int)) (fun v => ((vs.length : Int) - v).toNat) (fun _ => some true) ?_ FU 0 ⟨Int.le_refl _, by omega⟩ (by have := FU_big; omega)
    rintro again v ⟨g1, g2⟩ hag
    obtain ⟨i, rfl⟩ : ∃ i : Nat, v = i := ⟨v.toNat, by omega⟩
    unfold law14_QueueTells_l11
    by_cases c : (i : Int) < (vs.length : Int)
    · have hi : i < vs.length := by omega
      obtain ⟨hp1, hp2⟩ := hvb _ (List.getElem_mem hi)
      have m1 := queue_Misses_eq (v := vs[i]) (h := p) (own := rs) (by omega) hp.1 (by omega) (by omega)
      have m2 := ref14_Misses_eq (v := vs[i]) (h := p) (own := rs) (by omega) (by omega) (by omega)
      have c1 := queue_Check_eq (v := vs[i]) (h := p) (own := rs) (by omega) hp.1 (by omega) (by omega)
      have c2 := ref14_Check_eq (v := vs[i]) (h := p) (own := rs) (by omega) (by omega) (by omega)
      rw [if_pos (by simpa using c)]
      simp only [idx_at hi, Option.bind_some, m1, m2, c1, c2]
      have hml : (missP vs[i].Past p rs).length ≤ vs[i].Past.length := Nat.le_trans (List.length_filter_le _ _) (List.length_filter_le _ _)
      rw [ref04_Same_eq (by omega)]
      simp only [Option.bind_some, decide_true, Bool.not_true, Bool.false_eq_true, if_false, beq_self_eq_true]
      rw [wrap64 (by omega) (by omega)]
      exact hag _ ⟨by omega, by omega⟩ (by omega)
    · rw [if_neg (by simpa using c)]
      exact hk2
  refine loopF_inv (fun (v : List Api_Dep × Int) => 0 ≤ v.2 ∧ v.2 ≤ 8 ∧ goodP v.1 ∧ (v.1.length : Int) ≤ v.2) (fun v => (8 - v.2).toNat) (fun _ => some true) ?_ FU ([], 0) ⟨Int.le_refl _, by simp, ⟨List.Pairwise.nil, fun d h => by simp at h⟩, by simp⟩ (by have := FU_big; simp only; omega)
  rintro again ⟨p, q⟩ ⟨g1, g2, g3, g4⟩ hag
  simp only at g1 g2 g3 g4
  have hend := hk1 p g3 (by omega)
  unfold law14_QueueTells_l12 law14_QueueTells_k13
  simp only
  by_cases c2 : q < (have_1.length : Int)
  · rw [if_pos (by simpa using c2)]
    by_cases c3 : q < 8
    · rw [if_pos (by simpa using c3), idx_int g1 c2]
      simp only [Option.bind_some]
      generalize have_1[q.toNat]'(by omega) = d
      have hk14 : ∀ key : ByteArray, key.size ≤ 12 → law14_QueueTells_k14 again (p, q) d key = some true := by
        intro key hkey
        unfold law14_QueueTells_k14
        simp only
        rw [ref04_Add_eq (by omega) (by simp only; omega), wrap64 (by omega) (by omega)]
        simp only [Option.bind_some]
        have hal := addP_length p (Api_Dep.mk key d.Stamp)
        exact hag _ ⟨by simp only; omega, by simp only; omega, goodP_addP g3 hkey, by simp only; omega⟩ (by simp only; omega)
      by_cases c4 : 12 < (d.Key.size : Int)
      · rw [if_pos (by simpa using c4)]
        have hsub : ssub d.Key 0 12 = some (d.Key.extract 0 12) := by
          simp only [ssub]; rw [if_pos ⟨by omega, by omega, by omega⟩]; rfl
        rw [hsub]
        exact hk14 _ (by rw [ByteArray.size_extract]; omega)
      · rw [if_neg (by simpa using c4)]
        exact hk14 _ (by omega)
    · rw [if_neg (by simpa using c3)]
      exact hend
  · rw [if_neg (by simpa using c2), if_neg (by simp)]
    exact hend
end Go.Ark
