/- The plain law of PinsPlay: pins go on, call by call, as the document says. Conditions: none but those that stand in each law. -/
import Derived.Test.YtimnigdjffpnbaaPref16
namespace Go.Ark
open Go Go.Ab Go.RowKit

/-- what is known of pins that were put -/
def PlayI (p : List Api_Pin) : Prop := sortedI p ∧ p.length ≤ 8 ∧ ∀ x, x ∈ p → x.Deps.length ≤ 5
theorem PlayI.nil : PlayI [] := ⟨List.Pairwise.nil, by simp, fun x hx => by simp at hx⟩
theorem play_k9 {key : ByteArray} {again : (List Api_Pin) × (List Api_Pin) × Int → Option Bool} {v : (List Api_Pin) × (List Api_Pin) × Int} {q : List Api_Pin} (hq : PlayI q) : law16_PinsPlay_k9 key again v (q, q) () = again (q, q, IntKind.wrap .i64 (v.2.2 + 1)) := by
  have hf := flatP_len (n := 5) (m := 8) hq.2.2 hq.2.1
  have h8 := hq.2.1
  have ho := ofP_len key (flatP q)
  unfold law16_PinsPlay_k9
  simp only
  rw [pins_All_eq (by omega), ref16_All_eq (by omega) (by omega), pins_Of_eq (by omega), ref16_Of_eq (by omega) (by omega)]
  simp only [Option.bind_some]
  rw [sameDeps_refl (by omega)]
  simp only [Option.bind_some, Bool.not_true, Bool.false_eq_true, if_false, decide_true]
  unfold law16_PinsPlay_k10
  simp only [Bool.false_eq_true, if_false]
  generalize ofP key (flatP q) = s at ho
  refine loopF_inv (fun (i : Int) => 0 ≤ i ∧ i ≤ (s.length : Int)) (fun i => ((s.length : Int) - i).toNat) (fun _ => again (q, q, IntKind.wrap .i64 (v.2.2 + 1))) ?_ FU 0 ⟨Int.le_refl _, by omega⟩ (by have := FU_big; omega)
  rintro again2 i' ⟨g1, g2⟩ hag
  obtain ⟨i, rfl⟩ : ∃ i : Nat, i' = i := ⟨i'.toNat, by omega⟩
  unfold law16_PinsPlay_l12
  by_cases c : (i : Int) < (s.length : Int)
  · rw [if_pos (by simpa using c), idx_at (show i < s.length by omega)]
    simp only [Option.bind_some, decide_true, Bool.and_self, Bool.not_true, Bool.false_eq_true, if_false]
    rw [wrap64 (by omega) (by omega)]
    exact hag _ ⟨by omega, by omega⟩ (by omega)
  · rw [if_neg (by simpa using c)]
    rfl
theorem play_k8 {key : ByteArray} {again : (List Api_Pin) × (List Api_Pin) × Int → Option Bool} {v : (List Api_Pin) × (List Api_Pin) × Int} {q : List Api_Pin} (x : Api_Pin) (hq : PlayI q) : law16_PinsPlay_k8 key again v x (q, q) = again (q, q, IntKind.wrap .i64 (v.2.2 + 1)) := by
  have h8 := hq.2.1
  unfold law16_PinsPlay_k8
  simp only
  obtain ⟨y, hy, hy2⟩ := pins_Get_eq hq.1 (by omega) x.ID
  rw [hy]
  simp only [Option.bind_some]
  cases h : hasI q x.ID with
  | false =>
    rw [ref16_At_none (by omega) h]
    simp only [Option.bind_some]
    rw [if_neg (by decide), if_neg (by decide)]
    exact play_k9 hq
  | true =>
    obtain ⟨k, hk, e⟩ := hasI_get h
    obtain ⟨hm, hid⟩ := hy2 h
    have hyk : y = q[k] := by
      obtain ⟨j, hj, rfl⟩ := List.getElem_of_mem hm
      rcases Nat.lt_trichotomy j k with c | c | c
      · have := sortedI_lt hq.1 c hk; omega
      · subst c; rfl
      · have := sortedI_lt hq.1 c hj; omega
    have hd := hq.2.2 y hm
    rw [← e, ref16_At_some hq.1 (by omega) hk]
    simp only [Option.bind_some]
    rw [decide_eq_true (show (0 : Int) ≤ (k : Int) by omega), if_neg (by simp), if_pos rfl, idx_at hk]
    simp only [Option.bind_some]
    rw [← hyk, sameDeps_refl (by omega)]
    simp only [Option.bind_some, Bool.not_true, Bool.false_eq_true, if_false]
    exact play_k9 hq
theorem play_k6 {key : ByteArray} {again : (List Api_Pin) × (List Api_Pin) × Int → Option Bool} {p : List Api_Pin} {i : Int} {a : List Api_Pin} (e : Int) (x : Api_Pin) (hp : PlayI p) (ha : PlayI a) : ∃ q, PlayI q ∧ law16_PinsPlay_k6 key again (p, p, i) x (a, a, e, e) = again (q, q, IntKind.wrap .i64 (i + 1)) := by
  have h8 := ha.2.1
  unfold law16_PinsPlay_k6
  simp only
  rw [same_refl (by omega) fun y hy => by have := ha.2.2 y hy; omega]
  simp only [Option.bind_some, Bool.not_true, Bool.false_eq_true, if_false, decide_true]
  unfold law16_PinsPlay_k7
  simp only [Bool.false_eq_true, if_false]
  by_cases c : e = 0
  · rw [if_pos (decide_eq_true c)]
    exact ⟨a, ha, play_k8 x ha⟩
  · rw [if_neg (by simpa using c)]
    exact ⟨p, hp, play_k8 x hp⟩
theorem play_k5 {key : ByteArray} {again : (List Api_Pin) × (List Api_Pin) × Int → Option Bool} {p : List Api_Pin} {i : Int} (b : Bool) (x : Api_Pin) (hx : x.Deps.length ≤ 5) (hp : PlayI p) : ∃ q, PlayI q ∧ law16_PinsPlay_k5 key again (p, p, i) x b = again (q, q, IntKind.wrap .i64 (i + 1)) := by
  have h8 := hp.2.1
  unfold law16_PinsPlay_k5
  cases b with
  | true =>
    simp only [if_true]
    rw [pins_Drop_eq hp.1 (by omega), ref16_Drop_eq hp.1 (by omega)]
    simp only [Option.bind_some]
    refine play_k6 _ x hp ?_
    split
    · exact ⟨hp.1.filter _, Nat.le_trans (List.length_filter_le _ _) h8, fun y hy => hp.2.2 y (List.mem_filter.1 hy).1⟩
    · exact PlayI.nil
  | false =>
    simp only [Bool.false_eq_true, if_false]
    rw [pins_Put_eq hp.1 (by omega), ref16_Put_eq hp.1 (by omega)]
    simp only [Option.bind_some]
    refine play_k6 _ x hp ?_
    by_cases c1 : x.ID < 1
    · rw [if_pos c1]; exact PlayI.nil
    rw [if_neg c1]
    cases c2 : hasI p x.ID with
    | true => exact PlayI.nil
    | false =>
      simp only [Bool.false_eq_true, if_false]
      by_cases c3 : 8 ≤ p.length
      · rw [if_pos c3]; exact PlayI.nil
      · rw [if_neg c3]
        exact ⟨insI_sorted hp.1 (hasI_false c2), by rw [insI_length]; omega, fun y hy => (insI_mem.1 hy).elim (fun e => by rw [e]; exact hx) (hp.2.2 y)⟩
theorem law16_PinsPlay_plain (script_0 : (List Api_Pin)) (out_1 : (List Bool)) (key_2 : ByteArray) (h0 : script_0.length ≤ reachBytes ∧ ∀ x, x ∈ script_0 → wfApi_Pin x) (_h1 : out_1.length ≤ reachBytes ∧ ∀ x, x ∈ out_1 → True) (_h2 : key_2.size ≤ reachBytes) : law16_PinsPlay script_0 out_1 key_2 = some true := by
  unfold law16_PinsPlay
  rw [law16_awake_eq]
  simp only [Option.bind_some]
  refine loopF_inv (fun (v : List Api_Pin × List Api_Pin × Int) => 0 ≤ v.2.2 ∧ v.2.2 ≤ 30 ∧ v.1 = v.2.1 ∧ PlayI v.1) (fun v => (30 - v.2.2).toNat) (fun _ => some true) ?_ FU ([], [], 0) ⟨Int.le_refl _, by simp, rfl, PlayI.nil⟩ (by have := FU_big; simp only; omega)
  rintro again ⟨p, p', i⟩ ⟨g1, g2, g3, g4⟩ hag
  simp only at g1 g2 g3 g4 hag
  subst g3
  unfold law16_PinsPlay_l2 law16_PinsPlay_k3
  simp only
  by_cases c1 : i < (script_0.length : Int)
  · rw [if_pos (by simpa using c1)]
    by_cases c2 : i < 30
    · obtain ⟨k, rfl⟩ : ∃ k : Nat, i = k := ⟨i.toNat, by omega⟩
      have hk : k < script_0.length := by omega
      rw [if_pos (by simpa using c2), idx_at hk]
      simp only [Option.bind_some]
      obtain ⟨x, hx, -, hxl⟩ := few16_tot (h0.2 _ (List.getElem_mem hk)).2.1
      rw [hx]
      simp only [Option.bind_some]
      have fin : ∀ b, law16_PinsPlay_k5 key_2 again (p, p, (k : Int)) x b = some true := fun b => by
        obtain ⟨q, hq, e⟩ := play_k5 (key := key_2) (again := again) (i := (k : Int)) b x hxl g4
        rw [e, wrap64 (by omega) (by omega)]
        exact hag _ ⟨by simp only; omega, by simp only; omega, rfl, hq⟩ (by simp only; omega)
      by_cases c3 : k < out_1.length
      · rw [if_pos (decide_eq_true (by omega)), idx_at c3]
        exact fin _
      · rw [if_neg (by rw [decide_eq_true_eq]; omega)]
        exact fin _
    · rw [if_neg (by simpa using c2)]; rfl
  · rw [if_neg (by simpa using c1), if_neg (by simp)]; rfl
end Go.Ark
