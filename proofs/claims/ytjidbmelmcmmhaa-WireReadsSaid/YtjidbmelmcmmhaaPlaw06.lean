/- Plain laws: what chapter 06's laws make of versions. Conditions: none but those that stand in each law. -/
import Derived.Test.YtjidbmelmcmmhaaPwireb
import Derived.Test.YtjidbmelmcmmhaaFlaw06
namespace Go.Ark
open Go Go.Ab Go.RowKit

theorem law06_awake_eq : law06_awake = some true := by decide +kernel

/-- what is known of a version that was made -/
def VI (v : Api_Version) : Prop := v.Key.size ≤ 40 ∧ v.Value.size ≤ 40 ∧ v.Past.length ≤ 8 ∧ sortedP v.Past ∧ (∀ d, d ∈ v.Past → okDep d = true) ∧ ∀ d, d ∈ v.Past → d.Key.size ≤ 12
theorem VI.small {v : Api_Version} (h : VI v) : smallB v := ⟨by have := h.1; omega, by have := h.2.1; omega, by have := h.2.2.1; omega, fun d hd => by have := h.2.2.2.2.2 d hd; omega⟩

theorem ssub_to (a : ByteArray) (n : Nat) (h : n < a.size) : ∃ t, ssub a 0 (n : Int) = some t ∧ t.size ≤ n := by
  refine ⟨a.extract 0 n, ?_, by rw [ByteArray.size_extract]; omega⟩
  simp only [ssub]; rw [if_pos ⟨by omega, by omega, by omega⟩, Int.toNat_natCast]; rfl

theorem law06_few_tot (v : Api_Version) : ∃ w, law06_few v = some w ∧ VI w := by
  have hk2 : ∀ a b : ByteArray, a.size ≤ 40 → b.size ≤ 40 → ∃ w, law06_few_k2 v a b = some w ∧ VI w := by
    intro a b ha hb
    unfold law06_few_k2
    refine loopF_tot (fun (q : List Api_Dep × Int) => 0 ≤ q.2 ∧ q.2 ≤ 8 ∧ sortedP q.1 ∧ (∀ d, d ∈ q.1 → okDep d = true) ∧ (∀ d, d ∈ q.1 → d.Key.size ≤ 12) ∧ (q.1.length : Int) ≤ q.2) (fun q => (8 - q.2).toNat) VI ?_ FU ([], 0) ⟨Int.le_refl _, by simp, List.Pairwise.nil, fun v h => by simp at h, fun v h => by simp at h, by simp⟩ (by have := FU_big; simp only; omega)
    rintro again ⟨c, i⟩ ⟨h1, h2, h3, h4, h5, h6⟩ hag
    simp only at h1 h2 h3 h4 h5 h6
    unfold law06_few_l4 law06_few_k5 law06_few_k3
    simp only
    have hend : ∃ w, some (Api_Version.mk a b v.Gone v.Stamp c) = some w ∧ VI w := ⟨_, rfl, ha, hb, by show c.length ≤ 8; omega, h3, h4, h5⟩
    by_cases c1 : i < (v.Past.length : Int)
    · rw [if_pos (by simpa using c1)]
      by_cases c2 : i < 8
      · rw [if_pos (by simpa using c2), idx_int h1 c1]
        simp only [Option.bind_some]
        generalize v.Past[i.toNat]'(by omega) = d
        have hk6 : ∀ k : ByteArray, k.size ≤ 12 → ∃ w, law06_few_k6 again (c, i) d k = some w ∧ VI w := fun k hk => by
          unfold law06_few_k6
          simp only
          rw [ref04_Add_eq (by omega) (by simp only; omega), wrap64 (n := i + 1) (by omega) (by omega)]
          simp only [Option.bind_some]
          have := addP_length c ⟨k, d.Stamp⟩
          exact hag _ ⟨by simp only; omega, by simp only; omega, addP_sorted h3, addP_ok h4 _, fun x hx => (addP_mem hx).elim (fun e => by rw [e]; exact hk) (h5 x), by simp only; omega⟩ (by simp only; omega)
        by_cases c3 : 12 < d.Key.size
        · obtain ⟨t, h7, h8⟩ := ssub_to d.Key 12 c3
          rw [if_pos (decide_eq_true (by omega)), show (12 : Int) = ((12 : Nat) : Int) from rfl, h7]
          simp only [Option.bind_some]
          exact hk6 t h8
        · rw [if_neg (fun e => absurd (of_decide_eq_true e) (by omega))]
          exact hk6 _ (by omega)
      · rw [if_neg (by simpa using c2)]; exact hend
    · rw [if_neg (by simpa using c1), if_neg (by simp)]; exact hend
  have hk1 : ∀ a : ByteArray, a.size ≤ 40 → ∃ w, law06_few_k1 v a = some w ∧ VI w := by
    intro a ha
    unfold law06_few_k1
    by_cases c : 40 < v.Value.size
    · obtain ⟨t, h7, h8⟩ := ssub_to v.Value 40 c
      rw [if_pos (decide_eq_true (by omega)), show (40 : Int) = ((40 : Nat) : Int) from rfl, h7]
      simp only [Option.bind_some]
      exact hk2 a t ha h8
    · rw [if_neg (fun e => absurd (of_decide_eq_true e) (by omega))]
      exact hk2 a _ ha (by omega)
  unfold law06_few
  by_cases c : 40 < v.Key.size
  · obtain ⟨t, h7, h8⟩ := ssub_to v.Key 40 c
    rw [if_pos (decide_eq_true (by omega)), show (40 : Int) = ((40 : Nat) : Int) from rfl, h7]
    simp only [Option.bind_some]
    exact hk1 t h8
  · rw [if_neg (fun e => absurd (of_decide_eq_true e) (by omega))]
    exact hk1 _ (by omega)

/-- what was written is read -/
theorem read_ver {v : Api_Version} (h : smallB v) (ok : okVersion v = true) : wire_Read (ofL (verL v)) = some (v, true) := by
  have hl := verL_len h
  rw [wire_Read_eq (by rw [ofL_size]; omega), bl_ofL]
  have := rdV_ver ok []
  rw [List.append_nil] at this
  rw [this, ofL_size]
  rw [resV_some, if_pos ⟨rfl, ok⟩]
theorem verL_inj {v w : Api_Version} (h1 : okVersion v = true) (h2 : okVersion w = true) (h : verL v = verL w) : v = w := by
  have a := rdV_ver h1 []
  have b := rdV_ver h2 []
  rw [h, b] at a
  exact (congrArg Prod.fst (Option.some.inj a)).symm
theorem verB_seq {v w : Api_Version} (h1 : okVersion v = true) (h2 : okVersion w = true) : seq (verB v) (verB w) = decide (v = w) := by
  rw [seq_eq]
  unfold verB
  rw [h1, h2]
  simp only [if_true]
  by_cases c : v = w
  · subst c; simp
  · rw [decide_eq_false c, decide_eq_false fun e => c (verL_inj h1 h2 (by rw [← bl_ofL (verL v), e, bl_ofL]))]
end Go.Ark
