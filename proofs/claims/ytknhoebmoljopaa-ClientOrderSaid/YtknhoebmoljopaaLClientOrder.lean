/- The plain law of ClientOrder: whichever order versions are seen in, the same was seen. Conditions: none but those that stand in each law. -/
import Derived.Test.YtknhoebmoljopaaPlaw15
namespace Go.Ark
open Go Go.Ab Go.RowKit

theorem law15_ClientOrder_plain (q_0 : Law15_Ask) (_h0 : wfLaw15_Ask q_0) : law15_ClientOrder q_0 = some true := by
  obtain ⟨p, hp, hP⟩ := law15_row_tot q_0.Past
  obtain ⟨v, hv, hV⟩ := law15_few_tot q_0.Versions
  have hvl := hV.1
  have hs := sawP_SI (RI_SI hP) hV.2
  have hsl := hs.2.2.2
  unfold law15_ClientOrder
  rw [law15_awake_eq, hp, hv]
  simp only [Option.bind_some]
  have hsaw : client_Saw ⟨0, p⟩ v = some ⟨0, sawP p v⟩ := client_Saw_eq (n := 6) (s := ⟨0, p⟩) (RI_SI hP) (by decide) (by omega) hV.2
  rw [hsaw]
  simp only [Option.bind_some]
  refine loopF_inv (fun (t : Int × Int × List Api_Dep × Int × List Api_Dep) => 0 ≤ t.1 ∧ t.1 ≤ (v.length : Int) ∧ t.2.1 = 0 ∧ t.2.2.1 = sawP p (v.take t.1.toNat) ∧ t.2.2.2.1 = 0 ∧ t.2.2.2.2 = sawP p (v.reverse.take t.1.toNat)) (fun t => ((v.length : Int) - t.1).toNat) (fun _ => some true) ?_ FU (0, 0, p, 0, p) ⟨Int.le_refl _, by simp, rfl, by simp [sawP], rfl, by simp [sawP]⟩ (by have := FU_big; simp only; omega)
  rintro again ⟨i', sa, a, sb, b⟩ ⟨h1, h2, h3, h4, h5, h6⟩ hag
  simp only at h1 h2 h3 h4 h5 h6
  obtain ⟨i, rfl⟩ : ∃ i : Nat, i' = i := ⟨i'.toNat, by omega⟩
  simp only [Int.toNat_natCast] at h4 h6
  subst h3 h4 h5 h6
  have e : ((i : Int) + 1).toNat = i + 1 := by omega
  have hta : ∀ x, x ∈ v.take i → x.Key.size ≤ 12 ∧ RI x.Past := fun x hx => hV.2 x (List.mem_of_mem_take hx)
  have htb : ∀ x, x ∈ v.reverse.take i → x.Key.size ≤ 12 ∧ RI x.Past := fun x hx => hV.2 x (List.mem_reverse.1 (List.mem_of_mem_take hx))
  have hsa := sawP_SI (RI_SI hP) hta
  have hsb := sawP_SI (RI_SI hP) htb
  have hla : (v.take i).length ≤ 4 := by rw [List.length_take]; omega
  have hlb : (v.reverse.take i).length ≤ 4 := by rw [List.length_take, List.length_reverse]; omega
  unfold law15_ClientOrder_l2
  simp only
  by_cases c : (i : Int) < (v.length : Int)
  · have hi : i < v.length := by omega
    rw [if_pos (by simpa using c), idx_at hi]
    simp only [Option.bind_some]
    rw [client_Saw_eq (s := ⟨0, sawP p (v.take i)⟩) hsa (by omega) (by simp) (fun x hx => by simp at hx; rw [hx]; exact hV.2 _ (List.getElem_mem hi))]
    simp only [Option.bind_some]
    rw [wrap64 (n := (v.length : Int) - 1) (by omega) (by omega), wrap64 (n := (v.length : Int) - 1 - (i : Int)) (by omega) (by omega), show ((v.length : Int) - 1 - (i : Int)) = ((v.length - 1 - i : Nat) : Int) by omega, idx_at (show v.length - 1 - i < v.length by omega)]
    simp only [Option.bind_some]
    rw [client_Saw_eq (s := ⟨0, sawP p (v.reverse.take i)⟩) hsb (by omega) (by simp) (fun x hx => by simp at hx; rw [hx]; exact hV.2 _ (List.getElem_mem _))]
    simp only [Option.bind_some]
    rw [wrap64 (by omega) (by omega)]
    refine hag _ ⟨by simp only; omega, by simp only; omega, rfl, ?_, rfl, ?_⟩ (by simp only; omega)
    · simp only [e]
      rw [List.take_add_one, List.getElem?_eq_getElem hi]
      unfold sawP
      rw [List.foldl_append, Option.toList_some, List.foldl_cons, List.foldl_nil]
    · simp only [e]
      rw [List.take_add_one, List.getElem?_eq_getElem (by simpa using hi), List.getElem_reverse]
      unfold sawP
      rw [List.foldl_append, Option.toList_some, List.foldl_cons, List.foldl_nil]
  · rw [if_neg (by simpa using c)]
    have hrev : sawP p v.reverse = sawP p v := sawP_ext (RI_SI hP) hV.2 fun x => List.mem_reverse
    unfold law15_ClientOrder_k1
    simp only
    rw [List.take_of_length_le (by omega), List.take_of_length_le (by simp; omega), hrev, ref15_Same_eq (by simp only; omega)]
    simp
end Go.Ark
