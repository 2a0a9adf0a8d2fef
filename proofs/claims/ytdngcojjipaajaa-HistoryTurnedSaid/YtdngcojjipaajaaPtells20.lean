/- Plain law: whatever a row of events is, it is told, and found right or not, as the document says. Conditions: none but those that stand in each law. -/
import Derived.Test.YtdngcojjipaajaaPhist3
import Derived.Test.YtdngcojjipaajaaFlaw20
namespace Go.Ark
open Go Go.Ab Go.RowKit

theorem law20_tells_eq {l : List Api_Event} (hs : ∀ e, e ∈ l → EvS e) (hl : l.length ≤ 1000) (key : ByteArray) {q : List Int} (hq : q.length = 2) : law20_tells l key q = some true := by
  unfold law20_tells
  have hw := wrK_len l key
  rw [history_Writes_eq (by omega), Option.bind_some, ref20_Writes_eq (by omega), Option.bind_some, if_neg (by simp)]
  refine loopF_inv (fun (v : Int) => 0 ≤ v) (fun v => (((wrK l key).length : Int) - v).toNat) (fun _ => some true) ?_ FU 0 (Int.le_refl _) (by have := FU_big; omega)
  rintro again v h1 hag
  unfold law20_tells_l4
  by_cases c : v < ((wrK l key).length : Int)
  · rw [if_pos (by simpa using c), idx_int h1 c]
    simp only [Option.bind_some]
    rw [if_neg (by simp), wrap64 (by omega) (by omega)]
    exact hag _ (by omega) (by omega)
  · rw [if_neg (by simpa using c)]
    have h0 : ∃ a, aidx 2 q 0 = some a := by
      unfold aidx
      rw [if_pos (by omega)]
      exact ⟨q[0], List.getElem?_eq_getElem (by omega)⟩
    have h1 : ∃ a, aidx 2 q 1 = some a := by
      unfold aidx
      rw [if_pos (by omega)]
      exact ⟨q[1], List.getElem?_eq_getElem (by omega)⟩
    obtain ⟨a, ha⟩ := h0
    obtain ⟨b, hb⟩ := h1
    unfold law20_tells_k1
    rw [ha, hb]
    simp only [Option.bind_some]
    have hol := ofC_len l a
    rw [history_Of_eq (by omega), Option.bind_some, ref20_Of_eq (by omega), Option.bind_some, ref20_Same_eq (by omega) (fun e he => by have := (hs e (List.mem_filter.1 he).1).seen; omega), Option.bind_some,
      history_Behind_eq hs, Option.bind_some, ref20_Behind_eq hs, Option.bind_some, ref04_Same_eq ?_, Option.bind_some]
    · simp only [decide_true, if_true]
      unfold law20_tells_k2
      rw [if_pos rfl, history_Check_eq hs (by omega), Option.bind_some, ref20_Check_eq hs (by omega), Option.bind_some, decide_eq_true rfl]
      unfold law20_tells_k3
      rw [if_pos rfl, history_Greatest_eq (by omega), Option.bind_some, ref03_Max_eq (by omega), Option.bind_some]
      simp
    · unfold behP
      split
      · simp
      · split
        · rename_i x hx
          have := behE_len x
          have := (hs x (List.mem_of_getElem? hx)).seen
          omega
        · simp
end Go.Ark
