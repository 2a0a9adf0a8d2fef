/- The plain law of HistoryOf: the events of all clients, put together again, are all; those of one are right by themselves. Conditions: none but those that stand in each law. -/
import Derived.Test.YtdngcojjipaajaaPlaw20
import Derived.Test.YtdngcojjipaajaaPhist3
namespace Go.Ark
open Go Go.Ab Go.RowKit

theorem HI.client {l : List Law20_Act} {out : List Api_Event} {n : Nat} (h : HI l out n) {e : Api_Event} (he : e ∈ out) : 0 ≤ e.Client ∧ e.Client ≤ 3 := by
  obtain ⟨-, -, -, -, -, a, -, h1⟩ := h.each e he
  rw [h1]; exact and3_le _
def sumC (l : List Api_Event) : Nat → Nat
  | 0 => 0
  | n + 1 => sumC l n + (ofC l n).length
theorem ofC_cons (e : Api_Event) (l : List Api_Event) (c : Int) : (ofC (e :: l) c).length = (ofC l c).length + if e.Client = c then 1 else 0 := by
  unfold ofC
  rw [List.filter_cons]
  by_cases h : e.Client = c
  · rw [if_pos (by simpa using h), if_pos h]; simp
  · rw [if_neg (by simpa using h), if_neg h]; simp
theorem sumC_cons (e : Api_Event) (l : List Api_Event) : ∀ n, sumC (e :: l) n = sumC l n + if 0 ≤ e.Client ∧ e.Client < n then 1 else 0
  | 0 => by
    rw [if_neg (by omega)]; rfl
  | n + 1 => by
    rw [sumC, sumC, sumC_cons e l n, ofC_cons]
    by_cases h : e.Client = n
    · rw [if_neg (by omega), if_pos h, if_pos (by omega)]
      omega
    · rw [if_neg h]
      by_cases h2 : 0 ≤ e.Client ∧ e.Client < n
      · rw [if_pos h2, if_pos (by omega)]
        omega
      · rw [if_neg h2, if_neg (by omega)]
        omega
theorem sumC_all : ∀ {l : List Api_Event}, (∀ e, e ∈ l → 0 ≤ e.Client ∧ e.Client ≤ 3) → sumC l 4 = l.length
  | [], _ => rfl
  | e :: l, h => by
    have h1 := h e (by simp)
    rw [sumC_cons, sumC_all fun x hx => h x (by simp [hx]), if_pos (by omega)]
    rfl
theorem ofC_at {l : List Api_Event} {i : Nat} (hi : i < l.length) : ∃ h : (ofC (l.take i) l[i].Client).length < (ofC l l[i].Client).length, (ofC l l[i].Client)[(ofC (l.take i) l[i].Client).length] = l[i] := by
  have e : ofC l l[i].Client = ofC (l.take i) l[i].Client ++ l[i] :: ofC (l.drop (i + 1)) l[i].Client := by
    have : ∀ c, l[i].Client = c → ofC l c = ofC (l.take i) c ++ l[i] :: ofC (l.drop (i + 1)) c := fun c hc => by
      have h2 : ofC (l.take i ++ l[i] :: l.drop (i + 1)) c = ofC (l.take i) c ++ l[i] :: ofC (l.drop (i + 1)) c := by
        unfold ofC
        rw [List.filter_append, List.filter_cons, if_pos (by simpa using hc)]
      rwa [← List.drop_eq_getElem_cons hi, List.take_append_drop] at h2
    exact this _ rfl
  generalize l[i] = x at e
  refine ⟨by rw [e]; simp, ?_⟩
  simp only [e]
  rw [List.getElem_append_right (Nat.le_refl _)]
  simp
theorem sub_one {α : Type} {l : List α} {i : Nat} (hi : i < l.length) : sub l (i : Int) ((i : Int) + 1) = some [l[i]] := by
  unfold sub
  rw [if_pos ⟨by omega, by omega, by omega⟩, show ((i : Int) + 1).toNat = i + 1 by omega, Int.toNat_natCast, take_snoc' hi, List.drop_append_of_le_length (by simp; omega), List.drop_of_length_le (by simp; omega)]
  rfl

theorem law20_HistoryOf_plain (l_0 : (List Law20_Act)) (h0 : l_0.length ≤ reachBytes ∧ ∀ x, x ∈ l_0 → wfLaw20_Act x) : law20_HistoryOf l_0 = some true := by
  have hr : reachBytes = 140737488351232 := rfl
  obtain ⟨l, hl, h⟩ := law20_made_tot (l := l_0) (by have := h0.1; omega)
  have hlen := h.len
  have hev := h.evs
  unfold law20_HistoryOf
  rw [law20_awake_eq, hl]
  simp only [Option.bind_some]
  refine loopF_inv (fun (v : Int × Int × List (List Api_Event)) => 0 ≤ v.2.1 ∧ v.2.1 ≤ 4 ∧ v.1 = (sumC l v.2.1.toNat : Nat) ∧ v.1 ≤ 16 * v.2.1 ∧ v.2.2.length = 4 ∧ ∀ c : Nat, (hc : c < v.2.2.length) → (c : Int) < v.2.1 → v.2.2[c] = ofC l c) (fun v => (4 - v.2.1).toNat) (fun _ => some true) ?_ FU _ ⟨Int.le_refl _, by simp, by simp [sumC], by simp, by simp, fun c _ h => by simp at h; omega⟩ (by have := FU_big; simp only; omega)
  rintro again ⟨n, v, of⟩ ⟨h1, h2, h3, h4, h5, h6⟩ hag
  simp only at h1 h2 h3 h4 h5 h6
  obtain ⟨k, rfl⟩ : ∃ k : Nat, v = k := ⟨v.toNat, by omega⟩
  simp only [Int.toNat_natCast] at h3
  unfold law20_HistoryOf_l11
  simp only
  by_cases c : (k : Int) < 4
  · have hofl := ofC_len l k
    have hget : ∀ s : List (List Api_Event), s.length = 4 → ∃ y, aidx 4 s (k : Int) = some y ∧ s[k]? = some y := fun s hs => by
      unfold aidx
      rw [if_pos (by omega), Int.toNat_natCast, List.getElem?_eq_getElem (by omega)]
      exact ⟨_, rfl, rfl⟩
    obtain ⟨y1, e1, -⟩ := hget of h5
    have hset : asets 4 of (k : Int) (ofC l k) = some (of.set k (ofC l k)) := by
      unfold asets
      rw [if_pos (by omega), Int.toNat_natCast]
    obtain ⟨y2, e2, e3⟩ := hget (of.set k (ofC l k)) (by simp [h5])
    rw [List.getElem?_set_self (by omega)] at e3
    have e3 := Option.some.inj e3
    subst e3
    rw [if_pos (by simpa using c), history_Of_eq (by omega), Option.bind_some, e1, Option.bind_some, hset, Option.bind_some, e2, Option.bind_some, wrap64 (by omega) (by omega), wrap64 (by omega) (by omega)]
    refine hag _ ⟨by simp only; omega, by simp only; omega, ?_, by simp only; omega, by simp [h5], fun c hc hlt => ?_⟩ (by simp only; omega)
    · simp only [show ((k : Int) + 1).toNat = k + 1 by omega]
      rw [sumC]
      omega
    · simp only at hc hlt ⊢
      rw [List.getElem_set]
      by_cases e : k = c
      · rw [if_pos e, e]
      · rw [if_neg e]
        exact h6 c (by simpa using hc) (by omega)
  · rw [if_neg (by simpa using c)]
    have hk4 : k = 4 := by omega
    subst hk4
    rw [sumC_all fun e he => h.client he] at h3
    have hof : ∀ c : Nat, c < 4 → aidx 4 of (c : Int) = some (ofC l c) := fun c hc => by
      unfold aidx
      rw [if_pos (by omega), Int.toNat_natCast, List.getElem?_eq_getElem (by omega), h6 c (by omega) (by omega)]
    unfold law20_HistoryOf_k1
    refine loopF_inv (fun (v : Int × List Int) => 0 ≤ v.1 ∧ v.1 ≤ (l.length : Int) ∧ v.2.length = 4 ∧ ∀ c : Nat, (hc : c < v.2.length) → v.2[c] = ((ofC (l.take v.1.toNat) c).length : Int)) (fun v => ((l.length : Int) - v.1).toNat) (fun _ => some true) ?_ FU _ ⟨Int.le_refl _, by simp, by simp, fun c hc => by simp only [List.getElem_replicate]; simp [ofC]⟩ (by have := FU_big; simp only; omega)
    rintro again2 ⟨v, at_⟩ ⟨g1, g2, g3, g4⟩ hag2
    simp only at g1 g2 g3 g4
    obtain ⟨i, rfl⟩ : ∃ i : Nat, v = i := ⟨v.toNat, by omega⟩
    simp only [Int.toNat_natCast] at g4
    unfold law20_HistoryOf_l9
    simp only
    by_cases c2 : (i : Int) < (l.length : Int)
    · have hi : i < l.length := by omega
      obtain ⟨b1, b2⟩ := h.client (List.getElem_mem hi)
      have hp := h.parts (List.getElem_mem hi)
      obtain ⟨m1, m2⟩ := ofC_at hi
      rw [if_pos (by simpa using c2), idx_at hi, Option.bind_some, if_neg (by simp; omega), if_neg (by simp; omega)]
      obtain ⟨j, hj⟩ : ∃ j : Nat, l[i].Client = j := ⟨l[i].Client.toNat, by omega⟩
      have hat : aidx 4 at_ (j : Int) = some ((ofC (l.take i) j).length : Int) := by
        unfold aidx
        rw [if_pos (by omega), Int.toNat_natCast, List.getElem?_eq_getElem (by omega), g4 j (by omega)]
      have hset : ∀ x : Int, asets 4 at_ (j : Int) x = some (at_.set j x) := fun x => by
        unfold asets
        rw [if_pos (by omega), Int.toNat_natCast]
      have hsn : ∀ c : Int, ofC (l.take (i + 1)) c = if l[i].Client = c then ofC (l.take i) c ++ [l[i]] else ofC (l.take i) c := fun c => by rw [take_snoc' hi, ofC_snoc]
      have hol := ofC_len (l.take i) j
      rw [List.length_take] at hol
      unfold law20_HistoryOf_k10
      simp only [hj] at m1 m2 ⊢
      rw [hat, hof j (by omega)]
      simp only [Option.bind_some]
      rw [if_neg (by simp; omega), wrap64 (by omega) (by omega), sub_one hi, Option.bind_some, wrap64 (by omega) (by omega), sub_one m1, m2]
      simp only [Option.bind_some]
      rw [ref20_Same_eq (by simp) (fun e he => by simp at he; subst he; omega), decide_eq_true rfl, Option.bind_some, if_neg (by decide), hset, Option.bind_some]
      refine hag2 _ ⟨by simp only; omega, by simp only; omega, by simp [g3], fun c hc => ?_⟩ (by simp only; omega)
      simp only at hc ⊢
      simp only [show ((i : Int) + 1).toNat = i + 1 by omega]
      rw [List.getElem_set, hsn]
      by_cases e : j = c
      · subst e
        rw [if_pos rfl, if_pos hj]
        simp
      · rw [if_neg e, if_neg (by omega)]
        exact g4 c (by simpa using hc)
    · rw [if_neg (by simpa using c2)]
      unfold law20_HistoryOf_k2
      refine loopF_inv (fun (v : Int × List Law20_Act) => 0 ≤ v.1 ∧ v.1 ≤ 16 ∧ v.2.length ≤ v.1.toNat ∧ ∀ a, a ∈ v.2 → a.Client = 2) (fun v => (16 - v.1).toNat) (fun _ => some true) ?_ FU (0, []) ⟨Int.le_refl _, by simp, by simp, fun a h => by simp at h⟩ (by have := FU_big; simp only; omega)
      rintro again3 ⟨v, mine⟩ ⟨f1, f2, f3, f4⟩ hag3
      simp only at f1 f2 f3 f4
      have hend : law20_HistoryOf_k3 true l (n, of) mine = some true := by
        obtain ⟨own, ho, q⟩ := law20_made_tot (l := mine) (by omega)
        have hown : ∀ e, e ∈ own → e.Client = 2 := fun e he => by
          obtain ⟨-, -, -, -, -, a, ha, h1⟩ := q.each e he
          rw [h1, f4 a ha]
          decide +kernel
        have hql := q.len
        unfold law20_HistoryOf_k3
        rw [ho, Option.bind_some, if_pos rfl, decide_eq_true (show n = (l.length : Int) by omega)]
        unfold law20_HistoryOf_k4
        rw [if_pos rfl, history_Check_eq q.evs (by omega), q.good.fine, Option.bind_some, decide_eq_true rfl]
        unfold law20_HistoryOf_k5
        have e2 : ofC own 2 = own := List.filter_eq_self.2 fun e he => by simp [hown e he]
        have e1 : ofC own 1 = [] := List.filter_eq_nil_iff.2 fun e he => by simp [hown e he]
        rw [if_pos rfl, history_Of_eq (by omega), e2, Option.bind_some, decide_eq_true rfl]
        unfold law20_HistoryOf_k6
        rw [if_pos rfl, history_Of_eq (by omega), e1]
        rfl
      unfold law20_HistoryOf_l7 law20_HistoryOf_k8
      simp only
      by_cases c3 : v < (l_0.length : Int)
      · rw [if_pos (by simpa using c3)]
        by_cases c16 : v < 16
        · rw [if_pos (by simpa using c16), idx_int f1 c3, Option.bind_some, app_ok (by simp; omega) (by simp; omega), Option.bind_some, wrap64 (by omega) (by omega)]
          refine hag3 _ ⟨by simp only; omega, by simp only; omega, by simp only [List.length_append, List.length_cons, List.length_nil]; omega, fun a ha => ?_⟩ (by simp only; omega)
          rcases List.mem_append.1 ha with ha | ha
          · exact f4 a ha
          · simp at ha
            subst ha
            rfl
        · rw [if_neg (by simpa using c16)]
          exact hend
      · rw [if_neg (by simpa using c3), if_neg (by decide)]
        exact hend
end Go.Ark
