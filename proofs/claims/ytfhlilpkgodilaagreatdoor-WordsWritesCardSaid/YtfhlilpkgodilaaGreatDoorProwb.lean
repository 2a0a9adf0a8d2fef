import Derived.Test.YtfhlilpkgodilaaGreatDoorProws
/- Plain laws: the bytes of rows. Conditions: none but those that stand in each law. -/
namespace Go.Ark
open Go Go.Ab Go.RowKit

def endsL (l : List Api_Range) : List UInt8 := l.flatMap fun r => textL r.To
def ownsL (l : List Int) : List UInt8 := l.flatMap fun o => numL o.toNat
def parsL (l : List Int) : List UInt8 := l.flatMap fun p => numL (p + 1).toNat
def rowL (c : Api_Row) : List UInt8 := numL c.Ranges.length ++ (endsL (c.Ranges.take (c.Ranges.length - 1)) ++ (ownsL c.Owners ++ (numL c.Parents.length ++ parsL c.Parents)))
theorem flat_take {α : Type} (f : α → List UInt8) {l : List α} {i : Nat} (h : i < l.length) : (l.take (i + 1)).flatMap f = (l.take i).flatMap f ++ f l[i] := by
  rw [List.take_add_one, List.getElem?_eq_getElem h, List.flatMap_append]
  simp
theorem flat_len {α : Type} {f : α → List UInt8} {b : Nat} : ∀ {l : List α}, (∀ x, x ∈ l → (f x).length ≤ b) → (l.flatMap f).length ≤ b * l.length
  | [], _ => by simp
  | x :: l, h => by
    rw [List.flatMap_cons, List.length_append, List.length_cons, Nat.mul_succ]
    have h1 := h x (by simp)
    have h2 := flat_len (f := f) (b := b) fun y hy => h y (List.mem_cons_of_mem x hy)
    omega
theorem u64_of {n : Nat} (h : n < 18446744073709551616) : IntKind.wrap .u64 (n : Int) = (n : Int) := wrapu64 (by omega) (by omega)

theorem ends_len {l : List Api_Range} (h : ∀ r, r ∈ l → r.From.size ≤ 32 ∧ r.To.size ≤ 32) (n : Nat) : (endsL (l.take n)).length ≤ 43 * l.length := by
  have h1 : (endsL (l.take n)).length ≤ 43 * (l.take n).length := flat_len fun r hr => by
    have := (h r (List.mem_of_mem_take hr)).2
    have := textL_len r.To
    omega
  have : (l.take n).length ≤ l.length := by rw [List.length_take]; omega
  omega
theorem owns_len (l : List Int) : (ownsL l).length ≤ 11 * l.length := flat_len fun _ _ => (numL_len _).2
theorem pars_len (l : List Int) : (parsL l).length ≤ 11 * l.length := flat_len fun _ _ => (numL_len _).2
theorem rowL_len {c : Api_Row} (h : okRow c = true) : 4 ≤ (rowL c).length ∧ (rowL c).length ≤ 600 := by
  obtain ⟨⟨h1, h2, h3, h4⟩, h5, -, -⟩ := okRow_iff.1 h
  have e1 := ends_len (whole_small h5) (c.Ranges.length - 1)
  have e2 := owns_len c.Owners
  have e3 := pars_len c.Parents
  have n1 := numL_len c.Ranges.length
  have n2 := numL_len c.Parents.length
  have hne : c.Ranges ≠ [] := by
    rcases wholeG_ne h5 with e | e
    · cases e
    · exact e
  have e4 : 1 ≤ (ownsL c.Owners).length := by
    have h0 : 0 < c.Ranges.length := List.length_pos_iff.2 hne
    have : c.Owners ≠ [] := fun e => by rw [e] at h4; simp at h4; omega
    obtain ⟨o, l, e⟩ := List.exists_cons_of_ne_nil this
    rw [e]
    show 1 ≤ (numL o.toNat ++ _).length
    rw [List.length_append]
    have := numL_len o.toNat
    omega
  have e5 : 1 ≤ (parsL c.Parents).length := by
    have : c.Parents ≠ [] := fun e => by rw [e] at h1; simp at h1
    obtain ⟨o, l, e⟩ := List.exists_cons_of_ne_nil this
    rw [e]
    show 1 ≤ (numL (o + 1).toNat ++ _).length
    rw [List.length_append]
    have := numL_len (o + 1).toNat
    omega
  unfold rowL
  simp only [List.length_append]
  omega
theorem okRow_S {c : Api_Row} (h : okRow c = true) : RowS c := by
  obtain ⟨⟨h1, h2, h3, h4⟩, h5, -, -⟩ := okRow_iff.1 h
  exact ⟨by omega, by omega, by omega, fun r hr => by have := whole_small h5 r hr; omega⟩
theorem okRow_ne {c : Api_Row} (h : okRow c = true) : 1 ≤ c.Ranges.length := by
  obtain ⟨-, h5, -, -⟩ := okRow_iff.1 h
  rcases wholeG_ne h5 with e | e
  · cases e
  · exact List.length_pos_iff.2 e

def rowB (c : Api_Row) : ByteArray := if okRow c then ofL (rowL c) else ByteArray.empty
theorem wire_RowBytes_eq {c : Api_Row} (hS : RowS c) : wire_RowBytes c = some (rowB c) := by
  unfold wire_RowBytes rowB
  rw [wire_written_eq hS, Option.bind_some]
  cases h : okRow c with
  | false => rfl
  | true =>
    obtain ⟨⟨h1, h2, h3, h4⟩, h5, h6, h7⟩ := okRow_iff.1 h
    have hn := okRow_ne h
    have hsm := whole_small h5
    simp only [Bool.not_true, Bool.false_eq_true, if_false, if_true]
    rw [u64_of (by omega), vary_Number_eq (by omega), Option.bind_some, bld_WriteString_eq (by unfold numP; rw [ofL_size]; have := numL_len c.Ranges.length; simp; omega), Option.bind_some]
    have e0 : ByteArray.empty ++ numP c.Ranges.length = ofL (numL c.Ranges.length) := by unfold numP; rw [app_ofL]; rfl
    have esub : sub c.Ranges 0 (IntKind.wrap .i64 ((c.Ranges.length : Int) - 1)) = some (c.Ranges.take (c.Ranges.length - 1)) := by
      rw [wrap64 (by omega) (by omega)]
      unfold sub
      rw [if_pos ⟨by omega, by omega, by omega⟩, show ((c.Ranges.length : Int) - 1).toNat = c.Ranges.length - 1 by omega]
      rfl
    rw [e0, esub, Option.bind_some]
    have hle := ends_len hsm (c.Ranges.length - 1)
    have hnl := numL_len c.Ranges.length
    refine loopF_inv (fun (v : Int × ByteArray) => 0 ≤ v.1 ∧ v.1 ≤ ((c.Ranges.length - 1 : Nat) : Int) ∧ v.2 = ofL (numL c.Ranges.length ++ endsL (c.Ranges.take v.1.toNat))) (fun v => (((c.Ranges.length - 1 : Nat) : Int) - v.1).toNat) (fun _ => some (ofL (rowL c))) ?_ FU (0, _) ⟨Int.le_refl _, by simp, by simp [endsL]⟩ (by have := FU_big; simp only; omega)
    rintro again ⟨v, acc⟩ ⟨g1, g2, g3⟩ hag
    simp only at g1 g2 g3
    obtain ⟨i, rfl⟩ : ∃ i : Nat, v = i := ⟨v.toNat, by omega⟩
    simp only [Int.toNat_natCast] at g3
    subst g3
    have htl : (c.Ranges.take (c.Ranges.length - 1)).length = c.Ranges.length - 1 := by rw [List.length_take]; omega
    unfold wire_RowBytes_l6
    simp only
    rw [htl]
    by_cases c1 : (i : Int) < ((c.Ranges.length - 1 : Nat) : Int)
    · have hi : i < c.Ranges.length := by omega
      have hget : idx (c.Ranges.take (c.Ranges.length - 1)) (i : Int) = some c.Ranges[i] := by
        rw [idx_at (by rw [htl]; omega), List.getElem_take]
      have hto := (hsm _ (List.getElem_mem hi)).2
      have htx := textL_len c.Ranges[i].To
      have hle2 := ends_len hsm i
      rw [if_pos (by simpa using c1), hget, Option.bind_some, vary_Text_eq (by omega), Option.bind_some, bld_WriteString_eq (by rw [ofL_size, ofL_size, List.length_append]; omega), Option.bind_some, wrap64 (by omega) (by omega)]
      refine hag _ ⟨by simp only; omega, by simp only; omega, ?_⟩ (by simp only; omega)
      simp only [show ((i : Int) + 1).toNat = i + 1 by omega]
      rw [ofL_app, List.append_assoc]
      unfold endsL
      rw [flat_take _ hi]
    · rw [if_neg (by simpa using c1)]
      have hin : i = c.Ranges.length - 1 := by omega
      subst hin
      generalize hA : numL c.Ranges.length ++ endsL (c.Ranges.take (c.Ranges.length - 1)) = A
      have hAl : 1 ≤ A.length ∧ A.length ≤ 400 := by rw [← hA, List.length_append]; omega
      unfold wire_RowBytes_k1
      refine loopF_inv (fun (v : Int × List Int) => 0 ≤ v.1 ∧ v.1 ≤ (c.Owners.length : Int) ∧ v.2 = c.Owners.take v.1.toNat) (fun v => ((c.Owners.length : Int) - v.1).toNat) (fun _ => some (ofL (rowL c))) ?_ FU (0, _) ⟨Int.le_refl _, by simp, by simp⟩ (by have := FU_big; simp only; omega)
      rintro again2 ⟨v, acc⟩ ⟨f1, f2, f3⟩ hag2
      simp only at f1 f2 f3
      obtain ⟨j, rfl⟩ : ∃ j : Nat, v = j := ⟨v.toNat, by omega⟩
      simp only [Int.toNat_natCast] at f3
      subst f3
      unfold wire_RowBytes_l5
      simp only
      by_cases c2 : (j : Int) < (c.Owners.length : Int)
      · have hj : j < c.Owners.length := by omega
        have ho := h6 _ (List.getElem_mem hj)
        have hpow : (2 : Int) ^ c.Parents.length ≤ 64 := by
          have : (2 : Nat) ^ c.Parents.length ≤ 2 ^ 6 := Nat.pow_le_pow_right (by decide) h2
          have h64 : (2 : Nat) ^ 6 = 64 := rfl
          have : ((2 ^ c.Parents.length : Nat) : Int) ≤ 64 := by omega
          simpa using this
        rw [if_pos (by simpa using c2), idx_at hj, Option.bind_some, wrapu64 (by omega) (by omega), app_ok (by simp; omega) (by simp; omega), Option.bind_some, wrap64 (by omega) (by omega)]
        refine hag2 _ ⟨by simp only; omega, by simp only; omega, ?_⟩ (by simp only; omega)
        simp only [show ((j : Int) + 1).toNat = j + 1 by omega]
        rw [List.take_add_one, List.getElem?_eq_getElem hj]
        rfl
      · rw [if_neg (by simpa using c2)]
        have hjn : j = c.Owners.length := by omega
        subst hjn
        rw [List.take_length]
        unfold wire_RowBytes_k2
        rw [u64_of (by omega), app_ok (by simp; omega) (by simp; omega), Option.bind_some]
        refine loopF_inv (fun (v : Int × List Int) => 0 ≤ v.1 ∧ v.1 ≤ (c.Parents.length : Int) ∧ v.2 = c.Owners ++ [(c.Parents.length : Int)] ++ (c.Parents.take v.1.toNat).map fun p => p + 1) (fun v => ((c.Parents.length : Int) - v.1).toNat) (fun _ => some (ofL (rowL c))) ?_ FU (0, _) ⟨Int.le_refl _, by simp, by simp⟩ (by have := FU_big; simp only; omega)
        rintro again3 ⟨v, acc⟩ ⟨e1, e2, e3⟩ hag3
        simp only at e1 e2 e3
        obtain ⟨m, rfl⟩ : ∃ m : Nat, v = m := ⟨v.toNat, by omega⟩
        simp only [Int.toNat_natCast] at e3
        subst e3
        unfold wire_RowBytes_l4
        simp only
        by_cases c3 : (m : Int) < (c.Parents.length : Int)
        · have hm : m < c.Parents.length := by omega
          have hp := h7 _ (List.getElem_mem hm)
          rw [if_pos (by simpa using c3), idx_at hm, Option.bind_some, wrap64 (by omega) (by omega), wrapu64 (by omega) (by omega), app_ok (by simp; omega) (by simp; omega), Option.bind_some, wrap64 (by omega) (by omega)]
          refine hag3 _ ⟨by simp only; omega, by simp only; omega, ?_⟩ (by simp only; omega)
          simp only [show ((m : Int) + 1).toNat = m + 1 by omega]
          rw [List.take_add_one, List.getElem?_eq_getElem hm]
          simp only [Option.toList, List.map_append, List.map_cons, List.map_nil, List.append_assoc]
        · rw [if_neg (by simpa using c3)]
          have hmn : m = c.Parents.length := by omega
          subst hmn
          rw [List.take_length]
          unfold wire_RowBytes_k3
          have hjl : joinL (c.Owners ++ [(c.Parents.length : Int)] ++ c.Parents.map fun p => p + 1) = ownsL c.Owners ++ (numL c.Parents.length ++ parsL c.Parents) := by
            unfold joinL ownsL parsL
            simp [List.flatMap_append, List.flatMap_map]
          have hol := owns_len c.Owners
          have hpl := pars_len c.Parents
          have hml := numL_len c.Parents.length
          rw [bld_String_eq (by rw [ofL_size]; omega), Option.bind_some, vary_Join_eq (fun x hx => ?_) (by simp) (by simp; omega), Option.bind_some, hjl, scat_L (by simp only [ofL_size, List.length_append]; omega), ofL_app, ← hA]
          · simp only [Option.bind_some, List.append_assoc]
            rfl
          · rcases List.mem_append.1 hx with hx | hx
            · rcases List.mem_append.1 hx with hx | hx
              · have hpow : (2 : Int) ^ c.Parents.length ≤ 64 := by
                  have : (2 : Nat) ^ c.Parents.length ≤ 2 ^ 6 := Nat.pow_le_pow_right (by decide) h2
                  have h64 : (2 : Nat) ^ 6 = 64 := rfl
                  have : ((2 ^ c.Parents.length : Nat) : Int) ≤ 64 := by omega
                  simpa using this
                have := h6 x hx
                omega
              · simp at hx; omega
            · obtain ⟨p, hp, rfl⟩ := List.mem_map.1 hx
              have := h7 p hp
              omega
theorem ref06_RowBytes_eq {c : Api_Row} (h : okRow c = true) : ref06_RowBytes c = some (ofL (rowL c)) := by
  obtain ⟨⟨h1, h2, h3, h4⟩, h5, h6, h7⟩ := okRow_iff.1 h
  have hn := okRow_ne h
  have hsm := whole_small h5
  have hnl := numL_len c.Ranges.length
  have hpow : (2 : Int) ^ c.Parents.length ≤ 64 := by
    have : (2 : Nat) ^ c.Parents.length ≤ 2 ^ 6 := Nat.pow_le_pow_right (by decide) h2
    have h64 : (2 : Nat) ^ 6 = 64 := rfl
    have : ((2 ^ c.Parents.length : Nat) : Int) ≤ 64 := by omega
    simpa using this
  unfold ref06_RowBytes
  rw [u64_of (by omega), ref01_Number_eq (by omega), Option.bind_some]
  refine loopF_inv (fun (v : ByteArray × Int) => 0 ≤ v.2 ∧ v.2 ≤ ((c.Ranges.length - 1 : Nat) : Int) ∧ v.1 = ofL (numL c.Ranges.length ++ endsL (c.Ranges.take v.2.toNat))) (fun v => (((c.Ranges.length - 1 : Nat) : Int) - v.2).toNat) (fun _ => some (ofL (rowL c))) ?_ FU (_, 0) ⟨Int.le_refl _, by simp, by simp [endsL, numP]⟩ (by have := FU_big; simp only; omega)
  rintro again ⟨acc, v⟩ ⟨g1, g2, g3⟩ hag
  simp only at g1 g2 g3
  obtain ⟨i, rfl⟩ : ∃ i : Nat, v = i := ⟨v.toNat, by omega⟩
  simp only [Int.toNat_natCast] at g3
  subst g3
  have hle2 := ends_len hsm i
  unfold ref06_RowBytes_l6
  simp only
  rw [wrap64 (by omega) (by omega)]
  by_cases c1 : (i : Int) + 1 < (c.Ranges.length : Int)
  · have hi : i < c.Ranges.length := by omega
    have hto := (hsm _ (List.getElem_mem hi)).2
    have htx := textL_len c.Ranges[i].To
    rw [if_pos (by simpa using c1), idx_at hi, Option.bind_some, ref01_Text_eq (by omega), Option.bind_some, scat_L (by rw [ofL_size, ofL_size, List.length_append]; omega), Option.bind_some]
    refine hag _ ⟨by simp only; omega, by simp only; omega, ?_⟩ (by simp only; omega)
    simp only [show ((i : Int) + 1).toNat = i + 1 by omega]
    rw [ofL_app, List.append_assoc]
    unfold endsL
    rw [flat_take _ hi]
  · rw [if_neg (by simpa using c1)]
    have hin : i = c.Ranges.length - 1 := by omega
    subst hin
    generalize hA : numL c.Ranges.length ++ endsL (c.Ranges.take (c.Ranges.length - 1)) = A
    have hAl : A.length ≤ 400 := by rw [← hA, List.length_append]; omega
    unfold ref06_RowBytes_k1
    refine loopF_inv (fun (v : ByteArray × Int) => 0 ≤ v.2 ∧ v.2 ≤ (c.Ranges.length : Int) ∧ v.1 = ofL (A ++ ownsL (c.Owners.take v.2.toNat))) (fun v => ((c.Ranges.length : Int) - v.2).toNat) (fun _ => some (ofL (rowL c))) ?_ FU (_, 0) ⟨Int.le_refl _, by simp, by simp [ownsL]⟩ (by have := FU_big; simp only; omega)
    rintro again2 ⟨acc, v⟩ ⟨f1, f2, f3⟩ hag2
    simp only at f1 f2 f3
    obtain ⟨j, rfl⟩ : ∃ j : Nat, v = j := ⟨v.toNat, by omega⟩
    simp only [Int.toNat_natCast] at f3
    subst f3
    have hol := owns_len (c.Owners.take j)
    have hol2 : (c.Owners.take j).length ≤ c.Owners.length := by rw [List.length_take]; omega
    unfold ref06_RowBytes_l5
    simp only
    by_cases c2 : (j : Int) < (c.Ranges.length : Int)
    · have hj : j < c.Owners.length := by omega
      have ho := h6 _ (List.getElem_mem hj)
      obtain ⟨o, ho'⟩ : ∃ o : Nat, c.Owners[j] = o := ⟨c.Owners[j].toNat, by omega⟩
      have hol3 := numL_len o
      rw [if_pos (by simpa using c2), idx_at hj, Option.bind_some, ho', u64_of (by omega), ref01_Number_eq (by omega), Option.bind_some, scat_L (by unfold numP; simp only [ofL_size, List.length_append]; omega), Option.bind_some, wrap64 (by omega) (by omega)]
      refine hag2 _ ⟨by simp only; omega, by simp only; omega, ?_⟩ (by simp only; omega)
      simp only [show ((j : Int) + 1).toNat = j + 1 by omega]
      unfold numP ownsL
      rw [ofL_app, List.append_assoc, flat_take _ hj, ho']
      rfl
    · rw [if_neg (by simpa using c2)]
      have hjn : j = c.Owners.length := by omega
      subst hjn
      rw [List.take_length] at hol ⊢
      have hml := numL_len c.Parents.length
      unfold ref06_RowBytes_k2
      rw [u64_of (by omega), ref01_Number_eq (by omega), Option.bind_some, scat_L (by unfold numP; simp only [ofL_size, List.length_append]; omega), Option.bind_some]
      refine loopF_inv (fun (v : ByteArray × Int) => 0 ≤ v.2 ∧ v.2 ≤ (c.Parents.length : Int) ∧ v.1 = ofL (A ++ (ownsL c.Owners ++ (numL c.Parents.length ++ parsL (c.Parents.take v.2.toNat))))) (fun v => ((c.Parents.length : Int) - v.2).toNat) (fun _ => some (ofL (rowL c))) ?_ FU (_, 0) ⟨Int.le_refl _, by simp, by simp [parsL, numP, ofL_app]⟩ (by have := FU_big; simp only; omega)
      rintro again3 ⟨acc, v⟩ ⟨e1, e2, e3⟩ hag3
      simp only at e1 e2 e3
      obtain ⟨m, rfl⟩ : ∃ m : Nat, v = m := ⟨v.toNat, by omega⟩
      simp only [Int.toNat_natCast] at e3
      subst e3
      have hpl := pars_len (c.Parents.take m)
      have hpl2 : (c.Parents.take m).length ≤ c.Parents.length := by rw [List.length_take]; omega
      unfold ref06_RowBytes_l4
      simp only
      by_cases c3 : (m : Int) < (c.Parents.length : Int)
      · have hm : m < c.Parents.length := by omega
        have hp := h7 _ (List.getElem_mem hm)
        obtain ⟨p, hp'⟩ : ∃ p : Nat, c.Parents[m] + 1 = p := ⟨(c.Parents[m] + 1).toNat, by omega⟩
        have hol3 := numL_len p
        rw [if_pos (by simpa using c3), idx_at hm, Option.bind_some, wrap64 (n := c.Parents[m] + 1) (by omega) (by omega), hp', u64_of (by omega), ref01_Number_eq (by omega), Option.bind_some, scat_L (by unfold numP; simp only [ofL_size, List.length_append]; omega), Option.bind_some, wrap64 (by omega) (by omega)]
        refine hag3 _ ⟨by simp only; omega, by simp only; omega, ?_⟩ (by simp only; omega)
        simp only [show ((m : Int) + 1).toNat = m + 1 by omega]
        unfold numP parsL
        rw [ofL_app, flat_take _ hm, hp']
        simp only [List.append_assoc]
        rfl
      · rw [if_neg (by simpa using c3)]
        have hmn : m = c.Parents.length := by omega
        subst hmn
        rw [List.take_length, ← hA]
        simp only [List.append_assoc]
        rfl
end Go.Ark
