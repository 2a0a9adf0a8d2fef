/- Plain laws: bytes read as rows, by the program and by the document. Conditions: none but those that stand in each law. -/
import Derived.Test.YtjidbmelmcmmhabProwb
import Derived.Test.YtjidbmelmcmmhabPwread
namespace Go.Ark
open Go Go.Ab Go.RowKit

/-! ### numbers up to a bound, rows of them, rows of texts -/
def rdK (most : Nat) : Rdr Nat := fun l => match rdN l 0 0 with
  | some (g, k) => if g ≤ most then some (g, k) else none
  | none => none
theorem rdK_some {most : Nat} {l : List UInt8} {g k : Nat} : rdK most l = some (g, k) ↔ rdN l 0 0 = some (g, k) ∧ g ≤ most := by
  unfold rdK
  cases h1 : rdN l 0 0 with
  | none => simp
  | some z =>
    obtain ⟨g', j⟩ := z
    simp only [Option.some.injEq, Prod.mk.injEq]
    by_cases c : g' ≤ most
    · rw [if_pos c]
      simp only [Option.some.injEq, Prod.mk.injEq]
      constructor
      · rintro ⟨rfl, rfl⟩; exact ⟨⟨rfl, rfl⟩, c⟩
      · exact fun h => h.1
    · rw [if_neg c]
      constructor
      · intro h; cases h
      · rintro ⟨⟨rfl, rfl⟩, h⟩; exact absurd h c
theorem rdK_at {most n : Nat} (h : n ≤ most) (hm : most < 18446744073709551616) (r : List UInt8) : rdK most (numL n ++ r) = some (n, (numL n).length) := rdK_some.2 ⟨rdN_numL (by omega) r, h⟩
theorem rdK_sound {most : Nat} {l : List UInt8} {g k : Nat} (h : rdK most l = some (g, k)) : l.take k = numL g ∧ g ≤ most := ⟨(rdN_sound (rdK_some.1 h).1).1, (rdK_some.1 h).2⟩
def rdMany (most : Nat) : Nat → Rdr (List Nat)
  | 0 => fun _ => some ([], 0)
  | n + 1 => seqR (rdK most) fun x => seqR (rdMany most n) fun xs => fun _ => some (x :: xs, 0)
def rdEnds : Nat → Rdr (List ByteArray)
  | 0 => fun _ => some ([], 0)
  | n + 1 => seqR (rdT 32) fun t => seqR (rdEnds n) fun ts => fun _ => some (ofL t :: ts, 0)
theorem seqR_inv {α β : Type} {p : Rdr α} {f : α → Rdr β} {l : List UInt8} {y : β} {k : Nat} (h : seqR p f l = some (y, k)) : ∃ x i j, p l = some (x, i) ∧ f x (l.drop i) = some (y, j) ∧ k = i + j := by
  unfold seqR at h
  cases h1 : p l with
  | none => rw [h1] at h; cases h
  | some z =>
    obtain ⟨x, i⟩ := z
    rw [h1] at h
    simp only at h
    cases h2 : f x (l.drop i) with
    | none => rw [h2] at h; cases h
    | some w =>
      obtain ⟨y', j⟩ := w
      rw [h2] at h
      simp only [Option.some.injEq, Prod.mk.injEq] at h
      exact ⟨x, i, j, rfl, by rw [h2, h.1], h.2.symm⟩
theorem rdMany_at {most : Nat} (hm : most < 18446744073709551616) : ∀ {xs : List Nat} (_ : ∀ x, x ∈ xs → x ≤ most) (r : List UInt8), rdMany most xs.length (xs.flatMap numL ++ r) = some (xs, (xs.flatMap numL).length)
  | [], _, r => rfl
  | x :: xs, h, r => by
    rw [List.length_cons, rdMany, List.flatMap_cons, List.append_assoc, seqR_at (rdK_at (h x (by simp)) hm _), seqR_at (rdMany_at hm (fun y hy => h y (by simp [hy])) r)]
    simp only [List.length_append, Nat.add_zero]
theorem rdMany_sound {most : Nat} : ∀ {n : Nat} {l : List UInt8} {xs : List Nat} {k : Nat}, rdMany most n l = some (xs, k) → l.take k = xs.flatMap numL ∧ xs.length = n ∧ ∀ x, x ∈ xs → x ≤ most
  | 0, l, xs, k, h => by
    simp only [rdMany, Option.some.injEq, Prod.mk.injEq] at h
    obtain ⟨rfl, rfl⟩ := h
    simp
  | n + 1, l, xs, k, h => by
    rw [rdMany] at h
    obtain ⟨x, i, j, h1, h2, rfl⟩ := seqR_inv h
    obtain ⟨ys, i', j', h3, h4, rfl⟩ := seqR_inv h2
    simp only [Option.some.injEq, Prod.mk.injEq] at h4
    obtain ⟨rfl, rfl⟩ := h4
    obtain ⟨q1, q2⟩ := rdK_sound h1
    obtain ⟨q3, q4, q5⟩ := rdMany_sound h3
    refine ⟨by rw [Nat.add_zero, List.take_add, q1, q3]; rfl, by simp [q4], fun y hy => ?_⟩
    rcases List.mem_cons.1 hy with rfl | hy
    · exact q2
    · exact q5 y hy
theorem rdEnds_at : ∀ {es : List ByteArray} (_ : ∀ e, e ∈ es → e.size ≤ 32) (r : List UInt8), rdEnds es.length (es.flatMap textL ++ r) = some (es, (es.flatMap textL).length)
  | [], _, r => rfl
  | e :: es, h, r => by
    rw [List.length_cons, rdEnds, List.flatMap_cons, List.append_assoc, seqR_at (rdT_text (h e (by simp)) (by omega) _), seqR_at (rdEnds_at (fun y hy => h y (by simp [hy])) r), ofL_bl]
    simp only [List.length_append, Nat.add_zero]
/-! ### rows -/
def mkG (from_ : ByteArray) : List ByteArray → List Api_Range
  | [] => [⟨from_, ByteArray.empty⟩]
  | e :: es => ⟨from_, e⟩ :: mkG e es
def endsOf (l : List Api_Range) : List ByteArray := (l.take (l.length - 1)).map (·.To)
theorem whole_mk : ∀ {l : List Api_Range} {b : Bool} {a : ByteArray}, wholeG b a l = true → l ≠ [] → mkG a (endsOf l) = l
  | [], _, _, _, h => absurd rfl h
  | [r], b, a, h, _ => by
    rw [wholeG_cons, wholeG_nil] at h
    simp only [Bool.and_eq_true, decide_eq_true_eq] at h
    obtain ⟨f, t⟩ := r
    have h1 : f = a := h.2.1
    have h2 : t = ByteArray.empty := h.2.2.2.2
    subst h1 h2
    rfl
  | r :: r2 :: l, b, a, h, _ => by
    rw [wholeG_cons] at h
    simp only [Bool.and_eq_true, decide_eq_true_eq] at h
    have ih := whole_mk h.2.2.2 (by simp)
    have e : endsOf (r :: r2 :: l) = r.To :: endsOf (r2 :: l) := by
      unfold endsOf
      simp
    rw [e, mkG, ih, ← h.2.1]
def rdRow : Rdr Api_Row := seqR (rdK 8) fun n => if n = 0 then fun _ => none else seqR (rdEnds (n - 1)) fun es => seqR (rdMany 63 n) fun os => seqR (rdK 6) fun m => seqR (rdMany 6 m) fun ps => fun _ => some (⟨mkG ByteArray.empty es, os.map Int.ofNat, ps.map fun (p : Nat) => (p : Int) - 1⟩, 0)
theorem ends_flat (l : List Api_Range) : endsL (l.take (l.length - 1)) = (endsOf l).flatMap textL := by
  unfold endsL endsOf
  rw [List.flatMap_map]
theorem rdRow_at {c : Api_Row} (h : okRow c = true) (r : List UInt8) : rdRow (rowL c ++ r) = some (c, (rowL c).length) := by
  obtain ⟨⟨h1, h2, h3, h4⟩, h5, h6, h7⟩ := okRow_iff.1 h
  have hn := okRow_ne h
  have hsm := whole_small h5
  have hel : (endsOf c.Ranges).length = c.Ranges.length - 1 := by unfold endsOf; rw [List.length_map, List.length_take]; omega
  have hown : ownsL c.Owners = (c.Owners.map Int.toNat).flatMap numL := by unfold ownsL; rw [List.flatMap_map]
  have hpar : parsL c.Parents = (c.Parents.map fun p => (p + 1).toNat).flatMap numL := by unfold parsL; rw [List.flatMap_map]
  have hpow : (2 : Int) ^ c.Parents.length ≤ 64 := by
    have : (2 : Nat) ^ c.Parents.length ≤ 2 ^ 6 := Nat.pow_le_pow_right (by decide) h2
    have h64 : (2 : Nat) ^ 6 = 64 := rfl
    have : ((2 ^ c.Parents.length : Nat) : Int) ≤ 64 := by omega
    simpa using this
  have r1 := rdEnds_at (es := endsOf c.Ranges) (fun e he => by
    obtain ⟨x, hx, rfl⟩ := List.mem_map.1 he
    exact (hsm x (List.mem_of_mem_take hx)).2)
  have r2 := rdMany_at (most := 63) (by omega) (xs := c.Owners.map Int.toNat) (fun x hx => by
    obtain ⟨o, ho, rfl⟩ := List.mem_map.1 hx
    have := h6 o ho
    omega)
  have r3 := rdMany_at (most := 6) (by omega) (xs := c.Parents.map fun p => (p + 1).toNat) (fun x hx => by
    obtain ⟨o, ho, rfl⟩ := List.mem_map.1 hx
    have := h7 o ho
    omega)
  rw [hel] at r1
  rw [List.length_map, h4] at r2
  rw [List.length_map] at r3
  have hrow : rowL c ++ r = numL c.Ranges.length ++ ((endsOf c.Ranges).flatMap textL ++ ((c.Owners.map Int.toNat).flatMap numL ++ (numL c.Parents.length ++ ((c.Parents.map fun p => (p + 1).toNat).flatMap numL ++ r)))) := by
    unfold rowL
    rw [ends_flat, hown, hpar]
    simp only [List.append_assoc]
  rw [hrow]
  unfold rdRow
  rw [seqR_at (rdK_at h3 (by omega) _), if_neg (by omega), seqR_at (r1 _), seqR_at (r2 _), seqR_at (rdK_at h2 (by omega) _), seqR_at (r3 _)]
  have hne : c.Ranges ≠ [] := fun e => by rw [e] at hn; simp at hn
  have e2 : (c.Owners.map Int.toNat).map Int.ofNat = c.Owners := by
    rw [List.map_map]
    conv => rhs; rw [← List.map_id c.Owners]
    refine List.map_congr_left fun o ho => ?_
    have := h6 o ho
    show ((o.toNat : Nat) : Int) = o
    omega
  have e3 : ((c.Parents.map fun p => (p + 1).toNat).map fun (p : Nat) => (p : Int) - 1) = c.Parents := by
    rw [List.map_map]
    conv => rhs; rw [← List.map_id c.Parents]
    refine List.map_congr_left fun o ho => ?_
    have := h7 o ho
    show (((o + 1).toNat : Nat) : Int) - 1 = o
    omega
  rw [whole_mk h5 hne, e2, e3]
  unfold rowL
  rw [ends_flat, hown, hpar]
  simp only [List.length_append, Nat.add_zero]
end Go.Ark
