/- Plain laws: bytes read as rows, by the program and by the document. Conditions: none but those that stand in each law. -/
import Derived.Test.YtjidbmelmcmmhabProwb
import Derived.Test.YtjidbmelmcmmhabPwread
namespace Go.Ark
open Go Go.Ab Go.RowKit

/-! ### numbers up to a bound, rows of them, rows of texts -/
def rdK (most : Nat) : Rdr Nat := fun l => match rdN l 0 0 with
  | some (g, k) => if g ≤ most then some (g, k) else none
  | none => none
theorem rdK_some {most : Nat} {l : List UInt8} {g k : Nat} : rdK most l = some (g, k) ↔ rdN l 0 0 = some (g, k) ∧ g ≤ most := by
  unfold rdK
  cases h1 : rdN l 0 0 with
  | none => simp
  | some z =>
    obtain ⟨g', j⟩ := z
    simp only [Option.some.injEq, Prod.mk.injEq]
    by_cases c : g' ≤ most
    · rw [if_pos c]
      simp only [Option.some.injEq, Prod.mk.injEq]
      constructor
      · rintro ⟨rfl, rfl⟩; exact ⟨⟨rfl, rfl⟩, c⟩
      · exact fun h => h.1
    · rw [if_neg c]
      constructor
      · intro h; cases h
      · rintro ⟨⟨rfl, rfl⟩, h⟩; exact absurd h c
theorem rdK_sound {most : Nat} {l : List UInt8} {g k : Nat} (h : rdK most l = some (g, k)) : l.take k = numL g ∧ g ≤ most := ⟨(rdN_sound (rdK_some.1 h).1).1, (rdK_some.1 h).2⟩
def rdMany (most : Nat) : Nat → Rdr (List Nat)
  | 0 => fun _ => some ([], 0)
  | n + 1 => seqR (rdK most) fun x => seqR (rdMany most n) fun xs => fun _ => some (x :: xs, 0)
def rdEnds : Nat → Rdr (List ByteArray)
  | 0 => fun _ => some ([], 0)
  | n + 1 => seqR (rdT 32) fun t => seqR (rdEnds n) fun ts => fun _ => some (ofL t :: ts, 0)
theorem seqR_inv {α β : Type} {p : Rdr α} {f : α → Rdr β} {l : List UInt8} {y : β} {k : Nat} (h : seqR p f l = some (y, k)) : ∃ x i j, p l = some (x, i) ∧ f x (l.drop i) = some (y, j) ∧ k = i + j := by
  unfold seqR at h
  cases h1 : p l with
  | none => rw [h1] at h; cases h
  | some z =>
    obtain ⟨x, i⟩ := z
    rw [h1] at h
    simp only at h
    cases h2 : f x (l.drop i) with
    | none => rw [h2] at h; cases h
    | some w =>
      obtain ⟨y', j⟩ := w
      rw [h2] at h
      simp only [Option.some.injEq, Prod.mk.injEq] at h
      exact ⟨x, i, j, rfl, by rw [h2, h.1], h.2.symm⟩
theorem rdMany_sound {most : Nat} : ∀ {n : Nat} {l : List UInt8} {xs : List Nat} {k : Nat}, rdMany most n l = some (xs, k) → l.take k = xs.flatMap numL ∧ xs.length = n ∧ ∀ x, x ∈ xs → x ≤ most
  | 0, l, xs, k, h => by
    simp only [rdMany, Option.some.injEq, Prod.mk.injEq] at h
    obtain ⟨rfl, rfl⟩ := h
    simp
  | n + 1, l, xs, k, h => by
    rw [rdMany] at h
    obtain ⟨x, i, j, h1, h2, rfl⟩ := seqR_inv h
    obtain ⟨ys, i', j', h3, h4, rfl⟩ := seqR_inv h2
    simp only [Option.some.injEq, Prod.mk.injEq] at h4
    obtain ⟨rfl, rfl⟩ := h4
    obtain ⟨q1, q2⟩ := rdK_sound h1
    obtain ⟨q3, q4, q5⟩ := rdMany_sound h3
    refine ⟨by rw [Nat.add_zero, List.take_add, q1, q3]; rfl, by simp [q4], fun y hy => ?_⟩
    rcases List.mem_cons.1 hy with rfl | hy
    · exact q2
    · exact q5 y hy
theorem rdEnds_sound : ∀ {n : Nat} {l : List UInt8} {es : List ByteArray} {k : Nat}, rdEnds n l = some (es, k) → l.take k = es.flatMap textL ∧ es.length = n ∧ ∀ e, e ∈ es → e.size ≤ 32
  | 0, l, xs, k, h => by
    simp only [rdEnds, Option.some.injEq, Prod.mk.injEq] at h
    obtain ⟨rfl, rfl⟩ := h
    simp
  | n + 1, l, xs, k, h => by
    rw [rdEnds] at h
    obtain ⟨x, i, j, h1, h2, rfl⟩ := seqR_inv h
    obtain ⟨ys, i', j', h3, h4, rfl⟩ := seqR_inv h2
    simp only [Option.some.injEq, Prod.mk.injEq] at h4
    obtain ⟨rfl, rfl⟩ := h4
    have q1 := rdT_sound h1
    have q2 := (rdT_len h1).2.2
    obtain ⟨q3, q4, q5⟩ := rdEnds_sound h3
    refine ⟨by rw [Nat.add_zero, List.take_add, q1, q3]; rfl, by simp [q4], fun y hy => ?_⟩
    rcases List.mem_cons.1 hy with rfl | hy
    · rw [ofL_size]; exact q2
    · exact q5 y hy

/-! ### rows -/
def mkG (from_ : ByteArray) : List ByteArray → List Api_Range
  | [] => [⟨from_, ByteArray.empty⟩]
  | e :: es => ⟨from_, e⟩ :: mkG e es
theorem mkG_len : ∀ (es : List ByteArray) (a : ByteArray), (mkG a es).length = es.length + 1
  | [], _ => rfl
  | e :: es, a => by rw [mkG, List.length_cons, mkG_len es e]; rfl
def endsOf (l : List Api_Range) : List ByteArray := (l.take (l.length - 1)).map (·.To)
theorem mkG_ends : ∀ (es : List ByteArray) (a : ByteArray), endsOf (mkG a es) = es
  | [], _ => rfl
  | e :: es, a => by
    have := mkG_ends es e
    unfold endsOf at this ⊢
    rw [mkG_len] at this ⊢
    rw [Nat.add_sub_cancel] at this ⊢
    rw [mkG, List.length_cons, List.take_succ_cons, List.map_cons, this]
def rdRow : Rdr Api_Row := seqR (rdK 8) fun n => if n = 0 then fun _ => none else seqR (rdEnds (n - 1)) fun es => seqR (rdMany 63 n) fun os => seqR (rdK 6) fun m => seqR (rdMany 6 m) fun ps => fun _ => some (⟨mkG ByteArray.empty es, os.map Int.ofNat, ps.map fun (p : Nat) => (p : Int) - 1⟩, 0)
theorem ends_flat (l : List Api_Range) : endsL (l.take (l.length - 1)) = (endsOf l).flatMap textL := by
  unfold endsL endsOf
  rw [List.flatMap_map]
theorem rdRow_sound {l : List UInt8} {c : Api_Row} {k : Nat} (h : rdRow l = some (c, k)) : l.take k = rowL c ∧ 1 ≤ c.Ranges.length ∧ c.Ranges.length ≤ 8 ∧ c.Owners.length = c.Ranges.length ∧ c.Parents.length ≤ 6 ∧ (∀ r, r ∈ c.Ranges → r.From.size ≤ 32 ∧ r.To.size ≤ 32) ∧ (∀ o, o ∈ c.Owners → 0 ≤ o ∧ o ≤ 63) ∧ ∀ p, p ∈ c.Parents → -1 ≤ p ∧ p ≤ 5 := by
  unfold rdRow at h
  obtain ⟨n, i, j, h1, h2, rfl⟩ := seqR_inv h
  obtain ⟨a1, a2⟩ := rdK_sound h1
  split at h2
  · cases h2
  · rename_i hn
    obtain ⟨es, i2, j2, h3, h4, rfl⟩ := seqR_inv h2
    obtain ⟨os, i3, j3, h5, h6, rfl⟩ := seqR_inv h4
    obtain ⟨m, i4, j4, h7, h8, rfl⟩ := seqR_inv h6
    obtain ⟨ps, i5, j5, h9, h10, rfl⟩ := seqR_inv h8
    simp only [Option.some.injEq, Prod.mk.injEq] at h10
    obtain ⟨rfl, rfl⟩ := h10
    obtain ⟨b1, b2, b3⟩ := rdEnds_sound h3
    obtain ⟨c1, c2, c3⟩ := rdMany_sound h5
    obtain ⟨d1, d2⟩ := rdK_sound h7
    obtain ⟨e1, e2, e3⟩ := rdMany_sound h9
    have hlen : (mkG ByteArray.empty es).length = n := by rw [mkG_len, b2]; omega
    have hmk : ∀ (es : List ByteArray) (a : ByteArray), a.size ≤ 32 → (∀ e, e ∈ es → e.size ≤ 32) → ∀ r, r ∈ mkG a es → r.From.size ≤ 32 ∧ r.To.size ≤ 32 := by
      intro es
      induction es with
      | nil => intro a ha _ r hr; simp [mkG] at hr; subst hr; exact ⟨ha, by show ByteArray.empty.size ≤ 32; decide⟩
      | cons e es ih =>
        intro a ha he r hr
        rw [mkG] at hr
        rcases List.mem_cons.1 hr with rfl | hr
        · exact ⟨ha, he e (by simp)⟩
        · exact ih e (he e (by simp)) (fun x hx => he x (by simp [hx])) r hr
    refine ⟨?_, ?_, ?_, ?_, ?_, hmk es _ (by decide) b3, fun o ho => ?_, fun p hp => ?_⟩
    · unfold rowL ownsL parsL
      simp only
      rw [ends_flat, mkG_ends, hlen, List.flatMap_map, List.flatMap_map, List.length_map, e2]
      have g1 : (os.flatMap fun a => numL (Int.toNat (Int.ofNat a))) = os.flatMap numL := rfl
      have g2 : (ps.flatMap fun (a : Nat) => numL (Int.toNat ((a : Int) - 1 + 1))) = ps.flatMap numL := by
        congr 1
        funext a
        congr 1
        omega
      rw [g1, g2, Nat.add_zero, List.take_add, a1, List.take_add, b1, List.take_add, c1, List.take_add, d1, e1]
    · show 1 ≤ (mkG ByteArray.empty es).length
      omega
    · show (mkG ByteArray.empty es).length ≤ 8
      omega
    · show (os.map Int.ofNat).length = (mkG ByteArray.empty es).length
      rw [List.length_map, c2, hlen]
    · show (ps.map _).length ≤ 6
      rw [List.length_map, e2]; exact d2
    · obtain ⟨x, hx, rfl⟩ := List.mem_map.1 ho
      have := c3 x hx
      show (0 : Int) ≤ (x : Int) ∧ (x : Int) ≤ 63
      omega
    · obtain ⟨x, hx, rfl⟩ := List.mem_map.1 hp
      have := e3 x hx
      omega
end Go.Ark
