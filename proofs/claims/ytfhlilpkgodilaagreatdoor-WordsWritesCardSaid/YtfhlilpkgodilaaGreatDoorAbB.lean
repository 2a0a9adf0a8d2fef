import Derived.Test.YtfhlilpkgodilaaGreatDoorAbA
import Derived.Laws.StructEq
import Derived.Shelf.Spec.SlicesInsertGrow
import Derived.Lib.Builder
import Derived.Lib.UnsafeStr
import Derived.Laws.Externs
import Derived.Lib.MakeNoZero
import Derived.Laws.IdiomCopy
import Derived.Laws.MakeOwn
import Derived.Lib.ConvBytes
import Derived.Shelf.Unicode.DecodeSlow
/- The abstract machine: a range over a text. Conditions: none but those that stand in each law. -/
namespace Go.Ab
open Go Go.RowKit

section
variable {P : Program} {nt : Nat} {C : Cx P nt} {dst : Nat} {ty : TypeId} {pos : String} {af : Array Edge} {gd : Option (Nat × Bool)} {x : Operand} {R : List (Nat × SV)}

/-- 'range s': a new iterator, at the text's beginning -/
theorem op_range {T k : Nat} {s : ByteArray} (ht : P.underlying T = some .string) (hx : Ev x (bS s) R) (hd : Nat.blt dst nt = true) (hk0 : Nat.blt 0 k = true := by rfl) :
    OpL C (Oo dst (.range T x) ty pos af gd) R [(k, none)] [(dst, .one (.ptr k 0))] [(k, some (.it s 0))] := by
  refine ⟨fun sl hp hs hh a w K Q ⟨β, r⟩ hK => ?_⟩
  have hv := BR.v_inv (hx.ok hs r)
  unfold Oper.wp
  have : (execOp a.eval (Oo dst (.range T x) ty pos af gd)).run P w = .ok (.value (.pointer (some ⟨w.heap.size, 0, none⟩))) (w.alloc (.stringIter s 0)) := by
    simp [execOp, hv, Instr.range, run_underlying ht, newObj, Sem.run, Result.andThen]
  rw [this]
  have h := (r.new (e := .it s 0) (bo := some w.heap.size) hh.1 hk0 (below_alloc w (.stringIter s 0)) (fun b hb => by cases hb; exact ⟨rfl, by simp⟩) fun _ _ =>
    ⟨w.heap.size, by simp [upd], heap_alloc_new w _⟩).1
  exact hK _ _ ⟨_, h.put (Below.refl _ _) (by simpa using hd) ⟨⟨.it s 0, by rw [hget_cons, if_pos rfl], rfl⟩, w.heap.size, by simp [upd], rfl⟩⟩

/-- 'next', behind the text's end -/
theorem op_nextF {k p : Nat} {s : ByteArray} (hp0 : decide (p < s.size) = false) (hx : Ev x (.ptr k 0) R) (hd : Nat.blt dst nt = true) :
    OpL C (Oo dst (.next x true) ty pos af gd) R [(k, some (.it s p))] [(dst, .tup [bB false])] [] :=
  opl_pure hd rfl fun sl hp β a w hs hh r => by
    obtain ⟨_, b, hb, hu⟩ := hx.ok hs r
    obtain ⟨b', hb', hheap⟩ := r.hp k _ hh.1
    rw [hb] at hb'; cases hb'
    have hn : ¬ p < s.size := of_decide_eq_false hp0
    refine ⟨.tuple #[.bool false], ?_, ⟨#[.bool false], rfl, rfl, fun i c hi => ?_⟩⟩
    · have hg : (getObj b).run P w = .ok (.stringIter s p) w := by simp [getObj, Sem.run, hheap]
      simp [execOp, hu, Instr.next, hg, hn]
    · cases i with
      | zero => simp at hi; subst hi; exact ⟨_, rfl, RD.v _ rfl⟩
      | succ i => simp at hi

/-- 'next', within the text -/
theorem op_nextT {k p : Nat} {s : ByteArray} (hp0 : decide (p < s.size) = true) (hx : Ev x (.ptr k 0) R) (hd : Nat.blt dst nt = true) :
    OpL C (Oo dst (.next x true) ty pos af gd) R [(k, some (.it s p))] [(dst, .tup [bB true, bI .i64 (p : Int), bI .i32 ((Utf8.decode s p).1 : Int)])] [(k, some (.it s (p + (Utf8.decode s p).2)))] := by
  refine ⟨fun sl hp hs hh a w K Q ⟨β, r⟩ hK => ?_⟩
  obtain ⟨_, b, hb, hu⟩ := hx.ok hs r
  obtain ⟨b', hb', hheap⟩ := r.hp k _ hh.1
  rw [hb] at hb'; cases hb'
  have hn : p < s.size := of_decide_eq_true hp0
  generalize hw1 : ({ w with heap := w.heap.setIfInBounds b (.stringIter s (p + (Utf8.decode s p).2)) } : World) = w1
  have hbl : b < w.heap.size := (Array.getElem?_eq_some_iff.1 hheap).1
  have hnew : w1.heap[b]? = some (.stringIter s (p + (Utf8.decode s p).2)) := by rw [← hw1]; simp [hbl]
  have hoth : ∀ i, i ≠ b → w1.heap[i]? = w.heap[i]? := fun i hi => by rw [← hw1]; rw [Array.getElem?_setIfInBounds, if_neg (fun c : b = i => hi c.symm)]
  have hsize : w1.heap.size = w.heap.size := by rw [← hw1]; simp
  unfold Oper.wp
  have : (execOp a.eval (Oo dst (.next x true) ty pos af gd)).run P w = .ok (.value (.tuple #[.bool true, .int .i64 (p : Int), .int .i32 ((Utf8.decode s p).1 : Int)])) w1 := by
    have hg : (getObj b).run P w = .ok (.stringIter s p) w := by simp [getObj, Sem.run, hheap]
    have hst : (setObj b (.stringIter s (p + (Utf8.decode s p).2))).run P w = .ok () w1 := by rw [← hw1]; simp only [setObj, Sem.run, hheap]
    simp [execOp, hu, Instr.next, hg, hn, hst, goInt]
  rw [this]
  have h := (r.chg (e := .it s (p + (Utf8.decode s p).2)) (bo := β k) (w1 := w1) hh.1 (by rw [← hw1]) (by rw [← hw1]) (by rw [← hw1]) (by omega) (fun i _ hi => hoth i (fun c => hi (by rw [c, hb]))) (fun _ _ _ _ _ c => absurd trivial c)
    (.inl ⟨rfl, fun _ h => h⟩) ⟨rfl, fun _ => rfl⟩ (fun es0 u h => by obtain ⟨_, _, _, _, h1, _⟩ := h; rw [hh.1] at h1; cases h1) (fun _ _ => ⟨b, by simp [upd, hb], hnew⟩)).1
  refine hK _ _ ⟨_, h.put (Below.refl _ _) (by simpa using hd) ⟨#[.bool true, .int .i64 (p : Int), .int .i32 ((Utf8.decode s p).1 : Int)], rfl, rfl, fun i c hi => ?_⟩⟩
  match i with
  | 0 => simp at hi; subst hi; exact ⟨_, rfl, RD.v _ rfl⟩
  | 1 => simp at hi; subst hi; exact ⟨_, rfl, RD.v _ rfl⟩
  | 2 => simp at hi; subst hi; exact ⟨_, rfl, RD.v _ rfl⟩
  | i + 3 => simp at hi

/-- a row that was appended to, and is only seen from now on -/
theorem OpL.view {o : Oper} {Rs : List (Nat × SV)} {Rh : List (Nat × Option HE)} {k T size : Nat} {es : List (List DV)} (h : OpL C o Rs Rh [(dst, .one (.own k es))] [(k, some (.row T size es false))]) :
    OpL C o Rs Rh [(dst, .one (.g (.d (.sl size es))))] [(k, some (.row T size es false))] :=
  ⟨fun sl hp hs hh a w K Q r hK => h.go sl hp hs hh a w K Q r fun a' w' ⟨β, q⟩ => hK a' w' ⟨β, q.keep, q.low, q.inj, q.own, q.hp, fun t sv hsv => by
    have hk : hget ((k, some (.row T size es false)) :: hp) k = some (.row T size es false) := by rw [hget_cons, if_pos rfl]
    simp only [List.cons_append, List.nil_append, sget_cons] at hsv
    by_cases c : dst = t
    · rw [if_pos c] at hsv
      cases hsv
      have h1 : SR C _ β w' (.one (.own k es)) (a'.tmps.getD t undef) := q.sl t _ (by simp only [List.cons_append, List.nil_append, sget_cons]; rw [if_pos c])
      exact own_data q hk h1 (fun _ _ h => h) (fun b o hb ho hm => by
        rcases hm with hM | ⟨k1, e1, h1, h2, h3⟩
        · obtain ⟨h4, h5⟩ := q.low b o hM
          rcases (q.own k _ b hk hb).1 with h6 | h6
          · omega
          · exact h5 h6
        · obtain rfl := q.inj k1 k e1 _ b h1 hk h2 hb
          have h1 : hget ((k1, some (.row T size es false)) :: hp) k1 = some e1 := h1
          rw [hk] at h1; cases h1
          simp only [HE.mutAt, Bool.false_eq_true, false_or] at h3
          omega)
    · rw [if_neg c] at hsv
      exact q.sl t sv (by simp only [List.cons_append, List.nil_append, sget_cons]; rw [if_neg c]; exact hsv), q.size, q.df, q.fx⟩⟩

variable {Q0 : Exit → Act → World → Prop} {k : List KI}
/-- the ways of a region meet again behind some of its operations -/
theorem G.joinL {T : Type} {ops : Array Oper} {l : List Oper} {st : St} (n : Nat) (S : T → St) (hyp : T → Prop) (h1 : ∀ x, hyp x → G C Q0 (.l ops (l.drop n) :: k) (S x))
    (h2 : (∀ x, hyp x → G C Q0 (.l ops (l.drop n) :: k) (S x)) → G C Q0 (.l ops l :: k) st) : G C Q0 (.l ops l :: k) st := h2 h1
end
end Go.Ab

/- The abstract machine: arrays in blocks, read and written by an index. Conditions: none but those that stand in each law. -/
namespace Go.Ab
open Go Go.RowKit Go.ChangeShapes Go.WideShapes Go.ChangeAt

/-- 'a[i]' of an array of n -/
def aidx {α : Type} (n : Nat) (l : List α) (i : Int) : Option α := if 0 ≤ i ∧ i < n then l[i.toNat]? else none
/-- 'a[i] = x' -/
def asets {α : Type} (n : Nat) (l : List α) (i : Int) (x : α) : Option (List α) := if 0 ≤ i ∧ i < n ∧ i < l.length then some (l.set i.toNat x) else none

theorem aidx_ok {α : Type} {n : Nat} {l : List α} {i : Int} {x : α} (h : aidx n l i = some x) : 0 ≤ i ∧ i < n ∧ l[i.toNat]? = some x := by
  unfold aidx at h
  split at h
  · rename_i c; exact ⟨c.1, c.2, h⟩
  · cases h
theorem asets_ok {α : Type} {n : Nat} {l l' : List α} {i : Int} {x : α} (h : asets n l i x = some l') : 0 ≤ i ∧ i < n ∧ i.toNat < l.length ∧ l' = l.set i.toNat x := by
  unfold asets at h
  split at h
  · rename_i c; cases h; exact ⟨c.1, c.2.1, by omega, rfl⟩
  · cases h

theorem flat_len {α β : Type} {f : α → List β} {size : Nat} (hs : ∀ x, (f x).length = size) (l : List α) : (l.flatMap f).length = l.length * size := by
  induction l with
  | nil => simp
  | cons a l ih => rw [List.flatMap_cons, List.length_append, hs, ih, List.length_cons, Nat.succ_mul, Nat.add_comm]

theorem flat_at {α β : Type} {f : α → List β} {size : Nat} (hs : ∀ x, (f x).length = size) {l : List α} {i : Nat} {x : α} (h : l[i]? = some x) : ((l.flatMap f).drop (i * size)).take size = f x := by
  induction l generalizing i with
  | nil => simp at h
  | cons a l ih =>
    rw [List.flatMap_cons]
    cases i with
    | zero => simp at h; subst h; simp [← hs a]
    | succ i =>
      have h : l[i]? = some x := by simpa using h
      rw [Nat.succ_mul, Nat.add_comm, List.drop_append, hs, List.drop_of_length_le (by rw [hs]; omega), Nat.add_sub_cancel_left]
      exact ih h

theorem flat_splice {α β : Type} {f : α → List β} {size : Nat} (hs : ∀ x, (f x).length = size) {l : List α} {i : Nat} (x : α) (h : i < l.length) :
    (l.flatMap f).take (i * size) ++ f x ++ (l.flatMap f).drop (i * size + (f x).length) = (l.set i x).flatMap f := by
  induction l generalizing i with
  | nil => simp at h
  | cons a l ih =>
    cases i with
    | zero => simp [List.flatMap_cons, hs]
    | succ i =>
      have h := ih (i := i) (by simpa using h)
      rw [List.set_cons_succ, List.flatMap_cons, List.flatMap_cons, ← h, Nat.succ_mul, Nat.add_comm (i * size), Nat.add_assoc size, List.take_append, List.drop_append, hs]
      rw [List.take_of_length_le (by rw [hs]; omega), List.drop_of_length_le (by rw [hs]; omega), Nat.add_sub_cancel_left, Nat.add_sub_cancel_left]
      simp [hs]

section
variable {P : Program} {nt : Nat} {C : Cx P nt} {dst : Nat} {ty : TypeId} {pos : String} {af : Array Edge} {gd : Option (Nat × Bool)} {x y : Operand} {R1 R2 : List (Nat × SV)}

theorem op_indexA {T E n size bytes k : Nat} {zz : Value} {kd : IntKind} {i : Int} (hT : P.underlying T = some (.array n E)) (hI : Info P E zz size bytes) (h0 : 0 ≤ i) (hi : i < n) (hx : Ev x (.ptr k 0) R1) (hy : Ev y (bI kd i) R2) (hd : Nat.blt dst nt = true) :
    OpL C (Oo dst (.indexAddr T x y) ty pos af gd) (R1 ++ R2) [] [(dst, .one (.ptr k (i.toNat * size)))] [] :=
  opl_pure hd rfl fun sl hp β a w hs _ r => by
    obtain ⟨he', b, hb, hu⟩ := hx.ok hs.app.1 r
    have h2 := BR.v_inv (hy.ok hs.app.2 r)
    refine ⟨.pointer (some ⟨b, i.toNat * size, none⟩), ?_, he', b, hb, rfl⟩
    simp [execOp, hu, h2, Instr.indexAt, asIntOf, run_underlying hT, Instr.sureAddr, h0, hi, hI.sizeOf, Addr.add_lit]
end

theorem arr_at1 {α : Type} {n : Nat} {l : List α} {i : Int} {x : α} {enc : α → List DV} {d : DV} (h : aidx n l i = some x) (hs : ∀ x, (enc x).length = 1) (hd : enc x = [d]) : (dat (l.flatMap enc))[i.toNat * 1]? = some (.g (.d d)) := by
  have h1 := flat_at hs (aidx_ok h).2.2
  rw [hd] at h1
  have h2 : (((l.flatMap enc).drop (i.toNat * 1)).take 1)[0]? = some d := by rw [h1]; rfl
  rw [List.getElem?_take, if_pos (by decide), List.getElem?_drop, Nat.add_zero] at h2
  simp only [dat, List.getElem?_map, h2, Option.map_some]
theorem arr_lt1 {α : Type} {n : Nat} {l l' : List α} {i : Int} {x : α} {enc : α → List DV} (h : asets n l i x = some l') (hs : ∀ x, (enc x).length = 1) : Nat.blt (i.toNat * 1) (dat (l.flatMap enc)).length = true := by
  have := (asets_ok h).2.2.1
  simp only [dat, List.length_map, flat_len hs, Nat.blt_eq]
  omega
theorem arr_set {α : Type} {n : Nat} {l l' : List α} {i : Int} {x : α} {enc : α → List DV} {size : Nat} (h : asets n l i x = some l') (hs : ∀ x, (enc x).length = size) : splice (dat (l.flatMap enc)) (i.toNat * size) (dat (enc x)) = dat (l'.flatMap enc) := by
  obtain ⟨_, _, h1, rfl⟩ := asets_ok h
  have h2 := flat_splice hs x h1
  simp only [splice, dat, List.length_map]
  rw [← h2, List.map_append, List.map_append, List.map_take, List.map_drop]

theorem Opens.array {P : Program} {t e : TypeId} {n size : Nat} {X : Type} {enc : X → List DV} {wf : X → Prop} (ht : P.underlying t = some (.array n e)) (h : Opens P e X enc wf) (hc : P.cellsOf e = size) (hct : P.cellsOf t = n * size) (_hs : ∀ v, (enc v).length = size) :
    Opens P t (List X) (fun l => l.flatMap enc) (fun l => l.length = n ∧ ∀ x, x ∈ l → wf x) := by
  intro H en w base sp held fuel cs x hx hz
  obtain ⟨xs, m, rfl, rfl, hlen, hxl, hel⟩ := DataW.trod_array ht hx
  simp only [DataW.weights, ht] at hz
  rw [hct] at hlen
  have key : ∀ i, i < n → ∃ v : X, wf v ∧ F2 (RD (fun _ _ => False) w) ((cs.drop (i * size)).take size) (enc v) := by
    intro i hi
    have h1 := hel i hi
    rw [hc, show xs[i]? = some (xs[i]'(by omega)) by simp [hxl, hi]] at h1
    exact h H en w base sp held m _ _ h1 (weightsAll_mem hz _ (List.mem_map_of_mem (List.getElem_mem _)))
  clear hel hx
  have go : ∀ (k : Nat), k ≤ n → ∃ l : List X, l.length = k ∧ (∀ x, x ∈ l → wf x) ∧ F2 (RD (fun _ _ => False) w) (cs.take (k * size)) (l.flatMap enc) := by
    intro k
    induction k with
    | zero => intro _; exact ⟨[], rfl, fun x h => by simp at h, by simp; exact .nil⟩
    | succ k ih =>
      intro hk
      obtain ⟨l, h1, h2, h3⟩ := ih (by omega)
      obtain ⟨v, h4, h5⟩ := key k (by omega)
      refine ⟨l ++ [v], by simp [h1], fun x hx => ?_, ?_⟩
      · rcases List.mem_append.1 hx with hx | hx
        · exact h2 x hx
        · simp at hx; subst hx; exact h4
      · rw [Nat.succ_mul, List.take_add, List.flatMap_append]
        simpa using forall2_append h3 h5
  obtain ⟨l, h1, h2, h3⟩ := go n (Nat.le_refl _)
  rw [← hlen, List.take_length] at h3
  exact ⟨l, ⟨h1, h2⟩, h3⟩

theorem ids_dat (ds : List DV) : (dat ds).flatMap BV.ids = [] := by
  induction ds with
  | nil => rfl
  | cons d ds ih => exact ih

end Go.Ab

/- Rows of structs that are copied and grown: laws of the model's operations at any element size. Conditions: none but those that stand in each law. -/
namespace Go.Ab
open Go Go.RowKit

end Go.Ab

/- One element that is put into a row of the call's own: what the row holds then, out of what the heap holds. Conditions: none but those that stand in each law. -/
namespace Go.Ab
open Go Go.RowKit

theorem setCells_same (b : Nat) : ∀ (vs : List Value) (o : Nat) (w : World), (w.setCells b o vs).os = w.os ∧ (w.setCells b o vs).tape = w.tape ∧ (w.setCells b o vs).output = w.output ∧ (w.setCells b o vs).heap.size = w.heap.size ∧ ∀ k, k ≠ b → (w.setCells b o vs).heap[k]? = w.heap[k]?
  | [], _, _ => ⟨rfl, rfl, rfl, rfl, fun _ _ => rfl⟩
  | v :: vs, o, w => by
    obtain ⟨h1, h2, h3, h4, h5⟩ := setCells_same b vs (o + 1) (w.setCell ⟨b, o, none⟩ v)
    refine ⟨h1, h2, h3, by rw [World.setCells, h4]; simp [World.setCell], fun k hk => ?_⟩
    rw [World.setCells, h5 k hk]
    simp only [World.setCell, Array.getElem?_modify]
    rw [if_neg (fun c => hk c.symm)]

theorem setCells_row (b T : Nat) (fz : Nat × Nat) : ∀ (vs : List Value) (o : Nat) (w : World) (cur : Array Value), w.heap[b]? = some (.cells cur T fz) → o + vs.length ≤ cur.size →
    ∃ cur', (w.setCells b o vs).heap[b]? = some (.cells cur' T fz) ∧ cur'.size = cur.size ∧ ∀ j, cur'[j]? = if o ≤ j ∧ j < o + vs.length then vs[j - o]? else cur[j]?
  | [], o, w, cur, h, _ => ⟨cur, h, rfl, fun j => by rw [if_neg (by simp)]⟩
  | v :: vs, o, w, cur, h, hl => by
    simp only [List.length_cons] at hl
    have h1 : (w.setCell ⟨b, o, none⟩ v).heap[b]? = some (.cells (cur.setIfInBounds o v) T fz) := by
      simp only [World.setCell, Array.getElem?_modify, if_true, h, Option.map_some]
      rfl
    obtain ⟨cur', h2, h3, h4⟩ := setCells_row b T fz vs (o + 1) (w.setCell ⟨b, o, none⟩ v) (cur.setIfInBounds o v) h1 (by simp; omega)
    refine ⟨cur', h2, by rw [h3]; simp, fun j => ?_⟩
    rw [h4]
    simp only [List.length_cons]
    by_cases c : o + 1 ≤ j ∧ j < o + 1 + vs.length
    · rw [if_pos c, if_pos (by omega), show j - o = (j - (o + 1)) + 1 by omega, List.getElem?_cons_succ]
    · rw [if_neg c]
      by_cases c2 : j = o
      · subst c2
        rw [if_pos (by omega), Nat.sub_self, Array.getElem?_setIfInBounds, if_pos rfl, if_pos (by omega)]
        rfl
      · rw [if_neg (by omega), Array.getElem?_setIfInBounds, if_neg (fun c => c2 c.symm)]

/-- what a call leaves that hands back a row of m elements: its cells begin with xs; it lies in the block 'own', or in a new one -/
structure InsR (E z : Nat) (own : Option Nat) (m : Nat) (xs : List Value) (w w' : World) (v : Value) : Prop where
  os : w'.os = w.os
  tape : w'.tape = w.tape
  output : w'.output = w.output
  size : w.heap.size ≤ w'.heap.size
  block : ∀ k, k < w.heap.size → own ≠ some k → w'.heap[k]? = w.heap[k]?
  row : ∃ (b cap : Nat) (cur : Array Value), v = .slice (some ⟨b, 0, none⟩) m cap ∧ m ≤ cap ∧ cap ≤ maxLen ∧ (own = some b ∨ w.heap.size ≤ b) ∧ b < w'.heap.size ∧ w'.heap[b]? = some (.cells cur E (0, 0)) ∧ cur.size = cap * z ∧ ∀ (j : Nat) (u : Value), xs[j]? = some u → cur[j]? = some u

/-- what is known of the element that is put in: its cells lie in another block -/
structure InsV (z : Nat) (w : World) (b : Option Nat) (vb vo : Nat) (vs : List Value) : Prop where
  len : vs.length = z
  cell : ∀ (j : Nat) (v : Value), vs[j]? = some v → w.cell? ⟨vb, vo + j, none⟩ = some v
  one : ∀ v ∈ vs, v.oneCell' = true
  apart : b ≠ some vb
  shape : ∃ t k, w.shape? vb = some (t, k) ∧ k ≠ 0

end Go.Ab

/- The ways of an insertion: what each leaves. Conditions: none but those that stand in each law. -/
namespace Go.Ab
open Go Go.RowKit

theorem InsR.shift {E z b c n i : Nat} {cur : Array Value} {vs : List Value} {w : World} (hh : w.heap[b]? = some (.cells cur E (0, 0))) (hc : cur.size = c * z) (hi : i < n) (hn : n + 1 ≤ c) (hm : c ≤ maxLen) (hv : vs.length = z) :
    InsR E z (some b) (n + 1) ((cur.toList.take (n * z)).take (i * z) ++ (vs ++ (cur.toList.take (n * z)).drop (i * z))) w ((w.drew.setCells b ((i + 1) * z) ((cur.toList.take (n * z)).drop (i * z))).setCells b (i * z) vs) (.slice (some ⟨b, 0, none⟩) (n + 1) c) := by
  have hnz : (n + 1) * z ≤ cur.size := by rw [hc]; exact Nat.mul_le_mul_right _ hn
  have hiz : (i + 1) * z ≤ n * z := Nat.mul_le_mul_right _ hi
  rw [Nat.succ_mul] at hnz hiz
  have hdl : ((cur.toList.take (n * z)).drop (i * z)).length = n * z - i * z := by simp; omega
  obtain ⟨c1, h1, h2, h3⟩ := setCells_row b E (0, 0) ((cur.toList.take (n * z)).drop (i * z)) ((i + 1) * z) w.drew cur hh (by rw [hdl, Nat.succ_mul]; omega)
  obtain ⟨c2, h4, h5, h6⟩ := setCells_row b E (0, 0) vs (i * z) _ c1 h1 (by rw [h2, hv]; omega)
  obtain ⟨a1, a2, a3, a4, a5⟩ := setCells_same b ((cur.toList.take (n * z)).drop (i * z)) ((i + 1) * z) w.drew
  obtain ⟨b1, b2, b3, b4, b5⟩ := setCells_same b vs (i * z) (w.drew.setCells b ((i + 1) * z) ((cur.toList.take (n * z)).drop (i * z)))
  have hb : b < w.heap.size := (Array.getElem?_eq_some_iff.1 hh).1
  refine ⟨b1.trans a1, b2.trans a2, b3.trans a3, by rw [b4, a4]; exact Nat.le_refl _, fun k _ hk => ?_, b, c, c2, rfl, hn, hm, .inl rfl, by rw [b4, a4]; exact hb, h4, by rw [h5, h2, hc], fun j u hj => ?_⟩
  · have hkb : k ≠ b := fun e => hk (by rw [e])
    rw [b5 k hkb, a5 k hkb]; rfl
  · rw [h6, hv]
    have htl : ((cur.toList.take (n * z)).take (i * z)).length = i * z := by simp; omega
    by_cases g1 : j < i * z
    · rw [if_neg (by omega), h3, if_neg (by rw [Nat.succ_mul]; omega)]
      rw [List.getElem?_append_left (by rw [htl]; exact g1), List.getElem?_take_of_lt g1, List.getElem?_take_of_lt (by omega), Array.getElem?_toList] at hj
      exact hj
    · rw [List.getElem?_append_right (by rw [htl]; omega), htl] at hj
      by_cases g2 : j < i * z + z
      · rw [if_pos ⟨by omega, g2⟩]
        rwa [List.getElem?_append_left (by rw [hv]; omega)] at hj
      · rw [if_neg (by omega), h3]
        rw [List.getElem?_append_right (by rw [hv]; omega), hv] at hj
        have hlt := (List.getElem?_eq_some_iff.1 hj).1
        rw [hdl] at hlt
        rw [if_pos (by rw [hdl, Nat.succ_mul]; omega), Nat.succ_mul, show j - (i * z + z) = j - i * z - z by omega]
        exact hj

theorem InsR.room {E z b c n : Nat} {cur : Array Value} {vs : List Value} {w : World} (hh : w.heap[b]? = some (.cells cur E (0, 0))) (hc : cur.size = c * z) (hn : n + 1 ≤ c) (hm : c ≤ maxLen) (hv : vs.length = z) :
    InsR E z (some b) (n + 1) ((cur.toList.take (n * z)).take (n * z) ++ (vs ++ (cur.toList.take (n * z)).drop (n * z))) w (w.setCells b (n * z) vs) (.slice (some ⟨b, 0, none⟩) (n + 1) c) := by
  have hnz : (n + 1) * z ≤ cur.size := by rw [hc]; exact Nat.mul_le_mul_right _ hn
  rw [Nat.succ_mul] at hnz
  obtain ⟨c1, h1, h2, h3⟩ := setCells_row b E (0, 0) vs (n * z) w cur hh (by rw [hv]; omega)
  obtain ⟨a1, a2, a3, a4, a5⟩ := setCells_same b vs (n * z) w
  have hb : b < w.heap.size := (Array.getElem?_eq_some_iff.1 hh).1
  have htl : (cur.toList.take (n * z)).length = n * z := by simp; omega
  refine ⟨a1, a2, a3, by rw [a4]; exact Nat.le_refl _, fun k _ hk => a5 k fun e => hk (by rw [e]), b, c, c1, rfl, hn, hm, .inl rfl, by rw [a4]; exact hb, h1, by rw [h2, hc], fun j u hj => ?_⟩
  rw [List.take_of_length_le (by rw [htl]; exact Nat.le_refl _), List.drop_of_length_le (by rw [htl]; exact Nat.le_refl _), List.append_nil] at hj
  rw [h3, hv]
  by_cases g1 : j < n * z
  · rw [if_neg (by omega)]
    rw [List.getElem?_append_left (by rw [htl]; exact g1), List.getElem?_take_of_lt g1, Array.getElem?_toList] at hj
    exact hj
  · rw [List.getElem?_append_right (by rw [htl]; omega), htl] at hj
    have hlt := (List.getElem?_eq_some_iff.1 hj).1
    rw [hv] at hlt
    rw [if_pos (by omega)]
    exact hj

theorem InsR.fresh {E z n G : Nat} {own : Option Nat} {xs : List Value} {zs : Array Value} {w : World} (hl : xs.length = (n + 1) * z) (hz : zs.size = (G - (n + 1)) * z) (hg : n + 1 ≤ G) (hm : G ≤ maxLen) :
    InsR E z own (n + 1) xs w (w.drew.alloc (.cells (xs.toArray ++ zs) E)) (.slice (some ⟨w.heap.size, 0, none⟩) (n + 1) G) := by
  have ha : ∀ k, k < w.heap.size → (w.drew.alloc (.cells (xs.toArray ++ zs) E)).heap[k]? = w.heap[k]? := fun k hk => heap_alloc_old w.drew _ hk
  refine ⟨rfl, rfl, rfl, by simp, fun k hk _ => ha k hk, w.heap.size, G, xs.toArray ++ zs, rfl, hg, hm, .inr (Nat.le_refl _), by simp, heap_alloc_new w.drew _, ?_, fun j u hj => ?_⟩
  · rw [Array.size_append, hz, List.size_toArray, hl, ← Nat.add_mul]
    congr 1
    omega
  · have hlt := (List.getElem?_eq_some_iff.1 hj).1
    rw [Array.getElem?_append_left (by simpa using hlt), List.getElem?_toArray]
    exact hj

theorem InsR.grow {E z n i G : Nat} {own : Option Nat} {cs vs : List Value} {zs1 zs2 : Array Value} {w : World} (hcl : cs.length = n * z) (hi : i < n) (hv : vs.length = z) (hz1 : zs1.size = (n + 1 - i) * z) (hz2 : zs2.size = (G - (n + 1)) * z) (hg : n + 1 ≤ G) (hm : G ≤ maxLen) :
    InsR E z own (n + 1) (cs.take (i * z) ++ (vs ++ cs.drop (i * z))) w ((((w.alloc (.cells ((cs.take (i * z)).toArray ++ zs1 ++ zs2) E)).drew.setCells w.heap.size (i * z) vs).drew).setCells w.heap.size ((i + 1) * z) (cs.drop (i * z))) (.slice (some ⟨w.heap.size, 0, none⟩) (n + 1) G) := by
  have hiz : (i + 1) * z ≤ n * z := Nat.mul_le_mul_right _ hi
  rw [Nat.succ_mul] at hiz
  generalize hR : (cs.take (i * z)).toArray ++ zs1 ++ zs2 = R
  have hRs : R.size = G * z := by
    rw [← hR, Array.size_append, Array.size_append, hz1, hz2, List.size_toArray, List.length_take, hcl, Nat.min_eq_left (by omega), ← Nat.add_mul, ← Nat.add_mul]
    congr 1
    omega
  have hGz : (n + 1) * z ≤ R.size := by rw [hRs]; exact Nat.mul_le_mul_right _ hg
  rw [Nat.succ_mul] at hGz
  have hR0 : ∀ j, j < i * z → R[j]? = cs[j]? := fun j hj => by
    rw [← hR, Array.append_assoc, Array.getElem?_append_left (by simp; omega), List.getElem?_toArray, List.getElem?_take_of_lt hj]
  have h0 : ((w.alloc (.cells R E)).drew).heap[w.heap.size]? = some (.cells R E (0, 0)) := heap_alloc_new w _
  have hdl : (cs.drop (i * z)).length = n * z - i * z := by simp [hcl]
  obtain ⟨c1, h1, h2, h3⟩ := setCells_row w.heap.size E (0, 0) vs (i * z) (w.alloc (.cells R E)).drew R h0 (by rw [hv]; omega)
  obtain ⟨c2, h4, h5, h6⟩ := setCells_row w.heap.size E (0, 0) (cs.drop (i * z)) ((i + 1) * z) (((w.alloc (.cells R E)).drew.setCells w.heap.size (i * z) vs).drew) c1 h1 (by rw [h2, hdl, Nat.succ_mul]; omega)
  obtain ⟨a1, a2, a3, a4, a5⟩ := setCells_same w.heap.size vs (i * z) (w.alloc (.cells R E)).drew
  obtain ⟨b1, b2, b3, b4, b5⟩ := setCells_same w.heap.size (cs.drop (i * z)) ((i + 1) * z) (((w.alloc (.cells R E)).drew.setCells w.heap.size (i * z) vs).drew)
  have hsz : ((((w.alloc (.cells R E)).drew.setCells w.heap.size (i * z) vs).drew).setCells w.heap.size ((i + 1) * z) (cs.drop (i * z))).heap.size = w.heap.size + 1 := by
    rw [b4]
    have : ((w.alloc (.cells R E)).drew.setCells w.heap.size (i * z) vs).heap.size = w.heap.size + 1 := by rw [a4]; simp
    exact this
  refine ⟨b1.trans a1, b2.trans a2, b3.trans a3, by rw [hsz]; omega, fun k hk _ => ?_, w.heap.size, G, c2, rfl, hg, hm, .inr (Nat.le_refl _), by rw [hsz]; omega, h4, by rw [h5, h2, hRs], fun j u hj => ?_⟩
  · rw [b5 k (by omega)]
    have := a5 k (by omega)
    refine Eq.trans this ?_
    exact heap_alloc_old w _ hk
  · have htl : (cs.take (i * z)).length = i * z := by rw [List.length_take, hcl]; omega
    rw [h6, hdl]
    by_cases g1 : j < i * z
    · rw [if_neg (by rw [Nat.succ_mul]; omega), h3, if_neg (by omega), hR0 j g1]
      rwa [List.getElem?_append_left (by rw [htl]; exact g1), List.getElem?_take_of_lt g1] at hj
    · rw [List.getElem?_append_right (by rw [htl]; omega), htl] at hj
      by_cases g2 : j < i * z + z
      · rw [if_neg (by rw [Nat.succ_mul]; omega), h3, hv, if_pos ⟨by omega, g2⟩]
        rwa [List.getElem?_append_left (by rw [hv]; omega)] at hj
      · rw [List.getElem?_append_right (by rw [hv]; omega), hv] at hj
        have hlt := (List.getElem?_eq_some_iff.1 hj).1
        rw [hdl] at hlt
        rw [if_pos (by rw [Nat.succ_mul]; omega), Nat.succ_mul, show j - (i * z + z) = j - i * z - z by omega]
        exact hj

end Go.Ab

/- The abstract machine: a call that keeps the row that it is handed, and makes it longer, as one operation. Conditions: none but those that stand in each law. -/
namespace Go.Ab
open Go Go.RowKit

section
variable {P : Program} {nt : Nat} {C : Cx P nt} {dst : Nat} {ty : TypeId} {pos : String} {af : Array Edge} {gd : Option (Nat × Bool)} {x : Operand} {R1 R2 : List (Nat × SV)}

end

section
variable {P : Program} {nt : Nat} {C : Cx P nt} {hp hp' : HL} {β : Nat → Option Nat} {w : World}
theorem Mu_ext (h : ∀ k, hget hp' k = hget hp k) : Mu C hp' β = Mu C hp β := by
  funext b o
  simp only [Mu, h]
theorem BR_ext (h : ∀ k, hget hp' k = hget hp k) (c : BV) (u : Value) : BR C hp' β w c u = BR C hp β w c u := by
  cases c <;> simp only [BR, Mu_ext h, h]
theorem SR_ext (h : ∀ k, hget hp' k = hget hp k) (c : SV) (u : Value) : SR C hp' β w c u = SR C hp β w c u := by
  cases c <;> simp only [SR, BR_ext h]
theorem HR_ext (h : ∀ k, hget hp' k = hget hp k) (k : Nat) (e : HE) : HR C hp' β w k e = HR C hp β w k e := by
  cases e <;> simp only [HR, BR_ext h, Mu_ext h, h]
theorem RelB.hpExt {sl : SL} {a : Act} (r : RelB C ⟨sl, hp⟩ β a w) (h : ∀ k, hget hp' k = hget hp k) : RelB C ⟨sl, hp'⟩ β a w where
  keep := r.keep
  low := r.low
  inj := fun k k' e e' b h1 h2 => r.inj k k' e e' b ((h k).symm.trans h1) ((h k').symm.trans h2)
  own := fun k e b h1 => r.own k e b ((h k).symm.trans h1)
  hp := fun k e h1 => by rw [HR_ext h]; exact r.hp k e ((h k).symm.trans h1)
  sl := fun t sv hs => by rw [SR_ext h]; exact r.sl t sv hs
  size := r.size
  df := r.df
  fx := fun b hb => ⟨(r.fx b hb).1, fun e he => (r.fx b hb).2 e ((h 0).symm.trans he)⟩
end

section
variable {P : Program} {nt : Nat} {C : Cx P nt} {dst : Nat}
end
end Go.Ab

/- The abstract machine: elements of rows of the call's own, by a pointer. Conditions: none but those that stand in each law. -/
namespace Go.Ab
open Go Go.RowKit

section
variable {P : Program} {nt : Nat} {C : Cx P nt} {dst : Nat} {ty : TypeId} {pos : String} {af : Array Edge} {gd : Option (Nat × Bool)} {x y : Operand} {R1 R2 R : List (Nat × SV)}

theorem flatten_len {size : Nat} : ∀ {es : List (List DV)}, (∀ cs, cs ∈ es → cs.length = size) → es.flatten.length = es.length * size
  | [], _ => by simp
  | c :: es, h => by
    rw [List.flatten_cons, List.length_append, h c (by simp), flatten_len (es := es) fun x hx => h x (by simp [hx]), List.length_cons, Nat.succ_mul]
    omega

end

section
variable {P : Program} {nt : Nat} {C : Cx P nt} {Q0 : Exit → Act → World → Prop} {k : List KI}
end

section
variable {P : Program} {nt : Nat} {C : Cx P nt} {dst : Nat} {ty : TypeId} {pos : String} {af : Array Edge} {gd : Option (Nat × Bool)} {R : List (Nat × SV)}
/-- a slice of some elements that is to be appended to -/
theorem op_buildRowN {T E : TypeId} {zz : Value} {size bytes len kk : Nat} {es : List (List DV)} {xs : List (Nat × Operand)} {gs : List (Nat × AG)} {ex : Bool}
    (hT : P.underlying T = some (.slice E)) (hI : Info P E zz size bytes) (hz : Nat.blt 0 size = true) (hbig : Nat.ble (len * size) 16777216 = true) (hlen : Nat.ble len 16777216 = true)
    (hx : EvP xs gs R) (he : dfill (fun i => some (i * size, size)) (List.replicate (len * size) none) gs = some (es.flatten.map some)) (hel : Nat.beq es.length len = true) (hes : ∀ cs, cs ∈ es → cs.length = size) (hd : Nat.blt dst nt = true) (hk0 : Nat.blt 0 kk = true := by rfl) :
    OpL C (Oo dst (.buildSlice T len xs.toArray) ty pos af gd) R [(kk, none)] [(dst, .one (.own kk es))] [(kk, some (.row E size es ex))] := by
  refine ⟨fun sl hp hs hh a w K Q ⟨β, r⟩ hK => ?_⟩
  have hel := Nat.eq_of_beq_eq_true hel
  have hbig' : ¬ (16777216 < len * size) := by simp at hbig; omega
  obtain ⟨h1, h2⟩ := hx.ok hs r
  generalize hz0 : (if len * size = 0 then (#[] : Array Value) else zz.cells) = z0
  have hvr0 : VR (Mu C hp β) w ((Array.range (len * size)).map (z0[· % z0.size]!)) (List.replicate (len * size) none) := ⟨by simp, fun j d hj => by rw [List.getElem?_replicate] at hj; split at hj <;> simp at hj⟩
  obtain ⟨vals, hf, hv⟩ := fill_vr (vparts := xs.map fun q => (q.1, a.eval q.2)) hvr0 (by simpa using h1) h2 he
  have hrun : (execOp a.eval (Oo dst (.buildSlice T len xs.toArray) ty pos af gd)).run P w = .ok (.value (.slice (some ⟨w.heap.size, 0, none⟩) len len)) (w.alloc (.cells vals E)) := by
    simp only [execOp, Instr.buildSlice, Sem.run_bind, run_underlying hT, Result.andThen_ok, hI.sizeOf]
    rw [if_neg (by simpa using hbig')]
    by_cases h0 : len * size = 0
    · rw [if_pos h0] at hz0
      subst hz0
      rw [if_pos h0]
      simp only [Sem.run_bind, Sem.run_pure, Result.andThen_ok, List.map_toArray, hf, newRow, run_newObj]
      rfl
    · rw [if_neg h0] at hz0
      subst hz0
      rw [if_neg h0]
      simp only [Sem.run_bind, Sem.run_pure, Result.andThen_ok, hI.zero, List.map_toArray, hf, newRow, run_newObj]
      rfl
  unfold Oper.wp
  rw [hrun]
  have hsize : vals.size = len * size := by
    have h3 := hv.1
    rw [List.length_map] at h3
    rw [h3, ← hel]
    exact flatten_len hes
  have h := (r.new (e := .row E size es ex) (bo := some w.heap.size) hh.1 hk0 (below_alloc w (.cells vals E)) (fun b hb => by cases hb; exact ⟨rfl, by simp⟩) fun _ hRD =>
    ⟨by simpa using hz, hes, .inr ⟨w.heap.size, vals, by simp [upd], heap_alloc_new w _, by rw [hsize, hel]; exact Nat.le_refl _, fun i cs j d hi hj => by
      obtain ⟨u, h3, h4⟩ := hv.2 (i * size + j) d (by rw [List.getElem?_map, flatten_get size es hes i cs j d hi hj]; rfl)
      exact ⟨u, h3, hRD _ _ h4⟩⟩⟩).1
  exact hK _ _ ⟨_, h.put (Below.refl _ _) (by simpa using hd) ⟨E, size, es, ex, by rw [hget_cons, if_pos rfl], Nat.le_refl _, fun _ => .inr ⟨w.heap.size, len, vals, by simp [upd], by rw [hel], by rw [hel]; exact Nat.le_refl _, by simp at hlen; unfold maxLen; omega, heap_alloc_new w _, hsize⟩⟩⟩
end
end Go.Ab

/- One element that is taken out of a row of the call's own: laws of the model's operations, and the contract. Conditions: none but those that stand in each law. -/
namespace Go.Ab
open Go Go.RowKit Go.Proofs

end Go.Ab

/- The abstract machine: a call with functions among its arguments that hands back data. Conditions: none but those that stand in each law. -/
namespace Go.Ab
open Go Go.RowKit

section
variable {P : Program} {nt : Nat} {C : Cx P nt} {dst : Nat} {ty : TypeId} {pos : String} {af : Array Edge} {gd : Option (Nat × Bool)}

theorem EvX.okN {sl : SL} {hp : HL} {β : Nat → Option Nat} {a : Act} {w : World} {xs : List Operand} {gs : List RG} {R : List (Nat × SV)} {Rh : List (Nat × Option HE)}
    (hx : EvX P xs gs R Rh) (hs : HasS sl R) (hh : HasH hp Rh) (r : RelB C ⟨sl, hp⟩ β a w) :
    (xs.map a.eval).length = gs.length ∧ ∀ (i : Nat) (g : RG) (v : Value), gs[i]? = some g → (xs.map a.eval)[i]? = some v → ArgR P (Mu C hp β) (fun _ => False) w g v := by
  induction hx with
  | nil => exact ⟨rfl, fun i g v h => by simp at h⟩
  | g h t ih =>
    obtain ⟨h3, h4⟩ := ih hs.app.2 hh
    refine ⟨by simpa using h3, fun i g v hg hv => ?_⟩
    cases i with
    | zero => simp at hg hv; subst hg hv; exact GR.less (fun b o c => c.elim id False.elim) (h.ok hs.app.1 r)
    | succ i => exact h4 i g v (by simpa using hg) (by simpa using hv)
  | sem h t ih =>
    obtain ⟨h3, h4⟩ := ih hs.app.2 hh
    refine ⟨by simpa using h3, fun i g v hg hv => ?_⟩
    cases i with
    | zero =>
      simp at hg hv; subst hg hv
      obtain ⟨f, caps, hu, hcf, hf⟩ := (h.ok hs.app.1 r : SemFn P C.w0 C.K _ _)
      refine ⟨f, caps, hu, hcf, fun w'' hb' => hf w'' ⟨hb'.os.trans r.keep.os, hb'.tape.trans r.keep.tape, hb'.output.trans r.keep.output, Nat.le_trans r.keep.size hb'.size, fun q hq hK => ?_⟩⟩
      rw [hb'.block q (Nat.lt_of_lt_of_le hq r.keep.size) (fun c => c.elim)]
      exact r.keep.block q hq hK
    | succ i => exact h4 i g v (by simpa using hg) (by simpa using hv)
  | clo h hc hcf hΦ t ih =>
    obtain ⟨h3, h4⟩ := ih hs.app.2 hh.app.2
    refine ⟨by simpa using h3, fun i g v hg hv => ?_⟩
    cases i with
    | zero =>
      simp at hg hv; subst hg hv
      exact clo_sem r (h.ok hs.app.1 r) hc hh.app.1 (fun b hb => hb.elim) (fun b hb o => hb.elim) hcf hΦ
    | succ i => exact h4 i g v (by simpa using hg) (by simpa using hv)

end

section
variable {P : Program} {nt : Nat} {C : Cx P nt} {dst : Nat} {ty : TypeId} {pos : String} {af : Array Edge} {gd : Option (Nat × Bool)} {R : List (Nat × SV)}
/-- an array of elements -/
theorem op_buildA {T E : TypeId} {n : Nat} {zz zzE : Value} {size bytes sizeE bytesE : Nat} {zs ds : List DV} {xs : List (Nat × Operand)} {gs : List (Nat × AG)}
    (hT : P.underlying T = some (.array n E)) (hI : Info P T zz size bytes) (hIE : Info P E zzE sizeE bytesE) (hz : ZD zz.cells.toList zs)
    (hx : EvP xs gs R) (he : dfill (fun i => some (i * sizeE, sizeE)) (zs.map some) gs = some (ds.map some)) (hd : Nat.blt dst nt = true) :
    OpL C (Oo dst (.build T xs.toArray) ty pos af gd) R [] [(dst, .one (.g (.agg ds)))] [] :=
  opl_pure hd rfl fun sl hp β a w hs _ r => by
    obtain ⟨h1, h2⟩ := hx.ok hs r
    obtain ⟨vals, hf, hv⟩ := fill_vr (vparts := xs.map fun q => (q.1, a.eval q.2)) (ZD.vr (M := Mu C hp β) (w := w) hz) (by simpa using h1) h2 he
    refine ⟨.agg vals, ?_, vals, rfl, by simpa using hv.1, fun j d hj => hv.2 j d (by simp [hj])⟩
    have hf' : Instr.fill (fun i => some (i * sizeE, sizeE)) zz.cells (List.map (fun x => (x.fst, a.eval x.snd)) xs) = some vals := by simpa using hf
    simp only [execOp, Instr.build, Sem.run_bind, hI.zero, Result.andThen_ok, run_underlying hT, hIE.sizeOf, List.map_toArray, hf', Sem.run_pure]
end
end Go.Ab

/- The abstract machine: functions that are handed a pointer and write there (a block of plain data, a strings.Builder). Conditions: none but those that stand in each law. -/
namespace Go.Ab
open Go Go.RowKit

section
variable {P : Program} {nt : Nat} {C : Cx P nt}

/-- a builder is written: its block, and the one in which its bytes lie -/
theorem RelB.chgB {sl : SL} {hp : HL} {β : Nat → Option Nat} {a : Act} {w w1 : World} (r : RelB C ⟨sl, hp⟩ β a w) {k kk T E b : Nat} {s : ByteArray} {e : HE} {go : Option Nat}
    (hk : hget hp k = some (.bld T E kk s)) (hb : β k = some b)
    (hos : w1.os = w.os) (htape : w1.tape = w.tape) (hout : w1.output = w.output) (hsize : w.heap.size ≤ w1.heap.size) (hblock : ∀ i, i < w.heap.size → i ≠ b → some i ≠ β kk → w1.heap[i]? = w.heap[i]?)
    (hgo : ∀ g, go = some g → β kk = some g ∨ (w.heap.size ≤ g ∧ g < w1.heap.size)) (hrow : e.isRow = false)
    (hH : HR C ((k, some e) :: (kk, some (.hid true k)) :: hp) (upd β kk go) w1 k e) :
    RelB C ⟨sl, (k, some e) :: (kk, some (.hid true k)) :: hp⟩ (upd β kk go) a w1 ∧
      (∀ b' o, Mu C ((k, some e) :: (kk, some (.hid true k)) :: hp) (upd β kk go) b' o → (Mu C hp β b' o ∧ β kk ≠ some b') ∨ go = some b') := by
  have hkk : hget hp kk = some (.hid true k) := (r.hp k _ hk).1
  have hne : kk ≠ k := fun c => by subst c; rw [hk] at hkk; cases hkk
  have hgk : ∀ e', hget ((k, some e) :: (kk, some (.hid true k)) :: hp) k = some e' → e' = e := fun e' h => by rw [hget_cons, if_pos rfl] at h; cases h; rfl
  have hgkk : hget ((k, some e) :: (kk, some (.hid true k)) :: hp) kk = some (.hid true k) := by rw [hget_cons, if_neg (Ne.symm hne), hget_cons, if_pos rfl]
  have hgo' : ∀ k', k' ≠ k → k' ≠ kk → hget ((k, some e) :: (kk, some (.hid true k)) :: hp) k' = hget hp k' := fun k' c1 c2 => by rw [hget_cons, if_neg (Ne.symm c1), hget_cons, if_neg (Ne.symm c2)]
  have hup : ∀ k', k' ≠ kk → upd β kk go k' = β k' := fun k' c => by simp [upd, c]
  have hupk : upd β kk go kk = go := by simp [upd]
  -- other numbers' blocks are as they were
  have hoth : ∀ k' e' b' o, k' ≠ k → k' ≠ kk → hget hp k' = some e' → β k' = some b' → w.heap[b']? = some o → w1.heap[b']? = some o := fun k' e' b' o c1 c2 h hb' ho => by
    rw [hblock b' (Array.getElem?_eq_some_iff.1 ho).1 (fun c => c1 (r.inj k' k e' _ b' h hk hb' (c ▸ hb))) (fun c => c2 (r.inj k' kk e' _ b' h hkk hb' c.symm))]
    exact ho
  have hmu : ∀ b' o, Mu C ((k, some e) :: (kk, some (.hid true k)) :: hp) (upd β kk go) b' o → (Mu C hp β b' o ∧ β kk ≠ some b') ∨ go = some b' := by
    rintro b' o (hM | ⟨k', e', he', hb', hm'⟩)
    · refine .inl ⟨.inl hM, fun c => ?_⟩
      obtain ⟨h4, h5⟩ := r.low b' o hM
      rcases (r.own kk _ b' hkk c).1 with h6 | h6
      · omega
      · exact h5 h6
    · by_cases c1 : k' = k
      · subst c1
        rw [hup k' (Ne.symm hne)] at hb'
        exact .inl ⟨.inr ⟨k', _, hk, hb', trivial⟩, fun c => hne (r.inj kk k' _ _ b' hkk hk c hb')⟩
      · by_cases c2 : k' = kk
        · subst c2; rw [hupk] at hb'; exact .inr hb'
        · rw [hgo' k' c1 c2] at he'
          rw [hup k' c2] at hb'
          exact .inl ⟨.inr ⟨k', e', he', hb', hm'⟩, fun c => c2 (r.inj k' kk _ _ b' he' hkk hb' c)⟩
  have hst : ∀ b' o x, ¬ Mu C hp β b' o → w.cell? ⟨b', o, none⟩ = some x → w1.cell? ⟨b', o, none⟩ = some x ∧ ¬ Mu C ((k, some e) :: (kk, some (.hid true k)) :: hp) (upd β kk go) b' o := by
    intro b' o x hn hx
    have hlt := cell_lt hx
    constructor
    · rw [World.cell?_of_block (w := w) (a := ⟨b', o, none⟩) (hblock b' hlt (fun c => hn (.inr ⟨k, _, hk, c ▸ hb, trivial⟩)) (fun c => hn (.inr ⟨kk, _, hkk, c.symm, trivial⟩)))]
      exact hx
    · intro c
      rcases hmu b' o c with c | c
      · exact hn c.1
      · rcases hgo b' c with c2 | c2
        · exact hn (.inr ⟨kk, _, hkk, c2, trivial⟩)
        · omega
  have hBR : ∀ c u, BR C hp β w c u → BR C ((k, some e) :: (kk, some (.hid true k)) :: hp) (upd β kk go) w1 c u := by
    intro c u h
    refine BR.kept hst (fun k' _ e' he' hr => ?_) (fun k' es0 u _ h => ?_) h
    · by_cases c1 : k' = k
      · subst c1
        exact ⟨⟨e, by rw [hget_cons, if_pos rfl], hrow⟩, hup k' (Ne.symm hne)⟩
      · have c2 : k' ≠ kk := fun c => by subst c; rw [hkk] at he'; cases he'; cases hr
        exact ⟨⟨e', (hgo' k' c1 c2).trans he', hr⟩, hup k' c2⟩
    · obtain ⟨T', size, es, ex, hh, hl, hr⟩ := h
      have c1 : k' ≠ k := fun c => by subst c; rw [hk] at hh; cases hh
      have c2 : k' ≠ kk := fun c => by subst c; rw [hkk] at hh; cases hh
      refine ⟨T', size, es, ex, (hgo' k' c1 c2).trans hh, hl, fun hq => (hr hq).imp (fun ⟨h1, h3⟩ => ⟨(hup k' c2).trans h1, h3⟩) ?_⟩
      rintro ⟨b', cap, cur, q1, q2, q3, q4, q5, q6⟩
      exact ⟨b', cap, cur, (hup k' c2).trans q1, q2, q3, q4, hoth k' _ b' _ c1 c2 hh q1 q5, q6⟩
  refine ⟨⟨?_, r.low, ?_, ?_, ?_, ?_, r.size, r.df, fun b0 hb0 => ?_⟩, hmu⟩
  · refine ⟨hos.trans r.keep.os, htape.trans r.keep.tape, hout.trans r.keep.output, Nat.le_trans r.keep.size hsize, fun i hi hK => ?_⟩
    rw [hblock i (Nat.lt_of_lt_of_le hi r.keep.size) (fun c => ?_) (fun c => ?_)]
    · exact r.keep.block i hi hK
    · rcases (r.own k _ i hk (c ▸ hb)).1 with h1 | h1
      · omega
      · exact hK h1
    · rcases (r.own kk _ i hkk c.symm).1 with h1 | h1
      · omega
      · exact hK h1
  · -- what was known of a number's block
    have hold : ∀ k1 e1 b', hget ((k, some e) :: (kk, some (.hid true k)) :: hp) k1 = some e1 → upd β kk go k1 = some b' → (∃ e2, hget hp k1 = some e2 ∧ β k1 = some b') ∨ (k1 = kk ∧ w.heap.size ≤ b') := by
      intro k1 e1 b' h1 h2
      by_cases c1 : k1 = k
      · subst c1; exact .inl ⟨_, hk, (hup k1 (Ne.symm hne)).symm.trans h2⟩
      · by_cases c2 : k1 = kk
        · subst c2
          rw [hupk] at h2
          rcases hgo b' h2 with c3 | c3
          · exact .inl ⟨_, hkk, c3⟩
          · exact .inr ⟨rfl, c3.1⟩
        · exact .inl ⟨e1, (hgo' k1 c1 c2).symm.trans h1, (hup k1 c2).symm.trans h2⟩
    intro k1 k2 e1 e2 b' h1 h2 hb1 hb2
    rcases hold k1 e1 b' h1 hb1 with ⟨f1, g1, g2⟩ | ⟨c1, g1⟩
    · rcases hold k2 e2 b' h2 hb2 with ⟨f2, g3, g4⟩ | ⟨c2, g3⟩
      · exact r.inj k1 k2 f1 f2 b' g1 g3 g2 g4
      · have := (r.own k1 f1 b' g1 g2).2
        omega
    · rcases hold k2 e2 b' h2 hb2 with ⟨f2, g3, g4⟩ | ⟨c2, g3⟩
      · have := (r.own k2 f2 b' g3 g4).2
        omega
      · exact c1.trans c2.symm
  · intro k1 e1 b' h1 hb1
    by_cases c2 : k1 = kk
    · subst c2
      rw [hupk] at hb1
      rcases hgo b' hb1 with c3 | c3
      · have := r.own k1 _ b' hkk c3
        exact ⟨this.1, Nat.lt_of_lt_of_le this.2 hsize⟩
      · exact ⟨.inl (Nat.le_trans r.keep.size c3.1), c3.2⟩
    · rw [hup k1 c2] at hb1
      by_cases c1 : k1 = k
      · subst c1
        have := r.own k1 _ b' hk hb1
        exact ⟨this.1, Nat.lt_of_lt_of_le this.2 hsize⟩
      · rw [hgo' k1 c1 c2] at h1
        have := r.own k1 e1 b' h1 hb1
        exact ⟨this.1, Nat.lt_of_lt_of_le this.2 hsize⟩
  · intro k1 e1 h1
    by_cases c1 : k1 = k
    · subst c1
      obtain rfl := hgk e1 h1
      exact hH
    · by_cases c2 : k1 = kk
      · subst c2
        rw [hgkk] at h1; cases h1; trivial
      · rw [hgo' k1 c1 c2] at h1
        have h3 := r.hp k1 e1 h1
        have h2 := hup k1 c2
        cases e1 with
        | blk T' cs =>
          obtain ⟨b', arr, q1, q2, q3, q4⟩ := h3
          exact ⟨b', arr, h2.trans q1, hoth k1 _ b' _ c1 c2 h1 q1 q2, q3, fun j c hc => let ⟨u, hu, ho, hr⟩ := q4 j c hc; ⟨u, hu, ho, hBR c u hr⟩⟩
        | row T' size es ex =>
          obtain ⟨hz, hs, hr⟩ := h3
          refine ⟨hz, hs, hr.imp (fun ⟨q1, q2⟩ => ⟨h2.trans q1, q2⟩) ?_⟩
          rintro ⟨b', cur, q1, q2, q3, q4⟩
          exact ⟨b', cur, h2.trans q1, hoth k1 _ b' _ c1 c2 h1 q1 q2, q3, fun i cs j d hi hj => let ⟨u, hu, hr⟩ := q4 i cs j d hi hj; ⟨u, hu, hr.mono hst⟩⟩
        | it s' pos =>
          obtain ⟨b', q1, q2⟩ := h3
          exact ⟨b', h2.trans q1, hoth k1 _ b' _ c1 c2 h1 q1 q2⟩
        | pr Φ =>
          obtain ⟨b', o, q1, q2, q3⟩ := h3
          exact ⟨b', o, h2.trans q1, hoth k1 _ b' _ c1 c2 h1 q1 q2, q3⟩
        | map es =>
          obtain ⟨b', ents, q1, q2, q3, q4⟩ := h3
          exact ⟨b', ents, h2.trans q1, hoth k1 _ b' _ c1 c2 h1 q1 q2, q3, fun i e he => let ⟨x, p1, p2, p3, p4⟩ := q4 i e he; ⟨x, p1, p2, p3, p4.mono hst⟩⟩
        | bld T' E' kk' s' =>
          obtain ⟨q0, b', p, v, q1, q2, q3, q4, q5⟩ := h3
          have d1 : kk' ≠ k := fun c => by subst c; rw [hk] at q0; cases q0
          have d2 : kk' ≠ kk := fun c => by subst c; rw [hkk] at q0; cases q0; exact c1 rfl
          · refine ⟨(hgo' kk' d1 d2).trans q0, b', p, v, h2.trans q1, q2, hoth k1 _ b' _ c1 c2 h1 q1 q3, ownsRow_of_block q4 (fun g hg => ?_), q5.trans (hup kk' d2).symm⟩
            obtain ⟨o, ho⟩ : ∃ o, w.heap[g]? = some o := ⟨_, Array.getElem?_eq_getElem (ownsRow_lt q4 hg)⟩
            rw [ho]; exact hoth kk' _ g o d1 d2 q0 (q5.symm.trans hg) ho
        | hid _ _ => trivial
  · intro t sv hs
    have h1 := r.sl t sv hs
    cases sv with
    | one b => exact hBR _ _ h1
    | tup l =>
      obtain ⟨us, q1, q2, q3⟩ := h1
      exact ⟨us, q1, q2, fun i b hi => let ⟨x, hx, hr⟩ := q3 i b hi; ⟨x, hx, hBR _ _ hr⟩⟩
    | dead => trivial
  · obtain ⟨f1, f2⟩ := r.fx b0 hb0
    have c2 : kk ≠ 0 := fun c => by subst c; have := f2 _ hkk; cases this
    refine ⟨(hup 0 (Ne.symm c2)).trans f1, fun e1 he => ?_⟩
    by_cases c : k = 0
    · subst c; rw [hgk e1 he]; exact hrow
    · rw [hgo' 0 (Ne.symm c) (Ne.symm c2)] at he; exact f2 e1 he
end
end Go.Ab

/- The abstract machine: what a function does that is handed a pointer and writes there: contracts, calls, what is handed back. Conditions: none but those that stand in each law. -/
namespace Go.Ab
open Go Go.RowKit

def HSR (M : Nat → Nat → Prop) (w : World) (b : Nat) (go : Option Nat) : HS → Prop
  | .dat T ds => go = none ∧ ∃ arr, w.heap[b]? = some (.cells arr T (0, 0)) ∧ arr.size = ds.length ∧ ∀ (j : Nat) (d : DV), ds[j]? = some d → ∃ u, arr[j]? = some u ∧ RD M w u d
  | .bld T E s => go ≠ some b ∧ ∃ p v, (p = .pointer none ∨ p = .pointer (some ⟨b, 0, none⟩)) ∧ w.heap[b]? = some (.cells #[p, v] T (0, 0)) ∧ w.ownsRow 0 E 1 v s.size (Lib.strCells s) ∧ v.ownBlock = go
  | .gone => True

def HS.ents (k kk : Nat) : HS → HL
  | .dat T ds => [(k, some (.blk T (Go.Ab.dat ds)))]
  | .bld T E s => [(k, some (.bld T E kk s)), (kk, some (.hid true k))]
  | .gone => [(k, some (.hid false 0)), (kk, some (.hid true k))]

/-- which turn into which -/
def HS.fits : HS → HS → Bool
  | .dat _ _, .dat _ _ => true
  | .bld _ _ _, .bld _ _ _ => true
  | .bld _ _ _, .gone => true
  | _, _ => false

def ArgM (M : Nat → Nat → Prop) (w : World) (b : Nat) (go : Option Nat) : RG → Value → Prop
  | .pt h, u => u = .pointer (some ⟨b, 0, none⟩) ∧ HSR (fun b' o => M b' o ∨ b' = b ∨ go = some b') w b go h
  | .g g, u => GR (fun b' o => M b' o ∨ b' = b ∨ go = some b') w u g
  | _, _ => False

def ResRD (M : Nat → Nat → Prop) (w' : World) : RS → Value → Prop
  | .one g, v => GR M w' v g
  | .tup l, v => ∃ us : Array Value, v = .tuple us ∧ us.size = l.length ∧ ∀ (i : Nat) (g : AG), l[i]? = some g → ∃ x, us[i]? = some x ∧ GR M w' x g
  | .new _ _ _, _ => False

def PostM (M : Nat → Nat → Prop) (w : World) (b : Nat) (go : Option Nat) (h' : HS) (res : RS) (v : Value) (w' : World) : Prop :=
  ∃ go', KeepW (fun b' => b' = b ∨ go = some b') w w' ∧ (∀ g, go' = some g → go = some g ∨ (w.heap.size ≤ g ∧ g < w'.heap.size)) ∧
    ResRD (fun b' o => M b' o ∨ b' = b ∨ go' = some b') w' res v ∧ HSR (fun b' o => M b' o ∨ b' = b ∨ go' = some b') w' b go' h'

/-- WHAT A FUNCTION DOES that is handed a pointer and writes there -/
structure CtM (P : Program) (f : Nat) (args : List RG) (h' : HS) (res : RS) : Prop where
  go : ∀ (M : Nat → Nat → Prop) (w : World) (vs : List Value) (b : Nat) (go : Option Nat), (∀ b' o, M b' o → b' < w.heap.size ∧ b' ≠ b ∧ go ≠ some b') → b < w.heap.size → (∀ g, go = some g → g < w.heap.size) →
    vs.length = args.length → (∀ (i : Nat) (g : RG) (v : Value), args[i]? = some g → vs[i]? = some v → ArgM M w b go g v) →
    Calls P f vs.toArray w fun e w' => ∃ v, e = .returned v ∧ PostM M w b go h' res v w'

theorem ResRD.sv {P : Program} {nt : Nat} {C : Cx P nt} {hp : HL} {β : Nat → Option Nat} {w' : World} {M' : Nat → Nat → Prop} {res : RS} {v : Value} (h : ResRD M' w' res v) (hm : ∀ b o, Mu C hp β b o → M' b o) : SR C hp β w' res.sv v := by
  cases res with
  | one g => exact GR.less hm h
  | tup l =>
    obtain ⟨us, h1, h2, h3⟩ := h
    refine ⟨us, h1, by simpa using h2, fun i b hb => ?_⟩
    simp only [List.getElem?_map, Option.map_eq_some_iff] at hb
    obtain ⟨g, hg, rfl⟩ := hb
    obtain ⟨x, q1, q2⟩ := h3 i g hg
    exact ⟨x, q1, GR.less hm q2⟩
  | new T size es => exact h.elim

/-- operands of a call: a pointer to k among them -/
inductive EvM (k : Nat) (h : HS) : List Operand → List RG → List (Nat × SV) → Prop
  | nil : EvM k h [] [] []
  | g {x : Operand} {g : AG} {R Rs : List (Nat × SV)} {xs : List Operand} {gs : List RG} (hx : Ev x (.g g) R) (t : EvM k h xs gs Rs) : EvM k h (x :: xs) (.g g :: gs) (R ++ Rs)
  | pt {x : Operand} {R Rs : List (Nat × SV)} {xs : List Operand} {gs : List RG} (hx : Ev x (.ptr k 0) R) (t : EvM k h xs gs Rs) : EvM k h (x :: xs) (.pt h :: gs) (R ++ Rs)

section
variable {P : Program} {nt : Nat} {C : Cx P nt}

theorem EvM.ok {sl : SL} {hp : HL} {β : Nat → Option Nat} {a : Act} {w : World} {k b : Nat} {h : HS} {go : Option Nat} {xs : List Operand} {gs : List RG} {R : List (Nat × SV)} (hx : EvM k h xs gs R) (hs : HasS sl R) (r : RelB C ⟨sl, hp⟩ β a w) (hb : β k = some b)
    {M : Nat → Nat → Prop} (hM : ∀ b' o, (M b' o ∨ b' = b ∨ go = some b') → Mu C hp β b' o) (hh : HSR (fun b' o => M b' o ∨ b' = b ∨ go = some b') w b go h) :
    (xs.map a.eval).length = gs.length ∧ ∀ (i : Nat) (g : RG) (v : Value), gs[i]? = some g → (xs.map a.eval)[i]? = some v → ArgM M w b go g v := by
  induction hx with
  | nil => exact ⟨rfl, fun i g v h => by simp at h⟩
  | g hx t ih =>
    obtain ⟨h3, h4⟩ := ih hs.app.2
    refine ⟨by simpa using h3, fun i g v hg hv => ?_⟩
    cases i with
    | zero => simp at hg hv; subst hg hv; exact GR.less hM (hx.ok hs.app.1 r)
    | succ i => exact h4 i g v (by simpa using hg) (by simpa using hv)
  | pt hx t ih =>
    obtain ⟨h3, h4⟩ := ih hs.app.2
    refine ⟨by simpa using h3, fun i g v hg hv => ?_⟩
    cases i with
    | zero =>
      simp at hg hv; subst hg hv
      obtain ⟨_, b', hb', hu⟩ := hx.ok hs.app.1 r
      rw [hb] at hb'; cases hb'
      exact ⟨hu, hh⟩
    | succ i => exact h4 i g v (by simpa using hg) (by simpa using hv)

/-- what a shape says in the caller's world -/
theorem ents_HSR {sl : SL} {hp : HL} {β : Nat → Option Nat} {a : Act} {w : World} (r : RelB C ⟨sl, hp⟩ β a w) {k kk : Nat} {h : HS} (hh : HasH hp (h.ents k kk)) (hg : h.fits h = true) :
    ∃ b go, β k = some b ∧ b < w.heap.size ∧ (∀ g, go = some g → g < w.heap.size) ∧ HSR (Mu C hp β) w b go h ∧ (∀ o, Mu C hp β b o) ∧ (∀ g, go = some g → ∀ o, Mu C hp β g o) ∧ (∀ T E s, h = .bld T E s → go = β kk) ∧ (∀ T ds, h = .dat T ds → go = none) := by
  cases h with
  | dat T ds =>
    obtain ⟨b, arr, h1, h2, h3, h4⟩ := r.hp k _ hh.1
    refine ⟨b, none, h1, (r.own k _ b hh.1 h1).2, fun g hg => (by cases hg), ⟨rfl, arr, h2, by simpa [dat] using h3, fun j d hj => ?_⟩, fun o => .inr ⟨k, _, hh.1, h1, trivial⟩, fun g hg => (by cases hg), fun _ _ _ e => (by cases e), fun _ _ _ => rfl⟩
    obtain ⟨u, q1, _, q3⟩ := h4 j (.g (.d d)) (by simp [dat, hj])
    exact ⟨u, q1, q3⟩
  | bld T E s =>
    have hk : hget hp k = some (.bld T E kk s) := hh.1
    obtain ⟨q0, b, p, v, q1, q2, q3, q4, q5⟩ := r.hp k _ hk
    have hne : kk ≠ k := fun c => by subst c; rw [hk] at q0; cases q0
    exact ⟨b, β kk, q1, (r.own k _ b hk q1).2, fun g hg => (r.own kk _ g q0 hg).2, ⟨fun c => hne (r.inj kk k _ _ b q0 hk c q1), p, v, q2, q3, q4, q5⟩, fun o => .inr ⟨k, _, hk, q1, trivial⟩, fun g hg o => .inr ⟨kk, _, q0, hg, trivial⟩, fun _ _ _ _ => rfl, fun _ _ e => (by cases e)⟩
  | gone => cases hg

theorem HSR.less {M M' : Nat → Nat → Prop} {w : World} {b : Nat} {go : Option Nat} {h : HS} (hm : ∀ b o, M' b o → M b o) (r : HSR M w b go h) : HSR M' w b go h := by
  cases h with
  | dat T ds =>
    obtain ⟨h0, arr, h1, h2, h3⟩ := r
    exact ⟨h0, arr, h1, h2, fun j d hj => let ⟨u, q1, q2⟩ := h3 j d hj; ⟨u, q1, q2.less hm⟩⟩
  | bld T E s => exact r
  | gone => trivial

/-- behind such a call -/
theorem callM_core {sl : SL} {hp : HL} {β : Nat → Option Nat} {a : Act} {w w' : World} (r : RelB C ⟨sl, hp⟩ β a w) {k kk b : Nat} {h h' : HS} {go : Option Nat} {res : RS} {v : Value} (hh : HasH hp (h.ents k kk)) (hf : h.fits h' = true)
    (hb : β k = some b) (hgo : (∀ T E s, h = .bld T E s → go = β kk) ∧ (∀ T ds, h = .dat T ds → go = none)) (hp' : PostM (fun b' o => Mu C hp β b' o ∧ b' ≠ b ∧ go ≠ some b') w b go h' res v w') :
    ∃ β', RelB C ⟨sl, h'.ents k kk ++ hp⟩ β' a w' ∧ SR C (h'.ents k kk ++ hp) β' w' res.sv v := by
  obtain ⟨go', hkw, hg', hres, hsr⟩ := hp'
  cases h with
  | dat T ds =>
    cases h' with
    | dat T' ds' =>
      obtain rfl := hgo.2 T ds rfl
      obtain ⟨rfl, arr, q1, q2, q3⟩ := hsr
      have hk : hget hp k = some (.blk T (dat ds)) := hh.1
      have hmuB : ∀ b' o, Mu C ((k, some (HE.blk T' (dat ds'))) :: hp) (upd β k (some b)) b' o → Mu C hp β b' o := by
        rintro b' o (hM | ⟨k', e', he', hb', hm'⟩)
        · exact .inl hM
        · rw [hget_cons] at he'
          by_cases c : k = k'
          · subst c; simp only [upd, if_true] at hb'; exact .inr ⟨k, _, hk, hb ▸ hb', trivial⟩
          · rw [if_neg c] at he'; simp only [upd, if_neg (fun c' => c (Eq.symm c'))] at hb'; exact .inr ⟨k', e', he', hb', hm'⟩
      have hin : ∀ b' o, Mu C ((k, some (HE.blk T' (dat ds'))) :: hp) (upd β k (some b)) b' o → ((Mu C hp β b' o ∧ b' ≠ b ∧ none ≠ some b') ∨ b' = b ∨ none = some b') := fun b' o c => by
        by_cases e : b' = b
        · exact .inr (.inl e)
        · exact .inl ⟨hmuB b' o c, e, fun c => by cases c⟩
      have hc := (r.chg (w1 := w') (e := .blk T' (dat ds')) (bo := some b) hk hkw.os hkw.tape hkw.output hkw.size (fun i hi hne => hkw.block i hi (fun c => c.elim (fun c => hne (by rw [c, hb])) fun c => by cases c))
        (fun _ _ _ _ _ c => absurd trivial c) (.inl ⟨hb.symm, fun _ _ => trivial⟩) ⟨rfl, fun _ => hb.symm⟩
        (fun es0 u hu => by obtain ⟨_, _, _, _, g1, _⟩ := hu; rw [hk] at g1; cases g1)
        (fun _ _ => ⟨b, arr, by simp [upd], q1, by simpa [dat] using q2, fun j c hc => by
          simp only [dat, List.getElem?_map, Option.map_eq_some_iff] at hc
          obtain ⟨d, hd, rfl⟩ := hc
          obtain ⟨u, p1, p2⟩ := q3 j d hd
          have p3 : RD (Mu C ((k, some (HE.blk T' (dat ds'))) :: hp) (upd β k (some b))) w' u d := p2.less hin
          exact ⟨u, p1, RD.one p3, p3⟩⟩)).1
      exact ⟨_, hc, hres.sv hin⟩
    | bld _ _ _ => cases hf
    | gone => cases hf
  | bld T E s =>
    obtain rfl := hgo.1 T E s rfl
    have hk : hget hp k = some (.bld T E kk s) := hh.1
    have hkk : hget hp kk = some (.hid true k) := (r.hp k _ hk).1
    have hne : kk ≠ k := fun c => by subst c; rw [hk] at hkk; cases hkk
    have hblock : ∀ i, i < w.heap.size → i ≠ b → some i ≠ β kk → w'.heap[i]? = w.heap[i]? := fun i hi h1 h2 => hkw.block i hi fun c => c.elim h1 fun c => h2 c.symm
    have fin : ∀ e : HE, e.isRow = false → HR C ((k, some e) :: (kk, some (.hid true k)) :: hp) (upd β kk go') w' k e →
        ∃ β', RelB C ⟨sl, (k, some e) :: (kk, some (.hid true k)) :: hp⟩ β' a w' ∧ SR C ((k, some e) :: (kk, some (.hid true k)) :: hp) β' w' res.sv v := fun e he hH => by
      obtain ⟨h1, h2⟩ := r.chgB hk hb hkw.os hkw.tape hkw.output hkw.size hblock hg' he hH
      refine ⟨_, h1, hres.sv fun b' o c => ?_⟩
      rcases h2 b' o c with ⟨c1, c2⟩ | c1
      · by_cases e : b' = b
        · exact .inr (.inl e)
        · exact .inl ⟨c1, e, c2⟩
      · exact .inr (.inr c1)
    cases h' with
    | dat _ _ => cases hf
    | bld T' E' s' =>
      obtain ⟨_, p, v', q2, q3, q4, q5⟩ := hsr
      exact fin (.bld T' E' kk s') rfl ⟨by rw [hget_cons, if_neg (Ne.symm hne), hget_cons, if_pos rfl], b, p, v', by simp [upd, Ne.symm hne, hb], q2, q3, q4, by simp [upd, q5]⟩
    | gone => exact fin (.hid false 0) rfl trivial
  | gone => cases h' <;> cases hf
end

section
variable {P : Program} {nt : Nat} {C : Cx P nt} {dst : Nat} {ty : TypeId} {pos : String} {af : Array Edge} {gd : Option (Nat × Bool)} {R : List (Nat × SV)}

theorem fits_self : ∀ {h h' : HS}, h.fits h' = true → h.fits h = true := by
  intro h h' hf
  cases h <;> cases h' <;> first | rfl | cases hf

/-- a call that is handed a pointer to a block of the call's own -/
theorem op_callM {f k : Nat} (kk : Nat) {xs : List Operand} {tys : Array TypeId} {args : List RG} {h h' : HS} {res : RS} {sv : SV} (hc : CallF P f) (hct : CtM P f args h' res) (hsv : res.sv = sv) (hf : h.fits h' = true) (hx : EvM k h xs args R) (hd : Nat.blt dst nt = true) :
    OpL C (Oo dst (cCall f xs tys) ty pos af gd) R (h.ents k kk) [(dst, sv)] (h'.ents k kk) := by
  refine ⟨fun sl hp hs hh a w K Q ⟨β, r⟩ hK => ?_⟩
  obtain ⟨b, go, hb, hlt, hglt, hsr, hmb, hmg, hg1, hg2⟩ := ents_HSR r hh (fits_self hf)
  have hM : ∀ b' o, ((Mu C hp β b' o ∧ b' ≠ b ∧ go ≠ some b') ∨ b' = b ∨ go = some b') → Mu C hp β b' o := fun b' o c => c.elim (fun c => c.1) fun c => c.elim (fun c => by subst c; exact hmb o) fun c => hmg b' c o
  obtain ⟨h1, h2⟩ := hx.ok hs r hb hM (hsr.less hM)
  have hcall := hct.go (fun b' o => Mu C hp β b' o ∧ b' ≠ b ∧ go ≠ some b') w (xs.map a.eval) b go (fun b' o c => ⟨r.mut_lt c.1, c.2⟩) hlt hglt h1 h2
  unfold Oper.wp
  rw [run_call hc]
  refine hcall.mono ?_
  rintro e w' ⟨v, rfl, hp'⟩
  obtain ⟨β', r', hs'⟩ := callM_core r hh hf hb ⟨hg1, hg2⟩ hp'
  refine hK _ _ ⟨β', r'.put (Below.refl _ _) (by simpa using hd) ?_⟩
  rw [← hsv]; exact hs'

/-- .. by a function value that holds the pointer -/
theorem op_callCloM {t f k : Nat} (kk : Nat) {xs : List Operand} {tys : Array TypeId} {args : List RG} {h h' : HS} {res : RS} {sv : SV} (hc : CallF P f) (hct : CtM P f (args ++ [.pt h]) h' res) (hsv : res.sv = sv) (hf : h.fits h' = true) (hx : EvM k h xs args R) (hd : Nat.blt dst nt = true) :
    OpL C (Oo dst (cCallT t xs tys) ty pos af gd) ((t, .one (.clo f [k])) :: R) (h.ents k kk) [(dst, sv)] (h'.ents k kk) := by
  refine ⟨fun sl hp hs hh a w K Q ⟨β, r⟩ hK => ?_⟩
  obtain ⟨b, go, hb, hlt, hglt, hsr, hmb, hmg, hg1, hg2⟩ := ents_HSR r hh (fits_self hf)
  have hM : ∀ b' o, ((Mu C hp β b' o ∧ b' ≠ b ∧ go ≠ some b') ∨ b' = b ∨ go = some b') → Mu C hp β b' o := fun b' o c => c.elim (fun c => c.1) fun c => c.elim (fun c => by subst c; exact hmb o) fun c => hmg b' c o
  obtain ⟨h1, h2⟩ := hx.ok hs.2 r hb hM (hsr.less hM)
  obtain ⟨us, hu, hl, hcap⟩ := (Ev.t t _).ok (R := [(t, .one (.clo f [k]))]) ⟨hs.1, trivial⟩ r
  obtain ⟨_, b2, hb2, hx2⟩ := hcap 0 k rfl
  rw [hb] at hb2; cases hb2
  obtain ⟨u, rfl⟩ : ∃ u, us = [u] := by
    match us, hl with
    | [u], _ => exact ⟨u, rfl⟩
  simp at hx2
  subst hx2
  have hcall := hct.go (fun b' o => Mu C hp β b' o ∧ b' ≠ b ∧ go ≠ some b') w (xs.map a.eval ++ [.pointer (some ⟨b, 0, none⟩)]) b go (fun b' o c => ⟨r.mut_lt c.1, c.2⟩) hlt hglt (by simp only [List.length_append, h1, List.length_cons, List.length_nil]) (fun i g v hg hv => by
    by_cases c : i < args.length
    · rw [List.getElem?_append_left c] at hg
      rw [List.getElem?_append_left (by rw [h1]; exact c)] at hv
      exact h2 i g v hg hv
    · rw [List.getElem?_append_right (by omega)] at hg
      rw [List.getElem?_append_right (by rw [h1]; omega), h1] at hv
      cases hi : i - args.length with
      | zero => rw [hi] at hg hv; simp at hg hv; subst hg hv; exact ⟨rfl, hsr.less hM⟩
      | succ j => rw [hi] at hg; simp at hg)
  unfold Oper.wp
  rw [run_callT hc hu]
  rw [← List.append_toArray] at hcall
  refine hcall.mono ?_
  rintro e w' ⟨v, rfl, hp'⟩
  obtain ⟨β', r', hs'⟩ := callM_core r hh hf hb ⟨hg1, hg2⟩ hp'
  refine hK _ _ ⟨β', r'.put (Below.refl _ _) (by simpa using hd) ?_⟩
  rw [← hsv]; exact hs'
end

/-- A CONTRACT OUT OF A WALK, for a function that is handed a pointer (its j-th argument) -/
theorem CtM.intro {P : Program} {f : Nat} {fn : Func} {code : Code} {args : List RG} {h h' : HS} {res : RS} {n : Nat} (j : Nat) (hf : P.funcs[f]? = some fn) (hb : fn.body = some code) (hn : fn.ntmps = n) (hle : Nat.ble args.length n = true)
    (hj : args[j]? = some (.pt h)) (hfit : h.fits h = true) (hone : (args.zipIdx.all fun p => p.2 == j || !p.1.isRow) = true)
    (hG : ∀ M w b go, G (⟨w, M, fun b' => b' = b ∨ go = some b', some b⟩ : Cx P n) (bodyPost P fn (fun e w' => ∃ v, e = .returned v ∧ PostM M w b go h' res v w')) [.c code] ⟨(j, .one (.ptr 0 0)) :: slots0 0 args, h.ents 0 50⟩) : CtM P f args h' res := by
  refine ⟨fun M w vs b go hM hlt hglt hl hargs => ?_⟩
  have hjl : j < args.length := (List.getElem?_eq_some_iff.1 hj).1
  have hle' : vs.length ≤ n := by rw [hl]; simpa using hle
  obtain ⟨hv0, hsr⟩ := hargs j _ vs[j] hj (by simp)
  have hg0 : ∀ k e, hget (h.ents 0 50) k = some e → (k = 0 ∧ e.isRow = false) ∨ (k = 50 ∧ e = .hid true 0 ∧ ∃ T E s, h = .bld T E s) := by
    intro k e he
    cases h with
    | dat T ds => simp only [HS.ents, hget_cons] at he; split at he
                  · cases he; rename_i c; exact .inl ⟨c.symm, rfl⟩
                  · cases he
    | bld T E s => simp only [HS.ents, hget_cons] at he; split at he
                   · cases he; rename_i c; exact .inl ⟨c.symm, rfl⟩
                   · split at he
                     · cases he; rename_i c; exact .inr ⟨c.symm, rfl, T, E, s, rfl⟩
                     · cases he
    | gone => cases hfit
  have hgob : ∀ T E s, h = .bld T E s → go ≠ some b := fun T E s e => by subst e; exact hsr.1
  have hmu : ∀ b' o, Mu (⟨w, M, fun b' => b' = b ∨ go = some b', some b⟩ : Cx P n) (h.ents 0 50) (fun k => if k = 0 then some b else go) b' o → M b' o ∨ b' = b ∨ go = some b' := by
    rintro b' o (c | ⟨k, e, he, hb', _⟩)
    · exact .inl c
    · rcases hg0 k e he with ⟨rfl, _⟩ | ⟨rfl, _⟩
      · simp at hb'; exact .inr (.inl hb'.symm)
      · simp at hb'; exact .inr (.inr hb')
  have hent0 : ∃ e, hget (h.ents 0 50) 0 = some e ∧ e.isRow = false := by
    cases h with
    | dat T ds => exact ⟨_, rfl, rfl⟩
    | bld T E s => exact ⟨_, rfl, rfl⟩
    | gone => cases hfit
  refine calls_of_wp hf hb ?_
  refine (hG M w b go).go _ w ⟨fun k => if k = 0 then some b else go, ⟨⟨rfl, rfl, rfl, Nat.le_refl _, fun _ _ _ => rfl⟩, fun b' o c => ⟨(hM b' o c).1, fun d => d.elim (hM b' o c).2.1 (hM b' o c).2.2⟩, fun k k' e e' b' h1 h2 h3 h4 => ?_, fun k e b' h1 h2 => ?_, fun k e h1 => ?_, fun t sv hs => ?_, ?_, rfl, fun b' hb' => ?_⟩⟩
  · rcases hg0 k e h1 with ⟨rfl, _⟩ | ⟨rfl, _, T, E, s, eh⟩ <;> rcases hg0 k' e' h2 with ⟨rfl, _⟩ | ⟨rfl, _, T', E', s', eh'⟩
    · rfl
    · simp at h3 h4; subst h3; exact absurd h4 (hgob _ _ _ eh')
    · simp at h3 h4; subst h4; exact absurd h3 (hgob _ _ _ eh)
    · rfl
  · rcases hg0 k e h1 with ⟨rfl, _⟩ | ⟨rfl, _⟩
    · simp at h2; subst h2; exact ⟨.inr (.inl rfl), hlt⟩
    · simp at h2; exact ⟨.inr (.inr h2), hglt b' h2⟩
  · cases h with
    | dat T ds =>
      simp only [HS.ents, hget_cons] at h1
      split at h1
      · rename_i c; subst c; cases h1
        obtain ⟨_, arr, q1, q2, q3⟩ := hsr
        refine ⟨b, arr, by simp, q1, by simpa [dat] using q2, fun i c hc => ?_⟩
        simp only [dat, List.getElem?_map, Option.map_eq_some_iff] at hc
        obtain ⟨d, hd, rfl⟩ := hc
        obtain ⟨u, p1, p2⟩ := q3 i d hd
        exact ⟨u, p1, RD.one p2, p2.less hmu⟩
      · cases h1
    | bld T E s =>
      simp only [HS.ents, hget_cons] at h1
      split at h1
      · rename_i c; subst c; cases h1
        obtain ⟨_, p, v, q1, q2, q3, q4⟩ := hsr
        exact ⟨rfl, b, p, v, by simp, q1, q2, q3, by simpa using q4⟩
      · split at h1
        · cases h1; trivial
        · cases h1
    | gone => cases hfit
  · rw [sget_cons] at hs
    have hvt : ∀ t, t < vs.length → (vs.toArray ++ Array.replicate (fn.ntmps - vs.toArray.size) undef).getD t undef = vs[t]?.getD undef := fun t ht => by
      simp [Array.getElem?_append, ht]
    by_cases c : j = t
    · subst c
      rw [if_pos rfl] at hs; cases hs
      have e : (vs.toArray ++ Array.replicate (fn.ntmps - vs.toArray.size) undef).getD j undef = .pointer (some ⟨b, 0, none⟩) := by
        rw [hvt j (by omega)]; simp [show j < vs.length by omega, hv0]
      show SR _ _ _ _ _ ((vs.toArray ++ Array.replicate (fn.ntmps - vs.toArray.size) undef).getD j undef)
      rw [e]
      exact ⟨hent0, b, by simp, rfl⟩
    · rw [if_neg c] at hs
      obtain ⟨_, g, h1, rfl⟩ := slots0_get hs
      rw [Nat.sub_zero] at h1
      have hlt' : t < vs.length := by rw [hl]; exact (List.getElem?_eq_some_iff.1 h1).1
      have hnr : g.isRow = false := by
        have := List.all_eq_true.1 hone (g, t) (List.mem_iff_getElem?.2 ⟨t, by simp [h1]⟩)
        have c' : ¬ t = j := fun e => c e.symm
        simpa [c'] using this
      have ha := hargs t g vs[t] h1 (by simp [hlt'])
      show SR _ _ _ _ _ ((vs.toArray ++ Array.replicate (fn.ntmps - vs.toArray.size) undef).getD t undef)
      rw [hvt t hlt']
      simp only [hlt', List.getElem?_eq_getElem, Option.getD_some]
      cases g with
      | g a => exact GR.less hmu ha
      | ep cs => exact ha.elim
      | sem Φ => exact ha.elim
      | ro Φ => exact ha.elim
      | row T size es => cases hnr
      | pt h => cases hnr
  · simp [hn]; omega
  · cases hb'
    refine ⟨by simp, fun e he => ?_⟩
    rcases hg0 0 e he with ⟨_, h2⟩ | ⟨h2, _⟩
    · exact h2
    · cases h2

/-- what is handed back -/
def RetOK (P : Program) (fn : Func) (res : RS) (R : List (Nat × SV)) (Rh : List (Nat × Option HE)) : Prop :=
  ∀ {nt : Nat} (C : Cx P nt) (sl : SL) (hp : HL) (β : Nat → Option Nat) (a : Act) (w : World), HasS sl R → HasH hp Rh → RelB C ⟨sl, hp⟩ β a w → ∃ v, (results fn a.tmps).run P w = .ok v w ∧ ResRD (Mu C hp β) w res v

section
variable {P : Program} {nt : Nat}
theorem retOK0 {fn : Func} (hres : fn.results = #[]) : RetOK P fn (.tup []) [] [] := fun C sl hp β a w _ _ _ => by
  refine ⟨.tuple #[], ?_, #[], rfl, rfl, fun i g h => by simp at h⟩
  rw [results_eq, hres]; simp
theorem retOK1 {fn : Func} {rv : ResultVar} {g : AG} {R : List (Nat × SV)} {Rh : List (Nat × Option HE)} (hres : fn.results = #[rv]) (hr : RVar P rv g R Rh) : RetOK P fn (.one g) R Rh := fun C sl hp β a w hs hh r => by
  obtain ⟨v, h1, h2⟩ := hr.ok hs hh r
  exact ⟨v, by rw [results_eq, hres]; simp [h1], h2⟩
variable {M : Nat → Nat → Prop} {w0 : World} {b : Nat} {go : Option Nat} {k : List KI}

theorem postM_of {fn : Func} {res : RS} {h' : HS} {R : List (Nat × SV)} {Rh : List (Nat × Option HE)} {sl : SL} {hp : HL} (hr : RetOK P fn res R Rh) (hs : HasS sl R) (hh : HasH hp Rh) (hE : HasH hp (h'.ents 0 50))
    {β : Nat → Option Nat} {a : Act} {w : World} (r : RelB (⟨w0, M, fun b' => b' = b ∨ go = some b', some b⟩ : Cx P nt) ⟨sl, hp⟩ β a w) :
    ∃ v, (results fn a.tmps).run P w = .ok v w ∧ PostM M w0 b go h' res v w := by
  obtain ⟨v, h1, h2⟩ := hr _ sl hp β a w hs hh r
  obtain ⟨hb0, hnr⟩ := r.fx b rfl
  refine ⟨v, h1, ?_⟩
  cases h' with
  | dat T ds =>
    have hk : hget hp 0 = some (.blk T (dat ds)) := hE.1
    have hm : ∀ b' o, (M b' o ∨ b' = b ∨ none = some b') → Mu (⟨w0, M, fun b' => b' = b ∨ go = some b', some b⟩ : Cx P nt) hp β b' o := fun b' o c => c.elim .inl fun c => c.elim (fun c => by subst c; exact .inr ⟨0, _, hk, hb0, trivial⟩) fun c => by cases c
    refine ⟨none, r.keep, fun g hg => (by cases hg), ?_, rfl, ?_⟩
    · cases res with
      | one g => exact GR.less hm h2
      | tup l => obtain ⟨us, q1, q2, q3⟩ := h2; exact ⟨us, q1, q2, fun i g hi => let ⟨x, p1, p2⟩ := q3 i g hi; ⟨x, p1, GR.less hm p2⟩⟩
      | new _ _ _ => exact h2.elim
    · obtain ⟨b', arr, q1, q2, q3, q4⟩ := r.hp 0 _ hk
      rw [hb0] at q1; cases q1
      exact ⟨arr, q2, by simpa [dat] using q3, fun j d hj => let ⟨u, p1, _, p3⟩ := q4 j (.g (.d d)) (by simp [dat, hj]); ⟨u, p1, RD.less hm p3⟩⟩
  | bld T E s =>
    have hk : hget hp 0 = some (.bld T E 50 s) := hE.1
    obtain ⟨q0, b', p, v', q1, q2, q3, q4, q5⟩ := r.hp 0 _ hk
    rw [hb0] at q1; cases q1
    have hm : ∀ b' o, (M b' o ∨ b' = b ∨ β 50 = some b') → Mu (⟨w0, M, fun b' => b' = b ∨ go = some b', some b⟩ : Cx P nt) hp β b' o := fun b' o c => c.elim .inl fun c => c.elim (fun c => by subst c; exact .inr ⟨0, _, hk, hb0, trivial⟩) fun c => .inr ⟨50, _, q0, c, trivial⟩
    have hne : β 50 ≠ some b := fun c => by have := r.inj 50 0 _ _ b q0 hk c hb0; cases this
    refine ⟨β 50, r.keep, fun g hg => ?_, ?_, hne, p, v', q2, q3, q4, q5⟩
    · obtain ⟨c1, c2⟩ := r.own 50 _ g q0 hg
      rcases c1 with c1 | c1 | c1
      · exact .inr ⟨c1, c2⟩
      · subst c1; exact absurd hg hne
      · exact .inl c1
    · cases res with
      | one g => exact GR.less hm h2
      | tup l => obtain ⟨us, q1, q2, q3⟩ := h2; exact ⟨us, q1, q2, fun i g hi => let ⟨x, p1, p2⟩ := q3 i g hi; ⟨x, p1, GR.less hm p2⟩⟩
      | new _ _ _ => exact h2.elim
  | gone =>
    have hk : hget hp 0 = some (.hid false 0) := hE.1
    have q0 : hget hp 50 = some (.hid true 0) := hE.2.1
    have hm : ∀ b' o, (M b' o ∨ b' = b ∨ β 50 = some b') → Mu (⟨w0, M, fun b' => b' = b ∨ go = some b', some b⟩ : Cx P nt) hp β b' o := fun b' o c => c.elim .inl fun c => c.elim (fun c => by subst c; exact .inr ⟨0, _, hk, hb0, trivial⟩) fun c => .inr ⟨50, _, q0, c, trivial⟩
    have hne : β 50 ≠ some b := fun c => by have := r.inj 50 0 _ _ b q0 hk c hb0; cases this
    refine ⟨β 50, r.keep, fun g hg => ?_, ?_, trivial⟩
    · obtain ⟨c1, c2⟩ := r.own 50 _ g q0 hg
      rcases c1 with c1 | c1 | c1
      · exact .inr ⟨c1, c2⟩
      · subst c1; exact absurd hg hne
      · exact .inl c1
    · cases res with
      | one g => exact GR.less hm h2
      | tup l => obtain ⟨us, q1, q2, q3⟩ := h2; exact ⟨us, q1, q2, fun i g hi => let ⟨x, p1, p2⟩ := q3 i g hi; ⟨x, p1, GR.less hm p2⟩⟩
      | new _ _ _ => exact h2.elim

theorem G.retM {fn : Func} {res : RS} {h' : HS} {R : List (Nat × SV)} {Rh : List (Nat × Option HE)} {sl : SL} {hp : HL} (hr : RetOK P fn res R Rh) (hs : HasS sl R) (hh : HasH hp Rh) (hE : HasH hp (h'.ents 0 50)) :
    G (⟨w0, M, fun b' => b' = b ∨ go = some b', some b⟩ : Cx P nt) (bodyPost P fn (fun e w' => ∃ v, e = .returned v ∧ PostM M w0 b go h' res v w')) (.c .ret :: k) ⟨sl, hp⟩ := .mk <| fun a w ⟨β, r⟩ => by
  obtain ⟨v, h1, h2⟩ := postM_of hr hs hh hE r
  exact wp_ret (Qof_ret ⟨r.df, v, h1, v, rfl, h2⟩)

/-- a function without results falls off its end -/
theorem G.fallM {fn : Func} {res : RS} {h' : HS} {R : List (Nat × SV)} {Rh : List (Nat × Option HE)} {sl : SL} {hp : HL} (hr : RetOK P fn res R Rh) (hs : HasS sl R) (hh : HasH hp Rh) (hE : HasH hp (h'.ents 0 50)) :
    G (⟨w0, M, fun b' => b' = b ∨ go = some b', some b⟩ : Cx P nt) (bodyPost P fn (fun e w' => ∃ v, e = .returned v ∧ PostM M w0 b go h' res v w')) [] ⟨sl, hp⟩ := .mk <| fun a w ⟨β, r⟩ => by
  obtain ⟨v, h1, h2⟩ := postM_of hr hs hh hE r
  exact ⟨r.df, v, h1, v, rfl, h2⟩
end
end Go.Ab

/- The abstract machine: what strings.Builder's methods do to a builder's two blocks. Conditions: none but those that stand in each law. -/
namespace Go.Ab
open Go Go.RowKit

theorem KeepW.refl {K : Nat → Prop} (w : World) : KeepW K w w := ⟨rfl, rfl, rfl, Nat.le_refl _, fun _ _ _ => rfl⟩
theorem KeepW.trans {K : Nat → Prop} {w w1 w2 : World} (h : KeepW K w w1) (h2 : KeepW K w1 w2) : KeepW K w w2 :=
  ⟨h2.os.trans h.os, h2.tape.trans h.tape, h2.output.trans h.output, Nat.le_trans h.size h2.size, fun k hk hK => (h2.block k (Nat.lt_of_lt_of_le hk h.size) hK).trans (h.block k hk hK)⟩
theorem KeepW.more {K K' : Nat → Prop} {w w1 : World} (h : KeepW K w w1) (hk : ∀ b, K b → K' b) : KeepW K' w w1 := ⟨h.os, h.tape, h.output, h.size, fun k hlt hK => h.block k hlt fun c => hK (hk k c)⟩
theorem KeepW.setCell {K : Nat → Prop} (w : World) (p : Addr) (v : Value) (h : K p.block) : KeepW K w (w.setCell p v) :=
  ⟨rfl, rfl, rfl, by simp [World.setCell], fun k _ hK => Below.heap_setCell _ _ _ _ (fun e => hK (by rw [e]; exact h))⟩
theorem KeepW.grown {K : Nat → Prop} {w w' : World} {row : Option Nat} (h : w.grownBy w' row) (hr : ∀ g, row = some g → K g) : KeepW K w w' :=
  ⟨h.os, h.tape, h.output, h.size, fun k hk hK => h.block k hk fun c => hK (hr k c.symm)⟩
theorem KeepW.below {K : Nat → Prop} {w w' : World} (h : Below w.heap.size w w') : KeepW K w w' := ⟨h.os, h.tape, h.output, h.size, fun k hk _ => h.block k hk⟩

theorem strCells_app (s t : ByteArray) : Lib.strCells s ++ Lib.strCells t = Lib.strCells (s ++ t) := by
  simp [Lib.strCells, ByteArray.data_append]
theorem strCells_one (c : Nat) (h : c < 256) : [Value.int .u8 (c : Int)] = Lib.strCells (ByteArray.mk #[UInt8.ofNat c]) := by
  simp [Lib.strCells, Nat.mod_eq_of_lt h]

section
variable {P : Program} (w : World)

/-- append onto an owned row of bytes: the block is the old one, or new -/
theorem run_append_bytes (t u ty e : TypeId) (i : TypeInfo) (ht : P.underlying t = some (.slice e)) (hu : P.underlying u = some .string) (hi : P.info? e = some i) (hz : i.zero = some (.int .u8 0))
    (hsize : i.size = 1) (hby : i.bytes = 1) (v : Value) (n : Nat) (xs : List Value) (hown : w.ownsRow 0 e 1 v n xs) (s : ByteArray) (hbytes : n + s.size ≤ 140737488355328) :
    ∃ v' w', (Builtin.append_ #[t, u] ty #[v, .string s]).run P w = .ok v' w' ∧ w'.ownsRow 0 e 1 v' (n + s.size) (xs ++ Lib.strCells s) ∧ w.grownBy w' v.ownBlock ∧
      (v'.ownBlock = v.ownBlock ∨ (v'.ownBlock = some w.heap.size ∧ w.heap.size < w'.heap.size)) := by
  have h63 : n + s.size ≤ maxLen := by unfold maxLen; omega
  have hxl : xs.length = n := by simpa using hown.1
  have hlen : (xs ++ Lib.strCells s).length = (n + s.size) * 1 := by rw [List.length_append, hxl, Lib.strCells_length, Nat.mul_one]
  have grown : ∀ (old : Nat), old < n + s.size → ∀ (row : Option Nat),
      (w.drew.alloc (.cells (xs.toArray ++ (Lib.strCells s).toArray ++ Builtin.zeroCells (Value.int .u8 0).cells (grownCap w (n + s.size) old e - (n + s.size))) e)).ownsRow 0 e 1
        (.slice (some ⟨w.heap.size, 0, none⟩) (n + s.size) (grownCap w (n + s.size) old e)) (n + s.size) (xs ++ Lib.strCells s) ∧
      w.grownBy (w.drew.alloc (.cells (xs.toArray ++ (Lib.strCells s).toArray ++ Builtin.zeroCells (Value.int .u8 0).cells (grownCap w (n + s.size) old e - (n + s.size))) e)) row := by
    intro old ho row
    have hge := grownCap_ge w (n + s.size) old e
    have hcm : grownCap w (n + s.size) old e ≤ maxLen := grownCap_le_maxLen w (n + s.size) old e h63
    refine ⟨⟨hlen, .inr ⟨w.heap.size, _, _, rfl, Nat.zero_le _, heap_alloc_new w.drew _, hge, hcm, ?_, ?_⟩⟩, ⟨rfl, rfl, rfl, by simp, fun k hk _ => heap_alloc_old w.drew _ hk⟩⟩
    · have hz1 : (Value.int IntKind.u8 0).cells.size = 1 := rfl
      simp only [Array.size_append, List.size_toArray, size_zeroCells, hz1, hxl, Lib.strCells_length]
      omega
    · simp only [Array.toList_append, List.append_assoc]
      rw [← List.append_assoc, ← hlen]
      exact List.take_left
  rcases hown.2 with ⟨rfl, rfl⟩ | ⟨g, cap, cur, rfl, hbg, hg, hnc, hcm, hcs, htake⟩
  · have hx : xs = [] := List.eq_nil_of_length_eq_zero hxl
    subst hx
    by_cases hm : s.size = 0
    · have hn : Lib.strCells s = [] := List.eq_nil_of_length_eq_zero (by rw [Lib.strCells_length]; exact hm)
      refine ⟨.slice none 0 0, w, ?_, by rw [hm, hn]; exact World.ownsRow_nil w 0 e 1, ⟨rfl, rfl, rfl, Nat.le_refl _, fun _ _ _ => rfl⟩, .inl rfl⟩
      have hf := Lib.run_firstCells_string (P := P) w 1 s
      rw [hm] at hf
      simp [Builtin.append_, run_underlying ht, run_underlying hu, sizeOf, typeInfo, hi, hsize, Builtin.lenOf, hm, hf]
    · have hr := run_append_nil_string (P := P) w t u ty e i (.int .u8 0) ht hu hi hz s (by omega) (by omega) (by rw [hby]; omega)
      have hgr := grown 0 (by omega) (Value.ownBlock (.slice none 0 0))
      simp only [Nat.zero_add, List.nil_append, Array.empty_append] at hgr ⊢
      have e1 : (s.data.map fun b => Value.int .u8 b.toNat) = (Lib.strCells s).toArray := by
        apply Array.ext'
        simp [Lib.strCells]
      rw [e1] at hr
      exact ⟨_, _, hr, hgr.1, hgr.2, .inr ⟨rfl, by simp⟩⟩
  · by_cases hroom : n + s.size ≤ cap
    · have hcs' : cur.size = cap := by simpa using hcs
      have hr := Lib.run_append_room_string (P := P) w t u ty e i ht hu hi hsize g n cap cur hg s hroom (by omega)
      refine ⟨_, _, hr, ⟨hlen, .inr ⟨g, cap, _, rfl, hbg, setRow_heap w g cur _ e _ hg, hroom, hcm, ?_, ?_⟩⟩, ⟨rfl, rfl, rfl, by simp, fun k _ hk => setRow_other w g k _ (fun e => hk (by simp [Value.ownBlock, e]))⟩, .inl rfl⟩
      · simp only [List.size_toArray, List.length_append, List.length_take, List.length_drop, Array.length_toList, Lib.strCells_length]
        omega
      · have ht' : cur.toList.take n = xs := by simpa using htake
        rw [ht', ← hlen]
        exact List.take_left
    · have holds : ∀ j u, xs[j]? = some u → w.cell? ((⟨g, 0, none⟩ : Addr).add j) = some u := hown.cells (g := g) rfl
      have hr := Lib.run_append_grow_string (P := P) w t u ty e i (.int .u8 0) ht hu hi hz ⟨g, 0, none⟩ n cap xs (by rw [hsize]; simpa using hxl) holds s (by omega) (by omega) (by rw [hby]; exact growslice_fits (by omega) (by omega))
      have hgr := grown cap (by omega) (Value.ownBlock (.slice (some ⟨g, 0, none⟩) n cap))
      exact ⟨_, _, hr, hgr.1, hgr.2, .inr ⟨rfl, by simp⟩⟩

/-- .. one byte out of a slice -/
theorem run_append_byte (t ty e : TypeId) (i : TypeInfo) (ht : P.underlying t = some (.slice e)) (hi : P.info? e = some i) (hz : i.zero = some (.int .u8 0))
    (hsize : i.size = 1) (hby : i.bytes = 1) (v : Value) (n : Nat) (xs : List Value) (hown : w.ownsRow 0 e 1 v n xs) (a : Addr) (c : Nat) (x : Value) (hx : w.cell? a = some x) (h1 : x.oneCell' = true) (hbytes : n + 1 ≤ 140737488355328) :
    ∃ v' w', (Builtin.append_ #[t, t] ty #[v, .slice (some a) 1 c]).run P w = .ok v' w' ∧ w'.ownsRow 0 e 1 v' (n + 1) (xs ++ [x]) ∧ w.grownBy w' v.ownBlock ∧
      (v'.ownBlock = v.ownBlock ∨ (v'.ownBlock = some w.heap.size ∧ w.heap.size < w'.heap.size)) := by
  have h63 : n + 1 ≤ maxLen := by unfold maxLen; omega
  have hxl : xs.length = n := by simpa using hown.1
  have hlen : (xs ++ [x]).length = (n + 1) * 1 := by rw [List.length_append, hxl, Nat.mul_one]; rfl
  have hl : [x].length = 1 * i.size := by rw [hsize]; rfl
  have hnews : ∀ j u, [x][j]? = some u → w.cell? (a.add j) = some u := fun j u hj => by
    match j, hj with
    | 0, hj => simp at hj; subst hj; simpa [Addr.add] using hx
  have grown : ∀ (old : Nat), old < n + 1 → ∀ (row : Option Nat),
      (w.drew.alloc (.cells (xs.toArray ++ [x].toArray ++ Builtin.zeroCells (Value.int .u8 0).cells (grownCap w (n + 1) old e - (n + 1))) e)).ownsRow 0 e 1
        (.slice (some ⟨w.heap.size, 0, none⟩) (n + 1) (grownCap w (n + 1) old e)) (n + 1) (xs ++ [x]) ∧
      w.grownBy (w.drew.alloc (.cells (xs.toArray ++ [x].toArray ++ Builtin.zeroCells (Value.int .u8 0).cells (grownCap w (n + 1) old e - (n + 1))) e)) row := by
    intro old ho row
    have hge := grownCap_ge w (n + 1) old e
    have hcm : grownCap w (n + 1) old e ≤ maxLen := grownCap_le_maxLen w (n + 1) old e h63
    refine ⟨⟨hlen, .inr ⟨w.heap.size, _, _, rfl, Nat.zero_le _, heap_alloc_new w.drew _, hge, hcm, ?_, ?_⟩⟩, ⟨rfl, rfl, rfl, by simp, fun k hk _ => heap_alloc_old w.drew _ hk⟩⟩
    · have hz1 : (Value.int IntKind.u8 0).cells.size = 1 := rfl
      simp only [Array.size_append, List.size_toArray, size_zeroCells, hz1, hxl, List.length_cons, List.length_nil]
      omega
    · simp only [Array.toList_append, List.append_assoc]
      rw [← List.append_assoc, ← hlen]
      exact List.take_left
  rcases hown.2 with ⟨rfl, rfl⟩ | ⟨g, cap, cur, rfl, hbg, hg, hnc, hcm, hcs, htake⟩
  · have hxx : xs = [] := List.eq_nil_of_length_eq_zero hxl
    subst hxx
    have hr := run_append_nil (P := P) w t ty e i (.int .u8 0) ht hi hz a 1 c [x] hl hnews (by omega) (by omega) (by rw [hby]; omega)
    have hgr := grown 0 (by omega) (Value.ownBlock (.slice none 0 0))
    simp only [Nat.zero_add, List.nil_append, Array.empty_append] at hgr ⊢
    exact ⟨_, _, hr, hgr.1, hgr.2, .inr ⟨rfl, by simp⟩⟩
  · by_cases hroom : n + 1 ≤ cap
    · have hcs' : cur.size = cap := by simpa using hcs
      have hr := run_append_room (P := P) w t ty e i ht hi g n cap cur hg a 1 c [x] hl hnews (fun u hu => by simp at hu; subst hu; exact h1) hroom (by rw [hsize]; simp; omega)
      rw [hsize, Nat.mul_one] at hr
      refine ⟨_, _, hr, ⟨hlen, .inr ⟨g, cap, _, rfl, hbg, setRow_heap w g cur _ e _ hg, hroom, hcm, ?_, ?_⟩⟩, ⟨rfl, rfl, rfl, by simp, fun k _ hk => setRow_other w g k _ (fun e => hk (by simp [Value.ownBlock, e]))⟩, .inl rfl⟩
      · simp only [List.size_toArray, List.length_append, List.length_take, List.length_drop, Array.length_toList, List.length_cons, List.length_nil]
        omega
      · have ht' : cur.toList.take n = xs := by simpa using htake
        rw [ht', ← hlen]
        exact List.take_left
    · have holds : ∀ j u, xs[j]? = some u → w.cell? ((⟨g, 0, none⟩ : Addr).add j) = some u := hown.cells (g := g) rfl
      have hr := run_append_grow (P := P) w t ty e i (.int .u8 0) ht hi hz ⟨g, 0, none⟩ n cap xs (by rw [hsize]; simpa using hxl) holds a 1 c [x] hl hnews (by omega) (by omega) (by rw [hby]; exact growslice_fits (by omega) (by omega))
      have hgr := grown cap (by omega) (Value.ownBlock (.slice (some ⟨g, 0, none⟩) n cap))
      exact ⟨_, _, hr, hgr.1, hgr.2, .inr ⟨rfl, by simp⟩⟩

theorem wpList_append_bytes {ops : Array Oper} {rest : List Oper} {o : Oper} {a : Act} {Q : Exit → Act → World → Prop} (hgd : o.guard = none) (sl x : Operand) (t u : TypeId)
    (ho : o.op = .call { callee := .builtin .append, args := #[sl, x], argTypes := #[t, u] })
    (e : TypeId) (i : TypeInfo) (ht : P.underlying t = some (.slice e)) (hu : P.underlying u = some .string) (hi : P.info? e = some i) (hz : i.zero = some (.int .u8 0))
    (hsize : i.size = 1) (hby : i.bytes = 1) (v : Value) (n : Nat) (xs : List Value) (hs : a.eval sl = v) (hown : w.ownsRow 0 e 1 v n xs) (s : ByteArray) (hx : a.eval x = .string s) (hbytes : n + s.size ≤ 140737488355328)
    (h : ∀ v' w', w'.ownsRow 0 e 1 v' (n + s.size) (xs ++ Lib.strCells s) → w.grownBy w' v.ownBlock → (v'.ownBlock = v.ownBlock ∨ (v'.ownBlock = some w.heap.size ∧ w.heap.size < w'.heap.size)) → wpList P ops Q rest (a.put o.dst v') w') : wpList P ops Q (o :: rest) a w := by
  refine wpList_plain hgd fun K hK => ?_
  obtain ⟨v', w', hr, h2, h3, h4⟩ := run_append_bytes (P := P) w t u o.type e i ht hu hi hz hsize hby v n xs hown s hbytes
  unfold Oper.wp execOp
  simp only [ho, resolve, invoke, builtin, Sem.run_bind, Sem.run_pure, Result.andThen_ok, List.map_toArray, List.map_cons, List.map_nil, hs, hx, hr]
  exact hK _ _ (h v' w' h2 h3 h4)

theorem wpList_append_byte {ops : Array Oper} {rest : List Oper} {o : Oper} {a : Act} {Q : Exit → Act → World → Prop} (hgd : o.guard = none) (sl x : Operand) (t : TypeId)
    (ho : o.op = .call { callee := .builtin .append, args := #[sl, x], argTypes := #[t, t] })
    (e : TypeId) (i : TypeInfo) (ht : P.underlying t = some (.slice e)) (hi : P.info? e = some i) (hz : i.zero = some (.int .u8 0))
    (hsize : i.size = 1) (hby : i.bytes = 1) (v : Value) (n : Nat) (xs : List Value) (hs : a.eval sl = v) (hown : w.ownsRow 0 e 1 v n xs) (ad : Addr) (c : Nat) (y : Value) (hx : a.eval x = .slice (some ad) 1 c) (hy : w.cell? ad = some y) (h1 : y.oneCell' = true) (hbytes : n + 1 ≤ 140737488355328)
    (h : ∀ v' w', w'.ownsRow 0 e 1 v' (n + 1) (xs ++ [y]) → w.grownBy w' v.ownBlock → (v'.ownBlock = v.ownBlock ∨ (v'.ownBlock = some w.heap.size ∧ w.heap.size < w'.heap.size)) → wpList P ops Q rest (a.put o.dst v') w') : wpList P ops Q (o :: rest) a w := by
  refine wpList_plain hgd fun K hK => ?_
  obtain ⟨v', w', hr, h2, h3, h4⟩ := run_append_byte (P := P) w t o.type e i ht hi hz hsize hby v n xs hown ad c y hy h1 hbytes
  unfold Oper.wp execOp
  simp only [ho, resolve, invoke, builtin, Sem.run_bind, Sem.run_pure, Result.andThen_ok, List.map_toArray, List.map_cons, List.map_nil, hs, hx, hr]
  exact hK _ _ (h v' w' h2 h3 h4)
end

/-- what a method that writes leaves of a builder -/
def BPost (T E : TypeId) (w : World) (b : Nat) (go : Option Nat) (s : ByteArray) (w' : World) : Prop :=
  ∃ v', w'.heap[b]? = some (.cells #[.pointer (some ⟨b, 0, none⟩), v'] T (0, 0)) ∧ w'.ownsRow 0 E 1 v' s.size (Lib.strCells s) ∧ KeepW (fun b' => b' = b ∨ go = some b') w w' ∧
    ∀ g, v'.ownBlock = some g → g ≠ b ∧ (go = some g ∨ (w.heap.size ≤ g ∧ g < w'.heap.size))

/-- a method that writes, as a contract -/
theorem CtM.write {P : Program} {f : Nat} {T E : TypeId} {s s' : ByteArray} {g : AG} {res : RS} {arg v : Value} (hres : ∀ M w', ResRD M w' res v)
    (hg : ∀ M w u, GR M w u g → u = arg)
    (h : ∀ (b : Nat) (p vb : Value) (w : World), (p = .pointer none ∨ p = .pointer (some ⟨b, 0, none⟩)) → w.heap[b]? = some (.cells #[p, vb] T (0, 0)) → w.ownsRow 0 E 1 vb s.size (Lib.strCells s) → vb.ownBlock ≠ some b →
      Calls P f #[.pointer (some ⟨b, 0, none⟩), arg] w fun e w' => e = .returned v ∧ BPost T E w b vb.ownBlock s' w') :
    CtM P f [.pt (.bld T E s), .g g] (.bld T E s') res := by
  refine ⟨fun M w vs b go hM hlt hglt hl hargs => ?_⟩
  match vs, hl with
  | [x, y], _ =>
    obtain ⟨rfl, hne, p, vb, h1, h2, h3, h4⟩ := hargs 0 _ x rfl rfl
    obtain rfl := hg _ _ _ (hargs 1 _ y rfl rfl)
    subst h4
    refine (h b p vb w h1 h2 h3 hne).mono ?_
    rintro e w' ⟨rfl, v', q1, q2, q3, q4⟩
    exact ⟨v, rfl, v'.ownBlock, q3, fun g hg => (q4 g hg).2, hres _ _, fun c => (q4 b c).1 rfl, _, v', .inr rfl, q1, q2, rfl⟩

/-- .. that hands its bytes back -/
theorem CtM.bytes {P : Program} {f : Nat} {T E : TypeId} {s : ByteArray}
    (h : ∀ (b : Nat) (p vb : Value) (w : World), w.heap[b]? = some (.cells #[p, vb] T (0, 0)) → w.ownsRow 0 E 1 vb s.size (Lib.strCells s) →
      Calls P f #[.pointer (some ⟨b, 0, none⟩)] w fun e w' => e = .returned (.string s) ∧ KeepW (fun b' => vb.ownBlock = some b') w w') :
    CtM P f [.pt (.bld T E s)] .gone (.one (.d (.v (.string s)))) := by
  refine ⟨fun M w vs b go hM hlt hglt hl hargs => ?_⟩
  match vs, hl with
  | [x], _ =>
    obtain ⟨rfl, hne, p, vb, h1, h2, h3, h4⟩ := hargs 0 _ x rfl rfl
    subst h4
    refine (h b p vb w h2 h3).mono ?_
    rintro e w' ⟨rfl, q⟩
    exact ⟨_, rfl, vb.ownBlock, q.more fun b' c => .inr c, fun g hg => .inl hg, RD.v _ rfl, trivial⟩

theorem bpost_of {T E : TypeId} {w wA w2 : World} {b n : Nat} {v v' : Value} {s : ByteArray} {xs : List Value} (hbk : wA.heap[b]? = some (.cells #[.pointer (some ⟨b, 0, none⟩), v] T (0, 0))) (hne : v.ownBlock ≠ some b)
    (hk : KeepW (fun b' => b' = b ∨ v.ownBlock = some b') w wA) (hs : w.heap.size ≤ wA.heap.size) (hlt : b < wA.heap.size) (hown : w2.ownsRow 0 E 1 v' n xs) (hn : s.size = n) (hx : xs = Lib.strCells s) (hgrow : wA.grownBy w2 v.ownBlock)
    (hblk : v'.ownBlock = v.ownBlock ∨ (v'.ownBlock = some wA.heap.size ∧ wA.heap.size < w2.heap.size)) (hTe : T ≠ E) : BPost T E w b v.ownBlock s (w2.setCell ⟨b, 1, none⟩ v') := by
  subst hn hx
  have hb2 : w2.heap[b]? = some (.cells #[.pointer (some ⟨b, 0, none⟩), v] T (0, 0)) := by rw [hgrow.block b hlt (fun e => hne e.symm)]; exact hbk
  have hne' : v'.ownBlock ≠ some b := Lib.ownBlock_ne hown hb2 hTe
  refine ⟨v', by simp [World.setCell, Array.getElem?_modify, hb2], ownsRow_of_block hown fun g hg => Below.heap_setCell _ _ _ _ (fun e => hne' (by rw [hg, e])), (hk.trans (.grown hgrow fun g hg => .inr hg)).trans (.setCell _ _ _ (.inl rfl)), fun g hg => ⟨fun c => hne' (by rw [hg, c]), ?_⟩⟩
  rcases hblk with h | ⟨h1, h2⟩
  · exact .inl (h.symm.trans hg)
  · rw [h1] at hg; cases hg
    exact .inr ⟨hs, by simpa [World.setCell] using h2⟩
theorem keepW_freeze (w : World) (g n : Nat) {v : Option Addr} {l c : Nat} (h : v = some ⟨g, 0, none⟩ := by rfl) : KeepW (fun b' => (Value.slice v l c).ownBlock = some b') w (w.drew.freeze ⟨g, 0, none⟩ n) := by
  subst h
  unfold World.freeze
  by_cases c : n = 0
  · rw [if_pos c]; exact .below (Below.drew (Below.refl _ _))
  · rw [if_neg c]
    refine ⟨rfl, rfl, rfl, by simp, fun k _ hK => ?_⟩
    have hk : g ≠ k := fun e => hK (by rw [← e]; rfl)
    simp only [Array.getElem?_modify]
    rw [if_neg hk]; rfl
end Go.Ab

/- The abstract machine: a new builder; more operators; what a region does with several blocks at once. Conditions: none but those that stand in each law. -/
namespace Go.Ab
open Go Go.RowKit

section
variable {P : Program} {nt : Nat} {C : Cx P nt} {dst : Nat} {ty : TypeId} {pos : String} {af : Array Edge} {gd : Option (Nat × Bool)} {x y : Operand} {R1 R2 : List (Nat × SV)} {T T' : TypeId} {k : IntKind} {m n : Int}
end

section
variable {P : Program} {nt : Nat} {C : Cx P nt} {dst : Nat} {ty : TypeId} {pos : String} {af : Array Edge} {gd : Option (Nat × Bool)}
/-- a new strings.Builder -/
theorem op_allocB {T E k kk bytes : Nat} (hI : Info P T (.agg #[.pointer none, .slice none 0 0]) 2 bytes) (hne : Nat.beq k kk = false) (hk1 : Nat.blt 0 kk = true) (hd : Nat.blt dst nt = true) (hk0 : Nat.blt 0 k = true := by rfl) :
    OpL C (Oo dst (.alloc T) ty pos af gd) [] [(k, none), (kk, none)] [(dst, .one (.ptr k 0))] [(k, some (.bld T E kk ByteArray.empty)), (kk, some (.hid true k))] := by
  refine ⟨fun sl hp hs hh a w K Q ⟨β, r⟩ hK => ?_⟩
  have hne : k ≠ kk := fun c => by subst c; simp at hne
  unfold Oper.wp
  have : (execOp a.eval (Oo dst (.alloc T) ty pos af gd)).run P w = .ok (.value (.pointer (some ⟨w.heap.size, 0, none⟩))) (w.alloc (.cells #[.pointer none, .slice none 0 0] T)) := by
    simp [execOp, Instr.alloc, hI.zero, newVar, newRow, Value.cells]
  rw [this]
  have h1 := (r.new (e := .hid true k) (bo := none) hh.2.1 hk1 (Below.refl _ w) (fun b hb => by cases hb) fun _ _ => trivial).1
  have h2 := (h1.new (k := k) (e := .bld T E kk ByteArray.empty) (bo := some w.heap.size) (by rw [hget_cons, if_neg (Ne.symm hne)]; exact hh.1) hk0 (below_alloc w (.cells #[.pointer none, .slice none 0 0] T)) (fun b hb => by cases hb; exact ⟨rfl, by simp⟩) fun _ _ =>
    ⟨by rw [hget_cons, if_neg hne, hget_cons, if_pos rfl], w.heap.size, .pointer none, .slice none 0 0, by simp [upd], .inl rfl, heap_alloc_new w _, World.ownsRow_nil _ 0 E 1, by simp [upd, Ne.symm hne, Value.ownBlock]⟩).1
  refine hK _ _ ⟨_, h2.put (sv := .one (.ptr k 0)) (Below.refl _ _) (by simpa using hd) ⟨⟨_, by rw [hget_cons, if_pos rfl], rfl⟩, w.heap.size, by simp [upd], rfl⟩⟩
end

section
variable {P : Program} {nt : Nat} {C : Cx P nt} {Q0 : Exit → Act → World → Prop} {k : List KI}
theorem G.opM {ops : Array Oper} {rest : List Oper} {o : Oper} {sl : SL} {hp : HL} {dst : Nat} {sv : SV} {Rs : List (Nat × SV)} {Rh Wh : List (Nat × Option HE)}
    (h : OpL C o Rs Rh [(dst, sv)] Wh) (hg : o.guard = none) (hs : HasS sl Rs) (hh : HasH hp Rh) (hk : G C Q0 (.l ops rest :: k) ⟨(dst, sv) :: sl, Wh ++ hp⟩) : G C Q0 (.l ops (o :: rest) :: k) ⟨sl, hp⟩ := G.op h hg hs hh rfl rfl hk
end
end Go.Ab

/- The abstract machine: a new builder that is given room first. Conditions: none but those that stand in each law. -/
namespace Go.Ab
open Go Go.RowKit

theorem grown_new {T E : TypeId} {b : Nat} {w : World} {cs : Array Value} (hbk : w.heap[b]? = some (.cells #[.pointer (some ⟨b, 0, none⟩), .slice none 0 0] T (0, 0))) (hm : cs.size ≤ maxLen) (_hTe : T ≠ E) :
    BPost T E w b none ByteArray.empty ((w.alloc (.cells cs E)).setCell ⟨b, 1, none⟩ (.slice (some ⟨w.heap.size, 0, none⟩) 0 cs.size)).drew.drew.drew := by
  have hlt : b < w.heap.size := (Array.getElem?_eq_some_iff.1 hbk).1
  have hb2 : (w.alloc (.cells cs E)).heap[b]? = some (.cells #[.pointer (some ⟨b, 0, none⟩), .slice none 0 0] T (0, 0)) := (heap_alloc_old w _ hlt).trans hbk
  have hown : (w.alloc (.cells cs E)).ownsRow 0 E 1 (.slice (some ⟨w.heap.size, 0, none⟩) 0 cs.size) 0 [] := ⟨rfl, .inr ⟨w.heap.size, cs.size, cs, rfl, Nat.zero_le _, heap_alloc_new w _, Nat.zero_le _, hm, by simp, by simp⟩⟩
  have hk : KeepW (fun b' => b' = b ∨ none = some b') w ((w.alloc (.cells cs E)).setCell ⟨b, 1, none⟩ (.slice (some ⟨w.heap.size, 0, none⟩) 0 cs.size)) := (KeepW.below (below_alloc _ _)).trans (.setCell _ _ _ (.inl rfl))
  have hne : w.heap.size ≠ b := by omega
  have hown2 : ((w.alloc (.cells cs E)).setCell ⟨b, 1, none⟩ (.slice (some ⟨w.heap.size, 0, none⟩) 0 cs.size)).ownsRow 0 E 1 (.slice (some ⟨w.heap.size, 0, none⟩) 0 cs.size) 0 [] :=
    ownsRow_of_block hown fun g hg => Below.heap_setCell _ _ _ _ (fun e => by simp [Value.ownBlock] at hg; subst hg; exact hne e)
  refine ⟨.slice (some ⟨w.heap.size, 0, none⟩) 0 cs.size, ?_, ownsRow_of_block hown2 fun _ _ => rfl, hk.trans (.below (Below.drew (Below.drew (Below.drew (Below.refl _ _))))), fun g hg => ?_⟩
  · show ((w.alloc (.cells cs E)).setCell ⟨b, 1, none⟩ (.slice (some ⟨w.heap.size, 0, none⟩) 0 cs.size)).heap[b]? = _
    simp [World.setCell, Array.getElem?_modify, hb2]
  · simp [Value.ownBlock] at hg
    subst hg
    refine ⟨hne, .inr ⟨Nat.le_refl _, ?_⟩⟩
    simp [World.setCell]

theorem bpost_fresh {T E : TypeId} {b : Nat} {w : World} (hbk : w.heap[b]? = some (.cells #[.pointer none, .slice none 0 0] T (0, 0))) : BPost T E w b none ByteArray.empty (w.setCell ⟨b, 0, none⟩ (.pointer (some ⟨b, 0, none⟩))).drew :=
  ⟨.slice none 0 0, by show (w.setCell ⟨b, 0, none⟩ (.pointer (some ⟨b, 0, none⟩))).heap[b]? = _; simp [World.setCell, Array.getElem?_modify, hbk], World.ownsRow_nil _ 0 E 1, (KeepW.setCell _ _ _ (.inl rfl)).trans (.below (Below.drew (Below.refl _ _))), fun g hg => by cases hg⟩
theorem bpost_after {T E : TypeId} {b : Nat} {w w' : World} (_hbk : w.heap[b]? = some (.cells #[.pointer none, .slice none 0 0] T (0, 0))) (h : BPost T E (w.setCell ⟨b, 0, none⟩ (.pointer (some ⟨b, 0, none⟩))).drew b none ByteArray.empty w') : BPost T E w b none ByteArray.empty w' := by
  obtain ⟨v', h1, h2, h3, h4⟩ := h
  refine ⟨v', h1, h2, ((KeepW.setCell _ _ _ (.inl rfl)).trans (.below (Below.drew (Below.refl _ _)))).trans h3, fun g hg => ⟨(h4 g hg).1, (h4 g hg).2.imp id fun c => ⟨?_, c.2⟩⟩⟩
  have := c.1
  simpa [World.setCell] using this

section
variable {P : Program} {nt : Nat} {C : Cx P nt} {dst : Nat} {ty : TypeId} {pos : String} {af : Array Edge} {gd : Option (Nat × Bool)} {x y : Operand} {R1 R2 : List (Nat × SV)}
/-- a new builder is given room -/
theorem op_grow {f k kk T E : Nat} {n : Int} {tys : Array TypeId} (hc : CallF P f) (hn : 0 ≤ n ∧ n ≤ 140737488355328)
    (hG : ∀ (m : Nat), m ≤ 140737488355328 → ∀ (b : Nat) (w : World), w.heap[b]? = some (.cells #[.pointer none, .slice none 0 0] T (0, 0)) → Calls P f #[.pointer (some ⟨b, 0, none⟩), .int .i64 m] w fun e w' => e = .returned (.tuple #[]) ∧ BPost T E w b none ByteArray.empty w')
    (hne : Nat.beq k kk = false) (hk1 : Nat.blt 0 kk = true) (hx : Ev x (.ptr k 0) R1) (hy : Ev y (bI .i64 n) R2) (hd : Nat.blt dst nt = true) :
    OpL C (Oo dst (cCall f [x, y] tys) ty pos af gd) (R1 ++ R2) [(k, some (.blk T [.g (.d (.v (.pointer none))), .g (.d (.v (.slice none 0 0)))])), (kk, none)] [(dst, .tup [])] [(k, some (.bld T E kk ByteArray.empty)), (kk, some (.hid true k))] := by
  refine ⟨fun sl hp hs hh a w K Q ⟨β, r⟩ hK => ?_⟩
  have hne : k ≠ kk := fun c => by subst c; simp at hne
  obtain ⟨_, b, hb, hu⟩ := hx.ok hs.app.1 r
  have hv := BR.v_inv (hy.ok hs.app.2 r)
  obtain ⟨m, rfl⟩ : ∃ m : Nat, n = m := ⟨n.toNat, by omega⟩
  obtain ⟨b', arr, hb', hheap, hsz, hcell⟩ := r.hp k _ hh.1
  rw [hb] at hb'; cases hb'
  have harr : arr = #[.pointer none, .slice none 0 0] := by
    obtain ⟨u0, q1, _, q2⟩ := hcell 0 _ rfl
    obtain ⟨u1, q3, _, q4⟩ := hcell 1 _ rfl
    have e0 : u0 = .pointer none := RD.v_inv q2
    have e1 : u1 = .slice none 0 0 := RD.v_inv q4
    subst e0 e1
    refine Array.ext' (List.ext_getElem? fun j => ?_)
    have hsz : arr.size = 2 := hsz
    match j with
    | 0 => simpa using q1
    | 1 => simpa using q3
    | j + 2 => rw [List.getElem?_eq_none (by simp; omega)]; rfl
  subst harr
  -- seen as a builder
  have h1 := (r.new (e := .hid true k) (bo := none) hh.2.1 hk1 (Below.refl _ w) (fun b hb => by cases hb) fun _ _ => trivial).1
  have hk' : hget ((kk, some (.hid true k)) :: hp) k = some (.blk T [.g (.d (.v (.pointer none))), .g (.d (.v (.slice none 0 0)))]) := by rw [hget_cons, if_neg (Ne.symm hne)]; exact hh.1
  have hbk : upd β kk none k = some b := by simp [upd, hne, hb]
  have h2 := (h1.chg (w1 := w) (e := .bld T E kk ByteArray.empty) (bo := some b) hk' rfl rfl rfl (Nat.le_refl _) (fun _ _ _ => rfl) (fun _ _ _ _ h _ => h) (.inl ⟨hbk.symm, fun _ _ => trivial⟩) ⟨rfl, fun _ => hbk.symm⟩
    (fun es0 u hu => by obtain ⟨_, _, _, _, g1, _⟩ := hu; rw [hk'] at g1; cases g1)
    (fun _ _ => ⟨by rw [hget_cons, if_neg hne, hget_cons, if_pos rfl], b, .pointer none, .slice none 0 0, by simp [upd], .inl rfl, hheap, World.ownsRow_nil _ 0 E 1, by simp [upd, Ne.symm hne, Value.ownBlock]⟩)).1
  unfold Oper.wp
  rw [run_call hc]
  have hargs : (List.map a.eval [x, y]).toArray = #[.pointer (some ⟨b, 0, none⟩), .int .i64 (m : Int)] := by simp [hu, hv]
  rw [hargs]
  refine (hG m (by omega) b w hheap).mono ?_
  rintro e w' ⟨rfl, v', q1, q2, q3, q4⟩
  have hkk2 : (upd (upd β kk none) k (some b)) kk = none := by simp [upd, Ne.symm hne]
  obtain ⟨h3, _⟩ := h2.chgB (k := k) (kk := kk) (T := T) (E := E) (b := b) (e := .bld T E kk ByteArray.empty) (go := v'.ownBlock) (w1 := w') (by rw [hget_cons, if_pos rfl]) (by simp [upd]) q3.os q3.tape q3.output q3.size
    (fun i hi h5 h6 => q3.block i hi fun c => c.elim h5 fun c => by cases c) (fun g hg => .inr ((q4 g hg).2.resolve_left fun c => by cases c)) rfl
    ⟨by rw [hget_cons, if_neg hne, hget_cons, if_pos rfl], b, _, v', by simp [upd, hne], .inr rfl, q1, q2, by simp [upd]⟩
  have h4 := h3.hpExt (hp' := [(k, some (HE.bld T E kk ByteArray.empty)), (kk, some (.hid true k))] ++ hp) (fun k' => by
    simp only [List.cons_append, List.nil_append, hget_cons]
    by_cases c1 : k = k'
    · simp [c1]
    · by_cases c2 : kk = k' <;> simp [c1, c2])
  exact hK _ _ ⟨_, h4.put (sv := .tup []) (Below.refl _ _) (by simpa using hd) ⟨#[], rfl, rfl, fun i b h => by simp at h⟩⟩
end
end Go.Ab

/- The abstract machine: slices made of zeros. Conditions: none but those that stand in each law. -/
namespace Go.Ab
open Go Go.RowKit

section
variable {P : Program} {nt : Nat} {C : Cx P nt} {dst : Nat} {ty : TypeId} {pos : String} {af : Array Edge} {gd : Option (Nat × Bool)} {x : Operand} {R : List (Nat × SV)}
end
end Go.Ab

/- The abstract machine: bytes of a text in a block of the call's own, read and written in place. Conditions: none but those that stand in each law. -/
namespace Go.Ab
open Go Go.RowKit Go.Lib

/-- a block that holds the bytes s at its beginning -/
def bytH (T : TypeId) (s : ByteArray) (o : Obj) : Prop := ∃ cur fz, o = .cells cur T fz ∧ cur.size ≤ fz.1 ∧ s.size ≤ cur.size ∧ ∀ (i : Nat) (h : i < s.size), cur[i]? = some (.int .u8 ((s[i]'h).toNat : Int))
section
variable {P : Program} {nt : Nat} {C : Cx P nt} {dst : Nat} {ty : TypeId} {pos : String} {af : Array Edge} {gd : Option (Nat × Bool)} {x y : Operand} {R R1 R2 : List (Nat × SV)}

theorem bytH.cell {w : World} {b : Nat} {o : Obj} {T : TypeId} {s : ByteArray} (ho : w.heap[b]? = some o) (h : bytH T s o) {i : Nat} (hi : i < s.size) : w.cell? ⟨b, i, none⟩ = some (.int .u8 ((s[i]'hi).toNat : Int)) := by
  obtain ⟨cur, fz, rfl, -, -, hc⟩ := h
  simp only [World.cell?, ho]
  exact hc i hi

end
end Go.Ab

/- The abstract machine: rows that lie in a cell of a block of the call's own (a field that is appended to). Conditions: none but those that stand in each law. -/
namespace Go.Ab
open Go Go.RowKit

section
variable {P : Program} {nt : Nat} {C : Cx P nt} {Q0 : Exit → Act → World → Prop} {k : List KI} {x y : Operand} {R1 R2 : List (Nat × SV)}

/-- a cell that holds nil, is a row without elements of the call's own -/
theorem G.rowCell {sl : SL} {hp : HL} {kb kk T E size j : Nat} {cs cs' : List BV} (hh : hget hp kb = some (.blk T cs)) (hj : cs[j]? = some (.g (.d (.v (.slice none 0 0))))) (hkk : hget hp kk = none) (hk0 : Nat.blt 0 kk = true) (hz : Nat.blt 0 size = true)
    (he : cs.set j (.own kk []) = cs') (h : G C Q0 k ⟨sl, (kb, some (.blk T cs')) :: (kk, some (.row E size [] false)) :: hp⟩) : G C Q0 k ⟨sl, hp⟩ := ⟨fun a w ⟨β, r⟩ => by
  have hne : kk ≠ kb := fun c => by subst c; rw [hkk] at hh; cases hh
  obtain ⟨b, arr, hb, hheap, hsz, hc⟩ := r.hp kb _ hh
  have r1 := (r.new (e := .row E size [] false) (bo := none) hkk hk0 (Below.refl _ w) (fun b hb => by cases hb) fun _ _ => ⟨by simpa using hz, fun cs h => by simp at h, .inl ⟨by simp [upd], rfl⟩⟩).1
  have hh1 : hget ((kk, some (.row E size [] false)) :: hp) kb = some (.blk T cs) := by rw [hget_cons, if_neg hne]; exact hh
  have hb1 : upd β kk none kb = some b := by simp [upd, Ne.symm hne, hb]
  obtain ⟨b1, arr1, hb1', hheap1, hsz1, hc1⟩ := r1.hp kb _ hh1
  rw [hb1] at hb1'; cases hb1'
  rw [hheap] at hheap1; cases hheap1
  obtain ⟨β', r2⟩ : ∃ β', RelB C ⟨sl, (kb, some (.blk T cs')) :: (kk, some (.row E size [] false)) :: hp⟩ β' a w := by
    refine ⟨upd (upd β kk none) kb (upd β kk none kb), (r1.chg (e := .blk T cs') (bo := upd β kk none kb) (w1 := w) hh1 rfl rfl rfl (Nat.le_refl _) (fun _ _ _ => rfl) (fun _ _ _ _ h _ => h) (.inl ⟨rfl, fun _ h => h⟩) ⟨rfl, fun _ => rfl⟩ (fun es0 u h => ?_) (fun hBR _ => ?_)).1⟩
    · obtain ⟨_, _, _, _, h1, _⟩ := h
      rw [hh1] at h1; cases h1
    · subst he
      refine ⟨b, arr, by simp [upd, Ne.symm hne, hb], hheap, by simpa using hsz, fun i c hi => ?_⟩
      rw [List.getElem?_set] at hi
      by_cases c1 : j = i
      · subst c1
        obtain ⟨u, hu, ho, hr⟩ := hc j _ hj
        have hu2 := BR.v_inv hr
        subst hu2
        rw [if_pos rfl] at hi
        split at hi
        · cases hi
          refine ⟨_, hu, ho, E, size, [], false, ?_, Nat.le_refl _, fun _ => .inl ⟨by simp [upd, hne], rfl, none, rfl⟩⟩
          rw [hget_cons, if_neg (Ne.symm hne), hget_cons, if_pos rfl]
        · cases hi
      · rw [if_neg c1] at hi
        obtain ⟨u, hu, ho, hr⟩ := hc1 i c hi
        exact ⟨u, hu, ho, hBR c u hr⟩
  exact h.go a w ⟨β', r2⟩⟩

theorem own_one {sl : SL} {hp : HL} {β : Nat → Option Nat} {a : Act} {w : World} (_r : RelB C ⟨sl, hp⟩ β a w) {kk T size : Nat} {es : List (List DV)} {ex : Bool} (hh : hget hp kk = some (.row T size es ex)) {u : Value} (hu : BR C hp β w (.own kk es) u) : u.oneCell' = true := by
  obtain ⟨T', size', es', ex', h1, h2, h3⟩ := hu
  rw [hh] at h1; cases h1
  rcases h3 rfl with ⟨_, _, a, rfl⟩ | ⟨b, cap, cur, _, rfl, _⟩ <;> rfl

/-- a row that is stored in a cell -/
theorem op_storeO {S : TypeId} {kb kk off T E size : Nat} {zz : Value} {bytes : Nat} {cs cs' : List BV} {es : List (List DV)} {ex : Bool} {pos : String} {af : Array Edge} {gd : Option (Nat × Bool)} {ty : TypeId}
    (hI : Info P S zz 1 bytes) (hoff : Nat.blt off cs.length = true) (he : cs.set off (.own kk es) = cs') (hne : Nat.beq kb kk = false) (hx : Ev x (.ptr kb off) R1) (hy : Ev y (.own kk es) R2) :
    OpL C ⟨none, .store S x y, ty, pos, af, gd⟩ (R1 ++ R2) [(kb, some (.blk T cs)), (kk, some (.row E size es ex))] [] [(kb, some (.blk T cs'))] := by
  refine ⟨fun sl hp hs hh a w K Q ⟨β, r⟩ hK => ?_⟩
  have hne' : kk ≠ kb := fun c => by subst c; simp at hne
  obtain ⟨_, b, hb, hu⟩ := hx.ok hs.app.1 r
  have hy1 := hy.ok hs.app.2 r
  have hrow := hh.2.1
  have hone := own_one r hrow hy1
  obtain ⟨b', arr, hb', hheap, hsz, hcell⟩ := r.hp kb _ hh.1
  rw [hb] at hb'; cases hb'
  have hoff' : off < cs.length := by simpa using hoff
  have h3 : (a.eval y).cells = #[a.eval y] := by generalize a.eval y = u at hone; cases u <;> simp_all [Value.cells, Value.oneCell']
  have hsc := run_storeCells_at P b off T [a.eval y] 0 arr w hheap (by simp; omega) (fun v hv => by simp at hv; subst hv; exact hone)
  simp only [Nat.add_zero, List.length_cons, List.length_nil, Nat.zero_add] at hsc
  generalize hw1 : w.setRow b (List.take off arr.toList ++ [a.eval y] ++ List.drop (off + 1) arr.toList).toArray = w1 at hsc
  have hnew : w1.heap[b]? = some (.cells (List.take off arr.toList ++ [a.eval y] ++ List.drop (off + 1) arr.toList).toArray T) := by
    rw [← hw1]; exact setRow_heap w b arr _ T _ hheap
  have hoth : ∀ i, i ≠ b → w1.heap[i]? = w.heap[i]? := fun i hi => by rw [← hw1]; exact setRow_other w b i _ hi
  have hsize : w1.heap.size = w.heap.size := by rw [← hw1]; simp [World.setRow]
  unfold Oper.wp
  have : (execOp a.eval ⟨none, .store S x y, ty, pos, af, gd⟩).run P w = .ok .skip w1 := by
    simp [execOp, hu, Instr.storeAt, Instr.sureAddr, storeVar, h3, hI.sizeOf, hsc]
  rw [this]
  refine hK _ _ ⟨upd β kb (β kb), ?_⟩
  refine (r.chg (e := .blk T cs') (bo := β kb) hh.1 (by rw [← hw1]; rfl) (by rw [← hw1]; rfl) (by rw [← hw1]; rfl) (by omega) (fun i _ hi => hoth i (fun c => hi (by rw [c, hb]))) (fun _ _ _ _ _ c => absurd trivial c)
    (.inl ⟨rfl, fun _ h => h⟩) ⟨rfl, fun _ => rfl⟩ (fun es0 u h => ?_) (fun hBR _ => ?_)).1
  · obtain ⟨_, _, _, _, h1, _⟩ := h
    rw [hh.1] at h1; cases h1
  · subst he
    refine ⟨b, _, by simp [upd, hb], hnew, by simp; omega, fun j c hj => ?_⟩
    rw [List.getElem?_set] at hj
    have harr : (List.take off arr.toList ++ [a.eval y] ++ List.drop (off + 1) arr.toList).toArray[j]? = if off = j then some (a.eval y) else arr[j]? := by
      have hl : off < arr.toList.length := by simp; omega
      have : List.take off arr.toList ++ [a.eval y] ++ List.drop (off + 1) arr.toList = arr.toList.set off (a.eval y) := by
        rw [List.set_eq_take_append_cons_drop, if_pos hl]; simp
      rw [this, List.getElem?_toArray, List.getElem?_set]
      by_cases c1 : off = j
      · rw [if_pos c1, if_pos c1, if_pos (by simpa using hl)]
      · rw [if_neg c1, if_neg c1]; simp
    rw [harr]
    by_cases c1 : off = j
    · rw [if_pos c1, if_pos hoff'] at hj
      cases hj
      rw [if_pos c1]
      exact ⟨_, rfl, hone, hBR _ _ hy1⟩
    · rw [if_neg c1] at hj ⊢
      obtain ⟨u, h1, h2, h3⟩ := hcell _ _ hj
      exact ⟨u, h1, h2, hBR c u h3⟩

/-- a row in a cell, seen as the slice that it is now -/
theorem G.viewCell {sl : SL} {hp : HL} {kb kk T E size j : Nat} {cs cs' : List BV} {es : List (List DV)} (hh : hget hp kb = some (.blk T cs)) (hj : cs[j]? = some (.own kk es)) (hrow : hget hp kk = some (.row E size es false))
    (he : cs.set j (.g (.d (.sl size es))) = cs') (h : G C Q0 k ⟨sl, (kb, some (.blk T cs')) :: hp⟩) : G C Q0 k ⟨sl, hp⟩ := ⟨fun a w ⟨β, r⟩ => by
  obtain ⟨b, arr, hb, hheap, hsz, hc⟩ := r.hp kb _ hh
  refine h.go a w ⟨upd β kb (β kb), (r.chg (e := .blk T cs') (bo := β kb) (w1 := w) hh rfl rfl rfl (Nat.le_refl _) (fun _ _ _ => rfl) (fun _ _ _ _ h _ => h) (.inl ⟨rfl, fun _ h => h⟩) ⟨rfl, fun _ => rfl⟩ (fun es0 u h => ?_) (fun hBR _ => ?_)).1⟩
  · obtain ⟨_, _, _, _, h1, _⟩ := h
    rw [hh] at h1; cases h1
  · subst he
    refine ⟨b, arr, by simp [upd, hb], hheap, by simpa using hsz, fun i c hi => ?_⟩
    rw [List.getElem?_set] at hi
    by_cases c1 : j = i
    · subst c1
      obtain ⟨u, hu, ho, hr⟩ := hc j _ hj
      rw [if_pos rfl] at hi
      split at hi
      · cases hi
        refine ⟨u, hu, ho, hBR (.g (.d (.sl size es))) u (own_data r hrow hr (fun _ _ h => h) (fun b o hb ho hm => ?_))⟩
        rcases hm with hM | ⟨k1, e1, h1, h2, h3⟩
        · obtain ⟨h4, h5⟩ := r.low b o hM
          rcases (r.own kk _ b hrow hb).1 with h6 | h6
          · omega
          · exact h5 h6
        · obtain rfl := r.inj k1 kk e1 _ b h1 hrow h2 hb
          rw [hrow] at h1; cases h1
          simp only [HE.mutAt, Bool.false_eq_true, false_or] at h3
          omega
      · cases hi
    · rw [if_neg c1] at hi
      obtain ⟨u, hu, ho, hr⟩ := hc i c hi
      exact ⟨u, hu, ho, hBR c u hr⟩⟩
end
end Go.Ab

/- The abstract machine: regions in any order, what their operations do being read off the operations' laws. Conditions: none but those that stand in each law. -/
namespace Go.Ab
open Go Go.RowKit

section
variable {P : Program} {nt : Nat} {C : Cx P nt} {ops : Array Oper} {i : Nat} {o : Oper} {Rs Ws : List (Nat × SV)} {Rh Wh : List (Nat × Option HE)}
theorem oP (ho : ops[i]? = some o) (hg : o.guard = none) (h : OpL C o Rs Rh Ws Wh) : OpW C ops i ⟨Rs, Rh, Ws, Wh⟩ := OpW.plain h ho hg
theorem oY {j t : Nat} {b : Bool} (ho : ops[i]? = some o) (hg : o.guard = some (j, b)) (hj : (ops[j]?).bind (·.dst) = some t) (h : OpL C o Rs Rh Ws Wh) : OpW C ops i ⟨(t, .one (bB b)) :: Rs, Rh, Ws, Wh⟩ := OpW.yes h ho hg hj
inductive AllO (C : Cx P nt) (ops : Array Oper) : Nat → List Eff → Prop
  | nil {i : Nat} : AllO C ops i []
  | c {i : Nat} {e : Eff} {es : List Eff} (h : OpW C ops i e) (t : AllO C ops (i + 1) es) : AllO C ops i (e :: es)
theorem AllO.all {i : Nat} {es : List Eff} (h : AllO C ops i es) : allOps C ops i es := by
  induction h with
  | nil => trivial
  | c h t ih => exact ⟨h, ih⟩
end

section
variable {P : Program} {nt : Nat} {C : Cx P nt} {Q0 : Exit → Act → World → Prop} {k : List KI}
theorem G.drawnI {id : Nat} {l : List Oper} {effs : List Eff} {deps : List (List Nat)} {sl sl' : SL} {hp hp' : HL} (ho : AllO C l.toArray 0 effs) (hm : P.follows .mixedOrders = true)
    (hd : depsOk l.toArray deps = true) (hl : effs.length = l.length) (h1 : single effs deps = true) (hr : allRead effs deps sl hp 0 effs)
    (hs : endS effs sl sl') (hh : endH effs hp hp') (hw : wellId sl' hp' = true) (hk : G C Q0 k ⟨sl', hp'⟩) : G C Q0 (.c (.region id l.toArray true) :: k) ⟨sl, hp⟩ := G.drawn hm hd hl h1 hr ho.all hs hh hw hk
end
end Go.Ab

/- The abstract machine: functions that look into tables of the program that are laid (a premise on the world, kept by all that turns no block that was there). Conditions: none but those that stand in each law. -/
namespace Go.Ab
open Go Go.RowKit Go.Proofs

/-- the premise: the two tables of utf8 read so, and a package variable holds some number -/
def GL (g1 g3 g4 : Nat) (w : World) : Prop := (∃ m, w.cell? ⟨g1, 0, none⟩ = some (.int .i64 m)) ∧ Lib.Utf8Tabs g3 g4 w
structure GOK (Γ : World → Prop) : Prop where
  keep : ∀ w w', Below w.heap.size w w' → Γ w → Γ w'
theorem GL.ok (g1 g3 g4 : Nat) : GOK (GL g1 g3 g4) := ⟨fun w w' hb h => by
  obtain ⟨⟨m, h1⟩, h2⟩ := h
  refine ⟨⟨m, ?_⟩, Utf8Tabs_below h2 hb⟩
  have hlt : g1 < w.heap.size := by
    rcases Nat.lt_or_ge g1 w.heap.size with h' | h'
    · exact h'
    · simp [World.cell?, Array.getElem?_eq_none h'] at h1
  exact (hb.cell hlt).trans h1⟩

/-- WHAT A FUNCTION DOES, as data, where the premise holds -/
structure CtG (P : Program) (Γ : World → Prop) (f : Nat) (args : List RG) (res : RS) : Prop where
  go : ∀ (M : Nat → Nat → Prop) (w : World) (vs : List Value), Γ w → (∀ b o, M b o → b < w.heap.size) →
    vs.length = args.length → (∀ (i : Nat) (g : RG) (v : Value), args[i]? = some g → vs[i]? = some v → ArgR P M (fun _ => False) w g v) →
    Calls P f vs.toArray w fun e w' => ∃ v, e = .returned v ∧ KeepW (fun _ => False) w w' ∧ ResR M (fun _ => False) w w' res v
  ok : GOK Γ

/-- a frame in which the premise holds -/
structure GC {P : Program} {nt : Nat} (Γ : World → Prop) (C : Cx P nt) : Prop where
  g : Γ C.w0
  k : ∀ b, ¬ C.K b

theorem CtG.intro {P : Program} {Γ : World → Prop} {f : Nat} {fn : Func} {code : Code} {args : List RG} {res : RS} {n : Nat} (hΓ : GOK Γ) (hf : P.funcs[f]? = some fn) (hb : fn.body = some code) (hn : fn.ntmps = n) (hle : Nat.ble args.length n = true)
    (hrow : args.all (fun g => !g.isRow) = true)
    (h : ∀ M w, GC Γ (⟨w, M, fun _ => False, none⟩ : Cx P n) → G (⟨w, M, fun _ => False, none⟩ : Cx P n) (bodyPost P fn (PostR M (fun _ => False) w res)) [.c code] ⟨slots0 0 args, []⟩) : CtG P Γ f args res := by
  refine ⟨fun M w vs hg hM hl hargs => ?_, hΓ⟩
  have hle' : vs.length ≤ n := by rw [hl]; simpa using hle
  refine calls_of_wp hf hb ?_
  refine (h M w ⟨hg, fun _ h => h⟩).go _ w ⟨fun _ => none, ⟨⟨rfl, rfl, rfl, Nat.le_refl _, fun _ _ _ => rfl⟩, fun b o h => ⟨hM b o h, id⟩, (fun _ _ _ _ _ h => by cases h), (fun _ _ _ h => by cases h), (fun _ _ h => by cases h), fun t sv hs => ?_, ?_, rfl, fun _ hb => by cases hb⟩⟩
  · obtain ⟨_, g, h1, rfl⟩ := slots0_get hs
    rw [Nat.sub_zero] at h1
    have hlt : t < vs.length := by rw [hl]; exact (List.getElem?_eq_some_iff.1 h1).1
    have hv : (vs.toArray ++ Array.replicate (fn.ntmps - vs.toArray.size) undef).getD t undef = vs[t] := by
      simp [Array.getElem?_append, hlt]
    show SR _ _ _ _ _ ((vs.toArray ++ Array.replicate (fn.ntmps - vs.toArray.size) undef).getD t undef)
    rw [hv]
    have ha := hargs t g vs[t] h1 (by simp [hlt])
    have hmu : ∀ b o, Mu (⟨w, M, fun _ => False, none⟩ : Cx P n) [] (fun _ => none) b o → M b o ∨ False := by
      rintro b o (c | ⟨_, _, c, _⟩)
      · exact .inl c
      · cases c
    cases g with
    | g a => exact GR.less hmu ha
    | ep cs =>
      obtain ⟨b, o, hu, hc⟩ := ha
      exact ⟨b, o, hu, fun j d hj => let ⟨x, q1, q2, q3⟩ := hc j d hj; ⟨x, q1, fun c => q2 (hmu _ _ c), q3.less hmu⟩⟩
    | sem Φ => exact ha
    | ro Φ => exact ha
    | row T size es =>
      have := List.all_eq_true.1 hrow _ (List.mem_of_getElem? h1)
      simp [RG.isRow] at this
    | pt h => trivial
  · simp [hn]; omega

section
variable {P : Program} {nt : Nat} {C : Cx P nt} {Γ : World → Prop} {dst : Nat} {ty : TypeId} {pos : String} {af : Array Edge} {gd : Option (Nat × Bool)} {x y z : Operand} {R R1 R2 R3 : List (Nat × SV)}

theorem GC.now {st : St} {β : Nat → Option Nat} {a : Act} {w : World} (hG : GC Γ C) (hΓ : GOK Γ) (r : RelB C st β a w) : Γ w :=
  hΓ.keep _ _ ⟨r.keep.os, r.keep.tape, r.keep.output, r.keep.size, fun k hk => r.keep.block k hk (hG.k k)⟩ hG.g

/-- a call with plain data, where the premise holds -/
theorem op_callG {f : Nat} {xs : List Operand} {tys : Array TypeId} {args : List RG} {res : RS} {sv : SV} (hG : GC Γ C) (hc : CallF P f) (hct : CtG P Γ f args res) (hsv : res.sv = sv) (hx : EvL xs args R) (hd : Nat.blt dst nt = true) :
    OpL C (Oo dst (cCall f xs tys) ty pos af gd) R [] [(dst, sv)] [] := by
  refine ⟨fun sl hp hs hh a w K Q ⟨β, r⟩ hK => ?_⟩
  obtain ⟨h1, h2⟩ := hx.ok hs r
  have hcall := hct.go (Mu C hp β) w (xs.map a.eval) (hG.now hct.ok r) (fun b o h => r.mut_lt h) h1 h2
  unfold Oper.wp
  rw [run_call hc]
  refine hcall.mono ?_
  rintro e w' ⟨v, rfl, hk, hr⟩
  refine hK _ _ ⟨β, r.put hk.toBelow (by simpa using hd) ?_⟩
  rw [← hsv]
  exact RS.sv_ok hr

end

section
variable {P : Program} {nt : Nat} {C : Cx P nt} {Γ : World → Prop} {dst : Nat} {ty : TypeId} {pos : String} {af : Array Edge} {gd : Option (Nat × Bool)} {R : List (Nat × SV)} {Rh : List (Nat × Option HE)}
/-- a call that only reads, where the premise holds -/
theorem op_callQG {f : Nat} {xs : List Operand} {tys : Array TypeId} {args : List RG} {res : RS} {sv : SV} (hG : GC Γ C) (hc : CallF P f) (hct : CtG P Γ f args res) (hsc : res.sc = true) (hsv : res.sv = sv) (hx : EvQL P xs args R Rh) (hd : Nat.blt dst nt = true) :
    OpL C (Oo dst (cCall f xs tys) ty pos af gd) R Rh [(dst, sv)] [] := by
  refine ⟨fun sl hp hs hh a w K Q ⟨β, r⟩ hK => ?_⟩
  obtain ⟨h1, h2⟩ := hx.ok hs hh r
  have hcall := hct.go (fun _ _ => False) w (xs.map a.eval) (hG.now hct.ok r) (fun b o h => h.elim) h1 h2
  unfold Oper.wp
  rw [run_call hc]
  refine hcall.mono ?_
  rintro e w' ⟨v, rfl, hk, hr⟩
  refine hK _ _ ⟨β, r.put hk.toBelow (by simpa using hd) ?_⟩
  rw [← hsv]
  exact RS.sv_ok (RS.sc_ok hsc hr)
end

section
variable {P : Program} {nt : Nat} {C : Cx P nt} {Γ : World → Prop} {dst : Nat} {ty : TypeId} {pos : String} {af : Array Edge} {gd : Option (Nat × Bool)} {x y z : Operand} {R R1 R2 R3 : List (Nat × SV)} {Rh : List (Nat × Option HE)}
/-- a call of a function value, where the premise holds -/
theorem op_callCloG {t f : Nat} {xs : List Operand} {tys : Array TypeId} {args : List RG} {res : RS} {sv : SV} (hG : GC Γ C) (hc : CallF P f) (hct : CtG P Γ f args res) (hsc : res.sc = true) (hsv : res.sv = sv) (hx : EvQL P xs args R Rh) (hd : Nat.blt dst nt = true) :
    OpL C (Oo dst (cCallT t xs tys) ty pos af gd) ((t, .one (.clo f [])) :: R) Rh [(dst, sv)] [] := by
  refine ⟨fun sl hp hs hh a w K Q ⟨β, r⟩ hK => ?_⟩
  obtain ⟨h1, h2⟩ := hx.ok hs.2 hh r
  obtain ⟨us, hu, hl, _⟩ := (Ev.t t _).ok (R := [(t, .one (.clo f []))]) ⟨hs.1, trivial⟩ r
  obtain rfl : us = [] := List.eq_nil_of_length_eq_zero hl
  have hcall := hct.go (fun _ _ => False) w (xs.map a.eval) (hG.now hct.ok r) (fun b o h => h.elim) h1 h2
  unfold Oper.wp
  rw [run_callT hc hu, List.append_toArray, List.append_nil]
  refine hcall.mono ?_
  rintro e w' ⟨v, rfl, hk, hr⟩
  refine hK _ _ ⟨β, r.put hk.toBelow (by simpa using hd) ?_⟩
  rw [← hsv]
  exact RS.sv_ok (RS.sc_ok hsc hr)

/-- a literal row, to be appended to: it is full -/
theorem op_buildSliceC {T E : TypeId} {zz : Value} {size bytes len : Nat} {es : List (List DV)} {xs : List (Nat × Operand)} {gs : List (Nat × AG)}
    (hT : P.underlying T = some (.slice E)) (hI : Info P E zz size bytes) (hbig : Nat.ble (len * size) 16777216 = true) (hlen : Nat.ble len 16777216 = true)
    (hx : EvP xs gs R) (he : dfill (fun i => some (i * size, size)) (List.replicate (len * size) none) gs = some (es.flatten.map some)) (hel : Nat.beq es.length len = true) (hes : ∀ cs, cs ∈ es → cs.length = size) (hd : Nat.blt dst nt = true) :
    OpL C (Oo dst (.buildSlice T len xs.toArray) ty pos af gd) R [] [(dst, .one (.cp size es))] [] :=
  opl_below hd rfl fun sl hp β a w hs _ r => by
    have hel := Nat.eq_of_beq_eq_true hel
    have hbig' : ¬ (16777216 < len * size) := by simp at hbig; omega
    obtain ⟨h1, h2⟩ := hx.ok hs r
    generalize hz0 : (if len * size = 0 then (#[] : Array Value) else zz.cells) = z0
    have hvr0 : VR (Mu C hp β) w ((Array.range (len * size)).map (z0[· % z0.size]!)) (List.replicate (len * size) none) := ⟨by simp, fun j d hj => by rw [List.getElem?_replicate] at hj; split at hj <;> simp at hj⟩
    obtain ⟨vals, hf, hv⟩ := fill_vr (vparts := xs.map fun q => (q.1, a.eval q.2)) hvr0 (by simpa using h1) h2 he
    refine ⟨.slice (some ⟨w.heap.size, 0, none⟩) len len, w.alloc (.cells vals E), ?_, below_alloc w _, ?_⟩
    · simp only [execOp, Instr.buildSlice, Sem.run_bind, run_underlying hT, Result.andThen_ok, hI.sizeOf]
      rw [if_neg (by simpa using hbig')]
      by_cases h0 : len * size = 0
      · rw [if_pos h0] at hz0
        subst hz0
        rw [if_pos h0]
        simp only [Sem.run_bind, Sem.run_pure, Result.andThen_ok, List.map_toArray, hf, newRow, run_newObj]
        rfl
      · rw [if_neg h0] at hz0
        subst hz0
        rw [if_neg h0]
        simp only [Sem.run_bind, Sem.run_pure, Result.andThen_ok, hI.zero, List.map_toArray, hf, newRow, run_newObj]
        rfl
    · suffices hb : RD (Mu C hp β) (w.alloc (.cells vals E)) (.slice (some ⟨w.heap.size, 0, none⟩) len len) (.sl size es) from ⟨hb, _, _, rfl⟩
      refine below_new (fun o c => ?_) hel (by simp at hlen; unfold maxLen; omega) hes hv
      exact Nat.lt_irrefl _ (r.mut_lt c)
end

section
variable {P : Program} {nt : Nat} {C : Cx P nt} {Q0 : Exit → Act → World → Prop} {k : List KI}
theorem G.opGM {ops : Array Oper} {rest : List Oper} {o : Oper} {sl : SL} {hp : HL} {dst : Nat} {sv : SV} {Rs : List (Nat × SV)} {Rh Wh : List (Nat × Option HE)} {j t : Nat} {b : Bool}
    (h : OpL C o Rs Rh [(dst, sv)] Wh) (hg : o.guard = some (j, b)) (hj : (ops[j]?).bind (·.dst) = some t) (ht : sget sl t = some (.one (bB b))) (hs : HasS sl Rs) (hh : HasH hp Rh) (hk : G C Q0 (.l ops rest :: k) ⟨(dst, sv) :: sl, Wh ++ hp⟩) : G C Q0 (.l ops (o :: rest) :: k) ⟨sl, hp⟩ := G.opG h hg hj ht hs hh rfl rfl hk
end

/-! ### contracts of the kit's shelf, as data -/
theorem KeepW.ofBelow {K : Nat → Prop} {w w' : World} (h : Below w.heap.size w w') : KeepW K w w' := ⟨h.os, h.tape, h.output, h.size, fun k hk _ => h.block k hk⟩
theorem vals_of {P : Program} {M : Nat → Nat → Prop} {K : Nat → Prop} {w : World} : ∀ {vs0 vs : List Value}, vs.length = (vs0.map fun v => RG.g (.d (.v v))).length →
    (∀ (i : Nat) (g : RG) (v : Value), (vs0.map fun v => RG.g (.d (.v v)))[i]? = some g → vs[i]? = some v → ArgR P M K w g v) → vs = vs0
  | [], [], _, _ => rfl
  | [], _ :: _, h, _ => by simp at h
  | _ :: _, [], h, _ => by simp at h
  | v0 :: vs0, v :: vs, h, hr => by
    have h0 : RD _ w v (.v v0) := hr 0 _ v rfl rfl
    rw [h0.v_inv, vals_of (by simpa using h) fun i g u hg hu => hr (i + 1) g u hg hu]

theorem Ct.pure {P : Program} {f : Nat} {args : List RG} {r : Value} (vs0 : List Value) (ha : args = vs0.map fun v => RG.g (.d (.v v))) (h1 : r.oneCell' = true)
    (h : ∀ w, Calls P f vs0.toArray w fun e w' => e = .returned r ∧ Below w.heap.size w w') : Ct P f args (.one (.d (.v r))) := by
  subst ha
  refine ⟨fun M K w vs hM hK hl hargs => ?_⟩
  rw [vals_of hl hargs]
  exact (h w).mono fun e w' ⟨he, hb⟩ => ⟨r, he, KeepW.ofBelow hb, .v _ h1⟩

theorem CtG.pure {P : Program} {Γ : World → Prop} {f : Nat} {args : List RG} {r : Value} (hΓ : GOK Γ) (vs0 : List Value) (ha : args = vs0.map fun v => RG.g (.d (.v v))) (h1 : r.oneCell' = true)
    (h : ∀ w, Γ w → Calls P f vs0.toArray w fun e w' => e = .returned r ∧ Below w.heap.size w w') : CtG P Γ f args (.one (.d (.v r))) := by
  subst ha
  refine ⟨fun M w vs hg hM hl hargs => ?_, hΓ⟩
  rw [vals_of hl hargs]
  exact (h w hg).mono fun e w' ⟨he, hb⟩ => ⟨r, he, KeepW.ofBelow hb, .v _ h1⟩

theorem CtG.texts {P : Program} {Γ : World → Prop} {f : Nat} {args : List RG} {T : TypeId} {l : List ByteArray} (hΓ : GOK Γ) (vs0 : List Value) (ha : args = vs0.map fun v => RG.g (.d (.v v))) (hl : l.length ≤ maxLen)
    (h : ∀ w, Γ w → Calls P f vs0.toArray w fun e w' => e = .returned (.slice (some ⟨w.heap.size, 0, none⟩) l.length l.length) ∧ w' = w.alloc (.cells (l.map Value.string).toArray T)) :
    CtG P Γ f args (.one (.d (.sl 1 (l.map fun x => [.v (.string x)])))) := by
  subst ha
  refine ⟨fun M w vs hg hM hl hargs => ?_, hΓ⟩
  rw [vals_of hl hargs]
  refine (h w hg).mono fun e w' ⟨he, hw⟩ => ⟨_, he, KeepW.ofBelow (hw ▸ (Below.refl _ _).alloc (Nat.le_refl _) _), ?_⟩
  subst hw
  have hrd := RD.sl (M := M) (w := w.alloc (.cells (l.map Value.string).toArray T)) (some ⟨w.heap.size, 0, none⟩) l.length 1 (l.map fun x => [DV.v (.string x)]) (fun i _ => .string (l.getD i ByteArray.empty)) w.heap.size 0
    (by simp) ‹_› (fun _ => rfl) (fun cs hcs => by obtain ⟨x, _, rfl⟩ := List.mem_map.1 hcs; rfl)
    (fun i cs j d hi hj => by
      obtain ⟨x, hx, rfl⟩ := by simpa using hi
      have hj0 : j = 0 := by cases j with | zero => rfl | succ j => simp at hj
      subst hj0
      refine ⟨?_, fun c => Nat.lt_irrefl _ (hM _ _ c)⟩
      rw [World.cell?_alloc_at _ _ _ _ rfl]
      simp [hx])
    (fun i cs j d hi hj => by
      obtain ⟨x, hx, rfl⟩ := by simpa using hi
      have hj0 : j = 0 := by cases j with | zero => rfl | succ j => simp at hj
      subst hj0
      have hd : d = .v (.string x) := by simpa using hj.symm
      subst hd
      simp [hx]
      exact .v _ rfl)
  have h2 : RD M (w.alloc (.cells (l.map Value.string).toArray T)) (.slice (some ⟨w.heap.size, 0, none⟩) l.length l.length) (.sl 1 (l.map fun x => [.v (.string x)])) := by simpa using hrd
  exact h2
end Go.Ab

/- The abstract machine: short words for steps of printed walks. Conditions: none but those that stand in each law. -/
namespace Go.Ab
open Go Go.RowKit
/-- facts of the program's types, found by instances -/
class Und (P : Program) (t : TypeId) (d : outParam TypeDesc) : Prop where
  h : P.underlying t = some d
theorem uU {P : Program} {t : TypeId} {d : TypeDesc} [i : Und P t d] : P.underlying t = some d := i.h
abbrev dOf {P : Program} {t : TypeId} {d : TypeDesc} (_ : P.underlying t = some d) : TypeDesc := d
theorem ev {t : Nat} {v : BV} : Ev (.tmp t) v [(t, .one v)] := Ev.t t v
theorem ec {v : Value} (h : v.oneCell' = true) : Ev (.const v) (.g (.d (.v v))) [] := Ev.c v h
theorem qe {P : Program} {t : Nat} {g : AG} : EvQ P (.tmp t) (.g g) [(t, .one (.g g))] [] := .g (Ev.t t _)
theorem z1 {α0 : Sort _} {a0 : α0} : a0 = a0 ∧ True := ⟨rfl, trivial⟩
theorem z2 {α0 : Sort _} {a0 : α0} {α1 : Sort _} {a1 : α1} : a0 = a0 ∧ a1 = a1 ∧ True := ⟨rfl, rfl, trivial⟩
theorem z3 {α0 : Sort _} {a0 : α0} {α1 : Sort _} {a1 : α1} {α2 : Sort _} {a2 : α2} : a0 = a0 ∧ a1 = a1 ∧ a2 = a2 ∧ True := ⟨rfl, rfl, rfl, trivial⟩
theorem z4 {α0 : Sort _} {a0 : α0} {α1 : Sort _} {a1 : α1} {α2 : Sort _} {a2 : α2} {α3 : Sort _} {a3 : α3} : a0 = a0 ∧ a1 = a1 ∧ a2 = a2 ∧ a3 = a3 ∧ True := ⟨rfl, rfl, rfl, rfl, trivial⟩
theorem z5 {α0 : Sort _} {a0 : α0} {α1 : Sort _} {a1 : α1} {α2 : Sort _} {a2 : α2} {α3 : Sort _} {a3 : α3} {α4 : Sort _} {a4 : α4} : a0 = a0 ∧ a1 = a1 ∧ a2 = a2 ∧ a3 = a3 ∧ a4 = a4 ∧ True := ⟨rfl, rfl, rfl, rfl, rfl, trivial⟩
theorem z6 {α0 : Sort _} {a0 : α0} {α1 : Sort _} {a1 : α1} {α2 : Sort _} {a2 : α2} {α3 : Sort _} {a3 : α3} {α4 : Sort _} {a4 : α4} {α5 : Sort _} {a5 : α5} : a0 = a0 ∧ a1 = a1 ∧ a2 = a2 ∧ a3 = a3 ∧ a4 = a4 ∧ a5 = a5 ∧ True := ⟨rfl, rfl, rfl, rfl, rfl, rfl, trivial⟩
theorem z7 {α0 : Sort _} {a0 : α0} {α1 : Sort _} {a1 : α1} {α2 : Sort _} {a2 : α2} {α3 : Sort _} {a3 : α3} {α4 : Sort _} {a4 : α4} {α5 : Sort _} {a5 : α5} {α6 : Sort _} {a6 : α6} : a0 = a0 ∧ a1 = a1 ∧ a2 = a2 ∧ a3 = a3 ∧ a4 = a4 ∧ a5 = a5 ∧ a6 = a6 ∧ True := ⟨rfl, rfl, rfl, rfl, rfl, rfl, rfl, trivial⟩
theorem z8 {α0 : Sort _} {a0 : α0} {α1 : Sort _} {a1 : α1} {α2 : Sort _} {a2 : α2} {α3 : Sort _} {a3 : α3} {α4 : Sort _} {a4 : α4} {α5 : Sort _} {a5 : α5} {α6 : Sort _} {a6 : α6} {α7 : Sort _} {a7 : α7} : a0 = a0 ∧ a1 = a1 ∧ a2 = a2 ∧ a3 = a3 ∧ a4 = a4 ∧ a5 = a5 ∧ a6 = a6 ∧ a7 = a7 ∧ True := ⟨rfl, rfl, rfl, rfl, rfl, rfl, rfl, rfl, trivial⟩
theorem z9 {α0 : Sort _} {a0 : α0} {α1 : Sort _} {a1 : α1} {α2 : Sort _} {a2 : α2} {α3 : Sort _} {a3 : α3} {α4 : Sort _} {a4 : α4} {α5 : Sort _} {a5 : α5} {α6 : Sort _} {a6 : α6} {α7 : Sort _} {a7 : α7} {α8 : Sort _} {a8 : α8} : a0 = a0 ∧ a1 = a1 ∧ a2 = a2 ∧ a3 = a3 ∧ a4 = a4 ∧ a5 = a5 ∧ a6 = a6 ∧ a7 = a7 ∧ a8 = a8 ∧ True := ⟨rfl, rfl, rfl, rfl, rfl, rfl, rfl, rfl, rfl, trivial⟩
theorem z12 {α0 : Sort _} {a0 : α0} {α1 : Sort _} {a1 : α1} {α2 : Sort _} {a2 : α2} {α3 : Sort _} {a3 : α3} {α4 : Sort _} {a4 : α4} {α5 : Sort _} {a5 : α5} {α6 : Sort _} {a6 : α6} {α7 : Sort _} {a7 : α7} {α8 : Sort _} {a8 : α8} {α9 : Sort _} {a9 : α9} {α10 : Sort _} {a10 : α10} {α11 : Sort _} {a11 : α11} : a0 = a0 ∧ a1 = a1 ∧ a2 = a2 ∧ a3 = a3 ∧ a4 = a4 ∧ a5 = a5 ∧ a6 = a6 ∧ a7 = a7 ∧ a8 = a8 ∧ a9 = a9 ∧ a10 = a10 ∧ a11 = a11 ∧ True := ⟨rfl, rfl, rfl, rfl, rfl, rfl, rfl, rfl, rfl, rfl, rfl, rfl, trivial⟩
section
variable {P : Program} {nt : Nat} {C : Cx P nt} {Q0 : Exit → Act → World → Prop} {k : List KI} {ops : Array Oper} {rest : List Oper} {sl : SL} {hp : HL} {st : St} {t dst : Nat} {v : BV} {ty : TypeId} {pos : String} {af : Array Edge} {op : Op} {sv : SV} {x y : Code} {id : Nat}
theorem mv (hs : sget sl t = some (.one v)) (hd : Nat.blt dst nt = true) (hk : G C Q0 (.l ops rest :: k) ⟨(dst, .one v) :: sl, hp⟩) : G C Q0 (.l ops (Oo dst (.move (.tmp t)) ty pos af none :: rest) :: k) ⟨sl, hp⟩ :=
  G.op1 (op_move (Ev.t t v) hd) rfl ⟨hs, trivial⟩ trivial hk
theorem av (hs : sget sl t = some (.one v)) (hd : Nat.blt dst nt = true) (hk : G C Q0 (.l ops rest :: k) ⟨(dst, .one v) :: sl, hp⟩) : G C Q0 (.l ops (Oo dst (.assign (.tmp t)) ty pos af none :: rest) :: k) ⟨sl, hp⟩ :=
  G.op1 (op_assign (Ev.t t v) hd) rfl ⟨hs, trivial⟩ trivial hk
theorem ac {u : Value} (hu : u.oneCell' = true) (hd : Nat.blt dst nt = true) (hk : G C Q0 (.l ops rest :: k) ⟨(dst, .one (.g (.d (.v u)))) :: sl, hp⟩) : G C Q0 (.l ops (Oo dst (.assign (.const u)) ty pos af none :: rest) :: k) ⟨sl, hp⟩ :=
  G.op1 (op_assign (Ev.c u hu) hd) rfl trivial trivial hk
theorem sq (h : G C Q0 (.c x :: .c y :: k) st) : G C Q0 (.c (.seq x y) :: k) st := G.seq h
theorem rg {l : List Oper} (h : G C Q0 (.l l.toArray l :: k) st) : G C Q0 (.c (.region id l.toArray false) :: k) st := G.region h
theorem eO (h : G C Q0 k st) : G C Q0 (.l ops [] :: k) st := G.endOps h
theorem sk (h : G C Q0 k st) : G C Q0 (.c .skip :: k) st := G.skip h
theorem lb {l : Nat} (h : G C Q0 k st) : G C Q0 (.c (.label l) :: k) st := G.label h
theorem bl (h : G C Q0 (.c x :: .b id :: k) st) : G C Q0 (.c (.block id x) :: k) st := G.block h
theorem eB (h : G C Q0 k st) : G C Q0 (.b id :: k) st := G.endBlock h
theorem sc (h : G C Q0 (.c x :: .s :: k) st) : G C Q0 (.c (.scope x) :: k) st := G.scope h
theorem ex (h : GX C Q0 id k st) : G C Q0 (.c (.exit id) :: k) st := G.exit h
theorem xY (h : G C Q0 k st) : GX C Q0 id (.b id :: k) st := GX.bYes h
theorem esr {l : List Oper} (h : G C Q0 (.l l.toArray l :: .c y :: k) st) : G C Q0 (.l ops [] :: .c (.seq (.region id l.toArray false) y) :: k) st := G.endOps (G.seq (G.region h))
theorem sr {l : List Oper} (h : G C Q0 (.l l.toArray l :: .c y :: k) st) : G C Q0 (.c (.seq (.region id l.toArray false) y) :: k) st := G.seq (G.region h)
theorem cT {b : Bool} (hb : b = true) (hs : sget st.sl t = some (.one (bB b))) (h : G C Q0 (.c x :: k) st) : G C Q0 (.c (.cond (.tmp t) x y) :: k) st := G.cond hs (fun _ => h) (fun hx => Bool.noConfusion (hb.symm.trans hx))
theorem cF {b : Bool} (hb : b = false) (hs : sget st.sl t = some (.one (bB b))) (h : G C Q0 (.c y :: k) st) : G C Q0 (.c (.cond (.tmp t) x y) :: k) st := G.cond hs (fun hx => Bool.noConfusion (hb.symm.trans hx)) (fun _ => h)
theorem oN {j : Nat} {b c : Bool} (hbc : (b == c) = false) (hj : (ops[j]?).bind (·.dst) = some t) (ht : sget sl t = some (.one (bB b)))
    (hk : G C Q0 (.l ops rest :: k) ⟨(dst, .one (.x Go.undef)) :: sl, hp⟩) : G C Q0 (.l ops (Oo dst op ty pos af (some (j, c)) :: rest) :: k) ⟨sl, hp⟩ := G.opN1 rfl rfl hbc hj ht hk
theorem bn {α β : Type} {x : Option α} {f : α → Option β} {r : β} {p : Prop} (h : x.bind f = some r) (hk : ∀ v, x = some v → f v = some r → p) : p := let ⟨v, h1, h2⟩ := bindS h; hk v h1 h2
theorem ck {α : Type} {b : Bool} {X : Option α} {r : α} {p : Prop} (h : chk b X = some r) (hk : b = true → X = some r → p) : p := let ⟨h1, h2⟩ := chkS h; hk h1 h2
/-- a loop: its state at the entry is read off the state that is there -/
theorem lF {T R : Type} {x : Code} {body : (T → Option R) → T → Option R} {n : Nat} {v : T} {r : R} (S : T → St) (hF : loopF body n v = some r) (hs : HasS st.sl (S v).sl) (hh : HasH st.hp (S v).hp) (hw : wellId (S v).sl (S v).hp = true)
    (round : ∀ (K : Act → World → Prop) (again : T → Option R) (v : T), (∀ v', again v' = some r → G C Q0 (.q K :: k) (S v')) → body again v = some r → G C Q0 (.c x :: .q K :: k) (S v)) : G C Q0 (.c (.loop x) :: k) st :=
  G.keep (sl' := (S v).sl) (hp' := (S v).hp) hs hh hw (G.loopF S hF rfl round)
theorem p00 (h : OpL C (Oo dst op ty pos af none) [] [] [(dst, sv)] []) (hk : G C Q0 (.l ops rest :: k) ⟨(dst, sv) :: sl, hp⟩) : G C Q0 (.l ops ((Oo dst op ty pos af none) :: rest) :: k) ⟨sl, hp⟩ := G.op1 h rfl trivial trivial hk
theorem p10 {t0 : Nat} {u0 : SV} (h : OpL C (Oo dst op ty pos af none) [(t0, u0)] [] [(dst, sv)] []) (s0 : sget sl t0 = some u0) (hk : G C Q0 (.l ops rest :: k) ⟨(dst, sv) :: sl, hp⟩) : G C Q0 (.l ops ((Oo dst op ty pos af none) :: rest) :: k) ⟨sl, hp⟩ := G.op1 h rfl ⟨s0, trivial⟩ trivial hk
theorem g10 {t0 : Nat} {u0 : SV} {j tg : Nat} {b : Bool} (h : OpL C (Oo dst op ty pos af (some (j, b))) [(t0, u0)] [] [(dst, sv)] []) (hj : (ops[j]?).bind (·.dst) = some tg) (ht : sget sl tg = some (.one (bB b))) (s0 : sget sl t0 = some u0) (hk : G C Q0 (.l ops rest :: k) ⟨(dst, sv) :: sl, hp⟩) : G C Q0 (.l ops (Oo dst op ty pos af (some (j, b)) :: rest) :: k) ⟨sl, hp⟩ := G.opG1 h rfl hj ht ⟨s0, trivial⟩ trivial hk
theorem p11 {t0 : Nat} {u0 : SV} {k0 : Nat} {e0 : Option HE} (h : OpL C (Oo dst op ty pos af none) [(t0, u0)] [(k0, e0)] [(dst, sv)] []) (s0 : sget sl t0 = some u0) (h0 : hget hp k0 = e0) (hk : G C Q0 (.l ops rest :: k) ⟨(dst, sv) :: sl, hp⟩) : G C Q0 (.l ops ((Oo dst op ty pos af none) :: rest) :: k) ⟨sl, hp⟩ := G.op1 h rfl ⟨s0, trivial⟩ ⟨h0, trivial⟩ hk
theorem g11 {t0 : Nat} {u0 : SV} {k0 : Nat} {e0 : Option HE} {j tg : Nat} {b : Bool} (h : OpL C (Oo dst op ty pos af (some (j, b))) [(t0, u0)] [(k0, e0)] [(dst, sv)] []) (hj : (ops[j]?).bind (·.dst) = some tg) (ht : sget sl tg = some (.one (bB b))) (s0 : sget sl t0 = some u0) (h0 : hget hp k0 = e0) (hk : G C Q0 (.l ops rest :: k) ⟨(dst, sv) :: sl, hp⟩) : G C Q0 (.l ops (Oo dst op ty pos af (some (j, b)) :: rest) :: k) ⟨sl, hp⟩ := G.opG1 h rfl hj ht ⟨s0, trivial⟩ ⟨h0, trivial⟩ hk
theorem p20 {t0 : Nat} {u0 : SV} {t1 : Nat} {u1 : SV} (h : OpL C (Oo dst op ty pos af none) [(t0, u0), (t1, u1)] [] [(dst, sv)] []) (s0 : sget sl t0 = some u0) (s1 : sget sl t1 = some u1) (hk : G C Q0 (.l ops rest :: k) ⟨(dst, sv) :: sl, hp⟩) : G C Q0 (.l ops ((Oo dst op ty pos af none) :: rest) :: k) ⟨sl, hp⟩ := G.op1 h rfl ⟨s0, s1, trivial⟩ trivial hk
theorem g20 {t0 : Nat} {u0 : SV} {t1 : Nat} {u1 : SV} {j tg : Nat} {b : Bool} (h : OpL C (Oo dst op ty pos af (some (j, b))) [(t0, u0), (t1, u1)] [] [(dst, sv)] []) (hj : (ops[j]?).bind (·.dst) = some tg) (ht : sget sl tg = some (.one (bB b))) (s0 : sget sl t0 = some u0) (s1 : sget sl t1 = some u1) (hk : G C Q0 (.l ops rest :: k) ⟨(dst, sv) :: sl, hp⟩) : G C Q0 (.l ops (Oo dst op ty pos af (some (j, b)) :: rest) :: k) ⟨sl, hp⟩ := G.opG1 h rfl hj ht ⟨s0, s1, trivial⟩ trivial hk
theorem g21 {t0 : Nat} {u0 : SV} {t1 : Nat} {u1 : SV} {k0 : Nat} {e0 : Option HE} {j tg : Nat} {b : Bool} (h : OpL C (Oo dst op ty pos af (some (j, b))) [(t0, u0), (t1, u1)] [(k0, e0)] [(dst, sv)] []) (hj : (ops[j]?).bind (·.dst) = some tg) (ht : sget sl tg = some (.one (bB b))) (s0 : sget sl t0 = some u0) (s1 : sget sl t1 = some u1) (h0 : hget hp k0 = e0) (hk : G C Q0 (.l ops rest :: k) ⟨(dst, sv) :: sl, hp⟩) : G C Q0 (.l ops (Oo dst op ty pos af (some (j, b)) :: rest) :: k) ⟨sl, hp⟩ := G.opG1 h rfl hj ht ⟨s0, s1, trivial⟩ ⟨h0, trivial⟩ hk
theorem p30 {t0 : Nat} {u0 : SV} {t1 : Nat} {u1 : SV} {t2 : Nat} {u2 : SV} (h : OpL C (Oo dst op ty pos af none) [(t0, u0), (t1, u1), (t2, u2)] [] [(dst, sv)] []) (s0 : sget sl t0 = some u0) (s1 : sget sl t1 = some u1) (s2 : sget sl t2 = some u2) (hk : G C Q0 (.l ops rest :: k) ⟨(dst, sv) :: sl, hp⟩) : G C Q0 (.l ops ((Oo dst op ty pos af none) :: rest) :: k) ⟨sl, hp⟩ := G.op1 h rfl ⟨s0, s1, s2, trivial⟩ trivial hk
theorem g30 {t0 : Nat} {u0 : SV} {t1 : Nat} {u1 : SV} {t2 : Nat} {u2 : SV} {j tg : Nat} {b : Bool} (h : OpL C (Oo dst op ty pos af (some (j, b))) [(t0, u0), (t1, u1), (t2, u2)] [] [(dst, sv)] []) (hj : (ops[j]?).bind (·.dst) = some tg) (ht : sget sl tg = some (.one (bB b))) (s0 : sget sl t0 = some u0) (s1 : sget sl t1 = some u1) (s2 : sget sl t2 = some u2) (hk : G C Q0 (.l ops rest :: k) ⟨(dst, sv) :: sl, hp⟩) : G C Q0 (.l ops (Oo dst op ty pos af (some (j, b)) :: rest) :: k) ⟨sl, hp⟩ := G.opG1 h rfl hj ht ⟨s0, s1, s2, trivial⟩ trivial hk
theorem q01 {k0 : Nat} {e0 : Option HE} {kk : Nat} {e : Option HE} (h : OpL C (Oo dst op ty pos af none) [] [(k0, e0)] [(dst, sv)] [(kk, e)]) (h0 : hget hp k0 = e0) (hk : G C Q0 (.l ops rest :: k) ⟨(dst, sv) :: sl, (kk, e) :: hp⟩) : G C Q0 (.l ops ((Oo dst op ty pos af none) :: rest) :: k) ⟨sl, hp⟩ := G.op2 h rfl trivial ⟨h0, trivial⟩ hk
theorem q11 {t0 : Nat} {u0 : SV} {k0 : Nat} {e0 : Option HE} {kk : Nat} {e : Option HE} (h : OpL C (Oo dst op ty pos af none) [(t0, u0)] [(k0, e0)] [(dst, sv)] [(kk, e)]) (s0 : sget sl t0 = some u0) (h0 : hget hp k0 = e0) (hk : G C Q0 (.l ops rest :: k) ⟨(dst, sv) :: sl, (kk, e) :: hp⟩) : G C Q0 (.l ops ((Oo dst op ty pos af none) :: rest) :: k) ⟨sl, hp⟩ := G.op2 h rfl ⟨s0, trivial⟩ ⟨h0, trivial⟩ hk
theorem q21 {t0 : Nat} {u0 : SV} {t1 : Nat} {u1 : SV} {k0 : Nat} {e0 : Option HE} {kk : Nat} {e : Option HE} (h : OpL C (Oo dst op ty pos af none) [(t0, u0), (t1, u1)] [(k0, e0)] [(dst, sv)] [(kk, e)]) (s0 : sget sl t0 = some u0) (s1 : sget sl t1 = some u1) (h0 : hget hp k0 = e0) (hk : G C Q0 (.l ops rest :: k) ⟨(dst, sv) :: sl, (kk, e) :: hp⟩) : G C Q0 (.l ops ((Oo dst op ty pos af none) :: rest) :: k) ⟨sl, hp⟩ := G.op2 h rfl ⟨s0, s1, trivial⟩ ⟨h0, trivial⟩ hk
theorem w11 {t0 : Nat} {u0 : SV} {k0 : Nat} {e0 : Option HE} {kk : Nat} {e : Option HE} (h : OpL C (⟨none, op, ty, pos, af, none⟩) [(t0, u0)] [(k0, e0)] [] [(kk, e)]) (s0 : sget sl t0 = some u0) (h0 : hget hp k0 = e0) (hk : G C Q0 (.l ops rest :: k) ⟨sl, (kk, e) :: hp⟩) : G C Q0 (.l ops (⟨none, op, ty, pos, af, none⟩ :: rest) :: k) ⟨sl, hp⟩ := G.op3 h rfl ⟨s0, trivial⟩ ⟨h0, trivial⟩ hk
theorem w21 {t0 : Nat} {u0 : SV} {t1 : Nat} {u1 : SV} {k0 : Nat} {e0 : Option HE} {kk : Nat} {e : Option HE} (h : OpL C (⟨none, op, ty, pos, af, none⟩) [(t0, u0), (t1, u1)] [(k0, e0)] [] [(kk, e)]) (s0 : sget sl t0 = some u0) (s1 : sget sl t1 = some u1) (h0 : hget hp k0 = e0) (hk : G C Q0 (.l ops rest :: k) ⟨sl, (kk, e) :: hp⟩) : G C Q0 (.l ops (⟨none, op, ty, pos, af, none⟩ :: rest) :: k) ⟨sl, hp⟩ := G.op3 h rfl ⟨s0, s1, trivial⟩ ⟨h0, trivial⟩ hk
theorem w22 {t0 : Nat} {u0 : SV} {t1 : Nat} {u1 : SV} {k0 : Nat} {e0 : Option HE} {k1 : Nat} {e1 : Option HE} {kk : Nat} {e : Option HE} (h : OpL C (⟨none, op, ty, pos, af, none⟩) [(t0, u0), (t1, u1)] [(k0, e0), (k1, e1)] [] [(kk, e)]) (s0 : sget sl t0 = some u0) (s1 : sget sl t1 = some u1) (h0 : hget hp k0 = e0) (h1 : hget hp k1 = e1) (hk : G C Q0 (.l ops rest :: k) ⟨sl, (kk, e) :: hp⟩) : G C Q0 (.l ops (⟨none, op, ty, pos, af, none⟩ :: rest) :: k) ⟨sl, hp⟩ := G.op3 h rfl ⟨s0, s1, trivial⟩ ⟨h0, h1, trivial⟩ hk
end
section
variable {P : Program} {nt : Nat} {C : Cx P nt} {dst : Nat} {ty : TypeId} {pos : String} {af : Array Edge} {gd : Option (Nat × Bool)} {x y : Operand} {R R1 R2 R3 : List (Nat × SV)}
theorem op_lenM {α : Type} {f : α → List DV} {xs : List α} {T E size : Nat} (hT : P.underlying T = some (.slice E)) (hx : Ev x (.g (.d (.sl size (xs.map f)))) R) (hd : Nat.blt dst nt = true) :
    OpL C (Oo dst (cLen x T) ty pos af gd) R [] [(dst, .one (bI .i64 (xs.length : Int)))] [] := OpL.cast (op_lenD hT hx hd) (by rw [List.length_map])
theorem op_lenN {α : Type} {f : α → List DV} {xs : List α} {T E T' size k : Nat} {ex : Bool} (hT : P.underlying T = some (.slice E)) (hx : Ev x (.own k (xs.map f)) R) (hd : Nat.blt dst nt = true) :
    OpL C (Oo dst (cLen x T) ty pos af gd) R [(k, some (.row T' size (xs.map f) ex))] [(dst, .one (bI .i64 (xs.length : Int)))] [] := by
  have h := op_lenO (C := C) (dst := dst) (ty := ty) (pos := pos) (af := af) (gd := gd) (T' := T') (size := size) (ex := ex) hT hx hd
  rwa [List.length_map] at h
theorem op_catM {T T' : TypeId} {s t u : ByteArray} (h : scat s t = some u) (hx : Ev x (bS s) R1) (hy : Ev y (bS t) R2) (hd : Nat.blt dst nt = true) : OpL C (Oo dst (.binOp .add T x y T') ty pos af gd) (R1 ++ R2) [] [(dst, .one (bS u))] [] :=
  OpL.cast (op_cat (scat_ok h).1 hx hy hd) (by rw [(scat_ok h).2])
theorem op_indexM {α : Type} {f : α → List DV} {xs : List α} {a : α} {T E : TypeId} {zz : Value} {size bytes : Nat} {k : IntKind} {i : Int} (h : idx xs i = some a) (hT : P.underlying T = some (.slice E)) (hI : Info P E zz size bytes)
    (hx : Ev x (.g (.d (.sl size (xs.map f)))) R1) (hy : Ev y (bI k i) R2) (hd : Nat.blt dst nt = true) :
    OpL C (Oo dst (.indexAddr T x y) ty pos af gd) (R1 ++ R2) [] [(dst, .one (.ep (f a)))] [] := op_index hT hI (idx_ok h).1 (idx_get h f) hx hy hd
theorem op_sliceM {T : Nat} {s t : ByteArray} {ox oy : Option Operand} {lo hi : Option Int} (hlo : EvO ox lo R2) (hhi : EvO oy hi R3) (h : ssub s (lo.getD 0) (hi.getD s.size) = some t) (hT : P.underlying T = some .string) (hx : Ev x (bS s) R1) (hd : Nat.blt dst nt = true) :
    OpL C (Oo dst (.slice T x ox oy none) ty pos af gd) (R1 ++ (R2 ++ R3)) [] [(dst, .one (bS t))] [] := OpL.cast (op_sliceS hT (ssub_ok h).1 (ssub_ok h).2.1 (ssub_ok h).2.2.1 hx hlo hhi hd) (congrArg (fun s => bS s) (ssub_ok h).2.2.2)
theorem run_boundsK {P : Program} {w : World} {b : Bool} {len cap : Nat} {kl kh : IntKind} {lo hi : Int} (h0 : 0 ≤ lo) (h1 : lo ≤ hi) (h2 : hi ≤ len) (h3 : len ≤ cap) :
    (Instr.sliceBounds b len cap (some (.int kl lo)) (some (.int kh hi)) none).run P w = .ok (lo.toNat, hi.toNat, cap) w := by
  have a1 : 0 ≤ hi ∧ hi ≤ (cap : Int) := ⟨by omega, by omega⟩
  have a2 : 0 ≤ lo ∧ lo ≤ ((hi.toNat : Nat) : Int) := ⟨h0, by omega⟩
  simp only [Instr.sliceBounds, Instr.sliceBound, asIntOf, Sem.run_bind, Sem.run_pure, Result.andThen_ok, a1, a2, and_self, if_true, Option.isSome_none, Bool.false_eq_true, if_false]
theorem op_sliceK {T : Nat} {s t : ByteArray} {ox oy : Operand} {kl kh : IntKind} {lo hi : Int} (hlo : Ev ox (bI kl lo) R2) (hhi : Ev oy (bI kh hi) R3) (h : ssub s lo hi = some t) (hT : P.underlying T = some .string) (hx : Ev x (bS s) R1) (hd : Nat.blt dst nt = true) :
    OpL C (Oo dst (.slice T x (some ox) (some oy) none) ty pos af gd) (R1 ++ (R2 ++ R3)) [] [(dst, .one (bS t))] [] :=
  opl_pure hd rfl fun sl hp β a w hs _ r => by
    have hu := BR.v_inv (hx.ok hs.app.1 r)
    have e1 := BR.v_inv (hlo.ok hs.app.2.app.1 r)
    have e2 := BR.v_inv (hhi.ok hs.app.2.app.2 r)
    obtain ⟨h0, h1, h2, rfl⟩ := ssub_ok h
    refine ⟨_, ?_, RD.v _ rfl⟩
    simp only [execOp, hu, e1, e2, Option.map_none, Option.map_some, Instr.sliceAt, Sem.run_bind, run_underlying hT, Result.andThen_ok, Instr.slice, Option.isSome_none, Bool.false_eq_true, if_false, run_boundsK h0 h1 h2 (Nat.le_refl _), Sem.run_pure]
/-- the contents behind a store -/
def setL : List BV → Nat → List BV → List BV
  | cs, _, [] => cs
  | [], _, _ => []
  | _ :: cs, 0, d :: ds => d :: setL cs 0 ds
  | c :: cs, n + 1, d :: ds => c :: setL cs n (d :: ds)
theorem setL_eq : ∀ (cs : List BV) (off : Nat) (l : List BV), off + l.length ≤ cs.length → splice cs off l = setL cs off l
  | cs, off, [], _ => by cases cs <;> simp [splice, setL]
  | [], off, d :: ds, h => by simp at h
  | c :: cs, 0, d :: ds, h => by
    have := setL_eq cs 0 ds (by simpa using h)
    simp only [splice, setL, List.take_zero, List.nil_append, Nat.zero_add, List.length_cons, List.drop_succ_cons] at this ⊢
    rw [List.cons_append, this]
  | c :: cs, n + 1, d :: ds, h => by
    have := setL_eq cs n (d :: ds) (by simp at h ⊢; omega)
    simp only [splice, setL, List.take_succ_cons, List.cons_append, List.length_cons, Nat.succ_add, List.drop_succ_cons] at this ⊢
    rw [← this]
/-- a whole array is stored -/
theorem op_storeW {S : TypeId} {k T n : Nat} {zz : Value} {bytes : Nat} {cs : List BV} {ds : List DV} (hI : Info P S zz n bytes) (hn : ds.length = n) (hc : cs.length = n) (hx : Ev x (.ptr k 0) R1) (hy : Ev y (.g (.agg ds)) R2) :
    OpL C ⟨none, .store S x y, ty, pos, af, gd⟩ (R1 ++ R2) [(k, some (.blk T cs))] [] [(k, some (.blk T (dat ds)))] := by
  subst hn
  refine op_storeA (bytes := bytes) (zz := zz) hI (by simp [hc]) ?_ hx hy
  have h1 : (dat ds).length = cs.length := by simp [hc]
  simp only [splice, List.take_zero, List.nil_append, Nat.zero_add]
  rw [h1, List.drop_length, List.append_nil]
theorem sgd {d : DV} : BV.sg (.g (.d d)) := trivial
theorem op_store1M {S : TypeId} {k off T : Nat} {zz : Value} {bytes : Nat} {cs : List BV} {c : BV} (hc : c.sg)
    (hI : Info P S zz 1 bytes) (hoff : Nat.blt off cs.length = true) (hx : Ev x (.ptr k off) R1) (hy : Ev y c R2) :
    OpL C ⟨none, .store S x y, ty, pos, af, gd⟩ (R1 ++ R2) [(k, some (.blk T cs))] [] [(k, some (.blk T (setL cs off [c])))] := op_store1 hc hI hoff (setL_eq _ _ _ (by have := hoff; simp at this ⊢; omega)) hx hy
theorem op_storeAM {S : TypeId} {k off T : Nat} {zz : Value} {bytes : Nat} {cs : List BV} {ds : List DV}
    (hI : Info P S zz ds.length bytes) (hoff : Nat.ble (off + ds.length) cs.length = true) (hx : Ev x (.ptr k off) R1) (hy : Ev y (.g (.agg ds)) R2) :
    OpL C ⟨none, .store S x y, ty, pos, af, gd⟩ (R1 ++ R2) [(k, some (.blk T cs))] [] [(k, some (.blk T (setL cs off (dat ds))))] := op_storeA hI hoff (setL_eq _ _ _ (by simpa using hoff)) hx hy
end
section
variable {P : Program} {nt : Nat} {C : Cx P nt} {Q0 : Exit → Act → World → Prop} {k : List KI}
end
end Go.Ab
