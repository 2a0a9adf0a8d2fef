/- The abstract machine: allocation, boxes, stores, lengths, parts, structs. Conditions: none but those that stand in each law. -/
import Derived.Test.YtfckeeglbhlnmaaAb4
namespace Go.Ab
open Go Go.RowKit

/-- a zero value's cell and its content -/
inductive ZC : Value → BV → Prop
  | v (x : Value) (h : x.oneCell' = true) : ZC x (dv x)
  | n (size : Nat) : ZC (.slice none 0 0) (.g (.d (.sl size [])))
  | x (v : Value) (h : v.oneCell' = true) : ZC v (.x v)

def ZL : List Value → List BV → Prop
  | [], [] => True
  | v :: vs, c :: cs => ZC v c ∧ ZL vs cs
  | _, _ => False

theorem ZC.br {P : Program} {nt : Nat} {C : Cx P nt} {hp : HL} {β : Nat → Option Nat} {w : World} {v : Value} {c : BV} (h : ZC v c) : BR C hp β w c v ∧ v.oneCell' = true := by
  cases h with
  | v x h => exact ⟨RD.v v h, h⟩
  | n size => exact ⟨RD.nil none 0 size (Nat.zero_le _), rfl⟩
  | x v h => exact ⟨rfl, h⟩

theorem ZL.br {P : Program} {nt : Nat} {C : Cx P nt} {hp : HL} {β : Nat → Option Nat} {w : World} : ∀ {vs : List Value} {cs : List BV}, ZL vs cs → vs.length = cs.length ∧ ∀ (j : Nat) (c : BV), cs[j]? = some c → ∃ u, vs[j]? = some u ∧ u.oneCell' = true ∧ BR C hp β w c u
  | [], [], _ => ⟨rfl, fun j c h => by simp at h⟩
  | v :: vs, c :: cs, ⟨h1, h2⟩ => by
    obtain ⟨h3, h4⟩ := ZL.br (C := C) (hp := hp) (β := β) (w := w) h2
    refine ⟨by simp [h3], fun j c' hj => ?_⟩
    cases j with
    | zero => simp at hj; subst hj; exact ⟨v, rfl, (h1.br (C := C) (hp := hp) (β := β) (w := w)).2, h1.br.1⟩
    | succ j => simpa using h4 j c' (by simpa using hj)

theorem below_alloc (w : World) (o : Obj) : Below w.heap.size w (w.alloc o) := ⟨rfl, rfl, rfl, by simp, fun k hk => heap_alloc_old w o hk⟩

section
variable {P : Program} {nt : Nat} {C : Cx P nt} {dst : Nat} {ty : TypeId} {pos : String} {af : Array Edge} {gd : Option (Nat × Bool)} {x y z : Operand} {R R1 R2 R3 : List (Nat × SV)}

/-- a new block of cells whose contents are known -/
theorem RelB.newBlk {sl : SL} {hp : HL} {β : Nat → Option Nat} {a : Act} {w : World} (r : RelB C ⟨sl, hp⟩ β a w) {k : Nat} (hk : hget hp k = none) {arr : Array Value} {T : Nat} {cs : List BV}
    (hl : arr.size = cs.length) (hc : ∀ (j : Nat) (c : BV), cs[j]? = some c → ∃ u, arr[j]? = some u ∧ u.oneCell' = true ∧ BR C hp β w c u) (hd : dst < nt) :
    Rel C ⟨(dst, .one (.ptr k 0)) :: sl, (k, some (.blk T cs)) :: hp⟩ (a.put (some dst) (.pointer (some ⟨w.heap.size, 0, none⟩))) (w.alloc (.cells arr T)) := by
  have h := (r.new (e := .blk T cs) (bo := some w.heap.size) hk (below_alloc w (.cells arr T)) (fun b hb => by cases hb; exact ⟨rfl, by simp⟩) fun hBR _ =>
    ⟨w.heap.size, arr, by simp [upd], heap_alloc_new w _, hl, fun j c hj => let ⟨u, h1, h2, h3⟩ := hc j c hj; ⟨u, h1, h2, hBR c u h3⟩⟩).1
  refine ⟨_, h.put (Below.refl _ _) hd ⟨⟨.blk T cs, by rw [hget_cons, if_pos rfl], rfl⟩, w.heap.size, by simp [upd], rfl⟩⟩

theorem op_alloc {T : TypeId} {zv : Value} {n bytes k : Nat} {cs : List BV} (hI : Info P T zv n bytes) (hz : ZL zv.cells.toList cs) (hd : Nat.blt dst nt = true) :
    OpL C (Oo dst (.alloc T) ty pos af gd) [] [(k, none)] [(dst, .one (.ptr k 0))] [(k, some (.blk T cs))] := by
  refine ⟨fun sl hp hs hh a w K Q ⟨β, r⟩ hK => ?_⟩
  have hb := ZL.br (C := C) (hp := hp) (β := β) (w := w) hz
  unfold Oper.wp
  have : (execOp a.eval (Oo dst (.alloc T) ty pos af gd)).run P w = .ok (.value (.pointer (some ⟨w.heap.size, 0, none⟩))) (w.alloc (.cells zv.cells T)) := by
    simp [execOp, Instr.alloc, hI.zero, newVar, newRow]
  rw [this]
  exact hK _ _ (r.newBlk hh.1 (by simpa using hb.1) (by simpa using hb.2) (by simpa using hd))

theorem op_box1 {T : TypeId} {k : Nat} {c : BV} (hc : c.sg) (hx : Ev x c R) (hd : Nat.blt dst nt = true) :
    OpL C (Oo dst (.box T x) ty pos af gd) R [(k, none)] [(dst, .one (.ptr k 0))] [(k, some (.blk T [c]))] := by
  refine ⟨fun sl hp hs hh a w K Q ⟨β, r⟩ hK => ?_⟩
  have hb := hx.ok hs r
  have h1 := BR.one hb hc
  unfold Oper.wp
  have : (execOp a.eval (Oo dst (.box T x) ty pos af gd)).run P w = .ok (.value (.pointer (some ⟨w.heap.size, 0, none⟩))) (w.alloc (.cells #[a.eval x] T)) := by
    have : (a.eval x).cells = #[a.eval x] := by generalize a.eval x = u at h1; cases u <;> simp_all [Value.cells, Value.oneCell']
    simp [execOp, Instr.box, newVar, newRow, this]
  rw [this]
  refine hK _ _ (r.newBlk hh.1 (by simp) (fun j c' hj => ?_) (by simpa using hd))
  cases j with
  | zero => simp at hj; subst hj; exact ⟨_, rfl, h1, hb⟩
  | succ j => simp at hj

theorem op_boxA {T : TypeId} {k : Nat} {ds : List DV} (hx : Ev x (.g (.agg ds)) R) (hd : Nat.blt dst nt = true) :
    OpL C (Oo dst (.box T x) ty pos af gd) R [(k, none)] [(dst, .one (.ptr k 0))] [(k, some (.blk T (dat ds)))] := by
  refine ⟨fun sl hp hs hh a w K Q ⟨β, r⟩ hK => ?_⟩
  obtain ⟨us, hu, hl, hc⟩ := hx.ok hs r
  unfold Oper.wp
  have : (execOp a.eval (Oo dst (.box T x) ty pos af gd)).run P w = .ok (.value (.pointer (some ⟨w.heap.size, 0, none⟩))) (w.alloc (.cells us T)) := by
    simp [execOp, Instr.box, newVar, newRow, hu, Value.cells]
  rw [this]
  refine hK _ _ (r.newBlk hh.1 (by simp [hl, dat]) (fun j c' hj => ?_) (by simpa using hd))
  simp only [dat, List.getElem?_map, Option.map_eq_some_iff] at hj
  obtain ⟨d, hd, rfl⟩ := hj
  obtain ⟨u, h1, h2⟩ := hc j d hd
  exact ⟨u, h1, h2.one, h2⟩

/-- contents of the same block after a store at 'off' -/
def splice (cs : List BV) (off : Nat) (l : List BV) : List BV := cs.take off ++ l ++ cs.drop (off + l.length)

theorem splice_get {α : Type} (cs : List α) (off : Nat) (l : List α) (h : off + l.length ≤ cs.length) (j : Nat) :
    (cs.take off ++ l ++ cs.drop (off + l.length))[j]? = if off ≤ j ∧ j < off + l.length then l[j - off]? else cs[j]? := by
  rw [List.append_assoc, List.getElem?_append]
  have h1 : (cs.take off).length = off := by rw [List.length_take]; omega
  rw [h1]
  split
  · rw [List.getElem?_take, if_pos (by assumption), if_neg (by omega)]
  · rw [List.getElem?_append]
    split
    · rw [if_pos (by omega)]
    · rw [List.getElem?_drop, if_neg (by omega)]
      congr 1
      omega

theorem op_storeG {S : TypeId} {k off T : Nat} {cs l : List BV} {vs : Act → List Value} {pos : String} {ty : TypeId} {dst0 : Option Nat}
    (hoff : off + l.length ≤ cs.length)
    (hx : Ev x (.ptr k off) R1)
    (hrun : ∀ (sl : SL) (hp : HL) β a w, HasS sl (R1 ++ R2) → RelB C ⟨sl, hp⟩ β a w → (vs a).length = l.length ∧
      (∀ ad : Addr, (Instr.storeAt S (.pointer (some ad)) (a.eval y)).run P w = (storeCells ad (vs a)).run P w) ∧
      ∀ (j : Nat) (c : BV), l[j]? = some c → ∃ u, (vs a)[j]? = some u ∧ u.oneCell' = true ∧ BR C hp β w c u)
    (hd0 : dst0 = none) :
    OpL C ⟨dst0, .store S x y, ty, pos, af, gd⟩ (R1 ++ R2) [(k, some (.blk T cs))] [] [(k, some (.blk T (splice cs off l)))] := by
  refine ⟨fun sl hp hs hh a w K Q ⟨β, r⟩ hK => ?_⟩
  obtain ⟨_, b, hb, hu⟩ := hx.ok hs.app.1 r
  obtain ⟨hvl, hst, hvc⟩ := hrun sl hp β a w hs r
  obtain ⟨b', arr, hb', hheap, hsz, hcell⟩ := r.hp k _ hh.1
  rw [hb] at hb'
  cases hb'
  have hone : ∀ v, v ∈ vs a → v.oneCell' = true := by
    intro v hv
    obtain ⟨j, hj, rfl⟩ := List.getElem_of_mem hv
    obtain ⟨u, h1, h2, _⟩ := hvc j l[j] (by simp)
    simp [List.getElem?_eq_getElem hj] at h1
    rw [h1]; exact h2
  have hsc := run_storeCells_at P b off T (vs a) 0 arr w hheap (by omega) hone
  simp only [Nat.add_zero] at hsc
  generalize hw1 : w.setRow b (List.take off arr.toList ++ vs a ++ List.drop (off + (vs a).length) arr.toList).toArray = w1 at hsc
  have hnew : w1.heap[b]? = some (.cells (List.take off arr.toList ++ vs a ++ List.drop (off + (vs a).length) arr.toList).toArray T) := by
    rw [← hw1]; exact setRow_heap w b arr _ T _ hheap
  have hoth : ∀ i, i ≠ b → w1.heap[i]? = w.heap[i]? := fun i hi => by rw [← hw1]; exact setRow_other w b i _ hi
  have hsize : w1.heap.size = w.heap.size := by rw [← hw1]; simp [World.setRow]
  unfold Oper.wp
  have : (execOp a.eval ⟨dst0, .store S x y, ty, pos, af, gd⟩).run P w = .ok .skip w1 := by
    simp only [execOp, hu, Sem.run_bind, hst, hsc, Result.andThen_ok, Sem.run_pure]
  rw [this]
  subst hd0
  refine hK _ _ ⟨upd β k (β k), ?_⟩
  have hlen : (splice cs off l).length = cs.length := by
    simp only [splice, List.length_append, List.length_take, List.length_drop]
    omega
  refine (r.chg (e := .blk T (splice cs off l)) (bo := β k) hh.1 (by rw [← hw1]; rfl) (by rw [← hw1]; rfl) (by rw [← hw1]; rfl) (by omega) (fun i _ hi => hoth i (fun c => hi (by rw [c, hb]))) (fun _ _ _ _ _ c => absurd trivial c)
    (.inl ⟨rfl, fun _ h => h⟩) ⟨rfl, fun _ => rfl⟩ (fun es0 u h => ?_) (fun hBR _ => ?_)).1
  · obtain ⟨_, _, _, _, h1, _⟩ := h
    rw [hh.1] at h1; cases h1
  · refine ⟨b, _, by simp [upd, hb], hnew, ?_, fun j c hj => ?_⟩
    · rw [hlen]; simp only [List.size_toArray, List.length_append, List.length_take, List.length_drop, Array.length_toList]; omega
    · rw [splice, splice_get cs off l hoff] at hj
      have harr : (List.take off arr.toList ++ vs a ++ List.drop (off + (vs a).length) arr.toList).toArray[j]? = if off ≤ j ∧ j < off + l.length then (vs a)[j - off]? else arr[j]? := by
        rw [List.getElem?_toArray, splice_get arr.toList off (vs a) (by simp; omega), hvl]; simp
      rw [harr]
      split at hj
      · rename_i hin
        rw [if_pos hin]
        obtain ⟨u, h1, h2, h3⟩ := hvc _ _ hj
        exact ⟨u, h1, h2, hBR c u h3⟩
      · rename_i hin
        rw [if_neg hin]
        obtain ⟨u, h1, h2, h3⟩ := hcell _ _ hj
        exact ⟨u, h1, h2, hBR c u h3⟩

theorem op_store1 {S : TypeId} {k off T : Nat} {zz : Value} {bytes : Nat} {cs cs' : List BV} {c : BV} (hc : c.sg)
    (hI : Info P S zz 1 bytes) (hoff : Nat.blt off cs.length = true) (he : splice cs off [c] = cs') (hx : Ev x (.ptr k off) R1) (hy : Ev y c R2) :
    OpL C ⟨none, .store S x y, ty, pos, af, gd⟩ (R1 ++ R2) [(k, some (.blk T cs))] [] [(k, some (.blk T cs'))] := by
  subst he
  refine op_storeG (vs := fun a => [a.eval y]) (by simp at hoff ⊢; omega) hx (fun sl hp β a w hs r => ?_) rfl
  have h1 := hy.ok hs.app.2 r
  have h2 := BR.one h1 hc
  have h3 : (a.eval y).cells = #[a.eval y] := by generalize a.eval y = u at h2; cases u <;> simp_all [Value.cells, Value.oneCell']
  refine ⟨rfl, fun ad => ?_, fun j c' hj => ?_⟩
  · simp [Instr.storeAt, Instr.sureAddr, storeVar, h3, hI.sizeOf]
  · cases j with
    | zero => simp at hj; subst hj; exact ⟨_, rfl, h2, h1⟩
    | succ j => simp at hj

theorem op_storeA {S : TypeId} {k off T : Nat} {zz : Value} {bytes : Nat} {cs cs' : List BV} {ds : List DV}
    (hI : Info P S zz ds.length bytes) (hoff : Nat.ble (off + ds.length) cs.length = true) (he : splice cs off (dat ds) = cs') (hx : Ev x (.ptr k off) R1) (hy : Ev y (.g (.agg ds)) R2) :
    OpL C ⟨none, .store S x y, ty, pos, af, gd⟩ (R1 ++ R2) [(k, some (.blk T cs))] [] [(k, some (.blk T cs'))] := by
  subst he
  refine op_storeG (vs := fun a => (a.eval y).cells.toList) (by simp [dat] at hoff ⊢; omega) hx (fun sl hp β a w hs r => ?_) rfl
  obtain ⟨us, hu, hl, hc⟩ := hy.ok hs.app.2 r
  refine ⟨by simp [hu, Value.cells, hl, dat], fun ad => ?_, fun j c' hj => ?_⟩
  · simp [Instr.storeAt, Instr.sureAddr, storeVar, hu, Value.cells, hl, hI.sizeOf]
  · simp only [dat, List.getElem?_map, Option.map_eq_some_iff] at hj
    obtain ⟨d, hd, rfl⟩ := hj
    obtain ⟨u, h1, h2⟩ := hc j d hd
    exact ⟨u, by simp [hu, Value.cells, h1], h2.one, h2⟩

abbrev cLen (arg : Operand) (T : TypeId) : Op := .call { callee := .builtin .len, args := #[arg], argTypes := #[T] }

theorem op_lenD {T E size : Nat} {es : List (List DV)} (hT : P.underlying T = some (.slice E)) (hx : Ev x (.g (.d (.sl size es))) R) (hd : Nat.blt dst nt = true) :
    OpL C (Oo dst (cLen x T) ty pos af gd) R [] [(dst, .one (bI .i64 (es.length : Int)))] [] :=
  opl_pure hd rfl fun sl hp β a w hs _ r => by
    have h1 := hx.ok hs r
    generalize hxx : a.eval x = u at h1
    cases h1
    exact ⟨.int .i64 es.length, by simp [execOp, resolve, invoke, builtin, Builtin.len_, run_underlying hT, hxx, goInt], RD.v _ rfl⟩

theorem op_lenS {T : Nat} {s : ByteArray} (hT : P.underlying T = some .string) (hx : Ev x (bS s) R) (hd : Nat.blt dst nt = true) :
    OpL C (Oo dst (cLen x T) ty pos af gd) R [] [(dst, .one (bI .i64 (s.size : Int)))] [] :=
  opl_pure hd rfl fun sl hp β a w hs _ r => by
    have h1 := BR.v_inv (hx.ok hs r)
    exact ⟨.int .i64 s.size, by simp [execOp, resolve, invoke, builtin, Builtin.len_, run_underlying hT, h1, goInt], RD.v _ rfl⟩

theorem op_lenO {T E T' size k : Nat} {es : List (List DV)} {ex : Bool} (hT : P.underlying T = some (.slice E)) (hx : Ev x (.own k es) R) (hd : Nat.blt dst nt = true) :
    OpL C (Oo dst (cLen x T) ty pos af gd) R [(k, some (.row T' size es ex))] [(dst, .one (bI .i64 (es.length : Int)))] [] :=
  opl_pure hd rfl fun sl hp β a w hs hh r => by
    obtain ⟨_, _, es1, _, he, _, h1⟩ := hx.ok hs r
    rw [hh.1] at he
    cases he
    rcases h1 rfl with ⟨_, rfl, ad, hu⟩ | ⟨b, cap, cur, _, hu, _⟩
    · exact ⟨.int .i64 0, by simp [execOp, resolve, invoke, builtin, Builtin.len_, run_underlying hT, hu, goInt], RD.v _ rfl⟩
    · exact ⟨.int .i64 es.length, by simp [execOp, resolve, invoke, builtin, Builtin.len_, run_underlying hT, hu, goInt], RD.v _ rfl⟩

theorem op_extract {t i : Nat} {l : List BV} {c : BV} (hi : l[i]? = some c) (hd : Nat.blt dst nt = true) :
    OpL C (Oo dst (.extract (.tmp t) i) ty pos af gd) [(t, .tup l)] [] [(dst, .one c)] [] :=
  opl_pure hd rfl fun sl hp β a w hs _ r => by
    obtain ⟨us, hu, _, h3⟩ := Ev.tup hs.1 r
    obtain ⟨u, h4, h5⟩ := h3 i c hi
    exact ⟨u, by simp [execOp, Instr.extract, hu, h4], h5⟩

theorem op_makeFunc0 {f : Nat} (hd : Nat.blt dst nt = true) : OpL C (Oo dst (.makeFunc (.func f) #[] #[]) ty pos af gd) [] [] [(dst, .one (.clo f []))] [] :=
  opl_pure hd rfl fun sl hp β a w hs _ r => ⟨.func (.func f) #[] #[], by simp [execOp, Instr.makeFunc], [], rfl, rfl, fun i k h => by simp at h⟩

theorem op_makeFunc1 {f k1 : Nat} (hx : Ev x (.ptr k1 0) R) (hd : Nat.blt dst nt = true) : OpL C (Oo dst (.makeFunc (.func f) #[] #[x]) ty pos af gd) R [] [(dst, .one (.clo f [k1]))] [] :=
  opl_pure hd rfl fun sl hp β a w hs _ r => by
    obtain ⟨h1, b, hb, hu⟩ := hx.ok hs r
    refine ⟨.func (.func f) #[] #[a.eval x], by simp [execOp, Instr.makeFunc], [a.eval x], rfl, rfl, fun i k h => ?_⟩
    cases i with
    | zero => simp at h; subst h; exact ⟨h1, b, hb, by simp [hu]⟩
    | succ i => simp at h

theorem op_makeFunc2 {f k1 k2 : Nat} (hx : Ev x (.ptr k1 0) R1) (hy : Ev y (.ptr k2 0) R2) (hd : Nat.blt dst nt = true) : OpL C (Oo dst (.makeFunc (.func f) #[] #[x, y]) ty pos af gd) (R1 ++ R2) [] [(dst, .one (.clo f [k1, k2]))] [] :=
  opl_pure hd rfl fun sl hp β a w hs _ r => by
    obtain ⟨h1, b, hb, hu⟩ := hx.ok hs.app.1 r
    obtain ⟨h1', b', hb', hu'⟩ := hy.ok hs.app.2 r
    refine ⟨.func (.func f) #[] #[a.eval x, a.eval y], by simp [execOp, Instr.makeFunc], [a.eval x, a.eval y], rfl, rfl, fun i k h => ?_⟩
    match i with
    | 0 => simp at h; subst h; exact ⟨h1, b, hb, by simp [hu]⟩
    | 1 => simp at h; subst h; exact ⟨h1', b', hb', by simp [hu']⟩
    | i + 2 => simp at h

theorem op_makeFunc3 {f k1 k2 k3 : Nat} (hx : Ev x (.ptr k1 0) R1) (hy : Ev y (.ptr k2 0) R2) (hz : Ev z (.ptr k3 0) R3) (hd : Nat.blt dst nt = true) :
    OpL C (Oo dst (.makeFunc (.func f) #[] #[x, y, z]) ty pos af gd) (R1 ++ (R2 ++ R3)) [] [(dst, .one (.clo f [k1, k2, k3]))] [] :=
  opl_pure hd rfl fun sl hp β a w hs _ r => by
    obtain ⟨h1, b, hb, hu⟩ := hx.ok hs.app.1 r
    obtain ⟨h1', b', hb', hu'⟩ := hy.ok hs.app.2.app.1 r
    obtain ⟨h1'', b'', hb'', hu''⟩ := hz.ok hs.app.2.app.2 r
    refine ⟨.func (.func f) #[] #[a.eval x, a.eval y, a.eval z], by simp [execOp, Instr.makeFunc], [a.eval x, a.eval y, a.eval z], rfl, rfl, fun i k h => ?_⟩
    match i with
    | 0 => simp at h; subst h; exact ⟨h1, b, hb, by simp [hu]⟩
    | 1 => simp at h; subst h; exact ⟨h1', b', hb', by simp [hu']⟩
    | 2 => simp at h; subst h; exact ⟨h1'', b'', hb'', by simp [hu'']⟩
    | i + 3 => simp at h

end
end Go.Ab
