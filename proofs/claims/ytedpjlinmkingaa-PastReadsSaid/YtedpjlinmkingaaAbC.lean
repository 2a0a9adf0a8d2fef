import Derived.Test.YtedpjlinmkingaaAbB
import Derived.Lib.ConvBytes
/- The abstract machine: bytes of a text in a block of the call's own, read and written in place. Conditions: none but those that stand in each law. -/
namespace Go.Ab
open Go Go.RowKit Go.Lib

/-- a block that holds the bytes s at its beginning -/
def bytH (T : TypeId) (s : ByteArray) (o : Obj) : Prop := ∃ cur fz, o = .cells cur T fz ∧ cur.size ≤ fz.1 ∧ s.size ≤ cur.size ∧ ∀ (i : Nat) (h : i < s.size), cur[i]? = some (.int .u8 ((s[i]'h).toNat : Int))
/-- the slice of its first n bytes -/
def bytV (n : Nat) (b : Nat) (u : Value) : Prop := ∃ cap, u = .slice (some ⟨b, 0, none⟩) n cap ∧ n ≤ cap ∧ cap ≤ maxLen
/-- one byte is another one -/
def bset (s : ByteArray) (i v : Int) : ByteArray := ⟨s.data.setIfInBounds i.toNat (UInt8.ofNat v.toNat)⟩
theorem bset_size (s : ByteArray) (i v : Int) : (bset s i v).size = s.size := Array.size_setIfInBounds

theorem bytI {i : Int} {n : Nat} {s : ByteArray} (h : 0 ≤ i ∧ i < (n : Int)) (hn : n = s.size) : 0 ≤ i ∧ i < (s.size : Int) := by subst hn; exact h

section
variable {P : Program} {nt : Nat} {C : Cx P nt} {dst : Nat} {ty : TypeId} {pos : String} {af : Array Edge} {gd : Option (Nat × Bool)} {x y : Operand} {R R1 R2 : List (Nat × SV)}

theorem bytH.cell {w : World} {b : Nat} {o : Obj} {T : TypeId} {s : ByteArray} (ho : w.heap[b]? = some o) (h : bytH T s o) {i : Nat} (hi : i < s.size) : w.cell? ⟨b, i, none⟩ = some (.int .u8 ((s[i]'hi).toNat : Int)) := by
  obtain ⟨cur, fz, rfl, -, -, hc⟩ := h
  simp only [World.cell?, ho]
  exact hc i hi

theorem op_toBytes {S T E : TypeId} {s : ByteArray} {k : Nat} (hS : P.underlying S = some .string) (hT : P.underlying T = some (.slice E)) (hE : P.underlying E = some (.int .u8)) (hs : s.size ≤ 1048576) (hx : Ev x (bS s) R) (hd : Nat.blt dst nt = true) (hk0 : Nat.blt 0 k = true := by rfl) :
    OpL C (Oo dst (.convert S T x) ty pos af gd) R [(k, none)] [(dst, .one (.pv k (bytV s.size)))] [(k, some (.pr (bytH E s)))] := by
  refine ⟨fun sl hp hs' hh a w K Q ⟨β, r⟩ hK => ?_⟩
  have hv := BR.v_inv (hx.ok hs' r)
  have hml : maxLen = 9223372036854775807 := rfl
  unfold Oper.wp
  have : (execOp a.eval (Oo dst (.convert S T x) ty pos af gd)).run P w = .ok (.value (.slice (some ⟨w.heap.size, 0, none⟩) s.size (grownCap w s.size 0 E))) (bytesWorld w E s) := by
    have h1 := Go.Lib.run_convert_string_bytes (P := P) w S T E s hS hT hE
    simp only [execOp, hv, Sem.run_bind, h1, Result.andThen_ok, Sem.run_pure]
  rw [this]
  have hg := grownCap_ge w s.size 0 E
  have hm := grownCap_le_maxLen w s.size 0 E (by omega)
  have hb : Below w.heap.size w (bytesWorld w E s) := ⟨rfl, rfl, rfl, by rw [bytesWorld_size]; omega, fun j hj => bytesWorld_at_old w E s j hj⟩
  have hcs : (bytesCells w E s).size = s.size + (grownCap w s.size 0 E - s.size) := by unfold bytesCells; rw [Array.size_append, Array.size_map, Array.size_replicate]; rfl
  have h := (r.new (e := .pr (bytH E s)) (bo := some w.heap.size) hh.1 hk0 hb (fun b hb => by cases hb; exact ⟨rfl, by rw [bytesWorld_size]; omega⟩) fun _ _ =>
    ⟨w.heap.size, _, by simp [upd], bytesWorld_at_new w E s, _, _, rfl, Nat.le_refl _, by omega, fun i hi => by
      have h1 : i < (s.data.map fun b => Value.int .u8 b.toNat).size := by rw [Array.size_map]; exact hi
      rw [bytesCells, Array.getElem?_append_left h1, Array.getElem?_eq_getElem h1]
      simp [ByteArray.getElem_eq_getElem_data]⟩).1
  exact hK _ _ ⟨_, h.put (Below.refl _ _) (by simpa using hd) ⟨⟨.pr (bytH E s), by rw [hget_cons, if_pos rfl], rfl⟩, w.heap.size, by simp [upd], ⟨_, rfl, hg, hm⟩, rfl⟩⟩

theorem op_lenB {T E : TypeId} {n k : Nat} (hT : P.underlying T = some (.slice E)) (hx : Ev x (.pv k (bytV n)) R) (hd : Nat.blt dst nt = true) :
    OpL C (Oo dst (cLen x T) ty pos af gd) R [] [(dst, .one (bI .i64 (n : Int)))] [] :=
  opl_pure hd rfl fun sl hp β a w hs _ r => by
    obtain ⟨_, b, _, ⟨cap, hu, _, _⟩, _⟩ := hx.ok hs r
    exact ⟨.int .i64 n, by simp [execOp, resolve, invoke, builtin, Builtin.len_, run_underlying hT, hu, goInt], RD.v _ rfl⟩

theorem op_indexB {T E : TypeId} {zz : Value} {bytes n k : Nat} {kd : IntKind} {i : Int} (hT : P.underlying T = some (.slice E)) (hI : Info P E zz 1 bytes) (hi : 0 ≤ i ∧ i < (n : Int)) (hx : Ev x (.pv k (bytV n)) R1) (hy : Ev y (bI kd i) R2) (hd : Nat.blt dst nt = true) :
    OpL C (Oo dst (.indexAddr T x y) ty pos af gd) (R1 ++ R2) [] [(dst, .one (.ptr k i.toNat))] [] :=
  opl_pure hd rfl fun sl hp β a w hs _ r => by
    obtain ⟨he, b, hb, ⟨cap, hu, _, _⟩, _⟩ := hx.ok hs.app.1 r
    have h2 := BR.v_inv (hy.ok hs.app.2 r)
    refine ⟨.pointer (some ⟨b, i.toNat * 1, none⟩), ?_, he, b, hb, by rw [Nat.mul_one]⟩
    simp only [execOp, hu, h2, Sem.run_bind, run_indexRow hT hI hi.1 hi.2, Result.andThen_ok, Sem.run_pure]

theorem op_loadB {t : TypeId} {d : TypeDesc} {T : TypeId} {k : Nat} {i : Int} {s : ByteArray} (hU : P.underlying t = some d) (hA : aggD d = false) (h0 : 0 ≤ i ∧ i < (s.size : Int)) (hx : Ev x (.ptr k i.toNat) R) (hd : Nat.blt dst nt = true) :
    OpL C (Oo dst (.load t x) ty pos af gd) R [(k, some (.pr (bytH T s)))] [(dst, .one (bI .u8 ((s.data.getD i.toNat 0).toNat : Int)))] [] :=
  opl_pure hd rfl fun sl hp β a w hs hh r => by
    obtain ⟨_, b, hb, hu⟩ := hx.ok hs r
    obtain ⟨b', o, hb', ho, hΦ⟩ := r.hp k _ hh.1
    rw [hb] at hb'; cases hb'
    have hi : i.toNat < s.size := by omega
    have hc := bytH.cell ho hΦ hi
    have hi2 : i.toNat < s.data.size := hi
    have e : ((s[i.toNat]'hi).toNat : Int) = ((s.data.getD i.toNat 0).toNat : Int) := by
      rw [ByteArray.getElem_eq_getElem_data, Array.getD_eq_getD_getElem?, Array.getElem?_eq_getElem hi2]; rfl
    rw [e] at hc
    exact ⟨_, by simp [execOp, hu, Instr.loadAt, Instr.sureAddr, loadVar, run_isAgg hU, hA, hc], RD.v _ rfl⟩

theorem op_storeB {E T : TypeId} {zz : Value} {bytes k : Nat} {s : ByteArray} {i v : Int} (hI : Info P E zz 1 bytes) (h0 : 0 ≤ i ∧ i < (s.size : Int)) (hv : 0 ≤ v ∧ v < 256) (hx : Ev x (.ptr k i.toNat) R1) (hy : Ev y (bI .u8 v) R2) :
    OpL C ⟨none, .store E x y, ty, pos, af, gd⟩ (R1 ++ R2) [(k, some (.pr (bytH T s)))] [] [(k, some (.pr (bytH T (bset s i v))))] := by
  refine ⟨fun sl hp hs hh a w K Q ⟨β, r⟩ hK => ?_⟩
  obtain ⟨_, b, hb, hu⟩ := hx.ok hs.app.1 r
  have h2 := BR.v_inv (hy.ok hs.app.2 r)
  obtain ⟨b', o, hb', ho, cur, fz, rfl, hf, hsz, hc⟩ := r.hp k _ hh.1
  rw [hb] at hb'; cases hb'
  have hi : i.toNat < s.size := by omega
  have hlt : i.toNat < cur.size := by omega
  have hcell : w.cell? ⟨b, i.toNat, none⟩ = some cur[i.toNat] := by simp [World.cell?, ho, hlt]
  have hfz : w.frozen? ⟨b, i.toNat, none⟩ = false := by
    obtain ⟨lo, hi'⟩ := fz
    simp only [World.frozen?, ho]
    simp only at hf
    have : ¬ lo ≤ i.toNat := by omega
    simp [this]
  generalize hw1 : w.setCell ⟨b, i.toNat, none⟩ (.int .u8 v) = w1
  have hbl : b < w.heap.size := (Array.getElem?_eq_some_iff.1 ho).1
  have hnew : w1.heap[b]? = some (.cells (cur.setIfInBounds i.toNat (.int .u8 v)) T fz) := by
    rw [← hw1]
    simp [World.setCell, Array.getElem?_modify, ho]
  have hoth : ∀ j, j ≠ b → w1.heap[j]? = w.heap[j]? := fun j hj => by
    rw [← hw1]
    simp [World.setCell, Array.getElem?_modify, Ne.symm hj]
  have hsize : w1.heap.size = w.heap.size := by rw [← hw1]; simp [World.setCell]
  unfold Oper.wp
  have : (execOp a.eval ⟨none, .store E x y, ty, pos, af, gd⟩).run P w = .ok .skip w1 := by
    have hst : (store ⟨b, i.toNat, none⟩ (.int .u8 v)).run P w = .ok () w1 := by rw [run_store P w _ _ _ rfl, hcell]; simp [hfz, hw1]
    simp [execOp, hu, h2, Instr.storeAt, Instr.sureAddr, storeVar, Value.cells, hI.sizeOf, storeCells, Addr.add_lit, hst]
  rw [this]
  refine hK _ _ ⟨upd β k (β k), ?_⟩
  refine (r.chg (e := .pr (bytH T (bset s i v))) (bo := β k) (w1 := w1) hh.1 (by rw [← hw1]; rfl) (by rw [← hw1]; rfl) (by rw [← hw1]; rfl) (by omega) (fun j _ hj => hoth j (fun c => hj (by rw [c, hb]))) (fun _ _ _ _ _ c => absurd trivial c)
    (.inl ⟨rfl, fun _ h => h⟩) ⟨rfl, fun _ => rfl⟩ (fun es0 u h => by obtain ⟨_, _, _, _, h1, _⟩ := h; rw [hh.1] at h1; cases h1) (fun _ _ => ⟨b, _, by simp [upd, hb], hnew, _, fz, rfl, by simpa using hf, by rw [bset_size]; simpa using hsz, fun j hj => ?_⟩)).1
  rw [bset_size] at hj
  have hj2 : j < s.data.size := hj
  have hcj := hc j hj
  rw [Array.getElem?_setIfInBounds]
  by_cases c : i.toNat = j
  · subst c
    rw [if_pos rfl, if_pos hlt]
    have h3 : ((bset s i v)[i.toNat]'(by rw [bset_size]; exact hj)) = UInt8.ofNat v.toNat := by
      rw [ByteArray.getElem_eq_getElem_data]
      exact Array.getElem_setIfInBounds_self _
    rw [h3, UInt8.toNat_ofNat']
    congr 2
    omega
  · rw [if_neg c, hcj]
    have h3 : ((bset s i v)[j]'(by rw [bset_size]; exact hj)) = s[j]'hj := by
      rw [ByteArray.getElem_eq_getElem_data, ByteArray.getElem_eq_getElem_data]
      exact Array.getElem_setIfInBounds_ne _ c
    rw [h3]

theorem op_fromBytes {S E T T' : TypeId} {k n : Nat} {s : ByteArray} (hS : P.underlying S = some (.slice E)) (hE : P.underlying E = some (.int .u8)) (hT : P.underlying T = some .string) (hn : n = s.size) (hx : Ev x (.pv k (bytV n)) R) (hd : Nat.blt dst nt = true) :
    OpL C (Oo dst (.convert S T x) ty pos af gd) R [(k, some (.pr (bytH T' s)))] [(dst, .one (bS s))] [] :=
  opl_pure hd rfl fun sl hp β a w hs hh r => by
    obtain ⟨_, b, hb, ⟨cap, hu, _, _⟩, _⟩ := hx.ok hs r
    obtain ⟨b', o, hb', ho, hΦ⟩ := r.hp k _ hh.1
    rw [hb] at hb'; cases hb'
    subst hn
    refine ⟨.string s, ?_, RD.v _ rfl⟩
    have loop : ∀ (f : Value → ByteArray → Sem (ForInStep ByteArray)) (_ : ∀ n s, f (.int .u8 n) s = pure (.yield (s.push (UInt8.ofNat n.toNat)))) (l : List Int) (acc : ByteArray),
        (forIn (l.map (Value.int .u8)).toArray acc f).run P w = .ok ⟨acc.data ++ (l.map fun n => UInt8.ofNat n.toNat).toArray⟩ w := by
      intro f hf l
      induction l with
      | nil => intro acc; simp
      | cons n l ih =>
        intro acc
        have := ih (acc.push (UInt8.ofNat n.toNat))
        simp only [List.map_cons, List.forIn_toArray, List.forIn_cons, Sem.run_bind, Sem.run_pure, Result.andThen_ok, hf] at this ⊢
        rw [this]
        simp [ByteArray.push]
    have hload : (loadCells ⟨b, 0, none⟩ s.size).run P w = .ok (s.data.toList.map fun c => Value.int .u8 (c.toNat : Int)).toArray w := by
      have hnv : ∀ j, j < s.size → w.cell? ((⟨b, 0, none⟩ : Addr).add j) = some ((s.data.toList.map fun c => Value.int .u8 (c.toNat : Int)).getD j undef) := fun j hj => by
        rw [Addr.add_lit, Nat.zero_add, bytH.cell ho hΦ hj]
        have hj2 : j < s.data.size := hj
        simp [List.getD_eq_getElem?_getD, Array.getElem?_eq_getElem hj2, ByteArray.getElem_eq_getElem_data]
      rw [run_loadCells (P := P) w _ _ _ hnv]
      congr 2
      refine List.ext_getElem? fun j => ?_
      by_cases cj : j < s.size
      · simp [List.getD_eq_getElem?_getD, cj]
      · simp [cj]
    have hm : (s.data.toList.map fun c => Value.int .u8 (c.toNat : Int)) = (s.data.toList.map fun c => (c.toNat : Int)).map (Value.int .u8) := by simp
    rw [hm] at hload
    simp only [execOp, hu, convert, run_underlying hS, run_underlying hT, run_underlying hE, Conv.bytesToString, Sem.run_bind, Result.andThen_ok, hload]
    rw [loop _ (fun _ _ => rfl) _ ByteArray.empty]
    simp only [Result.andThen_ok, Sem.run_pure]
    have : (ByteArray.empty.data ++ ((s.data.toList.map fun c => (c.toNat : Int)).map fun n => UInt8.ofNat n.toNat).toArray) = s.data := by
      show (#[] : Array UInt8) ++ _ = _
      rw [List.map_map, Array.empty_append]
      have : ((fun n : Int => UInt8.ofNat n.toNat) ∘ fun c : UInt8 => (c.toNat : Int)) = id := by
        funext c; simp
      rw [this, List.map_id]
    rw [this]
end
end Go.Ab

/- The abstract machine: rows that lie in a cell of a block of the call's own (a field that is appended to). Conditions: none but those that stand in each law. -/
namespace Go.Ab
open Go Go.RowKit

section
variable {P : Program} {nt : Nat} {C : Cx P nt} {Q0 : Exit → Act → World → Prop} {k : List KI} {x y : Operand} {R1 R2 : List (Nat × SV)}

/-- a cell that holds nil, is a row without elements of the call's own -/
theorem G.rowCell {sl : SL} {hp : HL} {kb kk T E size j : Nat} {cs cs' : List BV} (hh : hget hp kb = some (.blk T cs)) (hj : cs[j]? = some (.g (.d (.v (.slice none 0 0))))) (hkk : hget hp kk = none) (hk0 : Nat.blt 0 kk = true) (hz : Nat.blt 0 size = true)
    (he : cs.set j (.own kk []) = cs') (h : G C Q0 k ⟨sl, (kb, some (.blk T cs')) :: (kk, some (.row E size [] false)) :: hp⟩) : G C Q0 k ⟨sl, hp⟩ := ⟨fun a w ⟨β, r⟩ => by
  have hne : kk ≠ kb := fun c => by subst c; rw [hkk] at hh; cases hh
  obtain ⟨b, arr, hb, hheap, hsz, hc⟩ := r.hp kb _ hh
  have r1 := (r.new (e := .row E size [] false) (bo := none) hkk hk0 (Below.refl _ w) (fun b hb => by cases hb) fun _ _ => ⟨by simpa using hz, fun cs h => by simp at h, .inl ⟨by simp [upd], rfl⟩⟩).1
  have hh1 : hget ((kk, some (.row E size [] false)) :: hp) kb = some (.blk T cs) := by rw [hget_cons, if_neg hne]; exact hh
  have hb1 : upd β kk none kb = some b := by simp [upd, Ne.symm hne, hb]
  obtain ⟨b1, arr1, hb1', hheap1, hsz1, hc1⟩ := r1.hp kb _ hh1
  rw [hb1] at hb1'; cases hb1'
  rw [hheap] at hheap1; cases hheap1
  obtain ⟨β', r2⟩ : ∃ β', RelB C ⟨sl, (kb, some (.blk T cs')) :: (kk, some (.row E size [] false)) :: hp⟩ β' a w := by
    refine ⟨upd (upd β kk none) kb (upd β kk none kb), (r1.chg (e := .blk T cs') (bo := upd β kk none kb) (w1 := w) hh1 rfl rfl rfl (Nat.le_refl _) (fun _ _ _ => rfl) (fun _ _ _ _ h _ => h) (.inl ⟨rfl, fun _ h => h⟩) ⟨rfl, fun _ => rfl⟩ (fun es0 u h => ?_) (fun hBR _ => ?_)).1⟩
    · obtain ⟨_, _, _, _, h1, _⟩ := h
      rw [hh1] at h1; cases h1
    · subst he
      refine ⟨b, arr, by simp [upd, Ne.symm hne, hb], hheap, by simpa using hsz, fun i c hi => ?_⟩
      rw [List.getElem?_set] at hi
      by_cases c1 : j = i
      · subst c1
        obtain ⟨u, hu, ho, hr⟩ := hc j _ hj
        have hu2 := BR.v_inv hr
        subst hu2
        rw [if_pos rfl] at hi
        split at hi
        · cases hi
          refine ⟨_, hu, ho, E, size, [], false, ?_, Nat.le_refl _, fun _ => .inl ⟨by simp [upd, hne], rfl, none, rfl⟩⟩
          rw [hget_cons, if_neg (Ne.symm hne), hget_cons, if_pos rfl]
        · cases hi
      · rw [if_neg c1] at hi
        obtain ⟨u, hu, ho, hr⟩ := hc1 i c hi
        exact ⟨u, hu, ho, hBR c u hr⟩
  exact h.go a w ⟨β', r2⟩⟩

theorem own_one {sl : SL} {hp : HL} {β : Nat → Option Nat} {a : Act} {w : World} (_r : RelB C ⟨sl, hp⟩ β a w) {kk T size : Nat} {es : List (List DV)} {ex : Bool} (hh : hget hp kk = some (.row T size es ex)) {u : Value} (hu : BR C hp β w (.own kk es) u) : u.oneCell' = true := by
  obtain ⟨T', size', es', ex', h1, h2, h3⟩ := hu
  rw [hh] at h1; cases h1
  rcases h3 rfl with ⟨_, _, a, rfl⟩ | ⟨b, cap, cur, _, rfl, _⟩ <;> rfl

/-- a row that is stored in a cell -/
theorem op_storeO {S : TypeId} {kb kk off T E size : Nat} {zz : Value} {bytes : Nat} {cs cs' : List BV} {es : List (List DV)} {ex : Bool} {pos : String} {af : Array Edge} {gd : Option (Nat × Bool)} {ty : TypeId}
    (hI : Info P S zz 1 bytes) (hoff : Nat.blt off cs.length = true) (he : cs.set off (.own kk es) = cs') (hne : Nat.beq kb kk = false) (hx : Ev x (.ptr kb off) R1) (hy : Ev y (.own kk es) R2) :
    OpL C ⟨none, .store S x y, ty, pos, af, gd⟩ (R1 ++ R2) [(kb, some (.blk T cs)), (kk, some (.row E size es ex))] [] [(kb, some (.blk T cs'))] := by
  refine ⟨fun sl hp hs hh a w K Q ⟨β, r⟩ hK => ?_⟩
  have hne' : kk ≠ kb := fun c => by subst c; simp at hne
  obtain ⟨_, b, hb, hu⟩ := hx.ok hs.app.1 r
  have hy1 := hy.ok hs.app.2 r
  have hrow := hh.2.1
  have hone := own_one r hrow hy1
  obtain ⟨b', arr, hb', hheap, hsz, hcell⟩ := r.hp kb _ hh.1
  rw [hb] at hb'; cases hb'
  have hoff' : off < cs.length := by simpa using hoff
  have h3 : (a.eval y).cells = #[a.eval y] := by generalize a.eval y = u at hone; cases u <;> simp_all [Value.cells, Value.oneCell']
  have hsc := run_storeCells_at P b off T [a.eval y] 0 arr w hheap (by simp; omega) (fun v hv => by simp at hv; subst hv; exact hone)
  simp only [Nat.add_zero, List.length_cons, List.length_nil, Nat.zero_add] at hsc
  generalize hw1 : w.setRow b (List.take off arr.toList ++ [a.eval y] ++ List.drop (off + 1) arr.toList).toArray = w1 at hsc
  have hnew : w1.heap[b]? = some (.cells (List.take off arr.toList ++ [a.eval y] ++ List.drop (off + 1) arr.toList).toArray T) := by
    rw [← hw1]; exact setRow_heap w b arr _ T _ hheap
  have hoth : ∀ i, i ≠ b → w1.heap[i]? = w.heap[i]? := fun i hi => by rw [← hw1]; exact setRow_other w b i _ hi
  have hsize : w1.heap.size = w.heap.size := by rw [← hw1]; simp [World.setRow]
  unfold Oper.wp
  have : (execOp a.eval ⟨none, .store S x y, ty, pos, af, gd⟩).run P w = .ok .skip w1 := by
    simp [execOp, hu, Instr.storeAt, Instr.sureAddr, storeVar, h3, hI.sizeOf, hsc]
  rw [this]
  refine hK _ _ ⟨upd β kb (β kb), ?_⟩
  refine (r.chg (e := .blk T cs') (bo := β kb) hh.1 (by rw [← hw1]; rfl) (by rw [← hw1]; rfl) (by rw [← hw1]; rfl) (by omega) (fun i _ hi => hoth i (fun c => hi (by rw [c, hb]))) (fun _ _ _ _ _ c => absurd trivial c)
    (.inl ⟨rfl, fun _ h => h⟩) ⟨rfl, fun _ => rfl⟩ (fun es0 u h => ?_) (fun hBR _ => ?_)).1
  · obtain ⟨_, _, _, _, h1, _⟩ := h
    rw [hh.1] at h1; cases h1
  · subst he
    refine ⟨b, _, by simp [upd, hb], hnew, by simp; omega, fun j c hj => ?_⟩
    rw [List.getElem?_set] at hj
    have harr : (List.take off arr.toList ++ [a.eval y] ++ List.drop (off + 1) arr.toList).toArray[j]? = if off = j then some (a.eval y) else arr[j]? := by
      have hl : off < arr.toList.length := by simp; omega
      have : List.take off arr.toList ++ [a.eval y] ++ List.drop (off + 1) arr.toList = arr.toList.set off (a.eval y) := by
        rw [List.set_eq_take_append_cons_drop, if_pos hl]; simp
      rw [this, List.getElem?_toArray, List.getElem?_set]
      by_cases c1 : off = j
      · rw [if_pos c1, if_pos c1, if_pos (by simpa using hl)]
      · rw [if_neg c1, if_neg c1]; simp
    rw [harr]
    by_cases c1 : off = j
    · rw [if_pos c1, if_pos hoff'] at hj
      cases hj
      rw [if_pos c1]
      exact ⟨_, rfl, hone, hBR _ _ hy1⟩
    · rw [if_neg c1] at hj ⊢
      obtain ⟨u, h1, h2, h3⟩ := hcell _ _ hj
      exact ⟨u, h1, h2, hBR c u h3⟩

/-- a row in a cell, seen as the slice that it is now -/
theorem G.viewCell {sl : SL} {hp : HL} {kb kk T E size j : Nat} {cs cs' : List BV} {es : List (List DV)} (hh : hget hp kb = some (.blk T cs)) (hj : cs[j]? = some (.own kk es)) (hrow : hget hp kk = some (.row E size es false))
    (he : cs.set j (.g (.d (.sl size es))) = cs') (h : G C Q0 k ⟨sl, (kb, some (.blk T cs')) :: hp⟩) : G C Q0 k ⟨sl, hp⟩ := ⟨fun a w ⟨β, r⟩ => by
  obtain ⟨b, arr, hb, hheap, hsz, hc⟩ := r.hp kb _ hh
  refine h.go a w ⟨upd β kb (β kb), (r.chg (e := .blk T cs') (bo := β kb) (w1 := w) hh rfl rfl rfl (Nat.le_refl _) (fun _ _ _ => rfl) (fun _ _ _ _ h _ => h) (.inl ⟨rfl, fun _ h => h⟩) ⟨rfl, fun _ => rfl⟩ (fun es0 u h => ?_) (fun hBR _ => ?_)).1⟩
  · obtain ⟨_, _, _, _, h1, _⟩ := h
    rw [hh] at h1; cases h1
  · subst he
    refine ⟨b, arr, by simp [upd, hb], hheap, by simpa using hsz, fun i c hi => ?_⟩
    rw [List.getElem?_set] at hi
    by_cases c1 : j = i
    · subst c1
      obtain ⟨u, hu, ho, hr⟩ := hc j _ hj
      rw [if_pos rfl] at hi
      split at hi
      · cases hi
        refine ⟨u, hu, ho, hBR (.g (.d (.sl size es))) u (own_data r hrow hr (fun _ _ h => h) (fun b o hb ho hm => ?_))⟩
        rcases hm with hM | ⟨k1, e1, h1, h2, h3⟩
        · obtain ⟨h4, h5⟩ := r.low b o hM
          rcases (r.own kk _ b hrow hb).1 with h6 | h6
          · omega
          · exact h5 h6
        · obtain rfl := r.inj k1 kk e1 _ b h1 hrow h2 hb
          rw [hrow] at h1; cases h1
          simp only [HE.mutAt, Bool.false_eq_true, false_or] at h3
          omega
      · cases hi
    · rw [if_neg c1] at hi
      obtain ⟨u, hu, ho, hr⟩ := hc i c hi
      exact ⟨u, hu, ho, hBR c u hr⟩⟩
end
end Go.Ab
