/- The abstract machine, its operations on memory: one law each. Conditions: none but those that stand in each law. -/
import Derived.Test.YtfckeeglbhlnmaaAb2
namespace Go.Ab
open Go Go.RowKit

/-- what the table says of a type -/
def Info (P : Program) (t : Nat) (z : Value) (size bytes : Nat) : Prop := ∃ i, P.info? t = some i ∧ i.zero = some z ∧ i.size = size ∧ i.bytes = bytes

theorem Info.of {P : Program} {t : Nat} {z : Value} {size bytes : Nat} (h : (P.info? t).map (fun i => (i.zero, i.size, i.bytes)) = some (some z, size, bytes)) : Info P t z size bytes := by
  cases hi : P.info? t with
  | none => rw [hi] at h; cases h
  | some i => rw [hi] at h; simp at h; exact ⟨i, hi, h.1, h.2.1, h.2.2⟩

def aggD : TypeDesc → Bool
  | .struct _ | .array _ _ => true
  | _ => false

section
variable {P : Program} {t : Nat} {z : Value} {size bytes : Nat} {w : World}
theorem Info.sizeOf (h : Info P t z size bytes) : (sizeOf t).run P w = .ok size w := by
  obtain ⟨i, h1, _, h3, _⟩ := h
  simp [Go.sizeOf, typeInfo, h1, h3]
theorem Info.zero (h : Info P t z size bytes) : (zeroValue t).run P w = .ok z w := by
  obtain ⟨i, h1, h2, _, _⟩ := h
  simp [zeroValue, typeInfo, h1, h2]
theorem run_isAgg {d : TypeDesc} (h : P.underlying t = some d) : (isAgg t).run P w = .ok (aggD d) w := by
  cases d <;> simp [isAgg, run_underlying h, aggD]
end

theorem mu_lt {P : Program} {nt : Nat} {C : Cx P nt} {hp : HL} {sl : SL} {β : Nat → Option Nat} {a : Act} {w : World} (r : RelB C ⟨sl, hp⟩ β a w) {b o : Nat} (h : Mu C hp β b o) : b < w.heap.size := r.mut_lt h

section
variable {P : Program} {nt : Nat} {C : Cx P nt} {dst : Nat} {ty : TypeId} {pos : String} {af : Array Edge} {gd : Option (Nat × Bool)} {x y z : Operand} {R R1 R2 R3 : List (Nat × SV)}

theorem run_fieldAt {P : Program} {S : TypeId} {fs : Array Field} {f : Nat} {fld : Field} {zz : Value} {size bytes b o : Nat} {w : World} (hS : P.underlying S = some (.struct fs)) (hf : fs[f]? = some fld)
    (hI : Info P fld.type zz size bytes) (hz : size ≠ 0) : (Instr.fieldAt S (.pointer (some ⟨b, o, none⟩)) f).run P w = .ok (.pointer (some ⟨b, o + fld.offset, none⟩)) w := by
  simp [Instr.fieldAt, run_underlying hS, hf, Instr.sureAddr, fieldPlace, hI.sizeOf, hz, Addr.add_lit]

theorem op_fieldP {S : TypeId} {fs : Array Field} {f : Nat} {fld : Field} {zz : Value} {size bytes k off off' : Nat} (hS : P.underlying S = some (.struct fs)) (hf : fs[f]? = some fld)
    (hI : Info P fld.type zz size bytes) (hz : size ≠ 0) (he : off + fld.offset = off') (hx : Ev x (.ptr k off) R) (hd : Nat.blt dst nt = true) :
    OpL C (Oo dst (.fieldAddr S x f) ty pos af gd) R [] [(dst, .one (.ptr k off'))] [] :=
  opl_pure hd rfl fun sl hp β a w hs _ r => by
    obtain ⟨he', b, hb, hu⟩ := hx.ok hs r
    refine ⟨.pointer (some ⟨b, off', none⟩), ?_, he', b, hb, rfl⟩
    simp [execOp, hu, run_fieldAt hS hf hI hz, he]

theorem op_fieldE {S : TypeId} {fs : Array Field} {f : Nat} {fld : Field} {zz : Value} {size bytes : Nat} {cs cs' : List DV} (hS : P.underlying S = some (.struct fs)) (hf : fs[f]? = some fld)
    (hI : Info P fld.type zz size bytes) (hz : size ≠ 0) (he : cs.drop fld.offset = cs') (hx : Ev x (.ep cs) R) (hd : Nat.blt dst nt = true) :
    OpL C (Oo dst (.fieldAddr S x f) ty pos af gd) R [] [(dst, .one (.ep cs'))] [] :=
  opl_pure hd rfl fun sl hp β a w hs _ r => by
    obtain ⟨b, o, hu, hc⟩ := hx.ok hs r
    refine ⟨.pointer (some ⟨b, o + fld.offset, none⟩), ?_, b, o + fld.offset, rfl, fun j d hj => ?_⟩
    · simp [execOp, hu, run_fieldAt hS hf hI hz]
    · subst he
      rw [List.getElem?_drop] at hj
      simpa [Nat.add_assoc] using hc _ d hj

theorem op_nilCheckP {k off : Nat} (hx : Ev x (.ptr k off) R) (hd : Nat.blt dst nt = true) : OpL C (Oo dst (.nilCheck x) ty pos af gd) R [] [(dst, .one (.ptr k off))] [] :=
  opl_pure hd rfl fun sl hp β a w hs _ r => by
    obtain ⟨he', b, hb, hu⟩ := hx.ok hs r
    exact ⟨.pointer (some ⟨b, off, none⟩), by simp [execOp, hu], he', b, hb, rfl⟩

theorem op_nilCheckE {cs : List DV} (hx : Ev x (.ep cs) R) (hd : Nat.blt dst nt = true) : OpL C (Oo dst (.nilCheck x) ty pos af gd) R [] [(dst, .one (.ep cs))] [] :=
  opl_pure hd rfl fun sl hp β a w hs _ r => by
    obtain ⟨b, o, hu, hc⟩ := hx.ok hs r
    exact ⟨.pointer (some ⟨b, o, none⟩), by simp [execOp, hu], b, o, rfl, hc⟩

theorem op_load1P {t : TypeId} {d : TypeDesc} {k off : Nat} {T : Nat} {cs : List BV} {c : BV} (hU : P.underlying t = some d) (hA : aggD d = false) (hc : cs[off]? = some c)
    (hx : Ev x (.ptr k off) R) (hd : Nat.blt dst nt = true) : OpL C (Oo dst (.load t x) ty pos af gd) R [(k, some (.blk T cs))] [(dst, .one c)] [] :=
  opl_pure hd rfl fun sl hp β a w hs hh r => by
    obtain ⟨_, b, hb, hu⟩ := hx.ok hs r
    obtain ⟨b', arr, hb', hheap, hsz, hcell⟩ := r.hp k _ hh.1
    rw [hb] at hb'
    cases hb'
    obtain ⟨u, hu', _, hr⟩ := hcell off c hc
    have hcl : w.cell? ⟨b, off, none⟩ = some u := by rw [cell_of_row w b off arr T _ hheap]; exact hu'
    exact ⟨u, by simp [execOp, hu, Instr.loadAt, Instr.sureAddr, loadVar, run_isAgg hU, hA, hcl], hr⟩

theorem op_load1E {t : TypeId} {d : TypeDesc} {cs : List DV} {c : DV} (hU : P.underlying t = some d) (hA : aggD d = false) (hc : cs[0]? = some c)
    (hx : Ev x (.ep cs) R) (hd : Nat.blt dst nt = true) : OpL C (Oo dst (.load t x) ty pos af gd) R [] [(dst, .one (.g (.d c)))] [] :=
  opl_pure hd rfl fun sl hp β a w hs hh r => by
    obtain ⟨b, o, hu, hcell⟩ := hx.ok hs r
    obtain ⟨u, hu', _, hr⟩ := hcell 0 c hc
    exact ⟨u, by simp [execOp, hu, Instr.loadAt, Instr.sureAddr, loadVar, run_isAgg hU, hA, show w.cell? ⟨b, o, none⟩ = some u from hu'], hr⟩

/-- cells that are plain data -/
abbrev dat (ds : List DV) : List BV := ds.map fun d => BV.g (.d d)

theorem run_loadAgg {P : Program} {t : TypeId} {d : TypeDesc} {zz : Value} {n bytes b o : Nat} {w : World} (hU : P.underlying t = some d) (hA : aggD d = true) (hI : Info P t zz n bytes)
    (f : Nat → Value) (h : ∀ j, j < n → w.cell? ⟨b, o + j, none⟩ = some (f j)) : (Instr.loadAt t (.pointer (some ⟨b, o, none⟩))).run P w = .ok (.agg ((List.range n).map f).toArray) w := by
  simp [Instr.loadAt, Instr.sureAddr, loadVar, run_isAgg hU, hA, hI.sizeOf, run_loadCells (P := P) w ⟨b, o, none⟩ n f (fun j hj => by rw [Addr.add_lit]; exact h j hj)]

theorem op_loadAP {t : TypeId} {d : TypeDesc} {zz : Value} {bytes k off : Nat} {T : Nat} {cs : List BV} {ds : List DV} (hU : P.underlying t = some d) (hA : aggD d = true) (hI : Info P t zz ds.length bytes)
    (hc : (cs.drop off).take ds.length = dat ds) (hx : Ev x (.ptr k off) R) (hd : Nat.blt dst nt = true) : OpL C (Oo dst (.load t x) ty pos af gd) R [(k, some (.blk T cs))] [(dst, .one (.g (.agg ds)))] [] :=
  opl_pure hd rfl fun sl hp β a w hs hh r => by
    obtain ⟨_, b, hb, hu⟩ := hx.ok hs r
    obtain ⟨b', arr, hb', hheap, hsz, hcell⟩ := r.hp k _ hh.1
    rw [hb] at hb'
    cases hb'
    have key : ∀ j dd, ds[j]? = some dd → ∃ u, arr[off + j]? = some u ∧ RD (Mu C hp β) w u dd := by
      intro j dd hj
      have hl : j < ds.length := (List.getElem?_eq_some_iff.1 hj).1
      have : cs[off + j]? = some (.g (.d dd)) := by
        have e : ((cs.drop off).take ds.length)[j]? = (dat ds)[j]? := by rw [hc]
        rw [List.getElem?_take, if_pos hl, List.getElem?_drop] at e
        rw [e]; simp [dat, hj]
      obtain ⟨u, h1, _, h3⟩ := hcell _ _ this
      exact ⟨u, h1, h3⟩
    have key2 : ∀ j, j < ds.length → w.cell? ⟨b, off + j, none⟩ = some ((fun j => arr.getD (off + j) undef) j) := by
      intro j hj
      obtain ⟨u, h1, _⟩ := key j ds[j] (by simp [hj])
      rw [cell_of_row w b _ arr T _ hheap]
      simp [h1]
    refine ⟨.agg ((List.range ds.length).map (fun j => arr.getD (off + j) undef)).toArray, ?_, _, rfl, by simp, fun j dd hj => ?_⟩
    · simp only [execOp, hu, Sem.run_bind]
      rw [run_loadAgg hU hA hI _ key2]
      rfl
    · obtain ⟨u, h1, h2⟩ := key j dd hj
      have hl : j < ds.length := (List.getElem?_eq_some_iff.1 hj).1
      exact ⟨u, by simp [hl, h1], h2⟩

theorem op_loadAE {t : TypeId} {d : TypeDesc} {zz : Value} {bytes : Nat} {cs ds : List DV} (hU : P.underlying t = some d) (hA : aggD d = true) (hI : Info P t zz ds.length bytes)
    (hc : cs.take ds.length = ds) (hx : Ev x (.ep cs) R) (hd : Nat.blt dst nt = true) : OpL C (Oo dst (.load t x) ty pos af gd) R [] [(dst, .one (.g (.agg ds)))] [] :=
  opl_pure hd rfl fun sl hp β a w hs hh r => by
    obtain ⟨b, o, hu, hcell⟩ := hx.ok hs r
    have key : ∀ j dd, ds[j]? = some dd → ∃ u, w.cell? ⟨b, o + j, none⟩ = some u ∧ RD (Mu C hp β) w u dd := by
      intro j dd hj
      have hl : j < ds.length := (List.getElem?_eq_some_iff.1 hj).1
      have : cs[j]? = some dd := by
        have e : (cs.take ds.length)[j]? = ds[j]? := by rw [hc]
        rw [List.getElem?_take, if_pos hl] at e
        rw [e, hj]
      obtain ⟨u, h1, _, h3⟩ := hcell _ _ this
      exact ⟨u, h1, h3⟩
    have key2 : ∀ j, j < ds.length → w.cell? ⟨b, o + j, none⟩ = some ((fun j => (w.cell? ⟨b, o + j, none⟩).getD undef) j) := by
      intro j hj
      obtain ⟨u, h1, _⟩ := key j ds[j] (by simp [hj])
      simp [h1]
    refine ⟨.agg ((List.range ds.length).map (fun j => (w.cell? ⟨b, o + j, none⟩).getD undef)).toArray, ?_, _, rfl, by simp, fun j dd hj => ?_⟩
    · simp only [execOp, hu, Sem.run_bind]
      rw [run_loadAgg hU hA hI _ key2]
      rfl
    · obtain ⟨u, h1, h2⟩ := key j dd hj
      have hl : j < ds.length := (List.getElem?_eq_some_iff.1 hj).1
      exact ⟨u, by simp [hl, h1], h2⟩

theorem op_index {T E : TypeId} {zz : Value} {size bytes : Nat} {es : List (List DV)} {cs : List DV} {k : IntKind} {i : Int} (hT : P.underlying T = some (.slice E)) (hI : Info P E zz size bytes)
    (h0 : 0 ≤ i) (hi : es[i.toNat]? = some cs) (hx : Ev x (.g (.d (.sl size es))) R1) (hy : Ev y (bI k i) R2) (hd : Nat.blt dst nt = true) :
    OpL C (Oo dst (.indexAddr T x y) ty pos af gd) (R1 ++ R2) [] [(dst, .one (.ep cs))] [] :=
  opl_pure hd rfl fun sl hp β a w hs hh r => by
    have h1 := hx.ok hs.app.1 r
    have h2 := BR.v_inv (hy.ok hs.app.2 r)
    have hlt : i.toNat < es.length := (List.getElem?_eq_some_iff.1 hi).1
    generalize hxx : a.eval x = u at h1
    cases h1 with
    | sl ad cap sz es vals b o hc hm ha hsz hv hr =>
      have hne : es ≠ [] := fun c => by simp [c] at hlt
      obtain rfl := ha hne
      refine ⟨.pointer (some ⟨b, o + i.toNat * size, none⟩), ?_, b, o + i.toNat * size, rfl, fun j d hj => ?_⟩
      · have hb : 0 ≤ i ∧ i < (es.length : Int) := ⟨h0, by omega⟩
        simp only [execOp, h2, hxx, Instr.indexAt, asIntOf, Sem.run_bind, Sem.run_pure, Result.andThen_ok, run_underlying hT, Bool.and_false, hb, and_self, if_true, hI.sizeOf, Addr.add_lit, Bool.false_eq_true, if_false]
      · rw [Nat.add_assoc]
        exact ⟨_, (hv _ _ j d hi hj).1, (hv _ _ j d hi hj).2, hr _ _ j d hi hj⟩

/-- an index into a row of the call's own that is only appended to -/
theorem op_indexO {T E : TypeId} {zz : Value} {size bytes k T' : Nat} {es : List (List DV)} {cs : List DV} {kd : IntKind} {i : Int} (hT : P.underlying T = some (.slice E)) (hI : Info P E zz size bytes)
    (h0 : 0 ≤ i) (hi : es[i.toNat]? = some cs) (hx : Ev x (.own k es) R1) (hy : Ev y (bI kd i) R2) (hd : Nat.blt dst nt = true) :
    OpL C (Oo dst (.indexAddr T x y) ty pos af gd) (R1 ++ R2) [(k, some (.row T' size es false))] [(dst, .one (.ep cs))] [] :=
  opl_pure hd rfl fun sl hp β a w hs hh r => by
    obtain ⟨T1, size1, es1, ex1, he, _, h1⟩ := hx.ok hs.app.1 r
    have h2 := BR.v_inv (hy.ok hs.app.2 r)
    have hlt : i.toNat < es.length := (List.getElem?_eq_some_iff.1 hi).1
    rw [hh.1] at he
    cases he
    rcases h1 rfl with ⟨_, rfl, _⟩ | ⟨b, cap, cur, hb, hu, hlc, hcm, hheap, hcs⟩
    · simp at hlt
    obtain ⟨_, hsz, hrow⟩ := r.hp k _ hh.1
    rcases hrow with ⟨hb', _⟩ | ⟨b', cur', hb', hheap', hle, hcell⟩
    · rw [hb] at hb'; cases hb'
    rw [hb] at hb'; cases hb'
    refine ⟨.pointer (some ⟨b, 0 + i.toNat * size, none⟩), ?_, b, 0 + i.toNat * size, rfl, fun j d hj => ?_⟩
    · have hb : 0 ≤ i ∧ i < (es.length : Int) := ⟨h0, by omega⟩
      simp only [execOp, hu, h2, Instr.indexAt, asIntOf, Sem.run_bind, Sem.run_pure, Result.andThen_ok, run_underlying hT, Bool.and_false, hb, and_self, if_true, hI.sizeOf, Addr.add_lit, Bool.false_eq_true, if_false]
    · obtain ⟨u, h3, h4⟩ := hcell _ _ j d hi hj
      have hjl : j < cs.length := (List.getElem?_eq_some_iff.1 hj).1
      have hcl : cs.length = size := hsz cs (List.mem_of_getElem? hi)
      refine ⟨u, by rw [cell_of_row w b _ cur' T' _ hheap', Nat.zero_add]; exact h3, ?_, h4⟩
      rintro (hM | ⟨k', e', he', hbk, hmut⟩)
      · obtain ⟨h6, h7⟩ := r.low _ _ hM
        rcases (r.own k _ b hh.1 hb).1 with h5 | h5
        · omega
        · exact h7 h5
      · obtain rfl := r.inj k' k e' _ b he' hh.1 hbk hb
        rw [hh.1] at he'
        cases he'
        simp only [HE.mutAt, Bool.false_eq_true, false_or, Nat.zero_add] at hmut
        have : (i.toNat + 1) * size ≤ es.length * size := Nat.mul_le_mul_right _ hlt
        rw [Nat.add_mul] at this
        omega

end
end Go.Ab
