import Derived.Test.YtjidbmelmcmmhaaAbA
import Derived.ChangeArms
import Derived.ChangeSame
import Derived.Carry
import Derived.Handed
import Derived.OpenShut
import Derived.ProofKit
import Derived.JoinedCond
import Derived.Laws.StructEq
import Derived.Shelf.Spec.SlicesInsertGrow
import Derived.Lib.Builder
import Derived.Lib.UnsafeStr
import Derived.Laws.Externs
import Derived.Lib.MakeNoZero
import Derived.Laws.IdiomCopy
/- The abstract machine: rows that are the call's own alone: elements read and stored in place, cleared, cut off; a slice held against nil. Conditions: none but those that stand in each law. -/
namespace Go.Ab
open Go Go.RowKit

section
variable {P : Program} {nt : Nat} {C : Cx P nt} {Q0 : Exit → Act → World → Prop} {k : List KI} {dst : Nat} {ty : TypeId} {pos : String} {af : Array Edge} {gd : Option (Nat × Bool)} {x y z : Operand} {R R1 R2 R3 : List (Nat × SV)}

/-- any content moves -/
theorem op_moveS {t : Nat} {sv : SV} (hd : Nat.blt dst nt = true) : OpL C (Oo dst (.move (.tmp t)) ty pos af gd) [(t, sv)] [] [(dst, sv)] [] :=
  opl_pure hd rfl fun sl hp β a w hs _ r => ⟨a.eval (.tmp t), by simp [execOp], r.sl t _ hs.1⟩
theorem op_assignS {t : Nat} {sv : SV} (hd : Nat.blt dst nt = true) : OpL C (Oo dst (.assign (.tmp t)) ty pos af gd) [(t, sv)] [] [(dst, sv)] [] :=
  opl_pure hd rfl fun sl hp β a w hs _ r => ⟨a.eval (.tmp t), by simp [execOp], r.sl t _ hs.1⟩

/-- a slice held against nil: whatever comes out, it is empty if the answer is yes -/
theorem G.opNil {ops : Array Oper} {rest : List Oper} {sl : SL} {hp : HL} {T T' E size : Nat} {es : List (List DV)} (hT : P.underlying T = some (.slice E)) (hx : Ev x (.g (.d (.sl size es))) R) (hd : Nat.blt dst nt = true) (hs : HasS sl R)
    (hk : ∀ b : Bool, (b = true → es = []) → G C Q0 (.l ops rest :: k) ⟨(dst, .one (bB b)) :: sl, hp⟩) : G C Q0 (.l ops (Oo dst (.binOp .eql T x (.const (.slice none 0 0)) T') ty pos af none :: rest) :: k) ⟨sl, hp⟩ := ⟨fun a w ⟨β, r⟩ => by
  change wpList P ops (Qof P Q0 k) _ a w
  refine wpList_plain rfl fun K hK => ?_
  have h1 := hx.ok hs r
  have hu : ∃ (b : Bool), (b = true → es = []) ∧ (binOp .eql T (a.eval x) (.slice none 0 0)).run P w = .ok (.bool b) w := by
    generalize hxx : a.eval x = u at h1
    cases h1 with
    | sl ad cap _ _ vals b o hc hm ha hs' hv hr =>
      refine ⟨ad.isNone, fun h => ?_, ?_⟩
      · refine Classical.byContradiction fun c => ?_
        rw [ha c] at h; cases h
      · have e : Op.equal T (.slice ad es.length cap) (.slice none 0 0) = Op.equalIn (9999 + 1) T (.slice ad es.length cap) (.slice none 0 0) := rfl
        cases ad <;> (simp only [binOp]; rw [e, Op.equalIn]; simp [Sem.run_bind, run_underlying hT])
  obtain ⟨b, hb, hrun⟩ := hu
  have hg := run_eqGuard_plain (P := P) (op := .eql) (t := T) (x := x) (y := .const (.slice none 0 0)) (v := .slice none 0 0) (w := w) (u := a.eval x) (RD.one h1) (fun c => by rw [c] at h1; cases h1)
  unfold Oper.wp
  have : (execOp a.eval (Oo dst (.binOp .eql T x (.const (.slice none 0 0)) T') ty pos af none)).run P w = .ok (.value (.bool b)) w := by
    simp only [execOp, Sem.run_bind, Act.eval] at hg hrun ⊢
    rw [hg]
    simp only [Result.andThen_ok, hrun, Sem.run_pure]
  rw [this]
  exact hK _ _ ((hk b hb).go _ _ ⟨β, r.put (sv := .one (bB b)) (Below.refl _ _) (by simpa using hd) (RD.v _ rfl)⟩)⟩

/-- '[]T{}', to be appended to -/
theorem op_buildRow {T E size bytes kk : Nat} {zz : Value} (hT : P.underlying T = some (.slice E)) (hI : Info P E zz size bytes) (hz : Nat.blt 0 size = true) (hd : Nat.blt dst nt = true) (hk0 : Nat.blt 0 kk = true := by rfl) :
    OpL C (Oo dst (.buildSlice T 0 #[]) ty pos af gd) [] [(kk, none)] [(dst, .one (.own kk []))] [(kk, some (.row E size [] true))] := by
  refine ⟨fun sl hp hs hh a w K Q ⟨β, r⟩ hK => ?_⟩
  unfold Oper.wp
  have : (execOp a.eval (Oo dst (.buildSlice T 0 #[]) ty pos af gd)).run P w = .ok (.value (.slice (some ⟨w.heap.size, 0, none⟩) 0 0)) (w.alloc (.cells #[] E)) := by
    simp [execOp, Instr.buildSlice, run_underlying hT, hI.sizeOf, Instr.fill, newRow, show (Array.range 0) = #[] from rfl]
  rw [this]
  have h := (r.new (e := .row E size [] true) (bo := some w.heap.size) hh.1 hk0 (below_alloc w (.cells #[] E)) (fun b hb => by cases hb; exact ⟨rfl, by simp⟩) fun _ _ =>
    ⟨by simpa using hz, fun cs h => by simp at h, .inr ⟨w.heap.size, #[], by simp [upd], heap_alloc_new w _, by simp, fun i cs j d h => by simp at h⟩⟩).1
  exact hK _ _ ⟨_, h.put (Below.refl _ _) (by simpa using hd) ⟨E, size, [], true, by rw [hget_cons, if_pos rfl], Nat.le_refl _, fun _ => .inr ⟨w.heap.size, 0, #[], by simp [upd], rfl, Nat.le_refl _, Nat.zero_le _, heap_alloc_new w _, by simp⟩⟩⟩

/-- what a row's slot says, with the block -/
theorem own_inv {sl : SL} {hp : HL} {β : Nat → Option Nat} {a : Act} {w : World} (r : RelB C ⟨sl, hp⟩ β a w) {kk T size : Nat} {es : List (List DV)} {ex : Bool} {u : Value} (hk : hget hp kk = some (.row T size es ex)) (hu : BR C hp β w (.own kk es) u) (hne : es ≠ []) :
    0 < size ∧ (∀ cs, cs ∈ es → cs.length = size) ∧ ∃ b cap cur, β kk = some b ∧ u = .slice (some ⟨b, 0, none⟩) es.length cap ∧ es.length ≤ cap ∧ cap ≤ maxLen ∧ w.heap[b]? = some (.cells cur T (0, 0)) ∧ cur.size = cap * size ∧ es.length * size ≤ cur.size ∧
      ∀ (i : Nat) (cs : List DV) (j : Nat) (d : DV), es[i]? = some cs → cs[j]? = some d → ∃ v, cur[i * size + j]? = some v ∧ RD (Mu C hp β) w v d := by
  obtain ⟨_, _, _, _, h1, _, h2⟩ := hu
  rw [hk] at h1
  cases h1
  obtain ⟨hz, hs, hr⟩ := r.hp kk _ hk
  rcases h2 rfl with ⟨_, h3, _⟩ | ⟨b, cap, cur, hb, hu', hle, hcm, hheap, hcs⟩
  · exact absurd h3 hne
  · rcases hr with ⟨q1, q2⟩ | ⟨b', cur', q1, q2, q3, q4⟩
    · exact absurd q2 hne
    · rw [hb] at q1; cases q1
      rw [hheap] at q2; cases q2
      exact ⟨hz, hs, b, cap, cur, hb, hu', hle, hcm, hheap, hcs, q3, q4⟩

theorem run_indexRow {T E zz size bytes : _} {b len cap : Nat} {kd : IntKind} {i : Int} {w : World} (hT : P.underlying T = some (.slice E)) (hI : Info P E zz size bytes) (h0 : 0 ≤ i) (hi : i < (len : Int)) :
    (Instr.indexAt T (.slice (some ⟨b, 0, none⟩) len cap) (.int kd i)).run P w = .ok (.pointer (some ⟨b, i.toNat * size, none⟩)) w := by
  have hb : 0 ≤ i ∧ i < (len : Int) := ⟨h0, hi⟩
  simp only [Instr.indexAt, asIntOf, Sem.run_bind, Sem.run_pure, Result.andThen_ok, run_underlying hT, Bool.and_false, hb, and_self, if_true, hI.sizeOf, Addr.add_lit, Bool.false_eq_true, if_false, Nat.zero_add]

/-- an element of a row is read -/
theorem G.loadRow {ops : Array Oper} {rest : List Oper} {sl : SL} {hp : HL} {T E size bytes kk d1 d2 T' : Nat} {zz : Value} {es : List (List DV)} {cs : List DV} {kd : IntKind} {i : Int} {ex : Bool} {td : TypeDesc} {ty1 ty2 : TypeId} {pos1 pos2 : String} {af1 af2 : Array Edge}
    (hT : P.underlying T = some (.slice E)) (hU : P.underlying E = some td) (hA : aggD td = true) (hI : Info P E zz size bytes) (h0 : 0 ≤ i) (hi : es[i.toNat]? = some cs)
    (hx : Ev x (.own kk es) R1) (hy : Ev y (bI kd i) R2) (hd1 : Nat.blt d1 nt = true) (hd2 : Nat.blt d2 nt = true) (hs : HasS sl (R1 ++ R2)) (hh : hget hp kk = some (.row T' size es ex))
    (hk : G C Q0 (.l ops rest :: k) ⟨(d2, .one (.g (.agg cs))) :: (d1, .dead) :: sl, hp⟩) :
    G C Q0 (.l ops (Oo d1 (.indexAddr T x y) ty1 pos1 af1 none :: Oo d2 (.load E (.tmp d1)) ty2 pos2 af2 none :: rest) :: k) ⟨sl, hp⟩ := ⟨fun a w ⟨β, r⟩ => by
  have hlt : i.toNat < es.length := (List.getElem?_eq_some_iff.1 hi).1
  have hne : es ≠ [] := fun c => by simp [c] at hlt
  obtain ⟨hz, hsz, b, cap, cur, hb, hu, hle, hcm, hheap, hcs, hcl, hel⟩ := own_inv r hh (hx.ok hs.app.1 r) hne
  have h2 := BR.v_inv (hy.ok hs.app.2 r)
  have hd1' : d1 < nt := by simpa using hd1
  have hcsl : cs.length = size := hsz cs (List.mem_of_getElem? hi)
  change wpList P ops (Qof P Q0 k) _ a w
  refine wpList_plain rfl fun K1 hK1 => ?_
  unfold Oper.wp
  have e1 : (execOp a.eval (Oo d1 (.indexAddr T x y) ty1 pos1 af1 none)).run P w = .ok (.value (.pointer (some ⟨b, i.toNat * size, none⟩))) w := by
    simp only [execOp, hu, h2, Sem.run_bind, run_indexRow hT hI h0 (show i < (es.length : Int) by omega), Result.andThen_ok, Sem.run_pure]
  rw [e1]
  refine hK1 _ _ ?_
  refine wpList_plain rfl fun K hK => ?_
  unfold Oper.wp
  have r1 : RelB C ⟨(d1, .dead) :: sl, hp⟩ β (a.put (some d1) (.pointer (some ⟨b, i.toNat * size, none⟩))) w := r.put (sv := .dead) (Below.refl _ _) hd1' trivial
  have e3 : (a.put (some d1) (.pointer (some ⟨b, i.toNat * size, none⟩))).eval (.tmp d1) = .pointer (some ⟨b, i.toNat * size, none⟩) := by
    simp only [Act.eval]; rw [getD_put, if_pos ⟨rfl, by rw [r.size]; exact hd1'⟩]
  have key2 : ∀ j, j < size → w.cell? ⟨b, i.toNat * size + j, none⟩ = some ((fun j => cur.getD (i.toNat * size + j) undef) j) := by
    intro j hj
    obtain ⟨u, h3, _⟩ := hel i.toNat cs j (cs[j]'(by omega)) hi (by simp [hcsl, hj])
    rw [cell_of_row w b _ cur T' _ hheap]
    simp [h3]
  have e2 := run_loadAgg (P := P) (b := b) (o := i.toNat * size) (w := w) hU hA hI _ key2
  have e4 : (execOp (a.put (some d1) (.pointer (some ⟨b, i.toNat * size, none⟩))).eval (Oo d2 (.load E (.tmp d1)) ty2 pos2 af2 none)).run P w = .ok (.value (.agg ((List.range size).map (fun j => cur.getD (i.toNat * size + j) undef)).toArray)) w := by
    simp only [execOp, e3, Sem.run_bind, e2, Result.andThen_ok, Sem.run_pure]
  rw [e4]
  refine hK _ _ (hk.go _ _ ⟨β, r1.put (sv := .one (.g (.agg cs))) (Below.refl _ _) (by simpa using hd2) ⟨_, rfl, by simp [hcsl], fun j d hj => ?_⟩⟩)
  obtain ⟨u, h3, h4⟩ := hel i.toNat cs j d hi hj
  have hl : j < size := by rw [← hcsl]; exact (List.getElem?_eq_some_iff.1 hj).1
  exact ⟨u, by simp [hl, h3], h4⟩⟩

theorem getElem?_set' {α : Type} (l : List α) (i j : Nat) (x : α) (h : i < l.length) : (l.set i x)[j]? = if i = j then some x else l[j]? := by
  rw [List.getElem?_set]
  by_cases c : i = j
  · subst c; simp [h]
  · simp [c]

/-- an element of a row of the call's own alone is stored -/
theorem G.storeRow {ops : Array Oper} {rest : List Oper} {sl : SL} {hp : HL} {T E size bytes kk d1 : Nat} {zz : Value} {es es' : List (List DV)} {ds : List DV} {kd : IntKind} {i : Int} {ty1 ty2 : TypeId} {pos1 pos2 : String} {af1 af2 : Array Edge}
    (hT : P.underlying T = some (.slice E)) (hI : Info P E zz size bytes) (hds : ds.length = size) (h0 : 0 ≤ i) (hi : i < (es.length : Int)) (he : es.set i.toNat ds = es')
    (hx : Ev x (.own kk es) R1) (hy : Ev y (bI kd i) R2) (hz : Ev z (.g (.agg ds)) R3) (hzd : z ≠ .tmp d1) (hd1 : Nat.blt d1 nt = true) (hs : HasS sl (R1 ++ (R2 ++ R3))) (hh : hget hp kk = some (.row E size es true))
    (hk : G C Q0 (.l ops rest :: k) ⟨(d1, .dead) :: sl, (kk, some (.row E size es' true)) :: hp⟩) :
    G C Q0 (.l ops (Oo d1 (.indexAddr T x y) ty1 pos1 af1 none :: ⟨none, .store E (.tmp d1) z, ty2, pos2, af2, none⟩ :: rest) :: k) ⟨sl, hp⟩ := ⟨fun a w ⟨β, r⟩ => by
  subst he
  have hne : es ≠ [] := fun c => by rw [c] at hi; simp at hi; omega
  obtain ⟨hsz0, hsz, b, cap, cur, hb, hu, hle, hcm, hheap, hcs, hcl, hel⟩ := own_inv r hh (hx.ok hs.app.1 r) hne
  have h2 := BR.v_inv (hy.ok hs.app.2.app.1 r)
  obtain ⟨us, hus, husl, huc⟩ := hz.ok hs.app.2.app.2 r
  have hd1' : d1 < nt := by simpa using hd1
  have hit : i.toNat < es.length := by omega
  have hfit : i.toNat * size + us.size ≤ cur.size := by
    have : (i.toNat + 1) * size ≤ es.length * size := Nat.mul_le_mul_right _ hit
    rw [Nat.add_mul] at this
    omega
  change wpList P ops (Qof P Q0 k) _ a w
  refine wpList_plain rfl fun K1 hK1 => ?_
  unfold Oper.wp
  have e1 : (execOp a.eval (Oo d1 (.indexAddr T x y) ty1 pos1 af1 none)).run P w = .ok (.value (.pointer (some ⟨b, i.toNat * size, none⟩))) w := by
    simp only [execOp, hu, h2, Sem.run_bind, run_indexRow hT hI h0 hi, Result.andThen_ok, Sem.run_pure]
  rw [e1]
  refine hK1 _ _ ?_
  refine wpList_plain rfl fun K hK => ?_
  unfold Oper.wp
  have r1 : RelB C ⟨(d1, .dead) :: sl, hp⟩ β (a.put (some d1) (.pointer (some ⟨b, i.toNat * size, none⟩))) w := r.put (sv := .dead) (Below.refl _ _) hd1' trivial
  have e3 : (a.put (some d1) (.pointer (some ⟨b, i.toNat * size, none⟩))).eval (.tmp d1) = .pointer (some ⟨b, i.toNat * size, none⟩) := by
    simp only [Act.eval]; rw [getD_put, if_pos ⟨rfl, by rw [r.size]; exact hd1'⟩]
  have e5 : (a.put (some d1) (.pointer (some ⟨b, i.toNat * size, none⟩))).eval z = .agg us := by
    rw [Act.eval_put (fun d hd => by cases hd; exact hzd)]; exact hus
  have hone : ∀ v, v ∈ us.toList → v.oneCell' = true := by
    intro v hv
    obtain ⟨j, hj, rfl⟩ := List.getElem_of_mem hv
    have hj' : j < ds.length := by rw [← husl]; simpa using hj
    obtain ⟨x', h3, h4⟩ := huc j ds[j] (by simp [hj'])
    have : us.toList[j] = x' := by
      have : us[j]? = some us.toList[j] := by simp
      rw [h3] at this; exact (Option.some.inj this).symm
    rw [this]; exact h4.one
  have hst := run_storeCells_at P b (i.toNat * size) E us.toList 0 cur w hheap (by simpa using hfit) hone
  simp only [Nat.add_zero] at hst
  generalize hw1 : w.setRow b (List.take (i.toNat * size) cur.toList ++ us.toList ++ List.drop (i.toNat * size + us.toList.length) cur.toList).toArray = w1 at hst
  have hnew : w1.heap[b]? = some (.cells (List.take (i.toNat * size) cur.toList ++ us.toList ++ List.drop (i.toNat * size + us.toList.length) cur.toList).toArray E) := by rw [← hw1]; exact setRow_heap w b cur _ E _ hheap
  have hoth : ∀ q, q ≠ b → w1.heap[q]? = w.heap[q]? := fun q hq => by rw [← hw1]; exact setRow_other w b q _ hq
  have hsize : w1.heap.size = w.heap.size := by rw [← hw1]; simp [World.setRow]
  have hcurL : cur.toList.length = cur.size := Array.length_toList
  have husL : us.toList.length = us.size := Array.length_toList
  have hcur : ∀ q : Nat, (List.take (i.toNat * size) cur.toList ++ us.toList ++ List.drop (i.toNat * size + us.toList.length) cur.toList).toArray[q]? = if i.toNat * size ≤ q ∧ q < i.toNat * size + size then us[q - i.toNat * size]? else cur[q]? := by
    intro q
    rw [List.getElem?_toArray, splice_get cur.toList (i.toNat * size) us.toList (by omega), husL, husl, hds]
    simp
  have hcurs : (List.take (i.toNat * size) cur.toList ++ us.toList ++ List.drop (i.toNat * size + us.toList.length) cur.toList).toArray.size = cur.size := by
    simp only [List.size_toArray, List.length_append, List.length_take, List.length_drop, hcurL, husL]
    omega
  have e4 : (execOp (a.put (some d1) (.pointer (some ⟨b, i.toNat * size, none⟩))).eval ⟨none, .store E (.tmp d1) z, ty2, pos2, af2, none⟩).run P w = .ok .skip w1 := by
    simp only [execOp, e3, e5, Instr.storeAt, Instr.sureAddr, storeVar, Value.cells, Sem.run_bind, Sem.run_pure, Result.andThen_ok, hI.sizeOf]
    rw [if_neg (by rw [husl, hds]; simp)]
    simp only [hst, Result.andThen_ok]
  rw [e4]
  refine hK _ _ (hk.go _ _ ⟨upd β kk (β kk), ?_⟩)
  refine (r1.chg (e := .row E size (es.set i.toNat ds) true) (bo := β kk) hh (by rw [← hw1]; rfl) (by rw [← hw1]; rfl) (by rw [← hw1]; rfl) (by omega) (fun q _ hq => hoth q (fun c => hq (by rw [c, hb]))) (fun _ o x _ _ hnm => absurd (.inl rfl) hnm)
    (.inl ⟨rfl, fun o ho => .inl rfl⟩) ⟨rfl, fun _ => rfl⟩ (fun es0 u h => ?_) (fun _ hRD => ?_)).1
  · obtain ⟨_, _, _, _, h5, h6, h7⟩ := h
    rw [hh] at h5; cases h5
    refine ⟨E, size, es.set i.toNat ds, true, by rw [hget_cons, if_pos rfl], by simpa using h6, fun hq => ?_⟩
    rw [List.length_set] at hq
    rcases h7 hq with ⟨_, h8, _⟩ | ⟨b', cap', cur', h8, h9, h10, h11, h12, h13⟩
    · exact absurd h8 hne
    · rw [hb] at h8; cases h8
      rw [hheap] at h12; cases h12
      exact .inr ⟨b, cap', _, by simp [upd, hb], by rw [List.length_set]; exact h9, by rw [List.length_set]; exact h10, h11, hnew, by rw [hcurs]; exact h13⟩
  · refine ⟨hsz0, fun cs hcs' => ?_, .inr ⟨b, _, by simp [upd, hb], hnew, by rw [List.length_set, hcurs]; exact hcl, fun i' cs j d hi' hj => ?_⟩⟩
    · rcases List.mem_or_eq_of_mem_set hcs' with h5 | h5
      · exact hsz cs h5
      · rw [h5]; exact hds
    · rw [getElem?_set' es i.toNat i' ds hit] at hi'
      rw [hcur]
      by_cases c : i.toNat = i'
      · rw [if_pos c] at hi'
        cases hi'
        have hj' : j < size := by rw [← hds]; exact (List.getElem?_eq_some_iff.1 hj).1
        obtain ⟨x', h3, h4⟩ := huc j d hj
        rw [← c, if_pos (by omega)]
        exact ⟨x', by rw [show i.toNat * size + j - i.toNat * size = j by omega]; exact h3, hRD _ _ h4⟩
      · rw [if_neg c] at hi'
        obtain ⟨v, h3, h4⟩ := hel i' cs j d hi' hj
        have hj' : j < size := by rw [← hsz cs (List.mem_of_getElem? hi')]; exact (List.getElem?_eq_some_iff.1 hj).1
        have : ¬ (i.toNat * size ≤ i' * size + j ∧ i' * size + j < i.toNat * size + size) := by
          rintro ⟨q1, q2⟩
          rcases Nat.lt_or_gt_of_ne c with c' | c'
          · have : (i.toNat + 1) * size ≤ i' * size := Nat.mul_le_mul_right _ c'
            rw [Nat.add_mul] at this; omega
          · have : (i' + 1) * size ≤ i.toNat * size := Nat.mul_le_mul_right _ c'
            rw [Nat.add_mul] at this; omega
        rw [if_neg this]
        exact ⟨v, h3, hRD _ _ h4⟩⟩
end
end Go.Ab

/- The abstract machine: a row of the call's own handed over to a call that keeps it, and what comes back; rows cut and cleared. Conditions: none but those that stand in each law. -/
namespace Go.Ab
open Go Go.RowKit

def noId (k : Nat) (sl : SL) (hp : HL) : Bool := sl.all (fun p => p.2.ids.all (fun i => !Nat.beq i k)) && hp.all (fun p => match p.2 with | some e => e.ids.all (fun i => !Nat.beq i k) | none => true)

theorem noId_ne {k i : Nat} (h : (!Nat.beq i k) = true) : i ≠ k := fun c => by subst c; simp at h

section
variable {P : Program} {nt : Nat} {C : Cx P nt}

/-- fewer slots -/
theorem RelB.slots {sl sl' : SL} {hp : HL} {β : Nat → Option Nat} {a : Act} {w : World} (r : RelB C ⟨sl, hp⟩ β a w) (hs : HasS sl sl') : RelB C ⟨sl', hp⟩ β a w :=
  ⟨r.keep, r.low, r.inj, r.own, r.hp, fun t sv h => r.sl t sv (hs.mem (sget_mem h)), r.size, r.df, r.fx⟩

/-- a row that no slot and no cell names is another one now -/
theorem RelB.swap {sl : SL} {hp : HL} {β : Nat → Option Nat} {a : Act} {w w1 : World} (r : RelB C ⟨sl, hp⟩ β a w) {k : Nat} {e0 e : HE} {bo : Option Nat}
    (hk : hget hp k = some e0) (hrow0 : e0.isRow = true) (hno : noId k sl hp = true)
    (hos : w1.os = w.os) (htape : w1.tape = w.tape) (hout : w1.output = w.output) (hsize : w.heap.size ≤ w1.heap.size) (hblock : ∀ i, i < w.heap.size → some i ≠ β k → w1.heap[i]? = w.heap[i]?)
    (hcell : ∀ b o x, β k = some b → w.cell? ⟨b, o, none⟩ = some x → ¬ e0.mutAt o → w1.cell? ⟨b, o, none⟩ = some x)
    (hbo : ∀ b, bo = some b → (β k = some b ∧ ∀ o, e.mutAt o → e0.mutAt o) ∨ (w.heap.size ≤ b ∧ b < w1.heap.size))
    (hH : (∀ u d, RD (Mu C hp β) w u d → RD (Mu C ((k, some e) :: hp) (upd β k bo)) w1 u d) → HR C ((k, some e) :: hp) (upd β k bo) w1 k e) :
    RelB C ⟨sl, (k, some e) :: hp⟩ (upd β k bo) a w1 := by
  have hget' : ∀ k' e', k' ≠ k → hget hp k' = some e' → hget ((k, some e) :: hp) k' = some e' ∧ upd β k bo k' = β k' := fun k' e' hn h =>
    ⟨by rw [hget_cons, if_neg (fun c => hn c.symm)]; exact h, by simp [upd, hn]⟩
  have hoth : ∀ k' e' b o, k' ≠ k → hget hp k' = some e' → β k' = some b → w.heap[b]? = some o → w1.heap[b]? = some o := fun k' e' b o hn h hb ho => by
    rw [hblock b (Array.getElem?_eq_some_iff.1 ho).1 (fun c => hn (r.inj k' k e' e0 b h hk hb c.symm))]
    exact ho
  have hst : ∀ b o x, ¬ Mu C hp β b o → w.cell? ⟨b, o, none⟩ = some x → w1.cell? ⟨b, o, none⟩ = some x ∧ ¬ Mu C ((k, some e) :: hp) (upd β k bo) b o := by
    intro b o x hn hx
    have hlt := cell_lt hx
    constructor
    · by_cases hb : some b = β k
      · exact hcell b o x hb.symm hx (fun c => hn (.inr ⟨k, e0, hk, hb.symm, c⟩))
      · rw [World.cell?_of_block (w := w) (a := ⟨b, o, none⟩) (hblock b hlt hb)]; exact hx
    · rintro (hM | ⟨k', e', he', hb', hm'⟩)
      · exact hn (.inl hM)
      · rw [hget_cons] at he'
        by_cases hkk : k = k'
        · subst hkk
          rw [if_pos rfl] at he'
          cases he'
          simp only [upd, if_true] at hb'
          rcases hbo b hb' with ⟨h1, h2⟩ | ⟨h1, h2⟩
          · exact hn (.inr ⟨k, e0, hk, h1, h2 o hm'⟩)
          · omega
        · rw [if_neg hkk] at he'
          simp only [upd, if_neg (fun c => hkk (Eq.symm c))] at hb'
          exact hn (.inr ⟨k', e', he', hb', hm'⟩)
  have hRD : ∀ u d, RD (Mu C hp β) w u d → RD (Mu C ((k, some e) :: hp) (upd β k bo)) w1 u d := fun u d h => h.mono hst
  have hBR : ∀ c u, (∀ i, i ∈ c.ids → (!Nat.beq i k) = true) → BR C hp β w c u → BR C ((k, some e) :: hp) (upd β k bo) w1 c u := by
    intro c u hid h
    refine BR.kept hst (fun k' hk' e' he' hr => ?_) (fun k' es0 u hc h => ?_) h
    · have c : k' ≠ k := fun c => by subst c; rw [hk] at he'; cases he'; rw [hrow0] at hr; cases hr
      exact ⟨⟨e', (hget' k' e' c he').1, hr⟩, (hget' k' e' c he').2⟩
    · have c : k' ≠ k := noId_ne (hid k' (by rcases hc with rfl | ⟨_, rfl⟩ <;> simp [BV.ids]))
      obtain ⟨T, size, es, ex, hh, hl, hr⟩ := h
      have h2 := hget' k' _ c hh
      refine ⟨T, size, es, ex, h2.1, hl, fun hq => (hr hq).imp (fun ⟨h1, h3⟩ => ⟨h2.2.trans h1, h3⟩) ?_⟩
      rintro ⟨b, cap, cur, q1, q2, q3, q4, q5, q6⟩
      exact ⟨b, cap, cur, h2.2.trans q1, q2, q3, q4, hoth k' _ b _ c hh q1 q5, q6⟩
  simp only [noId, Bool.and_eq_true, List.all_eq_true] at hno
  refine ⟨?_, r.low, ?_, ?_, ?_, ?_, r.size, r.df, fun b hb => ?_⟩
  · refine ⟨hos.trans r.keep.os, htape.trans r.keep.tape, hout.trans r.keep.output, Nat.le_trans r.keep.size hsize, fun i hi hK => ?_⟩
    rw [hblock i (Nat.lt_of_lt_of_le hi r.keep.size) (fun c => ?_)]
    · exact r.keep.block i hi hK
    · rcases (r.own k e0 i hk c.symm).1 with h1 | h1
      · omega
      · exact hK h1
  · intro k1 k2 e1 e2 b h1 h2 hb1 hb2
    simp only [hget_cons] at h1 h2
    by_cases c1 : k = k1 <;> by_cases c2 : k = k2
    · omega
    · subst c1
      rw [if_neg c2] at h2
      simp only [upd, if_true] at hb1
      simp only [upd, if_neg (fun c => c2 (Eq.symm c))] at hb2
      rcases hbo b hb1 with ⟨h3, _⟩ | ⟨h3, _⟩
      · exact r.inj k k2 e0 e2 b hk h2 h3 hb2
      · have h4 := (r.own k2 e2 _ h2 hb2).2
        omega
    · subst c2
      rw [if_neg c1] at h1
      simp only [upd, if_true] at hb2
      simp only [upd, if_neg (fun c => c1 (Eq.symm c))] at hb1
      rcases hbo b hb2 with ⟨h3, _⟩ | ⟨h3, _⟩
      · exact r.inj k1 k e1 e0 b h1 hk hb1 h3
      · have h4 := (r.own k1 e1 _ h1 hb1).2
        omega
    · rw [if_neg c1] at h1
      rw [if_neg c2] at h2
      simp only [upd, if_neg (fun c => c1 (Eq.symm c))] at hb1
      simp only [upd, if_neg (fun c => c2 (Eq.symm c))] at hb2
      exact r.inj k1 k2 e1 e2 b h1 h2 hb1 hb2
  · intro k1 e1 b h1 hb1
    simp only [hget_cons] at h1
    by_cases c1 : k = k1
    · subst c1
      simp only [upd, if_true] at hb1
      rcases hbo b hb1 with ⟨h3, _⟩ | ⟨h3, h4⟩
      · have := r.own k e0 b hk h3
        exact ⟨this.1, Nat.lt_of_lt_of_le this.2 hsize⟩
      · exact ⟨.inl (Nat.le_trans r.keep.size h3), h4⟩
    · rw [if_neg c1] at h1
      simp only [upd, if_neg (fun c => c1 (Eq.symm c))] at hb1
      exact ⟨(r.own k1 e1 b h1 hb1).1, Nat.lt_of_lt_of_le (r.own k1 e1 b h1 hb1).2 hsize⟩
  · intro k1 e1 h1
    simp only [hget_cons] at h1
    by_cases c1 : k = k1
    · subst c1
      rw [if_pos rfl] at h1
      cases h1
      exact hH hRD
    · rw [if_neg c1] at h1
      have c1' : k1 ≠ k := fun c => c1 c.symm
      have h2 := hget' k1 e1 c1' h1
      have h3 := r.hp k1 e1 h1
      cases e1 with
      | blk T cs =>
        obtain ⟨b, arr, q1, q2, q3, q4⟩ := h3
        refine ⟨b, arr, h2.2.trans q1, hoth k1 _ b _ c1' h1 q1 q2, q3, fun j c hc => let ⟨u, hu, ho, hr⟩ := q4 j c hc; ⟨u, hu, ho, hBR c u (fun i hi => ?_) hr⟩⟩
        have := hno.2 _ (hget_mem h1)
        simp only [HE.ids, List.all_eq_true] at this
        exact this i (List.mem_flatMap.2 ⟨c, List.mem_of_getElem? hc, hi⟩)
      | row T size es ex =>
        obtain ⟨hz, hs, hr⟩ := h3
        refine ⟨hz, hs, hr.imp (fun ⟨q1, q2⟩ => ⟨h2.2.trans q1, q2⟩) ?_⟩
        rintro ⟨b, cur, q1, q2, q3, q4⟩
        exact ⟨b, cur, h2.2.trans q1, hoth k1 _ b _ c1' h1 q1 q2, q3, fun i cs j d hi hj => let ⟨u, hu, hr⟩ := q4 i cs j d hi hj; ⟨u, hu, hr.mono hst⟩⟩
      | it s pos =>
        obtain ⟨b, q1, q2⟩ := h3
        exact ⟨b, h2.2.trans q1, hoth k1 _ b _ c1' h1 q1 q2⟩
      | bld T E kk s =>
        obtain ⟨q0, b, p, v, q1, q2, q3, q4, q5⟩ := h3
        have ckk : kk ≠ k := by
          have := hno.2 _ (hget_mem h1)
          simp only [HE.ids, List.all_eq_true] at this
          exact noId_ne (this kk (by simp))
        have q0' := hget' kk _ ckk q0
        exact ⟨q0'.1, b, p, v, h2.2.trans q1, q2, hoth k1 _ b _ c1' h1 q1 q3, ownsRow_of_block q4 (fun g hg => by
          obtain ⟨o, ho⟩ : ∃ o, w.heap[g]? = some o := ⟨_, Array.getElem?_eq_getElem (ownsRow_lt q4 hg)⟩
          rw [ho]; exact hoth kk _ g o ckk q0 (q5.symm.trans hg) ho), q5.trans q0'.2.symm⟩
      | hid _ _ => trivial
  · intro t sv hs
    have h1 := r.sl t sv hs
    have h2 := hno.1 _ (sget_mem hs)
    cases sv with
    | one b => exact hBR _ _ (fun i hi => h2 i hi) h1
    | tup l =>
      obtain ⟨us, q1, q2, q3⟩ := h1
      exact ⟨us, q1, q2, fun i b hi => let ⟨x, hx, hr⟩ := q3 i b hi; ⟨x, hx, hBR _ _ (fun j hj => h2 j (List.mem_flatMap.2 ⟨b, List.mem_of_getElem? hi, hj⟩)) hr⟩⟩
    | dead => trivial
  · obtain ⟨f1, f2⟩ := r.fx b hb
    have c : k ≠ 0 := fun c => by
      subst c
      have h1 := f2 e0 hk
      rw [hrow0] at h1; cases h1
    exact ⟨by simp only [upd, if_neg (Ne.symm c)]; exact f1, fun e1 he => by rw [hget_cons, if_neg c] at he; exact f2 e1 he⟩

/-- operands of a call that a row is handed to -/
inductive EvX (P : Program) : List Operand → List RG → List (Nat × SV) → List (Nat × Option HE) → Prop
  | nil : EvX P [] [] [] []
  | g {x : Operand} {g : AG} {R Rs : List (Nat × SV)} {Rhs : List (Nat × Option HE)} {xs : List Operand} {gs : List RG} (h : Ev x (.g g) R) (t : EvX P xs gs Rs Rhs) : EvX P (x :: xs) (.g g :: gs) (R ++ Rs) Rhs
  | sem {x : Operand} {Φ : List AG → Value → Prop} {R Rs : List (Nat × SV)} {Rhs : List (Nat × Option HE)} {xs : List Operand} {gs : List RG} (h : Ev x (.sem Φ) R) (t : EvX P xs gs Rs Rhs) : EvX P (x :: xs) (.sem Φ :: gs) (R ++ Rs) Rhs
  | clo {x : Operand} {f : Nat} {ks : List Nat} {gs0 : List RG} {Φ : List AG → Value → Prop} {R Rs : List (Nat × SV)} {Rh Rhs : List (Nat × Option HE)} {xs : List Operand} {gs : List RG} (h : Ev x (.clo f ks) R) (hc : EvC ks gs0 Rh) (hcf : CallF P f)
      (hΦ : ∀ args v, Φ args v → Ct P f (args.map .g ++ gs0) (.one (.d (.v v)))) (t : EvX P xs gs Rs Rhs) : EvX P (x :: xs) (.sem Φ :: gs) (R ++ Rs) (Rh ++ Rhs)

theorem EvX.ok {sl : SL} {hp : HL} {β : Nat → Option Nat} {a : Act} {w : World} {xs : List Operand} {gs : List RG} {R : List (Nat × SV)} {Rh : List (Nat × Option HE)} {kk T size : Nat} {es : List (List DV)}
    (hx : EvX P xs gs R Rh) (hs : HasS sl R) (hh : HasH hp Rh) (r : RelB C ⟨sl, hp⟩ β a w) (hk : hget hp kk = some (.row T size es true)) :
    (xs.map a.eval).length = gs.length ∧ ∀ (i : Nat) (g : RG) (v : Value), gs[i]? = some g → (xs.map a.eval)[i]? = some v → ArgR P (fun b o => Mu C hp β b o ∧ β kk ≠ some b) (fun b => β kk = some b) w g v := by
  have hmu : ∀ b o, (Mu C hp β b o ∧ β kk ≠ some b) ∨ β kk = some b → Mu C hp β b o := fun b o c => c.elim (fun c => c.1) fun c => .inr ⟨kk, _, hk, c, .inl rfl⟩
  induction hx with
  | nil => exact ⟨rfl, fun i g v h => by simp at h⟩
  | g h t ih =>
    obtain ⟨h3, h4⟩ := ih hs.app.2 hh
    refine ⟨by simpa using h3, fun i g v hg hv => ?_⟩
    cases i with
    | zero => simp at hg hv; subst hg hv; exact GR.less hmu (h.ok hs.app.1 r)
    | succ i => exact h4 i g v (by simpa using hg) (by simpa using hv)
  | sem h t ih =>
    obtain ⟨h3, h4⟩ := ih hs.app.2 hh
    refine ⟨by simpa using h3, fun i g v hg hv => ?_⟩
    cases i with
    | zero =>
      simp at hg hv; subst hg hv
      obtain ⟨f, caps, hu, hcf, hf⟩ := (h.ok hs.app.1 r : SemFn P C.w0 C.K _ _)
      refine ⟨f, caps, hu, hcf, fun w'' hb' => hf w'' ⟨hb'.os.trans r.keep.os, hb'.tape.trans r.keep.tape, hb'.output.trans r.keep.output, Nat.le_trans r.keep.size hb'.size, fun q hq hK => ?_⟩⟩
      rw [hb'.block q (Nat.lt_of_lt_of_le hq r.keep.size) (fun c => ?_)]
      · exact r.keep.block q hq hK
      · rcases (r.own kk _ q hk c).1 with h6 | h6
        · omega
        · exact hK h6
    | succ i => exact h4 i g v (by simpa using hg) (by simpa using hv)
  | clo h hc hcf hΦ t ih =>
    obtain ⟨h3, h4⟩ := ih hs.app.2 hh.app.2
    refine ⟨by simpa using h3, fun i g v hg hv => ?_⟩
    cases i with
    | zero =>
      simp at hg hv; subst hg hv
      exact clo_sem r (h.ok hs.app.1 r) hc hh.app.1 (fun b hb => ⟨kk, T, size, es, true, hk, hb⟩) (fun b hb o => hmu b o (.inr hb)) hcf hΦ
    | succ i => exact h4 i g v (by simpa using hg) (by simpa using hv)

end

section
variable {P : Program} {nt : Nat} {C : Cx P nt} {Q0 : Exit → Act → World → Prop} {k : List KI} {dst : Nat} {ty : TypeId} {pos : String} {af : Array Edge} {x y z : Operand} {R R1 R2 R3 : List (Nat × SV)}

/-- a row of the call's own alone is handed to a call that keeps it; what comes back takes its place -/
theorem G.callRow {ops : Array Oper} {rest : List Oper} {sl sl' : SL} {hp : HL} {f T size kk : Nat} {xs : List Operand} {tys : Array TypeId} {args : List RG} {es es' : List (List DV)} {Rh : List (Nat × Option HE)} (hc : CallF P f) (hct : Ct P f (.row T size es :: args) (.new T size es'))
    (hx : Ev x (.own kk es) R1) (hxs : EvX P xs args R2 Rh) (hd : Nat.blt dst nt = true) (hs : HasS sl (R1 ++ R2)) (hh : HasH hp ((kk, some (.row T size es true)) :: Rh)) (hsl : HasS sl sl') (hno : noId kk sl' hp = true)
    (hk : G C Q0 (.l ops rest :: k) ⟨(dst, .one (.own kk es')) :: sl', (kk, some (.row T size es' true)) :: hp⟩) :
    G C Q0 (.l ops (Oo dst (cCall f (x :: xs) tys) ty pos af none :: rest) :: k) ⟨sl, hp⟩ := ⟨fun a w ⟨β, r⟩ => by
  have hu := hx.ok hs.app.1 r
  obtain ⟨_, _, _, _, h1, _, h2⟩ := id hu
  rw [hh.1] at h1; cases h1
  have h2 := h2 rfl
  obtain ⟨hz, hsz, hr⟩ := r.hp kk _ hh.1
  have hmuk : ∀ b, β kk = some b → ∀ o, Mu C hp β b o := fun b hb o => .inr ⟨kk, _, hh.1, hb, .inl rfl⟩
  have hmu : ∀ b b' o, β kk = some b → ((Mu C hp β b' o ∧ β kk ≠ some b') ∨ b' = b) → Mu C hp β b' o := fun b b' o hb c => c.elim (fun c => c.1) fun c => by subst c; exact hmuk _ hb o
  obtain ⟨hxl, hxa⟩ := hxs.ok hs.app.2 hh.2 r hh.1
  have hcall := hct.go (fun b o => Mu C hp β b o ∧ β kk ≠ some b) (fun b => β kk = some b) w (a.eval x :: xs.map a.eval) (fun b o c => ⟨r.mut_lt c.1, c.2⟩)
    (fun b hb => by
      rcases h2 with ⟨h3, _⟩ | ⟨b', cap, cur, h3, h4, _⟩
      · rw [hb] at h3; cases h3
      · rw [hb] at h3; cases h3
        exact ⟨0, T, size, es, cap, rfl, by simp [h4]⟩)
    (by simpa using hxl)
    (fun i g v hg hv => by
      cases i with
      | succ i => exact hxa i g v (by simpa using hg) (by simpa using hv)
      | zero =>
        simp at hg hv; subst hg hv
        refine ⟨hz, hsz, ?_⟩
        rcases h2 with ⟨_, h3, h4⟩ | ⟨b, cap, cur, hb, hu', hle, hcm, hheap, hcs⟩
        · exact .inl ⟨h3, h4⟩
        · rcases hr with ⟨q1, _⟩ | ⟨b', cur', q1, q2, q3, q4⟩
          · rw [hb] at q1; cases q1
          · rw [hb] at q1; cases q1
            rw [hheap] at q2; cases q2
            exact .inr ⟨b, cap, cur, hb, (r.own kk _ b hh.1 hb).2, hu', hle, hcm, hheap, hcs, fun i cs j d hi hj => let ⟨v, p1, p2⟩ := q4 i cs j d hi hj; ⟨v, p1, p2.less fun b' o c => hmu b b' o hb c⟩⟩)
  change wpList P ops (Qof P Q0 k) _ a w
  refine wpList_plain rfl fun K hK => ?_
  unfold Oper.wp
  rw [run_call hc]
  refine hcall.mono ?_
  rintro e w' ⟨v, rfl, hkw, hz', hs', hres⟩
  have fin : ∀ bo : Option Nat, (∀ b, bo = some b → w.heap.size ≤ b ∧ b < w'.heap.size ∨ β kk = some b) →
      ((bo = none ∧ es' = [] ∧ ∃ ad, v = .slice ad 0 0) ∨ ∃ b cap cur, bo = some b ∧ v = .slice (some ⟨b, 0, none⟩) es'.length cap ∧ es'.length ≤ cap ∧ cap ≤ maxLen ∧ w'.heap[b]? = some (.cells cur T (0, 0)) ∧ cur.size = cap * size ∧
        ∀ (i : Nat) (cs : List DV) (j : Nat) (d : DV), es'[i]? = some cs → cs[j]? = some d → ∃ u, cur[i * size + j]? = some u ∧ RD (fun b' o => (Mu C hp β b' o ∧ β kk ≠ some b') ∨ b' = b) w' u d) → K (a.put (some dst) v) w' := by
    intro bo hbo hv
    refine hK _ _ (hk.go _ _ ⟨upd β kk bo, ?_⟩)
    have hmu' : ∀ b, bo = some b → ∀ b' o, Mu C ((kk, some (HE.row T size es' true)) :: hp) (upd β kk bo) b' o → (Mu C hp β b' o ∧ β kk ≠ some b') ∨ b' = b := by
      rintro b hb b' o (hM | ⟨k', e', he', hb', hm'⟩)
      · refine .inl ⟨.inl hM, fun c => ?_⟩
        obtain ⟨h4, h5⟩ := r.low b' o hM
        rcases (r.own kk _ b' hh.1 c).1 with h6 | h6
        · omega
        · exact h5 h6
      · rw [hget_cons] at he'
        by_cases hkk : kk = k'
        · subst hkk; simp only [upd, if_true] at hb'; rw [hb] at hb'; cases hb'; exact .inr rfl
        · rw [if_neg hkk] at he'
          simp only [upd, if_neg (fun c => hkk (Eq.symm c))] at hb'
          exact .inl ⟨.inr ⟨k', e', he', hb', hm'⟩, fun c => hkk (r.inj kk k' _ e' b' hh.1 he' c hb')⟩
    have hsw := (r.slots hsl).swap (w1 := w') (e := .row T size es' true) (bo := bo) hh.1 rfl hno hkw.os hkw.tape hkw.output hkw.size (fun i hi hne => hkw.block i hi (fun c => hne c.symm)) (fun _ _ _ _ _ hnm => absurd (.inl rfl) hnm)
      (fun b hb => (hbo b hb).elim (fun c => .inr c) fun c => .inl ⟨c, fun o _ => .inl rfl⟩)
      (fun _ => ⟨hz', hs', hv.imp (fun ⟨p1, p2, _⟩ => ⟨by simp [upd, p1], p2⟩) fun ⟨b, cap, cur, p1, p2, p3, p4, p5, p6, p7⟩ => ⟨b, cur, by simp [upd, p1], p5, by rw [p6]; exact Nat.mul_le_mul_right _ p3, fun i cs j d hi hj => let ⟨u, q1, q2⟩ := p7 i cs j d hi hj; ⟨u, q1, q2.less (hmu' b p1)⟩⟩⟩)
    refine hsw.put (sv := .one (.own kk es')) (Below.refl _ _) (by simpa using hd) ⟨T, size, es', true, by rw [hget_cons, if_pos rfl], Nat.le_refl _, fun _ => ?_⟩
    exact hv.imp (fun ⟨p1, p2, p3⟩ => ⟨by simp [upd, p1], p2, p3⟩) fun ⟨b, cap, cur, p1, p2, p3, p4, p5, p6, p7⟩ => ⟨b, cap, cur, by simp [upd, p1], p2, p3, p4, p5, p6⟩
  rcases hres with ⟨h3, h4⟩ | ⟨b, cap, cur, hB, hlt, hv, hle, hcm, hheap, hcs, hel⟩
  · exact fin none (fun b hb => by cases hb) (.inl ⟨rfl, h3, h4⟩)
  · exact fin (some b) (fun b' hb' => by cases hb'; exact hB.imp (fun c => ⟨c, hlt⟩) id) (.inr ⟨b, cap, cur, rfl, hv, hle, hcm, hheap, hcs, hel⟩)⟩

end
end Go.Ab

/- The abstract machine: rows of the call's own alone, spliced, cleared and cut; a contract of a call that keeps a row. Conditions: none but those that stand in each law. -/
namespace Go.Ab
open Go Go.RowKit

def spliceR (es : List (List DV)) (lo : Nat) (news : List (List DV)) : List (List DV) := es.take lo ++ news ++ es.drop (lo + news.length)

theorem spliceR_length {es news : List (List DV)} {lo : Nat} (h : lo + news.length ≤ es.length) : (spliceR es lo news).length = es.length := by
  simp only [spliceR, List.length_append, List.length_take, List.length_drop]; omega

theorem spliceR_at {es news : List (List DV)} {lo : Nat} (h : lo + news.length ≤ es.length) (i : Nat) : (spliceR es lo news)[i]? = if lo ≤ i ∧ i < lo + news.length then news[i - lo]? else es[i]? := by
  simp only [spliceR]
  by_cases c1 : i < lo
  · rw [List.append_assoc, List.getElem?_append_left (by simp; omega), List.getElem?_take, if_pos c1, if_neg (by omega)]
  · by_cases c2 : i < lo + news.length
    · rw [List.append_assoc, List.getElem?_append_right (by simp; omega), List.getElem?_append_left (by simp; omega), if_pos ⟨by omega, c2⟩]
      congr 1; simp; omega
    · rw [List.getElem?_append_right (by simp; omega), List.getElem?_drop, if_neg (by omega)]
      congr 1; simp; omega

section
variable {P : Program} {nt : Nat} {C : Cx P nt}

/-- elements of a row are written over -/
theorem RelB.spliced {sl : SL} {hp : HL} {β : Nat → Option Nat} {a : Act} {w : World} (r : RelB C ⟨sl, hp⟩ β a w) {kk E size b lo : Nat} {es news : List (List DV)} {cur : Array Value} {vs : List Value}
    (hh : hget hp kk = some (.row E size es true)) (hb : β kk = some b) (hheap : w.heap[b]? = some (.cells cur E (0, 0))) (hlo : lo + news.length ≤ es.length) (hvl : vs.length = news.length * size) (hns : ∀ cs, cs ∈ news → cs.length = size)
    (hv : ∀ (i : Nat) (cs : List DV) (j : Nat) (d : DV), news[i]? = some cs → cs[j]? = some d → ∃ v, vs[i * size + j]? = some v ∧ RD (Mu C hp β) w v d) (hone : ∀ v, v ∈ vs → v.oneCell' = true) :
    (storeCells ⟨b, lo * size, none⟩ vs).run P w = .ok () (w.setRow b (List.take (lo * size) cur.toList ++ vs ++ List.drop (lo * size + vs.length) cur.toList).toArray) ∧
    RelB C ⟨sl, (kk, some (.row E size (spliceR es lo news) true)) :: hp⟩ (upd β kk (β kk)) a (w.setRow b (List.take (lo * size) cur.toList ++ vs ++ List.drop (lo * size + vs.length) cur.toList).toArray) := by
  obtain ⟨hsz0, hsz, hr⟩ := r.hp kk _ hh
  rcases hr with ⟨h1, _⟩ | ⟨b', cur', q1, q2, hcl, hel⟩
  · rw [hb] at h1; cases h1
  rw [hb] at q1; cases q1
  rw [hheap] at q2; cases q2
  have hfit : lo * size + vs.length ≤ cur.size := by
    have : (lo + news.length) * size ≤ es.length * size := Nat.mul_le_mul_right _ hlo
    rw [Nat.add_mul] at this
    omega
  have hst := run_storeCells_at P b (lo * size) E vs 0 cur w hheap (by simpa using hfit) hone
  simp only [Nat.add_zero] at hst
  refine ⟨hst, ?_⟩
  generalize hw1 : w.setRow b (List.take (lo * size) cur.toList ++ vs ++ List.drop (lo * size + vs.length) cur.toList).toArray = w1 at hst
  have hnew : w1.heap[b]? = some (.cells (List.take (lo * size) cur.toList ++ vs ++ List.drop (lo * size + vs.length) cur.toList).toArray E) := by rw [← hw1]; exact setRow_heap w b cur _ E _ hheap
  have hoth : ∀ q, q ≠ b → w1.heap[q]? = w.heap[q]? := fun q hq => by rw [← hw1]; exact setRow_other w b q _ hq
  have hsize : w1.heap.size = w.heap.size := by rw [← hw1]; simp [World.setRow]
  have hcurL : cur.toList.length = cur.size := Array.length_toList
  have hcur : ∀ q : Nat, (List.take (lo * size) cur.toList ++ vs ++ List.drop (lo * size + vs.length) cur.toList).toArray[q]? = if lo * size ≤ q ∧ q < lo * size + vs.length then vs[q - lo * size]? else cur[q]? := by
    intro q
    rw [List.getElem?_toArray, splice_get cur.toList (lo * size) vs (by omega)]
    simp
  have hcurs : (List.take (lo * size) cur.toList ++ vs ++ List.drop (lo * size + vs.length) cur.toList).toArray.size = cur.size := by
    simp only [List.size_toArray, List.length_append, List.length_take, List.length_drop, hcurL]
    omega
  have hlen := spliceR_length hlo
  refine (r.chg (e := .row E size (spliceR es lo news) true) (bo := β kk) hh (by rw [← hw1]; rfl) (by rw [← hw1]; rfl) (by rw [← hw1]; rfl) (by omega) (fun q _ hq => hoth q (fun c => hq (by rw [c, hb]))) (fun _ o x _ _ hnm => absurd (.inl rfl) hnm)
    (.inl ⟨rfl, fun o ho => .inl rfl⟩) ⟨rfl, fun _ => rfl⟩ (fun es0 u h => ?_) (fun _ hRD => ?_)).1
  · obtain ⟨_, _, _, _, h5, h6, h7⟩ := h
    rw [hh] at h5; cases h5
    refine ⟨E, size, spliceR es lo news, true, by rw [hget_cons, if_pos rfl], by rw [hlen]; exact h6, fun hq => ?_⟩
    rw [hlen] at hq ⊢
    rcases h7 hq with ⟨h8, _⟩ | ⟨b', cap', cur', h8, h9, h10, h11, h12, h13⟩
    · rw [hb] at h8; cases h8
    · rw [hb] at h8; cases h8
      rw [hheap] at h12; cases h12
      exact .inr ⟨b, cap', _, by simp [upd, hb], h9, h10, h11, hnew, by rw [hcurs]; exact h13⟩
  · refine ⟨hsz0, fun cs hcs' => ?_, .inr ⟨b, _, by simp [upd, hb], hnew, by rw [hlen, hcurs]; exact hcl, fun i cs j d hi hj => ?_⟩⟩
    · rcases List.mem_append.1 hcs' with h5 | h5
      · rcases List.mem_append.1 h5 with h5 | h5
        · exact hsz cs (List.mem_of_mem_take h5)
        · exact hns cs h5
      · exact hsz cs (List.mem_of_mem_drop h5)
    · rw [spliceR_at hlo] at hi
      rw [hcur]
      by_cases c : lo ≤ i ∧ i < lo + news.length
      · rw [if_pos c] at hi
        obtain ⟨v, h3, h4⟩ := hv _ cs j d hi hj
        have hj' : j < size := by rw [← hns cs (List.mem_of_getElem? hi)]; exact (List.getElem?_eq_some_iff.1 hj).1
        have e1 : (i - lo) * size + j = i * size + j - lo * size := by
          have : lo * size ≤ i * size := Nat.mul_le_mul_right _ c.1
          rw [Nat.sub_mul]; omega
        have h5 : (i - lo + 1) * size ≤ news.length * size := Nat.mul_le_mul_right _ (by omega)
        rw [Nat.add_mul, Nat.sub_mul] at h5
        have : lo * size ≤ i * size := Nat.mul_le_mul_right _ c.1
        rw [if_pos ⟨by omega, by omega⟩, ← e1]
        exact ⟨v, h3, hRD _ _ h4⟩
      · rw [if_neg c] at hi
        obtain ⟨v, h3, h4⟩ := hel i cs j d hi hj
        have hj' : j < size := by rw [← hsz cs (List.mem_of_getElem? hi)]; exact (List.getElem?_eq_some_iff.1 hj).1
        have : ¬ (lo * size ≤ i * size + j ∧ i * size + j < lo * size + vs.length) := by
          rintro ⟨q1, q2⟩
          rw [hvl] at q2
          rcases Nat.lt_or_ge i lo with c' | c'
          · have : (i + 1) * size ≤ lo * size := Nat.mul_le_mul_right _ c'
            rw [Nat.add_mul] at this; omega
          · have : (lo + news.length) * size ≤ i * size := Nat.mul_le_mul_right _ (by omega)
            rw [Nat.add_mul] at this; omega
        rw [if_neg this]
        exact ⟨v, h3, hRD _ _ h4⟩

theorem zero_at (z : Array Value) (m size i j : Nat) (hz : z.size = size) (hi : i < m) (hj : j < size) : (Builtin.zeroCells z m).toList[i * size + j]? = z[j]? := by
  have h5 : (i + 1) * size ≤ m * size := Nat.mul_le_mul_right _ hi
  rw [Nat.add_mul] at h5
  have hlt : i * size + j < m * size := by omega
  have e : (i * size + j) % size = j := by rw [Nat.mul_comm, Nat.mul_add_mod]; exact Nat.mod_eq_of_lt hj
  simp only [Builtin.zeroCells, hz]
  simp [hlt, e, hj, hz]

end

section
variable {P : Program} {nt : Nat} {C : Cx P nt} {Q0 : Exit → Act → World → Prop} {k : List KI} {dst : Nat} {ty : TypeId} {pos : String} {af : Array Edge} {x y z : Operand} {R R1 R2 R3 : List (Nat × SV)}

theorem own_any {sl : SL} {hp : HL} {β : Nat → Option Nat} {a : Act} {w : World} (_r : RelB C ⟨sl, hp⟩ β a w) {kk T size : Nat} {es : List (List DV)} {ex : Bool} {u : Value} (hk : hget hp kk = some (.row T size es ex)) (hu : BR C hp β w (.own kk es) u) :
    (β kk = none ∧ es = [] ∧ ∃ ad, u = .slice ad 0 0) ∨ ∃ b cap cur, β kk = some b ∧ u = .slice (some ⟨b, 0, none⟩) es.length cap ∧ es.length ≤ cap ∧ cap ≤ maxLen ∧ w.heap[b]? = some (.cells cur T (0, 0)) ∧ cur.size = cap * size := by
  obtain ⟨_, _, _, _, h1, _, h2⟩ := hu
  rw [hk] at h1
  cases h1
  exact h2 rfl

/-- 'l[:n]' of a row of the call's own alone: it is that row, shorter -/
theorem G.cutRow {ops : Array Oper} {rest : List Oper} {sl sl' : SL} {hp : HL} {T E T' size bytes kk : Nat} {zz : Value} {es es' : List (List DV)} {n : Int} (hT : P.underlying T = some (.slice E)) (hI : Info P E zz size bytes)
    (h0 : 0 ≤ n) (h1 : n ≤ es.length) (he : es.take n.toNat = es')
    (hx : Ev x (.own kk es) R1) (hy : Ev y (bI .i64 n) R2) (hd : Nat.blt dst nt = true) (hs : HasS sl (R1 ++ R2)) (hh : hget hp kk = some (.row T' size es true)) (hsl : HasS sl sl') (hno : noId kk sl' hp = true)
    (hk : G C Q0 (.l ops rest :: k) ⟨(dst, .one (.own kk es')) :: sl', (kk, some (.row T' size es' true)) :: hp⟩) :
    G C Q0 (.l ops (Oo dst (.slice T x none (some y) none) ty pos af none :: rest) :: k) ⟨sl, hp⟩ := ⟨fun a w ⟨β, r⟩ => by
  subst he
  have hu := own_any r hh (hx.ok hs.app.1 r)
  have hv := BR.v_inv (hy.ok hs.app.2 r)
  obtain ⟨hz, hsz, hr⟩ := r.hp kk _ hh
  have hlen : (es.take n.toNat).length = n.toNat := by simp; omega
  have hsw := (r.slots hsl).swap (w1 := w) (e := .row T' size (es.take n.toNat) true) (bo := β kk) hh rfl hno rfl rfl rfl (Nat.le_refl _) (fun _ _ _ => rfl) (fun _ _ _ _ h _ => h)
    (fun b hb => .inl ⟨hb, fun o _ => .inl rfl⟩)
    (fun hRD => ⟨hz, fun cs hcs => hsz cs (List.mem_of_mem_take hcs), hr.imp (fun ⟨p1, p2⟩ => ⟨by simp [upd, p1], by simp [p2]⟩) fun ⟨b, cur, p1, p2, p3, p4⟩ => ⟨b, cur, by simp [upd, p1], p2, by
      have : (es.take n.toNat).length * size ≤ es.length * size := Nat.mul_le_mul_right _ (by rw [hlen]; omega)
      omega, fun i cs j d hi hj => by
      rw [List.getElem?_take] at hi
      split at hi
      · obtain ⟨u, q1, q2⟩ := p4 i cs j d hi hj
        exact ⟨u, q1, hRD _ _ q2⟩
      · cases hi⟩⟩)
  change wpList P ops (Qof P Q0 k) _ a w
  refine wpList_plain rfl fun K hK => ?_
  unfold Oper.wp
  rcases hu with ⟨hb, rfl, ad, hu⟩ | ⟨b, cap, cur, hb, hu, hle, hcm, hheap, hcs⟩
  · have hn0 : n = 0 := by simp at h1; omega
    subst hn0
    have e : (execOp a.eval (Oo dst (.slice T x none (some y) none) ty pos af none)).run P w = .ok (.value (.slice ad 0 0)) w := by
      have := run_bounds (P := P) (w := w) (b := true) (len := 0) (cap := 0) (lo := none) (hi := some 0) (by simp) (by simp) (by simp) (by simp)
      simp only [Option.map_none, Option.map_some, Option.getD_none, Option.getD_some] at this
      simp only [execOp, hu, hv, Option.map_none, Option.map_some, Instr.sliceAt, Sem.run_bind, run_underlying hT, Result.andThen_ok, Instr.slice, this, hI.sizeOf, Sem.run_pure]
      cases ad <;> simp
    rw [e]
    refine hK _ _ (hk.go _ _ ⟨_, hsw.put (sv := .one (.own kk [])) (Below.refl _ _) (by simpa using hd) ⟨T', size, [], true, by rw [hget_cons, if_pos rfl]; simp, Nat.le_refl _, fun _ => .inl ⟨by simp [upd, hb], rfl, ad, rfl⟩⟩⟩)
  · have e : (execOp a.eval (Oo dst (.slice T x none (some y) none) ty pos af none)).run P w = .ok (.value (.slice (some ⟨b, 0, none⟩) n.toNat cap)) w := by
      have := run_bounds (P := P) (w := w) (b := true) (len := es.length) (cap := cap) (lo := none) (hi := some n) (by simp) (by simpa using h0) (by simpa using h1) hle
      simp only [Option.map_none, Option.map_some, Option.getD_none, Option.getD_some] at this
      simp only [execOp, hu, hv, Option.map_none, Option.map_some, Instr.sliceAt, Sem.run_bind, run_underlying hT, Result.andThen_ok, Instr.slice, this, hI.sizeOf, Sem.run_pure]
      simp [Addr.add]
    rw [e]
    refine hK _ _ (hk.go _ _ ⟨_, hsw.put (sv := .one (.own kk (es.take n.toNat))) (Below.refl _ _) (by simpa using hd) ⟨T', size, _, true, by rw [hget_cons, if_pos rfl], Nat.le_refl _, fun _ => .inr ⟨b, cap, cur, by simp [upd, hb], by rw [hlen], by rw [hlen]; omega, hcm, hheap, hcs⟩⟩⟩)⟩

/-- 'clear(l[n:])' of a row of the call's own alone -/
theorem G.clearRow {ops : Array Oper} {rest : List Oper} {sl : SL} {hp : HL} {T E size bytes kk d1 : Nat} {zz : Value} {es es' : List (List DV)} {zs : List DV} {n : Int} {ty1 ty2 : TypeId} {pos1 pos2 : String} {af1 af2 : Array Edge}
    (hT : P.underlying T = some (.slice E)) (hI : Info P E zz size bytes) (hzl : ZL zz.cells.toList (dat zs)) (hzs : zs.length = size)
    (h0 : 0 ≤ n) (h1 : n ≤ es.length) (he : spliceR es n.toNat (List.replicate (es.length - n.toNat) zs) = es')
    (hx : Ev x (.own kk es) R1) (hy : Ev y (bI .i64 n) R2) (hd : Nat.blt d1 nt = true) (hs : HasS sl (R1 ++ R2)) (hh : hget hp kk = some (.row E size es true))
    (hk : G C Q0 (.l ops rest :: k) ⟨(d1, .dead) :: sl, (kk, some (.row E size es' true)) :: hp⟩) :
    G C Q0 (.l ops (Oo d1 (.slice T x (some y) none none) ty1 pos1 af1 none :: ⟨none, .call { callee := .builtin .clear, args := #[.tmp d1], argTypes := #[T] }, ty2, pos2, af2, none⟩ :: rest) :: k) ⟨sl, hp⟩ := ⟨fun a w ⟨β, r⟩ => by
  subst he
  have hu := own_any r hh (hx.ok hs.app.1 r)
  have hv := BR.v_inv (hy.ok hs.app.2 r)
  obtain ⟨hz, hsz, hr⟩ := r.hp kk _ hh
  have hd1' : d1 < nt := by simpa using hd
  obtain ⟨hzlen, hzc⟩ := ZL.br (C := C) (hp := hp) (β := β) (w := w) hzl
  change wpList P ops (Qof P Q0 k) _ a w
  refine wpList_plain rfl fun K1 hK1 => ?_
  unfold Oper.wp
  rcases hu with ⟨hb, rfl, ad, hu⟩ | ⟨b, cap, cur, hb, hu, hle, hcm, hheap, hcs⟩
  · have hn0 : n = 0 := by simp at h1; omega
    subst hn0
    have e : (execOp a.eval (Oo d1 (.slice T x (some y) none none) ty1 pos1 af1 none)).run P w = .ok (.value (.slice ad 0 0)) w := by
      have := run_bounds (P := P) (w := w) (b := true) (len := 0) (cap := 0) (lo := some 0) (hi := none) (by simp) (by simp) (by simp) (by simp)
      simp only [Option.map_none, Option.map_some, Option.getD_none, Option.getD_some] at this
      simp only [execOp, hu, hv, Option.map_none, Option.map_some, Instr.sliceAt, Sem.run_bind, run_underlying hT, Result.andThen_ok, Instr.slice, this, hI.sizeOf, Sem.run_pure]
      cases ad <;> simp
    rw [e]
    refine hK1 _ _ ?_
    refine wpList_plain rfl fun K hK => ?_
    unfold Oper.wp
    have e3 : (a.put (some d1) (.slice ad 0 0)).eval (.tmp d1) = .slice ad 0 0 := by
      simp only [Act.eval]; rw [getD_put, if_pos ⟨rfl, by rw [r.size]; exact hd1'⟩]
    have e4 : (execOp (a.put (some d1) (.slice ad 0 0)).eval ⟨none, .call { callee := .builtin .clear, args := #[.tmp d1], argTypes := #[T] }, ty2, pos2, af2, none⟩).run P w = .ok (.value (.tuple #[])) w := by
      cases ad <;> simp [execOp, resolve, e3, invoke, builtin, Builtin.clear_, run_underlying hT]
    rw [e4]
    refine hK _ _ (hk.go _ _ ⟨β, ((r.put (sv := .dead) (Below.refl _ _) hd1' trivial).ext (fun t sv h => h) fun k' => ?_)⟩)
    rw [hget_cons]; split
    · rename_i c; rw [← c, hh]; simp [spliceR]
    · rfl
  · have hbd := run_bounds (P := P) (w := w) (b := true) (len := es.length) (cap := cap) (lo := some n) (hi := none) (by simpa using h0) (by simpa using h1) (by simp) hle
    simp only [Option.map_none, Option.map_some, Option.getD_none, Option.getD_some, Int.toNat_natCast] at hbd
    obtain ⟨A, hA, e⟩ : ∃ A : Addr, (n.toNat < es.length → A = ⟨b, n.toNat * size, none⟩) ∧ (execOp a.eval (Oo d1 (.slice T x (some y) none none) ty1 pos1 af1 none)).run P w = .ok (.value (.slice (some A) (es.length - n.toNat) (cap - n.toNat))) w := by
      refine ⟨if cap = n.toNat then ⟨b, 0, none⟩ else ⟨b, n.toNat * size, none⟩, fun h => by rw [if_neg (by omega)], ?_⟩
      simp only [execOp, hu, hv, Option.map_none, Option.map_some, Instr.sliceAt, Sem.run_bind, run_underlying hT, Result.andThen_ok, Instr.slice, hbd, hI.sizeOf, Sem.run_pure]
      by_cases c : cap = n.toNat
      · simp [c]
      · simp only [if_neg c, Addr.add_lit, Nat.zero_add]
    rw [e]
    refine hK1 _ _ ?_
    refine wpList_plain rfl fun K hK => ?_
    unfold Oper.wp
    have e3 : (a.put (some d1) (.slice (some A) (es.length - n.toNat) (cap - n.toNat))).eval (.tmp d1) = .slice (some A) (es.length - n.toNat) (cap - n.toNat) := by
      simp only [Act.eval]; rw [getD_put, if_pos ⟨rfl, by rw [r.size]; exact hd1'⟩]
    have r1 := r.put (dst := d1) (v := .slice (some A) (es.length - n.toNat) (cap - n.toNat)) (sv := .dead) (Below.refl _ _) hd1' trivial
    have hzsz : zz.cells.size = size := by simpa [dat, hzs] using hzlen
    obtain ⟨hst, r2⟩ := r1.spliced (vs := (Builtin.zeroCells zz.cells (es.length - n.toNat)).toList) (news := List.replicate (es.length - n.toNat) zs) (lo := n.toNat) hh hb hheap (by simp; omega)
      (by simp [Builtin.zeroCells, hzsz]) (fun cs hcs => by rw [List.eq_of_mem_replicate hcs]; exact hzs)
      (fun i cs j d hi hj => by
        have hi' : i < es.length - n.toNat := by have := (List.getElem?_eq_some_iff.1 hi).1; simpa using this
        rw [List.getElem?_replicate, if_pos hi'] at hi
        cases hi
        have hj' : j < size := by rw [← hzs]; exact (List.getElem?_eq_some_iff.1 hj).1
        obtain ⟨u, q1, _, q3⟩ := hzc j (.g (.d d)) (by simp [dat, hj])
        exact ⟨u, by rw [zero_at _ _ size i j hzsz hi' hj']; simpa using q1, q3⟩)
      (fun v hv => by
        obtain ⟨q, hq, rfl⟩ := List.getElem_of_mem hv
        have hq' : q < (es.length - n.toNat) * size := by simpa [Builtin.zeroCells, hzsz] using hq
        have hj : q % size < size := Nat.mod_lt _ hz
        obtain ⟨u, q1, q2, _⟩ := hzc (q % size) (.g (.d zs[q % size])) (by simp [dat, hzs, hj])
        have : (Builtin.zeroCells zz.cells (es.length - n.toNat)).toList[q]? = some u := by
          have hi : q / size < es.length - n.toNat := Nat.div_lt_of_lt_mul (by rw [Nat.mul_comm]; exact hq')
          have := zero_at zz.cells (es.length - n.toNat) size (q / size) (q % size) hzsz hi hj
          rw [Nat.mul_comm, Nat.div_add_mod] at this
          rw [this]; simpa using q1
        rw [List.getElem?_eq_getElem hq] at this
        rw [Option.some.inj this]; exact q2)
    have e4 : (execOp (a.put (some d1) (.slice (some A) (es.length - n.toNat) (cap - n.toNat))).eval ⟨none, .call { callee := .builtin .clear, args := #[.tmp d1], argTypes := #[T] }, ty2, pos2, af2, none⟩).run P w =
        .ok (.value (.tuple #[])) (w.setRow b (List.take (n.toNat * size) cur.toList ++ (Builtin.zeroCells zz.cells (es.length - n.toNat)).toList ++ List.drop (n.toNat * size + (Builtin.zeroCells zz.cells (es.length - n.toNat)).toList.length) cur.toList).toArray) := by
      cases hm : es.length - n.toNat with
      | zero =>
        have hw : w.setRow b (List.take (n.toNat * size) cur.toList ++ (Builtin.zeroCells zz.cells 0).toList ++ List.drop (n.toNat * size + (Builtin.zeroCells zz.cells 0).toList.length) cur.toList).toArray = w := by
          rw [hm] at hst
          simpa [Builtin.zeroCells, storeCells] using hst.symm
        rw [hw]
        rw [hm] at e3
        simp [execOp, resolve, e3, invoke, builtin, Builtin.clear_, run_underlying hT]
      | succ m =>
        rw [hA (by omega)] at e3 ⊢
        rw [hm] at e3 hst
        simp [execOp, resolve, e3, invoke, builtin, Builtin.clear_, run_underlying hT, hI.zero, hst]
    rw [e4]
    exact hK _ _ (hk.go _ _ ⟨_, r2⟩)⟩

end

/-- A CONTRACT OUT OF A WALK, for a function that keeps the row it is handed first -/
theorem Ct.introRow {P : Program} {f : Nat} {fn : Func} {code : Code} {T size : Nat} {es : List (List DV)} {args : List RG} {res : RS} {n : Nat} (hf : P.funcs[f]? = some fn) (hb : fn.body = some code) (hn : fn.ntmps = n) (hle : Nat.ble (args.length + 1) n = true)
    (h : ∀ M K w, G (⟨w, M, K, none⟩ : Cx P n) (bodyPost P fn (PostR M K w res)) [.c code] ⟨(0, .one (.own 0 es)) :: slots0 1 args, [(0, some (.row T size es true))]⟩) : Ct P f (.row T size es :: args) res := by
  refine ⟨fun M K w vs hM hK hl hargs => ?_⟩
  have hle' : vs.length ≤ n := by rw [hl]; simpa using hle
  have hl' : vs.length = args.length + 1 := by simpa using hl
  obtain ⟨hz, hsz, hrow⟩ := hargs 0 _ vs[0] rfl (by simp [hl'])
  obtain ⟨bo, hbo, hv⟩ : ∃ bo : Option Nat, (∀ b, bo = some b → K b ∧ b < w.heap.size) ∧
      ((bo = none ∧ es = [] ∧ ∃ ad, vs[0] = .slice ad 0 0) ∨ ∃ b cap cur, bo = some b ∧ vs[0] = .slice (some ⟨b, 0, none⟩) es.length cap ∧ es.length ≤ cap ∧ cap ≤ maxLen ∧ w.heap[b]? = some (.cells cur T (0, 0)) ∧ cur.size = cap * size ∧
        ∀ (i : Nat) (cs : List DV) (j : Nat) (d : DV), es[i]? = some cs → cs[j]? = some d → ∃ u, cur[i * size + j]? = some u ∧ RD (fun b' o => M b' o ∨ b' = b) w u d) := by
    rcases hrow with ⟨h3, h4⟩ | ⟨b, cap, cur, hB, hlt, hv, hle, hcm, hheap, hcs, hel⟩
    · exact ⟨none, fun b hb => (by cases hb), .inl ⟨rfl, h3, h4⟩⟩
    · exact ⟨some b, fun b' hb' => by cases hb'; exact ⟨hB, hlt⟩, .inr ⟨b, cap, cur, rfl, hv, hle, hcm, hheap, hcs, hel⟩⟩
  have hget0 : ∀ k e, hget [(0, some (HE.row T size es true))] k = some e → k = 0 ∧ e = .row T size es true := fun k e h => by
    rw [hget_cons] at h
    split at h
    · rename_i c; cases h; exact ⟨c.symm, rfl⟩
    · cases h
  have hmu : ∀ b o, Mu (⟨w, M, K, none⟩ : Cx P n) [(0, some (HE.row T size es true))] (fun _ => bo) b o → M b o ∨ bo = some b := by
    rintro b o (c | ⟨_, _, _, c, _⟩)
    · exact .inl c
    · exact .inr c
  have hmuK : ∀ b o, Mu (⟨w, M, K, none⟩ : Cx P n) [(0, some (HE.row T size es true))] (fun _ => bo) b o → M b o ∨ K b := fun b o c => (hmu b o c).imp id fun c => (hbo b c).1
  refine calls_of_wp hf hb ?_
  refine (h M K w).go _ w ⟨fun _ => bo, ⟨⟨rfl, rfl, rfl, Nat.le_refl _, fun _ _ _ => rfl⟩, hM, fun k k' e e' b h1 h2 _ _ => ?_, fun k e b h1 h2 => ⟨.inr (hbo b h2).1, (hbo b h2).2⟩, fun k e h1 => ?_, fun t sv hs => ?_, ?_, rfl, fun _ hb => by cases hb⟩⟩
  · exact (hget0 k e h1).1.trans (hget0 k' e' h2).1.symm
  · obtain ⟨rfl, rfl⟩ := hget0 k e h1
    refine ⟨hz, hsz, hv.imp (fun ⟨p1, p2, _⟩ => ⟨p1, p2⟩) fun ⟨b, cap, cur, p1, p2, p3, p4, p5, p6, p7⟩ => ⟨b, cur, p1, p5, by rw [p6]; exact Nat.mul_le_mul_right _ p3, fun i cs j d hi hj => let ⟨u, q1, q2⟩ := p7 i cs j d hi hj; ⟨u, q1, q2.less fun b' o c => (hmu b' o c).imp id fun c => by rw [p1] at c; cases c; rfl⟩⟩⟩
  · rw [sget_cons] at hs
    by_cases c : 0 = t
    · subst c
      rw [if_pos rfl] at hs; cases hs
      have hv0 : (vs.toArray ++ Array.replicate (fn.ntmps - vs.toArray.size) undef).getD 0 undef = vs[0] := by
        simp [Array.getElem?_append, hl']
      show SR _ _ _ _ _ ((vs.toArray ++ Array.replicate (fn.ntmps - vs.toArray.size) undef).getD 0 undef)
      rw [hv0]
      exact ⟨T, size, es, true, by rw [hget_cons, if_pos rfl], Nat.le_refl _, fun _ => hv.imp id fun ⟨b, cap, cur, p1, p2, p3, p4, p5, p6, p7⟩ => ⟨b, cap, cur, p1, p2, p3, p4, p5, p6⟩⟩
    · rw [if_neg c] at hs
      obtain ⟨ht, g, h1, rfl⟩ := slots0_get hs
      obtain ⟨t', rfl⟩ : ∃ t', t = t' + 1 := ⟨t - 1, by omega⟩
      rw [Nat.add_sub_cancel] at h1
      have hlt : t' + 1 < vs.length := by rw [hl']; have := (List.getElem?_eq_some_iff.1 h1).1; omega
      have hv0 : (vs.toArray ++ Array.replicate (fn.ntmps - vs.toArray.size) undef).getD (t' + 1) undef = vs[t' + 1] := by
        simp [Array.getElem?_append, hlt]
      show SR _ _ _ _ _ ((vs.toArray ++ Array.replicate (fn.ntmps - vs.toArray.size) undef).getD (t' + 1) undef)
      rw [hv0]
      have ha := hargs (t' + 1) g vs[t' + 1] (by simpa using h1) (by simp [hlt])
      cases g with
      | g a => exact GR.less hmuK ha
      | ep cs =>
        obtain ⟨b, o, hu, hc⟩ := ha
        exact ⟨b, o, hu, fun j d hj => let ⟨x, q1, q2, q3⟩ := hc j d hj; ⟨x, q1, fun c => q2 (hmuK _ _ c), q3.less hmuK⟩⟩
      | sem Φ => exact ha
      | row T size es => trivial
      | pt h => trivial
  · simp [hn]; omega
end Go.Ab

/- The abstract machine: rows read where they lie; words for rows that are written over. Conditions: none but those that stand in each law. -/
namespace Go.Ab
open Go Go.RowKit

/-- 'l[i] = x' -/
def sets {α : Type} (l : List α) (i : Int) (x : α) : Option (List α) := if 0 ≤ i ∧ i < l.length then some (l.set i.toNat x) else none
/-- 'clear(l[n:])' -/
def zeroes {α : Type} (l : List α) (n : Int) (z : α) : Option (List α) := if 0 ≤ n ∧ n ≤ l.length then some (l.take n.toNat ++ List.replicate (l.length - n.toNat) z) else none

theorem sets_ok {α β : Type} {l l' : List α} {i : Int} {x : α} (h : sets l i x = some l') (f : α → β) : 0 ≤ i ∧ i < (l.map f).length ∧ (l.map f).set i.toNat (f x) = l'.map f := by
  unfold sets at h
  split at h
  · rename_i c
    cases h
    exact ⟨c.1, by rw [List.length_map]; exact c.2, by rw [List.map_set]⟩
  · cases h

theorem zeroes_ok {α : Type} {l l' : List α} {n : Int} {z : α} (h : zeroes l n z = some l') (f : α → List DV) : 0 ≤ n ∧ n ≤ (l.map f).length ∧ spliceR (l.map f) n.toNat (List.replicate ((l.map f).length - n.toNat) (f z)) = l'.map f := by
  unfold zeroes at h
  split at h
  · rename_i c
    cases h
    refine ⟨c.1, by rw [List.length_map]; exact c.2, ?_⟩
    have : n.toNat ≤ l.length := by omega
    simp only [spliceR, List.length_map, List.map_append, List.map_take, List.map_replicate, List.length_replicate]
    rw [List.drop_of_length_le (by simp; omega)]
    simp
  · cases h

theorem cloneNil {α β : Type} {n : Nat} {s r : List α} {f : α → β} (hs : s.map f = []) (hF : ((app n [] s).bind fun l => some l) = some r) : (some [] : Option (List α)) = some r := by
  have : s = [] := by simpa using hs
  subst this
  simpa [app] using hF

section
variable {P : Program} {nt : Nat} {C : Cx P nt} {dst : Nat} {ty : TypeId} {pos : String} {af : Array Edge} {gd : Option (Nat × Bool)}

/-- a row that is only appended to, seen as the slice that it is now -/
theorem op_moveView {t k' T size : Nat} {es : List (List DV)} (hd : Nat.blt dst nt = true) : OpL C (Oo dst (.move (.tmp t)) ty pos af gd) [(t, .one (.own k' es))] [(k', some (.row T size es false))] [(dst, .one (.g (.d (.sl size es))))] [] :=
  opl_pure hd rfl fun sl hp β a w hs hh r => ⟨a.eval (.tmp t), by simp [execOp], own_data r hh.1 (r.sl t _ hs.1) (fun _ _ h => h) (fun b o hb ho hm => by
    rcases hm with hM | ⟨k1, e1, h1, h2, h3⟩
    · obtain ⟨h4, h5⟩ := r.low b o hM
      rcases (r.own k' _ b hh.1 hb).1 with h6 | h6
      · omega
      · exact h5 h6
    · obtain rfl := r.inj k1 k' e1 _ b h1 hh.1 h2 hb
      rw [hh.1] at h1; cases h1
      simp only [HE.mutAt, Bool.false_eq_true, false_or] at h3
      omega)⟩

variable {Q0 : Exit → Act → World → Prop} {k : List KI}
/-- a row that was written over, as long as it was: its slots name what it is now -/
theorem G.renew {sl : SL} {hp : HL} {t kk T size : Nat} {es0 es : List (List DV)} {ex : Bool} (hs : sget sl t = some (.one (.own kk es0))) (hh : hget hp kk = some (.row T size es ex)) (hl : es0.length = es.length)
    (h : G C Q0 k ⟨(t, .one (.own kk es)) :: sl, hp⟩) : G C Q0 k ⟨sl, hp⟩ :=
  ⟨fun a w ⟨β, r⟩ => h.go a w ⟨β, r.slot (sv := .one (.own kk es)) (by
    obtain ⟨T', size', es', ex', h1, h2, h3⟩ := (r.sl t _ hs : BR C hp β w (.own kk es0) _)
    have h4 : HE.row T' size' es' ex' = HE.row T size es ex := Option.some.inj (h1.symm.trans hh)
    cases h4
    exact ⟨T, size, es, ex, h1, Nat.le_refl _, fun _ => h3 hl⟩)⟩⟩

theorem G.arr {sl sl' : SL} {hp hp' : HL} (h : G C Q0 k ⟨sl', hp'⟩) (hs : HasS sl sl') (hh : HasH hp hp') (hsc : wellId sl' hp' = true) : G C Q0 k ⟨sl, hp⟩ := G.keep hs hh hsc h

theorem G.retNil {fn : Func} {sl : SL} {hp : HL} {t T E size bytes : Nat} {zz : Value} (hres : fn.results = #[.tmp t]) (_hI : Info P E zz size bytes) (hz : Nat.blt 0 size = true) (hs : HasS sl [(t, .one (.x (.slice none 0 0)))]) :
    G C (bodyPost P fn (PostR C.M C.K C.w0 (.new T size []))) (.c .ret :: k) ⟨sl, hp⟩ := .mk <| fun a w ⟨β, r⟩ => by
  have hu : a.tmps.getD t undef = .slice none 0 0 := r.sl t _ hs.1
  refine wp_ret (Qof_ret ⟨r.df, a.tmps.getD t undef, ?_, a.tmps.getD t undef, rfl, r.keep, by simpa using hz, by simp, .inl ⟨rfl, none, hu⟩⟩)
  rw [results_eq, hres]
  simp [resF]
end

theorem sets_len {α β : Type} {l l' : List α} {i : Int} {x : α} (h : sets l i x = some l') (f : α → β) : (l.map f).length = (l'.map f).length := by
  unfold sets at h
  split at h
  · cases h; simp
  · cases h
theorem zeroes_len {α β : Type} {l l' : List α} {n : Int} {z : α} (h : zeroes l n z = some l') (f : α → β) : (l.map f).length = (l'.map f).length := by
  unfold zeroes at h
  split at h
  · cases h; simp; omega
  · cases h
end Go.Ab

/- A law's given arguments, opened: what the statement's reading says of them, as data of my own. Conditions: none but those that stand in each law. -/
namespace Go.Ab
open Go Go.RowKit Go.ChangeShapes Go.WideShapes Go.ChangeAt

/-- pair by pair -/
inductive F2 {α β : Type} (R : α → β → Prop) : List α → List β → Prop
  | nil : F2 R [] []
  | cons {a : α} {b : β} {xs : List α} {ys : List β} (h : R a b) (t : F2 R xs ys) : F2 R (a :: xs) (b :: ys)

/-- whatever is read as type t by the statement's reading, is one of X's, as my own reading has it -/
def Opens (P : Program) (t : TypeId) (X : Type) (enc : X → List DV) (wf : X → Prop) : Prop :=
  ∀ (H : Type) (e : TypeId × Value → H) (w : World) (base : Nat) (sp : Nat → Bool) (held : Bool) (fuel : Nat) (cs : List Value) (x : DataW H × List MemPlace),
    DataW.trod e P w base sp held fuel t cs = some x → (x.1.weights P t).all (· ≤ reachBytes) = true → ∃ v : X, wf v ∧ F2 (RD (fun _ _ => False) w) cs (enc v)

theorem weightsAll_mem {H : Type} {P : Program} {e : TypeId} : ∀ {ds : List (DataW H)}, (DataW.weightsAll P e ds).all (· ≤ reachBytes) = true → ∀ d, d ∈ ds → (d.weights P e).all (· ≤ reachBytes) = true
  | [], _, d, hd => by simp at hd
  | x :: ds, h, d, hd => by
    rw [DataW.weightsAll, List.all_append, Bool.and_eq_true] at h
    rcases List.mem_cons.1 hd with rfl | hd
    · exact h.1
    · exact weightsAll_mem h.2 d hd
theorem weightsEach_get {H : Type} {P : Program} : ∀ {ts : List TypeId} {ds : List (DataW H)}, (DataW.weightsEach P ts ds).all (· ≤ reachBytes) = true → ∀ (i : Nat) (t : TypeId) (d : DataW H), ts[i]? = some t → ds[i]? = some d → (d.weights P t).all (· ≤ reachBytes) = true
  | [], _, _, i, t, d, ht, _ => by simp at ht
  | _ :: _, [], _, i, t, d, _, hd => by simp at hd
  | t0 :: ts, d0 :: ds, h, i, t, d, ht, hd => by
    rw [DataW.weightsEach, List.all_append, Bool.and_eq_true] at h
    cases i with
    | zero => simp at ht hd; subst ht hd; exact h.1
    | succ i => exact weightsEach_get h.2 i t d (by simpa using ht) (by simpa using hd)

theorem Opens.int {P : Program} {t : TypeId} {k : IntKind} (ht : P.underlying t = some (.int k)) : Opens P t Int (fun x => [.v (.int k x)]) (fun x => (Lit.int k x).wf = true) := by
  intro H e w base sp held fuel cs x h _
  cases fuel with
  | zero => simp [DataW.trod] at h
  | succ n =>
    unfold DataW.trod at h
    rw [ht] at h
    split at h <;> simp_all
    obtain ⟨⟨rfl, hw⟩, _⟩ := h
    exact ⟨_, hw, .cons (RD.v _ rfl) .nil⟩

theorem Opens.bool {P : Program} {t : TypeId} (ht : P.underlying t = some .bool) : Opens P t Bool (fun x => [.v (.bool x)]) (fun _ => True) := by
  intro H e w base sp held fuel cs x h _
  cases fuel with
  | zero => simp [DataW.trod] at h
  | succ n =>
    unfold DataW.trod at h
    rw [ht] at h
    split at h
    · exact ⟨_, trivial, .cons (RD.v _ rfl) .nil⟩
    all_goals simp_all

theorem Opens.string {P : Program} {t : TypeId} (ht : P.underlying t = some .string) : Opens P t ByteArray (fun x => [.v (.string x)]) (fun x => x.size ≤ reachBytes) := by
  intro H e w base sp held fuel cs x h hz
  cases fuel with
  | zero => simp [DataW.trod] at h
  | succ n =>
    unfold DataW.trod at h
    rw [ht] at h
    split at h <;> simp_all
    obtain ⟨_, rfl⟩ := h
    refine ⟨_, ?_, .cons (RD.v _ rfl) .nil⟩
    have := of_decide_eq_true (by simpa [DataW.weights] using hz)
    exact this

theorem exists_list {X : Type} (n : Nat) (p : Nat → X → Prop) (h : ∀ i, i < n → ∃ x, p i x) : ∃ l : List X, l.length = n ∧ ∀ i x, l[i]? = some x → p i x := by
  induction n with
  | zero => exact ⟨[], rfl, fun i x h => by simp at h⟩
  | succ n ih =>
    obtain ⟨l, h1, h2⟩ := ih fun i hi => h i (by omega)
    obtain ⟨x, hx⟩ := h n (by omega)
    refine ⟨l ++ [x], by simp [h1], fun i y hy => ?_⟩
    by_cases c : i < l.length
    · rw [List.getElem?_append_left c] at hy; exact h2 i y hy
    · rw [List.getElem?_append_right (by omega)] at hy
      have : i - l.length = 0 := by
        have := (List.getElem?_eq_some_iff.1 hy).1
        simp at this; omega
      rw [this] at hy
      simp at hy
      subst hy
      rw [show i = n by omega]; exact hx

theorem forall2_get {α β : Type} {R : α → β → Prop} : ∀ {xs : List α} {ys : List β}, F2 R xs ys → xs.length = ys.length ∧ ∀ (j : Nat) (y : β), ys[j]? = some y → ∃ x, xs[j]? = some x ∧ R x y
  | _, _, .nil => ⟨rfl, fun j y h => by simp at h⟩
  | _, _, .cons h t => by
    obtain ⟨h1, h2⟩ := forall2_get t
    refine ⟨by simp [h1], fun j y hj => ?_⟩
    cases j with
    | zero => simp at hj; subst hj; exact ⟨_, rfl, h⟩
    | succ j => simpa using h2 j y (by simpa using hj)

theorem mapM_cells {w : World} {base n : Nat} {a : Addr} {cs : List Value} (h : w.cells? base a n = some cs) : cs.length = n ∧ ∀ j, j < n → w.cell? (a.add j) = cs[j]? := by
  unfold World.cells? at h
  split at h
  · refine ⟨by simpa using mapM_some_length h, fun j hj => ?_⟩
    have := mapM_some_get h j j (by simp [hj])
    exact this
  · cases h

theorem Opens.slice {P : Program} {t e : TypeId} {size : Nat} {X : Type} {enc : X → List DV} {wf : X → Prop} (ht : P.underlying t = some (.slice e)) (h : Opens P e X enc wf) (hc : P.cellsOf e = size) (hs : ∀ v, (enc v).length = size) (hpos : Nat.blt 0 size = true) (hby : Nat.blt 0 (P.bytesOf e) = true) :
    Opens P t (List X) (fun l => [.sl size (l.map enc)]) (fun l => l.length ≤ reachBytes ∧ ∀ x, x ∈ l → wf x) := by
  intro H en w base sp held fuel cs x hx hz
  rcases DataW.trod_slice ht hx with ⟨rfl, _⟩ | ⟨a, len, cap, elems, rest, n, _, rfl, rfl, hb, hl, hm, hlen, hel, _, _⟩
  · exact ⟨[], ⟨Nat.zero_le _, fun x h => by simp at h⟩, .cons (RD.nil none 0 size (Nat.zero_le _)) .nil⟩
  · have hpos : 0 < size := by simpa using hpos
    have hby : 0 < P.bytesOf e := by simpa using hby
    simp only [DataW.weights, ht, List.all_cons, List.all_append, Bool.and_eq_true, decide_eq_true_eq, List.length_map] at hz
    obtain ⟨hz1, hz2, _⟩ := hz
    have hlr : len ≤ reachBytes := by
      refine Nat.le_trans ?_ hz1
      have : elems.length + rest.length ≤ (elems.length + rest.length) * P.bytesOf e := Nat.le_mul_of_pos_right _ hby
      omega
    have key : ∀ i, i < len → ∃ v : X, wf v ∧ ∃ csi, w.cells? base (a.add (i * size)) size = some csi ∧ F2 (RD (fun _ _ => False) w) csi (enc v) := by
      intro i hi
      have h1 := hel i hi
      rw [hc] at h1
      have h2 : elems[i]? = some elems[i] := by simp [hlen, hi]
      rw [h2] at h1
      obtain ⟨csi, h3, h4⟩ := Option.bind_eq_some_iff.1 h1
      obtain ⟨v, h5, h6⟩ := h H en w base sp held n csi _ h4 (weightsAll_mem hz2 _ (List.mem_map_of_mem (List.getElem_mem _)))
      exact ⟨v, h5, csi, h3, h6⟩
    obtain ⟨l, hll, hlp⟩ := exists_list len _ key
    refine ⟨l, ⟨by rw [hll]; exact hlr, fun x hx => ?_⟩, .cons ?_ .nil⟩
    · obtain ⟨i, hi, rfl⟩ := List.getElem_of_mem hx
      exact (hlp i l[i] (by simp [hi])).1
    · have hmem : ∀ i x, l[i]? = some x → ∀ j d, (enc x)[j]? = some d → ∃ u, w.cell? ((a.add (i * size)).add j) = some u ∧ RD (fun _ _ => False) w u d := by
        intro i x hi j d hj
        obtain ⟨_, csi, h3, h6⟩ := hlp i x hi
        obtain ⟨h7, h8⟩ := mapM_cells h3
        obtain ⟨u, h9, h10⟩ := (forall2_get h6).2 j d hj
        have : j < size := by rw [← hs x]; exact (List.getElem?_eq_some_iff.1 hj).1
        exact ⟨u, by rw [h8 j this]; exact h9, h10⟩
      have hspot : l ≠ [] → a = ⟨a.block, a.off, none⟩ := by
        intro hne
        obtain ⟨x, hx⟩ : ∃ x, l[0]? = some x := ⟨l[0]'(List.length_pos_iff.2 hne), by simp [List.length_pos_iff.2 hne]⟩
        obtain ⟨u, h9, _⟩ := hmem 0 x hx 0 ((enc x)[0]'(by rw [hs]; exact hpos)) (by simp [hs, hpos])
        have e1 : (a.add (0 * size)).add 0 = a := by simp [Addr.add]
        rw [e1] at h9
        obtain ⟨b, o, s⟩ := a
        cases s with
        | none => rfl
        | some s => simp only [World.cell?] at h9; split at h9 <;> simp at h9
      have hlm : (l.map enc).length = len := by simp [hll]
      rw [← hlm]
      refine RD.sl (some a) cap size (l.map enc) (fun i j => (w.cell? ⟨a.block, a.off + (i * size + j), none⟩).getD undef) a.block a.off (by omega) hm (fun hne => by rw [hspot (by simpa using hne)]) (fun cs hcs => ?_) (fun i cs j d hi hj => ?_) (fun i cs j d hi hj => ?_)
      · obtain ⟨x, _, rfl⟩ := List.mem_map.1 hcs; exact hs x
      all_goals
        rw [List.getElem?_map, Option.map_eq_some_iff] at hi
        obtain ⟨x, hx, rfl⟩ := hi
        obtain ⟨u, h9, h10⟩ := hmem i x hx j d hj
        have hne : l ≠ [] := fun c => by rw [c] at hx; simp at hx
        have e1 : (a.add (i * size)).add j = ⟨a.block, a.off + (i * size + j), none⟩ := by
          have := hspot hne
          rw [this, Addr.add_lit, Addr.add_lit]
          simp [Nat.add_assoc]
        rw [e1] at h9
      · exact ⟨by simp [h9], id⟩
      · simpa [h9] using h10

/-- the fields of a struct, from one on -/
def OpenF (P : Program) (fs : List Field) (off : Nat) (X : Type) (enc : X → List DV) (wf : X → Prop) : Prop :=
  ∀ (H : Type) (e : TypeId × Value → H) (w : World) (base : Nat) (sp : Nat → Bool) (held : Bool) (fuel : Nat) (cs : List Value),
    (∀ f, f ∈ fs → ∃ x, DataW.trod e P w base sp held fuel f.type ((cs.drop f.offset).take (P.cellsOf f.type)) = some x ∧ (x.1.weights P f.type).all (· ≤ reachBytes) = true) → cs.length = off + (fs.map fun f => P.cellsOf f.type).sum →
    ∃ v : X, wf v ∧ F2 (RD (fun _ _ => False) w) (cs.drop off) (enc v)

theorem OpenF.nil {P : Program} {off : Nat} : OpenF P [] off Unit (fun _ => []) (fun _ => True) := by
  intro H e w base sp held fuel cs _ hl
  refine ⟨(), trivial, ?_⟩
  rw [List.drop_of_length_le (by simp at hl; omega)]
  exact .nil

theorem forall2_append {α β : Type} {R : α → β → Prop} {xs xs' : List α} {ys ys' : List β} (h : F2 R xs ys) (h' : F2 R xs' ys') : F2 R (xs ++ xs') (ys ++ ys') := by
  induction h with
  | nil => exact h'
  | cons a b ih => exact .cons a ih

theorem OpenF.cons {P : Program} {f : Field} {fs : List Field} {off size off' : Nat} {A B : Type} {encA : A → List DV} {encB : B → List DV} {wfA : A → Prop} {wfB : B → Prop}
    (ha : Opens P f.type A encA wfA) (hb : OpenF P fs off' B encB wfB) (ho : f.offset = off) (hc : P.cellsOf f.type = size) (ho' : off + size = off') :
    OpenF P (f :: fs) off (A × B) (fun x => encA x.1 ++ encB x.2) (fun x => wfA x.1 ∧ wfB x.2) := by
  subst ho hc ho'
  intro H e w base sp held fuel cs hall hl
  obtain ⟨x, hx, hxz⟩ := hall f (by simp)
  obtain ⟨v, h1, h2⟩ := ha H e w base sp held fuel _ x hx hxz
  obtain ⟨u, h3, h4⟩ := hb H e w base sp held fuel cs (fun g hg => hall g (by simp [hg])) (by rw [hl, List.map_cons, List.sum_cons]; omega)
  refine ⟨(v, u), ⟨h1, h3⟩, ?_⟩
  have : cs.drop f.offset = (cs.drop f.offset).take (P.cellsOf f.type) ++ cs.drop (f.offset + P.cellsOf f.type) := by
    rw [← List.drop_drop]; exact (List.take_append_drop _ _).symm
  rw [this]
  exact forall2_append h2 h4

theorem Opens.struct {P : Program} {t : TypeId} {fs : Array Field} {X Y : Type} {encX : X → List DV} {encY : Y → List DV} {wf : X → Prop} (ht : P.underlying t = some (.struct fs)) (h : OpenF P fs.toList 0 X encX wf)
    (hc : P.cellsOf t = (fs.toList.map fun f => P.cellsOf f.type).sum) (g : X → Y) (wfY : Y → Prop) (hg : ∀ x, encY (g x) = encX x) (hw : ∀ x, wf x → wfY (g x)) : Opens P t Y encY wfY := by
  intro H e w base sp held fuel cs x hx hz
  obtain ⟨xs, n, rfl, rfl, hlen, hxl, hf⟩ := DataW.trod_struct ht hx
  simp only [DataW.weights, ht] at hz
  obtain ⟨v, h1, h2⟩ := h H e w base sp held n cs (fun f hm => by
    obtain ⟨i, hi, rfl⟩ := List.getElem_of_mem hm
    have hi' : i < fs.size := by simpa using hi
    have := hf i fs[i] (by simp [hi'])
    refine ⟨xs[i]'(by omega), ?_, ?_⟩
    · rw [Array.getElem_toList, this]
      simp [hxl, hi']
    · exact weightsEach_get hz i _ _ (by simp [hi']) (by simp [hxl, hi'])) (by rw [hlen, hc]; omega)
  exact ⟨g v, hw v h1, by rw [hg]; simpa using h2⟩

theorem F2.sing {α β : Type} {R : α → β → Prop} {x : α} {y : β} (h : F2 R [x] [y]) : R x y := by
  cases h; assumption

section
variable {P : Program} {H : Type} {e : TypeId × Value → H} {w : World} {base b0 : Nat} {r : Reach} {sp : Nat → Bool} {held : Bool} {v : Value} {d : DataW H} {ps : List MemPlace} {t : TypeId}

theorem Opens.argInt {k : IntKind} {X : Type} {dv : X → DV} {wf : X → Prop} (h : Opens P t X (fun x => [dv x]) wf) (ht : P.underlying t = some (.int k))
    (hv : Value.okWide P w r b0 t v) (hd : DataW.Trod e P w base sp held t v d ps) (hz : (d.weights P t).all (· ≤ reachBytes) = true) : ∃ x : X, wf x ∧ ArgR P (fun _ _ => False) (fun _ => False) w (.g (.d (dv x))) v := by
  obtain ⟨n, rfl⟩ := okWide_int ht hv
  obtain ⟨fuel, hf⟩ := hd
  obtain ⟨x, h1, h2⟩ := h H e w base sp held fuel _ _ hf hz
  exact ⟨x, h1, RD.less (fun _ _ c => c.elim id id) (show RD _ _ _ _ from F2.sing h2)⟩
theorem Opens.argString {X : Type} {dv : X → DV} {wf : X → Prop} (h : Opens P t X (fun x => [dv x]) wf) (ht : P.underlying t = some .string)
    (hv : Value.okWide P w r b0 t v) (hd : DataW.Trod e P w base sp held t v d ps) (hz : (d.weights P t).all (· ≤ reachBytes) = true) : ∃ x : X, wf x ∧ ArgR P (fun _ _ => False) (fun _ => False) w (.g (.d (dv x))) v := by
  obtain ⟨n, rfl⟩ := okWide_string ht hv
  obtain ⟨fuel, hf⟩ := hd
  obtain ⟨x, h1, h2⟩ := h H e w base sp held fuel _ _ hf hz
  exact ⟨x, h1, RD.less (fun _ _ c => c.elim id id) (show RD _ _ _ _ from F2.sing h2)⟩
theorem Opens.argBool {X : Type} {dv : X → DV} {wf : X → Prop} (h : Opens P t X (fun x => [dv x]) wf) (ht : P.underlying t = some .bool)
    (hv : Value.okWide P w r b0 t v) (hd : DataW.Trod e P w base sp held t v d ps) (hz : (d.weights P t).all (· ≤ reachBytes) = true) : ∃ x : X, wf x ∧ ArgR P (fun _ _ => False) (fun _ => False) w (.g (.d (dv x))) v := by
  obtain ⟨n, rfl⟩ := okWide_bool ht hv
  obtain ⟨fuel, hf⟩ := hd
  obtain ⟨x, h1, h2⟩ := h H e w base sp held fuel _ _ hf hz
  exact ⟨x, h1, RD.less (fun _ _ c => c.elim id id) (show RD _ _ _ _ from F2.sing h2)⟩
theorem Opens.argSlice {el : Nat} {X : Type} {dv : X → DV} {wf : X → Prop} (h : Opens P t X (fun x => [dv x]) wf) (ht : P.underlying t = some (.slice el))
    (hv : Value.okWide P w r b0 t v) (hd : DataW.Trod e P w base sp held t v d ps) (hz : (d.weights P t).all (· ≤ reachBytes) = true) : ∃ x : X, wf x ∧ ArgR P (fun _ _ => False) (fun _ => False) w (.g (.d (dv x))) v := by
  obtain ⟨_, _, _, rfl⟩ := okWide_slice ht hv
  obtain ⟨fuel, hf⟩ := hd
  obtain ⟨x, h1, h2⟩ := h H e w base sp held fuel _ _ hf hz
  exact ⟨x, h1, RD.less (fun _ _ c => c.elim id id) (show RD _ _ _ _ from F2.sing h2)⟩
theorem Opens.argStruct {fs : Array Field} {X : Type} {enc : X → List DV} {wf : X → Prop} (h : Opens P t X enc wf) (ht : P.underlying t = some (.struct fs))
    (hv : Value.okWide P w r b0 t v) (hd : DataW.Trod e P w base sp held t v d ps) (hz : (d.weights P t).all (· ≤ reachBytes) = true) : ∃ x : X, wf x ∧ ArgR P (fun _ _ => False) (fun _ => False) w (.g (.agg (enc x))) v := by
  obtain ⟨us, rfl, _⟩ := okWide_struct ht hv
  obtain ⟨fuel, hf⟩ := hd
  obtain ⟨x, h1, h2⟩ := h H e w base sp held fuel _ _ hf hz
  have h3 := forall2_get h2
  refine ⟨x, h1, us, rfl, by simpa [Value.cells] using h3.1, fun j d hj => ?_⟩
  obtain ⟨u, h4, h5⟩ := h3.2 j d hj
  exact ⟨u, by simpa [Value.cells] using h4, h5.less (fun _ _ c => c.elim id id)⟩
end

theorem args1 {P : Program} {M : Nat → Nat → Prop} {K : Nat → Prop} {w : World} {g0 : RG} {v0 : Value} (h0 : ArgR P M K w g0 v0) :
    ∀ (i : Nat) (g : RG) (v : Value), [g0][i]? = some g → [v0][i]? = some v → ArgR P M K w g v := by
  intro i g v hg hv
  match i with
  | 0 => simp at hg hv; subst hg hv; exact h0
  | i + 1 => simp at hg
theorem argsC {P : Program} {M : Nat → Nat → Prop} {K : Nat → Prop} {w : World} {g0 : RG} {v0 : Value} {gs : List RG} {vs : List Value} (h0 : ArgR P M K w g0 v0)
    (h : ∀ (i : Nat) (g : RG) (v : Value), gs[i]? = some g → vs[i]? = some v → ArgR P M K w g v) :
    ∀ (i : Nat) (g : RG) (v : Value), (g0 :: gs)[i]? = some g → (v0 :: vs)[i]? = some v → ArgR P M K w g v := by
  intro i g v hg hv
  match i with
  | 0 => simp at hg hv; subst hg hv; exact h0
  | i + 1 => exact h i g v (by simpa using hg) (by simpa using hv)
/-- the closed facts of a row, one by one: each is reckoned by itself, so that none takes the room of all -/
theorem joined_mk {P : Program} {f : FuncId} {fn : Func} {s : ChangeSpec} {c : OpenClaim}
    (k1 : (c.wf (OpenSpec.ofChange s)) = true)
    (k2 : (laidOutB P) = true)
    (k3 : (mapsRowed P) = true)
    (k4 : (fn.params.all (P.readableRec ·)) = true)
    (k5 : (namedTie P c.named s.vars) = true)
    (k6 : ((c.stops == [])) = true)
    (k7 : ((P.stops == [])) = true)
    (k8 : ((c.knobs == [])) = true)
    (k9 : ((P.stopKnobs == [])) = true)
    (k10 : ((c.inPlace == P.inPlace f)) = true)
    (k11 : ((c.unfollowed == P.unfollowed f)) = true)
    (k12 : ((c.recurses == P.recurses f)) = true)
    (k13 : ((c.named == P.varsNamed f)) = true)
    (k14 : ((c.maps == (fn.params.toList ++ s.plain.varTypes P).any (P.mapsRec ·))) = true)
    (k15 : ((c.ifaces == (fn.params.toList ++ s.plain.varTypes P).any (P.ifacesRec ·))) = true)
    (k16 : ((c.mapsOut == P.mapsAmong fn.resultTypes.toList)) = true)
    (k17 : ((c.loops == (fn.params.toList ++ s.plain.varTypes P).any (P.loopsFrom ·))) = true)
    (k18 : ((c.wideKeys == (fn.params.toList ++ s.plain.varTypes P ++ fn.resultTypes.toList).any (P.wideKeysFrom ·))) = true)
    (k19 : (s.vars.all (P.varReadable ·)) = true)
    (k20 : (fn.resultTypes.all (fun t => P.readableRec t && decide (t < P.types.size))) = true)
    (k21 : ((c.ifacesOut == fn.resultTypes.toList.any (P.ifacesRec ·))) = true)
    (k22 : ((c.loopsOut == fn.resultTypes.toList.any (P.loopsFrom ·))) = true)
    (k23 : ((c.plainKeys == P.plainKeys)) = true)
    (k24 : (c.shortTexts.isNone) = true)
    (k25 : (P.stopsHeard) = true)
    (k26 : (P.mayEnter) = true)
    (k27 : ((c.lifted == P.liftsFinal)) = true)
    (k28 : ((P.make == some c.make)) = true)
    (k29 : ((c.kinds == (if c.domain.isEmpty then [] else fn.params.toList.map fun t => match P.underlying t with | some (.int k) => some k | _ => none))) = true)
    (k30 : ((c.pinned == c.pinnedBy)) = true)
    (k31 : ((c.veiled == (fn.params.toList ++ s.plain.varTypes P ++ fn.resultTypes.toList).any (P.veiledRec ·))) = true)
    (k32 : (c.veiledFits P fn.params.toList (fn.params.toList ++ s.plain.varTypes P ++ fn.resultTypes.toList)) = true) : joinedFacts P f fn s c = true := by
  simp only [joinedFacts, Bool.and_eq_true]
  exact ⟨⟨⟨⟨⟨⟨⟨⟨⟨⟨⟨⟨⟨⟨⟨⟨⟨⟨⟨⟨⟨⟨⟨⟨⟨⟨⟨⟨⟨⟨⟨k1, k2⟩, k3⟩, k4⟩, k5⟩, k6⟩, k7⟩, k8⟩, k9⟩, k10⟩, k11⟩, k12⟩, k13⟩, k14⟩, k15⟩, k16⟩, k17⟩, k18⟩, k19⟩, k20⟩, k21⟩, k22⟩, k23⟩, k24⟩, k25⟩, k26⟩, k27⟩, k28⟩, k29⟩, k30⟩, k31⟩, k32⟩
end Go.Ab

/- The abstract machine: a range over a text. Conditions: none but those that stand in each law. -/
namespace Go.Ab
open Go Go.RowKit

section
variable {P : Program} {nt : Nat} {C : Cx P nt} {dst : Nat} {ty : TypeId} {pos : String} {af : Array Edge} {gd : Option (Nat × Bool)} {x : Operand} {R : List (Nat × SV)}

/-- 'range s': a new iterator, at the text's beginning -/
theorem op_range {T k : Nat} {s : ByteArray} (ht : P.underlying T = some .string) (hx : Ev x (bS s) R) (hd : Nat.blt dst nt = true) (hk0 : Nat.blt 0 k = true := by rfl) :
    OpL C (Oo dst (.range T x) ty pos af gd) R [(k, none)] [(dst, .one (.ptr k 0))] [(k, some (.it s 0))] := by
  refine ⟨fun sl hp hs hh a w K Q ⟨β, r⟩ hK => ?_⟩
  have hv := BR.v_inv (hx.ok hs r)
  unfold Oper.wp
  have : (execOp a.eval (Oo dst (.range T x) ty pos af gd)).run P w = .ok (.value (.pointer (some ⟨w.heap.size, 0, none⟩))) (w.alloc (.stringIter s 0)) := by
    simp [execOp, hv, Instr.range, run_underlying ht, newObj, Sem.run, Result.andThen]
  rw [this]
  have h := (r.new (e := .it s 0) (bo := some w.heap.size) hh.1 hk0 (below_alloc w (.stringIter s 0)) (fun b hb => by cases hb; exact ⟨rfl, by simp⟩) fun _ _ =>
    ⟨w.heap.size, by simp [upd], heap_alloc_new w _⟩).1
  exact hK _ _ ⟨_, h.put (Below.refl _ _) (by simpa using hd) ⟨⟨.it s 0, by rw [hget_cons, if_pos rfl], rfl⟩, w.heap.size, by simp [upd], rfl⟩⟩

/-- 'next', behind the text's end -/
theorem op_nextF {k p : Nat} {s : ByteArray} (hp0 : decide (p < s.size) = false) (hx : Ev x (.ptr k 0) R) (hd : Nat.blt dst nt = true) :
    OpL C (Oo dst (.next x true) ty pos af gd) R [(k, some (.it s p))] [(dst, .tup [bB false])] [] :=
  opl_pure hd rfl fun sl hp β a w hs hh r => by
    obtain ⟨_, b, hb, hu⟩ := hx.ok hs r
    obtain ⟨b', hb', hheap⟩ := r.hp k _ hh.1
    rw [hb] at hb'; cases hb'
    have hn : ¬ p < s.size := of_decide_eq_false hp0
    refine ⟨.tuple #[.bool false], ?_, ⟨#[.bool false], rfl, rfl, fun i c hi => ?_⟩⟩
    · have hg : (getObj b).run P w = .ok (.stringIter s p) w := by simp [getObj, Sem.run, hheap]
      simp [execOp, hu, Instr.next, hg, hn]
    · cases i with
      | zero => simp at hi; subst hi; exact ⟨_, rfl, RD.v _ rfl⟩
      | succ i => simp at hi

/-- 'next', within the text -/
theorem op_nextT {k p : Nat} {s : ByteArray} (hp0 : decide (p < s.size) = true) (hx : Ev x (.ptr k 0) R) (hd : Nat.blt dst nt = true) :
    OpL C (Oo dst (.next x true) ty pos af gd) R [(k, some (.it s p))] [(dst, .tup [bB true, bI .i64 (p : Int), bI .i32 ((Utf8.decode s p).1 : Int)])] [(k, some (.it s (p + (Utf8.decode s p).2)))] := by
  refine ⟨fun sl hp hs hh a w K Q ⟨β, r⟩ hK => ?_⟩
  obtain ⟨_, b, hb, hu⟩ := hx.ok hs r
  obtain ⟨b', hb', hheap⟩ := r.hp k _ hh.1
  rw [hb] at hb'; cases hb'
  have hn : p < s.size := of_decide_eq_true hp0
  generalize hw1 : ({ w with heap := w.heap.setIfInBounds b (.stringIter s (p + (Utf8.decode s p).2)) } : World) = w1
  have hbl : b < w.heap.size := (Array.getElem?_eq_some_iff.1 hheap).1
  have hnew : w1.heap[b]? = some (.stringIter s (p + (Utf8.decode s p).2)) := by rw [← hw1]; simp [hbl]
  have hoth : ∀ i, i ≠ b → w1.heap[i]? = w.heap[i]? := fun i hi => by rw [← hw1]; rw [Array.getElem?_setIfInBounds, if_neg (fun c : b = i => hi c.symm)]
  have hsize : w1.heap.size = w.heap.size := by rw [← hw1]; simp
  unfold Oper.wp
  have : (execOp a.eval (Oo dst (.next x true) ty pos af gd)).run P w = .ok (.value (.tuple #[.bool true, .int .i64 (p : Int), .int .i32 ((Utf8.decode s p).1 : Int)])) w1 := by
    have hg : (getObj b).run P w = .ok (.stringIter s p) w := by simp [getObj, Sem.run, hheap]
    have hst : (setObj b (.stringIter s (p + (Utf8.decode s p).2))).run P w = .ok () w1 := by rw [← hw1]; simp only [setObj, Sem.run, hheap]
    simp [execOp, hu, Instr.next, hg, hn, hst, goInt]
  rw [this]
  have h := (r.chg (e := .it s (p + (Utf8.decode s p).2)) (bo := β k) (w1 := w1) hh.1 (by rw [← hw1]) (by rw [← hw1]) (by rw [← hw1]) (by omega) (fun i _ hi => hoth i (fun c => hi (by rw [c, hb]))) (fun _ _ _ _ _ c => absurd trivial c)
    (.inl ⟨rfl, fun _ h => h⟩) ⟨rfl, fun _ => rfl⟩ (fun es0 u h => by obtain ⟨_, _, _, _, h1, _⟩ := h; rw [hh.1] at h1; cases h1) (fun _ _ => ⟨b, by simp [upd, hb], hnew⟩)).1
  refine hK _ _ ⟨_, h.put (Below.refl _ _) (by simpa using hd) ⟨#[.bool true, .int .i64 (p : Int), .int .i32 ((Utf8.decode s p).1 : Int)], rfl, rfl, fun i c hi => ?_⟩⟩
  match i with
  | 0 => simp at hi; subst hi; exact ⟨_, rfl, RD.v _ rfl⟩
  | 1 => simp at hi; subst hi; exact ⟨_, rfl, RD.v _ rfl⟩
  | 2 => simp at hi; subst hi; exact ⟨_, rfl, RD.v _ rfl⟩
  | i + 3 => simp at hi

/-- a row that was appended to, and is only seen from now on -/
theorem OpL.view {o : Oper} {Rs : List (Nat × SV)} {Rh : List (Nat × Option HE)} {k T size : Nat} {es : List (List DV)} (h : OpL C o Rs Rh [(dst, .one (.own k es))] [(k, some (.row T size es false))]) :
    OpL C o Rs Rh [(dst, .one (.g (.d (.sl size es))))] [(k, some (.row T size es false))] :=
  ⟨fun sl hp hs hh a w K Q r hK => h.go sl hp hs hh a w K Q r fun a' w' ⟨β, q⟩ => hK a' w' ⟨β, q.keep, q.low, q.inj, q.own, q.hp, fun t sv hsv => by
    have hk : hget ((k, some (.row T size es false)) :: hp) k = some (.row T size es false) := by rw [hget_cons, if_pos rfl]
    simp only [List.cons_append, List.nil_append, sget_cons] at hsv
    by_cases c : dst = t
    · rw [if_pos c] at hsv
      cases hsv
      have h1 : SR C _ β w' (.one (.own k es)) (a'.tmps.getD t undef) := q.sl t _ (by simp only [List.cons_append, List.nil_append, sget_cons]; rw [if_pos c])
      exact own_data q hk h1 (fun _ _ h => h) (fun b o hb ho hm => by
        rcases hm with hM | ⟨k1, e1, h1, h2, h3⟩
        · obtain ⟨h4, h5⟩ := q.low b o hM
          rcases (q.own k _ b hk hb).1 with h6 | h6
          · omega
          · exact h5 h6
        · obtain rfl := q.inj k1 k e1 _ b h1 hk h2 hb
          have h1 : hget ((k1, some (.row T size es false)) :: hp) k1 = some e1 := h1
          rw [hk] at h1; cases h1
          simp only [HE.mutAt, Bool.false_eq_true, false_or] at h3
          omega)
    · rw [if_neg c] at hsv
      exact q.sl t sv (by simp only [List.cons_append, List.nil_append, sget_cons]; rw [if_neg c]; exact hsv), q.size, q.df, q.fx⟩⟩

variable {Q0 : Exit → Act → World → Prop} {k : List KI}
/-- the ways of a region meet again behind some of its operations -/
theorem G.joinL {T : Type} {ops : Array Oper} {l : List Oper} {st : St} (n : Nat) (S : T → St) (hyp : T → Prop) (h1 : ∀ x, hyp x → G C Q0 (.l ops (l.drop n) :: k) (S x))
    (h2 : (∀ x, hyp x → G C Q0 (.l ops (l.drop n) :: k) (S x)) → G C Q0 (.l ops l :: k) st) : G C Q0 (.l ops l :: k) st := h2 h1
end
end Go.Ab

/- The abstract machine: arrays in blocks, read and written by an index. Conditions: none but those that stand in each law. -/
namespace Go.Ab
open Go Go.RowKit Go.ChangeShapes Go.WideShapes Go.ChangeAt

/-- 'a[i]' of an array of n -/
def aidx {α : Type} (n : Nat) (l : List α) (i : Int) : Option α := if 0 ≤ i ∧ i < n then l[i.toNat]? else none
/-- 'a[i] = x' -/
def asets {α : Type} (n : Nat) (l : List α) (i : Int) (x : α) : Option (List α) := if 0 ≤ i ∧ i < n ∧ i < l.length then some (l.set i.toNat x) else none

theorem aidx_ok {α : Type} {n : Nat} {l : List α} {i : Int} {x : α} (h : aidx n l i = some x) : 0 ≤ i ∧ i < n ∧ l[i.toNat]? = some x := by
  unfold aidx at h
  split at h
  · rename_i c; exact ⟨c.1, c.2, h⟩
  · cases h
theorem asets_ok {α : Type} {n : Nat} {l l' : List α} {i : Int} {x : α} (h : asets n l i x = some l') : 0 ≤ i ∧ i < n ∧ i.toNat < l.length ∧ l' = l.set i.toNat x := by
  unfold asets at h
  split at h
  · rename_i c; cases h; exact ⟨c.1, c.2.1, by omega, rfl⟩
  · cases h

theorem flat_len {α β : Type} {f : α → List β} {size : Nat} (hs : ∀ x, (f x).length = size) (l : List α) : (l.flatMap f).length = l.length * size := by
  induction l with
  | nil => simp
  | cons a l ih => rw [List.flatMap_cons, List.length_append, hs, ih, List.length_cons, Nat.succ_mul, Nat.add_comm]

theorem flat_at {α β : Type} {f : α → List β} {size : Nat} (hs : ∀ x, (f x).length = size) {l : List α} {i : Nat} {x : α} (h : l[i]? = some x) : ((l.flatMap f).drop (i * size)).take size = f x := by
  induction l generalizing i with
  | nil => simp at h
  | cons a l ih =>
    rw [List.flatMap_cons]
    cases i with
    | zero => simp at h; subst h; simp [← hs a]
    | succ i =>
      have h : l[i]? = some x := by simpa using h
      rw [Nat.succ_mul, Nat.add_comm, List.drop_append, hs, List.drop_of_length_le (by rw [hs]; omega), Nat.add_sub_cancel_left]
      exact ih h

theorem flat_splice {α β : Type} {f : α → List β} {size : Nat} (hs : ∀ x, (f x).length = size) {l : List α} {i : Nat} (x : α) (h : i < l.length) :
    (l.flatMap f).take (i * size) ++ f x ++ (l.flatMap f).drop (i * size + (f x).length) = (l.set i x).flatMap f := by
  induction l generalizing i with
  | nil => simp at h
  | cons a l ih =>
    cases i with
    | zero => simp [List.flatMap_cons, hs]
    | succ i =>
      have h := ih (i := i) (by simpa using h)
      rw [List.set_cons_succ, List.flatMap_cons, List.flatMap_cons, ← h, Nat.succ_mul, Nat.add_comm (i * size), Nat.add_assoc size, List.take_append, List.drop_append, hs]
      rw [List.take_of_length_le (by rw [hs]; omega), List.drop_of_length_le (by rw [hs]; omega), Nat.add_sub_cancel_left, Nat.add_sub_cancel_left]
      simp [hs]

section
variable {P : Program} {nt : Nat} {C : Cx P nt} {dst : Nat} {ty : TypeId} {pos : String} {af : Array Edge} {gd : Option (Nat × Bool)} {x y : Operand} {R1 R2 : List (Nat × SV)}

theorem op_indexA {T E n size bytes k : Nat} {zz : Value} {kd : IntKind} {i : Int} (hT : P.underlying T = some (.array n E)) (hI : Info P E zz size bytes) (h0 : 0 ≤ i) (hi : i < n) (hx : Ev x (.ptr k 0) R1) (hy : Ev y (bI kd i) R2) (hd : Nat.blt dst nt = true) :
    OpL C (Oo dst (.indexAddr T x y) ty pos af gd) (R1 ++ R2) [] [(dst, .one (.ptr k (i.toNat * size)))] [] :=
  opl_pure hd rfl fun sl hp β a w hs _ r => by
    obtain ⟨he', b, hb, hu⟩ := hx.ok hs.app.1 r
    have h2 := BR.v_inv (hy.ok hs.app.2 r)
    refine ⟨.pointer (some ⟨b, i.toNat * size, none⟩), ?_, he', b, hb, rfl⟩
    simp [execOp, hu, h2, Instr.indexAt, asIntOf, run_underlying hT, Instr.sureAddr, h0, hi, hI.sizeOf, Addr.add_lit]
end

theorem arr_at1 {α : Type} {n : Nat} {l : List α} {i : Int} {x : α} {enc : α → List DV} {d : DV} (h : aidx n l i = some x) (hs : ∀ x, (enc x).length = 1) (hd : enc x = [d]) : (dat (l.flatMap enc))[i.toNat * 1]? = some (.g (.d d)) := by
  have h1 := flat_at hs (aidx_ok h).2.2
  rw [hd] at h1
  have h2 : (((l.flatMap enc).drop (i.toNat * 1)).take 1)[0]? = some d := by rw [h1]; rfl
  rw [List.getElem?_take, if_pos (by decide), List.getElem?_drop, Nat.add_zero] at h2
  simp only [dat, List.getElem?_map, h2, Option.map_some]
theorem arr_at {α : Type} {n : Nat} {l : List α} {i : Int} {x : α} {enc : α → List DV} {size : Nat} (h : aidx n l i = some x) (hs : ∀ x, (enc x).length = size) : ((dat (l.flatMap enc)).drop (i.toNat * size)).take (enc x).length = dat (enc x) := by
  rw [hs, dat, ← List.map_drop, ← List.map_take, flat_at hs (aidx_ok h).2.2]
theorem arr_lt1 {α : Type} {n : Nat} {l l' : List α} {i : Int} {x : α} {enc : α → List DV} (h : asets n l i x = some l') (hs : ∀ x, (enc x).length = 1) : Nat.blt (i.toNat * 1) (dat (l.flatMap enc)).length = true := by
  have := (asets_ok h).2.2.1
  simp only [dat, List.length_map, flat_len hs, Nat.blt_eq]
  omega
theorem arr_lt {α : Type} {n : Nat} {l l' : List α} {i : Int} {x : α} {enc : α → List DV} {size : Nat} (h : asets n l i x = some l') (hs : ∀ x, (enc x).length = size) : Nat.ble (i.toNat * size + (enc x).length) (dat (l.flatMap enc)).length = true := by
  have h1 := (asets_ok h).2.2.1
  rw [hs]
  simp only [dat, List.length_map, flat_len hs, Nat.ble_eq]
  have : (i.toNat + 1) * size ≤ l.length * size := Nat.mul_le_mul_right _ h1
  rw [Nat.succ_mul] at this
  exact this
theorem arr_set {α : Type} {n : Nat} {l l' : List α} {i : Int} {x : α} {enc : α → List DV} {size : Nat} (h : asets n l i x = some l') (hs : ∀ x, (enc x).length = size) : splice (dat (l.flatMap enc)) (i.toNat * size) (dat (enc x)) = dat (l'.flatMap enc) := by
  obtain ⟨_, _, h1, rfl⟩ := asets_ok h
  have h2 := flat_splice hs x h1
  simp only [splice, dat, List.length_map]
  rw [← h2, List.map_append, List.map_append, List.map_take, List.map_drop]

theorem Opens.array {P : Program} {t e : TypeId} {n size : Nat} {X : Type} {enc : X → List DV} {wf : X → Prop} (ht : P.underlying t = some (.array n e)) (h : Opens P e X enc wf) (hc : P.cellsOf e = size) (hct : P.cellsOf t = n * size) (_hs : ∀ v, (enc v).length = size) :
    Opens P t (List X) (fun l => l.flatMap enc) (fun l => l.length = n ∧ ∀ x, x ∈ l → wf x) := by
  intro H en w base sp held fuel cs x hx hz
  obtain ⟨xs, m, rfl, rfl, hlen, hxl, hel⟩ := DataW.trod_array ht hx
  simp only [DataW.weights, ht] at hz
  rw [hct] at hlen
  have key : ∀ i, i < n → ∃ v : X, wf v ∧ F2 (RD (fun _ _ => False) w) ((cs.drop (i * size)).take size) (enc v) := by
    intro i hi
    have h1 := hel i hi
    rw [hc, show xs[i]? = some (xs[i]'(by omega)) by simp [hxl, hi]] at h1
    exact h H en w base sp held m _ _ h1 (weightsAll_mem hz _ (List.mem_map_of_mem (List.getElem_mem _)))
  clear hel hx
  have go : ∀ (k : Nat), k ≤ n → ∃ l : List X, l.length = k ∧ (∀ x, x ∈ l → wf x) ∧ F2 (RD (fun _ _ => False) w) (cs.take (k * size)) (l.flatMap enc) := by
    intro k
    induction k with
    | zero => intro _; exact ⟨[], rfl, fun x h => by simp at h, by simp; exact .nil⟩
    | succ k ih =>
      intro hk
      obtain ⟨l, h1, h2, h3⟩ := ih (by omega)
      obtain ⟨v, h4, h5⟩ := key k (by omega)
      refine ⟨l ++ [v], by simp [h1], fun x hx => ?_, ?_⟩
      · rcases List.mem_append.1 hx with hx | hx
        · exact h2 x hx
        · simp at hx; subst hx; exact h4
      · rw [Nat.succ_mul, List.take_add, List.flatMap_append]
        simpa using forall2_append h3 h5
  obtain ⟨l, h1, h2, h3⟩ := go n (Nat.le_refl _)
  rw [← hlen, List.take_length] at h3
  exact ⟨l, ⟨h1, h2⟩, h3⟩

theorem okWide_array {P : Program} {w : World} {r : Reach} {base : Nat} {t : TypeId} {v : Value} {n : Nat} {e : TypeId} (ht : P.underlying t = some (.array n e)) (h : Value.okWide P w r base t v) : ∃ cs, v = .agg cs ∧ cs.size = P.cellsOf t := by
  simp only [Value.okWide, ht] at h
  obtain ⟨cs, h1, h2, _⟩ := h
  exact ⟨cs, h1, h2⟩

theorem Opens.argArray {P : Program} {H : Type} {e : TypeId × Value → H} {w : World} {base b0 : Nat} {r : Reach} {sp : Nat → Bool} {held : Bool} {v : Value} {d : DataW H} {ps : List MemPlace} {t : TypeId} {n : Nat} {el : TypeId} {X : Type} {enc : X → List DV} {wf : X → Prop} (h : Opens P t X enc wf) (ht : P.underlying t = some (.array n el))
    (hv : Value.okWide P w r b0 t v) (hd : DataW.Trod e P w base sp held t v d ps) (hz : (d.weights P t).all (· ≤ reachBytes) = true) : ∃ x : X, wf x ∧ ArgR P (fun _ _ => False) (fun _ => False) w (.g (.agg (enc x))) v := by
  obtain ⟨us, rfl, _⟩ := okWide_array ht hv
  obtain ⟨fuel, hf⟩ := hd
  obtain ⟨x, h1, h2⟩ := h H e w base sp held fuel _ _ hf hz
  have h3 := forall2_get h2
  refine ⟨x, h1, us, rfl, by simpa [Value.cells] using h3.1, fun j d hj => ?_⟩
  obtain ⟨u, h4, h5⟩ := h3.2 j d hj
  exact ⟨u, by simpa [Value.cells] using h4, h5.less (fun _ _ c => c.elim id id)⟩

theorem ids_dat (ds : List DV) : (dat ds).flatMap BV.ids = [] := by
  induction ds with
  | nil => rfl
  | cons d ds ih => exact ih

theorem toList_inj {a b : ByteArray} : a.toList = b.toList ↔ a = b := by
  constructor
  · intro h
    have h1 : (a.data == b.data) = (a.toList == b.toList) := beq_toListBytes a b
    rw [h, beq_self_eq_true] at h1
    have h2 := eq_of_beq h1
    cases a; cases b; simp_all
  · intro h; rw [h]
end Go.Ab

/- Rows of structs that are copied and grown: laws of the model's operations at any element size. Conditions: none but those that stand in each law. -/
namespace Go.Ab
open Go Go.RowKit

theorem run_copy_rows {P : Program} (w : World) (dT sT ty elem : TypeId) (b o dLen dCap : Nat) (a : Addr) (sLen sCap z k : Nat) (cs : List Value)
    (hu : P.underlying dT = some (.slice elem)) (hs : (P.info? elem).map (·.size) = some z) (hk : k = Nat.min sLen dLen) (hn : cs.length = k * z)
    (hsrc : ∀ j v, cs[j]? = some v → w.cell? (a.add j) = some v) (hc : ∀ j, j < cs.length → (w.cell? ⟨b, o + j, none⟩).isSome = true) (hf : ∀ j, j < cs.length → w.frozen? ⟨b, o + j, none⟩ = false) (h1 : ∀ v ∈ cs, v.oneCell' = true) :
    (Builtin.copy_ #[dT, sT] ty #[.slice (some ⟨b, o, none⟩) dLen dCap, .slice (some a) sLen sCap]).run P w = .ok (goInt k) (w.setCells b o cs) := by
  have hl := run_loadCells_list (P := P) w a cs hsrc
  have hst := run_storeCells_cells (P := P) b o cs 0 w (by simpa using hc) (by simpa using hf) h1
  cases hq : P.info? elem with
  | none => simp [hq] at hs
  | some i =>
    have hi : i.size = z := by simpa [hq] using hs
    simp [Builtin.copy_, run_underlying hu, Builtin.lenOf, Builtin.firstCells, sizeOf, typeInfo, hq, hi, ← hk, ← hn, hl, hst]

/-- 'overlaps' of two slices in two blocks, the second of which is plain memory -/
theorem run_overlaps_plain {P : Program} (w : World) (tS tR e : TypeId) (ht : P.underlying tS = some (.slice e)) (size : Nat) (hz : ∀ w, (Go.sizeOf e).run P w = .ok size w)
    (a b : Addr) (la ca lb cb : Nat) (hne : a.block ≠ b.block) (tA tB : TypeId) (kA kB : Nat)
    (hsa : w.shape? a.block = some (tA, kA)) (hsb : w.shape? b.block = some (tB, kB)) (hkA : kA ≠ 0) (hkB : kB ≠ 0)
    (hfb : w.frozen? b = false) (hfe : w.frozen? { block := b.block, off := kB } = false) :
    (Extern.SlicesOverlaps.overlaps #[tS, tS] #[tR] #[.slice (some a) la ca, .slice (some b) lb cb]).run P w = .ok (.bool false) w := by
  have hnb : (a.block != b.block) = true := by simpa using hne
  have hnb' : (a.block == b.block) = false := by simpa using hne
  change Sem.run P (α := Value) (do
    let some t := (#[tS, tS] : Array TypeId)[0]? | stuck "slices.overlaps: no parameter types"
    let .slice elem ← underlying t | stuck "slices.overlaps: slice type expected"
    let size ← sizeOf elem
    match (some a : Option Addr), (some b : Option Addr) with
    | some a, some b =>
      if la = 0 ∨ lb = 0 ∨ size = 0 then pure (Value.bool false)
      else if a.block != b.block && (← frozen a) && (← frozen b) then unsupported .addressObserved
      else do
        if a.block != b.block then do
          noView a; noView b
          if ← mayBeOne a b then return Value.bool ((← choose (.extern "sameAddr.stringBytes" 2)) == 1)
        pure (Value.bool (a.block == b.block && a.off < b.off + lb * size && b.off < a.off + la * size))
    | _, _ => pure (Value.bool false)) w = _
  by_cases h0 : la = 0 ∨ lb = 0 ∨ size = 0
  · simp [run_underlying ht, hz, h0]
  · cases kB with
    | zero => exact absurd rfl hkB
    | succ kB =>
     cases kA with
     | zero => exact absurd rfl hkA
     | succ kA =>
      cases hfa : w.frozen? a <;> cases hfa2 : w.frozen? { block := a.block, off := kA + 1 } <;>
        simp [run_underlying ht, hz, h0, hnb, hnb', frozen, noView, viewAt, mayBeOne, stringish, shape, Sem.run, hsa, hsb, hfa, hfa2, hfb, hfe]
end Go.Ab

/- One element that is put into a row of the call's own: what the row holds then, out of what the heap holds. Conditions: none but those that stand in each law. -/
namespace Go.Ab
open Go Go.RowKit

theorem setCells_same (b : Nat) : ∀ (vs : List Value) (o : Nat) (w : World), (w.setCells b o vs).os = w.os ∧ (w.setCells b o vs).tape = w.tape ∧ (w.setCells b o vs).output = w.output ∧ (w.setCells b o vs).heap.size = w.heap.size ∧ ∀ k, k ≠ b → (w.setCells b o vs).heap[k]? = w.heap[k]?
  | [], _, _ => ⟨rfl, rfl, rfl, rfl, fun _ _ => rfl⟩
  | v :: vs, o, w => by
    obtain ⟨h1, h2, h3, h4, h5⟩ := setCells_same b vs (o + 1) (w.setCell ⟨b, o, none⟩ v)
    refine ⟨h1, h2, h3, by rw [World.setCells, h4]; simp [World.setCell], fun k hk => ?_⟩
    rw [World.setCells, h5 k hk]
    simp only [World.setCell, Array.getElem?_modify]
    rw [if_neg (fun c => hk c.symm)]

theorem setCells_row (b T : Nat) (fz : Nat × Nat) : ∀ (vs : List Value) (o : Nat) (w : World) (cur : Array Value), w.heap[b]? = some (.cells cur T fz) → o + vs.length ≤ cur.size →
    ∃ cur', (w.setCells b o vs).heap[b]? = some (.cells cur' T fz) ∧ cur'.size = cur.size ∧ ∀ j, cur'[j]? = if o ≤ j ∧ j < o + vs.length then vs[j - o]? else cur[j]?
  | [], o, w, cur, h, _ => ⟨cur, h, rfl, fun j => by rw [if_neg (by simp)]⟩
  | v :: vs, o, w, cur, h, hl => by
    simp only [List.length_cons] at hl
    have h1 : (w.setCell ⟨b, o, none⟩ v).heap[b]? = some (.cells (cur.setIfInBounds o v) T fz) := by
      simp only [World.setCell, Array.getElem?_modify, if_true, h, Option.map_some]
      rfl
    obtain ⟨cur', h2, h3, h4⟩ := setCells_row b T fz vs (o + 1) (w.setCell ⟨b, o, none⟩ v) (cur.setIfInBounds o v) h1 (by simp; omega)
    refine ⟨cur', h2, by rw [h3]; simp, fun j => ?_⟩
    rw [h4]
    simp only [List.length_cons]
    by_cases c : o + 1 ≤ j ∧ j < o + 1 + vs.length
    · rw [if_pos c, if_pos (by omega), show j - o = (j - (o + 1)) + 1 by omega, List.getElem?_cons_succ]
    · rw [if_neg c]
      by_cases c2 : j = o
      · subst c2
        rw [if_pos (by omega), Nat.sub_self, Array.getElem?_setIfInBounds, if_pos rfl, if_pos (by omega)]
        rfl
      · rw [if_neg (by omega), Array.getElem?_setIfInBounds, if_neg (fun c => c2 c.symm)]

/-- what a call leaves that hands back a row of m elements: its cells begin with xs; it lies in the block 'own', or in a new one -/
structure InsR (E z : Nat) (own : Option Nat) (m : Nat) (xs : List Value) (w w' : World) (v : Value) : Prop where
  os : w'.os = w.os
  tape : w'.tape = w.tape
  output : w'.output = w.output
  size : w.heap.size ≤ w'.heap.size
  block : ∀ k, k < w.heap.size → own ≠ some k → w'.heap[k]? = w.heap[k]?
  row : ∃ (b cap : Nat) (cur : Array Value), v = .slice (some ⟨b, 0, none⟩) m cap ∧ m ≤ cap ∧ cap ≤ maxLen ∧ (own = some b ∨ w.heap.size ≤ b) ∧ b < w'.heap.size ∧ w'.heap[b]? = some (.cells cur E (0, 0)) ∧ cur.size = cap * z ∧ ∀ (j : Nat) (u : Value), xs[j]? = some u → cur[j]? = some u

/-- what is known of the element that is put in: its cells lie in another block -/
structure InsV (z : Nat) (w : World) (b : Option Nat) (vb vo : Nat) (vs : List Value) : Prop where
  len : vs.length = z
  cell : ∀ (j : Nat) (v : Value), vs[j]? = some v → w.cell? ⟨vb, vo + j, none⟩ = some v
  one : ∀ v ∈ vs, v.oneCell' = true
  apart : b ≠ some vb
  shape : ∃ t k, w.shape? vb = some (t, k) ∧ k ≠ 0

theorem cell_of_cells {w : World} {b T : Nat} {cur : Array Value} {fz : Nat × Nat} (h : w.heap[b]? = some (.cells cur T fz)) (j : Nat) : w.cell? ⟨b, j, none⟩ = cur[j]? := cell_of_row w b j cur T fz h

theorem shape_of_cell {w : World} {b o : Nat} {x : Value} (h : w.cell? ⟨b, o, none⟩ = some x) : ∃ t k, w.shape? b = some (t, k) ∧ k ≠ 0 := by
  simp only [World.cell?] at h
  unfold World.shape?
  cases hq : w.heap[b]? with
  | none => simp [hq] at h
  | some ob =>
    cases ob with
    | cells c t fz =>
      refine ⟨t, c.size, rfl, fun h0 => ?_⟩
      simp [hq] at h
      have := (Array.getElem?_eq_some_iff.1 h).1
      omega
    | _ => simp [hq] at h

/-- A CONTRACT OUT OF WHAT THE HEAP HOLDS -/
theorem ct_insert {P : Program} {f E z : Nat} {es : List (List DV)} {x : List DV} {i : Nat} (hi : i ≤ es.length) (hx : x.length = z)
    (hnil : es = [] → ∀ (w : World) (a : Option Addr) (vb vo vc : Nat) (vs : List Value), InsV z w none vb vo vs →
      Calls P f #[.slice a 0 0, .int .i64 (i : Int), .slice (some ⟨vb, vo, none⟩) 1 vc] w fun e w' => ∃ v, e = .returned v ∧ InsR E z none 1 vs w w' v)
    (hrow : ∀ (w : World) (b c : Nat) (cur : Array Value) (vb vo vc : Nat) (vs : List Value), w.heap[b]? = some (.cells cur E (0, 0)) → cur.size = c * z → es.length ≤ c → c ≤ maxLen → (∀ (j : Nat) (v : Value), j < es.length * z → cur[j]? = some v → v.oneCell' = true) → InsV z w (some b) vb vo vs →
      Calls P f #[.slice (some ⟨b, 0, none⟩) es.length c, .int .i64 (i : Int), .slice (some ⟨vb, vo, none⟩) 1 vc] w fun e w' => ∃ v, e = .returned v ∧ InsR E z (some b) (es.length + 1) ((cur.toList.take (es.length * z)).take (i * z) ++ (vs ++ (cur.toList.take (es.length * z)).drop (i * z))) w w' v) :
    Ct P f [.row E z es, .g (.d (.v (.int .i64 (i : Int)))), .g (.d (.sl z [x]))] (.new E z (es.take i ++ ([x] ++ es.drop i))) := by
  refine ⟨fun M K w vs hM hK hl hargs => ?_⟩
  obtain ⟨u0, u1, u2, rfl⟩ : ∃ a b c, vs = [a, b, c] := by
    match vs, hl with
    | [a, b, c], _ => exact ⟨a, b, c, rfl⟩
  obtain ⟨hz, hsz, hr0⟩ := hargs 0 _ u0 rfl rfl
  have h1 : u1 = .int .i64 (i : Int) := RD.v_inv (hargs 1 _ u1 rfl rfl)
  have h2 : RD (fun b o => M b o ∨ K b) w u2 (.sl z [x]) := hargs 2 _ u2 rfl rfl
  subst h1
  generalize hes1 : ([x] : List (List DV)) = es1 at h2
  generalize hdv : DV.sl z es1 = dv at h2
  cases h2 with
  | v => cases hdv
  | sl a cap size es2 vals vb vo hc hm ha hs hv hr =>
    cases hdv
    subst hes1
    obtain rfl := ha (by simp)
    have hvz : ∀ j, j < z → w.cell? ⟨vb, vo + j, none⟩ = some (vals 0 j) ∧ ¬ (M vb (vo + j) ∨ K vb) := fun j hj => by
      have := hv 0 x j x[j] rfl (by simp [hx, hj])
      simpa using this
    have hrz : ∀ j d, x[j]? = some d → RD (fun b o => M b o ∨ K b) w (vals 0 j) d := fun j d hd => hr 0 x j d rfl hd
    have hKv : ¬ K vb := fun c => (hvz 0 hz).2 (.inr c)
    -- the element
    have hV : ∀ ob : Option Nat, ob ≠ some vb → InsV z w ob vb vo ((List.range z).map (vals 0)) := fun ob hob => by
      refine ⟨by simp, fun j v hj => ?_, fun v hv => ?_, hob, shape_of_cell (hvz 0 hz).1⟩
      · have hjz : j < z := by
          have := (List.getElem?_eq_some_iff.1 hj).1
          simpa using this
        rw [List.getElem?_map, List.getElem?_range hjz] at hj
        simp at hj
        subst hj
        exact (hvz j hjz).1
      · obtain ⟨j, hj, rfl⟩ := List.mem_map.1 hv
        have hjz : j < z := by simpa using hj
        exact (hrz j x[j] (by simp)).one
    -- what comes behind
    have fin : ∀ (own : Option Nat) (xs : List Value) (w' : World) (v : Value) (mm : Nat), mm = es.length + 1 → (∀ b, own = some b → K b) → InsR E z own mm xs w w' v →
        (∀ (q : Nat) (cs : List DV) (j : Nat) (d : DV), (es.take i ++ ([x] ++ es.drop i))[q]? = some cs → cs[j]? = some d → ∃ u, xs[q * z + j]? = some u ∧ ∃ M0 : Nat → Nat → Prop, RD M0 w u d ∧ (∀ b o, ¬ M0 b o → ¬ M b o ∧ own ≠ some b)) →
        KeepW K w w' ∧ ResR M K w w' (.new E z (es.take i ++ ([x] ++ es.drop i))) v := by
      intro own xs w' v mm hmm hown hI hread
      obtain ⟨b, cap', cur', rfl, g1, g2, g3, g4, g5, g6, g7⟩ := hI.row
      have hlen : (es.take i ++ ([x] ++ es.drop i)).length = mm := by simp; omega
      refine ⟨⟨hI.os, hI.tape, hI.output, hI.size, fun k hk hnk => hI.block k hk fun c => hnk (hown k c)⟩, hz, fun cs hcs => ?_, .inr ⟨b, cap', cur', ?_, g4, by rw [hlen], by rw [hlen]; exact g1, g2, g5, g6, fun q cs j d hq hj => ?_⟩⟩
      · rcases List.mem_append.1 hcs with h | h
        · exact hsz cs (List.mem_of_mem_take h)
        · rcases List.mem_append.1 h with h | h
          · simp at h; subst h; exact hx
          · exact hsz cs (List.mem_of_mem_drop h)
      · rcases g3 with g3 | g3
        · exact .inr (hown b g3)
        · exact .inl g3
      · obtain ⟨u, hu, M0, hrd, hM0⟩ := hread q cs j d hq hj
        refine ⟨u, g7 _ u hu, hrd.mono fun b' o y hn hy => ?_⟩
        obtain ⟨hn1, hn2⟩ := hM0 b' o hn
        have hlt := cell_lt hy
        refine ⟨?_, fun c => ?_⟩
        · have := hI.block b' hlt hn2
          simp only [World.cell?] at hy ⊢
          rw [this]; exact hy
        · rcases c with c | c
          · exact hn1 c
          · subst c
            rcases g3 with g3 | g3
            · exact hn2 g3
            · omega
    rcases hr0 with ⟨rfl, a0, rfl⟩ | ⟨b, c0, cur, hKb, hlt, rfl, hle, hcm, hheap, hcs, hel⟩
    · have hi0 : i = 0 := by simpa using hi
      refine (hnil rfl w a0 vb vo cap _ (hV none (fun c => (by cases c)))).mono fun e w' ⟨v, he, hI⟩ => ⟨v, he, fin none _ w' v 1 rfl (fun _ c => (by cases c)) hI fun q cs j d hq hj => ?_⟩
      subst hi0
      have hq0 : q = 0 ∧ cs = x := by
        cases q with
        | zero => simpa using hq.symm
        | succ q => simp at hq
      obtain ⟨rfl, rfl⟩ := hq0
      have hjz : j < cs.length := (List.getElem?_eq_some_iff.1 hj).1
      rw [hx] at hjz
      exact ⟨vals 0 j, by rw [Nat.zero_mul, Nat.zero_add, List.getElem?_map, List.getElem?_range hjz]; rfl, _, hrz j d hj, fun b o hn => ⟨fun c => hn (.inl c), fun c => (by cases c)⟩⟩
    · have hbv : some b ≠ some vb := fun c => hKv (by cases c; exact hKb)
      have hone : ∀ j v, j < es.length * z → cur[j]? = some v → v.oneCell' = true := fun j v hj hv => by
        have hq : j / z < es.length := (Nat.div_lt_iff_lt_mul hz).2 hj
        have hmod : j % z < z := Nat.mod_lt _ hz
        have hl2 : es[j / z].length = z := hsz _ (List.getElem_mem hq)
        obtain ⟨v', g1, g2⟩ := hel (j / z) es[j / z] (j % z) (es[j / z]'hq)[j % z] (by simp [hq]) (by simp [hl2, hmod])
        rw [show j / z * z + j % z = j by rw [Nat.mul_comm]; exact Nat.div_add_mod j z, hv] at g1
        cases g1
        exact g2.one
      refine (hrow w b c0 cur vb vo cap _ hheap hcs hle hcm hone (hV (some b) hbv)).mono fun e w' ⟨v, he, hI⟩ => ⟨v, he, fin (some b) _ w' v (es.length + 1) rfl (fun b' c => by cases c; exact hKb) hI fun q cs j d hq hj => ?_⟩
      have hjl : j < cs.length := (List.getElem?_eq_some_iff.1 hj).1
      have hbig : es.length * z ≤ cur.size := by rw [hcs]; exact Nat.mul_le_mul_right _ hle
      have hiz : i * z ≤ es.length * z := Nat.mul_le_mul_right _ hi
      have htl : ((cur.toList.take (es.length * z)).take (i * z)).length = i * z := by simp; omega
      have hvl : ((List.range z).map (vals 0)).length = z := by simp
      by_cases c1 : q < i
      · rw [List.getElem?_append_left (by simp; omega), List.getElem?_take_of_lt c1] at hq
        have hcl : cs.length = z := hsz _ (List.mem_of_getElem? hq)
        obtain ⟨u, g1, g2⟩ := hel q cs j d hq hj
        have hpos : q * z + j < i * z := by
          have : (q + 1) * z ≤ i * z := Nat.mul_le_mul_right _ c1
          rw [Nat.succ_mul] at this; omega
        refine ⟨u, ?_, _, g2, fun b' o hn => ⟨fun c => hn (.inl c), fun c => hn (.inr (by cases c; rfl))⟩⟩
        rw [List.getElem?_append_left (by rw [htl]; exact hpos), List.getElem?_take_of_lt hpos, List.getElem?_take_of_lt (by omega), Array.getElem?_toList]
        exact g1
      · have hq' : ([x] ++ es.drop i)[q - i]? = some cs := by
          rw [List.getElem?_append_right (by simp; omega)] at hq
          simpa [Nat.min_eq_left hi] using hq
        by_cases c2 : q = i
        · subst c2
          rw [Nat.sub_self] at hq'
          have : x = cs := by simpa using hq'
          subst this
          rw [hx] at hjl
          refine ⟨vals 0 j, ?_, _, hrz j d hj, fun b' o hn => ⟨fun c => hn (.inl c), fun c => hn (.inr (by cases c; exact hKb))⟩⟩
          rw [List.getElem?_append_right (by rw [htl]; omega), htl, show q * z + j - q * z = j by omega, List.getElem?_append_left (by rw [hvl]; exact hjl), List.getElem?_map, List.getElem?_range hjl]
          rfl
        · obtain ⟨p, rfl⟩ : ∃ p, q = p + 1 := ⟨q - 1, by omega⟩
          rw [show p + 1 - i = (p - i) + 1 by omega] at hq'
          have hq2 : es[p]? = some cs := by
            simp only [List.singleton_append, List.getElem?_cons_succ, List.getElem?_drop] at hq'
            rwa [show i + (p - i) = p by omega] at hq'
          have hcl : cs.length = z := hsz _ (List.mem_of_getElem? hq2)
          obtain ⟨u, g1, g2⟩ := hel p cs j d hq2 hj
          have hpl : p < es.length := (List.getElem?_eq_some_iff.1 hq2).1
          have hpz : (p + 1) * z ≤ es.length * z := Nat.mul_le_mul_right _ hpl
          have hip : i * z ≤ p * z := Nat.mul_le_mul_right _ (by omega)
          rw [Nat.succ_mul] at hpz
          refine ⟨u, ?_, _, g2, fun b' o hn => ⟨fun c => hn (.inl c), fun c => hn (.inr (by cases c; rfl))⟩⟩
          rw [List.getElem?_append_right (by rw [htl, Nat.succ_mul]; omega), htl, List.getElem?_append_right (by rw [hvl, Nat.succ_mul]; omega), hvl, List.getElem?_drop, List.getElem?_take_of_lt (by rw [Nat.succ_mul]; omega), Array.getElem?_toList]
          rw [show i * z + ((p + 1) * z + j - i * z - z) = p * z + j by rw [Nat.succ_mul]; omega]
          exact g1
end Go.Ab

/- The ways of an insertion: what each leaves. Conditions: none but those that stand in each law. -/
namespace Go.Ab
open Go Go.RowKit

theorem InsR.shift {E z b c n i : Nat} {cur : Array Value} {vs : List Value} {w : World} (hh : w.heap[b]? = some (.cells cur E (0, 0))) (hc : cur.size = c * z) (hi : i < n) (hn : n + 1 ≤ c) (hm : c ≤ maxLen) (hv : vs.length = z) :
    InsR E z (some b) (n + 1) ((cur.toList.take (n * z)).take (i * z) ++ (vs ++ (cur.toList.take (n * z)).drop (i * z))) w ((w.drew.setCells b ((i + 1) * z) ((cur.toList.take (n * z)).drop (i * z))).setCells b (i * z) vs) (.slice (some ⟨b, 0, none⟩) (n + 1) c) := by
  have hnz : (n + 1) * z ≤ cur.size := by rw [hc]; exact Nat.mul_le_mul_right _ hn
  have hiz : (i + 1) * z ≤ n * z := Nat.mul_le_mul_right _ hi
  rw [Nat.succ_mul] at hnz hiz
  have hdl : ((cur.toList.take (n * z)).drop (i * z)).length = n * z - i * z := by simp; omega
  obtain ⟨c1, h1, h2, h3⟩ := setCells_row b E (0, 0) ((cur.toList.take (n * z)).drop (i * z)) ((i + 1) * z) w.drew cur hh (by rw [hdl, Nat.succ_mul]; omega)
  obtain ⟨c2, h4, h5, h6⟩ := setCells_row b E (0, 0) vs (i * z) _ c1 h1 (by rw [h2, hv]; omega)
  obtain ⟨a1, a2, a3, a4, a5⟩ := setCells_same b ((cur.toList.take (n * z)).drop (i * z)) ((i + 1) * z) w.drew
  obtain ⟨b1, b2, b3, b4, b5⟩ := setCells_same b vs (i * z) (w.drew.setCells b ((i + 1) * z) ((cur.toList.take (n * z)).drop (i * z)))
  have hb : b < w.heap.size := (Array.getElem?_eq_some_iff.1 hh).1
  refine ⟨b1.trans a1, b2.trans a2, b3.trans a3, by rw [b4, a4]; exact Nat.le_refl _, fun k _ hk => ?_, b, c, c2, rfl, hn, hm, .inl rfl, by rw [b4, a4]; exact hb, h4, by rw [h5, h2, hc], fun j u hj => ?_⟩
  · have hkb : k ≠ b := fun e => hk (by rw [e])
    rw [b5 k hkb, a5 k hkb]; rfl
  · rw [h6, hv]
    have htl : ((cur.toList.take (n * z)).take (i * z)).length = i * z := by simp; omega
    by_cases g1 : j < i * z
    · rw [if_neg (by omega), h3, if_neg (by rw [Nat.succ_mul]; omega)]
      rw [List.getElem?_append_left (by rw [htl]; exact g1), List.getElem?_take_of_lt g1, List.getElem?_take_of_lt (by omega), Array.getElem?_toList] at hj
      exact hj
    · rw [List.getElem?_append_right (by rw [htl]; omega), htl] at hj
      by_cases g2 : j < i * z + z
      · rw [if_pos ⟨by omega, g2⟩]
        rwa [List.getElem?_append_left (by rw [hv]; omega)] at hj
      · rw [if_neg (by omega), h3]
        rw [List.getElem?_append_right (by rw [hv]; omega), hv] at hj
        have hlt := (List.getElem?_eq_some_iff.1 hj).1
        rw [hdl] at hlt
        rw [if_pos (by rw [hdl, Nat.succ_mul]; omega), Nat.succ_mul, show j - (i * z + z) = j - i * z - z by omega]
        exact hj

theorem InsR.room {E z b c n : Nat} {cur : Array Value} {vs : List Value} {w : World} (hh : w.heap[b]? = some (.cells cur E (0, 0))) (hc : cur.size = c * z) (hn : n + 1 ≤ c) (hm : c ≤ maxLen) (hv : vs.length = z) :
    InsR E z (some b) (n + 1) ((cur.toList.take (n * z)).take (n * z) ++ (vs ++ (cur.toList.take (n * z)).drop (n * z))) w (w.setCells b (n * z) vs) (.slice (some ⟨b, 0, none⟩) (n + 1) c) := by
  have hnz : (n + 1) * z ≤ cur.size := by rw [hc]; exact Nat.mul_le_mul_right _ hn
  rw [Nat.succ_mul] at hnz
  obtain ⟨c1, h1, h2, h3⟩ := setCells_row b E (0, 0) vs (n * z) w cur hh (by rw [hv]; omega)
  obtain ⟨a1, a2, a3, a4, a5⟩ := setCells_same b vs (n * z) w
  have hb : b < w.heap.size := (Array.getElem?_eq_some_iff.1 hh).1
  have htl : (cur.toList.take (n * z)).length = n * z := by simp; omega
  refine ⟨a1, a2, a3, by rw [a4]; exact Nat.le_refl _, fun k _ hk => a5 k fun e => hk (by rw [e]), b, c, c1, rfl, hn, hm, .inl rfl, by rw [a4]; exact hb, h1, by rw [h2, hc], fun j u hj => ?_⟩
  rw [List.take_of_length_le (by rw [htl]; exact Nat.le_refl _), List.drop_of_length_le (by rw [htl]; exact Nat.le_refl _), List.append_nil] at hj
  rw [h3, hv]
  by_cases g1 : j < n * z
  · rw [if_neg (by omega)]
    rw [List.getElem?_append_left (by rw [htl]; exact g1), List.getElem?_take_of_lt g1, Array.getElem?_toList] at hj
    exact hj
  · rw [List.getElem?_append_right (by rw [htl]; omega), htl] at hj
    have hlt := (List.getElem?_eq_some_iff.1 hj).1
    rw [hv] at hlt
    rw [if_pos (by omega)]
    exact hj

theorem zeroCells_size (zc : Array Value) (k : Nat) : (Builtin.zeroCells zc k).size = k * zc.size := by simp [Builtin.zeroCells]

theorem InsR.fresh {E z n G : Nat} {own : Option Nat} {xs : List Value} {zs : Array Value} {w : World} (hl : xs.length = (n + 1) * z) (hz : zs.size = (G - (n + 1)) * z) (hg : n + 1 ≤ G) (hm : G ≤ maxLen) :
    InsR E z own (n + 1) xs w (w.drew.alloc (.cells (xs.toArray ++ zs) E)) (.slice (some ⟨w.heap.size, 0, none⟩) (n + 1) G) := by
  have ha : ∀ k, k < w.heap.size → (w.drew.alloc (.cells (xs.toArray ++ zs) E)).heap[k]? = w.heap[k]? := fun k hk => heap_alloc_old w.drew _ hk
  refine ⟨rfl, rfl, rfl, by simp, fun k hk _ => ha k hk, w.heap.size, G, xs.toArray ++ zs, rfl, hg, hm, .inr (Nat.le_refl _), by simp, heap_alloc_new w.drew _, ?_, fun j u hj => ?_⟩
  · rw [Array.size_append, hz, List.size_toArray, hl, ← Nat.add_mul]
    congr 1
    omega
  · have hlt := (List.getElem?_eq_some_iff.1 hj).1
    rw [Array.getElem?_append_left (by simpa using hlt), List.getElem?_toArray]
    exact hj

theorem InsR.grow {E z n i G : Nat} {own : Option Nat} {cs vs : List Value} {zs1 zs2 : Array Value} {w : World} (hcl : cs.length = n * z) (hi : i < n) (hv : vs.length = z) (hz1 : zs1.size = (n + 1 - i) * z) (hz2 : zs2.size = (G - (n + 1)) * z) (hg : n + 1 ≤ G) (hm : G ≤ maxLen) :
    InsR E z own (n + 1) (cs.take (i * z) ++ (vs ++ cs.drop (i * z))) w ((((w.alloc (.cells ((cs.take (i * z)).toArray ++ zs1 ++ zs2) E)).drew.setCells w.heap.size (i * z) vs).drew).setCells w.heap.size ((i + 1) * z) (cs.drop (i * z))) (.slice (some ⟨w.heap.size, 0, none⟩) (n + 1) G) := by
  have hiz : (i + 1) * z ≤ n * z := Nat.mul_le_mul_right _ hi
  rw [Nat.succ_mul] at hiz
  generalize hR : (cs.take (i * z)).toArray ++ zs1 ++ zs2 = R
  have hRs : R.size = G * z := by
    rw [← hR, Array.size_append, Array.size_append, hz1, hz2, List.size_toArray, List.length_take, hcl, Nat.min_eq_left (by omega), ← Nat.add_mul, ← Nat.add_mul]
    congr 1
    omega
  have hGz : (n + 1) * z ≤ R.size := by rw [hRs]; exact Nat.mul_le_mul_right _ hg
  rw [Nat.succ_mul] at hGz
  have hR0 : ∀ j, j < i * z → R[j]? = cs[j]? := fun j hj => by
    rw [← hR, Array.append_assoc, Array.getElem?_append_left (by simp; omega), List.getElem?_toArray, List.getElem?_take_of_lt hj]
  have h0 : ((w.alloc (.cells R E)).drew).heap[w.heap.size]? = some (.cells R E (0, 0)) := heap_alloc_new w _
  have hdl : (cs.drop (i * z)).length = n * z - i * z := by simp [hcl]
  obtain ⟨c1, h1, h2, h3⟩ := setCells_row w.heap.size E (0, 0) vs (i * z) (w.alloc (.cells R E)).drew R h0 (by rw [hv]; omega)
  obtain ⟨c2, h4, h5, h6⟩ := setCells_row w.heap.size E (0, 0) (cs.drop (i * z)) ((i + 1) * z) (((w.alloc (.cells R E)).drew.setCells w.heap.size (i * z) vs).drew) c1 h1 (by rw [h2, hdl, Nat.succ_mul]; omega)
  obtain ⟨a1, a2, a3, a4, a5⟩ := setCells_same w.heap.size vs (i * z) (w.alloc (.cells R E)).drew
  obtain ⟨b1, b2, b3, b4, b5⟩ := setCells_same w.heap.size (cs.drop (i * z)) ((i + 1) * z) (((w.alloc (.cells R E)).drew.setCells w.heap.size (i * z) vs).drew)
  have hsz : ((((w.alloc (.cells R E)).drew.setCells w.heap.size (i * z) vs).drew).setCells w.heap.size ((i + 1) * z) (cs.drop (i * z))).heap.size = w.heap.size + 1 := by
    rw [b4]
    have : ((w.alloc (.cells R E)).drew.setCells w.heap.size (i * z) vs).heap.size = w.heap.size + 1 := by rw [a4]; simp
    exact this
  refine ⟨b1.trans a1, b2.trans a2, b3.trans a3, by rw [hsz]; omega, fun k hk _ => ?_, w.heap.size, G, c2, rfl, hg, hm, .inr (Nat.le_refl _), by rw [hsz]; omega, h4, by rw [h5, h2, hRs], fun j u hj => ?_⟩
  · rw [b5 k (by omega)]
    have := a5 k (by omega)
    refine Eq.trans this ?_
    exact heap_alloc_old w _ hk
  · have htl : (cs.take (i * z)).length = i * z := by rw [List.length_take, hcl]; omega
    rw [h6, hdl]
    by_cases g1 : j < i * z
    · rw [if_neg (by rw [Nat.succ_mul]; omega), h3, if_neg (by omega), hR0 j g1]
      rwa [List.getElem?_append_left (by rw [htl]; exact g1), List.getElem?_take_of_lt g1] at hj
    · rw [List.getElem?_append_right (by rw [htl]; omega), htl] at hj
      by_cases g2 : j < i * z + z
      · rw [if_neg (by rw [Nat.succ_mul]; omega), h3, hv, if_pos ⟨by omega, g2⟩]
        rwa [List.getElem?_append_left (by rw [hv]; omega)] at hj
      · rw [List.getElem?_append_right (by rw [hv]; omega), hv] at hj
        have hlt := (List.getElem?_eq_some_iff.1 hj).1
        rw [hdl] at hlt
        rw [if_pos (by rw [Nat.succ_mul]; omega), Nat.succ_mul, show j - (i * z + z) = j - i * z - z by omega]
        exact hj

/-- 'slices.Insert(s, i, x)' -/
def insL {α : Type} (bytes : Nat) (s : List α) (i : Int) (v : List α) : Option (List α) :=
  match v with
  | [x] => if 0 ≤ i ∧ i ≤ s.length ∧ s.length + 1 ≤ 1099511627776 ∧ (s.length + 1) * bytes ≤ 140737488355328 then some (s.take i.toNat ++ (x :: s.drop i.toNat)) else none
  | _ => none

theorem insL_ok {α : Type} {bytes : Nat} {s v r : List α} {i : Int} (h : insL bytes s i v = some r) :
    ∃ (x : α) (k : Nat), v = [x] ∧ i = (k : Int) ∧ k ≤ s.length ∧ s.length + 1 ≤ 1099511627776 ∧ (s.length + 1) * bytes ≤ 140737488355328 ∧ r = s.take k ++ (x :: s.drop k) := by
  unfold insL at h
  split at h
  · split at h
    · rename_i x c
      cases h
      exact ⟨x, i.toNat, rfl, by omega, by omega, c.2.2.1, c.2.2.2, rfl⟩
    · cases h
  · cases h

theorem insL_map {α β : Type} (f : α → β) (s : List α) (x : α) (k : Nat) : (s.take k ++ (x :: s.drop k)).map f = (s.map f).take k ++ ([f x] ++ (s.map f).drop k) := by
  rw [List.map_append, List.map_cons, List.map_take, List.map_drop]
  rfl
end Go.Ab

/- The abstract machine: a call that keeps the row that it is handed, and makes it longer, as one operation. Conditions: none but those that stand in each law. -/
namespace Go.Ab
open Go Go.RowKit

section
variable {P : Program} {nt : Nat} {C : Cx P nt} {dst : Nat} {ty : TypeId} {pos : String} {af : Array Edge} {gd : Option (Nat × Bool)} {x : Operand} {R1 R2 : List (Nat × SV)}

theorem op_callGrow {f T size kk : Nat} {xs : List Operand} {tys : Array TypeId} {args : List RG} {es es' : List (List DV)} {Rh : List (Nat × Option HE)} (hc : CallF P f) (hct : Ct P f (.row T size es :: args) (.new T size es')) (hgr : Nat.blt es.length es'.length = true)
    (hx : Ev x (.own kk es) R1) (hxs : EvX P xs args R2 Rh) (hd : Nat.blt dst nt = true) :
    OpL C (Oo dst (cCall f (x :: xs) tys) ty pos af gd) (R1 ++ R2) ((kk, some (.row T size es true)) :: Rh) [(dst, .one (.own kk es'))] [(kk, some (.row T size es' true))] := by
  refine ⟨fun sl hp hs hh a w K Q ⟨β, r⟩ hK => ?_⟩
  have hgr : es.length < es'.length := by simpa using hgr
  have hu := hx.ok hs.app.1 r
  obtain ⟨_, _, _, _, h1, _, h2⟩ := id hu
  rw [hh.1] at h1; cases h1
  have h2 := h2 rfl
  obtain ⟨hz, hsz, hr⟩ := r.hp kk _ hh.1
  have hmuk : ∀ b, β kk = some b → ∀ o, Mu C hp β b o := fun b hb o => .inr ⟨kk, _, hh.1, hb, .inl rfl⟩
  have hmu : ∀ b b' o, β kk = some b → ((Mu C hp β b' o ∧ β kk ≠ some b') ∨ b' = b) → Mu C hp β b' o := fun b b' o hb c => c.elim (fun c => c.1) fun c => by subst c; exact hmuk _ hb o
  obtain ⟨hxl, hxa⟩ := hxs.ok hs.app.2 hh.2 r hh.1
  have hcall := hct.go (fun b o => Mu C hp β b o ∧ β kk ≠ some b) (fun b => β kk = some b) w (a.eval x :: xs.map a.eval) (fun b o c => ⟨r.mut_lt c.1, c.2⟩)
    (fun b hb => by
      rcases h2 with ⟨h3, _⟩ | ⟨b', cap, cur, h3, h4, _⟩
      · rw [hb] at h3; cases h3
      · rw [hb] at h3; cases h3
        exact ⟨0, T, size, es, cap, rfl, by simp [h4]⟩)
    (by simpa using hxl)
    (fun i g v hg hv => by
      cases i with
      | succ i => exact hxa i g v (by simpa using hg) (by simpa using hv)
      | zero =>
        simp at hg hv; subst hg hv
        refine ⟨hz, hsz, ?_⟩
        rcases h2 with ⟨_, h3, h4⟩ | ⟨b, cap, cur, hb, hu', hle, hcm, hheap, hcs⟩
        · exact .inl ⟨h3, h4⟩
        · rcases hr with ⟨q1, _⟩ | ⟨b', cur', q1, q2, q3, q4⟩
          · rw [hb] at q1; cases q1
          · rw [hb] at q1; cases q1
            rw [hheap] at q2; cases q2
            exact .inr ⟨b, cap, cur, hb, (r.own kk _ b hh.1 hb).2, hu', hle, hcm, hheap, hcs, fun i cs j d hi hj => let ⟨v, p1, p2⟩ := q4 i cs j d hi hj; ⟨v, p1, p2.less fun b' o c => hmu b b' o hb c⟩⟩)
  unfold Oper.wp
  rw [run_call hc]
  refine hcall.mono ?_
  rintro e w' ⟨v, rfl, hkw, hz', hs', hres⟩
  rcases hres with ⟨h3, _⟩ | ⟨b, cap, cur, hB, hlt, hv, hle, hcm, hheap, hcs, hel⟩
  · subst h3; simp at hgr
  · have hmu' : ∀ b' o, Mu C ((kk, some (HE.row T size es' true)) :: hp) (upd β kk (some b)) b' o → (Mu C hp β b' o ∧ β kk ≠ some b') ∨ b' = b := by
      rintro b' o (hM | ⟨k', e', he', hb', hm'⟩)
      · refine .inl ⟨.inl hM, fun c => ?_⟩
        obtain ⟨h4, h5⟩ := r.low b' o hM
        rcases (r.own kk _ b' hh.1 c).1 with h6 | h6
        · omega
        · exact h5 h6
      · rw [hget_cons] at he'
        by_cases hkk : kk = k'
        · subst hkk; simp only [upd, if_true] at hb'; cases hb'; exact .inr rfl
        · rw [if_neg hkk] at he'
          simp only [upd, if_neg (fun c => hkk (Eq.symm c))] at hb'
          exact .inl ⟨.inr ⟨k', e', he', hb', hm'⟩, fun c => hkk (r.inj kk k' _ e' b' hh.1 he' c hb')⟩
    have hnew : BR C ((kk, some (HE.row T size es' true)) :: hp) (upd β kk (some b)) w' (.own kk es') v :=
      ⟨T, size, es', true, by rw [hget_cons, if_pos rfl], Nat.le_refl _, fun _ => .inr ⟨b, cap, cur, by simp [upd], hv, hle, hcm, hheap, hcs⟩⟩
    have hch := (r.chg (w1 := w') (e := .row T size es' true) (bo := some b) hh.1 hkw.os hkw.tape hkw.output hkw.size (fun i hi hne => hkw.block i hi (fun c => hne c.symm)) (fun _ _ _ _ _ hnm => absurd (.inl rfl) hnm)
      (hB.elim (fun c => .inr ⟨b, rfl, c, hlt⟩) fun c => .inl ⟨c.symm, fun o _ => .inl rfl⟩)
      ⟨rfl, fun c => (by cases c)⟩
      (fun es0 u h => by
        obtain ⟨T', size', e1, ex', g1, g2, _⟩ := h
        rw [hh.1] at g1
        cases g1
        exact ⟨T, size, es', true, by rw [hget_cons, if_pos rfl], by omega, fun c => by omega⟩)
      (fun _ _ => ⟨hz', hs', .inr ⟨b, cur, by simp [upd], hheap, by rw [hcs]; exact Nat.mul_le_mul_right _ hle, fun i cs j d hi hj => let ⟨u, q1, q2⟩ := hel i cs j d hi hj; ⟨u, q1, q2.less (hmu' )⟩⟩⟩)).1
    exact hK _ _ ⟨_, hch.put (Below.refl _ _) (by simpa using hd) hnew⟩
end

section
variable {P : Program} {nt : Nat} {C : Cx P nt} {hp hp' : HL} {β : Nat → Option Nat} {w : World}
theorem Mu_ext (h : ∀ k, hget hp' k = hget hp k) : Mu C hp' β = Mu C hp β := by
  funext b o
  simp only [Mu, h]
theorem BR_ext (h : ∀ k, hget hp' k = hget hp k) (c : BV) (u : Value) : BR C hp' β w c u = BR C hp β w c u := by
  cases c <;> simp only [BR, Mu_ext h, h]
theorem SR_ext (h : ∀ k, hget hp' k = hget hp k) (c : SV) (u : Value) : SR C hp' β w c u = SR C hp β w c u := by
  cases c <;> simp only [SR, BR_ext h]
theorem HR_ext (h : ∀ k, hget hp' k = hget hp k) (k : Nat) (e : HE) : HR C hp' β w k e = HR C hp β w k e := by
  cases e <;> simp only [HR, BR_ext h, Mu_ext h, h]
theorem RelB.hpExt {sl : SL} {a : Act} (r : RelB C ⟨sl, hp⟩ β a w) (h : ∀ k, hget hp' k = hget hp k) : RelB C ⟨sl, hp'⟩ β a w where
  keep := r.keep
  low := r.low
  inj := fun k k' e e' b h1 h2 => r.inj k k' e e' b ((h k).symm.trans h1) ((h k').symm.trans h2)
  own := fun k e b h1 => r.own k e b ((h k).symm.trans h1)
  hp := fun k e h1 => by rw [HR_ext h]; exact r.hp k e ((h k).symm.trans h1)
  sl := fun t sv hs => by rw [SR_ext h]; exact r.sl t sv hs
  size := r.size
  df := r.df
  fx := fun b hb => ⟨(r.fx b hb).1, fun e he => (r.fx b hb).2 e ((h 0).symm.trans he)⟩
end

section
variable {P : Program} {nt : Nat} {C : Cx P nt} {dst : Nat}
/-- from now on the row that an operation leaves is only appended to -/
theorem OpL.share {o : Oper} {Rs : List (Nat × SV)} {Rh : List (Nat × Option HE)} {Ws : List (Nat × SV)} {k T size : Nat} {es : List (List DV)} (h : OpL C o Rs Rh Ws [(k, some (.row T size es true))]) :
    OpL C o Rs Rh Ws [(k, some (.row T size es false))] :=
  ⟨fun sl hp hs hh a w K Q r hK => h.go sl hp hs hh a w K Q r fun a' w' ⟨β, q⟩ => hK a' w' ⟨upd β k (β k), by
    have hk : hget ((k, some (.row T size es true)) :: hp) k = some (.row T size es true) := by rw [hget_cons, if_pos rfl]
    refine RelB.hpExt (q.chg (e := .row T size es false) (bo := β k) hk rfl rfl rfl (Nat.le_refl _) (fun _ _ _ => rfl) (fun _ _ _ _ h _ => h) (.inl ⟨rfl, fun o ho => .inr (by simpa [HE.mutAt] using ho)⟩) ⟨rfl, fun _ => rfl⟩ (fun es0 u hu => ?_) (fun _ hRD => ?_)).1 (fun k' => ?_)
    · obtain ⟨T', size', es', ex', h1, h2, h3⟩ := hu
      have h1 : hget ((k, some (.row T size es true)) :: hp) k = _ := h1
      rw [hk] at h1; cases h1
      exact ⟨T, size, es, false, by rw [hget_cons, if_pos rfl], h2, fun hq => by simpa [upd] using h3 hq⟩
    · obtain ⟨hz, hs, hr⟩ := q.hp k _ hk
      exact ⟨hz, hs, hr.imp (fun ⟨q1, q2⟩ => ⟨by simp [upd, q1], q2⟩) fun ⟨b, cur, q1, q2, q3, q4⟩ => ⟨b, cur, by simp [upd, q1], q2, q3, fun i cs j d hi hj => let ⟨u, hu, hr⟩ := q4 i cs j d hi hj; ⟨u, hu, hRD _ _ hr⟩⟩⟩
    · show hget ((k, some (.row T size es false)) :: hp) k' = hget ((k, some (.row T size es false)) :: (k, some (.row T size es true)) :: hp) k'
      simp only [hget_cons]
      by_cases c : k = k'
      · rw [if_pos c, if_pos c]
      · rw [if_neg c, if_neg c, if_neg c]⟩⟩

theorem insL_len {α β : Type} {f : α → β} {bytes : Nat} {s v r : List α} {i : Int} (h : insL bytes s i v = some r) : Nat.blt (s.map f).length (r.map f).length = true := by
  obtain ⟨x, k, _, _, h1, _, _, rfl⟩ := insL_ok h
  simp
  omega
end
end Go.Ab

/- The abstract machine: elements of rows of the call's own, by a pointer. Conditions: none but those that stand in each law. -/
namespace Go.Ab
open Go Go.RowKit

section
variable {P : Program} {nt : Nat} {C : Cx P nt} {dst : Nat} {ty : TypeId} {pos : String} {af : Array Edge} {gd : Option (Nat × Bool)} {x y : Operand} {R1 R2 R : List (Nat × SV)}

theorem BR.rp_inv {hp : HL} {β : Nat → Option Nat} {w : World} {k off : Nat} {es : List (List DV)} {u : Value} (h : BR C hp β w (.rp k es off) u) :
    ∃ s, BR C hp β w (.own k es) s ∧ ∃ b l c, s = .slice (some ⟨b, 0, none⟩) l c ∧ u = .pointer (some ⟨b, off, none⟩) := h

theorem flatten_len {size : Nat} : ∀ {es : List (List DV)}, (∀ cs, cs ∈ es → cs.length = size) → es.flatten.length = es.length * size
  | [], _ => by simp
  | c :: es, h => by
    rw [List.flatten_cons, List.length_append, h c (by simp), flatten_len (es := es) fun x hx => h x (by simp [hx]), List.length_cons, Nat.succ_mul]
    omega

/-- '&s[i]' of a row of the call's own -/
theorem op_indexR {T E : TypeId} {zz : Value} {size bytes k T' : Nat} {es : List (List DV)} {cs : List DV} {kd : IntKind} {i : Int} {ex : Bool} (hT : P.underlying T = some (.slice E)) (hI : Info P E zz size bytes)
    (h0 : 0 ≤ i) (hi : es[i.toNat]? = some cs) (hx : Ev x (.own k es) R1) (hy : Ev y (bI kd i) R2) (hd : Nat.blt dst nt = true) :
    OpL C (Oo dst (.indexAddr T x y) ty pos af gd) (R1 ++ R2) [(k, some (.row T' size es ex))] [(dst, .one (.rp k es (i.toNat * size)))] [] :=
  opl_pure hd rfl fun sl hp β a w hs hh r => by
    have hlt : i.toNat < es.length := (List.getElem?_eq_some_iff.1 hi).1
    have hne : es ≠ [] := fun c => by simp [c] at hlt
    have h1 := hx.ok hs.app.1 r
    obtain ⟨hz, hsz, b, cap, cur, hb, hu, hle, hcm, hheap, hcs, hcl, hel⟩ := own_inv r hh.1 h1 hne
    have h2 := BR.v_inv (hy.ok hs.app.2 r)
    refine ⟨.pointer (some ⟨b, i.toNat * size, none⟩), ?_, a.eval x, h1, b, es.length, cap, hu, rfl⟩
    simp only [execOp, hu, h2, Sem.run_bind, run_indexRow hT hI h0 (show i < (es.length : Int) by omega), Result.andThen_ok, Sem.run_pure]

theorem op_fieldR {S : TypeId} {fs : Array Field} {f : Nat} {fld : Field} {zz : Value} {size bytes k off off' : Nat} {es : List (List DV)} (hS : P.underlying S = some (.struct fs)) (hf : fs[f]? = some fld)
    (hI : Info P fld.type zz size bytes) (hz : size ≠ 0) (he : off + fld.offset = off') (hx : Ev x (.rp k es off) R) (hd : Nat.blt dst nt = true) :
    OpL C (Oo dst (.fieldAddr S x f) ty pos af gd) R [] [(dst, .one (.rp k es off'))] [] :=
  opl_pure hd rfl fun sl hp β a w hs _ r => by
    obtain ⟨s, h1, b, l, c, h2, hu⟩ := BR.rp_inv (hx.ok hs r)
    refine ⟨.pointer (some ⟨b, off', none⟩), ?_, s, h1, b, l, c, h2, rfl⟩
    simp [execOp, hu, run_fieldAt hS hf hI hz, he]

theorem rp_cells {sl : SL} {hp : HL} {β : Nat → Option Nat} {a : Act} {w : World} (r : RelB C ⟨sl, hp⟩ β a w) {kk T size off : Nat} {es : List (List DV)} {ex : Bool} {u : Value} (hk : hget hp kk = some (.row T size es ex)) (hu : BR C hp β w (.rp kk es off) u) (hne : es ≠ []) :
    ∃ b cur, β kk = some b ∧ u = .pointer (some ⟨b, off, none⟩) ∧ w.heap[b]? = some (.cells cur T (0, 0)) ∧ (∀ cs, cs ∈ es → cs.length = size) ∧ 0 < size ∧ es.length * size ≤ cur.size ∧
      ∀ (i : Nat) (cs : List DV) (j : Nat) (d : DV), es[i]? = some cs → cs[j]? = some d → ∃ v, cur[i * size + j]? = some v ∧ RD (Mu C hp β) w v d := by
  obtain ⟨s, h1, b, l, c, h2, hu⟩ := BR.rp_inv hu
  obtain ⟨hz, hsz, b', cap, cur, hb, hu', hle, hcm, hheap, hcs, hcl, hel⟩ := own_inv r hk h1 hne
  rw [h2] at hu'; cases hu'
  exact ⟨b, cur, hb, hu, hheap, hsz, hz, hcl, hel⟩

theorem op_loadR1 {t : TypeId} {td : TypeDesc} {k i f size T : Nat} {es : List (List DV)} {cs : List DV} {d : DV} {ex : Bool} (hU : P.underlying t = some td) (hA : aggD td = false) (hi : es[i]? = some cs) (hc : cs[f]? = some d)
    (hx : Ev x (.rp k es (i * size + f)) R) (hd : Nat.blt dst nt = true) : OpL C (Oo dst (.load t x) ty pos af gd) R [(k, some (.row T size es ex))] [(dst, .one (.g (.d d)))] [] :=
  opl_pure hd rfl fun sl hp β a w hs hh r => by
    have hne : es ≠ [] := fun c => by simp [c] at hi
    obtain ⟨b, cur, hb, hu, hheap, _, _, _, hel⟩ := rp_cells r hh.1 (hx.ok hs r) hne
    obtain ⟨u, h1, h2⟩ := hel i cs f d hi hc
    have hcl : w.cell? ⟨b, i * size + f, none⟩ = some u := by rw [cell_of_row w b _ cur T _ hheap]; exact h1
    exact ⟨u, by simp [execOp, hu, Instr.loadAt, Instr.sureAddr, loadVar, run_isAgg hU, hA, hcl], h2⟩

theorem op_loadRA {t : TypeId} {td : TypeDesc} {zz : Value} {bytes k i f size T : Nat} {es : List (List DV)} {cs ds : List DV} {ex : Bool} (hU : P.underlying t = some td) (hA : aggD td = true) (hI : Info P t zz ds.length bytes) (hi : es[i]? = some cs) (hc : (cs.drop f).take ds.length = ds)
    (hx : Ev x (.rp k es (i * size + f)) R) (hd : Nat.blt dst nt = true) : OpL C (Oo dst (.load t x) ty pos af gd) R [(k, some (.row T size es ex))] [(dst, .one (.g (.agg ds)))] [] :=
  opl_pure hd rfl fun sl hp β a w hs hh r => by
    have hne : es ≠ [] := fun c => by simp [c] at hi
    obtain ⟨b, cur, hb, hu, hheap, _, _, _, hel⟩ := rp_cells r hh.1 (hx.ok hs r) hne
    have key : ∀ j dd, ds[j]? = some dd → ∃ u, cur[i * size + f + j]? = some u ∧ RD (Mu C hp β) w u dd := by
      intro j dd hj
      have hl : j < ds.length := (List.getElem?_eq_some_iff.1 hj).1
      have : cs[f + j]? = some dd := by
        have e : ((cs.drop f).take ds.length)[j]? = ds[j]? := by rw [hc]
        rw [List.getElem?_take, if_pos hl, List.getElem?_drop] at e
        rw [e, hj]
      obtain ⟨u, h1, h2⟩ := hel i cs (f + j) dd hi this
      exact ⟨u, by rw [Nat.add_assoc]; exact h1, h2⟩
    have key2 : ∀ j, j < ds.length → w.cell? ⟨b, i * size + f + j, none⟩ = some ((fun j => cur.getD (i * size + f + j) undef) j) := by
      intro j hj
      obtain ⟨u, h3, _⟩ := key j ds[j] (by simp [hj])
      rw [cell_of_row w b _ cur T _ hheap]
      simp [h3]
    refine ⟨.agg ((List.range ds.length).map (fun j => cur.getD (i * size + f + j) undef)).toArray, ?_, _, rfl, by simp, fun j d hj => ?_⟩
    · simp only [execOp, hu, Sem.run_bind, run_loadAgg (P := P) (b := b) (o := i * size + f) (w := w) hU hA hI _ key2, Result.andThen_ok, Sem.run_pure]
    · obtain ⟨u, h3, h4⟩ := key j d hj
      have hl : j < ds.length := (List.getElem?_eq_some_iff.1 hj).1
      exact ⟨u, by simp [hl, h3], h4⟩

/-- an element of a row is written in part -/
theorem op_storeRG {S E : TypeId} {kk i f size : Nat} {es es' : List (List DV)} {cs cs' ds : List DV} {vs : Act → List Value} {pos : String} {ty : TypeId}
    (hi : es[i]? = some cs) (hf : f + ds.length ≤ cs.length) (he : cs.take f ++ ds ++ cs.drop (f + ds.length) = cs') (hes : es.set i cs' = es')
    (hx : Ev x (.rp kk es (i * size + f)) R1)
    (hrun : ∀ (sl : SL) (hp : HL) β a w, HasS sl (R1 ++ R2) → RelB C ⟨sl, hp⟩ β a w → (vs a).length = ds.length ∧
      (∀ ad : Addr, (Instr.storeAt S (.pointer (some ad)) (a.eval y)).run P w = (storeCells ad (vs a)).run P w) ∧
      ∀ (j : Nat) (d : DV), ds[j]? = some d → ∃ u, (vs a)[j]? = some u ∧ RD (Mu C hp β) w u d) :
    OpL C ⟨none, .store S x y, ty, pos, af, gd⟩ (R1 ++ R2) [(kk, some (.row E size es true))] [] [(kk, some (.row E size es' true))] := by
  subst hes he
  refine ⟨fun sl hp hs hh a w K Q ⟨β, r⟩ hK => ?_⟩
  have hit : i < es.length := (List.getElem?_eq_some_iff.1 hi).1
  have hne : es ≠ [] := fun c => by simp [c] at hi
  obtain ⟨b, cur, hb, hu, hheap, hsz, hsz0, hcl, hel⟩ := rp_cells r hh.1 (hx.ok hs.app.1 r) hne
  obtain ⟨hvl, hst, hvc⟩ := hrun sl hp β a w hs r
  have hcsl : cs.length = size := hsz cs (List.mem_of_getElem? hi)
  have hfit : i * size + f + (vs a).length ≤ cur.size := by
    have : (i + 1) * size ≤ es.length * size := Nat.mul_le_mul_right _ hit
    rw [Nat.add_mul] at this
    omega
  have hone : ∀ v, v ∈ vs a → v.oneCell' = true := by
    intro v hv
    obtain ⟨j, hj, rfl⟩ := List.getElem_of_mem hv
    obtain ⟨u, h1, h2⟩ := hvc j (ds[j]'(by omega)) (by simp [show j < ds.length by omega])
    simp [List.getElem?_eq_getElem hj] at h1
    rw [h1]; exact h2.one
  have hsc := run_storeCells_at P b (i * size + f) E (vs a) 0 cur w hheap (by omega) hone
  simp only [Nat.add_zero] at hsc
  generalize hw1 : w.setRow b (List.take (i * size + f) cur.toList ++ vs a ++ List.drop (i * size + f + (vs a).length) cur.toList).toArray = w1 at hsc
  have hnew : w1.heap[b]? = some (.cells (List.take (i * size + f) cur.toList ++ vs a ++ List.drop (i * size + f + (vs a).length) cur.toList).toArray E) := by rw [← hw1]; exact setRow_heap w b cur _ E _ hheap
  have hoth : ∀ q, q ≠ b → w1.heap[q]? = w.heap[q]? := fun q hq => by rw [← hw1]; exact setRow_other w b q _ hq
  have hsize : w1.heap.size = w.heap.size := by rw [← hw1]; simp [World.setRow]
  have hcurL : cur.toList.length = cur.size := Array.length_toList
  have hcur : ∀ q : Nat, (List.take (i * size + f) cur.toList ++ vs a ++ List.drop (i * size + f + (vs a).length) cur.toList).toArray[q]? = if i * size + f ≤ q ∧ q < i * size + f + ds.length then (vs a)[q - (i * size + f)]? else cur[q]? := by
    intro q
    rw [List.getElem?_toArray, splice_get cur.toList (i * size + f) (vs a) (by omega), hvl]
    simp
  have hcurs : (List.take (i * size + f) cur.toList ++ vs a ++ List.drop (i * size + f + (vs a).length) cur.toList).toArray.size = cur.size := by
    simp only [List.size_toArray, List.length_append, List.length_take, List.length_drop, hcurL]
    omega
  unfold Oper.wp
  have : (execOp a.eval ⟨none, .store S x y, ty, pos, af, gd⟩).run P w = .ok .skip w1 := by
    simp only [execOp, hu, Sem.run_bind, hst, hsc, Result.andThen_ok, Sem.run_pure]
  rw [this]
  refine hK _ _ ⟨upd β kk (β kk), ?_⟩
  have hlen' : (cs.take f ++ ds ++ cs.drop (f + ds.length)).length = size := by
    simp only [List.length_append, List.length_take, List.length_drop]
    omega
  refine (r.chg (e := .row E size (es.set i (cs.take f ++ ds ++ cs.drop (f + ds.length))) true) (bo := β kk) hh.1 (by rw [← hw1]; rfl) (by rw [← hw1]; rfl) (by rw [← hw1]; rfl) (by omega) (fun q _ hq => hoth q (fun c => hq (by rw [c, hb]))) (fun _ o x _ _ hnm => absurd (.inl rfl) hnm)
    (.inl ⟨rfl, fun o ho => .inl rfl⟩) ⟨rfl, fun _ => rfl⟩ (fun es0 u h => ?_) (fun _ hRD => ?_)).1
  · obtain ⟨_, _, _, _, h5, h6, h7⟩ := h
    rw [hh.1] at h5; cases h5
    refine ⟨E, size, es.set i (cs.take f ++ ds ++ cs.drop (f + ds.length)), true, by rw [hget_cons, if_pos rfl], by simpa using h6, fun hq => ?_⟩
    rw [List.length_set] at hq
    rcases h7 hq with ⟨_, h8, _⟩ | ⟨b', cap', cur', h8, h9, h10, h11, h12, h13⟩
    · exact absurd h8 hne
    · rw [hb] at h8; cases h8
      rw [hheap] at h12; cases h12
      exact .inr ⟨b, cap', _, by simp [upd, hb], by rw [List.length_set]; exact h9, by rw [List.length_set]; exact h10, h11, hnew, by rw [hcurs]; exact h13⟩
  · refine ⟨hsz0, fun cs1 hcs' => ?_, .inr ⟨b, _, by simp [upd, hb], hnew, by rw [List.length_set, hcurs]; exact hcl, fun i' cs1 j d hi' hj => ?_⟩⟩
    · rcases List.mem_or_eq_of_mem_set hcs' with h5 | h5
      · exact hsz cs1 h5
      · rw [h5]; exact hlen'
    · rw [getElem?_set' es i i' _ hit] at hi'
      rw [hcur]
      by_cases c : i = i'
      · subst c
        rw [if_pos rfl] at hi'
        cases hi'
        rw [splice_get cs f ds hf] at hj
        split at hj
        · rename_i hin
          obtain ⟨x', h3, h4⟩ := hvc _ d hj
          rw [if_pos (by omega)]
          exact ⟨x', by rw [show i * size + j - (i * size + f) = j - f by omega]; exact h3, hRD _ _ h4⟩
        · rename_i hin
          obtain ⟨v, h3, h4⟩ := hel i cs j d hi hj
          rw [if_neg (by omega)]
          exact ⟨v, h3, hRD _ _ h4⟩
      · rw [if_neg c] at hi'
        obtain ⟨v, h3, h4⟩ := hel i' cs1 j d hi' hj
        have hj' : j < size := by rw [← hsz cs1 (List.mem_of_getElem? hi')]; exact (List.getElem?_eq_some_iff.1 hj).1
        have : ¬ (i * size + f ≤ i' * size + j ∧ i' * size + j < i * size + f + ds.length) := by
          rintro ⟨q1, q2⟩
          rcases Nat.lt_or_gt_of_ne c with c' | c'
          · have : (i + 1) * size ≤ i' * size := Nat.mul_le_mul_right _ c'
            rw [Nat.add_mul] at this; omega
          · have : (i' + 1) * size ≤ i * size := Nat.mul_le_mul_right _ c'
            rw [Nat.add_mul] at this; omega
        rw [if_neg this]
        exact ⟨v, h3, hRD _ _ h4⟩

theorem op_storeR1 {S E : TypeId} {kk i f size : Nat} {zz : Value} {bytes : Nat} {es es' : List (List DV)} {cs cs' : List DV} {d : DV} (hI : Info P S zz 1 bytes)
    (hi : es[i]? = some cs) (hf : Nat.blt f cs.length = true) (he : cs.take f ++ [d] ++ cs.drop (f + 1) = cs') (hes : es.set i cs' = es') (hx : Ev x (.rp kk es (i * size + f)) R1) (hy : Ev y (.g (.d d)) R2) :
    OpL C ⟨none, .store S x y, ty, pos, af, gd⟩ (R1 ++ R2) [(kk, some (.row E size es true))] [] [(kk, some (.row E size es' true))] := by
  refine op_storeRG (vs := fun a => [a.eval y]) (ds := [d]) hi (by simp at hf ⊢; omega) he hes hx (fun sl hp β a w hs r => ?_)
  have h1 : RD (Mu C hp β) w (a.eval y) d := hy.ok hs.app.2 r
  have h2 := h1.one
  have h3 : (a.eval y).cells = #[a.eval y] := by generalize a.eval y = u at h2; cases u <;> simp_all [Value.cells, Value.oneCell']
  refine ⟨rfl, fun ad => ?_, fun j c' hj => ?_⟩
  · simp [Instr.storeAt, Instr.sureAddr, storeVar, h3, hI.sizeOf]
  · cases j with
    | zero => simp at hj; subst hj; exact ⟨_, rfl, h1⟩
    | succ j => simp at hj

theorem op_storeRA {S E : TypeId} {kk i f size : Nat} {zz : Value} {bytes : Nat} {es es' : List (List DV)} {cs cs' ds : List DV} (hI : Info P S zz ds.length bytes)
    (hi : es[i]? = some cs) (hf : Nat.ble (f + ds.length) cs.length = true) (he : cs.take f ++ ds ++ cs.drop (f + ds.length) = cs') (hes : es.set i cs' = es') (hx : Ev x (.rp kk es (i * size + f)) R1) (hy : Ev y (.g (.agg ds)) R2) :
    OpL C ⟨none, .store S x y, ty, pos, af, gd⟩ (R1 ++ R2) [(kk, some (.row E size es true))] [] [(kk, some (.row E size es' true))] := by
  refine op_storeRG (vs := fun a => (a.eval y).cells.toList) (ds := ds) hi (by simpa using hf) he hes hx (fun sl hp β a w hs r => ?_)
  obtain ⟨us, hu, hl, hc⟩ := hy.ok hs.app.2 r
  refine ⟨by simp [hu, Value.cells, hl], fun ad => ?_, fun j d hj => ?_⟩
  · simp [Instr.storeAt, Instr.sureAddr, storeVar, hu, Value.cells, hl, hI.sizeOf]
  · obtain ⟨u, h1, h2⟩ := hc j d hj
    exact ⟨u, by simp [hu, Value.cells, h1], h2⟩
end

section
variable {P : Program} {nt : Nat} {C : Cx P nt} {Q0 : Exit → Act → World → Prop} {k : List KI}
theorem G.opG2 {ops : Array Oper} {rest : List Oper} {o : Oper} {sl : SL} {hp : HL} {dst kk : Nat} {sv : SV} {e : Option HE} {Rs : List (Nat × SV)} {Rh : List (Nat × Option HE)} {j t : Nat} {b : Bool}
    (h : OpL C o Rs Rh [(dst, sv)] [(kk, e)]) (hg : o.guard = some (j, b)) (hj : (ops[j]?).bind (·.dst) = some t) (ht : sget sl t = some (.one (bB b))) (hs : HasS sl Rs) (hh : HasH hp Rh) (hk : G C Q0 (.l ops rest :: k) ⟨(dst, sv) :: sl, (kk, e) :: hp⟩) : G C Q0 (.l ops (o :: rest) :: k) ⟨sl, hp⟩ := G.opG h hg hj ht hs hh rfl rfl hk
theorem G.opG3 {ops : Array Oper} {rest : List Oper} {o : Oper} {sl : SL} {hp : HL} {kk : Nat} {e : Option HE} {Rs : List (Nat × SV)} {Rh : List (Nat × Option HE)} {j t : Nat} {b : Bool}
    (h : OpL C o Rs Rh [] [(kk, e)]) (hg : o.guard = some (j, b)) (hj : (ops[j]?).bind (·.dst) = some t) (ht : sget sl t = some (.one (bB b))) (hs : HasS sl Rs) (hh : HasH hp Rh) (hk : G C Q0 (.l ops rest :: k) ⟨sl, (kk, e) :: hp⟩) : G C Q0 (.l ops (o :: rest) :: k) ⟨sl, hp⟩ := G.opG h hg hj ht hs hh rfl rfl hk
end

section
variable {P : Program} {nt : Nat} {C : Cx P nt} {dst : Nat} {ty : TypeId} {pos : String} {af : Array Edge} {gd : Option (Nat × Bool)} {R : List (Nat × SV)}
/-- a slice of some elements that is to be appended to -/
theorem op_buildRowN {T E : TypeId} {zz : Value} {size bytes len kk : Nat} {es : List (List DV)} {xs : List (Nat × Operand)} {gs : List (Nat × AG)} {ex : Bool}
    (hT : P.underlying T = some (.slice E)) (hI : Info P E zz size bytes) (hz : Nat.blt 0 size = true) (hbig : Nat.ble (len * size) 16777216 = true) (hlen : Nat.ble len 16777216 = true)
    (hx : EvP xs gs R) (he : dfill (fun i => some (i * size, size)) (List.replicate (len * size) none) gs = some (es.flatten.map some)) (hel : Nat.beq es.length len = true) (hes : ∀ cs, cs ∈ es → cs.length = size) (hd : Nat.blt dst nt = true) (hk0 : Nat.blt 0 kk = true := by rfl) :
    OpL C (Oo dst (.buildSlice T len xs.toArray) ty pos af gd) R [(kk, none)] [(dst, .one (.own kk es))] [(kk, some (.row E size es ex))] := by
  refine ⟨fun sl hp hs hh a w K Q ⟨β, r⟩ hK => ?_⟩
  have hel := Nat.eq_of_beq_eq_true hel
  have hbig' : ¬ (16777216 < len * size) := by simp at hbig; omega
  obtain ⟨h1, h2⟩ := hx.ok hs r
  generalize hz0 : (if len * size = 0 then (#[] : Array Value) else zz.cells) = z0
  have hvr0 : VR (Mu C hp β) w ((Array.range (len * size)).map (z0[· % z0.size]!)) (List.replicate (len * size) none) := ⟨by simp, fun j d hj => by rw [List.getElem?_replicate] at hj; split at hj <;> simp at hj⟩
  obtain ⟨vals, hf, hv⟩ := fill_vr (vparts := xs.map fun q => (q.1, a.eval q.2)) hvr0 (by simpa using h1) h2 he
  have hrun : (execOp a.eval (Oo dst (.buildSlice T len xs.toArray) ty pos af gd)).run P w = .ok (.value (.slice (some ⟨w.heap.size, 0, none⟩) len len)) (w.alloc (.cells vals E)) := by
    simp only [execOp, Instr.buildSlice, Sem.run_bind, run_underlying hT, Result.andThen_ok, hI.sizeOf]
    rw [if_neg (by simpa using hbig')]
    by_cases h0 : len * size = 0
    · rw [if_pos h0] at hz0
      subst hz0
      rw [if_pos h0]
      simp only [Sem.run_bind, Sem.run_pure, Result.andThen_ok, List.map_toArray, hf, newRow, run_newObj]
      rfl
    · rw [if_neg h0] at hz0
      subst hz0
      rw [if_neg h0]
      simp only [Sem.run_bind, Sem.run_pure, Result.andThen_ok, hI.zero, List.map_toArray, hf, newRow, run_newObj]
      rfl
  unfold Oper.wp
  rw [hrun]
  have hsize : vals.size = len * size := by
    have h3 := hv.1
    rw [List.length_map] at h3
    rw [h3, ← hel]
    exact flatten_len hes
  have h := (r.new (e := .row E size es ex) (bo := some w.heap.size) hh.1 hk0 (below_alloc w (.cells vals E)) (fun b hb => by cases hb; exact ⟨rfl, by simp⟩) fun _ hRD =>
    ⟨by simpa using hz, hes, .inr ⟨w.heap.size, vals, by simp [upd], heap_alloc_new w _, by rw [hsize, hel]; exact Nat.le_refl _, fun i cs j d hi hj => by
      obtain ⟨u, h3, h4⟩ := hv.2 (i * size + j) d (by rw [List.getElem?_map, flatten_get size es hes i cs j d hi hj]; rfl)
      exact ⟨u, h3, hRD _ _ h4⟩⟩⟩).1
  exact hK _ _ ⟨_, h.put (Below.refl _ _) (by simpa using hd) ⟨E, size, es, ex, by rw [hget_cons, if_pos rfl], Nat.le_refl _, fun _ => .inr ⟨w.heap.size, len, vals, by simp [upd], by rw [hel], by rw [hel]; exact Nat.le_refl _, by simp at hlen; unfold maxLen; omega, heap_alloc_new w _, hsize⟩⟩⟩
end
end Go.Ab

/- One element that is taken out of a row of the call's own: laws of the model's operations, and the contract. Conditions: none but those that stand in each law. -/
namespace Go.Ab
open Go Go.RowKit Go.Proofs

/-- 'append', as one step of a region that draws, where its run is known by an equation -/
theorem step_append_runI {P : Program} {ops : Array Oper} {o : Oper} {a : Act} {w : World} {K : Act → World → Prop} {Q : Exit → Act → World → Prop} {E : Prop}
    (hg : o.guard = none) (d x : Operand) (dT sT : TypeId) (hop : o.op = Op.call { callee := Callee.builtin Builtin.append, args := #[d, x], argTypes := #[dT, sT] })
    (v u : Value) (hd : a.eval d = v) (hx : a.eval x = u) {v' : Value} {w' : World} (hr : (Builtin.append_ #[dT, sT] o.type #[v, u]).run P w = .ok v' w') (hK : K (a.put o.dst v') w') :
    if Region.wanted o (yielded ops a.tmps) = true then Oper.wp P o a w K Q else E := by
  have hw : Region.wanted o (yielded ops a.tmps) = true := by simp [Region.wanted, hg]
  rw [if_pos hw]
  unfold Oper.wp
  simp [execOp, hop, resolve, invoke, builtin, hd, hx, hr, Result.andThen]
  exact hK

theorem wpList_clear_runI {P : Program} (w : World) {ops : Array Oper} {rest : List Oper} {o : Oper} {a : Act} {Q : Exit → Act → World → Prop} (hgd : o.guard = none) (d : Operand) (t : TypeId)
    (ho : o.op = .call { callee := .builtin .clear, args := #[d], argTypes := #[t] }) (v : Value) (hd : a.eval d = v) {v' : Value} {w' : World}
    (hr : (Builtin.clear_ #[t] o.type #[v]).run P w = .ok v' w') (h : wpList P ops Q rest (a.put o.dst v') w') : wpList P ops Q (o :: rest) a w :=
  wpList_plain hgd fun K hK => by
    unfold Oper.wp execOp
    simp only [ho, resolve, invoke, builtin, Sem.run_bind, Sem.run_pure, Result.andThen_ok, List.map_toArray, List.map_cons, List.map_nil, hd, hr]
    exact hK _ _ h

/-- 'clear' of one element of a row -/
theorem run_clear_row {P : Program} (w : World) (t e ty : TypeId) (z : Value) (ht : P.underlying t = some (.slice e)) (hv : ∀ w, (zeroValue e).run P w = .ok z w) (h1 : ∀ v ∈ z.cells.toList, v.oneCell' = true) (b o c : Nat)
    (hc : ∀ j, j < z.cells.size → (w.cell? ⟨b, o + j, none⟩).isSome = true) (hf : ∀ j, j < z.cells.size → w.frozen? ⟨b, o + j, none⟩ = false) :
    (Builtin.clear_ #[t] ty #[.slice (some ⟨b, o, none⟩) 1 c]).run P w = .ok (.tuple #[]) (w.setCells b o z.cells.toList) := by
  have hzc : (Builtin.zeroCells z.cells 1).toList = z.cells.toList := by
    apply List.ext_getElem
    · simp [Builtin.zeroCells]
    · intro i h1 h2
      simp only [Builtin.zeroCells] at h1 ⊢
      simp at h2
      simp [Nat.mod_eq_of_lt h2, h2]
  have hst := run_storeCells_cells (P := P) b o z.cells.toList 0 w (by simpa using hc) (by simpa using hf) h1
  simp only [Nat.add_zero] at hst
  simp [Builtin.clear_, run_underlying ht, hv, hzc, hst]

/-- 'slices.Delete(s, i, i + 1)' -/
def delL {α : Type} (s : List α) (i j : Int) : Option (List α) :=
  if 0 ≤ i ∧ i < s.length ∧ j = i + 1 ∧ s.length ≤ 1099511627776 then some (s.take i.toNat ++ s.drop (i.toNat + 1)) else none
theorem delL_ok {α : Type} {s r : List α} {i j : Int} (h : delL s i j = some r) : ∃ k : Nat, i = (k : Int) ∧ j = (k : Int) + 1 ∧ k < s.length ∧ s.length ≤ 1099511627776 ∧ r = s.take k ++ s.drop (k + 1) := by
  unfold delL at h
  split at h
  · rename_i c
    cases h
    exact ⟨i.toNat, by omega, by omega, by omega, c.2.2.2, rfl⟩
  · cases h
theorem delL_map {α β : Type} (f : α → β) (s : List α) (k : Nat) : (s.take k ++ s.drop (k + 1)).map f = (s.map f).take k ++ (s.map f).drop (k + 1) := by
  rw [List.map_append, List.map_take, List.map_drop]

theorem InsR.del {E z b c n i : Nat} {cur : Array Value} {zs : List Value} {w : World} (hh : w.heap[b]? = some (.cells cur E (0, 0))) (hc : cur.size = c * z) (hi : i ≤ n) (hn : n + 1 ≤ c) (hm : c ≤ maxLen) (hv : zs.length = z) :
    InsR E z (some b) n ((cur.toList.take ((n + 1) * z)).take (i * z) ++ (cur.toList.take ((n + 1) * z)).drop ((i + 1) * z)) w ((w.drew.setCells b (i * z) ((cur.toList.take ((n + 1) * z)).drop ((i + 1) * z))).setCells b (n * z) zs) (.slice (some ⟨b, 0, none⟩) n c) := by
  have hnz : (n + 1) * z ≤ cur.size := by rw [hc]; exact Nat.mul_le_mul_right _ hn
  have hiz : i * z ≤ n * z := Nat.mul_le_mul_right _ hi
  have e1 : (n + 1) * z = n * z + z := Nat.succ_mul _ _
  have e2 : (i + 1) * z = i * z + z := Nat.succ_mul _ _
  have hl : cur.toList.length = cur.size := Array.length_toList
  have hdl : ((cur.toList.take ((n + 1) * z)).drop ((i + 1) * z)).length = n * z - i * z := by rw [List.length_drop, List.length_take, hl]; omega
  obtain ⟨c1, h1, h2, h3⟩ := setCells_row b E (0, 0) ((cur.toList.take ((n + 1) * z)).drop ((i + 1) * z)) (i * z) w.drew cur hh (by rw [hdl]; omega)
  obtain ⟨c2, h4, h5, h6⟩ := setCells_row b E (0, 0) zs (n * z) _ c1 h1 (by rw [h2, hv]; omega)
  obtain ⟨a1, a2, a3, a4, a5⟩ := setCells_same b ((cur.toList.take ((n + 1) * z)).drop ((i + 1) * z)) (i * z) w.drew
  obtain ⟨b1, b2, b3, b4, b5⟩ := setCells_same b zs (n * z) (w.drew.setCells b (i * z) ((cur.toList.take ((n + 1) * z)).drop ((i + 1) * z)))
  have hb : b < w.heap.size := (Array.getElem?_eq_some_iff.1 hh).1
  refine ⟨b1.trans a1, b2.trans a2, b3.trans a3, by rw [b4, a4]; exact Nat.le_refl _, fun k _ hk => ?_, b, c, c2, rfl, by omega, hm, .inl rfl, by rw [b4, a4]; exact hb, h4, by rw [h5, h2, hc], fun j u hj => ?_⟩
  · have hkb : k ≠ b := fun e => hk (by rw [e])
    rw [b5 k hkb, a5 k hkb]; rfl
  · have htl : ((cur.toList.take ((n + 1) * z)).take (i * z)).length = i * z := by rw [List.length_take, List.length_take, hl]; omega
    rw [h6, hv]
    by_cases g1 : j < i * z
    · rw [if_neg (by omega), h3, if_neg (by omega)]
      rw [List.getElem?_append_left (by rw [htl]; exact g1), List.getElem?_take_of_lt g1, List.getElem?_take_of_lt (by omega), Array.getElem?_toList] at hj
      exact hj
    · rw [List.getElem?_append_right (by rw [htl]; omega), htl] at hj
      have hlt := (List.getElem?_eq_some_iff.1 hj).1
      rw [hdl] at hlt
      rw [if_neg (by omega), h3, if_pos (by rw [hdl]; omega)]
      exact hj

/-- A CONTRACT OUT OF WHAT THE HEAP HOLDS -/
theorem ct_delete {P : Program} {f E z : Nat} {es : List (List DV)} {i : Nat} (hi : i < es.length)
    (hrow : ∀ (w : World) (b c : Nat) (cur : Array Value), w.heap[b]? = some (.cells cur E (0, 0)) → cur.size = c * z → es.length ≤ c → c ≤ maxLen → (∀ (j : Nat) (v : Value), j < es.length * z → cur[j]? = some v → v.oneCell' = true) →
      Calls P f #[.slice (some ⟨b, 0, none⟩) es.length c, .int .i64 (i : Int), .int .i64 ((i : Int) + 1)] w fun e w' => ∃ v, e = .returned v ∧ InsR E z (some b) (es.length - 1) ((cur.toList.take (es.length * z)).take (i * z) ++ (cur.toList.take (es.length * z)).drop ((i + 1) * z)) w w' v) :
    Ct P f [.row E z es, .g (.d (.v (.int .i64 (i : Int)))), .g (.d (.v (.int .i64 ((i : Int) + 1))))] (.new E z (es.take i ++ es.drop (i + 1))) := by
  refine ⟨fun M K w vs hM hK hl hargs => ?_⟩
  obtain ⟨u0, u1, u2, rfl⟩ : ∃ a b c, vs = [a, b, c] := by
    match vs, hl with
    | [a, b, c], _ => exact ⟨a, b, c, rfl⟩
  obtain ⟨hz, hsz, hr0⟩ := hargs 0 _ u0 rfl rfl
  have h1 : u1 = .int .i64 (i : Int) := RD.v_inv (hargs 1 _ u1 rfl rfl)
  have h2 : u2 = .int .i64 ((i : Int) + 1) := RD.v_inv (hargs 2 _ u2 rfl rfl)
  subst h1 h2
  have hes : es ≠ [] := fun c => by simp [c] at hi
  rcases hr0 with ⟨hn, _⟩ | ⟨b, c0, cur, hKb, hlt, rfl, hle, hcm, hheap, hcs, hel⟩
  · exact absurd hn hes
  · have hone : ∀ j v, j < es.length * z → cur[j]? = some v → v.oneCell' = true := fun j v hj hv => by
      have hq : j / z < es.length := (Nat.div_lt_iff_lt_mul hz).2 hj
      have hmod : j % z < z := Nat.mod_lt _ hz
      have hl2 : es[j / z].length = z := hsz _ (List.getElem_mem hq)
      obtain ⟨v', g1, g2⟩ := hel (j / z) es[j / z] (j % z) (es[j / z]'hq)[j % z] (by simp [hq]) (by simp [hl2, hmod])
      rw [show j / z * z + j % z = j by rw [Nat.mul_comm]; exact Nat.div_add_mod j z, hv] at g1
      cases g1
      exact g2.one
    refine (hrow w b c0 cur hheap hcs hle hcm hone).mono fun e w' ⟨v, he, hI⟩ => ⟨v, he, ?_⟩
    obtain ⟨b', cap', cur', rfl, g1, g2, g3, g4, g5, g6, g7⟩ := hI.row
    have hbb : b' = b ∨ w.heap.size ≤ b' := g3.elim (fun h => .inl (by cases h; rfl)) .inr
    have hlen : (es.take i ++ es.drop (i + 1)).length = es.length - 1 := by simp; omega
    have hbig : es.length * z ≤ cur.size := by rw [hcs]; exact Nat.mul_le_mul_right _ hle
    have hiz : (i + 1) * z ≤ es.length * z := Nat.mul_le_mul_right _ hi
    have e2 : (i + 1) * z = i * z + z := Nat.succ_mul _ _
    have hll : cur.toList.length = cur.size := Array.length_toList
    have htl : ((cur.toList.take (es.length * z)).take (i * z)).length = i * z := by rw [List.length_take, List.length_take, hll]; omega
    refine ⟨⟨hI.os, hI.tape, hI.output, hI.size, fun k hk hnk => hI.block k hk fun c => hnk (by cases c; exact hKb)⟩, hz, fun cs hcs' => ?_, .inr ⟨b', cap', cur', ?_, g4, by rw [hlen], by rw [hlen]; exact g1, g2, g5, g6, fun q cs j d hq hj => ?_⟩⟩
    · rcases List.mem_append.1 hcs' with h | h
      · exact hsz cs (List.mem_of_mem_take h)
      · exact hsz cs (List.mem_of_mem_drop h)
    · rcases hbb with rfl | h
      · exact .inr hKb
      · exact .inl h
    · have hjl : j < cs.length := (List.getElem?_eq_some_iff.1 hj).1
      have fin : ∀ (u : Value) (M0 : Nat → Nat → Prop), ((cur.toList.take (es.length * z)).take (i * z) ++ (cur.toList.take (es.length * z)).drop ((i + 1) * z))[q * z + j]? = some u → RD M0 w u d → (∀ b1 o, ¬ M0 b1 o → ¬ M b1 o ∧ some b ≠ some b1) →
          ∃ u, cur'[q * z + j]? = some u ∧ RD (fun b1 o => M b1 o ∨ b1 = b') w' u d := fun u M0 hu hrd hM0 => by
        refine ⟨u, g7 _ u hu, hrd.mono fun b1 o y hn hy => ?_⟩
        obtain ⟨hn1, hn2⟩ := hM0 b1 o hn
        have hlt1 := cell_lt hy
        refine ⟨?_, fun c => ?_⟩
        · have := hI.block b1 hlt1 hn2
          simp only [World.cell?] at hy ⊢
          rw [this]; exact hy
        · rcases c with c | c
          · exact hn1 c
          · subst c
            rcases hbb with h | h
            · exact hn2 (by rw [h])
            · omega
      by_cases c1 : q < i
      · rw [List.getElem?_append_left (by simp; omega), List.getElem?_take_of_lt c1] at hq
        have hcl : cs.length = z := hsz _ (List.mem_of_getElem? hq)
        obtain ⟨u, k1, k2⟩ := hel q cs j d hq hj
        have hpos : q * z + j < i * z := by
          have : (q + 1) * z ≤ i * z := Nat.mul_le_mul_right _ c1
          rw [Nat.succ_mul] at this; omega
        refine fin u _ ?_ k2 fun b1 o hn => ⟨fun c => hn (.inl c), fun c => hn (.inr (by cases c; rfl))⟩
        rw [List.getElem?_append_left (by rw [htl]; exact hpos), List.getElem?_take_of_lt hpos, List.getElem?_take_of_lt (by omega), Array.getElem?_toList]
        exact k1
      · have hq2 : es[q + 1]? = some cs := by
          rw [List.getElem?_append_right (by simp; omega)] at hq
          simp only [List.length_take, List.getElem?_drop] at hq
          rw [Nat.min_eq_left (by omega)] at hq
          rwa [show i + 1 + (q - i) = q + 1 by omega] at hq
        have hcl : cs.length = z := hsz _ (List.mem_of_getElem? hq2)
        obtain ⟨u, k1, k2⟩ := hel (q + 1) cs j d hq2 hj
        have hpl : q + 1 < es.length := (List.getElem?_eq_some_iff.1 hq2).1
        have hpz : (q + 1 + 1) * z ≤ es.length * z := Nat.mul_le_mul_right _ hpl
        have hip : i * z ≤ q * z := Nat.mul_le_mul_right _ (by omega)
        have e3 : (q + 1) * z = q * z + z := Nat.succ_mul _ _
        rw [Nat.succ_mul] at hpz
        refine fin u _ ?_ k2 fun b1 o hn => ⟨fun c => hn (.inl c), fun c => hn (.inr (by cases c; rfl))⟩
        rw [List.getElem?_append_right (by rw [htl]; omega), htl, List.getElem?_drop, List.getElem?_take_of_lt (by omega), Array.getElem?_toList]
        rw [show (i + 1) * z + (q * z + j - i * z) = (q + 1) * z + j by omega]
        exact k1
end Go.Ab

/- The abstract machine: a call with functions among its arguments that hands back data. Conditions: none but those that stand in each law. -/
namespace Go.Ab
open Go Go.RowKit

section
variable {P : Program} {nt : Nat} {C : Cx P nt} {dst : Nat} {ty : TypeId} {pos : String} {af : Array Edge} {gd : Option (Nat × Bool)}

theorem EvX.okN {sl : SL} {hp : HL} {β : Nat → Option Nat} {a : Act} {w : World} {xs : List Operand} {gs : List RG} {R : List (Nat × SV)} {Rh : List (Nat × Option HE)}
    (hx : EvX P xs gs R Rh) (hs : HasS sl R) (hh : HasH hp Rh) (r : RelB C ⟨sl, hp⟩ β a w) :
    (xs.map a.eval).length = gs.length ∧ ∀ (i : Nat) (g : RG) (v : Value), gs[i]? = some g → (xs.map a.eval)[i]? = some v → ArgR P (Mu C hp β) (fun _ => False) w g v := by
  induction hx with
  | nil => exact ⟨rfl, fun i g v h => by simp at h⟩
  | g h t ih =>
    obtain ⟨h3, h4⟩ := ih hs.app.2 hh
    refine ⟨by simpa using h3, fun i g v hg hv => ?_⟩
    cases i with
    | zero => simp at hg hv; subst hg hv; exact GR.less (fun b o c => c.elim id False.elim) (h.ok hs.app.1 r)
    | succ i => exact h4 i g v (by simpa using hg) (by simpa using hv)
  | sem h t ih =>
    obtain ⟨h3, h4⟩ := ih hs.app.2 hh
    refine ⟨by simpa using h3, fun i g v hg hv => ?_⟩
    cases i with
    | zero =>
      simp at hg hv; subst hg hv
      obtain ⟨f, caps, hu, hcf, hf⟩ := (h.ok hs.app.1 r : SemFn P C.w0 C.K _ _)
      refine ⟨f, caps, hu, hcf, fun w'' hb' => hf w'' ⟨hb'.os.trans r.keep.os, hb'.tape.trans r.keep.tape, hb'.output.trans r.keep.output, Nat.le_trans r.keep.size hb'.size, fun q hq hK => ?_⟩⟩
      rw [hb'.block q (Nat.lt_of_lt_of_le hq r.keep.size) (fun c => c.elim)]
      exact r.keep.block q hq hK
    | succ i => exact h4 i g v (by simpa using hg) (by simpa using hv)
  | clo h hc hcf hΦ t ih =>
    obtain ⟨h3, h4⟩ := ih hs.app.2 hh.app.2
    refine ⟨by simpa using h3, fun i g v hg hv => ?_⟩
    cases i with
    | zero =>
      simp at hg hv; subst hg hv
      exact clo_sem r (h.ok hs.app.1 r) hc hh.app.1 (fun b hb => hb.elim) (fun b hb o => hb.elim) hcf hΦ
    | succ i => exact h4 i g v (by simpa using hg) (by simpa using hv)

/-- a call with plain data and functions -/
theorem op_callX {f : Nat} {xs : List Operand} {tys : Array TypeId} {args : List RG} {res : RS} {sv : SV} {R : List (Nat × SV)} {Rh : List (Nat × Option HE)} (hc : CallF P f) (hct : Ct P f args res) (hsv : res.sv = sv) (hx : EvX P xs args R Rh) (hd : Nat.blt dst nt = true) :
    OpL C (Oo dst (cCall f xs tys) ty pos af gd) R Rh [(dst, sv)] [] := by
  refine ⟨fun sl hp hs hh a w K Q ⟨β, r⟩ hK => ?_⟩
  obtain ⟨h1, h2⟩ := hx.okN hs hh r
  have hcall := hct.go (Mu C hp β) (fun _ => False) w (xs.map a.eval) (fun b o h => ⟨r.mut_lt h, id⟩) (fun b h => h.elim) h1 h2
  unfold Oper.wp
  rw [run_call hc]
  refine hcall.mono ?_
  rintro e w' ⟨v, rfl, hk, hr⟩
  refine hK _ _ ⟨β, r.put hk.toBelow (by simpa using hd) ?_⟩
  rw [← hsv]
  exact RS.sv_ok hr
end

section
variable {P : Program} {nt : Nat} {C : Cx P nt} {dst : Nat} {ty : TypeId} {pos : String} {af : Array Edge} {gd : Option (Nat × Bool)} {R : List (Nat × SV)}
/-- an array of elements -/
theorem op_buildA {T E : TypeId} {n : Nat} {zz zzE : Value} {size bytes sizeE bytesE : Nat} {zs ds : List DV} {xs : List (Nat × Operand)} {gs : List (Nat × AG)}
    (hT : P.underlying T = some (.array n E)) (hI : Info P T zz size bytes) (hIE : Info P E zzE sizeE bytesE) (hz : ZD zz.cells.toList zs)
    (hx : EvP xs gs R) (he : dfill (fun i => some (i * sizeE, sizeE)) (zs.map some) gs = some (ds.map some)) (hd : Nat.blt dst nt = true) :
    OpL C (Oo dst (.build T xs.toArray) ty pos af gd) R [] [(dst, .one (.g (.agg ds)))] [] :=
  opl_pure hd rfl fun sl hp β a w hs _ r => by
    obtain ⟨h1, h2⟩ := hx.ok hs r
    obtain ⟨vals, hf, hv⟩ := fill_vr (vparts := xs.map fun q => (q.1, a.eval q.2)) (ZD.vr (M := Mu C hp β) (w := w) hz) (by simpa using h1) h2 he
    refine ⟨.agg vals, ?_, vals, rfl, by simpa using hv.1, fun j d hj => hv.2 j d (by simp [hj])⟩
    have hf' : Instr.fill (fun i => some (i * sizeE, sizeE)) zz.cells (List.map (fun x => (x.fst, a.eval x.snd)) xs) = some vals := by simpa using hf
    simp only [execOp, Instr.build, Sem.run_bind, hI.zero, Result.andThen_ok, run_underlying hT, hIE.sizeOf, List.map_toArray, hf', Sem.run_pure]
end
end Go.Ab

/- The abstract machine: functions that are handed a pointer and write there (a block of plain data, a strings.Builder). Conditions: none but those that stand in each law. -/
namespace Go.Ab
open Go Go.RowKit

section
variable {P : Program} {nt : Nat} {C : Cx P nt}

/-- a builder is written: its block, and the one in which its bytes lie -/
theorem RelB.chgB {sl : SL} {hp : HL} {β : Nat → Option Nat} {a : Act} {w w1 : World} (r : RelB C ⟨sl, hp⟩ β a w) {k kk T E b : Nat} {s : ByteArray} {e : HE} {go : Option Nat}
    (hk : hget hp k = some (.bld T E kk s)) (hb : β k = some b)
    (hos : w1.os = w.os) (htape : w1.tape = w.tape) (hout : w1.output = w.output) (hsize : w.heap.size ≤ w1.heap.size) (hblock : ∀ i, i < w.heap.size → i ≠ b → some i ≠ β kk → w1.heap[i]? = w.heap[i]?)
    (hgo : ∀ g, go = some g → β kk = some g ∨ (w.heap.size ≤ g ∧ g < w1.heap.size)) (hrow : e.isRow = false)
    (hH : HR C ((k, some e) :: (kk, some (.hid true k)) :: hp) (upd β kk go) w1 k e) :
    RelB C ⟨sl, (k, some e) :: (kk, some (.hid true k)) :: hp⟩ (upd β kk go) a w1 ∧
      (∀ b' o, Mu C ((k, some e) :: (kk, some (.hid true k)) :: hp) (upd β kk go) b' o → (Mu C hp β b' o ∧ β kk ≠ some b') ∨ go = some b') := by
  have hkk : hget hp kk = some (.hid true k) := (r.hp k _ hk).1
  have hne : kk ≠ k := fun c => by subst c; rw [hk] at hkk; cases hkk
  have hgk : ∀ e', hget ((k, some e) :: (kk, some (.hid true k)) :: hp) k = some e' → e' = e := fun e' h => by rw [hget_cons, if_pos rfl] at h; cases h; rfl
  have hgkk : hget ((k, some e) :: (kk, some (.hid true k)) :: hp) kk = some (.hid true k) := by rw [hget_cons, if_neg (Ne.symm hne), hget_cons, if_pos rfl]
  have hgo' : ∀ k', k' ≠ k → k' ≠ kk → hget ((k, some e) :: (kk, some (.hid true k)) :: hp) k' = hget hp k' := fun k' c1 c2 => by rw [hget_cons, if_neg (Ne.symm c1), hget_cons, if_neg (Ne.symm c2)]
  have hup : ∀ k', k' ≠ kk → upd β kk go k' = β k' := fun k' c => by simp [upd, c]
  have hupk : upd β kk go kk = go := by simp [upd]
  -- other numbers' blocks are as they were
  have hoth : ∀ k' e' b' o, k' ≠ k → k' ≠ kk → hget hp k' = some e' → β k' = some b' → w.heap[b']? = some o → w1.heap[b']? = some o := fun k' e' b' o c1 c2 h hb' ho => by
    rw [hblock b' (Array.getElem?_eq_some_iff.1 ho).1 (fun c => c1 (r.inj k' k e' _ b' h hk hb' (c ▸ hb))) (fun c => c2 (r.inj k' kk e' _ b' h hkk hb' c.symm))]
    exact ho
  have hmu : ∀ b' o, Mu C ((k, some e) :: (kk, some (.hid true k)) :: hp) (upd β kk go) b' o → (Mu C hp β b' o ∧ β kk ≠ some b') ∨ go = some b' := by
    rintro b' o (hM | ⟨k', e', he', hb', hm'⟩)
    · refine .inl ⟨.inl hM, fun c => ?_⟩
      obtain ⟨h4, h5⟩ := r.low b' o hM
      rcases (r.own kk _ b' hkk c).1 with h6 | h6
      · omega
      · exact h5 h6
    · by_cases c1 : k' = k
      · subst c1
        rw [hup k' (Ne.symm hne)] at hb'
        exact .inl ⟨.inr ⟨k', _, hk, hb', trivial⟩, fun c => hne (r.inj kk k' _ _ b' hkk hk c hb')⟩
      · by_cases c2 : k' = kk
        · subst c2; rw [hupk] at hb'; exact .inr hb'
        · rw [hgo' k' c1 c2] at he'
          rw [hup k' c2] at hb'
          exact .inl ⟨.inr ⟨k', e', he', hb', hm'⟩, fun c => c2 (r.inj k' kk _ _ b' he' hkk hb' c)⟩
  have hst : ∀ b' o x, ¬ Mu C hp β b' o → w.cell? ⟨b', o, none⟩ = some x → w1.cell? ⟨b', o, none⟩ = some x ∧ ¬ Mu C ((k, some e) :: (kk, some (.hid true k)) :: hp) (upd β kk go) b' o := by
    intro b' o x hn hx
    have hlt := cell_lt hx
    constructor
    · rw [World.cell?_of_block (w := w) (a := ⟨b', o, none⟩) (hblock b' hlt (fun c => hn (.inr ⟨k, _, hk, c ▸ hb, trivial⟩)) (fun c => hn (.inr ⟨kk, _, hkk, c.symm, trivial⟩)))]
      exact hx
    · intro c
      rcases hmu b' o c with c | c
      · exact hn c.1
      · rcases hgo b' c with c2 | c2
        · exact hn (.inr ⟨kk, _, hkk, c2, trivial⟩)
        · omega
  have hBR : ∀ c u, BR C hp β w c u → BR C ((k, some e) :: (kk, some (.hid true k)) :: hp) (upd β kk go) w1 c u := by
    intro c u h
    refine BR.kept hst (fun k' _ e' he' hr => ?_) (fun k' es0 u _ h => ?_) h
    · by_cases c1 : k' = k
      · subst c1
        exact ⟨⟨e, by rw [hget_cons, if_pos rfl], hrow⟩, hup k' (Ne.symm hne)⟩
      · have c2 : k' ≠ kk := fun c => by subst c; rw [hkk] at he'; cases he'; cases hr
        exact ⟨⟨e', (hgo' k' c1 c2).trans he', hr⟩, hup k' c2⟩
    · obtain ⟨T', size, es, ex, hh, hl, hr⟩ := h
      have c1 : k' ≠ k := fun c => by subst c; rw [hk] at hh; cases hh
      have c2 : k' ≠ kk := fun c => by subst c; rw [hkk] at hh; cases hh
      refine ⟨T', size, es, ex, (hgo' k' c1 c2).trans hh, hl, fun hq => (hr hq).imp (fun ⟨h1, h3⟩ => ⟨(hup k' c2).trans h1, h3⟩) ?_⟩
      rintro ⟨b', cap, cur, q1, q2, q3, q4, q5, q6⟩
      exact ⟨b', cap, cur, (hup k' c2).trans q1, q2, q3, q4, hoth k' _ b' _ c1 c2 hh q1 q5, q6⟩
  refine ⟨⟨?_, r.low, ?_, ?_, ?_, ?_, r.size, r.df, fun b0 hb0 => ?_⟩, hmu⟩
  · refine ⟨hos.trans r.keep.os, htape.trans r.keep.tape, hout.trans r.keep.output, Nat.le_trans r.keep.size hsize, fun i hi hK => ?_⟩
    rw [hblock i (Nat.lt_of_lt_of_le hi r.keep.size) (fun c => ?_) (fun c => ?_)]
    · exact r.keep.block i hi hK
    · rcases (r.own k _ i hk (c ▸ hb)).1 with h1 | h1
      · omega
      · exact hK h1
    · rcases (r.own kk _ i hkk c.symm).1 with h1 | h1
      · omega
      · exact hK h1
  · -- what was known of a number's block
    have hold : ∀ k1 e1 b', hget ((k, some e) :: (kk, some (.hid true k)) :: hp) k1 = some e1 → upd β kk go k1 = some b' → (∃ e2, hget hp k1 = some e2 ∧ β k1 = some b') ∨ (k1 = kk ∧ w.heap.size ≤ b') := by
      intro k1 e1 b' h1 h2
      by_cases c1 : k1 = k
      · subst c1; exact .inl ⟨_, hk, (hup k1 (Ne.symm hne)).symm.trans h2⟩
      · by_cases c2 : k1 = kk
        · subst c2
          rw [hupk] at h2
          rcases hgo b' h2 with c3 | c3
          · exact .inl ⟨_, hkk, c3⟩
          · exact .inr ⟨rfl, c3.1⟩
        · exact .inl ⟨e1, (hgo' k1 c1 c2).symm.trans h1, (hup k1 c2).symm.trans h2⟩
    intro k1 k2 e1 e2 b' h1 h2 hb1 hb2
    rcases hold k1 e1 b' h1 hb1 with ⟨f1, g1, g2⟩ | ⟨c1, g1⟩
    · rcases hold k2 e2 b' h2 hb2 with ⟨f2, g3, g4⟩ | ⟨c2, g3⟩
      · exact r.inj k1 k2 f1 f2 b' g1 g3 g2 g4
      · have := (r.own k1 f1 b' g1 g2).2
        omega
    · rcases hold k2 e2 b' h2 hb2 with ⟨f2, g3, g4⟩ | ⟨c2, g3⟩
      · have := (r.own k2 f2 b' g3 g4).2
        omega
      · exact c1.trans c2.symm
  · intro k1 e1 b' h1 hb1
    by_cases c2 : k1 = kk
    · subst c2
      rw [hupk] at hb1
      rcases hgo b' hb1 with c3 | c3
      · have := r.own k1 _ b' hkk c3
        exact ⟨this.1, Nat.lt_of_lt_of_le this.2 hsize⟩
      · exact ⟨.inl (Nat.le_trans r.keep.size c3.1), c3.2⟩
    · rw [hup k1 c2] at hb1
      by_cases c1 : k1 = k
      · subst c1
        have := r.own k1 _ b' hk hb1
        exact ⟨this.1, Nat.lt_of_lt_of_le this.2 hsize⟩
      · rw [hgo' k1 c1 c2] at h1
        have := r.own k1 e1 b' h1 hb1
        exact ⟨this.1, Nat.lt_of_lt_of_le this.2 hsize⟩
  · intro k1 e1 h1
    by_cases c1 : k1 = k
    · subst c1
      obtain rfl := hgk e1 h1
      exact hH
    · by_cases c2 : k1 = kk
      · subst c2
        rw [hgkk] at h1; cases h1; trivial
      · rw [hgo' k1 c1 c2] at h1
        have h3 := r.hp k1 e1 h1
        have h2 := hup k1 c2
        cases e1 with
        | blk T' cs =>
          obtain ⟨b', arr, q1, q2, q3, q4⟩ := h3
          exact ⟨b', arr, h2.trans q1, hoth k1 _ b' _ c1 c2 h1 q1 q2, q3, fun j c hc => let ⟨u, hu, ho, hr⟩ := q4 j c hc; ⟨u, hu, ho, hBR c u hr⟩⟩
        | row T' size es ex =>
          obtain ⟨hz, hs, hr⟩ := h3
          refine ⟨hz, hs, hr.imp (fun ⟨q1, q2⟩ => ⟨h2.trans q1, q2⟩) ?_⟩
          rintro ⟨b', cur, q1, q2, q3, q4⟩
          exact ⟨b', cur, h2.trans q1, hoth k1 _ b' _ c1 c2 h1 q1 q2, q3, fun i cs j d hi hj => let ⟨u, hu, hr⟩ := q4 i cs j d hi hj; ⟨u, hu, hr.mono hst⟩⟩
        | it s' pos =>
          obtain ⟨b', q1, q2⟩ := h3
          exact ⟨b', h2.trans q1, hoth k1 _ b' _ c1 c2 h1 q1 q2⟩
        | bld T' E' kk' s' =>
          obtain ⟨q0, b', p, v, q1, q2, q3, q4, q5⟩ := h3
          have d1 : kk' ≠ k := fun c => by subst c; rw [hk] at q0; cases q0
          have d2 : kk' ≠ kk := fun c => by subst c; rw [hkk] at q0; cases q0; exact c1 rfl
          · refine ⟨(hgo' kk' d1 d2).trans q0, b', p, v, h2.trans q1, q2, hoth k1 _ b' _ c1 c2 h1 q1 q3, ownsRow_of_block q4 (fun g hg => ?_), q5.trans (hup kk' d2).symm⟩
            obtain ⟨o, ho⟩ : ∃ o, w.heap[g]? = some o := ⟨_, Array.getElem?_eq_getElem (ownsRow_lt q4 hg)⟩
            rw [ho]; exact hoth kk' _ g o d1 d2 q0 (q5.symm.trans hg) ho
        | hid _ _ => trivial
  · intro t sv hs
    have h1 := r.sl t sv hs
    cases sv with
    | one b => exact hBR _ _ h1
    | tup l =>
      obtain ⟨us, q1, q2, q3⟩ := h1
      exact ⟨us, q1, q2, fun i b hi => let ⟨x, hx, hr⟩ := q3 i b hi; ⟨x, hx, hBR _ _ hr⟩⟩
    | dead => trivial
  · obtain ⟨f1, f2⟩ := r.fx b0 hb0
    have c2 : kk ≠ 0 := fun c => by subst c; have := f2 _ hkk; cases this
    refine ⟨(hup 0 (Ne.symm c2)).trans f1, fun e1 he => ?_⟩
    by_cases c : k = 0
    · subst c; rw [hgk e1 he]; exact hrow
    · rw [hgo' 0 (Ne.symm c) (Ne.symm c2)] at he; exact f2 e1 he
end
end Go.Ab

/- The abstract machine: what a function does that is handed a pointer and writes there: contracts, calls, what is handed back. Conditions: none but those that stand in each law. -/
namespace Go.Ab
open Go Go.RowKit

def HSR (M : Nat → Nat → Prop) (w : World) (b : Nat) (go : Option Nat) : HS → Prop
  | .dat T ds => go = none ∧ ∃ arr, w.heap[b]? = some (.cells arr T (0, 0)) ∧ arr.size = ds.length ∧ ∀ (j : Nat) (d : DV), ds[j]? = some d → ∃ u, arr[j]? = some u ∧ RD M w u d
  | .bld T E s => go ≠ some b ∧ ∃ p v, (p = .pointer none ∨ p = .pointer (some ⟨b, 0, none⟩)) ∧ w.heap[b]? = some (.cells #[p, v] T (0, 0)) ∧ w.ownsRow 0 E 1 v s.size (Lib.strCells s) ∧ v.ownBlock = go
  | .gone => True

def HS.ents (k kk : Nat) : HS → HL
  | .dat T ds => [(k, some (.blk T (Go.Ab.dat ds)))]
  | .bld T E s => [(k, some (.bld T E kk s)), (kk, some (.hid true k))]
  | .gone => [(k, some (.hid false 0)), (kk, some (.hid true k))]

/-- which turn into which -/
def HS.fits : HS → HS → Bool
  | .dat _ _, .dat _ _ => true
  | .bld _ _ _, .bld _ _ _ => true
  | .bld _ _ _, .gone => true
  | _, _ => false

def ArgM (M : Nat → Nat → Prop) (w : World) (b : Nat) (go : Option Nat) : RG → Value → Prop
  | .pt h, u => u = .pointer (some ⟨b, 0, none⟩) ∧ HSR (fun b' o => M b' o ∨ b' = b ∨ go = some b') w b go h
  | .g g, u => GR (fun b' o => M b' o ∨ b' = b ∨ go = some b') w u g
  | _, _ => False

def ResRD (M : Nat → Nat → Prop) (w' : World) : RS → Value → Prop
  | .one g, v => GR M w' v g
  | .tup l, v => ∃ us : Array Value, v = .tuple us ∧ us.size = l.length ∧ ∀ (i : Nat) (g : AG), l[i]? = some g → ∃ x, us[i]? = some x ∧ GR M w' x g
  | .new _ _ _, _ => False

def PostM (M : Nat → Nat → Prop) (w : World) (b : Nat) (go : Option Nat) (h' : HS) (res : RS) (v : Value) (w' : World) : Prop :=
  ∃ go', KeepW (fun b' => b' = b ∨ go = some b') w w' ∧ (∀ g, go' = some g → go = some g ∨ (w.heap.size ≤ g ∧ g < w'.heap.size)) ∧
    ResRD (fun b' o => M b' o ∨ b' = b ∨ go' = some b') w' res v ∧ HSR (fun b' o => M b' o ∨ b' = b ∨ go' = some b') w' b go' h'

/-- WHAT A FUNCTION DOES that is handed a pointer and writes there -/
structure CtM (P : Program) (f : Nat) (args : List RG) (h' : HS) (res : RS) : Prop where
  go : ∀ (M : Nat → Nat → Prop) (w : World) (vs : List Value) (b : Nat) (go : Option Nat), (∀ b' o, M b' o → b' < w.heap.size ∧ b' ≠ b ∧ go ≠ some b') → b < w.heap.size → (∀ g, go = some g → g < w.heap.size) →
    vs.length = args.length → (∀ (i : Nat) (g : RG) (v : Value), args[i]? = some g → vs[i]? = some v → ArgM M w b go g v) →
    Calls P f vs.toArray w fun e w' => ∃ v, e = .returned v ∧ PostM M w b go h' res v w'

theorem ResRD.sv {P : Program} {nt : Nat} {C : Cx P nt} {hp : HL} {β : Nat → Option Nat} {w' : World} {M' : Nat → Nat → Prop} {res : RS} {v : Value} (h : ResRD M' w' res v) (hm : ∀ b o, Mu C hp β b o → M' b o) : SR C hp β w' res.sv v := by
  cases res with
  | one g => exact GR.less hm h
  | tup l =>
    obtain ⟨us, h1, h2, h3⟩ := h
    refine ⟨us, h1, by simpa using h2, fun i b hb => ?_⟩
    simp only [List.getElem?_map, Option.map_eq_some_iff] at hb
    obtain ⟨g, hg, rfl⟩ := hb
    obtain ⟨x, q1, q2⟩ := h3 i g hg
    exact ⟨x, q1, GR.less hm q2⟩
  | new T size es => exact h.elim

/-- operands of a call: a pointer to k among them -/
inductive EvM (k : Nat) (h : HS) : List Operand → List RG → List (Nat × SV) → Prop
  | nil : EvM k h [] [] []
  | g {x : Operand} {g : AG} {R Rs : List (Nat × SV)} {xs : List Operand} {gs : List RG} (hx : Ev x (.g g) R) (t : EvM k h xs gs Rs) : EvM k h (x :: xs) (.g g :: gs) (R ++ Rs)
  | pt {x : Operand} {R Rs : List (Nat × SV)} {xs : List Operand} {gs : List RG} (hx : Ev x (.ptr k 0) R) (t : EvM k h xs gs Rs) : EvM k h (x :: xs) (.pt h :: gs) (R ++ Rs)

section
variable {P : Program} {nt : Nat} {C : Cx P nt}

theorem EvM.ok {sl : SL} {hp : HL} {β : Nat → Option Nat} {a : Act} {w : World} {k b : Nat} {h : HS} {go : Option Nat} {xs : List Operand} {gs : List RG} {R : List (Nat × SV)} (hx : EvM k h xs gs R) (hs : HasS sl R) (r : RelB C ⟨sl, hp⟩ β a w) (hb : β k = some b)
    {M : Nat → Nat → Prop} (hM : ∀ b' o, (M b' o ∨ b' = b ∨ go = some b') → Mu C hp β b' o) (hh : HSR (fun b' o => M b' o ∨ b' = b ∨ go = some b') w b go h) :
    (xs.map a.eval).length = gs.length ∧ ∀ (i : Nat) (g : RG) (v : Value), gs[i]? = some g → (xs.map a.eval)[i]? = some v → ArgM M w b go g v := by
  induction hx with
  | nil => exact ⟨rfl, fun i g v h => by simp at h⟩
  | g hx t ih =>
    obtain ⟨h3, h4⟩ := ih hs.app.2
    refine ⟨by simpa using h3, fun i g v hg hv => ?_⟩
    cases i with
    | zero => simp at hg hv; subst hg hv; exact GR.less hM (hx.ok hs.app.1 r)
    | succ i => exact h4 i g v (by simpa using hg) (by simpa using hv)
  | pt hx t ih =>
    obtain ⟨h3, h4⟩ := ih hs.app.2
    refine ⟨by simpa using h3, fun i g v hg hv => ?_⟩
    cases i with
    | zero =>
      simp at hg hv; subst hg hv
      obtain ⟨_, b', hb', hu⟩ := hx.ok hs.app.1 r
      rw [hb] at hb'; cases hb'
      exact ⟨hu, hh⟩
    | succ i => exact h4 i g v (by simpa using hg) (by simpa using hv)

/-- what a shape says in the caller's world -/
theorem ents_HSR {sl : SL} {hp : HL} {β : Nat → Option Nat} {a : Act} {w : World} (r : RelB C ⟨sl, hp⟩ β a w) {k kk : Nat} {h : HS} (hh : HasH hp (h.ents k kk)) (hg : h.fits h = true) :
    ∃ b go, β k = some b ∧ b < w.heap.size ∧ (∀ g, go = some g → g < w.heap.size) ∧ HSR (Mu C hp β) w b go h ∧ (∀ o, Mu C hp β b o) ∧ (∀ g, go = some g → ∀ o, Mu C hp β g o) ∧ (∀ T E s, h = .bld T E s → go = β kk) ∧ (∀ T ds, h = .dat T ds → go = none) := by
  cases h with
  | dat T ds =>
    obtain ⟨b, arr, h1, h2, h3, h4⟩ := r.hp k _ hh.1
    refine ⟨b, none, h1, (r.own k _ b hh.1 h1).2, fun g hg => (by cases hg), ⟨rfl, arr, h2, by simpa [dat] using h3, fun j d hj => ?_⟩, fun o => .inr ⟨k, _, hh.1, h1, trivial⟩, fun g hg => (by cases hg), fun _ _ _ e => (by cases e), fun _ _ _ => rfl⟩
    obtain ⟨u, q1, _, q3⟩ := h4 j (.g (.d d)) (by simp [dat, hj])
    exact ⟨u, q1, q3⟩
  | bld T E s =>
    have hk : hget hp k = some (.bld T E kk s) := hh.1
    obtain ⟨q0, b, p, v, q1, q2, q3, q4, q5⟩ := r.hp k _ hk
    have hne : kk ≠ k := fun c => by subst c; rw [hk] at q0; cases q0
    exact ⟨b, β kk, q1, (r.own k _ b hk q1).2, fun g hg => (r.own kk _ g q0 hg).2, ⟨fun c => hne (r.inj kk k _ _ b q0 hk c q1), p, v, q2, q3, q4, q5⟩, fun o => .inr ⟨k, _, hk, q1, trivial⟩, fun g hg o => .inr ⟨kk, _, q0, hg, trivial⟩, fun _ _ _ _ => rfl, fun _ _ e => (by cases e)⟩
  | gone => cases hg

theorem HSR.less {M M' : Nat → Nat → Prop} {w : World} {b : Nat} {go : Option Nat} {h : HS} (hm : ∀ b o, M' b o → M b o) (r : HSR M w b go h) : HSR M' w b go h := by
  cases h with
  | dat T ds =>
    obtain ⟨h0, arr, h1, h2, h3⟩ := r
    exact ⟨h0, arr, h1, h2, fun j d hj => let ⟨u, q1, q2⟩ := h3 j d hj; ⟨u, q1, q2.less hm⟩⟩
  | bld T E s => exact r
  | gone => trivial

/-- behind such a call -/
theorem callM_core {sl : SL} {hp : HL} {β : Nat → Option Nat} {a : Act} {w w' : World} (r : RelB C ⟨sl, hp⟩ β a w) {k kk b : Nat} {h h' : HS} {go : Option Nat} {res : RS} {v : Value} (hh : HasH hp (h.ents k kk)) (hf : h.fits h' = true)
    (hb : β k = some b) (hgo : (∀ T E s, h = .bld T E s → go = β kk) ∧ (∀ T ds, h = .dat T ds → go = none)) (hp' : PostM (fun b' o => Mu C hp β b' o ∧ b' ≠ b ∧ go ≠ some b') w b go h' res v w') :
    ∃ β', RelB C ⟨sl, h'.ents k kk ++ hp⟩ β' a w' ∧ SR C (h'.ents k kk ++ hp) β' w' res.sv v := by
  obtain ⟨go', hkw, hg', hres, hsr⟩ := hp'
  cases h with
  | dat T ds =>
    cases h' with
    | dat T' ds' =>
      obtain rfl := hgo.2 T ds rfl
      obtain ⟨rfl, arr, q1, q2, q3⟩ := hsr
      have hk : hget hp k = some (.blk T (dat ds)) := hh.1
      have hmuB : ∀ b' o, Mu C ((k, some (HE.blk T' (dat ds'))) :: hp) (upd β k (some b)) b' o → Mu C hp β b' o := by
        rintro b' o (hM | ⟨k', e', he', hb', hm'⟩)
        · exact .inl hM
        · rw [hget_cons] at he'
          by_cases c : k = k'
          · subst c; simp only [upd, if_true] at hb'; exact .inr ⟨k, _, hk, hb ▸ hb', trivial⟩
          · rw [if_neg c] at he'; simp only [upd, if_neg (fun c' => c (Eq.symm c'))] at hb'; exact .inr ⟨k', e', he', hb', hm'⟩
      have hin : ∀ b' o, Mu C ((k, some (HE.blk T' (dat ds'))) :: hp) (upd β k (some b)) b' o → ((Mu C hp β b' o ∧ b' ≠ b ∧ none ≠ some b') ∨ b' = b ∨ none = some b') := fun b' o c => by
        by_cases e : b' = b
        · exact .inr (.inl e)
        · exact .inl ⟨hmuB b' o c, e, fun c => by cases c⟩
      have hc := (r.chg (w1 := w') (e := .blk T' (dat ds')) (bo := some b) hk hkw.os hkw.tape hkw.output hkw.size (fun i hi hne => hkw.block i hi (fun c => c.elim (fun c => hne (by rw [c, hb])) fun c => by cases c))
        (fun _ _ _ _ _ c => absurd trivial c) (.inl ⟨hb.symm, fun _ _ => trivial⟩) ⟨rfl, fun _ => hb.symm⟩
        (fun es0 u hu => by obtain ⟨_, _, _, _, g1, _⟩ := hu; rw [hk] at g1; cases g1)
        (fun _ _ => ⟨b, arr, by simp [upd], q1, by simpa [dat] using q2, fun j c hc => by
          simp only [dat, List.getElem?_map, Option.map_eq_some_iff] at hc
          obtain ⟨d, hd, rfl⟩ := hc
          obtain ⟨u, p1, p2⟩ := q3 j d hd
          have p3 : RD (Mu C ((k, some (HE.blk T' (dat ds'))) :: hp) (upd β k (some b))) w' u d := p2.less hin
          exact ⟨u, p1, RD.one p3, p3⟩⟩)).1
      exact ⟨_, hc, hres.sv hin⟩
    | bld _ _ _ => cases hf
    | gone => cases hf
  | bld T E s =>
    obtain rfl := hgo.1 T E s rfl
    have hk : hget hp k = some (.bld T E kk s) := hh.1
    have hkk : hget hp kk = some (.hid true k) := (r.hp k _ hk).1
    have hne : kk ≠ k := fun c => by subst c; rw [hk] at hkk; cases hkk
    have hblock : ∀ i, i < w.heap.size → i ≠ b → some i ≠ β kk → w'.heap[i]? = w.heap[i]? := fun i hi h1 h2 => hkw.block i hi fun c => c.elim h1 fun c => h2 c.symm
    have fin : ∀ e : HE, e.isRow = false → HR C ((k, some e) :: (kk, some (.hid true k)) :: hp) (upd β kk go') w' k e →
        ∃ β', RelB C ⟨sl, (k, some e) :: (kk, some (.hid true k)) :: hp⟩ β' a w' ∧ SR C ((k, some e) :: (kk, some (.hid true k)) :: hp) β' w' res.sv v := fun e he hH => by
      obtain ⟨h1, h2⟩ := r.chgB hk hb hkw.os hkw.tape hkw.output hkw.size hblock hg' he hH
      refine ⟨_, h1, hres.sv fun b' o c => ?_⟩
      rcases h2 b' o c with ⟨c1, c2⟩ | c1
      · by_cases e : b' = b
        · exact .inr (.inl e)
        · exact .inl ⟨c1, e, c2⟩
      · exact .inr (.inr c1)
    cases h' with
    | dat _ _ => cases hf
    | bld T' E' s' =>
      obtain ⟨_, p, v', q2, q3, q4, q5⟩ := hsr
      exact fin (.bld T' E' kk s') rfl ⟨by rw [hget_cons, if_neg (Ne.symm hne), hget_cons, if_pos rfl], b, p, v', by simp [upd, Ne.symm hne, hb], q2, q3, q4, by simp [upd, q5]⟩
    | gone => exact fin (.hid false 0) rfl trivial
  | gone => cases h' <;> cases hf
end

section
variable {P : Program} {nt : Nat} {C : Cx P nt} {dst : Nat} {ty : TypeId} {pos : String} {af : Array Edge} {gd : Option (Nat × Bool)} {R : List (Nat × SV)}

theorem fits_self : ∀ {h h' : HS}, h.fits h' = true → h.fits h = true := by
  intro h h' hf
  cases h <;> cases h' <;> first | rfl | cases hf

/-- a call that is handed a pointer to a block of the call's own -/
theorem op_callM {f k : Nat} (kk : Nat) {xs : List Operand} {tys : Array TypeId} {args : List RG} {h h' : HS} {res : RS} {sv : SV} (hc : CallF P f) (hct : CtM P f args h' res) (hsv : res.sv = sv) (hf : h.fits h' = true) (hx : EvM k h xs args R) (hd : Nat.blt dst nt = true) :
    OpL C (Oo dst (cCall f xs tys) ty pos af gd) R (h.ents k kk) [(dst, sv)] (h'.ents k kk) := by
  refine ⟨fun sl hp hs hh a w K Q ⟨β, r⟩ hK => ?_⟩
  obtain ⟨b, go, hb, hlt, hglt, hsr, hmb, hmg, hg1, hg2⟩ := ents_HSR r hh (fits_self hf)
  have hM : ∀ b' o, ((Mu C hp β b' o ∧ b' ≠ b ∧ go ≠ some b') ∨ b' = b ∨ go = some b') → Mu C hp β b' o := fun b' o c => c.elim (fun c => c.1) fun c => c.elim (fun c => by subst c; exact hmb o) fun c => hmg b' c o
  obtain ⟨h1, h2⟩ := hx.ok hs r hb hM (hsr.less hM)
  have hcall := hct.go (fun b' o => Mu C hp β b' o ∧ b' ≠ b ∧ go ≠ some b') w (xs.map a.eval) b go (fun b' o c => ⟨r.mut_lt c.1, c.2⟩) hlt hglt h1 h2
  unfold Oper.wp
  rw [run_call hc]
  refine hcall.mono ?_
  rintro e w' ⟨v, rfl, hp'⟩
  obtain ⟨β', r', hs'⟩ := callM_core r hh hf hb ⟨hg1, hg2⟩ hp'
  refine hK _ _ ⟨β', r'.put (Below.refl _ _) (by simpa using hd) ?_⟩
  rw [← hsv]; exact hs'

/-- .. by a function value that holds the pointer -/
theorem op_callCloM {t f k : Nat} (kk : Nat) {xs : List Operand} {tys : Array TypeId} {args : List RG} {h h' : HS} {res : RS} {sv : SV} (hc : CallF P f) (hct : CtM P f (args ++ [.pt h]) h' res) (hsv : res.sv = sv) (hf : h.fits h' = true) (hx : EvM k h xs args R) (hd : Nat.blt dst nt = true) :
    OpL C (Oo dst (cCallT t xs tys) ty pos af gd) ((t, .one (.clo f [k])) :: R) (h.ents k kk) [(dst, sv)] (h'.ents k kk) := by
  refine ⟨fun sl hp hs hh a w K Q ⟨β, r⟩ hK => ?_⟩
  obtain ⟨b, go, hb, hlt, hglt, hsr, hmb, hmg, hg1, hg2⟩ := ents_HSR r hh (fits_self hf)
  have hM : ∀ b' o, ((Mu C hp β b' o ∧ b' ≠ b ∧ go ≠ some b') ∨ b' = b ∨ go = some b') → Mu C hp β b' o := fun b' o c => c.elim (fun c => c.1) fun c => c.elim (fun c => by subst c; exact hmb o) fun c => hmg b' c o
  obtain ⟨h1, h2⟩ := hx.ok hs.2 r hb hM (hsr.less hM)
  obtain ⟨us, hu, hl, hcap⟩ := (Ev.t t _).ok (R := [(t, .one (.clo f [k]))]) ⟨hs.1, trivial⟩ r
  obtain ⟨_, b2, hb2, hx2⟩ := hcap 0 k rfl
  rw [hb] at hb2; cases hb2
  obtain ⟨u, rfl⟩ : ∃ u, us = [u] := by
    match us, hl with
    | [u], _ => exact ⟨u, rfl⟩
  simp at hx2
  subst hx2
  have hcall := hct.go (fun b' o => Mu C hp β b' o ∧ b' ≠ b ∧ go ≠ some b') w (xs.map a.eval ++ [.pointer (some ⟨b, 0, none⟩)]) b go (fun b' o c => ⟨r.mut_lt c.1, c.2⟩) hlt hglt (by simp only [List.length_append, h1, List.length_cons, List.length_nil]) (fun i g v hg hv => by
    by_cases c : i < args.length
    · rw [List.getElem?_append_left c] at hg
      rw [List.getElem?_append_left (by rw [h1]; exact c)] at hv
      exact h2 i g v hg hv
    · rw [List.getElem?_append_right (by omega)] at hg
      rw [List.getElem?_append_right (by rw [h1]; omega), h1] at hv
      cases hi : i - args.length with
      | zero => rw [hi] at hg hv; simp at hg hv; subst hg hv; exact ⟨rfl, hsr.less hM⟩
      | succ j => rw [hi] at hg; simp at hg)
  unfold Oper.wp
  rw [run_callT hc hu]
  rw [← List.append_toArray] at hcall
  refine hcall.mono ?_
  rintro e w' ⟨v, rfl, hp'⟩
  obtain ⟨β', r', hs'⟩ := callM_core r hh hf hb ⟨hg1, hg2⟩ hp'
  refine hK _ _ ⟨β', r'.put (Below.refl _ _) (by simpa using hd) ?_⟩
  rw [← hsv]; exact hs'
end

/-- A CONTRACT OUT OF A WALK, for a function that is handed a pointer (its j-th argument) -/
theorem CtM.intro {P : Program} {f : Nat} {fn : Func} {code : Code} {args : List RG} {h h' : HS} {res : RS} {n : Nat} (j : Nat) (hf : P.funcs[f]? = some fn) (hb : fn.body = some code) (hn : fn.ntmps = n) (hle : Nat.ble args.length n = true)
    (hj : args[j]? = some (.pt h)) (hfit : h.fits h = true) (hone : (args.zipIdx.all fun p => p.2 == j || !p.1.isRow) = true)
    (hG : ∀ M w b go, G (⟨w, M, fun b' => b' = b ∨ go = some b', some b⟩ : Cx P n) (bodyPost P fn (fun e w' => ∃ v, e = .returned v ∧ PostM M w b go h' res v w')) [.c code] ⟨(j, .one (.ptr 0 0)) :: slots0 0 args, h.ents 0 50⟩) : CtM P f args h' res := by
  refine ⟨fun M w vs b go hM hlt hglt hl hargs => ?_⟩
  have hjl : j < args.length := (List.getElem?_eq_some_iff.1 hj).1
  have hle' : vs.length ≤ n := by rw [hl]; simpa using hle
  obtain ⟨hv0, hsr⟩ := hargs j _ vs[j] hj (by simp)
  have hg0 : ∀ k e, hget (h.ents 0 50) k = some e → (k = 0 ∧ e.isRow = false) ∨ (k = 50 ∧ e = .hid true 0 ∧ ∃ T E s, h = .bld T E s) := by
    intro k e he
    cases h with
    | dat T ds => simp only [HS.ents, hget_cons] at he; split at he
                  · cases he; rename_i c; exact .inl ⟨c.symm, rfl⟩
                  · cases he
    | bld T E s => simp only [HS.ents, hget_cons] at he; split at he
                   · cases he; rename_i c; exact .inl ⟨c.symm, rfl⟩
                   · split at he
                     · cases he; rename_i c; exact .inr ⟨c.symm, rfl, T, E, s, rfl⟩
                     · cases he
    | gone => cases hfit
  have hgob : ∀ T E s, h = .bld T E s → go ≠ some b := fun T E s e => by subst e; exact hsr.1
  have hmu : ∀ b' o, Mu (⟨w, M, fun b' => b' = b ∨ go = some b', some b⟩ : Cx P n) (h.ents 0 50) (fun k => if k = 0 then some b else go) b' o → M b' o ∨ b' = b ∨ go = some b' := by
    rintro b' o (c | ⟨k, e, he, hb', _⟩)
    · exact .inl c
    · rcases hg0 k e he with ⟨rfl, _⟩ | ⟨rfl, _⟩
      · simp at hb'; exact .inr (.inl hb'.symm)
      · simp at hb'; exact .inr (.inr hb')
  have hent0 : ∃ e, hget (h.ents 0 50) 0 = some e ∧ e.isRow = false := by
    cases h with
    | dat T ds => exact ⟨_, rfl, rfl⟩
    | bld T E s => exact ⟨_, rfl, rfl⟩
    | gone => cases hfit
  refine calls_of_wp hf hb ?_
  refine (hG M w b go).go _ w ⟨fun k => if k = 0 then some b else go, ⟨⟨rfl, rfl, rfl, Nat.le_refl _, fun _ _ _ => rfl⟩, fun b' o c => ⟨(hM b' o c).1, fun d => d.elim (hM b' o c).2.1 (hM b' o c).2.2⟩, fun k k' e e' b' h1 h2 h3 h4 => ?_, fun k e b' h1 h2 => ?_, fun k e h1 => ?_, fun t sv hs => ?_, ?_, rfl, fun b' hb' => ?_⟩⟩
  · rcases hg0 k e h1 with ⟨rfl, _⟩ | ⟨rfl, _, T, E, s, eh⟩ <;> rcases hg0 k' e' h2 with ⟨rfl, _⟩ | ⟨rfl, _, T', E', s', eh'⟩
    · rfl
    · simp at h3 h4; subst h3; exact absurd h4 (hgob _ _ _ eh')
    · simp at h3 h4; subst h4; exact absurd h3 (hgob _ _ _ eh)
    · rfl
  · rcases hg0 k e h1 with ⟨rfl, _⟩ | ⟨rfl, _⟩
    · simp at h2; subst h2; exact ⟨.inr (.inl rfl), hlt⟩
    · simp at h2; exact ⟨.inr (.inr h2), hglt b' h2⟩
  · cases h with
    | dat T ds =>
      simp only [HS.ents, hget_cons] at h1
      split at h1
      · rename_i c; subst c; cases h1
        obtain ⟨_, arr, q1, q2, q3⟩ := hsr
        refine ⟨b, arr, by simp, q1, by simpa [dat] using q2, fun i c hc => ?_⟩
        simp only [dat, List.getElem?_map, Option.map_eq_some_iff] at hc
        obtain ⟨d, hd, rfl⟩ := hc
        obtain ⟨u, p1, p2⟩ := q3 i d hd
        exact ⟨u, p1, RD.one p2, p2.less hmu⟩
      · cases h1
    | bld T E s =>
      simp only [HS.ents, hget_cons] at h1
      split at h1
      · rename_i c; subst c; cases h1
        obtain ⟨_, p, v, q1, q2, q3, q4⟩ := hsr
        exact ⟨rfl, b, p, v, by simp, q1, q2, q3, by simpa using q4⟩
      · split at h1
        · cases h1; trivial
        · cases h1
    | gone => cases hfit
  · rw [sget_cons] at hs
    have hvt : ∀ t, t < vs.length → (vs.toArray ++ Array.replicate (fn.ntmps - vs.toArray.size) undef).getD t undef = vs[t]?.getD undef := fun t ht => by
      simp [Array.getElem?_append, ht]
    by_cases c : j = t
    · subst c
      rw [if_pos rfl] at hs; cases hs
      have e : (vs.toArray ++ Array.replicate (fn.ntmps - vs.toArray.size) undef).getD j undef = .pointer (some ⟨b, 0, none⟩) := by
        rw [hvt j (by omega)]; simp [show j < vs.length by omega, hv0]
      show SR _ _ _ _ _ ((vs.toArray ++ Array.replicate (fn.ntmps - vs.toArray.size) undef).getD j undef)
      rw [e]
      exact ⟨hent0, b, by simp, rfl⟩
    · rw [if_neg c] at hs
      obtain ⟨_, g, h1, rfl⟩ := slots0_get hs
      rw [Nat.sub_zero] at h1
      have hlt' : t < vs.length := by rw [hl]; exact (List.getElem?_eq_some_iff.1 h1).1
      have hnr : g.isRow = false := by
        have := List.all_eq_true.1 hone (g, t) (List.mem_iff_getElem?.2 ⟨t, by simp [h1]⟩)
        have c' : ¬ t = j := fun e => c e.symm
        simpa [c'] using this
      have ha := hargs t g vs[t] h1 (by simp [hlt'])
      show SR _ _ _ _ _ ((vs.toArray ++ Array.replicate (fn.ntmps - vs.toArray.size) undef).getD t undef)
      rw [hvt t hlt']
      simp only [hlt', List.getElem?_eq_getElem, Option.getD_some]
      cases g with
      | g a => exact GR.less hmu ha
      | ep cs => exact ha.elim
      | sem Φ => exact ha.elim
      | row T size es => cases hnr
      | pt h => cases hnr
  · simp [hn]; omega
  · cases hb'
    refine ⟨by simp, fun e he => ?_⟩
    rcases hg0 0 e he with ⟨_, h2⟩ | ⟨h2, _⟩
    · exact h2
    · cases h2

/-- what is handed back -/
def RetOK (P : Program) (fn : Func) (res : RS) (R : List (Nat × SV)) (Rh : List (Nat × Option HE)) : Prop :=
  ∀ {nt : Nat} (C : Cx P nt) (sl : SL) (hp : HL) (β : Nat → Option Nat) (a : Act) (w : World), HasS sl R → HasH hp Rh → RelB C ⟨sl, hp⟩ β a w → ∃ v, (results fn a.tmps).run P w = .ok v w ∧ ResRD (Mu C hp β) w res v

section
variable {P : Program} {nt : Nat}
theorem retOK0 {fn : Func} (hres : fn.results = #[]) : RetOK P fn (.tup []) [] [] := fun C sl hp β a w _ _ _ => by
  refine ⟨.tuple #[], ?_, #[], rfl, rfl, fun i g h => by simp at h⟩
  rw [results_eq, hres]; simp
theorem retOK1 {fn : Func} {rv : ResultVar} {g : AG} {R : List (Nat × SV)} {Rh : List (Nat × Option HE)} (hres : fn.results = #[rv]) (hr : RVar P rv g R Rh) : RetOK P fn (.one g) R Rh := fun C sl hp β a w hs hh r => by
  obtain ⟨v, h1, h2⟩ := hr.ok hs hh r
  exact ⟨v, by rw [results_eq, hres]; simp [h1], h2⟩
theorem retOK2 {fn : Func} {rv rv' : ResultVar} {g g' : AG} {R R' : List (Nat × SV)} {Rh Rh' : List (Nat × Option HE)} (hres : fn.results = #[rv, rv']) (hr : RVar P rv g R Rh) (hr' : RVar P rv' g' R' Rh') : RetOK P fn (.tup [g, g']) (R ++ R') (Rh ++ Rh') := fun C sl hp β a w hs hh r => by
  obtain ⟨v, h1, h2⟩ := hr.ok hs.app.1 hh.app.1 r
  obtain ⟨v', h1', h2'⟩ := hr'.ok hs.app.2 hh.app.2 r
  refine ⟨.tuple #[v, v'], by rw [results_eq, hres]; simp [h1, h1'], #[v, v'], rfl, rfl, fun i g'' hi => ?_⟩
  match i with
  | 0 => simp at hi; subst hi; exact ⟨v, rfl, h2⟩
  | 1 => simp at hi; subst hi; exact ⟨v', rfl, h2'⟩
  | i + 2 => simp at hi

variable {M : Nat → Nat → Prop} {w0 : World} {b : Nat} {go : Option Nat} {k : List KI}

theorem postM_of {fn : Func} {res : RS} {h' : HS} {R : List (Nat × SV)} {Rh : List (Nat × Option HE)} {sl : SL} {hp : HL} (hr : RetOK P fn res R Rh) (hs : HasS sl R) (hh : HasH hp Rh) (hE : HasH hp (h'.ents 0 50))
    {β : Nat → Option Nat} {a : Act} {w : World} (r : RelB (⟨w0, M, fun b' => b' = b ∨ go = some b', some b⟩ : Cx P nt) ⟨sl, hp⟩ β a w) :
    ∃ v, (results fn a.tmps).run P w = .ok v w ∧ PostM M w0 b go h' res v w := by
  obtain ⟨v, h1, h2⟩ := hr _ sl hp β a w hs hh r
  obtain ⟨hb0, hnr⟩ := r.fx b rfl
  refine ⟨v, h1, ?_⟩
  cases h' with
  | dat T ds =>
    have hk : hget hp 0 = some (.blk T (dat ds)) := hE.1
    have hm : ∀ b' o, (M b' o ∨ b' = b ∨ none = some b') → Mu (⟨w0, M, fun b' => b' = b ∨ go = some b', some b⟩ : Cx P nt) hp β b' o := fun b' o c => c.elim .inl fun c => c.elim (fun c => by subst c; exact .inr ⟨0, _, hk, hb0, trivial⟩) fun c => by cases c
    refine ⟨none, r.keep, fun g hg => (by cases hg), ?_, rfl, ?_⟩
    · cases res with
      | one g => exact GR.less hm h2
      | tup l => obtain ⟨us, q1, q2, q3⟩ := h2; exact ⟨us, q1, q2, fun i g hi => let ⟨x, p1, p2⟩ := q3 i g hi; ⟨x, p1, GR.less hm p2⟩⟩
      | new _ _ _ => exact h2.elim
    · obtain ⟨b', arr, q1, q2, q3, q4⟩ := r.hp 0 _ hk
      rw [hb0] at q1; cases q1
      exact ⟨arr, q2, by simpa [dat] using q3, fun j d hj => let ⟨u, p1, _, p3⟩ := q4 j (.g (.d d)) (by simp [dat, hj]); ⟨u, p1, RD.less hm p3⟩⟩
  | bld T E s =>
    have hk : hget hp 0 = some (.bld T E 50 s) := hE.1
    obtain ⟨q0, b', p, v', q1, q2, q3, q4, q5⟩ := r.hp 0 _ hk
    rw [hb0] at q1; cases q1
    have hm : ∀ b' o, (M b' o ∨ b' = b ∨ β 50 = some b') → Mu (⟨w0, M, fun b' => b' = b ∨ go = some b', some b⟩ : Cx P nt) hp β b' o := fun b' o c => c.elim .inl fun c => c.elim (fun c => by subst c; exact .inr ⟨0, _, hk, hb0, trivial⟩) fun c => .inr ⟨50, _, q0, c, trivial⟩
    have hne : β 50 ≠ some b := fun c => by have := r.inj 50 0 _ _ b q0 hk c hb0; cases this
    refine ⟨β 50, r.keep, fun g hg => ?_, ?_, hne, p, v', q2, q3, q4, q5⟩
    · obtain ⟨c1, c2⟩ := r.own 50 _ g q0 hg
      rcases c1 with c1 | c1 | c1
      · exact .inr ⟨c1, c2⟩
      · subst c1; exact absurd hg hne
      · exact .inl c1
    · cases res with
      | one g => exact GR.less hm h2
      | tup l => obtain ⟨us, q1, q2, q3⟩ := h2; exact ⟨us, q1, q2, fun i g hi => let ⟨x, p1, p2⟩ := q3 i g hi; ⟨x, p1, GR.less hm p2⟩⟩
      | new _ _ _ => exact h2.elim
  | gone =>
    have hk : hget hp 0 = some (.hid false 0) := hE.1
    have q0 : hget hp 50 = some (.hid true 0) := hE.2.1
    have hm : ∀ b' o, (M b' o ∨ b' = b ∨ β 50 = some b') → Mu (⟨w0, M, fun b' => b' = b ∨ go = some b', some b⟩ : Cx P nt) hp β b' o := fun b' o c => c.elim .inl fun c => c.elim (fun c => by subst c; exact .inr ⟨0, _, hk, hb0, trivial⟩) fun c => .inr ⟨50, _, q0, c, trivial⟩
    have hne : β 50 ≠ some b := fun c => by have := r.inj 50 0 _ _ b q0 hk c hb0; cases this
    refine ⟨β 50, r.keep, fun g hg => ?_, ?_, trivial⟩
    · obtain ⟨c1, c2⟩ := r.own 50 _ g q0 hg
      rcases c1 with c1 | c1 | c1
      · exact .inr ⟨c1, c2⟩
      · subst c1; exact absurd hg hne
      · exact .inl c1
    · cases res with
      | one g => exact GR.less hm h2
      | tup l => obtain ⟨us, q1, q2, q3⟩ := h2; exact ⟨us, q1, q2, fun i g hi => let ⟨x, p1, p2⟩ := q3 i g hi; ⟨x, p1, GR.less hm p2⟩⟩
      | new _ _ _ => exact h2.elim

theorem G.retM {fn : Func} {res : RS} {h' : HS} {R : List (Nat × SV)} {Rh : List (Nat × Option HE)} {sl : SL} {hp : HL} (hr : RetOK P fn res R Rh) (hs : HasS sl R) (hh : HasH hp Rh) (hE : HasH hp (h'.ents 0 50)) :
    G (⟨w0, M, fun b' => b' = b ∨ go = some b', some b⟩ : Cx P nt) (bodyPost P fn (fun e w' => ∃ v, e = .returned v ∧ PostM M w0 b go h' res v w')) (.c .ret :: k) ⟨sl, hp⟩ := .mk <| fun a w ⟨β, r⟩ => by
  obtain ⟨v, h1, h2⟩ := postM_of hr hs hh hE r
  exact wp_ret (Qof_ret ⟨r.df, v, h1, v, rfl, h2⟩)

/-- a function without results falls off its end -/
theorem G.fallM {fn : Func} {res : RS} {h' : HS} {R : List (Nat × SV)} {Rh : List (Nat × Option HE)} {sl : SL} {hp : HL} (hr : RetOK P fn res R Rh) (hs : HasS sl R) (hh : HasH hp Rh) (hE : HasH hp (h'.ents 0 50)) :
    G (⟨w0, M, fun b' => b' = b ∨ go = some b', some b⟩ : Cx P nt) (bodyPost P fn (fun e w' => ∃ v, e = .returned v ∧ PostM M w0 b go h' res v w')) [] ⟨sl, hp⟩ := .mk <| fun a w ⟨β, r⟩ => by
  obtain ⟨v, h1, h2⟩ := postM_of hr hs hh hE r
  exact ⟨r.df, v, h1, v, rfl, h2⟩
end
end Go.Ab

/- The abstract machine: what strings.Builder's methods do to a builder's two blocks. Conditions: none but those that stand in each law. -/
namespace Go.Ab
open Go Go.RowKit

theorem KeepW.refl {K : Nat → Prop} (w : World) : KeepW K w w := ⟨rfl, rfl, rfl, Nat.le_refl _, fun _ _ _ => rfl⟩
theorem KeepW.trans {K : Nat → Prop} {w w1 w2 : World} (h : KeepW K w w1) (h2 : KeepW K w1 w2) : KeepW K w w2 :=
  ⟨h2.os.trans h.os, h2.tape.trans h.tape, h2.output.trans h.output, Nat.le_trans h.size h2.size, fun k hk hK => (h2.block k (Nat.lt_of_lt_of_le hk h.size) hK).trans (h.block k hk hK)⟩
theorem KeepW.more {K K' : Nat → Prop} {w w1 : World} (h : KeepW K w w1) (hk : ∀ b, K b → K' b) : KeepW K' w w1 := ⟨h.os, h.tape, h.output, h.size, fun k hlt hK => h.block k hlt fun c => hK (hk k c)⟩
theorem KeepW.setCell {K : Nat → Prop} (w : World) (p : Addr) (v : Value) (h : K p.block) : KeepW K w (w.setCell p v) :=
  ⟨rfl, rfl, rfl, by simp [World.setCell], fun k _ hK => Below.heap_setCell _ _ _ _ (fun e => hK (by rw [e]; exact h))⟩
theorem KeepW.grown {K : Nat → Prop} {w w' : World} {row : Option Nat} (h : w.grownBy w' row) (hr : ∀ g, row = some g → K g) : KeepW K w w' :=
  ⟨h.os, h.tape, h.output, h.size, fun k hk hK => h.block k hk fun c => hK (hr k c.symm)⟩
theorem KeepW.below {K : Nat → Prop} {w w' : World} (h : Below w.heap.size w w') : KeepW K w w' := ⟨h.os, h.tape, h.output, h.size, fun k hk _ => h.block k hk⟩

theorem strCells_app (s t : ByteArray) : Lib.strCells s ++ Lib.strCells t = Lib.strCells (s ++ t) := by
  simp [Lib.strCells, ByteArray.data_append]
theorem strCells_one (c : Nat) (h : c < 256) : [Value.int .u8 (c : Int)] = Lib.strCells (ByteArray.mk #[UInt8.ofNat c]) := by
  simp [Lib.strCells, Nat.mod_eq_of_lt h]

section
variable {P : Program} (w : World)

/-- append onto an owned row of bytes: the block is the old one, or new -/
theorem run_append_bytes (t u ty e : TypeId) (i : TypeInfo) (ht : P.underlying t = some (.slice e)) (hu : P.underlying u = some .string) (hi : P.info? e = some i) (hz : i.zero = some (.int .u8 0))
    (hsize : i.size = 1) (hby : i.bytes = 1) (v : Value) (n : Nat) (xs : List Value) (hown : w.ownsRow 0 e 1 v n xs) (s : ByteArray) (hbytes : n + s.size ≤ 140737488355328) :
    ∃ v' w', (Builtin.append_ #[t, u] ty #[v, .string s]).run P w = .ok v' w' ∧ w'.ownsRow 0 e 1 v' (n + s.size) (xs ++ Lib.strCells s) ∧ w.grownBy w' v.ownBlock ∧
      (v'.ownBlock = v.ownBlock ∨ (v'.ownBlock = some w.heap.size ∧ w.heap.size < w'.heap.size)) := by
  have h63 : n + s.size ≤ maxLen := by unfold maxLen; omega
  have hxl : xs.length = n := by simpa using hown.1
  have hlen : (xs ++ Lib.strCells s).length = (n + s.size) * 1 := by rw [List.length_append, hxl, Lib.strCells_length, Nat.mul_one]
  have grown : ∀ (old : Nat), old < n + s.size → ∀ (row : Option Nat),
      (w.drew.alloc (.cells (xs.toArray ++ (Lib.strCells s).toArray ++ Builtin.zeroCells (Value.int .u8 0).cells (grownCap w (n + s.size) old e - (n + s.size))) e)).ownsRow 0 e 1
        (.slice (some ⟨w.heap.size, 0, none⟩) (n + s.size) (grownCap w (n + s.size) old e)) (n + s.size) (xs ++ Lib.strCells s) ∧
      w.grownBy (w.drew.alloc (.cells (xs.toArray ++ (Lib.strCells s).toArray ++ Builtin.zeroCells (Value.int .u8 0).cells (grownCap w (n + s.size) old e - (n + s.size))) e)) row := by
    intro old ho row
    have hge := grownCap_ge w (n + s.size) old e
    have hcm : grownCap w (n + s.size) old e ≤ maxLen := grownCap_le_maxLen w (n + s.size) old e h63
    refine ⟨⟨hlen, .inr ⟨w.heap.size, _, _, rfl, Nat.zero_le _, heap_alloc_new w.drew _, hge, hcm, ?_, ?_⟩⟩, ⟨rfl, rfl, rfl, by simp, fun k hk _ => heap_alloc_old w.drew _ hk⟩⟩
    · have hz1 : (Value.int IntKind.u8 0).cells.size = 1 := rfl
      simp only [Array.size_append, List.size_toArray, size_zeroCells, hz1, hxl, Lib.strCells_length]
      omega
    · simp only [Array.toList_append, List.append_assoc]
      rw [← List.append_assoc, ← hlen]
      exact List.take_left
  rcases hown.2 with ⟨rfl, rfl⟩ | ⟨g, cap, cur, rfl, hbg, hg, hnc, hcm, hcs, htake⟩
  · have hx : xs = [] := List.eq_nil_of_length_eq_zero hxl
    subst hx
    by_cases hm : s.size = 0
    · have hn : Lib.strCells s = [] := List.eq_nil_of_length_eq_zero (by rw [Lib.strCells_length]; exact hm)
      refine ⟨.slice none 0 0, w, ?_, by rw [hm, hn]; exact World.ownsRow_nil w 0 e 1, ⟨rfl, rfl, rfl, Nat.le_refl _, fun _ _ _ => rfl⟩, .inl rfl⟩
      have hf := Lib.run_firstCells_string (P := P) w 1 s
      rw [hm] at hf
      simp [Builtin.append_, run_underlying ht, run_underlying hu, sizeOf, typeInfo, hi, hsize, Builtin.lenOf, hm, hf]
    · have hr := run_append_nil_string (P := P) w t u ty e i (.int .u8 0) ht hu hi hz s (by omega) (by omega) (by rw [hby]; omega)
      have hgr := grown 0 (by omega) (Value.ownBlock (.slice none 0 0))
      simp only [Nat.zero_add, List.nil_append, Array.empty_append] at hgr ⊢
      have e1 : (s.data.map fun b => Value.int .u8 b.toNat) = (Lib.strCells s).toArray := by
        apply Array.ext'
        simp [Lib.strCells]
      rw [e1] at hr
      exact ⟨_, _, hr, hgr.1, hgr.2, .inr ⟨rfl, by simp⟩⟩
  · by_cases hroom : n + s.size ≤ cap
    · have hcs' : cur.size = cap := by simpa using hcs
      have hr := Lib.run_append_room_string (P := P) w t u ty e i ht hu hi hsize g n cap cur hg s hroom (by omega)
      refine ⟨_, _, hr, ⟨hlen, .inr ⟨g, cap, _, rfl, hbg, setRow_heap w g cur _ e _ hg, hroom, hcm, ?_, ?_⟩⟩, ⟨rfl, rfl, rfl, by simp, fun k _ hk => setRow_other w g k _ (fun e => hk (by simp [Value.ownBlock, e]))⟩, .inl rfl⟩
      · simp only [List.size_toArray, List.length_append, List.length_take, List.length_drop, Array.length_toList, Lib.strCells_length]
        omega
      · have ht' : cur.toList.take n = xs := by simpa using htake
        rw [ht', ← hlen]
        exact List.take_left
    · have holds : ∀ j u, xs[j]? = some u → w.cell? ((⟨g, 0, none⟩ : Addr).add j) = some u := hown.cells (g := g) rfl
      have hr := Lib.run_append_grow_string (P := P) w t u ty e i (.int .u8 0) ht hu hi hz ⟨g, 0, none⟩ n cap xs (by rw [hsize]; simpa using hxl) holds s (by omega) (by omega) (by rw [hby]; exact growslice_fits (by omega) (by omega))
      have hgr := grown cap (by omega) (Value.ownBlock (.slice (some ⟨g, 0, none⟩) n cap))
      exact ⟨_, _, hr, hgr.1, hgr.2, .inr ⟨rfl, by simp⟩⟩

/-- .. one byte out of a slice -/
theorem run_append_byte (t ty e : TypeId) (i : TypeInfo) (ht : P.underlying t = some (.slice e)) (hi : P.info? e = some i) (hz : i.zero = some (.int .u8 0))
    (hsize : i.size = 1) (hby : i.bytes = 1) (v : Value) (n : Nat) (xs : List Value) (hown : w.ownsRow 0 e 1 v n xs) (a : Addr) (c : Nat) (x : Value) (hx : w.cell? a = some x) (h1 : x.oneCell' = true) (hbytes : n + 1 ≤ 140737488355328) :
    ∃ v' w', (Builtin.append_ #[t, t] ty #[v, .slice (some a) 1 c]).run P w = .ok v' w' ∧ w'.ownsRow 0 e 1 v' (n + 1) (xs ++ [x]) ∧ w.grownBy w' v.ownBlock ∧
      (v'.ownBlock = v.ownBlock ∨ (v'.ownBlock = some w.heap.size ∧ w.heap.size < w'.heap.size)) := by
  have h63 : n + 1 ≤ maxLen := by unfold maxLen; omega
  have hxl : xs.length = n := by simpa using hown.1
  have hlen : (xs ++ [x]).length = (n + 1) * 1 := by rw [List.length_append, hxl, Nat.mul_one]; rfl
  have hl : [x].length = 1 * i.size := by rw [hsize]; rfl
  have hnews : ∀ j u, [x][j]? = some u → w.cell? (a.add j) = some u := fun j u hj => by
    match j, hj with
    | 0, hj => simp at hj; subst hj; simpa [Addr.add] using hx
  have grown : ∀ (old : Nat), old < n + 1 → ∀ (row : Option Nat),
      (w.drew.alloc (.cells (xs.toArray ++ [x].toArray ++ Builtin.zeroCells (Value.int .u8 0).cells (grownCap w (n + 1) old e - (n + 1))) e)).ownsRow 0 e 1
        (.slice (some ⟨w.heap.size, 0, none⟩) (n + 1) (grownCap w (n + 1) old e)) (n + 1) (xs ++ [x]) ∧
      w.grownBy (w.drew.alloc (.cells (xs.toArray ++ [x].toArray ++ Builtin.zeroCells (Value.int .u8 0).cells (grownCap w (n + 1) old e - (n + 1))) e)) row := by
    intro old ho row
    have hge := grownCap_ge w (n + 1) old e
    have hcm : grownCap w (n + 1) old e ≤ maxLen := grownCap_le_maxLen w (n + 1) old e h63
    refine ⟨⟨hlen, .inr ⟨w.heap.size, _, _, rfl, Nat.zero_le _, heap_alloc_new w.drew _, hge, hcm, ?_, ?_⟩⟩, ⟨rfl, rfl, rfl, by simp, fun k hk _ => heap_alloc_old w.drew _ hk⟩⟩
    · have hz1 : (Value.int IntKind.u8 0).cells.size = 1 := rfl
      simp only [Array.size_append, List.size_toArray, size_zeroCells, hz1, hxl, List.length_cons, List.length_nil]
      omega
    · simp only [Array.toList_append, List.append_assoc]
      rw [← List.append_assoc, ← hlen]
      exact List.take_left
  rcases hown.2 with ⟨rfl, rfl⟩ | ⟨g, cap, cur, rfl, hbg, hg, hnc, hcm, hcs, htake⟩
  · have hxx : xs = [] := List.eq_nil_of_length_eq_zero hxl
    subst hxx
    have hr := run_append_nil (P := P) w t ty e i (.int .u8 0) ht hi hz a 1 c [x] hl hnews (by omega) (by omega) (by rw [hby]; omega)
    have hgr := grown 0 (by omega) (Value.ownBlock (.slice none 0 0))
    simp only [Nat.zero_add, List.nil_append, Array.empty_append] at hgr ⊢
    exact ⟨_, _, hr, hgr.1, hgr.2, .inr ⟨rfl, by simp⟩⟩
  · by_cases hroom : n + 1 ≤ cap
    · have hcs' : cur.size = cap := by simpa using hcs
      have hr := run_append_room (P := P) w t ty e i ht hi g n cap cur hg a 1 c [x] hl hnews (fun u hu => by simp at hu; subst hu; exact h1) hroom (by rw [hsize]; simp; omega)
      rw [hsize, Nat.mul_one] at hr
      refine ⟨_, _, hr, ⟨hlen, .inr ⟨g, cap, _, rfl, hbg, setRow_heap w g cur _ e _ hg, hroom, hcm, ?_, ?_⟩⟩, ⟨rfl, rfl, rfl, by simp, fun k _ hk => setRow_other w g k _ (fun e => hk (by simp [Value.ownBlock, e]))⟩, .inl rfl⟩
      · simp only [List.size_toArray, List.length_append, List.length_take, List.length_drop, Array.length_toList, List.length_cons, List.length_nil]
        omega
      · have ht' : cur.toList.take n = xs := by simpa using htake
        rw [ht', ← hlen]
        exact List.take_left
    · have holds : ∀ j u, xs[j]? = some u → w.cell? ((⟨g, 0, none⟩ : Addr).add j) = some u := hown.cells (g := g) rfl
      have hr := run_append_grow (P := P) w t ty e i (.int .u8 0) ht hi hz ⟨g, 0, none⟩ n cap xs (by rw [hsize]; simpa using hxl) holds a 1 c [x] hl hnews (by omega) (by omega) (by rw [hby]; exact growslice_fits (by omega) (by omega))
      have hgr := grown cap (by omega) (Value.ownBlock (.slice (some ⟨g, 0, none⟩) n cap))
      exact ⟨_, _, hr, hgr.1, hgr.2, .inr ⟨rfl, by simp⟩⟩

theorem wpList_append_bytes {ops : Array Oper} {rest : List Oper} {o : Oper} {a : Act} {Q : Exit → Act → World → Prop} (hgd : o.guard = none) (sl x : Operand) (t u : TypeId)
    (ho : o.op = .call { callee := .builtin .append, args := #[sl, x], argTypes := #[t, u] })
    (e : TypeId) (i : TypeInfo) (ht : P.underlying t = some (.slice e)) (hu : P.underlying u = some .string) (hi : P.info? e = some i) (hz : i.zero = some (.int .u8 0))
    (hsize : i.size = 1) (hby : i.bytes = 1) (v : Value) (n : Nat) (xs : List Value) (hs : a.eval sl = v) (hown : w.ownsRow 0 e 1 v n xs) (s : ByteArray) (hx : a.eval x = .string s) (hbytes : n + s.size ≤ 140737488355328)
    (h : ∀ v' w', w'.ownsRow 0 e 1 v' (n + s.size) (xs ++ Lib.strCells s) → w.grownBy w' v.ownBlock → (v'.ownBlock = v.ownBlock ∨ (v'.ownBlock = some w.heap.size ∧ w.heap.size < w'.heap.size)) → wpList P ops Q rest (a.put o.dst v') w') : wpList P ops Q (o :: rest) a w := by
  refine wpList_plain hgd fun K hK => ?_
  obtain ⟨v', w', hr, h2, h3, h4⟩ := run_append_bytes (P := P) w t u o.type e i ht hu hi hz hsize hby v n xs hown s hbytes
  unfold Oper.wp execOp
  simp only [ho, resolve, invoke, builtin, Sem.run_bind, Sem.run_pure, Result.andThen_ok, List.map_toArray, List.map_cons, List.map_nil, hs, hx, hr]
  exact hK _ _ (h v' w' h2 h3 h4)

theorem wpList_append_byte {ops : Array Oper} {rest : List Oper} {o : Oper} {a : Act} {Q : Exit → Act → World → Prop} (hgd : o.guard = none) (sl x : Operand) (t : TypeId)
    (ho : o.op = .call { callee := .builtin .append, args := #[sl, x], argTypes := #[t, t] })
    (e : TypeId) (i : TypeInfo) (ht : P.underlying t = some (.slice e)) (hi : P.info? e = some i) (hz : i.zero = some (.int .u8 0))
    (hsize : i.size = 1) (hby : i.bytes = 1) (v : Value) (n : Nat) (xs : List Value) (hs : a.eval sl = v) (hown : w.ownsRow 0 e 1 v n xs) (ad : Addr) (c : Nat) (y : Value) (hx : a.eval x = .slice (some ad) 1 c) (hy : w.cell? ad = some y) (h1 : y.oneCell' = true) (hbytes : n + 1 ≤ 140737488355328)
    (h : ∀ v' w', w'.ownsRow 0 e 1 v' (n + 1) (xs ++ [y]) → w.grownBy w' v.ownBlock → (v'.ownBlock = v.ownBlock ∨ (v'.ownBlock = some w.heap.size ∧ w.heap.size < w'.heap.size)) → wpList P ops Q rest (a.put o.dst v') w') : wpList P ops Q (o :: rest) a w := by
  refine wpList_plain hgd fun K hK => ?_
  obtain ⟨v', w', hr, h2, h3, h4⟩ := run_append_byte (P := P) w t o.type e i ht hi hz hsize hby v n xs hown ad c y hy h1 hbytes
  unfold Oper.wp execOp
  simp only [ho, resolve, invoke, builtin, Sem.run_bind, Sem.run_pure, Result.andThen_ok, List.map_toArray, List.map_cons, List.map_nil, hs, hx, hr]
  exact hK _ _ (h v' w' h2 h3 h4)
end

/-- what a method that writes leaves of a builder -/
def BPost (T E : TypeId) (w : World) (b : Nat) (go : Option Nat) (s : ByteArray) (w' : World) : Prop :=
  ∃ v', w'.heap[b]? = some (.cells #[.pointer (some ⟨b, 0, none⟩), v'] T (0, 0)) ∧ w'.ownsRow 0 E 1 v' s.size (Lib.strCells s) ∧ KeepW (fun b' => b' = b ∨ go = some b') w w' ∧
    ∀ g, v'.ownBlock = some g → g ≠ b ∧ (go = some g ∨ (w.heap.size ≤ g ∧ g < w'.heap.size))

/-- a method that writes, as a contract -/
theorem CtM.write {P : Program} {f : Nat} {T E : TypeId} {s s' : ByteArray} {g : AG} {res : RS} {arg v : Value} (hres : ∀ M w', ResRD M w' res v)
    (hg : ∀ M w u, GR M w u g → u = arg)
    (h : ∀ (b : Nat) (p vb : Value) (w : World), (p = .pointer none ∨ p = .pointer (some ⟨b, 0, none⟩)) → w.heap[b]? = some (.cells #[p, vb] T (0, 0)) → w.ownsRow 0 E 1 vb s.size (Lib.strCells s) → vb.ownBlock ≠ some b →
      Calls P f #[.pointer (some ⟨b, 0, none⟩), arg] w fun e w' => e = .returned v ∧ BPost T E w b vb.ownBlock s' w') :
    CtM P f [.pt (.bld T E s), .g g] (.bld T E s') res := by
  refine ⟨fun M w vs b go hM hlt hglt hl hargs => ?_⟩
  match vs, hl with
  | [x, y], _ =>
    obtain ⟨rfl, hne, p, vb, h1, h2, h3, h4⟩ := hargs 0 _ x rfl rfl
    obtain rfl := hg _ _ _ (hargs 1 _ y rfl rfl)
    subst h4
    refine (h b p vb w h1 h2 h3 hne).mono ?_
    rintro e w' ⟨rfl, v', q1, q2, q3, q4⟩
    exact ⟨v, rfl, v'.ownBlock, q3, fun g hg => (q4 g hg).2, hres _ _, fun c => (q4 b c).1 rfl, _, v', .inr rfl, q1, q2, rfl⟩

/-- .. that hands its bytes back -/
theorem CtM.bytes {P : Program} {f : Nat} {T E : TypeId} {s : ByteArray}
    (h : ∀ (b : Nat) (p vb : Value) (w : World), w.heap[b]? = some (.cells #[p, vb] T (0, 0)) → w.ownsRow 0 E 1 vb s.size (Lib.strCells s) →
      Calls P f #[.pointer (some ⟨b, 0, none⟩)] w fun e w' => e = .returned (.string s) ∧ KeepW (fun b' => vb.ownBlock = some b') w w') :
    CtM P f [.pt (.bld T E s)] .gone (.one (.d (.v (.string s)))) := by
  refine ⟨fun M w vs b go hM hlt hglt hl hargs => ?_⟩
  match vs, hl with
  | [x], _ =>
    obtain ⟨rfl, hne, p, vb, h1, h2, h3, h4⟩ := hargs 0 _ x rfl rfl
    subst h4
    refine (h b p vb w h2 h3).mono ?_
    rintro e w' ⟨rfl, q⟩
    exact ⟨_, rfl, vb.ownBlock, q.more fun b' c => .inr c, fun g hg => .inl hg, RD.v _ rfl, trivial⟩

theorem bpost_of {T E : TypeId} {w wA w2 : World} {b n : Nat} {v v' : Value} {s : ByteArray} {xs : List Value} (hbk : wA.heap[b]? = some (.cells #[.pointer (some ⟨b, 0, none⟩), v] T (0, 0))) (hne : v.ownBlock ≠ some b)
    (hk : KeepW (fun b' => b' = b ∨ v.ownBlock = some b') w wA) (hs : w.heap.size ≤ wA.heap.size) (hlt : b < wA.heap.size) (hown : w2.ownsRow 0 E 1 v' n xs) (hn : s.size = n) (hx : xs = Lib.strCells s) (hgrow : wA.grownBy w2 v.ownBlock)
    (hblk : v'.ownBlock = v.ownBlock ∨ (v'.ownBlock = some wA.heap.size ∧ wA.heap.size < w2.heap.size)) (hTe : T ≠ E) : BPost T E w b v.ownBlock s (w2.setCell ⟨b, 1, none⟩ v') := by
  subst hn hx
  have hb2 : w2.heap[b]? = some (.cells #[.pointer (some ⟨b, 0, none⟩), v] T (0, 0)) := by rw [hgrow.block b hlt (fun e => hne e.symm)]; exact hbk
  have hne' : v'.ownBlock ≠ some b := Lib.ownBlock_ne hown hb2 hTe
  refine ⟨v', by simp [World.setCell, Array.getElem?_modify, hb2], ownsRow_of_block hown fun g hg => Below.heap_setCell _ _ _ _ (fun e => hne' (by rw [hg, e])), (hk.trans (.grown hgrow fun g hg => .inr hg)).trans (.setCell _ _ _ (.inl rfl)), fun g hg => ⟨fun c => hne' (by rw [hg, c]), ?_⟩⟩
  rcases hblk with h | ⟨h1, h2⟩
  · exact .inl (h.symm.trans hg)
  · rw [h1] at hg; cases hg
    exact .inr ⟨hs, by simpa [World.setCell] using h2⟩
theorem keepW_freeze (w : World) (g n : Nat) {v : Option Addr} {l c : Nat} (h : v = some ⟨g, 0, none⟩ := by rfl) : KeepW (fun b' => (Value.slice v l c).ownBlock = some b') w (w.drew.freeze ⟨g, 0, none⟩ n) := by
  subst h
  unfold World.freeze
  by_cases c : n = 0
  · rw [if_pos c]; exact .below (Below.drew (Below.refl _ _))
  · rw [if_neg c]
    refine ⟨rfl, rfl, rfl, by simp, fun k _ hK => ?_⟩
    have hk : g ≠ k := fun e => hK (by rw [← e]; rfl)
    simp only [Array.getElem?_modify]
    rw [if_neg hk]; rfl
end Go.Ab

/- The abstract machine: a new builder; more operators; what a region does with several blocks at once. Conditions: none but those that stand in each law. -/
namespace Go.Ab
open Go Go.RowKit

section
variable {P : Program} {nt : Nat} {C : Cx P nt} {dst : Nat} {ty : TypeId} {pos : String} {af : Array Edge} {gd : Option (Nat × Bool)} {x y : Operand} {R1 R2 : List (Nat × SV)} {T T' : TypeId} {k : IntKind} {m n : Int}
theorem op_andNot (hx : Ev x (bI k m) R1) (hy : Ev y (bI k n) R2) (hd : Nat.blt dst nt = true) : OpL C (Oo dst (.binOp .andNot T x y T') ty pos af gd) (R1 ++ R2) [] [(dst, .one (bI k (k.wrap (BitVec.ofInt k.bits m &&& ~~~BitVec.ofInt k.bits n).toNat)))] [] :=
  op_bin hx hy hd rfl (fun h => (by cases h)) fun w => by simp [binOp, Op.intBits]
theorem op_xor (hx : Ev x (bI k m) R1) (hy : Ev y (bI k n) R2) (hd : Nat.blt dst nt = true) : OpL C (Oo dst (.binOp .xor T x y T') ty pos af gd) (R1 ++ R2) [] [(dst, .one (bI k (k.wrap (BitVec.ofInt k.bits m ^^^ BitVec.ofInt k.bits n).toNat)))] [] :=
  op_bin hx hy hd rfl (fun h => (by cases h)) fun w => by simp [binOp, Op.intBits]
end

section
variable {P : Program} {nt : Nat} {C : Cx P nt} {dst : Nat} {ty : TypeId} {pos : String} {af : Array Edge} {gd : Option (Nat × Bool)}
/-- a new strings.Builder -/
theorem op_allocB {T E k kk bytes : Nat} (hI : Info P T (.agg #[.pointer none, .slice none 0 0]) 2 bytes) (hne : Nat.beq k kk = false) (hk1 : Nat.blt 0 kk = true) (hd : Nat.blt dst nt = true) (hk0 : Nat.blt 0 k = true := by rfl) :
    OpL C (Oo dst (.alloc T) ty pos af gd) [] [(k, none), (kk, none)] [(dst, .one (.ptr k 0))] [(k, some (.bld T E kk ByteArray.empty)), (kk, some (.hid true k))] := by
  refine ⟨fun sl hp hs hh a w K Q ⟨β, r⟩ hK => ?_⟩
  have hne : k ≠ kk := fun c => by subst c; simp at hne
  unfold Oper.wp
  have : (execOp a.eval (Oo dst (.alloc T) ty pos af gd)).run P w = .ok (.value (.pointer (some ⟨w.heap.size, 0, none⟩))) (w.alloc (.cells #[.pointer none, .slice none 0 0] T)) := by
    simp [execOp, Instr.alloc, hI.zero, newVar, newRow, Value.cells]
  rw [this]
  have h1 := (r.new (e := .hid true k) (bo := none) hh.2.1 hk1 (Below.refl _ w) (fun b hb => by cases hb) fun _ _ => trivial).1
  have h2 := (h1.new (k := k) (e := .bld T E kk ByteArray.empty) (bo := some w.heap.size) (by rw [hget_cons, if_neg (Ne.symm hne)]; exact hh.1) hk0 (below_alloc w (.cells #[.pointer none, .slice none 0 0] T)) (fun b hb => by cases hb; exact ⟨rfl, by simp⟩) fun _ _ =>
    ⟨by rw [hget_cons, if_neg hne, hget_cons, if_pos rfl], w.heap.size, .pointer none, .slice none 0 0, by simp [upd], .inl rfl, heap_alloc_new w _, World.ownsRow_nil _ 0 E 1, by simp [upd, Ne.symm hne, Value.ownBlock]⟩).1
  refine hK _ _ ⟨_, h2.put (sv := .one (.ptr k 0)) (Below.refl _ _) (by simpa using hd) ⟨⟨_, by rw [hget_cons, if_pos rfl], rfl⟩, w.heap.size, by simp [upd], rfl⟩⟩
end

section
variable {P : Program} {nt : Nat} {C : Cx P nt} {Q0 : Exit → Act → World → Prop} {k : List KI}
theorem G.opM {ops : Array Oper} {rest : List Oper} {o : Oper} {sl : SL} {hp : HL} {dst : Nat} {sv : SV} {Rs : List (Nat × SV)} {Rh Wh : List (Nat × Option HE)}
    (h : OpL C o Rs Rh [(dst, sv)] Wh) (hg : o.guard = none) (hs : HasS sl Rs) (hh : HasH hp Rh) (hk : G C Q0 (.l ops rest :: k) ⟨(dst, sv) :: sl, Wh ++ hp⟩) : G C Q0 (.l ops (o :: rest) :: k) ⟨sl, hp⟩ := G.op h hg hs hh rfl rfl hk
end
end Go.Ab

/- The abstract machine: a new builder that is given room first. Conditions: none but those that stand in each law. -/
namespace Go.Ab
open Go Go.RowKit

theorem grown_new {T E : TypeId} {b : Nat} {w : World} {cs : Array Value} (hbk : w.heap[b]? = some (.cells #[.pointer (some ⟨b, 0, none⟩), .slice none 0 0] T (0, 0))) (hm : cs.size ≤ maxLen) (_hTe : T ≠ E) :
    BPost T E w b none ByteArray.empty ((w.alloc (.cells cs E)).setCell ⟨b, 1, none⟩ (.slice (some ⟨w.heap.size, 0, none⟩) 0 cs.size)).drew.drew.drew := by
  have hlt : b < w.heap.size := (Array.getElem?_eq_some_iff.1 hbk).1
  have hb2 : (w.alloc (.cells cs E)).heap[b]? = some (.cells #[.pointer (some ⟨b, 0, none⟩), .slice none 0 0] T (0, 0)) := (heap_alloc_old w _ hlt).trans hbk
  have hown : (w.alloc (.cells cs E)).ownsRow 0 E 1 (.slice (some ⟨w.heap.size, 0, none⟩) 0 cs.size) 0 [] := ⟨rfl, .inr ⟨w.heap.size, cs.size, cs, rfl, Nat.zero_le _, heap_alloc_new w _, Nat.zero_le _, hm, by simp, by simp⟩⟩
  have hk : KeepW (fun b' => b' = b ∨ none = some b') w ((w.alloc (.cells cs E)).setCell ⟨b, 1, none⟩ (.slice (some ⟨w.heap.size, 0, none⟩) 0 cs.size)) := (KeepW.below (below_alloc _ _)).trans (.setCell _ _ _ (.inl rfl))
  have hne : w.heap.size ≠ b := by omega
  have hown2 : ((w.alloc (.cells cs E)).setCell ⟨b, 1, none⟩ (.slice (some ⟨w.heap.size, 0, none⟩) 0 cs.size)).ownsRow 0 E 1 (.slice (some ⟨w.heap.size, 0, none⟩) 0 cs.size) 0 [] :=
    ownsRow_of_block hown fun g hg => Below.heap_setCell _ _ _ _ (fun e => by simp [Value.ownBlock] at hg; subst hg; exact hne e)
  refine ⟨.slice (some ⟨w.heap.size, 0, none⟩) 0 cs.size, ?_, ownsRow_of_block hown2 fun _ _ => rfl, hk.trans (.below (Below.drew (Below.drew (Below.drew (Below.refl _ _))))), fun g hg => ?_⟩
  · show ((w.alloc (.cells cs E)).setCell ⟨b, 1, none⟩ (.slice (some ⟨w.heap.size, 0, none⟩) 0 cs.size)).heap[b]? = _
    simp [World.setCell, Array.getElem?_modify, hb2]
  · simp [Value.ownBlock] at hg
    subst hg
    refine ⟨hne, .inr ⟨Nat.le_refl _, ?_⟩⟩
    simp [World.setCell]

theorem bpost_fresh {T E : TypeId} {b : Nat} {w : World} (hbk : w.heap[b]? = some (.cells #[.pointer none, .slice none 0 0] T (0, 0))) : BPost T E w b none ByteArray.empty (w.setCell ⟨b, 0, none⟩ (.pointer (some ⟨b, 0, none⟩))).drew :=
  ⟨.slice none 0 0, by show (w.setCell ⟨b, 0, none⟩ (.pointer (some ⟨b, 0, none⟩))).heap[b]? = _; simp [World.setCell, Array.getElem?_modify, hbk], World.ownsRow_nil _ 0 E 1, (KeepW.setCell _ _ _ (.inl rfl)).trans (.below (Below.drew (Below.refl _ _))), fun g hg => by cases hg⟩
theorem bpost_after {T E : TypeId} {b : Nat} {w w' : World} (_hbk : w.heap[b]? = some (.cells #[.pointer none, .slice none 0 0] T (0, 0))) (h : BPost T E (w.setCell ⟨b, 0, none⟩ (.pointer (some ⟨b, 0, none⟩))).drew b none ByteArray.empty w') : BPost T E w b none ByteArray.empty w' := by
  obtain ⟨v', h1, h2, h3, h4⟩ := h
  refine ⟨v', h1, h2, ((KeepW.setCell _ _ _ (.inl rfl)).trans (.below (Below.drew (Below.refl _ _)))).trans h3, fun g hg => ⟨(h4 g hg).1, (h4 g hg).2.imp id fun c => ⟨?_, c.2⟩⟩⟩
  have := c.1
  simpa [World.setCell] using this

section
variable {P : Program} {nt : Nat} {C : Cx P nt} {dst : Nat} {ty : TypeId} {pos : String} {af : Array Edge} {gd : Option (Nat × Bool)} {x y : Operand} {R1 R2 : List (Nat × SV)}
/-- a new builder is given room -/
theorem op_grow {f k kk T E : Nat} {n : Int} {tys : Array TypeId} (hc : CallF P f) (hn : 0 ≤ n ∧ n ≤ 140737488355328)
    (hG : ∀ (m : Nat), m ≤ 140737488355328 → ∀ (b : Nat) (w : World), w.heap[b]? = some (.cells #[.pointer none, .slice none 0 0] T (0, 0)) → Calls P f #[.pointer (some ⟨b, 0, none⟩), .int .i64 m] w fun e w' => e = .returned (.tuple #[]) ∧ BPost T E w b none ByteArray.empty w')
    (hne : Nat.beq k kk = false) (hk1 : Nat.blt 0 kk = true) (hx : Ev x (.ptr k 0) R1) (hy : Ev y (bI .i64 n) R2) (hd : Nat.blt dst nt = true) :
    OpL C (Oo dst (cCall f [x, y] tys) ty pos af gd) (R1 ++ R2) [(k, some (.blk T [.g (.d (.v (.pointer none))), .g (.d (.v (.slice none 0 0)))])), (kk, none)] [(dst, .tup [])] [(k, some (.bld T E kk ByteArray.empty)), (kk, some (.hid true k))] := by
  refine ⟨fun sl hp hs hh a w K Q ⟨β, r⟩ hK => ?_⟩
  have hne : k ≠ kk := fun c => by subst c; simp at hne
  obtain ⟨_, b, hb, hu⟩ := hx.ok hs.app.1 r
  have hv := BR.v_inv (hy.ok hs.app.2 r)
  obtain ⟨m, rfl⟩ : ∃ m : Nat, n = m := ⟨n.toNat, by omega⟩
  obtain ⟨b', arr, hb', hheap, hsz, hcell⟩ := r.hp k _ hh.1
  rw [hb] at hb'; cases hb'
  have harr : arr = #[.pointer none, .slice none 0 0] := by
    obtain ⟨u0, q1, _, q2⟩ := hcell 0 _ rfl
    obtain ⟨u1, q3, _, q4⟩ := hcell 1 _ rfl
    have e0 : u0 = .pointer none := RD.v_inv q2
    have e1 : u1 = .slice none 0 0 := RD.v_inv q4
    subst e0 e1
    refine Array.ext' (List.ext_getElem? fun j => ?_)
    have hsz : arr.size = 2 := hsz
    match j with
    | 0 => simpa using q1
    | 1 => simpa using q3
    | j + 2 => rw [List.getElem?_eq_none (by simp; omega)]; rfl
  subst harr
  -- seen as a builder
  have h1 := (r.new (e := .hid true k) (bo := none) hh.2.1 hk1 (Below.refl _ w) (fun b hb => by cases hb) fun _ _ => trivial).1
  have hk' : hget ((kk, some (.hid true k)) :: hp) k = some (.blk T [.g (.d (.v (.pointer none))), .g (.d (.v (.slice none 0 0)))]) := by rw [hget_cons, if_neg (Ne.symm hne)]; exact hh.1
  have hbk : upd β kk none k = some b := by simp [upd, hne, hb]
  have h2 := (h1.chg (w1 := w) (e := .bld T E kk ByteArray.empty) (bo := some b) hk' rfl rfl rfl (Nat.le_refl _) (fun _ _ _ => rfl) (fun _ _ _ _ h _ => h) (.inl ⟨hbk.symm, fun _ _ => trivial⟩) ⟨rfl, fun _ => hbk.symm⟩
    (fun es0 u hu => by obtain ⟨_, _, _, _, g1, _⟩ := hu; rw [hk'] at g1; cases g1)
    (fun _ _ => ⟨by rw [hget_cons, if_neg hne, hget_cons, if_pos rfl], b, .pointer none, .slice none 0 0, by simp [upd], .inl rfl, hheap, World.ownsRow_nil _ 0 E 1, by simp [upd, Ne.symm hne, Value.ownBlock]⟩)).1
  unfold Oper.wp
  rw [run_call hc]
  have hargs : (List.map a.eval [x, y]).toArray = #[.pointer (some ⟨b, 0, none⟩), .int .i64 (m : Int)] := by simp [hu, hv]
  rw [hargs]
  refine (hG m (by omega) b w hheap).mono ?_
  rintro e w' ⟨rfl, v', q1, q2, q3, q4⟩
  have hkk2 : (upd (upd β kk none) k (some b)) kk = none := by simp [upd, Ne.symm hne]
  obtain ⟨h3, _⟩ := h2.chgB (k := k) (kk := kk) (T := T) (E := E) (b := b) (e := .bld T E kk ByteArray.empty) (go := v'.ownBlock) (w1 := w') (by rw [hget_cons, if_pos rfl]) (by simp [upd]) q3.os q3.tape q3.output q3.size
    (fun i hi h5 h6 => q3.block i hi fun c => c.elim h5 fun c => by cases c) (fun g hg => .inr ((q4 g hg).2.resolve_left fun c => by cases c)) rfl
    ⟨by rw [hget_cons, if_neg hne, hget_cons, if_pos rfl], b, _, v', by simp [upd, hne], .inr rfl, q1, q2, by simp [upd]⟩
  have h4 := h3.hpExt (hp' := [(k, some (HE.bld T E kk ByteArray.empty)), (kk, some (.hid true k))] ++ hp) (fun k' => by
    simp only [List.cons_append, List.nil_append, hget_cons]
    by_cases c1 : k = k'
    · simp [c1]
    · by_cases c2 : kk = k' <;> simp [c1, c2])
  exact hK _ _ ⟨_, h4.put (sv := .tup []) (Below.refl _ _) (by simpa using hd) ⟨#[], rfl, rfl, fun i b h => by simp at h⟩⟩
end
end Go.Ab
