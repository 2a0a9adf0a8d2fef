import Derived.Test.YtdngcojjipaajaaAbA
import Derived.ChangeArms
import Derived.ChangeSame
import Derived.Carry
import Derived.Handed
import Derived.OpenShut
import Derived.ProofKit
import Derived.JoinedCond
import Derived.Laws.StructEq
import Derived.Shelf.Spec.SlicesInsertGrow
import Derived.MapKept
/- The abstract machine: rows that are the call's own alone: elements read and stored in place, cleared, cut off; a slice held against nil. Conditions: none but those that stand in each law. -/
namespace Go.Ab
open Go Go.RowKit

section
variable {P : Program} {nt : Nat} {C : Cx P nt} {Q0 : Exit → Act → World → Prop} {k : List KI} {dst : Nat} {ty : TypeId} {pos : String} {af : Array Edge} {gd : Option (Nat × Bool)} {x y z : Operand} {R R1 R2 R3 : List (Nat × SV)}

/-- any content moves -/
theorem op_moveS {t : Nat} {sv : SV} (hd : Nat.blt dst nt = true) : OpL C (Oo dst (.move (.tmp t)) ty pos af gd) [(t, sv)] [] [(dst, sv)] [] :=
  opl_pure hd rfl fun sl hp β a w hs _ r => ⟨a.eval (.tmp t), by simp [execOp], r.sl t _ hs.1⟩
theorem op_assignS {t : Nat} {sv : SV} (hd : Nat.blt dst nt = true) : OpL C (Oo dst (.assign (.tmp t)) ty pos af gd) [(t, sv)] [] [(dst, sv)] [] :=
  opl_pure hd rfl fun sl hp β a w hs _ r => ⟨a.eval (.tmp t), by simp [execOp], r.sl t _ hs.1⟩

/-- a slice held against nil: whatever comes out, it is empty if the answer is yes -/
theorem G.opNil {ops : Array Oper} {rest : List Oper} {sl : SL} {hp : HL} {T T' E size : Nat} {es : List (List DV)} (hT : P.underlying T = some (.slice E)) (hx : Ev x (.g (.d (.sl size es))) R) (hd : Nat.blt dst nt = true) (hs : HasS sl R)
    (hk : ∀ b : Bool, (b = true → es = []) → G C Q0 (.l ops rest :: k) ⟨(dst, .one (bB b)) :: sl, hp⟩) : G C Q0 (.l ops (Oo dst (.binOp .eql T x (.const (.slice none 0 0)) T') ty pos af none :: rest) :: k) ⟨sl, hp⟩ := ⟨fun a w ⟨β, r⟩ => by
  change wpList P ops (Qof P Q0 k) _ a w
  refine wpList_plain rfl fun K hK => ?_
  have h1 := hx.ok hs r
  have hu : ∃ (b : Bool), (b = true → es = []) ∧ (binOp .eql T (a.eval x) (.slice none 0 0)).run P w = .ok (.bool b) w := by
    generalize hxx : a.eval x = u at h1
    cases h1 with
    | sl ad cap _ _ vals b o hc hm ha hs' hv hr =>
      refine ⟨ad.isNone, fun h => ?_, ?_⟩
      · refine Classical.byContradiction fun c => ?_
        rw [ha c] at h; cases h
      · have e : Op.equal T (.slice ad es.length cap) (.slice none 0 0) = Op.equalIn (9999 + 1) T (.slice ad es.length cap) (.slice none 0 0) := rfl
        cases ad <;> (simp only [binOp]; rw [e, Op.equalIn]; simp [Sem.run_bind, run_underlying hT])
  obtain ⟨b, hb, hrun⟩ := hu
  have hg := run_eqGuard_plain (P := P) (op := .eql) (t := T) (x := x) (y := .const (.slice none 0 0)) (v := .slice none 0 0) (w := w) (u := a.eval x) (RD.one h1) (fun c => by rw [c] at h1; cases h1)
  unfold Oper.wp
  have : (execOp a.eval (Oo dst (.binOp .eql T x (.const (.slice none 0 0)) T') ty pos af none)).run P w = .ok (.value (.bool b)) w := by
    simp only [execOp, Sem.run_bind, Act.eval] at hg hrun ⊢
    rw [hg]
    simp only [Result.andThen_ok, hrun, Sem.run_pure]
  rw [this]
  exact hK _ _ ((hk b hb).go _ _ ⟨β, r.put (sv := .one (bB b)) (Below.refl _ _) (by simpa using hd) (RD.v _ rfl)⟩)⟩

/-- '[]T{}', to be appended to -/
theorem op_buildRow {T E size bytes kk : Nat} {zz : Value} (hT : P.underlying T = some (.slice E)) (hI : Info P E zz size bytes) (hz : Nat.blt 0 size = true) (hd : Nat.blt dst nt = true) (hk0 : Nat.blt 0 kk = true := by rfl) :
    OpL C (Oo dst (.buildSlice T 0 #[]) ty pos af gd) [] [(kk, none)] [(dst, .one (.own kk []))] [(kk, some (.row E size [] true))] := by
  refine ⟨fun sl hp hs hh a w K Q ⟨β, r⟩ hK => ?_⟩
  unfold Oper.wp
  have : (execOp a.eval (Oo dst (.buildSlice T 0 #[]) ty pos af gd)).run P w = .ok (.value (.slice (some ⟨w.heap.size, 0, none⟩) 0 0)) (w.alloc (.cells #[] E)) := by
    simp [execOp, Instr.buildSlice, run_underlying hT, hI.sizeOf, Instr.fill, newRow, show (Array.range 0) = #[] from rfl]
  rw [this]
  have h := (r.new (e := .row E size [] true) (bo := some w.heap.size) hh.1 hk0 (below_alloc w (.cells #[] E)) (fun b hb => by cases hb; exact ⟨rfl, by simp⟩) fun _ _ =>
    ⟨by simpa using hz, fun cs h => by simp at h, .inr ⟨w.heap.size, #[], by simp [upd], heap_alloc_new w _, by simp, fun i cs j d h => by simp at h⟩⟩).1
  exact hK _ _ ⟨_, h.put (Below.refl _ _) (by simpa using hd) ⟨E, size, [], true, by rw [hget_cons, if_pos rfl], Nat.le_refl _, fun _ => .inr ⟨w.heap.size, 0, #[], by simp [upd], rfl, Nat.le_refl _, Nat.zero_le _, heap_alloc_new w _, by simp⟩⟩⟩

/-- what a row's slot says, with the block -/
theorem own_inv {sl : SL} {hp : HL} {β : Nat → Option Nat} {a : Act} {w : World} (r : RelB C ⟨sl, hp⟩ β a w) {kk T size : Nat} {es : List (List DV)} {ex : Bool} {u : Value} (hk : hget hp kk = some (.row T size es ex)) (hu : BR C hp β w (.own kk es) u) (hne : es ≠ []) :
    0 < size ∧ (∀ cs, cs ∈ es → cs.length = size) ∧ ∃ b cap cur, β kk = some b ∧ u = .slice (some ⟨b, 0, none⟩) es.length cap ∧ es.length ≤ cap ∧ cap ≤ maxLen ∧ w.heap[b]? = some (.cells cur T (0, 0)) ∧ cur.size = cap * size ∧ es.length * size ≤ cur.size ∧
      ∀ (i : Nat) (cs : List DV) (j : Nat) (d : DV), es[i]? = some cs → cs[j]? = some d → ∃ v, cur[i * size + j]? = some v ∧ RD (Mu C hp β) w v d := by
  obtain ⟨_, _, _, _, h1, _, h2⟩ := hu
  rw [hk] at h1
  cases h1
  obtain ⟨hz, hs, hr⟩ := r.hp kk _ hk
  rcases h2 rfl with ⟨_, h3, _⟩ | ⟨b, cap, cur, hb, hu', hle, hcm, hheap, hcs⟩
  · exact absurd h3 hne
  · rcases hr with ⟨q1, q2⟩ | ⟨b', cur', q1, q2, q3, q4⟩
    · exact absurd q2 hne
    · rw [hb] at q1; cases q1
      rw [hheap] at q2; cases q2
      exact ⟨hz, hs, b, cap, cur, hb, hu', hle, hcm, hheap, hcs, q3, q4⟩

theorem run_indexRow {T E zz size bytes : _} {b len cap : Nat} {kd : IntKind} {i : Int} {w : World} (hT : P.underlying T = some (.slice E)) (hI : Info P E zz size bytes) (h0 : 0 ≤ i) (hi : i < (len : Int)) :
    (Instr.indexAt T (.slice (some ⟨b, 0, none⟩) len cap) (.int kd i)).run P w = .ok (.pointer (some ⟨b, i.toNat * size, none⟩)) w := by
  have hb : 0 ≤ i ∧ i < (len : Int) := ⟨h0, hi⟩
  simp only [Instr.indexAt, asIntOf, Sem.run_bind, Sem.run_pure, Result.andThen_ok, run_underlying hT, Bool.and_false, hb, and_self, if_true, hI.sizeOf, Addr.add_lit, Bool.false_eq_true, if_false, Nat.zero_add]

/-- an element of a row is read -/
theorem G.loadRow {ops : Array Oper} {rest : List Oper} {sl : SL} {hp : HL} {T E size bytes kk d1 d2 T' : Nat} {zz : Value} {es : List (List DV)} {cs : List DV} {kd : IntKind} {i : Int} {ex : Bool} {td : TypeDesc} {ty1 ty2 : TypeId} {pos1 pos2 : String} {af1 af2 : Array Edge}
    (hT : P.underlying T = some (.slice E)) (hU : P.underlying E = some td) (hA : aggD td = true) (hI : Info P E zz size bytes) (h0 : 0 ≤ i) (hi : es[i.toNat]? = some cs)
    (hx : Ev x (.own kk es) R1) (hy : Ev y (bI kd i) R2) (hd1 : Nat.blt d1 nt = true) (hd2 : Nat.blt d2 nt = true) (hs : HasS sl (R1 ++ R2)) (hh : hget hp kk = some (.row T' size es ex))
    (hk : G C Q0 (.l ops rest :: k) ⟨(d2, .one (.g (.agg cs))) :: (d1, .dead) :: sl, hp⟩) :
    G C Q0 (.l ops (Oo d1 (.indexAddr T x y) ty1 pos1 af1 none :: Oo d2 (.load E (.tmp d1)) ty2 pos2 af2 none :: rest) :: k) ⟨sl, hp⟩ := ⟨fun a w ⟨β, r⟩ => by
  have hlt : i.toNat < es.length := (List.getElem?_eq_some_iff.1 hi).1
  have hne : es ≠ [] := fun c => by simp [c] at hlt
  obtain ⟨hz, hsz, b, cap, cur, hb, hu, hle, hcm, hheap, hcs, hcl, hel⟩ := own_inv r hh (hx.ok hs.app.1 r) hne
  have h2 := BR.v_inv (hy.ok hs.app.2 r)
  have hd1' : d1 < nt := by simpa using hd1
  have hcsl : cs.length = size := hsz cs (List.mem_of_getElem? hi)
  change wpList P ops (Qof P Q0 k) _ a w
  refine wpList_plain rfl fun K1 hK1 => ?_
  unfold Oper.wp
  have e1 : (execOp a.eval (Oo d1 (.indexAddr T x y) ty1 pos1 af1 none)).run P w = .ok (.value (.pointer (some ⟨b, i.toNat * size, none⟩))) w := by
    simp only [execOp, hu, h2, Sem.run_bind, run_indexRow hT hI h0 (show i < (es.length : Int) by omega), Result.andThen_ok, Sem.run_pure]
  rw [e1]
  refine hK1 _ _ ?_
  refine wpList_plain rfl fun K hK => ?_
  unfold Oper.wp
  have r1 : RelB C ⟨(d1, .dead) :: sl, hp⟩ β (a.put (some d1) (.pointer (some ⟨b, i.toNat * size, none⟩))) w := r.put (sv := .dead) (Below.refl _ _) hd1' trivial
  have e3 : (a.put (some d1) (.pointer (some ⟨b, i.toNat * size, none⟩))).eval (.tmp d1) = .pointer (some ⟨b, i.toNat * size, none⟩) := by
    simp only [Act.eval]; rw [getD_put, if_pos ⟨rfl, by rw [r.size]; exact hd1'⟩]
  have key2 : ∀ j, j < size → w.cell? ⟨b, i.toNat * size + j, none⟩ = some ((fun j => cur.getD (i.toNat * size + j) undef) j) := by
    intro j hj
    obtain ⟨u, h3, _⟩ := hel i.toNat cs j (cs[j]'(by omega)) hi (by simp [hcsl, hj])
    rw [cell_of_row w b _ cur T' _ hheap]
    simp [h3]
  have e2 := run_loadAgg (P := P) (b := b) (o := i.toNat * size) (w := w) hU hA hI _ key2
  have e4 : (execOp (a.put (some d1) (.pointer (some ⟨b, i.toNat * size, none⟩))).eval (Oo d2 (.load E (.tmp d1)) ty2 pos2 af2 none)).run P w = .ok (.value (.agg ((List.range size).map (fun j => cur.getD (i.toNat * size + j) undef)).toArray)) w := by
    simp only [execOp, e3, Sem.run_bind, e2, Result.andThen_ok, Sem.run_pure]
  rw [e4]
  refine hK _ _ (hk.go _ _ ⟨β, r1.put (sv := .one (.g (.agg cs))) (Below.refl _ _) (by simpa using hd2) ⟨_, rfl, by simp [hcsl], fun j d hj => ?_⟩⟩)
  obtain ⟨u, h3, h4⟩ := hel i.toNat cs j d hi hj
  have hl : j < size := by rw [← hcsl]; exact (List.getElem?_eq_some_iff.1 hj).1
  exact ⟨u, by simp [hl, h3], h4⟩⟩

theorem getElem?_set' {α : Type} (l : List α) (i j : Nat) (x : α) (h : i < l.length) : (l.set i x)[j]? = if i = j then some x else l[j]? := by
  rw [List.getElem?_set]
  by_cases c : i = j
  · subst c; simp [h]
  · simp [c]

/-- an element of a row of the call's own alone is stored -/
theorem G.storeRow {ops : Array Oper} {rest : List Oper} {sl : SL} {hp : HL} {T E size bytes kk d1 : Nat} {zz : Value} {es es' : List (List DV)} {ds : List DV} {kd : IntKind} {i : Int} {ty1 ty2 : TypeId} {pos1 pos2 : String} {af1 af2 : Array Edge}
    (hT : P.underlying T = some (.slice E)) (hI : Info P E zz size bytes) (hds : ds.length = size) (h0 : 0 ≤ i) (hi : i < (es.length : Int)) (he : es.set i.toNat ds = es')
    (hx : Ev x (.own kk es) R1) (hy : Ev y (bI kd i) R2) (hz : Ev z (.g (.agg ds)) R3) (hzd : z ≠ .tmp d1) (hd1 : Nat.blt d1 nt = true) (hs : HasS sl (R1 ++ (R2 ++ R3))) (hh : hget hp kk = some (.row E size es true))
    (hk : G C Q0 (.l ops rest :: k) ⟨(d1, .dead) :: sl, (kk, some (.row E size es' true)) :: hp⟩) :
    G C Q0 (.l ops (Oo d1 (.indexAddr T x y) ty1 pos1 af1 none :: ⟨none, .store E (.tmp d1) z, ty2, pos2, af2, none⟩ :: rest) :: k) ⟨sl, hp⟩ := ⟨fun a w ⟨β, r⟩ => by
  subst he
  have hne : es ≠ [] := fun c => by rw [c] at hi; simp at hi; omega
  obtain ⟨hsz0, hsz, b, cap, cur, hb, hu, hle, hcm, hheap, hcs, hcl, hel⟩ := own_inv r hh (hx.ok hs.app.1 r) hne
  have h2 := BR.v_inv (hy.ok hs.app.2.app.1 r)
  obtain ⟨us, hus, husl, huc⟩ := hz.ok hs.app.2.app.2 r
  have hd1' : d1 < nt := by simpa using hd1
  have hit : i.toNat < es.length := by omega
  have hfit : i.toNat * size + us.size ≤ cur.size := by
    have : (i.toNat + 1) * size ≤ es.length * size := Nat.mul_le_mul_right _ hit
    rw [Nat.add_mul] at this
    omega
  change wpList P ops (Qof P Q0 k) _ a w
  refine wpList_plain rfl fun K1 hK1 => ?_
  unfold Oper.wp
  have e1 : (execOp a.eval (Oo d1 (.indexAddr T x y) ty1 pos1 af1 none)).run P w = .ok (.value (.pointer (some ⟨b, i.toNat * size, none⟩))) w := by
    simp only [execOp, hu, h2, Sem.run_bind, run_indexRow hT hI h0 hi, Result.andThen_ok, Sem.run_pure]
  rw [e1]
  refine hK1 _ _ ?_
  refine wpList_plain rfl fun K hK => ?_
  unfold Oper.wp
  have r1 : RelB C ⟨(d1, .dead) :: sl, hp⟩ β (a.put (some d1) (.pointer (some ⟨b, i.toNat * size, none⟩))) w := r.put (sv := .dead) (Below.refl _ _) hd1' trivial
  have e3 : (a.put (some d1) (.pointer (some ⟨b, i.toNat * size, none⟩))).eval (.tmp d1) = .pointer (some ⟨b, i.toNat * size, none⟩) := by
    simp only [Act.eval]; rw [getD_put, if_pos ⟨rfl, by rw [r.size]; exact hd1'⟩]
  have e5 : (a.put (some d1) (.pointer (some ⟨b, i.toNat * size, none⟩))).eval z = .agg us := by
    rw [Act.eval_put (fun d hd => by cases hd; exact hzd)]; exact hus
  have hone : ∀ v, v ∈ us.toList → v.oneCell' = true := by
    intro v hv
    obtain ⟨j, hj, rfl⟩ := List.getElem_of_mem hv
    have hj' : j < ds.length := by rw [← husl]; simpa using hj
    obtain ⟨x', h3, h4⟩ := huc j ds[j] (by simp [hj'])
    have : us.toList[j] = x' := by
      have : us[j]? = some us.toList[j] := by simp
      rw [h3] at this; exact (Option.some.inj this).symm
    rw [this]; exact h4.one
  have hst := run_storeCells_at P b (i.toNat * size) E us.toList 0 cur w hheap (by simpa using hfit) hone
  simp only [Nat.add_zero] at hst
  generalize hw1 : w.setRow b (List.take (i.toNat * size) cur.toList ++ us.toList ++ List.drop (i.toNat * size + us.toList.length) cur.toList).toArray = w1 at hst
  have hnew : w1.heap[b]? = some (.cells (List.take (i.toNat * size) cur.toList ++ us.toList ++ List.drop (i.toNat * size + us.toList.length) cur.toList).toArray E) := by rw [← hw1]; exact setRow_heap w b cur _ E _ hheap
  have hoth : ∀ q, q ≠ b → w1.heap[q]? = w.heap[q]? := fun q hq => by rw [← hw1]; exact setRow_other w b q _ hq
  have hsize : w1.heap.size = w.heap.size := by rw [← hw1]; simp [World.setRow]
  have hcurL : cur.toList.length = cur.size := Array.length_toList
  have husL : us.toList.length = us.size := Array.length_toList
  have hcur : ∀ q : Nat, (List.take (i.toNat * size) cur.toList ++ us.toList ++ List.drop (i.toNat * size + us.toList.length) cur.toList).toArray[q]? = if i.toNat * size ≤ q ∧ q < i.toNat * size + size then us[q - i.toNat * size]? else cur[q]? := by
    intro q
    rw [List.getElem?_toArray, splice_get cur.toList (i.toNat * size) us.toList (by omega), husL, husl, hds]
    simp
  have hcurs : (List.take (i.toNat * size) cur.toList ++ us.toList ++ List.drop (i.toNat * size + us.toList.length) cur.toList).toArray.size = cur.size := by
    simp only [List.size_toArray, List.length_append, List.length_take, List.length_drop, hcurL, husL]
    omega
  have e4 : (execOp (a.put (some d1) (.pointer (some ⟨b, i.toNat * size, none⟩))).eval ⟨none, .store E (.tmp d1) z, ty2, pos2, af2, none⟩).run P w = .ok .skip w1 := by
    simp only [execOp, e3, e5, Instr.storeAt, Instr.sureAddr, storeVar, Value.cells, Sem.run_bind, Sem.run_pure, Result.andThen_ok, hI.sizeOf]
    rw [if_neg (by rw [husl, hds]; simp)]
    simp only [hst, Result.andThen_ok]
  rw [e4]
  refine hK _ _ (hk.go _ _ ⟨upd β kk (β kk), ?_⟩)
  refine (r1.chg (e := .row E size (es.set i.toNat ds) true) (bo := β kk) hh (by rw [← hw1]; rfl) (by rw [← hw1]; rfl) (by rw [← hw1]; rfl) (by omega) (fun q _ hq => hoth q (fun c => hq (by rw [c, hb]))) (fun _ o x _ _ hnm => absurd (.inl rfl) hnm)
    (.inl ⟨rfl, fun o ho => .inl rfl⟩) ⟨rfl, fun _ => rfl⟩ (fun es0 u h => ?_) (fun _ hRD => ?_)).1
  · obtain ⟨_, _, _, _, h5, h6, h7⟩ := h
    rw [hh] at h5; cases h5
    refine ⟨E, size, es.set i.toNat ds, true, by rw [hget_cons, if_pos rfl], by simpa using h6, fun hq => ?_⟩
    rw [List.length_set] at hq
    rcases h7 hq with ⟨_, h8, _⟩ | ⟨b', cap', cur', h8, h9, h10, h11, h12, h13⟩
    · exact absurd h8 hne
    · rw [hb] at h8; cases h8
      rw [hheap] at h12; cases h12
      exact .inr ⟨b, cap', _, by simp [upd, hb], by rw [List.length_set]; exact h9, by rw [List.length_set]; exact h10, h11, hnew, by rw [hcurs]; exact h13⟩
  · refine ⟨hsz0, fun cs hcs' => ?_, .inr ⟨b, _, by simp [upd, hb], hnew, by rw [List.length_set, hcurs]; exact hcl, fun i' cs j d hi' hj => ?_⟩⟩
    · rcases List.mem_or_eq_of_mem_set hcs' with h5 | h5
      · exact hsz cs h5
      · rw [h5]; exact hds
    · rw [getElem?_set' es i.toNat i' ds hit] at hi'
      rw [hcur]
      by_cases c : i.toNat = i'
      · rw [if_pos c] at hi'
        cases hi'
        have hj' : j < size := by rw [← hds]; exact (List.getElem?_eq_some_iff.1 hj).1
        obtain ⟨x', h3, h4⟩ := huc j d hj
        rw [← c, if_pos (by omega)]
        exact ⟨x', by rw [show i.toNat * size + j - i.toNat * size = j by omega]; exact h3, hRD _ _ h4⟩
      · rw [if_neg c] at hi'
        obtain ⟨v, h3, h4⟩ := hel i' cs j d hi' hj
        have hj' : j < size := by rw [← hsz cs (List.mem_of_getElem? hi')]; exact (List.getElem?_eq_some_iff.1 hj).1
        have : ¬ (i.toNat * size ≤ i' * size + j ∧ i' * size + j < i.toNat * size + size) := by
          rintro ⟨q1, q2⟩
          rcases Nat.lt_or_gt_of_ne c with c' | c'
          · have : (i.toNat + 1) * size ≤ i' * size := Nat.mul_le_mul_right _ c'
            rw [Nat.add_mul] at this; omega
          · have : (i' + 1) * size ≤ i.toNat * size := Nat.mul_le_mul_right _ c'
            rw [Nat.add_mul] at this; omega
        rw [if_neg this]
        exact ⟨v, h3, hRD _ _ h4⟩⟩
end
end Go.Ab

/- The abstract machine: a row of the call's own handed over to a call that keeps it, and what comes back; rows cut and cleared. Conditions: none but those that stand in each law. -/
namespace Go.Ab
open Go Go.RowKit

def noId (k : Nat) (sl : SL) (hp : HL) : Bool := sl.all (fun p => p.2.ids.all (fun i => !Nat.beq i k)) && hp.all (fun p => match p.2 with | some e => e.ids.all (fun i => !Nat.beq i k) | none => true)

theorem noId_ne {k i : Nat} (h : (!Nat.beq i k) = true) : i ≠ k := fun c => by subst c; simp at h

section
variable {P : Program} {nt : Nat} {C : Cx P nt}

/-- fewer slots -/
theorem RelB.slots {sl sl' : SL} {hp : HL} {β : Nat → Option Nat} {a : Act} {w : World} (r : RelB C ⟨sl, hp⟩ β a w) (hs : HasS sl sl') : RelB C ⟨sl', hp⟩ β a w :=
  ⟨r.keep, r.low, r.inj, r.own, r.hp, fun t sv h => r.sl t sv (hs.mem (sget_mem h)), r.size, r.df, r.fx⟩

/-- a row that no slot and no cell names is another one now -/
theorem RelB.swap {sl : SL} {hp : HL} {β : Nat → Option Nat} {a : Act} {w w1 : World} (r : RelB C ⟨sl, hp⟩ β a w) {k : Nat} {e0 e : HE} {bo : Option Nat}
    (hk : hget hp k = some e0) (hrow0 : e0.isRow = true) (hno : noId k sl hp = true)
    (hos : w1.os = w.os) (htape : w1.tape = w.tape) (hout : w1.output = w.output) (hsize : w.heap.size ≤ w1.heap.size) (hblock : ∀ i, i < w.heap.size → some i ≠ β k → w1.heap[i]? = w.heap[i]?)
    (hcell : ∀ b o x, β k = some b → w.cell? ⟨b, o, none⟩ = some x → ¬ e0.mutAt o → w1.cell? ⟨b, o, none⟩ = some x)
    (hbo : ∀ b, bo = some b → (β k = some b ∧ ∀ o, e.mutAt o → e0.mutAt o) ∨ (w.heap.size ≤ b ∧ b < w1.heap.size))
    (hH : (∀ u d, RD (Mu C hp β) w u d → RD (Mu C ((k, some e) :: hp) (upd β k bo)) w1 u d) → HR C ((k, some e) :: hp) (upd β k bo) w1 k e) :
    RelB C ⟨sl, (k, some e) :: hp⟩ (upd β k bo) a w1 := by
  have hget' : ∀ k' e', k' ≠ k → hget hp k' = some e' → hget ((k, some e) :: hp) k' = some e' ∧ upd β k bo k' = β k' := fun k' e' hn h =>
    ⟨by rw [hget_cons, if_neg (fun c => hn c.symm)]; exact h, by simp [upd, hn]⟩
  have hoth : ∀ k' e' b o, k' ≠ k → hget hp k' = some e' → β k' = some b → w.heap[b]? = some o → w1.heap[b]? = some o := fun k' e' b o hn h hb ho => by
    rw [hblock b (Array.getElem?_eq_some_iff.1 ho).1 (fun c => hn (r.inj k' k e' e0 b h hk hb c.symm))]
    exact ho
  have hst : ∀ b o x, ¬ Mu C hp β b o → w.cell? ⟨b, o, none⟩ = some x → w1.cell? ⟨b, o, none⟩ = some x ∧ ¬ Mu C ((k, some e) :: hp) (upd β k bo) b o := by
    intro b o x hn hx
    have hlt := cell_lt hx
    constructor
    · by_cases hb : some b = β k
      · exact hcell b o x hb.symm hx (fun c => hn (.inr ⟨k, e0, hk, hb.symm, c⟩))
      · rw [World.cell?_of_block (w := w) (a := ⟨b, o, none⟩) (hblock b hlt hb)]; exact hx
    · rintro (hM | ⟨k', e', he', hb', hm'⟩)
      · exact hn (.inl hM)
      · rw [hget_cons] at he'
        by_cases hkk : k = k'
        · subst hkk
          rw [if_pos rfl] at he'
          cases he'
          simp only [upd, if_true] at hb'
          rcases hbo b hb' with ⟨h1, h2⟩ | ⟨h1, h2⟩
          · exact hn (.inr ⟨k, e0, hk, h1, h2 o hm'⟩)
          · omega
        · rw [if_neg hkk] at he'
          simp only [upd, if_neg (fun c => hkk (Eq.symm c))] at hb'
          exact hn (.inr ⟨k', e', he', hb', hm'⟩)
  have hRD : ∀ u d, RD (Mu C hp β) w u d → RD (Mu C ((k, some e) :: hp) (upd β k bo)) w1 u d := fun u d h => h.mono hst
  have hBR : ∀ c u, (∀ i, i ∈ c.ids → (!Nat.beq i k) = true) → BR C hp β w c u → BR C ((k, some e) :: hp) (upd β k bo) w1 c u := by
    intro c u hid h
    refine BR.kept hst (fun k' hk' e' he' hr => ?_) (fun k' es0 u hc h => ?_) h
    · have c : k' ≠ k := fun c => by subst c; rw [hk] at he'; cases he'; rw [hrow0] at hr; cases hr
      exact ⟨⟨e', (hget' k' e' c he').1, hr⟩, (hget' k' e' c he').2⟩
    · have c : k' ≠ k := noId_ne (hid k' (by rcases hc with rfl | ⟨_, rfl⟩ <;> simp [BV.ids]))
      obtain ⟨T, size, es, ex, hh, hl, hr⟩ := h
      have h2 := hget' k' _ c hh
      refine ⟨T, size, es, ex, h2.1, hl, fun hq => (hr hq).imp (fun ⟨h1, h3⟩ => ⟨h2.2.trans h1, h3⟩) ?_⟩
      rintro ⟨b, cap, cur, q1, q2, q3, q4, q5, q6⟩
      exact ⟨b, cap, cur, h2.2.trans q1, q2, q3, q4, hoth k' _ b _ c hh q1 q5, q6⟩
  simp only [noId, Bool.and_eq_true, List.all_eq_true] at hno
  refine ⟨?_, r.low, ?_, ?_, ?_, ?_, r.size, r.df, fun b hb => ?_⟩
  · refine ⟨hos.trans r.keep.os, htape.trans r.keep.tape, hout.trans r.keep.output, Nat.le_trans r.keep.size hsize, fun i hi hK => ?_⟩
    rw [hblock i (Nat.lt_of_lt_of_le hi r.keep.size) (fun c => ?_)]
    · exact r.keep.block i hi hK
    · rcases (r.own k e0 i hk c.symm).1 with h1 | h1
      · omega
      · exact hK h1
  · intro k1 k2 e1 e2 b h1 h2 hb1 hb2
    simp only [hget_cons] at h1 h2
    by_cases c1 : k = k1 <;> by_cases c2 : k = k2
    · omega
    · subst c1
      rw [if_neg c2] at h2
      simp only [upd, if_true] at hb1
      simp only [upd, if_neg (fun c => c2 (Eq.symm c))] at hb2
      rcases hbo b hb1 with ⟨h3, _⟩ | ⟨h3, _⟩
      · exact r.inj k k2 e0 e2 b hk h2 h3 hb2
      · have h4 := (r.own k2 e2 _ h2 hb2).2
        omega
    · subst c2
      rw [if_neg c1] at h1
      simp only [upd, if_true] at hb2
      simp only [upd, if_neg (fun c => c1 (Eq.symm c))] at hb1
      rcases hbo b hb2 with ⟨h3, _⟩ | ⟨h3, _⟩
      · exact r.inj k1 k e1 e0 b h1 hk hb1 h3
      · have h4 := (r.own k1 e1 _ h1 hb1).2
        omega
    · rw [if_neg c1] at h1
      rw [if_neg c2] at h2
      simp only [upd, if_neg (fun c => c1 (Eq.symm c))] at hb1
      simp only [upd, if_neg (fun c => c2 (Eq.symm c))] at hb2
      exact r.inj k1 k2 e1 e2 b h1 h2 hb1 hb2
  · intro k1 e1 b h1 hb1
    simp only [hget_cons] at h1
    by_cases c1 : k = k1
    · subst c1
      simp only [upd, if_true] at hb1
      rcases hbo b hb1 with ⟨h3, _⟩ | ⟨h3, h4⟩
      · have := r.own k e0 b hk h3
        exact ⟨this.1, Nat.lt_of_lt_of_le this.2 hsize⟩
      · exact ⟨.inl (Nat.le_trans r.keep.size h3), h4⟩
    · rw [if_neg c1] at h1
      simp only [upd, if_neg (fun c => c1 (Eq.symm c))] at hb1
      exact ⟨(r.own k1 e1 b h1 hb1).1, Nat.lt_of_lt_of_le (r.own k1 e1 b h1 hb1).2 hsize⟩
  · intro k1 e1 h1
    simp only [hget_cons] at h1
    by_cases c1 : k = k1
    · subst c1
      rw [if_pos rfl] at h1
      cases h1
      exact hH hRD
    · rw [if_neg c1] at h1
      have c1' : k1 ≠ k := fun c => c1 c.symm
      have h2 := hget' k1 e1 c1' h1
      have h3 := r.hp k1 e1 h1
      cases e1 with
      | blk T cs =>
        obtain ⟨b, arr, q1, q2, q3, q4⟩ := h3
        refine ⟨b, arr, h2.2.trans q1, hoth k1 _ b _ c1' h1 q1 q2, q3, fun j c hc => let ⟨u, hu, ho, hr⟩ := q4 j c hc; ⟨u, hu, ho, hBR c u (fun i hi => ?_) hr⟩⟩
        have := hno.2 _ (hget_mem h1)
        simp only [HE.ids, List.all_eq_true] at this
        exact this i (List.mem_flatMap.2 ⟨c, List.mem_of_getElem? hc, hi⟩)
      | row T size es ex =>
        obtain ⟨hz, hs, hr⟩ := h3
        refine ⟨hz, hs, hr.imp (fun ⟨q1, q2⟩ => ⟨h2.2.trans q1, q2⟩) ?_⟩
        rintro ⟨b, cur, q1, q2, q3, q4⟩
        exact ⟨b, cur, h2.2.trans q1, hoth k1 _ b _ c1' h1 q1 q2, q3, fun i cs j d hi hj => let ⟨u, hu, hr⟩ := q4 i cs j d hi hj; ⟨u, hu, hr.mono hst⟩⟩
      | it s pos =>
        obtain ⟨b, q1, q2⟩ := h3
        exact ⟨b, h2.2.trans q1, hoth k1 _ b _ c1' h1 q1 q2⟩
      | pr Φ =>
        obtain ⟨b, o, q1, q2, q3⟩ := h3
        exact ⟨b, o, h2.2.trans q1, hoth k1 _ b _ c1' h1 q1 q2, q3⟩
      | map es =>
        obtain ⟨b, ents, q1, q2, q3, q4⟩ := h3
        exact ⟨b, ents, h2.2.trans q1, hoth k1 _ b _ c1' h1 q1 q2, q3, fun i e he => let ⟨x, p1, p2, p3, p4⟩ := q4 i e he; ⟨x, p1, p2, p3, p4.mono hst⟩⟩
      | bld T E kk s =>
        obtain ⟨q0, b, p, v, q1, q2, q3, q4, q5⟩ := h3
        have ckk : kk ≠ k := by
          have := hno.2 _ (hget_mem h1)
          simp only [HE.ids, List.all_eq_true] at this
          exact noId_ne (this kk (by simp))
        have q0' := hget' kk _ ckk q0
        exact ⟨q0'.1, b, p, v, h2.2.trans q1, q2, hoth k1 _ b _ c1' h1 q1 q3, ownsRow_of_block q4 (fun g hg => by
          obtain ⟨o, ho⟩ : ∃ o, w.heap[g]? = some o := ⟨_, Array.getElem?_eq_getElem (ownsRow_lt q4 hg)⟩
          rw [ho]; exact hoth kk _ g o ckk q0 (q5.symm.trans hg) ho), q5.trans q0'.2.symm⟩
      | hid _ _ => trivial
  · intro t sv hs
    have h1 := r.sl t sv hs
    have h2 := hno.1 _ (sget_mem hs)
    cases sv with
    | one b => exact hBR _ _ (fun i hi => h2 i hi) h1
    | tup l =>
      obtain ⟨us, q1, q2, q3⟩ := h1
      exact ⟨us, q1, q2, fun i b hi => let ⟨x, hx, hr⟩ := q3 i b hi; ⟨x, hx, hBR _ _ (fun j hj => h2 j (List.mem_flatMap.2 ⟨b, List.mem_of_getElem? hi, hj⟩)) hr⟩⟩
    | dead => trivial
  · obtain ⟨f1, f2⟩ := r.fx b hb
    have c : k ≠ 0 := fun c => by
      subst c
      have h1 := f2 e0 hk
      rw [hrow0] at h1; cases h1
    exact ⟨by simp only [upd, if_neg (Ne.symm c)]; exact f1, fun e1 he => by rw [hget_cons, if_neg c] at he; exact f2 e1 he⟩

/-- operands of a call that a row is handed to -/
inductive EvX (P : Program) : List Operand → List RG → List (Nat × SV) → List (Nat × Option HE) → Prop
  | nil : EvX P [] [] [] []
  | g {x : Operand} {g : AG} {R Rs : List (Nat × SV)} {Rhs : List (Nat × Option HE)} {xs : List Operand} {gs : List RG} (h : Ev x (.g g) R) (t : EvX P xs gs Rs Rhs) : EvX P (x :: xs) (.g g :: gs) (R ++ Rs) Rhs
  | sem {x : Operand} {Φ : List AG → Value → Prop} {R Rs : List (Nat × SV)} {Rhs : List (Nat × Option HE)} {xs : List Operand} {gs : List RG} (h : Ev x (.sem Φ) R) (t : EvX P xs gs Rs Rhs) : EvX P (x :: xs) (.sem Φ :: gs) (R ++ Rs) Rhs
  | clo {x : Operand} {f : Nat} {ks : List Nat} {gs0 : List RG} {Φ : List AG → Value → Prop} {R Rs : List (Nat × SV)} {Rh Rhs : List (Nat × Option HE)} {xs : List Operand} {gs : List RG} (h : Ev x (.clo f ks) R) (hc : EvC ks gs0 Rh) (hcf : CallF P f)
      (hΦ : ∀ args v, Φ args v → Ct P f (args.map .g ++ gs0) (.one (.d (.v v)))) (t : EvX P xs gs Rs Rhs) : EvX P (x :: xs) (.sem Φ :: gs) (R ++ Rs) (Rh ++ Rhs)

theorem EvX.ok {sl : SL} {hp : HL} {β : Nat → Option Nat} {a : Act} {w : World} {xs : List Operand} {gs : List RG} {R : List (Nat × SV)} {Rh : List (Nat × Option HE)} {kk T size : Nat} {es : List (List DV)}
    (hx : EvX P xs gs R Rh) (hs : HasS sl R) (hh : HasH hp Rh) (r : RelB C ⟨sl, hp⟩ β a w) (hk : hget hp kk = some (.row T size es true)) :
    (xs.map a.eval).length = gs.length ∧ ∀ (i : Nat) (g : RG) (v : Value), gs[i]? = some g → (xs.map a.eval)[i]? = some v → ArgR P (fun b o => Mu C hp β b o ∧ β kk ≠ some b) (fun b => β kk = some b) w g v := by
  have hmu : ∀ b o, (Mu C hp β b o ∧ β kk ≠ some b) ∨ β kk = some b → Mu C hp β b o := fun b o c => c.elim (fun c => c.1) fun c => .inr ⟨kk, _, hk, c, .inl rfl⟩
  induction hx with
  | nil => exact ⟨rfl, fun i g v h => by simp at h⟩
  | g h t ih =>
    obtain ⟨h3, h4⟩ := ih hs.app.2 hh
    refine ⟨by simpa using h3, fun i g v hg hv => ?_⟩
    cases i with
    | zero => simp at hg hv; subst hg hv; exact GR.less hmu (h.ok hs.app.1 r)
    | succ i => exact h4 i g v (by simpa using hg) (by simpa using hv)
  | sem h t ih =>
    obtain ⟨h3, h4⟩ := ih hs.app.2 hh
    refine ⟨by simpa using h3, fun i g v hg hv => ?_⟩
    cases i with
    | zero =>
      simp at hg hv; subst hg hv
      obtain ⟨f, caps, hu, hcf, hf⟩ := (h.ok hs.app.1 r : SemFn P C.w0 C.K _ _)
      refine ⟨f, caps, hu, hcf, fun w'' hb' => hf w'' ⟨hb'.os.trans r.keep.os, hb'.tape.trans r.keep.tape, hb'.output.trans r.keep.output, Nat.le_trans r.keep.size hb'.size, fun q hq hK => ?_⟩⟩
      rw [hb'.block q (Nat.lt_of_lt_of_le hq r.keep.size) (fun c => ?_)]
      · exact r.keep.block q hq hK
      · rcases (r.own kk _ q hk c).1 with h6 | h6
        · omega
        · exact hK h6
    | succ i => exact h4 i g v (by simpa using hg) (by simpa using hv)
  | clo h hc hcf hΦ t ih =>
    obtain ⟨h3, h4⟩ := ih hs.app.2 hh.app.2
    refine ⟨by simpa using h3, fun i g v hg hv => ?_⟩
    cases i with
    | zero =>
      simp at hg hv; subst hg hv
      exact clo_sem r (h.ok hs.app.1 r) hc hh.app.1 (fun b hb => ⟨kk, T, size, es, true, hk, hb⟩) (fun b hb o => hmu b o (.inr hb)) hcf hΦ
    | succ i => exact h4 i g v (by simpa using hg) (by simpa using hv)

end

section
variable {P : Program} {nt : Nat} {C : Cx P nt} {Q0 : Exit → Act → World → Prop} {k : List KI} {dst : Nat} {ty : TypeId} {pos : String} {af : Array Edge} {x y z : Operand} {R R1 R2 R3 : List (Nat × SV)}

/-- a row of the call's own alone is handed to a call that keeps it; what comes back takes its place -/
theorem G.callRow {ops : Array Oper} {rest : List Oper} {sl sl' : SL} {hp : HL} {f T size kk : Nat} {xs : List Operand} {tys : Array TypeId} {args : List RG} {es es' : List (List DV)} {Rh : List (Nat × Option HE)} (hc : CallF P f) (hct : Ct P f (.row T size es :: args) (.new T size es'))
    (hx : Ev x (.own kk es) R1) (hxs : EvX P xs args R2 Rh) (hd : Nat.blt dst nt = true) (hs : HasS sl (R1 ++ R2)) (hh : HasH hp ((kk, some (.row T size es true)) :: Rh)) (hsl : HasS sl sl') (hno : noId kk sl' hp = true)
    (hk : G C Q0 (.l ops rest :: k) ⟨(dst, .one (.own kk es')) :: sl', (kk, some (.row T size es' true)) :: hp⟩) :
    G C Q0 (.l ops (Oo dst (cCall f (x :: xs) tys) ty pos af none :: rest) :: k) ⟨sl, hp⟩ := ⟨fun a w ⟨β, r⟩ => by
  have hu := hx.ok hs.app.1 r
  obtain ⟨_, _, _, _, h1, _, h2⟩ := id hu
  rw [hh.1] at h1; cases h1
  have h2 := h2 rfl
  obtain ⟨hz, hsz, hr⟩ := r.hp kk _ hh.1
  have hmuk : ∀ b, β kk = some b → ∀ o, Mu C hp β b o := fun b hb o => .inr ⟨kk, _, hh.1, hb, .inl rfl⟩
  have hmu : ∀ b b' o, β kk = some b → ((Mu C hp β b' o ∧ β kk ≠ some b') ∨ b' = b) → Mu C hp β b' o := fun b b' o hb c => c.elim (fun c => c.1) fun c => by subst c; exact hmuk _ hb o
  obtain ⟨hxl, hxa⟩ := hxs.ok hs.app.2 hh.2 r hh.1
  have hcall := hct.go (fun b o => Mu C hp β b o ∧ β kk ≠ some b) (fun b => β kk = some b) w (a.eval x :: xs.map a.eval) (fun b o c => ⟨r.mut_lt c.1, c.2⟩)
    (fun b hb => by
      rcases h2 with ⟨h3, _⟩ | ⟨b', cap, cur, h3, h4, _⟩
      · rw [hb] at h3; cases h3
      · rw [hb] at h3; cases h3
        exact ⟨0, T, size, es, cap, rfl, by simp [h4]⟩)
    (by simpa using hxl)
    (fun i g v hg hv => by
      cases i with
      | succ i => exact hxa i g v (by simpa using hg) (by simpa using hv)
      | zero =>
        simp at hg hv; subst hg hv
        refine ⟨hz, hsz, ?_⟩
        rcases h2 with ⟨_, h3, h4⟩ | ⟨b, cap, cur, hb, hu', hle, hcm, hheap, hcs⟩
        · exact .inl ⟨h3, h4⟩
        · rcases hr with ⟨q1, _⟩ | ⟨b', cur', q1, q2, q3, q4⟩
          · rw [hb] at q1; cases q1
          · rw [hb] at q1; cases q1
            rw [hheap] at q2; cases q2
            exact .inr ⟨b, cap, cur, hb, (r.own kk _ b hh.1 hb).2, hu', hle, hcm, hheap, hcs, fun i cs j d hi hj => let ⟨v, p1, p2⟩ := q4 i cs j d hi hj; ⟨v, p1, p2.less fun b' o c => hmu b b' o hb c⟩⟩)
  change wpList P ops (Qof P Q0 k) _ a w
  refine wpList_plain rfl fun K hK => ?_
  unfold Oper.wp
  rw [run_call hc]
  refine hcall.mono ?_
  rintro e w' ⟨v, rfl, hkw, hz', hs', hres⟩
  have fin : ∀ bo : Option Nat, (∀ b, bo = some b → w.heap.size ≤ b ∧ b < w'.heap.size ∨ β kk = some b) →
      ((bo = none ∧ es' = [] ∧ ∃ ad, v = .slice ad 0 0) ∨ ∃ b cap cur, bo = some b ∧ v = .slice (some ⟨b, 0, none⟩) es'.length cap ∧ es'.length ≤ cap ∧ cap ≤ maxLen ∧ w'.heap[b]? = some (.cells cur T (0, 0)) ∧ cur.size = cap * size ∧
        ∀ (i : Nat) (cs : List DV) (j : Nat) (d : DV), es'[i]? = some cs → cs[j]? = some d → ∃ u, cur[i * size + j]? = some u ∧ RD (fun b' o => (Mu C hp β b' o ∧ β kk ≠ some b') ∨ b' = b) w' u d) → K (a.put (some dst) v) w' := by
    intro bo hbo hv
    refine hK _ _ (hk.go _ _ ⟨upd β kk bo, ?_⟩)
    have hmu' : ∀ b, bo = some b → ∀ b' o, Mu C ((kk, some (HE.row T size es' true)) :: hp) (upd β kk bo) b' o → (Mu C hp β b' o ∧ β kk ≠ some b') ∨ b' = b := by
      rintro b hb b' o (hM | ⟨k', e', he', hb', hm'⟩)
      · refine .inl ⟨.inl hM, fun c => ?_⟩
        obtain ⟨h4, h5⟩ := r.low b' o hM
        rcases (r.own kk _ b' hh.1 c).1 with h6 | h6
        · omega
        · exact h5 h6
      · rw [hget_cons] at he'
        by_cases hkk : kk = k'
        · subst hkk; simp only [upd, if_true] at hb'; rw [hb] at hb'; cases hb'; exact .inr rfl
        · rw [if_neg hkk] at he'
          simp only [upd, if_neg (fun c => hkk (Eq.symm c))] at hb'
          exact .inl ⟨.inr ⟨k', e', he', hb', hm'⟩, fun c => hkk (r.inj kk k' _ e' b' hh.1 he' c hb')⟩
    have hsw := (r.slots hsl).swap (w1 := w') (e := .row T size es' true) (bo := bo) hh.1 rfl hno hkw.os hkw.tape hkw.output hkw.size (fun i hi hne => hkw.block i hi (fun c => hne c.symm)) (fun _ _ _ _ _ hnm => absurd (.inl rfl) hnm)
      (fun b hb => (hbo b hb).elim (fun c => .inr c) fun c => .inl ⟨c, fun o _ => .inl rfl⟩)
      (fun _ => ⟨hz', hs', hv.imp (fun ⟨p1, p2, _⟩ => ⟨by simp [upd, p1], p2⟩) fun ⟨b, cap, cur, p1, p2, p3, p4, p5, p6, p7⟩ => ⟨b, cur, by simp [upd, p1], p5, by rw [p6]; exact Nat.mul_le_mul_right _ p3, fun i cs j d hi hj => let ⟨u, q1, q2⟩ := p7 i cs j d hi hj; ⟨u, q1, q2.less (hmu' b p1)⟩⟩⟩)
    refine hsw.put (sv := .one (.own kk es')) (Below.refl _ _) (by simpa using hd) ⟨T, size, es', true, by rw [hget_cons, if_pos rfl], Nat.le_refl _, fun _ => ?_⟩
    exact hv.imp (fun ⟨p1, p2, p3⟩ => ⟨by simp [upd, p1], p2, p3⟩) fun ⟨b, cap, cur, p1, p2, p3, p4, p5, p6, p7⟩ => ⟨b, cap, cur, by simp [upd, p1], p2, p3, p4, p5, p6⟩
  rcases hres with ⟨h3, h4⟩ | ⟨b, cap, cur, hB, hlt, hv, hle, hcm, hheap, hcs, hel⟩
  · exact fin none (fun b hb => by cases hb) (.inl ⟨rfl, h3, h4⟩)
  · exact fin (some b) (fun b' hb' => by cases hb'; exact hB.imp (fun c => ⟨c, hlt⟩) id) (.inr ⟨b, cap, cur, rfl, hv, hle, hcm, hheap, hcs, hel⟩)⟩

end
end Go.Ab

/- The abstract machine: rows of the call's own alone, spliced, cleared and cut; a contract of a call that keeps a row. Conditions: none but those that stand in each law. -/
namespace Go.Ab
open Go Go.RowKit

def spliceR (es : List (List DV)) (lo : Nat) (news : List (List DV)) : List (List DV) := es.take lo ++ news ++ es.drop (lo + news.length)

theorem spliceR_length {es news : List (List DV)} {lo : Nat} (h : lo + news.length ≤ es.length) : (spliceR es lo news).length = es.length := by
  simp only [spliceR, List.length_append, List.length_take, List.length_drop]; omega

theorem spliceR_at {es news : List (List DV)} {lo : Nat} (h : lo + news.length ≤ es.length) (i : Nat) : (spliceR es lo news)[i]? = if lo ≤ i ∧ i < lo + news.length then news[i - lo]? else es[i]? := by
  simp only [spliceR]
  by_cases c1 : i < lo
  · rw [List.append_assoc, List.getElem?_append_left (by simp; omega), List.getElem?_take, if_pos c1, if_neg (by omega)]
  · by_cases c2 : i < lo + news.length
    · rw [List.append_assoc, List.getElem?_append_right (by simp; omega), List.getElem?_append_left (by simp; omega), if_pos ⟨by omega, c2⟩]
      congr 1; simp; omega
    · rw [List.getElem?_append_right (by simp; omega), List.getElem?_drop, if_neg (by omega)]
      congr 1; simp; omega

section
variable {P : Program} {nt : Nat} {C : Cx P nt}

/-- elements of a row are written over -/
theorem RelB.spliced {sl : SL} {hp : HL} {β : Nat → Option Nat} {a : Act} {w : World} (r : RelB C ⟨sl, hp⟩ β a w) {kk E size b lo : Nat} {es news : List (List DV)} {cur : Array Value} {vs : List Value}
    (hh : hget hp kk = some (.row E size es true)) (hb : β kk = some b) (hheap : w.heap[b]? = some (.cells cur E (0, 0))) (hlo : lo + news.length ≤ es.length) (hvl : vs.length = news.length * size) (hns : ∀ cs, cs ∈ news → cs.length = size)
    (hv : ∀ (i : Nat) (cs : List DV) (j : Nat) (d : DV), news[i]? = some cs → cs[j]? = some d → ∃ v, vs[i * size + j]? = some v ∧ RD (Mu C hp β) w v d) (hone : ∀ v, v ∈ vs → v.oneCell' = true) :
    (storeCells ⟨b, lo * size, none⟩ vs).run P w = .ok () (w.setRow b (List.take (lo * size) cur.toList ++ vs ++ List.drop (lo * size + vs.length) cur.toList).toArray) ∧
    RelB C ⟨sl, (kk, some (.row E size (spliceR es lo news) true)) :: hp⟩ (upd β kk (β kk)) a (w.setRow b (List.take (lo * size) cur.toList ++ vs ++ List.drop (lo * size + vs.length) cur.toList).toArray) := by
  obtain ⟨hsz0, hsz, hr⟩ := r.hp kk _ hh
  rcases hr with ⟨h1, _⟩ | ⟨b', cur', q1, q2, hcl, hel⟩
  · rw [hb] at h1; cases h1
  rw [hb] at q1; cases q1
  rw [hheap] at q2; cases q2
  have hfit : lo * size + vs.length ≤ cur.size := by
    have : (lo + news.length) * size ≤ es.length * size := Nat.mul_le_mul_right _ hlo
    rw [Nat.add_mul] at this
    omega
  have hst := run_storeCells_at P b (lo * size) E vs 0 cur w hheap (by simpa using hfit) hone
  simp only [Nat.add_zero] at hst
  refine ⟨hst, ?_⟩
  generalize hw1 : w.setRow b (List.take (lo * size) cur.toList ++ vs ++ List.drop (lo * size + vs.length) cur.toList).toArray = w1 at hst
  have hnew : w1.heap[b]? = some (.cells (List.take (lo * size) cur.toList ++ vs ++ List.drop (lo * size + vs.length) cur.toList).toArray E) := by rw [← hw1]; exact setRow_heap w b cur _ E _ hheap
  have hoth : ∀ q, q ≠ b → w1.heap[q]? = w.heap[q]? := fun q hq => by rw [← hw1]; exact setRow_other w b q _ hq
  have hsize : w1.heap.size = w.heap.size := by rw [← hw1]; simp [World.setRow]
  have hcurL : cur.toList.length = cur.size := Array.length_toList
  have hcur : ∀ q : Nat, (List.take (lo * size) cur.toList ++ vs ++ List.drop (lo * size + vs.length) cur.toList).toArray[q]? = if lo * size ≤ q ∧ q < lo * size + vs.length then vs[q - lo * size]? else cur[q]? := by
    intro q
    rw [List.getElem?_toArray, splice_get cur.toList (lo * size) vs (by omega)]
    simp
  have hcurs : (List.take (lo * size) cur.toList ++ vs ++ List.drop (lo * size + vs.length) cur.toList).toArray.size = cur.size := by
    simp only [List.size_toArray, List.length_append, List.length_take, List.length_drop, hcurL]
    omega
  have hlen := spliceR_length hlo
  refine (r.chg (e := .row E size (spliceR es lo news) true) (bo := β kk) hh (by rw [← hw1]; rfl) (by rw [← hw1]; rfl) (by rw [← hw1]; rfl) (by omega) (fun q _ hq => hoth q (fun c => hq (by rw [c, hb]))) (fun _ o x _ _ hnm => absurd (.inl rfl) hnm)
    (.inl ⟨rfl, fun o ho => .inl rfl⟩) ⟨rfl, fun _ => rfl⟩ (fun es0 u h => ?_) (fun _ hRD => ?_)).1
  · obtain ⟨_, _, _, _, h5, h6, h7⟩ := h
    rw [hh] at h5; cases h5
    refine ⟨E, size, spliceR es lo news, true, by rw [hget_cons, if_pos rfl], by rw [hlen]; exact h6, fun hq => ?_⟩
    rw [hlen] at hq ⊢
    rcases h7 hq with ⟨h8, _⟩ | ⟨b', cap', cur', h8, h9, h10, h11, h12, h13⟩
    · rw [hb] at h8; cases h8
    · rw [hb] at h8; cases h8
      rw [hheap] at h12; cases h12
      exact .inr ⟨b, cap', _, by simp [upd, hb], h9, h10, h11, hnew, by rw [hcurs]; exact h13⟩
  · refine ⟨hsz0, fun cs hcs' => ?_, .inr ⟨b, _, by simp [upd, hb], hnew, by rw [hlen, hcurs]; exact hcl, fun i cs j d hi hj => ?_⟩⟩
    · rcases List.mem_append.1 hcs' with h5 | h5
      · rcases List.mem_append.1 h5 with h5 | h5
        · exact hsz cs (List.mem_of_mem_take h5)
        · exact hns cs h5
      · exact hsz cs (List.mem_of_mem_drop h5)
    · rw [spliceR_at hlo] at hi
      rw [hcur]
      by_cases c : lo ≤ i ∧ i < lo + news.length
      · rw [if_pos c] at hi
        obtain ⟨v, h3, h4⟩ := hv _ cs j d hi hj
        have hj' : j < size := by rw [← hns cs (List.mem_of_getElem? hi)]; exact (List.getElem?_eq_some_iff.1 hj).1
        have e1 : (i - lo) * size + j = i * size + j - lo * size := by
          have : lo * size ≤ i * size := Nat.mul_le_mul_right _ c.1
          rw [Nat.sub_mul]; omega
        have h5 : (i - lo + 1) * size ≤ news.length * size := Nat.mul_le_mul_right _ (by omega)
        rw [Nat.add_mul, Nat.sub_mul] at h5
        have : lo * size ≤ i * size := Nat.mul_le_mul_right _ c.1
        rw [if_pos ⟨by omega, by omega⟩, ← e1]
        exact ⟨v, h3, hRD _ _ h4⟩
      · rw [if_neg c] at hi
        obtain ⟨v, h3, h4⟩ := hel i cs j d hi hj
        have hj' : j < size := by rw [← hsz cs (List.mem_of_getElem? hi)]; exact (List.getElem?_eq_some_iff.1 hj).1
        have : ¬ (lo * size ≤ i * size + j ∧ i * size + j < lo * size + vs.length) := by
          rintro ⟨q1, q2⟩
          rw [hvl] at q2
          rcases Nat.lt_or_ge i lo with c' | c'
          · have : (i + 1) * size ≤ lo * size := Nat.mul_le_mul_right _ c'
            rw [Nat.add_mul] at this; omega
          · have : (lo + news.length) * size ≤ i * size := Nat.mul_le_mul_right _ (by omega)
            rw [Nat.add_mul] at this; omega
        rw [if_neg this]
        exact ⟨v, h3, hRD _ _ h4⟩

theorem zero_at (z : Array Value) (m size i j : Nat) (hz : z.size = size) (hi : i < m) (hj : j < size) : (Builtin.zeroCells z m).toList[i * size + j]? = z[j]? := by
  have h5 : (i + 1) * size ≤ m * size := Nat.mul_le_mul_right _ hi
  rw [Nat.add_mul] at h5
  have hlt : i * size + j < m * size := by omega
  have e : (i * size + j) % size = j := by rw [Nat.mul_comm, Nat.mul_add_mod]; exact Nat.mod_eq_of_lt hj
  simp only [Builtin.zeroCells, hz]
  simp [hlt, e, hj, hz]

end

section
variable {P : Program} {nt : Nat} {C : Cx P nt} {Q0 : Exit → Act → World → Prop} {k : List KI} {dst : Nat} {ty : TypeId} {pos : String} {af : Array Edge} {x y z : Operand} {R R1 R2 R3 : List (Nat × SV)}

theorem own_any {sl : SL} {hp : HL} {β : Nat → Option Nat} {a : Act} {w : World} (_r : RelB C ⟨sl, hp⟩ β a w) {kk T size : Nat} {es : List (List DV)} {ex : Bool} {u : Value} (hk : hget hp kk = some (.row T size es ex)) (hu : BR C hp β w (.own kk es) u) :
    (β kk = none ∧ es = [] ∧ ∃ ad, u = .slice ad 0 0) ∨ ∃ b cap cur, β kk = some b ∧ u = .slice (some ⟨b, 0, none⟩) es.length cap ∧ es.length ≤ cap ∧ cap ≤ maxLen ∧ w.heap[b]? = some (.cells cur T (0, 0)) ∧ cur.size = cap * size := by
  obtain ⟨_, _, _, _, h1, _, h2⟩ := hu
  rw [hk] at h1
  cases h1
  exact h2 rfl

/-- 'l[:n]' of a row of the call's own alone: it is that row, shorter -/
theorem G.cutRow {ops : Array Oper} {rest : List Oper} {sl sl' : SL} {hp : HL} {T E T' size bytes kk : Nat} {zz : Value} {es es' : List (List DV)} {n : Int} (hT : P.underlying T = some (.slice E)) (hI : Info P E zz size bytes)
    (h0 : 0 ≤ n) (h1 : n ≤ es.length) (he : es.take n.toNat = es')
    (hx : Ev x (.own kk es) R1) (hy : Ev y (bI .i64 n) R2) (hd : Nat.blt dst nt = true) (hs : HasS sl (R1 ++ R2)) (hh : hget hp kk = some (.row T' size es true)) (hsl : HasS sl sl') (hno : noId kk sl' hp = true)
    (hk : G C Q0 (.l ops rest :: k) ⟨(dst, .one (.own kk es')) :: sl', (kk, some (.row T' size es' true)) :: hp⟩) :
    G C Q0 (.l ops (Oo dst (.slice T x none (some y) none) ty pos af none :: rest) :: k) ⟨sl, hp⟩ := ⟨fun a w ⟨β, r⟩ => by
  subst he
  have hu := own_any r hh (hx.ok hs.app.1 r)
  have hv := BR.v_inv (hy.ok hs.app.2 r)
  obtain ⟨hz, hsz, hr⟩ := r.hp kk _ hh
  have hlen : (es.take n.toNat).length = n.toNat := by simp; omega
  have hsw := (r.slots hsl).swap (w1 := w) (e := .row T' size (es.take n.toNat) true) (bo := β kk) hh rfl hno rfl rfl rfl (Nat.le_refl _) (fun _ _ _ => rfl) (fun _ _ _ _ h _ => h)
    (fun b hb => .inl ⟨hb, fun o _ => .inl rfl⟩)
    (fun hRD => ⟨hz, fun cs hcs => hsz cs (List.mem_of_mem_take hcs), hr.imp (fun ⟨p1, p2⟩ => ⟨by simp [upd, p1], by simp [p2]⟩) fun ⟨b, cur, p1, p2, p3, p4⟩ => ⟨b, cur, by simp [upd, p1], p2, by
      have : (es.take n.toNat).length * size ≤ es.length * size := Nat.mul_le_mul_right _ (by rw [hlen]; omega)
      omega, fun i cs j d hi hj => by
      rw [List.getElem?_take] at hi
      split at hi
      · obtain ⟨u, q1, q2⟩ := p4 i cs j d hi hj
        exact ⟨u, q1, hRD _ _ q2⟩
      · cases hi⟩⟩)
  change wpList P ops (Qof P Q0 k) _ a w
  refine wpList_plain rfl fun K hK => ?_
  unfold Oper.wp
  rcases hu with ⟨hb, rfl, ad, hu⟩ | ⟨b, cap, cur, hb, hu, hle, hcm, hheap, hcs⟩
  · have hn0 : n = 0 := by simp at h1; omega
    subst hn0
    have e : (execOp a.eval (Oo dst (.slice T x none (some y) none) ty pos af none)).run P w = .ok (.value (.slice ad 0 0)) w := by
      have := run_bounds (P := P) (w := w) (b := true) (len := 0) (cap := 0) (lo := none) (hi := some 0) (by simp) (by simp) (by simp) (by simp)
      simp only [Option.map_none, Option.map_some, Option.getD_none, Option.getD_some] at this
      simp only [execOp, hu, hv, Option.map_none, Option.map_some, Instr.sliceAt, Sem.run_bind, run_underlying hT, Result.andThen_ok, Instr.slice, this, hI.sizeOf, Sem.run_pure]
      cases ad <;> simp
    rw [e]
    refine hK _ _ (hk.go _ _ ⟨_, hsw.put (sv := .one (.own kk [])) (Below.refl _ _) (by simpa using hd) ⟨T', size, [], true, by rw [hget_cons, if_pos rfl]; simp, Nat.le_refl _, fun _ => .inl ⟨by simp [upd, hb], rfl, ad, rfl⟩⟩⟩)
  · have e : (execOp a.eval (Oo dst (.slice T x none (some y) none) ty pos af none)).run P w = .ok (.value (.slice (some ⟨b, 0, none⟩) n.toNat cap)) w := by
      have := run_bounds (P := P) (w := w) (b := true) (len := es.length) (cap := cap) (lo := none) (hi := some n) (by simp) (by simpa using h0) (by simpa using h1) hle
      simp only [Option.map_none, Option.map_some, Option.getD_none, Option.getD_some] at this
      simp only [execOp, hu, hv, Option.map_none, Option.map_some, Instr.sliceAt, Sem.run_bind, run_underlying hT, Result.andThen_ok, Instr.slice, this, hI.sizeOf, Sem.run_pure]
      simp [Addr.add]
    rw [e]
    refine hK _ _ (hk.go _ _ ⟨_, hsw.put (sv := .one (.own kk (es.take n.toNat))) (Below.refl _ _) (by simpa using hd) ⟨T', size, _, true, by rw [hget_cons, if_pos rfl], Nat.le_refl _, fun _ => .inr ⟨b, cap, cur, by simp [upd, hb], by rw [hlen], by rw [hlen]; omega, hcm, hheap, hcs⟩⟩⟩)⟩

/-- 'clear(l[n:])' of a row of the call's own alone -/
theorem G.clearRow {ops : Array Oper} {rest : List Oper} {sl : SL} {hp : HL} {T E size bytes kk d1 : Nat} {zz : Value} {es es' : List (List DV)} {zs : List DV} {n : Int} {ty1 ty2 : TypeId} {pos1 pos2 : String} {af1 af2 : Array Edge}
    (hT : P.underlying T = some (.slice E)) (hI : Info P E zz size bytes) (hzl : ZL zz.cells.toList (dat zs)) (hzs : zs.length = size)
    (h0 : 0 ≤ n) (h1 : n ≤ es.length) (he : spliceR es n.toNat (List.replicate (es.length - n.toNat) zs) = es')
    (hx : Ev x (.own kk es) R1) (hy : Ev y (bI .i64 n) R2) (hd : Nat.blt d1 nt = true) (hs : HasS sl (R1 ++ R2)) (hh : hget hp kk = some (.row E size es true))
    (hk : G C Q0 (.l ops rest :: k) ⟨(d1, .dead) :: sl, (kk, some (.row E size es' true)) :: hp⟩) :
    G C Q0 (.l ops (Oo d1 (.slice T x (some y) none none) ty1 pos1 af1 none :: ⟨none, .call { callee := .builtin .clear, args := #[.tmp d1], argTypes := #[T] }, ty2, pos2, af2, none⟩ :: rest) :: k) ⟨sl, hp⟩ := ⟨fun a w ⟨β, r⟩ => by
  subst he
  have hu := own_any r hh (hx.ok hs.app.1 r)
  have hv := BR.v_inv (hy.ok hs.app.2 r)
  obtain ⟨hz, hsz, hr⟩ := r.hp kk _ hh
  have hd1' : d1 < nt := by simpa using hd
  obtain ⟨hzlen, hzc⟩ := ZL.br (C := C) (hp := hp) (β := β) (w := w) hzl
  change wpList P ops (Qof P Q0 k) _ a w
  refine wpList_plain rfl fun K1 hK1 => ?_
  unfold Oper.wp
  rcases hu with ⟨hb, rfl, ad, hu⟩ | ⟨b, cap, cur, hb, hu, hle, hcm, hheap, hcs⟩
  · have hn0 : n = 0 := by simp at h1; omega
    subst hn0
    have e : (execOp a.eval (Oo d1 (.slice T x (some y) none none) ty1 pos1 af1 none)).run P w = .ok (.value (.slice ad 0 0)) w := by
      have := run_bounds (P := P) (w := w) (b := true) (len := 0) (cap := 0) (lo := some 0) (hi := none) (by simp) (by simp) (by simp) (by simp)
      simp only [Option.map_none, Option.map_some, Option.getD_none, Option.getD_some] at this
      simp only [execOp, hu, hv, Option.map_none, Option.map_some, Instr.sliceAt, Sem.run_bind, run_underlying hT, Result.andThen_ok, Instr.slice, this, hI.sizeOf, Sem.run_pure]
      cases ad <;> simp
    rw [e]
    refine hK1 _ _ ?_
    refine wpList_plain rfl fun K hK => ?_
    unfold Oper.wp
    have e3 : (a.put (some d1) (.slice ad 0 0)).eval (.tmp d1) = .slice ad 0 0 := by
      simp only [Act.eval]; rw [getD_put, if_pos ⟨rfl, by rw [r.size]; exact hd1'⟩]
    have e4 : (execOp (a.put (some d1) (.slice ad 0 0)).eval ⟨none, .call { callee := .builtin .clear, args := #[.tmp d1], argTypes := #[T] }, ty2, pos2, af2, none⟩).run P w = .ok (.value (.tuple #[])) w := by
      cases ad <;> simp [execOp, resolve, e3, invoke, builtin, Builtin.clear_, run_underlying hT]
    rw [e4]
    refine hK _ _ (hk.go _ _ ⟨β, ((r.put (sv := .dead) (Below.refl _ _) hd1' trivial).ext (fun t sv h => h) fun k' => ?_)⟩)
    rw [hget_cons]; split
    · rename_i c; rw [← c, hh]; simp [spliceR]
    · rfl
  · have hbd := run_bounds (P := P) (w := w) (b := true) (len := es.length) (cap := cap) (lo := some n) (hi := none) (by simpa using h0) (by simpa using h1) (by simp) hle
    simp only [Option.map_none, Option.map_some, Option.getD_none, Option.getD_some, Int.toNat_natCast] at hbd
    obtain ⟨A, hA, e⟩ : ∃ A : Addr, (n.toNat < es.length → A = ⟨b, n.toNat * size, none⟩) ∧ (execOp a.eval (Oo d1 (.slice T x (some y) none none) ty1 pos1 af1 none)).run P w = .ok (.value (.slice (some A) (es.length - n.toNat) (cap - n.toNat))) w := by
      refine ⟨if cap = n.toNat then ⟨b, 0, none⟩ else ⟨b, n.toNat * size, none⟩, fun h => by rw [if_neg (by omega)], ?_⟩
      simp only [execOp, hu, hv, Option.map_none, Option.map_some, Instr.sliceAt, Sem.run_bind, run_underlying hT, Result.andThen_ok, Instr.slice, hbd, hI.sizeOf, Sem.run_pure]
      by_cases c : cap = n.toNat
      · simp [c]
      · simp only [if_neg c, Addr.add_lit, Nat.zero_add]
    rw [e]
    refine hK1 _ _ ?_
    refine wpList_plain rfl fun K hK => ?_
    unfold Oper.wp
    have e3 : (a.put (some d1) (.slice (some A) (es.length - n.toNat) (cap - n.toNat))).eval (.tmp d1) = .slice (some A) (es.length - n.toNat) (cap - n.toNat) := by
      simp only [Act.eval]; rw [getD_put, if_pos ⟨rfl, by rw [r.size]; exact hd1'⟩]
    have r1 := r.put (dst := d1) (v := .slice (some A) (es.length - n.toNat) (cap - n.toNat)) (sv := .dead) (Below.refl _ _) hd1' trivial
    have hzsz : zz.cells.size = size := by simpa [dat, hzs] using hzlen
    obtain ⟨hst, r2⟩ := r1.spliced (vs := (Builtin.zeroCells zz.cells (es.length - n.toNat)).toList) (news := List.replicate (es.length - n.toNat) zs) (lo := n.toNat) hh hb hheap (by simp; omega)
      (by simp [Builtin.zeroCells, hzsz]) (fun cs hcs => by rw [List.eq_of_mem_replicate hcs]; exact hzs)
      (fun i cs j d hi hj => by
        have hi' : i < es.length - n.toNat := by have := (List.getElem?_eq_some_iff.1 hi).1; simpa using this
        rw [List.getElem?_replicate, if_pos hi'] at hi
        cases hi
        have hj' : j < size := by rw [← hzs]; exact (List.getElem?_eq_some_iff.1 hj).1
        obtain ⟨u, q1, _, q3⟩ := hzc j (.g (.d d)) (by simp [dat, hj])
        exact ⟨u, by rw [zero_at _ _ size i j hzsz hi' hj']; simpa using q1, q3⟩)
      (fun v hv => by
        obtain ⟨q, hq, rfl⟩ := List.getElem_of_mem hv
        have hq' : q < (es.length - n.toNat) * size := by simpa [Builtin.zeroCells, hzsz] using hq
        have hj : q % size < size := Nat.mod_lt _ hz
        obtain ⟨u, q1, q2, _⟩ := hzc (q % size) (.g (.d zs[q % size])) (by simp [dat, hzs, hj])
        have : (Builtin.zeroCells zz.cells (es.length - n.toNat)).toList[q]? = some u := by
          have hi : q / size < es.length - n.toNat := Nat.div_lt_of_lt_mul (by rw [Nat.mul_comm]; exact hq')
          have := zero_at zz.cells (es.length - n.toNat) size (q / size) (q % size) hzsz hi hj
          rw [Nat.mul_comm, Nat.div_add_mod] at this
          rw [this]; simpa using q1
        rw [List.getElem?_eq_getElem hq] at this
        rw [Option.some.inj this]; exact q2)
    have e4 : (execOp (a.put (some d1) (.slice (some A) (es.length - n.toNat) (cap - n.toNat))).eval ⟨none, .call { callee := .builtin .clear, args := #[.tmp d1], argTypes := #[T] }, ty2, pos2, af2, none⟩).run P w =
        .ok (.value (.tuple #[])) (w.setRow b (List.take (n.toNat * size) cur.toList ++ (Builtin.zeroCells zz.cells (es.length - n.toNat)).toList ++ List.drop (n.toNat * size + (Builtin.zeroCells zz.cells (es.length - n.toNat)).toList.length) cur.toList).toArray) := by
      cases hm : es.length - n.toNat with
      | zero =>
        have hw : w.setRow b (List.take (n.toNat * size) cur.toList ++ (Builtin.zeroCells zz.cells 0).toList ++ List.drop (n.toNat * size + (Builtin.zeroCells zz.cells 0).toList.length) cur.toList).toArray = w := by
          rw [hm] at hst
          simpa [Builtin.zeroCells, storeCells] using hst.symm
        rw [hw]
        rw [hm] at e3
        simp [execOp, resolve, e3, invoke, builtin, Builtin.clear_, run_underlying hT]
      | succ m =>
        rw [hA (by omega)] at e3 ⊢
        rw [hm] at e3 hst
        simp [execOp, resolve, e3, invoke, builtin, Builtin.clear_, run_underlying hT, hI.zero, hst]
    rw [e4]
    exact hK _ _ (hk.go _ _ ⟨_, r2⟩)⟩

end

/-- A CONTRACT OUT OF A WALK, for a function that keeps the row it is handed first -/
theorem Ct.introRow {P : Program} {f : Nat} {fn : Func} {code : Code} {T size : Nat} {es : List (List DV)} {args : List RG} {res : RS} {n : Nat} (hf : P.funcs[f]? = some fn) (hb : fn.body = some code) (hn : fn.ntmps = n) (hle : Nat.ble (args.length + 1) n = true)
    (h : ∀ M K w, G (⟨w, M, K, none⟩ : Cx P n) (bodyPost P fn (PostR M K w res)) [.c code] ⟨(0, .one (.own 0 es)) :: slots0 1 args, [(0, some (.row T size es true))]⟩) : Ct P f (.row T size es :: args) res := by
  refine ⟨fun M K w vs hM hK hl hargs => ?_⟩
  have hle' : vs.length ≤ n := by rw [hl]; simpa using hle
  have hl' : vs.length = args.length + 1 := by simpa using hl
  obtain ⟨hz, hsz, hrow⟩ := hargs 0 _ vs[0] rfl (by simp [hl'])
  obtain ⟨bo, hbo, hv⟩ : ∃ bo : Option Nat, (∀ b, bo = some b → K b ∧ b < w.heap.size) ∧
      ((bo = none ∧ es = [] ∧ ∃ ad, vs[0] = .slice ad 0 0) ∨ ∃ b cap cur, bo = some b ∧ vs[0] = .slice (some ⟨b, 0, none⟩) es.length cap ∧ es.length ≤ cap ∧ cap ≤ maxLen ∧ w.heap[b]? = some (.cells cur T (0, 0)) ∧ cur.size = cap * size ∧
        ∀ (i : Nat) (cs : List DV) (j : Nat) (d : DV), es[i]? = some cs → cs[j]? = some d → ∃ u, cur[i * size + j]? = some u ∧ RD (fun b' o => M b' o ∨ b' = b) w u d) := by
    rcases hrow with ⟨h3, h4⟩ | ⟨b, cap, cur, hB, hlt, hv, hle, hcm, hheap, hcs, hel⟩
    · exact ⟨none, fun b hb => (by cases hb), .inl ⟨rfl, h3, h4⟩⟩
    · exact ⟨some b, fun b' hb' => by cases hb'; exact ⟨hB, hlt⟩, .inr ⟨b, cap, cur, rfl, hv, hle, hcm, hheap, hcs, hel⟩⟩
  have hget0 : ∀ k e, hget [(0, some (HE.row T size es true))] k = some e → k = 0 ∧ e = .row T size es true := fun k e h => by
    rw [hget_cons] at h
    split at h
    · rename_i c; cases h; exact ⟨c.symm, rfl⟩
    · cases h
  have hmu : ∀ b o, Mu (⟨w, M, K, none⟩ : Cx P n) [(0, some (HE.row T size es true))] (fun _ => bo) b o → M b o ∨ bo = some b := by
    rintro b o (c | ⟨_, _, _, c, _⟩)
    · exact .inl c
    · exact .inr c
  have hmuK : ∀ b o, Mu (⟨w, M, K, none⟩ : Cx P n) [(0, some (HE.row T size es true))] (fun _ => bo) b o → M b o ∨ K b := fun b o c => (hmu b o c).imp id fun c => (hbo b c).1
  refine calls_of_wp hf hb ?_
  refine (h M K w).go _ w ⟨fun _ => bo, ⟨⟨rfl, rfl, rfl, Nat.le_refl _, fun _ _ _ => rfl⟩, hM, fun k k' e e' b h1 h2 _ _ => ?_, fun k e b h1 h2 => ⟨.inr (hbo b h2).1, (hbo b h2).2⟩, fun k e h1 => ?_, fun t sv hs => ?_, ?_, rfl, fun _ hb => by cases hb⟩⟩
  · exact (hget0 k e h1).1.trans (hget0 k' e' h2).1.symm
  · obtain ⟨rfl, rfl⟩ := hget0 k e h1
    refine ⟨hz, hsz, hv.imp (fun ⟨p1, p2, _⟩ => ⟨p1, p2⟩) fun ⟨b, cap, cur, p1, p2, p3, p4, p5, p6, p7⟩ => ⟨b, cur, p1, p5, by rw [p6]; exact Nat.mul_le_mul_right _ p3, fun i cs j d hi hj => let ⟨u, q1, q2⟩ := p7 i cs j d hi hj; ⟨u, q1, q2.less fun b' o c => (hmu b' o c).imp id fun c => by rw [p1] at c; cases c; rfl⟩⟩⟩
  · rw [sget_cons] at hs
    by_cases c : 0 = t
    · subst c
      rw [if_pos rfl] at hs; cases hs
      have hv0 : (vs.toArray ++ Array.replicate (fn.ntmps - vs.toArray.size) undef).getD 0 undef = vs[0] := by
        simp [Array.getElem?_append, hl']
      show SR _ _ _ _ _ ((vs.toArray ++ Array.replicate (fn.ntmps - vs.toArray.size) undef).getD 0 undef)
      rw [hv0]
      exact ⟨T, size, es, true, by rw [hget_cons, if_pos rfl], Nat.le_refl _, fun _ => hv.imp id fun ⟨b, cap, cur, p1, p2, p3, p4, p5, p6, p7⟩ => ⟨b, cap, cur, p1, p2, p3, p4, p5, p6⟩⟩
    · rw [if_neg c] at hs
      obtain ⟨ht, g, h1, rfl⟩ := slots0_get hs
      obtain ⟨t', rfl⟩ : ∃ t', t = t' + 1 := ⟨t - 1, by omega⟩
      rw [Nat.add_sub_cancel] at h1
      have hlt : t' + 1 < vs.length := by rw [hl']; have := (List.getElem?_eq_some_iff.1 h1).1; omega
      have hv0 : (vs.toArray ++ Array.replicate (fn.ntmps - vs.toArray.size) undef).getD (t' + 1) undef = vs[t' + 1] := by
        simp [Array.getElem?_append, hlt]
      show SR _ _ _ _ _ ((vs.toArray ++ Array.replicate (fn.ntmps - vs.toArray.size) undef).getD (t' + 1) undef)
      rw [hv0]
      have ha := hargs (t' + 1) g vs[t' + 1] (by simpa using h1) (by simp [hlt])
      cases g with
      | g a => exact GR.less hmuK ha
      | ep cs =>
        obtain ⟨b, o, hu, hc⟩ := ha
        exact ⟨b, o, hu, fun j d hj => let ⟨x, q1, q2, q3⟩ := hc j d hj; ⟨x, q1, fun c => q2 (hmuK _ _ c), q3.less hmuK⟩⟩
      | sem Φ => exact ha
      | ro Φ => exact ha
      | row T size es => trivial
      | pt h => trivial
  · simp [hn]; omega
end Go.Ab

/- The abstract machine: rows read where they lie; words for rows that are written over. Conditions: none but those that stand in each law. -/
namespace Go.Ab
open Go Go.RowKit

/-- 'l[i] = x' -/
def sets {α : Type} (l : List α) (i : Int) (x : α) : Option (List α) := if 0 ≤ i ∧ i < l.length then some (l.set i.toNat x) else none
/-- 'clear(l[n:])' -/
def zeroes {α : Type} (l : List α) (n : Int) (z : α) : Option (List α) := if 0 ≤ n ∧ n ≤ l.length then some (l.take n.toNat ++ List.replicate (l.length - n.toNat) z) else none

theorem sets_ok {α β : Type} {l l' : List α} {i : Int} {x : α} (h : sets l i x = some l') (f : α → β) : 0 ≤ i ∧ i < (l.map f).length ∧ (l.map f).set i.toNat (f x) = l'.map f := by
  unfold sets at h
  split at h
  · rename_i c
    cases h
    exact ⟨c.1, by rw [List.length_map]; exact c.2, by rw [List.map_set]⟩
  · cases h

theorem zeroes_ok {α : Type} {l l' : List α} {n : Int} {z : α} (h : zeroes l n z = some l') (f : α → List DV) : 0 ≤ n ∧ n ≤ (l.map f).length ∧ spliceR (l.map f) n.toNat (List.replicate ((l.map f).length - n.toNat) (f z)) = l'.map f := by
  unfold zeroes at h
  split at h
  · rename_i c
    cases h
    refine ⟨c.1, by rw [List.length_map]; exact c.2, ?_⟩
    have : n.toNat ≤ l.length := by omega
    simp only [spliceR, List.length_map, List.map_append, List.map_take, List.map_replicate, List.length_replicate]
    rw [List.drop_of_length_le (by simp; omega)]
    simp
  · cases h

theorem cloneNil {α β : Type} {n : Nat} {s r : List α} {f : α → β} (hs : s.map f = []) (hF : ((app n [] s).bind fun l => some l) = some r) : (some [] : Option (List α)) = some r := by
  have : s = [] := by simpa using hs
  subst this
  simpa [app] using hF

section
variable {P : Program} {nt : Nat} {C : Cx P nt} {dst : Nat} {ty : TypeId} {pos : String} {af : Array Edge} {gd : Option (Nat × Bool)}

/-- a row that is only appended to, seen as the slice that it is now -/
theorem op_moveView {t k' T size : Nat} {es : List (List DV)} (hd : Nat.blt dst nt = true) : OpL C (Oo dst (.move (.tmp t)) ty pos af gd) [(t, .one (.own k' es))] [(k', some (.row T size es false))] [(dst, .one (.g (.d (.sl size es))))] [] :=
  opl_pure hd rfl fun sl hp β a w hs hh r => ⟨a.eval (.tmp t), by simp [execOp], own_data r hh.1 (r.sl t _ hs.1) (fun _ _ h => h) (fun b o hb ho hm => by
    rcases hm with hM | ⟨k1, e1, h1, h2, h3⟩
    · obtain ⟨h4, h5⟩ := r.low b o hM
      rcases (r.own k' _ b hh.1 hb).1 with h6 | h6
      · omega
      · exact h5 h6
    · obtain rfl := r.inj k1 k' e1 _ b h1 hh.1 h2 hb
      rw [hh.1] at h1; cases h1
      simp only [HE.mutAt, Bool.false_eq_true, false_or] at h3
      omega)⟩

variable {Q0 : Exit → Act → World → Prop} {k : List KI}
/-- a row that was written over, as long as it was: its slots name what it is now -/
theorem G.renew {sl : SL} {hp : HL} {t kk T size : Nat} {es0 es : List (List DV)} {ex : Bool} (hs : sget sl t = some (.one (.own kk es0))) (hh : hget hp kk = some (.row T size es ex)) (hl : es0.length = es.length)
    (h : G C Q0 k ⟨(t, .one (.own kk es)) :: sl, hp⟩) : G C Q0 k ⟨sl, hp⟩ :=
  ⟨fun a w ⟨β, r⟩ => h.go a w ⟨β, r.slot (sv := .one (.own kk es)) (by
    obtain ⟨T', size', es', ex', h1, h2, h3⟩ := (r.sl t _ hs : BR C hp β w (.own kk es0) _)
    have h4 : HE.row T' size' es' ex' = HE.row T size es ex := Option.some.inj (h1.symm.trans hh)
    cases h4
    exact ⟨T, size, es, ex, h1, Nat.le_refl _, fun _ => h3 hl⟩)⟩⟩

theorem G.arr {sl sl' : SL} {hp hp' : HL} (h : G C Q0 k ⟨sl', hp'⟩) (hs : HasS sl sl') (hh : HasH hp hp') (hsc : wellId sl' hp' = true) : G C Q0 k ⟨sl, hp⟩ := G.keep hs hh hsc h

theorem G.retNil {fn : Func} {sl : SL} {hp : HL} {t T E size bytes : Nat} {zz : Value} (hres : fn.results = #[.tmp t]) (_hI : Info P E zz size bytes) (hz : Nat.blt 0 size = true) (hs : HasS sl [(t, .one (.x (.slice none 0 0)))]) :
    G C (bodyPost P fn (PostR C.M C.K C.w0 (.new T size []))) (.c .ret :: k) ⟨sl, hp⟩ := .mk <| fun a w ⟨β, r⟩ => by
  have hu : a.tmps.getD t undef = .slice none 0 0 := r.sl t _ hs.1
  refine wp_ret (Qof_ret ⟨r.df, a.tmps.getD t undef, ?_, a.tmps.getD t undef, rfl, r.keep, by simpa using hz, by simp, .inl ⟨rfl, none, hu⟩⟩)
  rw [results_eq, hres]
  simp [resF]
end

theorem sets_len {α β : Type} {l l' : List α} {i : Int} {x : α} (h : sets l i x = some l') (f : α → β) : (l.map f).length = (l'.map f).length := by
  unfold sets at h
  split at h
  · cases h; simp
  · cases h
theorem zeroes_len {α β : Type} {l l' : List α} {n : Int} {z : α} (h : zeroes l n z = some l') (f : α → β) : (l.map f).length = (l'.map f).length := by
  unfold zeroes at h
  split at h
  · cases h; simp; omega
  · cases h
end Go.Ab

/- A law's given arguments, opened: what the statement's reading says of them, as data of my own. Conditions: none but those that stand in each law. -/
namespace Go.Ab
open Go Go.RowKit Go.ChangeShapes Go.WideShapes Go.ChangeAt

/-- pair by pair -/
inductive F2 {α β : Type} (R : α → β → Prop) : List α → List β → Prop
  | nil : F2 R [] []
  | cons {a : α} {b : β} {xs : List α} {ys : List β} (h : R a b) (t : F2 R xs ys) : F2 R (a :: xs) (b :: ys)

/-- whatever is read as type t by the statement's reading, is one of X's, as my own reading has it -/
def Opens (P : Program) (t : TypeId) (X : Type) (enc : X → List DV) (wf : X → Prop) : Prop :=
  ∀ (H : Type) (e : TypeId × Value → H) (w : World) (base : Nat) (sp : Nat → Bool) (held : Bool) (fuel : Nat) (cs : List Value) (x : DataW H × List MemPlace),
    DataW.trod e P w base sp held fuel t cs = some x → (x.1.weights P t).all (· ≤ reachBytes) = true → ∃ v : X, wf v ∧ F2 (RD (fun _ _ => False) w) cs (enc v)

theorem weightsAll_mem {H : Type} {P : Program} {e : TypeId} : ∀ {ds : List (DataW H)}, (DataW.weightsAll P e ds).all (· ≤ reachBytes) = true → ∀ d, d ∈ ds → (d.weights P e).all (· ≤ reachBytes) = true
  | [], _, d, hd => by simp at hd
  | x :: ds, h, d, hd => by
    rw [DataW.weightsAll, List.all_append, Bool.and_eq_true] at h
    rcases List.mem_cons.1 hd with rfl | hd
    · exact h.1
    · exact weightsAll_mem h.2 d hd
theorem weightsEach_get {H : Type} {P : Program} : ∀ {ts : List TypeId} {ds : List (DataW H)}, (DataW.weightsEach P ts ds).all (· ≤ reachBytes) = true → ∀ (i : Nat) (t : TypeId) (d : DataW H), ts[i]? = some t → ds[i]? = some d → (d.weights P t).all (· ≤ reachBytes) = true
  | [], _, _, i, t, d, ht, _ => by simp at ht
  | _ :: _, [], _, i, t, d, _, hd => by simp at hd
  | t0 :: ts, d0 :: ds, h, i, t, d, ht, hd => by
    rw [DataW.weightsEach, List.all_append, Bool.and_eq_true] at h
    cases i with
    | zero => simp at ht hd; subst ht hd; exact h.1
    | succ i => exact weightsEach_get h.2 i t d (by simpa using ht) (by simpa using hd)

theorem Opens.int {P : Program} {t : TypeId} {k : IntKind} (ht : P.underlying t = some (.int k)) : Opens P t Int (fun x => [.v (.int k x)]) (fun x => (Lit.int k x).wf = true) := by
  intro H e w base sp held fuel cs x h _
  cases fuel with
  | zero => simp [DataW.trod] at h
  | succ n =>
    unfold DataW.trod at h
    rw [ht] at h
    split at h <;> simp_all
    obtain ⟨⟨rfl, hw⟩, _⟩ := h
    exact ⟨_, hw, .cons (RD.v _ rfl) .nil⟩

theorem Opens.bool {P : Program} {t : TypeId} (ht : P.underlying t = some .bool) : Opens P t Bool (fun x => [.v (.bool x)]) (fun _ => True) := by
  intro H e w base sp held fuel cs x h _
  cases fuel with
  | zero => simp [DataW.trod] at h
  | succ n =>
    unfold DataW.trod at h
    rw [ht] at h
    split at h
    · exact ⟨_, trivial, .cons (RD.v _ rfl) .nil⟩
    all_goals simp_all

theorem Opens.string {P : Program} {t : TypeId} (ht : P.underlying t = some .string) : Opens P t ByteArray (fun x => [.v (.string x)]) (fun x => x.size ≤ reachBytes) := by
  intro H e w base sp held fuel cs x h hz
  cases fuel with
  | zero => simp [DataW.trod] at h
  | succ n =>
    unfold DataW.trod at h
    rw [ht] at h
    split at h <;> simp_all
    obtain ⟨_, rfl⟩ := h
    refine ⟨_, ?_, .cons (RD.v _ rfl) .nil⟩
    have := of_decide_eq_true (by simpa [DataW.weights] using hz)
    exact this

theorem exists_list {X : Type} (n : Nat) (p : Nat → X → Prop) (h : ∀ i, i < n → ∃ x, p i x) : ∃ l : List X, l.length = n ∧ ∀ i x, l[i]? = some x → p i x := by
  induction n with
  | zero => exact ⟨[], rfl, fun i x h => by simp at h⟩
  | succ n ih =>
    obtain ⟨l, h1, h2⟩ := ih fun i hi => h i (by omega)
    obtain ⟨x, hx⟩ := h n (by omega)
    refine ⟨l ++ [x], by simp [h1], fun i y hy => ?_⟩
    by_cases c : i < l.length
    · rw [List.getElem?_append_left c] at hy; exact h2 i y hy
    · rw [List.getElem?_append_right (by omega)] at hy
      have : i - l.length = 0 := by
        have := (List.getElem?_eq_some_iff.1 hy).1
        simp at this; omega
      rw [this] at hy
      simp at hy
      subst hy
      rw [show i = n by omega]; exact hx

theorem forall2_get {α β : Type} {R : α → β → Prop} : ∀ {xs : List α} {ys : List β}, F2 R xs ys → xs.length = ys.length ∧ ∀ (j : Nat) (y : β), ys[j]? = some y → ∃ x, xs[j]? = some x ∧ R x y
  | _, _, .nil => ⟨rfl, fun j y h => by simp at h⟩
  | _, _, .cons h t => by
    obtain ⟨h1, h2⟩ := forall2_get t
    refine ⟨by simp [h1], fun j y hj => ?_⟩
    cases j with
    | zero => simp at hj; subst hj; exact ⟨_, rfl, h⟩
    | succ j => simpa using h2 j y (by simpa using hj)

theorem mapM_cells {w : World} {base n : Nat} {a : Addr} {cs : List Value} (h : w.cells? base a n = some cs) : cs.length = n ∧ ∀ j, j < n → w.cell? (a.add j) = cs[j]? := by
  unfold World.cells? at h
  split at h
  · refine ⟨by simpa using mapM_some_length h, fun j hj => ?_⟩
    have := mapM_some_get h j j (by simp [hj])
    exact this
  · cases h

theorem Opens.slice {P : Program} {t e : TypeId} {size : Nat} {X : Type} {enc : X → List DV} {wf : X → Prop} (ht : P.underlying t = some (.slice e)) (h : Opens P e X enc wf) (hc : P.cellsOf e = size) (hs : ∀ v, (enc v).length = size) (hpos : Nat.blt 0 size = true) (hby : Nat.blt 0 (P.bytesOf e) = true) :
    Opens P t (List X) (fun l => [.sl size (l.map enc)]) (fun l => l.length ≤ reachBytes ∧ ∀ x, x ∈ l → wf x) := by
  intro H en w base sp held fuel cs x hx hz
  rcases DataW.trod_slice ht hx with ⟨rfl, _⟩ | ⟨a, len, cap, elems, rest, n, _, rfl, rfl, hb, hl, hm, hlen, hel, _, _⟩
  · exact ⟨[], ⟨Nat.zero_le _, fun x h => by simp at h⟩, .cons (RD.nil none 0 size (Nat.zero_le _)) .nil⟩
  · have hpos : 0 < size := by simpa using hpos
    have hby : 0 < P.bytesOf e := by simpa using hby
    simp only [DataW.weights, ht, List.all_cons, List.all_append, Bool.and_eq_true, decide_eq_true_eq, List.length_map] at hz
    obtain ⟨hz1, hz2, _⟩ := hz
    have hlr : len ≤ reachBytes := by
      refine Nat.le_trans ?_ hz1
      have : elems.length + rest.length ≤ (elems.length + rest.length) * P.bytesOf e := Nat.le_mul_of_pos_right _ hby
      omega
    have key : ∀ i, i < len → ∃ v : X, wf v ∧ ∃ csi, w.cells? base (a.add (i * size)) size = some csi ∧ F2 (RD (fun _ _ => False) w) csi (enc v) := by
      intro i hi
      have h1 := hel i hi
      rw [hc] at h1
      have h2 : elems[i]? = some elems[i] := by simp [hlen, hi]
      rw [h2] at h1
      obtain ⟨csi, h3, h4⟩ := Option.bind_eq_some_iff.1 h1
      obtain ⟨v, h5, h6⟩ := h H en w base sp held n csi _ h4 (weightsAll_mem hz2 _ (List.mem_map_of_mem (List.getElem_mem _)))
      exact ⟨v, h5, csi, h3, h6⟩
    obtain ⟨l, hll, hlp⟩ := exists_list len _ key
    refine ⟨l, ⟨by rw [hll]; exact hlr, fun x hx => ?_⟩, .cons ?_ .nil⟩
    · obtain ⟨i, hi, rfl⟩ := List.getElem_of_mem hx
      exact (hlp i l[i] (by simp [hi])).1
    · have hmem : ∀ i x, l[i]? = some x → ∀ j d, (enc x)[j]? = some d → ∃ u, w.cell? ((a.add (i * size)).add j) = some u ∧ RD (fun _ _ => False) w u d := by
        intro i x hi j d hj
        obtain ⟨_, csi, h3, h6⟩ := hlp i x hi
        obtain ⟨h7, h8⟩ := mapM_cells h3
        obtain ⟨u, h9, h10⟩ := (forall2_get h6).2 j d hj
        have : j < size := by rw [← hs x]; exact (List.getElem?_eq_some_iff.1 hj).1
        exact ⟨u, by rw [h8 j this]; exact h9, h10⟩
      have hspot : l ≠ [] → a = ⟨a.block, a.off, none⟩ := by
        intro hne
        obtain ⟨x, hx⟩ : ∃ x, l[0]? = some x := ⟨l[0]'(List.length_pos_iff.2 hne), by simp [List.length_pos_iff.2 hne]⟩
        obtain ⟨u, h9, _⟩ := hmem 0 x hx 0 ((enc x)[0]'(by rw [hs]; exact hpos)) (by simp [hs, hpos])
        have e1 : (a.add (0 * size)).add 0 = a := by simp [Addr.add]
        rw [e1] at h9
        obtain ⟨b, o, s⟩ := a
        cases s with
        | none => rfl
        | some s => simp only [World.cell?] at h9; split at h9 <;> simp at h9
      have hlm : (l.map enc).length = len := by simp [hll]
      rw [← hlm]
      refine RD.sl (some a) cap size (l.map enc) (fun i j => (w.cell? ⟨a.block, a.off + (i * size + j), none⟩).getD undef) a.block a.off (by omega) hm (fun hne => by rw [hspot (by simpa using hne)]) (fun cs hcs => ?_) (fun i cs j d hi hj => ?_) (fun i cs j d hi hj => ?_)
      · obtain ⟨x, _, rfl⟩ := List.mem_map.1 hcs; exact hs x
      all_goals
        rw [List.getElem?_map, Option.map_eq_some_iff] at hi
        obtain ⟨x, hx, rfl⟩ := hi
        obtain ⟨u, h9, h10⟩ := hmem i x hx j d hj
        have hne : l ≠ [] := fun c => by rw [c] at hx; simp at hx
        have e1 : (a.add (i * size)).add j = ⟨a.block, a.off + (i * size + j), none⟩ := by
          have := hspot hne
          rw [this, Addr.add_lit, Addr.add_lit]
          simp [Nat.add_assoc]
        rw [e1] at h9
      · exact ⟨by simp [h9], id⟩
      · simpa [h9] using h10

/-- the fields of a struct, from one on -/
def OpenF (P : Program) (fs : List Field) (off : Nat) (X : Type) (enc : X → List DV) (wf : X → Prop) : Prop :=
  ∀ (H : Type) (e : TypeId × Value → H) (w : World) (base : Nat) (sp : Nat → Bool) (held : Bool) (fuel : Nat) (cs : List Value),
    (∀ f, f ∈ fs → ∃ x, DataW.trod e P w base sp held fuel f.type ((cs.drop f.offset).take (P.cellsOf f.type)) = some x ∧ (x.1.weights P f.type).all (· ≤ reachBytes) = true) → cs.length = off + (fs.map fun f => P.cellsOf f.type).sum →
    ∃ v : X, wf v ∧ F2 (RD (fun _ _ => False) w) (cs.drop off) (enc v)

theorem OpenF.nil {P : Program} {off : Nat} : OpenF P [] off Unit (fun _ => []) (fun _ => True) := by
  intro H e w base sp held fuel cs _ hl
  refine ⟨(), trivial, ?_⟩
  rw [List.drop_of_length_le (by simp at hl; omega)]
  exact .nil

theorem forall2_append {α β : Type} {R : α → β → Prop} {xs xs' : List α} {ys ys' : List β} (h : F2 R xs ys) (h' : F2 R xs' ys') : F2 R (xs ++ xs') (ys ++ ys') := by
  induction h with
  | nil => exact h'
  | cons a b ih => exact .cons a ih

theorem OpenF.cons {P : Program} {f : Field} {fs : List Field} {off size off' : Nat} {A B : Type} {encA : A → List DV} {encB : B → List DV} {wfA : A → Prop} {wfB : B → Prop}
    (ha : Opens P f.type A encA wfA) (hb : OpenF P fs off' B encB wfB) (ho : f.offset = off) (hc : P.cellsOf f.type = size) (ho' : off + size = off') :
    OpenF P (f :: fs) off (A × B) (fun x => encA x.1 ++ encB x.2) (fun x => wfA x.1 ∧ wfB x.2) := by
  subst ho hc ho'
  intro H e w base sp held fuel cs hall hl
  obtain ⟨x, hx, hxz⟩ := hall f (by simp)
  obtain ⟨v, h1, h2⟩ := ha H e w base sp held fuel _ x hx hxz
  obtain ⟨u, h3, h4⟩ := hb H e w base sp held fuel cs (fun g hg => hall g (by simp [hg])) (by rw [hl, List.map_cons, List.sum_cons]; omega)
  refine ⟨(v, u), ⟨h1, h3⟩, ?_⟩
  have : cs.drop f.offset = (cs.drop f.offset).take (P.cellsOf f.type) ++ cs.drop (f.offset + P.cellsOf f.type) := by
    rw [← List.drop_drop]; exact (List.take_append_drop _ _).symm
  rw [this]
  exact forall2_append h2 h4

theorem Opens.struct {P : Program} {t : TypeId} {fs : Array Field} {X Y : Type} {encX : X → List DV} {encY : Y → List DV} {wf : X → Prop} (ht : P.underlying t = some (.struct fs)) (h : OpenF P fs.toList 0 X encX wf)
    (hc : P.cellsOf t = (fs.toList.map fun f => P.cellsOf f.type).sum) (g : X → Y) (wfY : Y → Prop) (hg : ∀ x, encY (g x) = encX x) (hw : ∀ x, wf x → wfY (g x)) : Opens P t Y encY wfY := by
  intro H e w base sp held fuel cs x hx hz
  obtain ⟨xs, n, rfl, rfl, hlen, hxl, hf⟩ := DataW.trod_struct ht hx
  simp only [DataW.weights, ht] at hz
  obtain ⟨v, h1, h2⟩ := h H e w base sp held n cs (fun f hm => by
    obtain ⟨i, hi, rfl⟩ := List.getElem_of_mem hm
    have hi' : i < fs.size := by simpa using hi
    have := hf i fs[i] (by simp [hi'])
    refine ⟨xs[i]'(by omega), ?_, ?_⟩
    · rw [Array.getElem_toList, this]
      simp [hxl, hi']
    · exact weightsEach_get hz i _ _ (by simp [hi']) (by simp [hxl, hi'])) (by rw [hlen, hc]; omega)
  exact ⟨g v, hw v h1, by rw [hg]; simpa using h2⟩

theorem F2.sing {α β : Type} {R : α → β → Prop} {x : α} {y : β} (h : F2 R [x] [y]) : R x y := by
  cases h; assumption

section
variable {P : Program} {H : Type} {e : TypeId × Value → H} {w : World} {base b0 : Nat} {r : Reach} {sp : Nat → Bool} {held : Bool} {v : Value} {d : DataW H} {ps : List MemPlace} {t : TypeId}

theorem Opens.argInt {k : IntKind} {X : Type} {dv : X → DV} {wf : X → Prop} (h : Opens P t X (fun x => [dv x]) wf) (ht : P.underlying t = some (.int k))
    (hv : Value.okWide P w r b0 t v) (hd : DataW.Trod e P w base sp held t v d ps) (hz : (d.weights P t).all (· ≤ reachBytes) = true) : ∃ x : X, wf x ∧ ArgR P (fun _ _ => False) (fun _ => False) w (.g (.d (dv x))) v := by
  obtain ⟨n, rfl⟩ := okWide_int ht hv
  obtain ⟨fuel, hf⟩ := hd
  obtain ⟨x, h1, h2⟩ := h H e w base sp held fuel _ _ hf hz
  exact ⟨x, h1, RD.less (fun _ _ c => c.elim id id) (show RD _ _ _ _ from F2.sing h2)⟩
theorem Opens.argString {X : Type} {dv : X → DV} {wf : X → Prop} (h : Opens P t X (fun x => [dv x]) wf) (ht : P.underlying t = some .string)
    (hv : Value.okWide P w r b0 t v) (hd : DataW.Trod e P w base sp held t v d ps) (hz : (d.weights P t).all (· ≤ reachBytes) = true) : ∃ x : X, wf x ∧ ArgR P (fun _ _ => False) (fun _ => False) w (.g (.d (dv x))) v := by
  obtain ⟨n, rfl⟩ := okWide_string ht hv
  obtain ⟨fuel, hf⟩ := hd
  obtain ⟨x, h1, h2⟩ := h H e w base sp held fuel _ _ hf hz
  exact ⟨x, h1, RD.less (fun _ _ c => c.elim id id) (show RD _ _ _ _ from F2.sing h2)⟩
theorem Opens.argBool {X : Type} {dv : X → DV} {wf : X → Prop} (h : Opens P t X (fun x => [dv x]) wf) (ht : P.underlying t = some .bool)
    (hv : Value.okWide P w r b0 t v) (hd : DataW.Trod e P w base sp held t v d ps) (hz : (d.weights P t).all (· ≤ reachBytes) = true) : ∃ x : X, wf x ∧ ArgR P (fun _ _ => False) (fun _ => False) w (.g (.d (dv x))) v := by
  obtain ⟨n, rfl⟩ := okWide_bool ht hv
  obtain ⟨fuel, hf⟩ := hd
  obtain ⟨x, h1, h2⟩ := h H e w base sp held fuel _ _ hf hz
  exact ⟨x, h1, RD.less (fun _ _ c => c.elim id id) (show RD _ _ _ _ from F2.sing h2)⟩
theorem Opens.argSlice {el : Nat} {X : Type} {dv : X → DV} {wf : X → Prop} (h : Opens P t X (fun x => [dv x]) wf) (ht : P.underlying t = some (.slice el))
    (hv : Value.okWide P w r b0 t v) (hd : DataW.Trod e P w base sp held t v d ps) (hz : (d.weights P t).all (· ≤ reachBytes) = true) : ∃ x : X, wf x ∧ ArgR P (fun _ _ => False) (fun _ => False) w (.g (.d (dv x))) v := by
  obtain ⟨_, _, _, rfl⟩ := okWide_slice ht hv
  obtain ⟨fuel, hf⟩ := hd
  obtain ⟨x, h1, h2⟩ := h H e w base sp held fuel _ _ hf hz
  exact ⟨x, h1, RD.less (fun _ _ c => c.elim id id) (show RD _ _ _ _ from F2.sing h2)⟩
theorem Opens.argStruct {fs : Array Field} {X : Type} {enc : X → List DV} {wf : X → Prop} (h : Opens P t X enc wf) (ht : P.underlying t = some (.struct fs))
    (hv : Value.okWide P w r b0 t v) (hd : DataW.Trod e P w base sp held t v d ps) (hz : (d.weights P t).all (· ≤ reachBytes) = true) : ∃ x : X, wf x ∧ ArgR P (fun _ _ => False) (fun _ => False) w (.g (.agg (enc x))) v := by
  obtain ⟨us, rfl, _⟩ := okWide_struct ht hv
  obtain ⟨fuel, hf⟩ := hd
  obtain ⟨x, h1, h2⟩ := h H e w base sp held fuel _ _ hf hz
  have h3 := forall2_get h2
  refine ⟨x, h1, us, rfl, by simpa [Value.cells] using h3.1, fun j d hj => ?_⟩
  obtain ⟨u, h4, h5⟩ := h3.2 j d hj
  exact ⟨u, by simpa [Value.cells] using h4, h5.less (fun _ _ c => c.elim id id)⟩
end

theorem args1 {P : Program} {M : Nat → Nat → Prop} {K : Nat → Prop} {w : World} {g0 : RG} {v0 : Value} (h0 : ArgR P M K w g0 v0) :
    ∀ (i : Nat) (g : RG) (v : Value), [g0][i]? = some g → [v0][i]? = some v → ArgR P M K w g v := by
  intro i g v hg hv
  match i with
  | 0 => simp at hg hv; subst hg hv; exact h0
  | i + 1 => simp at hg
theorem argsC {P : Program} {M : Nat → Nat → Prop} {K : Nat → Prop} {w : World} {g0 : RG} {v0 : Value} {gs : List RG} {vs : List Value} (h0 : ArgR P M K w g0 v0)
    (h : ∀ (i : Nat) (g : RG) (v : Value), gs[i]? = some g → vs[i]? = some v → ArgR P M K w g v) :
    ∀ (i : Nat) (g : RG) (v : Value), (g0 :: gs)[i]? = some g → (v0 :: vs)[i]? = some v → ArgR P M K w g v := by
  intro i g v hg hv
  match i with
  | 0 => simp at hg hv; subst hg hv; exact h0
  | i + 1 => exact h i g v (by simpa using hg) (by simpa using hv)
/-- the closed facts of a row, one by one: each is reckoned by itself, so that none takes the room of all -/
theorem joined_mk {P : Program} {f : FuncId} {fn : Func} {s : ChangeSpec} {c : OpenClaim}
    (k1 : (c.wf (OpenSpec.ofChange s)) = true)
    (k2 : (laidOutB P) = true)
    (k3 : (mapsRowed P) = true)
    (k4 : (fn.params.all (P.readableRec ·)) = true)
    (k5 : (namedTie P c.named s.vars) = true)
    (k6 : ((c.stops == [])) = true)
    (k7 : ((P.stops == [])) = true)
    (k8 : ((c.knobs == [])) = true)
    (k9 : ((P.stopKnobs == [])) = true)
    (k10 : ((c.inPlace == P.inPlace f)) = true)
    (k11 : ((c.unfollowed == P.unfollowed f)) = true)
    (k12 : ((c.recurses == P.recurses f)) = true)
    (k13 : ((c.named == P.varsNamed f)) = true)
    (k14 : ((c.maps == (fn.params.toList ++ s.plain.varTypes P).any (P.mapsRec ·))) = true)
    (k15 : ((c.ifaces == (fn.params.toList ++ s.plain.varTypes P).any (P.ifacesRec ·))) = true)
    (k16 : ((c.mapsOut == P.mapsAmong fn.resultTypes.toList)) = true)
    (k17 : ((c.loops == (fn.params.toList ++ s.plain.varTypes P).any (P.loopsFrom ·))) = true)
    (k18 : ((c.wideKeys == (fn.params.toList ++ s.plain.varTypes P ++ fn.resultTypes.toList).any (P.wideKeysFrom ·))) = true)
    (k19 : (s.vars.all (P.varReadable ·)) = true)
    (k20 : (fn.resultTypes.all (fun t => P.readableRec t && decide (t < P.types.size))) = true)
    (k21 : ((c.ifacesOut == fn.resultTypes.toList.any (P.ifacesRec ·))) = true)
    (k22 : ((c.loopsOut == fn.resultTypes.toList.any (P.loopsFrom ·))) = true)
    (k23 : ((c.plainKeys == P.plainKeys)) = true)
    (k24 : (c.shortTexts.isNone) = true)
    (k25 : (P.stopsHeard) = true)
    (k26 : (P.mayEnter) = true)
    (k27 : ((c.lifted == P.liftsFinal)) = true)
    (k28 : ((P.make == some c.make)) = true)
    (k29 : ((c.kinds == (if c.domain.isEmpty then [] else fn.params.toList.map fun t => match P.underlying t with | some (.int k) => some k | _ => none))) = true)
    (k30 : ((c.pinned == c.pinnedBy)) = true)
    (k31 : ((c.veiled == (fn.params.toList ++ s.plain.varTypes P ++ fn.resultTypes.toList).any (P.veiledRec ·))) = true)
    (k32 : (c.veiledFits P fn.params.toList (fn.params.toList ++ s.plain.varTypes P ++ fn.resultTypes.toList)) = true) : joinedFacts P f fn s c = true := by
  simp only [joinedFacts, Bool.and_eq_true]
  exact ⟨⟨⟨⟨⟨⟨⟨⟨⟨⟨⟨⟨⟨⟨⟨⟨⟨⟨⟨⟨⟨⟨⟨⟨⟨⟨⟨⟨⟨⟨⟨k1, k2⟩, k3⟩, k4⟩, k5⟩, k6⟩, k7⟩, k8⟩, k9⟩, k10⟩, k11⟩, k12⟩, k13⟩, k14⟩, k15⟩, k16⟩, k17⟩, k18⟩, k19⟩, k20⟩, k21⟩, k22⟩, k23⟩, k24⟩, k25⟩, k26⟩, k27⟩, k28⟩, k29⟩, k30⟩, k31⟩, k32⟩
end Go.Ab

/- The abstract machine: a range over a text. Conditions: none but those that stand in each law. -/
namespace Go.Ab
open Go Go.RowKit

section
variable {P : Program} {nt : Nat} {C : Cx P nt} {dst : Nat} {ty : TypeId} {pos : String} {af : Array Edge} {gd : Option (Nat × Bool)} {x : Operand} {R : List (Nat × SV)}

/-- 'range s': a new iterator, at the text's beginning -/
theorem op_range {T k : Nat} {s : ByteArray} (ht : P.underlying T = some .string) (hx : Ev x (bS s) R) (hd : Nat.blt dst nt = true) (hk0 : Nat.blt 0 k = true := by rfl) :
    OpL C (Oo dst (.range T x) ty pos af gd) R [(k, none)] [(dst, .one (.ptr k 0))] [(k, some (.it s 0))] := by
  refine ⟨fun sl hp hs hh a w K Q ⟨β, r⟩ hK => ?_⟩
  have hv := BR.v_inv (hx.ok hs r)
  unfold Oper.wp
  have : (execOp a.eval (Oo dst (.range T x) ty pos af gd)).run P w = .ok (.value (.pointer (some ⟨w.heap.size, 0, none⟩))) (w.alloc (.stringIter s 0)) := by
    simp [execOp, hv, Instr.range, run_underlying ht, newObj, Sem.run, Result.andThen]
  rw [this]
  have h := (r.new (e := .it s 0) (bo := some w.heap.size) hh.1 hk0 (below_alloc w (.stringIter s 0)) (fun b hb => by cases hb; exact ⟨rfl, by simp⟩) fun _ _ =>
    ⟨w.heap.size, by simp [upd], heap_alloc_new w _⟩).1
  exact hK _ _ ⟨_, h.put (Below.refl _ _) (by simpa using hd) ⟨⟨.it s 0, by rw [hget_cons, if_pos rfl], rfl⟩, w.heap.size, by simp [upd], rfl⟩⟩

/-- 'next', behind the text's end -/
theorem op_nextF {k p : Nat} {s : ByteArray} (hp0 : decide (p < s.size) = false) (hx : Ev x (.ptr k 0) R) (hd : Nat.blt dst nt = true) :
    OpL C (Oo dst (.next x true) ty pos af gd) R [(k, some (.it s p))] [(dst, .tup [bB false])] [] :=
  opl_pure hd rfl fun sl hp β a w hs hh r => by
    obtain ⟨_, b, hb, hu⟩ := hx.ok hs r
    obtain ⟨b', hb', hheap⟩ := r.hp k _ hh.1
    rw [hb] at hb'; cases hb'
    have hn : ¬ p < s.size := of_decide_eq_false hp0
    refine ⟨.tuple #[.bool false], ?_, ⟨#[.bool false], rfl, rfl, fun i c hi => ?_⟩⟩
    · have hg : (getObj b).run P w = .ok (.stringIter s p) w := by simp [getObj, Sem.run, hheap]
      simp [execOp, hu, Instr.next, hg, hn]
    · cases i with
      | zero => simp at hi; subst hi; exact ⟨_, rfl, RD.v _ rfl⟩
      | succ i => simp at hi

/-- 'next', within the text -/
theorem op_nextT {k p : Nat} {s : ByteArray} (hp0 : decide (p < s.size) = true) (hx : Ev x (.ptr k 0) R) (hd : Nat.blt dst nt = true) :
    OpL C (Oo dst (.next x true) ty pos af gd) R [(k, some (.it s p))] [(dst, .tup [bB true, bI .i64 (p : Int), bI .i32 ((Utf8.decode s p).1 : Int)])] [(k, some (.it s (p + (Utf8.decode s p).2)))] := by
  refine ⟨fun sl hp hs hh a w K Q ⟨β, r⟩ hK => ?_⟩
  obtain ⟨_, b, hb, hu⟩ := hx.ok hs r
  obtain ⟨b', hb', hheap⟩ := r.hp k _ hh.1
  rw [hb] at hb'; cases hb'
  have hn : p < s.size := of_decide_eq_true hp0
  generalize hw1 : ({ w with heap := w.heap.setIfInBounds b (.stringIter s (p + (Utf8.decode s p).2)) } : World) = w1
  have hbl : b < w.heap.size := (Array.getElem?_eq_some_iff.1 hheap).1
  have hnew : w1.heap[b]? = some (.stringIter s (p + (Utf8.decode s p).2)) := by rw [← hw1]; simp [hbl]
  have hoth : ∀ i, i ≠ b → w1.heap[i]? = w.heap[i]? := fun i hi => by rw [← hw1]; rw [Array.getElem?_setIfInBounds, if_neg (fun c : b = i => hi c.symm)]
  have hsize : w1.heap.size = w.heap.size := by rw [← hw1]; simp
  unfold Oper.wp
  have : (execOp a.eval (Oo dst (.next x true) ty pos af gd)).run P w = .ok (.value (.tuple #[.bool true, .int .i64 (p : Int), .int .i32 ((Utf8.decode s p).1 : Int)])) w1 := by
    have hg : (getObj b).run P w = .ok (.stringIter s p) w := by simp [getObj, Sem.run, hheap]
    have hst : (setObj b (.stringIter s (p + (Utf8.decode s p).2))).run P w = .ok () w1 := by rw [← hw1]; simp only [setObj, Sem.run, hheap]
    simp [execOp, hu, Instr.next, hg, hn, hst, goInt]
  rw [this]
  have h := (r.chg (e := .it s (p + (Utf8.decode s p).2)) (bo := β k) (w1 := w1) hh.1 (by rw [← hw1]) (by rw [← hw1]) (by rw [← hw1]) (by omega) (fun i _ hi => hoth i (fun c => hi (by rw [c, hb]))) (fun _ _ _ _ _ c => absurd trivial c)
    (.inl ⟨rfl, fun _ h => h⟩) ⟨rfl, fun _ => rfl⟩ (fun es0 u h => by obtain ⟨_, _, _, _, h1, _⟩ := h; rw [hh.1] at h1; cases h1) (fun _ _ => ⟨b, by simp [upd, hb], hnew⟩)).1
  refine hK _ _ ⟨_, h.put (Below.refl _ _) (by simpa using hd) ⟨#[.bool true, .int .i64 (p : Int), .int .i32 ((Utf8.decode s p).1 : Int)], rfl, rfl, fun i c hi => ?_⟩⟩
  match i with
  | 0 => simp at hi; subst hi; exact ⟨_, rfl, RD.v _ rfl⟩
  | 1 => simp at hi; subst hi; exact ⟨_, rfl, RD.v _ rfl⟩
  | 2 => simp at hi; subst hi; exact ⟨_, rfl, RD.v _ rfl⟩
  | i + 3 => simp at hi

/-- a row that was appended to, and is only seen from now on -/
theorem OpL.view {o : Oper} {Rs : List (Nat × SV)} {Rh : List (Nat × Option HE)} {k T size : Nat} {es : List (List DV)} (h : OpL C o Rs Rh [(dst, .one (.own k es))] [(k, some (.row T size es false))]) :
    OpL C o Rs Rh [(dst, .one (.g (.d (.sl size es))))] [(k, some (.row T size es false))] :=
  ⟨fun sl hp hs hh a w K Q r hK => h.go sl hp hs hh a w K Q r fun a' w' ⟨β, q⟩ => hK a' w' ⟨β, q.keep, q.low, q.inj, q.own, q.hp, fun t sv hsv => by
    have hk : hget ((k, some (.row T size es false)) :: hp) k = some (.row T size es false) := by rw [hget_cons, if_pos rfl]
    simp only [List.cons_append, List.nil_append, sget_cons] at hsv
    by_cases c : dst = t
    · rw [if_pos c] at hsv
      cases hsv
      have h1 : SR C _ β w' (.one (.own k es)) (a'.tmps.getD t undef) := q.sl t _ (by simp only [List.cons_append, List.nil_append, sget_cons]; rw [if_pos c])
      exact own_data q hk h1 (fun _ _ h => h) (fun b o hb ho hm => by
        rcases hm with hM | ⟨k1, e1, h1, h2, h3⟩
        · obtain ⟨h4, h5⟩ := q.low b o hM
          rcases (q.own k _ b hk hb).1 with h6 | h6
          · omega
          · exact h5 h6
        · obtain rfl := q.inj k1 k e1 _ b h1 hk h2 hb
          have h1 : hget ((k1, some (.row T size es false)) :: hp) k1 = some e1 := h1
          rw [hk] at h1; cases h1
          simp only [HE.mutAt, Bool.false_eq_true, false_or] at h3
          omega)
    · rw [if_neg c] at hsv
      exact q.sl t sv (by simp only [List.cons_append, List.nil_append, sget_cons]; rw [if_neg c]; exact hsv), q.size, q.df, q.fx⟩⟩

variable {Q0 : Exit → Act → World → Prop} {k : List KI}
/-- the ways of a region meet again behind some of its operations -/
theorem G.joinL {T : Type} {ops : Array Oper} {l : List Oper} {st : St} (n : Nat) (S : T → St) (hyp : T → Prop) (h1 : ∀ x, hyp x → G C Q0 (.l ops (l.drop n) :: k) (S x))
    (h2 : (∀ x, hyp x → G C Q0 (.l ops (l.drop n) :: k) (S x)) → G C Q0 (.l ops l :: k) st) : G C Q0 (.l ops l :: k) st := h2 h1
end
end Go.Ab

/- The abstract machine: arrays in blocks, read and written by an index. Conditions: none but those that stand in each law. -/
namespace Go.Ab
open Go Go.RowKit Go.ChangeShapes Go.WideShapes Go.ChangeAt

/-- 'a[i]' of an array of n -/
def aidx {α : Type} (n : Nat) (l : List α) (i : Int) : Option α := if 0 ≤ i ∧ i < n then l[i.toNat]? else none
/-- 'a[i] = x' -/
def asets {α : Type} (n : Nat) (l : List α) (i : Int) (x : α) : Option (List α) := if 0 ≤ i ∧ i < n ∧ i < l.length then some (l.set i.toNat x) else none

theorem aidx_ok {α : Type} {n : Nat} {l : List α} {i : Int} {x : α} (h : aidx n l i = some x) : 0 ≤ i ∧ i < n ∧ l[i.toNat]? = some x := by
  unfold aidx at h
  split at h
  · rename_i c; exact ⟨c.1, c.2, h⟩
  · cases h
theorem asets_ok {α : Type} {n : Nat} {l l' : List α} {i : Int} {x : α} (h : asets n l i x = some l') : 0 ≤ i ∧ i < n ∧ i.toNat < l.length ∧ l' = l.set i.toNat x := by
  unfold asets at h
  split at h
  · rename_i c; cases h; exact ⟨c.1, c.2.1, by omega, rfl⟩
  · cases h

theorem flat_len {α β : Type} {f : α → List β} {size : Nat} (hs : ∀ x, (f x).length = size) (l : List α) : (l.flatMap f).length = l.length * size := by
  induction l with
  | nil => simp
  | cons a l ih => rw [List.flatMap_cons, List.length_append, hs, ih, List.length_cons, Nat.succ_mul, Nat.add_comm]

theorem flat_at {α β : Type} {f : α → List β} {size : Nat} (hs : ∀ x, (f x).length = size) {l : List α} {i : Nat} {x : α} (h : l[i]? = some x) : ((l.flatMap f).drop (i * size)).take size = f x := by
  induction l generalizing i with
  | nil => simp at h
  | cons a l ih =>
    rw [List.flatMap_cons]
    cases i with
    | zero => simp at h; subst h; simp [← hs a]
    | succ i =>
      have h : l[i]? = some x := by simpa using h
      rw [Nat.succ_mul, Nat.add_comm, List.drop_append, hs, List.drop_of_length_le (by rw [hs]; omega), Nat.add_sub_cancel_left]
      exact ih h

theorem flat_splice {α β : Type} {f : α → List β} {size : Nat} (hs : ∀ x, (f x).length = size) {l : List α} {i : Nat} (x : α) (h : i < l.length) :
    (l.flatMap f).take (i * size) ++ f x ++ (l.flatMap f).drop (i * size + (f x).length) = (l.set i x).flatMap f := by
  induction l generalizing i with
  | nil => simp at h
  | cons a l ih =>
    cases i with
    | zero => simp [List.flatMap_cons, hs]
    | succ i =>
      have h := ih (i := i) (by simpa using h)
      rw [List.set_cons_succ, List.flatMap_cons, List.flatMap_cons, ← h, Nat.succ_mul, Nat.add_comm (i * size), Nat.add_assoc size, List.take_append, List.drop_append, hs]
      rw [List.take_of_length_le (by rw [hs]; omega), List.drop_of_length_le (by rw [hs]; omega), Nat.add_sub_cancel_left, Nat.add_sub_cancel_left]
      simp [hs]

section
variable {P : Program} {nt : Nat} {C : Cx P nt} {dst : Nat} {ty : TypeId} {pos : String} {af : Array Edge} {gd : Option (Nat × Bool)} {x y : Operand} {R1 R2 : List (Nat × SV)}

theorem op_indexA {T E n size bytes k : Nat} {zz : Value} {kd : IntKind} {i : Int} (hT : P.underlying T = some (.array n E)) (hI : Info P E zz size bytes) (h0 : 0 ≤ i) (hi : i < n) (hx : Ev x (.ptr k 0) R1) (hy : Ev y (bI kd i) R2) (hd : Nat.blt dst nt = true) :
    OpL C (Oo dst (.indexAddr T x y) ty pos af gd) (R1 ++ R2) [] [(dst, .one (.ptr k (i.toNat * size)))] [] :=
  opl_pure hd rfl fun sl hp β a w hs _ r => by
    obtain ⟨he', b, hb, hu⟩ := hx.ok hs.app.1 r
    have h2 := BR.v_inv (hy.ok hs.app.2 r)
    refine ⟨.pointer (some ⟨b, i.toNat * size, none⟩), ?_, he', b, hb, rfl⟩
    simp [execOp, hu, h2, Instr.indexAt, asIntOf, run_underlying hT, Instr.sureAddr, h0, hi, hI.sizeOf, Addr.add_lit]
end

theorem arr_at1 {α : Type} {n : Nat} {l : List α} {i : Int} {x : α} {enc : α → List DV} {d : DV} (h : aidx n l i = some x) (hs : ∀ x, (enc x).length = 1) (hd : enc x = [d]) : (dat (l.flatMap enc))[i.toNat * 1]? = some (.g (.d d)) := by
  have h1 := flat_at hs (aidx_ok h).2.2
  rw [hd] at h1
  have h2 : (((l.flatMap enc).drop (i.toNat * 1)).take 1)[0]? = some d := by rw [h1]; rfl
  rw [List.getElem?_take, if_pos (by decide), List.getElem?_drop, Nat.add_zero] at h2
  simp only [dat, List.getElem?_map, h2, Option.map_some]
theorem arr_at {α : Type} {n : Nat} {l : List α} {i : Int} {x : α} {enc : α → List DV} {size : Nat} (h : aidx n l i = some x) (hs : ∀ x, (enc x).length = size) : ((dat (l.flatMap enc)).drop (i.toNat * size)).take (enc x).length = dat (enc x) := by
  rw [hs, dat, ← List.map_drop, ← List.map_take, flat_at hs (aidx_ok h).2.2]
theorem arr_lt1 {α : Type} {n : Nat} {l l' : List α} {i : Int} {x : α} {enc : α → List DV} (h : asets n l i x = some l') (hs : ∀ x, (enc x).length = 1) : Nat.blt (i.toNat * 1) (dat (l.flatMap enc)).length = true := by
  have := (asets_ok h).2.2.1
  simp only [dat, List.length_map, flat_len hs, Nat.blt_eq]
  omega
theorem arr_lt {α : Type} {n : Nat} {l l' : List α} {i : Int} {x : α} {enc : α → List DV} {size : Nat} (h : asets n l i x = some l') (hs : ∀ x, (enc x).length = size) : Nat.ble (i.toNat * size + (enc x).length) (dat (l.flatMap enc)).length = true := by
  have h1 := (asets_ok h).2.2.1
  rw [hs]
  simp only [dat, List.length_map, flat_len hs, Nat.ble_eq]
  have : (i.toNat + 1) * size ≤ l.length * size := Nat.mul_le_mul_right _ h1
  rw [Nat.succ_mul] at this
  exact this
theorem arr_set {α : Type} {n : Nat} {l l' : List α} {i : Int} {x : α} {enc : α → List DV} {size : Nat} (h : asets n l i x = some l') (hs : ∀ x, (enc x).length = size) : splice (dat (l.flatMap enc)) (i.toNat * size) (dat (enc x)) = dat (l'.flatMap enc) := by
  obtain ⟨_, _, h1, rfl⟩ := asets_ok h
  have h2 := flat_splice hs x h1
  simp only [splice, dat, List.length_map]
  rw [← h2, List.map_append, List.map_append, List.map_take, List.map_drop]

theorem Opens.array {P : Program} {t e : TypeId} {n size : Nat} {X : Type} {enc : X → List DV} {wf : X → Prop} (ht : P.underlying t = some (.array n e)) (h : Opens P e X enc wf) (hc : P.cellsOf e = size) (hct : P.cellsOf t = n * size) (_hs : ∀ v, (enc v).length = size) :
    Opens P t (List X) (fun l => l.flatMap enc) (fun l => l.length = n ∧ ∀ x, x ∈ l → wf x) := by
  intro H en w base sp held fuel cs x hx hz
  obtain ⟨xs, m, rfl, rfl, hlen, hxl, hel⟩ := DataW.trod_array ht hx
  simp only [DataW.weights, ht] at hz
  rw [hct] at hlen
  have key : ∀ i, i < n → ∃ v : X, wf v ∧ F2 (RD (fun _ _ => False) w) ((cs.drop (i * size)).take size) (enc v) := by
    intro i hi
    have h1 := hel i hi
    rw [hc, show xs[i]? = some (xs[i]'(by omega)) by simp [hxl, hi]] at h1
    exact h H en w base sp held m _ _ h1 (weightsAll_mem hz _ (List.mem_map_of_mem (List.getElem_mem _)))
  clear hel hx
  have go : ∀ (k : Nat), k ≤ n → ∃ l : List X, l.length = k ∧ (∀ x, x ∈ l → wf x) ∧ F2 (RD (fun _ _ => False) w) (cs.take (k * size)) (l.flatMap enc) := by
    intro k
    induction k with
    | zero => intro _; exact ⟨[], rfl, fun x h => by simp at h, by simp; exact .nil⟩
    | succ k ih =>
      intro hk
      obtain ⟨l, h1, h2, h3⟩ := ih (by omega)
      obtain ⟨v, h4, h5⟩ := key k (by omega)
      refine ⟨l ++ [v], by simp [h1], fun x hx => ?_, ?_⟩
      · rcases List.mem_append.1 hx with hx | hx
        · exact h2 x hx
        · simp at hx; subst hx; exact h4
      · rw [Nat.succ_mul, List.take_add, List.flatMap_append]
        simpa using forall2_append h3 h5
  obtain ⟨l, h1, h2, h3⟩ := go n (Nat.le_refl _)
  rw [← hlen, List.take_length] at h3
  exact ⟨l, ⟨h1, h2⟩, h3⟩

theorem okWide_array {P : Program} {w : World} {r : Reach} {base : Nat} {t : TypeId} {v : Value} {n : Nat} {e : TypeId} (ht : P.underlying t = some (.array n e)) (h : Value.okWide P w r base t v) : ∃ cs, v = .agg cs ∧ cs.size = P.cellsOf t := by
  simp only [Value.okWide, ht] at h
  obtain ⟨cs, h1, h2, _⟩ := h
  exact ⟨cs, h1, h2⟩

theorem Opens.argArray {P : Program} {H : Type} {e : TypeId × Value → H} {w : World} {base b0 : Nat} {r : Reach} {sp : Nat → Bool} {held : Bool} {v : Value} {d : DataW H} {ps : List MemPlace} {t : TypeId} {n : Nat} {el : TypeId} {X : Type} {enc : X → List DV} {wf : X → Prop} (h : Opens P t X enc wf) (ht : P.underlying t = some (.array n el))
    (hv : Value.okWide P w r b0 t v) (hd : DataW.Trod e P w base sp held t v d ps) (hz : (d.weights P t).all (· ≤ reachBytes) = true) : ∃ x : X, wf x ∧ ArgR P (fun _ _ => False) (fun _ => False) w (.g (.agg (enc x))) v := by
  obtain ⟨us, rfl, _⟩ := okWide_array ht hv
  obtain ⟨fuel, hf⟩ := hd
  obtain ⟨x, h1, h2⟩ := h H e w base sp held fuel _ _ hf hz
  have h3 := forall2_get h2
  refine ⟨x, h1, us, rfl, by simpa [Value.cells] using h3.1, fun j d hj => ?_⟩
  obtain ⟨u, h4, h5⟩ := h3.2 j d hj
  exact ⟨u, by simpa [Value.cells] using h4, h5.less (fun _ _ c => c.elim id id)⟩

theorem ids_dat (ds : List DV) : (dat ds).flatMap BV.ids = [] := by
  induction ds with
  | nil => rfl
  | cons d ds ih => exact ih

theorem toList_inj {a b : ByteArray} : a.toList = b.toList ↔ a = b := by
  constructor
  · intro h
    have h1 : (a.data == b.data) = (a.toList == b.toList) := beq_toListBytes a b
    rw [h, beq_self_eq_true] at h1
    have h2 := eq_of_beq h1
    cases a; cases b; simp_all
  · intro h; rw [h]
end Go.Ab

/- Rows of structs that are copied and grown: laws of the model's operations at any element size. Conditions: none but those that stand in each law. -/
namespace Go.Ab
open Go Go.RowKit

theorem run_copy_rows {P : Program} (w : World) (dT sT ty elem : TypeId) (b o dLen dCap : Nat) (a : Addr) (sLen sCap z k : Nat) (cs : List Value)
    (hu : P.underlying dT = some (.slice elem)) (hs : (P.info? elem).map (·.size) = some z) (hk : k = Nat.min sLen dLen) (hn : cs.length = k * z)
    (hsrc : ∀ j v, cs[j]? = some v → w.cell? (a.add j) = some v) (hc : ∀ j, j < cs.length → (w.cell? ⟨b, o + j, none⟩).isSome = true) (hf : ∀ j, j < cs.length → w.frozen? ⟨b, o + j, none⟩ = false) (h1 : ∀ v ∈ cs, v.oneCell' = true) :
    (Builtin.copy_ #[dT, sT] ty #[.slice (some ⟨b, o, none⟩) dLen dCap, .slice (some a) sLen sCap]).run P w = .ok (goInt k) (w.setCells b o cs) := by
  have hl := run_loadCells_list (P := P) w a cs hsrc
  have hst := run_storeCells_cells (P := P) b o cs 0 w (by simpa using hc) (by simpa using hf) h1
  cases hq : P.info? elem with
  | none => simp [hq] at hs
  | some i =>
    have hi : i.size = z := by simpa [hq] using hs
    simp [Builtin.copy_, run_underlying hu, Builtin.lenOf, Builtin.firstCells, sizeOf, typeInfo, hq, hi, ← hk, ← hn, hl, hst]

/-- 'overlaps' of two slices in two blocks, the second of which is plain memory -/
theorem run_overlaps_plain {P : Program} (w : World) (tS tR e : TypeId) (ht : P.underlying tS = some (.slice e)) (size : Nat) (hz : ∀ w, (Go.sizeOf e).run P w = .ok size w)
    (a b : Addr) (la ca lb cb : Nat) (hne : a.block ≠ b.block) (tA tB : TypeId) (kA kB : Nat)
    (hsa : w.shape? a.block = some (tA, kA)) (hsb : w.shape? b.block = some (tB, kB)) (hkA : kA ≠ 0) (hkB : kB ≠ 0)
    (hfb : w.frozen? b = false) (hfe : w.frozen? { block := b.block, off := kB } = false) :
    (Extern.SlicesOverlaps.overlaps #[tS, tS] #[tR] #[.slice (some a) la ca, .slice (some b) lb cb]).run P w = .ok (.bool false) w := by
  have hnb : (a.block != b.block) = true := by simpa using hne
  have hnb' : (a.block == b.block) = false := by simpa using hne
  change Sem.run P (α := Value) (do
    let some t := (#[tS, tS] : Array TypeId)[0]? | stuck "slices.overlaps: no parameter types"
    let .slice elem ← underlying t | stuck "slices.overlaps: slice type expected"
    let size ← sizeOf elem
    match (some a : Option Addr), (some b : Option Addr) with
    | some a, some b =>
      if la = 0 ∨ lb = 0 ∨ size = 0 then pure (Value.bool false)
      else if a.block != b.block && (← frozen a) && (← frozen b) then unsupported .addressObserved
      else do
        if a.block != b.block then do
          noView a; noView b
          if ← mayBeOne a b then return Value.bool ((← choose (.extern "sameAddr.stringBytes" 2)) == 1)
        pure (Value.bool (a.block == b.block && a.off < b.off + lb * size && b.off < a.off + la * size))
    | _, _ => pure (Value.bool false)) w = _
  by_cases h0 : la = 0 ∨ lb = 0 ∨ size = 0
  · simp [run_underlying ht, hz, h0]
  · cases kB with
    | zero => exact absurd rfl hkB
    | succ kB =>
     cases kA with
     | zero => exact absurd rfl hkA
     | succ kA =>
      cases hfa : w.frozen? a <;> cases hfa2 : w.frozen? { block := a.block, off := kA + 1 } <;>
        simp [run_underlying ht, hz, h0, hnb, hnb', frozen, noView, viewAt, mayBeOne, stringish, shape, Sem.run, hsa, hsb, hfa, hfa2, hfb, hfe]
end Go.Ab

/- One element that is put into a row of the call's own: what the row holds then, out of what the heap holds. Conditions: none but those that stand in each law. -/
namespace Go.Ab
open Go Go.RowKit

theorem setCells_same (b : Nat) : ∀ (vs : List Value) (o : Nat) (w : World), (w.setCells b o vs).os = w.os ∧ (w.setCells b o vs).tape = w.tape ∧ (w.setCells b o vs).output = w.output ∧ (w.setCells b o vs).heap.size = w.heap.size ∧ ∀ k, k ≠ b → (w.setCells b o vs).heap[k]? = w.heap[k]?
  | [], _, _ => ⟨rfl, rfl, rfl, rfl, fun _ _ => rfl⟩
  | v :: vs, o, w => by
    obtain ⟨h1, h2, h3, h4, h5⟩ := setCells_same b vs (o + 1) (w.setCell ⟨b, o, none⟩ v)
    refine ⟨h1, h2, h3, by rw [World.setCells, h4]; simp [World.setCell], fun k hk => ?_⟩
    rw [World.setCells, h5 k hk]
    simp only [World.setCell, Array.getElem?_modify]
    rw [if_neg (fun c => hk c.symm)]

theorem setCells_row (b T : Nat) (fz : Nat × Nat) : ∀ (vs : List Value) (o : Nat) (w : World) (cur : Array Value), w.heap[b]? = some (.cells cur T fz) → o + vs.length ≤ cur.size →
    ∃ cur', (w.setCells b o vs).heap[b]? = some (.cells cur' T fz) ∧ cur'.size = cur.size ∧ ∀ j, cur'[j]? = if o ≤ j ∧ j < o + vs.length then vs[j - o]? else cur[j]?
  | [], o, w, cur, h, _ => ⟨cur, h, rfl, fun j => by rw [if_neg (by simp)]⟩
  | v :: vs, o, w, cur, h, hl => by
    simp only [List.length_cons] at hl
    have h1 : (w.setCell ⟨b, o, none⟩ v).heap[b]? = some (.cells (cur.setIfInBounds o v) T fz) := by
      simp only [World.setCell, Array.getElem?_modify, if_true, h, Option.map_some]
      rfl
    obtain ⟨cur', h2, h3, h4⟩ := setCells_row b T fz vs (o + 1) (w.setCell ⟨b, o, none⟩ v) (cur.setIfInBounds o v) h1 (by simp; omega)
    refine ⟨cur', h2, by rw [h3]; simp, fun j => ?_⟩
    rw [h4]
    simp only [List.length_cons]
    by_cases c : o + 1 ≤ j ∧ j < o + 1 + vs.length
    · rw [if_pos c, if_pos (by omega), show j - o = (j - (o + 1)) + 1 by omega, List.getElem?_cons_succ]
    · rw [if_neg c]
      by_cases c2 : j = o
      · subst c2
        rw [if_pos (by omega), Nat.sub_self, Array.getElem?_setIfInBounds, if_pos rfl, if_pos (by omega)]
        rfl
      · rw [if_neg (by omega), Array.getElem?_setIfInBounds, if_neg (fun c => c2 c.symm)]

/-- what a call leaves that hands back a row of m elements: its cells begin with xs; it lies in the block 'own', or in a new one -/
structure InsR (E z : Nat) (own : Option Nat) (m : Nat) (xs : List Value) (w w' : World) (v : Value) : Prop where
  os : w'.os = w.os
  tape : w'.tape = w.tape
  output : w'.output = w.output
  size : w.heap.size ≤ w'.heap.size
  block : ∀ k, k < w.heap.size → own ≠ some k → w'.heap[k]? = w.heap[k]?
  row : ∃ (b cap : Nat) (cur : Array Value), v = .slice (some ⟨b, 0, none⟩) m cap ∧ m ≤ cap ∧ cap ≤ maxLen ∧ (own = some b ∨ w.heap.size ≤ b) ∧ b < w'.heap.size ∧ w'.heap[b]? = some (.cells cur E (0, 0)) ∧ cur.size = cap * z ∧ ∀ (j : Nat) (u : Value), xs[j]? = some u → cur[j]? = some u

/-- what is known of the element that is put in: its cells lie in another block -/
structure InsV (z : Nat) (w : World) (b : Option Nat) (vb vo : Nat) (vs : List Value) : Prop where
  len : vs.length = z
  cell : ∀ (j : Nat) (v : Value), vs[j]? = some v → w.cell? ⟨vb, vo + j, none⟩ = some v
  one : ∀ v ∈ vs, v.oneCell' = true
  apart : b ≠ some vb
  shape : ∃ t k, w.shape? vb = some (t, k) ∧ k ≠ 0

theorem cell_of_cells {w : World} {b T : Nat} {cur : Array Value} {fz : Nat × Nat} (h : w.heap[b]? = some (.cells cur T fz)) (j : Nat) : w.cell? ⟨b, j, none⟩ = cur[j]? := cell_of_row w b j cur T fz h

theorem shape_of_cell {w : World} {b o : Nat} {x : Value} (h : w.cell? ⟨b, o, none⟩ = some x) : ∃ t k, w.shape? b = some (t, k) ∧ k ≠ 0 := by
  simp only [World.cell?] at h
  unfold World.shape?
  cases hq : w.heap[b]? with
  | none => simp [hq] at h
  | some ob =>
    cases ob with
    | cells c t fz =>
      refine ⟨t, c.size, rfl, fun h0 => ?_⟩
      simp [hq] at h
      have := (Array.getElem?_eq_some_iff.1 h).1
      omega
    | _ => simp [hq] at h

/-- A CONTRACT OUT OF WHAT THE HEAP HOLDS -/
theorem ct_insert {P : Program} {f E z : Nat} {es : List (List DV)} {x : List DV} {i : Nat} (hi : i ≤ es.length) (hx : x.length = z)
    (hnil : es = [] → ∀ (w : World) (a : Option Addr) (vb vo vc : Nat) (vs : List Value), InsV z w none vb vo vs →
      Calls P f #[.slice a 0 0, .int .i64 (i : Int), .slice (some ⟨vb, vo, none⟩) 1 vc] w fun e w' => ∃ v, e = .returned v ∧ InsR E z none 1 vs w w' v)
    (hrow : ∀ (w : World) (b c : Nat) (cur : Array Value) (vb vo vc : Nat) (vs : List Value), w.heap[b]? = some (.cells cur E (0, 0)) → cur.size = c * z → es.length ≤ c → c ≤ maxLen → (∀ (j : Nat) (v : Value), j < es.length * z → cur[j]? = some v → v.oneCell' = true) → InsV z w (some b) vb vo vs →
      Calls P f #[.slice (some ⟨b, 0, none⟩) es.length c, .int .i64 (i : Int), .slice (some ⟨vb, vo, none⟩) 1 vc] w fun e w' => ∃ v, e = .returned v ∧ InsR E z (some b) (es.length + 1) ((cur.toList.take (es.length * z)).take (i * z) ++ (vs ++ (cur.toList.take (es.length * z)).drop (i * z))) w w' v) :
    Ct P f [.row E z es, .g (.d (.v (.int .i64 (i : Int)))), .g (.d (.sl z [x]))] (.new E z (es.take i ++ ([x] ++ es.drop i))) := by
  refine ⟨fun M K w vs hM hK hl hargs => ?_⟩
  obtain ⟨u0, u1, u2, rfl⟩ : ∃ a b c, vs = [a, b, c] := by
    match vs, hl with
    | [a, b, c], _ => exact ⟨a, b, c, rfl⟩
  obtain ⟨hz, hsz, hr0⟩ := hargs 0 _ u0 rfl rfl
  have h1 : u1 = .int .i64 (i : Int) := RD.v_inv (hargs 1 _ u1 rfl rfl)
  have h2 : RD (fun b o => M b o ∨ K b) w u2 (.sl z [x]) := hargs 2 _ u2 rfl rfl
  subst h1
  generalize hes1 : ([x] : List (List DV)) = es1 at h2
  generalize hdv : DV.sl z es1 = dv at h2
  cases h2 with
  | v => cases hdv
  | sl a cap size es2 vals vb vo hc hm ha hs hv hr =>
    cases hdv
    subst hes1
    obtain rfl := ha (by simp)
    have hvz : ∀ j, j < z → w.cell? ⟨vb, vo + j, none⟩ = some (vals 0 j) ∧ ¬ (M vb (vo + j) ∨ K vb) := fun j hj => by
      have := hv 0 x j x[j] rfl (by simp [hx, hj])
      simpa using this
    have hrz : ∀ j d, x[j]? = some d → RD (fun b o => M b o ∨ K b) w (vals 0 j) d := fun j d hd => hr 0 x j d rfl hd
    have hKv : ¬ K vb := fun c => (hvz 0 hz).2 (.inr c)
    -- the element
    have hV : ∀ ob : Option Nat, ob ≠ some vb → InsV z w ob vb vo ((List.range z).map (vals 0)) := fun ob hob => by
      refine ⟨by simp, fun j v hj => ?_, fun v hv => ?_, hob, shape_of_cell (hvz 0 hz).1⟩
      · have hjz : j < z := by
          have := (List.getElem?_eq_some_iff.1 hj).1
          simpa using this
        rw [List.getElem?_map, List.getElem?_range hjz] at hj
        simp at hj
        subst hj
        exact (hvz j hjz).1
      · obtain ⟨j, hj, rfl⟩ := List.mem_map.1 hv
        have hjz : j < z := by simpa using hj
        exact (hrz j x[j] (by simp)).one
    -- what comes behind
    have fin : ∀ (own : Option Nat) (xs : List Value) (w' : World) (v : Value) (mm : Nat), mm = es.length + 1 → (∀ b, own = some b → K b) → InsR E z own mm xs w w' v →
        (∀ (q : Nat) (cs : List DV) (j : Nat) (d : DV), (es.take i ++ ([x] ++ es.drop i))[q]? = some cs → cs[j]? = some d → ∃ u, xs[q * z + j]? = some u ∧ ∃ M0 : Nat → Nat → Prop, RD M0 w u d ∧ (∀ b o, ¬ M0 b o → ¬ M b o ∧ own ≠ some b)) →
        KeepW K w w' ∧ ResR M K w w' (.new E z (es.take i ++ ([x] ++ es.drop i))) v := by
      intro own xs w' v mm hmm hown hI hread
      obtain ⟨b, cap', cur', rfl, g1, g2, g3, g4, g5, g6, g7⟩ := hI.row
      have hlen : (es.take i ++ ([x] ++ es.drop i)).length = mm := by simp; omega
      refine ⟨⟨hI.os, hI.tape, hI.output, hI.size, fun k hk hnk => hI.block k hk fun c => hnk (hown k c)⟩, hz, fun cs hcs => ?_, .inr ⟨b, cap', cur', ?_, g4, by rw [hlen], by rw [hlen]; exact g1, g2, g5, g6, fun q cs j d hq hj => ?_⟩⟩
      · rcases List.mem_append.1 hcs with h | h
        · exact hsz cs (List.mem_of_mem_take h)
        · rcases List.mem_append.1 h with h | h
          · simp at h; subst h; exact hx
          · exact hsz cs (List.mem_of_mem_drop h)
      · rcases g3 with g3 | g3
        · exact .inr (hown b g3)
        · exact .inl g3
      · obtain ⟨u, hu, M0, hrd, hM0⟩ := hread q cs j d hq hj
        refine ⟨u, g7 _ u hu, hrd.mono fun b' o y hn hy => ?_⟩
        obtain ⟨hn1, hn2⟩ := hM0 b' o hn
        have hlt := cell_lt hy
        refine ⟨?_, fun c => ?_⟩
        · have := hI.block b' hlt hn2
          simp only [World.cell?] at hy ⊢
          rw [this]; exact hy
        · rcases c with c | c
          · exact hn1 c
          · subst c
            rcases g3 with g3 | g3
            · exact hn2 g3
            · omega
    rcases hr0 with ⟨rfl, a0, rfl⟩ | ⟨b, c0, cur, hKb, hlt, rfl, hle, hcm, hheap, hcs, hel⟩
    · have hi0 : i = 0 := by simpa using hi
      refine (hnil rfl w a0 vb vo cap _ (hV none (fun c => (by cases c)))).mono fun e w' ⟨v, he, hI⟩ => ⟨v, he, fin none _ w' v 1 rfl (fun _ c => (by cases c)) hI fun q cs j d hq hj => ?_⟩
      subst hi0
      have hq0 : q = 0 ∧ cs = x := by
        cases q with
        | zero => simpa using hq.symm
        | succ q => simp at hq
      obtain ⟨rfl, rfl⟩ := hq0
      have hjz : j < cs.length := (List.getElem?_eq_some_iff.1 hj).1
      rw [hx] at hjz
      exact ⟨vals 0 j, by rw [Nat.zero_mul, Nat.zero_add, List.getElem?_map, List.getElem?_range hjz]; rfl, _, hrz j d hj, fun b o hn => ⟨fun c => hn (.inl c), fun c => (by cases c)⟩⟩
    · have hbv : some b ≠ some vb := fun c => hKv (by cases c; exact hKb)
      have hone : ∀ j v, j < es.length * z → cur[j]? = some v → v.oneCell' = true := fun j v hj hv => by
        have hq : j / z < es.length := (Nat.div_lt_iff_lt_mul hz).2 hj
        have hmod : j % z < z := Nat.mod_lt _ hz
        have hl2 : es[j / z].length = z := hsz _ (List.getElem_mem hq)
        obtain ⟨v', g1, g2⟩ := hel (j / z) es[j / z] (j % z) (es[j / z]'hq)[j % z] (by simp [hq]) (by simp [hl2, hmod])
        rw [show j / z * z + j % z = j by rw [Nat.mul_comm]; exact Nat.div_add_mod j z, hv] at g1
        cases g1
        exact g2.one
      refine (hrow w b c0 cur vb vo cap _ hheap hcs hle hcm hone (hV (some b) hbv)).mono fun e w' ⟨v, he, hI⟩ => ⟨v, he, fin (some b) _ w' v (es.length + 1) rfl (fun b' c => by cases c; exact hKb) hI fun q cs j d hq hj => ?_⟩
      have hjl : j < cs.length := (List.getElem?_eq_some_iff.1 hj).1
      have hbig : es.length * z ≤ cur.size := by rw [hcs]; exact Nat.mul_le_mul_right _ hle
      have hiz : i * z ≤ es.length * z := Nat.mul_le_mul_right _ hi
      have htl : ((cur.toList.take (es.length * z)).take (i * z)).length = i * z := by simp; omega
      have hvl : ((List.range z).map (vals 0)).length = z := by simp
      by_cases c1 : q < i
      · rw [List.getElem?_append_left (by simp; omega), List.getElem?_take_of_lt c1] at hq
        have hcl : cs.length = z := hsz _ (List.mem_of_getElem? hq)
        obtain ⟨u, g1, g2⟩ := hel q cs j d hq hj
        have hpos : q * z + j < i * z := by
          have : (q + 1) * z ≤ i * z := Nat.mul_le_mul_right _ c1
          rw [Nat.succ_mul] at this; omega
        refine ⟨u, ?_, _, g2, fun b' o hn => ⟨fun c => hn (.inl c), fun c => hn (.inr (by cases c; rfl))⟩⟩
        rw [List.getElem?_append_left (by rw [htl]; exact hpos), List.getElem?_take_of_lt hpos, List.getElem?_take_of_lt (by omega), Array.getElem?_toList]
        exact g1
      · have hq' : ([x] ++ es.drop i)[q - i]? = some cs := by
          rw [List.getElem?_append_right (by simp; omega)] at hq
          simpa [Nat.min_eq_left hi] using hq
        by_cases c2 : q = i
        · subst c2
          rw [Nat.sub_self] at hq'
          have : x = cs := by simpa using hq'
          subst this
          rw [hx] at hjl
          refine ⟨vals 0 j, ?_, _, hrz j d hj, fun b' o hn => ⟨fun c => hn (.inl c), fun c => hn (.inr (by cases c; exact hKb))⟩⟩
          rw [List.getElem?_append_right (by rw [htl]; omega), htl, show q * z + j - q * z = j by omega, List.getElem?_append_left (by rw [hvl]; exact hjl), List.getElem?_map, List.getElem?_range hjl]
          rfl
        · obtain ⟨p, rfl⟩ : ∃ p, q = p + 1 := ⟨q - 1, by omega⟩
          rw [show p + 1 - i = (p - i) + 1 by omega] at hq'
          have hq2 : es[p]? = some cs := by
            simp only [List.singleton_append, List.getElem?_cons_succ, List.getElem?_drop] at hq'
            rwa [show i + (p - i) = p by omega] at hq'
          have hcl : cs.length = z := hsz _ (List.mem_of_getElem? hq2)
          obtain ⟨u, g1, g2⟩ := hel p cs j d hq2 hj
          have hpl : p < es.length := (List.getElem?_eq_some_iff.1 hq2).1
          have hpz : (p + 1) * z ≤ es.length * z := Nat.mul_le_mul_right _ hpl
          have hip : i * z ≤ p * z := Nat.mul_le_mul_right _ (by omega)
          rw [Nat.succ_mul] at hpz
          refine ⟨u, ?_, _, g2, fun b' o hn => ⟨fun c => hn (.inl c), fun c => hn (.inr (by cases c; rfl))⟩⟩
          rw [List.getElem?_append_right (by rw [htl, Nat.succ_mul]; omega), htl, List.getElem?_append_right (by rw [hvl, Nat.succ_mul]; omega), hvl, List.getElem?_drop, List.getElem?_take_of_lt (by rw [Nat.succ_mul]; omega), Array.getElem?_toList]
          rw [show i * z + ((p + 1) * z + j - i * z - z) = p * z + j by rw [Nat.succ_mul]; omega]
          exact g1
end Go.Ab

/- The ways of an insertion: what each leaves. Conditions: none but those that stand in each law. -/
namespace Go.Ab
open Go Go.RowKit

theorem InsR.shift {E z b c n i : Nat} {cur : Array Value} {vs : List Value} {w : World} (hh : w.heap[b]? = some (.cells cur E (0, 0))) (hc : cur.size = c * z) (hi : i < n) (hn : n + 1 ≤ c) (hm : c ≤ maxLen) (hv : vs.length = z) :
    InsR E z (some b) (n + 1) ((cur.toList.take (n * z)).take (i * z) ++ (vs ++ (cur.toList.take (n * z)).drop (i * z))) w ((w.drew.setCells b ((i + 1) * z) ((cur.toList.take (n * z)).drop (i * z))).setCells b (i * z) vs) (.slice (some ⟨b, 0, none⟩) (n + 1) c) := by
  have hnz : (n + 1) * z ≤ cur.size := by rw [hc]; exact Nat.mul_le_mul_right _ hn
  have hiz : (i + 1) * z ≤ n * z := Nat.mul_le_mul_right _ hi
  rw [Nat.succ_mul] at hnz hiz
  have hdl : ((cur.toList.take (n * z)).drop (i * z)).length = n * z - i * z := by simp; omega
  obtain ⟨c1, h1, h2, h3⟩ := setCells_row b E (0, 0) ((cur.toList.take (n * z)).drop (i * z)) ((i + 1) * z) w.drew cur hh (by rw [hdl, Nat.succ_mul]; omega)
  obtain ⟨c2, h4, h5, h6⟩ := setCells_row b E (0, 0) vs (i * z) _ c1 h1 (by rw [h2, hv]; omega)
  obtain ⟨a1, a2, a3, a4, a5⟩ := setCells_same b ((cur.toList.take (n * z)).drop (i * z)) ((i + 1) * z) w.drew
  obtain ⟨b1, b2, b3, b4, b5⟩ := setCells_same b vs (i * z) (w.drew.setCells b ((i + 1) * z) ((cur.toList.take (n * z)).drop (i * z)))
  have hb : b < w.heap.size := (Array.getElem?_eq_some_iff.1 hh).1
  refine ⟨b1.trans a1, b2.trans a2, b3.trans a3, by rw [b4, a4]; exact Nat.le_refl _, fun k _ hk => ?_, b, c, c2, rfl, hn, hm, .inl rfl, by rw [b4, a4]; exact hb, h4, by rw [h5, h2, hc], fun j u hj => ?_⟩
  · have hkb : k ≠ b := fun e => hk (by rw [e])
    rw [b5 k hkb, a5 k hkb]; rfl
  · rw [h6, hv]
    have htl : ((cur.toList.take (n * z)).take (i * z)).length = i * z := by simp; omega
    by_cases g1 : j < i * z
    · rw [if_neg (by omega), h3, if_neg (by rw [Nat.succ_mul]; omega)]
      rw [List.getElem?_append_left (by rw [htl]; exact g1), List.getElem?_take_of_lt g1, List.getElem?_take_of_lt (by omega), Array.getElem?_toList] at hj
      exact hj
    · rw [List.getElem?_append_right (by rw [htl]; omega), htl] at hj
      by_cases g2 : j < i * z + z
      · rw [if_pos ⟨by omega, g2⟩]
        rwa [List.getElem?_append_left (by rw [hv]; omega)] at hj
      · rw [if_neg (by omega), h3]
        rw [List.getElem?_append_right (by rw [hv]; omega), hv] at hj
        have hlt := (List.getElem?_eq_some_iff.1 hj).1
        rw [hdl] at hlt
        rw [if_pos (by rw [hdl, Nat.succ_mul]; omega), Nat.succ_mul, show j - (i * z + z) = j - i * z - z by omega]
        exact hj

theorem InsR.room {E z b c n : Nat} {cur : Array Value} {vs : List Value} {w : World} (hh : w.heap[b]? = some (.cells cur E (0, 0))) (hc : cur.size = c * z) (hn : n + 1 ≤ c) (hm : c ≤ maxLen) (hv : vs.length = z) :
    InsR E z (some b) (n + 1) ((cur.toList.take (n * z)).take (n * z) ++ (vs ++ (cur.toList.take (n * z)).drop (n * z))) w (w.setCells b (n * z) vs) (.slice (some ⟨b, 0, none⟩) (n + 1) c) := by
  have hnz : (n + 1) * z ≤ cur.size := by rw [hc]; exact Nat.mul_le_mul_right _ hn
  rw [Nat.succ_mul] at hnz
  obtain ⟨c1, h1, h2, h3⟩ := setCells_row b E (0, 0) vs (n * z) w cur hh (by rw [hv]; omega)
  obtain ⟨a1, a2, a3, a4, a5⟩ := setCells_same b vs (n * z) w
  have hb : b < w.heap.size := (Array.getElem?_eq_some_iff.1 hh).1
  have htl : (cur.toList.take (n * z)).length = n * z := by simp; omega
  refine ⟨a1, a2, a3, by rw [a4]; exact Nat.le_refl _, fun k _ hk => a5 k fun e => hk (by rw [e]), b, c, c1, rfl, hn, hm, .inl rfl, by rw [a4]; exact hb, h1, by rw [h2, hc], fun j u hj => ?_⟩
  rw [List.take_of_length_le (by rw [htl]; exact Nat.le_refl _), List.drop_of_length_le (by rw [htl]; exact Nat.le_refl _), List.append_nil] at hj
  rw [h3, hv]
  by_cases g1 : j < n * z
  · rw [if_neg (by omega)]
    rw [List.getElem?_append_left (by rw [htl]; exact g1), List.getElem?_take_of_lt g1, Array.getElem?_toList] at hj
    exact hj
  · rw [List.getElem?_append_right (by rw [htl]; omega), htl] at hj
    have hlt := (List.getElem?_eq_some_iff.1 hj).1
    rw [hv] at hlt
    rw [if_pos (by omega)]
    exact hj

theorem zeroCells_size (zc : Array Value) (k : Nat) : (Builtin.zeroCells zc k).size = k * zc.size := by simp [Builtin.zeroCells]

theorem InsR.fresh {E z n G : Nat} {own : Option Nat} {xs : List Value} {zs : Array Value} {w : World} (hl : xs.length = (n + 1) * z) (hz : zs.size = (G - (n + 1)) * z) (hg : n + 1 ≤ G) (hm : G ≤ maxLen) :
    InsR E z own (n + 1) xs w (w.drew.alloc (.cells (xs.toArray ++ zs) E)) (.slice (some ⟨w.heap.size, 0, none⟩) (n + 1) G) := by
  have ha : ∀ k, k < w.heap.size → (w.drew.alloc (.cells (xs.toArray ++ zs) E)).heap[k]? = w.heap[k]? := fun k hk => heap_alloc_old w.drew _ hk
  refine ⟨rfl, rfl, rfl, by simp, fun k hk _ => ha k hk, w.heap.size, G, xs.toArray ++ zs, rfl, hg, hm, .inr (Nat.le_refl _), by simp, heap_alloc_new w.drew _, ?_, fun j u hj => ?_⟩
  · rw [Array.size_append, hz, List.size_toArray, hl, ← Nat.add_mul]
    congr 1
    omega
  · have hlt := (List.getElem?_eq_some_iff.1 hj).1
    rw [Array.getElem?_append_left (by simpa using hlt), List.getElem?_toArray]
    exact hj

theorem InsR.grow {E z n i G : Nat} {own : Option Nat} {cs vs : List Value} {zs1 zs2 : Array Value} {w : World} (hcl : cs.length = n * z) (hi : i < n) (hv : vs.length = z) (hz1 : zs1.size = (n + 1 - i) * z) (hz2 : zs2.size = (G - (n + 1)) * z) (hg : n + 1 ≤ G) (hm : G ≤ maxLen) :
    InsR E z own (n + 1) (cs.take (i * z) ++ (vs ++ cs.drop (i * z))) w ((((w.alloc (.cells ((cs.take (i * z)).toArray ++ zs1 ++ zs2) E)).drew.setCells w.heap.size (i * z) vs).drew).setCells w.heap.size ((i + 1) * z) (cs.drop (i * z))) (.slice (some ⟨w.heap.size, 0, none⟩) (n + 1) G) := by
  have hiz : (i + 1) * z ≤ n * z := Nat.mul_le_mul_right _ hi
  rw [Nat.succ_mul] at hiz
  generalize hR : (cs.take (i * z)).toArray ++ zs1 ++ zs2 = R
  have hRs : R.size = G * z := by
    rw [← hR, Array.size_append, Array.size_append, hz1, hz2, List.size_toArray, List.length_take, hcl, Nat.min_eq_left (by omega), ← Nat.add_mul, ← Nat.add_mul]
    congr 1
    omega
  have hGz : (n + 1) * z ≤ R.size := by rw [hRs]; exact Nat.mul_le_mul_right _ hg
  rw [Nat.succ_mul] at hGz
  have hR0 : ∀ j, j < i * z → R[j]? = cs[j]? := fun j hj => by
    rw [← hR, Array.append_assoc, Array.getElem?_append_left (by simp; omega), List.getElem?_toArray, List.getElem?_take_of_lt hj]
  have h0 : ((w.alloc (.cells R E)).drew).heap[w.heap.size]? = some (.cells R E (0, 0)) := heap_alloc_new w _
  have hdl : (cs.drop (i * z)).length = n * z - i * z := by simp [hcl]
  obtain ⟨c1, h1, h2, h3⟩ := setCells_row w.heap.size E (0, 0) vs (i * z) (w.alloc (.cells R E)).drew R h0 (by rw [hv]; omega)
  obtain ⟨c2, h4, h5, h6⟩ := setCells_row w.heap.size E (0, 0) (cs.drop (i * z)) ((i + 1) * z) (((w.alloc (.cells R E)).drew.setCells w.heap.size (i * z) vs).drew) c1 h1 (by rw [h2, hdl, Nat.succ_mul]; omega)
  obtain ⟨a1, a2, a3, a4, a5⟩ := setCells_same w.heap.size vs (i * z) (w.alloc (.cells R E)).drew
  obtain ⟨b1, b2, b3, b4, b5⟩ := setCells_same w.heap.size (cs.drop (i * z)) ((i + 1) * z) (((w.alloc (.cells R E)).drew.setCells w.heap.size (i * z) vs).drew)
  have hsz : ((((w.alloc (.cells R E)).drew.setCells w.heap.size (i * z) vs).drew).setCells w.heap.size ((i + 1) * z) (cs.drop (i * z))).heap.size = w.heap.size + 1 := by
    rw [b4]
    have : ((w.alloc (.cells R E)).drew.setCells w.heap.size (i * z) vs).heap.size = w.heap.size + 1 := by rw [a4]; simp
    exact this
  refine ⟨b1.trans a1, b2.trans a2, b3.trans a3, by rw [hsz]; omega, fun k hk _ => ?_, w.heap.size, G, c2, rfl, hg, hm, .inr (Nat.le_refl _), by rw [hsz]; omega, h4, by rw [h5, h2, hRs], fun j u hj => ?_⟩
  · rw [b5 k (by omega)]
    have := a5 k (by omega)
    refine Eq.trans this ?_
    exact heap_alloc_old w _ hk
  · have htl : (cs.take (i * z)).length = i * z := by rw [List.length_take, hcl]; omega
    rw [h6, hdl]
    by_cases g1 : j < i * z
    · rw [if_neg (by rw [Nat.succ_mul]; omega), h3, if_neg (by omega), hR0 j g1]
      rwa [List.getElem?_append_left (by rw [htl]; exact g1), List.getElem?_take_of_lt g1] at hj
    · rw [List.getElem?_append_right (by rw [htl]; omega), htl] at hj
      by_cases g2 : j < i * z + z
      · rw [if_neg (by rw [Nat.succ_mul]; omega), h3, hv, if_pos ⟨by omega, g2⟩]
        rwa [List.getElem?_append_left (by rw [hv]; omega)] at hj
      · rw [List.getElem?_append_right (by rw [hv]; omega), hv] at hj
        have hlt := (List.getElem?_eq_some_iff.1 hj).1
        rw [hdl] at hlt
        rw [if_pos (by rw [Nat.succ_mul]; omega), Nat.succ_mul, show j - (i * z + z) = j - i * z - z by omega]
        exact hj

/-- 'slices.Insert(s, i, x)' -/
def insL {α : Type} (bytes : Nat) (s : List α) (i : Int) (v : List α) : Option (List α) :=
  match v with
  | [x] => if 0 ≤ i ∧ i ≤ s.length ∧ s.length + 1 ≤ 1099511627776 ∧ (s.length + 1) * bytes ≤ 140737488355328 then some (s.take i.toNat ++ (x :: s.drop i.toNat)) else none
  | _ => none

theorem insL_ok {α : Type} {bytes : Nat} {s v r : List α} {i : Int} (h : insL bytes s i v = some r) :
    ∃ (x : α) (k : Nat), v = [x] ∧ i = (k : Int) ∧ k ≤ s.length ∧ s.length + 1 ≤ 1099511627776 ∧ (s.length + 1) * bytes ≤ 140737488355328 ∧ r = s.take k ++ (x :: s.drop k) := by
  unfold insL at h
  split at h
  · split at h
    · rename_i x c
      cases h
      exact ⟨x, i.toNat, rfl, by omega, by omega, c.2.2.1, c.2.2.2, rfl⟩
    · cases h
  · cases h

theorem insL_map {α β : Type} (f : α → β) (s : List α) (x : α) (k : Nat) : (s.take k ++ (x :: s.drop k)).map f = (s.map f).take k ++ ([f x] ++ (s.map f).drop k) := by
  rw [List.map_append, List.map_cons, List.map_take, List.map_drop]
  rfl
end Go.Ab

/- The abstract machine: a call that keeps the row that it is handed, and makes it longer, as one operation. Conditions: none but those that stand in each law. -/
namespace Go.Ab
open Go Go.RowKit

section
variable {P : Program} {nt : Nat} {C : Cx P nt} {dst : Nat} {ty : TypeId} {pos : String} {af : Array Edge} {gd : Option (Nat × Bool)} {x : Operand} {R1 R2 : List (Nat × SV)}

theorem op_callGrow {f T size kk : Nat} {xs : List Operand} {tys : Array TypeId} {args : List RG} {es es' : List (List DV)} {Rh : List (Nat × Option HE)} (hc : CallF P f) (hct : Ct P f (.row T size es :: args) (.new T size es')) (hgr : Nat.blt es.length es'.length = true)
    (hx : Ev x (.own kk es) R1) (hxs : EvX P xs args R2 Rh) (hd : Nat.blt dst nt = true) :
    OpL C (Oo dst (cCall f (x :: xs) tys) ty pos af gd) (R1 ++ R2) ((kk, some (.row T size es true)) :: Rh) [(dst, .one (.own kk es'))] [(kk, some (.row T size es' true))] := by
  refine ⟨fun sl hp hs hh a w K Q ⟨β, r⟩ hK => ?_⟩
  have hgr : es.length < es'.length := by simpa using hgr
  have hu := hx.ok hs.app.1 r
  obtain ⟨_, _, _, _, h1, _, h2⟩ := id hu
  rw [hh.1] at h1; cases h1
  have h2 := h2 rfl
  obtain ⟨hz, hsz, hr⟩ := r.hp kk _ hh.1
  have hmuk : ∀ b, β kk = some b → ∀ o, Mu C hp β b o := fun b hb o => .inr ⟨kk, _, hh.1, hb, .inl rfl⟩
  have hmu : ∀ b b' o, β kk = some b → ((Mu C hp β b' o ∧ β kk ≠ some b') ∨ b' = b) → Mu C hp β b' o := fun b b' o hb c => c.elim (fun c => c.1) fun c => by subst c; exact hmuk _ hb o
  obtain ⟨hxl, hxa⟩ := hxs.ok hs.app.2 hh.2 r hh.1
  have hcall := hct.go (fun b o => Mu C hp β b o ∧ β kk ≠ some b) (fun b => β kk = some b) w (a.eval x :: xs.map a.eval) (fun b o c => ⟨r.mut_lt c.1, c.2⟩)
    (fun b hb => by
      rcases h2 with ⟨h3, _⟩ | ⟨b', cap, cur, h3, h4, _⟩
      · rw [hb] at h3; cases h3
      · rw [hb] at h3; cases h3
        exact ⟨0, T, size, es, cap, rfl, by simp [h4]⟩)
    (by simpa using hxl)
    (fun i g v hg hv => by
      cases i with
      | succ i => exact hxa i g v (by simpa using hg) (by simpa using hv)
      | zero =>
        simp at hg hv; subst hg hv
        refine ⟨hz, hsz, ?_⟩
        rcases h2 with ⟨_, h3, h4⟩ | ⟨b, cap, cur, hb, hu', hle, hcm, hheap, hcs⟩
        · exact .inl ⟨h3, h4⟩
        · rcases hr with ⟨q1, _⟩ | ⟨b', cur', q1, q2, q3, q4⟩
          · rw [hb] at q1; cases q1
          · rw [hb] at q1; cases q1
            rw [hheap] at q2; cases q2
            exact .inr ⟨b, cap, cur, hb, (r.own kk _ b hh.1 hb).2, hu', hle, hcm, hheap, hcs, fun i cs j d hi hj => let ⟨v, p1, p2⟩ := q4 i cs j d hi hj; ⟨v, p1, p2.less fun b' o c => hmu b b' o hb c⟩⟩)
  unfold Oper.wp
  rw [run_call hc]
  refine hcall.mono ?_
  rintro e w' ⟨v, rfl, hkw, hz', hs', hres⟩
  rcases hres with ⟨h3, _⟩ | ⟨b, cap, cur, hB, hlt, hv, hle, hcm, hheap, hcs, hel⟩
  · subst h3; simp at hgr
  · have hmu' : ∀ b' o, Mu C ((kk, some (HE.row T size es' true)) :: hp) (upd β kk (some b)) b' o → (Mu C hp β b' o ∧ β kk ≠ some b') ∨ b' = b := by
      rintro b' o (hM | ⟨k', e', he', hb', hm'⟩)
      · refine .inl ⟨.inl hM, fun c => ?_⟩
        obtain ⟨h4, h5⟩ := r.low b' o hM
        rcases (r.own kk _ b' hh.1 c).1 with h6 | h6
        · omega
        · exact h5 h6
      · rw [hget_cons] at he'
        by_cases hkk : kk = k'
        · subst hkk; simp only [upd, if_true] at hb'; cases hb'; exact .inr rfl
        · rw [if_neg hkk] at he'
          simp only [upd, if_neg (fun c => hkk (Eq.symm c))] at hb'
          exact .inl ⟨.inr ⟨k', e', he', hb', hm'⟩, fun c => hkk (r.inj kk k' _ e' b' hh.1 he' c hb')⟩
    have hnew : BR C ((kk, some (HE.row T size es' true)) :: hp) (upd β kk (some b)) w' (.own kk es') v :=
      ⟨T, size, es', true, by rw [hget_cons, if_pos rfl], Nat.le_refl _, fun _ => .inr ⟨b, cap, cur, by simp [upd], hv, hle, hcm, hheap, hcs⟩⟩
    have hch := (r.chg (w1 := w') (e := .row T size es' true) (bo := some b) hh.1 hkw.os hkw.tape hkw.output hkw.size (fun i hi hne => hkw.block i hi (fun c => hne c.symm)) (fun _ _ _ _ _ hnm => absurd (.inl rfl) hnm)
      (hB.elim (fun c => .inr ⟨b, rfl, c, hlt⟩) fun c => .inl ⟨c.symm, fun o _ => .inl rfl⟩)
      ⟨rfl, fun c => (by cases c)⟩
      (fun es0 u h => by
        obtain ⟨T', size', e1, ex', g1, g2, _⟩ := h
        rw [hh.1] at g1
        cases g1
        exact ⟨T, size, es', true, by rw [hget_cons, if_pos rfl], by omega, fun c => by omega⟩)
      (fun _ _ => ⟨hz', hs', .inr ⟨b, cur, by simp [upd], hheap, by rw [hcs]; exact Nat.mul_le_mul_right _ hle, fun i cs j d hi hj => let ⟨u, q1, q2⟩ := hel i cs j d hi hj; ⟨u, q1, q2.less (hmu' )⟩⟩⟩)).1
    exact hK _ _ ⟨_, hch.put (Below.refl _ _) (by simpa using hd) hnew⟩
end

section
variable {P : Program} {nt : Nat} {C : Cx P nt} {hp hp' : HL} {β : Nat → Option Nat} {w : World}
theorem Mu_ext (h : ∀ k, hget hp' k = hget hp k) : Mu C hp' β = Mu C hp β := by
  funext b o
  simp only [Mu, h]
theorem BR_ext (h : ∀ k, hget hp' k = hget hp k) (c : BV) (u : Value) : BR C hp' β w c u = BR C hp β w c u := by
  cases c <;> simp only [BR, Mu_ext h, h]
theorem SR_ext (h : ∀ k, hget hp' k = hget hp k) (c : SV) (u : Value) : SR C hp' β w c u = SR C hp β w c u := by
  cases c <;> simp only [SR, BR_ext h]
theorem HR_ext (h : ∀ k, hget hp' k = hget hp k) (k : Nat) (e : HE) : HR C hp' β w k e = HR C hp β w k e := by
  cases e <;> simp only [HR, BR_ext h, Mu_ext h, h]
theorem RelB.hpExt {sl : SL} {a : Act} (r : RelB C ⟨sl, hp⟩ β a w) (h : ∀ k, hget hp' k = hget hp k) : RelB C ⟨sl, hp'⟩ β a w where
  keep := r.keep
  low := r.low
  inj := fun k k' e e' b h1 h2 => r.inj k k' e e' b ((h k).symm.trans h1) ((h k').symm.trans h2)
  own := fun k e b h1 => r.own k e b ((h k).symm.trans h1)
  hp := fun k e h1 => by rw [HR_ext h]; exact r.hp k e ((h k).symm.trans h1)
  sl := fun t sv hs => by rw [SR_ext h]; exact r.sl t sv hs
  size := r.size
  df := r.df
  fx := fun b hb => ⟨(r.fx b hb).1, fun e he => (r.fx b hb).2 e ((h 0).symm.trans he)⟩
end

section
variable {P : Program} {nt : Nat} {C : Cx P nt} {dst : Nat}
/-- from now on the row that an operation leaves is only appended to -/
theorem OpL.share {o : Oper} {Rs : List (Nat × SV)} {Rh : List (Nat × Option HE)} {Ws : List (Nat × SV)} {k T size : Nat} {es : List (List DV)} (h : OpL C o Rs Rh Ws [(k, some (.row T size es true))]) :
    OpL C o Rs Rh Ws [(k, some (.row T size es false))] :=
  ⟨fun sl hp hs hh a w K Q r hK => h.go sl hp hs hh a w K Q r fun a' w' ⟨β, q⟩ => hK a' w' ⟨upd β k (β k), by
    have hk : hget ((k, some (.row T size es true)) :: hp) k = some (.row T size es true) := by rw [hget_cons, if_pos rfl]
    refine RelB.hpExt (q.chg (e := .row T size es false) (bo := β k) hk rfl rfl rfl (Nat.le_refl _) (fun _ _ _ => rfl) (fun _ _ _ _ h _ => h) (.inl ⟨rfl, fun o ho => .inr (by simpa [HE.mutAt] using ho)⟩) ⟨rfl, fun _ => rfl⟩ (fun es0 u hu => ?_) (fun _ hRD => ?_)).1 (fun k' => ?_)
    · obtain ⟨T', size', es', ex', h1, h2, h3⟩ := hu
      have h1 : hget ((k, some (.row T size es true)) :: hp) k = _ := h1
      rw [hk] at h1; cases h1
      exact ⟨T, size, es, false, by rw [hget_cons, if_pos rfl], h2, fun hq => by simpa [upd] using h3 hq⟩
    · obtain ⟨hz, hs, hr⟩ := q.hp k _ hk
      exact ⟨hz, hs, hr.imp (fun ⟨q1, q2⟩ => ⟨by simp [upd, q1], q2⟩) fun ⟨b, cur, q1, q2, q3, q4⟩ => ⟨b, cur, by simp [upd, q1], q2, q3, fun i cs j d hi hj => let ⟨u, hu, hr⟩ := q4 i cs j d hi hj; ⟨u, hu, hRD _ _ hr⟩⟩⟩
    · show hget ((k, some (.row T size es false)) :: hp) k' = hget ((k, some (.row T size es false)) :: (k, some (.row T size es true)) :: hp) k'
      simp only [hget_cons]
      by_cases c : k = k'
      · rw [if_pos c, if_pos c]
      · rw [if_neg c, if_neg c, if_neg c]⟩⟩

theorem insL_len {α β : Type} {f : α → β} {bytes : Nat} {s v r : List α} {i : Int} (h : insL bytes s i v = some r) : Nat.blt (s.map f).length (r.map f).length = true := by
  obtain ⟨x, k, _, _, h1, _, _, rfl⟩ := insL_ok h
  simp
  omega
end
end Go.Ab

/- The abstract machine: elements of rows of the call's own, by a pointer. Conditions: none but those that stand in each law. -/
namespace Go.Ab
open Go Go.RowKit

section
variable {P : Program} {nt : Nat} {C : Cx P nt} {dst : Nat} {ty : TypeId} {pos : String} {af : Array Edge} {gd : Option (Nat × Bool)} {x y : Operand} {R1 R2 R : List (Nat × SV)}

theorem BR.rp_inv {hp : HL} {β : Nat → Option Nat} {w : World} {k off : Nat} {es : List (List DV)} {u : Value} (h : BR C hp β w (.rp k es off) u) :
    ∃ s, BR C hp β w (.own k es) s ∧ ∃ b l c, s = .slice (some ⟨b, 0, none⟩) l c ∧ u = .pointer (some ⟨b, off, none⟩) := h

theorem flatten_len {size : Nat} : ∀ {es : List (List DV)}, (∀ cs, cs ∈ es → cs.length = size) → es.flatten.length = es.length * size
  | [], _ => by simp
  | c :: es, h => by
    rw [List.flatten_cons, List.length_append, h c (by simp), flatten_len (es := es) fun x hx => h x (by simp [hx]), List.length_cons, Nat.succ_mul]
    omega

/-- '&s[i]' of a row of the call's own -/
theorem op_indexR {T E : TypeId} {zz : Value} {size bytes k T' : Nat} {es : List (List DV)} {cs : List DV} {kd : IntKind} {i : Int} {ex : Bool} (hT : P.underlying T = some (.slice E)) (hI : Info P E zz size bytes)
    (h0 : 0 ≤ i) (hi : es[i.toNat]? = some cs) (hx : Ev x (.own k es) R1) (hy : Ev y (bI kd i) R2) (hd : Nat.blt dst nt = true) :
    OpL C (Oo dst (.indexAddr T x y) ty pos af gd) (R1 ++ R2) [(k, some (.row T' size es ex))] [(dst, .one (.rp k es (i.toNat * size)))] [] :=
  opl_pure hd rfl fun sl hp β a w hs hh r => by
    have hlt : i.toNat < es.length := (List.getElem?_eq_some_iff.1 hi).1
    have hne : es ≠ [] := fun c => by simp [c] at hlt
    have h1 := hx.ok hs.app.1 r
    obtain ⟨hz, hsz, b, cap, cur, hb, hu, hle, hcm, hheap, hcs, hcl, hel⟩ := own_inv r hh.1 h1 hne
    have h2 := BR.v_inv (hy.ok hs.app.2 r)
    refine ⟨.pointer (some ⟨b, i.toNat * size, none⟩), ?_, a.eval x, h1, b, es.length, cap, hu, rfl⟩
    simp only [execOp, hu, h2, Sem.run_bind, run_indexRow hT hI h0 (show i < (es.length : Int) by omega), Result.andThen_ok, Sem.run_pure]

theorem op_fieldR {S : TypeId} {fs : Array Field} {f : Nat} {fld : Field} {zz : Value} {size bytes k off off' : Nat} {es : List (List DV)} (hS : P.underlying S = some (.struct fs)) (hf : fs[f]? = some fld)
    (hI : Info P fld.type zz size bytes) (hz : size ≠ 0) (he : off + fld.offset = off') (hx : Ev x (.rp k es off) R) (hd : Nat.blt dst nt = true) :
    OpL C (Oo dst (.fieldAddr S x f) ty pos af gd) R [] [(dst, .one (.rp k es off'))] [] :=
  opl_pure hd rfl fun sl hp β a w hs _ r => by
    obtain ⟨s, h1, b, l, c, h2, hu⟩ := BR.rp_inv (hx.ok hs r)
    refine ⟨.pointer (some ⟨b, off', none⟩), ?_, s, h1, b, l, c, h2, rfl⟩
    simp [execOp, hu, run_fieldAt hS hf hI hz, he]

theorem rp_cells {sl : SL} {hp : HL} {β : Nat → Option Nat} {a : Act} {w : World} (r : RelB C ⟨sl, hp⟩ β a w) {kk T size off : Nat} {es : List (List DV)} {ex : Bool} {u : Value} (hk : hget hp kk = some (.row T size es ex)) (hu : BR C hp β w (.rp kk es off) u) (hne : es ≠ []) :
    ∃ b cur, β kk = some b ∧ u = .pointer (some ⟨b, off, none⟩) ∧ w.heap[b]? = some (.cells cur T (0, 0)) ∧ (∀ cs, cs ∈ es → cs.length = size) ∧ 0 < size ∧ es.length * size ≤ cur.size ∧
      ∀ (i : Nat) (cs : List DV) (j : Nat) (d : DV), es[i]? = some cs → cs[j]? = some d → ∃ v, cur[i * size + j]? = some v ∧ RD (Mu C hp β) w v d := by
  obtain ⟨s, h1, b, l, c, h2, hu⟩ := BR.rp_inv hu
  obtain ⟨hz, hsz, b', cap, cur, hb, hu', hle, hcm, hheap, hcs, hcl, hel⟩ := own_inv r hk h1 hne
  rw [h2] at hu'; cases hu'
  exact ⟨b, cur, hb, hu, hheap, hsz, hz, hcl, hel⟩

theorem op_loadR1 {t : TypeId} {td : TypeDesc} {k i f size T : Nat} {es : List (List DV)} {cs : List DV} {d : DV} {ex : Bool} (hU : P.underlying t = some td) (hA : aggD td = false) (hi : es[i]? = some cs) (hc : cs[f]? = some d)
    (hx : Ev x (.rp k es (i * size + f)) R) (hd : Nat.blt dst nt = true) : OpL C (Oo dst (.load t x) ty pos af gd) R [(k, some (.row T size es ex))] [(dst, .one (.g (.d d)))] [] :=
  opl_pure hd rfl fun sl hp β a w hs hh r => by
    have hne : es ≠ [] := fun c => by simp [c] at hi
    obtain ⟨b, cur, hb, hu, hheap, _, _, _, hel⟩ := rp_cells r hh.1 (hx.ok hs r) hne
    obtain ⟨u, h1, h2⟩ := hel i cs f d hi hc
    have hcl : w.cell? ⟨b, i * size + f, none⟩ = some u := by rw [cell_of_row w b _ cur T _ hheap]; exact h1
    exact ⟨u, by simp [execOp, hu, Instr.loadAt, Instr.sureAddr, loadVar, run_isAgg hU, hA, hcl], h2⟩

theorem op_loadRA {t : TypeId} {td : TypeDesc} {zz : Value} {bytes k i f size T : Nat} {es : List (List DV)} {cs ds : List DV} {ex : Bool} (hU : P.underlying t = some td) (hA : aggD td = true) (hI : Info P t zz ds.length bytes) (hi : es[i]? = some cs) (hc : (cs.drop f).take ds.length = ds)
    (hx : Ev x (.rp k es (i * size + f)) R) (hd : Nat.blt dst nt = true) : OpL C (Oo dst (.load t x) ty pos af gd) R [(k, some (.row T size es ex))] [(dst, .one (.g (.agg ds)))] [] :=
  opl_pure hd rfl fun sl hp β a w hs hh r => by
    have hne : es ≠ [] := fun c => by simp [c] at hi
    obtain ⟨b, cur, hb, hu, hheap, _, _, _, hel⟩ := rp_cells r hh.1 (hx.ok hs r) hne
    have key : ∀ j dd, ds[j]? = some dd → ∃ u, cur[i * size + f + j]? = some u ∧ RD (Mu C hp β) w u dd := by
      intro j dd hj
      have hl : j < ds.length := (List.getElem?_eq_some_iff.1 hj).1
      have : cs[f + j]? = some dd := by
        have e : ((cs.drop f).take ds.length)[j]? = ds[j]? := by rw [hc]
        rw [List.getElem?_take, if_pos hl, List.getElem?_drop] at e
        rw [e, hj]
      obtain ⟨u, h1, h2⟩ := hel i cs (f + j) dd hi this
      exact ⟨u, by rw [Nat.add_assoc]; exact h1, h2⟩
    have key2 : ∀ j, j < ds.length → w.cell? ⟨b, i * size + f + j, none⟩ = some ((fun j => cur.getD (i * size + f + j) undef) j) := by
      intro j hj
      obtain ⟨u, h3, _⟩ := key j ds[j] (by simp [hj])
      rw [cell_of_row w b _ cur T _ hheap]
      simp [h3]
    refine ⟨.agg ((List.range ds.length).map (fun j => cur.getD (i * size + f + j) undef)).toArray, ?_, _, rfl, by simp, fun j d hj => ?_⟩
    · simp only [execOp, hu, Sem.run_bind, run_loadAgg (P := P) (b := b) (o := i * size + f) (w := w) hU hA hI _ key2, Result.andThen_ok, Sem.run_pure]
    · obtain ⟨u, h3, h4⟩ := key j d hj
      have hl : j < ds.length := (List.getElem?_eq_some_iff.1 hj).1
      exact ⟨u, by simp [hl, h3], h4⟩

/-- an element of a row is written in part -/
theorem op_storeRG {S E : TypeId} {kk i f size : Nat} {es es' : List (List DV)} {cs cs' ds : List DV} {vs : Act → List Value} {pos : String} {ty : TypeId}
    (hi : es[i]? = some cs) (hf : f + ds.length ≤ cs.length) (he : cs.take f ++ ds ++ cs.drop (f + ds.length) = cs') (hes : es.set i cs' = es')
    (hx : Ev x (.rp kk es (i * size + f)) R1)
    (hrun : ∀ (sl : SL) (hp : HL) β a w, HasS sl (R1 ++ R2) → RelB C ⟨sl, hp⟩ β a w → (vs a).length = ds.length ∧
      (∀ ad : Addr, (Instr.storeAt S (.pointer (some ad)) (a.eval y)).run P w = (storeCells ad (vs a)).run P w) ∧
      ∀ (j : Nat) (d : DV), ds[j]? = some d → ∃ u, (vs a)[j]? = some u ∧ RD (Mu C hp β) w u d) :
    OpL C ⟨none, .store S x y, ty, pos, af, gd⟩ (R1 ++ R2) [(kk, some (.row E size es true))] [] [(kk, some (.row E size es' true))] := by
  subst hes he
  refine ⟨fun sl hp hs hh a w K Q ⟨β, r⟩ hK => ?_⟩
  have hit : i < es.length := (List.getElem?_eq_some_iff.1 hi).1
  have hne : es ≠ [] := fun c => by simp [c] at hi
  obtain ⟨b, cur, hb, hu, hheap, hsz, hsz0, hcl, hel⟩ := rp_cells r hh.1 (hx.ok hs.app.1 r) hne
  obtain ⟨hvl, hst, hvc⟩ := hrun sl hp β a w hs r
  have hcsl : cs.length = size := hsz cs (List.mem_of_getElem? hi)
  have hfit : i * size + f + (vs a).length ≤ cur.size := by
    have : (i + 1) * size ≤ es.length * size := Nat.mul_le_mul_right _ hit
    rw [Nat.add_mul] at this
    omega
  have hone : ∀ v, v ∈ vs a → v.oneCell' = true := by
    intro v hv
    obtain ⟨j, hj, rfl⟩ := List.getElem_of_mem hv
    obtain ⟨u, h1, h2⟩ := hvc j (ds[j]'(by omega)) (by simp [show j < ds.length by omega])
    simp [List.getElem?_eq_getElem hj] at h1
    rw [h1]; exact h2.one
  have hsc := run_storeCells_at P b (i * size + f) E (vs a) 0 cur w hheap (by omega) hone
  simp only [Nat.add_zero] at hsc
  generalize hw1 : w.setRow b (List.take (i * size + f) cur.toList ++ vs a ++ List.drop (i * size + f + (vs a).length) cur.toList).toArray = w1 at hsc
  have hnew : w1.heap[b]? = some (.cells (List.take (i * size + f) cur.toList ++ vs a ++ List.drop (i * size + f + (vs a).length) cur.toList).toArray E) := by rw [← hw1]; exact setRow_heap w b cur _ E _ hheap
  have hoth : ∀ q, q ≠ b → w1.heap[q]? = w.heap[q]? := fun q hq => by rw [← hw1]; exact setRow_other w b q _ hq
  have hsize : w1.heap.size = w.heap.size := by rw [← hw1]; simp [World.setRow]
  have hcurL : cur.toList.length = cur.size := Array.length_toList
  have hcur : ∀ q : Nat, (List.take (i * size + f) cur.toList ++ vs a ++ List.drop (i * size + f + (vs a).length) cur.toList).toArray[q]? = if i * size + f ≤ q ∧ q < i * size + f + ds.length then (vs a)[q - (i * size + f)]? else cur[q]? := by
    intro q
    rw [List.getElem?_toArray, splice_get cur.toList (i * size + f) (vs a) (by omega), hvl]
    simp
  have hcurs : (List.take (i * size + f) cur.toList ++ vs a ++ List.drop (i * size + f + (vs a).length) cur.toList).toArray.size = cur.size := by
    simp only [List.size_toArray, List.length_append, List.length_take, List.length_drop, hcurL]
    omega
  unfold Oper.wp
  have : (execOp a.eval ⟨none, .store S x y, ty, pos, af, gd⟩).run P w = .ok .skip w1 := by
    simp only [execOp, hu, Sem.run_bind, hst, hsc, Result.andThen_ok, Sem.run_pure]
  rw [this]
  refine hK _ _ ⟨upd β kk (β kk), ?_⟩
  have hlen' : (cs.take f ++ ds ++ cs.drop (f + ds.length)).length = size := by
    simp only [List.length_append, List.length_take, List.length_drop]
    omega
  refine (r.chg (e := .row E size (es.set i (cs.take f ++ ds ++ cs.drop (f + ds.length))) true) (bo := β kk) hh.1 (by rw [← hw1]; rfl) (by rw [← hw1]; rfl) (by rw [← hw1]; rfl) (by omega) (fun q _ hq => hoth q (fun c => hq (by rw [c, hb]))) (fun _ o x _ _ hnm => absurd (.inl rfl) hnm)
    (.inl ⟨rfl, fun o ho => .inl rfl⟩) ⟨rfl, fun _ => rfl⟩ (fun es0 u h => ?_) (fun _ hRD => ?_)).1
  · obtain ⟨_, _, _, _, h5, h6, h7⟩ := h
    rw [hh.1] at h5; cases h5
    refine ⟨E, size, es.set i (cs.take f ++ ds ++ cs.drop (f + ds.length)), true, by rw [hget_cons, if_pos rfl], by simpa using h6, fun hq => ?_⟩
    rw [List.length_set] at hq
    rcases h7 hq with ⟨_, h8, _⟩ | ⟨b', cap', cur', h8, h9, h10, h11, h12, h13⟩
    · exact absurd h8 hne
    · rw [hb] at h8; cases h8
      rw [hheap] at h12; cases h12
      exact .inr ⟨b, cap', _, by simp [upd, hb], by rw [List.length_set]; exact h9, by rw [List.length_set]; exact h10, h11, hnew, by rw [hcurs]; exact h13⟩
  · refine ⟨hsz0, fun cs1 hcs' => ?_, .inr ⟨b, _, by simp [upd, hb], hnew, by rw [List.length_set, hcurs]; exact hcl, fun i' cs1 j d hi' hj => ?_⟩⟩
    · rcases List.mem_or_eq_of_mem_set hcs' with h5 | h5
      · exact hsz cs1 h5
      · rw [h5]; exact hlen'
    · rw [getElem?_set' es i i' _ hit] at hi'
      rw [hcur]
      by_cases c : i = i'
      · subst c
        rw [if_pos rfl] at hi'
        cases hi'
        rw [splice_get cs f ds hf] at hj
        split at hj
        · rename_i hin
          obtain ⟨x', h3, h4⟩ := hvc _ d hj
          rw [if_pos (by omega)]
          exact ⟨x', by rw [show i * size + j - (i * size + f) = j - f by omega]; exact h3, hRD _ _ h4⟩
        · rename_i hin
          obtain ⟨v, h3, h4⟩ := hel i cs j d hi hj
          rw [if_neg (by omega)]
          exact ⟨v, h3, hRD _ _ h4⟩
      · rw [if_neg c] at hi'
        obtain ⟨v, h3, h4⟩ := hel i' cs1 j d hi' hj
        have hj' : j < size := by rw [← hsz cs1 (List.mem_of_getElem? hi')]; exact (List.getElem?_eq_some_iff.1 hj).1
        have : ¬ (i * size + f ≤ i' * size + j ∧ i' * size + j < i * size + f + ds.length) := by
          rintro ⟨q1, q2⟩
          rcases Nat.lt_or_gt_of_ne c with c' | c'
          · have : (i + 1) * size ≤ i' * size := Nat.mul_le_mul_right _ c'
            rw [Nat.add_mul] at this; omega
          · have : (i' + 1) * size ≤ i * size := Nat.mul_le_mul_right _ c'
            rw [Nat.add_mul] at this; omega
        rw [if_neg this]
        exact ⟨v, h3, hRD _ _ h4⟩

theorem op_storeR1 {S E : TypeId} {kk i f size : Nat} {zz : Value} {bytes : Nat} {es es' : List (List DV)} {cs cs' : List DV} {d : DV} (hI : Info P S zz 1 bytes)
    (hi : es[i]? = some cs) (hf : Nat.blt f cs.length = true) (he : cs.take f ++ [d] ++ cs.drop (f + 1) = cs') (hes : es.set i cs' = es') (hx : Ev x (.rp kk es (i * size + f)) R1) (hy : Ev y (.g (.d d)) R2) :
    OpL C ⟨none, .store S x y, ty, pos, af, gd⟩ (R1 ++ R2) [(kk, some (.row E size es true))] [] [(kk, some (.row E size es' true))] := by
  refine op_storeRG (vs := fun a => [a.eval y]) (ds := [d]) hi (by simp at hf ⊢; omega) he hes hx (fun sl hp β a w hs r => ?_)
  have h1 : RD (Mu C hp β) w (a.eval y) d := hy.ok hs.app.2 r
  have h2 := h1.one
  have h3 : (a.eval y).cells = #[a.eval y] := by generalize a.eval y = u at h2; cases u <;> simp_all [Value.cells, Value.oneCell']
  refine ⟨rfl, fun ad => ?_, fun j c' hj => ?_⟩
  · simp [Instr.storeAt, Instr.sureAddr, storeVar, h3, hI.sizeOf]
  · cases j with
    | zero => simp at hj; subst hj; exact ⟨_, rfl, h1⟩
    | succ j => simp at hj

theorem op_storeRA {S E : TypeId} {kk i f size : Nat} {zz : Value} {bytes : Nat} {es es' : List (List DV)} {cs cs' ds : List DV} (hI : Info P S zz ds.length bytes)
    (hi : es[i]? = some cs) (hf : Nat.ble (f + ds.length) cs.length = true) (he : cs.take f ++ ds ++ cs.drop (f + ds.length) = cs') (hes : es.set i cs' = es') (hx : Ev x (.rp kk es (i * size + f)) R1) (hy : Ev y (.g (.agg ds)) R2) :
    OpL C ⟨none, .store S x y, ty, pos, af, gd⟩ (R1 ++ R2) [(kk, some (.row E size es true))] [] [(kk, some (.row E size es' true))] := by
  refine op_storeRG (vs := fun a => (a.eval y).cells.toList) (ds := ds) hi (by simpa using hf) he hes hx (fun sl hp β a w hs r => ?_)
  obtain ⟨us, hu, hl, hc⟩ := hy.ok hs.app.2 r
  refine ⟨by simp [hu, Value.cells, hl], fun ad => ?_, fun j d hj => ?_⟩
  · simp [Instr.storeAt, Instr.sureAddr, storeVar, hu, Value.cells, hl, hI.sizeOf]
  · obtain ⟨u, h1, h2⟩ := hc j d hj
    exact ⟨u, by simp [hu, Value.cells, h1], h2⟩
end

section
variable {P : Program} {nt : Nat} {C : Cx P nt} {Q0 : Exit → Act → World → Prop} {k : List KI}
theorem G.opG2 {ops : Array Oper} {rest : List Oper} {o : Oper} {sl : SL} {hp : HL} {dst kk : Nat} {sv : SV} {e : Option HE} {Rs : List (Nat × SV)} {Rh : List (Nat × Option HE)} {j t : Nat} {b : Bool}
    (h : OpL C o Rs Rh [(dst, sv)] [(kk, e)]) (hg : o.guard = some (j, b)) (hj : (ops[j]?).bind (·.dst) = some t) (ht : sget sl t = some (.one (bB b))) (hs : HasS sl Rs) (hh : HasH hp Rh) (hk : G C Q0 (.l ops rest :: k) ⟨(dst, sv) :: sl, (kk, e) :: hp⟩) : G C Q0 (.l ops (o :: rest) :: k) ⟨sl, hp⟩ := G.opG h hg hj ht hs hh rfl rfl hk
theorem G.opG3 {ops : Array Oper} {rest : List Oper} {o : Oper} {sl : SL} {hp : HL} {kk : Nat} {e : Option HE} {Rs : List (Nat × SV)} {Rh : List (Nat × Option HE)} {j t : Nat} {b : Bool}
    (h : OpL C o Rs Rh [] [(kk, e)]) (hg : o.guard = some (j, b)) (hj : (ops[j]?).bind (·.dst) = some t) (ht : sget sl t = some (.one (bB b))) (hs : HasS sl Rs) (hh : HasH hp Rh) (hk : G C Q0 (.l ops rest :: k) ⟨sl, (kk, e) :: hp⟩) : G C Q0 (.l ops (o :: rest) :: k) ⟨sl, hp⟩ := G.opG h hg hj ht hs hh rfl rfl hk
end

section
variable {P : Program} {nt : Nat} {C : Cx P nt} {dst : Nat} {ty : TypeId} {pos : String} {af : Array Edge} {gd : Option (Nat × Bool)} {R : List (Nat × SV)}
/-- a slice of some elements that is to be appended to -/
theorem op_buildRowN {T E : TypeId} {zz : Value} {size bytes len kk : Nat} {es : List (List DV)} {xs : List (Nat × Operand)} {gs : List (Nat × AG)} {ex : Bool}
    (hT : P.underlying T = some (.slice E)) (hI : Info P E zz size bytes) (hz : Nat.blt 0 size = true) (hbig : Nat.ble (len * size) 16777216 = true) (hlen : Nat.ble len 16777216 = true)
    (hx : EvP xs gs R) (he : dfill (fun i => some (i * size, size)) (List.replicate (len * size) none) gs = some (es.flatten.map some)) (hel : Nat.beq es.length len = true) (hes : ∀ cs, cs ∈ es → cs.length = size) (hd : Nat.blt dst nt = true) (hk0 : Nat.blt 0 kk = true := by rfl) :
    OpL C (Oo dst (.buildSlice T len xs.toArray) ty pos af gd) R [(kk, none)] [(dst, .one (.own kk es))] [(kk, some (.row E size es ex))] := by
  refine ⟨fun sl hp hs hh a w K Q ⟨β, r⟩ hK => ?_⟩
  have hel := Nat.eq_of_beq_eq_true hel
  have hbig' : ¬ (16777216 < len * size) := by simp at hbig; omega
  obtain ⟨h1, h2⟩ := hx.ok hs r
  generalize hz0 : (if len * size = 0 then (#[] : Array Value) else zz.cells) = z0
  have hvr0 : VR (Mu C hp β) w ((Array.range (len * size)).map (z0[· % z0.size]!)) (List.replicate (len * size) none) := ⟨by simp, fun j d hj => by rw [List.getElem?_replicate] at hj; split at hj <;> simp at hj⟩
  obtain ⟨vals, hf, hv⟩ := fill_vr (vparts := xs.map fun q => (q.1, a.eval q.2)) hvr0 (by simpa using h1) h2 he
  have hrun : (execOp a.eval (Oo dst (.buildSlice T len xs.toArray) ty pos af gd)).run P w = .ok (.value (.slice (some ⟨w.heap.size, 0, none⟩) len len)) (w.alloc (.cells vals E)) := by
    simp only [execOp, Instr.buildSlice, Sem.run_bind, run_underlying hT, Result.andThen_ok, hI.sizeOf]
    rw [if_neg (by simpa using hbig')]
    by_cases h0 : len * size = 0
    · rw [if_pos h0] at hz0
      subst hz0
      rw [if_pos h0]
      simp only [Sem.run_bind, Sem.run_pure, Result.andThen_ok, List.map_toArray, hf, newRow, run_newObj]
      rfl
    · rw [if_neg h0] at hz0
      subst hz0
      rw [if_neg h0]
      simp only [Sem.run_bind, Sem.run_pure, Result.andThen_ok, hI.zero, List.map_toArray, hf, newRow, run_newObj]
      rfl
  unfold Oper.wp
  rw [hrun]
  have hsize : vals.size = len * size := by
    have h3 := hv.1
    rw [List.length_map] at h3
    rw [h3, ← hel]
    exact flatten_len hes
  have h := (r.new (e := .row E size es ex) (bo := some w.heap.size) hh.1 hk0 (below_alloc w (.cells vals E)) (fun b hb => by cases hb; exact ⟨rfl, by simp⟩) fun _ hRD =>
    ⟨by simpa using hz, hes, .inr ⟨w.heap.size, vals, by simp [upd], heap_alloc_new w _, by rw [hsize, hel]; exact Nat.le_refl _, fun i cs j d hi hj => by
      obtain ⟨u, h3, h4⟩ := hv.2 (i * size + j) d (by rw [List.getElem?_map, flatten_get size es hes i cs j d hi hj]; rfl)
      exact ⟨u, h3, hRD _ _ h4⟩⟩⟩).1
  exact hK _ _ ⟨_, h.put (Below.refl _ _) (by simpa using hd) ⟨E, size, es, ex, by rw [hget_cons, if_pos rfl], Nat.le_refl _, fun _ => .inr ⟨w.heap.size, len, vals, by simp [upd], by rw [hel], by rw [hel]; exact Nat.le_refl _, by simp at hlen; unfold maxLen; omega, heap_alloc_new w _, hsize⟩⟩⟩
end
end Go.Ab

/- One element that is taken out of a row of the call's own: laws of the model's operations, and the contract. Conditions: none but those that stand in each law. -/
namespace Go.Ab
open Go Go.RowKit Go.Proofs

/-- 'append', as one step of a region that draws, where its run is known by an equation -/
theorem step_append_runI {P : Program} {ops : Array Oper} {o : Oper} {a : Act} {w : World} {K : Act → World → Prop} {Q : Exit → Act → World → Prop} {E : Prop}
    (hg : o.guard = none) (d x : Operand) (dT sT : TypeId) (hop : o.op = Op.call { callee := Callee.builtin Builtin.append, args := #[d, x], argTypes := #[dT, sT] })
    (v u : Value) (hd : a.eval d = v) (hx : a.eval x = u) {v' : Value} {w' : World} (hr : (Builtin.append_ #[dT, sT] o.type #[v, u]).run P w = .ok v' w') (hK : K (a.put o.dst v') w') :
    if Region.wanted o (yielded ops a.tmps) = true then Oper.wp P o a w K Q else E := by
  have hw : Region.wanted o (yielded ops a.tmps) = true := by simp [Region.wanted, hg]
  rw [if_pos hw]
  unfold Oper.wp
  simp [execOp, hop, resolve, invoke, builtin, hd, hx, hr, Result.andThen]
  exact hK

theorem wpList_clear_runI {P : Program} (w : World) {ops : Array Oper} {rest : List Oper} {o : Oper} {a : Act} {Q : Exit → Act → World → Prop} (hgd : o.guard = none) (d : Operand) (t : TypeId)
    (ho : o.op = .call { callee := .builtin .clear, args := #[d], argTypes := #[t] }) (v : Value) (hd : a.eval d = v) {v' : Value} {w' : World}
    (hr : (Builtin.clear_ #[t] o.type #[v]).run P w = .ok v' w') (h : wpList P ops Q rest (a.put o.dst v') w') : wpList P ops Q (o :: rest) a w :=
  wpList_plain hgd fun K hK => by
    unfold Oper.wp execOp
    simp only [ho, resolve, invoke, builtin, Sem.run_bind, Sem.run_pure, Result.andThen_ok, List.map_toArray, List.map_cons, List.map_nil, hd, hr]
    exact hK _ _ h

/-- 'clear' of one element of a row -/
theorem run_clear_row {P : Program} (w : World) (t e ty : TypeId) (z : Value) (ht : P.underlying t = some (.slice e)) (hv : ∀ w, (zeroValue e).run P w = .ok z w) (h1 : ∀ v ∈ z.cells.toList, v.oneCell' = true) (b o c : Nat)
    (hc : ∀ j, j < z.cells.size → (w.cell? ⟨b, o + j, none⟩).isSome = true) (hf : ∀ j, j < z.cells.size → w.frozen? ⟨b, o + j, none⟩ = false) :
    (Builtin.clear_ #[t] ty #[.slice (some ⟨b, o, none⟩) 1 c]).run P w = .ok (.tuple #[]) (w.setCells b o z.cells.toList) := by
  have hzc : (Builtin.zeroCells z.cells 1).toList = z.cells.toList := by
    apply List.ext_getElem
    · simp [Builtin.zeroCells]
    · intro i h1 h2
      simp only [Builtin.zeroCells] at h1 ⊢
      simp at h2
      simp [Nat.mod_eq_of_lt h2, h2]
  have hst := run_storeCells_cells (P := P) b o z.cells.toList 0 w (by simpa using hc) (by simpa using hf) h1
  simp only [Nat.add_zero] at hst
  simp [Builtin.clear_, run_underlying ht, hv, hzc, hst]

/-- 'slices.Delete(s, i, i + 1)' -/
def delL {α : Type} (s : List α) (i j : Int) : Option (List α) :=
  if 0 ≤ i ∧ i < s.length ∧ j = i + 1 ∧ s.length ≤ 1099511627776 then some (s.take i.toNat ++ s.drop (i.toNat + 1)) else none
theorem delL_ok {α : Type} {s r : List α} {i j : Int} (h : delL s i j = some r) : ∃ k : Nat, i = (k : Int) ∧ j = (k : Int) + 1 ∧ k < s.length ∧ s.length ≤ 1099511627776 ∧ r = s.take k ++ s.drop (k + 1) := by
  unfold delL at h
  split at h
  · rename_i c
    cases h
    exact ⟨i.toNat, by omega, by omega, by omega, c.2.2.2, rfl⟩
  · cases h
theorem delL_map {α β : Type} (f : α → β) (s : List α) (k : Nat) : (s.take k ++ s.drop (k + 1)).map f = (s.map f).take k ++ (s.map f).drop (k + 1) := by
  rw [List.map_append, List.map_take, List.map_drop]

theorem InsR.del {E z b c n i : Nat} {cur : Array Value} {zs : List Value} {w : World} (hh : w.heap[b]? = some (.cells cur E (0, 0))) (hc : cur.size = c * z) (hi : i ≤ n) (hn : n + 1 ≤ c) (hm : c ≤ maxLen) (hv : zs.length = z) :
    InsR E z (some b) n ((cur.toList.take ((n + 1) * z)).take (i * z) ++ (cur.toList.take ((n + 1) * z)).drop ((i + 1) * z)) w ((w.drew.setCells b (i * z) ((cur.toList.take ((n + 1) * z)).drop ((i + 1) * z))).setCells b (n * z) zs) (.slice (some ⟨b, 0, none⟩) n c) := by
  have hnz : (n + 1) * z ≤ cur.size := by rw [hc]; exact Nat.mul_le_mul_right _ hn
  have hiz : i * z ≤ n * z := Nat.mul_le_mul_right _ hi
  have e1 : (n + 1) * z = n * z + z := Nat.succ_mul _ _
  have e2 : (i + 1) * z = i * z + z := Nat.succ_mul _ _
  have hl : cur.toList.length = cur.size := Array.length_toList
  have hdl : ((cur.toList.take ((n + 1) * z)).drop ((i + 1) * z)).length = n * z - i * z := by rw [List.length_drop, List.length_take, hl]; omega
  obtain ⟨c1, h1, h2, h3⟩ := setCells_row b E (0, 0) ((cur.toList.take ((n + 1) * z)).drop ((i + 1) * z)) (i * z) w.drew cur hh (by rw [hdl]; omega)
  obtain ⟨c2, h4, h5, h6⟩ := setCells_row b E (0, 0) zs (n * z) _ c1 h1 (by rw [h2, hv]; omega)
  obtain ⟨a1, a2, a3, a4, a5⟩ := setCells_same b ((cur.toList.take ((n + 1) * z)).drop ((i + 1) * z)) (i * z) w.drew
  obtain ⟨b1, b2, b3, b4, b5⟩ := setCells_same b zs (n * z) (w.drew.setCells b (i * z) ((cur.toList.take ((n + 1) * z)).drop ((i + 1) * z)))
  have hb : b < w.heap.size := (Array.getElem?_eq_some_iff.1 hh).1
  refine ⟨b1.trans a1, b2.trans a2, b3.trans a3, by rw [b4, a4]; exact Nat.le_refl _, fun k _ hk => ?_, b, c, c2, rfl, by omega, hm, .inl rfl, by rw [b4, a4]; exact hb, h4, by rw [h5, h2, hc], fun j u hj => ?_⟩
  · have hkb : k ≠ b := fun e => hk (by rw [e])
    rw [b5 k hkb, a5 k hkb]; rfl
  · have htl : ((cur.toList.take ((n + 1) * z)).take (i * z)).length = i * z := by rw [List.length_take, List.length_take, hl]; omega
    rw [h6, hv]
    by_cases g1 : j < i * z
    · rw [if_neg (by omega), h3, if_neg (by omega)]
      rw [List.getElem?_append_left (by rw [htl]; exact g1), List.getElem?_take_of_lt g1, List.getElem?_take_of_lt (by omega), Array.getElem?_toList] at hj
      exact hj
    · rw [List.getElem?_append_right (by rw [htl]; omega), htl] at hj
      have hlt := (List.getElem?_eq_some_iff.1 hj).1
      rw [hdl] at hlt
      rw [if_neg (by omega), h3, if_pos (by rw [hdl]; omega)]
      exact hj

/-- A CONTRACT OUT OF WHAT THE HEAP HOLDS -/
theorem ct_delete {P : Program} {f E z : Nat} {es : List (List DV)} {i : Nat} (hi : i < es.length)
    (hrow : ∀ (w : World) (b c : Nat) (cur : Array Value), w.heap[b]? = some (.cells cur E (0, 0)) → cur.size = c * z → es.length ≤ c → c ≤ maxLen → (∀ (j : Nat) (v : Value), j < es.length * z → cur[j]? = some v → v.oneCell' = true) →
      Calls P f #[.slice (some ⟨b, 0, none⟩) es.length c, .int .i64 (i : Int), .int .i64 ((i : Int) + 1)] w fun e w' => ∃ v, e = .returned v ∧ InsR E z (some b) (es.length - 1) ((cur.toList.take (es.length * z)).take (i * z) ++ (cur.toList.take (es.length * z)).drop ((i + 1) * z)) w w' v) :
    Ct P f [.row E z es, .g (.d (.v (.int .i64 (i : Int)))), .g (.d (.v (.int .i64 ((i : Int) + 1))))] (.new E z (es.take i ++ es.drop (i + 1))) := by
  refine ⟨fun M K w vs hM hK hl hargs => ?_⟩
  obtain ⟨u0, u1, u2, rfl⟩ : ∃ a b c, vs = [a, b, c] := by
    match vs, hl with
    | [a, b, c], _ => exact ⟨a, b, c, rfl⟩
  obtain ⟨hz, hsz, hr0⟩ := hargs 0 _ u0 rfl rfl
  have h1 : u1 = .int .i64 (i : Int) := RD.v_inv (hargs 1 _ u1 rfl rfl)
  have h2 : u2 = .int .i64 ((i : Int) + 1) := RD.v_inv (hargs 2 _ u2 rfl rfl)
  subst h1 h2
  have hes : es ≠ [] := fun c => by simp [c] at hi
  rcases hr0 with ⟨hn, _⟩ | ⟨b, c0, cur, hKb, hlt, rfl, hle, hcm, hheap, hcs, hel⟩
  · exact absurd hn hes
  · have hone : ∀ j v, j < es.length * z → cur[j]? = some v → v.oneCell' = true := fun j v hj hv => by
      have hq : j / z < es.length := (Nat.div_lt_iff_lt_mul hz).2 hj
      have hmod : j % z < z := Nat.mod_lt _ hz
      have hl2 : es[j / z].length = z := hsz _ (List.getElem_mem hq)
      obtain ⟨v', g1, g2⟩ := hel (j / z) es[j / z] (j % z) (es[j / z]'hq)[j % z] (by simp [hq]) (by simp [hl2, hmod])
      rw [show j / z * z + j % z = j by rw [Nat.mul_comm]; exact Nat.div_add_mod j z, hv] at g1
      cases g1
      exact g2.one
    refine (hrow w b c0 cur hheap hcs hle hcm hone).mono fun e w' ⟨v, he, hI⟩ => ⟨v, he, ?_⟩
    obtain ⟨b', cap', cur', rfl, g1, g2, g3, g4, g5, g6, g7⟩ := hI.row
    have hbb : b' = b ∨ w.heap.size ≤ b' := g3.elim (fun h => .inl (by cases h; rfl)) .inr
    have hlen : (es.take i ++ es.drop (i + 1)).length = es.length - 1 := by simp; omega
    have hbig : es.length * z ≤ cur.size := by rw [hcs]; exact Nat.mul_le_mul_right _ hle
    have hiz : (i + 1) * z ≤ es.length * z := Nat.mul_le_mul_right _ hi
    have e2 : (i + 1) * z = i * z + z := Nat.succ_mul _ _
    have hll : cur.toList.length = cur.size := Array.length_toList
    have htl : ((cur.toList.take (es.length * z)).take (i * z)).length = i * z := by rw [List.length_take, List.length_take, hll]; omega
    refine ⟨⟨hI.os, hI.tape, hI.output, hI.size, fun k hk hnk => hI.block k hk fun c => hnk (by cases c; exact hKb)⟩, hz, fun cs hcs' => ?_, .inr ⟨b', cap', cur', ?_, g4, by rw [hlen], by rw [hlen]; exact g1, g2, g5, g6, fun q cs j d hq hj => ?_⟩⟩
    · rcases List.mem_append.1 hcs' with h | h
      · exact hsz cs (List.mem_of_mem_take h)
      · exact hsz cs (List.mem_of_mem_drop h)
    · rcases hbb with rfl | h
      · exact .inr hKb
      · exact .inl h
    · have hjl : j < cs.length := (List.getElem?_eq_some_iff.1 hj).1
      have fin : ∀ (u : Value) (M0 : Nat → Nat → Prop), ((cur.toList.take (es.length * z)).take (i * z) ++ (cur.toList.take (es.length * z)).drop ((i + 1) * z))[q * z + j]? = some u → RD M0 w u d → (∀ b1 o, ¬ M0 b1 o → ¬ M b1 o ∧ some b ≠ some b1) →
          ∃ u, cur'[q * z + j]? = some u ∧ RD (fun b1 o => M b1 o ∨ b1 = b') w' u d := fun u M0 hu hrd hM0 => by
        refine ⟨u, g7 _ u hu, hrd.mono fun b1 o y hn hy => ?_⟩
        obtain ⟨hn1, hn2⟩ := hM0 b1 o hn
        have hlt1 := cell_lt hy
        refine ⟨?_, fun c => ?_⟩
        · have := hI.block b1 hlt1 hn2
          simp only [World.cell?] at hy ⊢
          rw [this]; exact hy
        · rcases c with c | c
          · exact hn1 c
          · subst c
            rcases hbb with h | h
            · exact hn2 (by rw [h])
            · omega
      by_cases c1 : q < i
      · rw [List.getElem?_append_left (by simp; omega), List.getElem?_take_of_lt c1] at hq
        have hcl : cs.length = z := hsz _ (List.mem_of_getElem? hq)
        obtain ⟨u, k1, k2⟩ := hel q cs j d hq hj
        have hpos : q * z + j < i * z := by
          have : (q + 1) * z ≤ i * z := Nat.mul_le_mul_right _ c1
          rw [Nat.succ_mul] at this; omega
        refine fin u _ ?_ k2 fun b1 o hn => ⟨fun c => hn (.inl c), fun c => hn (.inr (by cases c; rfl))⟩
        rw [List.getElem?_append_left (by rw [htl]; exact hpos), List.getElem?_take_of_lt hpos, List.getElem?_take_of_lt (by omega), Array.getElem?_toList]
        exact k1
      · have hq2 : es[q + 1]? = some cs := by
          rw [List.getElem?_append_right (by simp; omega)] at hq
          simp only [List.length_take, List.getElem?_drop] at hq
          rw [Nat.min_eq_left (by omega)] at hq
          rwa [show i + 1 + (q - i) = q + 1 by omega] at hq
        have hcl : cs.length = z := hsz _ (List.mem_of_getElem? hq2)
        obtain ⟨u, k1, k2⟩ := hel (q + 1) cs j d hq2 hj
        have hpl : q + 1 < es.length := (List.getElem?_eq_some_iff.1 hq2).1
        have hpz : (q + 1 + 1) * z ≤ es.length * z := Nat.mul_le_mul_right _ hpl
        have hip : i * z ≤ q * z := Nat.mul_le_mul_right _ (by omega)
        have e3 : (q + 1) * z = q * z + z := Nat.succ_mul _ _
        rw [Nat.succ_mul] at hpz
        refine fin u _ ?_ k2 fun b1 o hn => ⟨fun c => hn (.inl c), fun c => hn (.inr (by cases c; rfl))⟩
        rw [List.getElem?_append_right (by rw [htl]; omega), htl, List.getElem?_drop, List.getElem?_take_of_lt (by omega), Array.getElem?_toList]
        rw [show (i + 1) * z + (q * z + j - i * z) = (q + 1) * z + j by omega]
        exact k1
end Go.Ab

/- The abstract machine: a call with functions among its arguments that hands back data. Conditions: none but those that stand in each law. -/
namespace Go.Ab
open Go Go.RowKit

section
variable {P : Program} {nt : Nat} {C : Cx P nt} {dst : Nat} {ty : TypeId} {pos : String} {af : Array Edge} {gd : Option (Nat × Bool)}

theorem EvX.okN {sl : SL} {hp : HL} {β : Nat → Option Nat} {a : Act} {w : World} {xs : List Operand} {gs : List RG} {R : List (Nat × SV)} {Rh : List (Nat × Option HE)}
    (hx : EvX P xs gs R Rh) (hs : HasS sl R) (hh : HasH hp Rh) (r : RelB C ⟨sl, hp⟩ β a w) :
    (xs.map a.eval).length = gs.length ∧ ∀ (i : Nat) (g : RG) (v : Value), gs[i]? = some g → (xs.map a.eval)[i]? = some v → ArgR P (Mu C hp β) (fun _ => False) w g v := by
  induction hx with
  | nil => exact ⟨rfl, fun i g v h => by simp at h⟩
  | g h t ih =>
    obtain ⟨h3, h4⟩ := ih hs.app.2 hh
    refine ⟨by simpa using h3, fun i g v hg hv => ?_⟩
    cases i with
    | zero => simp at hg hv; subst hg hv; exact GR.less (fun b o c => c.elim id False.elim) (h.ok hs.app.1 r)
    | succ i => exact h4 i g v (by simpa using hg) (by simpa using hv)
  | sem h t ih =>
    obtain ⟨h3, h4⟩ := ih hs.app.2 hh
    refine ⟨by simpa using h3, fun i g v hg hv => ?_⟩
    cases i with
    | zero =>
      simp at hg hv; subst hg hv
      obtain ⟨f, caps, hu, hcf, hf⟩ := (h.ok hs.app.1 r : SemFn P C.w0 C.K _ _)
      refine ⟨f, caps, hu, hcf, fun w'' hb' => hf w'' ⟨hb'.os.trans r.keep.os, hb'.tape.trans r.keep.tape, hb'.output.trans r.keep.output, Nat.le_trans r.keep.size hb'.size, fun q hq hK => ?_⟩⟩
      rw [hb'.block q (Nat.lt_of_lt_of_le hq r.keep.size) (fun c => c.elim)]
      exact r.keep.block q hq hK
    | succ i => exact h4 i g v (by simpa using hg) (by simpa using hv)
  | clo h hc hcf hΦ t ih =>
    obtain ⟨h3, h4⟩ := ih hs.app.2 hh.app.2
    refine ⟨by simpa using h3, fun i g v hg hv => ?_⟩
    cases i with
    | zero =>
      simp at hg hv; subst hg hv
      exact clo_sem r (h.ok hs.app.1 r) hc hh.app.1 (fun b hb => hb.elim) (fun b hb o => hb.elim) hcf hΦ
    | succ i => exact h4 i g v (by simpa using hg) (by simpa using hv)

/-- a call with plain data and functions -/
theorem op_callX {f : Nat} {xs : List Operand} {tys : Array TypeId} {args : List RG} {res : RS} {sv : SV} {R : List (Nat × SV)} {Rh : List (Nat × Option HE)} (hc : CallF P f) (hct : Ct P f args res) (hsv : res.sv = sv) (hx : EvX P xs args R Rh) (hd : Nat.blt dst nt = true) :
    OpL C (Oo dst (cCall f xs tys) ty pos af gd) R Rh [(dst, sv)] [] := by
  refine ⟨fun sl hp hs hh a w K Q ⟨β, r⟩ hK => ?_⟩
  obtain ⟨h1, h2⟩ := hx.okN hs hh r
  have hcall := hct.go (Mu C hp β) (fun _ => False) w (xs.map a.eval) (fun b o h => ⟨r.mut_lt h, id⟩) (fun b h => h.elim) h1 h2
  unfold Oper.wp
  rw [run_call hc]
  refine hcall.mono ?_
  rintro e w' ⟨v, rfl, hk, hr⟩
  refine hK _ _ ⟨β, r.put hk.toBelow (by simpa using hd) ?_⟩
  rw [← hsv]
  exact RS.sv_ok hr
end

section
variable {P : Program} {nt : Nat} {C : Cx P nt} {dst : Nat} {ty : TypeId} {pos : String} {af : Array Edge} {gd : Option (Nat × Bool)} {R : List (Nat × SV)}
/-- an array of elements -/
theorem op_buildA {T E : TypeId} {n : Nat} {zz zzE : Value} {size bytes sizeE bytesE : Nat} {zs ds : List DV} {xs : List (Nat × Operand)} {gs : List (Nat × AG)}
    (hT : P.underlying T = some (.array n E)) (hI : Info P T zz size bytes) (hIE : Info P E zzE sizeE bytesE) (hz : ZD zz.cells.toList zs)
    (hx : EvP xs gs R) (he : dfill (fun i => some (i * sizeE, sizeE)) (zs.map some) gs = some (ds.map some)) (hd : Nat.blt dst nt = true) :
    OpL C (Oo dst (.build T xs.toArray) ty pos af gd) R [] [(dst, .one (.g (.agg ds)))] [] :=
  opl_pure hd rfl fun sl hp β a w hs _ r => by
    obtain ⟨h1, h2⟩ := hx.ok hs r
    obtain ⟨vals, hf, hv⟩ := fill_vr (vparts := xs.map fun q => (q.1, a.eval q.2)) (ZD.vr (M := Mu C hp β) (w := w) hz) (by simpa using h1) h2 he
    refine ⟨.agg vals, ?_, vals, rfl, by simpa using hv.1, fun j d hj => hv.2 j d (by simp [hj])⟩
    have hf' : Instr.fill (fun i => some (i * sizeE, sizeE)) zz.cells (List.map (fun x => (x.fst, a.eval x.snd)) xs) = some vals := by simpa using hf
    simp only [execOp, Instr.build, Sem.run_bind, hI.zero, Result.andThen_ok, run_underlying hT, hIE.sizeOf, List.map_toArray, hf', Sem.run_pure]
end
end Go.Ab

/- The abstract machine: maps of the call's own, and maps that are only read. Conditions: none but those that stand in each law. -/
namespace Go.Ab
open Go Go.RowKit

/-! ### maps as lists -/
def mget {α γ : Type} [DecidableEq α] : List (α × γ) → α → Option γ
  | [], _ => none
  | (a, b) :: m, x => if a = x then some b else mget m x
def mset {α γ : Type} [DecidableEq α] : List (α × γ) → α → γ → List (α × γ)
  | [], x, v => [(x, v)]
  | (a, b) :: m, x, v => if a = x then (x, v) :: m else (a, b) :: mset m x v
def findE {α : Type} [DecidableEq α] : List α → List MapEntry → α → Nat → Option (Nat × Value)
  | k :: ks, e :: es, x, i => if k = x then some (i, e.val) else findE ks es x (i + 1)
  | _, _, _, _ => none

theorem findE_none {α γ : Type} [DecidableEq α] : ∀ {m : List (α × γ)} {es : List MapEntry} {x : α} {i : Nat}, mget m x = none → findE (m.map (·.1)) es x i = none
  | [], es, _, _, _ => by cases es <;> rfl
  | (a, b) :: m, [], _, _, _ => rfl
  | (a, b) :: m, e :: es, x, i, h => by
    rw [mget] at h
    split at h
    · cases h
    · rename_i c
      show (if a = x then _ else _) = _
      rw [if_neg c]
      exact findE_none h
theorem findE_some {α γ : Type} [DecidableEq α] : ∀ {m : List (α × γ)} {es : List MapEntry} {x : α} {i : Nat} {v : γ}, mget m x = some v → es.length = m.length →
    ∃ j, m[j]? = some (x, v) ∧ (∃ e, es[j]? = some e ∧ findE (m.map (·.1)) es x i = some (i + j, e.val)) ∧ ∀ v', mset m x v' = m.set j (x, v')
  | [], _, _, _, _, h, _ => by cases h
  | (a, b) :: m, [], _, _, _, _, hl => by simp at hl
  | (a, b) :: m, e :: es, x, i, v, h, hl => by
    rw [mget] at h
    split at h
    · rename_i c
      cases h
      subst c
      exact ⟨0, rfl, ⟨e, rfl, by show (if a = a then _ else _) = _; rw [if_pos rfl]; rfl⟩, fun v' => by rw [mset, if_pos rfl]; rfl⟩
    · rename_i c
      obtain ⟨j, h1, ⟨e', h2, h3⟩, h4⟩ := findE_some (i := i + 1) h (by simpa using hl)
      refine ⟨j + 1, by simpa using h1, ⟨e', by simpa using h2, ?_⟩, fun v' => by rw [mset, if_neg c, h4]; rfl⟩
      show (if a = x then _ else _) = _
      rw [if_neg c]
      show findE (m.map (·.1)) es x (i + 1) = _
      rw [h3]
      congr 2
      omega
theorem mset_none {α γ : Type} [DecidableEq α] : ∀ {m : List (α × γ)} {x : α} {v : γ}, mget m x = none → mset m x v = m ++ [(x, v)]
  | [], _, _, _ => rfl
  | (a, b) :: m, x, v, h => by
    rw [mget] at h
    split at h
    · cases h
    · rename_i c
      rw [mset, if_neg c, mset_none h]; rfl

/-! ### keys -/
structure KeyOK (P : Program) (kt : TypeId) {α : Type} [DecidableEq α] (enc : α → Value) : Prop where
  ck : ∀ (em : Bool) (x : α) (w : World), (Instr.checkKey em 10000 kt (enc x)).run P w = .ok () w
  fd : ∀ (w : World) (x : α) (es : List MapEntry) (ks : List α), es.map (·.key) = ks.map enc → (Instr.findKey kt (enc x) es).run P w = .ok (findE ks es x 0) w
  sb : ∀ x : α, Instr.sameBits 10000 (enc x) (enc x) = true

theorem findNow_int : ∀ (x : Int) (es : List MapEntry) (ks : List Int) (i : Nat) (q : IntKind), es.map (·.key) = ks.map (Value.int .i64) → Instr.findNow (.int q) (.int .i64 x) es i = some (findE ks es x i)
  | x, [], ks, i, q, h => by
    have : ks = [] := by simpa using h.symm
    subst this; rfl
  | x, e :: es, [], i, q, h => by simp at h
  | x, e :: es, k :: ks, i, q, h => by
    simp only [List.map_cons, List.cons.injEq] at h
    rw [Instr.findNow, h.1]
    simp only [Instr.sameNow, if_true, findE]
    by_cases c : k = x
    · subst c; simp
    · have : (x == k) = false := by simpa using fun e => c e.symm
      rw [this, if_neg c]
      exact findNow_int x es ks (i + 1) q h.2

theorem KeyOK.int {P : Program} {kt : TypeId} (h : P.underlying kt = some (.int .i64)) : KeyOK P kt (fun n : Int => Value.int .i64 n) := by
  refine ⟨fun em x w => ?_, fun w x es ks he => ?_, fun x => ?_⟩
  · exact MapKept.run_checkKey (d := .int .i64) (k := .int .i64 x) h rfl em 9999
  · simp [Instr.findKey, run_underlying h, findNow_int x es ks 0 .i64 he]
  · exact MapKept.sameBits_self (d := .int .i64) (k := .int .i64 x) rfl 10000

theorem findAsking_eq {P : Program} {kt : TypeId} {α : Type} [DecidableEq α] {enc : α → Value} (heq : ∀ (x y : α) (w : World), (Op.equal kt (enc x) (enc y)).run P w = .ok (decide (x = y)) w) :
    ∀ (w : World) (x : α) (es : List MapEntry) (ks : List α) (i : Nat), es.map (·.key) = ks.map enc → (Instr.findAsking kt (enc x) es i).run P w = .ok (findE ks es x i) w
  | w, x, [], ks, i, h => by
    have : ks = [] := by simpa using h.symm
    subst this; rfl
  | w, x, e :: es, [], i, h => by simp at h
  | w, x, e :: es, k :: ks, i, h => by
    simp only [List.map_cons, List.cons.injEq] at h
    rw [Instr.findAsking, h.1]
    simp only [Sem.run_bind, heq, Result.andThen_ok, findE]
    by_cases c : k = x
    · subst c; simp
    · have c' : ¬ x = k := fun e => c e.symm
      rw [if_neg c]
      simp only [c', decide_false, Bool.false_eq_true, if_false]
      exact findAsking_eq heq w x es ks (i + 1) h.2

theorem KeyOK.asking {P : Program} {kt : TypeId} {d : TypeDesc} {α : Type} [DecidableEq α] {enc : α → Value} (hd : P.underlying kt = some d) (hck : ∀ (em : Bool) (x : α) (w : World), (Instr.checkKey em 10000 kt (enc x)).run P w = .ok () w)
    (heq : ∀ (x y : α) (w : World), (Op.equal kt (enc x) (enc y)).run P w = .ok (decide (x = y)) w) (hn : ∀ x y, Instr.sameNow d (enc x) (enc y) = none) (hsb : ∀ x, Instr.sameBits 10000 (enc x) (enc x) = true) : KeyOK P kt enc := by
  refine ⟨hck, fun w x es ks he => ?_, hsb⟩
  cases es with
  | nil =>
    have : ks = [] := by simpa using he.symm
    subst this
    simp [Instr.findKey, run_underlying hd, Instr.findNow, findE]
  | cons e es =>
    cases ks with
    | nil => simp at he
    | cons k ks =>
      have h1 : e.key = enc k := by simp at he; exact he.1
      have : Instr.findNow d (enc x) (e :: es) 0 = none := by rw [Instr.findNow, h1, hn]
      simp only [Instr.findKey, Sem.run_bind, run_underlying hd, Result.andThen_ok, this]
      exact findAsking_eq heq w x (e :: es) (k :: ks) 0 he

/-! ### maps that are only read -/
def mapAt (M : Nat → Nat → Prop) (w : World) (b : Nat) (es : List (Value × AG)) : Prop :=
  ∃ ents : Array MapEntry, w.heap[b]? = some (.map ents ents.size) ∧ ents.size = es.length ∧ ∀ (i : Nat) (e : Value × AG), es[i]? = some e → ∃ x, ents[i]? = some x ∧ x.key = e.1 ∧ x.born = i ∧ GR M w x.val e.2
/-- a pointer to a struct of two maps -/
def bookΦ (T : TypeId) (m1 m2 : List (Value × AG)) (M : Nat → Nat → Prop) (w : World) (u : Value) : Prop :=
  ∃ b b1 b2, u = .pointer (some ⟨b, 0, none⟩) ∧ w.heap[b]? = some (.cells #[.map (some b1), .map (some b2)] T (0, 0)) ∧ mapAt M w b1 m1 ∧ mapAt M w b2 m2
/-- .. to one of them -/
def partΦ (j : Nat) (m : List (Value × AG)) (M : Nat → Nat → Prop) (w : World) (u : Value) : Prop :=
  ∃ b b1, u = .pointer (some ⟨b, j, none⟩) ∧ w.cell? ⟨b, j, none⟩ = some (.map (some b1)) ∧ mapAt M w b1 m
def mapΦ (m : List (Value × AG)) (M : Nat → Nat → Prop) (w : World) (u : Value) : Prop := ∃ b1, u = .map (some b1) ∧ mapAt M w b1 m
def mapV (b : Nat) (u : Value) : Prop := u = .map (some b)
abbrev ents {α γ : Type} (enc : α → Value) (ag : γ → AG) (m : List (α × γ)) : List (Value × AG) := m.map fun e => (enc e.1, ag e.2)

section
variable {P : Program} {nt : Nat} {C : Cx P nt} {dst : Nat} {ty : TypeId} {pos : String} {af : Array Edge} {gd : Option (Nat × Bool)} {x y z : Operand} {R R1 R2 R3 : List (Nat × SV)}

theorem op_nilCheckRO {T : TypeId} {m1 m2 : List (Value × AG)} (hx : Ev x (.ro (bookΦ T m1 m2)) R) (hd : Nat.blt dst nt = true) : OpL C (Oo dst (.nilCheck x) ty pos af gd) R [] [(dst, .one (.ro (bookΦ T m1 m2)))] [] :=
  opl_pure hd rfl fun sl hp β a w hs _ r => by
    have h := hx.ok hs r
    obtain ⟨b, b1, b2, hu, _⟩ := id h
    exact ⟨a.eval x, by simp [execOp, hu], h⟩

theorem op_fieldRO1 {S T : TypeId} {fs : Array Field} {fld : Field} {zz : Value} {size bytes : Nat} {m1 m2 : List (Value × AG)} (hS : P.underlying S = some (.struct fs)) (hf : fs[0]? = some fld) (hI : Info P fld.type zz size bytes) (hz : size ≠ 0) (ho : fld.offset = 0)
    (hx : Ev x (.ro (bookΦ T m1 m2)) R) (hd : Nat.blt dst nt = true) : OpL C (Oo dst (.fieldAddr S x 0) ty pos af gd) R [] [(dst, .one (.ro (partΦ 0 m1)))] [] :=
  opl_pure hd rfl fun sl hp β a w hs _ r => by
    obtain ⟨b, b1, b2, hu, h1, h2, _⟩ := hx.ok hs r
    refine ⟨.pointer (some ⟨b, 0, none⟩), ?_, b, b1, rfl, by simp [World.cell?, h1], h2⟩
    simp [execOp, hu, run_fieldAt hS hf hI hz, ho]
theorem op_fieldRO2 {S T : TypeId} {fs : Array Field} {fld : Field} {zz : Value} {size bytes : Nat} {m1 m2 : List (Value × AG)} (hS : P.underlying S = some (.struct fs)) (hf : fs[1]? = some fld) (hI : Info P fld.type zz size bytes) (hz : size ≠ 0) (ho : fld.offset = 1)
    (hx : Ev x (.ro (bookΦ T m1 m2)) R) (hd : Nat.blt dst nt = true) : OpL C (Oo dst (.fieldAddr S x 1) ty pos af gd) R [] [(dst, .one (.ro (partΦ 1 m2)))] [] :=
  opl_pure hd rfl fun sl hp β a w hs _ r => by
    obtain ⟨b, b1, b2, hu, h1, _, h2⟩ := hx.ok hs r
    refine ⟨.pointer (some ⟨b, 1, none⟩), ?_, b, b2, rfl, by simp [World.cell?, h1], h2⟩
    simp [execOp, hu, run_fieldAt hS hf hI hz, ho]

theorem op_loadRO {t : TypeId} {d : TypeDesc} {j : Nat} {m : List (Value × AG)} (hU : P.underlying t = some d) (hA : aggD d = false) (hK : C.K = fun _ => False) (hx : Ev x (.ro (partΦ j m)) R) (hd : Nat.blt dst nt = true) :
    OpL C (Oo dst (.load t x) ty pos af gd) R [] [(dst, .one (.ro (mapΦ m)))] [] :=
  opl_pure hd rfl fun sl hp β a w hs _ r => by
    obtain ⟨b, b1, hu, h1, h2⟩ := hx.ok hs r
    have hcl : w.cell? ⟨b, j, none⟩ = some (.map (some b1)) := by
      rw [World.cell?_of_block (w := C.w0) (a := ⟨b, j, none⟩) (r.keep.block b (cell_lt h1) (by rw [hK]; exact id))]; exact h1
    exact ⟨.map (some b1), by simp [execOp, hu, Instr.loadAt, Instr.sureAddr, loadVar, run_isAgg hU, hA, hcl], b1, rfl, h2⟩

/-- a look-up in a map that is only read -/
theorem op_lookupRO {T kt vt : TypeId} {α γ : Type} [DecidableEq α] {enc : α → Value} {ag : γ → AG} {m : List (α × γ)} {k : α} {d0 : γ} {zz : Value} {size bytes : Nat} {bk : BV} (hT : P.underlying T = some (.map kt vt)) (hk : KeyOK P kt enc) (hI : Info P vt zz size bytes)
    (h0 : ∀ (M : Nat → Nat → Prop) (w : World), GR M w zz (ag d0)) (hK : C.K = fun _ => False) (hkey : ∀ (hp : HL) (β : Nat → Option Nat) (w : World) (u : Value), BR C hp β w bk u → u = enc k)
    (hx : Ev x (.ro (mapΦ (ents enc ag m))) R1) (hy : Ev y bk R2) (hd : Nat.blt dst nt = true) :
    OpL C (Oo dst (.lookup T x y false) ty pos af gd) (R1 ++ R2) [] [(dst, .one (.g (ag ((mget m k).getD d0))))] [] :=
  opl_pure hd rfl fun sl hp β a w hs _ r => by
    obtain ⟨b1, hu, es, h1, h2, h3⟩ := hx.ok hs.app.1 r
    have hky := hkey _ _ _ _ (hy.ok hs.app.2 r)
    have hb : w.heap[b1]? = some (.map es es.size) := by rw [r.keep.block b1 (Array.getElem?_eq_some_iff.1 h1).1 (by rw [hK]; exact id)]; exact h1
    have hg : (getObj b1).run P w = .ok (.map es es.size) w := by simp [getObj, Sem.run, hb]
    have hlen : es.toList.length = m.length := by simpa using h2
    have hkeys : es.toList.map (·.key) = (m.map (·.1)).map enc := by
      refine List.ext_getElem? fun i => ?_
      by_cases c : i < m.length
      · obtain ⟨e, he, hk1, _⟩ := h3 i (enc m[i].1, ag m[i].2) (by simp [c])
        simp [Array.getElem?_toList, he, c, hk1]
      · have h4 : es.size ≤ i := by rw [Array.length_toList] at hlen; omega
        simp [h4, Nat.le_of_not_lt c]
    have hf := hk.fd w k es.toList (m.map (·.1)) hkeys
    have hold : ∀ u g, GR (fun b o => C.M b o ∨ C.K b) C.w0 u g → GR (Mu C hp β) w u g := fun u g h => h.mono fun b o x hn hx => by
      have hlt := cell_lt hx
      refine ⟨by rw [World.cell?_of_block (w := C.w0) (a := ⟨b, o, none⟩) (r.keep.block b hlt (by rw [hK]; exact id))]; exact hx, ?_⟩
      rintro (hM | ⟨k', e, he, hb', _⟩)
      · exact hn (.inl hM)
      · rcases (r.own k' e b he hb').1 with h | h
        · omega
        · exact hn (.inr h)
    cases hm : mget m k with
    | none =>
      rw [findE_none hm] at hf
      refine ⟨zz, ?_, h0 _ _⟩
      simp [execOp, Instr.lookup, hu, hky, run_underlying hT, hg, hk.ck, hf, hI.zero]
    | some v =>
      obtain ⟨j, q1, ⟨e, q2, q3⟩, _⟩ := findE_some (i := 0) hm hlen
      rw [q3] at hf
      obtain ⟨e', he', _, _, hv⟩ := h3 j (enc k, ag v) (by simp [q1])
      rw [Array.getElem?_toList, he'] at q2
      cases q2
      refine ⟨e.val, ?_, hold _ _ hv⟩
      simp [execOp, Instr.lookup, hu, hky, run_underlying hT, hg, hk.ck, hf]

/-! ### maps of the call's own -/
theorem op_makeMap {t : TypeId} {k : Nat} (hd : Nat.blt dst nt = true) (hk0 : Nat.blt 0 k = true := by rfl) :
    OpL C (Oo dst (.makeMap t none) ty pos af gd) [] [(k, none)] [(dst, .one (.pv k mapV))] [(k, some (.map []))] := by
  refine ⟨fun sl hp hs hh a w K Q ⟨β, r⟩ hK => ?_⟩
  unfold Oper.wp
  have : (execOp a.eval (Oo dst (.makeMap t none) ty pos af gd)).run P w = .ok (.value (.map (some w.heap.size))) (w.alloc (.map #[] 0)) := by
    simp [execOp, Instr.makeMap, newObj, Sem.run, Result.andThen]
  rw [this]
  have h := (r.new (e := .map []) (bo := some w.heap.size) hh.1 hk0 (below_alloc w (.map #[] 0)) (fun b hb => by cases hb; exact ⟨rfl, by simp⟩) fun _ _ =>
    ⟨w.heap.size, #[], by simp [upd], heap_alloc_new w _, rfl, fun i e h => by simp at h⟩).1
  exact hK _ _ ⟨_, h.put (Below.refl _ _) (by simpa using hd) ⟨⟨.map [], by rw [hget_cons, if_pos rfl], rfl⟩, w.heap.size, by simp [upd], rfl, rfl⟩⟩

theorem RelB.map_inv {sl : SL} {hp : HL} {β : Nat → Option Nat} {a : Act} {w : World} (r : RelB C ⟨sl, hp⟩ β a w) {k : Nat} {m : List (Value × AG)} {u : Value} (hh : hget hp k = some (.map m)) (hu : BR C hp β w (.pv k mapV) u) :
    ∃ b es, β k = some b ∧ u = .map (some b) ∧ w.heap[b]? = some (.map es es.size) ∧ es.size = m.length ∧ (∀ (i : Nat) (e : Value × AG), m[i]? = some e → ∃ x, es[i]? = some x ∧ x.key = e.1 ∧ x.born = i ∧ GR (Mu C hp β) w x.val e.2) ∧ (getObj b).run P w = .ok (.map es es.size) w := by
  obtain ⟨_, b, hb, hv, _⟩ := hu
  obtain ⟨b', es, hb', h1, h2, h3⟩ := r.hp k _ hh
  rw [hb] at hb'; cases hb'
  exact ⟨b, es, hb, hv, h1, h2, h3, by simp [getObj, Sem.run, h1]⟩

/-- a map is written: what it holds then -/
theorem RelB.map_set {sl : SL} {hp : HL} {β : Nat → Option Nat} {a : Act} {w : World} (r : RelB C ⟨sl, hp⟩ β a w) {k b : Nat} {m m' : List (Value × AG)} {es es' : Array MapEntry} (hh : hget hp k = some (.map m)) (hb : β k = some b) (hheap : w.heap[b]? = some (.map es es.size))
    (hl : es'.size = m'.length) (hc : ∀ (i : Nat) (e : Value × AG), m'[i]? = some e → ∃ x, es'[i]? = some x ∧ x.key = e.1 ∧ x.born = i ∧ GR (Mu C hp β) w x.val e.2) :
    ∃ w1, (setObj b (.map es' es'.size)).run P w = .ok () w1 ∧ ∃ β', RelB C ⟨sl, (k, some (.map m')) :: hp⟩ β' a w1 ∧ (∀ c u, BR C hp β w c u → BR C ((k, some (.map m')) :: hp) β' w1 c u) := by
  generalize hw1 : ({ w with heap := w.heap.setIfInBounds b (.map es' es'.size) } : World) = w1
  have hbl : b < w.heap.size := (Array.getElem?_eq_some_iff.1 hheap).1
  have hnew : w1.heap[b]? = some (.map es' es'.size) := by rw [← hw1]; simp [hbl]
  have hoth : ∀ i, i ≠ b → w1.heap[i]? = w.heap[i]? := fun i hi => by rw [← hw1]; rw [Array.getElem?_setIfInBounds, if_neg (fun c : b = i => hi c.symm)]
  have hsize : w1.heap.size = w.heap.size := by rw [← hw1]; simp
  refine ⟨w1, by rw [← hw1]; simp only [setObj, Sem.run, hheap], upd β k (β k), ?_⟩
  have h := r.chg (e := .map m') (bo := β k) (w1 := w1) hh (by rw [← hw1]) (by rw [← hw1]) (by rw [← hw1]) (by omega) (fun i _ hi => hoth i (fun c => hi (by rw [c, hb]))) (fun _ _ _ _ _ c => absurd trivial c)
    (.inl ⟨rfl, fun _ h => h⟩) ⟨rfl, fun _ => rfl⟩ (fun es0 u h => by obtain ⟨_, _, _, _, h1, _⟩ := h; rw [hh] at h1; cases h1)
    (fun hBR _ => ⟨b, es', by simp [upd, hb], hnew, hl, fun i e he => by
      obtain ⟨x, q1, q2, q3, q4⟩ := hc i e he
      exact ⟨x, q1, q2, q3, hBR (.g e.2) x.val q4⟩⟩)
  exact ⟨h.1, h.2.1⟩

theorem map_keys {α γ : Type} [DecidableEq α] {enc : α → Value} {ag : γ → AG} {m : List (α × γ)} {es : Array MapEntry} {M : Nat → Nat → Prop} {w : World} (hl : es.size = (ents enc ag m).length)
    (h : ∀ (i : Nat) (e : Value × AG), (ents enc ag m)[i]? = some e → ∃ x, es[i]? = some x ∧ x.key = e.1 ∧ x.born = i ∧ GR M w x.val e.2) : es.toList.map (·.key) = (m.map (·.1)).map enc ∧ es.toList.length = m.length := by
  have hlen : es.toList.length = m.length := by simpa using hl
  refine ⟨List.ext_getElem? fun i => ?_, hlen⟩
  by_cases c : i < m.length
  · obtain ⟨e, he, hk1, _⟩ := h i (enc m[i].1, ag m[i].2) (by simp [c])
    simp [Array.getElem?_toList, he, c, hk1]
  · have h4 : es.size ≤ i := by rw [Array.length_toList] at hlen; omega
    simp [h4, Nat.le_of_not_lt c]

/-- 'm[k]', to be written, of a key that is not there -/
theorem op_mapEntryN {T kt vt : TypeId} {α γ : Type} [DecidableEq α] {enc : α → Value} {ag : γ → AG} {size bytes kk : Nat} {m : List (α × γ)} {k : α} {bk : BV} (hT : P.underlying T = some (.map kt vt)) (hk : KeyOK P kt enc) (hI : Info P vt (.slice none 0 0) 1 bytes)
    (hm : mget m k = none) (hkey : ∀ (hp : HL) (β : Nat → Option Nat) (w : World) (u : Value), BR C hp β w bk u → u = enc k)
    (hx : Ev x (.pv kk mapV) R1) (hy : Ev y bk R2) (hd : Nat.blt dst nt = true) :
    OpL C (Oo dst (.mapEntry T x y) ty pos af gd) (R1 ++ R2) [(kk, some (.map (ents enc ag m)))] [(dst, .tup [.cp size [], bI .i64 (m.length : Int)])]
      [(kk, some (.map (ents enc ag m ++ [(enc k, .d (.sl size []))])))] := by
  refine ⟨fun sl hp hs hh a w K Q ⟨β, r⟩ hK => ?_⟩
  obtain ⟨b, es, hb, hu, hheap, hl, hc, hg⟩ := r.map_inv hh.1 (hx.ok hs.app.1 r)
  have hky := hkey _ _ _ _ (hy.ok hs.app.2 r)
  obtain ⟨hkeys, hlen⟩ := map_keys hl hc
  have hf := hk.fd w k es.toList (m.map (·.1)) hkeys
  rw [findE_none hm] at hf
  have hlen' : es.size = m.length := by simpa using hl
  obtain ⟨w1, hset, β', r1, _⟩ := r.map_set (P := P) (es' := es.push { key := enc k, val := .slice none 0 0, born := es.size }) (m' := ents enc ag m ++ [(enc k, .d (.sl size []))]) hh.1 hb hheap (by simp [hlen']) (fun i e he => by
    rw [List.getElem?_append] at he
    split at he
    · rename_i c
      obtain ⟨x, q1, q2, q3, q4⟩ := hc i e he
      exact ⟨x, by rw [Array.getElem?_push, if_neg (by simp at c; omega)]; exact q1, q2, q3, q4⟩
    · rename_i c
      have hi : i = es.size := by
        have := (List.getElem?_eq_some_iff.1 he).1
        simp at this c; omega
      subst hi
      have : e = (enc k, .d (.sl size [])) := by
        simp [hlen'] at he
        exact he.symm
      subst this
      exact ⟨{ key := enc k, val := .slice none 0 0, born := es.size }, by simp, rfl, rfl, RD.nil none 0 size (Nat.zero_le _)⟩)
  unfold Oper.wp
  have : (execOp a.eval (Oo dst (.mapEntry T x y) ty pos af gd)).run P w = .ok (.value (.tuple #[.slice none 0 0, .int .i64 (es.size : Int)])) w1 := by
    simp only [Array.size_push] at hset
    simp [execOp, Instr.mapEntry, hu, hky, run_underlying hT, hg, hk.ck, hf, hI.zero, hset, goInt]
  rw [this]
  refine hK _ _ ⟨β', r1.put (Below.refl _ _) (by simpa using hd) ⟨_, rfl, rfl, fun i c hi => ?_⟩⟩
  match i with
  | 0 => simp at hi; subst hi; exact ⟨_, rfl, RD.nil none 0 size (Nat.zero_le _), none, 0, rfl⟩
  | 1 => simp at hi; subst hi; rw [← hlen']; exact ⟨_, rfl, RD.v _ rfl⟩
  | i + 2 => simp at hi

/-- the entry that was just laid is written -/
theorem op_entryStore {T kk n : Nat} {m0 : List (Value × AG)} {kv : Value} {g0 g : AG} (hn : m0.length = n) (hx : Ev x (.pv kk mapV) R1) (hy : Ev y (bI .i64 (n : Int)) R2) (hz : Ev z (.g g) R3) :
    OpL C ⟨none, .entryStore T x y z, ty, pos, af, gd⟩ (R1 ++ (R2 ++ R3)) [(kk, some (.map (m0 ++ [(kv, g0)])))] [] [(kk, some (.map (m0 ++ [(kv, g)])))] := by
  refine ⟨fun sl hp hs hh a w K Q ⟨β, r⟩ hK => ?_⟩
  subst hn
  obtain ⟨b, es, hb, hu, hheap, hl, hc, hg⟩ := r.map_inv hh.1 (hx.ok hs.app.1 r)
  have h2 := BR.v_inv (hy.ok hs.app.2.app.1 r)
  have h3 := hz.ok hs.app.2.app.2 r
  have hl' : es.size = m0.length + 1 := by simpa using hl
  have hborn : ∀ i (h : i < es.size), es[i].born = i := fun i h => by
    have hi : i < (m0 ++ [(kv, g0)]).length := by simp; omega
    obtain ⟨x, q1, _, q3, _⟩ := hc i _ (List.getElem?_eq_getElem hi)
    rw [Array.getElem?_eq_getElem h] at q1
    cases q1; exact q3
  have hfind : es.findIdx? (fun e => (e.born : Int) == ((m0.length : Nat) : Int)) = some m0.length := by
    rw [Array.findIdx?_eq_some_iff_getElem]
    refine ⟨by omega, by rw [hborn _ (by omega)]; simp, fun j hj => ?_⟩
    rw [hborn _ (by omega)]
    simp; omega
  obtain ⟨w1, hset, β', r1, _⟩ := r.map_set (P := P) (es' := es.modify m0.length fun e => { e with val := a.eval z }) (m' := m0 ++ [(kv, g)]) hh.1 hb hheap (by simp [hl']) (fun i e he => by
    have hi : i < m0.length + 1 := by have := (List.getElem?_eq_some_iff.1 he).1; simpa using this
    by_cases c : i = m0.length
    · subst c
      have : e = (kv, g) := by simp at he; exact he.symm
      subst this
      obtain ⟨x, q1, q2, q3, _⟩ := hc m0.length (kv, g0) (by simp)
      refine ⟨{ x with val := a.eval z }, ?_, q2, q3, h3⟩
      rw [Array.getElem?_modify, if_pos rfl, q1]; rfl
    · have he' : (m0 ++ [(kv, g0)])[i]? = some e := by
        rw [List.getElem?_append_left (by omega)] at he ⊢; exact he
      obtain ⟨x, q1, q2, q3, q4⟩ := hc i e he'
      exact ⟨x, by rw [Array.getElem?_modify, if_neg (fun d => c d.symm)]; exact q1, q2, q3, q4⟩)
  unfold Oper.wp
  have : (execOp a.eval ⟨none, .entryStore T x y z, ty, pos, af, gd⟩).run P w = .ok .skip w1 := by
    simp only [Array.size_modify] at hset
    simp [execOp, Instr.entryStore, hu, h2, hg, asInt, asIntOf, hfind, hset]
  rw [this]
  exact hK _ _ ⟨β', r1⟩

theorem op_mapUpdate {T kt vt : TypeId} {α γ : Type} [DecidableEq α] {enc : α → Value} {ag : γ → AG} {kk : Nat} {m : List (α × γ)} {k : α} {v : γ} {bk : BV} (hT : P.underlying T = some (.map kt vt)) (hk : KeyOK P kt enc)
    (hkey : ∀ (hp : HL) (β : Nat → Option Nat) (w : World) (u : Value), BR C hp β w bk u → u = enc k) (hx : Ev x (.pv kk mapV) R1) (hy : Ev y bk R2) (hz : Ev z (.g (ag v)) R3) :
    OpL C ⟨none, .mapUpdate T x y z, ty, pos, af, gd⟩ (R1 ++ (R2 ++ R3)) [(kk, some (.map (ents enc ag m)))] [] [(kk, some (.map (ents enc ag (mset m k v))))] := by
  refine ⟨fun sl hp hs hh a w K Q ⟨β, r⟩ hK => ?_⟩
  obtain ⟨b, es, hb, hu, hheap, hl, hc, hg⟩ := r.map_inv hh.1 (hx.ok hs.app.1 r)
  have hky := hkey _ _ _ _ (hy.ok hs.app.2.app.1 r)
  have h3 := hz.ok hs.app.2.app.2 r
  obtain ⟨hkeys, hlen⟩ := map_keys hl hc
  have hf := hk.fd w k es.toList (m.map (·.1)) hkeys
  have hlen' : es.size = m.length := by simpa using hl
  unfold Oper.wp
  cases hm : mget m k with
  | none =>
    rw [findE_none hm] at hf
    obtain ⟨w1, hset, β', r1, _⟩ := r.map_set (P := P) (es' := es.push { key := enc k, val := a.eval z, born := es.size }) (m' := ents enc ag (mset m k v)) hh.1 hb hheap (by rw [mset_none hm]; simp [hlen']) (fun i e he => by
      rw [mset_none hm, ents, List.map_append, List.getElem?_append] at he
      split at he
      · rename_i c
        obtain ⟨x, q1, q2, q3, q4⟩ := hc i e he
        exact ⟨x, by rw [Array.getElem?_push, if_neg (by simp at c; omega)]; exact q1, q2, q3, q4⟩
      · rename_i c
        have hi : i = es.size := by
          have := (List.getElem?_eq_some_iff.1 he).1
          simp at this c; omega
        subst hi
        have : e = (enc k, ag v) := by
          simp [hlen'] at he
          exact he.symm
        subst this
        exact ⟨{ key := enc k, val := a.eval z, born := es.size }, by simp, rfl, rfl, h3⟩)
    have : (execOp a.eval ⟨none, .mapUpdate T x y z, ty, pos, af, gd⟩).run P w = .ok .skip w1 := by
      simp only [Array.size_push] at hset
      simp [execOp, Instr.mapUpdate, hu, hky, run_underlying hT, hg, hk.ck, hf, hset]
    rw [this]
    exact hK _ _ ⟨β', r1⟩
  | some v0 =>
    obtain ⟨j, q1, ⟨e0, q2, q3⟩, q4⟩ := findE_some (i := 0) hm hlen
    rw [q3, Nat.zero_add] at hf
    rw [Array.getElem?_toList] at q2
    have hj : j < m.length := (List.getElem?_eq_some_iff.1 q1).1
    obtain ⟨e1, he1, hk1, hb1, _⟩ := hc j (enc k, ag v0) (by simp [q1])
    rw [q2] at he1; cases he1
    obtain ⟨w1, hset, β', r1, _⟩ := r.map_set (P := P) (es' := es.modify j fun e => { e with key := enc k, val := a.eval z }) (m' := ents enc ag (mset m k v)) hh.1 hb hheap (by rw [q4]; simp [hlen']) (fun i e he => by
      rw [q4, ents, List.map_set, List.getElem?_set] at he
      by_cases c : j = i
      · subst c
        rw [if_pos rfl] at he
        split at he
        · cases he
          exact ⟨{ e0 with key := enc k, val := a.eval z }, by rw [Array.getElem?_modify, if_pos rfl, q2]; rfl, rfl, hb1, h3⟩
        · cases he
      · rw [if_neg c] at he
        obtain ⟨x, p1, p2, p3, p4⟩ := hc i e he
        exact ⟨x, by rw [Array.getElem?_modify, if_neg c]; exact p1, p2, p3, p4⟩)
    have hst : (Instr.keyThatStays e0.key (enc k)).run P w = .ok (enc k) w := by
      rw [hk1]
      simp [Instr.keyThatStays, hk.sb]
    have : (execOp a.eval ⟨none, .mapUpdate T x y z, ty, pos, af, gd⟩).run P w = .ok .skip w1 := by
      simp only [Array.size_modify] at hset
      simp [execOp, Instr.mapUpdate, hu, hky, run_underlying hT, hg, hk.ck, hf, q2, hst, hset]
    rw [this]
    exact hK _ _ ⟨β', r1⟩
end
end Go.Ab

/- The abstract machine: a struct of two maps, calls that are handed it to read, values of any type of which the type alone is asked. Conditions: none but those that stand in each law. -/
namespace Go.Ab
open Go Go.RowKit

/-- a value of any type: its type (0: nil) -/
def tagP (n : Nat) (u : Value) : Prop := if n = 0 then u = .nilIface else ∃ v, u = .iface n v
def tagΦ (n : Nat) (_M : Nat → Nat → Prop) (_w : World) (u : Value) : Prop := tagP n u

theorem EvL.isG {xs : List Operand} {gs : List RG} {R : List (Nat × SV)} (h : EvL xs gs R) : ∀ {i : Nat} {g : RG}, gs[i]? = some g → ∃ g0, g = .g g0 := by
  induction h with
  | nil => intro i g h; simp at h
  | cons h t ih =>
    intro i g hg
    cases i with
    | zero => simp at hg; exact ⟨_, hg.symm⟩
    | succ i => exact ih (by simpa using hg)

theorem agg_vals {P : Program} {nt : Nat} {C : Cx P nt} {vs : List Value} {hp : HL} {β : Nat → Option Nat} {w : World} {u : Value} (h : BR C hp β w (.g (.agg (vs.map .v))) u) : u = .agg vs.toArray := by
  obtain ⟨us, rfl, h1, h2⟩ := h
  congr 1
  refine Array.ext' ?_
  refine List.ext_getElem? fun j => ?_
  by_cases c : j < vs.length
  · obtain ⟨x, h3, h4⟩ := h2 j (.v vs[j]) (by simp [c])
    rw [RD.v_inv h4] at h3
    simp [h3, c]
  · have : us.size ≤ j := by rw [h1]; simp; omega
    simp [this, Nat.le_of_not_lt c]

section
variable {P : Program} {nt : Nat} {C : Cx P nt} {Q0 : Exit → Act → World → Prop} {k : List KI} {dst : Nat} {ty : TypeId} {pos : String} {af : Array Edge} {gd : Option (Nat × Bool)} {x y z : Operand} {R R1 R2 R3 : List (Nat × SV)}

/-- '&T{m1, m2}' of two maps -/
theorem G.buildBox {ops : Array Oper} {rest : List Oper} {sl : SL} {hp : HL} {T d1 d2 k1 k2 kb bytes : Nat} {fs : Array Field} {ty1 ty2 : TypeId} {pos1 pos2 : String} {af1 af2 : Array Edge}
    (hT : P.underlying T = some (.struct fs)) (hI : Info P T (.agg #[.map none, .map none]) 2 bytes) (hpl : Places P fs #[(0, 1), (1, 1)]) (hx : Ev x (.pv k1 mapV) R1) (hy : Ev y (.pv k2 mapV) R2) (hd1 : Nat.blt d1 nt = true) (hd2 : Nat.blt d2 nt = true) (hs : HasS sl (R1 ++ R2))
    (hkb : hget hp kb = none) (hk0 : Nat.blt 0 kb = true) (h : G C Q0 (.l ops rest :: k) ⟨(d2, .one (.ptr kb 0)) :: (d1, .dead) :: sl, (kb, some (.blk T [.pv k1 mapV, .pv k2 mapV])) :: hp⟩) :
    G C Q0 (.l ops (Oo d1 (.build T #[(0, x), (1, y)]) ty1 pos1 af1 none :: Oo d2 (.box T (.tmp d1)) ty2 pos2 af2 none :: rest) :: k) ⟨sl, hp⟩ := ⟨fun a w ⟨β, r⟩ => by
  have g1 := hx.ok hs.app.1 r
  have g2 := hy.ok hs.app.2 r
  obtain ⟨_, b1, hb1, hu1, _⟩ := id g1
  obtain ⟨_, b2, hb2, hu2, _⟩ := id g2
  have hd1' : d1 < nt := by simpa using hd1
  change wpList P ops (Qof P Q0 k) _ a w
  refine wpList_plain rfl fun K1 hK1 => ?_
  unfold Oper.wp
  have e1 : (execOp a.eval (Oo d1 (.build T #[(0, x), (1, y)]) ty1 pos1 af1 none)).run P w = .ok (.value (.agg #[.map (some b1), .map (some b2)])) w := by
    have hf : Instr.fill (fun i => (#[(0, 1), (1, 1)] : Array (Nat × Nat))[i]?) #[.map none, .map none] [(0, .map (some b1)), (1, .map (some b2))] = some #[.map (some b1), .map (some b2)] := rfl
    simp only [mapV] at hu1 hu2
    simp only [execOp, Instr.build, Sem.run_bind, hI.zero, Result.andThen_ok, run_underlying hT, hpl w, List.map_toArray, List.map_cons, List.map_nil, hu1, hu2, Value.cells, hf, Sem.run_pure]
  rw [e1]
  refine hK1 _ _ ?_
  refine wpList_plain rfl fun K hK => ?_
  unfold Oper.wp
  have e2 : ∀ w, (execOp (a.put (some d1) (.agg #[.map (some b1), .map (some b2)])).eval (Oo d2 (.box T (.tmp d1)) ty2 pos2 af2 none)).run P w = .ok (.value (.pointer (some ⟨w.heap.size, 0, none⟩))) (w.alloc (.cells #[.map (some b1), .map (some b2)] T)) := fun w => by
    have : (a.put (some d1) (.agg #[.map (some b1), .map (some b2)])).eval (.tmp d1) = .agg #[.map (some b1), .map (some b2)] := by
      simp only [Act.eval]
      rw [getD_put, if_pos ⟨rfl, by rw [r.size]; exact hd1'⟩]
    simp [execOp, this, Instr.box, newVar, newRow, Value.cells]
  rw [e2]
  refine hK _ _ ?_
  have r1 := r.put (dst := d1) (v := .agg #[.map (some b1), .map (some b2)]) (sv := .dead) (Below.refl _ _) hd1' trivial
  refine h.go _ _ (r1.newBlk (cs := [.pv k1 mapV, .pv k2 mapV]) hkb hk0 rfl (fun j c hj => ?_) (by simpa using hd2))
  match j with
  | 0 => simp at hj; subst hj; exact ⟨.map (some b1), rfl, rfl, by rw [mapV] at hu1; rw [← hu1]; exact g1⟩
  | 1 => simp at hj; subst hj; exact ⟨.map (some b2), rfl, rfl, by rw [mapV] at hu2; rw [← hu2]; exact g2⟩
  | j + 2 => simp at hj⟩

/-- a call that is handed a struct of two maps, to read -/
theorem op_callBook {f kb k1 k2 T : Nat} {m1 m2 : List (Value × AG)} {x0 : Operand} {xs : List Operand} {tys : Array TypeId} {gs : List RG} {res : RS} {sv : SV} {R0 : List (Nat × SV)} (hc : CallF P f) (hct : Ct P f (.ro (bookΦ T m1 m2) :: gs) res) (hsc : res.sc = true) (hsv : res.sv = sv)
    (hx0 : Ev x0 (.ptr kb 0) R0) (hx : EvL xs gs R) (hd : Nat.blt dst nt = true) :
    OpL C (Oo dst (cCall f (x0 :: xs) tys) ty pos af gd) (R0 ++ R) [(kb, some (.blk T [.pv k1 mapV, .pv k2 mapV])), (k1, some (.map m1)), (k2, some (.map m2))] [(dst, sv)] [] := by
  refine ⟨fun sl hp hs hh a w K Q ⟨β, r⟩ hK => ?_⟩
  obtain ⟨h1, h2⟩ := hx.ok hs.app.2 r
  obtain ⟨_, b, hb, hu⟩ := hx0.ok hs.app.1 r
  obtain ⟨b', arr, hb', hheap, hsz, hcell⟩ := r.hp kb _ hh.1
  rw [hb] at hb'; cases hb'
  obtain ⟨u1, a1, _, _, b1, hb1, hv1, _⟩ := hcell 0 _ rfl
  obtain ⟨u2, a2, _, _, b2, hb2, hv2, _⟩ := hcell 1 _ rfl
  obtain ⟨b1', es1, hb1', p1, p2, p3⟩ := r.hp k1 _ hh.2.1
  obtain ⟨b2', es2, hb2', q1, q2, q3⟩ := r.hp k2 _ hh.2.2.1
  rw [hb1] at hb1'; cases hb1'
  rw [hb2] at hb2'; cases hb2'
  have harr : arr = #[.map (some b1), .map (some b2)] := by
    rw [mapV] at hv1 hv2
    subst hv1 hv2
    refine Array.ext' (List.ext_getElem? fun j => ?_)
    match j with
    | 0 => simpa using a1
    | 1 => simpa using a2
    | j + 2 => simp [hsz]
  subst harr
  have hless : ∀ u g, GR (Mu C hp β) w u g → GR (fun b o => False ∨ False) w u g := fun u g h => h.less (fun _ _ c => c.elim False.elim False.elim)
  have hbk : bookΦ T m1 m2 (fun b o => False ∨ False) w (a.eval x0) := ⟨b, b1, b2, hu, hheap, ⟨es1, p1, p2, fun i e he => let ⟨x, z1, z2, z3, z4⟩ := p3 i e he; ⟨x, z1, z2, z3, hless _ _ z4⟩⟩,
    ⟨es2, q1, q2, fun i e he => let ⟨x, z1, z2, z3, z4⟩ := q3 i e he; ⟨x, z1, z2, z3, hless _ _ z4⟩⟩⟩
  have hcall := hct.go (fun _ _ => False) (fun _ => False) w ((x0 :: xs).map a.eval) (fun b o h => h.elim) (fun b h => h.elim) (by simpa using h1) (fun i g v hg hv => by
    cases i with
    | zero => simp at hg hv; subst hg hv; exact hbk
    | succ i =>
      have := h2 i g v (by simpa using hg) (by simpa using hv)
      have hgg : ∃ g0, g = .g g0 := hx.isG (i := i) (by simpa using hg)
      obtain ⟨g0, rfl⟩ := hgg
      exact GR.less (fun _ _ c => c.elim False.elim False.elim) this)
  unfold Oper.wp
  rw [run_call hc]
  refine hcall.mono ?_
  rintro e w' ⟨v, rfl, hk, hr⟩
  refine hK _ _ ⟨β, r.put hk.toBelow (by simpa using hd) ?_⟩
  rw [← hsv]
  exact RS.sv_ok (RS.sc_ok hsc hr)

/-- a call that hands back a value of any type -/
theorem op_callTag {f n : Nat} {tys : Array TypeId} {cs : List DV} (hc : CallF P f) (hcall : ∀ (us : Array Value) (w : World), us.size = cs.length → (∀ (j : Nat) (v : Value), cs[j]? = some (.v v) → us[j]? = some v) → (∀ (j : Nat) (v : Value), us[j]? = some v → v.oneCell' = true) →
      Calls P f #[.agg us] w fun e w' => ∃ u, e = .returned u ∧ tagP n u ∧ Below w.heap.size w w') (hx : Ev x (.g (.agg cs)) R) (hd : Nat.blt dst nt = true) :
    OpL C (Oo dst (cCall f [x] tys) ty pos af gd) R [] [(dst, .one (.ro (tagΦ n)))] [] := by
  refine ⟨fun sl hp hs hh a w K Q ⟨β, r⟩ hK => ?_⟩
  obtain ⟨us, hu, h1, h2⟩ := hx.ok hs r
  unfold Oper.wp
  rw [run_call hc]
  have := hcall us w h1 (fun j v hj => by obtain ⟨x, h3, h4⟩ := h2 j _ hj; rw [RD.v_inv h4] at h3; exact h3) (fun j v hj => by
    have hlt : j < cs.length := by rw [← h1]; exact (Array.getElem?_eq_some_iff.1 hj).1
    obtain ⟨x, h3, h4⟩ := h2 j cs[j] (List.getElem?_eq_getElem hlt)
    rw [hj] at h3; cases h3
    exact h4.one)
  simp only [List.map_cons, List.map_nil, hu]
  refine this.mono ?_
  rintro e w' ⟨u, rfl, ht, hb⟩
  exact hK _ _ ⟨β, r.put hb (by simpa using hd) ht⟩

/-- is it of this type? -/
theorem op_assertRO {xT T n size bytes : Nat} {fs : Array Field} {zz : Value} (hT : P.underlying T = some (.struct fs)) (hI : Info P T zz size bytes) (hT0 : Nat.blt 0 T = true) (hx : Ev x (.ro (tagΦ n)) R) (hd : Nat.blt dst nt = true) :
    OpL C (Oo dst (.typeAssert x xT T true) ty pos af gd) R [] [(dst, .tup [.any 0, bB (decide (n = T))])] [] :=
  opl_pure hd rfl fun sl hp β a w hs _ r => by
    have h : tagP n (a.eval x) := hx.ok hs r
    have hT0' : 0 < T := by simpa using hT0
    unfold tagP at h
    by_cases c : n = 0
    · rw [if_pos c] at h
      refine ⟨.tuple #[zz, .bool (decide (n = T))], ?_, _, rfl, rfl, fun i c hi => ?_⟩
      · rw [decide_eq_false (by omega)]
        simp [execOp, h, Instr.typeAssert, run_underlying hT, hI.zero]
      · match i with
        | 0 => simp at hi; subst hi; exact ⟨_, rfl, .inl rfl⟩
        | 1 => cases hi; exact ⟨.bool _, rfl, .v (.bool _) rfl⟩
        | i + 2 => simp at hi
    · rw [if_neg c] at h
      obtain ⟨v, h⟩ := h
      by_cases c2 : n = T
      · subst c2
        refine ⟨.tuple #[v, .bool (decide (n = n))], ?_, _, rfl, rfl, fun i c hi => ?_⟩
        · simp [execOp, h, Instr.typeAssert, run_underlying hT]
        · match i with
          | 0 => simp at hi; subst hi; exact ⟨_, rfl, .inl rfl⟩
          | 1 => cases hi; exact ⟨.bool _, rfl, .v (.bool _) rfl⟩
          | i + 2 => simp at hi
      · refine ⟨.tuple #[zz, .bool (decide (n = T))], ?_, _, rfl, rfl, fun i c hi => ?_⟩
        · rw [decide_eq_false c2]
          simp [execOp, h, Instr.typeAssert, run_underlying hT, hI.zero, c2]
        · match i with
          | 0 => simp at hi; subst hi; exact ⟨_, rfl, .inl rfl⟩
          | 1 => cases hi; exact ⟨.bool _, rfl, .v (.bool _) rfl⟩
          | i + 2 => simp at hi

/-- the entry that was just laid is written: the map has one entry more -/
theorem op_entryStoreE {T kk : Nat} {α γ : Type} {enc : α → Value} {ag : γ → AG} {m : List (α × γ)} {k : α} {v : γ} {kv : Value} {g0 : AG} {n : Int} (hk : enc k = kv) (hn : n = (m.length : Int)) (hx : Ev x (.pv kk mapV) R1) (hy : Ev y (bI .i64 n) R2) (hz : Ev z (.g (ag v)) R3) :
    OpL C ⟨none, .entryStore T x y z, ty, pos, af, gd⟩ (R1 ++ (R2 ++ R3)) [(kk, some (.map (ents enc ag m ++ [(kv, g0)])))] [] [(kk, some (.map (ents enc ag (m ++ [(k, v)]))))] := by
  subst hk hn
  have h := op_entryStore (P := P) (nt := nt) (C := C) (ty := ty) (pos := pos) (af := af) (gd := gd) (T := T) (kk := kk) (n := m.length) (m0 := ents enc ag m) (kv := enc k) (g0 := g0) (g := ag v) (by simp) hx hy hz
  have e : ents enc ag (m ++ [(k, v)]) = ents enc ag m ++ [(enc k, ag v)] := by simp
  rw [e]
  exact h

abbrev cMax (x y : Operand) (T1 T2 : TypeId) : Op := .call { callee := .builtin .max, args := #[x, y], argTypes := #[T1, T2] }
theorem op_max {T1 T2 : TypeId} {kd : IntKind} {m n : Int} (hx : Ev x (bI kd m) R1) (hy : Ev y (bI kd n) R2) (hd : Nat.blt dst nt = true) : OpL C (Oo dst (cMax x y T1 T2) ty pos af gd) (R1 ++ R2) [] [(dst, .one (bI kd (if n > m then n else m)))] [] :=
  opl_pure hd rfl fun sl hp β a w hs _ r => by
    have h1 := BR.v_inv (hx.ok hs.app.1 r)
    have h2 := BR.v_inv (hy.ok hs.app.2 r)
    exact ⟨.int kd (if n > m then n else m), by simp [execOp, resolve, invoke, builtin, Builtin.max_, Builtin.max2, h1, h2], RD.v _ rfl⟩

/-- a field of a struct that is a value, of one cell -/
theorem op_fieldV {T : TypeId} {fs : Array Field} {i : Nat} {fld : Field} {d : TypeDesc} {cs : List DV} {c : DV} (hT : P.underlying T = some (.struct fs)) (hf : fs[i]? = some fld) (hU : P.underlying fld.type = some d) (hA : aggD d = false) (hc : cs[fld.offset]? = some c)
    (hx : Ev x (.g (.agg cs)) R) (hd : Nat.blt dst nt = true) : OpL C (Oo dst (.field T x i) ty pos af gd) R [] [(dst, .one (.g (.d c)))] [] :=
  opl_pure hd rfl fun sl hp β a w hs _ r => by
    obtain ⟨us, hu, h1, h2⟩ := hx.ok hs r
    obtain ⟨v, h3, h4⟩ := h2 _ _ hc
    exact ⟨v, by simp [execOp, Instr.field, hu, run_underlying hT, hf, asAgg, part, run_isAgg hU, hA, h3], h4⟩
end
end Go.Ab
