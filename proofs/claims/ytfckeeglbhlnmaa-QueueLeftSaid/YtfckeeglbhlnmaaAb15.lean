/- The abstract machine: rows that are the call's own alone: elements read and stored in place, cleared, cut off; a slice held against nil. Conditions: none but those that stand in each law. -/
import Derived.Test.YtfckeeglbhlnmaaAb14
namespace Go.Ab
open Go Go.RowKit

section
variable {P : Program} {nt : Nat} {C : Cx P nt} {Q0 : Exit → Act → World → Prop} {k : List KI} {dst : Nat} {ty : TypeId} {pos : String} {af : Array Edge} {gd : Option (Nat × Bool)} {x y z : Operand} {R R1 R2 R3 : List (Nat × SV)}

/-- any content moves -/
theorem op_moveS {t : Nat} {sv : SV} (hd : Nat.blt dst nt = true) : OpL C (Oo dst (.move (.tmp t)) ty pos af gd) [(t, sv)] [] [(dst, sv)] [] :=
  opl_pure hd rfl fun sl hp β a w hs _ r => ⟨a.eval (.tmp t), by simp [execOp], r.sl t _ hs.1⟩
theorem op_assignS {t : Nat} {sv : SV} (hd : Nat.blt dst nt = true) : OpL C (Oo dst (.assign (.tmp t)) ty pos af gd) [(t, sv)] [] [(dst, sv)] [] :=
  opl_pure hd rfl fun sl hp β a w hs _ r => ⟨a.eval (.tmp t), by simp [execOp], r.sl t _ hs.1⟩

/-- a slice held against nil: whatever comes out, it is empty if the answer is yes -/
theorem G.opNil {ops : Array Oper} {rest : List Oper} {sl : SL} {hp : HL} {T T' E size : Nat} {es : List (List DV)} (hT : P.underlying T = some (.slice E)) (hx : Ev x (.g (.d (.sl size es))) R) (hd : Nat.blt dst nt = true) (hs : HasS sl R)
    (hk : ∀ b : Bool, (b = true → es = []) → G C Q0 (.l ops rest :: k) ⟨(dst, .one (bB b)) :: sl, hp⟩) : G C Q0 (.l ops (Oo dst (.binOp .eql T x (.const (.slice none 0 0)) T') ty pos af none :: rest) :: k) ⟨sl, hp⟩ := ⟨fun a w ⟨β, r⟩ => by
  change wpList P ops (Qof P Q0 k) _ a w
  refine wpList_plain rfl fun K hK => ?_
  have h1 := hx.ok hs r
  have hu : ∃ (b : Bool), (b = true → es = []) ∧ (binOp .eql T (a.eval x) (.slice none 0 0)).run P w = .ok (.bool b) w := by
    generalize hxx : a.eval x = u at h1
    cases h1 with
    | sl ad cap _ _ vals b o hc hm ha hs' hv hr =>
      refine ⟨ad.isNone, fun h => ?_, ?_⟩
      · refine Classical.byContradiction fun c => ?_
        rw [ha c] at h; cases h
      · have e : Op.equal T (.slice ad es.length cap) (.slice none 0 0) = Op.equalIn (9999 + 1) T (.slice ad es.length cap) (.slice none 0 0) := rfl
        cases ad <;> (simp only [binOp]; rw [e, Op.equalIn]; simp [Sem.run_bind, run_underlying hT])
  obtain ⟨b, hb, hrun⟩ := hu
  have hg := run_eqGuard_plain (P := P) (op := .eql) (t := T) (x := x) (y := .const (.slice none 0 0)) (v := .slice none 0 0) (w := w) (u := a.eval x) (RD.one h1) (fun c => by rw [c] at h1; cases h1)
  unfold Oper.wp
  have : (execOp a.eval (Oo dst (.binOp .eql T x (.const (.slice none 0 0)) T') ty pos af none)).run P w = .ok (.value (.bool b)) w := by
    simp only [execOp, Sem.run_bind, Act.eval] at hg hrun ⊢
    rw [hg]
    simp only [Result.andThen_ok, hrun, Sem.run_pure]
  rw [this]
  exact hK _ _ ((hk b hb).go _ _ ⟨β, r.put (sv := .one (bB b)) (Below.refl _ _) (by simpa using hd) (RD.v _ rfl)⟩)⟩

/-- '[]T{}', to be appended to -/
theorem op_buildRow {T E size bytes kk : Nat} {zz : Value} (hT : P.underlying T = some (.slice E)) (hI : Info P E zz size bytes) (hz : Nat.blt 0 size = true) (hd : Nat.blt dst nt = true) :
    OpL C (Oo dst (.buildSlice T 0 #[]) ty pos af gd) [] [(kk, none)] [(dst, .one (.own kk []))] [(kk, some (.row E size [] true))] := by
  refine ⟨fun sl hp hs hh a w K Q ⟨β, r⟩ hK => ?_⟩
  unfold Oper.wp
  have : (execOp a.eval (Oo dst (.buildSlice T 0 #[]) ty pos af gd)).run P w = .ok (.value (.slice (some ⟨w.heap.size, 0, none⟩) 0 0)) (w.alloc (.cells #[] E)) := by
    simp [execOp, Instr.buildSlice, run_underlying hT, hI.sizeOf, Instr.fill, newRow, show (Array.range 0) = #[] from rfl]
  rw [this]
  have h := (r.new (e := .row E size [] true) (bo := some w.heap.size) hh.1 (below_alloc w (.cells #[] E)) (fun b hb => by cases hb; exact ⟨rfl, by simp⟩) fun _ _ =>
    ⟨by simpa using hz, fun cs h => by simp at h, .inr ⟨w.heap.size, #[], by simp [upd], heap_alloc_new w _, by simp, fun i cs j d h => by simp at h⟩⟩).1
  exact hK _ _ ⟨_, h.put (Below.refl _ _) (by simpa using hd) ⟨E, size, [], true, by rw [hget_cons, if_pos rfl], Nat.le_refl _, fun _ => .inr ⟨w.heap.size, 0, #[], by simp [upd], rfl, Nat.le_refl _, Nat.zero_le _, heap_alloc_new w _, by simp⟩⟩⟩

/-- what a row's slot says, with the block -/
theorem own_inv {sl : SL} {hp : HL} {β : Nat → Option Nat} {a : Act} {w : World} (r : RelB C ⟨sl, hp⟩ β a w) {kk T size : Nat} {es : List (List DV)} {ex : Bool} {u : Value} (hk : hget hp kk = some (.row T size es ex)) (hu : BR C hp β w (.own kk es) u) (hne : es ≠ []) :
    0 < size ∧ (∀ cs, cs ∈ es → cs.length = size) ∧ ∃ b cap cur, β kk = some b ∧ u = .slice (some ⟨b, 0, none⟩) es.length cap ∧ es.length ≤ cap ∧ cap ≤ maxLen ∧ w.heap[b]? = some (.cells cur T (0, 0)) ∧ cur.size = cap * size ∧ es.length * size ≤ cur.size ∧
      ∀ (i : Nat) (cs : List DV) (j : Nat) (d : DV), es[i]? = some cs → cs[j]? = some d → ∃ v, cur[i * size + j]? = some v ∧ RD (Mu C hp β) w v d := by
  obtain ⟨_, _, _, _, h1, _, h2⟩ := hu
  rw [hk] at h1
  cases h1
  obtain ⟨hz, hs, hr⟩ := r.hp kk _ hk
  rcases h2 rfl with ⟨_, h3, _⟩ | ⟨b, cap, cur, hb, hu', hle, hcm, hheap, hcs⟩
  · exact absurd h3 hne
  · rcases hr with ⟨q1, q2⟩ | ⟨b', cur', q1, q2, q3, q4⟩
    · exact absurd q2 hne
    · rw [hb] at q1; cases q1
      rw [hheap] at q2; cases q2
      exact ⟨hz, hs, b, cap, cur, hb, hu', hle, hcm, hheap, hcs, q3, q4⟩

theorem run_indexRow {T E zz size bytes : _} {b len cap : Nat} {kd : IntKind} {i : Int} {w : World} (hT : P.underlying T = some (.slice E)) (hI : Info P E zz size bytes) (h0 : 0 ≤ i) (hi : i < (len : Int)) :
    (Instr.indexAt T (.slice (some ⟨b, 0, none⟩) len cap) (.int kd i)).run P w = .ok (.pointer (some ⟨b, i.toNat * size, none⟩)) w := by
  have hb : 0 ≤ i ∧ i < (len : Int) := ⟨h0, hi⟩
  simp only [Instr.indexAt, asIntOf, Sem.run_bind, Sem.run_pure, Result.andThen_ok, run_underlying hT, Bool.and_false, hb, and_self, if_true, hI.sizeOf, Addr.add_lit, Bool.false_eq_true, if_false, Nat.zero_add]

/-- an element of a row is read -/
theorem G.loadRow {ops : Array Oper} {rest : List Oper} {sl : SL} {hp : HL} {T E size bytes kk d1 d2 T' : Nat} {zz : Value} {es : List (List DV)} {cs : List DV} {kd : IntKind} {i : Int} {ex : Bool} {td : TypeDesc} {ty1 ty2 : TypeId} {pos1 pos2 : String} {af1 af2 : Array Edge}
    (hT : P.underlying T = some (.slice E)) (hU : P.underlying E = some td) (hA : aggD td = true) (hI : Info P E zz size bytes) (h0 : 0 ≤ i) (hi : es[i.toNat]? = some cs)
    (hx : Ev x (.own kk es) R1) (hy : Ev y (bI kd i) R2) (hd1 : Nat.blt d1 nt = true) (hd2 : Nat.blt d2 nt = true) (hs : HasS sl (R1 ++ R2)) (hh : hget hp kk = some (.row T' size es ex))
    (hk : G C Q0 (.l ops rest :: k) ⟨(d2, .one (.g (.agg cs))) :: (d1, .dead) :: sl, hp⟩) :
    G C Q0 (.l ops (Oo d1 (.indexAddr T x y) ty1 pos1 af1 none :: Oo d2 (.load E (.tmp d1)) ty2 pos2 af2 none :: rest) :: k) ⟨sl, hp⟩ := ⟨fun a w ⟨β, r⟩ => by
  have hlt : i.toNat < es.length := (List.getElem?_eq_some_iff.1 hi).1
  have hne : es ≠ [] := fun c => by simp [c] at hlt
  obtain ⟨hz, hsz, b, cap, cur, hb, hu, hle, hcm, hheap, hcs, hcl, hel⟩ := own_inv r hh (hx.ok hs.app.1 r) hne
  have h2 := BR.v_inv (hy.ok hs.app.2 r)
  have hd1' : d1 < nt := by simpa using hd1
  have hcsl : cs.length = size := hsz cs (List.mem_of_getElem? hi)
  change wpList P ops (Qof P Q0 k) _ a w
  refine wpList_plain rfl fun K1 hK1 => ?_
  unfold Oper.wp
  have e1 : (execOp a.eval (Oo d1 (.indexAddr T x y) ty1 pos1 af1 none)).run P w = .ok (.value (.pointer (some ⟨b, i.toNat * size, none⟩))) w := by
    simp only [execOp, hu, h2, Sem.run_bind, run_indexRow hT hI h0 (show i < (es.length : Int) by omega), Result.andThen_ok, Sem.run_pure]
  rw [e1]
  refine hK1 _ _ ?_
  refine wpList_plain rfl fun K hK => ?_
  unfold Oper.wp
  have r1 : RelB C ⟨(d1, .dead) :: sl, hp⟩ β (a.put (some d1) (.pointer (some ⟨b, i.toNat * size, none⟩))) w := r.put (sv := .dead) (Below.refl _ _) hd1' trivial
  have e3 : (a.put (some d1) (.pointer (some ⟨b, i.toNat * size, none⟩))).eval (.tmp d1) = .pointer (some ⟨b, i.toNat * size, none⟩) := by
    simp only [Act.eval]; rw [getD_put, if_pos ⟨rfl, by rw [r.size]; exact hd1'⟩]
  have key2 : ∀ j, j < size → w.cell? ⟨b, i.toNat * size + j, none⟩ = some ((fun j => cur.getD (i.toNat * size + j) undef) j) := by
    intro j hj
    obtain ⟨u, h3, _⟩ := hel i.toNat cs j (cs[j]'(by omega)) hi (by simp [hcsl, hj])
    rw [cell_of_row w b _ cur T' _ hheap]
    simp [h3]
  have e2 := run_loadAgg (P := P) (b := b) (o := i.toNat * size) (w := w) hU hA hI _ key2
  have e4 : (execOp (a.put (some d1) (.pointer (some ⟨b, i.toNat * size, none⟩))).eval (Oo d2 (.load E (.tmp d1)) ty2 pos2 af2 none)).run P w = .ok (.value (.agg ((List.range size).map (fun j => cur.getD (i.toNat * size + j) undef)).toArray)) w := by
    simp only [execOp, e3, Sem.run_bind, e2, Result.andThen_ok, Sem.run_pure]
  rw [e4]
  refine hK _ _ (hk.go _ _ ⟨β, r1.put (sv := .one (.g (.agg cs))) (Below.refl _ _) (by simpa using hd2) ⟨_, rfl, by simp [hcsl], fun j d hj => ?_⟩⟩)
  obtain ⟨u, h3, h4⟩ := hel i.toNat cs j d hi hj
  have hl : j < size := by rw [← hcsl]; exact (List.getElem?_eq_some_iff.1 hj).1
  exact ⟨u, by simp [hl, h3], h4⟩⟩

theorem getElem?_set' {α : Type} (l : List α) (i j : Nat) (x : α) (h : i < l.length) : (l.set i x)[j]? = if i = j then some x else l[j]? := by
  rw [List.getElem?_set]
  by_cases c : i = j
  · subst c; simp [h]
  · simp [c]

/-- an element of a row of the call's own alone is stored -/
theorem G.storeRow {ops : Array Oper} {rest : List Oper} {sl : SL} {hp : HL} {T E size bytes kk d1 : Nat} {zz : Value} {es es' : List (List DV)} {ds : List DV} {kd : IntKind} {i : Int} {ty1 ty2 : TypeId} {pos1 pos2 : String} {af1 af2 : Array Edge}
    (hT : P.underlying T = some (.slice E)) (hI : Info P E zz size bytes) (hds : ds.length = size) (h0 : 0 ≤ i) (hi : i < (es.length : Int)) (he : es.set i.toNat ds = es')
    (hx : Ev x (.own kk es) R1) (hy : Ev y (bI kd i) R2) (hz : Ev z (.g (.agg ds)) R3) (hzd : z ≠ .tmp d1) (hd1 : Nat.blt d1 nt = true) (hs : HasS sl (R1 ++ (R2 ++ R3))) (hh : hget hp kk = some (.row E size es true))
    (hk : G C Q0 (.l ops rest :: k) ⟨(d1, .dead) :: sl, (kk, some (.row E size es' true)) :: hp⟩) :
    G C Q0 (.l ops (Oo d1 (.indexAddr T x y) ty1 pos1 af1 none :: ⟨none, .store E (.tmp d1) z, ty2, pos2, af2, none⟩ :: rest) :: k) ⟨sl, hp⟩ := ⟨fun a w ⟨β, r⟩ => by
  subst he
  have hne : es ≠ [] := fun c => by rw [c] at hi; simp at hi; omega
  obtain ⟨hsz0, hsz, b, cap, cur, hb, hu, hle, hcm, hheap, hcs, hcl, hel⟩ := own_inv r hh (hx.ok hs.app.1 r) hne
  have h2 := BR.v_inv (hy.ok hs.app.2.app.1 r)
  obtain ⟨us, hus, husl, huc⟩ := hz.ok hs.app.2.app.2 r
  have hd1' : d1 < nt := by simpa using hd1
  have hit : i.toNat < es.length := by omega
  have hfit : i.toNat * size + us.size ≤ cur.size := by
    have : (i.toNat + 1) * size ≤ es.length * size := Nat.mul_le_mul_right _ hit
    rw [Nat.add_mul] at this
    omega
  change wpList P ops (Qof P Q0 k) _ a w
  refine wpList_plain rfl fun K1 hK1 => ?_
  unfold Oper.wp
  have e1 : (execOp a.eval (Oo d1 (.indexAddr T x y) ty1 pos1 af1 none)).run P w = .ok (.value (.pointer (some ⟨b, i.toNat * size, none⟩))) w := by
    simp only [execOp, hu, h2, Sem.run_bind, run_indexRow hT hI h0 hi, Result.andThen_ok, Sem.run_pure]
  rw [e1]
  refine hK1 _ _ ?_
  refine wpList_plain rfl fun K hK => ?_
  unfold Oper.wp
  have r1 : RelB C ⟨(d1, .dead) :: sl, hp⟩ β (a.put (some d1) (.pointer (some ⟨b, i.toNat * size, none⟩))) w := r.put (sv := .dead) (Below.refl _ _) hd1' trivial
  have e3 : (a.put (some d1) (.pointer (some ⟨b, i.toNat * size, none⟩))).eval (.tmp d1) = .pointer (some ⟨b, i.toNat * size, none⟩) := by
    simp only [Act.eval]; rw [getD_put, if_pos ⟨rfl, by rw [r.size]; exact hd1'⟩]
  have e5 : (a.put (some d1) (.pointer (some ⟨b, i.toNat * size, none⟩))).eval z = .agg us := by
    rw [Act.eval_put (fun d hd => by cases hd; exact hzd)]; exact hus
  have hone : ∀ v, v ∈ us.toList → v.oneCell' = true := by
    intro v hv
    obtain ⟨j, hj, rfl⟩ := List.getElem_of_mem hv
    have hj' : j < ds.length := by rw [← husl]; simpa using hj
    obtain ⟨x', h3, h4⟩ := huc j ds[j] (by simp [hj'])
    have : us.toList[j] = x' := by
      have : us[j]? = some us.toList[j] := by simp
      rw [h3] at this; exact (Option.some.inj this).symm
    rw [this]; exact h4.one
  have hst := run_storeCells_at P b (i.toNat * size) E us.toList 0 cur w hheap (by simpa using hfit) hone
  simp only [Nat.add_zero] at hst
  generalize hw1 : w.setRow b (List.take (i.toNat * size) cur.toList ++ us.toList ++ List.drop (i.toNat * size + us.toList.length) cur.toList).toArray = w1 at hst
  have hnew : w1.heap[b]? = some (.cells (List.take (i.toNat * size) cur.toList ++ us.toList ++ List.drop (i.toNat * size + us.toList.length) cur.toList).toArray E) := by rw [← hw1]; exact setRow_heap w b cur _ E _ hheap
  have hoth : ∀ q, q ≠ b → w1.heap[q]? = w.heap[q]? := fun q hq => by rw [← hw1]; exact setRow_other w b q _ hq
  have hsize : w1.heap.size = w.heap.size := by rw [← hw1]; simp [World.setRow]
  have hcurL : cur.toList.length = cur.size := Array.length_toList
  have husL : us.toList.length = us.size := Array.length_toList
  have hcur : ∀ q : Nat, (List.take (i.toNat * size) cur.toList ++ us.toList ++ List.drop (i.toNat * size + us.toList.length) cur.toList).toArray[q]? = if i.toNat * size ≤ q ∧ q < i.toNat * size + size then us[q - i.toNat * size]? else cur[q]? := by
    intro q
    rw [List.getElem?_toArray, splice_get cur.toList (i.toNat * size) us.toList (by omega), husL, husl, hds]
    simp
  have hcurs : (List.take (i.toNat * size) cur.toList ++ us.toList ++ List.drop (i.toNat * size + us.toList.length) cur.toList).toArray.size = cur.size := by
    simp only [List.size_toArray, List.length_append, List.length_take, List.length_drop, hcurL, husL]
    omega
  have e4 : (execOp (a.put (some d1) (.pointer (some ⟨b, i.toNat * size, none⟩))).eval ⟨none, .store E (.tmp d1) z, ty2, pos2, af2, none⟩).run P w = .ok .skip w1 := by
    simp only [execOp, e3, e5, Instr.storeAt, Instr.sureAddr, storeVar, Value.cells, Sem.run_bind, Sem.run_pure, Result.andThen_ok, hI.sizeOf]
    rw [if_neg (by rw [husl, hds]; simp)]
    simp only [hst, Result.andThen_ok]
  rw [e4]
  refine hK _ _ (hk.go _ _ ⟨upd β kk (β kk), ?_⟩)
  refine (r1.chg (e := .row E size (es.set i.toNat ds) true) (bo := β kk) hh (by rw [← hw1]; rfl) (by rw [← hw1]; rfl) (by rw [← hw1]; rfl) (by omega) (fun q _ hq => hoth q (fun c => hq (by rw [c, hb]))) (fun _ o x _ _ hnm => absurd (.inl rfl) hnm)
    (.inl ⟨rfl, fun o ho => .inl rfl⟩) ⟨rfl, fun _ => rfl⟩ (fun es0 u h => ?_) (fun _ hRD => ?_)).1
  · obtain ⟨_, _, _, _, h5, h6, h7⟩ := h
    rw [hh] at h5; cases h5
    refine ⟨E, size, es.set i.toNat ds, true, by rw [hget_cons, if_pos rfl], by simpa using h6, fun hq => ?_⟩
    rw [List.length_set] at hq
    rcases h7 hq with ⟨_, h8, _⟩ | ⟨b', cap', cur', h8, h9, h10, h11, h12, h13⟩
    · exact absurd h8 hne
    · rw [hb] at h8; cases h8
      rw [hheap] at h12; cases h12
      exact .inr ⟨b, cap', _, by simp [upd, hb], by rw [List.length_set]; exact h9, by rw [List.length_set]; exact h10, h11, hnew, by rw [hcurs]; exact h13⟩
  · refine ⟨hsz0, fun cs hcs' => ?_, .inr ⟨b, _, by simp [upd, hb], hnew, by rw [List.length_set, hcurs]; exact hcl, fun i' cs j d hi' hj => ?_⟩⟩
    · rcases List.mem_or_eq_of_mem_set hcs' with h5 | h5
      · exact hsz cs h5
      · rw [h5]; exact hds
    · rw [getElem?_set' es i.toNat i' ds hit] at hi'
      rw [hcur]
      by_cases c : i.toNat = i'
      · rw [if_pos c] at hi'
        cases hi'
        have hj' : j < size := by rw [← hds]; exact (List.getElem?_eq_some_iff.1 hj).1
        obtain ⟨x', h3, h4⟩ := huc j d hj
        rw [← c, if_pos (by omega)]
        exact ⟨x', by rw [show i.toNat * size + j - i.toNat * size = j by omega]; exact h3, hRD _ _ h4⟩
      · rw [if_neg c] at hi'
        obtain ⟨v, h3, h4⟩ := hel i' cs j d hi' hj
        have hj' : j < size := by rw [← hsz cs (List.mem_of_getElem? hi')]; exact (List.getElem?_eq_some_iff.1 hj).1
        have : ¬ (i.toNat * size ≤ i' * size + j ∧ i' * size + j < i.toNat * size + size) := by
          rintro ⟨q1, q2⟩
          rcases Nat.lt_or_gt_of_ne c with c' | c'
          · have : (i.toNat + 1) * size ≤ i' * size := Nat.mul_le_mul_right _ c'
            rw [Nat.add_mul] at this; omega
          · have : (i' + 1) * size ≤ i.toNat * size := Nat.mul_le_mul_right _ c'
            rw [Nat.add_mul] at this; omega
        rw [if_neg this]
        exact ⟨v, h3, hRD _ _ h4⟩⟩
end
end Go.Ab
