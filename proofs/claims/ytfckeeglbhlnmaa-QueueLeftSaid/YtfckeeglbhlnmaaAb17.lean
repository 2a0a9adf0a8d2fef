/- The abstract machine: rows of the call's own alone, spliced, cleared and cut; a contract of a call that keeps a row. Conditions: none but those that stand in each law. -/
import Derived.Test.YtfckeeglbhlnmaaAb16
namespace Go.Ab
open Go Go.RowKit

def spliceR (es : List (List DV)) (lo : Nat) (news : List (List DV)) : List (List DV) := es.take lo ++ news ++ es.drop (lo + news.length)

theorem spliceR_length {es news : List (List DV)} {lo : Nat} (h : lo + news.length ≤ es.length) : (spliceR es lo news).length = es.length := by
  simp only [spliceR, List.length_append, List.length_take, List.length_drop]; omega

theorem spliceR_at {es news : List (List DV)} {lo : Nat} (h : lo + news.length ≤ es.length) (i : Nat) : (spliceR es lo news)[i]? = if lo ≤ i ∧ i < lo + news.length then news[i - lo]? else es[i]? := by
  simp only [spliceR]
  by_cases c1 : i < lo
  · rw [List.append_assoc, List.getElem?_append_left (by simp; omega), List.getElem?_take, if_pos c1, if_neg (by omega)]
  · by_cases c2 : i < lo + news.length
    · rw [List.append_assoc, List.getElem?_append_right (by simp; omega), List.getElem?_append_left (by simp; omega), if_pos ⟨by omega, c2⟩]
      congr 1; simp; omega
    · rw [List.getElem?_append_right (by simp; omega), List.getElem?_drop, if_neg (by omega)]
      congr 1; simp; omega

section
variable {P : Program} {nt : Nat} {C : Cx P nt}

/-- elements of a row are written over -/
theorem RelB.spliced {sl : SL} {hp : HL} {β : Nat → Option Nat} {a : Act} {w : World} (r : RelB C ⟨sl, hp⟩ β a w) {kk E size b lo : Nat} {es news : List (List DV)} {cur : Array Value} {vs : List Value}
    (hh : hget hp kk = some (.row E size es true)) (hb : β kk = some b) (hheap : w.heap[b]? = some (.cells cur E (0, 0))) (hlo : lo + news.length ≤ es.length) (hvl : vs.length = news.length * size) (hns : ∀ cs, cs ∈ news → cs.length = size)
    (hv : ∀ (i : Nat) (cs : List DV) (j : Nat) (d : DV), news[i]? = some cs → cs[j]? = some d → ∃ v, vs[i * size + j]? = some v ∧ RD (Mu C hp β) w v d) (hone : ∀ v, v ∈ vs → v.oneCell' = true) :
    (storeCells ⟨b, lo * size, none⟩ vs).run P w = .ok () (w.setRow b (List.take (lo * size) cur.toList ++ vs ++ List.drop (lo * size + vs.length) cur.toList).toArray) ∧
    RelB C ⟨sl, (kk, some (.row E size (spliceR es lo news) true)) :: hp⟩ (upd β kk (β kk)) a (w.setRow b (List.take (lo * size) cur.toList ++ vs ++ List.drop (lo * size + vs.length) cur.toList).toArray) := by
  obtain ⟨hsz0, hsz, hr⟩ := r.hp kk _ hh
  rcases hr with ⟨h1, _⟩ | ⟨b', cur', q1, q2, hcl, hel⟩
  · rw [hb] at h1; cases h1
  rw [hb] at q1; cases q1
  rw [hheap] at q2; cases q2
  have hfit : lo * size + vs.length ≤ cur.size := by
    have : (lo + news.length) * size ≤ es.length * size := Nat.mul_le_mul_right _ hlo
    rw [Nat.add_mul] at this
    omega
  have hst := run_storeCells_at P b (lo * size) E vs 0 cur w hheap (by simpa using hfit) hone
  simp only [Nat.add_zero] at hst
  refine ⟨hst, ?_⟩
  generalize hw1 : w.setRow b (List.take (lo * size) cur.toList ++ vs ++ List.drop (lo * size + vs.length) cur.toList).toArray = w1 at hst
  have hnew : w1.heap[b]? = some (.cells (List.take (lo * size) cur.toList ++ vs ++ List.drop (lo * size + vs.length) cur.toList).toArray E) := by rw [← hw1]; exact setRow_heap w b cur _ E _ hheap
  have hoth : ∀ q, q ≠ b → w1.heap[q]? = w.heap[q]? := fun q hq => by rw [← hw1]; exact setRow_other w b q _ hq
  have hsize : w1.heap.size = w.heap.size := by rw [← hw1]; simp [World.setRow]
  have hcurL : cur.toList.length = cur.size := Array.length_toList
  have hcur : ∀ q : Nat, (List.take (lo * size) cur.toList ++ vs ++ List.drop (lo * size + vs.length) cur.toList).toArray[q]? = if lo * size ≤ q ∧ q < lo * size + vs.length then vs[q - lo * size]? else cur[q]? := by
    intro q
    rw [List.getElem?_toArray, splice_get cur.toList (lo * size) vs (by omega)]
    simp
  have hcurs : (List.take (lo * size) cur.toList ++ vs ++ List.drop (lo * size + vs.length) cur.toList).toArray.size = cur.size := by
    simp only [List.size_toArray, List.length_append, List.length_take, List.length_drop, hcurL]
    omega
  have hlen := spliceR_length hlo
  refine (r.chg (e := .row E size (spliceR es lo news) true) (bo := β kk) hh (by rw [← hw1]; rfl) (by rw [← hw1]; rfl) (by rw [← hw1]; rfl) (by omega) (fun q _ hq => hoth q (fun c => hq (by rw [c, hb]))) (fun _ o x _ _ hnm => absurd (.inl rfl) hnm)
    (.inl ⟨rfl, fun o ho => .inl rfl⟩) ⟨rfl, fun _ => rfl⟩ (fun es0 u h => ?_) (fun _ hRD => ?_)).1
  · obtain ⟨_, _, _, _, h5, h6, h7⟩ := h
    rw [hh] at h5; cases h5
    refine ⟨E, size, spliceR es lo news, true, by rw [hget_cons, if_pos rfl], by rw [hlen]; exact h6, fun hq => ?_⟩
    rw [hlen] at hq ⊢
    rcases h7 hq with ⟨h8, _⟩ | ⟨b', cap', cur', h8, h9, h10, h11, h12, h13⟩
    · rw [hb] at h8; cases h8
    · rw [hb] at h8; cases h8
      rw [hheap] at h12; cases h12
      exact .inr ⟨b, cap', _, by simp [upd, hb], h9, h10, h11, hnew, by rw [hcurs]; exact h13⟩
  · refine ⟨hsz0, fun cs hcs' => ?_, .inr ⟨b, _, by simp [upd, hb], hnew, by rw [hlen, hcurs]; exact hcl, fun i cs j d hi hj => ?_⟩⟩
    · rcases List.mem_append.1 hcs' with h5 | h5
      · rcases List.mem_append.1 h5 with h5 | h5
        · exact hsz cs (List.mem_of_mem_take h5)
        · exact hns cs h5
      · exact hsz cs (List.mem_of_mem_drop h5)
    · rw [spliceR_at hlo] at hi
      rw [hcur]
      by_cases c : lo ≤ i ∧ i < lo + news.length
      · rw [if_pos c] at hi
        obtain ⟨v, h3, h4⟩ := hv _ cs j d hi hj
        have hj' : j < size := by rw [← hns cs (List.mem_of_getElem? hi)]; exact (List.getElem?_eq_some_iff.1 hj).1
        have e1 : (i - lo) * size + j = i * size + j - lo * size := by
          have : lo * size ≤ i * size := Nat.mul_le_mul_right _ c.1
          rw [Nat.sub_mul]; omega
        have h5 : (i - lo + 1) * size ≤ news.length * size := Nat.mul_le_mul_right _ (by omega)
        rw [Nat.add_mul, Nat.sub_mul] at h5
        have : lo * size ≤ i * size := Nat.mul_le_mul_right _ c.1
        rw [if_pos ⟨by omega, by omega⟩, ← e1]
        exact ⟨v, h3, hRD _ _ h4⟩
      · rw [if_neg c] at hi
        obtain ⟨v, h3, h4⟩ := hel i cs j d hi hj
        have hj' : j < size := by rw [← hsz cs (List.mem_of_getElem? hi)]; exact (List.getElem?_eq_some_iff.1 hj).1
        have : ¬ (lo * size ≤ i * size + j ∧ i * size + j < lo * size + vs.length) := by
          rintro ⟨q1, q2⟩
          rw [hvl] at q2
          rcases Nat.lt_or_ge i lo with c' | c'
          · have : (i + 1) * size ≤ lo * size := Nat.mul_le_mul_right _ c'
            rw [Nat.add_mul] at this; omega
          · have : (lo + news.length) * size ≤ i * size := Nat.mul_le_mul_right _ (by omega)
            rw [Nat.add_mul] at this; omega
        rw [if_neg this]
        exact ⟨v, h3, hRD _ _ h4⟩

theorem zero_at (z : Array Value) (m size i j : Nat) (hz : z.size = size) (hi : i < m) (hj : j < size) : (Builtin.zeroCells z m).toList[i * size + j]? = z[j]? := by
  have h5 : (i + 1) * size ≤ m * size := Nat.mul_le_mul_right _ hi
  rw [Nat.add_mul] at h5
  have hlt : i * size + j < m * size := by omega
  have e : (i * size + j) % size = j := by rw [Nat.mul_comm, Nat.mul_add_mod]; exact Nat.mod_eq_of_lt hj
  simp only [Builtin.zeroCells, hz]
  simp [hlt, e, hj, hz]

end

section
variable {P : Program} {nt : Nat} {C : Cx P nt} {Q0 : Exit → Act → World → Prop} {k : List KI} {dst : Nat} {ty : TypeId} {pos : String} {af : Array Edge} {x y z : Operand} {R R1 R2 R3 : List (Nat × SV)}

theorem own_any {sl : SL} {hp : HL} {β : Nat → Option Nat} {a : Act} {w : World} (r : RelB C ⟨sl, hp⟩ β a w) {kk T size : Nat} {es : List (List DV)} {ex : Bool} {u : Value} (hk : hget hp kk = some (.row T size es ex)) (hu : BR C hp β w (.own kk es) u) :
    (β kk = none ∧ es = [] ∧ ∃ ad, u = .slice ad 0 0) ∨ ∃ b cap cur, β kk = some b ∧ u = .slice (some ⟨b, 0, none⟩) es.length cap ∧ es.length ≤ cap ∧ cap ≤ maxLen ∧ w.heap[b]? = some (.cells cur T (0, 0)) ∧ cur.size = cap * size := by
  obtain ⟨_, _, _, _, h1, _, h2⟩ := hu
  rw [hk] at h1
  cases h1
  exact h2 rfl

/-- 'l[:n]' of a row of the call's own alone: it is that row, shorter -/
theorem G.cutRow {ops : Array Oper} {rest : List Oper} {sl sl' : SL} {hp : HL} {T E T' size bytes kk : Nat} {zz : Value} {es es' : List (List DV)} {n : Int} (hT : P.underlying T = some (.slice E)) (hI : Info P E zz size bytes)
    (h0 : 0 ≤ n) (h1 : n ≤ es.length) (he : es.take n.toNat = es')
    (hx : Ev x (.own kk es) R1) (hy : Ev y (bI .i64 n) R2) (hd : Nat.blt dst nt = true) (hs : HasS sl (R1 ++ R2)) (hh : hget hp kk = some (.row T' size es true)) (hsl : HasS sl sl') (hno : noId kk sl' hp = true)
    (hk : G C Q0 (.l ops rest :: k) ⟨(dst, .one (.own kk es')) :: sl', (kk, some (.row T' size es' true)) :: hp⟩) :
    G C Q0 (.l ops (Oo dst (.slice T x none (some y) none) ty pos af none :: rest) :: k) ⟨sl, hp⟩ := ⟨fun a w ⟨β, r⟩ => by
  subst he
  have hu := own_any r hh (hx.ok hs.app.1 r)
  have hv := BR.v_inv (hy.ok hs.app.2 r)
  obtain ⟨hz, hsz, hr⟩ := r.hp kk _ hh
  have hlen : (es.take n.toNat).length = n.toNat := by simp; omega
  have hsw := (r.slots hsl).swap (w1 := w) (e := .row T' size (es.take n.toNat) true) (bo := β kk) hh rfl hno rfl rfl rfl (Nat.le_refl _) (fun _ _ _ => rfl) (fun _ _ _ _ h _ => h)
    (fun b hb => .inl ⟨hb, fun o _ => .inl rfl⟩)
    (fun hRD => ⟨hz, fun cs hcs => hsz cs (List.mem_of_mem_take hcs), hr.imp (fun ⟨p1, p2⟩ => ⟨by simp [upd, p1], by simp [p2]⟩) fun ⟨b, cur, p1, p2, p3, p4⟩ => ⟨b, cur, by simp [upd, p1], p2, by
      have : (es.take n.toNat).length * size ≤ es.length * size := Nat.mul_le_mul_right _ (by rw [hlen]; omega)
      omega, fun i cs j d hi hj => by
      rw [List.getElem?_take] at hi
      split at hi
      · obtain ⟨u, q1, q2⟩ := p4 i cs j d hi hj
        exact ⟨u, q1, hRD _ _ q2⟩
      · cases hi⟩⟩)
  change wpList P ops (Qof P Q0 k) _ a w
  refine wpList_plain rfl fun K hK => ?_
  unfold Oper.wp
  rcases hu with ⟨hb, rfl, ad, hu⟩ | ⟨b, cap, cur, hb, hu, hle, hcm, hheap, hcs⟩
  · have hn0 : n = 0 := by simp at h1; omega
    subst hn0
    have e : (execOp a.eval (Oo dst (.slice T x none (some y) none) ty pos af none)).run P w = .ok (.value (.slice ad 0 0)) w := by
      have := run_bounds (P := P) (w := w) (b := true) (len := 0) (cap := 0) (lo := none) (hi := some 0) (by simp) (by simp) (by simp) (by simp)
      simp only [Option.map_none, Option.map_some, Option.getD_none, Option.getD_some] at this
      simp only [execOp, hu, hv, Option.map_none, Option.map_some, Instr.sliceAt, Sem.run_bind, run_underlying hT, Result.andThen_ok, Instr.slice, this, hI.sizeOf, Sem.run_pure]
      cases ad <;> simp [Addr.add]
    rw [e]
    refine hK _ _ (hk.go _ _ ⟨_, hsw.put (sv := .one (.own kk [])) (Below.refl _ _) (by simpa using hd) ⟨T', size, [], true, by rw [hget_cons, if_pos rfl]; simp, Nat.le_refl _, fun _ => .inl ⟨by simp [upd, hb], rfl, ad, rfl⟩⟩⟩)
  · have e : (execOp a.eval (Oo dst (.slice T x none (some y) none) ty pos af none)).run P w = .ok (.value (.slice (some ⟨b, 0, none⟩) n.toNat cap)) w := by
      have := run_bounds (P := P) (w := w) (b := true) (len := es.length) (cap := cap) (lo := none) (hi := some n) (by simp) (by simpa using h0) (by simpa using h1) hle
      simp only [Option.map_none, Option.map_some, Option.getD_none, Option.getD_some] at this
      simp only [execOp, hu, hv, Option.map_none, Option.map_some, Instr.sliceAt, Sem.run_bind, run_underlying hT, Result.andThen_ok, Instr.slice, this, hI.sizeOf, Sem.run_pure]
      simp [Addr.add]
    rw [e]
    refine hK _ _ (hk.go _ _ ⟨_, hsw.put (sv := .one (.own kk (es.take n.toNat))) (Below.refl _ _) (by simpa using hd) ⟨T', size, _, true, by rw [hget_cons, if_pos rfl], Nat.le_refl _, fun _ => .inr ⟨b, cap, cur, by simp [upd, hb], by rw [hlen], by rw [hlen]; omega, hcm, hheap, hcs⟩⟩⟩)⟩

/-- 'clear(l[n:])' of a row of the call's own alone -/
theorem G.clearRow {ops : Array Oper} {rest : List Oper} {sl : SL} {hp : HL} {T E size bytes kk d1 : Nat} {zz : Value} {es es' : List (List DV)} {zs : List DV} {n : Int} {ty1 ty2 : TypeId} {pos1 pos2 : String} {af1 af2 : Array Edge}
    (hT : P.underlying T = some (.slice E)) (hI : Info P E zz size bytes) (hzl : ZL zz.cells.toList (dat zs)) (hzs : zs.length = size)
    (h0 : 0 ≤ n) (h1 : n ≤ es.length) (he : spliceR es n.toNat (List.replicate (es.length - n.toNat) zs) = es')
    (hx : Ev x (.own kk es) R1) (hy : Ev y (bI .i64 n) R2) (hd : Nat.blt d1 nt = true) (hs : HasS sl (R1 ++ R2)) (hh : hget hp kk = some (.row E size es true))
    (hk : G C Q0 (.l ops rest :: k) ⟨(d1, .dead) :: sl, (kk, some (.row E size es' true)) :: hp⟩) :
    G C Q0 (.l ops (Oo d1 (.slice T x (some y) none none) ty1 pos1 af1 none :: ⟨none, .call { callee := .builtin .clear, args := #[.tmp d1], argTypes := #[T] }, ty2, pos2, af2, none⟩ :: rest) :: k) ⟨sl, hp⟩ := ⟨fun a w ⟨β, r⟩ => by
  subst he
  have hu := own_any r hh (hx.ok hs.app.1 r)
  have hv := BR.v_inv (hy.ok hs.app.2 r)
  obtain ⟨hz, hsz, hr⟩ := r.hp kk _ hh
  have hd1' : d1 < nt := by simpa using hd
  obtain ⟨hzlen, hzc⟩ := ZL.br (C := C) (hp := hp) (β := β) (w := w) hzl
  change wpList P ops (Qof P Q0 k) _ a w
  refine wpList_plain rfl fun K1 hK1 => ?_
  unfold Oper.wp
  rcases hu with ⟨hb, rfl, ad, hu⟩ | ⟨b, cap, cur, hb, hu, hle, hcm, hheap, hcs⟩
  · have hn0 : n = 0 := by simp at h1; omega
    subst hn0
    have e : (execOp a.eval (Oo d1 (.slice T x (some y) none none) ty1 pos1 af1 none)).run P w = .ok (.value (.slice ad 0 0)) w := by
      have := run_bounds (P := P) (w := w) (b := true) (len := 0) (cap := 0) (lo := some 0) (hi := none) (by simp) (by simp) (by simp) (by simp)
      simp only [Option.map_none, Option.map_some, Option.getD_none, Option.getD_some] at this
      simp only [execOp, hu, hv, Option.map_none, Option.map_some, Instr.sliceAt, Sem.run_bind, run_underlying hT, Result.andThen_ok, Instr.slice, this, hI.sizeOf, Sem.run_pure]
      cases ad <;> simp [Addr.add]
    rw [e]
    refine hK1 _ _ ?_
    refine wpList_plain rfl fun K hK => ?_
    unfold Oper.wp
    have e3 : (a.put (some d1) (.slice ad 0 0)).eval (.tmp d1) = .slice ad 0 0 := by
      simp only [Act.eval]; rw [getD_put, if_pos ⟨rfl, by rw [r.size]; exact hd1'⟩]
    have e4 : (execOp (a.put (some d1) (.slice ad 0 0)).eval ⟨none, .call { callee := .builtin .clear, args := #[.tmp d1], argTypes := #[T] }, ty2, pos2, af2, none⟩).run P w = .ok (.value (.tuple #[])) w := by
      cases ad <;> simp [execOp, resolve, e3, invoke, builtin, Builtin.clear_, run_underlying hT]
    rw [e4]
    refine hK _ _ (hk.go _ _ ⟨β, ((r.put (sv := .dead) (Below.refl _ _) hd1' trivial).ext (fun t sv h => h) fun k' => ?_)⟩)
    rw [hget_cons]; split
    · rename_i c; rw [← c, hh]; simp [spliceR]
    · rfl
  · have hbd := run_bounds (P := P) (w := w) (b := true) (len := es.length) (cap := cap) (lo := some n) (hi := none) (by simpa using h0) (by simpa using h1) (by simp) hle
    simp only [Option.map_none, Option.map_some, Option.getD_none, Option.getD_some, Int.toNat_natCast] at hbd
    obtain ⟨A, hA, e⟩ : ∃ A : Addr, (n.toNat < es.length → A = ⟨b, n.toNat * size, none⟩) ∧ (execOp a.eval (Oo d1 (.slice T x (some y) none none) ty1 pos1 af1 none)).run P w = .ok (.value (.slice (some A) (es.length - n.toNat) (cap - n.toNat))) w := by
      refine ⟨if cap = n.toNat then ⟨b, 0, none⟩ else ⟨b, n.toNat * size, none⟩, fun h => by rw [if_neg (by omega)], ?_⟩
      simp only [execOp, hu, hv, Option.map_none, Option.map_some, Instr.sliceAt, Sem.run_bind, run_underlying hT, Result.andThen_ok, Instr.slice, hbd, hI.sizeOf, Sem.run_pure]
      by_cases c : cap = n.toNat
      · simp [c]
      · simp only [if_neg c, Option.map_some, Addr.add_lit, Nat.zero_add]
    rw [e]
    refine hK1 _ _ ?_
    refine wpList_plain rfl fun K hK => ?_
    unfold Oper.wp
    have e3 : (a.put (some d1) (.slice (some A) (es.length - n.toNat) (cap - n.toNat))).eval (.tmp d1) = .slice (some A) (es.length - n.toNat) (cap - n.toNat) := by
      simp only [Act.eval]; rw [getD_put, if_pos ⟨rfl, by rw [r.size]; exact hd1'⟩]
    have r1 := r.put (dst := d1) (v := .slice (some A) (es.length - n.toNat) (cap - n.toNat)) (sv := .dead) (Below.refl _ _) hd1' trivial
    have hzsz : zz.cells.size = size := by simpa [dat, hzs] using hzlen
    obtain ⟨hst, r2⟩ := r1.spliced (vs := (Builtin.zeroCells zz.cells (es.length - n.toNat)).toList) (news := List.replicate (es.length - n.toNat) zs) (lo := n.toNat) hh hb hheap (by simp; omega)
      (by simp [Builtin.zeroCells, hzsz]) (fun cs hcs => by rw [List.eq_of_mem_replicate hcs]; exact hzs)
      (fun i cs j d hi hj => by
        have hi' : i < es.length - n.toNat := by have := (List.getElem?_eq_some_iff.1 hi).1; simpa using this
        rw [List.getElem?_replicate, if_pos hi'] at hi
        cases hi
        have hj' : j < size := by rw [← hzs]; exact (List.getElem?_eq_some_iff.1 hj).1
        obtain ⟨u, q1, _, q3⟩ := hzc j (.g (.d d)) (by simp [dat, hj])
        exact ⟨u, by rw [zero_at _ _ size i j hzsz hi' hj']; simpa using q1, q3⟩)
      (fun v hv => by
        obtain ⟨q, hq, rfl⟩ := List.getElem_of_mem hv
        have hq' : q < (es.length - n.toNat) * size := by simpa [Builtin.zeroCells, hzsz] using hq
        have hj : q % size < size := Nat.mod_lt _ hz
        obtain ⟨u, q1, q2, _⟩ := hzc (q % size) (.g (.d zs[q % size])) (by simp [dat, hzs, hj])
        have : (Builtin.zeroCells zz.cells (es.length - n.toNat)).toList[q]? = some u := by
          have hi : q / size < es.length - n.toNat := Nat.div_lt_of_lt_mul (by rw [Nat.mul_comm]; exact hq')
          have := zero_at zz.cells (es.length - n.toNat) size (q / size) (q % size) hzsz hi hj
          rw [Nat.mul_comm, Nat.div_add_mod] at this
          rw [this]; simpa using q1
        rw [List.getElem?_eq_getElem hq] at this
        rw [Option.some.inj this]; exact q2)
    have e4 : (execOp (a.put (some d1) (.slice (some A) (es.length - n.toNat) (cap - n.toNat))).eval ⟨none, .call { callee := .builtin .clear, args := #[.tmp d1], argTypes := #[T] }, ty2, pos2, af2, none⟩).run P w =
        .ok (.value (.tuple #[])) (w.setRow b (List.take (n.toNat * size) cur.toList ++ (Builtin.zeroCells zz.cells (es.length - n.toNat)).toList ++ List.drop (n.toNat * size + (Builtin.zeroCells zz.cells (es.length - n.toNat)).toList.length) cur.toList).toArray) := by
      cases hm : es.length - n.toNat with
      | zero =>
        have hw : w.setRow b (List.take (n.toNat * size) cur.toList ++ (Builtin.zeroCells zz.cells 0).toList ++ List.drop (n.toNat * size + (Builtin.zeroCells zz.cells 0).toList.length) cur.toList).toArray = w := by
          rw [hm] at hst
          simpa [Builtin.zeroCells, storeCells] using hst.symm
        rw [hw]
        rw [hm] at e3
        simp [execOp, resolve, e3, invoke, builtin, Builtin.clear_, run_underlying hT]
      | succ m =>
        rw [hA (by omega)] at e3 ⊢
        rw [hm] at e3 hst
        simp [execOp, resolve, e3, invoke, builtin, Builtin.clear_, run_underlying hT, hI.zero, hst]
    rw [e4]
    exact hK _ _ (hk.go _ _ ⟨_, r2⟩)⟩

end

/-- A CONTRACT OUT OF A WALK, for a function that keeps the row it is handed first -/
theorem Ct.introRow {P : Program} {f : Nat} {fn : Func} {code : Code} {T size : Nat} {es : List (List DV)} {args : List RG} {res : RS} {n : Nat} (hf : P.funcs[f]? = some fn) (hb : fn.body = some code) (hn : fn.ntmps = n) (hle : Nat.ble (args.length + 1) n = true)
    (h : ∀ M K w, G (⟨w, M, K⟩ : Cx P n) (bodyPost P fn (PostR M K w res)) [.c code] ⟨(0, .one (.own 0 es)) :: slots0 1 args, [(0, some (.row T size es true))]⟩) : Ct P f (.row T size es :: args) res := by
  refine ⟨fun M K w vs hM hK hl hargs => ?_⟩
  have hle' : vs.length ≤ n := by rw [hl]; simpa using hle
  have hl' : vs.length = args.length + 1 := by simpa using hl
  obtain ⟨hz, hsz, hrow⟩ := hargs 0 _ vs[0] rfl (by simp [hl'])
  obtain ⟨bo, hbo, hv⟩ : ∃ bo : Option Nat, (∀ b, bo = some b → K b ∧ b < w.heap.size) ∧
      ((bo = none ∧ es = [] ∧ ∃ ad, vs[0] = .slice ad 0 0) ∨ ∃ b cap cur, bo = some b ∧ vs[0] = .slice (some ⟨b, 0, none⟩) es.length cap ∧ es.length ≤ cap ∧ cap ≤ maxLen ∧ w.heap[b]? = some (.cells cur T (0, 0)) ∧ cur.size = cap * size ∧
        ∀ (i : Nat) (cs : List DV) (j : Nat) (d : DV), es[i]? = some cs → cs[j]? = some d → ∃ u, cur[i * size + j]? = some u ∧ RD (fun b' o => M b' o ∨ b' = b) w u d) := by
    rcases hrow with ⟨h3, h4⟩ | ⟨b, cap, cur, hB, hlt, hv, hle, hcm, hheap, hcs, hel⟩
    · exact ⟨none, fun b hb => (nomatch hb), .inl ⟨rfl, h3, h4⟩⟩
    · exact ⟨some b, fun b' hb' => by cases hb'; exact ⟨hB, hlt⟩, .inr ⟨b, cap, cur, rfl, hv, hle, hcm, hheap, hcs, hel⟩⟩
  have hget0 : ∀ k e, hget [(0, some (HE.row T size es true))] k = some e → k = 0 ∧ e = .row T size es true := fun k e h => by
    rw [hget_cons] at h
    split at h
    · rename_i c; cases h; exact ⟨c.symm, rfl⟩
    · cases h
  have hmu : ∀ b o, Mu (⟨w, M, K⟩ : Cx P n) [(0, some (HE.row T size es true))] (fun _ => bo) b o → M b o ∨ bo = some b := by
    rintro b o (c | ⟨_, _, _, c, _⟩)
    · exact .inl c
    · exact .inr c
  have hmuK : ∀ b o, Mu (⟨w, M, K⟩ : Cx P n) [(0, some (HE.row T size es true))] (fun _ => bo) b o → M b o ∨ K b := fun b o c => (hmu b o c).imp id fun c => (hbo b c).1
  refine calls_of_wp hf hb ?_
  refine (h M K w).go _ w ⟨fun _ => bo, ⟨⟨rfl, rfl, rfl, Nat.le_refl _, fun _ _ _ => rfl⟩, hM, fun k k' e e' b h1 h2 _ _ => ?_, fun k e b h1 h2 => ⟨.inr (hbo b h2).1, (hbo b h2).2⟩, fun k e h1 => ?_, fun t sv hs => ?_, ?_, rfl⟩⟩
  · exact (hget0 k e h1).1.trans (hget0 k' e' h2).1.symm
  · obtain ⟨rfl, rfl⟩ := hget0 k e h1
    refine ⟨hz, hsz, hv.imp (fun ⟨p1, p2, _⟩ => ⟨p1, p2⟩) fun ⟨b, cap, cur, p1, p2, p3, p4, p5, p6, p7⟩ => ⟨b, cur, p1, p5, by rw [p6]; exact Nat.mul_le_mul_right _ p3, fun i cs j d hi hj => let ⟨u, q1, q2⟩ := p7 i cs j d hi hj; ⟨u, q1, q2.less fun b' o c => (hmu b' o c).imp id fun c => by rw [p1] at c; cases c; rfl⟩⟩⟩
  · rw [sget_cons] at hs
    by_cases c : 0 = t
    · subst c
      rw [if_pos rfl] at hs; cases hs
      have hv0 : (vs.toArray ++ Array.replicate (fn.ntmps - vs.toArray.size) undef).getD 0 undef = vs[0] := by
        simp [Array.getElem?_append, hl']
      show SR _ _ _ _ _ ((vs.toArray ++ Array.replicate (fn.ntmps - vs.toArray.size) undef).getD 0 undef)
      rw [hv0]
      exact ⟨T, size, es, true, by rw [hget_cons, if_pos rfl], Nat.le_refl _, fun _ => hv.imp id fun ⟨b, cap, cur, p1, p2, p3, p4, p5, p6, p7⟩ => ⟨b, cap, cur, p1, p2, p3, p4, p5, p6⟩⟩
    · rw [if_neg c] at hs
      obtain ⟨ht, g, h1, rfl⟩ := slots0_get hs
      obtain ⟨t', rfl⟩ : ∃ t', t = t' + 1 := ⟨t - 1, by omega⟩
      rw [Nat.add_sub_cancel] at h1
      have hlt : t' + 1 < vs.length := by rw [hl']; have := (List.getElem?_eq_some_iff.1 h1).1; omega
      have hv0 : (vs.toArray ++ Array.replicate (fn.ntmps - vs.toArray.size) undef).getD (t' + 1) undef = vs[t' + 1] := by
        simp [Array.getElem?_append, hlt]
      show SR _ _ _ _ _ ((vs.toArray ++ Array.replicate (fn.ntmps - vs.toArray.size) undef).getD (t' + 1) undef)
      rw [hv0]
      have ha := hargs (t' + 1) g vs[t' + 1] (by simpa using h1) (by simp [hlt])
      cases g with
      | g a => exact GR.less hmuK ha
      | ep cs =>
        obtain ⟨b, o, hu, hc⟩ := ha
        exact ⟨b, o, hu, fun j d hj => let ⟨x, q1, q2, q3⟩ := hc j d hj; ⟨x, q1, fun c => q2 (hmuK _ _ c), q3.less hmuK⟩⟩
      | sem Φ => exact ha
      | row T size es => trivial
  · simp [hn]; omega
end Go.Ab
