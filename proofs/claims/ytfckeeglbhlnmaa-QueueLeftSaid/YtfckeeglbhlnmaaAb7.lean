/- The abstract machine: rows that are appended to. Conditions: none but those that stand in each law. -/
import Derived.Test.YtfckeeglbhlnmaaAb6
namespace Go.Ab
open Go Go.RowKit

theorem BR.ext {P : Program} {nt : Nat} {C : Cx P nt} {hp hp' : HL} {β : Nat → Option Nat} {w : World} (h : ∀ k, hget hp' k = hget hp k) {c : BV} {u : Value} (r : BR C hp β w c u) : BR C hp' β w c u := by
  have hmu : ∀ b o, Mu C hp' β b o → Mu C hp β b o := by
    rintro b o (hM | ⟨k, e, he, hb, hm⟩)
    · exact .inl hM
    · exact .inr ⟨k, e, (h k).symm.trans he, hb, hm⟩
  refine BR.kept (fun b o x hn hx => ⟨hx, fun c => hn (hmu b o c)⟩) (fun k _ e he hr => ⟨⟨e, (h k).trans he, hr⟩, rfl⟩) (fun k es0 hc r => ?_) r
  subst hc
  obtain ⟨T, size, es, ex, hh, hl, hr⟩ := r
  exact ⟨T, size, es, ex, (h k).trans hh, hl, hr⟩

theorem RelB.ext {P : Program} {nt : Nat} {C : Cx P nt} {st st' : St} {β : Nat → Option Nat} {a : Act} {w : World} (r : RelB C st β a w) (hs : ∀ t sv, sget st'.sl t = some sv → sget st.sl t = some sv) (h : ∀ k, hget st'.hp k = hget st.hp k) : RelB C st' β a w := by
  have hmu : ∀ b o, Mu C st'.hp β b o → Mu C st.hp β b o := by
    rintro b o (hM | ⟨k, e, he, hb, hm⟩)
    · exact .inl hM
    · exact .inr ⟨k, e, (h k).symm.trans he, hb, hm⟩
  have hst : ∀ b o x, ¬ Mu C st.hp β b o → w.cell? ⟨b, o, none⟩ = some x → w.cell? ⟨b, o, none⟩ = some x ∧ ¬ Mu C st'.hp β b o := fun b o x hn hx => ⟨hx, fun c => hn (hmu b o c)⟩
  refine ⟨r.keep, r.low, fun k k' e e' b h1 h2 => r.inj k k' e e' b ((h k).symm.trans h1) ((h k').symm.trans h2), fun k e b h1 => r.own k e b ((h k).symm.trans h1), fun k e h1 => ?_, fun t sv ht => ?_, r.size, r.df⟩
  · have h2 := r.hp k e ((h k).symm.trans h1)
    cases e with
    | blk T cs =>
      obtain ⟨b, arr, q1, q2, q3, q4⟩ := h2
      exact ⟨b, arr, q1, q2, q3, fun j c hc => let ⟨u, hu, ho, hr⟩ := q4 j c hc; ⟨u, hu, ho, hr.ext h⟩⟩
    | row T size es ex =>
      obtain ⟨hz, hs, hr⟩ := h2
      exact ⟨hz, hs, hr.imp id fun ⟨b, cur, q1, q2, q3, q4⟩ => ⟨b, cur, q1, q2, q3, fun i cs j d hi hj => let ⟨u, hu, hr⟩ := q4 i cs j d hi hj; ⟨u, hu, hr.mono hst⟩⟩⟩
    | it s pos => exact h2
  · have h1 := r.sl t sv (hs t sv ht)
    cases sv with
    | one b => exact BR.ext h h1
    | tup l =>
      obtain ⟨us, q1, q2, q3⟩ := h1
      exact ⟨us, q1, q2, fun i b hi => let ⟨x, hx, hr⟩ := q3 i b hi; ⟨x, hx, hr.ext h⟩⟩
    | dead => trivial

section
variable {P : Program} {nt : Nat} {C : Cx P nt} {dst : Nat} {ty : TypeId} {pos : String} {af : Array Edge} {gd : Option (Nat × Bool)} {x y z : Operand} {R R1 R2 R3 : List (Nat × SV)}

/-- a nil slice that will be appended to -/
theorem op_assignRow {E size k : Nat} {ex : Bool} (hz : Nat.blt 0 size = true) (hd : Nat.blt dst nt = true) :
    OpL C (Oo dst (.assign (.const (.slice none 0 0))) ty pos af gd) [] [(k, none)] [(dst, .one (.own k []))] [(k, some (.row E size [] ex))] := by
  refine ⟨fun sl hp hs hh a w K Q ⟨β, r⟩ hK => ?_⟩
  unfold Oper.wp
  have : (execOp a.eval (Oo dst (.assign (.const (.slice none 0 0))) ty pos af gd)).run P w = .ok (.value (.slice none 0 0)) w := by simp [execOp, Act.eval]
  rw [this]
  have h := (r.new (e := .row E size [] ex) (bo := none) hh.1 (Below.refl _ w) (fun b hb => by cases hb) fun _ _ => ⟨by simpa using hz, fun cs h => by simp at h, .inl ⟨by simp [upd], rfl⟩⟩).1
  exact hK _ _ ⟨_, h.put (Below.refl _ _) (by simpa using hd) ⟨E, size, [], ex, by rw [hget_cons, if_pos rfl], Nat.le_refl _, fun _ => .inl ⟨by simp [upd], rfl, none, rfl⟩⟩⟩

abbrev cApp (s x : Operand) (T : TypeId) : Op := .call { callee := .builtin .append, args := #[s, x], argTypes := #[T, T] }

theorem run_app {P : Program} {ρ : Operand → Value} {s x : Operand} {T dst ty : Nat} {pos : String} {af : Array Edge} {gd : Option (Nat × Bool)} {w w' : World} {v : Value}
    (h : (Builtin.append_ #[T, T] ty #[ρ s, ρ x]).run P w = .ok v w') : (execOp ρ (Oo dst (cApp s x T) ty pos af gd)).run P w = .ok (.value v) w' := by
  simp [execOp, resolve, invoke, builtin, h]

theorem run_append_zero {P : Program} {T E ty n cap c size bytes : Nat} {zz : Value} {base a' : Option Addr} {w : World} (hT : P.underlying T = some (.slice E)) (hI : Info P E zz size bytes) (hn : n ≤ cap) :
    (Builtin.append_ #[T, T] ty #[.slice base n cap, .slice a' 0 c]).run P w = .ok (.slice base n cap) w := by
  have hf : (Builtin.firstCells size 0 (.slice a' 0 c)).run P w = .ok #[] w := by
    cases a' <;> simp [Builtin.firstCells, loadCells, loadCellsFrom]
  cases base <;> simp [Builtin.append_, run_underlying hT, hI.sizeOf, Builtin.lenOf, hn, hf, storeCells]

/-- the cells of a reading, in a row -/
theorem RD.flat {M : Nat → Nat → Prop} {w : World} {u : Value} {size : Nat} {es : List (List DV)} (hz : 0 < size) (h : RD M w u (.sl size es)) :
    ∃ (a : Option Addr) (cap : Nat) (nv : List Value), u = .slice a es.length cap ∧ es.length ≤ cap ∧ cap ≤ maxLen ∧ (∀ cs, cs ∈ es → cs.length = size) ∧ nv.length = es.length * size ∧ (∀ v, v ∈ nv → v.oneCell' = true) ∧
      (∀ i cs j d, es[i]? = some cs → cs[j]? = some d → ∃ v, nv[i * size + j]? = some v ∧ RD M w v d) ∧
      (es ≠ [] → ∃ ad : Addr, a = some ad ∧ ∀ j v, nv[j]? = some v → w.cell? (ad.add j) = some v) := by
  cases h with
  | sl a cap size es vals b o hc hm ha hs hv hr =>
    have hin : ∀ q, q < es.length * size → ∃ cs d, es[q / size]? = some cs ∧ cs[q % size]? = some d := by
      intro q hq
      have h1 : q / size < es.length := Nat.div_lt_of_lt_mul (by rw [Nat.mul_comm]; exact hq)
      have h2 : q % size < size := Nat.mod_lt _ hz
      have h3 : es[q / size].length = size := hs _ (List.getElem_mem h1)
      refine ⟨es[q / size], (es[q / size])[q % size]'(by omega), by simp [h1], by simp [h3, h2]⟩
    have hq : ∀ i cs j d, es[i]? = some cs → cs[j]? = some d → i * size + j < es.length * size ∧ (i * size + j) / size = i ∧ (i * size + j) % size = j := by
      intro i cs j d hi hj
      have h1 : i < es.length := (List.getElem?_eq_some_iff.1 hi).1
      have h2 : j < cs.length := (List.getElem?_eq_some_iff.1 hj).1
      have h3 : cs.length = size := hs cs (List.mem_of_getElem? hi)
      have h4 : (i + 1) * size ≤ es.length * size := Nat.mul_le_mul_right _ h1
      rw [Nat.add_mul] at h4
      refine ⟨by omega, ?_, ?_⟩
      · rw [Nat.mul_comm, Nat.mul_add_div hz, Nat.div_eq_of_lt (by omega)]; rfl
      · rw [Nat.mul_comm, Nat.mul_add_mod, Nat.mod_eq_of_lt (by omega)]
    refine ⟨a, cap, (List.range (es.length * size)).map fun q => vals (q / size) (q % size), rfl, hc, hm, hs, by simp, fun v hv' => ?_, fun i cs j d hi hj => ?_, fun hne => ⟨⟨b, o, none⟩, ha hne, fun j v hj => ?_⟩⟩
    · simp only [List.mem_map, List.mem_range] at hv'
      obtain ⟨q, hq, rfl⟩ := hv'
      obtain ⟨cs, d, h1, h2⟩ := hin q hq
      exact (hr _ _ _ _ h1 h2).one
    · obtain ⟨h1, h2, h3⟩ := hq i cs j d hi hj
      exact ⟨vals i j, by simp [h1, h2, h3], hr i cs j d hi hj⟩
    · simp only [List.getElem?_map, Option.map_eq_some_iff] at hj
      obtain ⟨q, hq, rfl⟩ := hj
      obtain ⟨hlt, hqq⟩ := List.getElem?_eq_some_iff.1 hq
      simp only [List.length_range] at hlt
      simp only [List.getElem_range] at hqq
      subst hqq
      obtain ⟨cs, d, h1, h2⟩ := hin j hlt
      rw [Addr.add_lit]
      have := (hv _ _ _ _ h1 h2).1
      rw [show j / size * size + j % size = j by rw [Nat.mul_comm]; exact Nat.div_add_mod j size] at this
      exact this

/-- the parts of a row behind an append -/
theorem row_parts {M : Nat → Nat → Prop} {w : World} {size : Nat} {es news es' : List (List DV)} {olds nv rest : List Value} (he : es ++ news = es')
    (hol : olds.length = es.length * size)
    (h1 : ∀ i cs j d, es[i]? = some cs → cs[j]? = some d → ∃ v, olds[i * size + j]? = some v ∧ RD M w v d)
    (h2 : ∀ i cs j d, news[i]? = some cs → cs[j]? = some d → ∃ v, nv[i * size + j]? = some v ∧ RD M w v d) :
    ∀ i cs j d, es'[i]? = some cs → cs[j]? = some d → ∃ v, (olds ++ nv ++ rest)[i * size + j]? = some v ∧ RD M w v d := by
  intro i cs j d hi hj
  subst he
  by_cases c : i < es.length
  · rw [List.getElem?_append_left c] at hi
    obtain ⟨v, h3, h4⟩ := h1 i cs j d hi hj
    exact ⟨v, by rw [List.append_assoc, List.getElem?_append_left (List.getElem?_eq_some_iff.1 h3).1]; exact h3, h4⟩
  · rw [List.getElem?_append_right (by omega)] at hi
    obtain ⟨v, h3, h4⟩ := h2 _ cs j d hi hj
    refine ⟨v, ?_, h4⟩
    have hle : es.length * size ≤ i * size := Nat.mul_le_mul_right _ (by omega)
    rw [List.append_assoc, List.getElem?_append_right (by omega), hol, show i * size + j - es.length * size = (i - es.length) * size + j by rw [Nat.sub_mul]; omega,
      List.getElem?_append_left (List.getElem?_eq_some_iff.1 h3).1]
    exact h3

theorem op_appendO {T E : TypeId} {zz : Value} {size bytes k : Nat} {es news es' : List (List DV)} {ex : Bool} (hT : P.underlying T = some (.slice E)) (hI : Info P E zz size bytes) (hzs : Nat.beq zz.cells.size size = true)
    (he : es ++ news = es') (hb1 : es'.length ≤ 1099511627776) (hb2 : es'.length * bytes ≤ 140737488355328)
    (hx : Ev x (.own k es) R1) (hy : Ev y (.g (.d (.sl size news))) R2) (hd : Nat.blt dst nt = true) :
    OpL C (Oo dst (cApp x y T) ty pos af gd) (R1 ++ R2) [(k, some (.row E size es ex))] [(dst, .one (.own k es'))] [(k, some (.row E size es' ex))] := by
  refine ⟨fun sl hp hs hh a w K Q ⟨β, r⟩ hK => ?_⟩
  have hzs := Nat.eq_of_beq_eq_true hzs
  obtain ⟨hz, hsz, hrow⟩ := r.hp k _ hh.1
  obtain ⟨_, _, _, _, heq, _, hu⟩ := hx.ok hs.app.1 r
  rw [hh.1] at heq
  cases heq
  have hu := hu rfl
  have hlen : es'.length = es.length + news.length := by rw [← he]; simp
  obtain ⟨a', c', nv, hxv, hcc, hcm, hnsz, hnl, hn1, hnr, hna⟩ := RD.flat hz (hy.ok hs.app.2 r)
  have hsz' : ∀ cs, cs ∈ es' → cs.length = size := by
    intro cs hcs
    rw [← he] at hcs
    rcases List.mem_append.1 hcs with h | h
    · exact hsz cs h
    · exact hnsz cs h
  unfold Oper.wp
  by_cases hm0 : news = []
  · -- nothing is appended
    subst hm0
    have hee : es' = es := by rw [← he]; simp
    subst hee
    have hrun : ∃ base n cap, a.eval x = .slice base n cap ∧ n ≤ cap := by
      rcases hu with ⟨_, _, ad, hu⟩ | ⟨b, cap, cur, _, hu, hle, _⟩
      · exact ⟨ad, 0, 0, hu, Nat.le_refl _⟩
      · exact ⟨_, _, cap, hu, hle⟩
    obtain ⟨base, n, cap, hbv, hle⟩ := hrun
    rw [run_app (v := a.eval x) (w' := w) (by rw [hbv, hxv]; exact run_append_zero hT hI hle)]
    have hg : ∀ k', hget ((k, some (HE.row E size es' ex)) :: hp) k' = hget hp k' := fun k' => by
      rw [hget_cons]; split
      · rename_i c; rw [← c, hh.1]
      · rfl
    refine hK _ _ ⟨β, ?_⟩
    exact (r.put (sv := .one (.own k es')) (Below.refl _ _) (by simpa using hd) (hx.ok hs.app.1 r)).ext (fun t sv h => h) hg
  · -- something is
    obtain ⟨ad, rfl, hcells⟩ := hna hm0
    have hnpos : 0 < news.length := List.length_pos_iff.2 hm0
    obtain ⟨i, hi1, hi2, hi3, hi4⟩ := hI
    subst hi3
    subst hi4
    -- what is common to the ways: the new world, and the block
    have fin : ∀ (w1 : World) (bb cap1 : Nat) (olds rest : List Value), 
        (Builtin.append_ #[T, T] ty #[a.eval x, a.eval y]).run P w = .ok (.slice (some ⟨bb, 0, none⟩) es'.length cap1) w1 →
        w1.os = w.os → w1.tape = w.tape → w1.output = w.output → w.heap.size ≤ w1.heap.size → (∀ i, i < w.heap.size → some i ≠ β k → w1.heap[i]? = w.heap[i]?) →
        (∀ b o x, β k = some b → w.cell? ⟨b, o, none⟩ = some x → ¬ (HE.row E i.size es ex).mutAt o → w1.cell? ⟨b, o, none⟩ = some x) →
        (some bb = β k ∨ (bb = w.heap.size ∧ w.heap.size < w1.heap.size)) →
        w1.heap[bb]? = some (.cells (olds ++ nv ++ rest).toArray E) → olds.length = es.length * i.size → (olds ++ nv ++ rest).length = cap1 * i.size → es'.length ≤ cap1 → cap1 ≤ maxLen →
        (∀ i' cs j d, es[i']? = some cs → cs[j]? = some d → ∃ v, olds[i' * i.size + j]? = some v ∧ RD (Mu C hp β) w v d) →
        Oper.upon P (Oo dst (cApp x y T) ty pos af gd) a K Q ((execOp a.eval (Oo dst (cApp x y T) ty pos af gd)).run P w) := by
      intro w1 bb cap1 olds rest hrun hos htape hout hsize hblock hcell hbo hheap hol hsz1 hle hcm1 hold
      rw [run_app hrun]
      have hparts := row_parts (rest := rest) he hol hold hnr
      have hch := r.chg (e := .row E i.size es' ex) (bo := some bb) hh.1 hos htape hout hsize hblock hcell
        (by
          rcases hbo with h | ⟨h, h'⟩
          · refine .inl ⟨h, fun o ho => ho.imp id fun h3 => ?_⟩
            have : es.length * i.size ≤ es'.length * i.size := Nat.mul_le_mul_right _ (by omega)
            omega
          · exact .inr ⟨by rw [h], h'⟩)
        ⟨rfl, fun h => by cases h⟩
        (fun es0 u h => by
          obtain ⟨_, _, _, _, h1, h2, _⟩ := h
          rw [hh.1] at h1
          cases h1
          exact ⟨E, i.size, es', ex, by rw [hget_cons, if_pos rfl], by omega, fun hq => by omega⟩)
        (fun _ hRD => ⟨hz, hsz', .inr ⟨bb, _, by simp [upd], hheap, by
            rw [List.size_toArray, hsz1]; exact Nat.mul_le_mul_right _ hle, fun i' cs j d hi' hj => by
            obtain ⟨v, h1, h2⟩ := hparts i' cs j d hi' hj
            exact ⟨v, by rw [List.getElem?_toArray]; exact h1, hRD _ _ h2⟩⟩⟩)
      refine hK _ _ ⟨_, hch.1.put (Below.refl _ _) (by simpa using hd) ?_⟩
      exact ⟨E, i.size, es', ex, by rw [hget_cons, if_pos rfl], Nat.le_refl _, fun _ => .inr ⟨bb, cap1, _, by simp [upd], rfl, hle, hcm1, hheap, by rw [List.size_toArray]; exact hsz1⟩⟩
    have hmax : es'.length ≤ maxLen := by unfold maxLen; omega
    have hzc : (i.zero.getD undef).cells.size = i.size := by rw [hi2]; exact hzs
    -- a new block
    have grow : ∀ (olds : List Value) (old : Nat), olds.length = es.length * i.size → 
        (Builtin.append_ #[T, T] ty #[a.eval x, a.eval y]).run P w = .ok (.slice (some ⟨w.heap.size, 0, none⟩) es'.length (grownCap w es'.length old E))
          (w.drew.alloc (.cells (olds.toArray ++ nv.toArray ++ Builtin.zeroCells zz.cells (grownCap w es'.length old E - es'.length)) E)) →
        (∀ i' cs j d, es[i']? = some cs → cs[j]? = some d → ∃ v, olds[i' * i.size + j]? = some v ∧ RD (Mu C hp β) w v d) →
        Oper.upon P (Oo dst (cApp x y T) ty pos af gd) a K Q ((execOp a.eval (Oo dst (cApp x y T) ty pos af gd)).run P w) := by
      intro olds old hol hrun hold
      have hge := grownCap_ge w es'.length old E
      have hcm1 : grownCap w es'.length old E ≤ maxLen := grownCap_le_maxLen w es'.length old E hmax
      have hbel : ∀ i', i' < w.heap.size → (w.drew.alloc (.cells (olds.toArray ++ nv.toArray ++ Builtin.zeroCells zz.cells (grownCap w es'.length old E - es'.length)) E)).heap[i']? = w.heap[i']? :=
        fun i' hi' => heap_alloc_old w.drew _ hi'
      refine fin _ w.heap.size _ olds (Builtin.zeroCells zz.cells (grownCap w es'.length old E - es'.length)).toList hrun rfl rfl rfl (by simp) (fun i' hi' _ => hbel i' hi') (fun b o x hb hx _ => ?_) (.inr ⟨rfl, by simp⟩) ?_ hol ?_ hge hcm1 hold
      · rw [World.cell?_of_block (w := w) (a := ⟨b, o, none⟩) (hbel b (cell_lt hx))]; exact hx
      · have := heap_alloc_new w.drew (.cells (olds.toArray ++ nv.toArray ++ Builtin.zeroCells zz.cells (grownCap w es'.length old E - es'.length)) E)
        rw [show w.drew.heap.size = w.heap.size from rfl] at this
        rw [this]
        congr 2
        simp
      · simp only [List.length_append, Array.length_toList, size_zeroCells, hzs, hol, hnl]
        rw [← Nat.add_mul, ← Nat.add_mul]
        congr 1
        omega
    rcases hu with ⟨hbn, hes, ado, hu⟩ | ⟨b, cap, cur, hb, hu, hle, hcm2, hheap, hcs⟩
    · subst hes
      simp only [List.nil_append] at he
      subst he
      have hbytes : Builtin.nextslicecap news.length 0 * i.bytes ≤ 281474976710656 := growslice_fits (by omega) hb2
      cases ado with
      | none =>
        have hr := run_append_nil (P := P) w T ty E i zz hT hi1 hi2 ad news.length c' nv hnl hcells hnpos (by unfold maxLen at hmax; omega) (by omega)
        refine grow [] 0 (by simp) ?_ (fun i' cs j d h => by simp at h)
        rw [hu, hxv, hr]
        simp
      | some ad0 =>
        have hr := run_append_grow (P := P) w T ty E i zz hT hi1 hi2 ad0 0 0 [] (by simp) (fun j v h => by simp at h) ad news.length c' nv hnl hcells (by omega) (by unfold maxLen at hmax; omega) (by simpa using hbytes)
        refine grow [] 0 (by simp) ?_ (fun i' cs j d h => by simp at h)
        rw [hu, hxv, hr]
        simp
    · have hcellsO : ∃ cur', w.heap[b]? = some (.cells cur' E) ∧ es.length * i.size ≤ cur'.size ∧ ∀ (i' : Nat) (cs : List DV) (j : Nat) (d : DV), es[i']? = some cs → cs[j]? = some d → ∃ u, cur'[i' * i.size + j]? = some u ∧ RD (Mu C hp β) w u d := by
        rcases hrow with ⟨h1, _⟩ | ⟨b', cur', h1, h2, h3, h4⟩
        · rw [hb] at h1; cases h1
        · rw [hb] at h1; cases h1
          exact ⟨cur', h2, h3, h4⟩
      obtain ⟨cur', hheap', hcle, hcell⟩ := hcellsO
      rw [hheap] at hheap'
      cases hheap'
      have hol : (cur.toList.take (es.length * i.size)).length = es.length * i.size := by
        have hL : cur.toList.length = cur.size := Array.length_toList
        rw [List.length_take, hL]; omega
      have hold : ∀ i' cs j d, es[i']? = some cs → cs[j]? = some d → ∃ v, (cur.toList.take (es.length * i.size))[i' * i.size + j]? = some v ∧ RD (Mu C hp β) w v d := by
        intro i' cs j d hi' hj
        obtain ⟨v, h1, h2⟩ := hcell i' cs j d hi' hj
        refine ⟨v, ?_, h2⟩
        have hi'' : i' < es.length := (List.getElem?_eq_some_iff.1 hi').1
        have hj'' : j < cs.length := (List.getElem?_eq_some_iff.1 hj).1
        have : cs.length = i.size := hsz cs (List.mem_of_getElem? hi')
        have h4 : (i' + 1) * i.size ≤ es.length * i.size := Nat.mul_le_mul_right _ hi''
        rw [Nat.add_mul] at h4
        rw [List.getElem?_take, if_pos (by omega)]
        simpa using h1
      by_cases hroom : es.length + news.length ≤ cap
      · have hfit : es.length * i.size + nv.length ≤ cur.size := by rw [hnl, hcs, ← Nat.add_mul]; exact Nat.mul_le_mul_right _ hroom
        have hr := run_append_room (P := P) w T ty E i hT hi1 b es.length cap cur hheap ad news.length c' nv hnl hcells hn1 hroom hfit
        refine fin (w.setRow b (cur.toList.take (es.length * i.size) ++ nv ++ cur.toList.drop (es.length * i.size + nv.length)).toArray) b cap (cur.toList.take (es.length * i.size)) (cur.toList.drop (es.length * i.size + nv.length)) (by rw [hu, hxv, hr, hlen]) rfl rfl rfl (by simp [World.setRow])
          (fun i' hi' hne => setRow_other w b i' _ (fun c => hne (by rw [c, hb]))) (fun b' o x hb' hx hnm => ?_) (.inl hb.symm) (setRow_heap w b cur _ E _ hheap) hol ?_ (by omega) hcm2 hold
        · rw [hb] at hb'
          cases hb'
          simp only [HE.mutAt, not_or, Nat.not_le] at hnm
          rw [cell_of_row _ _ _ _ E _ (setRow_heap w b cur _ E _ hheap)]
          rw [cell_of_row _ _ _ _ E _ hheap] at hx
          rw [List.getElem?_toArray, List.append_assoc, List.getElem?_append_left (by omega), List.getElem?_take, if_pos hnm.2]
          simpa using hx
        · have hL : cur.toList.length = cur.size := Array.length_toList
          simp only [List.length_append, List.length_take, List.length_drop, hL]
          omega
      · have holds : ∀ j v, (cur.toList.take (es.length * i.size))[j]? = some v → w.cell? ((⟨b, 0, none⟩ : Addr).add j) = some v := by
          intro j v hj
          rw [Addr.add_lit, Nat.zero_add, cell_of_row _ _ _ _ E _ hheap]
          rw [List.getElem?_take] at hj
          split at hj
          · simpa using hj
          · cases hj
        have hr := run_append_grow (P := P) w T ty E i zz hT hi1 hi2 ⟨b, 0, none⟩ es.length cap _ hol holds ad news.length c' nv hnl hcells (by omega) (by unfold maxLen at hmax; omega) (growslice_fits (by omega) (by rw [← hlen]; exact hb2))
        exact grow _ cap hol (by rw [hu, hxv, hr, ← hlen]) hold

end
end Go.Ab
