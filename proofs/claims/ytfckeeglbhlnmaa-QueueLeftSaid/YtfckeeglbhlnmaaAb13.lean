/- The abstract machine: pieces of slices and texts, a byte of a text, an append to a slice without room, structs held against each other, bytes made a text. Conditions: none but those that stand in each law. -/
import Derived.Test.YtfckeeglbhlnmaaAb12
namespace Go.Ab
open Go Go.RowKit

inductive EvO : Option Operand → Option Int → List (Nat × SV) → Prop
  | none : EvO none none []
  | some {x : Operand} {i : Int} {R : List (Nat × SV)} (h : Ev x (bI .i64 i) R) : EvO (some x) (some i) R

theorem EvO.ok {P : Program} {nt : Nat} {C : Cx P nt} {sl : SL} {hp : HL} {β : Nat → Option Nat} {a : Act} {w : World} {x : Option Operand} {i : Option Int} {R : List (Nat × SV)}
    (hx : EvO x i R) (hs : HasS sl R) (r : RelB C ⟨sl, hp⟩ β a w) : x.map a.eval = i.map (Value.int .i64) := by
  cases hx with
  | none => rfl
  | some h => simp [BR.v_inv (h.ok hs r)]

theorem run_bounds {P : Program} {w : World} {b : Bool} {len cap : Nat} {lo hi : Option Int} (h0 : 0 ≤ lo.getD 0) (h1 : lo.getD 0 ≤ hi.getD len) (h2 : hi.getD len ≤ len) (h3 : len ≤ cap) :
    (Instr.sliceBounds b len cap (lo.map (Value.int .i64)) (hi.map (Value.int .i64)) none).run P w = .ok ((lo.getD 0).toNat, (hi.getD len).toNat, cap) w := by
  cases lo <;> cases hi <;> simp only [Option.getD_some, Option.getD_none] at h0 h1 h2 <;> simp only [Instr.sliceBounds, Option.map_none, Option.map_some, Instr.sliceBound, asIntOf, Sem.run_bind, Sem.run_pure, Result.andThen_ok, Option.getD_some, Option.getD_none]
  · simp
  · rename_i v
    have : 0 ≤ v ∧ v ≤ (cap : Int) := ⟨h1, by omega⟩
    simp [this]
  · rename_i v
    have : 0 ≤ v ∧ v ≤ (len : Int) := ⟨h0, h1⟩
    simp [this]
  · rename_i v v'
    have a1 : 0 ≤ v' ∧ v' ≤ (cap : Int) := ⟨by omega, by omega⟩
    have a2 : 0 ≤ v ∧ v ≤ ((v'.toNat : Nat) : Int) := ⟨h0, by omega⟩
    simp only [a1, a2, and_self, if_true, Sem.run_pure, Result.andThen_ok, Option.isSome_none, Bool.false_eq_true, if_false, Sem.run_bind]

section
variable {P : Program} {nt : Nat} {C : Cx P nt} {dst : Nat} {ty : TypeId} {pos : String} {af : Array Edge} {gd : Option (Nat × Bool)} {x y z : Operand} {R R1 R2 R3 : List (Nat × SV)}

theorem take_drop_get {α : Type} (es : List α) (l h : Nat) (i : Nat) (c : α) (hi : ((es.take h).drop l)[i]? = some c) : es[l + i]? = some c ∧ l + i < h := by
  rw [List.getElem?_drop, List.getElem?_take] at hi
  split at hi
  · exact ⟨hi, by assumption⟩
  · cases hi

theorem RD.sub {M : Nat → Nat → Prop} {w : World} {a : Option Addr} {cap size : Nat} {es : List (List DV)} (h : RD M w (.slice a es.length cap) (.sl size es)) {l hh cap' : Nat} (h1 : l ≤ hh) (h2 : hh ≤ es.length) (hc' : hh ≤ cap') (hcap : cap' ≤ cap) :
    RD M w (.slice (if cap' = l then a else a.map (·.add (l * size))) (hh - l) (cap' - l)) (.sl size ((es.take hh).drop l)) := by
  generalize hu : Value.slice a es.length cap = u at h
  cases h with
  | sl a' capx _ _ vals b o hc hm ha hs hv hr =>
    simp only [Value.slice.injEq] at hu
    obtain ⟨rfl, _, rfl⟩ := hu
    have hlen : ((es.take hh).drop l).length = hh - l := by rw [List.length_drop, List.length_take, Nat.min_eq_left h2]
    rw [← hlen]
    refine RD.sl _ (cap' - l) size _ (fun i j => vals (l + i) j) b (o + l * size) (by rw [hlen]; omega) (by omega) (fun hne => ?_) (fun cs hcs => hs cs (List.mem_of_mem_take (List.mem_of_mem_drop hcs))) (fun i cs j d hi hj => ?_) (fun i cs j d hi hj => ?_)
    · have hpos : 0 < ((es.take hh).drop l).length := List.length_pos_iff.2 hne
      rw [hlen] at hpos
      rw [if_neg (by omega), ha (fun c => by simp [c] at h2; omega)]
      simp [Addr.add_lit]
    · obtain ⟨h3, _⟩ := take_drop_get es l hh i cs hi
      have := hv (l + i) cs j d h3 hj
      rw [show o + ((l + i) * size + j) = o + l * size + (i * size + j) by rw [Nat.add_mul]; omega] at this
      exact this
    · obtain ⟨h3, _⟩ := take_drop_get es l hh i cs hi
      exact hr (l + i) cs j d h3 hj

theorem op_sliceD {T E size bytes : Nat} {zz : Value} {es es' : List (List DV)} {ox oy : Option Operand} {lo hi : Option Int} (hT : P.underlying T = some (.slice E)) (hI : Info P E zz size bytes)
    (h0 : 0 ≤ lo.getD 0) (h1 : lo.getD 0 ≤ hi.getD es.length) (h2 : hi.getD es.length ≤ es.length) (he : (es.take (hi.getD es.length).toNat).drop (lo.getD 0).toNat = es')
    (hx : Ev x (.g (.d (.sl size es))) R1) (hlo : EvO ox lo R2) (hhi : EvO oy hi R3) (hd : Nat.blt dst nt = true) :
    OpL C (Oo dst (.slice T x ox oy none) ty pos af gd) (R1 ++ (R2 ++ R3)) [] [(dst, .one (.g (.d (.sl size es'))))] [] :=
  opl_pure hd rfl fun sl hp β a w hs _ r => by
    have h3 : RD (Mu C hp β) w _ _ := hx.ok hs.app.1 r
    have e1 := hlo.ok hs.app.2.app.1 r
    have e2 := hhi.ok hs.app.2.app.2 r
    obtain ⟨ad, cap, hu, hle⟩ : ∃ ad cap, a.eval x = .slice ad es.length cap ∧ es.length ≤ cap := by
      generalize hxx : a.eval x = u at h3
      cases h3; exact ⟨_, _, rfl, by assumption⟩
    rw [hu] at h3
    have hsub := h3.sub (l := (lo.getD 0).toNat) (hh := (hi.getD es.length).toNat) (cap' := cap) (by omega) (by omega) (by omega) (Nat.le_refl _)
    rw [he] at hsub
    refine ⟨_, ?_, hsub⟩
    simp only [execOp, hu, e1, e2, Option.map_none, Instr.sliceAt, Sem.run_bind, run_underlying hT, Result.andThen_ok, Instr.slice, run_bounds h0 h1 h2 hle, hI.sizeOf, Sem.run_pure]

/-- 'l[:n:n]' -/
theorem op_slice3 {T E size bytes : Nat} {zz : Value} {es es' : List (List DV)} {oy oz : Operand} {n : Int} (hT : P.underlying T = some (.slice E)) (hI : Info P E zz size bytes)
    (h1 : 0 ≤ n) (h2 : n ≤ es.length) (he : es.take n.toNat = es')
    (hx : Ev x (.g (.d (.sl size es))) R1) (hhi : Ev oy (bI .i64 n) R2) (hmx : Ev oz (bI .i64 n) R3) (hd : Nat.blt dst nt = true) :
    OpL C (Oo dst (.slice T x none (some oy) (some oz)) ty pos af gd) (R1 ++ (R2 ++ R3)) [] [(dst, .one (.cp size es'))] [] :=
  opl_pure hd rfl fun sl hp β a w hs _ r => by
    have h3 : RD (Mu C hp β) w _ _ := hx.ok hs.app.1 r
    have e1 := BR.v_inv (hhi.ok hs.app.2.app.1 r)
    have e2 := BR.v_inv (hmx.ok hs.app.2.app.2 r)
    obtain ⟨ad, cap, hu, hle⟩ : ∃ ad cap, a.eval x = .slice ad es.length cap ∧ es.length ≤ cap := by
      generalize hxx : a.eval x = u at h3
      cases h3; exact ⟨_, _, rfl, by assumption⟩
    rw [hu] at h3
    have hsub := h3.sub (l := 0) (hh := n.toNat) (cap' := n.toNat) (by omega) (by omega) (Nat.le_refl _) (by omega)
    rw [List.drop_zero, he] at hsub
    refine ⟨_, ?_, hsub, _, n.toNat, rfl⟩
    have a1 : 0 ≤ n ∧ n ≤ (cap : Int) := ⟨h1, by omega⟩
    have a2 : 0 ≤ n ∧ n ≤ ((n.toNat : Nat) : Int) := ⟨h1, by omega⟩
    simp only [execOp, hu, e1, e2, Option.map_none, Option.map_some, Instr.sliceAt, Sem.run_bind, run_underlying hT, Result.andThen_ok, Instr.slice, Instr.sliceBounds, Instr.sliceBound, asIntOf, a1, a2, and_self, if_true, hI.sizeOf, Sem.run_pure, Nat.sub_zero]

theorem op_sliceS {T : Nat} {s : ByteArray} {ox oy : Option Operand} {lo hi : Option Int} (hT : P.underlying T = some .string)
    (h0 : 0 ≤ lo.getD 0) (h1 : lo.getD 0 ≤ hi.getD s.size) (h2 : hi.getD s.size ≤ s.size)
    (hx : Ev x (bS s) R1) (hlo : EvO ox lo R2) (hhi : EvO oy hi R3) (hd : Nat.blt dst nt = true) :
    OpL C (Oo dst (.slice T x ox oy none) ty pos af gd) (R1 ++ (R2 ++ R3)) [] [(dst, .one (bS (s.extract (lo.getD 0).toNat (hi.getD s.size).toNat)))] [] :=
  opl_pure hd rfl fun sl hp β a w hs _ r => by
    have hu := BR.v_inv (hx.ok hs.app.1 r)
    have e1 := hlo.ok hs.app.2.app.1 r
    have e2 := hhi.ok hs.app.2.app.2 r
    refine ⟨_, ?_, RD.v _ rfl⟩
    simp only [execOp, hu, e1, e2, Option.map_none, Instr.sliceAt, Sem.run_bind, run_underlying hT, Result.andThen_ok, Instr.slice, Option.isSome_none, Bool.false_eq_true, if_false, run_bounds h0 h1 h2 (Nat.le_refl _), Sem.run_pure]

theorem op_indexS {T : Nat} {s : ByteArray} {k : IntKind} {i : Int} {b : UInt8} (hT : P.underlying T = some .string) (h0 : 0 ≤ i) (hi : s[i.toNat]? = some b) (hx : Ev x (bS s) R1) (hy : Ev y (bI k i) R2) (hd : Nat.blt dst nt = true) :
    OpL C (Oo dst (.index T x y) ty pos af gd) (R1 ++ R2) [] [(dst, .one (bI .u8 (b.toNat : Int)))] [] :=
  opl_pure hd rfl fun sl hp β a w hs _ r => by
    have hu := BR.v_inv (hx.ok hs.app.1 r)
    have hv := BR.v_inv (hy.ok hs.app.2 r)
    exact ⟨.int .u8 b.toNat, by simp [execOp, hu, hv, Instr.index, asIntOf, run_underlying hT, h0, hi], RD.v _ rfl⟩

/-- an append to a slice that has no room: what comes out is new, or what was there -/
theorem op_appendC {T E : TypeId} {zz : Value} {size bytes : Nat} {es news es' : List (List DV)} (hT : P.underlying T = some (.slice E)) (hI : Info P E zz size bytes) (hzs : Nat.beq zz.cells.size size = true) (hsz0 : Nat.blt 0 size = true)
    (he : es ++ news = es') (hb1 : es'.length ≤ 1099511627776) (hb2 : es'.length * bytes ≤ 140737488355328)
    (hx : Ev x (.cp size es) R1) (hy : Ev y (.g (.d (.sl size news))) R2) (hd : Nat.blt dst nt = true) :
    OpL C (Oo dst (cApp x y T) ty pos af gd) (R1 ++ R2) [] [(dst, .one (.g (.d (.sl size es'))))] [] :=
  opl_below hd rfl fun sl hp β a w hs _ r => by
    have hzs := Nat.eq_of_beq_eq_true hzs
    have hz : 0 < size := by simpa using hsz0
    obtain ⟨hxr, ado, n0, hu0⟩ := hx.ok hs.app.1 r
    have hlen : es'.length = es.length + news.length := by rw [← he]; simp
    obtain ⟨a0, c0, ov, hxv, _, _, hosz, hol, _, hor, hoa⟩ := RD.flat hz hxr
    obtain ⟨a', c', nv, hyv, hcc, hcm, hnsz, hnl, hn1, hnr, hna⟩ := RD.flat hz (hy.ok hs.app.2 r)
    rw [hu0] at hxv
    simp only [Value.slice.injEq] at hxv
    obtain ⟨rfl, rfl, rfl⟩ := hxv
    by_cases hm0 : news = []
    · subst hm0
      have hee : es' = es := by rw [← he]; simp
      subst hee
      exact ⟨_, w, run_app (by rw [hu0, hyv]; exact run_append_zero hT hI (Nat.le_refl _)), Below.refl _ _, by rw [← hu0]; exact hxr⟩
    · obtain ⟨ad, rfl, hcells⟩ := hna hm0
      have hnpos : 0 < news.length := List.length_pos_iff.2 hm0
      obtain ⟨i, hi1, hi2, hi3, hi4⟩ := hI
      subst hi3
      subst hi4
      have hmax : es'.length ≤ maxLen := by unfold maxLen; omega
      have hsz' : ∀ cs, cs ∈ es' → cs.length = i.size := by
        intro cs hcs
        rw [← he] at hcs
        rcases List.mem_append.1 hcs with h | h
        · exact hosz cs h
        · exact hnsz cs h
      have fin : (Builtin.append_ #[T, T] ty #[a.eval x, a.eval y]).run P w = .ok (.slice (some ⟨w.heap.size, 0, none⟩) es'.length (grownCap w es'.length es.length E))
          (w.drew.alloc (.cells (ov.toArray ++ nv.toArray ++ Builtin.zeroCells zz.cells (grownCap w es'.length es.length E - es'.length)) E)) →
          ∃ v w', (execOp a.eval (Oo dst (cApp x y T) ty pos af gd)).run P w = .ok (.value v) w' ∧ Below w.heap.size w w' ∧ SR C hp β w' (.one (.g (.d (.sl i.size es')))) v := by
        intro hrun
        have hbel : Below w.heap.size w (w.drew.alloc (.cells (ov.toArray ++ nv.toArray ++ Builtin.zeroCells zz.cells (grownCap w es'.length es.length E - es'.length)) E)) := ⟨rfl, rfl, rfl, by simp, fun k hk => heap_alloc_old w.drew _ hk⟩
        have hnew : (w.drew.alloc (.cells (ov.toArray ++ nv.toArray ++ Builtin.zeroCells zz.cells (grownCap w es'.length es.length E - es'.length)) E)).heap[w.heap.size]? = some (.cells (ov.toArray ++ nv.toArray ++ Builtin.zeroCells zz.cells (grownCap w es'.length es.length E - es'.length)) E (0, 0)) := heap_alloc_new w.drew _
        have hparts := row_parts (rest := (Builtin.zeroCells zz.cells (grownCap w es'.length es.length E - es'.length)).toList) he hol hor hnr
        refine ⟨_, _, run_app hrun, hbel, ?_⟩
        refine RD.sl _ _ i.size es' (fun i' j => (ov ++ nv ++ (Builtin.zeroCells zz.cells (grownCap w es'.length es.length E - es'.length)).toList).getD (i' * i.size + j) undef) w.heap.size 0 (grownCap_ge w _ _ E) (grownCap_le_maxLen w _ _ E hmax) (fun _ => rfl) hsz' (fun i' cs j d hi' hj => ?_) (fun i' cs j d hi' hj => ?_)
        · obtain ⟨v, h1, _⟩ := hparts i' cs j d hi' hj
          refine ⟨?_, fun c => Nat.lt_irrefl _ (r.mut_lt c)⟩
          rw [cell_of_row _ _ _ _ E _ hnew, Nat.zero_add]
          have e : (ov.toArray ++ nv.toArray ++ Builtin.zeroCells zz.cells (grownCap w es'.length es.length E - es'.length)) = (ov ++ nv ++ (Builtin.zeroCells zz.cells (grownCap w es'.length es.length E - es'.length)).toList).toArray := by simp
          rw [e, List.getElem?_toArray, h1, List.getD_eq_getElem?_getD, h1]
          rfl
        · obtain ⟨v, h1, h2⟩ := hparts i' cs j d hi' hj
          rw [List.getD_eq_getElem?_getD, h1]
          exact h2.mono (below_kept hbel)
      cases ado with
      | none =>
        have hes : es = [] := by
          refine Classical.byContradiction fun c => ?_
          obtain ⟨ad', h, _⟩ := hoa c
          cases h
        subst hes
        simp only [List.nil_append] at he
        subst he
        have hov : ov = [] := List.eq_nil_of_length_eq_zero (by simpa using hol)
        subst hov
        have hbytes : Builtin.nextslicecap news.length 0 * i.bytes ≤ 281474976710656 := growslice_fits (by omega) hb2
        have hr := run_append_nil (P := P) w T ty E i zz hT hi1 hi2 ad news.length c' nv hnl hcells hnpos (by unfold maxLen at hmax; omega) (by omega)
        refine fin ?_
        rw [hu0, hyv]
        simpa using hr
      | some ad0 =>
        have holds : ∀ j v, ov[j]? = some v → w.cell? (ad0.add j) = some v := by
          intro j v hj
          have hne : es ≠ [] := fun c => by subst c; have : ov = [] := List.eq_nil_of_length_eq_zero (by simpa using hol); subst this; simp at hj
          obtain ⟨ad', h, h2⟩ := hoa hne
          cases h
          exact h2 j v hj
        have hr := run_append_grow (P := P) w T ty E i zz hT hi1 hi2 ad0 es.length es.length ov hol holds ad news.length c' nv hnl hcells (by omega) (by unfold maxLen at hmax; omega) (growslice_fits (by omega) (by rw [← hlen]; exact hb2))
        exact fin (by rw [hu0, hyv, hr, ← hlen])

/-- structs of plain cells held against each other: by a fact of their type -/
theorem op_eqA {op : BinOp} {T T' : TypeId} {us vs : List Value} {ds es : List DV} {b : Bool} (hds : us.map DV.v = ds) (hes : vs.map DV.v = es) (hg : P.eqGuardType P.depth T = false)
    (h : ∀ w, (binOp op T (.agg us.toArray) (.agg vs.toArray)).run P w = .ok (.bool b) w) (hx : Ev x (.g (.agg ds)) R1) (hy : Ev y (.g (.agg es)) R2) (hd : Nat.blt dst nt = true) :
    OpL C (Oo dst (.binOp op T x y T') ty pos af gd) (R1 ++ R2) [] [(dst, .one (bB b))] [] :=
  opl_pure hd rfl fun sl hp β a w hs _ r => by
    have key : ∀ (u : Value) (us : List Value), BR C hp β w (.g (.agg (us.map DV.v))) u → u = .agg us.toArray := by
      rintro u us ⟨arr, rfl, h1, h2⟩
      congr 1
      refine Array.ext' ?_
      refine List.ext_getElem? fun j => ?_
      by_cases c : j < us.length
      · obtain ⟨x, h3, h4⟩ := h2 j (.v us[j]) (by simp [c])
        rw [RD.v_inv h4] at h3
        simp [h3, c]
      · have : arr.size ≤ j := by rw [h1]; simp; omega
        simp [this, Nat.le_of_not_lt c]
    subst hds hes
    have e1 := key _ _ (hx.ok hs.app.1 r)
    have e2 := key _ _ (hy.ok hs.app.2 r)
    refine ⟨.bool b, ?_, RD.v _ rfl⟩
    simp only [execOp, e1, e2, Sem.run_bind, run_eqGuard_agg w op T x y _ _ hg, Result.andThen_ok, h w, Sem.run_pure]

def bytesOf (ns : List Int) : ByteArray := ⟨(ns.map fun n => UInt8.ofNat n.toNat).toArray⟩

theorem op_toText {S E T : TypeId} {ns : List Int} {es : List (List DV)} (hS : P.underlying S = some (.slice E)) (hE : P.underlying E = some (.int .u8)) (hT : P.underlying T = some .string) (he : es = ns.map fun n => [.v (.int .u8 n)]) (hx : Ev x (.g (.d (.sl 1 es))) R) (hd : Nat.blt dst nt = true) :
    OpL C (Oo dst (.convert S T x) ty pos af gd) R [] [(dst, .one (bS (bytesOf ns)))] [] :=
  opl_pure hd rfl fun sl hp β a w hs _ r => by
    obtain ⟨ad, cap, nv, hu, _, _, _, hnl, _, hr, hc⟩ := RD.flat (by omega) (hx.ok hs r)
    have hnv : nv = ns.map (Value.int .u8) := by
      refine List.ext_getElem? fun j => ?_
      by_cases c : j < ns.length
      · obtain ⟨v, h1, h2⟩ := hr j [.v (.int .u8 ns[j])] 0 (.v (.int .u8 ns[j])) (by simp [he, c]) rfl
        rw [RD.v_inv h2] at h1
        simpa [c] using h1
      · have : nv.length ≤ j := by rw [hnl, he]; simp; omega
        simp [this, Nat.le_of_not_lt c]
    have hel : es.length = ns.length := by rw [he]; simp
    refine ⟨.string (bytesOf ns), ?_, RD.v _ rfl⟩
    have loop : ∀ (f : Value → ByteArray → Sem (ForInStep ByteArray)) (_ : ∀ n s, f (.int .u8 n) s = pure (.yield (s.push (UInt8.ofNat n.toNat)))) (l : List Int) (acc : ByteArray),
        (forIn (l.map (Value.int .u8)).toArray acc f).run P w = .ok ⟨acc.data ++ (l.map fun n => UInt8.ofNat n.toNat).toArray⟩ w := by
      intro f hf l
      induction l with
      | nil => intro acc; simp
      | cons n l ih =>
        intro acc
        have := ih (acc.push (UInt8.ofNat n.toNat))
        simp only [List.map_cons, List.forIn_toArray, List.forIn_cons, Sem.run_bind, Sem.run_pure, Result.andThen_ok, hf] at this ⊢
        rw [this]
        simp [ByteArray.push]
    have hl : ad.isSome = true ∨ es = [] := by
      by_cases c : es = []
      · exact .inr c
      · obtain ⟨ad', h, _⟩ := hc c; exact .inl (by simp [h])
    cases had : ad with
    | none =>
      rw [had] at hl
      have h0 : es = [] := by simpa using hl
      have hn0 : ns = [] := List.eq_nil_of_length_eq_zero (by rw [← hel, h0]; rfl)
      subst hn0
      simp [execOp, hu, had, convert, run_underlying hS, run_underlying hT, run_underlying hE, Conv.bytesToString, bytesOf]
      rfl
    | some ad1 =>
      have hload : (loadCells ad1 es.length).run P w = .ok (ns.map (Value.int .u8)).toArray w := by
        by_cases c : es = []
        · have hn0 : ns = [] := List.eq_nil_of_length_eq_zero (by rw [← hel, c]; rfl)
          subst hn0
          simp [c, loadCells, loadCellsFrom]
        · obtain ⟨ad', h, h2⟩ := hc c
          rw [had] at h; cases h
          have := run_loadCells (P := P) w ad1 es.length (fun j => nv.getD j undef) (fun j hj => h2 j _ (by simp [List.getD_eq_getElem?_getD, hnl, hj]))
          rw [this]
          congr 2
          refine List.ext_getElem? fun j => ?_
          by_cases cj : j < ns.length
          · simp [hnv, hel, cj]
          · simp [hnv, hel, Nat.le_of_not_lt cj]
      simp only [execOp, hu, had, convert, run_underlying hS, run_underlying hT, run_underlying hE, Conv.bytesToString, Sem.run_bind, Result.andThen_ok, hload]
      rw [loop _ (fun _ _ => rfl) ns ByteArray.empty]
      simp only [Result.andThen_ok, Sem.run_pure]
      have : (ByteArray.empty.data ++ (ns.map fun n => UInt8.ofNat n.toNat).toArray) = (ns.map fun n => UInt8.ofNat n.toNat).toArray := by
        show (#[] : Array UInt8) ++ _ = _
        simp
      rw [this]
      rfl
end
end Go.Ab
