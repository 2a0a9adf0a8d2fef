/- The abstract machine: structs and slices that are built, rows that grow, pieces of texts and slices. Conditions: none but those that stand in each law. -/
import Derived.Test.YtfckeeglbhlnmaaAb5
namespace Go.Ab
open Go Go.RowKit

def AG.cells : AG → List DV
  | .d x => [x]
  | .agg cs => cs

/-- values that read as what is known of them -/
def VR (M : Nat → Nat → Prop) (w : World) (vals : Array Value) (ds : List (Option DV)) : Prop :=
  vals.size = ds.length ∧ ∀ (j : Nat) (d : DV), ds[j]? = some (some d) → ∃ u, vals[j]? = some u ∧ RD M w u d

def dfill (place : Nat → Option (Nat × Nat)) (cells : List (Option DV)) : List (Nat × AG) → Option (List (Option DV))
  | [] => some cells
  | (i, v) :: rest => match place i with
    | none => none
    | some (off, size) => bif !(Nat.beq v.cells.length size) || Nat.blt cells.length (off + size) then none
      else dfill place (cells.take off ++ v.cells.map some ++ cells.drop (off + size)) rest

theorem foldl_set (off : Nat) : ∀ (l : List Value) (s : Nat) (cells : Array Value),
    ((l.zipIdx s).foldl (fun cs (p : Value × Nat) => cs.setIfInBounds (off + p.2) p.1) cells).size = cells.size ∧
    ∀ j, j < cells.size → ((l.zipIdx s).foldl (fun cs (p : Value × Nat) => cs.setIfInBounds (off + p.2) p.1) cells)[j]? = if off + s ≤ j ∧ j < off + s + l.length then l[j - (off + s)]? else cells[j]?
  | [], s, cells => ⟨rfl, fun j _ => by rw [if_neg (fun c => by simp at c; omega)]; rfl⟩
  | v :: l, s, cells => by
    obtain ⟨h1, h2⟩ := foldl_set off l (s + 1) (cells.setIfInBounds (off + s) v)
    simp only [List.zipIdx_cons, List.foldl_cons]
    refine ⟨by rw [h1]; simp, fun j hj => ?_⟩
    rw [h2 j (by simpa using hj)]
    by_cases c : j = off + s
    · subst c
      rw [if_neg (by omega), if_pos (by simp)]
      simp [Array.getElem?_setIfInBounds, hj]
    · by_cases c2 : off + (s + 1) ≤ j ∧ j < off + (s + 1) + l.length
      · rw [if_pos c2, if_pos (by simp; omega)]
        rw [show j - (off + s) = (j - (off + (s + 1))) + 1 by omega]
        simp
      · rw [if_neg c2, if_neg (by simp; omega), Array.getElem?_setIfInBounds, if_neg (fun e => c e.symm)]

theorem fill_vr {M : Nat → Nat → Prop} {w : World} {place : Nat → Option (Nat × Nat)} : ∀ {parts : List (Nat × AG)} {vparts : List (Nat × Value)} {cells : List (Option DV)} {vals : Array Value} {ds : List (Option DV)},
    VR M w vals cells → vparts.length = parts.length → (∀ (i : Nat) (p : Nat × AG), parts[i]? = some p → ∃ u, vparts[i]? = some (p.1, u) ∧ GR M w u p.2) →
    dfill place cells parts = some ds → ∃ vals', Instr.fill place vals vparts = some vals' ∧ VR M w vals' ds
  | [], vparts, cells, vals, ds, hv, hl, _, h => by
    simp at hl; subst hl
    simp only [dfill, Option.some.injEq] at h; subst h
    exact ⟨vals, rfl, hv⟩
  | (i, g) :: parts, vparts, cells, vals, ds, hv, hl, hp, h => by
    obtain ⟨u, hu, hg⟩ := hp 0 (i, g) rfl
    cases vparts with
    | nil => simp at hl
    | cons q vparts =>
      simp at hu; subst hu
      simp only [dfill] at h
      cases hpl : place i with
      | none => rw [hpl] at h; simp at h
      | some os =>
        obtain ⟨off, size⟩ := os
        rw [hpl] at h
        simp only [cond_eq_ite] at h
        split at h
        · cases h
        · rename_i hc
          simp only [Bool.or_eq_true, Bool.not_eq_true', Nat.blt_eq, not_or, Bool.not_eq_false, Nat.not_lt] at hc
          obtain ⟨hc1, hc2⟩ := hc
          have hc1 := Nat.eq_of_beq_eq_true hc1
          have hcells : u.cells.size = size ∧ ∀ (j : Nat) (d : DV), g.cells[j]? = some d → ∃ x, u.cells[j]? = some x ∧ RD M w x d := by
            cases g with
            | d d =>
              have ho := RD.one hg
              have : u.cells = #[u] := by cases u <;> simp_all [Value.cells, Value.oneCell']
              rw [this]
              refine ⟨by simpa [AG.cells] using hc1, fun j d' hj => ?_⟩
              cases j with
              | zero => simp [AG.cells] at hj; subst hj; exact ⟨u, rfl, hg⟩
              | succ j => simp [AG.cells] at hj
            | agg cs =>
              obtain ⟨us, rfl, h1, h2⟩ := hg
              exact ⟨by simp only [Value.cells]; rw [h1]; exact hc1, h2⟩
          have hfs := foldl_set off u.cells.toList 0 vals
          have hvs := hv.1
          have hnext : VR M w (u.cells.zipIdx.foldl (fun cs (p : Value × Nat) => cs.setIfInBounds (off + p.2) p.1) vals) (cells.take off ++ g.cells.map some ++ cells.drop (off + size)) := by
            have e : u.cells.zipIdx.foldl (fun cs (p : Value × Nat) => cs.setIfInBounds (off + p.2) p.1) vals = (u.cells.toList.zipIdx 0).foldl (fun cs (p : Value × Nat) => cs.setIfInBounds (off + p.2) p.1) vals := by
              rw [← Array.foldl_toList, Array.toList_zipIdx]
            have hlen : (g.cells.map some).length = size := by simpa using hc1
            have hgc : g.cells.length = size := hc1
            rw [e]
            refine ⟨?_, fun j d hj => ?_⟩
            · rw [hfs.1, hvs]
              simp only [List.length_append, List.length_take, List.length_drop, List.length_map]
              omega
            · rw [← hlen, splice_get cells off (g.cells.map some) (by omega)] at hj
              have hjl : j < vals.size := by
                rw [hvs]
                by_cases c : off ≤ j ∧ j < off + (g.cells.map some).length
                · omega
                · rw [if_neg c] at hj
                  exact (List.getElem?_eq_some_iff.1 hj).1
              rw [hfs.2 j hjl]
              simp only [Nat.add_zero, Array.length_toList, hcells.1]
              rw [hlen] at hj
              split at hj
              · rename_i c
                rw [if_pos c]
                simp only [List.getElem?_map, Option.map_eq_some_iff, Option.some.injEq] at hj
                obtain ⟨d', hd', rfl⟩ := hj
                simpa using hcells.2 _ _ hd'
              · rename_i c
                rw [if_neg c]
                exact hv.2 j d hj
          obtain ⟨vals', hf, hv'⟩ := fill_vr hnext (by simpa using hl) (fun i' p hp' => hp (i' + 1) p (by simpa using hp')) h
          refine ⟨vals', ?_, hv'⟩
          have hb : ¬ (u.cells.size ≠ size ∨ off + u.cells.size > vals.size) := by rw [hcells.1, hvs]; omega
          simp only [Instr.fill, hpl]
          rw [if_neg (by simpa using hb)]
          exact hf

/-- the operands of a build -/
inductive EvP : List (Nat × Operand) → List (Nat × AG) → List (Nat × SV) → Prop
  | nil : EvP [] [] []
  | cons {i : Nat} {x : Operand} {g : AG} {R Rs : List (Nat × SV)} {xs : List (Nat × Operand)} {gs : List (Nat × AG)} (h : Ev x (.g g) R) (t : EvP xs gs Rs) : EvP ((i, x) :: xs) ((i, g) :: gs) (R ++ Rs)

theorem EvP.ok {P : Program} {nt : Nat} {C : Cx P nt} {sl : SL} {hp : HL} {β : Nat → Option Nat} {a : Act} {w : World} {xs : List (Nat × Operand)} {gs : List (Nat × AG)} {R : List (Nat × SV)}
    (hx : EvP xs gs R) (hs : HasS sl R) (r : RelB C ⟨sl, hp⟩ β a w) : xs.length = gs.length ∧ ∀ (i : Nat) (p : Nat × AG), gs[i]? = some p → ∃ u, (xs.map fun q => (q.1, a.eval q.2))[i]? = some (p.1, u) ∧ GR (Mu C hp β) w u p.2 := by
  induction hx with
  | nil => exact ⟨rfl, fun i p h => by simp at h⟩
  | cons h t ih =>
    obtain ⟨h1, h2⟩ := hs.app
    obtain ⟨h3, h4⟩ := ih h2
    refine ⟨by simp [h3], fun i p hi => ?_⟩
    cases i with
    | zero => simp at hi; subst hi; exact ⟨_, rfl, h.ok h1 r⟩
    | succ i => simpa using h4 i p (by simpa using hi)

def ZD : List Value → List DV → Prop
  | [], [] => True
  | v :: vs, d :: ds => ZC v (.g (.d d)) ∧ ZD vs ds
  | _, _ => False

theorem ZD.vr {M : Nat → Nat → Prop} {w : World} : ∀ {vs : List Value} {ds : List DV}, ZD vs ds → VR M w vs.toArray (ds.map some)
  | [], [], _ => ⟨rfl, fun j d h => by simp at h⟩
  | v :: vs, d :: ds, ⟨h1, h2⟩ => by
    obtain ⟨h3, h4⟩ := ZD.vr (M := M) (w := w) h2
    refine ⟨by simpa using h3, fun j d' hj => ?_⟩
    cases j with
    | zero =>
      simp at hj; subst hj
      refine ⟨v, by simp, ?_⟩
      generalize hc : BV.g (.d d) = c at h1
      cases h1 with
      | v x h => cases hc; exact RD.v v h
      | n size => cases hc; exact RD.nil none 0 size (Nat.zero_le _)
      | x v h => cases hc
    | succ j => simpa using h4 j d' (by simpa using hj)

def Places (P : Program) (fs : Array Field) (pl : Array (Nat × Nat)) : Prop := ∀ w, (fs.mapM fun f => do pure (f.offset, ← sizeOf f.type) : Sem (Array (Nat × Nat))).run P w = .ok pl w

section
variable {P : Program} {nt : Nat} {C : Cx P nt} {dst : Nat} {ty : TypeId} {pos : String} {af : Array Edge} {gd : Option (Nat × Bool)} {x y z : Operand} {R R1 R2 R3 : List (Nat × SV)}

theorem op_build {T : TypeId} {fs : Array Field} {zz : Value} {size bytes : Nat} {pl : Array (Nat × Nat)} {zs ds : List DV} {xs : List (Nat × Operand)} {gs : List (Nat × AG)}
    (hT : P.underlying T = some (.struct fs)) (hI : Info P T zz size bytes) (hpl : Places P fs pl) (hz : ZD zz.cells.toList zs)
    (hx : EvP xs gs R) (he : dfill (pl[·]?) (zs.map some) gs = some (ds.map some)) (hd : Nat.blt dst nt = true) :
    OpL C (Oo dst (.build T xs.toArray) ty pos af gd) R [] [(dst, .one (.g (.agg ds)))] [] :=
  opl_pure hd rfl fun sl hp β a w hs _ r => by
    obtain ⟨h1, h2⟩ := hx.ok hs r
    obtain ⟨vals, hf, hv⟩ := fill_vr (vparts := xs.map fun q => (q.1, a.eval q.2)) (ZD.vr (M := Mu C hp β) (w := w) hz) (by simpa using h1) h2 he
    refine ⟨.agg vals, ?_, vals, rfl, by simpa using hv.1, fun j d hj => hv.2 j d (by simp [hj])⟩
    have hpl' := hpl w
    have hf' : Instr.fill (fun x => pl[x]?) zz.cells (List.map (fun x => (x.fst, a.eval x.snd)) xs) = some vals := by simpa using hf
    simp only [execOp, Instr.build, Sem.run_bind, hI.zero, Result.andThen_ok, run_underlying hT, hpl', List.map_toArray, hf', Sem.run_pure]

/-- what leaves all blocks alone, and makes a value in a new world -/
theorem opl_below {P : Program} {nt : Nat} {C : Cx P nt} {o : Oper} {dst : Nat} {Rs : List (Nat × SV)} {Rh : List (Nat × Option HE)} {sv : SV} (hd : Nat.blt dst nt = true) (hdst : o.dst = some dst)
    (h : ∀ sl hp β a w, HasS sl Rs → HasH hp Rh → RelB C ⟨sl, hp⟩ β a w → ∃ v w', (execOp a.eval o).run P w = .ok (.value v) w' ∧ Below w.heap.size w w' ∧ SR C hp β w' sv v) :
    OpL C o Rs Rh [(dst, sv)] [] := by
  refine ⟨fun sl hp hs hh a w K Q ⟨β, r⟩ hK => ?_⟩
  obtain ⟨v, w', hv, hb, hr⟩ := h sl hp β a w hs hh r
  unfold Oper.wp
  rw [hv]
  refine hK _ _ ⟨β, ?_⟩
  rw [hdst]
  exact r.put hb (by simpa using hd) hr

theorem flatten_get {α : Type} (size : Nat) : ∀ (es : List (List α)), (∀ cs, cs ∈ es → cs.length = size) → ∀ i cs j d, es[i]? = some cs → cs[j]? = some d → es.flatten[i * size + j]? = some d
  | [], _, i, cs, j, d, h, _ => by simp at h
  | e :: es, hs, i, cs, j, d, hi, hj => by
    have he : e.length = size := hs e (by simp)
    cases i with
    | zero =>
      simp at hi; subst hi
      have : j < e.length := (List.getElem?_eq_some_iff.1 hj).1
      simp only [Nat.zero_mul, Nat.zero_add, List.flatten_cons, List.getElem?_append_left this]
      exact hj
    | succ i =>
      have := flatten_get size es (fun c hc => hs c (by simp [hc])) i cs j d (by simpa using hi) hj
      rw [List.flatten_cons, List.getElem?_append_right (by rw [he, Nat.succ_mul]; omega), he, Nat.succ_mul]
      rw [show i * size + size + j - size = i * size + j by omega]
      exact this

theorem below_new {M : Nat → Nat → Prop} {w : World} (hM : ∀ o, ¬ M w.heap.size o) {E size len : Nat} {vals : Array Value} {es : List (List DV)} (hl : es.length = len)
    (hcap : len ≤ maxLen) (hs : ∀ cs, cs ∈ es → cs.length = size) (hv : VR M w vals (es.flatten.map some)) : RD M (w.alloc (.cells vals E)) (.slice (some ⟨w.heap.size, 0, none⟩) len len) (.sl size es) := by
  subst hl
  have key : ∀ i cs j d, es[i]? = some cs → cs[j]? = some d → ∃ u, vals[i * size + j]? = some u ∧ RD M w u d := fun i cs j d hi hj => by
    refine hv.2 _ d ?_
    rw [List.getElem?_map, flatten_get size es hs i cs j d hi hj]; rfl
  refine RD.sl _ _ size es (fun i j => vals.getD (i * size + j) undef) w.heap.size 0 (Nat.le_refl _) hcap (fun _ => rfl) hs (fun i cs j d hi hj => ?_) (fun i cs j d hi hj => ?_)
  · obtain ⟨u, h1, _⟩ := key i cs j d hi hj
    refine ⟨?_, hM _⟩
    rw [cell_of_row _ _ _ vals E (0, 0) (heap_alloc_new w _)]
    simp [h1]
  · obtain ⟨u, h1, h2⟩ := key i cs j d hi hj
    have e : vals.getD (i * size + j) undef = u := by simp [h1]
    show RD M (w.alloc (.cells vals E)) (vals.getD (i * size + j) undef) d
    rw [e]
    exact h2.mono (below_kept (below_alloc w _))

theorem op_buildSlice {T E : TypeId} {zz : Value} {size bytes len : Nat} {es : List (List DV)} {xs : List (Nat × Operand)} {gs : List (Nat × AG)}
    (hT : P.underlying T = some (.slice E)) (hI : Info P E zz size bytes) (hbig : Nat.ble (len * size) 16777216 = true) (hlen : Nat.ble len 16777216 = true)
    (hx : EvP xs gs R) (he : dfill (fun i => some (i * size, size)) (List.replicate (len * size) none) gs = some (es.flatten.map some)) (hel : Nat.beq es.length len = true) (hes : ∀ cs, cs ∈ es → cs.length = size) (hd : Nat.blt dst nt = true) :
    OpL C (Oo dst (.buildSlice T len xs.toArray) ty pos af gd) R [] [(dst, .one (.g (.d (.sl size es))))] [] :=
  opl_below hd rfl fun sl hp β a w hs _ r => by
    have hel := Nat.eq_of_beq_eq_true hel
    have hbig' : ¬ (16777216 < len * size) := by simp at hbig; omega
    obtain ⟨h1, h2⟩ := hx.ok hs r
    generalize hz0 : (if len * size = 0 then (#[] : Array Value) else zz.cells) = z0
    have hvr0 : VR (Mu C hp β) w ((Array.range (len * size)).map (z0[· % z0.size]!)) (List.replicate (len * size) none) := ⟨by simp, fun j d hj => by rw [List.getElem?_replicate] at hj; split at hj <;> simp at hj⟩
    obtain ⟨vals, hf, hv⟩ := fill_vr (vparts := xs.map fun q => (q.1, a.eval q.2)) hvr0 (by simpa using h1) h2 he
    refine ⟨.slice (some ⟨w.heap.size, 0, none⟩) len len, w.alloc (.cells vals E), ?_, below_alloc w _, ?_⟩
    · simp only [execOp, Instr.buildSlice, Sem.run_bind, run_underlying hT, Result.andThen_ok, hI.sizeOf]
      rw [if_neg (by simpa using hbig')]
      by_cases h0 : len * size = 0
      · rw [if_pos h0] at hz0
        subst hz0
        rw [if_pos h0]
        simp only [Sem.run_bind, Sem.run_pure, Result.andThen_ok, List.map_toArray, hf, newRow, run_newObj]
        rfl
      · rw [if_neg h0] at hz0
        subst hz0
        rw [if_neg h0]
        simp only [Sem.run_bind, Sem.run_pure, Result.andThen_ok, hI.zero, List.map_toArray, hf, newRow, run_newObj]
        rfl
    · refine below_new (fun o c => ?_) hel (by simp at hlen; unfold maxLen; omega) hes hv
      exact Nat.lt_irrefl _ (r.mut_lt c)

end
end Go.Ab
