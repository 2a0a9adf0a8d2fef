/- pins.All and pins.Of: an iterator over pins, ranged over as a function, walked by hand. Conditions: none but those that stand in each law. -/
import Derived.Test.YtimnigdjffpnbaaFpins
import Derived.Test.YtimnigdjffpnbaaAbB
import Derived.RangeFuncNested
import Derived.RangeFuncBound
import Derived.RangeFuncCalls
import Derived.RangeFuncLeaves
import Derived.RangeFuncBox
import Derived.Shelf.Abstract
import Derived.WalkKit
import Derived.OwnWalkIn
import Derived.TacticsInMore
import Derived.LoopNIn
import Derived.LoopIn
import Derived.Maps.AppendAt
import Derived.Test.YtimnigdjffpnbaaProg
import Derived.KernelRfl
import Derived.WalkMore
namespace Go.Ark.HP
open Go Go.Ab Go.RowKit Go.Lib Go.Proofs Go.Shelf
attribute [local go_sem] Oper.semAt_some

/-- a dep as a value -/
def depV (d : Api_Dep) : Value := .agg #[.string d.Key, .int .i64 d.Stamp.N, .int .i64 d.Stamp.Site]
def DepsAt (n₀ : Nat) (W : World) (v : Value) (ds : List Api_Dep) : Prop :=
  ∃ a b o cap, v = .slice a ds.length cap ∧ ds.length ≤ 9223372036854775807 ∧ (ds ≠ [] → a = some ⟨b, o, none⟩ ∧ b < n₀) ∧
    ∀ j d, ds[j]? = some d → W.cell? ⟨b, o + j * 3, none⟩ = some (.string d.Key) ∧ W.cell? ⟨b, o + j * 3 + 1, none⟩ = some (.int .i64 d.Stamp.N) ∧ W.cell? ⟨b, o + j * 3 + 2, none⟩ = some (.int .i64 d.Stamp.Site)
def PinsAt (n₀ : Nat) (W : World) (v : Value) (l : List Api_Pin) : Prop :=
  ∃ a b o cap, v = .slice a l.length cap ∧ l.length ≤ 9223372036854775807 ∧ (l ≠ [] → a = some ⟨b, o, none⟩ ∧ b < n₀) ∧
    ∀ j p, l[j]? = some p → W.cell? ⟨b, o + j * 2, none⟩ = some (.int .i64 p.ID) ∧ ∃ u, W.cell? ⟨b, o + j * 2 + 1, none⟩ = some u ∧ DepsAt n₀ W u p.Deps
theorem nonnil {α : Type} {l : List α} {j : Nat} {d : α} (h : l[j]? = some d) : l ≠ [] := fun e => by simp [e] at h
theorem DepsAt.below {n₀ : Nat} {A B : World} (h : Below n₀ A B) {v : Value} {ds : List Api_Dep} : DepsAt n₀ A v ds → DepsAt n₀ B v ds
  | ⟨a, b, o, cap, h1, h2, h3, h4⟩ => ⟨a, b, o, cap, h1, h2, h3, fun j d hj => by
    obtain ⟨c1, c2, c3⟩ := h4 j d hj
    have hb := (h3 (nonnil hj)).2
    exact ⟨(h.cell (p := ⟨b, o + j * 3, none⟩) hb).trans c1, (h.cell (p := ⟨b, o + j * 3 + 1, none⟩) hb).trans c2, (h.cell (p := ⟨b, o + j * 3 + 2, none⟩) hb).trans c3⟩⟩
theorem PinsAt.below {n₀ : Nat} {A B : World} (h : Below n₀ A B) {v : Value} {l : List Api_Pin} : PinsAt n₀ A v l → PinsAt n₀ B v l
  | ⟨a, b, o, cap, h1, h2, h3, h4⟩ => ⟨a, b, o, cap, h1, h2, h3, fun j p hj => by
    obtain ⟨c1, u, c2, c3⟩ := h4 j p hj
    have hb := (h3 (nonnil hj)).2
    exact ⟨(h.cell (p := ⟨b, o + j * 2, none⟩) hb).trans c1, u, (h.cell (p := ⟨b, o + j * 2 + 1, none⟩) hb).trans c2, c3.below h⟩⟩
theorem RD.deps {M : Nat → Nat → Prop} {w : World} {u : Value} {ds : List Api_Dep} (h : RD M w u (.sl 3 (List.map encApi_Dep ds))) : DepsAt w.heap.size w u ds := by
  generalize he : List.map encApi_Dep ds = es at h
  cases h with
  | sl a cap size es vals b o hc hm ha hs hv hr =>
    subst he
    have hne : ds ≠ [] → List.map encApi_Dep ds ≠ [] := fun h e => h (by simpa using e)
    have hml : maxLen = 9223372036854775807 := rfl
    refine ⟨a, b, o, cap, by simp, by simp at hc; omega, fun h => ⟨ha (hne h), ?_⟩, fun j d hj => ?_⟩
    · obtain ⟨d, hd⟩ : ∃ d, ds[0]? = some d := by cases ds with | nil => exact absurd rfl h | cons x l => exact ⟨x, rfl⟩
      have := (hv 0 (encApi_Dep d) 0 _ (by simp [hd]) rfl).1
      exact cell_lt this
    · have hg : (List.map encApi_Dep ds)[j]? = some (encApi_Dep d) := by simp [hj]
      have f : ∀ k x, (encApi_Dep d)[k]? = some (.v x) → w.cell? ⟨b, o + (j * 3 + k), none⟩ = some x := fun k x hk => by
        have h1 := (hv j _ k _ hg hk).1
        have h2 := hr j _ k _ hg hk
        rw [RD.v_inv h2] at h1
        exact h1
      refine ⟨?_, ?_, ?_⟩
      · have := f 0 _ rfl; exact this
      · have := f 1 _ rfl; rwa [← Nat.add_assoc] at this
      · have := f 2 _ rfl; rwa [← Nat.add_assoc] at this
theorem RD.pins {M : Nat → Nat → Prop} {w : World} {u : Value} {l : List Api_Pin} (h : RD M w u (.sl 2 (List.map encApi_Pin l))) : PinsAt w.heap.size w u l := by
  generalize he : List.map encApi_Pin l = es at h
  cases h with
  | sl a cap size es vals b o hc hm ha hs hv hr =>
    subst he
    have hne : l ≠ [] → List.map encApi_Pin l ≠ [] := fun h e => h (by simpa using e)
    have hml : maxLen = 9223372036854775807 := rfl
    refine ⟨a, b, o, cap, by simp, by simp at hc; omega, fun h => ⟨ha (hne h), ?_⟩, fun j p hj => ?_⟩
    · obtain ⟨d, hd⟩ : ∃ d, l[0]? = some d := by cases l with | nil => exact absurd rfl h | cons x l => exact ⟨x, rfl⟩
      have := (hv 0 (encApi_Pin d) 0 _ (by simp [hd]) rfl).1
      exact cell_lt this
    · have hg : (List.map encApi_Pin l)[j]? = some (encApi_Pin p) := by simp [hj]
      refine ⟨?_, vals j 1, ?_, ?_⟩
      · have h1 := (hv j _ 0 _ hg rfl).1
        rw [RD.v_inv (hr j _ 0 _ hg rfl)] at h1
        exact h1
      · have h1 := (hv j _ 1 _ hg rfl).1
        rwa [← Nat.add_assoc] at h1
      · exact RD.deps (hr j _ 1 _ hg rfl)
theorem flatP_take {l : List Api_Pin} {i : Nat} {p : Api_Pin} (h : l[i]? = some p) : flatP (l.take (i + 1)) = flatP (l.take i) ++ p.Deps := by
  unfold flatP
  obtain ⟨hi, e⟩ := List.getElem?_eq_some_iff.1 h
  rw [List.take_add_one, h]
  simp
theorem flatP_pre {l : List Api_Pin} {i : Nat} {p : Api_Pin} {j : Nat} {d : Api_Dep} (h : l[i]? = some p) (hj : p.Deps[j]? = some d) : (flatP (l.take i) ++ p.Deps.take j).length < (flatP l).length := by
  have h1 : flatP l = flatP (l.take (i + 1)) ++ flatP (l.drop (i + 1)) := by
    unfold flatP
    rw [← List.flatMap_append, List.take_append_drop]
  have h2 := (List.getElem?_eq_some_iff.1 hj).1
  rw [h1, flatP_take h]
  simp
  omega
theorem take_snoc {α : Type} {l : List α} {j : Nat} {d : α} (h : l[j]? = some d) : l.take (j + 1) = l.take j ++ [d] := by
  rw [List.take_add_one, h]; rfl
/-- a new block, written whatever: all that lay lies as it lay -/
theorem grown_fresh {W W' : World} (h1 : Below W.heap.size W W') : W.grownBy W' none := ⟨h1.os, h1.tape, h1.output, h1.size, fun k hk _ => h1.block k hk⟩

set_option maxRecDepth 100000 in
set_option maxHeartbeats 4000000 in
theorem deps1_in (F : Fence) (n : Nat) (h35 : F.fn 35) (hro : F.round = none) (hn : 1 ≤ n) (lp Bs n₀ : Nat) (sv : Value) (l : List Api_Pin) (J Jx : List Api_Dep → World → Prop)
    (W : World) (hn₀ : n₀ ≤ W.heap.size) (hJa : AbidesFrom W.heap.size J)
    (hY : ∀ pre x W, J pre W → pre.length < (flatP l).length → YieldAt F (n - 1) Try.prog lp #[depV x] W fun e W' =>
      (e = .returned (.bool true) ∧ J (pre ++ [x]) W' ∧ Below n₀ W W') ∨ (e = .returned (.bool false) ∧ Jx (pre ++ [x]) W'))
    (hBs : W.cell? ⟨Bs, 0, none⟩ = some sv) (hc : PinsAt n₀ W sv l) (h0 : J [] W) :
    CallsIn F n Try.prog 35 #[.func (.yield lp) #[] #[], .pointer (some ⟨Bs, 0, none⟩)] W fun e W' => (∃ v, e = .returned v) ∧
      ((∃ ys, ys = flatP l ∧ J ys W') ∨ (∃ pre, True ∧ Jx pre W')) := by
  obtain ⟨a, b, o, cap, rfl, hlm, hne, hcells⟩ := hc
  refine callsIn_of_wp Try.func35 rfl h35 ?_ hro
  simp only [Try.ntmps35, List.size_toArray, List.length_cons, List.length_nil, Nat.reduceAdd, Nat.reduceSub, Array.replicate_succ, Array.replicate_zero, List.push_toArray, List.append_toArray, List.nil_append, List.cons_append]
  gi_wp2
  gi_loopw [9] (fun i wr => ∃ k : Nat, k ≤ l.length ∧ i = .int .i64 k ∧ J (flatP (l.take k)) wr ∧ Below n₀ W wr)
    (fun i _ => l.length - (RowKit.intOf i).toNat)
  case atStart => exact ⟨0, Nat.zero_le _, rfl, h0, Below.refl _ _⟩
  case round =>
    obtain ⟨k, hk, rfl, hJs, hnx⟩ := hrel
    by_cases hlt : k < l.length
    · obtain ⟨p, hp⟩ : ∃ p, l[k]? = some p := ⟨_, List.getElem?_eq_getElem hlt⟩
      obtain ⟨rfl, hb⟩ := hne (nonnil hp)
      obtain ⟨c1, u, c2, hds⟩ := hcells k p hp
      have d1 := (hnx.cell (p := ⟨b, o + k * 2, none⟩) hb).trans c1
      have d2 := (hnx.cell (p := ⟨b, o + k * 2 + 1, none⟩) hb).trans c2
      obtain ⟨a2, b2, o2, cap2, rfl, hlm2, hne2, hcells2⟩ := hds
      gi_wp2
      gi_loopw [16] (fun i wq => ∃ j : Nat, j ≤ p.Deps.length ∧ i = .int .i64 j ∧ J (flatP (l.take k) ++ p.Deps.take j) wq ∧ Below n₀ W wq)
        (fun i _ => p.Deps.length - (RowKit.intOf i).toNat)
      case atStart =>
        have hB : Below wr.heap.size wr (wr.alloc (Obj.cells #[Value.int IntKind.i64 p.ID, Value.slice a2 p.Deps.length cap2] 29)) := (Below.refl _ wr).alloc (Nat.le_refl _) _
        refine ⟨0, Nat.zero_le _, rfl, ?_, ?_⟩
        · rw [List.take_zero, List.append_nil]
          exact hJa _ wr _ none hJs (grown_fresh hB) (fun r e => by cases e)
        · exact hnx.trans (hB.mono (Nat.le_trans hn₀ hnx.size))
      case round =>
        obtain ⟨j, hj, rfl, hJs2, hnx2⟩ := hrel
        by_cases hlt2 : j < p.Deps.length
        · obtain ⟨d, hd⟩ : ∃ d, p.Deps[j]? = some d := ⟨_, List.getElem?_eq_getElem hlt2⟩
          obtain ⟨rfl, hb2⟩ := hne2 (nonnil hd)
          obtain ⟨e1, e2, e3⟩ := hcells2 j d hd
          replace e1 := (hnx2.cell (p := ⟨b2, o2 + j * 3, none⟩) hb2).trans e1
          replace e2 := (hnx2.cell (p := ⟨b2, o2 + j * 3 + 1, none⟩) hb2).trans e2
          replace e3 := (hnx2.cell (p := ⟨b2, o2 + j * 3 + 2, none⟩) hb2).trans e3
          have hB : Below wr.heap.size wr (wr.alloc (Obj.cells #[Value.string d.Key, .int .i64 d.Stamp.N, .int .i64 d.Stamp.Site] 44)) := (Below.refl _ wr).alloc (Nat.le_refl _) _
          have hB2 := hnx2.trans (hB.mono (Nat.le_trans hn₀ hnx2.size))
          obtain ⟨fn, tmps, assign, body, hy, hR⟩ := hY _ d _ (hJa _ wr _ none hJs2 (grown_fresh hB) (fun r e => by cases e)) (flatP_pre hp hd)
          unfold depV at hy
          gi_wp2
          refine hR.mono ?_
          rintro e W3 (⟨rfl, hJ3, hk3⟩ | ⟨rfl, hJx3⟩)
          · gi_wp2
            exact ⟨⟨j + 1, by omega, by simp, by rw [take_snoc hd, ← List.append_assoc]; exact hJ3, hB2.trans hk3⟩, by simp [RowKit.intOf]; omega⟩
          · gi_wp2
            refine bodyPost_ret (results_none rfl _ _ _) rfl ?_
            exact ⟨⟨_, rfl⟩, .inr ⟨_, trivial, hJx3⟩⟩
        · obtain rfl : j = p.Deps.length := by omega
          gi_wp2
          exact ⟨⟨k + 1, by omega, by simp, by rw [flatP_take hp]; rw [List.take_length] at hJs2; exact hJs2, hnx2⟩, by simp [RowKit.intOf]; omega⟩
    · obtain rfl : k = l.length := by omega
      gi_wp2
      go_end0
      exact ⟨⟨_, rfl⟩, .inl ⟨_, rfl, by rw [List.take_length] at hJs; exact hJs⟩⟩

set_option maxHeartbeats 1000000 in
theorem deps_in (F : Fence) (n : Nat) (h28 : F.fn 28) (hro : F.round = none) (a : Option Addr) (len cap : Nat) (w : World) :
    CallsIn F n Try.prog 28 #[.slice a len cap] w fun e w' => e = .returned (.func (.func 35) #[] #[.pointer (some ⟨w.heap.size, 0, none⟩)]) ∧ w' = w.alloc (.cells #[.slice a len cap] 23) := by
  refine callsIn_of_wp Try.func28 rfl h28 ?_ hro
  simp only [Try.ntmps28, List.size_toArray, List.length_cons, List.length_nil, Nat.reduceAdd, Nat.reduceSub, Array.replicate_succ, Array.replicate_zero, List.push_toArray, List.append_toArray, List.nil_append, List.cons_append]
  gi_wp2
  go_ret
  exact ⟨rfl, rfl⟩

theorem deps_stops (F : Fence) (n : Nat) (h35 : F.fn 35) (hro : F.round = none) (hn : 1 ≤ n) (Bs n₀ : Nat) (sv : Value) (l : List Api_Pin) (w : World) (hBs : Bs < w.heap.size) (hn₀ : n₀ ≤ w.heap.size)
    (hc : w.cell? ⟨Bs, 0, none⟩ = some sv) (hI : PinsAt n₀ w sv l) :
    SeqStopsK F n Try.prog 35 #[.pointer (some ⟨Bs, 0, none⟩)] (fun x : Api_Dep => #[depV x]) (Below n₀) (fun ys => ys = flatP l) (fun _ => True) (flatP l).length w := fun lp J Jx W hW hJ _ hY h0 =>
  deps1_in F n h35 hro hn lp Bs n₀ sv l J Jx W (Nat.le_trans hn₀ hW.size) hJ hY ((hW.cell (p := ⟨Bs, 0, none⟩) hBs).trans hc) (hI.below (hW.mono hn₀)) h0
theorem DepsAt.le {n₀ n₁ : Nat} (h : n₀ ≤ n₁) {A : World} {v : Value} {ds : List Api_Dep} : DepsAt n₀ A v ds → DepsAt n₁ A v ds
  | ⟨a, b, o, cap, h1, h2, h3, h4⟩ => ⟨a, b, o, cap, h1, h2, fun c => ⟨(h3 c).1, Nat.lt_of_lt_of_le (h3 c).2 h⟩, h4⟩
theorem PinsAt.le {n₀ n₁ : Nat} (h : n₀ ≤ n₁) {A : World} {v : Value} {l : List Api_Pin} : PinsAt n₀ A v l → PinsAt n₁ A v l
  | ⟨a, b, o, cap, h1, h2, h3, h4⟩ => ⟨a, b, o, cap, h1, h2, fun c => ⟨(h3 c).1, Nat.lt_of_lt_of_le (h3 c).2 h⟩, fun j p hj => by
    obtain ⟨c1, u, c2, c3⟩ := h4 j p hj
    exact ⟨c1, u, c2, c3.le h⟩⟩

def depC (d : Api_Dep) : List Value := [.string d.Key, .int .i64 d.Stamp.N, .int .i64 d.Stamp.Site]
theorem depC_snoc (pre : List Api_Dep) (x : Api_Dep) : (pre ++ [x]).flatMap depC = pre.flatMap depC ++ depC x := by simp
theorem infoDep : (Try.prog.info? 44).map (fun i => (i.zero, i.size, i.bytes)) = some (some (.agg #[.string ByteArray.empty, .int .i64 0, .int .i64 0]), 3, 32) := by kernel_rfl
theorem cells_new3 (w : World) (x y z : Value) (t : TypeId) : ∀ j u, [x, y, z][j]? = some u → (w.alloc (.cells #[x, y, z] t)).cell? ((⟨w.heap.size, 0, none⟩ : Addr).add j) = some u := by
  intro j u hj
  have h : (w.alloc (.cells #[x, y, z] t)).heap[w.heap.size]? = some (.cells #[x, y, z] t (0, 0)) := World.alloc_heap_new w _
  rw [Addr.add_lit]
  simp only [World.cell?, h]
  rw [← hj]
  simp

set_option maxRecDepth 100000 in
set_option maxHeartbeats 4000000 in
theorem apseq_in (F : Fence) (n : Nat) (h34 : F.fn 34) (h35 : F.fn 35) (hro : F.round = none) (hn : 3 ≤ n) (Bs : Nat) (sv : Value) (l : List Api_Pin) (hmax : (flatP l).length ≤ 1000000) (w : World) (hBl : Bs < w.heap.size) (hBs : w.cell? ⟨Bs, 0, none⟩ = some sv) (hI : PinsAt w.heap.size w sv l) :
    CallsIn F n Try.prog 34 #[.slice none 0 0, .func (.func 35) #[] #[.pointer (some ⟨Bs, 0, none⟩)]] w fun e W' => ∃ v, e = .returned v ∧ W'.ownsRow w.heap.size 44 3 v (flatP l).length ((flatP l).flatMap depC) ∧ Below w.heap.size w W' := by
  have h1 : 1 ≤ n := by omega
  have hml : maxLen = 9223372036854775807 := rfl
  obtain ⟨i0, hi, hz0, hz1, hz2⟩ := info_parts infoDep
  refine callsIn_of_wp_marks Try.func34 rfl h34 ?_ hro
  simp only [Try.ntmps34, List.size_toArray, List.length_cons, List.length_nil, Nat.reduceAdd, Nat.reduceSub, Array.replicate_succ, Array.replicate_zero, List.push_toArray, List.append_toArray, List.nil_append, List.cons_append]
  gi_wp2
  have bO := Boxed.new w 27 (.slice none 0 0)
  have hB0 : Below w.heap.size w (w.alloc (.cells #[.slice none 0 0] 27)) := (Below.refl _ w).alloc (Nat.le_refl _) _
  refine wpIn_rangeFunc_ownH hro h1 (gf := 35) (lb := #[.pointer (some ⟨Bs, 0, none⟩)]) rfl h35 (enters_of Try.func35 (by kernel_rfl) rfl)
    (deps_stops F (n - 1) h35 hro (by omega) Bs w.heap.size sv l (w.alloc (.cells #[.slice none 0 0] 27)) (by simp; omega) (by simp) ((hB0.cell (p := ⟨Bs, 0, none⟩) hBl).trans hBs) (hI.below hB0)) belowK_t (belowK_b (by simp)) (Below.refl _ _) (fun _ => rfl)
    (fun (pre : List Api_Dep) W => (∃ v, Boxed W w.heap.size 27 v ∧ W.ownsRow w.heap.size 44 3 v pre.length (pre.flatMap depC) ∧ True) ∧ Below w.heap.size w W)
    (fun _ _ _ => False)
    (OwnFrom.and (Own.from (holdsRow_own w.heap.size w.heap.size 27 44 3 (fun pre : List Api_Dep => pre.length) (fun pre => pre.flatMap depC) (fun _ _ => True)) _) (ownFrom_below (Nat.le_refl _) (by simp)))
    (fun _ _ _ _ _ hs _ _ => hs)
    ⟨⟨_, bO, World.ownsRow_nil _ _ _ _, trivial⟩, hB0⟩
    (fun x a' W => ∃ Bx, w.heap.size < Bx ∧ W.heap[Bx]? = some (.cells #[.string x.Key, .int .i64 x.Stamp.N, .int .i64 x.Stamp.Site] 44 (0, 0)) ∧ a' = { tmps := #[.slice none 0 0, .func (.func 35) #[] #[.pointer (some ⟨Bs, 0, none⟩)], .pointer (some ⟨w.heap.size, 0, none⟩), undef, .slice none 0 0, .pointer (some ⟨Bx, 0, none⟩), .func (.func 35) #[] #[.pointer (some ⟨Bs, 0, none⟩)], depV x, undef, undef, undef, undef, undef], defers := [] })
    (fun x a' _ X Y row hs hg hr => by
      obtain ⟨Bx, h1, h2, h3⟩ := hs
      refine ⟨Bx, h1, (hg.block Bx (Array.getElem?_eq_some_iff.1 h2).1 (fun e => ?_)).trans h2, h3⟩
      obtain ⟨_, o, ho, hc⟩ := hr Bx e.symm
      rw [h2] at ho; cases ho; cases hc)
    ?assign ?body ?done ?stop
  case assign =>
    rintro lp pre x W K ⟨⟨v, bv, rv, -⟩, hB⟩ hK
    unfold depV at hK ⊢
    gi_wp2
    have hA := (Below.refl w.heap.size W).alloc hB.size (.cells #[.string x.Key, .int .i64 x.Stamp.N, .int .i64 x.Stamp.Site] 44)
    exact hK _ _ ((KeepsOthers.alloc _ _).from _) hA ⟨⟨v, bv.alloc _, rv.alloc _, trivial⟩, hB.trans hA⟩ ⟨W.heap.size, bv.lt, World.alloc_heap_new W _, rfl⟩
  case body =>
    rintro lp pre x a' W hl hr ⟨⟨v, bv, rv, -⟩, hB⟩ ⟨Bx, hBx, hX, rfl⟩ hlt
    have hc := bv.cell
    have x0 : W.cell? ⟨Bx, 0, none⟩ = some (.string x.Key) := by simp [World.cell?, hX]
    have x1 : W.cell? ⟨Bx, 1, none⟩ = some (.int .i64 x.Stamp.N) := by simp [World.cell?, hX]
    have x2 : W.cell? ⟨Bx, 2, none⟩ = some (.int .i64 x.Stamp.Site) := by simp [World.cell?, hX]
    gi_wp2_with (gi_at_builtin; refine wpListIn_append_own _ rfl _ _ 27 rfl w.heap.size 44 i0 (.agg #[.string ByteArray.empty, .int .i64 0, .int .i64 0]) 3 32 Try.underlying27 hi hz0 hz1 hz2 rfl (by decide) _ _ _ rfl (rv.alloc _) ⟨W.heap.size, 0, none⟩ 1 1 (depC x) rfl rfl (cells_new3 _ _ _ _ _) (by simp [Value.oneCell', depC]) (by omega) (by omega) (by have := hB.size; simp; omega) ?_; intro v' w1 hown' hgrow _; obtain ⟨g', cap', rfl⟩ := ownsRow_succ hown'; obtain ⟨hv1, hv2, hr2, hk2, hb2⟩ := bv.appended (by decide) rv hB.size (Nat.le_refl _) hown' hgrow; have hc1 := hv1.cell; have hf1 := hv1.frozen)
    exact ⟨hk2.from _, hb2, ⟨_, hv2, by rw [depC_snoc]; simpa using hr2, trivial⟩, hB.trans hb2⟩
  case done =>
    rintro D ys W hD rfl ⟨⟨v, bv, rv, -⟩, hB⟩ hK
    have hc := bv.cell
    gi_wp2
    refine ⟨by simp, .inl ⟨_, _, rfl, run_takeDeferred hK, ?_⟩⟩
    exact ⟨_, results_tmp rfl _ _ _, v, rfl, ownsRow_putObj rv _ hK rfl, hB.trans (belowK_b (w := w) (Nat.le_refl _) W D _ _ (by simp at hD; omega) hK rfl rfl)⟩
  case stop =>
    rintro D c pre W _ _ h _
    exact h.elim
set_option maxRecDepth 100000 in
set_option maxHeartbeats 4000000 in
theorem collect_in (F : Fence) (n : Nat) (h27 : F.fn 27) (h34 : F.fn 34) (h35 : F.fn 35) (hro : F.round = none) (hn : 4 ≤ n) (Bs : Nat) (sv : Value) (l : List Api_Pin) (hmax : (flatP l).length ≤ 1000000) (w : World) (hBl : Bs < w.heap.size) (hBs : w.cell? ⟨Bs, 0, none⟩ = some sv) (hI : PinsAt w.heap.size w sv l) :
    CallsIn F n Try.prog 27 #[.func (.func 35) #[] #[.pointer (some ⟨Bs, 0, none⟩)]] w fun e W' => ∃ v, e = .returned v ∧ W'.ownsRow w.heap.size 44 3 v (flatP l).length ((flatP l).flatMap depC) ∧ Below w.heap.size w W' := by
  have h1 : 1 ≤ n := by omega
  refine callsIn_of_wp Try.func27 rfl h27 ?_ hro
  simp only [Try.ntmps27, List.size_toArray, List.length_cons, List.length_nil, Nat.reduceAdd, Nat.reduceSub, Array.replicate_succ, Array.replicate_zero, List.push_toArray, List.append_toArray, List.nil_append, List.cons_append]
  gi_wp2_with (gi_at_call 34; refine (apseq_in F (n - 1) h34 h35 hro (by omega) Bs sv l hmax w hBl hBs hI).mono ?_; rintro e w' ⟨v, rfl, hv1, hv2⟩)
  go_ret
  exact ⟨_, rfl, hv1, hv2⟩

set_option maxRecDepth 100000 in
set_option maxHeartbeats 4000000 in
theorem all_in (F : Fence) (n : Nat) (h16 : F.fn 16) (h28 : F.fn 28) (h27 : F.fn 27) (h34 : F.fn 34) (h35 : F.fn 35) (hro : F.round = none) (hn : 5 ≤ n) (a : Option Addr) (len cap : Nat) (l : List Api_Pin) (hmax : (flatP l).length ≤ 1000000) (w : World) (hI : PinsAt w.heap.size w (.slice a len cap) l) :
    CallsIn F n Try.prog 16 #[.slice a len cap] w fun e W' => ∃ v, e = .returned v ∧ W'.ownsRow (w.heap.size + 1) 44 3 v (flatP l).length ((flatP l).flatMap depC) ∧ Below w.heap.size w W' := by
  have h1 : 1 ≤ n := by omega
  have bN := Boxed.new w 23 (.slice a len cap)
  have hB0 : Below w.heap.size w (w.alloc (.cells #[.slice a len cap] 23)) := (Below.refl _ w).alloc (Nat.le_refl _) _
  refine callsIn_of_wp Try.func16 rfl h16 ?_ hro
  simp only [Try.ntmps16, List.size_toArray, List.length_cons, List.length_nil, Nat.reduceAdd, Nat.reduceSub, Array.replicate_succ, Array.replicate_zero, List.push_toArray, List.append_toArray, List.nil_append, List.cons_append]
  gi_wp2_with first
    | (gi_at_call 28; refine (deps_in F (n - 1) h28 hro _ _ _ _).mono ?_; rintro e w' ⟨rfl, rfl⟩)
    | (gi_at_call 27; refine (collect_in F (n - 1) h27 h34 h35 hro (by omega) w.heap.size _ l hmax _ (by simp) bN.cell ((hI.below hB0).le (by simp))).mono ?_; rintro e w' ⟨v, rfl, hv1, hv2⟩)
  go_ret
  refine ⟨_, rfl, ?_, hB0.trans (hv2.mono (by simp))⟩
  rw [World.size_alloc] at hv1
  exact hv1
theorem stepR_scope {P : Program} {b : Frame} {a : Act} {k : List Item} {cs : List Frame} {w : World} {c : Code} : step P (lone (b.atR a (.code (.scope c) :: k)) cs w) = .next (lone (b.atR a (.code c :: .inScope c :: k)) cs w) :=
  step_lone_go (by simp [stepG, stepG.exec, Frame.atR])
theorem stepR_inScope {P : Program} {b : Frame} {a : Act} {k : List Item} {cs : List Frame} {w : World} {c : Code} : step P (lone (b.atR a (.inScope c :: k)) cs w) = .next (lone (b.atR a k) cs w) :=
  step_lone_go (by simp [stepG, stepG.exec, Frame.atR])
/-- a scope through which the run goes without a goto, inside a fence -/
theorem wpIn_scope_straight {F : Fence} {n : Nat} {P : Program} {c : Code} {Q : Exit → Act → World → Prop} {a : Act} {w : World} (h : c.wpIn F n P (Exit.noGoto Q) a w) : (Code.scope c).wpIn F n P Q a w := by
  intro b k cs hro hb hr
  have h0 : (lone (b.atR a (.code (.scope c) :: k)) cs w).fenced P F := fenced_calm hb hr rfl
  obtain ⟨e, a₁, w₁, hq, harr⟩ := h b (.inScope c :: k) cs hro hb hr
  cases e with
  | normal => exact ⟨.normal, a₁, w₁, hq, .head h0 stepR_scope (StepsIn.trans harr (.one (fenced_calm hb hr rfl) stepR_inScope))⟩
  | exit id => exact ⟨.exit id, a₁, w₁, hq, fun k' hk => .head h0 stepR_scope (harr.1 k' (by simp [exitTo, hk])), fun hr' hk => let ⟨k₁, h1, h2⟩ := harr.2 hr' (by simp [exitTo, hk]); ⟨k₁, h1, .head h0 stepR_scope h2⟩⟩
  | goto l => exact hq.elim
  | ret => exact ⟨_, a₁, w₁, hq, .of_steps (.one h0 stepR_scope) harr⟩
  | panic ch => exact ⟨_, a₁, w₁, hq, .of_steps (.one h0 stepR_scope) harr⟩
  | outgrown => exact ⟨_, a₁, w₁, hq, .of_steps (.one h0 stepR_scope) harr⟩

def stmC (s : Api_Stamp) : List Value := [.int .i64 s.N, .int .i64 s.Site]
theorem ofP_hit {key : ByteArray} (pre : List Api_Dep) {x : Api_Dep} (h : x.Key = key) : ofP key (pre ++ [x]) = ofP key pre ++ [x.Stamp] := by simp [ofP, h]
theorem ofP_miss {key : ByteArray} (pre : List Api_Dep) {x : Api_Dep} (h : x.Key ≠ key) : ofP key (pre ++ [x]) = ofP key pre := by simp [ofP, h]
theorem ofP_len (key : ByteArray) (l : List Api_Dep) : (ofP key l).length ≤ l.length := by unfold ofP; rw [List.length_map]; exact List.length_filter_le _ _
theorem infoStm : (Try.prog.info? 42).map (fun i => (i.zero, i.size, i.bytes)) = some (some (.agg #[.int .i64 0, .int .i64 0]), 2, 16) := by kernel_rfl
theorem cells_new2 (w : World) (x y : Value) (t : TypeId) : ∀ j u, [x, y][j]? = some u → (w.alloc (.cells #[x, y] t)).cell? ((⟨w.heap.size, 0, none⟩ : Addr).add j) = some u := by
  intro j u hj
  have h : (w.alloc (.cells #[x, y] t)).heap[w.heap.size]? = some (.cells #[x, y] t (0, 0)) := World.alloc_heap_new w _
  rw [Addr.add_lit]
  simp only [World.cell?, h]
  rw [← hj]
  simp

set_option maxRecDepth 100000 in
set_option maxHeartbeats 4000000 in
theorem of_in (F : Fence) (n : Nat) (h17 : F.fn 17) (h28 : F.fn 28) (h35 : F.fn 35) (hro : F.round = none) (hn : 5 ≤ n) (a : Option Addr) (len cap : Nat) (key : ByteArray) (l : List Api_Pin) (hmax : (flatP l).length ≤ 1000000) (w : World) (hI : PinsAt w.heap.size w (.slice a len cap) l) :
    CallsIn F n Try.prog 17 #[.slice a len cap, .string key] w fun e W' => ∃ v, e = .returned v ∧ W'.ownsRow w.heap.size 42 2 v (ofP key (flatP l)).length ((ofP key (flatP l)).flatMap stmC) ∧ Below w.heap.size w W' := by
  have h1 : 1 ≤ n := by omega
  have hml : maxLen = 9223372036854775807 := rfl
  obtain ⟨i0, hi, hz0, hz1, hz2⟩ := info_parts infoStm
  refine callsIn_of_wp_marks Try.func17 rfl h17 ?_ hro
  simp only [Try.ntmps17, List.size_toArray, List.length_cons, List.length_nil, Nat.reduceAdd, Nat.reduceSub, Array.replicate_succ, Array.replicate_zero, List.push_toArray, List.append_toArray, List.nil_append, List.cons_append]
  gi_wp2
  refine wpIn_scope_straight ?_
  gi_wp2
  refine wpIn_label ?_
  gi_wp2_with (gi_at_call 28; refine (deps_in F (n - 1) h28 hro _ _ _ _).mono ?_; rintro e w' ⟨rfl, rfl⟩)
  have bK := ((Boxed.new w 9 (.string key)).alloc (.cells #[.slice none 0 0] 46)).alloc (.cells #[.slice a len cap] 23)
  have bO := (Boxed.new (w.alloc (.cells #[.string key] 9)) 46 (.slice none 0 0)).alloc (.cells #[.slice a len cap] 23)
  have bN := Boxed.new ((w.alloc (.cells #[.string key] 9)).alloc (.cells #[.slice none 0 0] 46)) 23 (.slice a len cap)
  simp only [World.size_alloc] at bO bN
  have hB0 : Below w.heap.size w (((w.alloc (.cells #[.string key] 9)).alloc (.cells #[.slice none 0 0] 46)).alloc (.cells #[.slice a len cap] 23)) := (((Below.refl _ w).alloc (Nat.le_refl _) _).alloc (by simp) _).alloc (by simp; omega) _
  have hsz : (((w.alloc (.cells #[.string key] 9)).alloc (.cells #[.slice none 0 0] 46)).alloc (.cells #[.slice a len cap] 23)).heap.size = w.heap.size + 3 := by simp
  obtain ⟨W0, hW0⟩ : ∃ W0, ((w.alloc (.cells #[.string key] 9)).alloc (.cells #[.slice none 0 0] 46)).alloc (.cells #[.slice a len cap] 23) = W0 := ⟨_, rfl⟩
  rw [hW0] at bK bO bN hB0 hsz ⊢
  clear hW0
  refine wpIn_rangeFunc_ownH hro h1 (gf := 35) (lb := #[.pointer (some ⟨w.heap.size + 1 + 1, 0, none⟩)]) rfl h35 (enters_of Try.func35 (by kernel_rfl) rfl)
    (deps_stops F (n - 1) h35 hro (by omega) (w.heap.size + 1 + 1) w.heap.size _ l W0 (by omega) (by omega) bN.cell (hI.below hB0)) belowK_t (belowK_b (by omega)) (Below.refl _ _) (fun _ => rfl)
    (fun (pre : List Api_Dep) W => (Boxed W w.heap.size 9 (.string key) ∧ ∃ v, Boxed W (w.heap.size + 1) 46 v ∧ W.ownsRow w.heap.size 42 2 v (ofP key pre).length ((ofP key pre).flatMap stmC) ∧ True) ∧ Below w.heap.size w W)
    (fun _ _ _ => False)
    (OwnFrom.and (OwnFrom.and (Own.from (boxed_own _ _ _) _) (Own.from (holdsRow_own w.heap.size (w.heap.size + 1) 46 42 2 (fun pre : List Api_Dep => (ofP key pre).length) (fun pre => (ofP key pre).flatMap stmC) (fun _ _ => True)) _)) (ownFrom_below (Nat.le_refl _) (by omega)))
    (fun _ _ _ _ _ hs _ _ => hs)
    ⟨⟨bK, _, bO, World.ownsRow_nil _ _ _ _, trivial⟩, hB0⟩
    (fun x a' W => ∃ Bx, w.heap.size < Bx ∧ W.heap[Bx]? = some (.cells #[.string x.Key, .int .i64 x.Stamp.N, .int .i64 x.Stamp.Site] 44 (0, 0)) ∧ a' = { tmps := #[.slice a len cap, .string key, undef, .pointer (some ⟨w.heap.size, 0, none⟩), .slice none 0 0, .pointer (some ⟨w.heap.size + 1, 0, none⟩), .pointer (some ⟨Bx, 0, none⟩), .slice a len cap, .func (.func 35) #[] #[.pointer (some ⟨w.heap.size + 1 + 1, 0, none⟩)], depV x, undef, undef, undef, undef, undef, undef, undef, undef, undef, undef], defers := [] })
    (fun x a' _ X Y row hs hg hr => by
      obtain ⟨Bx, h1, h2, h3⟩ := hs
      refine ⟨Bx, h1, (hg.block Bx (Array.getElem?_eq_some_iff.1 h2).1 (fun e => ?_)).trans h2, h3⟩
      obtain ⟨_, o, ho, hc⟩ := hr Bx e.symm
      rw [h2] at ho; cases ho; cases hc)
    ?assign ?body ?done ?stop
  case assign =>
    rintro lp pre x W K ⟨⟨bk, v, bv, rv, -⟩, hB⟩ hK
    unfold depV at hK ⊢
    gi_wp2
    have hA := (Below.refl w.heap.size W).alloc hB.size (.cells #[.string x.Key, .int .i64 x.Stamp.N, .int .i64 x.Stamp.Site] 44)
    exact hK _ _ ((KeepsOthers.alloc _ _).from _) hA ⟨⟨bk.alloc _, v, bv.alloc _, rv.alloc _, trivial⟩, hB.trans hA⟩ ⟨W.heap.size, bk.lt, World.alloc_heap_new W _, rfl⟩
  case body =>
    rintro lp pre x a' W hl hr ⟨⟨bk, v, bv, rv, -⟩, hB⟩ ⟨Bx, hBx, hX, rfl⟩ hlt
    have hc := bv.cell
    have hc2 := bk.cell
    have x0 : W.cell? ⟨Bx, 0, none⟩ = some (.string x.Key) := by simp [World.cell?, hX]
    have x1 : W.cell? ⟨Bx, 1, none⟩ = some (.int .i64 x.Stamp.N) := by simp [World.cell?, hX]
    have x2 : W.cell? ⟨Bx, 2, none⟩ = some (.int .i64 x.Stamp.Site) := by simp [World.cell?, hX]
    have hol := ofP_len key pre
    gi_wp2_with (gi_at_builtin; refine wpListIn_append_own _ rfl _ _ 46 rfl w.heap.size 42 i0 (.agg #[.int .i64 0, .int .i64 0]) 2 16 Try.underlying46 hi hz0 hz1 hz2 rfl (by decide) _ _ _ rfl (rv.alloc _) ⟨W.heap.size, 0, none⟩ 1 1 (stmC x.Stamp) rfl rfl (cells_new2 _ _ _ _) (by simp [Value.oneCell', stmC]) (by omega) (by omega) (by have := hB.size; simp; omega) ?_; intro v' w1 hown' hgrow _; obtain ⟨g', cap', rfl⟩ := ownsRow_succ hown'; obtain ⟨hv1, hv2, hr2, hk2, hb2⟩ := bv.appended (by decide) rv hB.size (by omega) hown' hgrow; have hc1 := hv1.cell; have hf1 := hv1.frozen)
    · have hx : x.Key ≠ key := fun e => by
        have hb : (!x.Key.toList == key.toList) = true := by assumption
        rw [e] at hb
        simp at hb
      exact ⟨KeepsFrom.refl _ _, Below.refl _ _, ⟨bk, v, bv, by rw [ofP_miss pre hx]; exact rv, trivial⟩, hB⟩
    · have hx : x.Key = key := by
        have hb : (!x.Key.toList == key.toList) = false := by assumption
        have hb2 : x.Key.toList = key.toList := by simpa using hb
        exact toList_inj.1 hb2
      exact ⟨hk2.from _, hb2, ⟨((bk.alloc _).kept hgrow (bk.not_row (by decide) rv)).other (by omega) _, _, hv2, by rw [ofP_hit pre hx]; simpa using hr2, trivial⟩, hB.trans hb2⟩
  case done =>
    rintro D ys W hD rfl ⟨⟨bk, v, bv, rv, -⟩, hB⟩ hK
    have hc := bv.cell
    gi_wp2
    refine ⟨by simp, .inl ⟨_, _, rfl, run_takeDeferred hK, ?_⟩⟩
    exact ⟨_, results_tmp rfl _ _ _, v, rfl, ownsRow_putObj rv _ hK rfl, hB.trans (belowK_b (w := w) (Nat.le_refl _) W D _ _ (by omega) hK rfl rfl)⟩
  case stop =>
    rintro D c pre W _ _ h _
    exact h.elim
theorem flat_at {α β : Type} (f : α → List β) (z : Nat) (hf : ∀ x, (f x).length = z) : ∀ (l : List α) (i : Nat) (x : α) (j : Nat), l[i]? = some x → j < z → (l.flatMap f)[i * z + j]? = (f x)[j]?
  | [], i, x, j, h, _ => by simp at h
  | y :: l, 0, x, j, h, hj => by
    obtain rfl : y = x := by simpa using h
    rw [List.flatMap_cons, Nat.zero_mul, Nat.zero_add, List.getElem?_append_left (by rw [hf]; exact hj)]
  | y :: l, i + 1, x, j, h, hj => by
    rw [List.flatMap_cons, List.getElem?_append_right (by rw [hf, Nat.add_mul]; omega), hf, show (i + 1) * z + j - z = i * z + j by rw [Nat.add_mul]; omega]
    exact flat_at f z hf l i x j (by simpa using h) hj

theorem RD.ofOwns {M : Nat → Nat → Prop} {W : World} {base e z : Nat} {v : Value} {α : Type} (l : List α) (cf : α → List Value) (enc : α → List DV) (hlen : ∀ x, (cf x).length = z) (henc : ∀ x, enc x = (cf x).map .v) (hone : ∀ x v, v ∈ cf x → v.oneCell' = true)
    (h : W.ownsRow base e z v l.length (l.flatMap cf)) (hM : ∀ b o, M b o → b < base) : RD M W v (.sl z (List.map enc l)) := by
  obtain ⟨-, ⟨rfl, hn⟩ | ⟨g, cap, cur, rfl, hb, hg, hc, hm, hs, ht⟩⟩ := h
  · obtain rfl : l = [] := List.length_eq_zero_iff.1 hn
    exact RD.sl none 0 z [] (fun _ _ => undef) 0 0 (Nat.le_refl _) (Nat.zero_le _) (fun h => absurd rfl h) (fun cs h => by simp at h) (fun i cs j d h => by simp at h) (fun i cs j d h => by simp at h)
  · have key : ∀ (i : Nat) (cs : List DV) (j : Nat) (d : DV), (List.map enc l)[i]? = some cs → cs[j]? = some d → ∃ u, cur[i * z + j]? = some u ∧ d = .v u ∧ u.oneCell' = true := by
      intro i cs j d hi hj
      simp only [List.getElem?_map, Option.map_eq_some_iff] at hi
      obtain ⟨x, hx, rfl⟩ := hi
      rw [henc] at hj
      simp only [List.getElem?_map, Option.map_eq_some_iff] at hj
      obtain ⟨u, hu, rfl⟩ := hj
      have hjz : j < z := by rw [← hlen x]; exact (List.getElem?_eq_some_iff.1 hu).1
      have hil := (List.getElem?_eq_some_iff.1 hx).1
      have h1 := flat_at cf z hlen l i x j hx hjz
      have hlt : i * z + j < l.length * z := by
        have : (i + 1) * z ≤ l.length * z := Nat.mul_le_mul_right _ hil
        rw [Nat.add_mul] at this; omega
      rw [← ht, hu, List.getElem?_take_of_lt hlt, Array.getElem?_toList] at h1
      exact ⟨u, h1, rfl, hone x u (List.mem_of_getElem? hu)⟩
    have := RD.sl (M := M) (w := W) (some ⟨g, 0, none⟩) cap z (List.map enc l) (fun i j => cur.getD (i * z + j) undef) g 0 (by simpa using hc) hm (fun _ => rfl)
      (fun cs h => by simp only [List.mem_map] at h; obtain ⟨x, -, rfl⟩ := h; rw [henc, List.length_map, hlen])
      (fun i cs j d hi hj => by
        obtain ⟨u, h1, rfl, h2⟩ := key i cs j d hi hj
        refine ⟨?_, fun hm => by have := hM _ _ hm; omega⟩
        rw [Nat.zero_add]
        simp only [World.cell?, hg]
        rw [h1]
        simp [Array.getD_eq_getD_getElem?, h1])
      (fun i cs j d hi hj => by
        obtain ⟨u, h1, rfl, h2⟩ := key i cs j d hi hj
        simp only [Array.getD_eq_getD_getElem?, h1, Option.getD_some]
        exact RD.v u h2)
    rwa [List.length_map] at this


theorem ct_pins_All (l_0 : List Api_Pin) (r : List Api_Dep) (hF : pins_All l_0 = some r) : Ct Try.prog 16 [.g (.d (.sl 2 (List.map encApi_Pin l_0)))] (.one (.d (.sl 3 (List.map encApi_Dep r)))) := by
  unfold pins_All at hF
  by_cases hc : (flatP l_0).length ≤ 1000000
  · rw [if_pos hc] at hF
    obtain rfl := Option.some.inj hF
    refine ⟨fun M K w vs hM hK hn hargs => ?_⟩
    obtain ⟨v, rfl⟩ : ∃ v, vs = [v] := by
      match vs, hn with
      | [v], _ => exact ⟨v, rfl⟩
    have hv : RD (fun b o => M b o ∨ K b) w v (.sl 2 (List.map encApi_Pin l_0)) := hargs 0 _ v rfl rfl
    have hp := RD.pins hv
    obtain ⟨a, b, o, cap, rfl, -⟩ := id hp
    refine (callsIn_wide (n := 5)).1 ((all_in Fence.wide 5 trivial trivial trivial trivial trivial rfl (Nat.le_refl _) _ _ _ l_0 hc w hp).mono ?_)
    rintro e W' ⟨u, rfl, h1, h2⟩
    refine ⟨u, rfl, ⟨h2.os, h2.tape, h2.output, h2.size, fun k hk _ => h2.block k hk⟩, ?_⟩
    exact RD.ofOwns (flatP l_0) depC encApi_Dep (fun x => rfl) (fun x => rfl) (fun x v hv => by simp [depC] at hv; rcases hv with rfl | rfl | rfl <;> rfl) h1 fun b o hm => by have := (hM b o hm).1; omega
  · rw [if_neg hc] at hF; cases hF

theorem ct_pins_Of (l_0 : List Api_Pin) (key_1 : ByteArray) (r : List Api_Stamp) (hF : pins_Of l_0 key_1 = some r) : Ct Try.prog 17 [.g (.d (.sl 2 (List.map encApi_Pin l_0))), .g (.d (.v (.string key_1)))] (.one (.d (.sl 2 (List.map encApi_Stamp r)))) := by
  unfold pins_Of at hF
  by_cases hc : (flatP l_0).length ≤ 1000000
  · rw [if_pos hc] at hF
    obtain rfl := Option.some.inj hF
    refine ⟨fun M K w vs hM hK hn hargs => ?_⟩
    obtain ⟨v, u, rfl⟩ : ∃ v u, vs = [v, u] := by
      match vs, hn with
      | [v, u], _ => exact ⟨v, u, rfl⟩
    have hv : RD (fun b o => M b o ∨ K b) w v (.sl 2 (List.map encApi_Pin l_0)) := hargs 0 _ v rfl rfl
    have hu : RD (fun b o => M b o ∨ K b) w u (.v (.string key_1)) := hargs 1 _ u rfl rfl
    obtain rfl := RD.v_inv hu
    have hp := RD.pins hv
    obtain ⟨a, b, o, cap, rfl, -⟩ := id hp
    refine (callsIn_wide (n := 5)).1 ((of_in Fence.wide 5 trivial trivial trivial rfl (Nat.le_refl _) _ _ _ key_1 l_0 hc w hp).mono ?_)
    rintro e W' ⟨u, rfl, h1, h2⟩
    refine ⟨u, rfl, ⟨h2.os, h2.tape, h2.output, h2.size, fun k hk _ => h2.block k hk⟩, ?_⟩
    exact RD.ofOwns (ofP key_1 (flatP l_0)) stmC encApi_Stamp (fun x => rfl) (fun x => rfl) (fun x v hv => by simp [stmC] at hv; rcases hv with rfl | rfl <;> rfl) h1 fun b o hm => (hM b o hm).1
  · rw [if_neg hc] at hF; cases hF
end Go.Ark.HP
namespace Go.Ark
open Go Go.Ab Go.Proofs
theorem ct_pins_All (l_0 : List Api_Pin) (r : List Api_Dep) (hF : pins_All l_0 = some r) : Ct Try.prog 16 [.g (.d (.sl 2 (List.map encApi_Pin l_0)))] (.one (.d (.sl 3 (List.map encApi_Dep r)))) := HP.ct_pins_All l_0 r hF
theorem ct_pins_Of (l_0 : List Api_Pin) (key_1 : ByteArray) (r : List Api_Stamp) (hF : pins_Of l_0 key_1 = some r) : Ct Try.prog 17 [.g (.d (.sl 2 (List.map encApi_Pin l_0))), .g (.d (.v (.string key_1)))] (.one (.d (.sl 2 (List.map encApi_Stamp r)))) := HP.ct_pins_Of l_0 key_1 r hF
end Go.Ark
