/- Walks, printed by a program of mine: each function of the program computes the typed function of its name. Conditions: none. -/
import Derived.Test.YtedpjlinmkingaaWPastBack1
namespace Go.Ark
open Go Go.Ab Go.RowKit Go.Lib Go.Proofs

set_option maxRecDepth 20000 in
set_option maxHeartbeats 2000000 in
theorem ct_law04_made (l_0 : (List Api_Dep)) (r : (List Api_Dep)) (hF : law04_made l_0 = some r) : Ct Try.prog 10 [.g (.d (.sl 3 (List.map encApi_Dep l_0)))] (.one (.d (.sl 3 (List.map encApi_Dep r)))) := by
  unfold law04_made at hF
  refine Ct.intro Try.func10 rfl Try.ntmps10 rfl rfl fun M w => ?_
  refine G.seq ?_
  refine G.region ?_
  refine G.op1 (op_assign (Ev.n 3) rfl) rfl trivial trivial ?_
  refine G.endOps ?_
  refine G.seq ?_
  refine G.region ?_
  refine G.op1 (op_assign (Ev.n 3) rfl) rfl trivial trivial ?_
  refine G.endOps ?_
  refine G.seq ?_
  refine G.seq ?_
  refine G.region ?_
  refine G.op1 (op_assign (Ev.c _ rfl) rfl) rfl trivial trivial ?_
  refine G.endOps ?_
  refine G.joinC (T := (List Api_Dep)) (fun y1 => ⟨[(3, .one (.g (.d (.sl 3 (List.map encApi_Dep y1)))))], []⟩) (fun y1 => law04_made_k1 y1 = some r) (fun y1 hF => ?_) (fun J2 => ?_)
  · unfold law04_made_k1 at hF
    refine G.seq ?_
    refine G.region ?_
    refine G.op1 (op_move (Ev.t 3 (.g (.d (.sl 3 (List.map encApi_Dep y1))))) rfl) rfl ⟨rfl, trivial⟩ trivial ?_
    refine G.op1 (op_assign (Ev.t 31 (.g (.d (.sl 3 (List.map encApi_Dep y1))))) rfl) rfl ⟨rfl, trivial⟩ trivial ?_
    refine G.endOps ?_
    cases hF
    exact G.ret1 Try.results10 (RVar.tmp 2 _) ⟨rfl, trivial⟩ trivial
  refine G.block ?_
  refine G.keep (sl' := [(0, .one (.g (.d (.sl 3 (List.map encApi_Dep l_0))))), (3, .one (.g (.d (.sl 3 (List.map encApi_Dep ([] : (List Api_Dep))))))), (4, .one (bI .i64 0))]) (hp' := []) ⟨rfl, rfl, rfl, trivial⟩ trivial rfl ?_
  refine G.loopF (fun (v3 : (List Api_Dep) × Int) => ⟨[(0, .one (.g (.d (.sl 3 (List.map encApi_Dep l_0))))), (3, .one (.g (.d (.sl 3 (List.map encApi_Dep v3.1))))), (4, .one (bI .i64 v3.2))], []⟩) hF rfl (fun K6 again5 v3 J4 hF => ?_)
  unfold law04_made_l2 at hF
  refine G.seq ?_
  refine G.seq ?_
  refine G.joinC (T := Bool) (fun y7 => ⟨[(0, .one (.g (.d (.sl 3 (List.map encApi_Dep l_0))))), (3, .one (.g (.d (.sl 3 (List.map encApi_Dep v3.1))))), (4, .one (bI .i64 v3.2)), (13, .one (bB y7))], []⟩) (fun y7 => law04_made_k3 l_0 again5 v3 y7 = some r) (fun y7 hF => ?_) (fun J15 => ?_)
  · unfold law04_made_k3 at hF
    refine ifS hF (fun hc8 hF => ?_) (fun hc8 hF => ?_)
    · refine G.cond rfl (fun _ => ?_) (fun hx => by rw [hc8] at hx; cases hx)
      refine G.skip ?_
      refine G.seq ?_
      refine G.block ?_
      refine G.seq ?_
      refine G.region ?_
      refine G.op1 (op_move (Ev.t 0 (.g (.d (.sl 3 (List.map encApi_Dep l_0))))) rfl) rfl ⟨rfl, trivial⟩ trivial ?_
      refine G.op1 (op_move (Ev.t 4 (bI .i64 v3.2)) rfl) rfl ⟨rfl, trivial⟩ trivial ?_
      obtain ⟨x9, hx9, hF⟩ := bindS hF
      refine G.op1 (op_index (cs := [.v (.string x9.Key), .v (.int .i64 x9.Stamp.N), .v (.int .i64 x9.Stamp.Site)]) Try.underlying22 ti26 (idx_ok hx9).1 (idx_get hx9 encApi_Dep) (Ev.t 16 (.g (.d (.sl 3 (List.map encApi_Dep l_0))))) (Ev.t 17 (bI .i64 v3.2)) rfl) rfl ⟨rfl, rfl, trivial⟩ trivial ?_
      refine G.op1 (op_loadAE (ds := [.v (.string x9.Key), .v (.int .i64 x9.Stamp.N), .v (.int .i64 x9.Stamp.Site)]) Try.underlying26 rfl ti26 rfl (Ev.t 18 (.ep [.v (.string x9.Key), .v (.int .i64 x9.Stamp.N), .v (.int .i64 x9.Stamp.Site)])) rfl) rfl ⟨rfl, trivial⟩ trivial ?_
      refine G.op2 (op_alloc (k := 1005) (cs := [bS ByteArray.empty, bI .i64 0, bI .i64 0]) ti26 ⟨.v _ rfl, .v _ rfl, .v _ rfl, trivial⟩ rfl) rfl trivial ⟨rfl, trivial⟩ ?_
      refine G.op3 (op_storeA (cs' := [bS x9.Key, bI .i64 x9.Stamp.N, bI .i64 x9.Stamp.Site]) ti26 rfl rfl (Ev.t 5 (.ptr 1005 0)) (Ev.t 19 (.g (.agg [.v (.string x9.Key), .v (.int .i64 x9.Stamp.N), .v (.int .i64 x9.Stamp.Site)])))) rfl ⟨rfl, rfl, trivial⟩ ⟨rfl, trivial⟩ ?_
      refine G.endOps ?_
      refine G.seq ?_
      refine G.seq ?_
      refine G.region ?_
      refine G.op1 (op_fieldP (off' := 0) Try.underlying26 rfl ti9 (by decide) rfl (Ev.t 5 (.ptr 1005 0)) rfl) rfl ⟨rfl, trivial⟩ trivial ?_
      refine G.op1 (op_load1P (c := bS x9.Key) Try.underlying9 rfl rfl (Ev.t 20 (.ptr 1005 0)) rfl) rfl ⟨rfl, trivial⟩ ⟨rfl, trivial⟩ ?_
      refine G.op1 (op_lenS Try.underlying9 (Ev.t 21 (bS x9.Key)) rfl) rfl ⟨rfl, trivial⟩ trivial ?_
      refine G.op1 (op_gtr (Ev.t 22 (bI .i64 (x9.Key.size : Int))) (Ev.c _ rfl) rfl) rfl ⟨rfl, trivial⟩ trivial ?_
      refine G.endOps ?_
      refine G.joinC (T := ByteArray) (fun y10 => ⟨[(0, .one (.g (.d (.sl 3 (List.map encApi_Dep l_0))))), (3, .one (.g (.d (.sl 3 (List.map encApi_Dep v3.1))))), (4, .one (bI .i64 v3.2)), (5, .one (.ptr 1005 0))], [(1005, some (.blk 26 [bS y10, bI .i64 x9.Stamp.N, bI .i64 x9.Stamp.Site]))]⟩) (fun y10 => law04_made_k4 again5 v3 x9 y10 = some r) (fun y10 hF => ?_) (fun J12 => ?_)
      · unfold law04_made_k4 at hF
        refine G.region ?_
        refine G.op1 (op_move (Ev.t 3 (.g (.d (.sl 3 (List.map encApi_Dep v3.1))))) rfl) rfl ⟨rfl, trivial⟩ trivial ?_
        refine G.op1 (op_loadAP (ds := [.v (.string y10), .v (.int .i64 x9.Stamp.N), .v (.int .i64 x9.Stamp.Site)]) Try.underlying26 rfl ti26 rfl (Ev.t 5 (.ptr 1005 0)) rfl) rfl ⟨rfl, trivial⟩ ⟨rfl, trivial⟩ ?_
        obtain ⟨r11, hr11, hF⟩ := bindS hF
        refine G.op1 (op_call (sv := .one (.g (.d (.sl 3 (List.map encApi_Dep r11))))) cf17 (ct_ref04_Add v3.1 (Api_Dep.mk y10 x9.Stamp) r11 hr11) rfl (EvL.cons (Ev.t 28 (.g (.d (.sl 3 (List.map encApi_Dep v3.1))))) (EvL.cons (Ev.t 29 (.g (.agg [.v (.string y10), .v (.int .i64 x9.Stamp.N), .v (.int .i64 x9.Stamp.Site)]))) EvL.nil)) rfl) rfl ⟨rfl, rfl, trivial⟩ trivial ?_
        refine G.op1 (op_assign (Ev.t 30 (.g (.d (.sl 3 (List.map encApi_Dep r11))))) rfl) rfl ⟨rfl, trivial⟩ trivial ?_
        refine G.endOps ?_
        refine G.endBlock ?_
        refine G.region ?_
        refine G.op1 (op_move (Ev.t 4 (bI .i64 v3.2)) rfl) rfl ⟨rfl, trivial⟩ trivial ?_
        refine G.op1 (op_add (Ev.t 14 (bI .i64 v3.2)) (Ev.c _ rfl) rfl) rfl ⟨rfl, trivial⟩ trivial ?_
        refine G.op1 (op_assign (Ev.t 15 (bI .i64 (IntKind.wrap .i64 (v3.2 + 1)))) rfl) rfl ⟨rfl, trivial⟩ trivial ?_
        refine G.endOps ?_
        exact G.arr (J4 (r11, IntKind.wrap .i64 (v3.2 + 1)) hF) ⟨rfl, rfl, rfl, trivial⟩ trivial rfl
      refine ifS hF (fun hc13 hF => ?_) (fun hc13 hF => ?_)
      · refine G.cond rfl (fun _ => ?_) (fun hx => by rw [hc13] at hx; cases hx)
        refine G.region ?_
        refine G.op1 (op_fieldP (off' := 0) Try.underlying26 rfl ti9 (by decide) rfl (Ev.t 5 (.ptr 1005 0)) rfl) rfl ⟨rfl, trivial⟩ trivial ?_
        refine G.op1 (op_load1P (c := bS x9.Key) Try.underlying9 rfl rfl (Ev.t 24 (.ptr 1005 0)) rfl) rfl ⟨rfl, trivial⟩ ⟨rfl, trivial⟩ ?_
        obtain ⟨s14, hs14, hF⟩ := bindS hF
        refine G.op1 (OpL.cast (op_sliceS (lo := none) (hi := some 20) Try.underlying9 (ssub_ok hs14).1 (ssub_ok hs14).2.1 (ssub_ok hs14).2.2.1 (Ev.t 25 (bS x9.Key)) EvO.none (EvO.some (Ev.c _ rfl)) rfl) (congrArg (fun s => bS s) (ssub_ok hs14).2.2.2)) rfl ⟨rfl, trivial⟩ trivial ?_
        refine G.op1 (op_fieldP (off' := 0) Try.underlying26 rfl ti9 (by decide) rfl (Ev.t 5 (.ptr 1005 0)) rfl) rfl ⟨rfl, trivial⟩ trivial ?_
        refine G.op3 (op_store1 (cs' := [bS s14, bI .i64 x9.Stamp.N, bI .i64 x9.Stamp.Site]) (c := bS s14) trivial ti9 rfl rfl (Ev.t 27 (.ptr 1005 0)) (Ev.t 26 (bS s14))) rfl ⟨rfl, rfl, trivial⟩ ⟨rfl, trivial⟩ ?_
        refine G.endOps ?_
        exact G.arr (J12 s14 hF) ⟨rfl, rfl, rfl, rfl, trivial⟩ ⟨rfl, trivial⟩ rfl
      · refine G.cond rfl (fun hx => by rw [hc13] at hx; cases hx) (fun _ => ?_)
        refine G.skip ?_
        exact G.arr (J12 x9.Key hF) ⟨rfl, rfl, rfl, rfl, trivial⟩ ⟨rfl, trivial⟩ rfl
    · refine G.cond rfl (fun hx => by rw [hc8] at hx; cases hx) (fun _ => ?_)
      refine G.exit ?_
      refine GX.c ?_
      refine GX.q ?_
      refine GX.bYes ?_
      exact G.arr (J2 v3.1 hF) ⟨rfl, trivial⟩ trivial rfl
  refine G.region ?_
  refine G.op1 (op_move (Ev.t 4 (bI .i64 v3.2)) rfl) rfl ⟨rfl, trivial⟩ trivial ?_
  refine G.op1 (op_move (Ev.t 0 (.g (.d (.sl 3 (List.map encApi_Dep l_0))))) rfl) rfl ⟨rfl, trivial⟩ trivial ?_
  refine G.op1 (OpL.cast (op_lenD Try.underlying22 (Ev.t 7 (.g (.d (.sl 3 (List.map encApi_Dep l_0))))) rfl) (by rw [List.length_map])) rfl ⟨rfl, trivial⟩ trivial ?_
  refine G.op1 (op_lss (Ev.t 6 (bI .i64 v3.2)) (Ev.t 8 (bI .i64 (l_0.length : Int))) rfl) rfl ⟨rfl, rfl, trivial⟩ trivial ?_
  refine G.op1 (op_move (Ev.t 9 (bB (decide (v3.2 < (l_0.length : Int))))) rfl) rfl ⟨rfl, trivial⟩ trivial ?_
  refine ifS hF (fun hc16 hF => ?_) (fun hc16 hF => ?_)
  · refine G.known (t := 10) hc16 rfl ?_
    refine G.opG1 (op_move (Ev.t 4 (bI .i64 v3.2)) rfl) rfl rfl rfl ⟨rfl, trivial⟩ trivial ?_
    refine G.opG1 (op_lss (Ev.t 11 (bI .i64 v3.2)) (Ev.c _ rfl) rfl) rfl rfl rfl ⟨rfl, trivial⟩ trivial ?_
    refine G.op1 (op_pickT (Ev.t 10 (bB true)) (Ev.t 12 (bB (decide (v3.2 < 12)))) rfl) rfl ⟨rfl, rfl, trivial⟩ trivial ?_
    refine G.endOps ?_
    exact G.arr (J15 (decide (v3.2 < 12)) hF) ⟨rfl, rfl, rfl, rfl, trivial⟩ trivial rfl
  · refine G.known (t := 10) hc16 rfl ?_
    refine G.opN1 rfl rfl rfl rfl rfl ?_
    refine G.opN1 rfl rfl rfl rfl rfl ?_
    refine G.op1 (op_pickF (Ev.t 10 (bB false)) (Ev.c _ rfl) rfl) rfl ⟨rfl, trivial⟩ trivial ?_
    refine G.endOps ?_
    exact G.arr (J15 false hF) ⟨rfl, rfl, rfl, rfl, trivial⟩ trivial rfl


set_option maxHeartbeats 2000000 in
set_option maxRecDepth 100000 in
theorem bCC73 (b : Nat) (p v : Value) (w : World) (hp : p = .pointer none ∨ p = .pointer (some ⟨b, 0, none⟩)) (hbk : w.heap[b]? = some (.cells #[p, v] 70 (0, 0))) :
    Calls Try.prog 73 #[.pointer (some ⟨b, 0, none⟩)] w fun e w' => e = .returned (.tuple #[]) ∧ (w' = w ∨ w' = w.setCell ⟨b, 0, none⟩ (.pointer (some ⟨b, 0, none⟩))) ∧ w'.heap[b]? = some (.cells #[.pointer (some ⟨b, 0, none⟩), v] 70 (0, 0)) := by
  have hI : (Try.prog.info? 70).map (·.size) = some 2 := by kernel_rfl
  have hL : liesAt Try.prog Try.prog.depth 70 (2 / Try.prog.cellsOf 70) 0 70 1 = true := by kernel_rfl
  obtain ⟨j, hj, hjs⟩ := Option.map_eq_some_iff.1 hI
  have t70 := Try.underlying70; have a70 := Try.isAgg70; have z70 := Try.sizeOf70; have v70 := Try.zeroValue70; have u70 := run_underlying t70
  have t68 := Try.underlying68; have a68 := Try.isAgg68; have z68 := Try.sizeOf68; have v68 := Try.zeroValue68; have u68 := run_underlying t68
  have t47 := Try.underlying47; have a47 := Try.isAgg47; have z47 := Try.sizeOf47; have v47 := Try.zeroValue47; have u47 := run_underlying t47
  have t5 := Try.underlying5; have a5 := Try.isAgg5; have z5 := Try.sizeOf5; have v5 := Try.zeroValue5; have u5 := run_underlying t5
  have t9 := Try.underlying9; have a9 := Try.isAgg9; have z9 := Try.sizeOf9; have v9 := Try.zeroValue9; have u9 := run_underlying t9
  have t4 := Try.underlying4; have a4 := Try.isAgg4; have z4 := Try.sizeOf4; have v4 := Try.zeroValue4; have u4 := run_underlying t4
  have t2 := Try.underlying2; have a2 := Try.isAgg2; have z2 := Try.sizeOf2; have v2 := Try.zeroValue2; have u2 := run_underlying t2
  have t108 := Try.underlying108; have a108 := Try.isAgg108; have z108 := Try.sizeOf108; have v108 := Try.zeroValue108; have u108 := run_underlying t108
  have h0 : w.cell? ⟨b, 0, none⟩ = some p := by rw [Lib.cell_of_heap hbk]; rfl
  rcases hp with rfl | rfl
  · have hsh : w.shape? b = some (70, 2) := by simp [World.shape?, hbk]
    have hfz : w.frozen? ⟨b, 0, none⟩ = false := Lib.frozen_of_heap hbk 0
    go_enter Try.func73, Try.ntmps73
    go_wp2
    rw [Lib.run_to_unsafe w ⟨b, 0, none⟩ t68 t108 hj (by rw [hjs]; decide) hsh (Nat.zero_lt_succ 1)]
    simp only [Result.andThen]
    rw [Oper.upon_value]
    go_wp2
    rw [run_callFunc_extern Try.func79 (by kernel_rfl) (by kernel_rfl) (by kernel_rfl) (e := Extern.AbiNoEscape.same) (by kernel_rfl)]
    rw [Lib.run_noEscape]
    simp only [Result.andThen]
    rw [Oper.upon_value]
    go_wp2
    rw [Lib.run_from_unsafe w ⟨b, 0, none⟩ t108 t68 hj hsh hL]
    simp only [Result.andThen]
    rw [Oper.upon_value]
    go_wp2
    go_end0
    exact ⟨rfl, .inr rfl, by simp [World.setCell, Array.getElem?_modify, hbk]⟩
  · go_enter Try.func73, Try.ntmps73
    go_wp2
    rw [Lib.run_neq_ptr_same w _ t68 hj]
    go_wp2
    go_end0
    exact ⟨rfl, .inl rfl, hbk⟩

theorem bCC73_fresh (b : Nat) (v : Value) (w : World) (hbk : w.heap[b]? = some (.cells #[.pointer none, v] 70 (0, 0))) :
    Calls Try.prog 73 #[.pointer (some ⟨b, 0, none⟩)] w fun e w' => e = .returned (.tuple #[]) ∧ w' = w.setCell ⟨b, 0, none⟩ (.pointer (some ⟨b, 0, none⟩)) :=
  (bCC73 b _ v w (.inl rfl) hbk).mono fun e w' ⟨h1, h2, h3⟩ => ⟨h1, h2.resolve_left fun c => by subst c; rw [hbk] at h3; simp at h3⟩

/-- what copyCheck leaves -/
theorem bCC73_more {b : Nat} {p v : Value} {w w1 : World} {n : Nat} {xs : List Value} (hbk : w.heap[b]? = some (.cells #[p, v] 70 (0, 0))) (hown : w.ownsRow 0 5 1 v n xs) (hne : v.ownBlock ≠ some b) (h : w1 = w ∨ w1 = w.setCell ⟨b, 0, none⟩ (.pointer (some ⟨b, 0, none⟩))) :
    w1.ownsRow 0 5 1 v n xs ∧ KeepW (fun b' => b' = b ∨ v.ownBlock = some b') w w1 ∧ w.heap.size ≤ w1.heap.size ∧ b < w1.heap.size := by
  have hlt : b < w.heap.size := (Array.getElem?_eq_some_iff.1 hbk).1
  rcases h with rfl | rfl
  · exact ⟨hown, .refl _, Nat.le_refl _, hlt⟩
  · exact ⟨ownsRow_of_block hown fun g hg => Below.heap_setCell _ _ _ _ (fun e => hne (by rw [hg, e])), .setCell _ _ _ (.inl rfl), by simp [World.setCell], by simpa [World.setCell] using hlt⟩


set_option maxHeartbeats 2000000 in
set_option maxRecDepth 100000 in
theorem bWB83 (s : ByteArray) (c : Nat) (hc : c < 256) (hlen : s.size + 1 ≤ 140737488355328) (b : Nat) (p v : Value) (w : World) (hp : p = .pointer none ∨ p = .pointer (some ⟨b, 0, none⟩)) (hbk : w.heap[b]? = some (.cells #[p, v] 70 (0, 0))) (hown : w.ownsRow 0 5 1 v s.size (Lib.strCells s)) (hne : v.ownBlock ≠ some b) :
    Calls Try.prog 83 #[.pointer (some ⟨b, 0, none⟩), .int .u8 (c : Int)] w fun e w' => e = .returned .nilIface ∧ BPost 70 5 w b v.ownBlock (s ++ ByteArray.mk #[UInt8.ofNat c]) w' := by
  have hIB : (Try.prog.info? 5).map (fun i => (i.zero, i.size, i.bytes)) = some (some (.int .u8 0), 1, 1) := by kernel_rfl
  obtain ⟨i0, hi, hz0, hz1, hz2⟩ := info_parts hIB
  have t70 := Try.underlying70; have a70 := Try.isAgg70; have z70 := Try.sizeOf70; have v70 := Try.zeroValue70; have u70 := run_underlying t70
  have t68 := Try.underlying68; have a68 := Try.isAgg68; have z68 := Try.sizeOf68; have v68 := Try.zeroValue68; have u68 := run_underlying t68
  have t47 := Try.underlying47; have a47 := Try.isAgg47; have z47 := Try.sizeOf47; have v47 := Try.zeroValue47; have u47 := run_underlying t47
  have t5 := Try.underlying5; have a5 := Try.isAgg5; have z5 := Try.sizeOf5; have v5 := Try.zeroValue5; have u5 := run_underlying t5
  have t9 := Try.underlying9; have a9 := Try.isAgg9; have z9 := Try.sizeOf9; have v9 := Try.zeroValue9; have u9 := run_underlying t9
  have t4 := Try.underlying4; have a4 := Try.isAgg4; have z4 := Try.sizeOf4; have v4 := Try.zeroValue4; have u4 := run_underlying t4
  have t2 := Try.underlying2; have a2 := Try.isAgg2; have z2 := Try.sizeOf2; have v2 := Try.zeroValue2; have u2 := run_underlying t2
  go_enter Try.func83, Try.ntmps83
  go_wp2_with (go_at_call 73; refine (bCC73 b p v _ hp hbk).mono ?_)
  rintro e w1 ⟨rfl, h1, hbk1⟩
  obtain ⟨hown1, hk1, hs1, hlt1⟩ := bCC73_more hbk hown hne h1
  have c0 : w1.cell? ⟨b, 0, none⟩ = some (.pointer (some ⟨b, 0, none⟩)) := by rw [Lib.cell_of_heap hbk1]; rfl
  have c1 : w1.cell? ⟨b, 1, none⟩ = some v := by rw [Lib.cell_of_heap hbk1]; rfl
  go_wp2_with (at_builtin; refine wpList_append_byte _ rfl _ _ 47 rfl 5 i0 t47 hi hz0 hz1 hz2 _ _ _ rfl (hown1.alloc _) ⟨w1.heap.size, 0, none⟩ 1 (.int .u8 (c : Int)) rfl (by simp) rfl hlen ?_)
  intro v' w2 hown' hgrow hblk
  have hbA : (w1.alloc (.cells #[.int .u8 (c : Int)] 5)).heap[b]? = some (.cells #[.pointer (some ⟨b, 0, none⟩), v] 70 (0, 0)) := by rw [Lib.alloc_old w1 _ b hlt1]; exact hbk1
  have hb2 : w2.heap[b]? = some (.cells #[.pointer (some ⟨b, 0, none⟩), v] 70 (0, 0)) := by
    rw [hgrow.block b (by simp; omega) (fun e => hne e.symm)]
    exact hbA
  have d0 : w2.cell? ⟨b, 0, none⟩ = some (.pointer (some ⟨b, 0, none⟩)) := by rw [Lib.cell_of_heap hb2]; rfl
  have d1 : w2.cell? ⟨b, 1, none⟩ = some v := by rw [Lib.cell_of_heap hb2]; rfl
  have f1 : w2.frozen? ⟨b, 1, none⟩ = false := Lib.frozen_of_heap hb2 1
  obtain ⟨ao, n', cap, rfl⟩ : ∃ ao n' cap, v' = .slice ao n' cap := by
    rcases hown'.2 with ⟨hv, _⟩ | ⟨g, cap, cur, hv, _⟩
    · exact ⟨_, _, _, hv⟩
    · exact ⟨_, _, _, hv⟩
  go_wp2
  go_ret
  exact ⟨rfl, bpost_of hbA hne (hk1.trans (.below (below_alloc _ _))) (by simp; omega) (by simp; omega) hown' (by rw [ByteArray.size_append]; rfl) (by rw [strCells_one c hc, strCells_app]) hgrow (by simpa using hblk) (by decide)⟩

theorem ct_bld_WriteByte (s : ByteArray) (c : Int) (r : ByteArray) (hF : bld_WriteByte s c = some r) : CtM Try.prog 83 [.pt (.bld 70 5 s), .g (.d (.v (.int .u8 c)))] (.bld 70 5 r) (.one (.d (.v .nilIface))) := by
  unfold bld_WriteByte at hF
  split at hF
  · rename_i hl
    cases hF
    obtain ⟨n, rfl⟩ : ∃ n : Nat, c = n := ⟨c.toNat, by omega⟩
    exact CtM.write (arg := .int .u8 (n : Int)) (v := .nilIface) (fun M w' => RD.v _ rfl) (fun _ _ _ h => RD.v_inv h) (fun b p vb w h1 h2 h3 h4 => bWB83 s n (by omega) hl.2.2 b p vb w h1 h2 h3 h4)
  · cases hF


set_option maxRecDepth 20000 in
set_option maxHeartbeats 2000000 in
theorem ct_vary_put (b_0 : ByteArray) (n_1 : Int) (r : ByteArray) (hF : vary_put b_0 n_1 = some r) : CtM Try.prog 81 [.pt (.bld 70 5 b_0), .g (.d (.v (.int .u64 n_1)))] (.bld 70 5 r) (.tup []) := by
  unfold vary_put at hF
  refine CtM.intro (h := .bld 70 5 b_0) 0 Try.func81 rfl Try.ntmps81 rfl rfl rfl rfl (fun M w b go => ?_)
  refine G.seq ?_
  refine G.joinC (T := Int × ByteArray) (fun y1 => ⟨[(0, .one (.ptr 0 0)), (1, .one (bI .u64 y1.1))], [(0, some (.bld 70 5 50 y1.2)), (50, some (.hid true 0))]⟩) (fun y1 => vary_put_k1 y1 = some r) (fun y1 hF => ?_) (fun J3 => ?_)
  · unfold vary_put_k1 at hF
    refine G.region ?_
    refine G.op1 (op_move (Ev.t 0 (.ptr 0 0)) rfl) rfl ⟨rfl, trivial⟩ trivial ?_
    refine G.op1 (op_move (Ev.t 1 (bI .u64 y1.1)) rfl) rfl ⟨rfl, trivial⟩ trivial ?_
    refine G.op1 (op_convI Try.underlying76 Try.underlying5 (Ev.t 14 (bI .u64 y1.1)) rfl) rfl ⟨rfl, trivial⟩ trivial ?_
    obtain ⟨r2, hr2, hF⟩ := bindS hF
    refine G.opM (op_callM (k := 0) (h := .bld 70 5 y1.2) (h' := .bld 70 5 r2) 50 (sv := .one (.g (.d (.v .nilIface)))) cf83 (ct_bld_WriteByte y1.2 (IntKind.wrap .u8 y1.1) r2 hr2) rfl rfl (EvM.pt (Ev.t 13 (.ptr 0 0)) (EvM.g (Ev.t 15 (bI .u8 (IntKind.wrap .u8 y1.1))) EvM.nil)) rfl) rfl ⟨rfl, rfl, trivial⟩ ⟨rfl, rfl, trivial⟩ ?_
    refine G.endOps ?_
    have hF := Option.some.inj hF; subst hF
    exact G.fallM (retOK0 Try.results81) trivial trivial ⟨rfl, rfl, trivial⟩
  refine G.block ?_
  refine G.keep (sl' := [(0, .one (.ptr 0 0)), (1, .one (bI .u64 n_1))]) (hp' := [(0, some (.bld 70 5 50 b_0)), (50, some (.hid true 0))]) ⟨rfl, rfl, trivial⟩ ⟨rfl, rfl, trivial⟩ rfl ?_
  refine G.loopF (fun (v4 : Int × ByteArray) => ⟨[(0, .one (.ptr 0 0)), (1, .one (bI .u64 v4.1))], [(0, some (.bld 70 5 50 v4.2)), (50, some (.hid true 0))]⟩) hF rfl (fun K7 again6 v4 J5 hF => ?_)
  unfold vary_put_l2 at hF
  refine G.seq ?_
  refine G.seq ?_
  refine G.region ?_
  refine G.op1 (op_move (Ev.t 1 (bI .u64 v4.1)) rfl) rfl ⟨rfl, trivial⟩ trivial ?_
  refine G.op1 (op_geq (Ev.t 4 (bI .u64 v4.1)) (Ev.c _ rfl) rfl) rfl ⟨rfl, trivial⟩ trivial ?_
  refine G.endOps ?_
  refine ifS hF (fun hc8 hF => ?_) (fun hc8 hF => ?_)
  · refine G.cond rfl (fun _ => ?_) (fun hx => by rw [hc8] at hx; cases hx)
    refine G.skip ?_
    refine G.block ?_
    refine G.seq ?_
    refine G.region ?_
    refine G.op1 (op_move (Ev.t 0 (.ptr 0 0)) rfl) rfl ⟨rfl, trivial⟩ trivial ?_
    refine G.op1 (op_move (Ev.t 1 (bI .u64 v4.1)) rfl) rfl ⟨rfl, trivial⟩ trivial ?_
    refine G.op1 (op_convI Try.underlying76 Try.underlying5 (Ev.t 7 (bI .u64 v4.1)) rfl) rfl ⟨rfl, trivial⟩ trivial ?_
    refine G.op1 (op_or (Ev.t 8 (bI .u8 (IntKind.wrap .u8 v4.1))) (Ev.c _ rfl) rfl) rfl ⟨rfl, trivial⟩ trivial ?_
    obtain ⟨r9, hr9, hF⟩ := bindS hF
    refine G.opM (op_callM (k := 0) (h := .bld 70 5 v4.2) (h' := .bld 70 5 r9) 50 (sv := .one (.g (.d (.v .nilIface)))) cf83 (ct_bld_WriteByte v4.2 (IntKind.wrap .u8 (BitVec.ofInt (IntKind.bits .u8) (IntKind.wrap .u8 v4.1) ||| BitVec.ofInt (IntKind.bits .u8) 128).toNat) r9 hr9) rfl rfl (EvM.pt (Ev.t 6 (.ptr 0 0)) (EvM.g (Ev.t 9 (bI .u8 (IntKind.wrap .u8 (BitVec.ofInt (IntKind.bits .u8) (IntKind.wrap .u8 v4.1) ||| BitVec.ofInt (IntKind.bits .u8) 128).toNat))) EvM.nil)) rfl) rfl ⟨rfl, rfl, trivial⟩ ⟨rfl, rfl, trivial⟩ ?_
    refine G.endOps ?_
    refine G.region ?_
    refine G.op1 (op_move (Ev.t 1 (bI .u64 v4.1)) rfl) rfl ⟨rfl, trivial⟩ trivial ?_
    refine G.op1 (op_shr (by decide) (Ev.t 11 (bI .u64 v4.1)) (Ev.c _ rfl) rfl) rfl ⟨rfl, trivial⟩ trivial ?_
    refine G.op1 (op_assign (Ev.t 12 (bI .u64 (Int.fdiv v4.1 (2 ^ min (Int.toNat 7) (IntKind.bits .u64))))) rfl) rfl ⟨rfl, trivial⟩ trivial ?_
    refine G.endOps ?_
    refine G.endBlock ?_
    exact G.arr (J5 (Int.fdiv v4.1 (2 ^ min (Int.toNat 7) (IntKind.bits .u64)), r9) hF) ⟨rfl, rfl, trivial⟩ ⟨rfl, rfl, trivial⟩ rfl
  · refine G.cond rfl (fun hx => by rw [hc8] at hx; cases hx) (fun _ => ?_)
    refine G.exit ?_
    refine GX.c ?_
    refine GX.q ?_
    refine GX.bYes ?_
    exact G.arr (J3 (v4.1, v4.2) hF) ⟨rfl, rfl, trivial⟩ ⟨rfl, rfl, trivial⟩ rfl


set_option maxRecDepth 20000 in
set_option maxHeartbeats 2000000 in
theorem ct_vary_Join_1 (n_0 : Int) (c0 : ByteArray) (r : ByteArray) (hF : vary_Join_1 n_0 c0 = some r) : CtM Try.prog 80 [.g (.d (.v (.int .u64 n_0))), .pt (.bld 70 5 c0)] (.bld 70 5 r) (.tup []) := by
  unfold vary_Join_1 at hF
  refine CtM.intro (h := .bld 70 5 c0) 1 Try.func80 rfl Try.ntmps80 rfl rfl rfl rfl (fun M w b go => ?_)
  refine G.region ?_
  refine G.op1 (op_move (Ev.t 0 (bI .u64 n_0)) rfl) rfl ⟨rfl, trivial⟩ trivial ?_
  obtain ⟨r1, hr1, hF⟩ := bindS hF
  refine G.opM (op_callM (k := 0) (h := .bld 70 5 c0) (h' := .bld 70 5 r1) 50 (sv := .tup []) cf81 (ct_vary_put c0 n_0 r1 hr1) rfl rfl (EvM.pt (Ev.t 1 (.ptr 0 0)) (EvM.g (Ev.t 3 (bI .u64 n_0)) EvM.nil)) rfl) rfl ⟨rfl, rfl, trivial⟩ ⟨rfl, rfl, trivial⟩ ?_
  refine G.endOps ?_
  have hF := Option.some.inj hF; subst hF
  exact G.fallM (retOK0 Try.results80) trivial trivial ⟨rfl, rfl, trivial⟩


set_option maxHeartbeats 2000000 in
set_option maxRecDepth 100000 in
theorem bST50 (s : ByteArray) (hs : s.size ≠ 0) (b : Nat) (p v : Value) (w : World) (hbk : w.heap[b]? = some (.cells #[p, v] 70 (0, 0))) (hown : w.ownsRow 0 5 1 v s.size (Lib.strCells s)) :
    Calls Try.prog 50 #[.pointer (some ⟨b, 0, none⟩)] w fun e w' => e = .returned (.string s) ∧ KeepW (fun b' => v.ownBlock = some b') w w' := by
  have hCB : Try.prog.cellsOf 5 = 1 := by kernel_rfl
  have mixed : Try.prog.follows .mixedOrders = true := by kernel_rfl
  have hl0 : s.data.toList ≠ [] := fun h => hs (by have := congrArg List.length h; simpa using this)
  have hll : s.data.toList.length = s.size := by simp
  have hsb : Lib.strCells s = Lib.byteCells s.data.toList := rfl
  have hse : (⟨s.data.toList.toArray⟩ : ByteArray) = s := by cases s; simp
  rw [hsb, ← hll] at hown
  generalize s.data.toList = l at hown hl0 hll hse
  clear hll hsb
  have hown0 := hown
  obtain ⟨g, cap, cur, rfl, hg, hnc, hcm, hcs, htake⟩ : ∃ g cap cur, v = .slice (some ⟨g, 0, none⟩) l.length cap ∧ w.heap[g]? = some (.cells cur 5 (0, 0)) ∧ l.length ≤ cap ∧ cap ≤ maxLen ∧ cur.size = cap * 1 ∧ cur.toList.take (l.length * 1) = Lib.byteCells l := by
    rcases hown.2 with ⟨_, hz⟩ | ⟨g, cap, cur, hv, _, r⟩
    · exact absurd (List.eq_nil_of_length_eq_zero hz) hl0
    · exact ⟨g, cap, cur, hv, r⟩
  have c1 : w.drew.cell? ⟨b, 1, none⟩ = some (.slice (some ⟨g, 0, none⟩) l.length cap) := by
    have : w.drew.heap[b]? = some (.cells #[p, .slice (some ⟨g, 0, none⟩) l.length cap] 70 (0, 0)) := hbk
    rw [Lib.cell_of_heap this]; rfl
  have t70 := Try.underlying70; have a70 := Try.isAgg70; have z70 := Try.sizeOf70; have v70 := Try.zeroValue70; have u70 := run_underlying t70
  have t68 := Try.underlying68; have a68 := Try.isAgg68; have z68 := Try.sizeOf68; have v68 := Try.zeroValue68; have u68 := run_underlying t68
  have t47 := Try.underlying47; have a47 := Try.isAgg47; have z47 := Try.sizeOf47; have v47 := Try.zeroValue47; have u47 := run_underlying t47
  have t5 := Try.underlying5; have a5 := Try.isAgg5; have z5 := Try.sizeOf5; have v5 := Try.zeroValue5; have u5 := run_underlying t5
  have t9 := Try.underlying9; have a9 := Try.isAgg9; have z9 := Try.sizeOf9; have v9 := Try.zeroValue9; have u9 := run_underlying t9
  have t4 := Try.underlying4; have a4 := Try.isAgg4; have z4 := Try.sizeOf4; have v4 := Try.zeroValue4; have u4 := run_underlying t4
  have t3 := Try.underlying3; have a3 := Try.isAgg3; have z3 := Try.sizeOf3; have v3 := Try.zeroValue3; have u3 := run_underlying t3
  have t106 := Try.underlying106; have a106 := Try.isAgg106; have z106 := Try.sizeOf106; have v106 := Try.zeroValue106; have u106 := run_underlying t106
  have hl1 : l.length ≠ 0 := fun h => hl0 (List.eq_nil_of_length_eq_zero h)
  have hSD : (Builtin.unsafeSliceData_ #[47] 106 #[.slice (some ⟨g, 0, none⟩) l.length cap]).run Try.prog w.drew = .ok (.pointer (some ⟨g, 0, none⟩)) w.drew :=
    Lib.run_unsafeSliceData_row _ _ _ _ _ _ (by omega)
  have hUS : (Builtin.unsafeString_ #[106, 3] 9 #[.pointer (some ⟨g, 0, none⟩), .int .i64 l.length]).run Try.prog w.drew = .ok (.string s) (w.drew.freeze ⟨g, 0, none⟩ l.length) := by
    rw [← hse]
    refine Lib.run_unsafeString_row w.drew 106 3 9 5 t106 hCB g cur.size (by have hg' : w.drew.heap[g]? = some (.cells cur 5 (0, 0)) := hg; simp [World.shape?, hg']) l hl0 (by omega) (by unfold maxLen at hcm; omega) ?_
    intro j x hx
    have := hown0.cells (g := g) rfl j (.int .u8 x.toNat) (by simp [Lib.byteCells, hx])
    exact this
  go_enter Try.func50, Try.ntmps50
  go_wp2
  go_region_o
  all_goals (go_wp2; go_ret; exact ⟨rfl, keepW_freeze w g _⟩)

theorem ct_bld_String (s r : ByteArray) (hF : bld_String s = some r) : CtM Try.prog 50 [.pt (.bld 70 5 s)] .gone (.one (.d (.v (.string r)))) := by
  unfold bld_String at hF
  split at hF
  · cases hF
  · rename_i hl
    cases hF
    exact CtM.bytes fun b p vb w h1 h2 => bST50 s hl b p vb w h1 h2


set_option maxRecDepth 20000 in
set_option maxHeartbeats 2000000 in
theorem ct_vary_Join (l_0 : (List Int)) (r : ByteArray) (hF : vary_Join l_0 = some r) : Ct Try.prog 74 [.g (.d (.sl 1 (List.map encI_u64 l_0)))] (.one (.d (.v (.string r)))) := by
  unfold vary_Join at hF
  refine Ct.intro Try.func74 rfl Try.ntmps74 rfl rfl fun M w => ?_
  refine G.seq ?_
  refine G.region ?_
  refine G.op1 (op_assign (Ev.c _ rfl) rfl) rfl trivial trivial ?_
  refine G.endOps ?_
  refine G.seq ?_
  refine G.region ?_
  refine G.opM (op_allocB (T := 70) (E := 5) (k := 1003) (kk := 3003) ti70 rfl rfl rfl) rfl trivial ⟨rfl, rfl, trivial⟩ ?_
  refine G.endOps ?_
  refine G.seq ?_
  refine G.region ?_
  refine G.op1 (op_makeFunc1 (Ev.t 3 (.ptr 1003 0)) rfl) rfl ⟨rfl, trivial⟩ trivial ?_
  refine G.op1 (op_assign (Ev.t 7 (.clo 80 [1003])) rfl) rfl ⟨rfl, trivial⟩ trivial ?_
  refine G.endOps ?_
  refine G.seq ?_
  refine G.seq ?_
  refine G.region ?_
  refine G.op1 (op_move (Ev.t 0 (.g (.d (.sl 1 (List.map encI_u64 l_0))))) rfl) rfl ⟨rfl, trivial⟩ trivial ?_
  refine G.op1 (OpL.cast (op_lenD Try.underlying110 (Ev.t 8 (.g (.d (.sl 1 (List.map encI_u64 l_0))))) rfl) (by rw [List.length_map])) rfl ⟨rfl, trivial⟩ trivial ?_
  refine G.op1 (op_move (Ev.c _ rfl) rfl) rfl trivial trivial ?_
  refine G.endOps ?_
  refine G.joinC (T := ByteArray) (fun y1 => ⟨[(3, .one (.ptr 1003 0))], [(1003, some (.bld 70 5 3003 y1)), (3003, some (.hid true 1003))]⟩) (fun y1 => vary_Join_k1 y1 = some r) (fun y1 hF => ?_) (fun J3 => ?_)
  · unfold vary_Join_k1 at hF
    refine G.seq ?_
    refine G.region ?_
    obtain ⟨r2, hr2, hF⟩ := bindS hF
    refine G.opM (op_callM (k := 1003) (h := .bld 70 5 y1) (h' := .gone) 3003 (sv := .one (bS r2)) cf50 (ct_bld_String y1 r2 hr2) rfl rfl (EvM.pt (Ev.t 3 (.ptr 1003 0)) EvM.nil) rfl) rfl ⟨rfl, trivial⟩ ⟨rfl, rfl, trivial⟩ ?_
    refine G.op1 (op_assign (Ev.t 18 (bS r2)) rfl) rfl ⟨rfl, trivial⟩ trivial ?_
    refine G.endOps ?_
    cases hF
    exact G.ret1 Try.results74 (RVar.tmp 2 _) ⟨rfl, trivial⟩ trivial
  refine G.block ?_
  refine G.keep (sl' := [(3, .one (.ptr 1003 0)), (4, .one (.clo 80 [1003])), (8, .one (.g (.d (.sl 1 (List.map encI_u64 l_0))))), (9, .one (bI .i64 (l_0.length : Int))), (10, .one (bI .i64 0))]) (hp' := [(1003, some (.bld 70 5 3003 ByteArray.empty)), (3003, some (.hid true 1003))]) ⟨rfl, rfl, rfl, rfl, rfl, trivial⟩ ⟨rfl, rfl, trivial⟩ rfl ?_
  refine G.loopF (fun (v4 : Int × ByteArray) => ⟨[(3, .one (.ptr 1003 0)), (4, .one (.clo 80 [1003])), (8, .one (.g (.d (.sl 1 (List.map encI_u64 l_0))))), (9, .one (bI .i64 (l_0.length : Int))), (10, .one (bI .i64 v4.1))], [(1003, some (.bld 70 5 3003 v4.2)), (3003, some (.hid true 1003))]⟩) hF rfl (fun K7 again6 v4 J5 hF => ?_)
  unfold vary_Join_l2 at hF
  refine G.seq ?_
  refine G.region ?_
  refine G.op1 (op_lss (Ev.t 10 (bI .i64 v4.1)) (Ev.t 9 (bI .i64 (l_0.length : Int))) rfl) rfl ⟨rfl, rfl, trivial⟩ trivial ?_
  refine G.endOps ?_
  refine G.seq ?_
  refine ifS hF (fun hc8 hF => ?_) (fun hc8 hF => ?_)
  · refine G.cond rfl (fun _ => ?_) (fun hx => by rw [hc8] at hx; cases hx)
    refine G.skip ?_
    refine G.seq ?_
    refine G.block ?_
    refine G.seq ?_
    refine G.region ?_
    obtain ⟨x9, hx9, hF⟩ := bindS hF
    refine G.op1 (op_index (cs := [.v (.int .u64 x9)]) Try.underlying110 ti76 (idx_ok hx9).1 (idx_get hx9 encI_u64) (Ev.t 8 (.g (.d (.sl 1 (List.map encI_u64 l_0))))) (Ev.t 10 (bI .i64 v4.1)) rfl) rfl ⟨rfl, rfl, trivial⟩ trivial ?_
    refine G.op1 (op_load1E (c := .v (.int .u64 x9)) Try.underlying76 rfl rfl (Ev.t 12 (.ep [.v (.int .u64 x9)])) rfl) rfl ⟨rfl, trivial⟩ trivial ?_
    refine G.op1 (op_assign (Ev.t 13 (bI .u64 x9)) rfl) rfl ⟨rfl, trivial⟩ trivial ?_
    refine G.endOps ?_
    refine G.region ?_
    refine G.op1 (op_move (Ev.t 4 (.clo 80 [1003])) rfl) rfl ⟨rfl, trivial⟩ trivial ?_
    refine G.op1 (op_move (Ev.t 6 (bI .u64 x9)) rfl) rfl ⟨rfl, trivial⟩ trivial ?_
    obtain ⟨r10, hr10, hF⟩ := bindS hF
    refine G.opM (op_callCloM (k := 1003) (h := .bld 70 5 v4.2) (h' := .bld 70 5 r10) 3003 (sv := .tup []) cf80 (ct_vary_Join_1 x9 v4.2 r10 hr10) rfl rfl (EvM.g (Ev.t 15 (bI .u64 x9)) EvM.nil) rfl) rfl ⟨rfl, rfl, trivial⟩ ⟨rfl, rfl, trivial⟩ ?_
    refine G.endOps ?_
    refine G.endBlock ?_
    refine G.region ?_
    refine G.op1 (op_add (Ev.t 10 (bI .i64 v4.1)) (Ev.c _ rfl) rfl) rfl ⟨rfl, trivial⟩ trivial ?_
    refine G.op1 (op_move (Ev.t 17 (bI .i64 (IntKind.wrap .i64 (v4.1 + 1)))) rfl) rfl ⟨rfl, trivial⟩ trivial ?_
    refine G.endOps ?_
    exact G.arr (J5 (IntKind.wrap .i64 (v4.1 + 1), r10) hF) ⟨rfl, rfl, rfl, rfl, rfl, trivial⟩ ⟨rfl, rfl, trivial⟩ rfl
  · refine G.cond rfl (fun hx => by rw [hc8] at hx; cases hx) (fun _ => ?_)
    refine G.exit ?_
    refine GX.c ?_
    refine GX.q ?_
    refine GX.bYes ?_
    exact G.arr (J3 v4.2 hF) ⟨rfl, trivial⟩ ⟨rfl, rfl, trivial⟩ rfl


set_option maxRecDepth 20000 in
set_option maxHeartbeats 2000000 in
theorem ct_vary_Number (n_0 : Int) (r : ByteArray) (hF : vary_Number n_0 = some r) : Ct Try.prog 47 [.g (.d (.v (.int .u64 n_0)))] (.one (.d (.v (.string r)))) := by
  unfold vary_Number at hF
  refine Ct.intro Try.func47 rfl Try.ntmps47 rfl rfl fun M w => ?_
  refine G.seq ?_
  refine G.region ?_
  refine G.op1 (op_assign (Ev.c _ rfl) rfl) rfl trivial trivial ?_
  refine G.endOps ?_
  refine G.seq ?_
  refine G.region ?_
  refine G.op1 (op_move (Ev.t 0 (bI .u64 n_0)) rfl) rfl ⟨rfl, trivial⟩ trivial ?_
  refine G.op1 (op_buildSlice (es := List.map encI_u64 [n_0]) Try.underlying110 ti76 rfl rfl (EvP.cons (Ev.t 3 (bI .u64 n_0)) EvP.nil) rfl rfl (by simp [encI_u64]) rfl) rfl ⟨rfl, trivial⟩ trivial ?_
  obtain ⟨r1, hr1, hF⟩ := bindS hF
  refine G.op1 (op_callQ (sv := .one (bS r1)) cf74 (ct_vary_Join ([n_0]) r1 hr1) rfl rfl (EvQL.cons (EvQ.g (Ev.t 4 (.g (.d (.sl 1 (List.map encI_u64 ([n_0]))))))) EvQL.nil) rfl) rfl ⟨rfl, trivial⟩ trivial ?_
  refine G.op1 (op_assign (Ev.t 5 (bS r1)) rfl) rfl ⟨rfl, trivial⟩ trivial ?_
  refine G.endOps ?_
  cases hF
  exact G.ret1 Try.results47 (RVar.tmp 2 _) ⟨rfl, trivial⟩ trivial


set_option maxHeartbeats 2000000 in
set_option maxRecDepth 100000 in
theorem bWS46 (s t : ByteArray) (hlen : s.size + t.size ≤ 140737488355328) (b : Nat) (p v : Value) (w : World) (hp : p = .pointer none ∨ p = .pointer (some ⟨b, 0, none⟩)) (hbk : w.heap[b]? = some (.cells #[p, v] 70 (0, 0))) (hown : w.ownsRow 0 5 1 v s.size (Lib.strCells s)) (hne : v.ownBlock ≠ some b) :
    Calls Try.prog 46 #[.pointer (some ⟨b, 0, none⟩), .string t] w fun e w' => e = .returned (.tuple #[.int .i64 t.size, .nilIface]) ∧ BPost 70 5 w b v.ownBlock (s ++ t) w' := by
  have hIB : (Try.prog.info? 5).map (fun i => (i.zero, i.size, i.bytes)) = some (some (.int .u8 0), 1, 1) := by kernel_rfl
  obtain ⟨i0, hi, hz0, hz1, hz2⟩ := info_parts hIB
  have t70 := Try.underlying70; have a70 := Try.isAgg70; have z70 := Try.sizeOf70; have v70 := Try.zeroValue70; have u70 := run_underlying t70
  have t68 := Try.underlying68; have a68 := Try.isAgg68; have z68 := Try.sizeOf68; have v68 := Try.zeroValue68; have u68 := run_underlying t68
  have t47 := Try.underlying47; have a47 := Try.isAgg47; have z47 := Try.sizeOf47; have v47 := Try.zeroValue47; have u47 := run_underlying t47
  have t5 := Try.underlying5; have a5 := Try.isAgg5; have z5 := Try.sizeOf5; have v5 := Try.zeroValue5; have u5 := run_underlying t5
  have t9 := Try.underlying9; have a9 := Try.isAgg9; have z9 := Try.sizeOf9; have v9 := Try.zeroValue9; have u9 := run_underlying t9
  have t4 := Try.underlying4; have a4 := Try.isAgg4; have z4 := Try.sizeOf4; have v4 := Try.zeroValue4; have u4 := run_underlying t4
  have t3 := Try.underlying3; have a3 := Try.isAgg3; have z3 := Try.sizeOf3; have v3 := Try.zeroValue3; have u3 := run_underlying t3
  go_enter Try.func46, Try.ntmps46
  go_wp2_with (go_at_call 73; refine (bCC73 b p v _ hp hbk).mono ?_)
  rintro e w1 ⟨rfl, h1, hbk1⟩
  obtain ⟨hown1, hk1, hs1, hlt1⟩ := bCC73_more hbk hown hne h1
  have c0 : w1.cell? ⟨b, 0, none⟩ = some (.pointer (some ⟨b, 0, none⟩)) := by rw [Lib.cell_of_heap hbk1]; rfl
  have c1 : w1.cell? ⟨b, 1, none⟩ = some v := by rw [Lib.cell_of_heap hbk1]; rfl
  go_wp2_with (at_builtin; refine wpList_append_bytes _ rfl _ _ 47 9 rfl 5 i0 t47 t9 hi hz0 hz1 hz2 _ _ _ rfl hown1 t rfl hlen ?_)
  intro v' w2 hown' hgrow hblk
  have hb2 : w2.heap[b]? = some (.cells #[.pointer (some ⟨b, 0, none⟩), v] 70 (0, 0)) := by
    rw [hgrow.block b hlt1 (fun e => hne e.symm)]
    exact hbk1
  have d0 : w2.cell? ⟨b, 0, none⟩ = some (.pointer (some ⟨b, 0, none⟩)) := by rw [Lib.cell_of_heap hb2]; rfl
  have d1 : w2.cell? ⟨b, 1, none⟩ = some v := by rw [Lib.cell_of_heap hb2]; rfl
  have f1 : w2.frozen? ⟨b, 1, none⟩ = false := Lib.frozen_of_heap hb2 1
  obtain ⟨ao, n', cap, rfl⟩ : ∃ ao n' cap, v' = .slice ao n' cap := by
    rcases hown'.2 with ⟨hv, _⟩ | ⟨g, cap, cur, hv, _⟩
    · exact ⟨_, _, _, hv⟩
    · exact ⟨_, _, _, hv⟩
  go_wp2
  go_ret2
  exact ⟨rfl, bpost_of hbk1 hne hk1 hs1 hlt1 hown' (by rw [ByteArray.size_append]) (strCells_app s t) hgrow hblk (by decide)⟩

theorem ct_bld_WriteString (s t r : ByteArray) (hF : bld_WriteString s t = some r) : CtM Try.prog 46 [.pt (.bld 70 5 s), .g (.d (.v (.string t)))] (.bld 70 5 r) (.tup [.d (.v (.int .i64 (t.size : Int))), .d (.v .nilIface)]) := by
  unfold bld_WriteString at hF
  split at hF
  · rename_i hl
    cases hF
    refine CtM.write (arg := .string t) (v := .tuple #[.int .i64 t.size, .nilIface]) (fun M w' => ⟨_, rfl, rfl, fun i g hi => ?_⟩) (fun _ _ _ h => RD.v_inv h) (fun b p vb w h1 h2 h3 h4 => bWS46 s t hl b p vb w h1 h2 h3 h4)
    match i with
    | 0 => simp at hi; subst hi; exact ⟨_, rfl, RD.v _ rfl⟩
    | 1 => simp at hi; subst hi; exact ⟨_, rfl, RD.v _ rfl⟩
    | i + 2 => simp at hi
  · cases hF


set_option maxRecDepth 20000 in
set_option maxHeartbeats 2000000 in
theorem ct_vary_Text (s_0 : ByteArray) (r : ByteArray) (hF : vary_Text s_0 = some r) : Ct Try.prog 48 [.g (.d (.v (.string s_0)))] (.one (.d (.v (.string r)))) := by
  unfold vary_Text at hF
  refine Ct.intro Try.func48 rfl Try.ntmps48 rfl rfl fun M w => ?_
  refine G.seq ?_
  refine G.region ?_
  refine G.op1 (op_assign (Ev.c _ rfl) rfl) rfl trivial trivial ?_
  refine G.endOps ?_
  refine G.seq ?_
  refine G.region ?_
  refine G.op1 (op_move (Ev.t 0 (bS s_0)) rfl) rfl ⟨rfl, trivial⟩ trivial ?_
  refine G.op1 (op_lenS Try.underlying9 (Ev.t 3 (bS s_0)) rfl) rfl ⟨rfl, trivial⟩ trivial ?_
  refine G.op1 (op_convI Try.underlying3 Try.underlying76 (Ev.t 4 (bI .i64 (s_0.size : Int))) rfl) rfl ⟨rfl, trivial⟩ trivial ?_
  obtain ⟨r1, hr1, hF⟩ := bindS hF
  refine G.op1 (op_callQ (sv := .one (bS r1)) cf47 (ct_vary_Number (IntKind.wrap .u64 (s_0.size : Int)) r1 hr1) rfl rfl (EvQL.cons (EvQ.g (Ev.t 5 (bI .u64 (IntKind.wrap .u64 (s_0.size : Int))))) EvQL.nil) rfl) rfl ⟨rfl, trivial⟩ trivial ?_
  refine G.op1 (op_move (Ev.t 0 (bS s_0)) rfl) rfl ⟨rfl, trivial⟩ trivial ?_
  obtain ⟨s2, hs2, hF⟩ := bindS hF
  refine G.op1 (OpL.cast (op_cat (scat_ok hs2).1 (Ev.t 6 (bS r1)) (Ev.t 7 (bS s_0)) rfl) (by rw [(scat_ok hs2).2])) rfl ⟨rfl, rfl, trivial⟩ trivial ?_
  refine G.op1 (op_assign (Ev.t 8 (bS s2)) rfl) rfl ⟨rfl, trivial⟩ trivial ?_
  refine G.endOps ?_
  cases hF
  exact G.ret1 Try.results48 (RVar.tmp 2 _) ⟨rfl, trivial⟩ trivial


set_option maxRecDepth 20000 in
set_option maxHeartbeats 2000000 in
theorem ct_stamp_Bytes (s_0 : Api_Stamp) (r : ByteArray) (hF : stamp_Bytes s_0 = some r) : Ct Try.prog 49 [.g (.agg (encApi_Stamp s_0))] (.one (.d (.v (.string r)))) := by
  unfold stamp_Bytes at hF
  refine Ct.intro Try.func49 rfl Try.ntmps49 rfl rfl fun M w => ?_
  refine G.seq ?_
  refine G.region ?_
  refine G.op2 (op_boxA (k := 1001) (Ev.t 0 (.g (.agg [.v (.int .i64 s_0.N), .v (.int .i64 s_0.Site)]))) rfl) rfl ⟨rfl, trivial⟩ ⟨rfl, trivial⟩ ?_
  refine G.op1 (op_assign (Ev.c _ rfl) rfl) rfl trivial trivial ?_
  refine G.endOps ?_
  refine G.seq ?_
  refine G.seq ?_
  refine G.region ?_
  refine G.op1 (op_loadAP (ds := [.v (.int .i64 s_0.N), .v (.int .i64 s_0.Site)]) Try.underlying24 rfl ti24 rfl (Ev.t 1 (.ptr 1001 0)) rfl) rfl ⟨rfl, trivial⟩ ⟨rfl, trivial⟩ ?_
  obtain ⟨r1, hr1, hF⟩ := bindS hF
  refine G.op1 (op_callQ (sv := .one (bB r1)) cf64 (ct_stamp_Check s_0 r1 hr1) rfl rfl (EvQL.cons (EvQ.g (Ev.t 3 (.g (.agg [.v (.int .i64 s_0.N), .v (.int .i64 s_0.Site)])))) EvQL.nil) rfl) rfl ⟨rfl, trivial⟩ trivial ?_
  refine G.op1 (op_not (Ev.t 4 (bB r1)) rfl) rfl ⟨rfl, trivial⟩ trivial ?_
  refine G.endOps ?_
  refine ifS hF (fun hc2 hF => ?_) (fun hc2 hF => ?_)
  · refine G.cond rfl (fun _ => ?_) (fun hx => by rw [hc2] at hx; cases hx)
    refine G.seq ?_
    refine G.region ?_
    refine G.op1 (op_assign (Ev.c _ rfl) rfl) rfl trivial trivial ?_
    refine G.endOps ?_
    cases hF
    exact G.ret1 Try.results49 (RVar.tmp 2 _) ⟨rfl, trivial⟩ trivial
  · refine G.cond rfl (fun hx => by rw [hc2] at hx; cases hx) (fun _ => ?_)
    refine G.skip ?_
    refine G.seq ?_
    refine G.region ?_
    refine G.op1 (op_fieldP (off' := 0) Try.underlying24 rfl ti3 (by decide) rfl (Ev.t 1 (.ptr 1001 0)) rfl) rfl ⟨rfl, trivial⟩ trivial ?_
    refine G.op1 (op_load1P (c := bI .i64 s_0.N) Try.underlying3 rfl rfl (Ev.t 6 (.ptr 1001 0)) rfl) rfl ⟨rfl, trivial⟩ ⟨rfl, trivial⟩ ?_
    refine G.op1 (op_convI Try.underlying3 Try.underlying76 (Ev.t 7 (bI .i64 s_0.N)) rfl) rfl ⟨rfl, trivial⟩ trivial ?_
    refine G.op1 (op_fieldP (off' := 1) Try.underlying24 rfl ti3 (by decide) rfl (Ev.t 1 (.ptr 1001 0)) rfl) rfl ⟨rfl, trivial⟩ trivial ?_
    refine G.op1 (op_load1P (c := bI .i64 s_0.Site) Try.underlying3 rfl rfl (Ev.t 9 (.ptr 1001 1)) rfl) rfl ⟨rfl, trivial⟩ ⟨rfl, trivial⟩ ?_
    refine G.op1 (op_convI Try.underlying3 Try.underlying76 (Ev.t 10 (bI .i64 s_0.Site)) rfl) rfl ⟨rfl, trivial⟩ trivial ?_
    refine G.op1 (op_buildSlice (es := List.map encI_u64 [IntKind.wrap .u64 s_0.N, IntKind.wrap .u64 s_0.Site]) Try.underlying110 ti76 rfl rfl (EvP.cons (Ev.t 8 (bI .u64 (IntKind.wrap .u64 s_0.N))) (EvP.cons (Ev.t 11 (bI .u64 (IntKind.wrap .u64 s_0.Site))) EvP.nil)) rfl rfl (by simp [encI_u64]) rfl) rfl ⟨rfl, rfl, trivial⟩ trivial ?_
    obtain ⟨r3, hr3, hF⟩ := bindS hF
    refine G.op1 (op_callQ (sv := .one (bS r3)) cf74 (ct_vary_Join ([IntKind.wrap .u64 s_0.N, IntKind.wrap .u64 s_0.Site]) r3 hr3) rfl rfl (EvQL.cons (EvQ.g (Ev.t 12 (.g (.d (.sl 1 (List.map encI_u64 ([IntKind.wrap .u64 s_0.N, IntKind.wrap .u64 s_0.Site]))))))) EvQL.nil) rfl) rfl ⟨rfl, trivial⟩ trivial ?_
    refine G.op1 (op_assign (Ev.t 13 (bS r3)) rfl) rfl ⟨rfl, trivial⟩ trivial ?_
    refine G.endOps ?_
    cases hF
    exact G.ret1 Try.results49 (RVar.tmp 2 _) ⟨rfl, trivial⟩ trivial


set_option maxRecDepth 20000 in
set_option maxHeartbeats 2000000 in
theorem ct_past_Bytes (p_0 : (List Api_Dep)) (r : ByteArray) (hF : past_Bytes p_0 = some r) : Ct Try.prog 25 [.g (.d (.sl 3 (List.map encApi_Dep p_0)))] (.one (.d (.v (.string r)))) := by
  unfold past_Bytes at hF
  refine Ct.intro Try.func25 rfl Try.ntmps25 rfl rfl fun M w => ?_
  refine G.seq ?_
  refine G.region ?_
  refine G.op1 (op_assign (Ev.c _ rfl) rfl) rfl trivial trivial ?_
  refine G.endOps ?_
  refine G.seq ?_
  refine G.seq ?_
  refine G.region ?_
  refine G.op1 (op_move (Ev.t 0 (.g (.d (.sl 3 (List.map encApi_Dep p_0))))) rfl) rfl ⟨rfl, trivial⟩ trivial ?_
  obtain ⟨r1, hr1, hF⟩ := bindS hF
  refine G.op1 (op_callQ (sv := .one (bB r1)) cf13 (ct_past_Check p_0 r1 hr1) rfl rfl (EvQL.cons (EvQ.g (Ev.t 6 (.g (.d (.sl 3 (List.map encApi_Dep p_0)))))) EvQL.nil) rfl) rfl ⟨rfl, trivial⟩ trivial ?_
  refine G.op1 (op_not (Ev.t 7 (bB r1)) rfl) rfl ⟨rfl, trivial⟩ trivial ?_
  refine G.endOps ?_
  refine ifS hF (fun hc2 hF => ?_) (fun hc2 hF => ?_)
  · refine G.cond rfl (fun _ => ?_) (fun hx => by rw [hc2] at hx; cases hx)
    refine G.seq ?_
    refine G.region ?_
    refine G.op1 (op_assign (Ev.c _ rfl) rfl) rfl trivial trivial ?_
    refine G.endOps ?_
    cases hF
    exact G.ret1 Try.results25 (RVar.tmp 2 _) ⟨rfl, trivial⟩ trivial
  · refine G.cond rfl (fun hx => by rw [hc2] at hx; cases hx) (fun _ => ?_)
    refine G.skip ?_
    refine G.seq ?_
    refine G.region ?_
    refine G.opM (op_allocB (T := 70) (E := 5) (k := 1003) (kk := 3003) ti70 rfl rfl rfl) rfl trivial ⟨rfl, rfl, trivial⟩ ?_
    refine G.endOps ?_
    refine G.seq ?_
    refine G.region ?_
    refine G.op1 (op_move (Ev.t 0 (.g (.d (.sl 3 (List.map encApi_Dep p_0))))) rfl) rfl ⟨rfl, trivial⟩ trivial ?_
    refine G.op1 (OpL.cast (op_lenD Try.underlying22 (Ev.t 9 (.g (.d (.sl 3 (List.map encApi_Dep p_0))))) rfl) (by rw [List.length_map])) rfl ⟨rfl, trivial⟩ trivial ?_
    refine G.op1 (op_convI Try.underlying3 Try.underlying76 (Ev.t 10 (bI .i64 (p_0.length : Int))) rfl) rfl ⟨rfl, trivial⟩ trivial ?_
    obtain ⟨r3, hr3, hF⟩ := bindS hF
    refine G.op1 (op_callQ (sv := .one (bS r3)) cf47 (ct_vary_Number (IntKind.wrap .u64 (p_0.length : Int)) r3 hr3) rfl rfl (EvQL.cons (EvQ.g (Ev.t 11 (bI .u64 (IntKind.wrap .u64 (p_0.length : Int))))) EvQL.nil) rfl) rfl ⟨rfl, trivial⟩ trivial ?_
    obtain ⟨r4, hr4, hF⟩ := bindS hF
    refine G.opM (op_callM (k := 1003) (h := .bld 70 5 ByteArray.empty) (h' := .bld 70 5 r4) 3003 (sv := .tup [bI .i64 (r3.size : Int), .g (.d (.v .nilIface))]) cf46 (ct_bld_WriteString ByteArray.empty r3 r4 hr4) rfl rfl (EvM.pt (Ev.t 3 (.ptr 1003 0)) (EvM.g (Ev.t 12 (bS r3)) EvM.nil)) rfl) rfl ⟨rfl, rfl, trivial⟩ ⟨rfl, rfl, trivial⟩ ?_
    refine G.endOps ?_
    refine G.seq ?_
    refine G.seq ?_
    refine G.region ?_
    refine G.op1 (op_move (Ev.t 0 (.g (.d (.sl 3 (List.map encApi_Dep p_0))))) rfl) rfl ⟨rfl, trivial⟩ trivial ?_
    refine G.op1 (OpL.cast (op_lenD Try.underlying22 (Ev.t 14 (.g (.d (.sl 3 (List.map encApi_Dep p_0))))) rfl) (by rw [List.length_map])) rfl ⟨rfl, trivial⟩ trivial ?_
    refine G.op1 (op_move (Ev.c _ rfl) rfl) rfl trivial trivial ?_
    refine G.endOps ?_
    refine G.joinC (T := ByteArray) (fun y5 => ⟨[(3, .one (.ptr 1003 0))], [(1003, some (.bld 70 5 3003 y5)), (3003, some (.hid true 1003))]⟩) (fun y5 => past_Bytes_k1 y5 = some r) (fun y5 hF => ?_) (fun J7 => ?_)
    · unfold past_Bytes_k1 at hF
      refine G.seq ?_
      refine G.region ?_
      obtain ⟨r6, hr6, hF⟩ := bindS hF
      refine G.opM (op_callM (k := 1003) (h := .bld 70 5 y5) (h' := .gone) 3003 (sv := .one (bS r6)) cf50 (ct_bld_String y5 r6 hr6) rfl rfl (EvM.pt (Ev.t 3 (.ptr 1003 0)) EvM.nil) rfl) rfl ⟨rfl, trivial⟩ ⟨rfl, rfl, trivial⟩ ?_
      refine G.op1 (op_assign (Ev.t 29 (bS r6)) rfl) rfl ⟨rfl, trivial⟩ trivial ?_
      refine G.endOps ?_
      cases hF
      exact G.ret1 Try.results25 (RVar.tmp 2 _) ⟨rfl, trivial⟩ trivial
    refine G.block ?_
    refine G.keep (sl' := [(3, .one (.ptr 1003 0)), (14, .one (.g (.d (.sl 3 (List.map encApi_Dep p_0))))), (15, .one (bI .i64 (p_0.length : Int))), (16, .one (bI .i64 0))]) (hp' := [(1003, some (.bld 70 5 3003 r4)), (3003, some (.hid true 1003))]) ⟨rfl, rfl, rfl, rfl, trivial⟩ ⟨rfl, rfl, trivial⟩ rfl ?_
    refine G.loopF (fun (v8 : Int × ByteArray) => ⟨[(3, .one (.ptr 1003 0)), (14, .one (.g (.d (.sl 3 (List.map encApi_Dep p_0))))), (15, .one (bI .i64 (p_0.length : Int))), (16, .one (bI .i64 v8.1))], [(1003, some (.bld 70 5 3003 v8.2)), (3003, some (.hid true 1003))]⟩) hF rfl (fun K11 again10 v8 J9 hF => ?_)
    unfold past_Bytes_l2 at hF
    refine G.seq ?_
    refine G.region ?_
    refine G.op1 (op_lss (Ev.t 16 (bI .i64 v8.1)) (Ev.t 15 (bI .i64 (p_0.length : Int))) rfl) rfl ⟨rfl, rfl, trivial⟩ trivial ?_
    refine G.endOps ?_
    refine G.seq ?_
    refine ifS hF (fun hc12 hF => ?_) (fun hc12 hF => ?_)
    · refine G.cond rfl (fun _ => ?_) (fun hx => by rw [hc12] at hx; cases hx)
      refine G.skip ?_
      refine G.seq ?_
      refine G.block ?_
      refine G.seq ?_
      refine G.region ?_
      obtain ⟨x13, hx13, hF⟩ := bindS hF
      refine G.op1 (op_index (cs := [.v (.string x13.Key), .v (.int .i64 x13.Stamp.N), .v (.int .i64 x13.Stamp.Site)]) Try.underlying22 ti26 (idx_ok hx13).1 (idx_get hx13 encApi_Dep) (Ev.t 14 (.g (.d (.sl 3 (List.map encApi_Dep p_0))))) (Ev.t 16 (bI .i64 v8.1)) rfl) rfl ⟨rfl, rfl, trivial⟩ trivial ?_
      refine G.op1 (op_loadAE (ds := [.v (.string x13.Key), .v (.int .i64 x13.Stamp.N), .v (.int .i64 x13.Stamp.Site)]) Try.underlying26 rfl ti26 rfl (Ev.t 18 (.ep [.v (.string x13.Key), .v (.int .i64 x13.Stamp.N), .v (.int .i64 x13.Stamp.Site)])) rfl) rfl ⟨rfl, trivial⟩ trivial ?_
      refine G.op2 (op_alloc (k := 1005) (cs := [bS ByteArray.empty, bI .i64 0, bI .i64 0]) ti26 ⟨.v _ rfl, .v _ rfl, .v _ rfl, trivial⟩ rfl) rfl trivial ⟨rfl, trivial⟩ ?_
      refine G.op3 (op_storeA (cs' := [bS x13.Key, bI .i64 x13.Stamp.N, bI .i64 x13.Stamp.Site]) ti26 rfl rfl (Ev.t 5 (.ptr 1005 0)) (Ev.t 19 (.g (.agg [.v (.string x13.Key), .v (.int .i64 x13.Stamp.N), .v (.int .i64 x13.Stamp.Site)])))) rfl ⟨rfl, rfl, trivial⟩ ⟨rfl, trivial⟩ ?_
      refine G.endOps ?_
      obtain ⟨r14, hr14, hF⟩ := bindS hF
      obtain ⟨r15, hr15, hF⟩ := bindS hF
      obtain ⟨s16, hs16, hF⟩ := bindS hF
      obtain ⟨r17, hr17, hF⟩ := bindS hF
      refine G.drawn (effs := [⟨[(5, .one (.ptr 1005 0))], [], [(20, .one (.ptr 1005 0))], []⟩, ⟨[(20, .one (.ptr 1005 0))], [(1005, some (.blk 26 [bS x13.Key, bI .i64 x13.Stamp.N, bI .i64 x13.Stamp.Site]))], [(21, .one (bS x13.Key))], []⟩, ⟨[(21, .one (bS x13.Key))], [], [(22, .one (bS r14))], []⟩, ⟨[(5, .one (.ptr 1005 0))], [], [(23, .one (.ptr 1005 1))], []⟩, ⟨[(23, .one (.ptr 1005 1))], [(1005, some (.blk 26 [bS x13.Key, bI .i64 x13.Stamp.N, bI .i64 x13.Stamp.Site]))], [(24, .one (.g (.agg [.v (.int .i64 x13.Stamp.N), .v (.int .i64 x13.Stamp.Site)])))], []⟩, ⟨[(24, .one (.g (.agg [.v (.int .i64 x13.Stamp.N), .v (.int .i64 x13.Stamp.Site)])))], [], [(25, .one (bS r15))], []⟩, ⟨[(22, .one (bS r14)), (25, .one (bS r15))], [], [(26, .one (bS s16))], []⟩, ⟨[(3, .one (.ptr 1003 0)), (26, .one (bS s16))], [(1003, some (.bld 70 5 3003 v8.2)), (3003, some (.hid true 1003))], [(27, .tup [bI .i64 (s16.size : Int), .g (.d (.v .nilIface))])], [(1003, some (.bld 70 5 3003 r17)), (3003, some (.hid true 1003))]⟩]) (deps := [[], [0], [0, 1], [], [3], [0, 1, 2, 3, 4], [0, 1, 2, 3, 4, 5], [0, 1, 2, 3, 4, 5, 6]]) (sl' := [(3, .one (.ptr 1003 0)), (14, .one (.g (.d (.sl 3 (List.map encApi_Dep p_0))))), (15, .one (bI .i64 (p_0.length : Int))), (16, .one (bI .i64 v8.1))]) (hp' := [(1003, some (.bld 70 5 3003 r17)), (3003, some (.hid true 1003))]) follows rfl rfl rfl ⟨⟨rfl, trivial⟩, trivial, ⟨rfl, trivial⟩, ⟨⟨rfl, rfl⟩, trivial⟩, ⟨rfl, trivial⟩, trivial, ⟨rfl, trivial⟩, trivial, ⟨rfl, trivial⟩, ⟨⟨rfl, rfl⟩, trivial⟩, ⟨rfl, trivial⟩, trivial, ⟨rfl, rfl, trivial⟩, trivial, ⟨rfl, rfl, trivial⟩, ⟨⟨rfl, rfl⟩, ⟨rfl, rfl⟩, trivial⟩, trivial⟩ ⟨OpW.plain (op_fieldP (off' := 0) Try.underlying26 rfl ti9 (by decide) rfl (Ev.t 5 (.ptr 1005 0)) rfl) rfl rfl, OpW.plain (op_load1P (c := bS x13.Key) Try.underlying9 rfl rfl (Ev.t 20 (.ptr 1005 0)) rfl) rfl rfl, OpW.plain (op_callQ (sv := .one (bS r14)) cf48 (ct_vary_Text x13.Key r14 hr14) rfl rfl (EvQL.cons (EvQ.g (Ev.t 21 (bS x13.Key))) EvQL.nil) rfl) rfl rfl, OpW.plain (op_fieldP (off' := 1) Try.underlying26 rfl ti24 (by decide) rfl (Ev.t 5 (.ptr 1005 0)) rfl) rfl rfl, OpW.plain (op_loadAP (ds := [.v (.int .i64 x13.Stamp.N), .v (.int .i64 x13.Stamp.Site)]) Try.underlying24 rfl ti24 rfl (Ev.t 23 (.ptr 1005 1)) rfl) rfl rfl, OpW.plain (op_callQ (sv := .one (bS r15)) cf49 (ct_stamp_Bytes x13.Stamp r15 hr15) rfl rfl (EvQL.cons (EvQ.g (Ev.t 24 (.g (.agg [.v (.int .i64 x13.Stamp.N), .v (.int .i64 x13.Stamp.Site)])))) EvQL.nil) rfl) rfl rfl, OpW.plain (OpL.cast (op_cat (scat_ok hs16).1 (Ev.t 22 (bS r14)) (Ev.t 25 (bS r15)) rfl) (by rw [(scat_ok hs16).2])) rfl rfl, OpW.plain (op_callM (k := 1003) (h := .bld 70 5 v8.2) (h' := .bld 70 5 r17) 3003 (sv := .tup [bI .i64 (s16.size : Int), .g (.d (.v .nilIface))]) cf46 (ct_bld_WriteString v8.2 s16 r17 hr17) rfl rfl (EvM.pt (Ev.t 3 (.ptr 1003 0)) (EvM.g (Ev.t 26 (bS s16)) EvM.nil)) rfl) rfl rfl, trivial⟩ ⟨rfl, rfl, rfl, rfl, trivial⟩ ⟨rfl, rfl, trivial⟩ rfl ?_
      refine G.endBlock ?_
      refine G.region ?_
      refine G.op1 (op_add (Ev.t 16 (bI .i64 v8.1)) (Ev.c _ rfl) rfl) rfl ⟨rfl, trivial⟩ trivial ?_
      refine G.op1 (op_move (Ev.t 28 (bI .i64 (IntKind.wrap .i64 (v8.1 + 1)))) rfl) rfl ⟨rfl, trivial⟩ trivial ?_
      refine G.endOps ?_
      exact G.arr (J9 (IntKind.wrap .i64 (v8.1 + 1), r17) hF) ⟨rfl, rfl, rfl, rfl, trivial⟩ ⟨rfl, rfl, trivial⟩ rfl
    · refine G.cond rfl (fun hx => by rw [hc12] at hx; cases hx) (fun _ => ?_)
      refine G.exit ?_
      refine GX.c ?_
      refine GX.q ?_
      refine GX.bYes ?_
      exact G.arr (J7 v8.2 hF) ⟨rfl, trivial⟩ ⟨rfl, rfl, trivial⟩ rfl


set_option maxRecDepth 20000 in
set_option maxHeartbeats 2000000 in
theorem ct_vary_Read (s_0 : ByteArray) (at_1 : Int) (r : (Int × Int × Bool)) (hF : vary_Read s_0 at_1 = some r) : Ct Try.prog 54 [.g (.d (.v (.string s_0))), .g (.d (.v (.int .i64 at_1)))] (.tup [.d (.v (.int .u64 r.1)), .d (.v (.int .i64 r.2.1)), .d (.v (.bool r.2.2))]) := by
  unfold vary_Read at hF
  refine Ct.intro Try.func54 rfl Try.ntmps54 rfl rfl fun M w => ?_
  refine G.seq ?_
  refine G.region ?_
  refine G.op1 (op_assign (Ev.c _ rfl) rfl) rfl trivial trivial ?_
  refine G.op1 (op_assign (Ev.c _ rfl) rfl) rfl trivial trivial ?_
  refine G.op1 (op_assign (Ev.c _ rfl) rfl) rfl trivial trivial ?_
  refine G.endOps ?_
  refine G.scope ?_
  refine G.seq ?_
  refine G.seq ?_
  refine G.joinC (T := Bool) (fun y1 => ⟨[(0, .one (bS s_0)), (1, .one (bI .i64 at_1)), (4, .one (bI .u64 0)), (18, .one (bB y1))], []⟩) (fun y1 => vary_Read_k1 s_0 at_1 y1 = some r) (fun y1 hF => ?_) (fun J23 => ?_)
  · unfold vary_Read_k1 at hF
    refine ifS hF (fun hc2 hF => ?_) (fun hc2 hF => ?_)
    · refine G.cond rfl (fun _ => ?_) (fun hx => by rw [hc2] at hx; cases hx)
      refine G.seq ?_
      refine G.region ?_
      refine G.op1 (op_assign (Ev.c _ rfl) rfl) rfl trivial trivial ?_
      refine G.op1 (op_assign (Ev.c _ rfl) rfl) rfl trivial trivial ?_
      refine G.op1 (op_assign (Ev.c _ rfl) rfl) rfl trivial trivial ?_
      refine G.endOps ?_
      cases hF
      exact G.ret3 Try.results54 (RVar.tmp 4 _) (RVar.tmp 5 _) (RVar.tmp 6 _) ⟨rfl, rfl, rfl, trivial⟩ trivial
    · refine G.cond rfl (fun hx => by rw [hc2] at hx; cases hx) (fun _ => ?_)
      refine G.skip ?_
      refine G.seq ?_
      refine G.label ?_
      refine G.seq ?_
      refine G.seq ?_
      refine G.region ?_
      refine G.op1 (op_move (Ev.t 1 (bI .i64 at_1)) rfl) rfl ⟨rfl, trivial⟩ trivial ?_
      refine G.op1 (op_assign (Ev.t 19 (bI .i64 at_1)) rfl) rfl ⟨rfl, trivial⟩ trivial ?_
      refine G.endOps ?_
      refine G.joinC (T := Unit) (fun y3 => ⟨[], []⟩) (fun y3 => vary_Read_k2 y3 = some r) (fun y3 hF => ?_) (fun J4 => ?_)
      · unfold vary_Read_k2 at hF
        refine G.seq ?_
        refine G.region ?_
        refine G.op1 (op_assign (Ev.c _ rfl) rfl) rfl trivial trivial ?_
        refine G.op1 (op_assign (Ev.c _ rfl) rfl) rfl trivial trivial ?_
        refine G.op1 (op_assign (Ev.c _ rfl) rfl) rfl trivial trivial ?_
        refine G.endOps ?_
        cases hF
        exact G.ret3 Try.results54 (RVar.tmp 4 _) (RVar.tmp 5 _) (RVar.tmp 6 _) ⟨rfl, rfl, rfl, trivial⟩ trivial
      refine G.block ?_
      refine G.keep (sl' := [(0, .one (bS s_0)), (1, .one (bI .i64 at_1)), (4, .one (bI .u64 0)), (7, .one (bI .i64 at_1))]) (hp' := []) ⟨rfl, rfl, rfl, rfl, trivial⟩ trivial rfl ?_
      refine G.loopF (fun (v5 : Int × Int) => ⟨[(0, .one (bS s_0)), (1, .one (bI .i64 at_1)), (4, .one (bI .u64 v5.1)), (7, .one (bI .i64 v5.2))], []⟩) hF rfl (fun K8 again7 v5 J6 hF => ?_)
      unfold vary_Read_l3 at hF
      refine G.seq ?_
      refine G.seq ?_
      refine G.region ?_
      refine G.op1 (op_move (Ev.t 7 (bI .i64 v5.2)) rfl) rfl ⟨rfl, trivial⟩ trivial ?_
      refine G.op1 (op_move (Ev.t 0 (bS s_0)) rfl) rfl ⟨rfl, trivial⟩ trivial ?_
      refine G.op1 (op_lenS Try.underlying9 (Ev.t 21 (bS s_0)) rfl) rfl ⟨rfl, trivial⟩ trivial ?_
      refine G.op1 (op_lss (Ev.t 20 (bI .i64 v5.2)) (Ev.t 22 (bI .i64 (s_0.size : Int))) rfl) rfl ⟨rfl, rfl, trivial⟩ trivial ?_
      refine G.endOps ?_
      refine ifS hF (fun hc9 hF => ?_) (fun hc9 hF => ?_)
      · refine G.cond rfl (fun _ => ?_) (fun hx => by rw [hc9] at hx; cases hx)
        refine G.skip ?_
        refine G.seq ?_
        refine G.block ?_
        refine G.seq ?_
        refine G.region ?_
        refine G.op1 (op_move (Ev.t 0 (bS s_0)) rfl) rfl ⟨rfl, trivial⟩ trivial ?_
        refine G.op1 (op_move (Ev.t 7 (bI .i64 v5.2)) rfl) rfl ⟨rfl, trivial⟩ trivial ?_
        obtain ⟨b10, hb10, hF⟩ := bindS hF
        refine G.op1 (op_indexS Try.underlying9 (sidx_ok hb10).1 (sidx_ok hb10).2 (Ev.t 26 (bS s_0)) (Ev.t 27 (bI .i64 v5.2)) rfl) rfl ⟨rfl, rfl, trivial⟩ trivial ?_
        refine G.op1 (op_convI Try.underlying5 Try.underlying76 (Ev.t 28 (bI .u8 (b10.toNat : Int))) rfl) rfl ⟨rfl, trivial⟩ trivial ?_
        refine G.op1 (op_assign (Ev.t 29 (bI .u64 (IntKind.wrap .u64 (b10.toNat : Int)))) rfl) rfl ⟨rfl, trivial⟩ trivial ?_
        refine G.endOps ?_
        refine G.seq ?_
        refine G.region ?_
        refine G.op1 (op_move (Ev.t 7 (bI .i64 v5.2)) rfl) rfl ⟨rfl, trivial⟩ trivial ?_
        refine G.op1 (op_move (Ev.t 1 (bI .i64 at_1)) rfl) rfl ⟨rfl, trivial⟩ trivial ?_
        refine G.op1 (op_sub (Ev.t 30 (bI .i64 v5.2)) (Ev.t 31 (bI .i64 at_1)) rfl) rfl ⟨rfl, rfl, trivial⟩ trivial ?_
        refine G.op1 (op_mul (Ev.c _ rfl) (Ev.t 32 (bI .i64 (IntKind.wrap .i64 (v5.2 - at_1)))) rfl) rfl ⟨rfl, trivial⟩ trivial ?_
        refine G.op1 (op_assign (Ev.t 33 (bI .i64 (IntKind.wrap .i64 (7 * (IntKind.wrap .i64 (v5.2 - at_1)))))) rfl) rfl ⟨rfl, trivial⟩ trivial ?_
        refine G.endOps ?_
        refine G.seq ?_
        refine G.region ?_
        refine G.op1 (op_move (Ev.t 8 (bI .u64 (IntKind.wrap .u64 (b10.toNat : Int)))) rfl) rfl ⟨rfl, trivial⟩ trivial ?_
        refine G.op1 (op_andNot (Ev.t 34 (bI .u64 (IntKind.wrap .u64 (b10.toNat : Int)))) (Ev.c _ rfl) rfl) rfl ⟨rfl, trivial⟩ trivial ?_
        refine G.op1 (op_assign (Ev.t 35 (bI .u64 (IntKind.wrap .u64 (BitVec.ofInt (IntKind.bits .u64) (IntKind.wrap .u64 (b10.toNat : Int)) &&& ~~~BitVec.ofInt (IntKind.bits .u64) 128).toNat))) rfl) rfl ⟨rfl, trivial⟩ trivial ?_
        refine G.endOps ?_
        refine G.seq ?_
        refine G.seq ?_
        refine G.joinC (T := Bool) (fun y11 => ⟨[(0, .one (bS s_0)), (1, .one (bI .i64 at_1)), (4, .one (bI .u64 v5.1)), (7, .one (bI .i64 v5.2)), (8, .one (bI .u64 (IntKind.wrap .u64 (b10.toNat : Int)))), (9, .one (bI .i64 (IntKind.wrap .i64 (7 * (IntKind.wrap .i64 (v5.2 - at_1)))))), (10, .one (bI .u64 (IntKind.wrap .u64 (BitVec.ofInt (IntKind.bits .u64) (IntKind.wrap .u64 (b10.toNat : Int)) &&& ~~~BitVec.ofInt (IntKind.bits .u64) 128).toNat))), (55, .one (bB y11))], []⟩) (fun y11 => vary_Read_k4 at_1 again7 v5 b10 y11 = some r) (fun y11 hF => ?_) (fun J15 => ?_)
        · unfold vary_Read_k4 at hF
          refine ifS hF (fun hc12 hF => ?_) (fun hc12 hF => ?_)
          · refine G.cond rfl (fun _ => ?_) (fun hx => by rw [hc12] at hx; cases hx)
            refine G.exit ?_
            refine GX.c ?_
            refine GX.bNo rfl ?_
            refine GX.c ?_
            refine GX.q ?_
            refine GX.bYes ?_
            exact G.arr (J4 () hF) trivial trivial rfl
          · refine G.cond rfl (fun hx => by rw [hc12] at hx; cases hx) (fun _ => ?_)
            refine G.skip ?_
            refine G.seq ?_
            refine G.region ?_
            refine G.op1 (op_move (Ev.t 4 (bI .u64 v5.1)) rfl) rfl ⟨rfl, trivial⟩ trivial ?_
            refine G.op1 (op_move (Ev.t 10 (bI .u64 (IntKind.wrap .u64 (BitVec.ofInt (IntKind.bits .u64) (IntKind.wrap .u64 (b10.toNat : Int)) &&& ~~~BitVec.ofInt (IntKind.bits .u64) 128).toNat))) rfl) rfl ⟨rfl, trivial⟩ trivial ?_
            refine G.op1 (op_move (Ev.t 9 (bI .i64 (IntKind.wrap .i64 (7 * (IntKind.wrap .i64 (v5.2 - at_1)))))) rfl) rfl ⟨rfl, trivial⟩ trivial ?_
            obtain ⟨hz13, hF⟩ := chkS hF
            refine G.op1 (op_shl (of_decide_eq_true hz13) (Ev.t 57 (bI .u64 (IntKind.wrap .u64 (BitVec.ofInt (IntKind.bits .u64) (IntKind.wrap .u64 (b10.toNat : Int)) &&& ~~~BitVec.ofInt (IntKind.bits .u64) 128).toNat))) (Ev.t 58 (bI .i64 (IntKind.wrap .i64 (7 * (IntKind.wrap .i64 (v5.2 - at_1)))))) rfl) rfl ⟨rfl, rfl, trivial⟩ trivial ?_
            refine G.op1 (op_or (Ev.t 56 (bI .u64 v5.1)) (Ev.t 59 (bI .u64 (IntKind.wrap .u64 ((IntKind.wrap .u64 (BitVec.ofInt (IntKind.bits .u64) (IntKind.wrap .u64 (b10.toNat : Int)) &&& ~~~BitVec.ofInt (IntKind.bits .u64) 128).toNat) * 2 ^ min (Int.toNat (IntKind.wrap .i64 (7 * (IntKind.wrap .i64 (v5.2 - at_1))))) (IntKind.bits .u64))))) rfl) rfl ⟨rfl, rfl, trivial⟩ trivial ?_
            refine G.op1 (op_assign (Ev.t 60 (bI .u64 (IntKind.wrap .u64 (BitVec.ofInt (IntKind.bits .u64) v5.1 ||| BitVec.ofInt (IntKind.bits .u64) (IntKind.wrap .u64 ((IntKind.wrap .u64 (BitVec.ofInt (IntKind.bits .u64) (IntKind.wrap .u64 (b10.toNat : Int)) &&& ~~~BitVec.ofInt (IntKind.bits .u64) 128).toNat) * 2 ^ min (Int.toNat (IntKind.wrap .i64 (7 * (IntKind.wrap .i64 (v5.2 - at_1))))) (IntKind.bits .u64)))).toNat))) rfl) rfl ⟨rfl, trivial⟩ trivial ?_
            refine G.endOps ?_
            refine G.seq ?_
            refine G.region ?_
            refine G.op1 (op_move (Ev.t 8 (bI .u64 (IntKind.wrap .u64 (b10.toNat : Int)))) rfl) rfl ⟨rfl, trivial⟩ trivial ?_
            refine G.op1 (op_lss (Ev.t 61 (bI .u64 (IntKind.wrap .u64 (b10.toNat : Int)))) (Ev.c _ rfl) rfl) rfl ⟨rfl, trivial⟩ trivial ?_
            refine G.endOps ?_
            refine ifS hF (fun hc14 hF => ?_) (fun hc14 hF => ?_)
            · refine G.cond rfl (fun _ => ?_) (fun hx => by rw [hc14] at hx; cases hx)
              refine G.seq ?_
              refine G.region ?_
              refine G.op1 (op_move (Ev.t 4 (bI .u64 (IntKind.wrap .u64 (BitVec.ofInt (IntKind.bits .u64) v5.1 ||| BitVec.ofInt (IntKind.bits .u64) (IntKind.wrap .u64 ((IntKind.wrap .u64 (BitVec.ofInt (IntKind.bits .u64) (IntKind.wrap .u64 (b10.toNat : Int)) &&& ~~~BitVec.ofInt (IntKind.bits .u64) 128).toNat) * 2 ^ min (Int.toNat (IntKind.wrap .i64 (7 * (IntKind.wrap .i64 (v5.2 - at_1))))) (IntKind.bits .u64)))).toNat))) rfl) rfl ⟨rfl, trivial⟩ trivial ?_
              refine G.op1 (op_move (Ev.t 7 (bI .i64 v5.2)) rfl) rfl ⟨rfl, trivial⟩ trivial ?_
              refine G.op1 (op_add (Ev.t 64 (bI .i64 v5.2)) (Ev.c _ rfl) rfl) rfl ⟨rfl, trivial⟩ trivial ?_
              refine G.op1 (op_assign (Ev.t 63 (bI .u64 (IntKind.wrap .u64 (BitVec.ofInt (IntKind.bits .u64) v5.1 ||| BitVec.ofInt (IntKind.bits .u64) (IntKind.wrap .u64 ((IntKind.wrap .u64 (BitVec.ofInt (IntKind.bits .u64) (IntKind.wrap .u64 (b10.toNat : Int)) &&& ~~~BitVec.ofInt (IntKind.bits .u64) 128).toNat) * 2 ^ min (Int.toNat (IntKind.wrap .i64 (7 * (IntKind.wrap .i64 (v5.2 - at_1))))) (IntKind.bits .u64)))).toNat))) rfl) rfl ⟨rfl, trivial⟩ trivial ?_
              refine G.op1 (op_assign (Ev.t 65 (bI .i64 (IntKind.wrap .i64 (v5.2 + 1)))) rfl) rfl ⟨rfl, trivial⟩ trivial ?_
              refine G.op1 (op_assign (Ev.c _ rfl) rfl) rfl trivial trivial ?_
              refine G.endOps ?_
              cases hF
              exact G.ret3 Try.results54 (RVar.tmp 4 _) (RVar.tmp 5 _) (RVar.tmp 6 _) ⟨rfl, rfl, rfl, trivial⟩ trivial
            · refine G.cond rfl (fun hx => by rw [hc14] at hx; cases hx) (fun _ => ?_)
              refine G.skip ?_
              refine G.endBlock ?_
              refine G.region ?_
              refine G.op1 (op_move (Ev.t 7 (bI .i64 v5.2)) rfl) rfl ⟨rfl, trivial⟩ trivial ?_
              refine G.op1 (op_add (Ev.t 24 (bI .i64 v5.2)) (Ev.c _ rfl) rfl) rfl ⟨rfl, trivial⟩ trivial ?_
              refine G.op1 (op_assign (Ev.t 25 (bI .i64 (IntKind.wrap .i64 (v5.2 + 1)))) rfl) rfl ⟨rfl, trivial⟩ trivial ?_
              refine G.endOps ?_
              exact G.arr (J6 (IntKind.wrap .u64 (BitVec.ofInt (IntKind.bits .u64) v5.1 ||| BitVec.ofInt (IntKind.bits .u64) (IntKind.wrap .u64 ((IntKind.wrap .u64 (BitVec.ofInt (IntKind.bits .u64) (IntKind.wrap .u64 (b10.toNat : Int)) &&& ~~~BitVec.ofInt (IntKind.bits .u64) 128).toNat) * 2 ^ min (Int.toNat (IntKind.wrap .i64 (7 * (IntKind.wrap .i64 (v5.2 - at_1))))) (IntKind.bits .u64)))).toNat, IntKind.wrap .i64 (v5.2 + 1)) hF) ⟨rfl, rfl, rfl, rfl, trivial⟩ trivial rfl
        refine G.region ?_
        refine G.op1 (op_move (Ev.t 9 (bI .i64 (IntKind.wrap .i64 (7 * (IntKind.wrap .i64 (v5.2 - at_1)))))) rfl) rfl ⟨rfl, trivial⟩ trivial ?_
        refine G.op1 (op_geq (Ev.t 36 (bI .i64 (IntKind.wrap .i64 (7 * (IntKind.wrap .i64 (v5.2 - at_1)))))) (Ev.c _ rfl) rfl) rfl ⟨rfl, trivial⟩ trivial ?_
        refine G.op1 (op_move (Ev.t 37 (bB (decide (64 ≤ (IntKind.wrap .i64 (7 * (IntKind.wrap .i64 (v5.2 - at_1)))))))) rfl) rfl ⟨rfl, trivial⟩ trivial ?_
        refine G.joinL (T := Bool) 8 (fun y16 => ⟨[(0, .one (bS s_0)), (1, .one (bI .i64 at_1)), (4, .one (bI .u64 v5.1)), (7, .one (bI .i64 v5.2)), (8, .one (bI .u64 (IntKind.wrap .u64 (b10.toNat : Int)))), (9, .one (bI .i64 (IntKind.wrap .i64 (7 * (IntKind.wrap .i64 (v5.2 - at_1)))))), (10, .one (bI .u64 (IntKind.wrap .u64 (BitVec.ofInt (IntKind.bits .u64) (IntKind.wrap .u64 (b10.toNat : Int)) &&& ~~~BitVec.ofInt (IntKind.bits .u64) 128).toNat))), (46, .one (bB y16))], []⟩) (fun y16 => vary_Read_k5 at_1 again7 v5 b10 y16 = some r) (fun y16 hF => ?_) (fun J19 => ?_)
        · unfold vary_Read_k5 at hF
          refine G.op1 (op_move (Ev.t 46 (bB y16)) rfl) rfl ⟨rfl, trivial⟩ trivial ?_
          refine ifS hF (fun hc17 hF => ?_) (fun hc17 hF => ?_)
          · refine G.known (t := 47) hc17 rfl ?_
            refine G.opN1 rfl rfl rfl rfl rfl ?_
            refine G.opN1 rfl rfl rfl rfl rfl ?_
            refine G.opN1 rfl rfl rfl rfl rfl ?_
            refine G.opU rfl rfl rfl rfl ?_
            refine G.opU rfl rfl rfl rfl ?_
            refine G.opU rfl rfl rfl rfl ?_
            refine G.opN1 rfl rfl rfl rfl rfl ?_
            refine G.op1 (op_pickT (Ev.t 47 (bB true)) (Ev.c _ rfl) rfl) rfl ⟨rfl, trivial⟩ trivial ?_
            refine G.endOps ?_
            exact G.arr (J15 true hF) ⟨rfl, rfl, rfl, rfl, rfl, rfl, rfl, rfl, trivial⟩ trivial rfl
          · refine G.known (t := 47) hc17 rfl ?_
            refine G.opG1 (op_move (Ev.t 8 (bI .u64 (IntKind.wrap .u64 (b10.toNat : Int)))) rfl) rfl rfl rfl ⟨rfl, trivial⟩ trivial ?_
            refine G.opG1 (op_eqI (Ev.t 48 (bI .u64 (IntKind.wrap .u64 (b10.toNat : Int)))) (Ev.c _ rfl) rfl) rfl rfl rfl ⟨rfl, trivial⟩ trivial ?_
            refine G.opG1 (op_move (Ev.t 49 (bB (decide ((IntKind.wrap .u64 (b10.toNat : Int)) = 0)))) rfl) rfl rfl rfl ⟨rfl, trivial⟩ trivial ?_
            refine ifS hF (fun hc18 hF => ?_) (fun hc18 hF => ?_)
            · refine G.known (t := 50) hc18 rfl ?_
              refine G.opG1 (op_move (Ev.t 7 (bI .i64 v5.2)) rfl) rfl rfl rfl ⟨rfl, trivial⟩ trivial ?_
              refine G.opG1 (op_move (Ev.t 1 (bI .i64 at_1)) rfl) rfl rfl rfl ⟨rfl, trivial⟩ trivial ?_
              refine G.opG1 (op_gtr (Ev.t 51 (bI .i64 v5.2)) (Ev.t 52 (bI .i64 at_1)) rfl) rfl rfl rfl ⟨rfl, rfl, trivial⟩ trivial ?_
              refine G.opG1 (op_pickT (Ev.t 50 (bB true)) (Ev.t 53 (bB (decide (at_1 < v5.2)))) rfl) rfl rfl rfl ⟨rfl, rfl, trivial⟩ trivial ?_
              refine G.op1 (op_pickF (Ev.t 47 (bB false)) (Ev.t 54 (bB (decide (at_1 < v5.2)))) rfl) rfl ⟨rfl, rfl, trivial⟩ trivial ?_
              refine G.endOps ?_
              exact G.arr (J15 (decide (at_1 < v5.2)) hF) ⟨rfl, rfl, rfl, rfl, rfl, rfl, rfl, rfl, trivial⟩ trivial rfl
            · refine G.known (t := 50) hc18 rfl ?_
              refine G.opN1 rfl rfl rfl rfl rfl ?_
              refine G.opN1 rfl rfl rfl rfl rfl ?_
              refine G.opN1 rfl rfl rfl rfl rfl ?_
              refine G.opG1 (op_pickF (Ev.t 50 (bB false)) (Ev.c _ rfl) rfl) rfl rfl rfl ⟨rfl, trivial⟩ trivial ?_
              refine G.op1 (op_pickF (Ev.t 47 (bB false)) (Ev.t 54 (bB false)) rfl) rfl ⟨rfl, rfl, trivial⟩ trivial ?_
              refine G.endOps ?_
              exact G.arr (J15 false hF) ⟨rfl, rfl, rfl, rfl, rfl, rfl, rfl, rfl, trivial⟩ trivial rfl
        refine ifS hF (fun hc20 hF => ?_) (fun hc20 hF => ?_)
        · refine G.known (t := 38) hc20 rfl ?_
          refine G.opN1 rfl rfl rfl rfl rfl ?_
          refine G.opN1 rfl rfl rfl rfl rfl ?_
          refine G.opN1 rfl rfl rfl rfl rfl ?_
          refine G.opN1 rfl rfl rfl rfl rfl ?_
          refine G.opN1 rfl rfl rfl rfl rfl ?_
          refine G.opN1 rfl rfl rfl rfl rfl ?_
          refine G.opN1 rfl rfl rfl rfl rfl ?_
          refine G.op1 (op_pickT (Ev.t 38 (bB true)) (Ev.c _ rfl) rfl) rfl ⟨rfl, trivial⟩ trivial ?_
          exact G.arr (J19 true hF) ⟨rfl, rfl, rfl, rfl, rfl, rfl, rfl, rfl, trivial⟩ trivial rfl
        · refine G.known (t := 38) hc20 rfl ?_
          refine G.opG1 (op_move (Ev.t 10 (bI .u64 (IntKind.wrap .u64 (BitVec.ofInt (IntKind.bits .u64) (IntKind.wrap .u64 (b10.toNat : Int)) &&& ~~~BitVec.ofInt (IntKind.bits .u64) 128).toNat))) rfl) rfl rfl rfl ⟨rfl, trivial⟩ trivial ?_
          refine G.opG1 (op_move (Ev.t 9 (bI .i64 (IntKind.wrap .i64 (7 * (IntKind.wrap .i64 (v5.2 - at_1)))))) rfl) rfl rfl rfl ⟨rfl, trivial⟩ trivial ?_
          obtain ⟨hz21, hF⟩ := chkS hF
          refine G.opG1 (op_shl (of_decide_eq_true hz21) (Ev.t 39 (bI .u64 (IntKind.wrap .u64 (BitVec.ofInt (IntKind.bits .u64) (IntKind.wrap .u64 (b10.toNat : Int)) &&& ~~~BitVec.ofInt (IntKind.bits .u64) 128).toNat))) (Ev.t 40 (bI .i64 (IntKind.wrap .i64 (7 * (IntKind.wrap .i64 (v5.2 - at_1)))))) rfl) rfl rfl rfl ⟨rfl, rfl, trivial⟩ trivial ?_
          refine G.opG1 (op_move (Ev.t 9 (bI .i64 (IntKind.wrap .i64 (7 * (IntKind.wrap .i64 (v5.2 - at_1)))))) rfl) rfl rfl rfl ⟨rfl, trivial⟩ trivial ?_
          obtain ⟨hz22, hF⟩ := chkS hF
          refine G.opG1 (op_shr (of_decide_eq_true hz22) (Ev.t 41 (bI .u64 (IntKind.wrap .u64 ((IntKind.wrap .u64 (BitVec.ofInt (IntKind.bits .u64) (IntKind.wrap .u64 (b10.toNat : Int)) &&& ~~~BitVec.ofInt (IntKind.bits .u64) 128).toNat) * 2 ^ min (Int.toNat (IntKind.wrap .i64 (7 * (IntKind.wrap .i64 (v5.2 - at_1))))) (IntKind.bits .u64))))) (Ev.t 42 (bI .i64 (IntKind.wrap .i64 (7 * (IntKind.wrap .i64 (v5.2 - at_1)))))) rfl) rfl rfl rfl ⟨rfl, rfl, trivial⟩ trivial ?_
          refine G.opG1 (op_move (Ev.t 10 (bI .u64 (IntKind.wrap .u64 (BitVec.ofInt (IntKind.bits .u64) (IntKind.wrap .u64 (b10.toNat : Int)) &&& ~~~BitVec.ofInt (IntKind.bits .u64) 128).toNat))) rfl) rfl rfl rfl ⟨rfl, trivial⟩ trivial ?_
          refine G.opG1 (op_neI (Ev.t 43 (bI .u64 (Int.fdiv (IntKind.wrap .u64 ((IntKind.wrap .u64 (BitVec.ofInt (IntKind.bits .u64) (IntKind.wrap .u64 (b10.toNat : Int)) &&& ~~~BitVec.ofInt (IntKind.bits .u64) 128).toNat) * 2 ^ min (Int.toNat (IntKind.wrap .i64 (7 * (IntKind.wrap .i64 (v5.2 - at_1))))) (IntKind.bits .u64))) (2 ^ min (Int.toNat (IntKind.wrap .i64 (7 * (IntKind.wrap .i64 (v5.2 - at_1))))) (IntKind.bits .u64))))) (Ev.t 44 (bI .u64 (IntKind.wrap .u64 (BitVec.ofInt (IntKind.bits .u64) (IntKind.wrap .u64 (b10.toNat : Int)) &&& ~~~BitVec.ofInt (IntKind.bits .u64) 128).toNat))) rfl) rfl rfl rfl ⟨rfl, rfl, trivial⟩ trivial ?_
          refine G.op1 (op_pickF (Ev.t 38 (bB false)) (Ev.t 45 (bB (!decide ((Int.fdiv (IntKind.wrap .u64 ((IntKind.wrap .u64 (BitVec.ofInt (IntKind.bits .u64) (IntKind.wrap .u64 (b10.toNat : Int)) &&& ~~~BitVec.ofInt (IntKind.bits .u64) 128).toNat) * 2 ^ min (Int.toNat (IntKind.wrap .i64 (7 * (IntKind.wrap .i64 (v5.2 - at_1))))) (IntKind.bits .u64))) (2 ^ min (Int.toNat (IntKind.wrap .i64 (7 * (IntKind.wrap .i64 (v5.2 - at_1))))) (IntKind.bits .u64))) = (IntKind.wrap .u64 (BitVec.ofInt (IntKind.bits .u64) (IntKind.wrap .u64 (b10.toNat : Int)) &&& ~~~BitVec.ofInt (IntKind.bits .u64) 128).toNat))))) rfl) rfl ⟨rfl, rfl, trivial⟩ trivial ?_
          exact G.arr (J19 (!decide ((Int.fdiv (IntKind.wrap .u64 ((IntKind.wrap .u64 (BitVec.ofInt (IntKind.bits .u64) (IntKind.wrap .u64 (b10.toNat : Int)) &&& ~~~BitVec.ofInt (IntKind.bits .u64) 128).toNat) * 2 ^ min (Int.toNat (IntKind.wrap .i64 (7 * (IntKind.wrap .i64 (v5.2 - at_1))))) (IntKind.bits .u64))) (2 ^ min (Int.toNat (IntKind.wrap .i64 (7 * (IntKind.wrap .i64 (v5.2 - at_1))))) (IntKind.bits .u64))) = (IntKind.wrap .u64 (BitVec.ofInt (IntKind.bits .u64) (IntKind.wrap .u64 (b10.toNat : Int)) &&& ~~~BitVec.ofInt (IntKind.bits .u64) 128).toNat))) hF) ⟨rfl, rfl, rfl, rfl, rfl, rfl, rfl, rfl, trivial⟩ trivial rfl
      · refine G.cond rfl (fun hx => by rw [hc9] at hx; cases hx) (fun _ => ?_)
        refine G.exit ?_
        refine GX.c ?_
        refine GX.q ?_
        refine GX.bYes ?_
        exact G.arr (J4 () hF) trivial trivial rfl
  refine G.region ?_
  refine G.op1 (op_move (Ev.t 1 (bI .i64 at_1)) rfl) rfl ⟨rfl, trivial⟩ trivial ?_
  refine G.op1 (op_lss (Ev.t 11 (bI .i64 at_1)) (Ev.c _ rfl) rfl) rfl ⟨rfl, trivial⟩ trivial ?_
  refine G.op1 (op_move (Ev.t 12 (bB (decide (at_1 < 0)))) rfl) rfl ⟨rfl, trivial⟩ trivial ?_
  refine ifS hF (fun hc24 hF => ?_) (fun hc24 hF => ?_)
  · refine G.known (t := 13) hc24 rfl ?_
    refine G.opN1 rfl rfl rfl rfl rfl ?_
    refine G.opN1 rfl rfl rfl rfl rfl ?_
    refine G.opN1 rfl rfl rfl rfl rfl ?_
    refine G.opN1 rfl rfl rfl rfl rfl ?_
    refine G.op1 (op_pickT (Ev.t 13 (bB true)) (Ev.c _ rfl) rfl) rfl ⟨rfl, trivial⟩ trivial ?_
    refine G.endOps ?_
    exact G.arr (J23 true hF) ⟨rfl, rfl, rfl, rfl, trivial⟩ trivial rfl
  · refine G.known (t := 13) hc24 rfl ?_
    refine G.opG1 (op_move (Ev.t 1 (bI .i64 at_1)) rfl) rfl rfl rfl ⟨rfl, trivial⟩ trivial ?_
    refine G.opG1 (op_move (Ev.t 0 (bS s_0)) rfl) rfl rfl rfl ⟨rfl, trivial⟩ trivial ?_
    refine G.opG1 (op_lenS Try.underlying9 (Ev.t 15 (bS s_0)) rfl) rfl rfl rfl ⟨rfl, trivial⟩ trivial ?_
    refine G.opG1 (op_geq (Ev.t 14 (bI .i64 at_1)) (Ev.t 16 (bI .i64 (s_0.size : Int))) rfl) rfl rfl rfl ⟨rfl, rfl, trivial⟩ trivial ?_
    refine G.op1 (op_pickF (Ev.t 13 (bB false)) (Ev.t 17 (bB (decide ((s_0.size : Int) ≤ at_1)))) rfl) rfl ⟨rfl, rfl, trivial⟩ trivial ?_
    refine G.endOps ?_
    exact G.arr (J23 (decide ((s_0.size : Int) ≤ at_1)) hF) ⟨rfl, rfl, rfl, rfl, trivial⟩ trivial rfl


set_option maxRecDepth 20000 in
set_option maxHeartbeats 2000000 in
theorem ct_vary_ReadText (s_0 : ByteArray) (at_1 : Int) (most_2 : Int) (r : (ByteArray × Int × Bool)) (hF : vary_ReadText s_0 at_1 most_2 = some r) : Ct Try.prog 55 [.g (.d (.v (.string s_0))), .g (.d (.v (.int .i64 at_1))), .g (.d (.v (.int .i64 most_2)))] (.tup [.d (.v (.string r.1)), .d (.v (.int .i64 r.2.1)), .d (.v (.bool r.2.2))]) := by
  unfold vary_ReadText at hF
  refine Ct.intro Try.func55 rfl Try.ntmps55 rfl rfl fun M w => ?_
  refine G.seq ?_
  refine G.region ?_
  refine G.op1 (op_assign (Ev.c _ rfl) rfl) rfl trivial trivial ?_
  refine G.op1 (op_assign (Ev.c _ rfl) rfl) rfl trivial trivial ?_
  refine G.op1 (op_assign (Ev.c _ rfl) rfl) rfl trivial trivial ?_
  refine G.endOps ?_
  refine G.seq ?_
  refine G.region ?_
  refine G.op1 (op_move (Ev.t 0 (bS s_0)) rfl) rfl ⟨rfl, trivial⟩ trivial ?_
  refine G.op1 (op_move (Ev.t 1 (bI .i64 at_1)) rfl) rfl ⟨rfl, trivial⟩ trivial ?_
  obtain ⟨r1, hr1, hF⟩ := bindS hF
  refine G.op1 (op_callQ (sv := .tup [bI .u64 r1.1, bI .i64 r1.2.1, bB r1.2.2]) cf54 (ct_vary_Read s_0 at_1 r1 hr1) rfl rfl (EvQL.cons (EvQ.g (Ev.t 12 (bS s_0))) (EvQL.cons (EvQ.g (Ev.t 13 (bI .i64 at_1))) EvQL.nil)) rfl) rfl ⟨rfl, rfl, trivial⟩ trivial ?_
  refine G.op1 (op_moveS (t := 14) (sv := .tup [bI .u64 r1.1, bI .i64 r1.2.1, bB r1.2.2]) rfl) rfl ⟨rfl, trivial⟩ trivial ?_
  refine G.op1 (op_extract (l := [bI .u64 r1.1, bI .i64 r1.2.1, bB r1.2.2]) (c := bI .u64 r1.1) rfl rfl) rfl ⟨rfl, trivial⟩ trivial ?_
  refine G.op1 (op_extract (l := [bI .u64 r1.1, bI .i64 r1.2.1, bB r1.2.2]) (c := bI .i64 r1.2.1) rfl rfl) rfl ⟨rfl, trivial⟩ trivial ?_
  refine G.op1 (op_extract (l := [bI .u64 r1.1, bI .i64 r1.2.1, bB r1.2.2]) (c := bB r1.2.2) rfl rfl) rfl ⟨rfl, trivial⟩ trivial ?_
  refine G.op1 (op_assign (Ev.t 15 (bI .u64 r1.1)) rfl) rfl ⟨rfl, trivial⟩ trivial ?_
  refine G.op1 (op_assign (Ev.t 16 (bI .i64 r1.2.1)) rfl) rfl ⟨rfl, trivial⟩ trivial ?_
  refine G.op1 (op_assign (Ev.t 17 (bB r1.2.2)) rfl) rfl ⟨rfl, trivial⟩ trivial ?_
  refine G.endOps ?_
  refine G.seq ?_
  refine G.seq ?_
  refine G.joinC (T := Bool) (fun y2 => ⟨[(0, .one (bS s_0)), (9, .one (bI .u64 r1.1)), (10, .one (bI .i64 r1.2.1)), (38, .one (bB y2))], []⟩) (fun y2 => vary_ReadText_k1 s_0 r1 y2 = some r) (fun y2 hF => ?_) (fun J5 => ?_)
  · unfold vary_ReadText_k1 at hF
    refine ifS hF (fun hc3 hF => ?_) (fun hc3 hF => ?_)
    · refine G.cond rfl (fun _ => ?_) (fun hx => by rw [hc3] at hx; cases hx)
      refine G.seq ?_
      refine G.region ?_
      refine G.op1 (op_assign (Ev.c _ rfl) rfl) rfl trivial trivial ?_
      refine G.op1 (op_assign (Ev.c _ rfl) rfl) rfl trivial trivial ?_
      refine G.op1 (op_assign (Ev.c _ rfl) rfl) rfl trivial trivial ?_
      refine G.endOps ?_
      cases hF
      exact G.ret3 Try.results55 (RVar.tmp 6 _) (RVar.tmp 7 _) (RVar.tmp 8 _) ⟨rfl, rfl, rfl, trivial⟩ trivial
    · refine G.cond rfl (fun hx => by rw [hc3] at hx; cases hx) (fun _ => ?_)
      refine G.skip ?_
      refine G.seq ?_
      refine G.region ?_
      refine G.op1 (op_move (Ev.t 10 (bI .i64 r1.2.1)) rfl) rfl ⟨rfl, trivial⟩ trivial ?_
      refine G.op1 (op_move (Ev.t 9 (bI .u64 r1.1)) rfl) rfl ⟨rfl, trivial⟩ trivial ?_
      refine G.op1 (op_convI Try.underlying76 Try.underlying3 (Ev.t 40 (bI .u64 r1.1)) rfl) rfl ⟨rfl, trivial⟩ trivial ?_
      refine G.op1 (op_add (Ev.t 39 (bI .i64 r1.2.1)) (Ev.t 41 (bI .i64 (IntKind.wrap .i64 r1.1))) rfl) rfl ⟨rfl, rfl, trivial⟩ trivial ?_
      refine G.op1 (op_assign (Ev.t 42 (bI .i64 (IntKind.wrap .i64 (r1.2.1 + (IntKind.wrap .i64 r1.1))))) rfl) rfl ⟨rfl, trivial⟩ trivial ?_
      refine G.endOps ?_
      refine G.seq ?_
      refine G.region ?_
      refine G.op1 (op_move (Ev.t 0 (bS s_0)) rfl) rfl ⟨rfl, trivial⟩ trivial ?_
      refine G.op1 (op_move (Ev.t 10 (bI .i64 r1.2.1)) rfl) rfl ⟨rfl, trivial⟩ trivial ?_
      refine G.op1 (op_move (Ev.t 7 (bI .i64 (IntKind.wrap .i64 (r1.2.1 + (IntKind.wrap .i64 r1.1))))) rfl) rfl ⟨rfl, trivial⟩ trivial ?_
      obtain ⟨s4, hs4, hF⟩ := bindS hF
      refine G.op1 (OpL.cast (op_sliceS (lo := some r1.2.1) (hi := some (IntKind.wrap .i64 (r1.2.1 + (IntKind.wrap .i64 r1.1)))) Try.underlying9 (ssub_ok hs4).1 (ssub_ok hs4).2.1 (ssub_ok hs4).2.2.1 (Ev.t 43 (bS s_0)) (EvO.some (Ev.t 44 (bI .i64 r1.2.1))) (EvO.some (Ev.t 45 (bI .i64 (IntKind.wrap .i64 (r1.2.1 + (IntKind.wrap .i64 r1.1)))))) rfl) (congrArg (fun s => bS s) (ssub_ok hs4).2.2.2)) rfl ⟨rfl, rfl, rfl, trivial⟩ trivial ?_
      refine G.op1 (op_move (Ev.t 7 (bI .i64 (IntKind.wrap .i64 (r1.2.1 + (IntKind.wrap .i64 r1.1))))) rfl) rfl ⟨rfl, trivial⟩ trivial ?_
      refine G.op1 (op_assign (Ev.t 46 (bS s4)) rfl) rfl ⟨rfl, trivial⟩ trivial ?_
      refine G.op1 (op_assign (Ev.t 47 (bI .i64 (IntKind.wrap .i64 (r1.2.1 + (IntKind.wrap .i64 r1.1))))) rfl) rfl ⟨rfl, trivial⟩ trivial ?_
      refine G.op1 (op_assign (Ev.c _ rfl) rfl) rfl trivial trivial ?_
      refine G.endOps ?_
      cases hF
      exact G.ret3 Try.results55 (RVar.tmp 6 _) (RVar.tmp 7 _) (RVar.tmp 8 _) ⟨rfl, rfl, rfl, trivial⟩ trivial
  refine G.region ?_
  refine G.op1 (op_move (Ev.t 8 (bB r1.2.2)) rfl) rfl ⟨rfl, trivial⟩ trivial ?_
  refine G.op1 (op_not (Ev.t 18 (bB r1.2.2)) rfl) rfl ⟨rfl, trivial⟩ trivial ?_
  refine G.op1 (op_move (Ev.t 19 (bB (!r1.2.2))) rfl) rfl ⟨rfl, trivial⟩ trivial ?_
  refine G.joinL (T := Bool) 3 (fun y6 => ⟨[(0, .one (bS s_0)), (2, .one (bI .i64 most_2)), (9, .one (bI .u64 r1.1)), (10, .one (bI .i64 r1.2.1)), (23, .one (bB y6))], []⟩) (fun y6 => vary_ReadText_k2 s_0 most_2 r1 y6 = some r) (fun y6 hF => ?_) (fun J11 => ?_)
  · unfold vary_ReadText_k2 at hF
    refine G.op1 (op_move (Ev.t 23 (bB y6)) rfl) rfl ⟨rfl, trivial⟩ trivial ?_
    refine G.joinL (T := Bool) 5 (fun y7 => ⟨[(0, .one (bS s_0)), (9, .one (bI .u64 r1.1)), (10, .one (bI .i64 r1.2.1)), (29, .one (bB y7))], []⟩) (fun y7 => vary_ReadText_k3 s_0 r1 y7 = some r) (fun y7 hF => ?_) (fun J9 => ?_)
    · unfold vary_ReadText_k3 at hF
      refine G.op1 (op_move (Ev.t 29 (bB y7)) rfl) rfl ⟨rfl, trivial⟩ trivial ?_
      refine ifS hF (fun hc8 hF => ?_) (fun hc8 hF => ?_)
      · refine G.known (t := 30) hc8 rfl ?_
        refine G.opN1 rfl rfl rfl rfl rfl ?_
        refine G.opN1 rfl rfl rfl rfl rfl ?_
        refine G.opN1 rfl rfl rfl rfl rfl ?_
        refine G.opN1 rfl rfl rfl rfl rfl ?_
        refine G.opN1 rfl rfl rfl rfl rfl ?_
        refine G.opN1 rfl rfl rfl rfl rfl ?_
        refine G.opN1 rfl rfl rfl rfl rfl ?_
        refine G.op1 (op_pickT (Ev.t 30 (bB true)) (Ev.c _ rfl) rfl) rfl ⟨rfl, trivial⟩ trivial ?_
        refine G.endOps ?_
        exact G.arr (J5 true hF) ⟨rfl, rfl, rfl, rfl, trivial⟩ trivial rfl
      · refine G.known (t := 30) hc8 rfl ?_
        refine G.opG1 (op_move (Ev.t 9 (bI .u64 r1.1)) rfl) rfl rfl rfl ⟨rfl, trivial⟩ trivial ?_
        refine G.opG1 (op_move (Ev.t 0 (bS s_0)) rfl) rfl rfl rfl ⟨rfl, trivial⟩ trivial ?_
        refine G.opG1 (op_lenS Try.underlying9 (Ev.t 32 (bS s_0)) rfl) rfl rfl rfl ⟨rfl, trivial⟩ trivial ?_
        refine G.opG1 (op_move (Ev.t 10 (bI .i64 r1.2.1)) rfl) rfl rfl rfl ⟨rfl, trivial⟩ trivial ?_
        refine G.opG1 (op_sub (Ev.t 33 (bI .i64 (s_0.size : Int))) (Ev.t 34 (bI .i64 r1.2.1)) rfl) rfl rfl rfl ⟨rfl, rfl, trivial⟩ trivial ?_
        refine G.opG1 (op_convI Try.underlying3 Try.underlying76 (Ev.t 35 (bI .i64 (IntKind.wrap .i64 ((s_0.size : Int) - r1.2.1)))) rfl) rfl rfl rfl ⟨rfl, trivial⟩ trivial ?_
        refine G.opG1 (op_gtr (Ev.t 31 (bI .u64 r1.1)) (Ev.t 36 (bI .u64 (IntKind.wrap .u64 (IntKind.wrap .i64 ((s_0.size : Int) - r1.2.1))))) rfl) rfl rfl rfl ⟨rfl, rfl, trivial⟩ trivial ?_
        refine G.op1 (op_pickF (Ev.t 30 (bB false)) (Ev.t 37 (bB (decide ((IntKind.wrap .u64 (IntKind.wrap .i64 ((s_0.size : Int) - r1.2.1))) < r1.1)))) rfl) rfl ⟨rfl, rfl, trivial⟩ trivial ?_
        refine G.endOps ?_
        exact G.arr (J5 (decide ((IntKind.wrap .u64 (IntKind.wrap .i64 ((s_0.size : Int) - r1.2.1))) < r1.1)) hF) ⟨rfl, rfl, rfl, rfl, trivial⟩ trivial rfl
    refine ifS hF (fun hc10 hF => ?_) (fun hc10 hF => ?_)
    · refine G.known (t := 24) hc10 rfl ?_
      refine G.opN1 rfl rfl rfl rfl rfl ?_
      refine G.opN1 rfl rfl rfl rfl rfl ?_
      refine G.opN1 rfl rfl rfl rfl rfl ?_
      refine G.opN1 rfl rfl rfl rfl rfl ?_
      refine G.op1 (op_pickT (Ev.t 24 (bB true)) (Ev.c _ rfl) rfl) rfl ⟨rfl, trivial⟩ trivial ?_
      exact G.arr (J9 true hF) ⟨rfl, rfl, rfl, rfl, trivial⟩ trivial rfl
    · refine G.known (t := 24) hc10 rfl ?_
      refine G.opG1 (op_move (Ev.t 9 (bI .u64 r1.1)) rfl) rfl rfl rfl ⟨rfl, trivial⟩ trivial ?_
      refine G.opG1 (op_move (Ev.t 2 (bI .i64 most_2)) rfl) rfl rfl rfl ⟨rfl, trivial⟩ trivial ?_
      refine G.opG1 (op_convI Try.underlying3 Try.underlying76 (Ev.t 26 (bI .i64 most_2)) rfl) rfl rfl rfl ⟨rfl, trivial⟩ trivial ?_
      refine G.opG1 (op_gtr (Ev.t 25 (bI .u64 r1.1)) (Ev.t 27 (bI .u64 (IntKind.wrap .u64 most_2))) rfl) rfl rfl rfl ⟨rfl, rfl, trivial⟩ trivial ?_
      refine G.op1 (op_pickF (Ev.t 24 (bB false)) (Ev.t 28 (bB (decide ((IntKind.wrap .u64 most_2) < r1.1)))) rfl) rfl ⟨rfl, rfl, trivial⟩ trivial ?_
      exact G.arr (J9 (decide ((IntKind.wrap .u64 most_2) < r1.1)) hF) ⟨rfl, rfl, rfl, rfl, trivial⟩ trivial rfl
  refine ifS hF (fun hc12 hF => ?_) (fun hc12 hF => ?_)
  · refine G.known (t := 20) hc12 rfl ?_
    refine G.opN1 rfl rfl rfl rfl rfl ?_
    refine G.opN1 rfl rfl rfl rfl rfl ?_
    refine G.op1 (op_pickT (Ev.t 20 (bB true)) (Ev.c _ rfl) rfl) rfl ⟨rfl, trivial⟩ trivial ?_
    exact G.arr (J11 true hF) ⟨rfl, rfl, rfl, rfl, rfl, trivial⟩ trivial rfl
  · refine G.known (t := 20) hc12 rfl ?_
    refine G.opG1 (op_move (Ev.t 2 (bI .i64 most_2)) rfl) rfl rfl rfl ⟨rfl, trivial⟩ trivial ?_
    refine G.opG1 (op_lss (Ev.t 21 (bI .i64 most_2)) (Ev.c _ rfl) rfl) rfl rfl rfl ⟨rfl, trivial⟩ trivial ?_
    refine G.op1 (op_pickF (Ev.t 20 (bB false)) (Ev.t 22 (bB (decide (most_2 < 0)))) rfl) rfl ⟨rfl, rfl, trivial⟩ trivial ?_
    exact G.arr (J11 (decide (most_2 < 0)) hF) ⟨rfl, rfl, rfl, rfl, rfl, trivial⟩ trivial rfl


set_option maxRecDepth 20000 in
set_option maxHeartbeats 2000000 in
theorem ct_stamp_Read (s_0 : ByteArray) (at_1 : Int) (r : (Api_Stamp × Int × Bool)) (hF : stamp_Read s_0 at_1 = some r) : Ct Try.prog 56 [.g (.d (.v (.string s_0))), .g (.d (.v (.int .i64 at_1)))] (.tup [.agg (encApi_Stamp r.1), .d (.v (.int .i64 r.2.1)), .d (.v (.bool r.2.2))]) := by
  unfold stamp_Read at hF
  refine Ct.intro Try.func56 rfl Try.ntmps56 rfl rfl fun M w => ?_
  refine G.seq ?_
  refine G.region ?_
  refine G.op2 (op_alloc (k := 1004) (cs := [bI .i64 0, bI .i64 0]) ti24 ⟨.v _ rfl, .v _ rfl, trivial⟩ rfl) rfl trivial ⟨rfl, trivial⟩ ?_
  refine G.op1 (op_assign (Ev.c _ rfl) rfl) rfl trivial trivial ?_
  refine G.op1 (op_assign (Ev.c _ rfl) rfl) rfl trivial trivial ?_
  refine G.endOps ?_
  refine G.seq ?_
  refine G.region ?_
  refine G.op1 (op_move (Ev.t 0 (bS s_0)) rfl) rfl ⟨rfl, trivial⟩ trivial ?_
  refine G.op1 (op_move (Ev.t 1 (bI .i64 at_1)) rfl) rfl ⟨rfl, trivial⟩ trivial ?_
  obtain ⟨r1, hr1, hF⟩ := bindS hF
  refine G.op1 (op_callQ (sv := .tup [bI .u64 r1.1, bI .i64 r1.2.1, bB r1.2.2]) cf54 (ct_vary_Read s_0 at_1 r1 hr1) rfl rfl (EvQL.cons (EvQ.g (Ev.t 13 (bS s_0))) (EvQL.cons (EvQ.g (Ev.t 14 (bI .i64 at_1))) EvQL.nil)) rfl) rfl ⟨rfl, rfl, trivial⟩ trivial ?_
  refine G.op1 (op_moveS (t := 15) (sv := .tup [bI .u64 r1.1, bI .i64 r1.2.1, bB r1.2.2]) rfl) rfl ⟨rfl, trivial⟩ trivial ?_
  refine G.op1 (op_extract (l := [bI .u64 r1.1, bI .i64 r1.2.1, bB r1.2.2]) (c := bI .u64 r1.1) rfl rfl) rfl ⟨rfl, trivial⟩ trivial ?_
  refine G.op1 (op_extract (l := [bI .u64 r1.1, bI .i64 r1.2.1, bB r1.2.2]) (c := bI .i64 r1.2.1) rfl rfl) rfl ⟨rfl, trivial⟩ trivial ?_
  refine G.op1 (op_extract (l := [bI .u64 r1.1, bI .i64 r1.2.1, bB r1.2.2]) (c := bB r1.2.2) rfl rfl) rfl ⟨rfl, trivial⟩ trivial ?_
  refine G.op1 (op_assign (Ev.t 16 (bI .u64 r1.1)) rfl) rfl ⟨rfl, trivial⟩ trivial ?_
  refine G.op1 (op_assign (Ev.t 17 (bI .i64 r1.2.1)) rfl) rfl ⟨rfl, trivial⟩ trivial ?_
  refine G.op1 (op_assign (Ev.t 18 (bB r1.2.2)) rfl) rfl ⟨rfl, trivial⟩ trivial ?_
  refine G.endOps ?_
  refine G.seq ?_
  refine G.region ?_
  refine G.op1 (op_move (Ev.t 0 (bS s_0)) rfl) rfl ⟨rfl, trivial⟩ trivial ?_
  refine G.op1 (op_move (Ev.t 8 (bI .i64 r1.2.1)) rfl) rfl ⟨rfl, trivial⟩ trivial ?_
  obtain ⟨r2, hr2, hF⟩ := bindS hF
  refine G.op1 (op_callQ (sv := .tup [bI .u64 r2.1, bI .i64 r2.2.1, bB r2.2.2]) cf54 (ct_vary_Read s_0 r1.2.1 r2 hr2) rfl rfl (EvQL.cons (EvQ.g (Ev.t 20 (bS s_0))) (EvQL.cons (EvQ.g (Ev.t 21 (bI .i64 r1.2.1))) EvQL.nil)) rfl) rfl ⟨rfl, rfl, trivial⟩ trivial ?_
  refine G.op1 (op_moveS (t := 22) (sv := .tup [bI .u64 r2.1, bI .i64 r2.2.1, bB r2.2.2]) rfl) rfl ⟨rfl, trivial⟩ trivial ?_
  refine G.op1 (op_extract (l := [bI .u64 r2.1, bI .i64 r2.2.1, bB r2.2.2]) (c := bI .u64 r2.1) rfl rfl) rfl ⟨rfl, trivial⟩ trivial ?_
  refine G.op1 (op_extract (l := [bI .u64 r2.1, bI .i64 r2.2.1, bB r2.2.2]) (c := bI .i64 r2.2.1) rfl rfl) rfl ⟨rfl, trivial⟩ trivial ?_
  refine G.op1 (op_extract (l := [bI .u64 r2.1, bI .i64 r2.2.1, bB r2.2.2]) (c := bB r2.2.2) rfl rfl) rfl ⟨rfl, trivial⟩ trivial ?_
  refine G.op1 (op_assign (Ev.t 23 (bI .u64 r2.1)) rfl) rfl ⟨rfl, trivial⟩ trivial ?_
  refine G.op1 (op_assign (Ev.t 24 (bI .i64 r2.2.1)) rfl) rfl ⟨rfl, trivial⟩ trivial ?_
  refine G.op1 (op_assign (Ev.t 25 (bB r2.2.2)) rfl) rfl ⟨rfl, trivial⟩ trivial ?_
  refine G.endOps ?_
  refine G.seq ?_
  refine G.seq ?_
  refine G.joinC (T := Bool) (fun y3 => ⟨[(4, .one (.ptr 1004 0)), (5, .one (bI .i64 r2.2.1)), (7, .one (bI .u64 r1.1)), (10, .one (bI .u64 r2.1)), (39, .one (bB y3))], [(1004, some (.blk 24 [bI .i64 0, bI .i64 0]))]⟩) (fun y3 => stamp_Read_k1 r1 r2 y3 = some r) (fun y3 hF => ?_) (fun J7 => ?_)
  · unfold stamp_Read_k1 at hF
    refine ifS hF (fun hc4 hF => ?_) (fun hc4 hF => ?_)
    · refine G.cond rfl (fun _ => ?_) (fun hx => by rw [hc4] at hx; cases hx)
      refine G.seq ?_
      refine G.region ?_
      refine G.op1 (op_build (zs := [.v (.int .i64 0), .v (.int .i64 0)]) (ds := [.v (.int .i64 0), .v (.int .i64 0)]) Try.underlying24 ti24 (pl24 _ Try.underlying24) ⟨.v _ rfl, .v _ rfl, trivial⟩ EvP.nil rfl rfl) rfl trivial trivial ?_
      refine G.op3 (op_storeA (cs' := [bI .i64 0, bI .i64 0]) ti24 rfl rfl (Ev.t 4 (.ptr 1004 0)) (Ev.t 40 (.g (.agg [.v (.int .i64 0), .v (.int .i64 0)])))) rfl ⟨rfl, rfl, trivial⟩ ⟨rfl, trivial⟩ ?_
      refine G.op1 (op_assign (Ev.c _ rfl) rfl) rfl trivial trivial ?_
      refine G.op1 (op_assign (Ev.c _ rfl) rfl) rfl trivial trivial ?_
      refine G.endOps ?_
      cases hF
      exact G.ret3 Try.results56 (RVar.cellA (ds := [.v (.int .i64 0), .v (.int .i64 0)]) Try.underlying24 rfl ti24 rfl) (RVar.tmp 5 _) (RVar.tmp 6 _) ⟨rfl, rfl, rfl, trivial⟩ ⟨rfl, trivial⟩
    · refine G.cond rfl (fun hx => by rw [hc4] at hx; cases hx) (fun _ => ?_)
      refine G.skip ?_
      refine G.seq ?_
      refine G.region ?_
      refine G.op1 (op_move (Ev.t 7 (bI .u64 r1.1)) rfl) rfl ⟨rfl, trivial⟩ trivial ?_
      refine G.op1 (op_convI Try.underlying76 Try.underlying3 (Ev.t 41 (bI .u64 r1.1)) rfl) rfl ⟨rfl, trivial⟩ trivial ?_
      refine G.op1 (op_move (Ev.t 10 (bI .u64 r2.1)) rfl) rfl ⟨rfl, trivial⟩ trivial ?_
      refine G.op1 (op_convI Try.underlying76 Try.underlying3 (Ev.t 43 (bI .u64 r2.1)) rfl) rfl ⟨rfl, trivial⟩ trivial ?_
      refine G.op1 (op_build (zs := [.v (.int .i64 0), .v (.int .i64 0)]) (ds := [.v (.int .i64 (IntKind.wrap .i64 r1.1)), .v (.int .i64 (IntKind.wrap .i64 r2.1))]) Try.underlying24 ti24 (pl24 _ Try.underlying24) ⟨.v _ rfl, .v _ rfl, trivial⟩ (EvP.cons (Ev.t 42 (bI .i64 (IntKind.wrap .i64 r1.1))) (EvP.cons (Ev.t 44 (bI .i64 (IntKind.wrap .i64 r2.1))) EvP.nil)) rfl rfl) rfl ⟨rfl, rfl, trivial⟩ trivial ?_
      refine G.op3 (op_storeA (cs' := [bI .i64 (IntKind.wrap .i64 r1.1), bI .i64 (IntKind.wrap .i64 r2.1)]) ti24 rfl rfl (Ev.t 4 (.ptr 1004 0)) (Ev.t 45 (.g (.agg [.v (.int .i64 (IntKind.wrap .i64 r1.1)), .v (.int .i64 (IntKind.wrap .i64 r2.1))])))) rfl ⟨rfl, rfl, trivial⟩ ⟨rfl, trivial⟩ ?_
      refine G.endOps ?_
      refine G.seq ?_
      refine G.seq ?_
      refine G.region ?_
      refine G.op1 (op_loadAP (ds := [.v (.int .i64 (IntKind.wrap .i64 r1.1)), .v (.int .i64 (IntKind.wrap .i64 r2.1))]) Try.underlying24 rfl ti24 rfl (Ev.t 4 (.ptr 1004 0)) rfl) rfl ⟨rfl, trivial⟩ ⟨rfl, trivial⟩ ?_
      obtain ⟨r5, hr5, hF⟩ := bindS hF
      refine G.op1 (op_callQ (sv := .one (bB r5)) cf64 (ct_stamp_Check (Api_Stamp.mk (IntKind.wrap .i64 r1.1) (IntKind.wrap .i64 r2.1)) r5 hr5) rfl rfl (EvQL.cons (EvQ.g (Ev.t 46 (.g (.agg [.v (.int .i64 (IntKind.wrap .i64 r1.1)), .v (.int .i64 (IntKind.wrap .i64 r2.1))])))) EvQL.nil) rfl) rfl ⟨rfl, trivial⟩ trivial ?_
      refine G.op1 (op_not (Ev.t 47 (bB r5)) rfl) rfl ⟨rfl, trivial⟩ trivial ?_
      refine G.endOps ?_
      refine ifS hF (fun hc6 hF => ?_) (fun hc6 hF => ?_)
      · refine G.cond rfl (fun _ => ?_) (fun hx => by rw [hc6] at hx; cases hx)
        refine G.seq ?_
        refine G.region ?_
        refine G.op1 (op_build (zs := [.v (.int .i64 0), .v (.int .i64 0)]) (ds := [.v (.int .i64 0), .v (.int .i64 0)]) Try.underlying24 ti24 (pl24 _ Try.underlying24) ⟨.v _ rfl, .v _ rfl, trivial⟩ EvP.nil rfl rfl) rfl trivial trivial ?_
        refine G.op3 (op_storeA (cs' := [bI .i64 0, bI .i64 0]) ti24 rfl rfl (Ev.t 4 (.ptr 1004 0)) (Ev.t 49 (.g (.agg [.v (.int .i64 0), .v (.int .i64 0)])))) rfl ⟨rfl, rfl, trivial⟩ ⟨rfl, trivial⟩ ?_
        refine G.op1 (op_assign (Ev.c _ rfl) rfl) rfl trivial trivial ?_
        refine G.op1 (op_assign (Ev.c _ rfl) rfl) rfl trivial trivial ?_
        refine G.endOps ?_
        cases hF
        exact G.ret3 Try.results56 (RVar.cellA (ds := [.v (.int .i64 0), .v (.int .i64 0)]) Try.underlying24 rfl ti24 rfl) (RVar.tmp 5 _) (RVar.tmp 6 _) ⟨rfl, rfl, rfl, trivial⟩ ⟨rfl, trivial⟩
      · refine G.cond rfl (fun hx => by rw [hc6] at hx; cases hx) (fun _ => ?_)
        refine G.skip ?_
        refine G.seq ?_
        refine G.region ?_
        refine G.op1 (op_loadAP (ds := [.v (.int .i64 (IntKind.wrap .i64 r1.1)), .v (.int .i64 (IntKind.wrap .i64 r2.1))]) Try.underlying24 rfl ti24 rfl (Ev.t 4 (.ptr 1004 0)) rfl) rfl ⟨rfl, trivial⟩ ⟨rfl, trivial⟩ ?_
        refine G.op1 (op_move (Ev.t 5 (bI .i64 r2.2.1)) rfl) rfl ⟨rfl, trivial⟩ trivial ?_
        refine G.op3 (op_storeA (cs' := [bI .i64 (IntKind.wrap .i64 r1.1), bI .i64 (IntKind.wrap .i64 r2.1)]) ti24 rfl rfl (Ev.t 4 (.ptr 1004 0)) (Ev.t 50 (.g (.agg [.v (.int .i64 (IntKind.wrap .i64 r1.1)), .v (.int .i64 (IntKind.wrap .i64 r2.1))])))) rfl ⟨rfl, rfl, trivial⟩ ⟨rfl, trivial⟩ ?_
        refine G.op1 (op_assign (Ev.t 51 (bI .i64 r2.2.1)) rfl) rfl ⟨rfl, trivial⟩ trivial ?_
        refine G.op1 (op_assign (Ev.c _ rfl) rfl) rfl trivial trivial ?_
        refine G.endOps ?_
        cases hF
        exact G.ret3 Try.results56 (RVar.cellA (ds := [.v (.int .i64 (IntKind.wrap .i64 r1.1)), .v (.int .i64 (IntKind.wrap .i64 r2.1))]) Try.underlying24 rfl ti24 rfl) (RVar.tmp 5 _) (RVar.tmp 6 _) ⟨rfl, rfl, rfl, trivial⟩ ⟨rfl, trivial⟩
  refine G.region ?_
  refine G.op1 (op_move (Ev.t 9 (bB r1.2.2)) rfl) rfl ⟨rfl, trivial⟩ trivial ?_
  refine G.op1 (op_not (Ev.t 26 (bB r1.2.2)) rfl) rfl ⟨rfl, trivial⟩ trivial ?_
  refine G.op1 (op_move (Ev.t 27 (bB (!r1.2.2))) rfl) rfl ⟨rfl, trivial⟩ trivial ?_
  refine G.joinL (T := Bool) 3 (fun y8 => ⟨[(4, .one (.ptr 1004 0)), (5, .one (bI .i64 r2.2.1)), (7, .one (bI .u64 r1.1)), (10, .one (bI .u64 r2.1)), (31, .one (bB y8))], [(1004, some (.blk 24 [bI .i64 0, bI .i64 0]))]⟩) (fun y8 => stamp_Read_k2 r1 r2 y8 = some r) (fun y8 hF => ?_) (fun J11 => ?_)
  · unfold stamp_Read_k2 at hF
    refine G.op1 (op_move (Ev.t 31 (bB y8)) rfl) rfl ⟨rfl, trivial⟩ trivial ?_
    refine ifS hF (fun hc9 hF => ?_) (fun hc9 hF => ?_)
    · refine G.known (t := 32) hc9 rfl ?_
      refine G.opN1 rfl rfl rfl rfl rfl ?_
      refine G.opN1 rfl rfl rfl rfl rfl ?_
      refine G.op1 (op_pickT (Ev.t 32 (bB true)) (Ev.c _ rfl) rfl) rfl ⟨rfl, trivial⟩ trivial ?_
      refine G.op1 (op_move (Ev.t 35 (bB true)) rfl) rfl ⟨rfl, trivial⟩ trivial ?_
      refine G.opN1 rfl rfl rfl rfl rfl ?_
      refine G.opN1 rfl rfl rfl rfl rfl ?_
      refine G.op1 (op_pickT (Ev.t 36 (bB true)) (Ev.c _ rfl) rfl) rfl ⟨rfl, trivial⟩ trivial ?_
      refine G.endOps ?_
      exact G.arr (J7 true hF) ⟨rfl, rfl, rfl, rfl, rfl, trivial⟩ ⟨rfl, trivial⟩ rfl
    · refine G.known (t := 32) hc9 rfl ?_
      refine G.opG1 (op_move (Ev.t 7 (bI .u64 r1.1)) rfl) rfl rfl rfl ⟨rfl, trivial⟩ trivial ?_
      refine G.opG1 (op_gtr (Ev.t 33 (bI .u64 r1.1)) (Ev.c _ rfl) rfl) rfl rfl rfl ⟨rfl, trivial⟩ trivial ?_
      refine G.op1 (op_pickF (Ev.t 32 (bB false)) (Ev.t 34 (bB (decide (1099511627776 < r1.1)))) rfl) rfl ⟨rfl, rfl, trivial⟩ trivial ?_
      refine G.op1 (op_move (Ev.t 35 (bB (decide (1099511627776 < r1.1)))) rfl) rfl ⟨rfl, trivial⟩ trivial ?_
      refine ifS hF (fun hc10 hF => ?_) (fun hc10 hF => ?_)
      · refine G.known (t := 36) hc10 rfl ?_
        refine G.opN1 rfl rfl rfl rfl rfl ?_
        refine G.opN1 rfl rfl rfl rfl rfl ?_
        refine G.op1 (op_pickT (Ev.t 36 (bB true)) (Ev.c _ rfl) rfl) rfl ⟨rfl, trivial⟩ trivial ?_
        refine G.endOps ?_
        exact G.arr (J7 true hF) ⟨rfl, rfl, rfl, rfl, rfl, trivial⟩ ⟨rfl, trivial⟩ rfl
      · refine G.known (t := 36) hc10 rfl ?_
        refine G.opG1 (op_move (Ev.t 10 (bI .u64 r2.1)) rfl) rfl rfl rfl ⟨rfl, trivial⟩ trivial ?_
        refine G.opG1 (op_geq (Ev.t 37 (bI .u64 r2.1)) (Ev.c _ rfl) rfl) rfl rfl rfl ⟨rfl, trivial⟩ trivial ?_
        refine G.op1 (op_pickF (Ev.t 36 (bB false)) (Ev.t 38 (bB (decide (6 ≤ r2.1)))) rfl) rfl ⟨rfl, rfl, trivial⟩ trivial ?_
        refine G.endOps ?_
        exact G.arr (J7 (decide (6 ≤ r2.1)) hF) ⟨rfl, rfl, rfl, rfl, rfl, trivial⟩ ⟨rfl, trivial⟩ rfl
  refine ifS hF (fun hc12 hF => ?_) (fun hc12 hF => ?_)
  · refine G.known (t := 28) hc12 rfl ?_
    refine G.opN1 rfl rfl rfl rfl rfl ?_
    refine G.opN1 rfl rfl rfl rfl rfl ?_
    refine G.op1 (op_pickT (Ev.t 28 (bB true)) (Ev.c _ rfl) rfl) rfl ⟨rfl, trivial⟩ trivial ?_
    exact G.arr (J11 true hF) ⟨rfl, rfl, rfl, rfl, rfl, trivial⟩ ⟨rfl, trivial⟩ rfl
  · refine G.known (t := 28) hc12 rfl ?_
    refine G.opG1 (op_move (Ev.t 11 (bB r2.2.2)) rfl) rfl rfl rfl ⟨rfl, trivial⟩ trivial ?_
    refine G.opG1 (op_not (Ev.t 29 (bB r2.2.2)) rfl) rfl rfl rfl ⟨rfl, trivial⟩ trivial ?_
    refine G.op1 (op_pickF (Ev.t 28 (bB false)) (Ev.t 30 (bB (!r2.2.2))) rfl) rfl ⟨rfl, rfl, trivial⟩ trivial ?_
    exact G.arr (J11 (!r2.2.2) hF) ⟨rfl, rfl, rfl, rfl, rfl, trivial⟩ ⟨rfl, trivial⟩ rfl


set_option maxRecDepth 20000 in
set_option maxHeartbeats 2000000 in
theorem ct_past_Read (s_0 : ByteArray) (at_1 : Int) (r : ((List Api_Dep) × Int × Bool)) (hF : past_Read s_0 at_1 = some r) : Ct Try.prog 27 [.g (.d (.v (.string s_0))), .g (.d (.v (.int .i64 at_1)))] (.tup [.d (.sl 3 (List.map encApi_Dep r.1)), .d (.v (.int .i64 r.2.1)), .d (.v (.bool r.2.2))]) := by
  unfold past_Read at hF
  refine Ct.intro Try.func27 rfl Try.ntmps27 rfl rfl fun M w => ?_
  refine G.seq ?_
  refine G.region ?_
  refine G.op2 (op_assignRow (E := 26) (size := 3) (k := 2004) (ex := false) rfl rfl) rfl trivial ⟨rfl, trivial⟩ ?_
  refine G.op1 (op_assign (Ev.c _ rfl) rfl) rfl trivial trivial ?_
  refine G.op1 (op_assign (Ev.c _ rfl) rfl) rfl trivial trivial ?_
  refine G.endOps ?_
  refine G.scope ?_
  refine G.seq ?_
  refine G.region ?_
  refine G.op1 (op_move (Ev.t 0 (bS s_0)) rfl) rfl ⟨rfl, trivial⟩ trivial ?_
  refine G.op1 (op_move (Ev.t 1 (bI .i64 at_1)) rfl) rfl ⟨rfl, trivial⟩ trivial ?_
  obtain ⟨r1, hr1, hF⟩ := bindS hF
  refine G.op1 (op_callQ (sv := .tup [bI .u64 r1.1, bI .i64 r1.2.1, bB r1.2.2]) cf54 (ct_vary_Read s_0 at_1 r1 hr1) rfl rfl (EvQL.cons (EvQ.g (Ev.t 10 (bS s_0))) (EvQL.cons (EvQ.g (Ev.t 11 (bI .i64 at_1))) EvQL.nil)) rfl) rfl ⟨rfl, rfl, trivial⟩ trivial ?_
  refine G.op1 (op_moveS (t := 12) (sv := .tup [bI .u64 r1.1, bI .i64 r1.2.1, bB r1.2.2]) rfl) rfl ⟨rfl, trivial⟩ trivial ?_
  refine G.op1 (op_extract (l := [bI .u64 r1.1, bI .i64 r1.2.1, bB r1.2.2]) (c := bI .u64 r1.1) rfl rfl) rfl ⟨rfl, trivial⟩ trivial ?_
  refine G.op1 (op_extract (l := [bI .u64 r1.1, bI .i64 r1.2.1, bB r1.2.2]) (c := bI .i64 r1.2.1) rfl rfl) rfl ⟨rfl, trivial⟩ trivial ?_
  refine G.op1 (op_extract (l := [bI .u64 r1.1, bI .i64 r1.2.1, bB r1.2.2]) (c := bB r1.2.2) rfl rfl) rfl ⟨rfl, trivial⟩ trivial ?_
  refine G.op1 (op_assign (Ev.t 13 (bI .u64 r1.1)) rfl) rfl ⟨rfl, trivial⟩ trivial ?_
  refine G.op1 (op_assign (Ev.t 14 (bI .i64 r1.2.1)) rfl) rfl ⟨rfl, trivial⟩ trivial ?_
  refine G.op1 (op_assign (Ev.t 15 (bB r1.2.2)) rfl) rfl ⟨rfl, trivial⟩ trivial ?_
  refine G.endOps ?_
  refine G.seq ?_
  refine G.seq ?_
  refine G.joinC (T := Bool) (fun y2 => ⟨[(0, .one (bS s_0)), (4, .one (.own 2004 (List.map encApi_Dep ([] : (List Api_Dep))))), (5, .one (bI .i64 r1.2.1)), (6, .one (bB r1.2.2)), (7, .one (bI .u64 r1.1)), (21, .one (bB y2))], [(2004, some (.row 26 3 (List.map encApi_Dep ([] : (List Api_Dep))) false))]⟩) (fun y2 => past_Read_k1 s_0 r1 y2 = some r) (fun y2 hF => ?_) (fun J21 => ?_)
  · unfold past_Read_k1 at hF
    refine ifS hF (fun hc3 hF => ?_) (fun hc3 hF => ?_)
    · refine G.cond rfl (fun _ => ?_) (fun hx => by rw [hc3] at hx; cases hx)
      refine G.seq ?_
      refine G.region ?_
      refine G.op1 (op_assign (Ev.n 3) rfl) rfl trivial trivial ?_
      refine G.op1 (op_assign (Ev.c _ rfl) rfl) rfl trivial trivial ?_
      refine G.op1 (op_assign (Ev.c _ rfl) rfl) rfl trivial trivial ?_
      refine G.endOps ?_
      cases hF
      exact G.ret3 Try.results27 (RVar.tmp 4 _) (RVar.tmp 5 _) (RVar.tmp 6 _) ⟨rfl, rfl, rfl, trivial⟩ trivial
    · refine G.cond rfl (fun hx => by rw [hc3] at hx; cases hx) (fun _ => ?_)
      refine G.skip ?_
      refine G.seq ?_
      refine G.label ?_
      refine G.seq ?_
      refine G.seq ?_
      refine G.region ?_
      refine G.op1 (op_move (Ev.t 7 (bI .u64 r1.1)) rfl) rfl ⟨rfl, trivial⟩ trivial ?_
      refine G.op1 (op_move (Ev.c _ rfl) rfl) rfl trivial trivial ?_
      refine G.endOps ?_
      refine G.joinC (T := Int × Bool × (List Api_Dep)) (fun y4 => ⟨[(4, .one (.own 2004 (List.map encApi_Dep y4.2.2))), (5, .one (bI .i64 y4.1)), (6, .one (bB y4.2.1))], [(2004, some (.row 26 3 (List.map encApi_Dep y4.2.2) false))]⟩) (fun y4 => past_Read_k2 y4 = some r) (fun y4 hF => ?_) (fun J10 => ?_)
      · unfold past_Read_k2 at hF
        refine G.seq ?_
        refine G.seq ?_
        refine G.joinC (T := Bool) (fun y5 => ⟨[(4, .one (.own 2004 (List.map encApi_Dep y4.2.2))), (5, .one (bI .i64 y4.1)), (56, .one (bB y5))], [(2004, some (.row 26 3 (List.map encApi_Dep y4.2.2) false))]⟩) (fun y5 => past_Read_k3 y4 y5 = some r) (fun y5 hF => ?_) (fun J7 => ?_)
        · unfold past_Read_k3 at hF
          refine ifS hF (fun hc6 hF => ?_) (fun hc6 hF => ?_)
          · refine G.cond rfl (fun _ => ?_) (fun hx => by rw [hc6] at hx; cases hx)
            refine G.seq ?_
            refine G.region ?_
            refine G.op1 (op_assign (Ev.n 3) rfl) rfl trivial trivial ?_
            refine G.op1 (op_assign (Ev.c _ rfl) rfl) rfl trivial trivial ?_
            refine G.op1 (op_assign (Ev.c _ rfl) rfl) rfl trivial trivial ?_
            refine G.endOps ?_
            cases hF
            exact G.ret3 Try.results27 (RVar.tmp 4 _) (RVar.tmp 5 _) (RVar.tmp 6 _) ⟨rfl, rfl, rfl, trivial⟩ trivial
          · refine G.cond rfl (fun hx => by rw [hc6] at hx; cases hx) (fun _ => ?_)
            refine G.skip ?_
            refine G.seq ?_
            refine G.region ?_
            refine G.op1 (op_move (Ev.t 4 (.own 2004 (List.map encApi_Dep y4.2.2))) rfl) rfl ⟨rfl, trivial⟩ trivial ?_
            refine G.op1 (op_move (Ev.t 5 (bI .i64 y4.1)) rfl) rfl ⟨rfl, trivial⟩ trivial ?_
            refine G.op1 (op_assign (Ev.t 57 (.own 2004 (List.map encApi_Dep y4.2.2))) rfl) rfl ⟨rfl, trivial⟩ trivial ?_
            refine G.op1 (op_assign (Ev.t 58 (bI .i64 y4.1)) rfl) rfl ⟨rfl, trivial⟩ trivial ?_
            refine G.op1 (op_assign (Ev.c _ rfl) rfl) rfl trivial trivial ?_
            refine G.endOps ?_
            refine G.view (t := 4) rfl rfl ?_
            cases hF
            exact G.ret3 Try.results27 (RVar.tmp 4 _) (RVar.tmp 5 _) (RVar.tmp 6 _) ⟨rfl, rfl, rfl, trivial⟩ trivial
        refine G.region ?_
        refine G.op1 (op_move (Ev.t 6 (bB y4.2.1)) rfl) rfl ⟨rfl, trivial⟩ trivial ?_
        refine G.op1 (op_not (Ev.t 50 (bB y4.2.1)) rfl) rfl ⟨rfl, trivial⟩ trivial ?_
        refine G.op1 (op_move (Ev.t 51 (bB (!y4.2.1))) rfl) rfl ⟨rfl, trivial⟩ trivial ?_
        refine ifS hF (fun hc8 hF => ?_) (fun hc8 hF => ?_)
        · refine G.known (t := 52) hc8 rfl ?_
          refine G.opN1 rfl rfl rfl rfl rfl ?_
          refine G.opN1 rfl rfl rfl rfl rfl ?_
          refine G.opN1 rfl rfl rfl rfl rfl ?_
          refine G.op1 (op_pickT (Ev.t 52 (bB true)) (Ev.c _ rfl) rfl) rfl ⟨rfl, trivial⟩ trivial ?_
          refine G.endOps ?_
          exact G.arr (J7 true hF) ⟨rfl, rfl, rfl, trivial⟩ ⟨rfl, trivial⟩ rfl
        · refine G.known (t := 52) hc8 rfl ?_
          refine G.opG1 (op_move (Ev.t 4 (.own 2004 (List.map encApi_Dep y4.2.2))) rfl) rfl rfl rfl ⟨rfl, trivial⟩ trivial ?_
          obtain ⟨r9, hr9, hF⟩ := bindS hF
          refine G.opG1 (op_callQ (sv := .one (bB r9)) cf13 (ct_past_Check y4.2.2 r9 hr9) rfl rfl (EvQL.cons (EvQ.own (Ev.t 53 (.own 2004 (List.map encApi_Dep y4.2.2)))) EvQL.nil) rfl) rfl rfl rfl ⟨rfl, trivial⟩ ⟨rfl, trivial⟩ ?_
          refine G.opG1 (op_not (Ev.t 54 (bB r9)) rfl) rfl rfl rfl ⟨rfl, trivial⟩ trivial ?_
          refine G.op1 (op_pickF (Ev.t 52 (bB false)) (Ev.t 55 (bB (!r9))) rfl) rfl ⟨rfl, rfl, trivial⟩ trivial ?_
          refine G.endOps ?_
          exact G.arr (J7 (!r9) hF) ⟨rfl, rfl, rfl, trivial⟩ ⟨rfl, trivial⟩ rfl
      refine G.block ?_
      refine G.keep (sl' := [(0, .one (bS s_0)), (4, .one (.own 2004 (List.map encApi_Dep ([] : (List Api_Dep))))), (5, .one (bI .i64 r1.2.1)), (6, .one (bB r1.2.2)), (22, .one (bI .u64 r1.1)), (23, .one (bI .u64 0))]) (hp' := [(2004, some (.row 26 3 (List.map encApi_Dep ([] : (List Api_Dep))) false))]) ⟨rfl, rfl, rfl, rfl, rfl, rfl, trivial⟩ ⟨rfl, trivial⟩ rfl ?_
      refine G.loopF (fun (v11 : Int × Bool × Int × (List Api_Dep)) => ⟨[(0, .one (bS s_0)), (4, .one (.own 2004 (List.map encApi_Dep v11.2.2.2))), (5, .one (bI .i64 v11.1)), (6, .one (bB v11.2.1)), (22, .one (bI .u64 r1.1)), (23, .one (bI .u64 v11.2.2.1))], [(2004, some (.row 26 3 (List.map encApi_Dep v11.2.2.2) false))]⟩) hF rfl (fun K14 again13 v11 J12 hF => ?_)
      unfold past_Read_l4 at hF
      refine G.seq ?_
      refine G.region ?_
      refine G.op1 (op_lss (Ev.t 23 (bI .u64 v11.2.2.1)) (Ev.t 22 (bI .u64 r1.1)) rfl) rfl ⟨rfl, rfl, trivial⟩ trivial ?_
      refine G.endOps ?_
      refine G.seq ?_
      refine ifS hF (fun hc15 hF => ?_) (fun hc15 hF => ?_)
      · refine G.cond rfl (fun _ => ?_) (fun hx => by rw [hc15] at hx; cases hx)
        refine G.skip ?_
        refine G.seq ?_
        refine G.block ?_
        refine G.seq ?_
        refine G.region ?_
        refine G.op2 (op_alloc (k := 1008) (cs := [bS ByteArray.empty, bI .i64 0, bI .i64 0]) ti26 ⟨.v _ rfl, .v _ rfl, .v _ rfl, trivial⟩ rfl) rfl trivial ⟨rfl, trivial⟩ ?_
        refine G.endOps ?_
        refine G.seq ?_
        refine G.region ?_
        refine G.op1 (op_move (Ev.t 0 (bS s_0)) rfl) rfl ⟨rfl, trivial⟩ trivial ?_
        refine G.op1 (op_move (Ev.t 5 (bI .i64 v11.1)) rfl) rfl ⟨rfl, trivial⟩ trivial ?_
        obtain ⟨r16, hr16, hF⟩ := bindS hF
        refine G.op1 (op_callQ (sv := .tup [bS r16.1, bI .i64 r16.2.1, bB r16.2.2]) cf55 (ct_vary_ReadText s_0 v11.1 32 r16 hr16) rfl rfl (EvQL.cons (EvQ.g (Ev.t 26 (bS s_0))) (EvQL.cons (EvQ.g (Ev.t 27 (bI .i64 v11.1))) (EvQL.cons (EvQ.g (Ev.c _ rfl)) EvQL.nil))) rfl) rfl ⟨rfl, rfl, trivial⟩ trivial ?_
        refine G.op1 (op_moveS (t := 28) (sv := .tup [bS r16.1, bI .i64 r16.2.1, bB r16.2.2]) rfl) rfl ⟨rfl, trivial⟩ trivial ?_
        refine G.op1 (op_extract (l := [bS r16.1, bI .i64 r16.2.1, bB r16.2.2]) (c := bS r16.1) rfl rfl) rfl ⟨rfl, trivial⟩ trivial ?_
        refine G.op1 (op_extract (l := [bS r16.1, bI .i64 r16.2.1, bB r16.2.2]) (c := bI .i64 r16.2.1) rfl rfl) rfl ⟨rfl, trivial⟩ trivial ?_
        refine G.op1 (op_extract (l := [bS r16.1, bI .i64 r16.2.1, bB r16.2.2]) (c := bB r16.2.2) rfl rfl) rfl ⟨rfl, trivial⟩ trivial ?_
        refine G.op1 (op_fieldP (off' := 0) Try.underlying26 rfl ti9 (by decide) rfl (Ev.t 8 (.ptr 1008 0)) rfl) rfl ⟨rfl, trivial⟩ trivial ?_
        refine G.op3 (op_store1 (cs' := [bS r16.1, bI .i64 0, bI .i64 0]) (c := bS r16.1) trivial ti9 rfl rfl (Ev.t 32 (.ptr 1008 0)) (Ev.t 29 (bS r16.1))) rfl ⟨rfl, rfl, trivial⟩ ⟨rfl, trivial⟩ ?_
        refine G.op1 (op_assign (Ev.t 30 (bI .i64 r16.2.1)) rfl) rfl ⟨rfl, trivial⟩ trivial ?_
        refine G.op1 (op_assign (Ev.t 31 (bB r16.2.2)) rfl) rfl ⟨rfl, trivial⟩ trivial ?_
        refine G.endOps ?_
        refine G.seq ?_
        refine G.seq ?_
        refine G.region ?_
        refine G.op1 (op_move (Ev.t 6 (bB r16.2.2)) rfl) rfl ⟨rfl, trivial⟩ trivial ?_
        refine G.op1 (op_not (Ev.t 33 (bB r16.2.2)) rfl) rfl ⟨rfl, trivial⟩ trivial ?_
        refine G.endOps ?_
        refine ifS hF (fun hc17 hF => ?_) (fun hc17 hF => ?_)
        · refine G.cond rfl (fun _ => ?_) (fun hx => by rw [hc17] at hx; cases hx)
          refine G.exit ?_
          refine GX.c ?_
          refine GX.bNo rfl ?_
          refine GX.c ?_
          refine GX.q ?_
          refine GX.bYes ?_
          exact G.arr (J10 (r16.2.1, r16.2.2, v11.2.2.2) hF) ⟨rfl, rfl, rfl, trivial⟩ ⟨rfl, trivial⟩ rfl
        · refine G.cond rfl (fun hx => by rw [hc17] at hx; cases hx) (fun _ => ?_)
          refine G.skip ?_
          refine G.seq ?_
          refine G.region ?_
          refine G.op1 (op_move (Ev.t 0 (bS s_0)) rfl) rfl ⟨rfl, trivial⟩ trivial ?_
          refine G.op1 (op_move (Ev.t 5 (bI .i64 r16.2.1)) rfl) rfl ⟨rfl, trivial⟩ trivial ?_
          obtain ⟨r18, hr18, hF⟩ := bindS hF
          refine G.op1 (op_callQ (sv := .tup [.g (.agg [.v (.int .i64 r18.1.N), .v (.int .i64 r18.1.Site)]), bI .i64 r18.2.1, bB r18.2.2]) cf56 (ct_stamp_Read s_0 r16.2.1 r18 hr18) rfl rfl (EvQL.cons (EvQ.g (Ev.t 36 (bS s_0))) (EvQL.cons (EvQ.g (Ev.t 37 (bI .i64 r16.2.1))) EvQL.nil)) rfl) rfl ⟨rfl, rfl, trivial⟩ trivial ?_
          refine G.op1 (op_moveS (t := 38) (sv := .tup [.g (.agg [.v (.int .i64 r18.1.N), .v (.int .i64 r18.1.Site)]), bI .i64 r18.2.1, bB r18.2.2]) rfl) rfl ⟨rfl, trivial⟩ trivial ?_
          refine G.op1 (op_extract (l := [.g (.agg [.v (.int .i64 r18.1.N), .v (.int .i64 r18.1.Site)]), bI .i64 r18.2.1, bB r18.2.2]) (c := .g (.agg [.v (.int .i64 r18.1.N), .v (.int .i64 r18.1.Site)])) rfl rfl) rfl ⟨rfl, trivial⟩ trivial ?_
          refine G.op1 (op_extract (l := [.g (.agg [.v (.int .i64 r18.1.N), .v (.int .i64 r18.1.Site)]), bI .i64 r18.2.1, bB r18.2.2]) (c := bI .i64 r18.2.1) rfl rfl) rfl ⟨rfl, trivial⟩ trivial ?_
          refine G.op1 (op_extract (l := [.g (.agg [.v (.int .i64 r18.1.N), .v (.int .i64 r18.1.Site)]), bI .i64 r18.2.1, bB r18.2.2]) (c := bB r18.2.2) rfl rfl) rfl ⟨rfl, trivial⟩ trivial ?_
          refine G.op1 (op_fieldP (off' := 1) Try.underlying26 rfl ti24 (by decide) rfl (Ev.t 8 (.ptr 1008 0)) rfl) rfl ⟨rfl, trivial⟩ trivial ?_
          refine G.op3 (op_storeA (cs' := [bS r16.1, bI .i64 r18.1.N, bI .i64 r18.1.Site]) ti24 rfl rfl (Ev.t 42 (.ptr 1008 1)) (Ev.t 39 (.g (.agg [.v (.int .i64 r18.1.N), .v (.int .i64 r18.1.Site)])))) rfl ⟨rfl, rfl, trivial⟩ ⟨rfl, trivial⟩ ?_
          refine G.op1 (op_assign (Ev.t 40 (bI .i64 r18.2.1)) rfl) rfl ⟨rfl, trivial⟩ trivial ?_
          refine G.op1 (op_assign (Ev.t 41 (bB r18.2.2)) rfl) rfl ⟨rfl, trivial⟩ trivial ?_
          refine G.endOps ?_
          refine G.seq ?_
          refine G.seq ?_
          refine G.region ?_
          refine G.op1 (op_move (Ev.t 6 (bB r18.2.2)) rfl) rfl ⟨rfl, trivial⟩ trivial ?_
          refine G.op1 (op_not (Ev.t 43 (bB r18.2.2)) rfl) rfl ⟨rfl, trivial⟩ trivial ?_
          refine G.endOps ?_
          refine ifS hF (fun hc19 hF => ?_) (fun hc19 hF => ?_)
          · refine G.cond rfl (fun _ => ?_) (fun hx => by rw [hc19] at hx; cases hx)
            refine G.exit ?_
            refine GX.c ?_
            refine GX.bNo rfl ?_
            refine GX.c ?_
            refine GX.q ?_
            refine GX.bYes ?_
            exact G.arr (J10 (r18.2.1, r18.2.2, v11.2.2.2) hF) ⟨rfl, rfl, rfl, trivial⟩ ⟨rfl, trivial⟩ rfl
          · refine G.cond rfl (fun hx => by rw [hc19] at hx; cases hx) (fun _ => ?_)
            refine G.skip ?_
            refine G.region ?_
            refine G.op1 (op_move (Ev.t 4 (.own 2004 (List.map encApi_Dep v11.2.2.2))) rfl) rfl ⟨rfl, trivial⟩ trivial ?_
            refine G.op1 (op_loadAP (ds := [.v (.string r16.1), .v (.int .i64 r18.1.N), .v (.int .i64 r18.1.Site)]) Try.underlying26 rfl ti26 rfl (Ev.t 8 (.ptr 1008 0)) rfl) rfl ⟨rfl, trivial⟩ ⟨rfl, trivial⟩ ?_
            refine G.op1 (op_buildSlice (es := List.map encApi_Dep [(Api_Dep.mk r16.1 r18.1)]) Try.underlying22 ti26 rfl rfl (EvP.cons (Ev.t 46 (.g (.agg [.v (.string r16.1), .v (.int .i64 r18.1.N), .v (.int .i64 r18.1.Site)]))) EvP.nil) rfl rfl (by simp [encApi_Dep]) rfl) rfl ⟨rfl, trivial⟩ trivial ?_
            obtain ⟨l20, hl20, hF⟩ := bindS hF
            refine G.op2 (op_appendO Try.underlying22 ti26 rfl (app_map hl20 encApi_Dep) (app_b1 hl20 encApi_Dep) (app_b2 hl20 encApi_Dep) (Ev.t 45 (.own 2004 (List.map encApi_Dep v11.2.2.2))) (Ev.t 47 (.g (.d (.sl 3 (List.map encApi_Dep ([(Api_Dep.mk r16.1 r18.1)])))))) rfl) rfl ⟨rfl, rfl, trivial⟩ ⟨rfl, trivial⟩ ?_
            refine G.op1 (op_assign (Ev.t 48 (.own 2004 (List.map encApi_Dep l20))) rfl) rfl ⟨rfl, trivial⟩ trivial ?_
            refine G.endOps ?_
            refine G.endBlock ?_
            refine G.region ?_
            refine G.op1 (op_add (Ev.t 23 (bI .u64 v11.2.2.1)) (Ev.c _ rfl) rfl) rfl ⟨rfl, trivial⟩ trivial ?_
            refine G.op1 (op_move (Ev.t 49 (bI .u64 (IntKind.wrap .u64 (v11.2.2.1 + 1)))) rfl) rfl ⟨rfl, trivial⟩ trivial ?_
            refine G.endOps ?_
            exact G.arr (J12 (r18.2.1, r18.2.2, IntKind.wrap .u64 (v11.2.2.1 + 1), l20) hF) ⟨rfl, rfl, rfl, rfl, rfl, rfl, trivial⟩ ⟨rfl, trivial⟩ rfl
      · refine G.cond rfl (fun hx => by rw [hc15] at hx; cases hx) (fun _ => ?_)
        refine G.exit ?_
        refine GX.c ?_
        refine GX.q ?_
        refine GX.bYes ?_
        exact G.arr (J10 (v11.1, v11.2.1, v11.2.2.2) hF) ⟨rfl, rfl, rfl, trivial⟩ ⟨rfl, trivial⟩ rfl
  refine G.region ?_
  refine G.op1 (op_move (Ev.t 6 (bB r1.2.2)) rfl) rfl ⟨rfl, trivial⟩ trivial ?_
  refine G.op1 (op_not (Ev.t 16 (bB r1.2.2)) rfl) rfl ⟨rfl, trivial⟩ trivial ?_
  refine G.op1 (op_move (Ev.t 17 (bB (!r1.2.2))) rfl) rfl ⟨rfl, trivial⟩ trivial ?_
  refine ifS hF (fun hc22 hF => ?_) (fun hc22 hF => ?_)
  · refine G.known (t := 18) hc22 rfl ?_
    refine G.opN1 rfl rfl rfl rfl rfl ?_
    refine G.opN1 rfl rfl rfl rfl rfl ?_
    refine G.op1 (op_pickT (Ev.t 18 (bB true)) (Ev.c _ rfl) rfl) rfl ⟨rfl, trivial⟩ trivial ?_
    refine G.endOps ?_
    exact G.arr (J21 true hF) ⟨rfl, rfl, rfl, rfl, rfl, rfl, trivial⟩ ⟨rfl, trivial⟩ rfl
  · refine G.known (t := 18) hc22 rfl ?_
    refine G.opG1 (op_move (Ev.t 7 (bI .u64 r1.1)) rfl) rfl rfl rfl ⟨rfl, trivial⟩ trivial ?_
    refine G.opG1 (op_gtr (Ev.t 19 (bI .u64 r1.1)) (Ev.c _ rfl) rfl) rfl rfl rfl ⟨rfl, trivial⟩ trivial ?_
    refine G.op1 (op_pickF (Ev.t 18 (bB false)) (Ev.t 20 (bB (decide (24 < r1.1)))) rfl) rfl ⟨rfl, rfl, trivial⟩ trivial ?_
    refine G.endOps ?_
    exact G.arr (J21 (decide (24 < r1.1)) hF) ⟨rfl, rfl, rfl, rfl, rfl, rfl, trivial⟩ ⟨rfl, trivial⟩ rfl


set_option maxRecDepth 20000 in
set_option maxHeartbeats 2000000 in
theorem ct_slices_Equal_Dep (s1_0 : (List Api_Dep)) (s2_1 : (List Api_Dep)) (r : Bool) (hF : slices_Equal_Dep s1_0 s2_1 = some r) : Ct Try.prog 35 [.g (.d (.sl 3 (List.map encApi_Dep s1_0))), .g (.d (.sl 3 (List.map encApi_Dep s2_1)))] (.one (.d (.v (.bool r)))) := by
  unfold slices_Equal_Dep at hF
  refine Ct.intro Try.func35 rfl Try.ntmps35 rfl rfl fun M w => ?_
  refine G.seq ?_
  refine G.region ?_
  refine G.op1 (op_assign (Ev.c _ rfl) rfl) rfl trivial trivial ?_
  refine G.endOps ?_
  refine G.seq ?_
  refine G.seq ?_
  refine G.region ?_
  refine G.op1 (op_move (Ev.t 0 (.g (.d (.sl 3 (List.map encApi_Dep s1_0))))) rfl) rfl ⟨rfl, trivial⟩ trivial ?_
  refine G.op1 (OpL.cast (op_lenD Try.underlying22 (Ev.t 6 (.g (.d (.sl 3 (List.map encApi_Dep s1_0))))) rfl) (by rw [List.length_map])) rfl ⟨rfl, trivial⟩ trivial ?_
  refine G.op1 (op_move (Ev.t 1 (.g (.d (.sl 3 (List.map encApi_Dep s2_1))))) rfl) rfl ⟨rfl, trivial⟩ trivial ?_
  refine G.op1 (OpL.cast (op_lenD Try.underlying22 (Ev.t 8 (.g (.d (.sl 3 (List.map encApi_Dep s2_1))))) rfl) (by rw [List.length_map])) rfl ⟨rfl, trivial⟩ trivial ?_
  refine G.op1 (op_neI (Ev.t 7 (bI .i64 (s1_0.length : Int))) (Ev.t 9 (bI .i64 (s2_1.length : Int))) rfl) rfl ⟨rfl, rfl, trivial⟩ trivial ?_
  refine G.endOps ?_
  refine ifS hF (fun hc1 hF => ?_) (fun hc1 hF => ?_)
  · refine G.cond rfl (fun _ => ?_) (fun hx => by rw [hc1] at hx; cases hx)
    refine G.seq ?_
    refine G.region ?_
    refine G.op1 (op_assign (Ev.c _ rfl) rfl) rfl trivial trivial ?_
    refine G.endOps ?_
    cases hF
    exact G.ret1 Try.results35 (RVar.tmp 4 _) ⟨rfl, trivial⟩ trivial
  · refine G.cond rfl (fun hx => by rw [hc1] at hx; cases hx) (fun _ => ?_)
    refine G.skip ?_
    refine G.seq ?_
    refine G.seq ?_
    refine G.region ?_
    refine G.op1 (op_move (Ev.t 0 (.g (.d (.sl 3 (List.map encApi_Dep s1_0))))) rfl) rfl ⟨rfl, trivial⟩ trivial ?_
    refine G.op1 (OpL.cast (op_lenD Try.underlying22 (Ev.t 11 (.g (.d (.sl 3 (List.map encApi_Dep s1_0))))) rfl) (by rw [List.length_map])) rfl ⟨rfl, trivial⟩ trivial ?_
    refine G.op1 (op_move (Ev.c _ rfl) rfl) rfl trivial trivial ?_
    refine G.endOps ?_
    refine G.joinC (T := Unit) (fun y2 => ⟨[], []⟩) (fun y2 => slices_Equal_Dep_k1 y2 = some r) (fun y2 hF => ?_) (fun J3 => ?_)
    · unfold slices_Equal_Dep_k1 at hF
      refine G.seq ?_
      refine G.region ?_
      refine G.op1 (op_assign (Ev.c _ rfl) rfl) rfl trivial trivial ?_
      refine G.endOps ?_
      cases hF
      exact G.ret1 Try.results35 (RVar.tmp 4 _) ⟨rfl, trivial⟩ trivial
    refine G.block ?_
    refine G.keep (sl' := [(0, .one (.g (.d (.sl 3 (List.map encApi_Dep s1_0))))), (1, .one (.g (.d (.sl 3 (List.map encApi_Dep s2_1))))), (12, .one (bI .i64 (s1_0.length : Int))), (13, .one (bI .i64 0))]) (hp' := []) ⟨rfl, rfl, rfl, rfl, trivial⟩ trivial rfl ?_
    refine G.loopF (fun (v4 : Int) => ⟨[(0, .one (.g (.d (.sl 3 (List.map encApi_Dep s1_0))))), (1, .one (.g (.d (.sl 3 (List.map encApi_Dep s2_1))))), (12, .one (bI .i64 (s1_0.length : Int))), (13, .one (bI .i64 v4))], []⟩) hF rfl (fun K7 again6 v4 J5 hF => ?_)
    unfold slices_Equal_Dep_l2 at hF
    refine G.seq ?_
    refine G.region ?_
    refine G.op1 (op_lss (Ev.t 13 (bI .i64 v4)) (Ev.t 12 (bI .i64 (s1_0.length : Int))) rfl) rfl ⟨rfl, rfl, trivial⟩ trivial ?_
    refine G.endOps ?_
    refine G.seq ?_
    refine ifS hF (fun hc8 hF => ?_) (fun hc8 hF => ?_)
    · refine G.cond rfl (fun _ => ?_) (fun hx => by rw [hc8] at hx; cases hx)
      refine G.skip ?_
      refine G.seq ?_
      refine G.block ?_
      refine G.seq ?_
      refine G.region ?_
      refine G.op1 (op_move (Ev.t 13 (bI .i64 v4)) rfl) rfl ⟨rfl, trivial⟩ trivial ?_
      refine G.op1 (op_assign (Ev.t 15 (bI .i64 v4)) rfl) rfl ⟨rfl, trivial⟩ trivial ?_
      refine G.endOps ?_
      refine G.seq ?_
      obtain ⟨x9, hx9, hF⟩ := bindS hF
      obtain ⟨x10, hx10, hF⟩ := bindS hF
      refine G.drawn (effs := [⟨[(0, .one (.g (.d (.sl 3 (List.map encApi_Dep s1_0)))))], [], [(16, .one (.g (.d (.sl 3 (List.map encApi_Dep s1_0)))))], []⟩, ⟨[(5, .one (bI .i64 v4))], [], [(17, .one (bI .i64 v4))], []⟩, ⟨[(16, .one (.g (.d (.sl 3 (List.map encApi_Dep s1_0))))), (17, .one (bI .i64 v4))], [], [(18, .one (.ep [.v (.string x9.Key), .v (.int .i64 x9.Stamp.N), .v (.int .i64 x9.Stamp.Site)]))], []⟩, ⟨[(18, .one (.ep [.v (.string x9.Key), .v (.int .i64 x9.Stamp.N), .v (.int .i64 x9.Stamp.Site)]))], [], [(19, .one (.g (.agg [.v (.string x9.Key), .v (.int .i64 x9.Stamp.N), .v (.int .i64 x9.Stamp.Site)])))], []⟩, ⟨[(1, .one (.g (.d (.sl 3 (List.map encApi_Dep s2_1)))))], [], [(20, .one (.g (.d (.sl 3 (List.map encApi_Dep s2_1)))))], []⟩, ⟨[(5, .one (bI .i64 v4))], [], [(21, .one (bI .i64 v4))], []⟩, ⟨[(20, .one (.g (.d (.sl 3 (List.map encApi_Dep s2_1))))), (21, .one (bI .i64 v4))], [], [(22, .one (.ep [.v (.string x10.Key), .v (.int .i64 x10.Stamp.N), .v (.int .i64 x10.Stamp.Site)]))], []⟩, ⟨[(22, .one (.ep [.v (.string x10.Key), .v (.int .i64 x10.Stamp.N), .v (.int .i64 x10.Stamp.Site)]))], [], [(23, .one (.g (.agg [.v (.string x10.Key), .v (.int .i64 x10.Stamp.N), .v (.int .i64 x10.Stamp.Site)])))], []⟩, ⟨[(19, .one (.g (.agg [.v (.string x9.Key), .v (.int .i64 x9.Stamp.N), .v (.int .i64 x9.Stamp.Site)]))), (23, .one (.g (.agg [.v (.string x10.Key), .v (.int .i64 x10.Stamp.N), .v (.int .i64 x10.Stamp.Site)])))], [], [(24, .one (bB (!(decide (x9.Key = x10.Key) && decide (x9.Stamp.N = x10.Stamp.N) && decide (x9.Stamp.Site = x10.Stamp.Site)))))], []⟩]) (deps := [[], [], [0, 1], [0, 1, 2], [], [], [4, 5], [4, 5, 6], [0, 1, 2, 3, 4, 5, 6, 7]]) (sl' := [(0, .one (.g (.d (.sl 3 (List.map encApi_Dep s1_0))))), (1, .one (.g (.d (.sl 3 (List.map encApi_Dep s2_1))))), (12, .one (bI .i64 (s1_0.length : Int))), (13, .one (bI .i64 v4)), (24, .one (bB (!(decide (x9.Key = x10.Key) && decide (x9.Stamp.N = x10.Stamp.N) && decide (x9.Stamp.Site = x10.Stamp.Site)))))]) (hp' := []) follows rfl rfl rfl ⟨⟨rfl, trivial⟩, trivial, ⟨rfl, trivial⟩, trivial, ⟨rfl, rfl, trivial⟩, trivial, ⟨rfl, trivial⟩, trivial, ⟨rfl, trivial⟩, trivial, ⟨rfl, trivial⟩, trivial, ⟨rfl, rfl, trivial⟩, trivial, ⟨rfl, trivial⟩, trivial, ⟨rfl, rfl, trivial⟩, trivial, trivial⟩ ⟨OpW.plain (op_move (Ev.t 0 (.g (.d (.sl 3 (List.map encApi_Dep s1_0))))) rfl) rfl rfl, OpW.plain (op_move (Ev.t 5 (bI .i64 v4)) rfl) rfl rfl, OpW.plain (op_index (cs := [.v (.string x9.Key), .v (.int .i64 x9.Stamp.N), .v (.int .i64 x9.Stamp.Site)]) Try.underlying22 ti26 (idx_ok hx9).1 (idx_get hx9 encApi_Dep) (Ev.t 16 (.g (.d (.sl 3 (List.map encApi_Dep s1_0))))) (Ev.t 17 (bI .i64 v4)) rfl) rfl rfl, OpW.plain (op_loadAE (ds := [.v (.string x9.Key), .v (.int .i64 x9.Stamp.N), .v (.int .i64 x9.Stamp.Site)]) Try.underlying26 rfl ti26 rfl (Ev.t 18 (.ep [.v (.string x9.Key), .v (.int .i64 x9.Stamp.N), .v (.int .i64 x9.Stamp.Site)])) rfl) rfl rfl, OpW.plain (op_move (Ev.t 1 (.g (.d (.sl 3 (List.map encApi_Dep s2_1))))) rfl) rfl rfl, OpW.plain (op_move (Ev.t 5 (bI .i64 v4)) rfl) rfl rfl, OpW.plain (op_index (cs := [.v (.string x10.Key), .v (.int .i64 x10.Stamp.N), .v (.int .i64 x10.Stamp.Site)]) Try.underlying22 ti26 (idx_ok hx10).1 (idx_get hx10 encApi_Dep) (Ev.t 20 (.g (.d (.sl 3 (List.map encApi_Dep s2_1))))) (Ev.t 21 (bI .i64 v4)) rfl) rfl rfl, OpW.plain (op_loadAE (ds := [.v (.string x10.Key), .v (.int .i64 x10.Stamp.N), .v (.int .i64 x10.Stamp.Site)]) Try.underlying26 rfl ti26 rfl (Ev.t 22 (.ep [.v (.string x10.Key), .v (.int .i64 x10.Stamp.N), .v (.int .i64 x10.Stamp.Site)])) rfl) rfl rfl, OpW.plain (op_eqA (us := [.string x9.Key, .int .i64 x9.Stamp.N, .int .i64 x9.Stamp.Site]) (vs := [.string x10.Key, .int .i64 x10.Stamp.N, .int .i64 x10.Stamp.Site]) rfl rfl Try.eqGuardType26 (fun w => ne26 x9.Key x9.Stamp.N x9.Stamp.Site x10.Key x10.Stamp.N x10.Stamp.Site w) (Ev.t 19 (.g (.agg [.v (.string x9.Key), .v (.int .i64 x9.Stamp.N), .v (.int .i64 x9.Stamp.Site)]))) (Ev.t 23 (.g (.agg [.v (.string x10.Key), .v (.int .i64 x10.Stamp.N), .v (.int .i64 x10.Stamp.Site)]))) rfl) rfl rfl, trivial⟩ ⟨rfl, rfl, rfl, rfl, rfl, trivial⟩ trivial rfl ?_
      refine ifS hF (fun hc11 hF => ?_) (fun hc11 hF => ?_)
      · refine G.cond rfl (fun _ => ?_) (fun hx => by rw [hc11] at hx; cases hx)
        refine G.seq ?_
        refine G.region ?_
        refine G.op1 (op_assign (Ev.c _ rfl) rfl) rfl trivial trivial ?_
        refine G.endOps ?_
        cases hF
        exact G.ret1 Try.results35 (RVar.tmp 4 _) ⟨rfl, trivial⟩ trivial
      · refine G.cond rfl (fun hx => by rw [hc11] at hx; cases hx) (fun _ => ?_)
        refine G.skip ?_
        refine G.endBlock ?_
        refine G.region ?_
        refine G.op1 (op_add (Ev.t 13 (bI .i64 v4)) (Ev.c _ rfl) rfl) rfl ⟨rfl, trivial⟩ trivial ?_
        refine G.op1 (op_move (Ev.t 25 (bI .i64 (IntKind.wrap .i64 (v4 + 1)))) rfl) rfl ⟨rfl, trivial⟩ trivial ?_
        refine G.endOps ?_
        exact G.arr (J5 (IntKind.wrap .i64 (v4 + 1)) hF) ⟨rfl, rfl, rfl, rfl, trivial⟩ trivial rfl
    · refine G.cond rfl (fun hx => by rw [hc8] at hx; cases hx) (fun _ => ?_)
      refine G.exit ?_
      refine GX.c ?_
      refine GX.q ?_
      refine GX.bYes ?_
      exact G.arr (J3 () hF) trivial trivial rfl


set_option maxRecDepth 20000 in
set_option maxHeartbeats 2000000 in
theorem ct_past_Same (p_0 : (List Api_Dep)) (q_1 : (List Api_Dep)) (r : Bool) (hF : past_Same p_0 q_1 = some r) : Ct Try.prog 14 [.g (.d (.sl 3 (List.map encApi_Dep p_0))), .g (.d (.sl 3 (List.map encApi_Dep q_1)))] (.one (.d (.v (.bool r)))) := by
  unfold past_Same at hF
  refine Ct.intro Try.func14 rfl Try.ntmps14 rfl rfl fun M w => ?_
  refine G.seq ?_
  refine G.region ?_
  refine G.op1 (op_assign (Ev.c _ rfl) rfl) rfl trivial trivial ?_
  refine G.endOps ?_
  refine G.seq ?_
  refine G.region ?_
  refine G.op1 (op_move (Ev.t 0 (.g (.d (.sl 3 (List.map encApi_Dep p_0))))) rfl) rfl ⟨rfl, trivial⟩ trivial ?_
  refine G.op1 (op_move (Ev.t 1 (.g (.d (.sl 3 (List.map encApi_Dep q_1))))) rfl) rfl ⟨rfl, trivial⟩ trivial ?_
  obtain ⟨r1, hr1, hF⟩ := bindS hF
  refine G.op1 (op_callQ (sv := .one (bB r1)) cf35 (ct_slices_Equal_Dep p_0 q_1 r1 hr1) rfl rfl (EvQL.cons (EvQ.g (Ev.t 5 (.g (.d (.sl 3 (List.map encApi_Dep p_0)))))) (EvQL.cons (EvQ.g (Ev.t 6 (.g (.d (.sl 3 (List.map encApi_Dep q_1)))))) EvQL.nil)) rfl) rfl ⟨rfl, rfl, trivial⟩ trivial ?_
  refine G.op1 (op_assign (Ev.t 7 (bB r1)) rfl) rfl ⟨rfl, trivial⟩ trivial ?_
  refine G.endOps ?_
  cases hF
  exact G.ret1 Try.results14 (RVar.tmp 4 _) ⟨rfl, trivial⟩ trivial


set_option maxRecDepth 20000 in
set_option maxHeartbeats 2000000 in
theorem ct_law04_PastBack (l_0 : (List Api_Dep)) (a_1 : ByteArray) (b_2 : ByteArray) (r : Bool) (hF : law04_PastBack l_0 a_1 b_2 = some r) : Ct Try.prog 8 [.g (.d (.sl 3 (List.map encApi_Dep l_0))), .g (.d (.v (.string a_1))), .g (.d (.v (.string b_2)))] (.one (.d (.v (.bool r)))) := by
  unfold law04_PastBack at hF
  refine Ct.intro Try.func8 rfl Try.ntmps8 rfl rfl fun M w => ?_
  refine G.seq ?_
  refine G.region ?_
  refine G.op1 (op_assign (Ev.c _ rfl) rfl) rfl trivial trivial ?_
  refine G.endOps ?_
  refine G.seq ?_
  refine G.region ?_
  obtain ⟨r1, hr1, hF⟩ := bindS hF
  refine G.op1 (op_callQ (sv := .one (bB r1)) cf9 (ct_law04_awake r1 hr1) rfl rfl EvQL.nil rfl) rfl trivial trivial ?_
  refine G.op1 (op_assign (Ev.t 13 (bB r1)) rfl) rfl ⟨rfl, trivial⟩ trivial ?_
  refine G.endOps ?_
  refine G.seq ?_
  refine G.region ?_
  refine G.op1 (op_move (Ev.t 0 (.g (.d (.sl 3 (List.map encApi_Dep l_0))))) rfl) rfl ⟨rfl, trivial⟩ trivial ?_
  obtain ⟨r2, hr2, hF⟩ := bindS hF
  refine G.op1 (op_call (sv := .one (.g (.d (.sl 3 (List.map encApi_Dep r2))))) cf10 (ct_law04_made l_0 r2 hr2) rfl (EvL.cons (Ev.t 14 (.g (.d (.sl 3 (List.map encApi_Dep l_0))))) EvL.nil) rfl) rfl ⟨rfl, trivial⟩ trivial ?_
  refine G.op1 (op_assign (Ev.t 15 (.g (.d (.sl 3 (List.map encApi_Dep r2))))) rfl) rfl ⟨rfl, trivial⟩ trivial ?_
  refine G.endOps ?_
  refine G.seq ?_
  refine G.seq ?_
  refine G.region ?_
  refine G.op1 (op_move (Ev.t 1 (bS a_1)) rfl) rfl ⟨rfl, trivial⟩ trivial ?_
  refine G.op1 (op_lenS Try.underlying9 (Ev.t 16 (bS a_1)) rfl) rfl ⟨rfl, trivial⟩ trivial ?_
  refine G.op1 (op_gtr (Ev.t 17 (bI .i64 (a_1.size : Int))) (Ev.c _ rfl) rfl) rfl ⟨rfl, trivial⟩ trivial ?_
  refine G.endOps ?_
  refine G.joinC (T := ByteArray) (fun y3 => ⟨[(1, .one (bS y3)), (2, .one (bS b_2)), (7, .one (bB r1)), (8, .one (.g (.d (.sl 3 (List.map encApi_Dep r2)))))], []⟩) (fun y3 => law04_PastBack_k1 b_2 r1 r2 y3 = some r) (fun y3 hF => ?_) (fun J23 => ?_)
  · unfold law04_PastBack_k1 at hF
    refine G.seq ?_
    refine G.seq ?_
    refine G.region ?_
    refine G.op1 (op_move (Ev.t 2 (bS b_2)) rfl) rfl ⟨rfl, trivial⟩ trivial ?_
    refine G.op1 (op_lenS Try.underlying9 (Ev.t 21 (bS b_2)) rfl) rfl ⟨rfl, trivial⟩ trivial ?_
    refine G.op1 (op_gtr (Ev.t 22 (bI .i64 (b_2.size : Int))) (Ev.c _ rfl) rfl) rfl ⟨rfl, trivial⟩ trivial ?_
    refine G.endOps ?_
    refine G.joinC (T := ByteArray) (fun y4 => ⟨[(1, .one (bS y3)), (2, .one (bS y4)), (7, .one (bB r1)), (8, .one (.g (.d (.sl 3 (List.map encApi_Dep r2)))))], []⟩) (fun y4 => law04_PastBack_k2 r1 r2 y3 y4 = some r) (fun y4 hF => ?_) (fun J20 => ?_)
    · unfold law04_PastBack_k2 at hF
      refine G.seq ?_
      refine G.region ?_
      refine G.op1 (op_move (Ev.t 8 (.g (.d (.sl 3 (List.map encApi_Dep r2))))) rfl) rfl ⟨rfl, trivial⟩ trivial ?_
      obtain ⟨r5, hr5, hF⟩ := bindS hF
      refine G.op1 (op_callQ (sv := .one (bS r5)) cf25 (ct_past_Bytes r2 r5 hr5) rfl rfl (EvQL.cons (EvQ.g (Ev.t 26 (.g (.d (.sl 3 (List.map encApi_Dep r2)))))) EvQL.nil) rfl) rfl ⟨rfl, trivial⟩ trivial ?_
      refine G.op1 (op_assign (Ev.t 27 (bS r5)) rfl) rfl ⟨rfl, trivial⟩ trivial ?_
      refine G.endOps ?_
      refine G.seq ?_
      refine G.region ?_
      refine G.op1 (op_move (Ev.t 1 (bS y3)) rfl) rfl ⟨rfl, trivial⟩ trivial ?_
      refine G.op1 (op_move (Ev.t 9 (bS r5)) rfl) rfl ⟨rfl, trivial⟩ trivial ?_
      obtain ⟨s6, hs6, hF⟩ := bindS hF
      refine G.op1 (OpL.cast (op_cat (scat_ok hs6).1 (Ev.t 29 (bS y3)) (Ev.t 30 (bS r5)) rfl) (by rw [(scat_ok hs6).2])) rfl ⟨rfl, rfl, trivial⟩ trivial ?_
      refine G.op1 (op_move (Ev.t 2 (bS y4)) rfl) rfl ⟨rfl, trivial⟩ trivial ?_
      obtain ⟨s7, hs7, hF⟩ := bindS hF
      refine G.op1 (OpL.cast (op_cat (scat_ok hs7).1 (Ev.t 31 (bS s6)) (Ev.t 32 (bS y4)) rfl) (by rw [(scat_ok hs7).2])) rfl ⟨rfl, rfl, trivial⟩ trivial ?_
      refine G.op1 (op_move (Ev.t 1 (bS y3)) rfl) rfl ⟨rfl, trivial⟩ trivial ?_
      refine G.op1 (op_lenS Try.underlying9 (Ev.t 34 (bS y3)) rfl) rfl ⟨rfl, trivial⟩ trivial ?_
      obtain ⟨r8, hr8, hF⟩ := bindS hF
      refine G.op1 (op_call (sv := .tup [.g (.d (.sl 3 (List.map encApi_Dep r8.1))), bI .i64 r8.2.1, bB r8.2.2]) cf27 (ct_past_Read s7 (y3.size : Int) r8 hr8) rfl (EvL.cons (Ev.t 33 (bS s7)) (EvL.cons (Ev.t 35 (bI .i64 (y3.size : Int))) EvL.nil)) rfl) rfl ⟨rfl, rfl, trivial⟩ trivial ?_
      refine G.op1 (op_moveS (t := 36) (sv := .tup [.g (.d (.sl 3 (List.map encApi_Dep r8.1))), bI .i64 r8.2.1, bB r8.2.2]) rfl) rfl ⟨rfl, trivial⟩ trivial ?_
      refine G.op1 (op_extract (l := [.g (.d (.sl 3 (List.map encApi_Dep r8.1))), bI .i64 r8.2.1, bB r8.2.2]) (c := .g (.d (.sl 3 (List.map encApi_Dep r8.1)))) rfl rfl) rfl ⟨rfl, trivial⟩ trivial ?_
      refine G.op1 (op_extract (l := [.g (.d (.sl 3 (List.map encApi_Dep r8.1))), bI .i64 r8.2.1, bB r8.2.2]) (c := bI .i64 r8.2.1) rfl rfl) rfl ⟨rfl, trivial⟩ trivial ?_
      refine G.op1 (op_extract (l := [.g (.d (.sl 3 (List.map encApi_Dep r8.1))), bI .i64 r8.2.1, bB r8.2.2]) (c := bB r8.2.2) rfl rfl) rfl ⟨rfl, trivial⟩ trivial ?_
      refine G.op1 (op_assign (Ev.t 37 (.g (.d (.sl 3 (List.map encApi_Dep r8.1))))) rfl) rfl ⟨rfl, trivial⟩ trivial ?_
      refine G.op1 (op_assign (Ev.t 38 (bI .i64 r8.2.1)) rfl) rfl ⟨rfl, trivial⟩ trivial ?_
      refine G.op1 (op_assign (Ev.t 39 (bB r8.2.2)) rfl) rfl ⟨rfl, trivial⟩ trivial ?_
      refine G.endOps ?_
      refine G.seq ?_
      refine G.region ?_
      refine G.op1 (op_move (Ev.t 7 (bB r1)) rfl) rfl ⟨rfl, trivial⟩ trivial ?_
      refine G.op1 (op_move (Ev.t 40 (bB r1)) rfl) rfl ⟨rfl, trivial⟩ trivial ?_
      refine G.joinL (T := Bool) 2 (fun y9 => ⟨[(1, .one (bS y3)), (8, .one (.g (.d (.sl 3 (List.map encApi_Dep r2))))), (9, .one (bS r5)), (10, .one (.g (.d (.sl 3 (List.map encApi_Dep r8.1))))), (11, .one (bI .i64 r8.2.1)), (43, .one (bB y9))], []⟩) (fun y9 => law04_PastBack_k3 r2 y3 r5 r8 y9 = some r) (fun y9 hF => ?_) (fun J18 => ?_)
      · unfold law04_PastBack_k3 at hF
        refine G.op1 (op_move (Ev.t 43 (bB y9)) rfl) rfl ⟨rfl, trivial⟩ trivial ?_
        refine G.joinL (T := Bool) 4 (fun y10 => ⟨[(1, .one (bS y3)), (9, .one (bS r5)), (11, .one (bI .i64 r8.2.1)), (48, .one (bB y10))], []⟩) (fun y10 => law04_PastBack_k4 y3 r5 r8 y10 = some r) (fun y10 hF => ?_) (fun J15 => ?_)
        · unfold law04_PastBack_k4 at hF
          refine G.op1 (op_move (Ev.t 48 (bB y10)) rfl) rfl ⟨rfl, trivial⟩ trivial ?_
          refine G.joinL (T := Bool) 8 (fun y11 => ⟨[(9, .one (bS r5)), (57, .one (bB y11))], []⟩) (fun y11 => law04_PastBack_k5 r5 y11 = some r) (fun y11 hF => ?_) (fun J13 => ?_)
          · unfold law04_PastBack_k5 at hF
            refine G.op1 (op_move (Ev.t 57 (bB y11)) rfl) rfl ⟨rfl, trivial⟩ trivial ?_
            refine ifS hF (fun hc12 hF => ?_) (fun hc12 hF => ?_)
            · refine G.known (t := 58) hc12 rfl ?_
              refine G.opG1 (op_move (Ev.t 9 (bS r5)) rfl) rfl rfl rfl ⟨rfl, trivial⟩ trivial ?_
              refine G.opG1 (op_lenS Try.underlying9 (Ev.t 59 (bS r5)) rfl) rfl rfl rfl ⟨rfl, trivial⟩ trivial ?_
              refine G.opG1 (op_gtr (Ev.t 60 (bI .i64 (r5.size : Int))) (Ev.c _ rfl) rfl) rfl rfl rfl ⟨rfl, trivial⟩ trivial ?_
              refine G.op1 (op_pickT (Ev.t 58 (bB true)) (Ev.t 61 (bB (decide (0 < (r5.size : Int))))) rfl) rfl ⟨rfl, rfl, trivial⟩ trivial ?_
              refine G.op1 (op_assign (Ev.t 62 (bB (decide (0 < (r5.size : Int))))) rfl) rfl ⟨rfl, trivial⟩ trivial ?_
              refine G.endOps ?_
              cases hF
              exact G.ret1 Try.results8 (RVar.tmp 6 _) ⟨rfl, trivial⟩ trivial
            · refine G.known (t := 58) hc12 rfl ?_
              refine G.opN1 rfl rfl rfl rfl rfl ?_
              refine G.opN1 rfl rfl rfl rfl rfl ?_
              refine G.opN1 rfl rfl rfl rfl rfl ?_
              refine G.op1 (op_pickF (Ev.t 58 (bB false)) (Ev.c _ rfl) rfl) rfl ⟨rfl, trivial⟩ trivial ?_
              refine G.op1 (op_assign (Ev.t 62 (bB false)) rfl) rfl ⟨rfl, trivial⟩ trivial ?_
              refine G.endOps ?_
              cases hF
              exact G.ret1 Try.results8 (RVar.tmp 6 _) ⟨rfl, trivial⟩ trivial
          refine ifS hF (fun hc14 hF => ?_) (fun hc14 hF => ?_)
          · refine G.known (t := 49) hc14 rfl ?_
            refine G.opG1 (op_move (Ev.t 11 (bI .i64 r8.2.1)) rfl) rfl rfl rfl ⟨rfl, trivial⟩ trivial ?_
            refine G.opG1 (op_move (Ev.t 1 (bS y3)) rfl) rfl rfl rfl ⟨rfl, trivial⟩ trivial ?_
            refine G.opG1 (op_lenS Try.underlying9 (Ev.t 51 (bS y3)) rfl) rfl rfl rfl ⟨rfl, trivial⟩ trivial ?_
            refine G.opG1 (op_move (Ev.t 9 (bS r5)) rfl) rfl rfl rfl ⟨rfl, trivial⟩ trivial ?_
            refine G.opG1 (op_lenS Try.underlying9 (Ev.t 53 (bS r5)) rfl) rfl rfl rfl ⟨rfl, trivial⟩ trivial ?_
            refine G.opG1 (op_add (Ev.t 52 (bI .i64 (y3.size : Int))) (Ev.t 54 (bI .i64 (r5.size : Int))) rfl) rfl rfl rfl ⟨rfl, rfl, trivial⟩ trivial ?_
            refine G.opG1 (op_eqI (Ev.t 50 (bI .i64 r8.2.1)) (Ev.t 55 (bI .i64 (IntKind.wrap .i64 ((y3.size : Int) + (r5.size : Int))))) rfl) rfl rfl rfl ⟨rfl, rfl, trivial⟩ trivial ?_
            refine G.op1 (op_pickT (Ev.t 49 (bB true)) (Ev.t 56 (bB (decide (r8.2.1 = (IntKind.wrap .i64 ((y3.size : Int) + (r5.size : Int))))))) rfl) rfl ⟨rfl, rfl, trivial⟩ trivial ?_
            exact G.arr (J13 (decide (r8.2.1 = (IntKind.wrap .i64 ((y3.size : Int) + (r5.size : Int))))) hF) ⟨rfl, rfl, trivial⟩ trivial rfl
          · refine G.known (t := 49) hc14 rfl ?_
            refine G.opN1 rfl rfl rfl rfl rfl ?_
            refine G.opN1 rfl rfl rfl rfl rfl ?_
            refine G.opN1 rfl rfl rfl rfl rfl ?_
            refine G.opN1 rfl rfl rfl rfl rfl ?_
            refine G.opN1 rfl rfl rfl rfl rfl ?_
            refine G.opN1 rfl rfl rfl rfl rfl ?_
            refine G.opN1 rfl rfl rfl rfl rfl ?_
            refine G.op1 (op_pickF (Ev.t 49 (bB false)) (Ev.c _ rfl) rfl) rfl ⟨rfl, trivial⟩ trivial ?_
            exact G.arr (J13 false hF) ⟨rfl, rfl, trivial⟩ trivial rfl
        refine ifS hF (fun hc16 hF => ?_) (fun hc16 hF => ?_)
        · refine G.known (t := 44) hc16 rfl ?_
          refine G.opG1 (op_move (Ev.t 8 (.g (.d (.sl 3 (List.map encApi_Dep r2))))) rfl) rfl rfl rfl ⟨rfl, trivial⟩ trivial ?_
          refine G.opG1 (op_move (Ev.t 10 (.g (.d (.sl 3 (List.map encApi_Dep r8.1))))) rfl) rfl rfl rfl ⟨rfl, trivial⟩ trivial ?_
          obtain ⟨r17, hr17, hF⟩ := bindS hF
          refine G.opG1 (op_callQ (sv := .one (bB r17)) cf14 (ct_past_Same r2 r8.1 r17 hr17) rfl rfl (EvQL.cons (EvQ.g (Ev.t 45 (.g (.d (.sl 3 (List.map encApi_Dep r2)))))) (EvQL.cons (EvQ.g (Ev.t 46 (.g (.d (.sl 3 (List.map encApi_Dep r8.1)))))) EvQL.nil)) rfl) rfl rfl rfl ⟨rfl, rfl, trivial⟩ trivial ?_
          refine G.op1 (op_pickT (Ev.t 44 (bB true)) (Ev.t 47 (bB r17)) rfl) rfl ⟨rfl, rfl, trivial⟩ trivial ?_
          exact G.arr (J15 r17 hF) ⟨rfl, rfl, rfl, rfl, trivial⟩ trivial rfl
        · refine G.known (t := 44) hc16 rfl ?_
          refine G.opN1 rfl rfl rfl rfl rfl ?_
          refine G.opN1 rfl rfl rfl rfl rfl ?_
          refine G.opN1 rfl rfl rfl rfl rfl ?_
          refine G.op1 (op_pickF (Ev.t 44 (bB false)) (Ev.c _ rfl) rfl) rfl ⟨rfl, trivial⟩ trivial ?_
          exact G.arr (J15 false hF) ⟨rfl, rfl, rfl, rfl, trivial⟩ trivial rfl
      refine ifS hF (fun hc19 hF => ?_) (fun hc19 hF => ?_)
      · refine G.known (t := 41) hc19 rfl ?_
        refine G.opG1 (op_move (Ev.t 12 (bB r8.2.2)) rfl) rfl rfl rfl ⟨rfl, trivial⟩ trivial ?_
        refine G.op1 (op_pickT (Ev.t 41 (bB true)) (Ev.t 42 (bB r8.2.2)) rfl) rfl ⟨rfl, rfl, trivial⟩ trivial ?_
        exact G.arr (J18 r8.2.2 hF) ⟨rfl, rfl, rfl, rfl, rfl, rfl, trivial⟩ trivial rfl
      · refine G.known (t := 41) hc19 rfl ?_
        refine G.opN1 rfl rfl rfl rfl rfl ?_
        refine G.op1 (op_pickF (Ev.t 41 (bB false)) (Ev.c _ rfl) rfl) rfl ⟨rfl, trivial⟩ trivial ?_
        exact G.arr (J18 false hF) ⟨rfl, rfl, rfl, rfl, rfl, rfl, trivial⟩ trivial rfl
    refine ifS hF (fun hc21 hF => ?_) (fun hc21 hF => ?_)
    · refine G.cond rfl (fun _ => ?_) (fun hx => by rw [hc21] at hx; cases hx)
      refine G.region ?_
      refine G.op1 (op_move (Ev.t 2 (bS b_2)) rfl) rfl ⟨rfl, trivial⟩ trivial ?_
      obtain ⟨s22, hs22, hF⟩ := bindS hF
      refine G.op1 (OpL.cast (op_sliceS (lo := none) (hi := some 6) Try.underlying9 (ssub_ok hs22).1 (ssub_ok hs22).2.1 (ssub_ok hs22).2.2.1 (Ev.t 24 (bS b_2)) EvO.none (EvO.some (Ev.c _ rfl)) rfl) (congrArg (fun s => bS s) (ssub_ok hs22).2.2.2)) rfl ⟨rfl, trivial⟩ trivial ?_
      refine G.op1 (op_assign (Ev.t 25 (bS s22)) rfl) rfl ⟨rfl, trivial⟩ trivial ?_
      refine G.endOps ?_
      exact G.arr (J20 s22 hF) ⟨rfl, rfl, rfl, rfl, trivial⟩ trivial rfl
    · refine G.cond rfl (fun hx => by rw [hc21] at hx; cases hx) (fun _ => ?_)
      refine G.skip ?_
      exact G.arr (J20 b_2 hF) ⟨rfl, rfl, rfl, rfl, trivial⟩ trivial rfl
  refine ifS hF (fun hc24 hF => ?_) (fun hc24 hF => ?_)
  · refine G.cond rfl (fun _ => ?_) (fun hx => by rw [hc24] at hx; cases hx)
    refine G.region ?_
    refine G.op1 (op_move (Ev.t 1 (bS a_1)) rfl) rfl ⟨rfl, trivial⟩ trivial ?_
    obtain ⟨s25, hs25, hF⟩ := bindS hF
    refine G.op1 (OpL.cast (op_sliceS (lo := none) (hi := some 6) Try.underlying9 (ssub_ok hs25).1 (ssub_ok hs25).2.1 (ssub_ok hs25).2.2.1 (Ev.t 19 (bS a_1)) EvO.none (EvO.some (Ev.c _ rfl)) rfl) (congrArg (fun s => bS s) (ssub_ok hs25).2.2.2)) rfl ⟨rfl, trivial⟩ trivial ?_
    refine G.op1 (op_assign (Ev.t 20 (bS s25)) rfl) rfl ⟨rfl, trivial⟩ trivial ?_
    refine G.endOps ?_
    exact G.arr (J23 s25 hF) ⟨rfl, rfl, rfl, rfl, trivial⟩ trivial rfl
  · refine G.cond rfl (fun hx => by rw [hc24] at hx; cases hx) (fun _ => ?_)
    refine G.skip ?_
    exact G.arr (J23 a_1 hF) ⟨rfl, rfl, rfl, rfl, trivial⟩ trivial rfl


end Go.Ark
