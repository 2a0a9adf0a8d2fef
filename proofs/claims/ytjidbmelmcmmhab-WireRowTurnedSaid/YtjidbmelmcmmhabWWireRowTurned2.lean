/- Walks, printed by a program of mine: each function of the program computes the typed function of its name. Conditions: none. -/
import Derived.Test.YtjidbmelmcmmhabWWireRowTurned1
namespace Go.Ark
open Go Go.Ab Go.RowKit Go.Lib Go.Proofs

set_option maxRecDepth 20000 in
set_option maxHeartbeats 2000000 in
theorem ct_law06_awake (r : Bool) (hF : law06_awake = some r) : Ct Try.prog 5 [] (.one (.d (vB r))) := by
  unfold law06_awake at hF
  refine Ct.intro Try.func5 rfl Try.ntmps5 rfl rfl fun M w => ?_
  refine G.seq ?_
  refine G.region ?_
  refine G.op1 (op_assign (Ev.c _ rfl) rfl) rfl trivial trivial ?_
  refine G.endOps ?_
  refine G.seq ?_
  refine G.region ?_
  refine G.op1 (op_build (zs := [vI 0, vI 0]) (ds := [vI 3, vI 2]) Try.underlying40 ti40 (pl40 _ Try.underlying40) ⟨.v _ rfl, .v _ rfl, trivial⟩ (EvP.cons (Ev.c _ rfl) (EvP.cons (Ev.c _ rfl) EvP.nil)) rfl rfl) rfl trivial trivial ?_
  refine G.op1 (op_build (zs := [vS ByteArray.empty, vS ByteArray.empty, vB false, vI 0, vI 0, .sl 3 (List.map encApi_Dep ([] : (List Api_Dep)))]) (ds := [vS (ByteArray.mk #[97]), vS (ByteArray.mk #[98]), vB false, vI 3, vI 2, .sl 3 (List.map encApi_Dep ([] : (List Api_Dep)))]) Try.underlying43 ti43 (pl43 _ Try.underlying43) ⟨.v _ rfl, .v _ rfl, .v _ rfl, .v _ rfl, .v _ rfl, .n 3, trivial⟩ (EvP.cons (Ev.c _ rfl) (EvP.cons (Ev.c _ rfl) (EvP.cons (Ev.t 4 (.g (.agg [vI 3, vI 2]))) EvP.nil))) rfl rfl) rfl ⟨rfl, trivial⟩ trivial ?_
  refine G.op2 (op_alloc (k := 1001) (cs := [bS ByteArray.empty, bS ByteArray.empty, bB false, bI .i64 0, bI .i64 0, .g (.d (.sl 3 (List.map encApi_Dep ([] : (List Api_Dep)))))]) ti43 ⟨.v _ rfl, .v _ rfl, .v _ rfl, .v _ rfl, .v _ rfl, .n 3, trivial⟩ rfl) rfl trivial ⟨rfl, trivial⟩ ?_
  refine G.op3 (op_storeA (cs' := [bS (ByteArray.mk #[97]), bS (ByteArray.mk #[98]), bB false, bI .i64 3, bI .i64 2, .g (.d (.sl 3 (List.map encApi_Dep ([] : (List Api_Dep)))))]) ti43 rfl rfl (Ev.t 1 (.ptr 1001 0)) (Ev.t 5 (.g (.agg [vS (ByteArray.mk #[97]), vS (ByteArray.mk #[98]), vB false, vI 3, vI 2, .sl 3 (List.map encApi_Dep ([] : (List Api_Dep)))])))) rfl ⟨rfl, rfl, trivial⟩ ⟨rfl, trivial⟩ ?_
  refine G.endOps ?_
  refine G.seq ?_
  refine G.region ?_
  obtain ⟨r1, hr1, hF⟩ := bindS hF
  refine G.op1 (op_call (sv := .tup [.g (.agg [vS r1.1.Key, vS r1.1.Value, vB r1.1.Gone, vI r1.1.Stamp.N, vI r1.1.Stamp.Site, .sl 3 (List.map encApi_Dep r1.1.Past)]), bB r1.2]) cf10 (ct_wire_Read (ByteArray.mk #[1, 97, 0, 1, 98, 3, 2, 0]) r1 hr1) rfl (EvL.cons (Ev.c _ rfl) EvL.nil) rfl) rfl trivial trivial ?_
  refine G.op1 (op_moveS (t := 7) (sv := .tup [.g (.agg [vS r1.1.Key, vS r1.1.Value, vB r1.1.Gone, vI r1.1.Stamp.N, vI r1.1.Stamp.Site, .sl 3 (List.map encApi_Dep r1.1.Past)]), bB r1.2]) rfl) rfl ⟨rfl, trivial⟩ trivial ?_
  refine G.op1 (op_extract (l := [.g (.agg [vS r1.1.Key, vS r1.1.Value, vB r1.1.Gone, vI r1.1.Stamp.N, vI r1.1.Stamp.Site, .sl 3 (List.map encApi_Dep r1.1.Past)]), bB r1.2]) (c := .g (.agg [vS r1.1.Key, vS r1.1.Value, vB r1.1.Gone, vI r1.1.Stamp.N, vI r1.1.Stamp.Site, .sl 3 (List.map encApi_Dep r1.1.Past)])) rfl rfl) rfl ⟨rfl, trivial⟩ trivial ?_
  refine G.op1 (op_extract (l := [.g (.agg [vS r1.1.Key, vS r1.1.Value, vB r1.1.Gone, vI r1.1.Stamp.N, vI r1.1.Stamp.Site, .sl 3 (List.map encApi_Dep r1.1.Past)]), bB r1.2]) (c := bB r1.2) rfl rfl) rfl ⟨rfl, trivial⟩ trivial ?_
  refine G.op2 (op_alloc (k := 1002) (cs := [bS ByteArray.empty, bS ByteArray.empty, bB false, bI .i64 0, bI .i64 0, .g (.d (.sl 3 (List.map encApi_Dep ([] : (List Api_Dep)))))]) ti43 ⟨.v _ rfl, .v _ rfl, .v _ rfl, .v _ rfl, .v _ rfl, .n 3, trivial⟩ rfl) rfl trivial ⟨rfl, trivial⟩ ?_
  refine G.op3 (op_storeA (cs' := [bS r1.1.Key, bS r1.1.Value, bB r1.1.Gone, bI .i64 r1.1.Stamp.N, bI .i64 r1.1.Stamp.Site, .g (.d (.sl 3 (List.map encApi_Dep r1.1.Past)))]) ti43 rfl rfl (Ev.t 2 (.ptr 1002 0)) (Ev.t 8 (.g (.agg [vS r1.1.Key, vS r1.1.Value, vB r1.1.Gone, vI r1.1.Stamp.N, vI r1.1.Stamp.Site, .sl 3 (List.map encApi_Dep r1.1.Past)])))) rfl ⟨rfl, rfl, trivial⟩ ⟨rfl, trivial⟩ ?_
  refine G.op1 (op_assign (Ev.t 9 (bB r1.2)) rfl) rfl ⟨rfl, trivial⟩ trivial ?_
  refine G.endOps ?_
  refine G.seq ?_
  refine G.region ?_
  refine G.op1 (op_loadAP (ds := [vS (ByteArray.mk #[97]), vS (ByteArray.mk #[98]), vB false, vI 3, vI 2, .sl 3 (List.map encApi_Dep ([] : (List Api_Dep)))]) Try.underlying43 rfl ti43 rfl (Ev.t 1 (.ptr 1001 0)) rfl) rfl ⟨rfl, trivial⟩ ⟨rfl, trivial⟩ ?_
  obtain ⟨r2, hr2, hF⟩ := bindS hF
  refine G.op1 (op_callQ (sv := oS r2) cf11 (ct_wire_Bytes (Api_Version.mk (ByteArray.mk #[97]) (ByteArray.mk #[98]) false (Api_Stamp.mk 3 2) ([] : (List Api_Dep))) r2 hr2) rfl rfl (EvQL.cons (EvQ.g (Ev.t 10 (.g (.agg [vS (ByteArray.mk #[97]), vS (ByteArray.mk #[98]), vB false, vI 3, vI 2, .sl 3 (List.map encApi_Dep ([] : (List Api_Dep)))])))) EvQL.nil) rfl) rfl ⟨rfl, trivial⟩ trivial ?_
  refine G.op1 (op_eqS (Ev.t 11 (bS r2)) (Ev.c _ rfl) rfl) rfl ⟨rfl, trivial⟩ trivial ?_
  refine G.op1 (op_move (Ev.t 12 (bB (seq r2 (ByteArray.mk #[1, 97, 0, 1, 98, 3, 2, 0])))) rfl) rfl ⟨rfl, trivial⟩ trivial ?_
  refine G.joinL (T := Bool) 2 (fun y3 => ⟨[(1, .one (.ptr 1001 0)), (2, .one (.ptr 1002 0)), (15, oB y3)], [(1001, some (.blk 43 [bS (ByteArray.mk #[97]), bS (ByteArray.mk #[98]), bB false, bI .i64 3, bI .i64 2, .g (.d (.sl 3 (List.map encApi_Dep ([] : (List Api_Dep)))))])), (1002, some (.blk 43 [bS r1.1.Key, bS r1.1.Value, bB r1.1.Gone, bI .i64 r1.1.Stamp.N, bI .i64 r1.1.Stamp.Site, .g (.d (.sl 3 (List.map encApi_Dep r1.1.Past)))]))]⟩) (fun y3 => law06_awake_k1 r1 y3 = some r) (fun y3 hF => ?_) (fun J6 => ?_)
  · unfold law06_awake_k1 at hF
    refine G.op1 (op_move (Ev.t 15 (bB y3)) rfl) rfl ⟨rfl, trivial⟩ trivial ?_
    refine ifS hF (fun hc4 hF => ?_) (fun hc4 hF => ?_)
    · refine G.known (t := 16) hc4 rfl ?_
      refine G.opG1 (op_loadAP (ds := [vS (ByteArray.mk #[97]), vS (ByteArray.mk #[98]), vB false, vI 3, vI 2, .sl 3 (List.map encApi_Dep ([] : (List Api_Dep)))]) Try.underlying43 rfl ti43 rfl (Ev.t 1 (.ptr 1001 0)) rfl) rfl rfl rfl ⟨rfl, trivial⟩ ⟨rfl, trivial⟩ ?_
      refine G.opG1 (op_loadAP (ds := [vS r1.1.Key, vS r1.1.Value, vB r1.1.Gone, vI r1.1.Stamp.N, vI r1.1.Stamp.Site, .sl 3 (List.map encApi_Dep r1.1.Past)]) Try.underlying43 rfl ti43 rfl (Ev.t 2 (.ptr 1002 0)) rfl) rfl rfl rfl ⟨rfl, trivial⟩ ⟨rfl, trivial⟩ ?_
      obtain ⟨r5, hr5, hF⟩ := bindS hF
      refine G.opG1 (op_callQ (sv := oB r5) cf12 (ct_wire_Same (Api_Version.mk (ByteArray.mk #[97]) (ByteArray.mk #[98]) false (Api_Stamp.mk 3 2) ([] : (List Api_Dep))) r1.1 r5 hr5) rfl rfl (EvQL.cons (EvQ.g (Ev.t 17 (.g (.agg [vS (ByteArray.mk #[97]), vS (ByteArray.mk #[98]), vB false, vI 3, vI 2, .sl 3 (List.map encApi_Dep ([] : (List Api_Dep)))])))) (EvQL.cons (EvQ.g (Ev.t 18 (.g (.agg [vS r1.1.Key, vS r1.1.Value, vB r1.1.Gone, vI r1.1.Stamp.N, vI r1.1.Stamp.Site, .sl 3 (List.map encApi_Dep r1.1.Past)])))) EvQL.nil)) rfl) rfl rfl rfl ⟨rfl, rfl, trivial⟩ trivial ?_
      refine G.op1 (op_pickT (Ev.t 16 (bB true)) (Ev.t 19 (bB r5)) rfl) rfl ⟨rfl, rfl, trivial⟩ trivial ?_
      refine G.op1 (op_assign (Ev.t 20 (bB r5)) rfl) rfl ⟨rfl, trivial⟩ trivial ?_
      refine G.endOps ?_
      cases hF
      exact G.ret1 Try.results5 (RVar.tmp 0 _) ⟨rfl, trivial⟩ trivial
    · refine G.known (t := 16) hc4 rfl ?_
      refine G.opN1 rfl rfl rfl rfl rfl ?_
      refine G.opN1 rfl rfl rfl rfl rfl ?_
      refine G.opN1 rfl rfl rfl rfl rfl ?_
      refine G.op1 (op_pickF (Ev.t 16 (bB false)) (Ev.c _ rfl) rfl) rfl ⟨rfl, trivial⟩ trivial ?_
      refine G.op1 (op_assign (Ev.t 20 (bB false)) rfl) rfl ⟨rfl, trivial⟩ trivial ?_
      refine G.endOps ?_
      cases hF
      exact G.ret1 Try.results5 (RVar.tmp 0 _) ⟨rfl, trivial⟩ trivial
  refine ifS hF (fun hc7 hF => ?_) (fun hc7 hF => ?_)
  · refine G.known (t := 13) hc7 rfl ?_
    refine G.opG1 (op_move (Ev.t 3 (bB r1.2)) rfl) rfl rfl rfl ⟨rfl, trivial⟩ trivial ?_
    refine G.op1 (op_pickT (Ev.t 13 (bB true)) (Ev.t 14 (bB r1.2)) rfl) rfl ⟨rfl, rfl, trivial⟩ trivial ?_
    exact G.arr (J6 r1.2 hF) ⟨rfl, rfl, rfl, trivial⟩ ⟨rfl, rfl, trivial⟩ rfl
  · refine G.known (t := 13) hc7 rfl ?_
    refine G.opN1 rfl rfl rfl rfl rfl ?_
    refine G.op1 (op_pickF (Ev.t 13 (bB false)) (Ev.c _ rfl) rfl) rfl ⟨rfl, trivial⟩ trivial ?_
    exact G.arr (J6 false hF) ⟨rfl, rfl, rfl, trivial⟩ ⟨rfl, rfl, trivial⟩ rfl


set_option maxRecDepth 20000 in
set_option maxHeartbeats 2000000 in
theorem ct_law06_Spec_row (q_0 : Law06_Spec) (r : Api_Row) (hF : law06_Spec_row q_0 = some r) : Ct Try.prog 7 [.g (.agg (encLaw06_Spec q_0))] (.one (.agg (encApi_Row r))) := by
  unfold law06_Spec_row at hF
  refine Ct.intro Try.func7 rfl Try.ntmps7 rfl rfl fun M w => ?_
  refine G.seq ?_
  refine G.region ?_
  refine G.op2 (op_boxA (k := 1001) (Ev.t 0 (.g (.agg [.sl 1 (List.map encI_i64 q_0.Ends), .sl 1 (List.map encI_i64 q_0.Owners), .sl 1 (List.map encI_i64 q_0.Parents)]))) rfl) rfl ⟨rfl, trivial⟩ ⟨rfl, trivial⟩ ?_
  refine G.op2 (op_alloc (k := 1002) (cs := [.g (.d (.sl 2 (List.map encApi_Range ([] : (List Api_Range))))), .g (.d (.sl 1 (List.map encI_i64 ([] : (List Int))))), .g (.d (.sl 1 (List.map encI_i64 ([] : (List Int)))))]) ti31 ⟨.n 2, .n 1, .n 1, trivial⟩ rfl) rfl trivial ⟨rfl, trivial⟩ ?_
  refine G.endOps ?_
  refine G.seq ?_
  refine G.region ?_
  refine G.op2 (op_buildRowN (kk := 2012) (ex := false) (es := List.map encI_i64 [(-1)]) Try.underlying22 ti3 rfl rfl rfl (EvP.cons (Ev.c _ rfl) EvP.nil) rfl rfl (by simp [encI_i64]) rfl) rfl trivial ⟨rfl, trivial⟩ ?_
  refine G.buildLit (kb := 1003) (kk := 2012) (off := 2) (zs := [.v (.slice none 0 0), .v (.slice none 0 0), .v (.slice none 0 0)]) (cs := [.g (.d (.v (.slice none 0 0))), .g (.d (.v (.slice none 0 0))), .own 2012 (List.map encI_i64 ([(-1)]))]) Try.underlying31 ti31 (pl31 _ Try.underlying31) ⟨.v _ rfl, .v _ rfl, .v _ rfl, trivial⟩ rfl rfl (Ev.t 12 (.own 2012 (List.map encI_i64 ([(-1)])))) ⟨rfl, trivial⟩ rfl rfl rfl rfl rfl rfl rfl ?_
  refine G.rowCell (kb := 1003) (kk := 5048) (E := 37) (size := 2) (j := 0) (cs' := [.own 5048 (List.map encApi_Range ([] : List Api_Range)), .g (.d (.v (.slice none 0 0))), .own 2012 (List.map encI_i64 ([(-1)]))]) rfl rfl rfl rfl rfl rfl ?_
  refine G.rowCell (kb := 1003) (kk := 5049) (E := 3) (size := 1) (j := 1) (cs' := [.own 5048 (List.map encApi_Range ([] : List Api_Range)), .own 5049 (List.map encI_i64 ([] : List Int)), .own 2012 (List.map encI_i64 ([(-1)]))]) rfl rfl rfl rfl rfl rfl ?_
  refine G.endOps ?_
  refine G.seq ?_
  refine G.seq ?_
  refine G.region ?_
  refine G.op1 (op_assign (Ev.c _ rfl) rfl) rfl trivial trivial ?_
  refine G.endOps ?_
  refine G.joinC (T := (List Int)) (fun y1 => ⟨[(1, .one (.ptr 1001 0)), (2, .one (.ptr 1002 0)), (3, .one (.ptr 1003 0))], [(1001, some (.blk 24 [.g (.d (.sl 1 (List.map encI_i64 q_0.Ends))), .g (.d (.sl 1 (List.map encI_i64 q_0.Owners))), .g (.d (.sl 1 (List.map encI_i64 q_0.Parents)))])), (1002, some (.blk 31 [.g (.d (.sl 2 (List.map encApi_Range ([] : (List Api_Range))))), .g (.d (.sl 1 (List.map encI_i64 ([] : (List Int))))), .g (.d (.sl 1 (List.map encI_i64 ([] : (List Int)))))])), (1003, some (.blk 31 [.own 5048 (List.map encApi_Range ([] : List Api_Range)), .own 5049 (List.map encI_i64 ([] : List Int)), .own 2012 (List.map encI_i64 y1)])), (2012, some (.row 3 1 (List.map encI_i64 y1) false)), (5048, some (.row 37 2 (List.map encApi_Range ([] : List Api_Range)) false)), (5049, some (.row 3 1 (List.map encI_i64 ([] : List Int)) false))]⟩) (fun y1 => law06_Spec_row_k1 q_0 y1 = some r) (fun y1 hF => ?_) (fun J37 => ?_)
  · unfold law06_Spec_row_k1 at hF
    refine G.seq ?_
    refine G.region ?_
    refine G.op1 (op_assign (Ev.c _ rfl) rfl) rfl trivial trivial ?_
    refine G.endOps ?_
    refine G.seq ?_
    refine G.seq ?_
    refine G.region ?_
    refine G.op1 (op_assign (Ev.c _ rfl) rfl) rfl trivial trivial ?_
    refine G.endOps ?_
    refine G.joinC (T := ByteArray × (List Api_Range)) (fun y2 => ⟨[(1, .one (.ptr 1001 0)), (2, .one (.ptr 1002 0)), (3, .one (.ptr 1003 0)), (5, oS y2.1)], [(1001, some (.blk 24 [.g (.d (.sl 1 (List.map encI_i64 q_0.Ends))), .g (.d (.sl 1 (List.map encI_i64 q_0.Owners))), .g (.d (.sl 1 (List.map encI_i64 q_0.Parents)))])), (1002, some (.blk 31 [.g (.d (.sl 2 (List.map encApi_Range ([] : (List Api_Range))))), .g (.d (.sl 1 (List.map encI_i64 ([] : (List Int))))), .g (.d (.sl 1 (List.map encI_i64 ([] : (List Int)))))])), (1003, some (.blk 31 [.own 5048 (List.map encApi_Range y2.2), .own 5049 (List.map encI_i64 ([] : List Int)), .own 2012 (List.map encI_i64 y1)])), (2012, some (.row 3 1 (List.map encI_i64 y1) false)), (5048, some (.row 37 2 (List.map encApi_Range y2.2) false)), (5049, some (.row 3 1 (List.map encI_i64 ([] : List Int)) false))]⟩) (fun y2 => law06_Spec_row_k2 q_0 y1 y2 = some r) (fun y2 hF => ?_) (fun J25 => ?_)
    · unfold law06_Spec_row_k2 at hF
      refine G.seq ?_
      refine G.region ?_
      refine G.op1 (op_fieldP (off' := 0) Try.underlying31 rfl ti29 (by decide) rfl (Ev.t 3 (.ptr 1003 0)) rfl) rfl ⟨rfl, trivial⟩ trivial ?_
      refine G.op1 (op_load1P (c := .own 5048 (List.map encApi_Range y2.2)) Try.underlying29 rfl rfl (Ev.t 74 (.ptr 1003 0)) rfl) rfl ⟨rfl, trivial⟩ ⟨rfl, trivial⟩ ?_
      refine G.op1 (op_move (Ev.t 5 (bS y2.1)) rfl) rfl ⟨rfl, trivial⟩ trivial ?_
      refine G.op1 (op_build (zs := [vS ByteArray.empty, vS ByteArray.empty]) (ds := [vS y2.1, vS ByteArray.empty]) Try.underlying37 ti37 (pl37 _ Try.underlying37) ⟨.v _ rfl, .v _ rfl, trivial⟩ (EvP.cons (Ev.t 76 (bS y2.1)) EvP.nil) rfl rfl) rfl ⟨rfl, trivial⟩ trivial ?_
      refine G.op1 (op_buildSlice (es := List.map encApi_Range [(Api_Range.mk y2.1 ByteArray.empty)]) Try.underlying29 ti37 rfl rfl (EvP.cons (Ev.t 77 (.g (.agg [vS y2.1, vS ByteArray.empty]))) EvP.nil) rfl rfl (by simp [encApi_Range]) rfl) rfl ⟨rfl, trivial⟩ trivial ?_
      obtain ⟨l3, hl3, hF⟩ := bindS hF
      refine G.op2 (op_appendO Try.underlying29 ti37 rfl (app_map hl3 encApi_Range) (app_b1 hl3 encApi_Range) (app_b2 hl3 encApi_Range) (Ev.t 75 (.own 5048 (List.map encApi_Range y2.2))) (Ev.t 78 (.g (.d (.sl 2 (List.map encApi_Range ([(Api_Range.mk y2.1 ByteArray.empty)])))))) rfl) rfl ⟨rfl, rfl, trivial⟩ ⟨rfl, trivial⟩ ?_
      refine G.op1 (op_fieldP (off' := 0) Try.underlying31 rfl ti29 (by decide) rfl (Ev.t 3 (.ptr 1003 0)) rfl) rfl ⟨rfl, trivial⟩ trivial ?_
      refine G.op3 (op_storeO (cs' := [.own 5048 (List.map encApi_Range l3), .own 5049 (List.map encI_i64 ([] : List Int)), .own 2012 (List.map encI_i64 y1)]) ti29 rfl rfl rfl (Ev.t 80 (.ptr 1003 0)) (Ev.t 79 (.own 5048 (List.map encApi_Range l3)))) rfl ⟨rfl, rfl, trivial⟩ ⟨rfl, rfl, trivial⟩ ?_
      refine G.endOps ?_
      refine G.seq ?_
      refine G.region ?_
      refine G.op1 (op_assign (Ev.c _ rfl) rfl) rfl trivial trivial ?_
      refine G.endOps ?_
      refine G.seq ?_
      refine G.seq ?_
      refine G.region ?_
      refine G.op1 (op_assign (Ev.c _ rfl) rfl) rfl trivial trivial ?_
      refine G.endOps ?_
      refine G.joinC (T := Int) (fun y4 => ⟨[(1, .one (.ptr 1001 0)), (2, .one (.ptr 1002 0)), (3, .one (.ptr 1003 0)), (8, oI y4)], [(1001, some (.blk 24 [.g (.d (.sl 1 (List.map encI_i64 q_0.Ends))), .g (.d (.sl 1 (List.map encI_i64 q_0.Owners))), .g (.d (.sl 1 (List.map encI_i64 q_0.Parents)))])), (1002, some (.blk 31 [.g (.d (.sl 2 (List.map encApi_Range ([] : (List Api_Range))))), .g (.d (.sl 1 (List.map encI_i64 ([] : (List Int))))), .g (.d (.sl 1 (List.map encI_i64 ([] : (List Int)))))])), (1003, some (.blk 31 [.own 5048 (List.map encApi_Range l3), .own 5049 (List.map encI_i64 ([] : List Int)), .own 2012 (List.map encI_i64 y1)])), (2012, some (.row 3 1 (List.map encI_i64 y1) false)), (5048, some (.row 37 2 (List.map encApi_Range l3) false)), (5049, some (.row 3 1 (List.map encI_i64 ([] : List Int)) false))]⟩) (fun y4 => law06_Spec_row_k3 q_0 y1 l3 y4 = some r) (fun y4 hF => ?_) (fun J19 => ?_)
      · unfold law06_Spec_row_k3 at hF
        refine G.seq ?_
        refine G.seq ?_
        refine G.region ?_
        refine G.op1 (op_assign (Ev.c _ rfl) rfl) rfl trivial trivial ?_
        refine G.endOps ?_
        refine G.joinC (T := (List Int)) (fun y5 => ⟨[(2, .one (.ptr 1002 0)), (3, .one (.ptr 1003 0))], [(1002, some (.blk 31 [.g (.d (.sl 2 (List.map encApi_Range ([] : (List Api_Range))))), .g (.d (.sl 1 (List.map encI_i64 ([] : (List Int))))), .g (.d (.sl 1 (List.map encI_i64 ([] : (List Int)))))])), (1003, some (.blk 31 [.own 5048 (List.map encApi_Range l3), .own 5049 (List.map encI_i64 y5), .own 2012 (List.map encI_i64 y1)])), (2012, some (.row 3 1 (List.map encI_i64 y1) false)), (5048, some (.row 37 2 (List.map encApi_Range l3) false)), (5049, some (.row 3 1 (List.map encI_i64 y5) false))]⟩) (fun y5 => law06_Spec_row_k4 y1 l3 y5 = some r) (fun y5 hF => ?_) (fun J6 => ?_)
        · unfold law06_Spec_row_k4 at hF
          refine G.seq ?_
          refine G.region ?_
          refine G.viewCell (kb := 1003) (j := 0) (cs' := [.g (.d (.sl 2 (List.map encApi_Range l3))), .own 5049 (List.map encI_i64 y5), .own 2012 (List.map encI_i64 y1)]) rfl rfl rfl rfl ?_
          refine G.viewCell (kb := 1003) (j := 1) (cs' := [.g (.d (.sl 2 (List.map encApi_Range l3))), .g (.d (.sl 1 (List.map encI_i64 y5))), .own 2012 (List.map encI_i64 y1)]) rfl rfl rfl rfl ?_
          refine G.viewCell (kb := 1003) (j := 2) (cs' := [.g (.d (.sl 2 (List.map encApi_Range l3))), .g (.d (.sl 1 (List.map encI_i64 y5))), .g (.d (.sl 1 (List.map encI_i64 y1)))]) rfl rfl rfl rfl ?_
          refine G.op1 (op_loadAP (ds := [.sl 2 (List.map encApi_Range l3), .sl 1 (List.map encI_i64 y5), .sl 1 (List.map encI_i64 y1)]) Try.underlying31 rfl ti31 rfl (Ev.t 3 (.ptr 1003 0)) rfl) rfl ⟨rfl, trivial⟩ ⟨rfl, trivial⟩ ?_
          refine G.op3 (op_storeA (cs' := [.g (.d (.sl 2 (List.map encApi_Range l3))), .g (.d (.sl 1 (List.map encI_i64 y5))), .g (.d (.sl 1 (List.map encI_i64 y1)))]) ti31 rfl rfl (Ev.t 2 (.ptr 1002 0)) (Ev.t 123 (.g (.agg [.sl 2 (List.map encApi_Range l3), .sl 1 (List.map encI_i64 y5), .sl 1 (List.map encI_i64 y1)])))) rfl ⟨rfl, rfl, trivial⟩ ⟨rfl, trivial⟩ ?_
          refine G.endOps ?_
          cases hF
          exact G.ret1 Try.results7 (RVar.cellA (ds := [.sl 2 (List.map encApi_Range l3), .sl 1 (List.map encI_i64 y5), .sl 1 (List.map encI_i64 y1)]) Try.underlying31 rfl ti31 rfl) ⟨rfl, trivial⟩ ⟨rfl, trivial⟩
        refine G.block ?_
        refine G.keep (sl' := [(1, .one (.ptr 1001 0)), (2, .one (.ptr 1002 0)), (3, .one (.ptr 1003 0)), (8, oI y4), (10, oI 0)]) (hp' := [(1001, some (.blk 24 [.g (.d (.sl 1 (List.map encI_i64 q_0.Ends))), .g (.d (.sl 1 (List.map encI_i64 q_0.Owners))), .g (.d (.sl 1 (List.map encI_i64 q_0.Parents)))])), (1002, some (.blk 31 [.g (.d (.sl 2 (List.map encApi_Range ([] : (List Api_Range))))), .g (.d (.sl 1 (List.map encI_i64 ([] : (List Int))))), .g (.d (.sl 1 (List.map encI_i64 ([] : (List Int)))))])), (1003, some (.blk 31 [.own 5048 (List.map encApi_Range l3), .own 5049 (List.map encI_i64 ([] : List Int)), .own 2012 (List.map encI_i64 y1)])), (2012, some (.row 3 1 (List.map encI_i64 y1) false)), (5048, some (.row 37 2 (List.map encApi_Range l3) false)), (5049, some (.row 3 1 (List.map encI_i64 ([] : List Int)) false))]) ⟨rfl, rfl, rfl, rfl, rfl, trivial⟩ ⟨rfl, rfl, rfl, rfl, rfl, rfl, trivial⟩ rfl ?_
        refine G.loopF (fun (v7 : Int × (List Int)) => ⟨[(1, .one (.ptr 1001 0)), (2, .one (.ptr 1002 0)), (3, .one (.ptr 1003 0)), (8, oI y4), (10, oI v7.1)], [(1001, some (.blk 24 [.g (.d (.sl 1 (List.map encI_i64 q_0.Ends))), .g (.d (.sl 1 (List.map encI_i64 q_0.Owners))), .g (.d (.sl 1 (List.map encI_i64 q_0.Parents)))])), (1002, some (.blk 31 [.g (.d (.sl 2 (List.map encApi_Range ([] : (List Api_Range))))), .g (.d (.sl 1 (List.map encI_i64 ([] : (List Int))))), .g (.d (.sl 1 (List.map encI_i64 ([] : (List Int)))))])), (1003, some (.blk 31 [.own 5048 (List.map encApi_Range l3), .own 5049 (List.map encI_i64 v7.2), .own 2012 (List.map encI_i64 y1)])), (2012, some (.row 3 1 (List.map encI_i64 y1) false)), (5048, some (.row 37 2 (List.map encApi_Range l3) false)), (5049, some (.row 3 1 (List.map encI_i64 v7.2) false))]⟩) hF rfl (fun K10 again9 v7 J8 hF => ?_)
        unfold law06_Spec_row_l5 at hF
        refine G.seq ?_
        refine G.seq ?_
        refine G.region ?_
        refine G.op1 (op_move (Ev.t 10 (bI .i64 v7.1)) rfl) rfl ⟨rfl, trivial⟩ trivial ?_
        refine G.op1 (op_fieldP (off' := 0) Try.underlying31 rfl ti29 (by decide) rfl (Ev.t 3 (.ptr 1003 0)) rfl) rfl ⟨rfl, trivial⟩ trivial ?_
        refine G.op1 (op_load1P (c := .own 5048 (List.map encApi_Range l3)) Try.underlying29 rfl rfl (Ev.t 91 (.ptr 1003 0)) rfl) rfl ⟨rfl, trivial⟩ ⟨rfl, trivial⟩ ?_
        refine G.op1 (OpL.cast (op_lenO Try.underlying29 (Ev.t 92 (.own 5048 (List.map encApi_Range l3))) rfl) (by rw [List.length_map])) rfl ⟨rfl, trivial⟩ ⟨rfl, trivial⟩ ?_
        refine G.op1 (op_lss (Ev.t 90 (bI .i64 v7.1)) (Ev.t 93 (bI .i64 (l3.length : Int))) rfl) rfl ⟨rfl, rfl, trivial⟩ trivial ?_
        refine G.endOps ?_
        refine ifS hF (fun hc11 hF => ?_) (fun hc11 hF => ?_)
        · refine G.cond rfl (fun _ => ?_) (fun hx => by rw [hc11] at hx; cases hx)
          refine G.skip ?_
          refine G.seq ?_
          refine G.block ?_
          refine G.seq ?_
          refine G.region ?_
          refine G.op1 (op_assign (Ev.c _ rfl) rfl) rfl trivial trivial ?_
          refine G.endOps ?_
          refine G.seq ?_
          refine G.seq ?_
          refine G.region ?_
          refine G.op1 (op_move (Ev.t 10 (bI .i64 v7.1)) rfl) rfl ⟨rfl, trivial⟩ trivial ?_
          refine G.op1 (op_fieldP (off' := 1) Try.underlying24 rfl ti22 (by decide) rfl (Ev.t 1 (.ptr 1001 0)) rfl) rfl ⟨rfl, trivial⟩ trivial ?_
          refine G.op1 (op_load1P (c := .g (.d (.sl 1 (List.map encI_i64 q_0.Owners)))) Try.underlying22 rfl rfl (Ev.t 98 (.ptr 1001 1)) rfl) rfl ⟨rfl, trivial⟩ ⟨rfl, trivial⟩ ?_
          refine G.op1 (OpL.cast (op_lenD Try.underlying22 (Ev.t 99 (.g (.d (.sl 1 (List.map encI_i64 q_0.Owners))))) rfl) (by rw [List.length_map])) rfl ⟨rfl, trivial⟩ trivial ?_
          refine G.op1 (op_lss (Ev.t 97 (bI .i64 v7.1)) (Ev.t 100 (bI .i64 (q_0.Owners.length : Int))) rfl) rfl ⟨rfl, rfl, trivial⟩ trivial ?_
          refine G.endOps ?_
          refine G.joinC (T := Int) (fun y12 => ⟨[(1, .one (.ptr 1001 0)), (2, .one (.ptr 1002 0)), (3, .one (.ptr 1003 0)), (8, oI y4), (10, oI v7.1), (11, oI y12)], [(1001, some (.blk 24 [.g (.d (.sl 1 (List.map encI_i64 q_0.Ends))), .g (.d (.sl 1 (List.map encI_i64 q_0.Owners))), .g (.d (.sl 1 (List.map encI_i64 q_0.Parents)))])), (1002, some (.blk 31 [.g (.d (.sl 2 (List.map encApi_Range ([] : (List Api_Range))))), .g (.d (.sl 1 (List.map encI_i64 ([] : (List Int))))), .g (.d (.sl 1 (List.map encI_i64 ([] : (List Int)))))])), (1003, some (.blk 31 [.own 5048 (List.map encApi_Range l3), .own 5049 (List.map encI_i64 v7.2), .own 2012 (List.map encI_i64 y1)])), (2012, some (.row 3 1 (List.map encI_i64 y1) false)), (5048, some (.row 37 2 (List.map encApi_Range l3) false)), (5049, some (.row 3 1 (List.map encI_i64 v7.2) false))]⟩) (fun y12 => law06_Spec_row_k6 again9 v7 y12 = some r) (fun y12 hF => ?_) (fun J14 => ?_)
          · unfold law06_Spec_row_k6 at hF
            refine G.region ?_
            refine G.op1 (op_fieldP (off' := 1) Try.underlying31 rfl ti22 (by decide) rfl (Ev.t 3 (.ptr 1003 0)) rfl) rfl ⟨rfl, trivial⟩ trivial ?_
            refine G.op1 (op_load1P (c := .own 5049 (List.map encI_i64 v7.2)) Try.underlying22 rfl rfl (Ev.t 116 (.ptr 1003 1)) rfl) rfl ⟨rfl, trivial⟩ ⟨rfl, trivial⟩ ?_
            refine G.op1 (op_move (Ev.t 11 (bI .i64 y12)) rfl) rfl ⟨rfl, trivial⟩ trivial ?_
            refine G.op1 (op_add (Ev.c _ rfl) (Ev.t 118 (bI .i64 y12)) rfl) rfl ⟨rfl, trivial⟩ trivial ?_
            refine G.op1 (op_buildSlice (es := List.map encI_i64 [IntKind.wrap .i64 (1 + y12)]) Try.underlying22 ti3 rfl rfl (EvP.cons (Ev.t 119 (bI .i64 (IntKind.wrap .i64 (1 + y12)))) EvP.nil) rfl rfl (by simp [encI_i64]) rfl) rfl ⟨rfl, trivial⟩ trivial ?_
            obtain ⟨l13, hl13, hF⟩ := bindS hF
            refine G.op2 (op_appendO Try.underlying22 ti3 rfl (app_map hl13 encI_i64) (app_b1 hl13 encI_i64) (app_b2 hl13 encI_i64) (Ev.t 117 (.own 5049 (List.map encI_i64 v7.2))) (Ev.t 120 (.g (.d (.sl 1 (List.map encI_i64 ([IntKind.wrap .i64 (1 + y12)])))))) rfl) rfl ⟨rfl, rfl, trivial⟩ ⟨rfl, trivial⟩ ?_
            refine G.op1 (op_fieldP (off' := 1) Try.underlying31 rfl ti22 (by decide) rfl (Ev.t 3 (.ptr 1003 0)) rfl) rfl ⟨rfl, trivial⟩ trivial ?_
            refine G.op3 (op_storeO (cs' := [.own 5048 (List.map encApi_Range l3), .own 5049 (List.map encI_i64 l13), .own 2012 (List.map encI_i64 y1)]) ti22 rfl rfl rfl (Ev.t 122 (.ptr 1003 1)) (Ev.t 121 (.own 5049 (List.map encI_i64 l13)))) rfl ⟨rfl, rfl, trivial⟩ ⟨rfl, rfl, trivial⟩ ?_
            refine G.endOps ?_
            refine G.endBlock ?_
            refine G.region ?_
            refine G.op1 (op_move (Ev.t 10 (bI .i64 v7.1)) rfl) rfl ⟨rfl, trivial⟩ trivial ?_
            refine G.op1 (op_add (Ev.t 95 (bI .i64 v7.1)) (Ev.c _ rfl) rfl) rfl ⟨rfl, trivial⟩ trivial ?_
            refine G.op1 (op_assign (Ev.t 96 (bI .i64 (IntKind.wrap .i64 (v7.1 + 1)))) rfl) rfl ⟨rfl, trivial⟩ trivial ?_
            refine G.endOps ?_
            exact G.arr (J8 (IntKind.wrap .i64 (v7.1 + 1), l13) hF) ⟨rfl, rfl, rfl, rfl, rfl, trivial⟩ ⟨rfl, rfl, rfl, rfl, rfl, rfl, trivial⟩ rfl
          refine ifS hF (fun hc15 hF => ?_) (fun hc15 hF => ?_)
          · refine G.cond rfl (fun _ => ?_) (fun hx => by rw [hc15] at hx; cases hx)
            refine G.region ?_
            refine G.op1 (op_fieldP (off' := 1) Try.underlying24 rfl ti22 (by decide) rfl (Ev.t 1 (.ptr 1001 0)) rfl) rfl ⟨rfl, trivial⟩ trivial ?_
            refine G.op1 (op_load1P (c := .g (.d (.sl 1 (List.map encI_i64 q_0.Owners)))) Try.underlying22 rfl rfl (Ev.t 102 (.ptr 1001 1)) rfl) rfl ⟨rfl, trivial⟩ ⟨rfl, trivial⟩ ?_
            refine G.op1 (op_move (Ev.t 10 (bI .i64 v7.1)) rfl) rfl ⟨rfl, trivial⟩ trivial ?_
            obtain ⟨x16, hx16, hF⟩ := bindS hF
            refine G.op1 (op_index (cs := [vI x16]) Try.underlying22 ti3 (idx_ok hx16).1 (idx_get hx16 encI_i64) (Ev.t 103 (.g (.d (.sl 1 (List.map encI_i64 q_0.Owners))))) (Ev.t 104 (bI .i64 v7.1)) rfl) rfl ⟨rfl, rfl, trivial⟩ trivial ?_
            refine G.op1 (op_load1E (c := vI x16) Try.underlying3 rfl rfl (Ev.t 105 (.ep [vI x16])) rfl) rfl ⟨rfl, trivial⟩ trivial ?_
            refine G.op1 (op_move (Ev.t 8 (bI .i64 y4)) rfl) rfl ⟨rfl, trivial⟩ trivial ?_
            refine G.op1 (op_sub (Ev.t 107 (bI .i64 y4)) (Ev.c _ rfl) rfl) rfl ⟨rfl, trivial⟩ trivial ?_
            obtain ⟨hz17, hF⟩ := chkS hF
            refine G.op1 (op_rem (by simpa using hz17) (Ev.t 106 (bI .i64 x16)) (Ev.t 108 (bI .i64 (IntKind.wrap .i64 (y4 - 1)))) rfl) rfl ⟨rfl, rfl, trivial⟩ trivial ?_
            refine G.op1 (op_move (Ev.t 8 (bI .i64 y4)) rfl) rfl ⟨rfl, trivial⟩ trivial ?_
            refine G.op1 (op_add (Ev.t 109 (bI .i64 (Int.tmod x16 (IntKind.wrap .i64 (y4 - 1))))) (Ev.t 110 (bI .i64 y4)) rfl) rfl ⟨rfl, rfl, trivial⟩ trivial ?_
            refine G.op1 (op_sub (Ev.t 111 (bI .i64 (IntKind.wrap .i64 ((Int.tmod x16 (IntKind.wrap .i64 (y4 - 1))) + y4)))) (Ev.c _ rfl) rfl) rfl ⟨rfl, trivial⟩ trivial ?_
            refine G.op1 (op_move (Ev.t 8 (bI .i64 y4)) rfl) rfl ⟨rfl, trivial⟩ trivial ?_
            refine G.op1 (op_sub (Ev.t 113 (bI .i64 y4)) (Ev.c _ rfl) rfl) rfl ⟨rfl, trivial⟩ trivial ?_
            obtain ⟨hz18, hF⟩ := chkS hF
            refine G.op1 (op_rem (by simpa using hz18) (Ev.t 112 (bI .i64 (IntKind.wrap .i64 ((IntKind.wrap .i64 ((Int.tmod x16 (IntKind.wrap .i64 (y4 - 1))) + y4)) - 1)))) (Ev.t 114 (bI .i64 (IntKind.wrap .i64 (y4 - 1)))) rfl) rfl ⟨rfl, rfl, trivial⟩ trivial ?_
            refine G.op1 (op_assign (Ev.t 115 (bI .i64 (Int.tmod (IntKind.wrap .i64 ((IntKind.wrap .i64 ((Int.tmod x16 (IntKind.wrap .i64 (y4 - 1))) + y4)) - 1)) (IntKind.wrap .i64 (y4 - 1))))) rfl) rfl ⟨rfl, trivial⟩ trivial ?_
            refine G.endOps ?_
            exact G.arr (J14 (Int.tmod (IntKind.wrap .i64 ((IntKind.wrap .i64 ((Int.tmod x16 (IntKind.wrap .i64 (y4 - 1))) + y4)) - 1)) (IntKind.wrap .i64 (y4 - 1))) hF) ⟨rfl, rfl, rfl, rfl, rfl, rfl, trivial⟩ ⟨rfl, rfl, rfl, rfl, rfl, rfl, trivial⟩ rfl
          · refine G.cond rfl (fun hx => by rw [hc15] at hx; cases hx) (fun _ => ?_)
            refine G.skip ?_
            exact G.arr (J14 0 hF) ⟨rfl, rfl, rfl, rfl, rfl, rfl, trivial⟩ ⟨rfl, rfl, rfl, rfl, rfl, rfl, trivial⟩ rfl
        · refine G.cond rfl (fun hx => by rw [hc11] at hx; cases hx) (fun _ => ?_)
          refine G.exit ?_
          refine GX.c ?_
          refine GX.q ?_
          refine GX.bYes ?_
          exact G.arr (J6 v7.2 hF) ⟨rfl, rfl, trivial⟩ ⟨rfl, rfl, rfl, rfl, rfl, trivial⟩ rfl
      refine G.block ?_
      refine G.keep (sl' := [(1, .one (.ptr 1001 0)), (2, .one (.ptr 1002 0)), (3, .one (.ptr 1003 0)), (8, oI 1), (9, oI 0)]) (hp' := [(1001, some (.blk 24 [.g (.d (.sl 1 (List.map encI_i64 q_0.Ends))), .g (.d (.sl 1 (List.map encI_i64 q_0.Owners))), .g (.d (.sl 1 (List.map encI_i64 q_0.Parents)))])), (1002, some (.blk 31 [.g (.d (.sl 2 (List.map encApi_Range ([] : (List Api_Range))))), .g (.d (.sl 1 (List.map encI_i64 ([] : (List Int))))), .g (.d (.sl 1 (List.map encI_i64 ([] : (List Int)))))])), (1003, some (.blk 31 [.own 5048 (List.map encApi_Range l3), .own 5049 (List.map encI_i64 ([] : List Int)), .own 2012 (List.map encI_i64 y1)])), (2012, some (.row 3 1 (List.map encI_i64 y1) false)), (5048, some (.row 37 2 (List.map encApi_Range l3) false)), (5049, some (.row 3 1 (List.map encI_i64 ([] : List Int)) false))]) ⟨rfl, rfl, rfl, rfl, rfl, trivial⟩ ⟨rfl, rfl, rfl, rfl, rfl, rfl, trivial⟩ rfl ?_
      refine G.loopF (fun (v20 : Int × Int) => ⟨[(1, .one (.ptr 1001 0)), (2, .one (.ptr 1002 0)), (3, .one (.ptr 1003 0)), (8, oI v20.1), (9, oI v20.2)], [(1001, some (.blk 24 [.g (.d (.sl 1 (List.map encI_i64 q_0.Ends))), .g (.d (.sl 1 (List.map encI_i64 q_0.Owners))), .g (.d (.sl 1 (List.map encI_i64 q_0.Parents)))])), (1002, some (.blk 31 [.g (.d (.sl 2 (List.map encApi_Range ([] : (List Api_Range))))), .g (.d (.sl 1 (List.map encI_i64 ([] : (List Int))))), .g (.d (.sl 1 (List.map encI_i64 ([] : (List Int)))))])), (1003, some (.blk 31 [.own 5048 (List.map encApi_Range l3), .own 5049 (List.map encI_i64 ([] : List Int)), .own 2012 (List.map encI_i64 y1)])), (2012, some (.row 3 1 (List.map encI_i64 y1) false)), (5048, some (.row 37 2 (List.map encApi_Range l3) false)), (5049, some (.row 3 1 (List.map encI_i64 ([] : List Int)) false))]⟩) hF rfl (fun K23 again22 v20 J21 hF => ?_)
      unfold law06_Spec_row_l7 at hF
      refine G.seq ?_
      refine G.seq ?_
      refine G.region ?_
      refine G.op1 (op_move (Ev.t 9 (bI .i64 v20.2)) rfl) rfl ⟨rfl, trivial⟩ trivial ?_
      refine G.op1 (op_fieldP (off' := 2) Try.underlying31 rfl ti22 (by decide) rfl (Ev.t 3 (.ptr 1003 0)) rfl) rfl ⟨rfl, trivial⟩ trivial ?_
      refine G.op1 (op_load1P (c := .own 2012 (List.map encI_i64 y1)) Try.underlying22 rfl rfl (Ev.t 82 (.ptr 1003 2)) rfl) rfl ⟨rfl, trivial⟩ ⟨rfl, trivial⟩ ?_
      refine G.op1 (OpL.cast (op_lenO Try.underlying22 (Ev.t 83 (.own 2012 (List.map encI_i64 y1))) rfl) (by rw [List.length_map])) rfl ⟨rfl, trivial⟩ ⟨rfl, trivial⟩ ?_
      refine G.op1 (op_lss (Ev.t 81 (bI .i64 v20.2)) (Ev.t 84 (bI .i64 (y1.length : Int))) rfl) rfl ⟨rfl, rfl, trivial⟩ trivial ?_
      refine G.endOps ?_
      refine ifS hF (fun hc24 hF => ?_) (fun hc24 hF => ?_)
      · refine G.cond rfl (fun _ => ?_) (fun hx => by rw [hc24] at hx; cases hx)
        refine G.skip ?_
        refine G.seq ?_
        refine G.block ?_
        refine G.region ?_
        refine G.op1 (op_move (Ev.t 8 (bI .i64 v20.1)) rfl) rfl ⟨rfl, trivial⟩ trivial ?_
        refine G.op1 (op_mul (Ev.t 88 (bI .i64 v20.1)) (Ev.c _ rfl) rfl) rfl ⟨rfl, trivial⟩ trivial ?_
        refine G.op1 (op_assign (Ev.t 89 (bI .i64 (IntKind.wrap .i64 (v20.1 * 2)))) rfl) rfl ⟨rfl, trivial⟩ trivial ?_
        refine G.endOps ?_
        refine G.endBlock ?_
        refine G.region ?_
        refine G.op1 (op_move (Ev.t 9 (bI .i64 v20.2)) rfl) rfl ⟨rfl, trivial⟩ trivial ?_
        refine G.op1 (op_add (Ev.t 86 (bI .i64 v20.2)) (Ev.c _ rfl) rfl) rfl ⟨rfl, trivial⟩ trivial ?_
        refine G.op1 (op_assign (Ev.t 87 (bI .i64 (IntKind.wrap .i64 (v20.2 + 1)))) rfl) rfl ⟨rfl, trivial⟩ trivial ?_
        refine G.endOps ?_
        exact G.arr (J21 (IntKind.wrap .i64 (v20.1 * 2), IntKind.wrap .i64 (v20.2 + 1)) hF) ⟨rfl, rfl, rfl, rfl, rfl, trivial⟩ ⟨rfl, rfl, rfl, rfl, rfl, rfl, trivial⟩ rfl
      · refine G.cond rfl (fun hx => by rw [hc24] at hx; cases hx) (fun _ => ?_)
        refine G.exit ?_
        refine GX.c ?_
        refine GX.q ?_
        refine GX.bYes ?_
        exact G.arr (J19 v20.1 hF) ⟨rfl, rfl, rfl, rfl, trivial⟩ ⟨rfl, rfl, rfl, rfl, rfl, rfl, trivial⟩ rfl
    refine G.block ?_
    refine G.keep (sl' := [(1, .one (.ptr 1001 0)), (2, .one (.ptr 1002 0)), (3, .one (.ptr 1003 0)), (5, oS ByteArray.empty), (6, oI 0)]) (hp' := [(1001, some (.blk 24 [.g (.d (.sl 1 (List.map encI_i64 q_0.Ends))), .g (.d (.sl 1 (List.map encI_i64 q_0.Owners))), .g (.d (.sl 1 (List.map encI_i64 q_0.Parents)))])), (1002, some (.blk 31 [.g (.d (.sl 2 (List.map encApi_Range ([] : (List Api_Range))))), .g (.d (.sl 1 (List.map encI_i64 ([] : (List Int))))), .g (.d (.sl 1 (List.map encI_i64 ([] : (List Int)))))])), (1003, some (.blk 31 [.own 5048 (List.map encApi_Range ([] : List Api_Range)), .own 5049 (List.map encI_i64 ([] : List Int)), .own 2012 (List.map encI_i64 y1)])), (2012, some (.row 3 1 (List.map encI_i64 y1) false)), (5048, some (.row 37 2 (List.map encApi_Range ([] : List Api_Range)) false)), (5049, some (.row 3 1 (List.map encI_i64 ([] : List Int)) false))]) ⟨rfl, rfl, rfl, rfl, rfl, trivial⟩ ⟨rfl, rfl, rfl, rfl, rfl, rfl, trivial⟩ rfl ?_
    refine G.loopF (fun (v26 : ByteArray × Int × (List Api_Range)) => ⟨[(1, .one (.ptr 1001 0)), (2, .one (.ptr 1002 0)), (3, .one (.ptr 1003 0)), (5, oS v26.1), (6, oI v26.2.1)], [(1001, some (.blk 24 [.g (.d (.sl 1 (List.map encI_i64 q_0.Ends))), .g (.d (.sl 1 (List.map encI_i64 q_0.Owners))), .g (.d (.sl 1 (List.map encI_i64 q_0.Parents)))])), (1002, some (.blk 31 [.g (.d (.sl 2 (List.map encApi_Range ([] : (List Api_Range))))), .g (.d (.sl 1 (List.map encI_i64 ([] : (List Int))))), .g (.d (.sl 1 (List.map encI_i64 ([] : (List Int)))))])), (1003, some (.blk 31 [.own 5048 (List.map encApi_Range v26.2.2), .own 5049 (List.map encI_i64 ([] : List Int)), .own 2012 (List.map encI_i64 y1)])), (2012, some (.row 3 1 (List.map encI_i64 y1) false)), (5048, some (.row 37 2 (List.map encApi_Range v26.2.2) false)), (5049, some (.row 3 1 (List.map encI_i64 ([] : List Int)) false))]⟩) hF rfl (fun K29 again28 v26 J27 hF => ?_)
    unfold law06_Spec_row_l8 at hF
    refine G.seq ?_
    refine G.seq ?_
    refine G.joinC (T := Bool) (fun y30 => ⟨[(1, .one (.ptr 1001 0)), (2, .one (.ptr 1002 0)), (3, .one (.ptr 1003 0)), (5, oS v26.1), (6, oI v26.2.1), (47, oB y30)], [(1001, some (.blk 24 [.g (.d (.sl 1 (List.map encI_i64 q_0.Ends))), .g (.d (.sl 1 (List.map encI_i64 q_0.Owners))), .g (.d (.sl 1 (List.map encI_i64 q_0.Parents)))])), (1002, some (.blk 31 [.g (.d (.sl 2 (List.map encApi_Range ([] : (List Api_Range))))), .g (.d (.sl 1 (List.map encI_i64 ([] : (List Int))))), .g (.d (.sl 1 (List.map encI_i64 ([] : (List Int)))))])), (1003, some (.blk 31 [.own 5048 (List.map encApi_Range v26.2.2), .own 5049 (List.map encI_i64 ([] : List Int)), .own 2012 (List.map encI_i64 y1)])), (2012, some (.row 3 1 (List.map encI_i64 y1) false)), (5048, some (.row 37 2 (List.map encApi_Range v26.2.2) false)), (5049, some (.row 3 1 (List.map encI_i64 ([] : List Int)) false))]⟩) (fun y30 => law06_Spec_row_k9 q_0 y1 again28 v26 y30 = some r) (fun y30 hF => ?_) (fun J35 => ?_)
    · unfold law06_Spec_row_k9 at hF
      refine ifS hF (fun hc31 hF => ?_) (fun hc31 hF => ?_)
      · refine G.cond rfl (fun _ => ?_) (fun hx => by rw [hc31] at hx; cases hx)
        refine G.skip ?_
        refine G.seq ?_
        refine G.block ?_
        refine G.seq ?_
        refine G.region ?_
        refine G.op1 (op_fieldP (off' := 0) Try.underlying24 rfl ti22 (by decide) rfl (Ev.t 1 (.ptr 1001 0)) rfl) rfl ⟨rfl, trivial⟩ trivial ?_
        refine G.op1 (op_load1P (c := .g (.d (.sl 1 (List.map encI_i64 q_0.Ends)))) Try.underlying22 rfl rfl (Ev.t 50 (.ptr 1001 0)) rfl) rfl ⟨rfl, trivial⟩ ⟨rfl, trivial⟩ ?_
        refine G.op1 (op_move (Ev.t 6 (bI .i64 v26.2.1)) rfl) rfl ⟨rfl, trivial⟩ trivial ?_
        obtain ⟨x32, hx32, hF⟩ := bindS hF
        refine G.op1 (op_index (cs := [vI x32]) Try.underlying22 ti3 (idx_ok hx32).1 (idx_get hx32 encI_i64) (Ev.t 51 (.g (.d (.sl 1 (List.map encI_i64 q_0.Ends))))) (Ev.t 52 (bI .i64 v26.2.1)) rfl) rfl ⟨rfl, rfl, trivial⟩ trivial ?_
        refine G.op1 (op_load1E (c := vI x32) Try.underlying3 rfl rfl (Ev.t 53 (.ep [vI x32])) rfl) rfl ⟨rfl, trivial⟩ trivial ?_
        refine G.op1 (op_rem (by decide) (Ev.t 54 (bI .i64 x32)) (Ev.c _ rfl) rfl) rfl ⟨rfl, trivial⟩ trivial ?_
        refine G.op1 (op_add (Ev.t 55 (bI .i64 (Int.tmod x32 26))) (Ev.c _ rfl) rfl) rfl ⟨rfl, trivial⟩ trivial ?_
        refine G.op1 (op_rem (by decide) (Ev.t 56 (bI .i64 (IntKind.wrap .i64 ((Int.tmod x32 26) + 26)))) (Ev.c _ rfl) rfl) rfl ⟨rfl, trivial⟩ trivial ?_
        refine G.op1 (op_add (Ev.c _ rfl) (Ev.t 57 (bI .i64 (Int.tmod (IntKind.wrap .i64 ((Int.tmod x32 26) + 26)) 26))) rfl) rfl ⟨rfl, trivial⟩ trivial ?_
        refine G.op1 (op_convI Try.underlying3 Try.underlying5 (Ev.t 58 (bI .i64 (IntKind.wrap .i64 (97 + (Int.tmod (IntKind.wrap .i64 ((Int.tmod x32 26) + 26)) 26))))) rfl) rfl ⟨rfl, trivial⟩ trivial ?_
        refine G.op1 (op_buildSlice (es := List.map encI_u8 [IntKind.wrap .u8 (IntKind.wrap .i64 (97 + (Int.tmod (IntKind.wrap .i64 ((Int.tmod x32 26) + 26)) 26)))]) Try.underlying48 ti5 rfl rfl (EvP.cons (Ev.t 59 (bI .u8 (IntKind.wrap .u8 (IntKind.wrap .i64 (97 + (Int.tmod (IntKind.wrap .i64 ((Int.tmod x32 26) + 26)) 26)))))) EvP.nil) rfl rfl (by simp [encI_u8]) rfl) rfl ⟨rfl, trivial⟩ trivial ?_
        refine G.op1 (op_toText (ns := [IntKind.wrap .u8 (IntKind.wrap .i64 (97 + (Int.tmod (IntKind.wrap .i64 ((Int.tmod x32 26) + 26)) 26)))]) Try.underlying48 Try.underlying5 Try.underlying9 rfl (Ev.t 60 (.g (.d (.sl 1 (List.map encI_u8 ([IntKind.wrap .u8 (IntKind.wrap .i64 (97 + (Int.tmod (IntKind.wrap .i64 ((Int.tmod x32 26) + 26)) 26)))])))))) rfl) rfl ⟨rfl, trivial⟩ trivial ?_
        refine G.op1 (op_assign (Ev.t 61 (bS (bytesOf ([IntKind.wrap .u8 (IntKind.wrap .i64 (97 + (Int.tmod (IntKind.wrap .i64 ((Int.tmod x32 26) + 26)) 26)))])))) rfl) rfl ⟨rfl, trivial⟩ trivial ?_
        refine G.endOps ?_
        refine G.seq ?_
        refine G.region ?_
        refine G.op1 (op_move (Ev.t 7 (bS (bytesOf ([IntKind.wrap .u8 (IntKind.wrap .i64 (97 + (Int.tmod (IntKind.wrap .i64 ((Int.tmod x32 26) + 26)) 26)))])))) rfl) rfl ⟨rfl, trivial⟩ trivial ?_
        refine G.op1 (op_move (Ev.t 5 (bS v26.1)) rfl) rfl ⟨rfl, trivial⟩ trivial ?_
        refine G.op1 (op_gtS (Ev.t 62 (bS (bytesOf ([IntKind.wrap .u8 (IntKind.wrap .i64 (97 + (Int.tmod (IntKind.wrap .i64 ((Int.tmod x32 26) + 26)) 26)))])))) (Ev.t 63 (bS v26.1)) rfl) rfl ⟨rfl, rfl, trivial⟩ trivial ?_
        refine G.endOps ?_
        refine ifS hF (fun hc33 hF => ?_) (fun hc33 hF => ?_)
        · refine G.cond rfl (fun _ => ?_) (fun hx => by rw [hc33] at hx; cases hx)
          refine G.seq ?_
          refine G.region ?_
          refine G.op1 (op_fieldP (off' := 0) Try.underlying31 rfl ti29 (by decide) rfl (Ev.t 3 (.ptr 1003 0)) rfl) rfl ⟨rfl, trivial⟩ trivial ?_
          refine G.op1 (op_load1P (c := .own 5048 (List.map encApi_Range v26.2.2)) Try.underlying29 rfl rfl (Ev.t 65 (.ptr 1003 0)) rfl) rfl ⟨rfl, trivial⟩ ⟨rfl, trivial⟩ ?_
          refine G.op1 (op_move (Ev.t 5 (bS v26.1)) rfl) rfl ⟨rfl, trivial⟩ trivial ?_
          refine G.op1 (op_move (Ev.t 7 (bS (bytesOf ([IntKind.wrap .u8 (IntKind.wrap .i64 (97 + (Int.tmod (IntKind.wrap .i64 ((Int.tmod x32 26) + 26)) 26)))])))) rfl) rfl ⟨rfl, trivial⟩ trivial ?_
          refine G.op1 (op_build (zs := [vS ByteArray.empty, vS ByteArray.empty]) (ds := [vS v26.1, vS (bytesOf ([IntKind.wrap .u8 (IntKind.wrap .i64 (97 + (Int.tmod (IntKind.wrap .i64 ((Int.tmod x32 26) + 26)) 26)))]))]) Try.underlying37 ti37 (pl37 _ Try.underlying37) ⟨.v _ rfl, .v _ rfl, trivial⟩ (EvP.cons (Ev.t 67 (bS v26.1)) (EvP.cons (Ev.t 68 (bS (bytesOf ([IntKind.wrap .u8 (IntKind.wrap .i64 (97 + (Int.tmod (IntKind.wrap .i64 ((Int.tmod x32 26) + 26)) 26)))])))) EvP.nil)) rfl rfl) rfl ⟨rfl, rfl, trivial⟩ trivial ?_
          refine G.op1 (op_buildSlice (es := List.map encApi_Range [(Api_Range.mk v26.1 (bytesOf ([IntKind.wrap .u8 (IntKind.wrap .i64 (97 + (Int.tmod (IntKind.wrap .i64 ((Int.tmod x32 26) + 26)) 26)))])))]) Try.underlying29 ti37 rfl rfl (EvP.cons (Ev.t 69 (.g (.agg [vS v26.1, vS (bytesOf ([IntKind.wrap .u8 (IntKind.wrap .i64 (97 + (Int.tmod (IntKind.wrap .i64 ((Int.tmod x32 26) + 26)) 26)))]))]))) EvP.nil) rfl rfl (by simp [encApi_Range]) rfl) rfl ⟨rfl, trivial⟩ trivial ?_
          obtain ⟨l34, hl34, hF⟩ := bindS hF
          refine G.op2 (op_appendO Try.underlying29 ti37 rfl (app_map hl34 encApi_Range) (app_b1 hl34 encApi_Range) (app_b2 hl34 encApi_Range) (Ev.t 66 (.own 5048 (List.map encApi_Range v26.2.2))) (Ev.t 70 (.g (.d (.sl 2 (List.map encApi_Range ([(Api_Range.mk v26.1 (bytesOf ([IntKind.wrap .u8 (IntKind.wrap .i64 (97 + (Int.tmod (IntKind.wrap .i64 ((Int.tmod x32 26) + 26)) 26)))])))])))))) rfl) rfl ⟨rfl, rfl, trivial⟩ ⟨rfl, trivial⟩ ?_
          refine G.op1 (op_fieldP (off' := 0) Try.underlying31 rfl ti29 (by decide) rfl (Ev.t 3 (.ptr 1003 0)) rfl) rfl ⟨rfl, trivial⟩ trivial ?_
          refine G.op3 (op_storeO (cs' := [.own 5048 (List.map encApi_Range l34), .own 5049 (List.map encI_i64 ([] : List Int)), .own 2012 (List.map encI_i64 y1)]) ti29 rfl rfl rfl (Ev.t 72 (.ptr 1003 0)) (Ev.t 71 (.own 5048 (List.map encApi_Range l34)))) rfl ⟨rfl, rfl, trivial⟩ ⟨rfl, rfl, trivial⟩ ?_
          refine G.endOps ?_
          refine G.region ?_
          refine G.op1 (op_move (Ev.t 7 (bS (bytesOf ([IntKind.wrap .u8 (IntKind.wrap .i64 (97 + (Int.tmod (IntKind.wrap .i64 ((Int.tmod x32 26) + 26)) 26)))])))) rfl) rfl ⟨rfl, trivial⟩ trivial ?_
          refine G.op1 (op_assign (Ev.t 73 (bS (bytesOf ([IntKind.wrap .u8 (IntKind.wrap .i64 (97 + (Int.tmod (IntKind.wrap .i64 ((Int.tmod x32 26) + 26)) 26)))])))) rfl) rfl ⟨rfl, trivial⟩ trivial ?_
          refine G.endOps ?_
          refine G.endBlock ?_
          refine G.region ?_
          refine G.op1 (op_move (Ev.t 6 (bI .i64 v26.2.1)) rfl) rfl ⟨rfl, trivial⟩ trivial ?_
          refine G.op1 (op_add (Ev.t 48 (bI .i64 v26.2.1)) (Ev.c _ rfl) rfl) rfl ⟨rfl, trivial⟩ trivial ?_
          refine G.op1 (op_assign (Ev.t 49 (bI .i64 (IntKind.wrap .i64 (v26.2.1 + 1)))) rfl) rfl ⟨rfl, trivial⟩ trivial ?_
          refine G.endOps ?_
          exact G.arr (J27 (bytesOf ([IntKind.wrap .u8 (IntKind.wrap .i64 (97 + (Int.tmod (IntKind.wrap .i64 ((Int.tmod x32 26) + 26)) 26)))]), IntKind.wrap .i64 (v26.2.1 + 1), l34) hF) ⟨rfl, rfl, rfl, rfl, rfl, trivial⟩ ⟨rfl, rfl, rfl, rfl, rfl, rfl, trivial⟩ rfl
        · refine G.cond rfl (fun hx => by rw [hc33] at hx; cases hx) (fun _ => ?_)
          refine G.skip ?_
          refine G.endBlock ?_
          refine G.region ?_
          refine G.op1 (op_move (Ev.t 6 (bI .i64 v26.2.1)) rfl) rfl ⟨rfl, trivial⟩ trivial ?_
          refine G.op1 (op_add (Ev.t 48 (bI .i64 v26.2.1)) (Ev.c _ rfl) rfl) rfl ⟨rfl, trivial⟩ trivial ?_
          refine G.op1 (op_assign (Ev.t 49 (bI .i64 (IntKind.wrap .i64 (v26.2.1 + 1)))) rfl) rfl ⟨rfl, trivial⟩ trivial ?_
          refine G.endOps ?_
          exact G.arr (J27 (v26.1, IntKind.wrap .i64 (v26.2.1 + 1), v26.2.2) hF) ⟨rfl, rfl, rfl, rfl, rfl, trivial⟩ ⟨rfl, rfl, rfl, rfl, rfl, rfl, trivial⟩ rfl
      · refine G.cond rfl (fun hx => by rw [hc31] at hx; cases hx) (fun _ => ?_)
        refine G.exit ?_
        refine GX.c ?_
        refine GX.q ?_
        refine GX.bYes ?_
        exact G.arr (J25 (v26.1, v26.2.2) hF) ⟨rfl, rfl, rfl, rfl, trivial⟩ ⟨rfl, rfl, rfl, rfl, rfl, rfl, trivial⟩ rfl
    refine G.region ?_
    refine G.op1 (op_move (Ev.t 6 (bI .i64 v26.2.1)) rfl) rfl ⟨rfl, trivial⟩ trivial ?_
    refine G.op1 (op_fieldP (off' := 0) Try.underlying24 rfl ti22 (by decide) rfl (Ev.t 1 (.ptr 1001 0)) rfl) rfl ⟨rfl, trivial⟩ trivial ?_
    refine G.op1 (op_load1P (c := .g (.d (.sl 1 (List.map encI_i64 q_0.Ends)))) Try.underlying22 rfl rfl (Ev.t 40 (.ptr 1001 0)) rfl) rfl ⟨rfl, trivial⟩ ⟨rfl, trivial⟩ ?_
    refine G.op1 (OpL.cast (op_lenD Try.underlying22 (Ev.t 41 (.g (.d (.sl 1 (List.map encI_i64 q_0.Ends))))) rfl) (by rw [List.length_map])) rfl ⟨rfl, trivial⟩ trivial ?_
    refine G.op1 (op_lss (Ev.t 39 (bI .i64 v26.2.1)) (Ev.t 42 (bI .i64 (q_0.Ends.length : Int))) rfl) rfl ⟨rfl, rfl, trivial⟩ trivial ?_
    refine G.op1 (op_move (Ev.t 43 (bB (decide (v26.2.1 < (q_0.Ends.length : Int))))) rfl) rfl ⟨rfl, trivial⟩ trivial ?_
    refine ifS hF (fun hc36 hF => ?_) (fun hc36 hF => ?_)
    · refine G.known (t := 44) hc36 rfl ?_
      refine G.opG1 (op_move (Ev.t 6 (bI .i64 v26.2.1)) rfl) rfl rfl rfl ⟨rfl, trivial⟩ trivial ?_
      refine G.opG1 (op_lss (Ev.t 45 (bI .i64 v26.2.1)) (Ev.c _ rfl) rfl) rfl rfl rfl ⟨rfl, trivial⟩ trivial ?_
      refine G.op1 (op_pickT (Ev.t 44 (bB true)) (Ev.t 46 (bB (decide (v26.2.1 < 7)))) rfl) rfl ⟨rfl, rfl, trivial⟩ trivial ?_
      refine G.endOps ?_
      exact G.arr (J35 (decide (v26.2.1 < 7)) hF) ⟨rfl, rfl, rfl, rfl, rfl, rfl, trivial⟩ ⟨rfl, rfl, rfl, rfl, rfl, rfl, trivial⟩ rfl
    · refine G.known (t := 44) hc36 rfl ?_
      refine G.opN1 rfl rfl rfl rfl rfl ?_
      refine G.opN1 rfl rfl rfl rfl rfl ?_
      refine G.op1 (op_pickF (Ev.t 44 (bB false)) (Ev.c _ rfl) rfl) rfl ⟨rfl, trivial⟩ trivial ?_
      refine G.endOps ?_
      exact G.arr (J35 false hF) ⟨rfl, rfl, rfl, rfl, rfl, rfl, trivial⟩ ⟨rfl, rfl, rfl, rfl, rfl, rfl, trivial⟩ rfl
  refine G.block ?_
  refine G.keep (sl' := [(1, .one (.ptr 1001 0)), (2, .one (.ptr 1002 0)), (3, .one (.ptr 1003 0)), (4, oI 0)]) (hp' := [(1001, some (.blk 24 [.g (.d (.sl 1 (List.map encI_i64 q_0.Ends))), .g (.d (.sl 1 (List.map encI_i64 q_0.Owners))), .g (.d (.sl 1 (List.map encI_i64 q_0.Parents)))])), (1002, some (.blk 31 [.g (.d (.sl 2 (List.map encApi_Range ([] : (List Api_Range))))), .g (.d (.sl 1 (List.map encI_i64 ([] : (List Int))))), .g (.d (.sl 1 (List.map encI_i64 ([] : (List Int)))))])), (1003, some (.blk 31 [.own 5048 (List.map encApi_Range ([] : List Api_Range)), .own 5049 (List.map encI_i64 ([] : List Int)), .own 2012 (List.map encI_i64 ([(-1)]))])), (2012, some (.row 3 1 (List.map encI_i64 ([(-1)])) false)), (5048, some (.row 37 2 (List.map encApi_Range ([] : List Api_Range)) false)), (5049, some (.row 3 1 (List.map encI_i64 ([] : List Int)) false))]) ⟨rfl, rfl, rfl, rfl, trivial⟩ ⟨rfl, rfl, rfl, rfl, rfl, rfl, trivial⟩ rfl ?_
  refine G.loopF (fun (v38 : Int × (List Int)) => ⟨[(1, .one (.ptr 1001 0)), (2, .one (.ptr 1002 0)), (3, .one (.ptr 1003 0)), (4, oI v38.1)], [(1001, some (.blk 24 [.g (.d (.sl 1 (List.map encI_i64 q_0.Ends))), .g (.d (.sl 1 (List.map encI_i64 q_0.Owners))), .g (.d (.sl 1 (List.map encI_i64 q_0.Parents)))])), (1002, some (.blk 31 [.g (.d (.sl 2 (List.map encApi_Range ([] : (List Api_Range))))), .g (.d (.sl 1 (List.map encI_i64 ([] : (List Int))))), .g (.d (.sl 1 (List.map encI_i64 ([] : (List Int)))))])), (1003, some (.blk 31 [.own 5048 (List.map encApi_Range ([] : List Api_Range)), .own 5049 (List.map encI_i64 ([] : List Int)), .own 2012 (List.map encI_i64 v38.2)])), (2012, some (.row 3 1 (List.map encI_i64 v38.2) false)), (5048, some (.row 37 2 (List.map encApi_Range ([] : List Api_Range)) false)), (5049, some (.row 3 1 (List.map encI_i64 ([] : List Int)) false))]⟩) hF rfl (fun K41 again40 v38 J39 hF => ?_)
  unfold law06_Spec_row_l10 at hF
  refine G.seq ?_
  refine G.seq ?_
  refine G.joinC (T := Bool) (fun y42 => ⟨[(1, .one (.ptr 1001 0)), (2, .one (.ptr 1002 0)), (3, .one (.ptr 1003 0)), (4, oI v38.1), (22, oB y42)], [(1001, some (.blk 24 [.g (.d (.sl 1 (List.map encI_i64 q_0.Ends))), .g (.d (.sl 1 (List.map encI_i64 q_0.Owners))), .g (.d (.sl 1 (List.map encI_i64 q_0.Parents)))])), (1002, some (.blk 31 [.g (.d (.sl 2 (List.map encApi_Range ([] : (List Api_Range))))), .g (.d (.sl 1 (List.map encI_i64 ([] : (List Int))))), .g (.d (.sl 1 (List.map encI_i64 ([] : (List Int)))))])), (1003, some (.blk 31 [.own 5048 (List.map encApi_Range ([] : List Api_Range)), .own 5049 (List.map encI_i64 ([] : List Int)), .own 2012 (List.map encI_i64 v38.2)])), (2012, some (.row 3 1 (List.map encI_i64 v38.2) false)), (5048, some (.row 37 2 (List.map encApi_Range ([] : List Api_Range)) false)), (5049, some (.row 3 1 (List.map encI_i64 ([] : List Int)) false))]⟩) (fun y42 => law06_Spec_row_k11 q_0 again40 v38 y42 = some r) (fun y42 hF => ?_) (fun J46 => ?_)
  · unfold law06_Spec_row_k11 at hF
    refine ifS hF (fun hc43 hF => ?_) (fun hc43 hF => ?_)
    · refine G.cond rfl (fun _ => ?_) (fun hx => by rw [hc43] at hx; cases hx)
      refine G.skip ?_
      refine G.seq ?_
      refine G.block ?_
      obtain ⟨x44, hx44, hF⟩ := bindS hF
      obtain ⟨l45, hl45, hF⟩ := bindS hF
      refine G.drawnI (deps := [[], [0], [], [2], [], [2, 3, 4], [2, 3, 4, 5], [2, 3, 4, 5, 6], [2, 3, 4, 5, 6, 7], [2, 3, 4, 5, 6, 7, 8], [2, 3, 4, 5, 6, 7, 8, 9], [2, 3, 4, 5, 6, 7, 8, 9, 10], [0, 1, 2, 3, 4, 5, 6, 7, 8, 9, 10, 11], [0, 1, 2, 3, 4, 5, 6, 7, 8, 9, 10, 11, 12], [0, 1, 2, 3, 4, 5, 6, 7, 8, 9, 10, 11, 12, 13]]) (sl' := [(1, .one (.ptr 1001 0)), (2, .one (.ptr 1002 0)), (3, .one (.ptr 1003 0)), (4, oI v38.1)]) (hp' := [(1001, some (.blk 24 [.g (.d (.sl 1 (List.map encI_i64 q_0.Ends))), .g (.d (.sl 1 (List.map encI_i64 q_0.Owners))), .g (.d (.sl 1 (List.map encI_i64 q_0.Parents)))])), (1002, some (.blk 31 [.g (.d (.sl 2 (List.map encApi_Range ([] : (List Api_Range))))), .g (.d (.sl 1 (List.map encI_i64 ([] : (List Int))))), .g (.d (.sl 1 (List.map encI_i64 ([] : (List Int)))))])), (1003, some (.blk 31 [.own 5048 (List.map encApi_Range ([] : List Api_Range)), .own 5049 (List.map encI_i64 ([] : List Int)), .own 2012 (List.map encI_i64 l45)])), (2012, some (.row 3 1 (List.map encI_i64 l45) false)), (5048, some (.row 37 2 (List.map encApi_Range ([] : List Api_Range)) false)), (5049, some (.row 3 1 (List.map encI_i64 ([] : List Int)) false))]) (.c (oP rfl rfl (op_fieldP (off' := 2) Try.underlying31 rfl ti22 (by decide) rfl (Ev.t 3 (.ptr 1003 0)) rfl)) (.c (oP rfl rfl (op_load1P (c := .own 2012 (List.map encI_i64 v38.2)) Try.underlying22 rfl rfl (Ev.t 25 (.ptr 1003 2)) rfl)) (.c (oP rfl rfl (op_fieldP (off' := 2) Try.underlying24 rfl ti22 (by decide) rfl (Ev.t 1 (.ptr 1001 0)) rfl)) (.c (oP rfl rfl (op_load1P (c := .g (.d (.sl 1 (List.map encI_i64 q_0.Parents)))) Try.underlying22 rfl rfl (Ev.t 27 (.ptr 1001 2)) rfl)) (.c (oP rfl rfl (op_move (Ev.t 4 (bI .i64 v38.1)) rfl)) (.c (oP rfl rfl (op_index (cs := [vI x44]) Try.underlying22 ti3 (idx_ok hx44).1 (idx_get hx44 encI_i64) (Ev.t 28 (.g (.d (.sl 1 (List.map encI_i64 q_0.Parents))))) (Ev.t 29 (bI .i64 v38.1)) rfl)) (.c (oP rfl rfl (op_load1E (c := vI x44) Try.underlying3 rfl rfl (Ev.t 30 (.ep [vI x44])) rfl)) (.c (oP rfl rfl (op_rem (by decide) (Ev.t 31 (bI .i64 x44)) (Ev.c _ rfl) rfl)) (.c (oP rfl rfl (op_add (Ev.t 32 (bI .i64 (Int.tmod x44 7))) (Ev.c _ rfl) rfl)) (.c (oP rfl rfl (op_rem (by decide) (Ev.t 33 (bI .i64 (IntKind.wrap .i64 ((Int.tmod x44 7) + 7)))) (Ev.c _ rfl) rfl)) (.c (oP rfl rfl (op_sub (Ev.t 34 (bI .i64 (Int.tmod (IntKind.wrap .i64 ((Int.tmod x44 7) + 7)) 7))) (Ev.c _ rfl) rfl)) (.c (oP rfl rfl (op_buildSlice (es := List.map encI_i64 [IntKind.wrap .i64 ((Int.tmod (IntKind.wrap .i64 ((Int.tmod x44 7) + 7)) 7) - 1)]) Try.underlying22 ti3 rfl rfl (EvP.cons (Ev.t 35 (bI .i64 (IntKind.wrap .i64 ((Int.tmod (IntKind.wrap .i64 ((Int.tmod x44 7) + 7)) 7) - 1)))) EvP.nil) rfl rfl (by simp [encI_i64]) rfl)) (.c (oP rfl rfl (op_appendO Try.underlying22 ti3 rfl (app_map hl45 encI_i64) (app_b1 hl45 encI_i64) (app_b2 hl45 encI_i64) (Ev.t 26 (.own 2012 (List.map encI_i64 v38.2))) (Ev.t 36 (.g (.d (.sl 1 (List.map encI_i64 ([IntKind.wrap .i64 ((Int.tmod (IntKind.wrap .i64 ((Int.tmod x44 7) + 7)) 7) - 1)])))))) rfl)) (.c (oP rfl rfl (op_fieldP (off' := 2) Try.underlying31 rfl ti22 (by decide) rfl (Ev.t 3 (.ptr 1003 0)) rfl)) (.c (oP rfl rfl (op_storeO (cs' := [.own 5048 (List.map encApi_Range ([] : List Api_Range)), .own 5049 (List.map encI_i64 ([] : List Int)), .own 2012 (List.map encI_i64 l45)]) ti22 rfl rfl rfl (Ev.t 38 (.ptr 1003 2)) (Ev.t 37 (.own 2012 (List.map encI_i64 l45))))) .nil))))))))))))))) follows rfl rfl rfl ⟨⟨rfl, trivial⟩, trivial, ⟨rfl, trivial⟩, ⟨⟨rfl, rfl⟩, trivial⟩, ⟨rfl, trivial⟩, trivial, ⟨rfl, trivial⟩, ⟨⟨rfl, rfl⟩, trivial⟩, ⟨rfl, trivial⟩, trivial, ⟨rfl, rfl, trivial⟩, trivial, ⟨rfl, trivial⟩, trivial, ⟨rfl, trivial⟩, trivial, ⟨rfl, trivial⟩, trivial, ⟨rfl, trivial⟩, trivial, ⟨rfl, trivial⟩, trivial, ⟨rfl, trivial⟩, trivial, ⟨rfl, rfl, trivial⟩, ⟨⟨rfl, rfl⟩, trivial⟩, ⟨rfl, trivial⟩, trivial, ⟨rfl, rfl, trivial⟩, ⟨⟨rfl, rfl⟩, ⟨rfl, rfl⟩, trivial⟩, trivial⟩ ⟨rfl, rfl, rfl, rfl, trivial⟩ ⟨rfl, rfl, rfl, rfl, rfl, rfl, trivial⟩ rfl ?_
      refine G.endBlock ?_
      refine G.region ?_
      refine G.op1 (op_move (Ev.t 4 (bI .i64 v38.1)) rfl) rfl ⟨rfl, trivial⟩ trivial ?_
      refine G.op1 (op_add (Ev.t 23 (bI .i64 v38.1)) (Ev.c _ rfl) rfl) rfl ⟨rfl, trivial⟩ trivial ?_
      refine G.op1 (op_assign (Ev.t 24 (bI .i64 (IntKind.wrap .i64 (v38.1 + 1)))) rfl) rfl ⟨rfl, trivial⟩ trivial ?_
      refine G.endOps ?_
      exact G.arr (J39 (IntKind.wrap .i64 (v38.1 + 1), l45) hF) ⟨rfl, rfl, rfl, rfl, trivial⟩ ⟨rfl, rfl, rfl, rfl, rfl, rfl, trivial⟩ rfl
    · refine G.cond rfl (fun hx => by rw [hc43] at hx; cases hx) (fun _ => ?_)
      refine G.exit ?_
      refine GX.c ?_
      refine GX.q ?_
      refine GX.bYes ?_
      exact G.arr (J37 v38.2 hF) ⟨rfl, rfl, rfl, trivial⟩ ⟨rfl, rfl, rfl, rfl, rfl, rfl, trivial⟩ rfl
  refine G.region ?_
  refine G.op1 (op_move (Ev.t 4 (bI .i64 v38.1)) rfl) rfl ⟨rfl, trivial⟩ trivial ?_
  refine G.op1 (op_fieldP (off' := 2) Try.underlying24 rfl ti22 (by decide) rfl (Ev.t 1 (.ptr 1001 0)) rfl) rfl ⟨rfl, trivial⟩ trivial ?_
  refine G.op1 (op_load1P (c := .g (.d (.sl 1 (List.map encI_i64 q_0.Parents)))) Try.underlying22 rfl rfl (Ev.t 15 (.ptr 1001 2)) rfl) rfl ⟨rfl, trivial⟩ ⟨rfl, trivial⟩ ?_
  refine G.op1 (OpL.cast (op_lenD Try.underlying22 (Ev.t 16 (.g (.d (.sl 1 (List.map encI_i64 q_0.Parents))))) rfl) (by rw [List.length_map])) rfl ⟨rfl, trivial⟩ trivial ?_
  refine G.op1 (op_lss (Ev.t 14 (bI .i64 v38.1)) (Ev.t 17 (bI .i64 (q_0.Parents.length : Int))) rfl) rfl ⟨rfl, rfl, trivial⟩ trivial ?_
  refine G.op1 (op_move (Ev.t 18 (bB (decide (v38.1 < (q_0.Parents.length : Int))))) rfl) rfl ⟨rfl, trivial⟩ trivial ?_
  refine ifS hF (fun hc47 hF => ?_) (fun hc47 hF => ?_)
  · refine G.known (t := 19) hc47 rfl ?_
    refine G.opG1 (op_move (Ev.t 4 (bI .i64 v38.1)) rfl) rfl rfl rfl ⟨rfl, trivial⟩ trivial ?_
    refine G.opG1 (op_lss (Ev.t 20 (bI .i64 v38.1)) (Ev.c _ rfl) rfl) rfl rfl rfl ⟨rfl, trivial⟩ trivial ?_
    refine G.op1 (op_pickT (Ev.t 19 (bB true)) (Ev.t 21 (bB (decide (v38.1 < 5)))) rfl) rfl ⟨rfl, rfl, trivial⟩ trivial ?_
    refine G.endOps ?_
    exact G.arr (J46 (decide (v38.1 < 5)) hF) ⟨rfl, rfl, rfl, rfl, rfl, trivial⟩ ⟨rfl, rfl, rfl, rfl, rfl, rfl, trivial⟩ rfl
  · refine G.known (t := 19) hc47 rfl ?_
    refine G.opN1 rfl rfl rfl rfl rfl ?_
    refine G.opN1 rfl rfl rfl rfl rfl ?_
    refine G.op1 (op_pickF (Ev.t 19 (bB false)) (Ev.c _ rfl) rfl) rfl ⟨rfl, trivial⟩ trivial ?_
    refine G.endOps ?_
    exact G.arr (J46 false hF) ⟨rfl, rfl, rfl, rfl, rfl, trivial⟩ ⟨rfl, rfl, rfl, rfl, rfl, rfl, trivial⟩ rfl


set_option maxRecDepth 20000 in
set_option maxHeartbeats 2000000 in
theorem ct_ref01_Number_b (again0 : Int → Option ByteArray) (ih : ∀ (n_0 : Int) (r : ByteArray), again0 n_0 = some r → Ct Try.prog 35 [.g (.d (.v (.int .u64 n_0)))] (.one (.d (vS r)))) (n_0 : Int) (r : ByteArray) (hF : ref01_Number_b again0 n_0 = some r) : Ct Try.prog 35 [.g (.d (.v (.int .u64 n_0)))] (.one (.d (vS r))) := by
  unfold ref01_Number_b at hF
  refine Ct.intro Try.func35 rfl Try.ntmps35 rfl rfl fun M w => ?_
  refine G.seq ?_
  refine G.region ?_
  refine G.op1 (op_assign (Ev.c _ rfl) rfl) rfl trivial trivial ?_
  refine G.endOps ?_
  refine G.seq ?_
  refine G.seq ?_
  refine G.region ?_
  refine G.op1 (op_move (Ev.t 0 (bI .u64 n_0)) rfl) rfl ⟨rfl, trivial⟩ trivial ?_
  refine G.op1 (op_lss (Ev.t 3 (bI .u64 n_0)) (Ev.c _ rfl) rfl) rfl ⟨rfl, trivial⟩ trivial ?_
  refine G.endOps ?_
  refine ifS hF (fun hc1 hF => ?_) (fun hc1 hF => ?_)
  · refine G.cond rfl (fun _ => ?_) (fun hx => by rw [hc1] at hx; cases hx)
    refine G.seq ?_
    refine G.region ?_
    refine G.op1 (op_move (Ev.t 0 (bI .u64 n_0)) rfl) rfl ⟨rfl, trivial⟩ trivial ?_
    refine G.op1 (op_convI Try.underlying55 Try.underlying5 (Ev.t 5 (bI .u64 n_0)) rfl) rfl ⟨rfl, trivial⟩ trivial ?_
    refine G.op1 (op_buildSlice (es := List.map encI_u8 [IntKind.wrap .u8 n_0]) Try.underlying48 ti5 rfl rfl (EvP.cons (Ev.t 6 (bI .u8 (IntKind.wrap .u8 n_0))) EvP.nil) rfl rfl (by simp [encI_u8]) rfl) rfl ⟨rfl, trivial⟩ trivial ?_
    refine G.op1 (op_toText (ns := [IntKind.wrap .u8 n_0]) Try.underlying48 Try.underlying5 Try.underlying9 rfl (Ev.t 7 (.g (.d (.sl 1 (List.map encI_u8 ([IntKind.wrap .u8 n_0])))))) rfl) rfl ⟨rfl, trivial⟩ trivial ?_
    refine G.op1 (op_assign (Ev.t 8 (bS (bytesOf ([IntKind.wrap .u8 n_0])))) rfl) rfl ⟨rfl, trivial⟩ trivial ?_
    refine G.endOps ?_
    cases hF
    exact G.ret1 Try.results35 (RVar.tmp 2 _) ⟨rfl, trivial⟩ trivial
  · refine G.cond rfl (fun hx => by rw [hc1] at hx; cases hx) (fun _ => ?_)
    refine G.skip ?_
    refine G.seq ?_
    obtain ⟨r2, hr2, hF⟩ := bindS hF
    obtain ⟨s3, hs3, hF⟩ := bindS hF
    refine G.drawnI (deps := [[], [0], [0, 1], [0, 1, 2], [0, 1, 2, 3], [0, 1, 2, 3, 4], [], [6], [6, 7], [0, 1, 2, 3, 4, 5, 6, 7, 8], [0, 1, 2, 3, 4, 5, 6, 7, 8, 9]]) (sl' := [(2, oS s3)]) (hp' := []) (.c (oP rfl rfl (op_move (Ev.t 0 (bI .u64 n_0)) rfl)) (.c (oP rfl rfl (op_rem (by decide) (Ev.t 9 (bI .u64 n_0)) (Ev.c _ rfl) rfl)) (.c (oP rfl rfl (op_add (Ev.c _ rfl) (Ev.t 10 (bI .u64 (Int.tmod n_0 128))) rfl)) (.c (oP rfl rfl (op_convI Try.underlying55 Try.underlying5 (Ev.t 11 (bI .u64 (IntKind.wrap .u64 (128 + (Int.tmod n_0 128))))) rfl)) (.c (oP rfl rfl (op_buildSlice (es := List.map encI_u8 [IntKind.wrap .u8 (IntKind.wrap .u64 (128 + (Int.tmod n_0 128)))]) Try.underlying48 ti5 rfl rfl (EvP.cons (Ev.t 12 (bI .u8 (IntKind.wrap .u8 (IntKind.wrap .u64 (128 + (Int.tmod n_0 128)))))) EvP.nil) rfl rfl (by simp [encI_u8]) rfl)) (.c (oP rfl rfl (op_toText (ns := [IntKind.wrap .u8 (IntKind.wrap .u64 (128 + (Int.tmod n_0 128)))]) Try.underlying48 Try.underlying5 Try.underlying9 rfl (Ev.t 13 (.g (.d (.sl 1 (List.map encI_u8 ([IntKind.wrap .u8 (IntKind.wrap .u64 (128 + (Int.tmod n_0 128)))])))))) rfl)) (.c (oP rfl rfl (op_move (Ev.t 0 (bI .u64 n_0)) rfl)) (.c (oP rfl rfl (op_quo (by decide) (Ev.t 15 (bI .u64 n_0)) (Ev.c _ rfl) rfl)) (.c (oP rfl rfl (op_call (sv := oS r2) cf35 (ih (IntKind.wrap .u64 (Int.tdiv n_0 128)) r2 hr2) rfl (EvL.cons (Ev.t 16 (bI .u64 (IntKind.wrap .u64 (Int.tdiv n_0 128)))) EvL.nil) rfl)) (.c (oP rfl rfl (OpL.cast (op_cat (scat_ok hs3).1 (Ev.t 14 (bS (bytesOf ([IntKind.wrap .u8 (IntKind.wrap .u64 (128 + (Int.tmod n_0 128)))])))) (Ev.t 17 (bS r2)) rfl) (by rw [(scat_ok hs3).2]))) (.c (oP rfl rfl (op_assign (Ev.t 18 (bS s3)) rfl)) .nil))))))))))) follows rfl rfl rfl ⟨⟨rfl, trivial⟩, trivial, ⟨rfl, trivial⟩, trivial, ⟨rfl, trivial⟩, trivial, ⟨rfl, trivial⟩, trivial, ⟨rfl, trivial⟩, trivial, ⟨rfl, trivial⟩, trivial, ⟨rfl, trivial⟩, trivial, ⟨rfl, trivial⟩, trivial, ⟨rfl, trivial⟩, trivial, ⟨rfl, rfl, trivial⟩, trivial, ⟨rfl, trivial⟩, trivial, trivial⟩ ⟨rfl, trivial⟩ trivial rfl ?_
    cases hF
    exact G.ret1 Try.results35 (RVar.tmp 2 _) ⟨rfl, trivial⟩ trivial
theorem ct_ref01_Number_n : ∀ (n : Nat) (n_0 : Int) (r : ByteArray), loopF (fun again0 v0 => ref01_Number_b again0 v0) n n_0 = some r → Ct Try.prog 35 [.g (.d (.v (.int .u64 n_0)))] (.one (.d (vS r)))
  | 0, _,  _, h => (by cases h)
  | n + 1, n_0,  r, h => ct_ref01_Number_b _ (fun n_0 r h => ct_ref01_Number_n n n_0 r h) n_0 r h
theorem ct_ref01_Number (n_0 : Int) (r : ByteArray) (hF : ref01_Number n_0 = some r) : Ct Try.prog 35 [.g (.d (.v (.int .u64 n_0)))] (.one (.d (vS r))) := ct_ref01_Number_n FU n_0 r hF


set_option maxRecDepth 20000 in
set_option maxHeartbeats 2000000 in
theorem ct_ref01_Text (s_0 : ByteArray) (r : ByteArray) (hF : ref01_Text s_0 = some r) : Ct Try.prog 36 [.g (.d (vS s_0))] (.one (.d (vS r))) := by
  unfold ref01_Text at hF
  refine Ct.intro Try.func36 rfl Try.ntmps36 rfl rfl fun M w => ?_
  refine G.seq ?_
  refine G.region ?_
  refine G.op1 (op_assign (Ev.c _ rfl) rfl) rfl trivial trivial ?_
  refine G.endOps ?_
  refine G.seq ?_
  refine G.region ?_
  refine G.op1 (op_move (Ev.t 0 (bS s_0)) rfl) rfl ⟨rfl, trivial⟩ trivial ?_
  refine G.op1 (op_lenS Try.underlying9 (Ev.t 3 (bS s_0)) rfl) rfl ⟨rfl, trivial⟩ trivial ?_
  refine G.op1 (op_convI Try.underlying3 Try.underlying55 (Ev.t 4 (bI .i64 (s_0.size : Int))) rfl) rfl ⟨rfl, trivial⟩ trivial ?_
  obtain ⟨r1, hr1, hF⟩ := bindS hF
  refine G.op1 (op_callQ (sv := oS r1) cf35 (ct_ref01_Number (IntKind.wrap .u64 (s_0.size : Int)) r1 hr1) rfl rfl (EvQL.cons (EvQ.g (Ev.t 5 (bI .u64 (IntKind.wrap .u64 (s_0.size : Int))))) EvQL.nil) rfl) rfl ⟨rfl, trivial⟩ trivial ?_
  refine G.op1 (op_move (Ev.t 0 (bS s_0)) rfl) rfl ⟨rfl, trivial⟩ trivial ?_
  obtain ⟨s2, hs2, hF⟩ := bindS hF
  refine G.op1 (OpL.cast (op_cat (scat_ok hs2).1 (Ev.t 6 (bS r1)) (Ev.t 7 (bS s_0)) rfl) (by rw [(scat_ok hs2).2])) rfl ⟨rfl, rfl, trivial⟩ trivial ?_
  refine G.op1 (op_assign (Ev.t 8 (bS s2)) rfl) rfl ⟨rfl, trivial⟩ trivial ?_
  refine G.endOps ?_
  cases hF
  exact G.ret1 Try.results36 (RVar.tmp 2 _) ⟨rfl, trivial⟩ trivial


set_option maxRecDepth 20000 in
set_option maxHeartbeats 2000000 in
theorem ct_ref06_RowBytes (c_0 : Api_Row) (r : ByteArray) (hF : ref06_RowBytes c_0 = some r) : Ct Try.prog 13 [.g (.agg (encApi_Row c_0))] (.one (.d (vS r))) := by
  unfold ref06_RowBytes at hF
  refine Ct.intro Try.func13 rfl Try.ntmps13 rfl rfl fun M w => ?_
  refine G.seq ?_
  refine G.region ?_
  refine G.op2 (op_boxA (k := 1001) (Ev.t 0 (.g (.agg [.sl 2 (List.map encApi_Range c_0.Ranges), .sl 1 (List.map encI_i64 c_0.Owners), .sl 1 (List.map encI_i64 c_0.Parents)]))) rfl) rfl ⟨rfl, trivial⟩ ⟨rfl, trivial⟩ ?_
  refine G.op1 (op_assign (Ev.c _ rfl) rfl) rfl trivial trivial ?_
  refine G.endOps ?_
  refine G.seq ?_
  refine G.region ?_
  refine G.op1 (op_fieldP (off' := 0) Try.underlying31 rfl ti29 (by decide) rfl (Ev.t 1 (.ptr 1001 0)) rfl) rfl ⟨rfl, trivial⟩ trivial ?_
  refine G.op1 (op_load1P (c := .g (.d (.sl 2 (List.map encApi_Range c_0.Ranges)))) Try.underlying29 rfl rfl (Ev.t 8 (.ptr 1001 0)) rfl) rfl ⟨rfl, trivial⟩ ⟨rfl, trivial⟩ ?_
  refine G.op1 (OpL.cast (op_lenD Try.underlying29 (Ev.t 9 (.g (.d (.sl 2 (List.map encApi_Range c_0.Ranges))))) rfl) (by rw [List.length_map])) rfl ⟨rfl, trivial⟩ trivial ?_
  refine G.op1 (op_assign (Ev.t 10 (bI .i64 (c_0.Ranges.length : Int))) rfl) rfl ⟨rfl, trivial⟩ trivial ?_
  refine G.endOps ?_
  refine G.seq ?_
  refine G.region ?_
  refine G.op1 (op_move (Ev.t 3 (bI .i64 (c_0.Ranges.length : Int))) rfl) rfl ⟨rfl, trivial⟩ trivial ?_
  refine G.op1 (op_convI Try.underlying3 Try.underlying55 (Ev.t 11 (bI .i64 (c_0.Ranges.length : Int))) rfl) rfl ⟨rfl, trivial⟩ trivial ?_
  obtain ⟨r1, hr1, hF⟩ := bindS hF
  refine G.op1 (op_callQ (sv := oS r1) cf35 (ct_ref01_Number (IntKind.wrap .u64 (c_0.Ranges.length : Int)) r1 hr1) rfl rfl (EvQL.cons (EvQ.g (Ev.t 12 (bI .u64 (IntKind.wrap .u64 (c_0.Ranges.length : Int))))) EvQL.nil) rfl) rfl ⟨rfl, trivial⟩ trivial ?_
  refine G.op1 (op_assign (Ev.t 13 (bS r1)) rfl) rfl ⟨rfl, trivial⟩ trivial ?_
  refine G.endOps ?_
  refine G.seq ?_
  refine G.seq ?_
  refine G.region ?_
  refine G.op1 (op_assign (Ev.c _ rfl) rfl) rfl trivial trivial ?_
  refine G.endOps ?_
  refine G.joinC (T := ByteArray) (fun y2 => ⟨[(1, .one (.ptr 1001 0)), (3, oI (c_0.Ranges.length : Int)), (4, oS y2)], [(1001, some (.blk 31 [.g (.d (.sl 2 (List.map encApi_Range c_0.Ranges))), .g (.d (.sl 1 (List.map encI_i64 c_0.Owners))), .g (.d (.sl 1 (List.map encI_i64 c_0.Parents)))]))]⟩) (fun y2 => ref06_RowBytes_k1 c_0 y2 = some r) (fun y2 hF => ?_) (fun J25 => ?_)
  · unfold ref06_RowBytes_k1 at hF
    refine G.seq ?_
    refine G.seq ?_
    refine G.region ?_
    refine G.op1 (op_assign (Ev.c _ rfl) rfl) rfl trivial trivial ?_
    refine G.endOps ?_
    refine G.joinC (T := ByteArray) (fun y3 => ⟨[(1, .one (.ptr 1001 0)), (4, oS y3)], [(1001, some (.blk 31 [.g (.d (.sl 2 (List.map encApi_Range c_0.Ranges))), .g (.d (.sl 1 (List.map encI_i64 c_0.Owners))), .g (.d (.sl 1 (List.map encI_i64 c_0.Parents)))]))]⟩) (fun y3 => ref06_RowBytes_k2 c_0 y3 = some r) (fun y3 hF => ?_) (fun J16 => ?_)
    · unfold ref06_RowBytes_k2 at hF
      refine G.seq ?_
      refine G.region ?_
      refine G.op1 (op_move (Ev.t 4 (bS y3)) rfl) rfl ⟨rfl, trivial⟩ trivial ?_
      refine G.op1 (op_fieldP (off' := 2) Try.underlying31 rfl ti22 (by decide) rfl (Ev.t 1 (.ptr 1001 0)) rfl) rfl ⟨rfl, trivial⟩ trivial ?_
      refine G.op1 (op_load1P (c := .g (.d (.sl 1 (List.map encI_i64 c_0.Parents)))) Try.underlying22 rfl rfl (Ev.t 44 (.ptr 1001 2)) rfl) rfl ⟨rfl, trivial⟩ ⟨rfl, trivial⟩ ?_
      refine G.op1 (OpL.cast (op_lenD Try.underlying22 (Ev.t 45 (.g (.d (.sl 1 (List.map encI_i64 c_0.Parents))))) rfl) (by rw [List.length_map])) rfl ⟨rfl, trivial⟩ trivial ?_
      refine G.op1 (op_convI Try.underlying3 Try.underlying55 (Ev.t 46 (bI .i64 (c_0.Parents.length : Int))) rfl) rfl ⟨rfl, trivial⟩ trivial ?_
      obtain ⟨r4, hr4, hF⟩ := bindS hF
      refine G.op1 (op_callQ (sv := oS r4) cf35 (ct_ref01_Number (IntKind.wrap .u64 (c_0.Parents.length : Int)) r4 hr4) rfl rfl (EvQL.cons (EvQ.g (Ev.t 47 (bI .u64 (IntKind.wrap .u64 (c_0.Parents.length : Int))))) EvQL.nil) rfl) rfl ⟨rfl, trivial⟩ trivial ?_
      obtain ⟨s5, hs5, hF⟩ := bindS hF
      refine G.op1 (OpL.cast (op_cat (scat_ok hs5).1 (Ev.t 43 (bS y3)) (Ev.t 48 (bS r4)) rfl) (by rw [(scat_ok hs5).2])) rfl ⟨rfl, rfl, trivial⟩ trivial ?_
      refine G.op1 (op_assign (Ev.t 49 (bS s5)) rfl) rfl ⟨rfl, trivial⟩ trivial ?_
      refine G.endOps ?_
      refine G.seq ?_
      refine G.seq ?_
      refine G.region ?_
      refine G.op1 (op_assign (Ev.c _ rfl) rfl) rfl trivial trivial ?_
      refine G.endOps ?_
      refine G.joinC (T := ByteArray) (fun y6 => ⟨[(4, oS y6)], []⟩) (fun y6 => ref06_RowBytes_k3 y6 = some r) (fun y6 hF => ?_) (fun J7 => ?_)
      · unfold ref06_RowBytes_k3 at hF
        refine G.seq ?_
        refine G.region ?_
        refine G.op1 (op_move (Ev.t 4 (bS y6)) rfl) rfl ⟨rfl, trivial⟩ trivial ?_
        refine G.op1 (op_assign (Ev.t 67 (bS y6)) rfl) rfl ⟨rfl, trivial⟩ trivial ?_
        refine G.endOps ?_
        cases hF
        exact G.ret1 Try.results13 (RVar.tmp 2 _) ⟨rfl, trivial⟩ trivial
      refine G.block ?_
      refine G.keep (sl' := [(1, .one (.ptr 1001 0)), (4, oS s5), (7, oI 0)]) (hp' := [(1001, some (.blk 31 [.g (.d (.sl 2 (List.map encApi_Range c_0.Ranges))), .g (.d (.sl 1 (List.map encI_i64 c_0.Owners))), .g (.d (.sl 1 (List.map encI_i64 c_0.Parents)))]))]) ⟨rfl, rfl, rfl, trivial⟩ ⟨rfl, trivial⟩ rfl ?_
      refine G.loopF (fun (v8 : ByteArray × Int) => ⟨[(1, .one (.ptr 1001 0)), (4, oS v8.1), (7, oI v8.2)], [(1001, some (.blk 31 [.g (.d (.sl 2 (List.map encApi_Range c_0.Ranges))), .g (.d (.sl 1 (List.map encI_i64 c_0.Owners))), .g (.d (.sl 1 (List.map encI_i64 c_0.Parents)))]))]⟩) hF rfl (fun K11 again10 v8 J9 hF => ?_)
      unfold ref06_RowBytes_l4 at hF
      refine G.seq ?_
      refine G.seq ?_
      refine G.region ?_
      refine G.op1 (op_move (Ev.t 7 (bI .i64 v8.2)) rfl) rfl ⟨rfl, trivial⟩ trivial ?_
      refine G.op1 (op_fieldP (off' := 2) Try.underlying31 rfl ti22 (by decide) rfl (Ev.t 1 (.ptr 1001 0)) rfl) rfl ⟨rfl, trivial⟩ trivial ?_
      refine G.op1 (op_load1P (c := .g (.d (.sl 1 (List.map encI_i64 c_0.Parents)))) Try.underlying22 rfl rfl (Ev.t 51 (.ptr 1001 2)) rfl) rfl ⟨rfl, trivial⟩ ⟨rfl, trivial⟩ ?_
      refine G.op1 (OpL.cast (op_lenD Try.underlying22 (Ev.t 52 (.g (.d (.sl 1 (List.map encI_i64 c_0.Parents))))) rfl) (by rw [List.length_map])) rfl ⟨rfl, trivial⟩ trivial ?_
      refine G.op1 (op_lss (Ev.t 50 (bI .i64 v8.2)) (Ev.t 53 (bI .i64 (c_0.Parents.length : Int))) rfl) rfl ⟨rfl, rfl, trivial⟩ trivial ?_
      refine G.endOps ?_
      refine ifS hF (fun hc12 hF => ?_) (fun hc12 hF => ?_)
      · refine G.cond rfl (fun _ => ?_) (fun hx => by rw [hc12] at hx; cases hx)
        refine G.skip ?_
        refine G.seq ?_
        refine G.block ?_
        refine G.region ?_
        refine G.op1 (op_move (Ev.t 4 (bS v8.1)) rfl) rfl ⟨rfl, trivial⟩ trivial ?_
        refine G.op1 (op_fieldP (off' := 2) Try.underlying31 rfl ti22 (by decide) rfl (Ev.t 1 (.ptr 1001 0)) rfl) rfl ⟨rfl, trivial⟩ trivial ?_
        refine G.op1 (op_load1P (c := .g (.d (.sl 1 (List.map encI_i64 c_0.Parents)))) Try.underlying22 rfl rfl (Ev.t 58 (.ptr 1001 2)) rfl) rfl ⟨rfl, trivial⟩ ⟨rfl, trivial⟩ ?_
        refine G.op1 (op_move (Ev.t 7 (bI .i64 v8.2)) rfl) rfl ⟨rfl, trivial⟩ trivial ?_
        obtain ⟨x13, hx13, hF⟩ := bindS hF
        refine G.op1 (op_index (cs := [vI x13]) Try.underlying22 ti3 (idx_ok hx13).1 (idx_get hx13 encI_i64) (Ev.t 59 (.g (.d (.sl 1 (List.map encI_i64 c_0.Parents))))) (Ev.t 60 (bI .i64 v8.2)) rfl) rfl ⟨rfl, rfl, trivial⟩ trivial ?_
        refine G.op1 (op_load1E (c := vI x13) Try.underlying3 rfl rfl (Ev.t 61 (.ep [vI x13])) rfl) rfl ⟨rfl, trivial⟩ trivial ?_
        refine G.op1 (op_add (Ev.t 62 (bI .i64 x13)) (Ev.c _ rfl) rfl) rfl ⟨rfl, trivial⟩ trivial ?_
        refine G.op1 (op_convI Try.underlying3 Try.underlying55 (Ev.t 63 (bI .i64 (IntKind.wrap .i64 (x13 + 1)))) rfl) rfl ⟨rfl, trivial⟩ trivial ?_
        obtain ⟨r14, hr14, hF⟩ := bindS hF
        refine G.op1 (op_callQ (sv := oS r14) cf35 (ct_ref01_Number (IntKind.wrap .u64 (IntKind.wrap .i64 (x13 + 1))) r14 hr14) rfl rfl (EvQL.cons (EvQ.g (Ev.t 64 (bI .u64 (IntKind.wrap .u64 (IntKind.wrap .i64 (x13 + 1)))))) EvQL.nil) rfl) rfl ⟨rfl, trivial⟩ trivial ?_
        obtain ⟨s15, hs15, hF⟩ := bindS hF
        refine G.op1 (OpL.cast (op_cat (scat_ok hs15).1 (Ev.t 57 (bS v8.1)) (Ev.t 65 (bS r14)) rfl) (by rw [(scat_ok hs15).2])) rfl ⟨rfl, rfl, trivial⟩ trivial ?_
        refine G.op1 (op_assign (Ev.t 66 (bS s15)) rfl) rfl ⟨rfl, trivial⟩ trivial ?_
        refine G.endOps ?_
        refine G.endBlock ?_
        refine G.region ?_
        refine G.op1 (op_move (Ev.t 7 (bI .i64 v8.2)) rfl) rfl ⟨rfl, trivial⟩ trivial ?_
        refine G.op1 (op_add (Ev.t 55 (bI .i64 v8.2)) (Ev.c _ rfl) rfl) rfl ⟨rfl, trivial⟩ trivial ?_
        refine G.op1 (op_assign (Ev.t 56 (bI .i64 (IntKind.wrap .i64 (v8.2 + 1)))) rfl) rfl ⟨rfl, trivial⟩ trivial ?_
        refine G.endOps ?_
        exact G.arr (J9 (s15, IntKind.wrap .i64 (v8.2 + 1)) hF) ⟨rfl, rfl, rfl, trivial⟩ ⟨rfl, trivial⟩ rfl
      · refine G.cond rfl (fun hx => by rw [hc12] at hx; cases hx) (fun _ => ?_)
        refine G.exit ?_
        refine GX.c ?_
        refine GX.q ?_
        refine GX.bYes ?_
        exact G.arr (J7 v8.1 hF) ⟨rfl, trivial⟩ trivial rfl
    refine G.block ?_
    refine G.keep (sl' := [(1, .one (.ptr 1001 0)), (3, oI (c_0.Ranges.length : Int)), (4, oS y2), (6, oI 0)]) (hp' := [(1001, some (.blk 31 [.g (.d (.sl 2 (List.map encApi_Range c_0.Ranges))), .g (.d (.sl 1 (List.map encI_i64 c_0.Owners))), .g (.d (.sl 1 (List.map encI_i64 c_0.Parents)))]))]) ⟨rfl, rfl, rfl, rfl, trivial⟩ ⟨rfl, trivial⟩ rfl ?_
    refine G.loopF (fun (v17 : ByteArray × Int) => ⟨[(1, .one (.ptr 1001 0)), (3, oI (c_0.Ranges.length : Int)), (4, oS v17.1), (6, oI v17.2)], [(1001, some (.blk 31 [.g (.d (.sl 2 (List.map encApi_Range c_0.Ranges))), .g (.d (.sl 1 (List.map encI_i64 c_0.Owners))), .g (.d (.sl 1 (List.map encI_i64 c_0.Parents)))]))]⟩) hF rfl (fun K20 again19 v17 J18 hF => ?_)
    unfold ref06_RowBytes_l5 at hF
    refine G.seq ?_
    refine G.seq ?_
    refine G.region ?_
    refine G.op1 (op_move (Ev.t 6 (bI .i64 v17.2)) rfl) rfl ⟨rfl, trivial⟩ trivial ?_
    refine G.op1 (op_move (Ev.t 3 (bI .i64 (c_0.Ranges.length : Int))) rfl) rfl ⟨rfl, trivial⟩ trivial ?_
    refine G.op1 (op_lss (Ev.t 29 (bI .i64 v17.2)) (Ev.t 30 (bI .i64 (c_0.Ranges.length : Int))) rfl) rfl ⟨rfl, rfl, trivial⟩ trivial ?_
    refine G.endOps ?_
    refine ifS hF (fun hc21 hF => ?_) (fun hc21 hF => ?_)
    · refine G.cond rfl (fun _ => ?_) (fun hx => by rw [hc21] at hx; cases hx)
      refine G.skip ?_
      refine G.seq ?_
      refine G.block ?_
      refine G.region ?_
      refine G.op1 (op_move (Ev.t 4 (bS v17.1)) rfl) rfl ⟨rfl, trivial⟩ trivial ?_
      refine G.op1 (op_fieldP (off' := 1) Try.underlying31 rfl ti22 (by decide) rfl (Ev.t 1 (.ptr 1001 0)) rfl) rfl ⟨rfl, trivial⟩ trivial ?_
      refine G.op1 (op_load1P (c := .g (.d (.sl 1 (List.map encI_i64 c_0.Owners)))) Try.underlying22 rfl rfl (Ev.t 35 (.ptr 1001 1)) rfl) rfl ⟨rfl, trivial⟩ ⟨rfl, trivial⟩ ?_
      refine G.op1 (op_move (Ev.t 6 (bI .i64 v17.2)) rfl) rfl ⟨rfl, trivial⟩ trivial ?_
      obtain ⟨x22, hx22, hF⟩ := bindS hF
      refine G.op1 (op_index (cs := [vI x22]) Try.underlying22 ti3 (idx_ok hx22).1 (idx_get hx22 encI_i64) (Ev.t 36 (.g (.d (.sl 1 (List.map encI_i64 c_0.Owners))))) (Ev.t 37 (bI .i64 v17.2)) rfl) rfl ⟨rfl, rfl, trivial⟩ trivial ?_
      refine G.op1 (op_load1E (c := vI x22) Try.underlying3 rfl rfl (Ev.t 38 (.ep [vI x22])) rfl) rfl ⟨rfl, trivial⟩ trivial ?_
      refine G.op1 (op_convI Try.underlying3 Try.underlying55 (Ev.t 39 (bI .i64 x22)) rfl) rfl ⟨rfl, trivial⟩ trivial ?_
      obtain ⟨r23, hr23, hF⟩ := bindS hF
      refine G.op1 (op_callQ (sv := oS r23) cf35 (ct_ref01_Number (IntKind.wrap .u64 x22) r23 hr23) rfl rfl (EvQL.cons (EvQ.g (Ev.t 40 (bI .u64 (IntKind.wrap .u64 x22)))) EvQL.nil) rfl) rfl ⟨rfl, trivial⟩ trivial ?_
      obtain ⟨s24, hs24, hF⟩ := bindS hF
      refine G.op1 (OpL.cast (op_cat (scat_ok hs24).1 (Ev.t 34 (bS v17.1)) (Ev.t 41 (bS r23)) rfl) (by rw [(scat_ok hs24).2])) rfl ⟨rfl, rfl, trivial⟩ trivial ?_
      refine G.op1 (op_assign (Ev.t 42 (bS s24)) rfl) rfl ⟨rfl, trivial⟩ trivial ?_
      refine G.endOps ?_
      refine G.endBlock ?_
      refine G.region ?_
      refine G.op1 (op_move (Ev.t 6 (bI .i64 v17.2)) rfl) rfl ⟨rfl, trivial⟩ trivial ?_
      refine G.op1 (op_add (Ev.t 32 (bI .i64 v17.2)) (Ev.c _ rfl) rfl) rfl ⟨rfl, trivial⟩ trivial ?_
      refine G.op1 (op_assign (Ev.t 33 (bI .i64 (IntKind.wrap .i64 (v17.2 + 1)))) rfl) rfl ⟨rfl, trivial⟩ trivial ?_
      refine G.endOps ?_
      exact G.arr (J18 (s24, IntKind.wrap .i64 (v17.2 + 1)) hF) ⟨rfl, rfl, rfl, rfl, trivial⟩ ⟨rfl, trivial⟩ rfl
    · refine G.cond rfl (fun hx => by rw [hc21] at hx; cases hx) (fun _ => ?_)
      refine G.exit ?_
      refine GX.c ?_
      refine GX.q ?_
      refine GX.bYes ?_
      exact G.arr (J16 v17.1 hF) ⟨rfl, rfl, trivial⟩ ⟨rfl, trivial⟩ rfl
  refine G.block ?_
  refine G.keep (sl' := [(1, .one (.ptr 1001 0)), (3, oI (c_0.Ranges.length : Int)), (4, oS r1), (5, oI 0)]) (hp' := [(1001, some (.blk 31 [.g (.d (.sl 2 (List.map encApi_Range c_0.Ranges))), .g (.d (.sl 1 (List.map encI_i64 c_0.Owners))), .g (.d (.sl 1 (List.map encI_i64 c_0.Parents)))]))]) ⟨rfl, rfl, rfl, rfl, trivial⟩ ⟨rfl, trivial⟩ rfl ?_
  refine G.loopF (fun (v26 : ByteArray × Int) => ⟨[(1, .one (.ptr 1001 0)), (3, oI (c_0.Ranges.length : Int)), (4, oS v26.1), (5, oI v26.2)], [(1001, some (.blk 31 [.g (.d (.sl 2 (List.map encApi_Range c_0.Ranges))), .g (.d (.sl 1 (List.map encI_i64 c_0.Owners))), .g (.d (.sl 1 (List.map encI_i64 c_0.Parents)))]))]⟩) hF rfl (fun K29 again28 v26 J27 hF => ?_)
  unfold ref06_RowBytes_l6 at hF
  refine G.seq ?_
  refine G.seq ?_
  refine G.region ?_
  refine G.op1 (op_move (Ev.t 5 (bI .i64 v26.2)) rfl) rfl ⟨rfl, trivial⟩ trivial ?_
  refine G.op1 (op_add (Ev.t 14 (bI .i64 v26.2)) (Ev.c _ rfl) rfl) rfl ⟨rfl, trivial⟩ trivial ?_
  refine G.op1 (op_move (Ev.t 3 (bI .i64 (c_0.Ranges.length : Int))) rfl) rfl ⟨rfl, trivial⟩ trivial ?_
  refine G.op1 (op_lss (Ev.t 15 (bI .i64 (IntKind.wrap .i64 (v26.2 + 1)))) (Ev.t 16 (bI .i64 (c_0.Ranges.length : Int))) rfl) rfl ⟨rfl, rfl, trivial⟩ trivial ?_
  refine G.endOps ?_
  refine ifS hF (fun hc30 hF => ?_) (fun hc30 hF => ?_)
  · refine G.cond rfl (fun _ => ?_) (fun hx => by rw [hc30] at hx; cases hx)
    refine G.skip ?_
    refine G.seq ?_
    refine G.block ?_
    refine G.region ?_
    refine G.op1 (op_move (Ev.t 4 (bS v26.1)) rfl) rfl ⟨rfl, trivial⟩ trivial ?_
    refine G.op1 (op_fieldP (off' := 0) Try.underlying31 rfl ti29 (by decide) rfl (Ev.t 1 (.ptr 1001 0)) rfl) rfl ⟨rfl, trivial⟩ trivial ?_
    refine G.op1 (op_load1P (c := .g (.d (.sl 2 (List.map encApi_Range c_0.Ranges)))) Try.underlying29 rfl rfl (Ev.t 21 (.ptr 1001 0)) rfl) rfl ⟨rfl, trivial⟩ ⟨rfl, trivial⟩ ?_
    refine G.op1 (op_move (Ev.t 5 (bI .i64 v26.2)) rfl) rfl ⟨rfl, trivial⟩ trivial ?_
    obtain ⟨x31, hx31, hF⟩ := bindS hF
    refine G.op1 (op_index (cs := [vS x31.From, vS x31.To]) Try.underlying29 ti37 (idx_ok hx31).1 (idx_get hx31 encApi_Range) (Ev.t 22 (.g (.d (.sl 2 (List.map encApi_Range c_0.Ranges))))) (Ev.t 23 (bI .i64 v26.2)) rfl) rfl ⟨rfl, rfl, trivial⟩ trivial ?_
    refine G.op1 (op_fieldE (cs' := [vS x31.To]) Try.underlying37 rfl ti9 (by decide) rfl (Ev.t 24 (.ep [vS x31.From, vS x31.To])) rfl) rfl ⟨rfl, trivial⟩ trivial ?_
    refine G.op1 (op_load1E (c := vS x31.To) Try.underlying9 rfl rfl (Ev.t 25 (.ep [vS x31.To])) rfl) rfl ⟨rfl, trivial⟩ trivial ?_
    obtain ⟨r32, hr32, hF⟩ := bindS hF
    refine G.op1 (op_callQ (sv := oS r32) cf36 (ct_ref01_Text x31.To r32 hr32) rfl rfl (EvQL.cons (EvQ.g (Ev.t 26 (bS x31.To))) EvQL.nil) rfl) rfl ⟨rfl, trivial⟩ trivial ?_
    obtain ⟨s33, hs33, hF⟩ := bindS hF
    refine G.op1 (OpL.cast (op_cat (scat_ok hs33).1 (Ev.t 20 (bS v26.1)) (Ev.t 27 (bS r32)) rfl) (by rw [(scat_ok hs33).2])) rfl ⟨rfl, rfl, trivial⟩ trivial ?_
    refine G.op1 (op_assign (Ev.t 28 (bS s33)) rfl) rfl ⟨rfl, trivial⟩ trivial ?_
    refine G.endOps ?_
    refine G.endBlock ?_
    refine G.region ?_
    refine G.op1 (op_move (Ev.t 5 (bI .i64 v26.2)) rfl) rfl ⟨rfl, trivial⟩ trivial ?_
    refine G.op1 (op_add (Ev.t 18 (bI .i64 v26.2)) (Ev.c _ rfl) rfl) rfl ⟨rfl, trivial⟩ trivial ?_
    refine G.op1 (op_assign (Ev.t 19 (bI .i64 (IntKind.wrap .i64 (v26.2 + 1)))) rfl) rfl ⟨rfl, trivial⟩ trivial ?_
    refine G.endOps ?_
    exact G.arr (J27 (s33, IntKind.wrap .i64 (v26.2 + 1)) hF) ⟨rfl, rfl, rfl, rfl, trivial⟩ ⟨rfl, trivial⟩ rfl
  · refine G.cond rfl (fun hx => by rw [hc30] at hx; cases hx) (fun _ => ?_)
    refine G.exit ?_
    refine GX.c ?_
    refine GX.q ?_
    refine GX.bYes ?_
    exact G.arr (J25 v26.1 hF) ⟨rfl, rfl, rfl, trivial⟩ ⟨rfl, trivial⟩ rfl


set_option maxRecDepth 20000 in
set_option maxHeartbeats 2000000 in
theorem ct_wire_many (n_0 : Int) (most_1 : Int) (number_2 : Wire_reader) (r : (Wire_reader × (List Int))) (hF : wire_many n_0 most_1 number_2 = some r) : CtB Try.prog 19 17 [.d (vI n_0), .d (.v (.int .u64 most_1))] 53 (encWire_reader number_2) (encWire_reader r.1) 3 1 (List.map encI_i64 r.2) := by
  unfold wire_many at hF
  refine CtB.intro Try.func19 rfl Try.ntmps19 rfl (fun M w b => ?_)
  refine G.seq ?_
  refine G.region ?_
  refine G.op1 (op_assign (Ev.n 1) rfl) rfl trivial trivial ?_
  refine G.endOps ?_
  refine G.seq ?_
  refine G.region ?_
  refine G.op2 (op_assignRow (E := 3) (size := 1) (k := 2007) (ex := true) rfl rfl) rfl trivial ⟨rfl, trivial⟩ ?_
  refine G.endOps ?_
  refine G.seq ?_
  refine G.seq ?_
  refine G.region ?_
  refine G.op1 (op_move (Ev.t 0 (bI .i64 n_0)) rfl) rfl ⟨rfl, trivial⟩ trivial ?_
  refine G.op1 (op_move (Ev.c _ rfl) rfl) rfl trivial trivial ?_
  refine G.endOps ?_
  refine G.joinC (T := ByteArray × Int × Bool × (List Int)) (fun y1 => ⟨[(7, .one (.own 2007 (List.map encI_i64 y1.2.2.2)))], [(0, some (.blk 53 [bS y1.1, bI .i64 y1.2.1, bB y1.2.2.1])), (2007, some (.row 3 1 (List.map encI_i64 y1.2.2.2) true))]⟩) (fun y1 => wire_many_k1 y1 = some r) (fun y1 hF => ?_) (fun J2 => ?_)
  · unfold wire_many_k1 at hF
    refine G.seq ?_
    refine G.region ?_
    refine G.op1 (op_move (Ev.t 7 (.own 2007 (List.map encI_i64 y1.2.2.2))) rfl) rfl ⟨rfl, trivial⟩ trivial ?_
    refine G.op1 (op_assign (Ev.t 18 (.own 2007 (List.map encI_i64 y1.2.2.2))) rfl) rfl ⟨rfl, trivial⟩ trivial ?_
    refine G.endOps ?_
    cases hF
    exact G.retB Try.results19 rfl rfl rfl
  refine G.block ?_
  refine G.keep (sl' := [(1, .one (bI .u64 most_1)), (2, .one (.pv 0 (bmV 17))), (7, .one (.own 2007 (List.map encI_i64 ([] : (List Int))))), (8, oI n_0), (9, oI 0)]) (hp' := [(0, some (.blk 53 [bS number_2.s, bI .i64 number_2.at_, bB number_2.bad])), (2007, some (.row 3 1 (List.map encI_i64 ([] : (List Int))) true))]) ⟨rfl, rfl, rfl, rfl, rfl, trivial⟩ ⟨rfl, rfl, trivial⟩ rfl ?_
  refine G.loopF (fun (v3 : Int × ByteArray × Int × Bool × (List Int)) => ⟨[(1, .one (bI .u64 most_1)), (2, .one (.pv 0 (bmV 17))), (7, .one (.own 2007 (List.map encI_i64 v3.2.2.2.2))), (8, oI n_0), (9, oI v3.1)], [(0, some (.blk 53 [bS v3.2.1, bI .i64 v3.2.2.1, bB v3.2.2.2.1])), (2007, some (.row 3 1 (List.map encI_i64 v3.2.2.2.2) true))]⟩) hF rfl (fun K6 again5 v3 J4 hF => ?_)
  unfold wire_many_l2 at hF
  refine G.seq ?_
  refine G.region ?_
  refine G.op1 (op_lss (Ev.t 9 (bI .i64 v3.1)) (Ev.t 8 (bI .i64 n_0)) rfl) rfl ⟨rfl, rfl, trivial⟩ trivial ?_
  refine G.endOps ?_
  refine G.seq ?_
  refine ifS hF (fun hc7 hF => ?_) (fun hc7 hF => ?_)
  · refine G.cond rfl (fun _ => ?_) (fun hx => by rw [hc7] at hx; cases hx)
    refine G.skip ?_
    refine G.seq ?_
    refine G.block ?_
    refine G.region ?_
    refine G.op1 (op_move (Ev.t 7 (.own 2007 (List.map encI_i64 v3.2.2.2.2))) rfl) rfl ⟨rfl, trivial⟩ trivial ?_
    refine G.op1 (op_move (Ev.t 2 (.pv 0 (bmV 17))) rfl) rfl ⟨rfl, trivial⟩ trivial ?_
    refine G.op1 (op_move (Ev.t 1 (bI .u64 most_1)) rfl) rfl ⟨rfl, trivial⟩ trivial ?_
    obtain ⟨r8, hr8, hF⟩ := bindS hF
    refine G.opM (op_callBm (k := 0) (h := .dat 53 (encWire_reader (Wire_reader.mk v3.2.1 v3.2.2.1 v3.2.2.2.1))) (h' := .dat 53 (encWire_reader r8.1)) 0 (sv := oI r8.2) cf17 (ct_wire_reader_number (Wire_reader.mk v3.2.1 v3.2.2.1 v3.2.2.2.1) most_1 r8 hr8) rfl rfl (EvM.g (Ev.t 13 (bI .u64 most_1)) EvM.nil) rfl) rfl ⟨rfl, rfl, trivial⟩ ⟨rfl, trivial⟩ ?_
    refine G.op1 (op_buildSlice (es := List.map encI_i64 [r8.2]) Try.underlying22 ti3 rfl rfl (EvP.cons (Ev.t 14 (bI .i64 r8.2)) EvP.nil) rfl rfl (by simp [encI_i64]) rfl) rfl ⟨rfl, trivial⟩ trivial ?_
    obtain ⟨l9, hl9, hF⟩ := bindS hF
    refine G.op2 (op_appendO Try.underlying22 ti3 rfl (app_map hl9 encI_i64) (app_b1 hl9 encI_i64) (app_b2 hl9 encI_i64) (Ev.t 11 (.own 2007 (List.map encI_i64 v3.2.2.2.2))) (Ev.t 15 (.g (.d (.sl 1 (List.map encI_i64 ([r8.2])))))) rfl) rfl ⟨rfl, rfl, trivial⟩ ⟨rfl, trivial⟩ ?_
    refine G.op1 (op_assign (Ev.t 16 (.own 2007 (List.map encI_i64 l9))) rfl) rfl ⟨rfl, trivial⟩ trivial ?_
    refine G.endOps ?_
    refine G.endBlock ?_
    refine G.region ?_
    refine G.op1 (op_add (Ev.t 9 (bI .i64 v3.1)) (Ev.c _ rfl) rfl) rfl ⟨rfl, trivial⟩ trivial ?_
    refine G.op1 (op_move (Ev.t 17 (bI .i64 (IntKind.wrap .i64 (v3.1 + 1)))) rfl) rfl ⟨rfl, trivial⟩ trivial ?_
    refine G.endOps ?_
    exact G.arr (J4 (IntKind.wrap .i64 (v3.1 + 1), r8.1.s, r8.1.at_, r8.1.bad, l9) hF) ⟨rfl, rfl, rfl, rfl, rfl, trivial⟩ ⟨rfl, rfl, trivial⟩ rfl
  · refine G.cond rfl (fun hx => by rw [hc7] at hx; cases hx) (fun _ => ?_)
    refine G.exit ?_
    refine GX.c ?_
    refine GX.q ?_
    refine GX.bYes ?_
    exact G.arr (J2 (v3.2.1, v3.2.2.1, v3.2.2.2.1, v3.2.2.2.2) hF) ⟨rfl, trivial⟩ ⟨rfl, rfl, trivial⟩ rfl


set_option maxRecDepth 20000 in
set_option maxHeartbeats 2000000 in
theorem ct_keys_Good_1 (s_0 : ByteArray) (r : Bool) (hF : keys_Good_1 s_0 = some r) : Ct Try.prog 63 [.g (.d (vS s_0))] (.one (.d (vB r))) := by
  unfold keys_Good_1 at hF
  refine Ct.intro Try.func63 rfl Try.ntmps63 rfl rfl fun M w => ?_
  refine G.seq ?_
  refine G.region ?_
  refine G.op1 (op_assign (Ev.c _ rfl) rfl) rfl trivial trivial ?_
  refine G.endOps ?_
  refine G.seq ?_
  refine G.region ?_
  refine G.op1 (op_move (Ev.t 0 (bS s_0)) rfl) rfl ⟨rfl, trivial⟩ trivial ?_
  refine G.op1 (op_eqS (Ev.t 3 (bS s_0)) (Ev.c _ rfl) rfl) rfl ⟨rfl, trivial⟩ trivial ?_
  refine G.op1 (op_move (Ev.t 4 (bB (seq s_0 ByteArray.empty))) rfl) rfl ⟨rfl, trivial⟩ trivial ?_
  refine ifS hF (fun hc1 hF => ?_) (fun hc1 hF => ?_)
  · refine G.known (t := 5) hc1 rfl ?_
    refine G.opN1 rfl rfl rfl rfl rfl ?_
    refine G.opN1 rfl rfl rfl rfl rfl ?_
    refine G.op1 (op_pickT (Ev.t 5 (bB true)) (Ev.c _ rfl) rfl) rfl ⟨rfl, trivial⟩ trivial ?_
    refine G.op1 (op_assign (Ev.t 8 (bB true)) rfl) rfl ⟨rfl, trivial⟩ trivial ?_
    refine G.endOps ?_
    cases hF
    exact G.ret1 Try.results63 (RVar.tmp 2 _) ⟨rfl, trivial⟩ trivial
  · refine G.known (t := 5) hc1 rfl ?_
    refine G.opG1 (op_move (Ev.t 0 (bS s_0)) rfl) rfl rfl rfl ⟨rfl, trivial⟩ trivial ?_
    obtain ⟨r2, hr2, hF⟩ := bindS hF
    refine G.opG1 (op_callQ (sv := oB r2) cf51 (ct_keys_Check s_0 r2 hr2) rfl rfl (EvQL.cons (EvQ.g (Ev.t 6 (bS s_0))) EvQL.nil) rfl) rfl rfl rfl ⟨rfl, trivial⟩ trivial ?_
    refine G.op1 (op_pickF (Ev.t 5 (bB false)) (Ev.t 7 (bB r2)) rfl) rfl ⟨rfl, rfl, trivial⟩ trivial ?_
    refine G.op1 (op_assign (Ev.t 8 (bB r2)) rfl) rfl ⟨rfl, trivial⟩ trivial ?_
    refine G.endOps ?_
    cases hF
    exact G.ret1 Try.results63 (RVar.tmp 2 _) ⟨rfl, trivial⟩ trivial


set_option maxRecDepth 20000 in
set_option maxHeartbeats 2000000 in
theorem ct_keys_Good (r_0 : Api_Range) (r : Bool) (hF : keys_Good r_0 = some r) : Ct Try.prog 55 [.g (.agg (encApi_Range r_0))] (.one (.d (vB r))) := by
  unfold keys_Good at hF
  refine Ct.intro Try.func55 rfl Try.ntmps55 rfl rfl fun M w => ?_
  refine G.seq ?_
  refine G.region ?_
  refine G.op2 (op_boxA (k := 1001) (Ev.t 0 (.g (.agg [vS r_0.From, vS r_0.To]))) rfl) rfl ⟨rfl, trivial⟩ ⟨rfl, trivial⟩ ?_
  refine G.op1 (op_assign (Ev.c _ rfl) rfl) rfl trivial trivial ?_
  refine G.endOps ?_
  refine G.seq ?_
  refine G.region ?_
  refine G.op1 (op_assign (Ev.f 63) rfl) rfl trivial trivial ?_
  refine G.endOps ?_
  refine G.seq ?_
  refine G.region ?_
  refine G.op1 (op_move (Ev.t 3 (.clo 63 [])) rfl) rfl ⟨rfl, trivial⟩ trivial ?_
  refine G.op1 (op_fieldP (off' := 0) Try.underlying37 rfl ti9 (by decide) rfl (Ev.t 1 (.ptr 1001 0)) rfl) rfl ⟨rfl, trivial⟩ trivial ?_
  refine G.op1 (op_load1P (c := bS r_0.From) Try.underlying9 rfl rfl (Ev.t 5 (.ptr 1001 0)) rfl) rfl ⟨rfl, trivial⟩ ⟨rfl, trivial⟩ ?_
  obtain ⟨r1, hr1, hF⟩ := bindS hF
  refine G.op1 (op_callClo (sv := oB r1) (args := _) (gs := _) cf63 (ct_keys_Good_1 r_0.From r1 hr1) rfl rfl EvC.nil (EvQL.cons (EvQ.g (Ev.t 6 (bS r_0.From))) EvQL.nil) rfl) rfl ⟨rfl, rfl, trivial⟩ trivial ?_
  refine G.op1 (op_move (Ev.t 7 (bB r1)) rfl) rfl ⟨rfl, trivial⟩ trivial ?_
  refine G.joinL (T := Bool) 5 (fun y2 => ⟨[(1, .one (.ptr 1001 0)), (13, oB y2)], [(1001, some (.blk 37 [bS r_0.From, bS r_0.To]))]⟩) (fun y2 => keys_Good_k1 r_0 y2 = some r) (fun y2 hF => ?_) (fun J5 => ?_)
  · unfold keys_Good_k1 at hF
    refine G.op1 (op_move (Ev.t 13 (bB y2)) rfl) rfl ⟨rfl, trivial⟩ trivial ?_
    refine ifS hF (fun hc3 hF => ?_) (fun hc3 hF => ?_)
    · refine G.known (t := 14) hc3 rfl ?_
      refine G.opG1 (op_fieldP (off' := 1) Try.underlying37 rfl ti9 (by decide) rfl (Ev.t 1 (.ptr 1001 0)) rfl) rfl rfl rfl ⟨rfl, trivial⟩ trivial ?_
      refine G.opG1 (op_load1P (c := bS r_0.To) Try.underlying9 rfl rfl (Ev.t 15 (.ptr 1001 1)) rfl) rfl rfl rfl ⟨rfl, trivial⟩ ⟨rfl, trivial⟩ ?_
      refine G.opG1 (op_eqS (Ev.t 16 (bS r_0.To)) (Ev.c _ rfl) rfl) rfl rfl rfl ⟨rfl, trivial⟩ trivial ?_
      refine G.opG1 (op_move (Ev.t 17 (bB (seq r_0.To ByteArray.empty))) rfl) rfl rfl rfl ⟨rfl, trivial⟩ trivial ?_
      refine ifS hF (fun hc4 hF => ?_) (fun hc4 hF => ?_)
      · refine G.known (t := 18) hc4 rfl ?_
        refine G.opN1 rfl rfl rfl rfl rfl ?_
        refine G.opN1 rfl rfl rfl rfl rfl ?_
        refine G.opN1 rfl rfl rfl rfl rfl ?_
        refine G.opN1 rfl rfl rfl rfl rfl ?_
        refine G.opN1 rfl rfl rfl rfl rfl ?_
        refine G.opG1 (op_pickT (Ev.t 18 (bB true)) (Ev.c _ rfl) rfl) rfl rfl rfl ⟨rfl, trivial⟩ trivial ?_
        refine G.op1 (op_pickT (Ev.t 14 (bB true)) (Ev.t 24 (bB true)) rfl) rfl ⟨rfl, rfl, trivial⟩ trivial ?_
        refine G.op1 (op_assign (Ev.t 25 (bB true)) rfl) rfl ⟨rfl, trivial⟩ trivial ?_
        refine G.endOps ?_
        cases hF
        exact G.ret1 Try.results55 (RVar.tmp 2 _) ⟨rfl, trivial⟩ trivial
      · refine G.known (t := 18) hc4 rfl ?_
        refine G.opG1 (op_fieldP (off' := 0) Try.underlying37 rfl ti9 (by decide) rfl (Ev.t 1 (.ptr 1001 0)) rfl) rfl rfl rfl ⟨rfl, trivial⟩ trivial ?_
        refine G.opG1 (op_load1P (c := bS r_0.From) Try.underlying9 rfl rfl (Ev.t 19 (.ptr 1001 0)) rfl) rfl rfl rfl ⟨rfl, trivial⟩ ⟨rfl, trivial⟩ ?_
        refine G.opG1 (op_fieldP (off' := 1) Try.underlying37 rfl ti9 (by decide) rfl (Ev.t 1 (.ptr 1001 0)) rfl) rfl rfl rfl ⟨rfl, trivial⟩ trivial ?_
        refine G.opG1 (op_load1P (c := bS r_0.To) Try.underlying9 rfl rfl (Ev.t 21 (.ptr 1001 1)) rfl) rfl rfl rfl ⟨rfl, trivial⟩ ⟨rfl, trivial⟩ ?_
        refine G.opG1 (op_ltS (Ev.t 20 (bS r_0.From)) (Ev.t 22 (bS r_0.To)) rfl) rfl rfl rfl ⟨rfl, rfl, trivial⟩ trivial ?_
        refine G.opG1 (op_pickF (Ev.t 18 (bB false)) (Ev.t 23 (bB (slt r_0.From r_0.To))) rfl) rfl rfl rfl ⟨rfl, rfl, trivial⟩ trivial ?_
        refine G.op1 (op_pickT (Ev.t 14 (bB true)) (Ev.t 24 (bB (slt r_0.From r_0.To))) rfl) rfl ⟨rfl, rfl, trivial⟩ trivial ?_
        refine G.op1 (op_assign (Ev.t 25 (bB (slt r_0.From r_0.To))) rfl) rfl ⟨rfl, trivial⟩ trivial ?_
        refine G.endOps ?_
        cases hF
        exact G.ret1 Try.results55 (RVar.tmp 2 _) ⟨rfl, trivial⟩ trivial
    · refine G.known (t := 14) hc3 rfl ?_
      refine G.opN1 rfl rfl rfl rfl rfl ?_
      refine G.opN1 rfl rfl rfl rfl rfl ?_
      refine G.opN1 rfl rfl rfl rfl rfl ?_
      refine G.opN1 rfl rfl rfl rfl rfl ?_
      refine G.opU rfl rfl rfl rfl ?_
      refine G.opU rfl rfl rfl rfl ?_
      refine G.opU rfl rfl rfl rfl ?_
      refine G.opU rfl rfl rfl rfl ?_
      refine G.opU rfl rfl rfl rfl ?_
      refine G.opN1 rfl rfl rfl rfl rfl ?_
      refine G.op1 (op_pickF (Ev.t 14 (bB false)) (Ev.c _ rfl) rfl) rfl ⟨rfl, trivial⟩ trivial ?_
      refine G.op1 (op_assign (Ev.t 25 (bB false)) rfl) rfl ⟨rfl, trivial⟩ trivial ?_
      refine G.endOps ?_
      cases hF
      exact G.ret1 Try.results55 (RVar.tmp 2 _) ⟨rfl, trivial⟩ trivial
  refine ifS hF (fun hc6 hF => ?_) (fun hc6 hF => ?_)
  · refine G.known (t := 8) hc6 rfl ?_
    refine G.opG1 (op_move (Ev.t 3 (.clo 63 [])) rfl) rfl rfl rfl ⟨rfl, trivial⟩ trivial ?_
    refine G.opG1 (op_fieldP (off' := 1) Try.underlying37 rfl ti9 (by decide) rfl (Ev.t 1 (.ptr 1001 0)) rfl) rfl rfl rfl ⟨rfl, trivial⟩ trivial ?_
    refine G.opG1 (op_load1P (c := bS r_0.To) Try.underlying9 rfl rfl (Ev.t 10 (.ptr 1001 1)) rfl) rfl rfl rfl ⟨rfl, trivial⟩ ⟨rfl, trivial⟩ ?_
    obtain ⟨r7, hr7, hF⟩ := bindS hF
    refine G.opG1 (op_callClo (sv := oB r7) (args := _) (gs := _) cf63 (ct_keys_Good_1 r_0.To r7 hr7) rfl rfl EvC.nil (EvQL.cons (EvQ.g (Ev.t 11 (bS r_0.To))) EvQL.nil) rfl) rfl rfl rfl ⟨rfl, rfl, trivial⟩ trivial ?_
    refine G.op1 (op_pickT (Ev.t 8 (bB true)) (Ev.t 12 (bB r7)) rfl) rfl ⟨rfl, rfl, trivial⟩ trivial ?_
    exact G.arr (J5 r7 hF) ⟨rfl, rfl, trivial⟩ ⟨rfl, trivial⟩ rfl
  · refine G.known (t := 8) hc6 rfl ?_
    refine G.opN1 rfl rfl rfl rfl rfl ?_
    refine G.opN1 rfl rfl rfl rfl rfl ?_
    refine G.opN1 rfl rfl rfl rfl rfl ?_
    refine G.opN1 rfl rfl rfl rfl rfl ?_
    refine G.op1 (op_pickF (Ev.t 8 (bB false)) (Ev.c _ rfl) rfl) rfl ⟨rfl, trivial⟩ trivial ?_
    exact G.arr (J5 false hF) ⟨rfl, rfl, trivial⟩ ⟨rfl, trivial⟩ rfl


set_option maxRecDepth 20000 in
set_option maxHeartbeats 2000000 in
theorem ct_keys_Whole (l_0 : (List Api_Range)) (r : Bool) (hF : keys_Whole l_0 = some r) : Ct Try.prog 42 [.g (.d (.sl 2 (List.map encApi_Range l_0)))] (.one (.d (vB r))) := by
  unfold keys_Whole at hF
  refine Ct.intro Try.func42 rfl Try.ntmps42 rfl rfl fun M w => ?_
  refine G.seq ?_
  refine G.region ?_
  refine G.op1 (op_assign (Ev.c _ rfl) rfl) rfl trivial trivial ?_
  refine G.endOps ?_
  refine G.seq ?_
  refine G.region ?_
  refine G.op1 (op_assign (Ev.c _ rfl) rfl) rfl trivial trivial ?_
  refine G.endOps ?_
  refine G.seq ?_
  refine G.seq ?_
  refine G.region ?_
  refine G.op1 (op_move (Ev.t 0 (.g (.d (.sl 2 (List.map encApi_Range l_0))))) rfl) rfl ⟨rfl, trivial⟩ trivial ?_
  refine G.op1 (OpL.cast (op_lenD Try.underlying29 (Ev.t 6 (.g (.d (.sl 2 (List.map encApi_Range l_0))))) rfl) (by rw [List.length_map])) rfl ⟨rfl, trivial⟩ trivial ?_
  refine G.op1 (op_move (Ev.c _ rfl) rfl) rfl trivial trivial ?_
  refine G.endOps ?_
  refine G.joinC (T := ByteArray) (fun y1 => ⟨[(0, .one (.g (.d (.sl 2 (List.map encApi_Range l_0))))), (3, oS y1)], []⟩) (fun y1 => keys_Whole_k1 l_0 y1 = some r) (fun y1 hF => ?_) (fun J3 => ?_)
  · unfold keys_Whole_k1 at hF
    refine G.seq ?_
    refine G.region ?_
    refine G.op1 (op_move (Ev.t 0 (.g (.d (.sl 2 (List.map encApi_Range l_0))))) rfl) rfl ⟨rfl, trivial⟩ trivial ?_
    refine G.op1 (OpL.cast (op_lenD Try.underlying29 (Ev.t 33 (.g (.d (.sl 2 (List.map encApi_Range l_0))))) rfl) (by rw [List.length_map])) rfl ⟨rfl, trivial⟩ trivial ?_
    refine G.op1 (op_gtr (Ev.t 34 (bI .i64 (l_0.length : Int))) (Ev.c _ rfl) rfl) rfl ⟨rfl, trivial⟩ trivial ?_
    refine G.op1 (op_move (Ev.t 35 (bB (decide (0 < (l_0.length : Int))))) rfl) rfl ⟨rfl, trivial⟩ trivial ?_
    refine ifS hF (fun hc2 hF => ?_) (fun hc2 hF => ?_)
    · refine G.known (t := 36) hc2 rfl ?_
      refine G.opG1 (op_move (Ev.t 3 (bS y1)) rfl) rfl rfl rfl ⟨rfl, trivial⟩ trivial ?_
      refine G.opG1 (op_eqS (Ev.t 37 (bS y1)) (Ev.c _ rfl) rfl) rfl rfl rfl ⟨rfl, trivial⟩ trivial ?_
      refine G.op1 (op_pickT (Ev.t 36 (bB true)) (Ev.t 38 (bB (seq y1 ByteArray.empty))) rfl) rfl ⟨rfl, rfl, trivial⟩ trivial ?_
      refine G.op1 (op_assign (Ev.t 39 (bB (seq y1 ByteArray.empty))) rfl) rfl ⟨rfl, trivial⟩ trivial ?_
      refine G.endOps ?_
      cases hF
      exact G.ret1 Try.results42 (RVar.tmp 2 _) ⟨rfl, trivial⟩ trivial
    · refine G.known (t := 36) hc2 rfl ?_
      refine G.opN1 rfl rfl rfl rfl rfl ?_
      refine G.opN1 rfl rfl rfl rfl rfl ?_
      refine G.op1 (op_pickF (Ev.t 36 (bB false)) (Ev.c _ rfl) rfl) rfl ⟨rfl, trivial⟩ trivial ?_
      refine G.op1 (op_assign (Ev.t 39 (bB false)) rfl) rfl ⟨rfl, trivial⟩ trivial ?_
      refine G.endOps ?_
      cases hF
      exact G.ret1 Try.results42 (RVar.tmp 2 _) ⟨rfl, trivial⟩ trivial
  refine G.block ?_
  refine G.keep (sl' := [(0, .one (.g (.d (.sl 2 (List.map encApi_Range l_0))))), (3, oS ByteArray.empty), (6, .one (.g (.d (.sl 2 (List.map encApi_Range l_0))))), (7, oI (l_0.length : Int)), (8, oI 0)]) (hp' := []) ⟨rfl, rfl, rfl, rfl, rfl, trivial⟩ trivial rfl ?_
  refine G.loopF (fun (v4 : ByteArray × Int) => ⟨[(0, .one (.g (.d (.sl 2 (List.map encApi_Range l_0))))), (3, oS v4.1), (6, .one (.g (.d (.sl 2 (List.map encApi_Range l_0))))), (7, oI (l_0.length : Int)), (8, oI v4.2)], []⟩) hF rfl (fun K7 again6 v4 J5 hF => ?_)
  unfold keys_Whole_l2 at hF
  refine G.seq ?_
  refine G.region ?_
  refine G.op1 (op_lss (Ev.t 8 (bI .i64 v4.2)) (Ev.t 7 (bI .i64 (l_0.length : Int))) rfl) rfl ⟨rfl, rfl, trivial⟩ trivial ?_
  refine G.endOps ?_
  refine G.seq ?_
  refine ifS hF (fun hc8 hF => ?_) (fun hc8 hF => ?_)
  · refine G.cond rfl (fun _ => ?_) (fun hx => by rw [hc8] at hx; cases hx)
    refine G.skip ?_
    refine G.seq ?_
    refine G.block ?_
    refine G.seq ?_
    refine G.region ?_
    refine G.op1 (op_move (Ev.t 8 (bI .i64 v4.2)) rfl) rfl ⟨rfl, trivial⟩ trivial ?_
    obtain ⟨x9, hx9, hF⟩ := bindS hF
    refine G.op1 (op_index (cs := [vS x9.From, vS x9.To]) Try.underlying29 ti37 (idx_ok hx9).1 (idx_get hx9 encApi_Range) (Ev.t 6 (.g (.d (.sl 2 (List.map encApi_Range l_0))))) (Ev.t 8 (bI .i64 v4.2)) rfl) rfl ⟨rfl, rfl, trivial⟩ trivial ?_
    refine G.op1 (op_loadAE (ds := [vS x9.From, vS x9.To]) Try.underlying37 rfl ti37 rfl (Ev.t 11 (.ep [vS x9.From, vS x9.To])) rfl) rfl ⟨rfl, trivial⟩ trivial ?_
    refine G.op2 (op_alloc (k := 1005) (cs := [bS ByteArray.empty, bS ByteArray.empty]) ti37 ⟨.v _ rfl, .v _ rfl, trivial⟩ rfl) rfl trivial ⟨rfl, trivial⟩ ?_
    refine G.op1 (op_assign (Ev.t 10 (bI .i64 v4.2)) rfl) rfl ⟨rfl, trivial⟩ trivial ?_
    refine G.op3 (op_storeA (cs' := [bS x9.From, bS x9.To]) ti37 rfl rfl (Ev.t 5 (.ptr 1005 0)) (Ev.t 12 (.g (.agg [vS x9.From, vS x9.To])))) rfl ⟨rfl, rfl, trivial⟩ ⟨rfl, trivial⟩ ?_
    refine G.endOps ?_
    refine G.seq ?_
    refine G.seq ?_
    refine G.joinC (T := Bool) (fun y10 => ⟨[(0, .one (.g (.d (.sl 2 (List.map encApi_Range l_0))))), (5, .one (.ptr 1005 0)), (6, .one (.g (.d (.sl 2 (List.map encApi_Range l_0))))), (7, oI (l_0.length : Int)), (8, oI v4.2), (29, oB y10)], [(1005, some (.blk 37 [bS x9.From, bS x9.To]))]⟩) (fun y10 => keys_Whole_k3 again6 v4 x9 y10 = some r) (fun y10 hF => ?_) (fun J12 => ?_)
    · unfold keys_Whole_k3 at hF
      refine ifS hF (fun hc11 hF => ?_) (fun hc11 hF => ?_)
      · refine G.cond rfl (fun _ => ?_) (fun hx => by rw [hc11] at hx; cases hx)
        refine G.seq ?_
        refine G.region ?_
        refine G.op1 (op_assign (Ev.c _ rfl) rfl) rfl trivial trivial ?_
        refine G.endOps ?_
        cases hF
        exact G.ret1 Try.results42 (RVar.tmp 2 _) ⟨rfl, trivial⟩ trivial
      · refine G.cond rfl (fun hx => by rw [hc11] at hx; cases hx) (fun _ => ?_)
        refine G.skip ?_
        refine G.region ?_
        refine G.op1 (op_fieldP (off' := 1) Try.underlying37 rfl ti9 (by decide) rfl (Ev.t 5 (.ptr 1005 0)) rfl) rfl ⟨rfl, trivial⟩ trivial ?_
        refine G.op1 (op_load1P (c := bS x9.To) Try.underlying9 rfl rfl (Ev.t 30 (.ptr 1005 1)) rfl) rfl ⟨rfl, trivial⟩ ⟨rfl, trivial⟩ ?_
        refine G.op1 (op_assign (Ev.t 31 (bS x9.To)) rfl) rfl ⟨rfl, trivial⟩ trivial ?_
        refine G.endOps ?_
        refine G.endBlock ?_
        refine G.region ?_
        refine G.op1 (op_add (Ev.t 8 (bI .i64 v4.2)) (Ev.c _ rfl) rfl) rfl ⟨rfl, trivial⟩ trivial ?_
        refine G.op1 (op_move (Ev.t 32 (bI .i64 (IntKind.wrap .i64 (v4.2 + 1)))) rfl) rfl ⟨rfl, trivial⟩ trivial ?_
        refine G.endOps ?_
        exact G.arr (J5 (x9.To, IntKind.wrap .i64 (v4.2 + 1)) hF) ⟨rfl, rfl, rfl, rfl, rfl, trivial⟩ trivial rfl
    refine G.region ?_
    refine G.op1 (op_loadAP (ds := [vS x9.From, vS x9.To]) Try.underlying37 rfl ti37 rfl (Ev.t 5 (.ptr 1005 0)) rfl) rfl ⟨rfl, trivial⟩ ⟨rfl, trivial⟩ ?_
    obtain ⟨r13, hr13, hF⟩ := bindS hF
    refine G.op1 (op_callQ (sv := oB r13) cf55 (ct_keys_Good x9 r13 hr13) rfl rfl (EvQL.cons (EvQ.g (Ev.t 13 (.g (.agg [vS x9.From, vS x9.To])))) EvQL.nil) rfl) rfl ⟨rfl, trivial⟩ trivial ?_
    refine G.op1 (op_not (Ev.t 14 (bB r13)) rfl) rfl ⟨rfl, trivial⟩ trivial ?_
    refine G.op1 (op_move (Ev.t 15 (bB (!r13))) rfl) rfl ⟨rfl, trivial⟩ trivial ?_
    refine G.joinL (T := Bool) 5 (fun y14 => ⟨[(0, .one (.g (.d (.sl 2 (List.map encApi_Range l_0))))), (3, oS v4.1), (4, oI v4.2), (5, .one (.ptr 1005 0)), (6, .one (.g (.d (.sl 2 (List.map encApi_Range l_0))))), (7, oI (l_0.length : Int)), (8, oI v4.2), (21, oB y14)], [(1005, some (.blk 37 [bS x9.From, bS x9.To]))]⟩) (fun y14 => keys_Whole_k4 again6 v4 x9 y14 = some r) (fun y14 hF => ?_) (fun J17 => ?_)
    · unfold keys_Whole_k4 at hF
      refine G.op1 (op_move (Ev.t 21 (bB y14)) rfl) rfl ⟨rfl, trivial⟩ trivial ?_
      refine ifS hF (fun hc15 hF => ?_) (fun hc15 hF => ?_)
      · refine G.known (t := 22) hc15 rfl ?_
        refine G.opN1 rfl rfl rfl rfl rfl ?_
        refine G.opN1 rfl rfl rfl rfl rfl ?_
        refine G.opN1 rfl rfl rfl rfl rfl ?_
        refine G.opU rfl rfl rfl rfl ?_
        refine G.opU rfl rfl rfl rfl ?_
        refine G.opN1 rfl rfl rfl rfl rfl ?_
        refine G.op1 (op_pickT (Ev.t 22 (bB true)) (Ev.c _ rfl) rfl) rfl ⟨rfl, trivial⟩ trivial ?_
        refine G.endOps ?_
        exact G.arr (J12 true hF) ⟨rfl, rfl, rfl, rfl, rfl, rfl, trivial⟩ ⟨rfl, trivial⟩ rfl
      · refine G.known (t := 22) hc15 rfl ?_
        refine G.opG1 (op_move (Ev.t 4 (bI .i64 v4.2)) rfl) rfl rfl rfl ⟨rfl, trivial⟩ trivial ?_
        refine G.opG1 (op_gtr (Ev.t 23 (bI .i64 v4.2)) (Ev.c _ rfl) rfl) rfl rfl rfl ⟨rfl, trivial⟩ trivial ?_
        refine G.opG1 (op_move (Ev.t 24 (bB (decide (0 < v4.2)))) rfl) rfl rfl rfl ⟨rfl, trivial⟩ trivial ?_
        refine ifS hF (fun hc16 hF => ?_) (fun hc16 hF => ?_)
        · refine G.known (t := 25) hc16 rfl ?_
          refine G.opG1 (op_move (Ev.t 3 (bS v4.1)) rfl) rfl rfl rfl ⟨rfl, trivial⟩ trivial ?_
          refine G.opG1 (op_eqS (Ev.t 26 (bS v4.1)) (Ev.c _ rfl) rfl) rfl rfl rfl ⟨rfl, trivial⟩ trivial ?_
          refine G.opG1 (op_pickT (Ev.t 25 (bB true)) (Ev.t 27 (bB (seq v4.1 ByteArray.empty))) rfl) rfl rfl rfl ⟨rfl, rfl, trivial⟩ trivial ?_
          refine G.op1 (op_pickF (Ev.t 22 (bB false)) (Ev.t 28 (bB (seq v4.1 ByteArray.empty))) rfl) rfl ⟨rfl, rfl, trivial⟩ trivial ?_
          refine G.endOps ?_
          exact G.arr (J12 (seq v4.1 ByteArray.empty) hF) ⟨rfl, rfl, rfl, rfl, rfl, rfl, trivial⟩ ⟨rfl, trivial⟩ rfl
        · refine G.known (t := 25) hc16 rfl ?_
          refine G.opN1 rfl rfl rfl rfl rfl ?_
          refine G.opN1 rfl rfl rfl rfl rfl ?_
          refine G.opG1 (op_pickF (Ev.t 25 (bB false)) (Ev.c _ rfl) rfl) rfl rfl rfl ⟨rfl, trivial⟩ trivial ?_
          refine G.op1 (op_pickF (Ev.t 22 (bB false)) (Ev.t 28 (bB false)) rfl) rfl ⟨rfl, rfl, trivial⟩ trivial ?_
          refine G.endOps ?_
          exact G.arr (J12 false hF) ⟨rfl, rfl, rfl, rfl, rfl, rfl, trivial⟩ ⟨rfl, trivial⟩ rfl
    refine ifS hF (fun hc18 hF => ?_) (fun hc18 hF => ?_)
    · refine G.known (t := 16) hc18 rfl ?_
      refine G.opN1 rfl rfl rfl rfl rfl ?_
      refine G.opN1 rfl rfl rfl rfl rfl ?_
      refine G.opN1 rfl rfl rfl rfl rfl ?_
      refine G.opN1 rfl rfl rfl rfl rfl ?_
      refine G.op1 (op_pickT (Ev.t 16 (bB true)) (Ev.c _ rfl) rfl) rfl ⟨rfl, trivial⟩ trivial ?_
      exact G.arr (J17 true hF) ⟨rfl, rfl, rfl, rfl, rfl, rfl, rfl, rfl, trivial⟩ ⟨rfl, trivial⟩ rfl
    · refine G.known (t := 16) hc18 rfl ?_
      refine G.opG1 (op_fieldP (off' := 0) Try.underlying37 rfl ti9 (by decide) rfl (Ev.t 5 (.ptr 1005 0)) rfl) rfl rfl rfl ⟨rfl, trivial⟩ trivial ?_
      refine G.opG1 (op_load1P (c := bS x9.From) Try.underlying9 rfl rfl (Ev.t 17 (.ptr 1005 0)) rfl) rfl rfl rfl ⟨rfl, trivial⟩ ⟨rfl, trivial⟩ ?_
      refine G.opG1 (op_move (Ev.t 3 (bS v4.1)) rfl) rfl rfl rfl ⟨rfl, trivial⟩ trivial ?_
      refine G.opG1 (op_neS (Ev.t 18 (bS x9.From)) (Ev.t 19 (bS v4.1)) rfl) rfl rfl rfl ⟨rfl, rfl, trivial⟩ trivial ?_
      refine G.op1 (op_pickF (Ev.t 16 (bB false)) (Ev.t 20 (bB (!seq x9.From v4.1))) rfl) rfl ⟨rfl, rfl, trivial⟩ trivial ?_
      exact G.arr (J17 (!seq x9.From v4.1) hF) ⟨rfl, rfl, rfl, rfl, rfl, rfl, rfl, rfl, trivial⟩ ⟨rfl, trivial⟩ rfl
  · refine G.cond rfl (fun hx => by rw [hc8] at hx; cases hx) (fun _ => ?_)
    refine G.exit ?_
    refine GX.c ?_
    refine GX.q ?_
    refine GX.bYes ?_
    exact G.arr (J3 v4.1 hF) ⟨rfl, rfl, trivial⟩ trivial rfl


set_option maxRecDepth 20000 in
set_option maxHeartbeats 2000000 in
theorem ct_wire_written_1 (p_0 : Int) (r : Bool) (hF : wire_written_1 p_0 = some r) : Ct Try.prog 43 [.g (.d (vI p_0))] (.one (.d (vB r))) := by
  unfold wire_written_1 at hF
  refine Ct.intro Try.func43 rfl Try.ntmps43 rfl rfl fun M w => ?_
  refine G.seq ?_
  refine G.region ?_
  refine G.op1 (op_assign (Ev.c _ rfl) rfl) rfl trivial trivial ?_
  refine G.endOps ?_
  refine G.seq ?_
  refine G.region ?_
  refine G.op1 (op_move (Ev.t 0 (bI .i64 p_0)) rfl) rfl ⟨rfl, trivial⟩ trivial ?_
  refine G.op1 (op_lss (Ev.t 3 (bI .i64 p_0)) (Ev.c _ rfl) rfl) rfl ⟨rfl, trivial⟩ trivial ?_
  refine G.op1 (op_move (Ev.t 4 (bB (decide (p_0 < (-1))))) rfl) rfl ⟨rfl, trivial⟩ trivial ?_
  refine ifS hF (fun hc1 hF => ?_) (fun hc1 hF => ?_)
  · refine G.known (t := 5) hc1 rfl ?_
    refine G.opN1 rfl rfl rfl rfl rfl ?_
    refine G.opN1 rfl rfl rfl rfl rfl ?_
    refine G.op1 (op_pickT (Ev.t 5 (bB true)) (Ev.c _ rfl) rfl) rfl ⟨rfl, trivial⟩ trivial ?_
    refine G.op1 (op_assign (Ev.t 8 (bB true)) rfl) rfl ⟨rfl, trivial⟩ trivial ?_
    refine G.endOps ?_
    cases hF
    exact G.ret1 Try.results43 (RVar.tmp 2 _) ⟨rfl, trivial⟩ trivial
  · refine G.known (t := 5) hc1 rfl ?_
    refine G.opG1 (op_move (Ev.t 0 (bI .i64 p_0)) rfl) rfl rfl rfl ⟨rfl, trivial⟩ trivial ?_
    refine G.opG1 (op_geq (Ev.t 6 (bI .i64 p_0)) (Ev.c _ rfl) rfl) rfl rfl rfl ⟨rfl, trivial⟩ trivial ?_
    refine G.op1 (op_pickF (Ev.t 5 (bB false)) (Ev.t 7 (bB (decide (6 ≤ p_0)))) rfl) rfl ⟨rfl, rfl, trivial⟩ trivial ?_
    refine G.op1 (op_assign (Ev.t 8 (bB (decide (6 ≤ p_0)))) rfl) rfl ⟨rfl, trivial⟩ trivial ?_
    refine G.endOps ?_
    cases hF
    exact G.ret1 Try.results43 (RVar.tmp 2 _) ⟨rfl, trivial⟩ trivial


set_option maxRecDepth 20000 in
set_option maxHeartbeats 2000000 in
theorem ct_wire_written_2 (o_0 : Int) (c0 : Int) (r : Bool) (hF : wire_written_2 o_0 c0 = some r) : Ct Try.prog 44 [.g (.d (vI o_0)), .ep [vI c0]] (.one (.d (vB r))) := by
  unfold wire_written_2 at hF
  refine Ct.intro Try.func44 rfl Try.ntmps44 rfl rfl fun M w => ?_
  refine G.seq ?_
  refine G.region ?_
  refine G.op1 (op_assign (Ev.c _ rfl) rfl) rfl trivial trivial ?_
  refine G.endOps ?_
  refine G.seq ?_
  refine G.region ?_
  refine G.op1 (op_move (Ev.t 0 (bI .i64 o_0)) rfl) rfl ⟨rfl, trivial⟩ trivial ?_
  refine G.op1 (op_lss (Ev.t 4 (bI .i64 o_0)) (Ev.c _ rfl) rfl) rfl ⟨rfl, trivial⟩ trivial ?_
  refine G.op1 (op_move (Ev.t 5 (bB (decide (o_0 < 1)))) rfl) rfl ⟨rfl, trivial⟩ trivial ?_
  refine ifS hF (fun hc1 hF => ?_) (fun hc1 hF => ?_)
  · refine G.known (t := 6) hc1 rfl ?_
    refine G.opN1 rfl rfl rfl rfl rfl ?_
    refine G.opN1 rfl rfl rfl rfl rfl ?_
    refine G.opN1 rfl rfl rfl rfl rfl ?_
    refine G.opN1 rfl rfl rfl rfl rfl ?_
    refine G.op1 (op_pickT (Ev.t 6 (bB true)) (Ev.c _ rfl) rfl) rfl ⟨rfl, trivial⟩ trivial ?_
    refine G.op1 (op_assign (Ev.t 11 (bB true)) rfl) rfl ⟨rfl, trivial⟩ trivial ?_
    refine G.endOps ?_
    cases hF
    exact G.ret1 Try.results44 (RVar.tmp 3 _) ⟨rfl, trivial⟩ trivial
  · refine G.known (t := 6) hc1 rfl ?_
    refine G.opG1 (op_move (Ev.t 0 (bI .i64 o_0)) rfl) rfl rfl rfl ⟨rfl, trivial⟩ trivial ?_
    refine G.opG1 (op_load1E (c := vI c0) Try.underlying3 rfl rfl (Ev.t 1 (.ep [vI c0])) rfl) rfl rfl rfl ⟨rfl, trivial⟩ trivial ?_
    obtain ⟨hz2, hF⟩ := chkS hF
    refine G.opG1 (op_shr (of_decide_eq_true hz2) (Ev.t 7 (bI .i64 o_0)) (Ev.t 8 (bI .i64 c0)) rfl) rfl rfl rfl ⟨rfl, rfl, trivial⟩ trivial ?_
    refine G.opG1 (op_neI (Ev.t 9 (bI .i64 (Int.fdiv o_0 (2 ^ min (Int.toNat c0) (IntKind.bits .i64))))) (Ev.c _ rfl) rfl) rfl rfl rfl ⟨rfl, trivial⟩ trivial ?_
    refine G.op1 (op_pickF (Ev.t 6 (bB false)) (Ev.t 10 (bB (!decide ((Int.fdiv o_0 (2 ^ min (Int.toNat c0) (IntKind.bits .i64))) = 0)))) rfl) rfl ⟨rfl, rfl, trivial⟩ trivial ?_
    refine G.op1 (op_assign (Ev.t 11 (bB (!decide ((Int.fdiv o_0 (2 ^ min (Int.toNat c0) (IntKind.bits .i64))) = 0)))) rfl) rfl ⟨rfl, trivial⟩ trivial ?_
    refine G.endOps ?_
    cases hF
    exact G.ret1 Try.results44 (RVar.tmp 3 _) ⟨rfl, trivial⟩ trivial


set_option maxRecDepth 20000 in
set_option maxHeartbeats 2000000 in
theorem ct_slices_IndexFunc_int (s_0 : (List Int)) (f_1 : (Int → Option Bool)) (r : Int) (hF : slices_IndexFunc_int s_0 f_1 = some r) : Ct Try.prog 56 [.g (.d (.sl 1 (List.map encI_i64 s_0))), .sem (sem1 (fun x => .d (vI x)) (fun y => .bool y) f_1)] (.one (.d (vI r))) := by
  unfold slices_IndexFunc_int at hF
  refine Ct.intro Try.func56 rfl Try.ntmps56 rfl rfl fun M w => ?_
  refine G.seq ?_
  refine G.region ?_
  refine G.op1 (op_assign (Ev.c _ rfl) rfl) rfl trivial trivial ?_
  refine G.endOps ?_
  refine G.seq ?_
  refine G.seq ?_
  refine G.region ?_
  refine G.op1 (op_move (Ev.t 0 (.g (.d (.sl 1 (List.map encI_i64 s_0))))) rfl) rfl ⟨rfl, trivial⟩ trivial ?_
  refine G.op1 (OpL.cast (op_lenD Try.underlying22 (Ev.t 6 (.g (.d (.sl 1 (List.map encI_i64 s_0))))) rfl) (by rw [List.length_map])) rfl ⟨rfl, trivial⟩ trivial ?_
  refine G.op1 (op_move (Ev.c _ rfl) rfl) rfl trivial trivial ?_
  refine G.endOps ?_
  refine G.joinC (T := Unit) (fun y1 => ⟨[], []⟩) (fun y1 => slices_IndexFunc_int_k1 y1 = some r) (fun y1 hF => ?_) (fun J2 => ?_)
  · unfold slices_IndexFunc_int_k1 at hF
    refine G.seq ?_
    refine G.region ?_
    refine G.op1 (op_assign (Ev.c _ rfl) rfl) rfl trivial trivial ?_
    refine G.endOps ?_
    cases hF
    exact G.ret1 Try.results56 (RVar.tmp 4 _) ⟨rfl, trivial⟩ trivial
  refine G.block ?_
  refine G.keep (sl' := [(0, .one (.g (.d (.sl 1 (List.map encI_i64 s_0))))), (1, .one (.sem (sem1 (fun x => .d (vI x)) (fun y => .bool y) f_1))), (7, oI (s_0.length : Int)), (8, oI 0)]) (hp' := []) ⟨rfl, rfl, rfl, rfl, trivial⟩ trivial rfl ?_
  refine G.loopF (fun (v3 : Int) => ⟨[(0, .one (.g (.d (.sl 1 (List.map encI_i64 s_0))))), (1, .one (.sem (sem1 (fun x => .d (vI x)) (fun y => .bool y) f_1))), (7, oI (s_0.length : Int)), (8, oI v3)], []⟩) hF rfl (fun K6 again5 v3 J4 hF => ?_)
  unfold slices_IndexFunc_int_l2 at hF
  refine G.seq ?_
  refine G.region ?_
  refine G.op1 (op_lss (Ev.t 8 (bI .i64 v3)) (Ev.t 7 (bI .i64 (s_0.length : Int))) rfl) rfl ⟨rfl, rfl, trivial⟩ trivial ?_
  refine G.endOps ?_
  refine G.seq ?_
  refine ifS hF (fun hc7 hF => ?_) (fun hc7 hF => ?_)
  · refine G.cond rfl (fun _ => ?_) (fun hx => by rw [hc7] at hx; cases hx)
    refine G.skip ?_
    refine G.seq ?_
    refine G.block ?_
    refine G.seq ?_
    refine G.region ?_
    refine G.op1 (op_move (Ev.t 8 (bI .i64 v3)) rfl) rfl ⟨rfl, trivial⟩ trivial ?_
    refine G.op1 (op_assign (Ev.t 10 (bI .i64 v3)) rfl) rfl ⟨rfl, trivial⟩ trivial ?_
    refine G.endOps ?_
    refine G.seq ?_
    refine G.region ?_
    refine G.op1 (op_move (Ev.t 1 (.sem (sem1 (fun x => .d (vI x)) (fun y => .bool y) f_1))) rfl) rfl ⟨rfl, trivial⟩ trivial ?_
    refine G.op1 (op_move (Ev.t 0 (.g (.d (.sl 1 (List.map encI_i64 s_0))))) rfl) rfl ⟨rfl, trivial⟩ trivial ?_
    refine G.op1 (op_move (Ev.t 5 (bI .i64 v3)) rfl) rfl ⟨rfl, trivial⟩ trivial ?_
    obtain ⟨x8, hx8, hF⟩ := bindS hF
    refine G.op1 (op_index (cs := [vI x8]) Try.underlying22 ti3 (idx_ok hx8).1 (idx_get hx8 encI_i64) (Ev.t 12 (.g (.d (.sl 1 (List.map encI_i64 s_0))))) (Ev.t 13 (bI .i64 v3)) rfl) rfl ⟨rfl, rfl, trivial⟩ trivial ?_
    refine G.op1 (op_load1E (c := vI x8) Try.underlying3 rfl rfl (Ev.t 14 (.ep [vI x8])) rfl) rfl ⟨rfl, trivial⟩ trivial ?_
    obtain ⟨r9, hr9, hF⟩ := bindS hF
    refine G.op1 (op_callSem (t := 11) (v := .bool r9) (Φ := sem1 (fun x => .d (vI x)) (fun y => .bool y) f_1) ⟨x8, r9, rfl, hr9, rfl⟩ rfl (EvL.cons (Ev.t 15 (bI .i64 x8)) EvL.nil) rfl) rfl ⟨rfl, rfl, trivial⟩ trivial ?_
    refine G.endOps ?_
    refine ifS hF (fun hc10 hF => ?_) (fun hc10 hF => ?_)
    · refine G.cond rfl (fun _ => ?_) (fun hx => by rw [hc10] at hx; cases hx)
      refine G.seq ?_
      refine G.region ?_
      refine G.op1 (op_move (Ev.t 5 (bI .i64 v3)) rfl) rfl ⟨rfl, trivial⟩ trivial ?_
      refine G.op1 (op_assign (Ev.t 17 (bI .i64 v3)) rfl) rfl ⟨rfl, trivial⟩ trivial ?_
      refine G.endOps ?_
      cases hF
      exact G.ret1 Try.results56 (RVar.tmp 4 _) ⟨rfl, trivial⟩ trivial
    · refine G.cond rfl (fun hx => by rw [hc10] at hx; cases hx) (fun _ => ?_)
      refine G.skip ?_
      refine G.endBlock ?_
      refine G.region ?_
      refine G.op1 (op_add (Ev.t 8 (bI .i64 v3)) (Ev.c _ rfl) rfl) rfl ⟨rfl, trivial⟩ trivial ?_
      refine G.op1 (op_move (Ev.t 18 (bI .i64 (IntKind.wrap .i64 (v3 + 1)))) rfl) rfl ⟨rfl, trivial⟩ trivial ?_
      refine G.endOps ?_
      exact G.arr (J4 (IntKind.wrap .i64 (v3 + 1)) hF) ⟨rfl, rfl, rfl, rfl, trivial⟩ trivial rfl
  · refine G.cond rfl (fun hx => by rw [hc7] at hx; cases hx) (fun _ => ?_)
    refine G.exit ?_
    refine GX.c ?_
    refine GX.q ?_
    refine GX.bYes ?_
    exact G.arr (J2 () hF) trivial trivial rfl


set_option maxRecDepth 20000 in
set_option maxHeartbeats 2000000 in
theorem ct_slices_ContainsFunc_int (s_0 : (List Int)) (f_1 : (Int → Option Bool)) (r : Bool) (hF : slices_ContainsFunc_int s_0 f_1 = some r) : Ct Try.prog 45 [.g (.d (.sl 1 (List.map encI_i64 s_0))), .sem (sem1 (fun x => .d (vI x)) (fun y => .bool y) f_1)] (.one (.d (vB r))) := by
  unfold slices_ContainsFunc_int at hF
  refine Ct.intro Try.func45 rfl Try.ntmps45 rfl rfl fun M w => ?_
  refine G.seq ?_
  refine G.region ?_
  refine G.op1 (op_assign (Ev.c _ rfl) rfl) rfl trivial trivial ?_
  refine G.endOps ?_
  refine G.seq ?_
  refine G.region ?_
  refine G.op1 (op_move (Ev.t 0 (.g (.d (.sl 1 (List.map encI_i64 s_0))))) rfl) rfl ⟨rfl, trivial⟩ trivial ?_
  refine G.op1 (op_move (Ev.t 1 (.sem (sem1 (fun x => .d (vI x)) (fun y => .bool y) f_1))) rfl) rfl ⟨rfl, trivial⟩ trivial ?_
  obtain ⟨r1, hr1, hF⟩ := bindS hF
  refine G.op1 (op_callQ (sv := oI r1) cf56 (ct_slices_IndexFunc_int s_0 f_1 r1 hr1) rfl rfl (EvQL.cons (EvQ.g (Ev.t 5 (.g (.d (.sl 1 (List.map encI_i64 s_0)))))) (EvQL.cons (EvQ.sem (Ev.t 6 (.sem (sem1 (fun x => .d (vI x)) (fun y => .bool y) f_1)))) EvQL.nil)) rfl) rfl ⟨rfl, rfl, trivial⟩ trivial ?_
  refine G.op1 (op_geq (Ev.t 7 (bI .i64 r1)) (Ev.c _ rfl) rfl) rfl ⟨rfl, trivial⟩ trivial ?_
  refine G.op1 (op_assign (Ev.t 8 (bB (decide (0 ≤ r1)))) rfl) rfl ⟨rfl, trivial⟩ trivial ?_
  refine G.endOps ?_
  cases hF
  exact G.ret1 Try.results45 (RVar.tmp 4 _) ⟨rfl, trivial⟩ trivial


set_option maxRecDepth 20000 in
set_option maxHeartbeats 2000000 in
theorem ct_wire_written (c_0 : Api_Row) (r : Bool) (hF : wire_written c_0 = some r) : Ct Try.prog 21 [.g (.agg (encApi_Row c_0))] (.one (.d (vB r))) := by
  unfold wire_written at hF
  refine Ct.intro Try.func21 rfl Try.ntmps21 rfl rfl fun M w => ?_
  refine G.seq ?_
  refine G.region ?_
  refine G.op2 (op_boxA (k := 1001) (Ev.t 0 (.g (.agg [.sl 2 (List.map encApi_Range c_0.Ranges), .sl 1 (List.map encI_i64 c_0.Owners), .sl 1 (List.map encI_i64 c_0.Parents)]))) rfl) rfl ⟨rfl, trivial⟩ ⟨rfl, trivial⟩ ?_
  refine G.op1 (op_assign (Ev.c _ rfl) rfl) rfl trivial trivial ?_
  refine G.endOps ?_
  refine G.seq ?_
  refine G.region ?_
  refine G.op1 (op_fieldP (off' := 2) Try.underlying31 rfl ti22 (by decide) rfl (Ev.t 1 (.ptr 1001 0)) rfl) rfl ⟨rfl, trivial⟩ trivial ?_
  refine G.op1 (op_load1P (c := .g (.d (.sl 1 (List.map encI_i64 c_0.Parents)))) Try.underlying22 rfl rfl (Ev.t 6 (.ptr 1001 2)) rfl) rfl ⟨rfl, trivial⟩ ⟨rfl, trivial⟩ ?_
  refine G.op1 (OpL.cast (op_lenD Try.underlying22 (Ev.t 7 (.g (.d (.sl 1 (List.map encI_i64 c_0.Parents))))) rfl) (by rw [List.length_map])) rfl ⟨rfl, trivial⟩ trivial ?_
  refine G.op2 (op_alloc (k := 1003) (cs := [bI .i64 0]) ti3 ⟨.v _ rfl, trivial⟩ rfl) rfl trivial ⟨rfl, trivial⟩ ?_
  refine G.op3 (op_store1 (cs' := [bI .i64 (c_0.Parents.length : Int)]) (c := bI .i64 (c_0.Parents.length : Int)) trivial ti3 rfl rfl (Ev.t 3 (.ptr 1003 0)) (Ev.t 8 (bI .i64 (c_0.Parents.length : Int)))) rfl ⟨rfl, rfl, trivial⟩ ⟨rfl, trivial⟩ ?_
  refine G.endOps ?_
  refine G.seq ?_
  refine G.seq ?_
  refine G.joinC (T := Bool) (fun y1 => ⟨[(1, .one (.ptr 1001 0)), (3, .one (.ptr 1003 0)), (35, oB y1)], [(1001, some (.blk 31 [.g (.d (.sl 2 (List.map encApi_Range c_0.Ranges))), .g (.d (.sl 1 (List.map encI_i64 c_0.Owners))), .g (.d (.sl 1 (List.map encI_i64 c_0.Parents)))])), (1003, some (.blk 3 [bI .i64 (c_0.Parents.length : Int)]))]⟩) (fun y1 => wire_written_k1 c_0 y1 = some r) (fun y1 hF => ?_) (fun J6 => ?_)
  · unfold wire_written_k1 at hF
    refine ifS hF (fun hc2 hF => ?_) (fun hc2 hF => ?_)
    · refine G.cond rfl (fun _ => ?_) (fun hx => by rw [hc2] at hx; cases hx)
      refine G.seq ?_
      refine G.region ?_
      refine G.op1 (op_assign (Ev.c _ rfl) rfl) rfl trivial trivial ?_
      refine G.endOps ?_
      cases hF
      exact G.ret1 Try.results21 (RVar.tmp 2 _) ⟨rfl, trivial⟩ trivial
    · refine G.cond rfl (fun hx => by rw [hc2] at hx; cases hx) (fun _ => ?_)
      refine G.skip ?_
      refine G.seq ?_
      refine G.region ?_
      refine G.op1 (op_assign (Ev.f 43) rfl) rfl trivial trivial ?_
      refine G.endOps ?_
      refine G.seq ?_
      refine G.region ?_
      refine G.op1 (op_makeFunc1 (Ev.t 3 (.ptr 1003 0)) rfl) rfl ⟨rfl, trivial⟩ trivial ?_
      refine G.op1 (op_assign (Ev.t 36 (.clo 44 [1003])) rfl) rfl ⟨rfl, trivial⟩ trivial ?_
      refine G.endOps ?_
      refine G.seq ?_
      refine G.region ?_
      refine G.op1 (op_fieldP (off' := 2) Try.underlying31 rfl ti22 (by decide) rfl (Ev.t 1 (.ptr 1001 0)) rfl) rfl ⟨rfl, trivial⟩ trivial ?_
      refine G.op1 (op_load1P (c := .g (.d (.sl 1 (List.map encI_i64 c_0.Parents)))) Try.underlying22 rfl rfl (Ev.t 37 (.ptr 1001 2)) rfl) rfl ⟨rfl, trivial⟩ ⟨rfl, trivial⟩ ?_
      refine G.op1 (op_move (Ev.t 4 (.clo 43 [])) rfl) rfl ⟨rfl, trivial⟩ trivial ?_
      obtain ⟨r3, hr3, hF⟩ := bindS hF
      refine G.op1 (op_callQ (sv := oB r3) cf45 (ct_slices_ContainsFunc_int c_0.Parents (fun x0 => wire_written_1 x0) r3 hr3) rfl rfl (EvQL.cons (EvQ.g (Ev.t 38 (.g (.d (.sl 1 (List.map encI_i64 c_0.Parents)))))) (EvQL.cons (EvQ.clo (Φ := sem1 (fun x => .d (vI x)) (fun y => .bool y) (fun x0 => wire_written_1 x0)) (Ev.t 39 (.clo 43 [])) EvC.nil cf43 (fun args v ⟨x0, b, h1, h2, h3⟩ => by subst h1 h3; exact ct_wire_written_1 x0 b h2)) EvQL.nil)) rfl) rfl ⟨rfl, rfl, trivial⟩ trivial ?_
      refine G.op1 (op_not (Ev.t 40 (bB r3)) rfl) rfl ⟨rfl, trivial⟩ trivial ?_
      refine G.op1 (op_move (Ev.t 41 (bB (!r3))) rfl) rfl ⟨rfl, trivial⟩ trivial ?_
      refine ifS hF (fun hc4 hF => ?_) (fun hc4 hF => ?_)
      · refine G.known (t := 42) hc4 rfl ?_
        refine G.opG1 (op_fieldP (off' := 1) Try.underlying31 rfl ti22 (by decide) rfl (Ev.t 1 (.ptr 1001 0)) rfl) rfl rfl rfl ⟨rfl, trivial⟩ trivial ?_
        refine G.opG1 (op_load1P (c := .g (.d (.sl 1 (List.map encI_i64 c_0.Owners)))) Try.underlying22 rfl rfl (Ev.t 43 (.ptr 1001 1)) rfl) rfl rfl rfl ⟨rfl, trivial⟩ ⟨rfl, trivial⟩ ?_
        refine G.opG1 (op_move (Ev.t 5 (.clo 44 [1003])) rfl) rfl rfl rfl ⟨rfl, trivial⟩ trivial ?_
        obtain ⟨r5, hr5, hF⟩ := bindS hF
        refine G.opG1 (op_callQ (sv := oB r5) cf45 (ct_slices_ContainsFunc_int c_0.Owners (fun x0 => wire_written_2 x0 (c_0.Parents.length : Int)) r5 hr5) rfl rfl (EvQL.cons (EvQ.g (Ev.t 44 (.g (.d (.sl 1 (List.map encI_i64 c_0.Owners)))))) (EvQL.cons (EvQ.clo (Φ := sem1 (fun x => .d (vI x)) (fun y => .bool y) (fun x0 => wire_written_2 x0 (c_0.Parents.length : Int))) (Ev.t 45 (.clo 44 [1003])) (EvC.cons rfl EvC.nil) cf44 (fun args v ⟨x0, b, h1, h2, h3⟩ => by subst h1 h3; exact ct_wire_written_2 x0 (c_0.Parents.length : Int) b h2)) EvQL.nil)) rfl) rfl rfl rfl ⟨rfl, rfl, trivial⟩ ⟨rfl, trivial⟩ ?_
        refine G.opG1 (op_not (Ev.t 46 (bB r5)) rfl) rfl rfl rfl ⟨rfl, trivial⟩ trivial ?_
        refine G.op1 (op_pickT (Ev.t 42 (bB true)) (Ev.t 47 (bB (!r5))) rfl) rfl ⟨rfl, rfl, trivial⟩ trivial ?_
        refine G.op1 (op_assign (Ev.t 48 (bB (!r5))) rfl) rfl ⟨rfl, trivial⟩ trivial ?_
        refine G.endOps ?_
        cases hF
        exact G.ret1 Try.results21 (RVar.tmp 2 _) ⟨rfl, trivial⟩ trivial
      · refine G.known (t := 42) hc4 rfl ?_
        refine G.opN1 rfl rfl rfl rfl rfl ?_
        refine G.opN1 rfl rfl rfl rfl rfl ?_
        refine G.opN1 rfl rfl rfl rfl rfl ?_
        refine G.opN1 rfl rfl rfl rfl rfl ?_
        refine G.opN1 rfl rfl rfl rfl rfl ?_
        refine G.op1 (op_pickF (Ev.t 42 (bB false)) (Ev.c _ rfl) rfl) rfl ⟨rfl, trivial⟩ trivial ?_
        refine G.op1 (op_assign (Ev.t 48 (bB false)) rfl) rfl ⟨rfl, trivial⟩ trivial ?_
        refine G.endOps ?_
        cases hF
        exact G.ret1 Try.results21 (RVar.tmp 2 _) ⟨rfl, trivial⟩ trivial
  refine G.region ?_
  refine G.op1 (op_load1P (c := bI .i64 (c_0.Parents.length : Int)) Try.underlying3 rfl rfl (Ev.t 3 (.ptr 1003 0)) rfl) rfl ⟨rfl, trivial⟩ ⟨rfl, trivial⟩ ?_
  refine G.op1 (op_lss (Ev.t 9 (bI .i64 (c_0.Parents.length : Int))) (Ev.c _ rfl) rfl) rfl ⟨rfl, trivial⟩ trivial ?_
  refine G.op1 (op_move (Ev.t 10 (bB (decide ((c_0.Parents.length : Int) < 1)))) rfl) rfl ⟨rfl, trivial⟩ trivial ?_
  refine G.joinL (T := Bool) 3 (fun y7 => ⟨[(1, .one (.ptr 1001 0)), (3, .one (.ptr 1003 0)), (14, oB y7)], [(1001, some (.blk 31 [.g (.d (.sl 2 (List.map encApi_Range c_0.Ranges))), .g (.d (.sl 1 (List.map encI_i64 c_0.Owners))), .g (.d (.sl 1 (List.map encI_i64 c_0.Parents)))])), (1003, some (.blk 3 [bI .i64 (c_0.Parents.length : Int)]))]⟩) (fun y7 => wire_written_k2 c_0 y7 = some r) (fun y7 hF => ?_) (fun J16 => ?_)
  · unfold wire_written_k2 at hF
    refine G.op1 (op_move (Ev.t 14 (bB y7)) rfl) rfl ⟨rfl, trivial⟩ trivial ?_
    refine G.joinL (T := Bool) 5 (fun y8 => ⟨[(1, .one (.ptr 1001 0)), (3, .one (.ptr 1003 0)), (20, oB y8)], [(1001, some (.blk 31 [.g (.d (.sl 2 (List.map encApi_Range c_0.Ranges))), .g (.d (.sl 1 (List.map encI_i64 c_0.Owners))), .g (.d (.sl 1 (List.map encI_i64 c_0.Parents)))])), (1003, some (.blk 3 [bI .i64 (c_0.Parents.length : Int)]))]⟩) (fun y8 => wire_written_k3 c_0 y8 = some r) (fun y8 hF => ?_) (fun J14 => ?_)
    · unfold wire_written_k3 at hF
      refine G.op1 (op_move (Ev.t 20 (bB y8)) rfl) rfl ⟨rfl, trivial⟩ trivial ?_
      refine G.joinL (T := Bool) 8 (fun y9 => ⟨[(1, .one (.ptr 1001 0)), (3, .one (.ptr 1003 0)), (29, oB y9)], [(1001, some (.blk 31 [.g (.d (.sl 2 (List.map encApi_Range c_0.Ranges))), .g (.d (.sl 1 (List.map encI_i64 c_0.Owners))), .g (.d (.sl 1 (List.map encI_i64 c_0.Parents)))])), (1003, some (.blk 3 [bI .i64 (c_0.Parents.length : Int)]))]⟩) (fun y9 => wire_written_k4 c_0 y9 = some r) (fun y9 hF => ?_) (fun J12 => ?_)
      · unfold wire_written_k4 at hF
        refine G.op1 (op_move (Ev.t 29 (bB y9)) rfl) rfl ⟨rfl, trivial⟩ trivial ?_
        refine ifS hF (fun hc10 hF => ?_) (fun hc10 hF => ?_)
        · refine G.known (t := 30) hc10 rfl ?_
          refine G.opN1 rfl rfl rfl rfl rfl ?_
          refine G.opN1 rfl rfl rfl rfl rfl ?_
          refine G.opN1 rfl rfl rfl rfl rfl ?_
          refine G.opN1 rfl rfl rfl rfl rfl ?_
          refine G.op1 (op_pickT (Ev.t 30 (bB true)) (Ev.c _ rfl) rfl) rfl ⟨rfl, trivial⟩ trivial ?_
          refine G.endOps ?_
          exact G.arr (J6 true hF) ⟨rfl, rfl, rfl, trivial⟩ ⟨rfl, rfl, trivial⟩ rfl
        · refine G.known (t := 30) hc10 rfl ?_
          refine G.opG1 (op_fieldP (off' := 0) Try.underlying31 rfl ti29 (by decide) rfl (Ev.t 1 (.ptr 1001 0)) rfl) rfl rfl rfl ⟨rfl, trivial⟩ trivial ?_
          refine G.opG1 (op_load1P (c := .g (.d (.sl 2 (List.map encApi_Range c_0.Ranges)))) Try.underlying29 rfl rfl (Ev.t 31 (.ptr 1001 0)) rfl) rfl rfl rfl ⟨rfl, trivial⟩ ⟨rfl, trivial⟩ ?_
          obtain ⟨r11, hr11, hF⟩ := bindS hF
          refine G.opG1 (op_callQ (sv := oB r11) cf42 (ct_keys_Whole c_0.Ranges r11 hr11) rfl rfl (EvQL.cons (EvQ.g (Ev.t 32 (.g (.d (.sl 2 (List.map encApi_Range c_0.Ranges)))))) EvQL.nil) rfl) rfl rfl rfl ⟨rfl, trivial⟩ trivial ?_
          refine G.opG1 (op_not (Ev.t 33 (bB r11)) rfl) rfl rfl rfl ⟨rfl, trivial⟩ trivial ?_
          refine G.op1 (op_pickF (Ev.t 30 (bB false)) (Ev.t 34 (bB (!r11))) rfl) rfl ⟨rfl, rfl, trivial⟩ trivial ?_
          refine G.endOps ?_
          exact G.arr (J6 (!r11) hF) ⟨rfl, rfl, rfl, trivial⟩ ⟨rfl, rfl, trivial⟩ rfl
      refine ifS hF (fun hc13 hF => ?_) (fun hc13 hF => ?_)
      · refine G.known (t := 21) hc13 rfl ?_
        refine G.opN1 rfl rfl rfl rfl rfl ?_
        refine G.opN1 rfl rfl rfl rfl rfl ?_
        refine G.opN1 rfl rfl rfl rfl rfl ?_
        refine G.opN1 rfl rfl rfl rfl rfl ?_
        refine G.opN1 rfl rfl rfl rfl rfl ?_
        refine G.opN1 rfl rfl rfl rfl rfl ?_
        refine G.opN1 rfl rfl rfl rfl rfl ?_
        refine G.op1 (op_pickT (Ev.t 21 (bB true)) (Ev.c _ rfl) rfl) rfl ⟨rfl, trivial⟩ trivial ?_
        exact G.arr (J12 true hF) ⟨rfl, rfl, rfl, trivial⟩ ⟨rfl, rfl, trivial⟩ rfl
      · refine G.known (t := 21) hc13 rfl ?_
        refine G.opG1 (op_fieldP (off' := 1) Try.underlying31 rfl ti22 (by decide) rfl (Ev.t 1 (.ptr 1001 0)) rfl) rfl rfl rfl ⟨rfl, trivial⟩ trivial ?_
        refine G.opG1 (op_load1P (c := .g (.d (.sl 1 (List.map encI_i64 c_0.Owners)))) Try.underlying22 rfl rfl (Ev.t 22 (.ptr 1001 1)) rfl) rfl rfl rfl ⟨rfl, trivial⟩ ⟨rfl, trivial⟩ ?_
        refine G.opG1 (OpL.cast (op_lenD Try.underlying22 (Ev.t 23 (.g (.d (.sl 1 (List.map encI_i64 c_0.Owners))))) rfl) (by rw [List.length_map])) rfl rfl rfl ⟨rfl, trivial⟩ trivial ?_
        refine G.opG1 (op_fieldP (off' := 0) Try.underlying31 rfl ti29 (by decide) rfl (Ev.t 1 (.ptr 1001 0)) rfl) rfl rfl rfl ⟨rfl, trivial⟩ trivial ?_
        refine G.opG1 (op_load1P (c := .g (.d (.sl 2 (List.map encApi_Range c_0.Ranges)))) Try.underlying29 rfl rfl (Ev.t 25 (.ptr 1001 0)) rfl) rfl rfl rfl ⟨rfl, trivial⟩ ⟨rfl, trivial⟩ ?_
        refine G.opG1 (OpL.cast (op_lenD Try.underlying29 (Ev.t 26 (.g (.d (.sl 2 (List.map encApi_Range c_0.Ranges))))) rfl) (by rw [List.length_map])) rfl rfl rfl ⟨rfl, trivial⟩ trivial ?_
        refine G.opG1 (op_neI (Ev.t 24 (bI .i64 (c_0.Owners.length : Int))) (Ev.t 27 (bI .i64 (c_0.Ranges.length : Int))) rfl) rfl rfl rfl ⟨rfl, rfl, trivial⟩ trivial ?_
        refine G.op1 (op_pickF (Ev.t 21 (bB false)) (Ev.t 28 (bB (!decide ((c_0.Owners.length : Int) = (c_0.Ranges.length : Int))))) rfl) rfl ⟨rfl, rfl, trivial⟩ trivial ?_
        exact G.arr (J12 (!decide ((c_0.Owners.length : Int) = (c_0.Ranges.length : Int))) hF) ⟨rfl, rfl, rfl, trivial⟩ ⟨rfl, rfl, trivial⟩ rfl
    refine ifS hF (fun hc15 hF => ?_) (fun hc15 hF => ?_)
    · refine G.known (t := 15) hc15 rfl ?_
      refine G.opN1 rfl rfl rfl rfl rfl ?_
      refine G.opN1 rfl rfl rfl rfl rfl ?_
      refine G.opN1 rfl rfl rfl rfl rfl ?_
      refine G.opN1 rfl rfl rfl rfl rfl ?_
      refine G.op1 (op_pickT (Ev.t 15 (bB true)) (Ev.c _ rfl) rfl) rfl ⟨rfl, trivial⟩ trivial ?_
      exact G.arr (J14 true hF) ⟨rfl, rfl, rfl, trivial⟩ ⟨rfl, rfl, trivial⟩ rfl
    · refine G.known (t := 15) hc15 rfl ?_
      refine G.opG1 (op_fieldP (off' := 0) Try.underlying31 rfl ti29 (by decide) rfl (Ev.t 1 (.ptr 1001 0)) rfl) rfl rfl rfl ⟨rfl, trivial⟩ trivial ?_
      refine G.opG1 (op_load1P (c := .g (.d (.sl 2 (List.map encApi_Range c_0.Ranges)))) Try.underlying29 rfl rfl (Ev.t 16 (.ptr 1001 0)) rfl) rfl rfl rfl ⟨rfl, trivial⟩ ⟨rfl, trivial⟩ ?_
      refine G.opG1 (OpL.cast (op_lenD Try.underlying29 (Ev.t 17 (.g (.d (.sl 2 (List.map encApi_Range c_0.Ranges))))) rfl) (by rw [List.length_map])) rfl rfl rfl ⟨rfl, trivial⟩ trivial ?_
      refine G.opG1 (op_gtr (Ev.t 18 (bI .i64 (c_0.Ranges.length : Int))) (Ev.c _ rfl) rfl) rfl rfl rfl ⟨rfl, trivial⟩ trivial ?_
      refine G.op1 (op_pickF (Ev.t 15 (bB false)) (Ev.t 19 (bB (decide (8 < (c_0.Ranges.length : Int))))) rfl) rfl ⟨rfl, rfl, trivial⟩ trivial ?_
      exact G.arr (J14 (decide (8 < (c_0.Ranges.length : Int))) hF) ⟨rfl, rfl, rfl, trivial⟩ ⟨rfl, rfl, trivial⟩ rfl
  refine ifS hF (fun hc17 hF => ?_) (fun hc17 hF => ?_)
  · refine G.known (t := 11) hc17 rfl ?_
    refine G.opN1 rfl rfl rfl rfl rfl ?_
    refine G.opN1 rfl rfl rfl rfl rfl ?_
    refine G.op1 (op_pickT (Ev.t 11 (bB true)) (Ev.c _ rfl) rfl) rfl ⟨rfl, trivial⟩ trivial ?_
    exact G.arr (J16 true hF) ⟨rfl, rfl, rfl, trivial⟩ ⟨rfl, rfl, trivial⟩ rfl
  · refine G.known (t := 11) hc17 rfl ?_
    refine G.opG1 (op_load1P (c := bI .i64 (c_0.Parents.length : Int)) Try.underlying3 rfl rfl (Ev.t 3 (.ptr 1003 0)) rfl) rfl rfl rfl ⟨rfl, trivial⟩ ⟨rfl, trivial⟩ ?_
    refine G.opG1 (op_gtr (Ev.t 12 (bI .i64 (c_0.Parents.length : Int))) (Ev.c _ rfl) rfl) rfl rfl rfl ⟨rfl, trivial⟩ trivial ?_
    refine G.op1 (op_pickF (Ev.t 11 (bB false)) (Ev.t 13 (bB (decide (6 < (c_0.Parents.length : Int))))) rfl) rfl ⟨rfl, rfl, trivial⟩ trivial ?_
    exact G.arr (J16 (decide (6 < (c_0.Parents.length : Int))) hF) ⟨rfl, rfl, rfl, trivial⟩ ⟨rfl, rfl, trivial⟩ rfl


set_option maxRecDepth 20000 in
set_option maxHeartbeats 2000000 in
theorem ct_wire_ReadRow (s_0 : ByteArray) (r : (Api_Row × Bool)) (hF : wire_ReadRow s_0 = some r) : Ct Try.prog 8 [.g (.d (vS s_0))] (.tup [.agg (encApi_Row r.1), .d (vB r.2)]) := by
  unfold wire_ReadRow at hF
  refine Ct.intro Try.func8 rfl Try.ntmps8 rfl rfl fun M w => ?_
  refine G.seq ?_
  refine G.region ?_
  refine G.op2 (op_alloc (k := 1002) (cs := [.g (.d (.sl 2 (List.map encApi_Range ([] : (List Api_Range))))), .g (.d (.sl 1 (List.map encI_i64 ([] : (List Int))))), .g (.d (.sl 1 (List.map encI_i64 ([] : (List Int)))))]) ti31 ⟨.n 2, .n 1, .n 1, trivial⟩ rfl) rfl trivial ⟨rfl, trivial⟩ ?_
  refine G.op1 (op_assign (Ev.c _ rfl) rfl) rfl trivial trivial ?_
  refine G.endOps ?_
  refine G.seq ?_
  refine G.region ?_
  refine G.op1 (op_move (Ev.t 0 (bS s_0)) rfl) rfl ⟨rfl, trivial⟩ trivial ?_
  refine G.op1 (op_build (zs := [vS ByteArray.empty, vI 0, vB false]) (ds := [vS s_0, vI 0, vB false]) Try.underlying53 ti53 (pl53 _ Try.underlying53) ⟨.v _ rfl, .v _ rfl, .v _ rfl, trivial⟩ (EvP.cons (Ev.t 10 (bS s_0)) EvP.nil) rfl rfl) rfl ⟨rfl, trivial⟩ trivial ?_
  refine G.op2 (op_boxA (k := 1012) (Ev.t 11 (.g (.agg [vS s_0, vI 0, vB false]))) rfl) rfl ⟨rfl, trivial⟩ ⟨rfl, trivial⟩ ?_
  refine G.op1 (op_assign (Ev.t 12 (.ptr 1012 0)) rfl) rfl ⟨rfl, trivial⟩ trivial ?_
  refine G.endOps ?_
  refine G.seq ?_
  refine G.region ?_
  refine G.op1 (op_move (Ev.t 4 (.ptr 1012 0)) rfl) rfl ⟨rfl, trivial⟩ trivial ?_
  obtain ⟨r1, hr1, hF⟩ := bindS hF
  refine G.opM (op_callM (k := 1012) (h := .dat 53 (encWire_reader (Wire_reader.mk s_0 0 false))) (h' := .dat 53 (encWire_reader r1.1)) 0 (sv := oI r1.2) cf17 (ct_wire_reader_number (Wire_reader.mk s_0 0 false) 8 r1 hr1) rfl rfl (EvM.pt (Ev.t 13 (.ptr 1012 0)) (EvM.g (Ev.c _ rfl) EvM.nil)) rfl) rfl ⟨rfl, trivial⟩ ⟨rfl, trivial⟩ ?_
  refine G.op1 (op_assign (Ev.t 14 (bI .i64 r1.2)) rfl) rfl ⟨rfl, trivial⟩ trivial ?_
  refine G.endOps ?_
  refine G.seq ?_
  refine G.seq ?_
  refine G.joinC (T := Bool) (fun y2 => ⟨[(2, .one (.ptr 1002 0)), (4, .one (.ptr 1012 0)), (5, oI r1.2), (22, oB y2)], [(1002, some (.blk 31 [.g (.d (.sl 2 (List.map encApi_Range ([] : (List Api_Range))))), .g (.d (.sl 1 (List.map encI_i64 ([] : (List Int))))), .g (.d (.sl 1 (List.map encI_i64 ([] : (List Int)))))])), (1012, some (.blk 53 [bS r1.1.s, bI .i64 r1.1.at_, bB r1.1.bad]))]⟩) (fun y2 => wire_ReadRow_k1 r1 y2 = some r) (fun y2 hF => ?_) (fun J38 => ?_)
  · unfold wire_ReadRow_k1 at hF
    refine ifS hF (fun hc3 hF => ?_) (fun hc3 hF => ?_)
    · refine G.cond rfl (fun _ => ?_) (fun hx => by rw [hc3] at hx; cases hx)
      refine G.seq ?_
      refine G.region ?_
      refine G.op1 (op_build (zs := [.sl 2 (List.map encApi_Range ([] : (List Api_Range))), .sl 1 (List.map encI_i64 ([] : (List Int))), .sl 1 (List.map encI_i64 ([] : (List Int)))]) (ds := [.sl 2 (List.map encApi_Range ([] : (List Api_Range))), .sl 1 (List.map encI_i64 ([] : (List Int))), .sl 1 (List.map encI_i64 ([] : (List Int)))]) Try.underlying31 ti31 (pl31 _ Try.underlying31) ⟨.n 2, .n 1, .n 1, trivial⟩ EvP.nil rfl rfl) rfl trivial trivial ?_
      refine G.op3 (op_storeA (cs' := [.g (.d (.sl 2 (List.map encApi_Range ([] : (List Api_Range))))), .g (.d (.sl 1 (List.map encI_i64 ([] : (List Int))))), .g (.d (.sl 1 (List.map encI_i64 ([] : (List Int)))))]) ti31 rfl rfl (Ev.t 2 (.ptr 1002 0)) (Ev.t 23 (.g (.agg [.sl 2 (List.map encApi_Range ([] : (List Api_Range))), .sl 1 (List.map encI_i64 ([] : (List Int))), .sl 1 (List.map encI_i64 ([] : (List Int)))])))) rfl ⟨rfl, rfl, trivial⟩ ⟨rfl, trivial⟩ ?_
      refine G.op1 (op_assign (Ev.c _ rfl) rfl) rfl trivial trivial ?_
      refine G.endOps ?_
      cases hF
      exact G.ret2 Try.results8 (RVar.cellA (ds := [.sl 2 (List.map encApi_Range ([] : (List Api_Range))), .sl 1 (List.map encI_i64 ([] : (List Int))), .sl 1 (List.map encI_i64 ([] : (List Int)))]) Try.underlying31 rfl ti31 rfl) (RVar.tmp 3 _) ⟨rfl, rfl, trivial⟩ ⟨rfl, trivial⟩
    · refine G.cond rfl (fun hx => by rw [hc3] at hx; cases hx) (fun _ => ?_)
      refine G.skip ?_
      refine G.seq ?_
      refine G.region ?_
      refine G.op2 (op_alloc (k := 1006) (cs := [.g (.d (.v (.slice none 0 0))), .g (.d (.sl 1 (List.map encI_i64 ([] : (List Int))))), .g (.d (.sl 1 (List.map encI_i64 ([] : (List Int)))))]) ti31 ⟨.v _ rfl, .n 1, .n 1, trivial⟩ rfl) rfl trivial ⟨rfl, trivial⟩ ?_
      refine G.rowCell (kb := 1006) (kk := 5096) (E := 37) (size := 2) (j := 0) (cs' := [.own 5096 (List.map encApi_Range ([] : List Api_Range)), .g (.d (.sl 1 (List.map encI_i64 ([] : (List Int))))), .g (.d (.sl 1 (List.map encI_i64 ([] : (List Int)))))]) rfl rfl rfl rfl rfl rfl ?_
      refine G.endOps ?_
      refine G.seq ?_
      refine G.region ?_
      refine G.op1 (op_assign (Ev.c _ rfl) rfl) rfl trivial trivial ?_
      refine G.endOps ?_
      refine G.seq ?_
      refine G.seq ?_
      refine G.region ?_
      refine G.op1 (op_move (Ev.t 5 (bI .i64 r1.2)) rfl) rfl ⟨rfl, trivial⟩ trivial ?_
      refine G.op1 (op_sub (Ev.t 24 (bI .i64 r1.2)) (Ev.c _ rfl) rfl) rfl ⟨rfl, trivial⟩ trivial ?_
      refine G.op1 (op_move (Ev.c _ rfl) rfl) rfl trivial trivial ?_
      refine G.endOps ?_
      refine G.joinC (T := ByteArray × ByteArray × Int × Bool × (List Api_Range)) (fun y4 => ⟨[(2, .one (.ptr 1002 0)), (4, .one (.ptr 1012 0)), (5, oI r1.2), (6, .one (.ptr 1006 0)), (7, oS y4.1)], [(1002, some (.blk 31 [.g (.d (.sl 2 (List.map encApi_Range ([] : (List Api_Range))))), .g (.d (.sl 1 (List.map encI_i64 ([] : (List Int))))), .g (.d (.sl 1 (List.map encI_i64 ([] : (List Int)))))])), (1006, some (.blk 31 [.own 5096 (List.map encApi_Range y4.2.2.2.2), .g (.d (.sl 1 (List.map encI_i64 ([] : (List Int))))), .g (.d (.sl 1 (List.map encI_i64 ([] : (List Int)))))])), (1012, some (.blk 53 [bS y4.2.1, bI .i64 y4.2.2.1, bB y4.2.2.2.1])), (5096, some (.row 37 2 (List.map encApi_Range y4.2.2.2.2) false))]⟩) (fun y4 => wire_ReadRow_k2 r1 y4 = some r) (fun y4 hF => ?_) (fun J26 => ?_)
      · unfold wire_ReadRow_k2 at hF
        refine G.seq ?_
        refine G.region ?_
        refine G.op1 (op_fieldP (off' := 0) Try.underlying31 rfl ti29 (by decide) rfl (Ev.t 6 (.ptr 1006 0)) rfl) rfl ⟨rfl, trivial⟩ trivial ?_
        refine G.op1 (op_load1P (c := .own 5096 (List.map encApi_Range y4.2.2.2.2)) Try.underlying29 rfl rfl (Ev.t 49 (.ptr 1006 0)) rfl) rfl ⟨rfl, trivial⟩ ⟨rfl, trivial⟩ ?_
        refine G.op1 (op_move (Ev.t 7 (bS y4.1)) rfl) rfl ⟨rfl, trivial⟩ trivial ?_
        refine G.op1 (op_build (zs := [vS ByteArray.empty, vS ByteArray.empty]) (ds := [vS y4.1, vS ByteArray.empty]) Try.underlying37 ti37 (pl37 _ Try.underlying37) ⟨.v _ rfl, .v _ rfl, trivial⟩ (EvP.cons (Ev.t 51 (bS y4.1)) EvP.nil) rfl rfl) rfl ⟨rfl, trivial⟩ trivial ?_
        refine G.op1 (op_buildSlice (es := List.map encApi_Range [(Api_Range.mk y4.1 ByteArray.empty)]) Try.underlying29 ti37 rfl rfl (EvP.cons (Ev.t 52 (.g (.agg [vS y4.1, vS ByteArray.empty]))) EvP.nil) rfl rfl (by simp [encApi_Range]) rfl) rfl ⟨rfl, trivial⟩ trivial ?_
        obtain ⟨l5, hl5, hF⟩ := bindS hF
        refine G.op2 (op_appendO Try.underlying29 ti37 rfl (app_map hl5 encApi_Range) (app_b1 hl5 encApi_Range) (app_b2 hl5 encApi_Range) (Ev.t 50 (.own 5096 (List.map encApi_Range y4.2.2.2.2))) (Ev.t 53 (.g (.d (.sl 2 (List.map encApi_Range ([(Api_Range.mk y4.1 ByteArray.empty)])))))) rfl) rfl ⟨rfl, rfl, trivial⟩ ⟨rfl, trivial⟩ ?_
        refine G.op1 (op_fieldP (off' := 0) Try.underlying31 rfl ti29 (by decide) rfl (Ev.t 6 (.ptr 1006 0)) rfl) rfl ⟨rfl, trivial⟩ trivial ?_
        refine G.op3 (op_storeO (cs' := [.own 5096 (List.map encApi_Range l5), .g (.d (.sl 1 (List.map encI_i64 ([] : (List Int))))), .g (.d (.sl 1 (List.map encI_i64 ([] : (List Int)))))]) ti29 rfl rfl rfl (Ev.t 55 (.ptr 1006 0)) (Ev.t 54 (.own 5096 (List.map encApi_Range l5)))) rfl ⟨rfl, rfl, trivial⟩ ⟨rfl, rfl, trivial⟩ ?_
        refine G.endOps ?_
        refine G.seq ?_
        refine G.region ?_
        refine G.op1 (op_move (Ev.t 5 (bI .i64 r1.2)) rfl) rfl ⟨rfl, trivial⟩ trivial ?_
        refine G.op1 (op_move (Ev.t 4 (.ptr 1012 0)) rfl) rfl ⟨rfl, trivial⟩ trivial ?_
        refine G.op1 (op_makeBm (Ev.t 57 (.ptr 1012 0)) rfl) rfl ⟨rfl, trivial⟩ trivial ?_
        obtain ⟨r6, hr6, hF⟩ := bindS hF
        refine G.opM (op_callB (kk := 4059) cf19 (ct_wire_many r1.2 63 (Wire_reader.mk y4.2.1 y4.2.2.1 y4.2.2.2.1) r6 hr6) (EvL.cons (Ev.t 56 (bI .i64 r1.2)) (EvL.cons (Ev.c _ rfl) EvL.nil)) (Ev.t 58 (.pv 1012 (bmV 17))) rfl rfl rfl) rfl ⟨rfl, rfl, trivial⟩ ⟨rfl, rfl, trivial⟩ ?_
        refine G.op1 (op_fieldP (off' := 1) Try.underlying31 rfl ti22 (by decide) rfl (Ev.t 6 (.ptr 1006 0)) rfl) rfl ⟨rfl, trivial⟩ trivial ?_
        refine G.op3 (op_storeO (cs' := [.own 5096 (List.map encApi_Range l5), .own 4059 (List.map encI_i64 r6.2), .g (.d (.sl 1 (List.map encI_i64 ([] : (List Int)))))]) ti22 rfl rfl rfl (Ev.t 60 (.ptr 1006 1)) (Ev.t 59 (.own 4059 (List.map encI_i64 r6.2)))) rfl ⟨rfl, rfl, trivial⟩ ⟨rfl, rfl, trivial⟩ ?_
        refine G.endOps ?_
        refine G.seq ?_
        refine G.seq ?_
        refine G.region ?_
        refine G.op1 (op_move (Ev.t 4 (.ptr 1012 0)) rfl) rfl ⟨rfl, trivial⟩ trivial ?_
        refine G.op1 (op_nilCheckP (Ev.t 61 (.ptr 1012 0)) rfl) rfl ⟨rfl, trivial⟩ trivial ?_
        refine G.op1 (op_fieldP (off' := 2) Try.underlying53 rfl ti4 (by decide) rfl (Ev.t 62 (.ptr 1012 0)) rfl) rfl ⟨rfl, trivial⟩ trivial ?_
        refine G.op1 (op_load1P (c := bB r6.1.bad) Try.underlying4 rfl rfl (Ev.t 63 (.ptr 1012 2)) rfl) rfl ⟨rfl, trivial⟩ ⟨rfl, trivial⟩ ?_
        refine G.endOps ?_
        refine ifS hF (fun hc7 hF => ?_) (fun hc7 hF => ?_)
        · refine G.cond rfl (fun _ => ?_) (fun hx => by rw [hc7] at hx; cases hx)
          refine G.seq ?_
          refine G.region ?_
          refine G.op1 (op_build (zs := [.sl 2 (List.map encApi_Range ([] : (List Api_Range))), .sl 1 (List.map encI_i64 ([] : (List Int))), .sl 1 (List.map encI_i64 ([] : (List Int)))]) (ds := [.sl 2 (List.map encApi_Range ([] : (List Api_Range))), .sl 1 (List.map encI_i64 ([] : (List Int))), .sl 1 (List.map encI_i64 ([] : (List Int)))]) Try.underlying31 ti31 (pl31 _ Try.underlying31) ⟨.n 2, .n 1, .n 1, trivial⟩ EvP.nil rfl rfl) rfl trivial trivial ?_
          refine G.op3 (op_storeA (cs' := [.g (.d (.sl 2 (List.map encApi_Range ([] : (List Api_Range))))), .g (.d (.sl 1 (List.map encI_i64 ([] : (List Int))))), .g (.d (.sl 1 (List.map encI_i64 ([] : (List Int)))))]) ti31 rfl rfl (Ev.t 2 (.ptr 1002 0)) (Ev.t 65 (.g (.agg [.sl 2 (List.map encApi_Range ([] : (List Api_Range))), .sl 1 (List.map encI_i64 ([] : (List Int))), .sl 1 (List.map encI_i64 ([] : (List Int)))])))) rfl ⟨rfl, rfl, trivial⟩ ⟨rfl, trivial⟩ ?_
          refine G.op1 (op_assign (Ev.c _ rfl) rfl) rfl trivial trivial ?_
          refine G.endOps ?_
          cases hF
          exact G.ret2 Try.results8 (RVar.cellA (ds := [.sl 2 (List.map encApi_Range ([] : (List Api_Range))), .sl 1 (List.map encI_i64 ([] : (List Int))), .sl 1 (List.map encI_i64 ([] : (List Int)))]) Try.underlying31 rfl ti31 rfl) (RVar.tmp 3 _) ⟨rfl, rfl, trivial⟩ ⟨rfl, trivial⟩
        · refine G.cond rfl (fun hx => by rw [hc7] at hx; cases hx) (fun _ => ?_)
          refine G.skip ?_
          refine G.seq ?_
          refine G.region ?_
          refine G.op1 (op_move (Ev.t 4 (.ptr 1012 0)) rfl) rfl ⟨rfl, trivial⟩ trivial ?_
          obtain ⟨r8, hr8, hF⟩ := bindS hF
          refine G.opM (op_callM (k := 1012) (h := .dat 53 (encWire_reader r6.1)) (h' := .dat 53 (encWire_reader r8.1)) 0 (sv := oI r8.2) cf17 (ct_wire_reader_number r6.1 6 r8 hr8) rfl rfl (EvM.pt (Ev.t 66 (.ptr 1012 0)) (EvM.g (Ev.c _ rfl) EvM.nil)) rfl) rfl ⟨rfl, trivial⟩ ⟨rfl, trivial⟩ ?_
          refine G.op1 (op_move (Ev.t 4 (.ptr 1012 0)) rfl) rfl ⟨rfl, trivial⟩ trivial ?_
          refine G.op1 (op_makeBm (Ev.t 68 (.ptr 1012 0)) rfl) rfl ⟨rfl, trivial⟩ trivial ?_
          obtain ⟨r9, hr9, hF⟩ := bindS hF
          refine G.opM (op_callB (kk := 4070) cf19 (ct_wire_many r8.2 6 r8.1 r9 hr9) (EvL.cons (Ev.t 67 (bI .i64 r8.2)) (EvL.cons (Ev.c _ rfl) EvL.nil)) (Ev.t 69 (.pv 1012 (bmV 17))) rfl rfl rfl) rfl ⟨rfl, rfl, trivial⟩ ⟨rfl, rfl, trivial⟩ ?_
          refine G.op1 (op_fieldP (off' := 2) Try.underlying31 rfl ti22 (by decide) rfl (Ev.t 6 (.ptr 1006 0)) rfl) rfl ⟨rfl, trivial⟩ trivial ?_
          refine G.op3 (op_storeO (cs' := [.own 5096 (List.map encApi_Range l5), .own 4059 (List.map encI_i64 r6.2), .own 4070 (List.map encI_i64 r9.2)]) ti22 rfl rfl rfl (Ev.t 71 (.ptr 1006 2)) (Ev.t 70 (.own 4070 (List.map encI_i64 r9.2)))) rfl ⟨rfl, rfl, trivial⟩ ⟨rfl, rfl, trivial⟩ ?_
          refine G.endOps ?_
          refine G.seq ?_
          refine G.seq ?_
          refine G.region ?_
          refine G.op1 (op_fieldP (off' := 2) Try.underlying31 rfl ti22 (by decide) rfl (Ev.t 6 (.ptr 1006 0)) rfl) rfl ⟨rfl, trivial⟩ trivial ?_
          refine G.op1 (op_load1P (c := .own 4070 (List.map encI_i64 r9.2)) Try.underlying22 rfl rfl (Ev.t 72 (.ptr 1006 2)) rfl) rfl ⟨rfl, trivial⟩ ⟨rfl, trivial⟩ ?_
          refine G.op1 (OpL.cast (op_lenO Try.underlying22 (Ev.t 73 (.own 4070 (List.map encI_i64 r9.2))) rfl) (by rw [List.length_map])) rfl ⟨rfl, trivial⟩ ⟨rfl, trivial⟩ ?_
          refine G.op1 (op_move (Ev.c _ rfl) rfl) rfl trivial trivial ?_
          refine G.endOps ?_
          refine G.joinC (T := (List Int)) (fun y10 => ⟨[(2, .one (.ptr 1002 0)), (4, .one (.ptr 1012 0)), (6, .one (.ptr 1006 0))], [(1002, some (.blk 31 [.g (.d (.sl 2 (List.map encApi_Range ([] : (List Api_Range))))), .g (.d (.sl 1 (List.map encI_i64 ([] : (List Int))))), .g (.d (.sl 1 (List.map encI_i64 ([] : (List Int)))))])), (1006, some (.blk 31 [.own 5096 (List.map encApi_Range l5), .own 4059 (List.map encI_i64 r6.2), .own 4070 (List.map encI_i64 y10)])), (1012, some (.blk 53 [bS r9.1.s, bI .i64 r9.1.at_, bB r9.1.bad])), (4059, some (.row 3 1 (List.map encI_i64 r6.2) true)), (4070, some (.row 3 1 (List.map encI_i64 y10) true)), (5096, some (.row 37 2 (List.map encApi_Range l5) false))]⟩) (fun y10 => wire_ReadRow_k3 l5 r6 r9 y10 = some r) (fun y10 hF => ?_) (fun J17 => ?_)
          · unfold wire_ReadRow_k3 at hF
            refine G.seq ?_
            refine G.seq ?_
            refine G.joinC (T := Bool × (List Api_Range) × (List Int) × (List Int)) (fun y11 => ⟨[(2, .one (.ptr 1002 0)), (6, .one (.ptr 1006 0)), (93, oB y11.1)], [(1002, some (.blk 31 [.g (.d (.sl 2 (List.map encApi_Range ([] : (List Api_Range))))), .g (.d (.sl 1 (List.map encI_i64 ([] : (List Int))))), .g (.d (.sl 1 (List.map encI_i64 ([] : (List Int)))))])), (1006, some (.blk 31 [.g (.d (.sl 2 (List.map encApi_Range y11.2.1))), .g (.d (.sl 1 (List.map encI_i64 y11.2.2.1))), .g (.d (.sl 1 (List.map encI_i64 y11.2.2.2)))]))]⟩) (fun y11 => wire_ReadRow_k4 y11 = some r) (fun y11 hF => ?_) (fun J13 => ?_)
            · unfold wire_ReadRow_k4 at hF
              refine ifS hF (fun hc12 hF => ?_) (fun hc12 hF => ?_)
              · refine G.cond rfl (fun _ => ?_) (fun hx => by rw [hc12] at hx; cases hx)
                refine G.seq ?_
                refine G.region ?_
                refine G.op1 (op_build (zs := [.sl 2 (List.map encApi_Range ([] : (List Api_Range))), .sl 1 (List.map encI_i64 ([] : (List Int))), .sl 1 (List.map encI_i64 ([] : (List Int)))]) (ds := [.sl 2 (List.map encApi_Range ([] : (List Api_Range))), .sl 1 (List.map encI_i64 ([] : (List Int))), .sl 1 (List.map encI_i64 ([] : (List Int)))]) Try.underlying31 ti31 (pl31 _ Try.underlying31) ⟨.n 2, .n 1, .n 1, trivial⟩ EvP.nil rfl rfl) rfl trivial trivial ?_
                refine G.op3 (op_storeA (cs' := [.g (.d (.sl 2 (List.map encApi_Range ([] : (List Api_Range))))), .g (.d (.sl 1 (List.map encI_i64 ([] : (List Int))))), .g (.d (.sl 1 (List.map encI_i64 ([] : (List Int)))))]) ti31 rfl rfl (Ev.t 2 (.ptr 1002 0)) (Ev.t 94 (.g (.agg [.sl 2 (List.map encApi_Range ([] : (List Api_Range))), .sl 1 (List.map encI_i64 ([] : (List Int))), .sl 1 (List.map encI_i64 ([] : (List Int)))])))) rfl ⟨rfl, rfl, trivial⟩ ⟨rfl, trivial⟩ ?_
                refine G.op1 (op_assign (Ev.c _ rfl) rfl) rfl trivial trivial ?_
                refine G.endOps ?_
                cases hF
                exact G.ret2 Try.results8 (RVar.cellA (ds := [.sl 2 (List.map encApi_Range ([] : (List Api_Range))), .sl 1 (List.map encI_i64 ([] : (List Int))), .sl 1 (List.map encI_i64 ([] : (List Int)))]) Try.underlying31 rfl ti31 rfl) (RVar.tmp 3 _) ⟨rfl, rfl, trivial⟩ ⟨rfl, trivial⟩
              · refine G.cond rfl (fun hx => by rw [hc12] at hx; cases hx) (fun _ => ?_)
                refine G.skip ?_
                refine G.seq ?_
                refine G.region ?_
                refine G.op1 (op_loadAP (ds := [.sl 2 (List.map encApi_Range y11.2.1), .sl 1 (List.map encI_i64 y11.2.2.1), .sl 1 (List.map encI_i64 y11.2.2.2)]) Try.underlying31 rfl ti31 rfl (Ev.t 6 (.ptr 1006 0)) rfl) rfl ⟨rfl, trivial⟩ ⟨rfl, trivial⟩ ?_
                refine G.op3 (op_storeA (cs' := [.g (.d (.sl 2 (List.map encApi_Range y11.2.1))), .g (.d (.sl 1 (List.map encI_i64 y11.2.2.1))), .g (.d (.sl 1 (List.map encI_i64 y11.2.2.2)))]) ti31 rfl rfl (Ev.t 2 (.ptr 1002 0)) (Ev.t 95 (.g (.agg [.sl 2 (List.map encApi_Range y11.2.1), .sl 1 (List.map encI_i64 y11.2.2.1), .sl 1 (List.map encI_i64 y11.2.2.2)])))) rfl ⟨rfl, rfl, trivial⟩ ⟨rfl, trivial⟩ ?_
                refine G.op1 (op_assign (Ev.c _ rfl) rfl) rfl trivial trivial ?_
                refine G.endOps ?_
                cases hF
                exact G.ret2 Try.results8 (RVar.cellA (ds := [.sl 2 (List.map encApi_Range y11.2.1), .sl 1 (List.map encI_i64 y11.2.2.1), .sl 1 (List.map encI_i64 y11.2.2.2)]) Try.underlying31 rfl ti31 rfl) (RVar.tmp 3 _) ⟨rfl, rfl, trivial⟩ ⟨rfl, trivial⟩
            refine G.region ?_
            refine G.op1 (op_move (Ev.t 4 (.ptr 1012 0)) rfl) rfl ⟨rfl, trivial⟩ trivial ?_
            obtain ⟨r14, hr14, hF⟩ := bindS hF
            refine G.opM (op_callM (k := 1012) (h := .dat 53 (encWire_reader r9.1)) (h' := .dat 53 (encWire_reader r14.1)) 0 (sv := oB r14.2) cf20 (ct_wire_reader_done r9.1 r14 hr14) rfl rfl (EvM.pt (Ev.t 86 (.ptr 1012 0)) EvM.nil) rfl) rfl ⟨rfl, trivial⟩ ⟨rfl, trivial⟩ ?_
            refine G.op1 (op_not (Ev.t 87 (bB r14.2)) rfl) rfl ⟨rfl, trivial⟩ trivial ?_
            refine G.op1 (op_move (Ev.t 88 (bB (!r14.2))) rfl) rfl ⟨rfl, trivial⟩ trivial ?_
            refine ifS hF (fun hc15 hF => ?_) (fun hc15 hF => ?_)
            · refine G.known (t := 89) hc15 rfl ?_
              refine G.opN1 rfl rfl rfl rfl rfl ?_
              refine G.opN1 rfl rfl rfl rfl rfl ?_
              refine G.opN1 rfl rfl rfl rfl rfl ?_
              refine G.op1 (op_pickT (Ev.t 89 (bB true)) (Ev.c _ rfl) rfl) rfl ⟨rfl, trivial⟩ trivial ?_
              refine G.endOps ?_
              refine G.viewCell (kb := 1006) (j := 0) (cs' := [.g (.d (.sl 2 (List.map encApi_Range l5))), .own 4059 (List.map encI_i64 r6.2), .own 4070 (List.map encI_i64 y10)]) rfl rfl rfl rfl ?_
              refine G.share (k' := 4059) rfl ?_
              refine G.viewCell (kb := 1006) (j := 1) (cs' := [.g (.d (.sl 2 (List.map encApi_Range l5))), .g (.d (.sl 1 (List.map encI_i64 r6.2))), .own 4070 (List.map encI_i64 y10)]) rfl rfl rfl rfl ?_
              refine G.share (k' := 4070) rfl ?_
              refine G.viewCell (kb := 1006) (j := 2) (cs' := [.g (.d (.sl 2 (List.map encApi_Range l5))), .g (.d (.sl 1 (List.map encI_i64 r6.2))), .g (.d (.sl 1 (List.map encI_i64 y10)))]) rfl rfl rfl rfl ?_
              exact G.arr (J13 (true, l5, r6.2, y10) hF) ⟨rfl, rfl, rfl, trivial⟩ ⟨rfl, rfl, trivial⟩ rfl
            · refine G.known (t := 89) hc15 rfl ?_
              refine G.viewCell (kb := 1006) (j := 0) (cs' := [.g (.d (.sl 2 (List.map encApi_Range l5))), .own 4059 (List.map encI_i64 r6.2), .own 4070 (List.map encI_i64 y10)]) rfl rfl rfl rfl ?_
              refine G.share (k' := 4059) rfl ?_
              refine G.viewCell (kb := 1006) (j := 1) (cs' := [.g (.d (.sl 2 (List.map encApi_Range l5))), .g (.d (.sl 1 (List.map encI_i64 r6.2))), .own 4070 (List.map encI_i64 y10)]) rfl rfl rfl rfl ?_
              refine G.share (k' := 4070) rfl ?_
              refine G.viewCell (kb := 1006) (j := 2) (cs' := [.g (.d (.sl 2 (List.map encApi_Range l5))), .g (.d (.sl 1 (List.map encI_i64 r6.2))), .g (.d (.sl 1 (List.map encI_i64 y10)))]) rfl rfl rfl rfl ?_
              refine G.opG1 (op_loadAP (ds := [.sl 2 (List.map encApi_Range l5), .sl 1 (List.map encI_i64 r6.2), .sl 1 (List.map encI_i64 y10)]) Try.underlying31 rfl ti31 rfl (Ev.t 6 (.ptr 1006 0)) rfl) rfl rfl rfl ⟨rfl, trivial⟩ ⟨rfl, trivial⟩ ?_
              obtain ⟨r16, hr16, hF⟩ := bindS hF
              refine G.opG1 (op_callQ (sv := oB r16) cf21 (ct_wire_written (Api_Row.mk l5 r6.2 y10) r16 hr16) rfl rfl (EvQL.cons (EvQ.g (Ev.t 90 (.g (.agg [.sl 2 (List.map encApi_Range l5), .sl 1 (List.map encI_i64 r6.2), .sl 1 (List.map encI_i64 y10)])))) EvQL.nil) rfl) rfl rfl rfl ⟨rfl, trivial⟩ trivial ?_
              refine G.opG1 (op_not (Ev.t 91 (bB r16)) rfl) rfl rfl rfl ⟨rfl, trivial⟩ trivial ?_
              refine G.op1 (op_pickF (Ev.t 89 (bB false)) (Ev.t 92 (bB (!r16))) rfl) rfl ⟨rfl, rfl, trivial⟩ trivial ?_
              refine G.endOps ?_
              exact G.arr (J13 (!r16, l5, r6.2, y10) hF) ⟨rfl, rfl, rfl, trivial⟩ ⟨rfl, rfl, trivial⟩ rfl
          refine G.block ?_
          refine G.keep (sl' := [(2, .one (.ptr 1002 0)), (4, .one (.ptr 1012 0)), (6, .one (.ptr 1006 0)), (74, oI (r9.2.length : Int)), (75, oI 0)]) (hp' := [(1002, some (.blk 31 [.g (.d (.sl 2 (List.map encApi_Range ([] : (List Api_Range))))), .g (.d (.sl 1 (List.map encI_i64 ([] : (List Int))))), .g (.d (.sl 1 (List.map encI_i64 ([] : (List Int)))))])), (1006, some (.blk 31 [.own 5096 (List.map encApi_Range l5), .own 4059 (List.map encI_i64 r6.2), .own 4070 (List.map encI_i64 r9.2)])), (1012, some (.blk 53 [bS r9.1.s, bI .i64 r9.1.at_, bB r9.1.bad])), (4059, some (.row 3 1 (List.map encI_i64 r6.2) true)), (4070, some (.row 3 1 (List.map encI_i64 r9.2) true)), (5096, some (.row 37 2 (List.map encApi_Range l5) false))]) ⟨rfl, rfl, rfl, rfl, rfl, trivial⟩ ⟨rfl, rfl, rfl, rfl, rfl, rfl, trivial⟩ rfl ?_
          refine G.loopF (fun (v18 : Int × (List Int)) => ⟨[(2, .one (.ptr 1002 0)), (4, .one (.ptr 1012 0)), (6, .one (.ptr 1006 0)), (74, oI (r9.2.length : Int)), (75, oI v18.1)], [(1002, some (.blk 31 [.g (.d (.sl 2 (List.map encApi_Range ([] : (List Api_Range))))), .g (.d (.sl 1 (List.map encI_i64 ([] : (List Int))))), .g (.d (.sl 1 (List.map encI_i64 ([] : (List Int)))))])), (1006, some (.blk 31 [.own 5096 (List.map encApi_Range l5), .own 4059 (List.map encI_i64 r6.2), .own 4070 (List.map encI_i64 v18.2)])), (1012, some (.blk 53 [bS r9.1.s, bI .i64 r9.1.at_, bB r9.1.bad])), (4059, some (.row 3 1 (List.map encI_i64 r6.2) true)), (4070, some (.row 3 1 (List.map encI_i64 v18.2) true)), (5096, some (.row 37 2 (List.map encApi_Range l5) false))]⟩) hF rfl (fun K21 again20 v18 J19 hF => ?_)
          unfold wire_ReadRow_l5 at hF
          refine G.seq ?_
          refine G.region ?_
          refine G.op1 (op_lss (Ev.t 75 (bI .i64 v18.1)) (Ev.t 74 (bI .i64 (r9.2.length : Int))) rfl) rfl ⟨rfl, rfl, trivial⟩ trivial ?_
          refine G.endOps ?_
          refine G.seq ?_
          refine ifS hF (fun hc22 hF => ?_) (fun hc22 hF => ?_)
          · refine G.cond rfl (fun _ => ?_) (fun hx => by rw [hc22] at hx; cases hx)
            refine G.skip ?_
            refine G.seq ?_
            refine G.block ?_
            refine G.seq ?_
            refine G.region ?_
            refine G.op1 (op_move (Ev.t 75 (bI .i64 v18.1)) rfl) rfl ⟨rfl, trivial⟩ trivial ?_
            refine G.op1 (op_assign (Ev.t 77 (bI .i64 v18.1)) rfl) rfl ⟨rfl, trivial⟩ trivial ?_
            refine G.endOps ?_
            refine G.region ?_
            refine G.op1 (op_fieldP (off' := 2) Try.underlying31 rfl ti22 (by decide) rfl (Ev.t 6 (.ptr 1006 0)) rfl) rfl ⟨rfl, trivial⟩ trivial ?_
            refine G.op1 (op_load1P (c := .own 4070 (List.map encI_i64 v18.2)) Try.underlying22 rfl rfl (Ev.t 78 (.ptr 1006 2)) rfl) rfl ⟨rfl, trivial⟩ ⟨rfl, trivial⟩ ?_
            refine G.op1 (op_move (Ev.t 9 (bI .i64 v18.1)) rfl) rfl ⟨rfl, trivial⟩ trivial ?_
            obtain ⟨x23, hx23, hF⟩ := bindS hF
            refine G.op1 (op_indexR (cs := [vI x23]) Try.underlying22 ti3 (idx_ok hx23).1 (idx_get hx23 encI_i64) (Ev.t 79 (.own 4070 (List.map encI_i64 v18.2))) (Ev.t 80 (bI .i64 v18.1)) rfl) rfl ⟨rfl, rfl, trivial⟩ ⟨rfl, trivial⟩ ?_
            refine G.op1 (op_loadR1 (i := Int.toNat v18.1) (f := 0) (size := 1) (cs := [vI x23]) Try.underlying3 rfl (idx_get hx23 encI_i64) rfl (Ev.t 81 (.rp 4070 (List.map encI_i64 v18.2) (Int.toNat v18.1 * 1 + 0))) rfl) rfl ⟨rfl, trivial⟩ ⟨rfl, trivial⟩ ?_
            refine G.op1 (op_sub (Ev.t 82 (bI .i64 x23)) (Ev.c _ rfl) rfl) rfl ⟨rfl, trivial⟩ trivial ?_
            obtain ⟨x24, hx24, hF⟩ := bindS hF
            refine G.op1 (op_indexR (cs := [vI x24]) Try.underlying22 ti3 (idx_ok hx24).1 (idx_get hx24 encI_i64) (Ev.t 79 (.own 4070 (List.map encI_i64 v18.2))) (Ev.t 80 (bI .i64 v18.1)) rfl) rfl ⟨rfl, rfl, trivial⟩ ⟨rfl, trivial⟩ ?_
            obtain ⟨l25, hl25, hF⟩ := bindS hF
            refine G.op3 (op_storeR1 (i := Int.toNat v18.1) (f := 0) (size := 1) (cs := [vI x24]) (cs' := [vI (IntKind.wrap .i64 (x23 - 1))]) (d := vI (IntKind.wrap .i64 (x23 - 1))) ti3 (idx_get hx24 encI_i64) rfl rfl (sets_ok hl25 encI_i64).2.2 (Ev.t 84 (.rp 4070 (List.map encI_i64 v18.2) (Int.toNat v18.1 * 1 + 0))) (Ev.t 83 (bI .i64 (IntKind.wrap .i64 (x23 - 1))))) rfl ⟨rfl, rfl, trivial⟩ ⟨rfl, trivial⟩ ?_
            refine G.renew (t := 79) rfl rfl (sets_len hl25 encI_i64) ?_
            refine G.renewCell (kb := 1006) (j := 2) (cs' := [.own 5096 (List.map encApi_Range l5), .own 4059 (List.map encI_i64 r6.2), .own 4070 (List.map encI_i64 l25)]) rfl rfl rfl (sets_len hl25 encI_i64) rfl ?_
            refine G.endOps ?_
            refine G.endBlock ?_
            refine G.region ?_
            refine G.op1 (op_add (Ev.t 75 (bI .i64 v18.1)) (Ev.c _ rfl) rfl) rfl ⟨rfl, trivial⟩ trivial ?_
            refine G.op1 (op_move (Ev.t 85 (bI .i64 (IntKind.wrap .i64 (v18.1 + 1)))) rfl) rfl ⟨rfl, trivial⟩ trivial ?_
            refine G.endOps ?_
            exact G.arr (J19 (IntKind.wrap .i64 (v18.1 + 1), l25) hF) ⟨rfl, rfl, rfl, rfl, rfl, trivial⟩ ⟨rfl, rfl, rfl, rfl, rfl, rfl, trivial⟩ rfl
          · refine G.cond rfl (fun hx => by rw [hc22] at hx; cases hx) (fun _ => ?_)
            refine G.exit ?_
            refine GX.c ?_
            refine GX.q ?_
            refine GX.bYes ?_
            exact G.arr (J17 v18.2 hF) ⟨rfl, rfl, rfl, trivial⟩ ⟨rfl, rfl, rfl, rfl, rfl, rfl, trivial⟩ rfl
      refine G.block ?_
      refine G.keep (sl' := [(2, .one (.ptr 1002 0)), (4, .one (.ptr 1012 0)), (5, oI r1.2), (6, .one (.ptr 1006 0)), (7, oS ByteArray.empty), (25, oI (IntKind.wrap .i64 (r1.2 - 1))), (26, oI 0)]) (hp' := [(1002, some (.blk 31 [.g (.d (.sl 2 (List.map encApi_Range ([] : (List Api_Range))))), .g (.d (.sl 1 (List.map encI_i64 ([] : (List Int))))), .g (.d (.sl 1 (List.map encI_i64 ([] : (List Int)))))])), (1006, some (.blk 31 [.own 5096 (List.map encApi_Range ([] : List Api_Range)), .g (.d (.sl 1 (List.map encI_i64 ([] : (List Int))))), .g (.d (.sl 1 (List.map encI_i64 ([] : (List Int)))))])), (1012, some (.blk 53 [bS r1.1.s, bI .i64 r1.1.at_, bB r1.1.bad])), (5096, some (.row 37 2 (List.map encApi_Range ([] : List Api_Range)) false))]) ⟨rfl, rfl, rfl, rfl, rfl, rfl, rfl, trivial⟩ ⟨rfl, rfl, rfl, rfl, trivial⟩ rfl ?_
      refine G.loopF (fun (v27 : ByteArray × Int × ByteArray × Int × Bool × (List Api_Range)) => ⟨[(2, .one (.ptr 1002 0)), (4, .one (.ptr 1012 0)), (5, oI r1.2), (6, .one (.ptr 1006 0)), (7, oS v27.1), (25, oI (IntKind.wrap .i64 (r1.2 - 1))), (26, oI v27.2.1)], [(1002, some (.blk 31 [.g (.d (.sl 2 (List.map encApi_Range ([] : (List Api_Range))))), .g (.d (.sl 1 (List.map encI_i64 ([] : (List Int))))), .g (.d (.sl 1 (List.map encI_i64 ([] : (List Int)))))])), (1006, some (.blk 31 [.own 5096 (List.map encApi_Range v27.2.2.2.2.2), .g (.d (.sl 1 (List.map encI_i64 ([] : (List Int))))), .g (.d (.sl 1 (List.map encI_i64 ([] : (List Int)))))])), (1012, some (.blk 53 [bS v27.2.2.1, bI .i64 v27.2.2.2.1, bB v27.2.2.2.2.1])), (5096, some (.row 37 2 (List.map encApi_Range v27.2.2.2.2.2) false))]⟩) hF rfl (fun K30 again29 v27 J28 hF => ?_)
      unfold wire_ReadRow_l6 at hF
      refine G.seq ?_
      refine G.region ?_
      refine G.op1 (op_lss (Ev.t 26 (bI .i64 v27.2.1)) (Ev.t 25 (bI .i64 (IntKind.wrap .i64 (r1.2 - 1)))) rfl) rfl ⟨rfl, rfl, trivial⟩ trivial ?_
      refine G.endOps ?_
      refine G.seq ?_
      refine ifS hF (fun hc31 hF => ?_) (fun hc31 hF => ?_)
      · refine G.cond rfl (fun _ => ?_) (fun hx => by rw [hc31] at hx; cases hx)
        refine G.skip ?_
        refine G.seq ?_
        refine G.block ?_
        refine G.seq ?_
        refine G.region ?_
        refine G.op1 (op_move (Ev.t 4 (.ptr 1012 0)) rfl) rfl ⟨rfl, trivial⟩ trivial ?_
        obtain ⟨r32, hr32, hF⟩ := bindS hF
        refine G.opM (op_callM (k := 1012) (h := .dat 53 (encWire_reader (Wire_reader.mk v27.2.2.1 v27.2.2.2.1 v27.2.2.2.2.1))) (h' := .dat 53 (encWire_reader r32.1)) 0 (sv := oS r32.2) cf18 (ct_wire_reader_text (Wire_reader.mk v27.2.2.1 v27.2.2.2.1 v27.2.2.2.2.1) 32 r32 hr32) rfl rfl (EvM.pt (Ev.t 28 (.ptr 1012 0)) (EvM.g (Ev.c _ rfl) EvM.nil)) rfl) rfl ⟨rfl, trivial⟩ ⟨rfl, trivial⟩ ?_
        refine G.op1 (op_assign (Ev.t 29 (bS r32.2)) rfl) rfl ⟨rfl, trivial⟩ trivial ?_
        refine G.endOps ?_
        refine G.seq ?_
        refine G.seq ?_
        refine G.joinC (T := Bool) (fun y33 => ⟨[(2, .one (.ptr 1002 0)), (4, .one (.ptr 1012 0)), (5, oI r1.2), (6, .one (.ptr 1006 0)), (7, oS v27.1), (8, oS r32.2), (25, oI (IntKind.wrap .i64 (r1.2 - 1))), (26, oI v27.2.1), (37, oB y33)], [(1002, some (.blk 31 [.g (.d (.sl 2 (List.map encApi_Range ([] : (List Api_Range))))), .g (.d (.sl 1 (List.map encI_i64 ([] : (List Int))))), .g (.d (.sl 1 (List.map encI_i64 ([] : (List Int)))))])), (1006, some (.blk 31 [.own 5096 (List.map encApi_Range v27.2.2.2.2.2), .g (.d (.sl 1 (List.map encI_i64 ([] : (List Int))))), .g (.d (.sl 1 (List.map encI_i64 ([] : (List Int)))))])), (1012, some (.blk 53 [bS r32.1.s, bI .i64 r32.1.at_, bB r32.1.bad])), (5096, some (.row 37 2 (List.map encApi_Range v27.2.2.2.2.2) false))]⟩) (fun y33 => wire_ReadRow_k7 again29 v27 r32 y33 = some r) (fun y33 hF => ?_) (fun J36 => ?_)
        · unfold wire_ReadRow_k7 at hF
          refine ifS hF (fun hc34 hF => ?_) (fun hc34 hF => ?_)
          · refine G.cond rfl (fun _ => ?_) (fun hx => by rw [hc34] at hx; cases hx)
            refine G.seq ?_
            refine G.region ?_
            refine G.op1 (op_build (zs := [.sl 2 (List.map encApi_Range ([] : (List Api_Range))), .sl 1 (List.map encI_i64 ([] : (List Int))), .sl 1 (List.map encI_i64 ([] : (List Int)))]) (ds := [.sl 2 (List.map encApi_Range ([] : (List Api_Range))), .sl 1 (List.map encI_i64 ([] : (List Int))), .sl 1 (List.map encI_i64 ([] : (List Int)))]) Try.underlying31 ti31 (pl31 _ Try.underlying31) ⟨.n 2, .n 1, .n 1, trivial⟩ EvP.nil rfl rfl) rfl trivial trivial ?_
            refine G.op3 (op_storeA (cs' := [.g (.d (.sl 2 (List.map encApi_Range ([] : (List Api_Range))))), .g (.d (.sl 1 (List.map encI_i64 ([] : (List Int))))), .g (.d (.sl 1 (List.map encI_i64 ([] : (List Int)))))]) ti31 rfl rfl (Ev.t 2 (.ptr 1002 0)) (Ev.t 38 (.g (.agg [.sl 2 (List.map encApi_Range ([] : (List Api_Range))), .sl 1 (List.map encI_i64 ([] : (List Int))), .sl 1 (List.map encI_i64 ([] : (List Int)))])))) rfl ⟨rfl, rfl, trivial⟩ ⟨rfl, trivial⟩ ?_
            refine G.op1 (op_assign (Ev.c _ rfl) rfl) rfl trivial trivial ?_
            refine G.endOps ?_
            cases hF
            exact G.ret2 Try.results8 (RVar.cellA (ds := [.sl 2 (List.map encApi_Range ([] : (List Api_Range))), .sl 1 (List.map encI_i64 ([] : (List Int))), .sl 1 (List.map encI_i64 ([] : (List Int)))]) Try.underlying31 rfl ti31 rfl) (RVar.tmp 3 _) ⟨rfl, rfl, trivial⟩ ⟨rfl, trivial⟩
          · refine G.cond rfl (fun hx => by rw [hc34] at hx; cases hx) (fun _ => ?_)
            refine G.skip ?_
            refine G.seq ?_
            refine G.region ?_
            refine G.op1 (op_fieldP (off' := 0) Try.underlying31 rfl ti29 (by decide) rfl (Ev.t 6 (.ptr 1006 0)) rfl) rfl ⟨rfl, trivial⟩ trivial ?_
            refine G.op1 (op_load1P (c := .own 5096 (List.map encApi_Range v27.2.2.2.2.2)) Try.underlying29 rfl rfl (Ev.t 39 (.ptr 1006 0)) rfl) rfl ⟨rfl, trivial⟩ ⟨rfl, trivial⟩ ?_
            refine G.op1 (op_move (Ev.t 7 (bS v27.1)) rfl) rfl ⟨rfl, trivial⟩ trivial ?_
            refine G.op1 (op_move (Ev.t 8 (bS r32.2)) rfl) rfl ⟨rfl, trivial⟩ trivial ?_
            refine G.op1 (op_build (zs := [vS ByteArray.empty, vS ByteArray.empty]) (ds := [vS v27.1, vS r32.2]) Try.underlying37 ti37 (pl37 _ Try.underlying37) ⟨.v _ rfl, .v _ rfl, trivial⟩ (EvP.cons (Ev.t 41 (bS v27.1)) (EvP.cons (Ev.t 42 (bS r32.2)) EvP.nil)) rfl rfl) rfl ⟨rfl, rfl, trivial⟩ trivial ?_
            refine G.op1 (op_buildSlice (es := List.map encApi_Range [(Api_Range.mk v27.1 r32.2)]) Try.underlying29 ti37 rfl rfl (EvP.cons (Ev.t 43 (.g (.agg [vS v27.1, vS r32.2]))) EvP.nil) rfl rfl (by simp [encApi_Range]) rfl) rfl ⟨rfl, trivial⟩ trivial ?_
            obtain ⟨l35, hl35, hF⟩ := bindS hF
            refine G.op2 (op_appendO Try.underlying29 ti37 rfl (app_map hl35 encApi_Range) (app_b1 hl35 encApi_Range) (app_b2 hl35 encApi_Range) (Ev.t 40 (.own 5096 (List.map encApi_Range v27.2.2.2.2.2))) (Ev.t 44 (.g (.d (.sl 2 (List.map encApi_Range ([(Api_Range.mk v27.1 r32.2)])))))) rfl) rfl ⟨rfl, rfl, trivial⟩ ⟨rfl, trivial⟩ ?_
            refine G.op1 (op_fieldP (off' := 0) Try.underlying31 rfl ti29 (by decide) rfl (Ev.t 6 (.ptr 1006 0)) rfl) rfl ⟨rfl, trivial⟩ trivial ?_
            refine G.op3 (op_storeO (cs' := [.own 5096 (List.map encApi_Range l35), .g (.d (.sl 1 (List.map encI_i64 ([] : (List Int))))), .g (.d (.sl 1 (List.map encI_i64 ([] : (List Int)))))]) ti29 rfl rfl rfl (Ev.t 46 (.ptr 1006 0)) (Ev.t 45 (.own 5096 (List.map encApi_Range l35)))) rfl ⟨rfl, rfl, trivial⟩ ⟨rfl, rfl, trivial⟩ ?_
            refine G.endOps ?_
            refine G.region ?_
            refine G.op1 (op_move (Ev.t 8 (bS r32.2)) rfl) rfl ⟨rfl, trivial⟩ trivial ?_
            refine G.op1 (op_assign (Ev.t 47 (bS r32.2)) rfl) rfl ⟨rfl, trivial⟩ trivial ?_
            refine G.endOps ?_
            refine G.endBlock ?_
            refine G.region ?_
            refine G.op1 (op_add (Ev.t 26 (bI .i64 v27.2.1)) (Ev.c _ rfl) rfl) rfl ⟨rfl, trivial⟩ trivial ?_
            refine G.op1 (op_move (Ev.t 48 (bI .i64 (IntKind.wrap .i64 (v27.2.1 + 1)))) rfl) rfl ⟨rfl, trivial⟩ trivial ?_
            refine G.endOps ?_
            exact G.arr (J28 (r32.2, IntKind.wrap .i64 (v27.2.1 + 1), r32.1.s, r32.1.at_, r32.1.bad, l35) hF) ⟨rfl, rfl, rfl, rfl, rfl, rfl, rfl, trivial⟩ ⟨rfl, rfl, rfl, rfl, trivial⟩ rfl
        refine G.region ?_
        refine G.op1 (op_move (Ev.t 4 (.ptr 1012 0)) rfl) rfl ⟨rfl, trivial⟩ trivial ?_
        refine G.op1 (op_nilCheckP (Ev.t 30 (.ptr 1012 0)) rfl) rfl ⟨rfl, trivial⟩ trivial ?_
        refine G.op1 (op_fieldP (off' := 2) Try.underlying53 rfl ti4 (by decide) rfl (Ev.t 31 (.ptr 1012 0)) rfl) rfl ⟨rfl, trivial⟩ trivial ?_
        refine G.op1 (op_load1P (c := bB r32.1.bad) Try.underlying4 rfl rfl (Ev.t 32 (.ptr 1012 2)) rfl) rfl ⟨rfl, trivial⟩ ⟨rfl, trivial⟩ ?_
        refine G.op1 (op_move (Ev.t 33 (bB r32.1.bad)) rfl) rfl ⟨rfl, trivial⟩ trivial ?_
        refine ifS hF (fun hc37 hF => ?_) (fun hc37 hF => ?_)
        · refine G.known (t := 34) hc37 rfl ?_
          refine G.opN1 rfl rfl rfl rfl rfl ?_
          refine G.opN1 rfl rfl rfl rfl rfl ?_
          refine G.op1 (op_pickT (Ev.t 34 (bB true)) (Ev.c _ rfl) rfl) rfl ⟨rfl, trivial⟩ trivial ?_
          refine G.endOps ?_
          exact G.arr (J36 true hF) ⟨rfl, rfl, rfl, rfl, rfl, rfl, rfl, rfl, rfl, trivial⟩ ⟨rfl, rfl, rfl, rfl, trivial⟩ rfl
        · refine G.known (t := 34) hc37 rfl ?_
          refine G.opG1 (op_move (Ev.t 8 (bS r32.2)) rfl) rfl rfl rfl ⟨rfl, trivial⟩ trivial ?_
          refine G.opG1 (op_eqS (Ev.t 35 (bS r32.2)) (Ev.c _ rfl) rfl) rfl rfl rfl ⟨rfl, trivial⟩ trivial ?_
          refine G.op1 (op_pickF (Ev.t 34 (bB false)) (Ev.t 36 (bB (seq r32.2 ByteArray.empty))) rfl) rfl ⟨rfl, rfl, trivial⟩ trivial ?_
          refine G.endOps ?_
          exact G.arr (J36 (seq r32.2 ByteArray.empty) hF) ⟨rfl, rfl, rfl, rfl, rfl, rfl, rfl, rfl, rfl, trivial⟩ ⟨rfl, rfl, rfl, rfl, trivial⟩ rfl
      · refine G.cond rfl (fun hx => by rw [hc31] at hx; cases hx) (fun _ => ?_)
        refine G.exit ?_
        refine GX.c ?_
        refine GX.q ?_
        refine GX.bYes ?_
        exact G.arr (J26 (v27.1, v27.2.2.1, v27.2.2.2.1, v27.2.2.2.2.1, v27.2.2.2.2.2) hF) ⟨rfl, rfl, rfl, rfl, rfl, trivial⟩ ⟨rfl, rfl, rfl, rfl, trivial⟩ rfl
  refine G.region ?_
  refine G.op1 (op_move (Ev.t 4 (.ptr 1012 0)) rfl) rfl ⟨rfl, trivial⟩ trivial ?_
  refine G.op1 (op_nilCheckP (Ev.t 15 (.ptr 1012 0)) rfl) rfl ⟨rfl, trivial⟩ trivial ?_
  refine G.op1 (op_fieldP (off' := 2) Try.underlying53 rfl ti4 (by decide) rfl (Ev.t 16 (.ptr 1012 0)) rfl) rfl ⟨rfl, trivial⟩ trivial ?_
  refine G.op1 (op_load1P (c := bB r1.1.bad) Try.underlying4 rfl rfl (Ev.t 17 (.ptr 1012 2)) rfl) rfl ⟨rfl, trivial⟩ ⟨rfl, trivial⟩ ?_
  refine G.op1 (op_move (Ev.t 18 (bB r1.1.bad)) rfl) rfl ⟨rfl, trivial⟩ trivial ?_
  refine ifS hF (fun hc39 hF => ?_) (fun hc39 hF => ?_)
  · refine G.known (t := 19) hc39 rfl ?_
    refine G.opN1 rfl rfl rfl rfl rfl ?_
    refine G.opN1 rfl rfl rfl rfl rfl ?_
    refine G.op1 (op_pickT (Ev.t 19 (bB true)) (Ev.c _ rfl) rfl) rfl ⟨rfl, trivial⟩ trivial ?_
    refine G.endOps ?_
    exact G.arr (J38 true hF) ⟨rfl, rfl, rfl, rfl, trivial⟩ ⟨rfl, rfl, trivial⟩ rfl
  · refine G.known (t := 19) hc39 rfl ?_
    refine G.opG1 (op_move (Ev.t 5 (bI .i64 r1.2)) rfl) rfl rfl rfl ⟨rfl, trivial⟩ trivial ?_
    refine G.opG1 (op_eqI (Ev.t 20 (bI .i64 r1.2)) (Ev.c _ rfl) rfl) rfl rfl rfl ⟨rfl, trivial⟩ trivial ?_
    refine G.op1 (op_pickF (Ev.t 19 (bB false)) (Ev.t 21 (bB (decide (r1.2 = 0)))) rfl) rfl ⟨rfl, rfl, trivial⟩ trivial ?_
    refine G.endOps ?_
    exact G.arr (J38 (decide (r1.2 = 0)) hF) ⟨rfl, rfl, rfl, rfl, trivial⟩ ⟨rfl, rfl, trivial⟩ rfl


set_option maxRecDepth 20000 in
set_option maxHeartbeats 2000000 in
theorem ct_ref01_Read (s_0 : ByteArray) (at_1 : Int) (r : Ref01_Got) (hF : ref01_Read s_0 at_1 = some r) : Ct Try.prog 37 [.g (.d (vS s_0)), .g (.d (vI at_1))] (.one (.agg (encRef01_Got r))) := by
  unfold ref01_Read at hF
  refine Ct.intro Try.func37 rfl Try.ntmps37 rfl rfl fun M w => ?_
  refine G.seq ?_
  refine G.region ?_
  refine G.op2 (op_alloc (k := 1004) (cs := [bI .u64 0, bI .i64 0]) ti83 ⟨.v _ rfl, .v _ rfl, trivial⟩ rfl) rfl trivial ⟨rfl, trivial⟩ ?_
  refine G.endOps ?_
  refine G.seq ?_
  refine G.seq ?_
  refine G.region ?_
  refine G.op1 (op_move (Ev.t 1 (bI .i64 at_1)) rfl) rfl ⟨rfl, trivial⟩ trivial ?_
  refine G.op1 (op_lss (Ev.t 9 (bI .i64 at_1)) (Ev.c _ rfl) rfl) rfl ⟨rfl, trivial⟩ trivial ?_
  refine G.endOps ?_
  refine ifS hF (fun hc1 hF => ?_) (fun hc1 hF => ?_)
  · refine G.cond rfl (fun _ => ?_) (fun hx => by rw [hc1] at hx; cases hx)
    refine G.seq ?_
    refine G.region ?_
    refine G.op1 (op_build (zs := [.v (.int .u64 0), vI 0]) (ds := [.v (.int .u64 0), vI 0]) Try.underlying83 ti83 (pl83 _ Try.underlying83) ⟨.v _ rfl, .v _ rfl, trivial⟩ EvP.nil rfl rfl) rfl trivial trivial ?_
    refine G.op3 (op_storeA (cs' := [bI .u64 0, bI .i64 0]) ti83 rfl rfl (Ev.t 4 (.ptr 1004 0)) (Ev.t 11 (.g (.agg [.v (.int .u64 0), vI 0])))) rfl ⟨rfl, rfl, trivial⟩ ⟨rfl, trivial⟩ ?_
    refine G.endOps ?_
    cases hF
    exact G.ret1 Try.results37 (RVar.cellA (ds := [.v (.int .u64 0), vI 0]) Try.underlying83 rfl ti83 rfl) ⟨rfl, trivial⟩ ⟨rfl, trivial⟩
  · refine G.cond rfl (fun hx => by rw [hc1] at hx; cases hx) (fun _ => ?_)
    refine G.skip ?_
    refine G.seq ?_
    refine G.region ?_
    refine G.op1 (op_assign (Ev.c _ rfl) rfl) rfl trivial trivial ?_
    refine G.endOps ?_
    refine G.seq ?_
    refine G.region ?_
    refine G.op1 (op_assign (Ev.c _ rfl) rfl) rfl trivial trivial ?_
    refine G.endOps ?_
    refine G.seq ?_
    refine G.seq ?_
    refine G.region ?_
    refine G.op1 (op_move (Ev.t 1 (bI .i64 at_1)) rfl) rfl ⟨rfl, trivial⟩ trivial ?_
    refine G.op1 (op_assign (Ev.t 12 (bI .i64 at_1)) rfl) rfl ⟨rfl, trivial⟩ trivial ?_
    refine G.endOps ?_
    refine G.joinC (T := Unit) (fun y2 => ⟨[(4, .one (.ptr 1004 0))], [(1004, some (.blk 83 [bI .u64 0, bI .i64 0]))]⟩) (fun y2 => ref01_Read_k1 y2 = some r) (fun y2 hF => ?_) (fun J3 => ?_)
    · unfold ref01_Read_k1 at hF
      refine G.seq ?_
      refine G.region ?_
      refine G.op1 (op_build (zs := [.v (.int .u64 0), vI 0]) (ds := [.v (.int .u64 0), vI 0]) Try.underlying83 ti83 (pl83 _ Try.underlying83) ⟨.v _ rfl, .v _ rfl, trivial⟩ EvP.nil rfl rfl) rfl trivial trivial ?_
      refine G.op3 (op_storeA (cs' := [bI .u64 0, bI .i64 0]) ti83 rfl rfl (Ev.t 4 (.ptr 1004 0)) (Ev.t 52 (.g (.agg [.v (.int .u64 0), vI 0])))) rfl ⟨rfl, rfl, trivial⟩ ⟨rfl, trivial⟩ ?_
      refine G.endOps ?_
      cases hF
      exact G.ret1 Try.results37 (RVar.cellA (ds := [.v (.int .u64 0), vI 0]) Try.underlying83 rfl ti83 rfl) ⟨rfl, trivial⟩ ⟨rfl, trivial⟩
    refine G.block ?_
    refine G.keep (sl' := [(0, oS s_0), (1, oI at_1), (4, .one (.ptr 1004 0)), (5, .one (bI .u64 0)), (6, .one (bI .u64 1)), (7, oI at_1)]) (hp' := [(1004, some (.blk 83 [bI .u64 0, bI .i64 0]))]) ⟨rfl, rfl, rfl, rfl, rfl, rfl, trivial⟩ ⟨rfl, trivial⟩ rfl ?_
    refine G.loopF (fun (v4 : Int × Int × Int) => ⟨[(0, oS s_0), (1, oI at_1), (4, .one (.ptr 1004 0)), (5, .one (bI .u64 v4.1)), (6, .one (bI .u64 v4.2.1)), (7, oI v4.2.2)], [(1004, some (.blk 83 [bI .u64 0, bI .i64 0]))]⟩) hF rfl (fun K7 again6 v4 J5 hF => ?_)
    unfold ref01_Read_l2 at hF
    refine G.seq ?_
    refine G.seq ?_
    refine G.joinC (T := Bool) (fun y8 => ⟨[(0, oS s_0), (1, oI at_1), (4, .one (.ptr 1004 0)), (5, .one (bI .u64 v4.1)), (6, .one (bI .u64 v4.2.1)), (7, oI v4.2.2), (22, oB y8)], [(1004, some (.blk 83 [bI .u64 0, bI .i64 0]))]⟩) (fun y8 => ref01_Read_k3 s_0 at_1 again6 v4 y8 = some r) (fun y8 hF => ?_) (fun J15 => ?_)
    · unfold ref01_Read_k3 at hF
      refine ifS hF (fun hc9 hF => ?_) (fun hc9 hF => ?_)
      · refine G.cond rfl (fun _ => ?_) (fun hx => by rw [hc9] at hx; cases hx)
        refine G.skip ?_
        refine G.seq ?_
        refine G.block ?_
        refine G.seq ?_
        refine G.region ?_
        refine G.op1 (op_move (Ev.t 0 (bS s_0)) rfl) rfl ⟨rfl, trivial⟩ trivial ?_
        refine G.op1 (op_move (Ev.t 7 (bI .i64 v4.2.2)) rfl) rfl ⟨rfl, trivial⟩ trivial ?_
        obtain ⟨b10, hb10, hF⟩ := bindS hF
        refine G.op1 (op_indexS Try.underlying9 (sidx_ok hb10).1 (sidx_ok hb10).2 (Ev.t 25 (bS s_0)) (Ev.t 26 (bI .i64 v4.2.2)) rfl) rfl ⟨rfl, rfl, trivial⟩ trivial ?_
        refine G.op1 (op_convI Try.underlying5 Try.underlying55 (Ev.t 27 (bI .u8 (b10.toNat : Int))) rfl) rfl ⟨rfl, trivial⟩ trivial ?_
        refine G.op1 (op_assign (Ev.t 28 (bI .u64 (IntKind.wrap .u64 (b10.toNat : Int)))) rfl) rfl ⟨rfl, trivial⟩ trivial ?_
        refine G.endOps ?_
        refine G.seq ?_
        refine G.region ?_
        refine G.op1 (op_move (Ev.t 5 (bI .u64 v4.1)) rfl) rfl ⟨rfl, trivial⟩ trivial ?_
        refine G.op1 (op_move (Ev.t 8 (bI .u64 (IntKind.wrap .u64 (b10.toNat : Int)))) rfl) rfl ⟨rfl, trivial⟩ trivial ?_
        refine G.op1 (op_rem (by decide) (Ev.t 30 (bI .u64 (IntKind.wrap .u64 (b10.toNat : Int)))) (Ev.c _ rfl) rfl) rfl ⟨rfl, trivial⟩ trivial ?_
        refine G.op1 (op_move (Ev.t 6 (bI .u64 v4.2.1)) rfl) rfl ⟨rfl, trivial⟩ trivial ?_
        refine G.op1 (op_mul (Ev.t 31 (bI .u64 (Int.tmod (IntKind.wrap .u64 (b10.toNat : Int)) 128))) (Ev.t 32 (bI .u64 v4.2.1)) rfl) rfl ⟨rfl, rfl, trivial⟩ trivial ?_
        refine G.op1 (op_add (Ev.t 29 (bI .u64 v4.1)) (Ev.t 33 (bI .u64 (IntKind.wrap .u64 ((Int.tmod (IntKind.wrap .u64 (b10.toNat : Int)) 128) * v4.2.1)))) rfl) rfl ⟨rfl, rfl, trivial⟩ trivial ?_
        refine G.op1 (op_assign (Ev.t 34 (bI .u64 (IntKind.wrap .u64 (v4.1 + (IntKind.wrap .u64 ((Int.tmod (IntKind.wrap .u64 (b10.toNat : Int)) 128) * v4.2.1)))))) rfl) rfl ⟨rfl, trivial⟩ trivial ?_
        refine G.endOps ?_
        refine G.seq ?_
        refine G.region ?_
        refine G.op1 (op_move (Ev.t 6 (bI .u64 v4.2.1)) rfl) rfl ⟨rfl, trivial⟩ trivial ?_
        refine G.op1 (op_mul (Ev.t 35 (bI .u64 v4.2.1)) (Ev.c _ rfl) rfl) rfl ⟨rfl, trivial⟩ trivial ?_
        refine G.op1 (op_assign (Ev.t 36 (bI .u64 (IntKind.wrap .u64 (v4.2.1 * 128)))) rfl) rfl ⟨rfl, trivial⟩ trivial ?_
        refine G.endOps ?_
        refine G.seq ?_
        refine G.region ?_
        refine G.op1 (op_move (Ev.t 8 (bI .u64 (IntKind.wrap .u64 (b10.toNat : Int)))) rfl) rfl ⟨rfl, trivial⟩ trivial ?_
        refine G.op1 (op_lss (Ev.t 37 (bI .u64 (IntKind.wrap .u64 (b10.toNat : Int)))) (Ev.c _ rfl) rfl) rfl ⟨rfl, trivial⟩ trivial ?_
        refine G.endOps ?_
        refine ifS hF (fun hc11 hF => ?_) (fun hc11 hF => ?_)
        · refine G.cond rfl (fun _ => ?_) (fun hx => by rw [hc11] at hx; cases hx)
          refine G.seq ?_
          refine G.seq ?_
          obtain ⟨r12, hr12, hF⟩ := bindS hF
          obtain ⟨s13, hs13, hF⟩ := bindS hF
          refine G.drawnI (deps := [[], [0], [], [], [], [4], [2, 3, 4, 5], [0, 1, 2, 3, 4, 5, 6]]) (sl' := [(4, .one (.ptr 1004 0)), (5, .one (bI .u64 (IntKind.wrap .u64 (v4.1 + (IntKind.wrap .u64 ((Int.tmod (IntKind.wrap .u64 (b10.toNat : Int)) 128) * v4.2.1)))))), (7, oI v4.2.2), (46, oB (!seq r12 s13))]) (hp' := [(1004, some (.blk 83 [bI .u64 0, bI .i64 0]))]) (.c (oP rfl rfl (op_move (Ev.t 5 (bI .u64 (IntKind.wrap .u64 (v4.1 + (IntKind.wrap .u64 ((Int.tmod (IntKind.wrap .u64 (b10.toNat : Int)) 128) * v4.2.1)))))) rfl)) (.c (oP rfl rfl (op_callQ (sv := oS r12) cf35 (ct_ref01_Number (IntKind.wrap .u64 (v4.1 + (IntKind.wrap .u64 ((Int.tmod (IntKind.wrap .u64 (b10.toNat : Int)) 128) * v4.2.1)))) r12 hr12) rfl rfl (EvQL.cons (EvQ.g (Ev.t 39 (bI .u64 (IntKind.wrap .u64 (v4.1 + (IntKind.wrap .u64 ((Int.tmod (IntKind.wrap .u64 (b10.toNat : Int)) 128) * v4.2.1))))))) EvQL.nil) rfl)) (.c (oP rfl rfl (op_move (Ev.t 0 (bS s_0)) rfl)) (.c (oP rfl rfl (op_move (Ev.t 1 (bI .i64 at_1)) rfl)) (.c (oP rfl rfl (op_move (Ev.t 7 (bI .i64 v4.2.2)) rfl)) (.c (oP rfl rfl (op_add (Ev.t 43 (bI .i64 v4.2.2)) (Ev.c _ rfl) rfl)) (.c (oP rfl rfl (OpL.cast (op_sliceS (lo := some at_1) (hi := some (IntKind.wrap .i64 (v4.2.2 + 1))) Try.underlying9 (ssub_ok hs13).1 (ssub_ok hs13).2.1 (ssub_ok hs13).2.2.1 (Ev.t 41 (bS s_0)) (EvO.some (Ev.t 42 (bI .i64 at_1))) (EvO.some (Ev.t 44 (bI .i64 (IntKind.wrap .i64 (v4.2.2 + 1))))) rfl) (congrArg (fun s => bS s) (ssub_ok hs13).2.2.2))) (.c (oP rfl rfl (op_neS (Ev.t 40 (bS r12)) (Ev.t 45 (bS s13)) rfl)) .nil)))))))) follows rfl rfl rfl ⟨⟨rfl, trivial⟩, trivial, ⟨rfl, trivial⟩, trivial, ⟨rfl, trivial⟩, trivial, ⟨rfl, trivial⟩, trivial, ⟨rfl, trivial⟩, trivial, ⟨rfl, trivial⟩, trivial, ⟨rfl, rfl, rfl, trivial⟩, trivial, ⟨rfl, rfl, trivial⟩, trivial, trivial⟩ ⟨rfl, rfl, rfl, rfl, trivial⟩ ⟨rfl, trivial⟩ rfl ?_
          refine ifS hF (fun hc14 hF => ?_) (fun hc14 hF => ?_)
          · refine G.cond rfl (fun _ => ?_) (fun hx => by rw [hc14] at hx; cases hx)
            refine G.seq ?_
            refine G.region ?_
            refine G.op1 (op_build (zs := [.v (.int .u64 0), vI 0]) (ds := [.v (.int .u64 0), vI 0]) Try.underlying83 ti83 (pl83 _ Try.underlying83) ⟨.v _ rfl, .v _ rfl, trivial⟩ EvP.nil rfl rfl) rfl trivial trivial ?_
            refine G.op3 (op_storeA (cs' := [bI .u64 0, bI .i64 0]) ti83 rfl rfl (Ev.t 4 (.ptr 1004 0)) (Ev.t 47 (.g (.agg [.v (.int .u64 0), vI 0])))) rfl ⟨rfl, rfl, trivial⟩ ⟨rfl, trivial⟩ ?_
            refine G.endOps ?_
            cases hF
            exact G.ret1 Try.results37 (RVar.cellA (ds := [.v (.int .u64 0), vI 0]) Try.underlying83 rfl ti83 rfl) ⟨rfl, trivial⟩ ⟨rfl, trivial⟩
          · refine G.cond rfl (fun hx => by rw [hc14] at hx; cases hx) (fun _ => ?_)
            refine G.skip ?_
            refine G.seq ?_
            refine G.region ?_
            refine G.op1 (op_move (Ev.t 5 (bI .u64 (IntKind.wrap .u64 (v4.1 + (IntKind.wrap .u64 ((Int.tmod (IntKind.wrap .u64 (b10.toNat : Int)) 128) * v4.2.1)))))) rfl) rfl ⟨rfl, trivial⟩ trivial ?_
            refine G.op1 (op_move (Ev.t 7 (bI .i64 v4.2.2)) rfl) rfl ⟨rfl, trivial⟩ trivial ?_
            refine G.op1 (op_add (Ev.t 49 (bI .i64 v4.2.2)) (Ev.c _ rfl) rfl) rfl ⟨rfl, trivial⟩ trivial ?_
            refine G.op1 (op_build (zs := [.v (.int .u64 0), vI 0]) (ds := [.v (.int .u64 (IntKind.wrap .u64 (v4.1 + (IntKind.wrap .u64 ((Int.tmod (IntKind.wrap .u64 (b10.toNat : Int)) 128) * v4.2.1))))), vI (IntKind.wrap .i64 (v4.2.2 + 1))]) Try.underlying83 ti83 (pl83 _ Try.underlying83) ⟨.v _ rfl, .v _ rfl, trivial⟩ (EvP.cons (Ev.t 48 (bI .u64 (IntKind.wrap .u64 (v4.1 + (IntKind.wrap .u64 ((Int.tmod (IntKind.wrap .u64 (b10.toNat : Int)) 128) * v4.2.1)))))) (EvP.cons (Ev.t 50 (bI .i64 (IntKind.wrap .i64 (v4.2.2 + 1)))) EvP.nil)) rfl rfl) rfl ⟨rfl, rfl, trivial⟩ trivial ?_
            refine G.op3 (op_storeA (cs' := [bI .u64 (IntKind.wrap .u64 (v4.1 + (IntKind.wrap .u64 ((Int.tmod (IntKind.wrap .u64 (b10.toNat : Int)) 128) * v4.2.1)))), bI .i64 (IntKind.wrap .i64 (v4.2.2 + 1))]) ti83 rfl rfl (Ev.t 4 (.ptr 1004 0)) (Ev.t 51 (.g (.agg [.v (.int .u64 (IntKind.wrap .u64 (v4.1 + (IntKind.wrap .u64 ((Int.tmod (IntKind.wrap .u64 (b10.toNat : Int)) 128) * v4.2.1))))), vI (IntKind.wrap .i64 (v4.2.2 + 1))])))) rfl ⟨rfl, rfl, trivial⟩ ⟨rfl, trivial⟩ ?_
            refine G.endOps ?_
            cases hF
            exact G.ret1 Try.results37 (RVar.cellA (ds := [.v (.int .u64 (IntKind.wrap .u64 (v4.1 + (IntKind.wrap .u64 ((Int.tmod (IntKind.wrap .u64 (b10.toNat : Int)) 128) * v4.2.1))))), vI (IntKind.wrap .i64 (v4.2.2 + 1))]) Try.underlying83 rfl ti83 rfl) ⟨rfl, trivial⟩ ⟨rfl, trivial⟩
        · refine G.cond rfl (fun hx => by rw [hc11] at hx; cases hx) (fun _ => ?_)
          refine G.skip ?_
          refine G.endBlock ?_
          refine G.region ?_
          refine G.op1 (op_move (Ev.t 7 (bI .i64 v4.2.2)) rfl) rfl ⟨rfl, trivial⟩ trivial ?_
          refine G.op1 (op_add (Ev.t 23 (bI .i64 v4.2.2)) (Ev.c _ rfl) rfl) rfl ⟨rfl, trivial⟩ trivial ?_
          refine G.op1 (op_assign (Ev.t 24 (bI .i64 (IntKind.wrap .i64 (v4.2.2 + 1)))) rfl) rfl ⟨rfl, trivial⟩ trivial ?_
          refine G.endOps ?_
          exact G.arr (J5 (IntKind.wrap .u64 (v4.1 + (IntKind.wrap .u64 ((Int.tmod (IntKind.wrap .u64 (b10.toNat : Int)) 128) * v4.2.1))), IntKind.wrap .u64 (v4.2.1 * 128), IntKind.wrap .i64 (v4.2.2 + 1)) hF) ⟨rfl, rfl, rfl, rfl, rfl, rfl, trivial⟩ ⟨rfl, trivial⟩ rfl
      · refine G.cond rfl (fun hx => by rw [hc9] at hx; cases hx) (fun _ => ?_)
        refine G.exit ?_
        refine GX.c ?_
        refine GX.q ?_
        refine GX.bYes ?_
        exact G.arr (J3 () hF) ⟨rfl, trivial⟩ ⟨rfl, trivial⟩ rfl
    refine G.region ?_
    refine G.op1 (op_move (Ev.t 7 (bI .i64 v4.2.2)) rfl) rfl ⟨rfl, trivial⟩ trivial ?_
    refine G.op1 (op_move (Ev.t 0 (bS s_0)) rfl) rfl ⟨rfl, trivial⟩ trivial ?_
    refine G.op1 (op_lenS Try.underlying9 (Ev.t 14 (bS s_0)) rfl) rfl ⟨rfl, trivial⟩ trivial ?_
    refine G.op1 (op_lss (Ev.t 13 (bI .i64 v4.2.2)) (Ev.t 15 (bI .i64 (s_0.size : Int))) rfl) rfl ⟨rfl, rfl, trivial⟩ trivial ?_
    refine G.op1 (op_move (Ev.t 16 (bB (decide (v4.2.2 < (s_0.size : Int))))) rfl) rfl ⟨rfl, trivial⟩ trivial ?_
    refine ifS hF (fun hc16 hF => ?_) (fun hc16 hF => ?_)
    · refine G.known (t := 17) hc16 rfl ?_
      refine G.opG1 (op_move (Ev.t 7 (bI .i64 v4.2.2)) rfl) rfl rfl rfl ⟨rfl, trivial⟩ trivial ?_
      refine G.opG1 (op_move (Ev.t 1 (bI .i64 at_1)) rfl) rfl rfl rfl ⟨rfl, trivial⟩ trivial ?_
      refine G.opG1 (op_add (Ev.t 19 (bI .i64 at_1)) (Ev.c _ rfl) rfl) rfl rfl rfl ⟨rfl, trivial⟩ trivial ?_
      refine G.opG1 (op_lss (Ev.t 18 (bI .i64 v4.2.2)) (Ev.t 20 (bI .i64 (IntKind.wrap .i64 (at_1 + 10)))) rfl) rfl rfl rfl ⟨rfl, rfl, trivial⟩ trivial ?_
      refine G.op1 (op_pickT (Ev.t 17 (bB true)) (Ev.t 21 (bB (decide (v4.2.2 < (IntKind.wrap .i64 (at_1 + 10)))))) rfl) rfl ⟨rfl, rfl, trivial⟩ trivial ?_
      refine G.endOps ?_
      exact G.arr (J15 (decide (v4.2.2 < (IntKind.wrap .i64 (at_1 + 10)))) hF) ⟨rfl, rfl, rfl, rfl, rfl, rfl, rfl, trivial⟩ ⟨rfl, trivial⟩ rfl
    · refine G.known (t := 17) hc16 rfl ?_
      refine G.opN1 rfl rfl rfl rfl rfl ?_
      refine G.opN1 rfl rfl rfl rfl rfl ?_
      refine G.opN1 rfl rfl rfl rfl rfl ?_
      refine G.opN1 rfl rfl rfl rfl rfl ?_
      refine G.op1 (op_pickF (Ev.t 17 (bB false)) (Ev.c _ rfl) rfl) rfl ⟨rfl, trivial⟩ trivial ?_
      refine G.endOps ?_
      exact G.arr (J15 false hF) ⟨rfl, rfl, rfl, rfl, rfl, rfl, rfl, trivial⟩ ⟨rfl, trivial⟩ rfl


set_option maxRecDepth 20000 in
set_option maxHeartbeats 2000000 in
theorem ct_ref01_ReadText (s_0 : ByteArray) (at_1 : Int) (most_2 : Int) (r : Ref01_GotText) (hF : ref01_ReadText s_0 at_1 most_2 = some r) : Ct Try.prog 38 [.g (.d (vS s_0)), .g (.d (vI at_1)), .g (.d (vI most_2))] (.one (.agg (encRef01_GotText r))) := by
  unfold ref01_ReadText at hF
  refine Ct.intro Try.func38 rfl Try.ntmps38 rfl rfl fun M w => ?_
  refine G.seq ?_
  refine G.region ?_
  refine G.op2 (op_alloc (k := 1006) (cs := [bS ByteArray.empty, bI .i64 0]) ti86 ⟨.v _ rfl, .v _ rfl, trivial⟩ rfl) rfl trivial ⟨rfl, trivial⟩ ?_
  refine G.endOps ?_
  refine G.seq ?_
  refine G.region ?_
  refine G.op1 (op_move (Ev.t 0 (bS s_0)) rfl) rfl ⟨rfl, trivial⟩ trivial ?_
  refine G.op1 (op_move (Ev.t 1 (bI .i64 at_1)) rfl) rfl ⟨rfl, trivial⟩ trivial ?_
  obtain ⟨r1, hr1, hF⟩ := bindS hF
  refine G.op1 (op_callQ (sv := .one (.g (.agg [.v (.int .u64 r1.N), vI r1.End]))) cf37 (ct_ref01_Read s_0 at_1 r1 hr1) rfl rfl (EvQL.cons (EvQ.g (Ev.t 9 (bS s_0))) (EvQL.cons (EvQ.g (Ev.t 10 (bI .i64 at_1))) EvQL.nil)) rfl) rfl ⟨rfl, rfl, trivial⟩ trivial ?_
  refine G.op2 (op_alloc (k := 1007) (cs := [bI .u64 0, bI .i64 0]) ti83 ⟨.v _ rfl, .v _ rfl, trivial⟩ rfl) rfl trivial ⟨rfl, trivial⟩ ?_
  refine G.op3 (op_storeA (cs' := [bI .u64 r1.N, bI .i64 r1.End]) ti83 rfl rfl (Ev.t 7 (.ptr 1007 0)) (Ev.t 11 (.g (.agg [.v (.int .u64 r1.N), vI r1.End])))) rfl ⟨rfl, rfl, trivial⟩ ⟨rfl, trivial⟩ ?_
  refine G.endOps ?_
  refine G.seq ?_
  refine G.seq ?_
  refine G.joinC (T := Bool) (fun y2 => ⟨[(0, oS s_0), (6, .one (.ptr 1006 0)), (7, .one (.ptr 1007 0)), (36, oB y2)], [(1006, some (.blk 86 [bS ByteArray.empty, bI .i64 0])), (1007, some (.blk 83 [bI .u64 r1.N, bI .i64 r1.End]))]⟩) (fun y2 => ref01_ReadText_k1 s_0 r1 y2 = some r) (fun y2 hF => ?_) (fun J5 => ?_)
  · unfold ref01_ReadText_k1 at hF
    refine ifS hF (fun hc3 hF => ?_) (fun hc3 hF => ?_)
    · refine G.cond rfl (fun _ => ?_) (fun hx => by rw [hc3] at hx; cases hx)
      refine G.seq ?_
      refine G.region ?_
      refine G.op1 (op_build (zs := [vS ByteArray.empty, vI 0]) (ds := [vS ByteArray.empty, vI 0]) Try.underlying86 ti86 (pl86 _ Try.underlying86) ⟨.v _ rfl, .v _ rfl, trivial⟩ EvP.nil rfl rfl) rfl trivial trivial ?_
      refine G.op3 (op_storeA (cs' := [bS ByteArray.empty, bI .i64 0]) ti86 rfl rfl (Ev.t 6 (.ptr 1006 0)) (Ev.t 37 (.g (.agg [vS ByteArray.empty, vI 0])))) rfl ⟨rfl, rfl, trivial⟩ ⟨rfl, trivial⟩ ?_
      refine G.endOps ?_
      cases hF
      exact G.ret1 Try.results38 (RVar.cellA (ds := [vS ByteArray.empty, vI 0]) Try.underlying86 rfl ti86 rfl) ⟨rfl, trivial⟩ ⟨rfl, trivial⟩
    · refine G.cond rfl (fun hx => by rw [hc3] at hx; cases hx) (fun _ => ?_)
      refine G.skip ?_
      refine G.seq ?_
      refine G.region ?_
      refine G.op1 (op_fieldP (off' := 1) Try.underlying83 rfl ti3 (by decide) rfl (Ev.t 7 (.ptr 1007 0)) rfl) rfl ⟨rfl, trivial⟩ trivial ?_
      refine G.op1 (op_load1P (c := bI .i64 r1.End) Try.underlying3 rfl rfl (Ev.t 38 (.ptr 1007 1)) rfl) rfl ⟨rfl, trivial⟩ ⟨rfl, trivial⟩ ?_
      refine G.op1 (op_fieldP (off' := 0) Try.underlying83 rfl ti55 (by decide) rfl (Ev.t 7 (.ptr 1007 0)) rfl) rfl ⟨rfl, trivial⟩ trivial ?_
      refine G.op1 (op_load1P (c := bI .u64 r1.N) Try.underlying55 rfl rfl (Ev.t 40 (.ptr 1007 0)) rfl) rfl ⟨rfl, trivial⟩ ⟨rfl, trivial⟩ ?_
      refine G.op1 (op_convI Try.underlying55 Try.underlying3 (Ev.t 41 (bI .u64 r1.N)) rfl) rfl ⟨rfl, trivial⟩ trivial ?_
      refine G.op1 (op_add (Ev.t 39 (bI .i64 r1.End)) (Ev.t 42 (bI .i64 (IntKind.wrap .i64 r1.N))) rfl) rfl ⟨rfl, rfl, trivial⟩ trivial ?_
      refine G.op1 (op_assign (Ev.t 43 (bI .i64 (IntKind.wrap .i64 (r1.End + (IntKind.wrap .i64 r1.N))))) rfl) rfl ⟨rfl, trivial⟩ trivial ?_
      refine G.endOps ?_
      refine G.seq ?_
      refine G.region ?_
      refine G.op1 (op_move (Ev.t 0 (bS s_0)) rfl) rfl ⟨rfl, trivial⟩ trivial ?_
      refine G.op1 (op_fieldP (off' := 1) Try.underlying83 rfl ti3 (by decide) rfl (Ev.t 7 (.ptr 1007 0)) rfl) rfl ⟨rfl, trivial⟩ trivial ?_
      refine G.op1 (op_load1P (c := bI .i64 r1.End) Try.underlying3 rfl rfl (Ev.t 45 (.ptr 1007 1)) rfl) rfl ⟨rfl, trivial⟩ ⟨rfl, trivial⟩ ?_
      refine G.op1 (op_move (Ev.t 8 (bI .i64 (IntKind.wrap .i64 (r1.End + (IntKind.wrap .i64 r1.N))))) rfl) rfl ⟨rfl, trivial⟩ trivial ?_
      obtain ⟨s4, hs4, hF⟩ := bindS hF
      refine G.op1 (OpL.cast (op_sliceS (lo := some r1.End) (hi := some (IntKind.wrap .i64 (r1.End + (IntKind.wrap .i64 r1.N)))) Try.underlying9 (ssub_ok hs4).1 (ssub_ok hs4).2.1 (ssub_ok hs4).2.2.1 (Ev.t 44 (bS s_0)) (EvO.some (Ev.t 46 (bI .i64 r1.End))) (EvO.some (Ev.t 47 (bI .i64 (IntKind.wrap .i64 (r1.End + (IntKind.wrap .i64 r1.N)))))) rfl) (congrArg (fun s => bS s) (ssub_ok hs4).2.2.2)) rfl ⟨rfl, rfl, rfl, trivial⟩ trivial ?_
      refine G.op1 (op_move (Ev.t 8 (bI .i64 (IntKind.wrap .i64 (r1.End + (IntKind.wrap .i64 r1.N))))) rfl) rfl ⟨rfl, trivial⟩ trivial ?_
      refine G.op1 (op_build (zs := [vS ByteArray.empty, vI 0]) (ds := [vS s4, vI (IntKind.wrap .i64 (r1.End + (IntKind.wrap .i64 r1.N)))]) Try.underlying86 ti86 (pl86 _ Try.underlying86) ⟨.v _ rfl, .v _ rfl, trivial⟩ (EvP.cons (Ev.t 48 (bS s4)) (EvP.cons (Ev.t 49 (bI .i64 (IntKind.wrap .i64 (r1.End + (IntKind.wrap .i64 r1.N))))) EvP.nil)) rfl rfl) rfl ⟨rfl, rfl, trivial⟩ trivial ?_
      refine G.op3 (op_storeA (cs' := [bS s4, bI .i64 (IntKind.wrap .i64 (r1.End + (IntKind.wrap .i64 r1.N)))]) ti86 rfl rfl (Ev.t 6 (.ptr 1006 0)) (Ev.t 50 (.g (.agg [vS s4, vI (IntKind.wrap .i64 (r1.End + (IntKind.wrap .i64 r1.N)))])))) rfl ⟨rfl, rfl, trivial⟩ ⟨rfl, trivial⟩ ?_
      refine G.endOps ?_
      cases hF
      exact G.ret1 Try.results38 (RVar.cellA (ds := [vS s4, vI (IntKind.wrap .i64 (r1.End + (IntKind.wrap .i64 r1.N)))]) Try.underlying86 rfl ti86 rfl) ⟨rfl, trivial⟩ ⟨rfl, trivial⟩
  refine G.region ?_
  refine G.op1 (op_fieldP (off' := 1) Try.underlying83 rfl ti3 (by decide) rfl (Ev.t 7 (.ptr 1007 0)) rfl) rfl ⟨rfl, trivial⟩ trivial ?_
  refine G.op1 (op_load1P (c := bI .i64 r1.End) Try.underlying3 rfl rfl (Ev.t 12 (.ptr 1007 1)) rfl) rfl ⟨rfl, trivial⟩ ⟨rfl, trivial⟩ ?_
  refine G.op1 (op_eqI (Ev.t 13 (bI .i64 r1.End)) (Ev.c _ rfl) rfl) rfl ⟨rfl, trivial⟩ trivial ?_
  refine G.op1 (op_move (Ev.t 14 (bB (decide (r1.End = 0)))) rfl) rfl ⟨rfl, trivial⟩ trivial ?_
  refine G.joinL (T := Bool) 3 (fun y6 => ⟨[(0, oS s_0), (2, oI most_2), (6, .one (.ptr 1006 0)), (7, .one (.ptr 1007 0)), (18, oB y6)], [(1006, some (.blk 86 [bS ByteArray.empty, bI .i64 0])), (1007, some (.blk 83 [bI .u64 r1.N, bI .i64 r1.End]))]⟩) (fun y6 => ref01_ReadText_k2 s_0 most_2 r1 y6 = some r) (fun y6 hF => ?_) (fun J11 => ?_)
  · unfold ref01_ReadText_k2 at hF
    refine G.op1 (op_move (Ev.t 18 (bB y6)) rfl) rfl ⟨rfl, trivial⟩ trivial ?_
    refine G.joinL (T := Bool) 6 (fun y7 => ⟨[(0, oS s_0), (6, .one (.ptr 1006 0)), (7, .one (.ptr 1007 0)), (25, oB y7)], [(1006, some (.blk 86 [bS ByteArray.empty, bI .i64 0])), (1007, some (.blk 83 [bI .u64 r1.N, bI .i64 r1.End]))]⟩) (fun y7 => ref01_ReadText_k3 s_0 r1 y7 = some r) (fun y7 hF => ?_) (fun J9 => ?_)
    · unfold ref01_ReadText_k3 at hF
      refine G.op1 (op_move (Ev.t 25 (bB y7)) rfl) rfl ⟨rfl, trivial⟩ trivial ?_
      refine ifS hF (fun hc8 hF => ?_) (fun hc8 hF => ?_)
      · refine G.known (t := 26) hc8 rfl ?_
        refine G.opN1 rfl rfl rfl rfl rfl ?_
        refine G.opN1 rfl rfl rfl rfl rfl ?_
        refine G.opN1 rfl rfl rfl rfl rfl ?_
        refine G.opN1 rfl rfl rfl rfl rfl ?_
        refine G.opN1 rfl rfl rfl rfl rfl ?_
        refine G.opN1 rfl rfl rfl rfl rfl ?_
        refine G.opN1 rfl rfl rfl rfl rfl ?_
        refine G.opN1 rfl rfl rfl rfl rfl ?_
        refine G.opN1 rfl rfl rfl rfl rfl ?_
        refine G.op1 (op_pickT (Ev.t 26 (bB true)) (Ev.c _ rfl) rfl) rfl ⟨rfl, trivial⟩ trivial ?_
        refine G.endOps ?_
        exact G.arr (J5 true hF) ⟨rfl, rfl, rfl, rfl, trivial⟩ ⟨rfl, rfl, trivial⟩ rfl
      · refine G.known (t := 26) hc8 rfl ?_
        refine G.opG1 (op_fieldP (off' := 0) Try.underlying83 rfl ti55 (by decide) rfl (Ev.t 7 (.ptr 1007 0)) rfl) rfl rfl rfl ⟨rfl, trivial⟩ trivial ?_
        refine G.opG1 (op_load1P (c := bI .u64 r1.N) Try.underlying55 rfl rfl (Ev.t 27 (.ptr 1007 0)) rfl) rfl rfl rfl ⟨rfl, trivial⟩ ⟨rfl, trivial⟩ ?_
        refine G.opG1 (op_move (Ev.t 0 (bS s_0)) rfl) rfl rfl rfl ⟨rfl, trivial⟩ trivial ?_
        refine G.opG1 (op_lenS Try.underlying9 (Ev.t 29 (bS s_0)) rfl) rfl rfl rfl ⟨rfl, trivial⟩ trivial ?_
        refine G.opG1 (op_fieldP (off' := 1) Try.underlying83 rfl ti3 (by decide) rfl (Ev.t 7 (.ptr 1007 0)) rfl) rfl rfl rfl ⟨rfl, trivial⟩ trivial ?_
        refine G.opG1 (op_load1P (c := bI .i64 r1.End) Try.underlying3 rfl rfl (Ev.t 31 (.ptr 1007 1)) rfl) rfl rfl rfl ⟨rfl, trivial⟩ ⟨rfl, trivial⟩ ?_
        refine G.opG1 (op_sub (Ev.t 30 (bI .i64 (s_0.size : Int))) (Ev.t 32 (bI .i64 r1.End)) rfl) rfl rfl rfl ⟨rfl, rfl, trivial⟩ trivial ?_
        refine G.opG1 (op_convI Try.underlying3 Try.underlying55 (Ev.t 33 (bI .i64 (IntKind.wrap .i64 ((s_0.size : Int) - r1.End)))) rfl) rfl rfl rfl ⟨rfl, trivial⟩ trivial ?_
        refine G.opG1 (op_gtr (Ev.t 28 (bI .u64 r1.N)) (Ev.t 34 (bI .u64 (IntKind.wrap .u64 (IntKind.wrap .i64 ((s_0.size : Int) - r1.End))))) rfl) rfl rfl rfl ⟨rfl, rfl, trivial⟩ trivial ?_
        refine G.op1 (op_pickF (Ev.t 26 (bB false)) (Ev.t 35 (bB (decide ((IntKind.wrap .u64 (IntKind.wrap .i64 ((s_0.size : Int) - r1.End))) < r1.N)))) rfl) rfl ⟨rfl, rfl, trivial⟩ trivial ?_
        refine G.endOps ?_
        exact G.arr (J5 (decide ((IntKind.wrap .u64 (IntKind.wrap .i64 ((s_0.size : Int) - r1.End))) < r1.N)) hF) ⟨rfl, rfl, rfl, rfl, trivial⟩ ⟨rfl, rfl, trivial⟩ rfl
    refine ifS hF (fun hc10 hF => ?_) (fun hc10 hF => ?_)
    · refine G.known (t := 19) hc10 rfl ?_
      refine G.opN1 rfl rfl rfl rfl rfl ?_
      refine G.opN1 rfl rfl rfl rfl rfl ?_
      refine G.opN1 rfl rfl rfl rfl rfl ?_
      refine G.opN1 rfl rfl rfl rfl rfl ?_
      refine G.opN1 rfl rfl rfl rfl rfl ?_
      refine G.op1 (op_pickT (Ev.t 19 (bB true)) (Ev.c _ rfl) rfl) rfl ⟨rfl, trivial⟩ trivial ?_
      exact G.arr (J9 true hF) ⟨rfl, rfl, rfl, rfl, trivial⟩ ⟨rfl, rfl, trivial⟩ rfl
    · refine G.known (t := 19) hc10 rfl ?_
      refine G.opG1 (op_fieldP (off' := 0) Try.underlying83 rfl ti55 (by decide) rfl (Ev.t 7 (.ptr 1007 0)) rfl) rfl rfl rfl ⟨rfl, trivial⟩ trivial ?_
      refine G.opG1 (op_load1P (c := bI .u64 r1.N) Try.underlying55 rfl rfl (Ev.t 20 (.ptr 1007 0)) rfl) rfl rfl rfl ⟨rfl, trivial⟩ ⟨rfl, trivial⟩ ?_
      refine G.opG1 (op_move (Ev.t 2 (bI .i64 most_2)) rfl) rfl rfl rfl ⟨rfl, trivial⟩ trivial ?_
      refine G.opG1 (op_convI Try.underlying3 Try.underlying55 (Ev.t 22 (bI .i64 most_2)) rfl) rfl rfl rfl ⟨rfl, trivial⟩ trivial ?_
      refine G.opG1 (op_gtr (Ev.t 21 (bI .u64 r1.N)) (Ev.t 23 (bI .u64 (IntKind.wrap .u64 most_2))) rfl) rfl rfl rfl ⟨rfl, rfl, trivial⟩ trivial ?_
      refine G.op1 (op_pickF (Ev.t 19 (bB false)) (Ev.t 24 (bB (decide ((IntKind.wrap .u64 most_2) < r1.N)))) rfl) rfl ⟨rfl, rfl, trivial⟩ trivial ?_
      exact G.arr (J9 (decide ((IntKind.wrap .u64 most_2) < r1.N)) hF) ⟨rfl, rfl, rfl, rfl, trivial⟩ ⟨rfl, rfl, trivial⟩ rfl
  refine ifS hF (fun hc12 hF => ?_) (fun hc12 hF => ?_)
  · refine G.known (t := 15) hc12 rfl ?_
    refine G.opN1 rfl rfl rfl rfl rfl ?_
    refine G.opN1 rfl rfl rfl rfl rfl ?_
    refine G.op1 (op_pickT (Ev.t 15 (bB true)) (Ev.c _ rfl) rfl) rfl ⟨rfl, trivial⟩ trivial ?_
    exact G.arr (J11 true hF) ⟨rfl, rfl, rfl, rfl, rfl, trivial⟩ ⟨rfl, rfl, trivial⟩ rfl
  · refine G.known (t := 15) hc12 rfl ?_
    refine G.opG1 (op_move (Ev.t 2 (bI .i64 most_2)) rfl) rfl rfl rfl ⟨rfl, trivial⟩ trivial ?_
    refine G.opG1 (op_lss (Ev.t 16 (bI .i64 most_2)) (Ev.c _ rfl) rfl) rfl rfl rfl ⟨rfl, trivial⟩ trivial ?_
    refine G.op1 (op_pickF (Ev.t 15 (bB false)) (Ev.t 17 (bB (decide (most_2 < 0)))) rfl) rfl ⟨rfl, rfl, trivial⟩ trivial ?_
    exact G.arr (J11 (decide (most_2 < 0)) hF) ⟨rfl, rfl, rfl, rfl, rfl, trivial⟩ ⟨rfl, rfl, trivial⟩ rfl


set_option maxRecDepth 20000 in
set_option maxHeartbeats 2000000 in
theorem ct_ref06_ReadRow (s_0 : ByteArray) (r : (Api_Row × Bool)) (hF : ref06_ReadRow s_0 = some r) : Ct Try.prog 14 [.g (.d (vS s_0))] (.tup [.agg (encApi_Row r.1), .d (vB r.2)]) := by
  unfold ref06_ReadRow at hF
  refine Ct.intro Try.func14 rfl Try.ntmps14 rfl rfl fun M w => ?_
  refine G.seq ?_
  refine G.region ?_
  refine G.op2 (op_alloc (k := 1002) (cs := [.g (.d (.sl 2 (List.map encApi_Range ([] : (List Api_Range))))), .g (.d (.sl 1 (List.map encI_i64 ([] : (List Int))))), .g (.d (.sl 1 (List.map encI_i64 ([] : (List Int)))))]) ti31 ⟨.n 2, .n 1, .n 1, trivial⟩ rfl) rfl trivial ⟨rfl, trivial⟩ ?_
  refine G.op1 (op_assign (Ev.c _ rfl) rfl) rfl trivial trivial ?_
  refine G.endOps ?_
  refine G.seq ?_
  refine G.region ?_
  refine G.op1 (op_move (Ev.t 0 (bS s_0)) rfl) rfl ⟨rfl, trivial⟩ trivial ?_
  obtain ⟨r1, hr1, hF⟩ := bindS hF
  refine G.op1 (op_callQ (sv := .one (.g (.agg [.v (.int .u64 r1.N), vI r1.End]))) cf37 (ct_ref01_Read s_0 0 r1 hr1) rfl rfl (EvQL.cons (EvQ.g (Ev.t 16 (bS s_0))) (EvQL.cons (EvQ.g (Ev.c _ rfl)) EvQL.nil)) rfl) rfl ⟨rfl, trivial⟩ trivial ?_
  refine G.op2 (op_alloc (k := 1004) (cs := [bI .u64 0, bI .i64 0]) ti83 ⟨.v _ rfl, .v _ rfl, trivial⟩ rfl) rfl trivial ⟨rfl, trivial⟩ ?_
  refine G.op3 (op_storeA (cs' := [bI .u64 r1.N, bI .i64 r1.End]) ti83 rfl rfl (Ev.t 4 (.ptr 1004 0)) (Ev.t 17 (.g (.agg [.v (.int .u64 r1.N), vI r1.End])))) rfl ⟨rfl, rfl, trivial⟩ ⟨rfl, trivial⟩ ?_
  refine G.endOps ?_
  refine G.seq ?_
  refine G.seq ?_
  refine G.joinC (T := Bool) (fun y2 => ⟨[(0, oS s_0), (2, .one (.ptr 1002 0)), (4, .one (.ptr 1004 0)), (30, oB y2)], [(1002, some (.blk 31 [.g (.d (.sl 2 (List.map encApi_Range ([] : (List Api_Range))))), .g (.d (.sl 1 (List.map encI_i64 ([] : (List Int))))), .g (.d (.sl 1 (List.map encI_i64 ([] : (List Int)))))])), (1004, some (.blk 83 [bI .u64 r1.N, bI .i64 r1.End]))]⟩) (fun y2 => ref06_ReadRow_k1 s_0 r1 y2 = some r) (fun y2 hF => ?_) (fun J48 => ?_)
  · unfold ref06_ReadRow_k1 at hF
    refine ifS hF (fun hc3 hF => ?_) (fun hc3 hF => ?_)
    · refine G.cond rfl (fun _ => ?_) (fun hx => by rw [hc3] at hx; cases hx)
      refine G.seq ?_
      refine G.region ?_
      refine G.op1 (op_build (zs := [.sl 2 (List.map encApi_Range ([] : (List Api_Range))), .sl 1 (List.map encI_i64 ([] : (List Int))), .sl 1 (List.map encI_i64 ([] : (List Int)))]) (ds := [.sl 2 (List.map encApi_Range ([] : (List Api_Range))), .sl 1 (List.map encI_i64 ([] : (List Int))), .sl 1 (List.map encI_i64 ([] : (List Int)))]) Try.underlying31 ti31 (pl31 _ Try.underlying31) ⟨.n 2, .n 1, .n 1, trivial⟩ EvP.nil rfl rfl) rfl trivial trivial ?_
      refine G.op3 (op_storeA (cs' := [.g (.d (.sl 2 (List.map encApi_Range ([] : (List Api_Range))))), .g (.d (.sl 1 (List.map encI_i64 ([] : (List Int))))), .g (.d (.sl 1 (List.map encI_i64 ([] : (List Int)))))]) ti31 rfl rfl (Ev.t 2 (.ptr 1002 0)) (Ev.t 31 (.g (.agg [.sl 2 (List.map encApi_Range ([] : (List Api_Range))), .sl 1 (List.map encI_i64 ([] : (List Int))), .sl 1 (List.map encI_i64 ([] : (List Int)))])))) rfl ⟨rfl, rfl, trivial⟩ ⟨rfl, trivial⟩ ?_
      refine G.op1 (op_assign (Ev.c _ rfl) rfl) rfl trivial trivial ?_
      refine G.endOps ?_
      cases hF
      exact G.ret2 Try.results14 (RVar.cellA (ds := [.sl 2 (List.map encApi_Range ([] : (List Api_Range))), .sl 1 (List.map encI_i64 ([] : (List Int))), .sl 1 (List.map encI_i64 ([] : (List Int)))]) Try.underlying31 rfl ti31 rfl) (RVar.tmp 3 _) ⟨rfl, rfl, trivial⟩ ⟨rfl, trivial⟩
    · refine G.cond rfl (fun hx => by rw [hc3] at hx; cases hx) (fun _ => ?_)
      refine G.skip ?_
      refine G.seq ?_
      refine G.region ?_
      refine G.op1 (op_build (zs := [.v (.slice none 0 0), .v (.slice none 0 0), .v (.slice none 0 0)]) (ds := [.v (.slice none 0 0), .v (.slice none 0 0), .v (.slice none 0 0)]) Try.underlying31 ti31 (pl31 _ Try.underlying31) ⟨.v _ rfl, .v _ rfl, .v _ rfl, trivial⟩ EvP.nil rfl rfl) rfl trivial trivial ?_
      refine G.op2 (op_alloc (k := 1005) (cs := [.g (.d (.v (.slice none 0 0))), .g (.d (.v (.slice none 0 0))), .g (.d (.v (.slice none 0 0)))]) ti31 ⟨.v _ rfl, .v _ rfl, .v _ rfl, trivial⟩ rfl) rfl trivial ⟨rfl, trivial⟩ ?_
      refine G.op3 (op_storeA (cs' := [.g (.d (.v (.slice none 0 0))), .g (.d (.v (.slice none 0 0))), .g (.d (.v (.slice none 0 0)))]) ti31 rfl rfl (Ev.t 5 (.ptr 1005 0)) (Ev.t 32 (.g (.agg [.v (.slice none 0 0), .v (.slice none 0 0), .v (.slice none 0 0)])))) rfl ⟨rfl, rfl, trivial⟩ ⟨rfl, trivial⟩ ?_
      refine G.rowCell (kb := 1005) (kk := 5080) (E := 37) (size := 2) (j := 0) (cs' := [.own 5080 (List.map encApi_Range ([] : List Api_Range)), .g (.d (.v (.slice none 0 0))), .g (.d (.v (.slice none 0 0)))]) rfl rfl rfl rfl rfl rfl ?_
      refine G.rowCell (kb := 1005) (kk := 5081) (E := 3) (size := 1) (j := 1) (cs' := [.own 5080 (List.map encApi_Range ([] : List Api_Range)), .own 5081 (List.map encI_i64 ([] : List Int)), .g (.d (.v (.slice none 0 0)))]) rfl rfl rfl rfl rfl rfl ?_
      refine G.rowCell (kb := 1005) (kk := 5082) (E := 3) (size := 1) (j := 2) (cs' := [.own 5080 (List.map encApi_Range ([] : List Api_Range)), .own 5081 (List.map encI_i64 ([] : List Int)), .own 5082 (List.map encI_i64 ([] : List Int))]) rfl rfl rfl rfl rfl rfl ?_
      refine G.endOps ?_
      refine G.seq ?_
      refine G.region ?_
      refine G.op1 (op_fieldP (off' := 1) Try.underlying83 rfl ti3 (by decide) rfl (Ev.t 4 (.ptr 1004 0)) rfl) rfl ⟨rfl, trivial⟩ trivial ?_
      refine G.op1 (op_load1P (c := bI .i64 r1.End) Try.underlying3 rfl rfl (Ev.t 33 (.ptr 1004 1)) rfl) rfl ⟨rfl, trivial⟩ ⟨rfl, trivial⟩ ?_
      refine G.op1 (op_assign (Ev.t 34 (bI .i64 r1.End)) rfl) rfl ⟨rfl, trivial⟩ trivial ?_
      refine G.endOps ?_
      refine G.seq ?_
      refine G.region ?_
      refine G.op1 (op_assign (Ev.c _ rfl) rfl) rfl trivial trivial ?_
      refine G.endOps ?_
      refine G.seq ?_
      refine G.seq ?_
      refine G.region ?_
      refine G.op1 (op_assign (Ev.c _ rfl) rfl) rfl trivial trivial ?_
      refine G.endOps ?_
      refine G.joinC (T := Int × (List Api_Range)) (fun y4 => ⟨[(0, oS s_0), (2, .one (.ptr 1002 0)), (4, .one (.ptr 1004 0)), (5, .one (.ptr 1005 0)), (6, oI y4.1)], [(1002, some (.blk 31 [.g (.d (.sl 2 (List.map encApi_Range ([] : (List Api_Range))))), .g (.d (.sl 1 (List.map encI_i64 ([] : (List Int))))), .g (.d (.sl 1 (List.map encI_i64 ([] : (List Int)))))])), (1004, some (.blk 83 [bI .u64 r1.N, bI .i64 r1.End])), (1005, some (.blk 31 [.own 5080 (List.map encApi_Range y4.2), .own 5081 (List.map encI_i64 ([] : List Int)), .own 5082 (List.map encI_i64 ([] : List Int))])), (5080, some (.row 37 2 (List.map encApi_Range y4.2) false)), (5081, some (.row 3 1 (List.map encI_i64 ([] : List Int)) false)), (5082, some (.row 3 1 (List.map encI_i64 ([] : List Int)) false))]⟩) (fun y4 => ref06_ReadRow_k2 s_0 r1 y4 = some r) (fun y4 hF => ?_) (fun J36 => ?_)
      · unfold ref06_ReadRow_k2 at hF
        refine G.seq ?_
        refine G.seq ?_
        refine G.region ?_
        refine G.op1 (op_assign (Ev.c _ rfl) rfl) rfl trivial trivial ?_
        refine G.endOps ?_
        refine G.joinC (T := Int × (List Int)) (fun y5 => ⟨[(0, oS s_0), (2, .one (.ptr 1002 0)), (5, .one (.ptr 1005 0)), (6, oI y5.1)], [(1002, some (.blk 31 [.g (.d (.sl 2 (List.map encApi_Range ([] : (List Api_Range))))), .g (.d (.sl 1 (List.map encI_i64 ([] : (List Int))))), .g (.d (.sl 1 (List.map encI_i64 ([] : (List Int)))))])), (1005, some (.blk 31 [.own 5080 (List.map encApi_Range y4.2), .own 5081 (List.map encI_i64 y5.2), .own 5082 (List.map encI_i64 ([] : List Int))])), (5080, some (.row 37 2 (List.map encApi_Range y4.2) false)), (5081, some (.row 3 1 (List.map encI_i64 y5.2) false)), (5082, some (.row 3 1 (List.map encI_i64 ([] : List Int)) false))]⟩) (fun y5 => ref06_ReadRow_k3 s_0 y4 y5 = some r) (fun y5 hF => ?_) (fun J24 => ?_)
        · unfold ref06_ReadRow_k3 at hF
          refine G.seq ?_
          refine G.region ?_
          refine G.op1 (op_move (Ev.t 0 (bS s_0)) rfl) rfl ⟨rfl, trivial⟩ trivial ?_
          refine G.op1 (op_move (Ev.t 6 (bI .i64 y5.1)) rfl) rfl ⟨rfl, trivial⟩ trivial ?_
          obtain ⟨r6, hr6, hF⟩ := bindS hF
          refine G.op1 (op_callQ (sv := .one (.g (.agg [.v (.int .u64 r6.N), vI r6.End]))) cf37 (ct_ref01_Read s_0 y5.1 r6 hr6) rfl rfl (EvQL.cons (EvQ.g (Ev.t 96 (bS s_0))) (EvQL.cons (EvQ.g (Ev.t 97 (bI .i64 y5.1))) EvQL.nil)) rfl) rfl ⟨rfl, rfl, trivial⟩ trivial ?_
          refine G.op2 (op_alloc (k := 1013) (cs := [bI .u64 0, bI .i64 0]) ti83 ⟨.v _ rfl, .v _ rfl, trivial⟩ rfl) rfl trivial ⟨rfl, trivial⟩ ?_
          refine G.op3 (op_storeA (cs' := [bI .u64 r6.N, bI .i64 r6.End]) ti83 rfl rfl (Ev.t 13 (.ptr 1013 0)) (Ev.t 98 (.g (.agg [.v (.int .u64 r6.N), vI r6.End])))) rfl ⟨rfl, rfl, trivial⟩ ⟨rfl, trivial⟩ ?_
          refine G.endOps ?_
          refine G.seq ?_
          refine G.seq ?_
          refine G.joinC (T := Bool) (fun y7 => ⟨[(0, oS s_0), (2, .one (.ptr 1002 0)), (5, .one (.ptr 1005 0)), (13, .one (.ptr 1013 0)), (106, oB y7)], [(1002, some (.blk 31 [.g (.d (.sl 2 (List.map encApi_Range ([] : (List Api_Range))))), .g (.d (.sl 1 (List.map encI_i64 ([] : (List Int))))), .g (.d (.sl 1 (List.map encI_i64 ([] : (List Int)))))])), (1005, some (.blk 31 [.own 5080 (List.map encApi_Range y4.2), .own 5081 (List.map encI_i64 y5.2), .own 5082 (List.map encI_i64 ([] : List Int))])), (1013, some (.blk 83 [bI .u64 r6.N, bI .i64 r6.End])), (5080, some (.row 37 2 (List.map encApi_Range y4.2) false)), (5081, some (.row 3 1 (List.map encI_i64 y5.2) false)), (5082, some (.row 3 1 (List.map encI_i64 ([] : List Int)) false))]⟩) (fun y7 => ref06_ReadRow_k4 s_0 y4 y5 r6 y7 = some r) (fun y7 hF => ?_) (fun J22 => ?_)
          · unfold ref06_ReadRow_k4 at hF
            refine ifS hF (fun hc8 hF => ?_) (fun hc8 hF => ?_)
            · refine G.cond rfl (fun _ => ?_) (fun hx => by rw [hc8] at hx; cases hx)
              refine G.seq ?_
              refine G.region ?_
              refine G.op1 (op_build (zs := [.sl 2 (List.map encApi_Range ([] : (List Api_Range))), .sl 1 (List.map encI_i64 ([] : (List Int))), .sl 1 (List.map encI_i64 ([] : (List Int)))]) (ds := [.sl 2 (List.map encApi_Range ([] : (List Api_Range))), .sl 1 (List.map encI_i64 ([] : (List Int))), .sl 1 (List.map encI_i64 ([] : (List Int)))]) Try.underlying31 ti31 (pl31 _ Try.underlying31) ⟨.n 2, .n 1, .n 1, trivial⟩ EvP.nil rfl rfl) rfl trivial trivial ?_
              refine G.op3 (op_storeA (cs' := [.g (.d (.sl 2 (List.map encApi_Range ([] : (List Api_Range))))), .g (.d (.sl 1 (List.map encI_i64 ([] : (List Int))))), .g (.d (.sl 1 (List.map encI_i64 ([] : (List Int)))))]) ti31 rfl rfl (Ev.t 2 (.ptr 1002 0)) (Ev.t 107 (.g (.agg [.sl 2 (List.map encApi_Range ([] : (List Api_Range))), .sl 1 (List.map encI_i64 ([] : (List Int))), .sl 1 (List.map encI_i64 ([] : (List Int)))])))) rfl ⟨rfl, rfl, trivial⟩ ⟨rfl, trivial⟩ ?_
              refine G.op1 (op_assign (Ev.c _ rfl) rfl) rfl trivial trivial ?_
              refine G.endOps ?_
              cases hF
              exact G.ret2 Try.results14 (RVar.cellA (ds := [.sl 2 (List.map encApi_Range ([] : (List Api_Range))), .sl 1 (List.map encI_i64 ([] : (List Int))), .sl 1 (List.map encI_i64 ([] : (List Int)))]) Try.underlying31 rfl ti31 rfl) (RVar.tmp 3 _) ⟨rfl, rfl, trivial⟩ ⟨rfl, trivial⟩
            · refine G.cond rfl (fun hx => by rw [hc8] at hx; cases hx) (fun _ => ?_)
              refine G.skip ?_
              refine G.seq ?_
              refine G.region ?_
              refine G.op1 (op_fieldP (off' := 1) Try.underlying83 rfl ti3 (by decide) rfl (Ev.t 13 (.ptr 1013 0)) rfl) rfl ⟨rfl, trivial⟩ trivial ?_
              refine G.op1 (op_load1P (c := bI .i64 r6.End) Try.underlying3 rfl rfl (Ev.t 108 (.ptr 1013 1)) rfl) rfl ⟨rfl, trivial⟩ ⟨rfl, trivial⟩ ?_
              refine G.op1 (op_assign (Ev.t 109 (bI .i64 r6.End)) rfl) rfl ⟨rfl, trivial⟩ trivial ?_
              refine G.endOps ?_
              refine G.seq ?_
              refine G.seq ?_
              refine G.region ?_
              refine G.op1 (op_assign (Ev.c _ rfl) rfl) rfl trivial trivial ?_
              refine G.endOps ?_
              refine G.joinC (T := Int × (List Int)) (fun y9 => ⟨[(0, oS s_0), (2, .one (.ptr 1002 0)), (5, .one (.ptr 1005 0)), (6, oI y9.1)], [(1002, some (.blk 31 [.g (.d (.sl 2 (List.map encApi_Range ([] : (List Api_Range))))), .g (.d (.sl 1 (List.map encI_i64 ([] : (List Int))))), .g (.d (.sl 1 (List.map encI_i64 ([] : (List Int)))))])), (1005, some (.blk 31 [.own 5080 (List.map encApi_Range y4.2), .own 5081 (List.map encI_i64 y5.2), .own 5082 (List.map encI_i64 y9.2)])), (5080, some (.row 37 2 (List.map encApi_Range y4.2) false)), (5081, some (.row 3 1 (List.map encI_i64 y5.2) false)), (5082, some (.row 3 1 (List.map encI_i64 y9.2) false))]⟩) (fun y9 => ref06_ReadRow_k5 s_0 y4 y5 y9 = some r) (fun y9 hF => ?_) (fun J10 => ?_)
              · unfold ref06_ReadRow_k5 at hF
                refine G.seq ?_
                refine G.region ?_
                refine G.viewCell (kb := 1005) (j := 0) (cs' := [.g (.d (.sl 2 (List.map encApi_Range y4.2))), .own 5081 (List.map encI_i64 y5.2), .own 5082 (List.map encI_i64 y9.2)]) rfl rfl rfl rfl ?_
                refine G.viewCell (kb := 1005) (j := 1) (cs' := [.g (.d (.sl 2 (List.map encApi_Range y4.2))), .g (.d (.sl 1 (List.map encI_i64 y5.2))), .own 5082 (List.map encI_i64 y9.2)]) rfl rfl rfl rfl ?_
                refine G.viewCell (kb := 1005) (j := 2) (cs' := [.g (.d (.sl 2 (List.map encApi_Range y4.2))), .g (.d (.sl 1 (List.map encI_i64 y5.2))), .g (.d (.sl 1 (List.map encI_i64 y9.2)))]) rfl rfl rfl rfl ?_
                refine G.op1 (op_loadAP (ds := [.sl 2 (List.map encApi_Range y4.2), .sl 1 (List.map encI_i64 y5.2), .sl 1 (List.map encI_i64 y9.2)]) Try.underlying31 rfl ti31 rfl (Ev.t 5 (.ptr 1005 0)) rfl) rfl ⟨rfl, trivial⟩ ⟨rfl, trivial⟩ ?_
                refine G.op1 (op_move (Ev.t 6 (bI .i64 y9.1)) rfl) rfl ⟨rfl, trivial⟩ trivial ?_
                refine G.op1 (op_move (Ev.t 0 (bS s_0)) rfl) rfl ⟨rfl, trivial⟩ trivial ?_
                refine G.op1 (op_lenS Try.underlying9 (Ev.t 141 (bS s_0)) rfl) rfl ⟨rfl, trivial⟩ trivial ?_
                refine G.op1 (op_eqI (Ev.t 140 (bI .i64 y9.1)) (Ev.t 142 (bI .i64 (s_0.size : Int))) rfl) rfl ⟨rfl, rfl, trivial⟩ trivial ?_
                refine G.op3 (op_storeA (cs' := [.g (.d (.sl 2 (List.map encApi_Range y4.2))), .g (.d (.sl 1 (List.map encI_i64 y5.2))), .g (.d (.sl 1 (List.map encI_i64 y9.2)))]) ti31 rfl rfl (Ev.t 2 (.ptr 1002 0)) (Ev.t 139 (.g (.agg [.sl 2 (List.map encApi_Range y4.2), .sl 1 (List.map encI_i64 y5.2), .sl 1 (List.map encI_i64 y9.2)])))) rfl ⟨rfl, rfl, trivial⟩ ⟨rfl, trivial⟩ ?_
                refine G.op1 (op_assign (Ev.t 143 (bB (decide (y9.1 = (s_0.size : Int))))) rfl) rfl ⟨rfl, trivial⟩ trivial ?_
                refine G.endOps ?_
                cases hF
                exact G.ret2 Try.results14 (RVar.cellA (ds := [.sl 2 (List.map encApi_Range y4.2), .sl 1 (List.map encI_i64 y5.2), .sl 1 (List.map encI_i64 y9.2)]) Try.underlying31 rfl ti31 rfl) (RVar.tmp 3 _) ⟨rfl, rfl, trivial⟩ ⟨rfl, trivial⟩
              refine G.block ?_
              refine G.keep (sl' := [(0, oS s_0), (2, .one (.ptr 1002 0)), (5, .one (.ptr 1005 0)), (6, oI r6.End), (13, .one (.ptr 1013 0)), (14, .one (bI .u64 0))]) (hp' := [(1002, some (.blk 31 [.g (.d (.sl 2 (List.map encApi_Range ([] : (List Api_Range))))), .g (.d (.sl 1 (List.map encI_i64 ([] : (List Int))))), .g (.d (.sl 1 (List.map encI_i64 ([] : (List Int)))))])), (1005, some (.blk 31 [.own 5080 (List.map encApi_Range y4.2), .own 5081 (List.map encI_i64 y5.2), .own 5082 (List.map encI_i64 ([] : List Int))])), (1013, some (.blk 83 [bI .u64 r6.N, bI .i64 r6.End])), (5080, some (.row 37 2 (List.map encApi_Range y4.2) false)), (5081, some (.row 3 1 (List.map encI_i64 y5.2) false)), (5082, some (.row 3 1 (List.map encI_i64 ([] : List Int)) false))]) ⟨rfl, rfl, rfl, rfl, rfl, rfl, trivial⟩ ⟨rfl, rfl, rfl, rfl, rfl, rfl, trivial⟩ rfl ?_
              refine G.loopF (fun (v11 : Int × Int × (List Int)) => ⟨[(0, oS s_0), (2, .one (.ptr 1002 0)), (5, .one (.ptr 1005 0)), (6, oI v11.1), (13, .one (.ptr 1013 0)), (14, .one (bI .u64 v11.2.1))], [(1002, some (.blk 31 [.g (.d (.sl 2 (List.map encApi_Range ([] : (List Api_Range))))), .g (.d (.sl 1 (List.map encI_i64 ([] : (List Int))))), .g (.d (.sl 1 (List.map encI_i64 ([] : (List Int)))))])), (1005, some (.blk 31 [.own 5080 (List.map encApi_Range y4.2), .own 5081 (List.map encI_i64 y5.2), .own 5082 (List.map encI_i64 v11.2.2)])), (1013, some (.blk 83 [bI .u64 r6.N, bI .i64 r6.End])), (5080, some (.row 37 2 (List.map encApi_Range y4.2) false)), (5081, some (.row 3 1 (List.map encI_i64 y5.2) false)), (5082, some (.row 3 1 (List.map encI_i64 v11.2.2) false))]⟩) hF rfl (fun K14 again13 v11 J12 hF => ?_)
              unfold ref06_ReadRow_l6 at hF
              refine G.seq ?_
              refine G.seq ?_
              refine G.region ?_
              refine G.op1 (op_move (Ev.t 14 (bI .u64 v11.2.1)) rfl) rfl ⟨rfl, trivial⟩ trivial ?_
              refine G.op1 (op_fieldP (off' := 0) Try.underlying83 rfl ti55 (by decide) rfl (Ev.t 13 (.ptr 1013 0)) rfl) rfl ⟨rfl, trivial⟩ trivial ?_
              refine G.op1 (op_load1P (c := bI .u64 r6.N) Try.underlying55 rfl rfl (Ev.t 111 (.ptr 1013 0)) rfl) rfl ⟨rfl, trivial⟩ ⟨rfl, trivial⟩ ?_
              refine G.op1 (op_lss (Ev.t 110 (bI .u64 v11.2.1)) (Ev.t 112 (bI .u64 r6.N)) rfl) rfl ⟨rfl, rfl, trivial⟩ trivial ?_
              refine G.endOps ?_
              refine ifS hF (fun hc15 hF => ?_) (fun hc15 hF => ?_)
              · refine G.cond rfl (fun _ => ?_) (fun hx => by rw [hc15] at hx; cases hx)
                refine G.skip ?_
                refine G.seq ?_
                refine G.block ?_
                refine G.seq ?_
                refine G.region ?_
                refine G.op1 (op_move (Ev.t 0 (bS s_0)) rfl) rfl ⟨rfl, trivial⟩ trivial ?_
                refine G.op1 (op_move (Ev.t 6 (bI .i64 v11.1)) rfl) rfl ⟨rfl, trivial⟩ trivial ?_
                obtain ⟨r16, hr16, hF⟩ := bindS hF
                refine G.op1 (op_callQ (sv := .one (.g (.agg [.v (.int .u64 r16.N), vI r16.End]))) cf37 (ct_ref01_Read s_0 v11.1 r16 hr16) rfl rfl (EvQL.cons (EvQ.g (Ev.t 116 (bS s_0))) (EvQL.cons (EvQ.g (Ev.t 117 (bI .i64 v11.1))) EvQL.nil)) rfl) rfl ⟨rfl, rfl, trivial⟩ trivial ?_
                refine G.op2 (op_alloc (k := 1015) (cs := [bI .u64 0, bI .i64 0]) ti83 ⟨.v _ rfl, .v _ rfl, trivial⟩ rfl) rfl trivial ⟨rfl, trivial⟩ ?_
                refine G.op3 (op_storeA (cs' := [bI .u64 r16.N, bI .i64 r16.End]) ti83 rfl rfl (Ev.t 15 (.ptr 1015 0)) (Ev.t 118 (.g (.agg [.v (.int .u64 r16.N), vI r16.End])))) rfl ⟨rfl, rfl, trivial⟩ ⟨rfl, trivial⟩ ?_
                refine G.endOps ?_
                refine G.seq ?_
                refine G.seq ?_
                refine G.joinC (T := Bool) (fun y17 => ⟨[(0, oS s_0), (2, .one (.ptr 1002 0)), (5, .one (.ptr 1005 0)), (13, .one (.ptr 1013 0)), (14, .one (bI .u64 v11.2.1)), (15, .one (.ptr 1015 0)), (126, oB y17)], [(1002, some (.blk 31 [.g (.d (.sl 2 (List.map encApi_Range ([] : (List Api_Range))))), .g (.d (.sl 1 (List.map encI_i64 ([] : (List Int))))), .g (.d (.sl 1 (List.map encI_i64 ([] : (List Int)))))])), (1005, some (.blk 31 [.own 5080 (List.map encApi_Range y4.2), .own 5081 (List.map encI_i64 y5.2), .own 5082 (List.map encI_i64 v11.2.2)])), (1013, some (.blk 83 [bI .u64 r6.N, bI .i64 r6.End])), (1015, some (.blk 83 [bI .u64 r16.N, bI .i64 r16.End])), (5080, some (.row 37 2 (List.map encApi_Range y4.2) false)), (5081, some (.row 3 1 (List.map encI_i64 y5.2) false)), (5082, some (.row 3 1 (List.map encI_i64 v11.2.2) false))]⟩) (fun y17 => ref06_ReadRow_k7 again13 v11 r16 y17 = some r) (fun y17 hF => ?_) (fun J20 => ?_)
                · unfold ref06_ReadRow_k7 at hF
                  refine ifS hF (fun hc18 hF => ?_) (fun hc18 hF => ?_)
                  · refine G.cond rfl (fun _ => ?_) (fun hx => by rw [hc18] at hx; cases hx)
                    refine G.seq ?_
                    refine G.region ?_
                    refine G.op1 (op_build (zs := [.sl 2 (List.map encApi_Range ([] : (List Api_Range))), .sl 1 (List.map encI_i64 ([] : (List Int))), .sl 1 (List.map encI_i64 ([] : (List Int)))]) (ds := [.sl 2 (List.map encApi_Range ([] : (List Api_Range))), .sl 1 (List.map encI_i64 ([] : (List Int))), .sl 1 (List.map encI_i64 ([] : (List Int)))]) Try.underlying31 ti31 (pl31 _ Try.underlying31) ⟨.n 2, .n 1, .n 1, trivial⟩ EvP.nil rfl rfl) rfl trivial trivial ?_
                    refine G.op3 (op_storeA (cs' := [.g (.d (.sl 2 (List.map encApi_Range ([] : (List Api_Range))))), .g (.d (.sl 1 (List.map encI_i64 ([] : (List Int))))), .g (.d (.sl 1 (List.map encI_i64 ([] : (List Int)))))]) ti31 rfl rfl (Ev.t 2 (.ptr 1002 0)) (Ev.t 127 (.g (.agg [.sl 2 (List.map encApi_Range ([] : (List Api_Range))), .sl 1 (List.map encI_i64 ([] : (List Int))), .sl 1 (List.map encI_i64 ([] : (List Int)))])))) rfl ⟨rfl, rfl, trivial⟩ ⟨rfl, trivial⟩ ?_
                    refine G.op1 (op_assign (Ev.c _ rfl) rfl) rfl trivial trivial ?_
                    refine G.endOps ?_
                    cases hF
                    exact G.ret2 Try.results14 (RVar.cellA (ds := [.sl 2 (List.map encApi_Range ([] : (List Api_Range))), .sl 1 (List.map encI_i64 ([] : (List Int))), .sl 1 (List.map encI_i64 ([] : (List Int)))]) Try.underlying31 rfl ti31 rfl) (RVar.tmp 3 _) ⟨rfl, rfl, trivial⟩ ⟨rfl, trivial⟩
                  · refine G.cond rfl (fun hx => by rw [hc18] at hx; cases hx) (fun _ => ?_)
                    refine G.skip ?_
                    refine G.seq ?_
                    refine G.region ?_
                    refine G.op1 (op_fieldP (off' := 2) Try.underlying31 rfl ti22 (by decide) rfl (Ev.t 5 (.ptr 1005 0)) rfl) rfl ⟨rfl, trivial⟩ trivial ?_
                    refine G.op1 (op_load1P (c := .own 5082 (List.map encI_i64 v11.2.2)) Try.underlying22 rfl rfl (Ev.t 128 (.ptr 1005 2)) rfl) rfl ⟨rfl, trivial⟩ ⟨rfl, trivial⟩ ?_
                    refine G.op1 (op_fieldP (off' := 0) Try.underlying83 rfl ti55 (by decide) rfl (Ev.t 15 (.ptr 1015 0)) rfl) rfl ⟨rfl, trivial⟩ trivial ?_
                    refine G.op1 (op_load1P (c := bI .u64 r16.N) Try.underlying55 rfl rfl (Ev.t 130 (.ptr 1015 0)) rfl) rfl ⟨rfl, trivial⟩ ⟨rfl, trivial⟩ ?_
                    refine G.op1 (op_convI Try.underlying55 Try.underlying3 (Ev.t 131 (bI .u64 r16.N)) rfl) rfl ⟨rfl, trivial⟩ trivial ?_
                    refine G.op1 (op_sub (Ev.t 132 (bI .i64 (IntKind.wrap .i64 r16.N))) (Ev.c _ rfl) rfl) rfl ⟨rfl, trivial⟩ trivial ?_
                    refine G.op1 (op_buildSlice (es := List.map encI_i64 [IntKind.wrap .i64 ((IntKind.wrap .i64 r16.N) - 1)]) Try.underlying22 ti3 rfl rfl (EvP.cons (Ev.t 133 (bI .i64 (IntKind.wrap .i64 ((IntKind.wrap .i64 r16.N) - 1)))) EvP.nil) rfl rfl (by simp [encI_i64]) rfl) rfl ⟨rfl, trivial⟩ trivial ?_
                    obtain ⟨l19, hl19, hF⟩ := bindS hF
                    refine G.op2 (op_appendO Try.underlying22 ti3 rfl (app_map hl19 encI_i64) (app_b1 hl19 encI_i64) (app_b2 hl19 encI_i64) (Ev.t 129 (.own 5082 (List.map encI_i64 v11.2.2))) (Ev.t 134 (.g (.d (.sl 1 (List.map encI_i64 ([IntKind.wrap .i64 ((IntKind.wrap .i64 r16.N) - 1)])))))) rfl) rfl ⟨rfl, rfl, trivial⟩ ⟨rfl, trivial⟩ ?_
                    refine G.op1 (op_fieldP (off' := 2) Try.underlying31 rfl ti22 (by decide) rfl (Ev.t 5 (.ptr 1005 0)) rfl) rfl ⟨rfl, trivial⟩ trivial ?_
                    refine G.op3 (op_storeO (cs' := [.own 5080 (List.map encApi_Range y4.2), .own 5081 (List.map encI_i64 y5.2), .own 5082 (List.map encI_i64 l19)]) ti22 rfl rfl rfl (Ev.t 136 (.ptr 1005 2)) (Ev.t 135 (.own 5082 (List.map encI_i64 l19)))) rfl ⟨rfl, rfl, trivial⟩ ⟨rfl, rfl, trivial⟩ ?_
                    refine G.endOps ?_
                    refine G.region ?_
                    refine G.op1 (op_fieldP (off' := 1) Try.underlying83 rfl ti3 (by decide) rfl (Ev.t 15 (.ptr 1015 0)) rfl) rfl ⟨rfl, trivial⟩ trivial ?_
                    refine G.op1 (op_load1P (c := bI .i64 r16.End) Try.underlying3 rfl rfl (Ev.t 137 (.ptr 1015 1)) rfl) rfl ⟨rfl, trivial⟩ ⟨rfl, trivial⟩ ?_
                    refine G.op1 (op_assign (Ev.t 138 (bI .i64 r16.End)) rfl) rfl ⟨rfl, trivial⟩ trivial ?_
                    refine G.endOps ?_
                    refine G.endBlock ?_
                    refine G.region ?_
                    refine G.op1 (op_move (Ev.t 14 (bI .u64 v11.2.1)) rfl) rfl ⟨rfl, trivial⟩ trivial ?_
                    refine G.op1 (op_add (Ev.t 114 (bI .u64 v11.2.1)) (Ev.c _ rfl) rfl) rfl ⟨rfl, trivial⟩ trivial ?_
                    refine G.op1 (op_assign (Ev.t 115 (bI .u64 (IntKind.wrap .u64 (v11.2.1 + 1)))) rfl) rfl ⟨rfl, trivial⟩ trivial ?_
                    refine G.endOps ?_
                    exact G.arr (J12 (r16.End, IntKind.wrap .u64 (v11.2.1 + 1), l19) hF) ⟨rfl, rfl, rfl, rfl, rfl, rfl, trivial⟩ ⟨rfl, rfl, rfl, rfl, rfl, rfl, trivial⟩ rfl
                refine G.region ?_
                refine G.op1 (op_fieldP (off' := 1) Try.underlying83 rfl ti3 (by decide) rfl (Ev.t 15 (.ptr 1015 0)) rfl) rfl ⟨rfl, trivial⟩ trivial ?_
                refine G.op1 (op_load1P (c := bI .i64 r16.End) Try.underlying3 rfl rfl (Ev.t 119 (.ptr 1015 1)) rfl) rfl ⟨rfl, trivial⟩ ⟨rfl, trivial⟩ ?_
                refine G.op1 (op_eqI (Ev.t 120 (bI .i64 r16.End)) (Ev.c _ rfl) rfl) rfl ⟨rfl, trivial⟩ trivial ?_
                refine G.op1 (op_move (Ev.t 121 (bB (decide (r16.End = 0)))) rfl) rfl ⟨rfl, trivial⟩ trivial ?_
                refine ifS hF (fun hc21 hF => ?_) (fun hc21 hF => ?_)
                · refine G.known (t := 122) hc21 rfl ?_
                  refine G.opN1 rfl rfl rfl rfl rfl ?_
                  refine G.opN1 rfl rfl rfl rfl rfl ?_
                  refine G.opN1 rfl rfl rfl rfl rfl ?_
                  refine G.op1 (op_pickT (Ev.t 122 (bB true)) (Ev.c _ rfl) rfl) rfl ⟨rfl, trivial⟩ trivial ?_
                  refine G.endOps ?_
                  exact G.arr (J20 true hF) ⟨rfl, rfl, rfl, rfl, rfl, rfl, rfl, trivial⟩ ⟨rfl, rfl, rfl, rfl, rfl, rfl, rfl, trivial⟩ rfl
                · refine G.known (t := 122) hc21 rfl ?_
                  refine G.opG1 (op_fieldP (off' := 0) Try.underlying83 rfl ti55 (by decide) rfl (Ev.t 15 (.ptr 1015 0)) rfl) rfl rfl rfl ⟨rfl, trivial⟩ trivial ?_
                  refine G.opG1 (op_load1P (c := bI .u64 r16.N) Try.underlying55 rfl rfl (Ev.t 123 (.ptr 1015 0)) rfl) rfl rfl rfl ⟨rfl, trivial⟩ ⟨rfl, trivial⟩ ?_
                  refine G.opG1 (op_gtr (Ev.t 124 (bI .u64 r16.N)) (Ev.c _ rfl) rfl) rfl rfl rfl ⟨rfl, trivial⟩ trivial ?_
                  refine G.op1 (op_pickF (Ev.t 122 (bB false)) (Ev.t 125 (bB (decide (6 < r16.N)))) rfl) rfl ⟨rfl, rfl, trivial⟩ trivial ?_
                  refine G.endOps ?_
                  exact G.arr (J20 (decide (6 < r16.N)) hF) ⟨rfl, rfl, rfl, rfl, rfl, rfl, rfl, trivial⟩ ⟨rfl, rfl, rfl, rfl, rfl, rfl, rfl, trivial⟩ rfl
              · refine G.cond rfl (fun hx => by rw [hc15] at hx; cases hx) (fun _ => ?_)
                refine G.exit ?_
                refine GX.c ?_
                refine GX.q ?_
                refine GX.bYes ?_
                exact G.arr (J10 (v11.1, v11.2.2) hF) ⟨rfl, rfl, rfl, rfl, trivial⟩ ⟨rfl, rfl, rfl, rfl, rfl, trivial⟩ rfl
          refine G.region ?_
          refine G.op1 (op_fieldP (off' := 1) Try.underlying83 rfl ti3 (by decide) rfl (Ev.t 13 (.ptr 1013 0)) rfl) rfl ⟨rfl, trivial⟩ trivial ?_
          refine G.op1 (op_load1P (c := bI .i64 r6.End) Try.underlying3 rfl rfl (Ev.t 99 (.ptr 1013 1)) rfl) rfl ⟨rfl, trivial⟩ ⟨rfl, trivial⟩ ?_
          refine G.op1 (op_eqI (Ev.t 100 (bI .i64 r6.End)) (Ev.c _ rfl) rfl) rfl ⟨rfl, trivial⟩ trivial ?_
          refine G.op1 (op_move (Ev.t 101 (bB (decide (r6.End = 0)))) rfl) rfl ⟨rfl, trivial⟩ trivial ?_
          refine ifS hF (fun hc23 hF => ?_) (fun hc23 hF => ?_)
          · refine G.known (t := 102) hc23 rfl ?_
            refine G.opN1 rfl rfl rfl rfl rfl ?_
            refine G.opN1 rfl rfl rfl rfl rfl ?_
            refine G.opN1 rfl rfl rfl rfl rfl ?_
            refine G.op1 (op_pickT (Ev.t 102 (bB true)) (Ev.c _ rfl) rfl) rfl ⟨rfl, trivial⟩ trivial ?_
            refine G.endOps ?_
            exact G.arr (J22 true hF) ⟨rfl, rfl, rfl, rfl, rfl, trivial⟩ ⟨rfl, rfl, rfl, rfl, rfl, rfl, trivial⟩ rfl
          · refine G.known (t := 102) hc23 rfl ?_
            refine G.opG1 (op_fieldP (off' := 0) Try.underlying83 rfl ti55 (by decide) rfl (Ev.t 13 (.ptr 1013 0)) rfl) rfl rfl rfl ⟨rfl, trivial⟩ trivial ?_
            refine G.opG1 (op_load1P (c := bI .u64 r6.N) Try.underlying55 rfl rfl (Ev.t 103 (.ptr 1013 0)) rfl) rfl rfl rfl ⟨rfl, trivial⟩ ⟨rfl, trivial⟩ ?_
            refine G.opG1 (op_gtr (Ev.t 104 (bI .u64 r6.N)) (Ev.c _ rfl) rfl) rfl rfl rfl ⟨rfl, trivial⟩ trivial ?_
            refine G.op1 (op_pickF (Ev.t 102 (bB false)) (Ev.t 105 (bB (decide (6 < r6.N)))) rfl) rfl ⟨rfl, rfl, trivial⟩ trivial ?_
            refine G.endOps ?_
            exact G.arr (J22 (decide (6 < r6.N)) hF) ⟨rfl, rfl, rfl, rfl, rfl, trivial⟩ ⟨rfl, rfl, rfl, rfl, rfl, rfl, trivial⟩ rfl
        refine G.block ?_
        refine G.keep (sl' := [(0, oS s_0), (2, .one (.ptr 1002 0)), (4, .one (.ptr 1004 0)), (5, .one (.ptr 1005 0)), (6, oI y4.1), (11, .one (bI .u64 0))]) (hp' := [(1002, some (.blk 31 [.g (.d (.sl 2 (List.map encApi_Range ([] : (List Api_Range))))), .g (.d (.sl 1 (List.map encI_i64 ([] : (List Int))))), .g (.d (.sl 1 (List.map encI_i64 ([] : (List Int)))))])), (1004, some (.blk 83 [bI .u64 r1.N, bI .i64 r1.End])), (1005, some (.blk 31 [.own 5080 (List.map encApi_Range y4.2), .own 5081 (List.map encI_i64 ([] : List Int)), .own 5082 (List.map encI_i64 ([] : List Int))])), (5080, some (.row 37 2 (List.map encApi_Range y4.2) false)), (5081, some (.row 3 1 (List.map encI_i64 ([] : List Int)) false)), (5082, some (.row 3 1 (List.map encI_i64 ([] : List Int)) false))]) ⟨rfl, rfl, rfl, rfl, rfl, rfl, trivial⟩ ⟨rfl, rfl, rfl, rfl, rfl, rfl, trivial⟩ rfl ?_
        refine G.loopF (fun (v25 : Int × Int × (List Int)) => ⟨[(0, oS s_0), (2, .one (.ptr 1002 0)), (4, .one (.ptr 1004 0)), (5, .one (.ptr 1005 0)), (6, oI v25.1), (11, .one (bI .u64 v25.2.1))], [(1002, some (.blk 31 [.g (.d (.sl 2 (List.map encApi_Range ([] : (List Api_Range))))), .g (.d (.sl 1 (List.map encI_i64 ([] : (List Int))))), .g (.d (.sl 1 (List.map encI_i64 ([] : (List Int)))))])), (1004, some (.blk 83 [bI .u64 r1.N, bI .i64 r1.End])), (1005, some (.blk 31 [.own 5080 (List.map encApi_Range y4.2), .own 5081 (List.map encI_i64 v25.2.2), .own 5082 (List.map encI_i64 ([] : List Int))])), (5080, some (.row 37 2 (List.map encApi_Range y4.2) false)), (5081, some (.row 3 1 (List.map encI_i64 v25.2.2) false)), (5082, some (.row 3 1 (List.map encI_i64 ([] : List Int)) false))]⟩) hF rfl (fun K28 again27 v25 J26 hF => ?_)
        unfold ref06_ReadRow_l8 at hF
        refine G.seq ?_
        refine G.seq ?_
        refine G.region ?_
        refine G.op1 (op_move (Ev.t 11 (bI .u64 v25.2.1)) rfl) rfl ⟨rfl, trivial⟩ trivial ?_
        refine G.op1 (op_fieldP (off' := 0) Try.underlying83 rfl ti55 (by decide) rfl (Ev.t 4 (.ptr 1004 0)) rfl) rfl ⟨rfl, trivial⟩ trivial ?_
        refine G.op1 (op_load1P (c := bI .u64 r1.N) Try.underlying55 rfl rfl (Ev.t 69 (.ptr 1004 0)) rfl) rfl ⟨rfl, trivial⟩ ⟨rfl, trivial⟩ ?_
        refine G.op1 (op_lss (Ev.t 68 (bI .u64 v25.2.1)) (Ev.t 70 (bI .u64 r1.N)) rfl) rfl ⟨rfl, rfl, trivial⟩ trivial ?_
        refine G.endOps ?_
        refine ifS hF (fun hc29 hF => ?_) (fun hc29 hF => ?_)
        · refine G.cond rfl (fun _ => ?_) (fun hx => by rw [hc29] at hx; cases hx)
          refine G.skip ?_
          refine G.seq ?_
          refine G.block ?_
          refine G.seq ?_
          refine G.region ?_
          refine G.op1 (op_move (Ev.t 0 (bS s_0)) rfl) rfl ⟨rfl, trivial⟩ trivial ?_
          refine G.op1 (op_move (Ev.t 6 (bI .i64 v25.1)) rfl) rfl ⟨rfl, trivial⟩ trivial ?_
          obtain ⟨r30, hr30, hF⟩ := bindS hF
          refine G.op1 (op_callQ (sv := .one (.g (.agg [.v (.int .u64 r30.N), vI r30.End]))) cf37 (ct_ref01_Read s_0 v25.1 r30 hr30) rfl rfl (EvQL.cons (EvQ.g (Ev.t 74 (bS s_0))) (EvQL.cons (EvQ.g (Ev.t 75 (bI .i64 v25.1))) EvQL.nil)) rfl) rfl ⟨rfl, rfl, trivial⟩ trivial ?_
          refine G.op2 (op_alloc (k := 1012) (cs := [bI .u64 0, bI .i64 0]) ti83 ⟨.v _ rfl, .v _ rfl, trivial⟩ rfl) rfl trivial ⟨rfl, trivial⟩ ?_
          refine G.op3 (op_storeA (cs' := [bI .u64 r30.N, bI .i64 r30.End]) ti83 rfl rfl (Ev.t 12 (.ptr 1012 0)) (Ev.t 76 (.g (.agg [.v (.int .u64 r30.N), vI r30.End])))) rfl ⟨rfl, rfl, trivial⟩ ⟨rfl, trivial⟩ ?_
          refine G.endOps ?_
          refine G.seq ?_
          refine G.seq ?_
          refine G.joinC (T := Bool) (fun y31 => ⟨[(0, oS s_0), (2, .one (.ptr 1002 0)), (4, .one (.ptr 1004 0)), (5, .one (.ptr 1005 0)), (11, .one (bI .u64 v25.2.1)), (12, .one (.ptr 1012 0)), (84, oB y31)], [(1002, some (.blk 31 [.g (.d (.sl 2 (List.map encApi_Range ([] : (List Api_Range))))), .g (.d (.sl 1 (List.map encI_i64 ([] : (List Int))))), .g (.d (.sl 1 (List.map encI_i64 ([] : (List Int)))))])), (1004, some (.blk 83 [bI .u64 r1.N, bI .i64 r1.End])), (1005, some (.blk 31 [.own 5080 (List.map encApi_Range y4.2), .own 5081 (List.map encI_i64 v25.2.2), .own 5082 (List.map encI_i64 ([] : List Int))])), (1012, some (.blk 83 [bI .u64 r30.N, bI .i64 r30.End])), (5080, some (.row 37 2 (List.map encApi_Range y4.2) false)), (5081, some (.row 3 1 (List.map encI_i64 v25.2.2) false)), (5082, some (.row 3 1 (List.map encI_i64 ([] : List Int)) false))]⟩) (fun y31 => ref06_ReadRow_k9 again27 v25 r30 y31 = some r) (fun y31 hF => ?_) (fun J34 => ?_)
          · unfold ref06_ReadRow_k9 at hF
            refine ifS hF (fun hc32 hF => ?_) (fun hc32 hF => ?_)
            · refine G.cond rfl (fun _ => ?_) (fun hx => by rw [hc32] at hx; cases hx)
              refine G.seq ?_
              refine G.region ?_
              refine G.op1 (op_build (zs := [.sl 2 (List.map encApi_Range ([] : (List Api_Range))), .sl 1 (List.map encI_i64 ([] : (List Int))), .sl 1 (List.map encI_i64 ([] : (List Int)))]) (ds := [.sl 2 (List.map encApi_Range ([] : (List Api_Range))), .sl 1 (List.map encI_i64 ([] : (List Int))), .sl 1 (List.map encI_i64 ([] : (List Int)))]) Try.underlying31 ti31 (pl31 _ Try.underlying31) ⟨.n 2, .n 1, .n 1, trivial⟩ EvP.nil rfl rfl) rfl trivial trivial ?_
              refine G.op3 (op_storeA (cs' := [.g (.d (.sl 2 (List.map encApi_Range ([] : (List Api_Range))))), .g (.d (.sl 1 (List.map encI_i64 ([] : (List Int))))), .g (.d (.sl 1 (List.map encI_i64 ([] : (List Int)))))]) ti31 rfl rfl (Ev.t 2 (.ptr 1002 0)) (Ev.t 85 (.g (.agg [.sl 2 (List.map encApi_Range ([] : (List Api_Range))), .sl 1 (List.map encI_i64 ([] : (List Int))), .sl 1 (List.map encI_i64 ([] : (List Int)))])))) rfl ⟨rfl, rfl, trivial⟩ ⟨rfl, trivial⟩ ?_
              refine G.op1 (op_assign (Ev.c _ rfl) rfl) rfl trivial trivial ?_
              refine G.endOps ?_
              cases hF
              exact G.ret2 Try.results14 (RVar.cellA (ds := [.sl 2 (List.map encApi_Range ([] : (List Api_Range))), .sl 1 (List.map encI_i64 ([] : (List Int))), .sl 1 (List.map encI_i64 ([] : (List Int)))]) Try.underlying31 rfl ti31 rfl) (RVar.tmp 3 _) ⟨rfl, rfl, trivial⟩ ⟨rfl, trivial⟩
            · refine G.cond rfl (fun hx => by rw [hc32] at hx; cases hx) (fun _ => ?_)
              refine G.skip ?_
              refine G.seq ?_
              refine G.region ?_
              refine G.op1 (op_fieldP (off' := 1) Try.underlying31 rfl ti22 (by decide) rfl (Ev.t 5 (.ptr 1005 0)) rfl) rfl ⟨rfl, trivial⟩ trivial ?_
              refine G.op1 (op_load1P (c := .own 5081 (List.map encI_i64 v25.2.2)) Try.underlying22 rfl rfl (Ev.t 86 (.ptr 1005 1)) rfl) rfl ⟨rfl, trivial⟩ ⟨rfl, trivial⟩ ?_
              refine G.op1 (op_fieldP (off' := 0) Try.underlying83 rfl ti55 (by decide) rfl (Ev.t 12 (.ptr 1012 0)) rfl) rfl ⟨rfl, trivial⟩ trivial ?_
              refine G.op1 (op_load1P (c := bI .u64 r30.N) Try.underlying55 rfl rfl (Ev.t 88 (.ptr 1012 0)) rfl) rfl ⟨rfl, trivial⟩ ⟨rfl, trivial⟩ ?_
              refine G.op1 (op_convI Try.underlying55 Try.underlying3 (Ev.t 89 (bI .u64 r30.N)) rfl) rfl ⟨rfl, trivial⟩ trivial ?_
              refine G.op1 (op_buildSlice (es := List.map encI_i64 [IntKind.wrap .i64 r30.N]) Try.underlying22 ti3 rfl rfl (EvP.cons (Ev.t 90 (bI .i64 (IntKind.wrap .i64 r30.N))) EvP.nil) rfl rfl (by simp [encI_i64]) rfl) rfl ⟨rfl, trivial⟩ trivial ?_
              obtain ⟨l33, hl33, hF⟩ := bindS hF
              refine G.op2 (op_appendO Try.underlying22 ti3 rfl (app_map hl33 encI_i64) (app_b1 hl33 encI_i64) (app_b2 hl33 encI_i64) (Ev.t 87 (.own 5081 (List.map encI_i64 v25.2.2))) (Ev.t 91 (.g (.d (.sl 1 (List.map encI_i64 ([IntKind.wrap .i64 r30.N])))))) rfl) rfl ⟨rfl, rfl, trivial⟩ ⟨rfl, trivial⟩ ?_
              refine G.op1 (op_fieldP (off' := 1) Try.underlying31 rfl ti22 (by decide) rfl (Ev.t 5 (.ptr 1005 0)) rfl) rfl ⟨rfl, trivial⟩ trivial ?_
              refine G.op3 (op_storeO (cs' := [.own 5080 (List.map encApi_Range y4.2), .own 5081 (List.map encI_i64 l33), .own 5082 (List.map encI_i64 ([] : List Int))]) ti22 rfl rfl rfl (Ev.t 93 (.ptr 1005 1)) (Ev.t 92 (.own 5081 (List.map encI_i64 l33)))) rfl ⟨rfl, rfl, trivial⟩ ⟨rfl, rfl, trivial⟩ ?_
              refine G.endOps ?_
              refine G.region ?_
              refine G.op1 (op_fieldP (off' := 1) Try.underlying83 rfl ti3 (by decide) rfl (Ev.t 12 (.ptr 1012 0)) rfl) rfl ⟨rfl, trivial⟩ trivial ?_
              refine G.op1 (op_load1P (c := bI .i64 r30.End) Try.underlying3 rfl rfl (Ev.t 94 (.ptr 1012 1)) rfl) rfl ⟨rfl, trivial⟩ ⟨rfl, trivial⟩ ?_
              refine G.op1 (op_assign (Ev.t 95 (bI .i64 r30.End)) rfl) rfl ⟨rfl, trivial⟩ trivial ?_
              refine G.endOps ?_
              refine G.endBlock ?_
              refine G.region ?_
              refine G.op1 (op_move (Ev.t 11 (bI .u64 v25.2.1)) rfl) rfl ⟨rfl, trivial⟩ trivial ?_
              refine G.op1 (op_add (Ev.t 72 (bI .u64 v25.2.1)) (Ev.c _ rfl) rfl) rfl ⟨rfl, trivial⟩ trivial ?_
              refine G.op1 (op_assign (Ev.t 73 (bI .u64 (IntKind.wrap .u64 (v25.2.1 + 1)))) rfl) rfl ⟨rfl, trivial⟩ trivial ?_
              refine G.endOps ?_
              exact G.arr (J26 (r30.End, IntKind.wrap .u64 (v25.2.1 + 1), l33) hF) ⟨rfl, rfl, rfl, rfl, rfl, rfl, trivial⟩ ⟨rfl, rfl, rfl, rfl, rfl, rfl, trivial⟩ rfl
          refine G.region ?_
          refine G.op1 (op_fieldP (off' := 1) Try.underlying83 rfl ti3 (by decide) rfl (Ev.t 12 (.ptr 1012 0)) rfl) rfl ⟨rfl, trivial⟩ trivial ?_
          refine G.op1 (op_load1P (c := bI .i64 r30.End) Try.underlying3 rfl rfl (Ev.t 77 (.ptr 1012 1)) rfl) rfl ⟨rfl, trivial⟩ ⟨rfl, trivial⟩ ?_
          refine G.op1 (op_eqI (Ev.t 78 (bI .i64 r30.End)) (Ev.c _ rfl) rfl) rfl ⟨rfl, trivial⟩ trivial ?_
          refine G.op1 (op_move (Ev.t 79 (bB (decide (r30.End = 0)))) rfl) rfl ⟨rfl, trivial⟩ trivial ?_
          refine ifS hF (fun hc35 hF => ?_) (fun hc35 hF => ?_)
          · refine G.known (t := 80) hc35 rfl ?_
            refine G.opN1 rfl rfl rfl rfl rfl ?_
            refine G.opN1 rfl rfl rfl rfl rfl ?_
            refine G.opN1 rfl rfl rfl rfl rfl ?_
            refine G.op1 (op_pickT (Ev.t 80 (bB true)) (Ev.c _ rfl) rfl) rfl ⟨rfl, trivial⟩ trivial ?_
            refine G.endOps ?_
            exact G.arr (J34 true hF) ⟨rfl, rfl, rfl, rfl, rfl, rfl, rfl, trivial⟩ ⟨rfl, rfl, rfl, rfl, rfl, rfl, rfl, trivial⟩ rfl
          · refine G.known (t := 80) hc35 rfl ?_
            refine G.opG1 (op_fieldP (off' := 0) Try.underlying83 rfl ti55 (by decide) rfl (Ev.t 12 (.ptr 1012 0)) rfl) rfl rfl rfl ⟨rfl, trivial⟩ trivial ?_
            refine G.opG1 (op_load1P (c := bI .u64 r30.N) Try.underlying55 rfl rfl (Ev.t 81 (.ptr 1012 0)) rfl) rfl rfl rfl ⟨rfl, trivial⟩ ⟨rfl, trivial⟩ ?_
            refine G.opG1 (op_gtr (Ev.t 82 (bI .u64 r30.N)) (Ev.c _ rfl) rfl) rfl rfl rfl ⟨rfl, trivial⟩ trivial ?_
            refine G.op1 (op_pickF (Ev.t 80 (bB false)) (Ev.t 83 (bB (decide (63 < r30.N)))) rfl) rfl ⟨rfl, rfl, trivial⟩ trivial ?_
            refine G.endOps ?_
            exact G.arr (J34 (decide (63 < r30.N)) hF) ⟨rfl, rfl, rfl, rfl, rfl, rfl, rfl, trivial⟩ ⟨rfl, rfl, rfl, rfl, rfl, rfl, rfl, trivial⟩ rfl
        · refine G.cond rfl (fun hx => by rw [hc29] at hx; cases hx) (fun _ => ?_)
          refine G.exit ?_
          refine GX.c ?_
          refine GX.q ?_
          refine GX.bYes ?_
          exact G.arr (J24 (v25.1, v25.2.2) hF) ⟨rfl, rfl, rfl, rfl, trivial⟩ ⟨rfl, rfl, rfl, rfl, rfl, trivial⟩ rfl
      refine G.block ?_
      refine G.keep (sl' := [(0, oS s_0), (2, .one (.ptr 1002 0)), (4, .one (.ptr 1004 0)), (5, .one (.ptr 1005 0)), (6, oI r1.End), (7, oS ByteArray.empty), (8, .one (bI .u64 0))]) (hp' := [(1002, some (.blk 31 [.g (.d (.sl 2 (List.map encApi_Range ([] : (List Api_Range))))), .g (.d (.sl 1 (List.map encI_i64 ([] : (List Int))))), .g (.d (.sl 1 (List.map encI_i64 ([] : (List Int)))))])), (1004, some (.blk 83 [bI .u64 r1.N, bI .i64 r1.End])), (1005, some (.blk 31 [.own 5080 (List.map encApi_Range ([] : List Api_Range)), .own 5081 (List.map encI_i64 ([] : List Int)), .own 5082 (List.map encI_i64 ([] : List Int))])), (5080, some (.row 37 2 (List.map encApi_Range ([] : List Api_Range)) false)), (5081, some (.row 3 1 (List.map encI_i64 ([] : List Int)) false)), (5082, some (.row 3 1 (List.map encI_i64 ([] : List Int)) false))]) ⟨rfl, rfl, rfl, rfl, rfl, rfl, rfl, trivial⟩ ⟨rfl, rfl, rfl, rfl, rfl, rfl, trivial⟩ rfl ?_
      refine G.loopF (fun (v37 : Int × ByteArray × Int × (List Api_Range)) => ⟨[(0, oS s_0), (2, .one (.ptr 1002 0)), (4, .one (.ptr 1004 0)), (5, .one (.ptr 1005 0)), (6, oI v37.1), (7, oS v37.2.1), (8, .one (bI .u64 v37.2.2.1))], [(1002, some (.blk 31 [.g (.d (.sl 2 (List.map encApi_Range ([] : (List Api_Range))))), .g (.d (.sl 1 (List.map encI_i64 ([] : (List Int))))), .g (.d (.sl 1 (List.map encI_i64 ([] : (List Int)))))])), (1004, some (.blk 83 [bI .u64 r1.N, bI .i64 r1.End])), (1005, some (.blk 31 [.own 5080 (List.map encApi_Range v37.2.2.2), .own 5081 (List.map encI_i64 ([] : List Int)), .own 5082 (List.map encI_i64 ([] : List Int))])), (5080, some (.row 37 2 (List.map encApi_Range v37.2.2.2) false)), (5081, some (.row 3 1 (List.map encI_i64 ([] : List Int)) false)), (5082, some (.row 3 1 (List.map encI_i64 ([] : List Int)) false))]⟩) hF rfl (fun K40 again39 v37 J38 hF => ?_)
      unfold ref06_ReadRow_l10 at hF
      refine G.seq ?_
      refine G.seq ?_
      refine G.region ?_
      refine G.op1 (op_move (Ev.t 8 (bI .u64 v37.2.2.1)) rfl) rfl ⟨rfl, trivial⟩ trivial ?_
      refine G.op1 (op_fieldP (off' := 0) Try.underlying83 rfl ti55 (by decide) rfl (Ev.t 4 (.ptr 1004 0)) rfl) rfl ⟨rfl, trivial⟩ trivial ?_
      refine G.op1 (op_load1P (c := bI .u64 r1.N) Try.underlying55 rfl rfl (Ev.t 36 (.ptr 1004 0)) rfl) rfl ⟨rfl, trivial⟩ ⟨rfl, trivial⟩ ?_
      refine G.op1 (op_lss (Ev.t 35 (bI .u64 v37.2.2.1)) (Ev.t 37 (bI .u64 r1.N)) rfl) rfl ⟨rfl, rfl, trivial⟩ trivial ?_
      refine G.endOps ?_
      refine ifS hF (fun hc41 hF => ?_) (fun hc41 hF => ?_)
      · refine G.cond rfl (fun _ => ?_) (fun hx => by rw [hc41] at hx; cases hx)
        refine G.skip ?_
        refine G.seq ?_
        refine G.block ?_
        refine G.seq ?_
        refine G.region ?_
        refine G.op1 (op_move (Ev.t 7 (bS v37.2.1)) rfl) rfl ⟨rfl, trivial⟩ trivial ?_
        refine G.op1 (op_build (zs := [vS ByteArray.empty, vS ByteArray.empty]) (ds := [vS v37.2.1, vS ByteArray.empty]) Try.underlying37 ti37 (pl37 _ Try.underlying37) ⟨.v _ rfl, .v _ rfl, trivial⟩ (EvP.cons (Ev.t 41 (bS v37.2.1)) EvP.nil) rfl rfl) rfl ⟨rfl, trivial⟩ trivial ?_
        refine G.op2 (op_alloc (k := 1009) (cs := [bS ByteArray.empty, bS ByteArray.empty]) ti37 ⟨.v _ rfl, .v _ rfl, trivial⟩ rfl) rfl trivial ⟨rfl, trivial⟩ ?_
        refine G.op3 (op_storeA (cs' := [bS v37.2.1, bS ByteArray.empty]) ti37 rfl rfl (Ev.t 9 (.ptr 1009 0)) (Ev.t 42 (.g (.agg [vS v37.2.1, vS ByteArray.empty])))) rfl ⟨rfl, rfl, trivial⟩ ⟨rfl, trivial⟩ ?_
        refine G.endOps ?_
        refine G.seq ?_
        refine G.seq ?_
        refine G.region ?_
        refine G.op1 (op_move (Ev.t 8 (bI .u64 v37.2.2.1)) rfl) rfl ⟨rfl, trivial⟩ trivial ?_
        refine G.op1 (op_add (Ev.t 43 (bI .u64 v37.2.2.1)) (Ev.c _ rfl) rfl) rfl ⟨rfl, trivial⟩ trivial ?_
        refine G.op1 (op_fieldP (off' := 0) Try.underlying83 rfl ti55 (by decide) rfl (Ev.t 4 (.ptr 1004 0)) rfl) rfl ⟨rfl, trivial⟩ trivial ?_
        refine G.op1 (op_load1P (c := bI .u64 r1.N) Try.underlying55 rfl rfl (Ev.t 45 (.ptr 1004 0)) rfl) rfl ⟨rfl, trivial⟩ ⟨rfl, trivial⟩ ?_
        refine G.op1 (op_lss (Ev.t 44 (bI .u64 (IntKind.wrap .u64 (v37.2.2.1 + 1)))) (Ev.t 46 (bI .u64 r1.N)) rfl) rfl ⟨rfl, rfl, trivial⟩ trivial ?_
        refine G.endOps ?_
        refine G.joinC (T := Int × ByteArray × ByteArray) (fun y42 => ⟨[(0, oS s_0), (2, .one (.ptr 1002 0)), (4, .one (.ptr 1004 0)), (5, .one (.ptr 1005 0)), (6, oI y42.1), (7, oS y42.2.1), (8, .one (bI .u64 v37.2.2.1)), (9, .one (.ptr 1009 0))], [(1002, some (.blk 31 [.g (.d (.sl 2 (List.map encApi_Range ([] : (List Api_Range))))), .g (.d (.sl 1 (List.map encI_i64 ([] : (List Int))))), .g (.d (.sl 1 (List.map encI_i64 ([] : (List Int)))))])), (1004, some (.blk 83 [bI .u64 r1.N, bI .i64 r1.End])), (1005, some (.blk 31 [.own 5080 (List.map encApi_Range v37.2.2.2), .own 5081 (List.map encI_i64 ([] : List Int)), .own 5082 (List.map encI_i64 ([] : List Int))])), (1009, some (.blk 37 [bS v37.2.1, bS y42.2.2])), (5080, some (.row 37 2 (List.map encApi_Range v37.2.2.2) false)), (5081, some (.row 3 1 (List.map encI_i64 ([] : List Int)) false)), (5082, some (.row 3 1 (List.map encI_i64 ([] : List Int)) false))]⟩) (fun y42 => ref06_ReadRow_k11 again39 v37 y42 = some r) (fun y42 hF => ?_) (fun J44 => ?_)
        · unfold ref06_ReadRow_k11 at hF
          refine G.region ?_
          refine G.op1 (op_fieldP (off' := 0) Try.underlying31 rfl ti29 (by decide) rfl (Ev.t 5 (.ptr 1005 0)) rfl) rfl ⟨rfl, trivial⟩ trivial ?_
          refine G.op1 (op_load1P (c := .own 5080 (List.map encApi_Range v37.2.2.2)) Try.underlying29 rfl rfl (Ev.t 62 (.ptr 1005 0)) rfl) rfl ⟨rfl, trivial⟩ ⟨rfl, trivial⟩ ?_
          refine G.op1 (op_loadAP (ds := [vS v37.2.1, vS y42.2.2]) Try.underlying37 rfl ti37 rfl (Ev.t 9 (.ptr 1009 0)) rfl) rfl ⟨rfl, trivial⟩ ⟨rfl, trivial⟩ ?_
          refine G.op1 (op_buildSlice (es := List.map encApi_Range [(Api_Range.mk v37.2.1 y42.2.2)]) Try.underlying29 ti37 rfl rfl (EvP.cons (Ev.t 64 (.g (.agg [vS v37.2.1, vS y42.2.2]))) EvP.nil) rfl rfl (by simp [encApi_Range]) rfl) rfl ⟨rfl, trivial⟩ trivial ?_
          obtain ⟨l43, hl43, hF⟩ := bindS hF
          refine G.op2 (op_appendO Try.underlying29 ti37 rfl (app_map hl43 encApi_Range) (app_b1 hl43 encApi_Range) (app_b2 hl43 encApi_Range) (Ev.t 63 (.own 5080 (List.map encApi_Range v37.2.2.2))) (Ev.t 65 (.g (.d (.sl 2 (List.map encApi_Range ([(Api_Range.mk v37.2.1 y42.2.2)])))))) rfl) rfl ⟨rfl, rfl, trivial⟩ ⟨rfl, trivial⟩ ?_
          refine G.op1 (op_fieldP (off' := 0) Try.underlying31 rfl ti29 (by decide) rfl (Ev.t 5 (.ptr 1005 0)) rfl) rfl ⟨rfl, trivial⟩ trivial ?_
          refine G.op3 (op_storeO (cs' := [.own 5080 (List.map encApi_Range l43), .own 5081 (List.map encI_i64 ([] : List Int)), .own 5082 (List.map encI_i64 ([] : List Int))]) ti29 rfl rfl rfl (Ev.t 67 (.ptr 1005 0)) (Ev.t 66 (.own 5080 (List.map encApi_Range l43)))) rfl ⟨rfl, rfl, trivial⟩ ⟨rfl, rfl, trivial⟩ ?_
          refine G.endOps ?_
          refine G.endBlock ?_
          refine G.region ?_
          refine G.op1 (op_move (Ev.t 8 (bI .u64 v37.2.2.1)) rfl) rfl ⟨rfl, trivial⟩ trivial ?_
          refine G.op1 (op_add (Ev.t 39 (bI .u64 v37.2.2.1)) (Ev.c _ rfl) rfl) rfl ⟨rfl, trivial⟩ trivial ?_
          refine G.op1 (op_assign (Ev.t 40 (bI .u64 (IntKind.wrap .u64 (v37.2.2.1 + 1)))) rfl) rfl ⟨rfl, trivial⟩ trivial ?_
          refine G.endOps ?_
          exact G.arr (J38 (y42.1, y42.2.1, IntKind.wrap .u64 (v37.2.2.1 + 1), l43) hF) ⟨rfl, rfl, rfl, rfl, rfl, rfl, rfl, trivial⟩ ⟨rfl, rfl, rfl, rfl, rfl, rfl, trivial⟩ rfl
        refine ifS hF (fun hc45 hF => ?_) (fun hc45 hF => ?_)
        · refine G.cond rfl (fun _ => ?_) (fun hx => by rw [hc45] at hx; cases hx)
          refine G.seq ?_
          refine G.region ?_
          refine G.op1 (op_move (Ev.t 0 (bS s_0)) rfl) rfl ⟨rfl, trivial⟩ trivial ?_
          refine G.op1 (op_move (Ev.t 6 (bI .i64 v37.1)) rfl) rfl ⟨rfl, trivial⟩ trivial ?_
          obtain ⟨r46, hr46, hF⟩ := bindS hF
          refine G.op1 (op_callQ (sv := .one (.g (.agg [vS r46.S, vI r46.End]))) cf38 (ct_ref01_ReadText s_0 v37.1 32 r46 hr46) rfl rfl (EvQL.cons (EvQ.g (Ev.t 48 (bS s_0))) (EvQL.cons (EvQ.g (Ev.t 49 (bI .i64 v37.1))) (EvQL.cons (EvQ.g (Ev.c _ rfl)) EvQL.nil))) rfl) rfl ⟨rfl, rfl, trivial⟩ trivial ?_
          refine G.op2 (op_alloc (k := 1010) (cs := [bS ByteArray.empty, bI .i64 0]) ti86 ⟨.v _ rfl, .v _ rfl, trivial⟩ rfl) rfl trivial ⟨rfl, trivial⟩ ?_
          refine G.op3 (op_storeA (cs' := [bS r46.S, bI .i64 r46.End]) ti86 rfl rfl (Ev.t 10 (.ptr 1010 0)) (Ev.t 50 (.g (.agg [vS r46.S, vI r46.End])))) rfl ⟨rfl, rfl, trivial⟩ ⟨rfl, trivial⟩ ?_
          refine G.endOps ?_
          refine G.seq ?_
          refine G.seq ?_
          refine G.region ?_
          refine G.op1 (op_fieldP (off' := 1) Try.underlying86 rfl ti3 (by decide) rfl (Ev.t 10 (.ptr 1010 0)) rfl) rfl ⟨rfl, trivial⟩ trivial ?_
          refine G.op1 (op_load1P (c := bI .i64 r46.End) Try.underlying3 rfl rfl (Ev.t 51 (.ptr 1010 1)) rfl) rfl ⟨rfl, trivial⟩ ⟨rfl, trivial⟩ ?_
          refine G.op1 (op_eqI (Ev.t 52 (bI .i64 r46.End)) (Ev.c _ rfl) rfl) rfl ⟨rfl, trivial⟩ trivial ?_
          refine G.endOps ?_
          refine ifS hF (fun hc47 hF => ?_) (fun hc47 hF => ?_)
          · refine G.cond rfl (fun _ => ?_) (fun hx => by rw [hc47] at hx; cases hx)
            refine G.seq ?_
            refine G.region ?_
            refine G.op1 (op_build (zs := [.sl 2 (List.map encApi_Range ([] : (List Api_Range))), .sl 1 (List.map encI_i64 ([] : (List Int))), .sl 1 (List.map encI_i64 ([] : (List Int)))]) (ds := [.sl 2 (List.map encApi_Range ([] : (List Api_Range))), .sl 1 (List.map encI_i64 ([] : (List Int))), .sl 1 (List.map encI_i64 ([] : (List Int)))]) Try.underlying31 ti31 (pl31 _ Try.underlying31) ⟨.n 2, .n 1, .n 1, trivial⟩ EvP.nil rfl rfl) rfl trivial trivial ?_
            refine G.op3 (op_storeA (cs' := [.g (.d (.sl 2 (List.map encApi_Range ([] : (List Api_Range))))), .g (.d (.sl 1 (List.map encI_i64 ([] : (List Int))))), .g (.d (.sl 1 (List.map encI_i64 ([] : (List Int)))))]) ti31 rfl rfl (Ev.t 2 (.ptr 1002 0)) (Ev.t 54 (.g (.agg [.sl 2 (List.map encApi_Range ([] : (List Api_Range))), .sl 1 (List.map encI_i64 ([] : (List Int))), .sl 1 (List.map encI_i64 ([] : (List Int)))])))) rfl ⟨rfl, rfl, trivial⟩ ⟨rfl, trivial⟩ ?_
            refine G.op1 (op_assign (Ev.c _ rfl) rfl) rfl trivial trivial ?_
            refine G.endOps ?_
            cases hF
            exact G.ret2 Try.results14 (RVar.cellA (ds := [.sl 2 (List.map encApi_Range ([] : (List Api_Range))), .sl 1 (List.map encI_i64 ([] : (List Int))), .sl 1 (List.map encI_i64 ([] : (List Int)))]) Try.underlying31 rfl ti31 rfl) (RVar.tmp 3 _) ⟨rfl, rfl, trivial⟩ ⟨rfl, trivial⟩
          · refine G.cond rfl (fun hx => by rw [hc47] at hx; cases hx) (fun _ => ?_)
            refine G.skip ?_
            refine G.seq ?_
            refine G.region ?_
            refine G.op1 (op_fieldP (off' := 0) Try.underlying86 rfl ti9 (by decide) rfl (Ev.t 10 (.ptr 1010 0)) rfl) rfl ⟨rfl, trivial⟩ trivial ?_
            refine G.op1 (op_load1P (c := bS r46.S) Try.underlying9 rfl rfl (Ev.t 55 (.ptr 1010 0)) rfl) rfl ⟨rfl, trivial⟩ ⟨rfl, trivial⟩ ?_
            refine G.op1 (op_fieldP (off' := 1) Try.underlying37 rfl ti9 (by decide) rfl (Ev.t 9 (.ptr 1009 0)) rfl) rfl ⟨rfl, trivial⟩ trivial ?_
            refine G.op3 (op_store1 (cs' := [bS v37.2.1, bS r46.S]) (c := bS r46.S) trivial ti9 rfl rfl (Ev.t 57 (.ptr 1009 1)) (Ev.t 56 (bS r46.S))) rfl ⟨rfl, rfl, trivial⟩ ⟨rfl, trivial⟩ ?_
            refine G.endOps ?_
            refine G.seq ?_
            refine G.region ?_
            refine G.op1 (op_fieldP (off' := 0) Try.underlying86 rfl ti9 (by decide) rfl (Ev.t 10 (.ptr 1010 0)) rfl) rfl ⟨rfl, trivial⟩ trivial ?_
            refine G.op1 (op_load1P (c := bS r46.S) Try.underlying9 rfl rfl (Ev.t 58 (.ptr 1010 0)) rfl) rfl ⟨rfl, trivial⟩ ⟨rfl, trivial⟩ ?_
            refine G.op1 (op_assign (Ev.t 59 (bS r46.S)) rfl) rfl ⟨rfl, trivial⟩ trivial ?_
            refine G.endOps ?_
            refine G.region ?_
            refine G.op1 (op_fieldP (off' := 1) Try.underlying86 rfl ti3 (by decide) rfl (Ev.t 10 (.ptr 1010 0)) rfl) rfl ⟨rfl, trivial⟩ trivial ?_
            refine G.op1 (op_load1P (c := bI .i64 r46.End) Try.underlying3 rfl rfl (Ev.t 60 (.ptr 1010 1)) rfl) rfl ⟨rfl, trivial⟩ ⟨rfl, trivial⟩ ?_
            refine G.op1 (op_assign (Ev.t 61 (bI .i64 r46.End)) rfl) rfl ⟨rfl, trivial⟩ trivial ?_
            refine G.endOps ?_
            exact G.arr (J44 (r46.End, r46.S, r46.S) hF) ⟨rfl, rfl, rfl, rfl, rfl, rfl, rfl, rfl, trivial⟩ ⟨rfl, rfl, rfl, rfl, rfl, rfl, rfl, trivial⟩ rfl
        · refine G.cond rfl (fun hx => by rw [hc45] at hx; cases hx) (fun _ => ?_)
          refine G.skip ?_
          exact G.arr (J44 (v37.1, v37.2.1, ByteArray.empty) hF) ⟨rfl, rfl, rfl, rfl, rfl, rfl, rfl, rfl, trivial⟩ ⟨rfl, rfl, rfl, rfl, rfl, rfl, rfl, trivial⟩ rfl
      · refine G.cond rfl (fun hx => by rw [hc41] at hx; cases hx) (fun _ => ?_)
        refine G.exit ?_
        refine GX.c ?_
        refine GX.q ?_
        refine GX.bYes ?_
        exact G.arr (J36 (v37.1, v37.2.2.2) hF) ⟨rfl, rfl, rfl, rfl, rfl, trivial⟩ ⟨rfl, rfl, rfl, rfl, rfl, rfl, trivial⟩ rfl
  refine G.region ?_
  refine G.op1 (op_fieldP (off' := 1) Try.underlying83 rfl ti3 (by decide) rfl (Ev.t 4 (.ptr 1004 0)) rfl) rfl ⟨rfl, trivial⟩ trivial ?_
  refine G.op1 (op_load1P (c := bI .i64 r1.End) Try.underlying3 rfl rfl (Ev.t 18 (.ptr 1004 1)) rfl) rfl ⟨rfl, trivial⟩ ⟨rfl, trivial⟩ ?_
  refine G.op1 (op_eqI (Ev.t 19 (bI .i64 r1.End)) (Ev.c _ rfl) rfl) rfl ⟨rfl, trivial⟩ trivial ?_
  refine G.op1 (op_move (Ev.t 20 (bB (decide (r1.End = 0)))) rfl) rfl ⟨rfl, trivial⟩ trivial ?_
  refine G.joinL (T := Bool) 4 (fun y49 => ⟨[(0, oS s_0), (2, .one (.ptr 1002 0)), (4, .one (.ptr 1004 0)), (25, oB y49)], [(1002, some (.blk 31 [.g (.d (.sl 2 (List.map encApi_Range ([] : (List Api_Range))))), .g (.d (.sl 1 (List.map encI_i64 ([] : (List Int))))), .g (.d (.sl 1 (List.map encI_i64 ([] : (List Int)))))])), (1004, some (.blk 83 [bI .u64 r1.N, bI .i64 r1.End]))]⟩) (fun y49 => ref06_ReadRow_k12 s_0 r1 y49 = some r) (fun y49 hF => ?_) (fun J51 => ?_)
  · unfold ref06_ReadRow_k12 at hF
    refine G.op1 (op_move (Ev.t 25 (bB y49)) rfl) rfl ⟨rfl, trivial⟩ trivial ?_
    refine ifS hF (fun hc50 hF => ?_) (fun hc50 hF => ?_)
    · refine G.known (t := 26) hc50 rfl ?_
      refine G.opN1 rfl rfl rfl rfl rfl ?_
      refine G.opN1 rfl rfl rfl rfl rfl ?_
      refine G.opN1 rfl rfl rfl rfl rfl ?_
      refine G.op1 (op_pickT (Ev.t 26 (bB true)) (Ev.c _ rfl) rfl) rfl ⟨rfl, trivial⟩ trivial ?_
      refine G.endOps ?_
      exact G.arr (J48 true hF) ⟨rfl, rfl, rfl, rfl, trivial⟩ ⟨rfl, rfl, trivial⟩ rfl
    · refine G.known (t := 26) hc50 rfl ?_
      refine G.opG1 (op_fieldP (off' := 0) Try.underlying83 rfl ti55 (by decide) rfl (Ev.t 4 (.ptr 1004 0)) rfl) rfl rfl rfl ⟨rfl, trivial⟩ trivial ?_
      refine G.opG1 (op_load1P (c := bI .u64 r1.N) Try.underlying55 rfl rfl (Ev.t 27 (.ptr 1004 0)) rfl) rfl rfl rfl ⟨rfl, trivial⟩ ⟨rfl, trivial⟩ ?_
      refine G.opG1 (op_gtr (Ev.t 28 (bI .u64 r1.N)) (Ev.c _ rfl) rfl) rfl rfl rfl ⟨rfl, trivial⟩ trivial ?_
      refine G.op1 (op_pickF (Ev.t 26 (bB false)) (Ev.t 29 (bB (decide (8 < r1.N)))) rfl) rfl ⟨rfl, rfl, trivial⟩ trivial ?_
      refine G.endOps ?_
      exact G.arr (J48 (decide (8 < r1.N)) hF) ⟨rfl, rfl, rfl, rfl, trivial⟩ ⟨rfl, rfl, trivial⟩ rfl
  refine ifS hF (fun hc52 hF => ?_) (fun hc52 hF => ?_)
  · refine G.known (t := 21) hc52 rfl ?_
    refine G.opN1 rfl rfl rfl rfl rfl ?_
    refine G.opN1 rfl rfl rfl rfl rfl ?_
    refine G.opN1 rfl rfl rfl rfl rfl ?_
    refine G.op1 (op_pickT (Ev.t 21 (bB true)) (Ev.c _ rfl) rfl) rfl ⟨rfl, trivial⟩ trivial ?_
    exact G.arr (J51 true hF) ⟨rfl, rfl, rfl, rfl, trivial⟩ ⟨rfl, rfl, trivial⟩ rfl
  · refine G.known (t := 21) hc52 rfl ?_
    refine G.opG1 (op_fieldP (off' := 0) Try.underlying83 rfl ti55 (by decide) rfl (Ev.t 4 (.ptr 1004 0)) rfl) rfl rfl rfl ⟨rfl, trivial⟩ trivial ?_
    refine G.opG1 (op_load1P (c := bI .u64 r1.N) Try.underlying55 rfl rfl (Ev.t 22 (.ptr 1004 0)) rfl) rfl rfl rfl ⟨rfl, trivial⟩ ⟨rfl, trivial⟩ ?_
    refine G.opG1 (op_lss (Ev.t 23 (bI .u64 r1.N)) (Ev.c _ rfl) rfl) rfl rfl rfl ⟨rfl, trivial⟩ trivial ?_
    refine G.op1 (op_pickF (Ev.t 21 (bB false)) (Ev.t 24 (bB (decide (r1.N < 1)))) rfl) rfl ⟨rfl, rfl, trivial⟩ trivial ?_
    exact G.arr (J51 (decide (r1.N < 1)) hF) ⟨rfl, rfl, rfl, rfl, trivial⟩ ⟨rfl, rfl, trivial⟩ rfl


set_option maxRecDepth 20000 in
set_option maxHeartbeats 2000000 in
theorem ct_ref02_long (c_0 : Int) (r : Int) (hF : ref02_long c_0 = some r) : Ct Try.prog 65 [.g (.d (.v (.int .u8 c_0)))] (.one (.d (vI r))) := by
  unfold ref02_long at hF
  refine Ct.intro Try.func65 rfl Try.ntmps65 rfl rfl fun M w => ?_
  refine G.seq ?_
  refine G.region ?_
  refine G.op1 (op_assign (Ev.c _ rfl) rfl) rfl trivial trivial ?_
  refine G.endOps ?_
  refine G.seq ?_
  refine G.seq ?_
  refine G.region ?_
  refine G.op1 (op_move (Ev.t 0 (bI .u8 c_0)) rfl) rfl ⟨rfl, trivial⟩ trivial ?_
  refine G.op1 (op_lss (Ev.t 3 (bI .u8 c_0)) (Ev.c _ rfl) rfl) rfl ⟨rfl, trivial⟩ trivial ?_
  refine G.endOps ?_
  refine ifS hF (fun hc1 hF => ?_) (fun hc1 hF => ?_)
  · refine G.cond rfl (fun _ => ?_) (fun hx => by rw [hc1] at hx; cases hx)
    refine G.seq ?_
    refine G.region ?_
    refine G.op1 (op_assign (Ev.c _ rfl) rfl) rfl trivial trivial ?_
    refine G.endOps ?_
    cases hF
    exact G.ret1 Try.results65 (RVar.tmp 2 _) ⟨rfl, trivial⟩ trivial
  · refine G.cond rfl (fun hx => by rw [hc1] at hx; cases hx) (fun _ => ?_)
    refine G.skip ?_
    refine G.seq ?_
    refine G.seq ?_
    refine G.joinC (T := Bool) (fun y2 => ⟨[(0, .one (bI .u8 c_0)), (10, oB y2)], []⟩) (fun y2 => ref02_long_k1 c_0 y2 = some r) (fun y2 hF => ?_) (fun J10 => ?_)
    · unfold ref02_long_k1 at hF
      refine ifS hF (fun hc3 hF => ?_) (fun hc3 hF => ?_)
      · refine G.cond rfl (fun _ => ?_) (fun hx => by rw [hc3] at hx; cases hx)
        refine G.seq ?_
        refine G.region ?_
        refine G.op1 (op_assign (Ev.c _ rfl) rfl) rfl trivial trivial ?_
        refine G.endOps ?_
        cases hF
        exact G.ret1 Try.results65 (RVar.tmp 2 _) ⟨rfl, trivial⟩ trivial
      · refine G.cond rfl (fun hx => by rw [hc3] at hx; cases hx) (fun _ => ?_)
        refine G.skip ?_
        refine G.seq ?_
        refine G.seq ?_
        refine G.joinC (T := Bool) (fun y4 => ⟨[(0, .one (bI .u8 c_0)), (16, oB y4)], []⟩) (fun y4 => ref02_long_k2 c_0 y4 = some r) (fun y4 hF => ?_) (fun J8 => ?_)
        · unfold ref02_long_k2 at hF
          refine ifS hF (fun hc5 hF => ?_) (fun hc5 hF => ?_)
          · refine G.cond rfl (fun _ => ?_) (fun hx => by rw [hc5] at hx; cases hx)
            refine G.seq ?_
            refine G.region ?_
            refine G.op1 (op_assign (Ev.c _ rfl) rfl) rfl trivial trivial ?_
            refine G.endOps ?_
            cases hF
            exact G.ret1 Try.results65 (RVar.tmp 2 _) ⟨rfl, trivial⟩ trivial
          · refine G.cond rfl (fun hx => by rw [hc5] at hx; cases hx) (fun _ => ?_)
            refine G.skip ?_
            refine G.seq ?_
            refine G.seq ?_
            refine G.region ?_
            refine G.op1 (op_move (Ev.t 0 (bI .u8 c_0)) rfl) rfl ⟨rfl, trivial⟩ trivial ?_
            refine G.op1 (op_geq (Ev.t 17 (bI .u8 c_0)) (Ev.c _ rfl) rfl) rfl ⟨rfl, trivial⟩ trivial ?_
            refine G.op1 (op_move (Ev.t 18 (bB (decide (240 ≤ c_0)))) rfl) rfl ⟨rfl, trivial⟩ trivial ?_
            refine ifS hF (fun hc6 hF => ?_) (fun hc6 hF => ?_)
            · refine G.known (t := 19) hc6 rfl ?_
              refine G.opG1 (op_move (Ev.t 0 (bI .u8 c_0)) rfl) rfl rfl rfl ⟨rfl, trivial⟩ trivial ?_
              refine G.opG1 (op_leq (Ev.t 20 (bI .u8 c_0)) (Ev.c _ rfl) rfl) rfl rfl rfl ⟨rfl, trivial⟩ trivial ?_
              refine G.op1 (op_pickT (Ev.t 19 (bB true)) (Ev.t 21 (bB (decide (c_0 ≤ 244)))) rfl) rfl ⟨rfl, rfl, trivial⟩ trivial ?_
              refine G.endOps ?_
              refine ifS hF (fun hc7 hF => ?_) (fun hc7 hF => ?_)
              · refine G.cond rfl (fun _ => ?_) (fun hx => by rw [hc7] at hx; cases hx)
                refine G.seq ?_
                refine G.region ?_
                refine G.op1 (op_assign (Ev.c _ rfl) rfl) rfl trivial trivial ?_
                refine G.endOps ?_
                cases hF
                exact G.ret1 Try.results65 (RVar.tmp 2 _) ⟨rfl, trivial⟩ trivial
              · refine G.cond rfl (fun hx => by rw [hc7] at hx; cases hx) (fun _ => ?_)
                refine G.skip ?_
                refine G.seq ?_
                refine G.region ?_
                refine G.op1 (op_assign (Ev.c _ rfl) rfl) rfl trivial trivial ?_
                refine G.endOps ?_
                cases hF
                exact G.ret1 Try.results65 (RVar.tmp 2 _) ⟨rfl, trivial⟩ trivial
            · refine G.known (t := 19) hc6 rfl ?_
              refine G.opN1 rfl rfl rfl rfl rfl ?_
              refine G.opN1 rfl rfl rfl rfl rfl ?_
              refine G.op1 (op_pickF (Ev.t 19 (bB false)) (Ev.c _ rfl) rfl) rfl ⟨rfl, trivial⟩ trivial ?_
              refine G.endOps ?_
              refine G.condF rfl ?_
              refine G.skip ?_
              refine G.seq ?_
              refine G.region ?_
              refine G.op1 (op_assign (Ev.c _ rfl) rfl) rfl trivial trivial ?_
              refine G.endOps ?_
              cases hF
              exact G.ret1 Try.results65 (RVar.tmp 2 _) ⟨rfl, trivial⟩ trivial
        refine G.region ?_
        refine G.op1 (op_move (Ev.t 0 (bI .u8 c_0)) rfl) rfl ⟨rfl, trivial⟩ trivial ?_
        refine G.op1 (op_geq (Ev.t 11 (bI .u8 c_0)) (Ev.c _ rfl) rfl) rfl ⟨rfl, trivial⟩ trivial ?_
        refine G.op1 (op_move (Ev.t 12 (bB (decide (224 ≤ c_0)))) rfl) rfl ⟨rfl, trivial⟩ trivial ?_
        refine ifS hF (fun hc9 hF => ?_) (fun hc9 hF => ?_)
        · refine G.known (t := 13) hc9 rfl ?_
          refine G.opG1 (op_move (Ev.t 0 (bI .u8 c_0)) rfl) rfl rfl rfl ⟨rfl, trivial⟩ trivial ?_
          refine G.opG1 (op_leq (Ev.t 14 (bI .u8 c_0)) (Ev.c _ rfl) rfl) rfl rfl rfl ⟨rfl, trivial⟩ trivial ?_
          refine G.op1 (op_pickT (Ev.t 13 (bB true)) (Ev.t 15 (bB (decide (c_0 ≤ 239)))) rfl) rfl ⟨rfl, rfl, trivial⟩ trivial ?_
          refine G.endOps ?_
          exact G.arr (J8 (decide (c_0 ≤ 239)) hF) ⟨rfl, rfl, trivial⟩ trivial rfl
        · refine G.known (t := 13) hc9 rfl ?_
          refine G.opN1 rfl rfl rfl rfl rfl ?_
          refine G.opN1 rfl rfl rfl rfl rfl ?_
          refine G.op1 (op_pickF (Ev.t 13 (bB false)) (Ev.c _ rfl) rfl) rfl ⟨rfl, trivial⟩ trivial ?_
          refine G.endOps ?_
          exact G.arr (J8 false hF) ⟨rfl, rfl, trivial⟩ trivial rfl
    refine G.region ?_
    refine G.op1 (op_move (Ev.t 0 (bI .u8 c_0)) rfl) rfl ⟨rfl, trivial⟩ trivial ?_
    refine G.op1 (op_geq (Ev.t 5 (bI .u8 c_0)) (Ev.c _ rfl) rfl) rfl ⟨rfl, trivial⟩ trivial ?_
    refine G.op1 (op_move (Ev.t 6 (bB (decide (194 ≤ c_0)))) rfl) rfl ⟨rfl, trivial⟩ trivial ?_
    refine ifS hF (fun hc11 hF => ?_) (fun hc11 hF => ?_)
    · refine G.known (t := 7) hc11 rfl ?_
      refine G.opG1 (op_move (Ev.t 0 (bI .u8 c_0)) rfl) rfl rfl rfl ⟨rfl, trivial⟩ trivial ?_
      refine G.opG1 (op_leq (Ev.t 8 (bI .u8 c_0)) (Ev.c _ rfl) rfl) rfl rfl rfl ⟨rfl, trivial⟩ trivial ?_
      refine G.op1 (op_pickT (Ev.t 7 (bB true)) (Ev.t 9 (bB (decide (c_0 ≤ 223)))) rfl) rfl ⟨rfl, rfl, trivial⟩ trivial ?_
      refine G.endOps ?_
      exact G.arr (J10 (decide (c_0 ≤ 223)) hF) ⟨rfl, rfl, trivial⟩ trivial rfl
    · refine G.known (t := 7) hc11 rfl ?_
      refine G.opN1 rfl rfl rfl rfl rfl ?_
      refine G.opN1 rfl rfl rfl rfl rfl ?_
      refine G.op1 (op_pickF (Ev.t 7 (bB false)) (Ev.c _ rfl) rfl) rfl ⟨rfl, trivial⟩ trivial ?_
      refine G.endOps ?_
      exact G.arr (J10 false hF) ⟨rfl, rfl, trivial⟩ trivial rfl

end Go.Ark
