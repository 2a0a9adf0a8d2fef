/- Walks, printed by a program of mine: each function of the program computes the typed function of its name. Conditions: none. -/
import Derived.Test.YtknhoebmoljopaaWClientEnters1
namespace Go.Ark
open Go Go.Ab Go.RowKit Go.Lib Go.Proofs

set_option maxRecDepth 20000 in
set_option maxHeartbeats 2000000 in
theorem ct_ref04_Add (p_0 : (List Api_Dep)) (d_1 : Api_Dep) (r : (List Api_Dep)) (hF : ref04_Add p_0 d_1 = some r) : Ct Try.prog 23 [.g (.d (.sl 3 (List.map encApi_Dep p_0))), .g (.agg (encApi_Dep d_1))] (.one (.d (.sl 3 (List.map encApi_Dep r)))) := by
  unfold ref04_Add at hF
  refine Ct.intro Try.func23 rfl Try.ntmps23 rfl rfl fun M w => ?_
  refine G.seq ?_
  refine G.region ?_
  refine G.op2 (op_boxA (k := 1003) (Ev.t 1 (.g (.agg [.v (.string d_1.Key), .v (.int .i64 d_1.Stamp.N), .v (.int .i64 d_1.Stamp.Site)]))) rfl) rfl ⟨rfl, trivial⟩ ⟨rfl, trivial⟩ ?_
  refine G.op1 (op_assign (Ev.n 3) rfl) rfl trivial trivial ?_
  refine G.endOps ?_
  refine G.seq ?_
  refine G.region ?_
  refine G.op1 (op_fieldP (off' := 0) Try.underlying46 rfl ti9 (by decide) rfl (Ev.t 3 (.ptr 1003 0)) rfl) rfl ⟨rfl, trivial⟩ trivial ?_
  refine G.op1 (op_load1P (c := bS d_1.Key) Try.underlying9 rfl rfl (Ev.t 11 (.ptr 1003 0)) rfl) rfl ⟨rfl, trivial⟩ ⟨rfl, trivial⟩ ?_
  obtain ⟨r1, hr1, hF⟩ := bindS hF
  refine G.op1 (op_callQ (sv := .one (bB r1)) cf30 (ct_ref02_Check d_1.Key r1 hr1) rfl rfl (EvQL.cons (EvQ.g (Ev.t 12 (bS d_1.Key))) EvQL.nil) rfl) rfl ⟨rfl, trivial⟩ trivial ?_
  refine G.op1 (op_assign (Ev.t 13 (bB r1)) rfl) rfl ⟨rfl, trivial⟩ trivial ?_
  refine G.endOps ?_
  refine G.seq ?_
  refine G.region ?_
  refine G.op1 (op_fieldP (off' := 1) Try.underlying46 rfl ti34 (by decide) rfl (Ev.t 3 (.ptr 1003 0)) rfl) rfl ⟨rfl, trivial⟩ trivial ?_
  refine G.op1 (op_loadAP (ds := [.v (.int .i64 d_1.Stamp.N), .v (.int .i64 d_1.Stamp.Site)]) Try.underlying34 rfl ti34 rfl (Ev.t 14 (.ptr 1003 1)) rfl) rfl ⟨rfl, trivial⟩ ⟨rfl, trivial⟩ ?_
  obtain ⟨r2, hr2, hF⟩ := bindS hF
  refine G.op1 (op_callQ (sv := .one (bB r2)) cf31 (ct_ref03_Check d_1.Stamp r2 hr2) rfl rfl (EvQL.cons (EvQ.g (Ev.t 15 (.g (.agg [.v (.int .i64 d_1.Stamp.N), .v (.int .i64 d_1.Stamp.Site)])))) EvQL.nil) rfl) rfl ⟨rfl, trivial⟩ trivial ?_
  refine G.op1 (op_assign (Ev.t 16 (bB r2)) rfl) rfl ⟨rfl, trivial⟩ trivial ?_
  refine G.endOps ?_
  refine G.seq ?_
  refine G.seq ?_
  refine G.joinC (T := Bool) (fun y3 => ⟨[(0, .one (.g (.d (.sl 3 (List.map encApi_Dep p_0))))), (3, .one (.ptr 1003 0)), (22, .one (bB y3))], [(1003, some (.blk 46 [bS d_1.Key, bI .i64 d_1.Stamp.N, bI .i64 d_1.Stamp.Site]))]⟩) (fun y3 => ref04_Add_k1 p_0 d_1 y3 = some r) (fun y3 hF => ?_) (fun J28 => ?_)
  · unfold ref04_Add_k1 at hF
    refine ifS hF (fun hc4 hF => ?_) (fun hc4 hF => ?_)
    · refine G.cond rfl (fun _ => ?_) (fun hx => by rw [hc4] at hx; cases hx)
      refine G.seq ?_
      refine G.region ?_
      refine G.op1 (op_move (Ev.t 0 (.g (.d (.sl 3 (List.map encApi_Dep p_0))))) rfl) rfl ⟨rfl, trivial⟩ trivial ?_
      refine G.op1 (op_assign (Ev.t 23 (.g (.d (.sl 3 (List.map encApi_Dep p_0))))) rfl) rfl ⟨rfl, trivial⟩ trivial ?_
      refine G.endOps ?_
      cases hF
      exact G.ret1 Try.results23 (RVar.tmp 4 _) ⟨rfl, trivial⟩ trivial
    · refine G.cond rfl (fun hx => by rw [hc4] at hx; cases hx) (fun _ => ?_)
      refine G.skip ?_
      refine G.seq ?_
      refine G.region ?_
      refine G.op2 (op_assignRow (E := 46) (size := 3) (k := 2007) (ex := false) rfl rfl) rfl trivial ⟨rfl, trivial⟩ ?_
      refine G.endOps ?_
      refine G.seq ?_
      refine G.region ?_
      refine G.op1 (op_assign (Ev.c _ rfl) rfl) rfl trivial trivial ?_
      refine G.endOps ?_
      refine G.seq ?_
      refine G.seq ?_
      refine G.region ?_
      refine G.op1 (op_assign (Ev.c _ rfl) rfl) rfl trivial trivial ?_
      refine G.endOps ?_
      refine G.joinC (T := Bool × (List Api_Dep)) (fun y5 => ⟨[(3, .one (.ptr 1003 0)), (7, .one (.own 2007 (List.map encApi_Dep y5.2))), (8, .one (bB y5.1))], [(1003, some (.blk 46 [bS d_1.Key, bI .i64 d_1.Stamp.N, bI .i64 d_1.Stamp.Site])), (2007, some (.row 46 3 (List.map encApi_Dep y5.2) false))]⟩) (fun y5 => ref04_Add_k2 d_1 y5 = some r) (fun y5 hF => ?_) (fun J8 => ?_)
      · unfold ref04_Add_k2 at hF
        refine G.seq ?_
        refine G.seq ?_
        refine G.region ?_
        refine G.op1 (op_move (Ev.t 8 (bB y5.1)) rfl) rfl ⟨rfl, trivial⟩ trivial ?_
        refine G.op1 (op_not (Ev.t 62 (bB y5.1)) rfl) rfl ⟨rfl, trivial⟩ trivial ?_
        refine G.endOps ?_
        refine ifS hF (fun hc6 hF => ?_) (fun hc6 hF => ?_)
        · refine G.cond rfl (fun _ => ?_) (fun hx => by rw [hc6] at hx; cases hx)
          refine G.region ?_
          refine G.op1 (op_move (Ev.t 7 (.own 2007 (List.map encApi_Dep y5.2))) rfl) rfl ⟨rfl, trivial⟩ trivial ?_
          refine G.op1 (op_loadAP (ds := [.v (.string d_1.Key), .v (.int .i64 d_1.Stamp.N), .v (.int .i64 d_1.Stamp.Site)]) Try.underlying46 rfl ti46 rfl (Ev.t 3 (.ptr 1003 0)) rfl) rfl ⟨rfl, trivial⟩ ⟨rfl, trivial⟩ ?_
          refine G.op1 (op_buildSlice (es := List.map encApi_Dep [d_1]) Try.underlying22 ti46 rfl rfl (EvP.cons (Ev.t 65 (.g (.agg [.v (.string d_1.Key), .v (.int .i64 d_1.Stamp.N), .v (.int .i64 d_1.Stamp.Site)]))) EvP.nil) rfl rfl (by simp [encApi_Dep]) rfl) rfl ⟨rfl, trivial⟩ trivial ?_
          obtain ⟨l7, hl7, hF⟩ := bindS hF
          refine G.op2 (op_appendO Try.underlying22 ti46 rfl (app_map hl7 encApi_Dep) (app_b1 hl7 encApi_Dep) (app_b2 hl7 encApi_Dep) (Ev.t 64 (.own 2007 (List.map encApi_Dep y5.2))) (Ev.t 66 (.g (.d (.sl 3 (List.map encApi_Dep ([d_1])))))) rfl) rfl ⟨rfl, rfl, trivial⟩ ⟨rfl, trivial⟩ ?_
          refine G.op1 (op_assign (Ev.t 67 (.own 2007 (List.map encApi_Dep l7))) rfl) rfl ⟨rfl, trivial⟩ trivial ?_
          refine G.endOps ?_
          refine G.seq ?_
          refine G.region ?_
          refine G.op1 (op_move (Ev.t 7 (.own 2007 (List.map encApi_Dep l7))) rfl) rfl ⟨rfl, trivial⟩ trivial ?_
          refine G.op1 (op_assign (Ev.t 68 (.own 2007 (List.map encApi_Dep l7))) rfl) rfl ⟨rfl, trivial⟩ trivial ?_
          refine G.endOps ?_
          refine G.view (t := 4) rfl rfl ?_
          cases hF
          exact G.ret1 Try.results23 (RVar.tmp 4 _) ⟨rfl, trivial⟩ trivial
        · refine G.cond rfl (fun hx => by rw [hc6] at hx; cases hx) (fun _ => ?_)
          refine G.skip ?_
          refine G.seq ?_
          refine G.region ?_
          refine G.op1 (op_move (Ev.t 7 (.own 2007 (List.map encApi_Dep y5.2))) rfl) rfl ⟨rfl, trivial⟩ trivial ?_
          refine G.op1 (op_assign (Ev.t 68 (.own 2007 (List.map encApi_Dep y5.2))) rfl) rfl ⟨rfl, trivial⟩ trivial ?_
          refine G.endOps ?_
          refine G.view (t := 4) rfl rfl ?_
          cases hF
          exact G.ret1 Try.results23 (RVar.tmp 4 _) ⟨rfl, trivial⟩ trivial
      refine G.block ?_
      refine G.keep (sl' := [(0, .one (.g (.d (.sl 3 (List.map encApi_Dep p_0))))), (3, .one (.ptr 1003 0)), (7, .one (.own 2007 (List.map encApi_Dep ([] : (List Api_Dep))))), (8, .one (bB false)), (9, .one (bI .i64 0))]) (hp' := [(1003, some (.blk 46 [bS d_1.Key, bI .i64 d_1.Stamp.N, bI .i64 d_1.Stamp.Site])), (2007, some (.row 46 3 (List.map encApi_Dep ([] : (List Api_Dep))) false))]) ⟨rfl, rfl, rfl, rfl, rfl, trivial⟩ ⟨rfl, rfl, trivial⟩ rfl ?_
      refine G.loopF (fun (v9 : Bool × Int × (List Api_Dep)) => ⟨[(0, .one (.g (.d (.sl 3 (List.map encApi_Dep p_0))))), (3, .one (.ptr 1003 0)), (7, .one (.own 2007 (List.map encApi_Dep v9.2.2))), (8, .one (bB v9.1)), (9, .one (bI .i64 v9.2.1))], [(1003, some (.blk 46 [bS d_1.Key, bI .i64 d_1.Stamp.N, bI .i64 d_1.Stamp.Site])), (2007, some (.row 46 3 (List.map encApi_Dep v9.2.2) false))]⟩) hF rfl (fun K12 again11 v9 J10 hF => ?_)
      unfold ref04_Add_l3 at hF
      refine G.seq ?_
      refine G.seq ?_
      refine G.region ?_
      refine G.op1 (op_move (Ev.t 9 (bI .i64 v9.2.1)) rfl) rfl ⟨rfl, trivial⟩ trivial ?_
      refine G.op1 (op_move (Ev.t 0 (.g (.d (.sl 3 (List.map encApi_Dep p_0))))) rfl) rfl ⟨rfl, trivial⟩ trivial ?_
      refine G.op1 (OpL.cast (op_lenD Try.underlying22 (Ev.t 25 (.g (.d (.sl 3 (List.map encApi_Dep p_0))))) rfl) (by rw [List.length_map])) rfl ⟨rfl, trivial⟩ trivial ?_
      refine G.op1 (op_lss (Ev.t 24 (bI .i64 v9.2.1)) (Ev.t 26 (bI .i64 (p_0.length : Int))) rfl) rfl ⟨rfl, rfl, trivial⟩ trivial ?_
      refine G.endOps ?_
      refine ifS hF (fun hc13 hF => ?_) (fun hc13 hF => ?_)
      · refine G.cond rfl (fun _ => ?_) (fun hx => by rw [hc13] at hx; cases hx)
        refine G.skip ?_
        refine G.seq ?_
        refine G.block ?_
        refine G.seq ?_
        refine G.region ?_
        refine G.op1 (op_move (Ev.t 0 (.g (.d (.sl 3 (List.map encApi_Dep p_0))))) rfl) rfl ⟨rfl, trivial⟩ trivial ?_
        refine G.op1 (op_move (Ev.t 9 (bI .i64 v9.2.1)) rfl) rfl ⟨rfl, trivial⟩ trivial ?_
        obtain ⟨x14, hx14, hF⟩ := bindS hF
        refine G.op1 (op_index (cs := [.v (.string x14.Key), .v (.int .i64 x14.Stamp.N), .v (.int .i64 x14.Stamp.Site)]) Try.underlying22 ti46 (idx_ok hx14).1 (idx_get hx14 encApi_Dep) (Ev.t 30 (.g (.d (.sl 3 (List.map encApi_Dep p_0))))) (Ev.t 31 (bI .i64 v9.2.1)) rfl) rfl ⟨rfl, rfl, trivial⟩ trivial ?_
        refine G.op1 (op_loadAE (ds := [.v (.string x14.Key), .v (.int .i64 x14.Stamp.N), .v (.int .i64 x14.Stamp.Site)]) Try.underlying46 rfl ti46 rfl (Ev.t 32 (.ep [.v (.string x14.Key), .v (.int .i64 x14.Stamp.N), .v (.int .i64 x14.Stamp.Site)])) rfl) rfl ⟨rfl, trivial⟩ trivial ?_
        refine G.op2 (op_alloc (k := 1010) (cs := [bS ByteArray.empty, bI .i64 0, bI .i64 0]) ti46 ⟨.v _ rfl, .v _ rfl, .v _ rfl, trivial⟩ rfl) rfl trivial ⟨rfl, trivial⟩ ?_
        refine G.op3 (op_storeA (cs' := [bS x14.Key, bI .i64 x14.Stamp.N, bI .i64 x14.Stamp.Site]) ti46 rfl rfl (Ev.t 10 (.ptr 1010 0)) (Ev.t 33 (.g (.agg [.v (.string x14.Key), .v (.int .i64 x14.Stamp.N), .v (.int .i64 x14.Stamp.Site)])))) rfl ⟨rfl, rfl, trivial⟩ ⟨rfl, trivial⟩ ?_
        refine G.endOps ?_
        refine G.seq ?_
        refine G.seq ?_
        refine G.region ?_
        refine G.op1 (op_fieldP (off' := 0) Try.underlying46 rfl ti9 (by decide) rfl (Ev.t 10 (.ptr 1010 0)) rfl) rfl ⟨rfl, trivial⟩ trivial ?_
        refine G.op1 (op_load1P (c := bS x14.Key) Try.underlying9 rfl rfl (Ev.t 34 (.ptr 1010 0)) rfl) rfl ⟨rfl, trivial⟩ ⟨rfl, trivial⟩ ?_
        refine G.op1 (op_fieldP (off' := 0) Try.underlying46 rfl ti9 (by decide) rfl (Ev.t 3 (.ptr 1003 0)) rfl) rfl ⟨rfl, trivial⟩ trivial ?_
        refine G.op1 (op_load1P (c := bS d_1.Key) Try.underlying9 rfl rfl (Ev.t 36 (.ptr 1003 0)) rfl) rfl ⟨rfl, trivial⟩ ⟨rfl, trivial⟩ ?_
        refine G.op1 (op_eqS (Ev.t 35 (bS x14.Key)) (Ev.t 37 (bS d_1.Key)) rfl) rfl ⟨rfl, rfl, trivial⟩ trivial ?_
        refine G.endOps ?_
        refine G.joinC (T := Bool × ByteArray × Int × Int) (fun y15 => ⟨[(0, .one (.g (.d (.sl 3 (List.map encApi_Dep p_0))))), (3, .one (.ptr 1003 0)), (7, .one (.own 2007 (List.map encApi_Dep v9.2.2))), (8, .one (bB y15.1)), (9, .one (bI .i64 v9.2.1)), (10, .one (.ptr 1010 0))], [(1003, some (.blk 46 [bS d_1.Key, bI .i64 d_1.Stamp.N, bI .i64 d_1.Stamp.Site])), (1010, some (.blk 46 [bS y15.2.1, bI .i64 y15.2.2.1, bI .i64 y15.2.2.2])), (2007, some (.row 46 3 (List.map encApi_Dep v9.2.2) false))]⟩) (fun y15 => ref04_Add_k4 d_1 again11 v9 y15 = some r) (fun y15 hF => ?_) (fun J24 => ?_)
        · unfold ref04_Add_k4 at hF
          refine G.seq ?_
          refine G.seq ?_
          refine G.joinC (T := Bool) (fun y16 => ⟨[(0, .one (.g (.d (.sl 3 (List.map encApi_Dep p_0))))), (3, .one (.ptr 1003 0)), (7, .one (.own 2007 (List.map encApi_Dep v9.2.2))), (8, .one (bB y15.1)), (9, .one (bI .i64 v9.2.1)), (10, .one (.ptr 1010 0)), (53, .one (bB y16))], [(1003, some (.blk 46 [bS d_1.Key, bI .i64 d_1.Stamp.N, bI .i64 d_1.Stamp.Site])), (1010, some (.blk 46 [bS y15.2.1, bI .i64 y15.2.2.1, bI .i64 y15.2.2.2])), (2007, some (.row 46 3 (List.map encApi_Dep v9.2.2) false))]⟩) (fun y16 => ref04_Add_k5 d_1 again11 v9 y15 y16 = some r) (fun y16 hF => ?_) (fun J22 => ?_)
          · unfold ref04_Add_k5 at hF
            refine G.joinC (T := Bool × (List Api_Dep)) (fun y17 => ⟨[(0, .one (.g (.d (.sl 3 (List.map encApi_Dep p_0))))), (3, .one (.ptr 1003 0)), (7, .one (.own 2007 (List.map encApi_Dep y17.2))), (8, .one (bB y17.1)), (9, .one (bI .i64 v9.2.1)), (10, .one (.ptr 1010 0))], [(1003, some (.blk 46 [bS d_1.Key, bI .i64 d_1.Stamp.N, bI .i64 d_1.Stamp.Site])), (1010, some (.blk 46 [bS y15.2.1, bI .i64 y15.2.2.1, bI .i64 y15.2.2.2])), (2007, some (.row 46 3 (List.map encApi_Dep y17.2) false))]⟩) (fun y17 => ref04_Add_k6 again11 v9 y15 y17 = some r) (fun y17 hF => ?_) (fun J19 => ?_)
            · unfold ref04_Add_k6 at hF
              refine G.region ?_
              refine G.op1 (op_move (Ev.t 7 (.own 2007 (List.map encApi_Dep y17.2))) rfl) rfl ⟨rfl, trivial⟩ trivial ?_
              refine G.op1 (op_loadAP (ds := [.v (.string y15.2.1), .v (.int .i64 y15.2.2.1), .v (.int .i64 y15.2.2.2)]) Try.underlying46 rfl ti46 rfl (Ev.t 10 (.ptr 1010 0)) rfl) rfl ⟨rfl, trivial⟩ ⟨rfl, trivial⟩ ?_
              refine G.op1 (op_buildSlice (es := List.map encApi_Dep [(Api_Dep.mk y15.2.1 (Api_Stamp.mk y15.2.2.1 y15.2.2.2))]) Try.underlying22 ti46 rfl rfl (EvP.cons (Ev.t 59 (.g (.agg [.v (.string y15.2.1), .v (.int .i64 y15.2.2.1), .v (.int .i64 y15.2.2.2)]))) EvP.nil) rfl rfl (by simp [encApi_Dep]) rfl) rfl ⟨rfl, trivial⟩ trivial ?_
              obtain ⟨l18, hl18, hF⟩ := bindS hF
              refine G.op2 (op_appendO Try.underlying22 ti46 rfl (app_map hl18 encApi_Dep) (app_b1 hl18 encApi_Dep) (app_b2 hl18 encApi_Dep) (Ev.t 58 (.own 2007 (List.map encApi_Dep y17.2))) (Ev.t 60 (.g (.d (.sl 3 (List.map encApi_Dep ([(Api_Dep.mk y15.2.1 (Api_Stamp.mk y15.2.2.1 y15.2.2.2))])))))) rfl) rfl ⟨rfl, rfl, trivial⟩ ⟨rfl, trivial⟩ ?_
              refine G.op1 (op_assign (Ev.t 61 (.own 2007 (List.map encApi_Dep l18))) rfl) rfl ⟨rfl, trivial⟩ trivial ?_
              refine G.endOps ?_
              refine G.endBlock ?_
              refine G.region ?_
              refine G.op1 (op_move (Ev.t 9 (bI .i64 v9.2.1)) rfl) rfl ⟨rfl, trivial⟩ trivial ?_
              refine G.op1 (op_add (Ev.t 28 (bI .i64 v9.2.1)) (Ev.c _ rfl) rfl) rfl ⟨rfl, trivial⟩ trivial ?_
              refine G.op1 (op_assign (Ev.t 29 (bI .i64 (IntKind.wrap .i64 (v9.2.1 + 1)))) rfl) rfl ⟨rfl, trivial⟩ trivial ?_
              refine G.endOps ?_
              exact G.arr (J10 (y17.1, IntKind.wrap .i64 (v9.2.1 + 1), l18) hF) ⟨rfl, rfl, rfl, rfl, rfl, trivial⟩ ⟨rfl, rfl, trivial⟩ rfl
            refine ifS hF (fun hc20 hF => ?_) (fun hc20 hF => ?_)
            · refine G.cond rfl (fun _ => ?_) (fun hx => by rw [hc20] at hx; cases hx)
              refine G.seq ?_
              refine G.region ?_
              refine G.op1 (op_move (Ev.t 7 (.own 2007 (List.map encApi_Dep v9.2.2))) rfl) rfl ⟨rfl, trivial⟩ trivial ?_
              refine G.op1 (op_loadAP (ds := [.v (.string d_1.Key), .v (.int .i64 d_1.Stamp.N), .v (.int .i64 d_1.Stamp.Site)]) Try.underlying46 rfl ti46 rfl (Ev.t 3 (.ptr 1003 0)) rfl) rfl ⟨rfl, trivial⟩ ⟨rfl, trivial⟩ ?_
              refine G.op1 (op_buildSlice (es := List.map encApi_Dep [d_1]) Try.underlying22 ti46 rfl rfl (EvP.cons (Ev.t 55 (.g (.agg [.v (.string d_1.Key), .v (.int .i64 d_1.Stamp.N), .v (.int .i64 d_1.Stamp.Site)]))) EvP.nil) rfl rfl (by simp [encApi_Dep]) rfl) rfl ⟨rfl, trivial⟩ trivial ?_
              obtain ⟨l21, hl21, hF⟩ := bindS hF
              refine G.op2 (op_appendO Try.underlying22 ti46 rfl (app_map hl21 encApi_Dep) (app_b1 hl21 encApi_Dep) (app_b2 hl21 encApi_Dep) (Ev.t 54 (.own 2007 (List.map encApi_Dep v9.2.2))) (Ev.t 56 (.g (.d (.sl 3 (List.map encApi_Dep ([d_1])))))) rfl) rfl ⟨rfl, rfl, trivial⟩ ⟨rfl, trivial⟩ ?_
              refine G.op1 (op_assign (Ev.t 57 (.own 2007 (List.map encApi_Dep l21))) rfl) rfl ⟨rfl, trivial⟩ trivial ?_
              refine G.endOps ?_
              refine G.region ?_
              refine G.op1 (op_assign (Ev.c _ rfl) rfl) rfl trivial trivial ?_
              refine G.endOps ?_
              exact G.arr (J19 (true, l21) hF) ⟨rfl, rfl, rfl, rfl, rfl, rfl, trivial⟩ ⟨rfl, rfl, rfl, trivial⟩ rfl
            · refine G.cond rfl (fun hx => by rw [hc20] at hx; cases hx) (fun _ => ?_)
              refine G.skip ?_
              exact G.arr (J19 (y15.1, v9.2.2) hF) ⟨rfl, rfl, rfl, rfl, rfl, rfl, trivial⟩ ⟨rfl, rfl, rfl, trivial⟩ rfl
          refine G.region ?_
          refine G.op1 (op_move (Ev.t 8 (bB y15.1)) rfl) rfl ⟨rfl, trivial⟩ trivial ?_
          refine G.op1 (op_not (Ev.t 45 (bB y15.1)) rfl) rfl ⟨rfl, trivial⟩ trivial ?_
          refine G.op1 (op_move (Ev.t 46 (bB (!y15.1))) rfl) rfl ⟨rfl, trivial⟩ trivial ?_
          refine ifS hF (fun hc23 hF => ?_) (fun hc23 hF => ?_)
          · refine G.known (t := 47) hc23 rfl ?_
            refine G.opG1 (op_fieldP (off' := 0) Try.underlying46 rfl ti9 (by decide) rfl (Ev.t 10 (.ptr 1010 0)) rfl) rfl rfl rfl ⟨rfl, trivial⟩ trivial ?_
            refine G.opG1 (op_load1P (c := bS y15.2.1) Try.underlying9 rfl rfl (Ev.t 48 (.ptr 1010 0)) rfl) rfl rfl rfl ⟨rfl, trivial⟩ ⟨rfl, trivial⟩ ?_
            refine G.opG1 (op_fieldP (off' := 0) Try.underlying46 rfl ti9 (by decide) rfl (Ev.t 3 (.ptr 1003 0)) rfl) rfl rfl rfl ⟨rfl, trivial⟩ trivial ?_
            refine G.opG1 (op_load1P (c := bS d_1.Key) Try.underlying9 rfl rfl (Ev.t 50 (.ptr 1003 0)) rfl) rfl rfl rfl ⟨rfl, trivial⟩ ⟨rfl, trivial⟩ ?_
            refine G.opG1 (op_gtS (Ev.t 49 (bS y15.2.1)) (Ev.t 51 (bS d_1.Key)) rfl) rfl rfl rfl ⟨rfl, rfl, trivial⟩ trivial ?_
            refine G.op1 (op_pickT (Ev.t 47 (bB true)) (Ev.t 52 (bB (!(slt y15.2.1 d_1.Key || seq y15.2.1 d_1.Key)))) rfl) rfl ⟨rfl, rfl, trivial⟩ trivial ?_
            refine G.endOps ?_
            exact G.arr (J22 (!(slt y15.2.1 d_1.Key || seq y15.2.1 d_1.Key)) hF) ⟨rfl, rfl, rfl, rfl, rfl, rfl, rfl, trivial⟩ ⟨rfl, rfl, rfl, trivial⟩ rfl
          · refine G.known (t := 47) hc23 rfl ?_
            refine G.opN1 rfl rfl rfl rfl rfl ?_
            refine G.opN1 rfl rfl rfl rfl rfl ?_
            refine G.opN1 rfl rfl rfl rfl rfl ?_
            refine G.opN1 rfl rfl rfl rfl rfl ?_
            refine G.opN1 rfl rfl rfl rfl rfl ?_
            refine G.op1 (op_pickF (Ev.t 47 (bB false)) (Ev.c _ rfl) rfl) rfl ⟨rfl, trivial⟩ trivial ?_
            refine G.endOps ?_
            exact G.arr (J22 false hF) ⟨rfl, rfl, rfl, rfl, rfl, rfl, rfl, trivial⟩ ⟨rfl, rfl, rfl, trivial⟩ rfl
        refine ifS hF (fun hc25 hF => ?_) (fun hc25 hF => ?_)
        · refine G.cond rfl (fun _ => ?_) (fun hx => by rw [hc25] at hx; cases hx)
          refine G.seq ?_
          refine G.seq ?_
          refine G.region ?_
          refine G.op1 (op_fieldP (off' := 1) Try.underlying46 rfl ti34 (by decide) rfl (Ev.t 10 (.ptr 1010 0)) rfl) rfl ⟨rfl, trivial⟩ trivial ?_
          refine G.op1 (op_loadAP (ds := [.v (.int .i64 x14.Stamp.N), .v (.int .i64 x14.Stamp.Site)]) Try.underlying34 rfl ti34 rfl (Ev.t 39 (.ptr 1010 1)) rfl) rfl ⟨rfl, trivial⟩ ⟨rfl, trivial⟩ ?_
          refine G.op1 (op_fieldP (off' := 1) Try.underlying46 rfl ti34 (by decide) rfl (Ev.t 3 (.ptr 1003 0)) rfl) rfl ⟨rfl, trivial⟩ trivial ?_
          refine G.op1 (op_loadAP (ds := [.v (.int .i64 d_1.Stamp.N), .v (.int .i64 d_1.Stamp.Site)]) Try.underlying34 rfl ti34 rfl (Ev.t 41 (.ptr 1003 1)) rfl) rfl ⟨rfl, trivial⟩ ⟨rfl, trivial⟩ ?_
          obtain ⟨r26, hr26, hF⟩ := bindS hF
          refine G.op1 (op_callQ (sv := .one (bB r26)) cf16 (ct_ref03_Less x14.Stamp d_1.Stamp r26 hr26) rfl rfl (EvQL.cons (EvQ.g (Ev.t 40 (.g (.agg [.v (.int .i64 x14.Stamp.N), .v (.int .i64 x14.Stamp.Site)])))) (EvQL.cons (EvQ.g (Ev.t 42 (.g (.agg [.v (.int .i64 d_1.Stamp.N), .v (.int .i64 d_1.Stamp.Site)])))) EvQL.nil)) rfl) rfl ⟨rfl, rfl, trivial⟩ trivial ?_
          refine G.endOps ?_
          refine ifS hF (fun hc27 hF => ?_) (fun hc27 hF => ?_)
          · refine G.cond rfl (fun _ => ?_) (fun hx => by rw [hc27] at hx; cases hx)
            refine G.region ?_
            refine G.op1 (op_loadAP (ds := [.v (.string d_1.Key), .v (.int .i64 d_1.Stamp.N), .v (.int .i64 d_1.Stamp.Site)]) Try.underlying46 rfl ti46 rfl (Ev.t 3 (.ptr 1003 0)) rfl) rfl ⟨rfl, trivial⟩ ⟨rfl, trivial⟩ ?_
            refine G.op3 (op_storeA (cs' := [bS d_1.Key, bI .i64 d_1.Stamp.N, bI .i64 d_1.Stamp.Site]) ti46 rfl rfl (Ev.t 10 (.ptr 1010 0)) (Ev.t 44 (.g (.agg [.v (.string d_1.Key), .v (.int .i64 d_1.Stamp.N), .v (.int .i64 d_1.Stamp.Site)])))) rfl ⟨rfl, rfl, trivial⟩ ⟨rfl, trivial⟩ ?_
            refine G.endOps ?_
            refine G.region ?_
            refine G.op1 (op_assign (Ev.c _ rfl) rfl) rfl trivial trivial ?_
            refine G.endOps ?_
            exact G.arr (J24 (true, d_1.Key, d_1.Stamp.N, d_1.Stamp.Site) hF) ⟨rfl, rfl, rfl, rfl, rfl, rfl, trivial⟩ ⟨rfl, rfl, rfl, trivial⟩ rfl
          · refine G.cond rfl (fun hx => by rw [hc27] at hx; cases hx) (fun _ => ?_)
            refine G.skip ?_
            refine G.region ?_
            refine G.op1 (op_assign (Ev.c _ rfl) rfl) rfl trivial trivial ?_
            refine G.endOps ?_
            exact G.arr (J24 (true, x14.Key, x14.Stamp.N, x14.Stamp.Site) hF) ⟨rfl, rfl, rfl, rfl, rfl, rfl, trivial⟩ ⟨rfl, rfl, rfl, trivial⟩ rfl
        · refine G.cond rfl (fun hx => by rw [hc25] at hx; cases hx) (fun _ => ?_)
          refine G.skip ?_
          exact G.arr (J24 (v9.1, x14.Key, x14.Stamp.N, x14.Stamp.Site) hF) ⟨rfl, rfl, rfl, rfl, rfl, rfl, trivial⟩ ⟨rfl, rfl, rfl, trivial⟩ rfl
      · refine G.cond rfl (fun hx => by rw [hc13] at hx; cases hx) (fun _ => ?_)
        refine G.exit ?_
        refine GX.c ?_
        refine GX.q ?_
        refine GX.bYes ?_
        exact G.arr (J8 (v9.1, v9.2.2) hF) ⟨rfl, rfl, rfl, trivial⟩ ⟨rfl, rfl, trivial⟩ rfl
  refine G.region ?_
  refine G.op1 (op_move (Ev.t 5 (bB r1)) rfl) rfl ⟨rfl, trivial⟩ trivial ?_
  refine G.op1 (op_not (Ev.t 17 (bB r1)) rfl) rfl ⟨rfl, trivial⟩ trivial ?_
  refine G.op1 (op_move (Ev.t 18 (bB (!r1))) rfl) rfl ⟨rfl, trivial⟩ trivial ?_
  refine ifS hF (fun hc29 hF => ?_) (fun hc29 hF => ?_)
  · refine G.known (t := 19) hc29 rfl ?_
    refine G.opN1 rfl rfl rfl rfl rfl ?_
    refine G.opN1 rfl rfl rfl rfl rfl ?_
    refine G.op1 (op_pickT (Ev.t 19 (bB true)) (Ev.c _ rfl) rfl) rfl ⟨rfl, trivial⟩ trivial ?_
    refine G.endOps ?_
    exact G.arr (J28 true hF) ⟨rfl, rfl, rfl, trivial⟩ ⟨rfl, trivial⟩ rfl
  · refine G.known (t := 19) hc29 rfl ?_
    refine G.opG1 (op_move (Ev.t 6 (bB r2)) rfl) rfl rfl rfl ⟨rfl, trivial⟩ trivial ?_
    refine G.opG1 (op_not (Ev.t 20 (bB r2)) rfl) rfl rfl rfl ⟨rfl, trivial⟩ trivial ?_
    refine G.op1 (op_pickF (Ev.t 19 (bB false)) (Ev.t 21 (bB (!r2))) rfl) rfl ⟨rfl, rfl, trivial⟩ trivial ?_
    refine G.endOps ?_
    exact G.arr (J28 (!r2) hF) ⟨rfl, rfl, rfl, trivial⟩ ⟨rfl, trivial⟩ rfl


set_option maxRecDepth 20000 in
set_option maxHeartbeats 2000000 in
theorem ct_law15_row (l_0 : (List Api_Dep)) (r : (List Api_Dep)) (hF : law15_row l_0 = some r) : Ct Try.prog 8 [.g (.d (.sl 3 (List.map encApi_Dep l_0)))] (.one (.d (.sl 3 (List.map encApi_Dep r)))) := by
  unfold law15_row at hF
  refine Ct.intro Try.func8 rfl Try.ntmps8 rfl rfl fun M w => ?_
  refine G.seq ?_
  refine G.region ?_
  refine G.op1 (op_assign (Ev.n 3) rfl) rfl trivial trivial ?_
  refine G.endOps ?_
  refine G.seq ?_
  refine G.region ?_
  refine G.op1 (op_assign (Ev.n 3) rfl) rfl trivial trivial ?_
  refine G.endOps ?_
  refine G.seq ?_
  refine G.seq ?_
  refine G.region ?_
  refine G.op1 (op_assign (Ev.c _ rfl) rfl) rfl trivial trivial ?_
  refine G.endOps ?_
  refine G.joinC (T := (List Api_Dep)) (fun y1 => ⟨[(3, .one (.g (.d (.sl 3 (List.map encApi_Dep y1)))))], []⟩) (fun y1 => law15_row_k1 y1 = some r) (fun y1 hF => ?_) (fun J2 => ?_)
  · unfold law15_row_k1 at hF
    refine G.seq ?_
    refine G.region ?_
    refine G.op1 (op_move (Ev.t 3 (.g (.d (.sl 3 (List.map encApi_Dep y1))))) rfl) rfl ⟨rfl, trivial⟩ trivial ?_
    refine G.op1 (op_assign (Ev.t 31 (.g (.d (.sl 3 (List.map encApi_Dep y1))))) rfl) rfl ⟨rfl, trivial⟩ trivial ?_
    refine G.endOps ?_
    cases hF
    exact G.ret1 Try.results8 (RVar.tmp 2 _) ⟨rfl, trivial⟩ trivial
  refine G.block ?_
  refine G.keep (sl' := [(0, .one (.g (.d (.sl 3 (List.map encApi_Dep l_0))))), (3, .one (.g (.d (.sl 3 (List.map encApi_Dep ([] : (List Api_Dep))))))), (4, .one (bI .i64 0))]) (hp' := []) ⟨rfl, rfl, rfl, trivial⟩ trivial rfl ?_
  refine G.loopF (fun (v3 : (List Api_Dep) × Int) => ⟨[(0, .one (.g (.d (.sl 3 (List.map encApi_Dep l_0))))), (3, .one (.g (.d (.sl 3 (List.map encApi_Dep v3.1))))), (4, .one (bI .i64 v3.2))], []⟩) hF rfl (fun K6 again5 v3 J4 hF => ?_)
  unfold law15_row_l2 at hF
  refine G.seq ?_
  refine G.seq ?_
  refine G.joinC (T := Bool) (fun y7 => ⟨[(0, .one (.g (.d (.sl 3 (List.map encApi_Dep l_0))))), (3, .one (.g (.d (.sl 3 (List.map encApi_Dep v3.1))))), (4, .one (bI .i64 v3.2)), (13, .one (bB y7))], []⟩) (fun y7 => law15_row_k3 l_0 again5 v3 y7 = some r) (fun y7 hF => ?_) (fun J15 => ?_)
  · unfold law15_row_k3 at hF
    refine ifS hF (fun hc8 hF => ?_) (fun hc8 hF => ?_)
    · refine G.cond rfl (fun _ => ?_) (fun hx => by rw [hc8] at hx; cases hx)
      refine G.skip ?_
      refine G.seq ?_
      refine G.block ?_
      refine G.seq ?_
      refine G.region ?_
      refine G.op1 (op_move (Ev.t 0 (.g (.d (.sl 3 (List.map encApi_Dep l_0))))) rfl) rfl ⟨rfl, trivial⟩ trivial ?_
      refine G.op1 (op_move (Ev.t 4 (bI .i64 v3.2)) rfl) rfl ⟨rfl, trivial⟩ trivial ?_
      obtain ⟨x9, hx9, hF⟩ := bindS hF
      refine G.op1 (op_index (cs := [.v (.string x9.Key), .v (.int .i64 x9.Stamp.N), .v (.int .i64 x9.Stamp.Site)]) Try.underlying22 ti46 (idx_ok hx9).1 (idx_get hx9 encApi_Dep) (Ev.t 16 (.g (.d (.sl 3 (List.map encApi_Dep l_0))))) (Ev.t 17 (bI .i64 v3.2)) rfl) rfl ⟨rfl, rfl, trivial⟩ trivial ?_
      refine G.op1 (op_loadAE (ds := [.v (.string x9.Key), .v (.int .i64 x9.Stamp.N), .v (.int .i64 x9.Stamp.Site)]) Try.underlying46 rfl ti46 rfl (Ev.t 18 (.ep [.v (.string x9.Key), .v (.int .i64 x9.Stamp.N), .v (.int .i64 x9.Stamp.Site)])) rfl) rfl ⟨rfl, trivial⟩ trivial ?_
      refine G.op2 (op_alloc (k := 1005) (cs := [bS ByteArray.empty, bI .i64 0, bI .i64 0]) ti46 ⟨.v _ rfl, .v _ rfl, .v _ rfl, trivial⟩ rfl) rfl trivial ⟨rfl, trivial⟩ ?_
      refine G.op3 (op_storeA (cs' := [bS x9.Key, bI .i64 x9.Stamp.N, bI .i64 x9.Stamp.Site]) ti46 rfl rfl (Ev.t 5 (.ptr 1005 0)) (Ev.t 19 (.g (.agg [.v (.string x9.Key), .v (.int .i64 x9.Stamp.N), .v (.int .i64 x9.Stamp.Site)])))) rfl ⟨rfl, rfl, trivial⟩ ⟨rfl, trivial⟩ ?_
      refine G.endOps ?_
      refine G.seq ?_
      refine G.seq ?_
      refine G.region ?_
      refine G.op1 (op_fieldP (off' := 0) Try.underlying46 rfl ti9 (by decide) rfl (Ev.t 5 (.ptr 1005 0)) rfl) rfl ⟨rfl, trivial⟩ trivial ?_
      refine G.op1 (op_load1P (c := bS x9.Key) Try.underlying9 rfl rfl (Ev.t 20 (.ptr 1005 0)) rfl) rfl ⟨rfl, trivial⟩ ⟨rfl, trivial⟩ ?_
      refine G.op1 (op_lenS Try.underlying9 (Ev.t 21 (bS x9.Key)) rfl) rfl ⟨rfl, trivial⟩ trivial ?_
      refine G.op1 (op_gtr (Ev.t 22 (bI .i64 (x9.Key.size : Int))) (Ev.c _ rfl) rfl) rfl ⟨rfl, trivial⟩ trivial ?_
      refine G.endOps ?_
      refine G.joinC (T := ByteArray) (fun y10 => ⟨[(0, .one (.g (.d (.sl 3 (List.map encApi_Dep l_0))))), (3, .one (.g (.d (.sl 3 (List.map encApi_Dep v3.1))))), (4, .one (bI .i64 v3.2)), (5, .one (.ptr 1005 0))], [(1005, some (.blk 46 [bS y10, bI .i64 x9.Stamp.N, bI .i64 x9.Stamp.Site]))]⟩) (fun y10 => law15_row_k4 again5 v3 x9 y10 = some r) (fun y10 hF => ?_) (fun J12 => ?_)
      · unfold law15_row_k4 at hF
        refine G.region ?_
        refine G.op1 (op_move (Ev.t 3 (.g (.d (.sl 3 (List.map encApi_Dep v3.1))))) rfl) rfl ⟨rfl, trivial⟩ trivial ?_
        refine G.op1 (op_loadAP (ds := [.v (.string y10), .v (.int .i64 x9.Stamp.N), .v (.int .i64 x9.Stamp.Site)]) Try.underlying46 rfl ti46 rfl (Ev.t 5 (.ptr 1005 0)) rfl) rfl ⟨rfl, trivial⟩ ⟨rfl, trivial⟩ ?_
        obtain ⟨r11, hr11, hF⟩ := bindS hF
        refine G.op1 (op_call (sv := .one (.g (.d (.sl 3 (List.map encApi_Dep r11))))) cf23 (ct_ref04_Add v3.1 (Api_Dep.mk y10 x9.Stamp) r11 hr11) rfl (EvL.cons (Ev.t 28 (.g (.d (.sl 3 (List.map encApi_Dep v3.1))))) (EvL.cons (Ev.t 29 (.g (.agg [.v (.string y10), .v (.int .i64 x9.Stamp.N), .v (.int .i64 x9.Stamp.Site)]))) EvL.nil)) rfl) rfl ⟨rfl, rfl, trivial⟩ trivial ?_
        refine G.op1 (op_assign (Ev.t 30 (.g (.d (.sl 3 (List.map encApi_Dep r11))))) rfl) rfl ⟨rfl, trivial⟩ trivial ?_
        refine G.endOps ?_
        refine G.endBlock ?_
        refine G.region ?_
        refine G.op1 (op_move (Ev.t 4 (bI .i64 v3.2)) rfl) rfl ⟨rfl, trivial⟩ trivial ?_
        refine G.op1 (op_add (Ev.t 14 (bI .i64 v3.2)) (Ev.c _ rfl) rfl) rfl ⟨rfl, trivial⟩ trivial ?_
        refine G.op1 (op_assign (Ev.t 15 (bI .i64 (IntKind.wrap .i64 (v3.2 + 1)))) rfl) rfl ⟨rfl, trivial⟩ trivial ?_
        refine G.endOps ?_
        exact G.arr (J4 (r11, IntKind.wrap .i64 (v3.2 + 1)) hF) ⟨rfl, rfl, rfl, trivial⟩ trivial rfl
      refine ifS hF (fun hc13 hF => ?_) (fun hc13 hF => ?_)
      · refine G.cond rfl (fun _ => ?_) (fun hx => by rw [hc13] at hx; cases hx)
        refine G.region ?_
        refine G.op1 (op_fieldP (off' := 0) Try.underlying46 rfl ti9 (by decide) rfl (Ev.t 5 (.ptr 1005 0)) rfl) rfl ⟨rfl, trivial⟩ trivial ?_
        refine G.op1 (op_load1P (c := bS x9.Key) Try.underlying9 rfl rfl (Ev.t 24 (.ptr 1005 0)) rfl) rfl ⟨rfl, trivial⟩ ⟨rfl, trivial⟩ ?_
        obtain ⟨s14, hs14, hF⟩ := bindS hF
        refine G.op1 (OpL.cast (op_sliceS (lo := none) (hi := some 12) Try.underlying9 (ssub_ok hs14).1 (ssub_ok hs14).2.1 (ssub_ok hs14).2.2.1 (Ev.t 25 (bS x9.Key)) EvO.none (EvO.some (Ev.c _ rfl)) rfl) (congrArg (fun s => bS s) (ssub_ok hs14).2.2.2)) rfl ⟨rfl, trivial⟩ trivial ?_
        refine G.op1 (op_fieldP (off' := 0) Try.underlying46 rfl ti9 (by decide) rfl (Ev.t 5 (.ptr 1005 0)) rfl) rfl ⟨rfl, trivial⟩ trivial ?_
        refine G.op3 (op_store1 (cs' := [bS s14, bI .i64 x9.Stamp.N, bI .i64 x9.Stamp.Site]) (c := bS s14) trivial ti9 rfl rfl (Ev.t 27 (.ptr 1005 0)) (Ev.t 26 (bS s14))) rfl ⟨rfl, rfl, trivial⟩ ⟨rfl, trivial⟩ ?_
        refine G.endOps ?_
        exact G.arr (J12 s14 hF) ⟨rfl, rfl, rfl, rfl, trivial⟩ ⟨rfl, trivial⟩ rfl
      · refine G.cond rfl (fun hx => by rw [hc13] at hx; cases hx) (fun _ => ?_)
        refine G.skip ?_
        exact G.arr (J12 x9.Key hF) ⟨rfl, rfl, rfl, rfl, trivial⟩ ⟨rfl, trivial⟩ rfl
    · refine G.cond rfl (fun hx => by rw [hc8] at hx; cases hx) (fun _ => ?_)
      refine G.exit ?_
      refine GX.c ?_
      refine GX.q ?_
      refine GX.bYes ?_
      exact G.arr (J2 v3.1 hF) ⟨rfl, trivial⟩ trivial rfl
  refine G.region ?_
  refine G.op1 (op_move (Ev.t 4 (bI .i64 v3.2)) rfl) rfl ⟨rfl, trivial⟩ trivial ?_
  refine G.op1 (op_move (Ev.t 0 (.g (.d (.sl 3 (List.map encApi_Dep l_0))))) rfl) rfl ⟨rfl, trivial⟩ trivial ?_
  refine G.op1 (OpL.cast (op_lenD Try.underlying22 (Ev.t 7 (.g (.d (.sl 3 (List.map encApi_Dep l_0))))) rfl) (by rw [List.length_map])) rfl ⟨rfl, trivial⟩ trivial ?_
  refine G.op1 (op_lss (Ev.t 6 (bI .i64 v3.2)) (Ev.t 8 (bI .i64 (l_0.length : Int))) rfl) rfl ⟨rfl, rfl, trivial⟩ trivial ?_
  refine G.op1 (op_move (Ev.t 9 (bB (decide (v3.2 < (l_0.length : Int))))) rfl) rfl ⟨rfl, trivial⟩ trivial ?_
  refine ifS hF (fun hc16 hF => ?_) (fun hc16 hF => ?_)
  · refine G.known (t := 10) hc16 rfl ?_
    refine G.opG1 (op_move (Ev.t 4 (bI .i64 v3.2)) rfl) rfl rfl rfl ⟨rfl, trivial⟩ trivial ?_
    refine G.opG1 (op_lss (Ev.t 11 (bI .i64 v3.2)) (Ev.c _ rfl) rfl) rfl rfl rfl ⟨rfl, trivial⟩ trivial ?_
    refine G.op1 (op_pickT (Ev.t 10 (bB true)) (Ev.t 12 (bB (decide (v3.2 < 6)))) rfl) rfl ⟨rfl, rfl, trivial⟩ trivial ?_
    refine G.endOps ?_
    exact G.arr (J15 (decide (v3.2 < 6)) hF) ⟨rfl, rfl, rfl, rfl, trivial⟩ trivial rfl
  · refine G.known (t := 10) hc16 rfl ?_
    refine G.opN1 rfl rfl rfl rfl rfl ?_
    refine G.opN1 rfl rfl rfl rfl rfl ?_
    refine G.op1 (op_pickF (Ev.t 10 (bB false)) (Ev.c _ rfl) rfl) rfl ⟨rfl, trivial⟩ trivial ?_
    refine G.endOps ?_
    exact G.arr (J15 false hF) ⟨rfl, rfl, rfl, rfl, trivial⟩ trivial rfl


set_option maxRecDepth 20000 in
set_option maxHeartbeats 2000000 in
theorem ct_client_Leave (s_0 : Api_Session) (r : Api_Session) (hF : client_Leave s_0 = some r) : Ct Try.prog 17 [.g (.agg (encApi_Session s_0))] (.one (.agg (encApi_Session r))) := by
  unfold client_Leave at hF
  refine Ct.intro Try.func17 rfl Try.ntmps17 rfl rfl fun M w => ?_
  refine G.seq ?_
  refine G.region ?_
  refine G.op2 (op_boxA (k := 1001) (Ev.t 0 (.g (.agg [.v (.int .i64 s_0.Site), .sl 3 (List.map encApi_Dep s_0.Past)]))) rfl) rfl ⟨rfl, trivial⟩ ⟨rfl, trivial⟩ ?_
  refine G.op2 (op_alloc (k := 1002) (cs := [bI .i64 0, .g (.d (.sl 3 (List.map encApi_Dep ([] : (List Api_Dep)))))]) ti30 ⟨.v _ rfl, .n 3, trivial⟩ rfl) rfl trivial ⟨rfl, trivial⟩ ?_
  refine G.endOps ?_
  refine G.seq ?_
  refine G.region ?_
  refine G.op1 (op_fieldP (off' := 0) Try.underlying30 rfl ti3 (by decide) rfl (Ev.t 1 (.ptr 1001 0)) rfl) rfl ⟨rfl, trivial⟩ trivial ?_
  refine G.op3 (op_store1 (cs' := [bI .i64 (-1), .g (.d (.sl 3 (List.map encApi_Dep s_0.Past)))]) (c := bI .i64 (-1)) trivial ti3 rfl rfl (Ev.t 3 (.ptr 1001 0)) (Ev.c _ rfl)) rfl ⟨rfl, trivial⟩ ⟨rfl, trivial⟩ ?_
  refine G.endOps ?_
  refine G.seq ?_
  refine G.region ?_
  refine G.op1 (op_loadAP (ds := [.v (.int .i64 (-1)), .sl 3 (List.map encApi_Dep s_0.Past)]) Try.underlying30 rfl ti30 rfl (Ev.t 1 (.ptr 1001 0)) rfl) rfl ⟨rfl, trivial⟩ ⟨rfl, trivial⟩ ?_
  refine G.op3 (op_storeA (cs' := [bI .i64 (-1), .g (.d (.sl 3 (List.map encApi_Dep s_0.Past)))]) ti30 rfl rfl (Ev.t 2 (.ptr 1002 0)) (Ev.t 4 (.g (.agg [.v (.int .i64 (-1)), .sl 3 (List.map encApi_Dep s_0.Past)])))) rfl ⟨rfl, rfl, trivial⟩ ⟨rfl, trivial⟩ ?_
  refine G.endOps ?_
  cases hF
  exact G.ret1 Try.results17 (RVar.cellA (ds := [.v (.int .i64 (-1)), .sl 3 (List.map encApi_Dep s_0.Past)]) Try.underlying30 rfl ti30 rfl) ⟨rfl, trivial⟩ ⟨rfl, trivial⟩


set_option maxRecDepth 20000 in
set_option maxHeartbeats 2000000 in
theorem ct_law15_ranges (l_0 : (List Api_Range)) (r : (List Api_Range)) (hF : law15_ranges l_0 = some r) : Ct Try.prog 18 [.g (.d (.sl 2 (List.map encApi_Range l_0)))] (.one (.d (.sl 2 (List.map encApi_Range r)))) := by
  unfold law15_ranges at hF
  refine Ct.intro Try.func18 rfl Try.ntmps18 rfl rfl fun M w => ?_
  refine G.seq ?_
  refine G.region ?_
  refine G.op1 (op_assign (Ev.n 2) rfl) rfl trivial trivial ?_
  refine G.endOps ?_
  refine G.seq ?_
  refine G.seq ?_
  refine G.region ?_
  refine G.op1 (op_move (Ev.t 0 (.g (.d (.sl 2 (List.map encApi_Range l_0))))) rfl) rfl ⟨rfl, trivial⟩ trivial ?_
  refine G.op1 (OpL.cast (op_lenD Try.underlying24 (Ev.t 3 (.g (.d (.sl 2 (List.map encApi_Range l_0))))) rfl) (by rw [List.length_map])) rfl ⟨rfl, trivial⟩ trivial ?_
  refine G.op1 (op_gtr (Ev.t 4 (bI .i64 (l_0.length : Int))) (Ev.c _ rfl) rfl) rfl ⟨rfl, trivial⟩ trivial ?_
  refine G.endOps ?_
  refine ifS hF (fun hc1 hF => ?_) (fun hc1 hF => ?_)
  · refine G.cond rfl (fun _ => ?_) (fun hx => by rw [hc1] at hx; cases hx)
    refine G.seq ?_
    refine G.region ?_
    refine G.op1 (op_move (Ev.t 0 (.g (.d (.sl 2 (List.map encApi_Range l_0))))) rfl) rfl ⟨rfl, trivial⟩ trivial ?_
    obtain ⟨l2, hl2, hF⟩ := bindS hF
    refine G.op1 (op_sliceD (lo := none) (hi := some 4) Try.underlying24 ti40 (sub_ok hl2 encApi_Range).1 (sub_ok hl2 encApi_Range).2.1 (sub_ok hl2 encApi_Range).2.2.1 (sub_ok hl2 encApi_Range).2.2.2 (Ev.t 6 (.g (.d (.sl 2 (List.map encApi_Range l_0))))) EvO.none (EvO.some (Ev.c _ rfl)) rfl) rfl ⟨rfl, trivial⟩ trivial ?_
    refine G.op1 (op_assign (Ev.t 7 (.g (.d (.sl 2 (List.map encApi_Range l2))))) rfl) rfl ⟨rfl, trivial⟩ trivial ?_
    refine G.endOps ?_
    cases hF
    exact G.ret1 Try.results18 (RVar.tmp 2 _) ⟨rfl, trivial⟩ trivial
  · refine G.cond rfl (fun hx => by rw [hc1] at hx; cases hx) (fun _ => ?_)
    refine G.skip ?_
    refine G.seq ?_
    refine G.region ?_
    refine G.op1 (op_move (Ev.t 0 (.g (.d (.sl 2 (List.map encApi_Range l_0))))) rfl) rfl ⟨rfl, trivial⟩ trivial ?_
    refine G.op1 (op_assign (Ev.t 8 (.g (.d (.sl 2 (List.map encApi_Range l_0))))) rfl) rfl ⟨rfl, trivial⟩ trivial ?_
    refine G.endOps ?_
    cases hF
    exact G.ret1 Try.results18 (RVar.tmp 2 _) ⟨rfl, trivial⟩ trivial


set_option maxRecDepth 20000 in
set_option maxHeartbeats 2000000 in
theorem ct_ref02_Has (r_0 : Api_Range) (key_1 : ByteArray) (r : Bool) (hF : ref02_Has r_0 key_1 = some r) : Ct Try.prog 29 [.g (.agg (encApi_Range r_0)), .g (.d (.v (.string key_1)))] (.one (.d (.v (.bool r)))) := by
  unfold ref02_Has at hF
  refine Ct.intro Try.func29 rfl Try.ntmps29 rfl rfl fun M w => ?_
  refine G.seq ?_
  refine G.region ?_
  refine G.op2 (op_boxA (k := 1002) (Ev.t 0 (.g (.agg [.v (.string r_0.From), .v (.string r_0.To)]))) rfl) rfl ⟨rfl, trivial⟩ ⟨rfl, trivial⟩ ?_
  refine G.op1 (op_assign (Ev.c _ rfl) rfl) rfl trivial trivial ?_
  refine G.endOps ?_
  refine G.seq ?_
  refine G.region ?_
  refine G.op1 (op_move (Ev.t 1 (bS key_1)) rfl) rfl ⟨rfl, trivial⟩ trivial ?_
  refine G.op1 (op_fieldP (off' := 0) Try.underlying40 rfl ti9 (by decide) rfl (Ev.t 2 (.ptr 1002 0)) rfl) rfl ⟨rfl, trivial⟩ trivial ?_
  refine G.op1 (op_load1P (c := bS r_0.From) Try.underlying9 rfl rfl (Ev.t 6 (.ptr 1002 0)) rfl) rfl ⟨rfl, trivial⟩ ⟨rfl, trivial⟩ ?_
  refine G.op1 (op_geS (Ev.t 5 (bS key_1)) (Ev.t 7 (bS r_0.From)) rfl) rfl ⟨rfl, rfl, trivial⟩ trivial ?_
  refine G.op1 (op_move (Ev.t 8 (bB (!slt key_1 r_0.From))) rfl) rfl ⟨rfl, trivial⟩ trivial ?_
  refine ifS hF (fun hc1 hF => ?_) (fun hc1 hF => ?_)
  · refine G.known (t := 9) hc1 rfl ?_
    refine G.opG1 (op_fieldP (off' := 1) Try.underlying40 rfl ti9 (by decide) rfl (Ev.t 2 (.ptr 1002 0)) rfl) rfl rfl rfl ⟨rfl, trivial⟩ trivial ?_
    refine G.opG1 (op_load1P (c := bS r_0.To) Try.underlying9 rfl rfl (Ev.t 10 (.ptr 1002 1)) rfl) rfl rfl rfl ⟨rfl, trivial⟩ ⟨rfl, trivial⟩ ?_
    refine G.opG1 (op_eqS (Ev.t 11 (bS r_0.To)) (Ev.c _ rfl) rfl) rfl rfl rfl ⟨rfl, trivial⟩ trivial ?_
    refine G.opG1 (op_move (Ev.t 12 (bB (seq r_0.To ByteArray.empty))) rfl) rfl rfl rfl ⟨rfl, trivial⟩ trivial ?_
    refine ifS hF (fun hc2 hF => ?_) (fun hc2 hF => ?_)
    · refine G.known (t := 13) hc2 rfl ?_
      refine G.opN1 rfl rfl rfl rfl rfl ?_
      refine G.opN1 rfl rfl rfl rfl rfl ?_
      refine G.opN1 rfl rfl rfl rfl rfl ?_
      refine G.opN1 rfl rfl rfl rfl rfl ?_
      refine G.opG1 (op_pickT (Ev.t 13 (bB true)) (Ev.c _ rfl) rfl) rfl rfl rfl ⟨rfl, trivial⟩ trivial ?_
      refine G.op1 (op_pickT (Ev.t 9 (bB true)) (Ev.t 18 (bB true)) rfl) rfl ⟨rfl, rfl, trivial⟩ trivial ?_
      refine G.op1 (op_assign (Ev.t 19 (bB true)) rfl) rfl ⟨rfl, trivial⟩ trivial ?_
      refine G.endOps ?_
      cases hF
      exact G.ret1 Try.results29 (RVar.tmp 4 _) ⟨rfl, trivial⟩ trivial
    · refine G.known (t := 13) hc2 rfl ?_
      refine G.opG1 (op_move (Ev.t 1 (bS key_1)) rfl) rfl rfl rfl ⟨rfl, trivial⟩ trivial ?_
      refine G.opG1 (op_fieldP (off' := 1) Try.underlying40 rfl ti9 (by decide) rfl (Ev.t 2 (.ptr 1002 0)) rfl) rfl rfl rfl ⟨rfl, trivial⟩ trivial ?_
      refine G.opG1 (op_load1P (c := bS r_0.To) Try.underlying9 rfl rfl (Ev.t 15 (.ptr 1002 1)) rfl) rfl rfl rfl ⟨rfl, trivial⟩ ⟨rfl, trivial⟩ ?_
      refine G.opG1 (op_ltS (Ev.t 14 (bS key_1)) (Ev.t 16 (bS r_0.To)) rfl) rfl rfl rfl ⟨rfl, rfl, trivial⟩ trivial ?_
      refine G.opG1 (op_pickF (Ev.t 13 (bB false)) (Ev.t 17 (bB (slt key_1 r_0.To))) rfl) rfl rfl rfl ⟨rfl, rfl, trivial⟩ trivial ?_
      refine G.op1 (op_pickT (Ev.t 9 (bB true)) (Ev.t 18 (bB (slt key_1 r_0.To))) rfl) rfl ⟨rfl, rfl, trivial⟩ trivial ?_
      refine G.op1 (op_assign (Ev.t 19 (bB (slt key_1 r_0.To))) rfl) rfl ⟨rfl, trivial⟩ trivial ?_
      refine G.endOps ?_
      cases hF
      exact G.ret1 Try.results29 (RVar.tmp 4 _) ⟨rfl, trivial⟩ trivial
  · refine G.known (t := 9) hc1 rfl ?_
    refine G.opN1 rfl rfl rfl rfl rfl ?_
    refine G.opN1 rfl rfl rfl rfl rfl ?_
    refine G.opN1 rfl rfl rfl rfl rfl ?_
    refine G.opN1 rfl rfl rfl rfl rfl ?_
    refine G.opU rfl rfl rfl rfl ?_
    refine G.opU rfl rfl rfl rfl ?_
    refine G.opU rfl rfl rfl rfl ?_
    refine G.opU rfl rfl rfl rfl ?_
    refine G.opN1 rfl rfl rfl rfl rfl ?_
    refine G.op1 (op_pickF (Ev.t 9 (bB false)) (Ev.c _ rfl) rfl) rfl ⟨rfl, trivial⟩ trivial ?_
    refine G.op1 (op_assign (Ev.t 19 (bB false)) rfl) rfl ⟨rfl, trivial⟩ trivial ?_
    refine G.endOps ?_
    cases hF
    exact G.ret1 Try.results29 (RVar.tmp 4 _) ⟨rfl, trivial⟩ trivial


set_option maxRecDepth 20000 in
set_option maxHeartbeats 2000000 in
theorem ct_ref02_Find (l_0 : (List Api_Range)) (key_1 : ByteArray) (r : Int) (hF : ref02_Find l_0 key_1 = some r) : Ct Try.prog 21 [.g (.d (.sl 2 (List.map encApi_Range l_0))), .g (.d (.v (.string key_1)))] (.one (.d (.v (.int .i64 r)))) := by
  unfold ref02_Find at hF
  refine Ct.intro Try.func21 rfl Try.ntmps21 rfl rfl fun M w => ?_
  refine G.seq ?_
  refine G.region ?_
  refine G.op1 (op_assign (Ev.c _ rfl) rfl) rfl trivial trivial ?_
  refine G.endOps ?_
  refine G.seq ?_
  refine G.seq ?_
  refine G.region ?_
  refine G.op1 (op_assign (Ev.c _ rfl) rfl) rfl trivial trivial ?_
  refine G.endOps ?_
  refine G.joinC (T := Unit) (fun y1 => ⟨[], []⟩) (fun y1 => ref02_Find_k1 y1 = some r) (fun y1 hF => ?_) (fun J2 => ?_)
  · unfold ref02_Find_k1 at hF
    refine G.seq ?_
    refine G.region ?_
    refine G.op1 (op_assign (Ev.c _ rfl) rfl) rfl trivial trivial ?_
    refine G.endOps ?_
    cases hF
    exact G.ret1 Try.results21 (RVar.tmp 4 _) ⟨rfl, trivial⟩ trivial
  refine G.block ?_
  refine G.keep (sl' := [(0, .one (.g (.d (.sl 2 (List.map encApi_Range l_0))))), (1, .one (bS key_1)), (5, .one (bI .i64 0))]) (hp' := []) ⟨rfl, rfl, rfl, trivial⟩ trivial rfl ?_
  refine G.loopF (fun (v3 : Int) => ⟨[(0, .one (.g (.d (.sl 2 (List.map encApi_Range l_0))))), (1, .one (bS key_1)), (5, .one (bI .i64 v3))], []⟩) hF rfl (fun K6 again5 v3 J4 hF => ?_)
  unfold ref02_Find_l2 at hF
  refine G.seq ?_
  refine G.seq ?_
  refine G.region ?_
  refine G.op1 (op_move (Ev.t 5 (bI .i64 v3)) rfl) rfl ⟨rfl, trivial⟩ trivial ?_
  refine G.op1 (op_move (Ev.t 0 (.g (.d (.sl 2 (List.map encApi_Range l_0))))) rfl) rfl ⟨rfl, trivial⟩ trivial ?_
  refine G.op1 (OpL.cast (op_lenD Try.underlying24 (Ev.t 8 (.g (.d (.sl 2 (List.map encApi_Range l_0))))) rfl) (by rw [List.length_map])) rfl ⟨rfl, trivial⟩ trivial ?_
  refine G.op1 (op_lss (Ev.t 7 (bI .i64 v3)) (Ev.t 9 (bI .i64 (l_0.length : Int))) rfl) rfl ⟨rfl, rfl, trivial⟩ trivial ?_
  refine G.endOps ?_
  refine ifS hF (fun hc7 hF => ?_) (fun hc7 hF => ?_)
  · refine G.cond rfl (fun _ => ?_) (fun hx => by rw [hc7] at hx; cases hx)
    refine G.skip ?_
    refine G.seq ?_
    refine G.block ?_
    refine G.seq ?_
    refine G.region ?_
    refine G.op1 (op_move (Ev.t 0 (.g (.d (.sl 2 (List.map encApi_Range l_0))))) rfl) rfl ⟨rfl, trivial⟩ trivial ?_
    refine G.op1 (op_move (Ev.t 5 (bI .i64 v3)) rfl) rfl ⟨rfl, trivial⟩ trivial ?_
    obtain ⟨x8, hx8, hF⟩ := bindS hF
    refine G.op1 (op_index (cs := [.v (.string x8.From), .v (.string x8.To)]) Try.underlying24 ti40 (idx_ok hx8).1 (idx_get hx8 encApi_Range) (Ev.t 13 (.g (.d (.sl 2 (List.map encApi_Range l_0))))) (Ev.t 14 (bI .i64 v3)) rfl) rfl ⟨rfl, rfl, trivial⟩ trivial ?_
    refine G.op1 (op_loadAE (ds := [.v (.string x8.From), .v (.string x8.To)]) Try.underlying40 rfl ti40 rfl (Ev.t 15 (.ep [.v (.string x8.From), .v (.string x8.To)])) rfl) rfl ⟨rfl, trivial⟩ trivial ?_
    refine G.op1 (op_move (Ev.t 1 (bS key_1)) rfl) rfl ⟨rfl, trivial⟩ trivial ?_
    obtain ⟨r9, hr9, hF⟩ := bindS hF
    refine G.op1 (op_callQ (sv := .one (bB r9)) cf29 (ct_ref02_Has x8 key_1 r9 hr9) rfl rfl (EvQL.cons (EvQ.g (Ev.t 16 (.g (.agg [.v (.string x8.From), .v (.string x8.To)])))) (EvQL.cons (EvQ.g (Ev.t 17 (bS key_1))) EvQL.nil)) rfl) rfl ⟨rfl, rfl, trivial⟩ trivial ?_
    refine G.op1 (op_assign (Ev.t 18 (bB r9)) rfl) rfl ⟨rfl, trivial⟩ trivial ?_
    refine G.endOps ?_
    refine G.seq ?_
    refine G.region ?_
    refine G.op1 (op_move (Ev.t 6 (bB r9)) rfl) rfl ⟨rfl, trivial⟩ trivial ?_
    refine G.endOps ?_
    refine ifS hF (fun hc10 hF => ?_) (fun hc10 hF => ?_)
    · refine G.cond rfl (fun _ => ?_) (fun hx => by rw [hc10] at hx; cases hx)
      refine G.seq ?_
      refine G.region ?_
      refine G.op1 (op_move (Ev.t 5 (bI .i64 v3)) rfl) rfl ⟨rfl, trivial⟩ trivial ?_
      refine G.op1 (op_assign (Ev.t 20 (bI .i64 v3)) rfl) rfl ⟨rfl, trivial⟩ trivial ?_
      refine G.endOps ?_
      cases hF
      exact G.ret1 Try.results21 (RVar.tmp 4 _) ⟨rfl, trivial⟩ trivial
    · refine G.cond rfl (fun hx => by rw [hc10] at hx; cases hx) (fun _ => ?_)
      refine G.skip ?_
      refine G.endBlock ?_
      refine G.region ?_
      refine G.op1 (op_move (Ev.t 5 (bI .i64 v3)) rfl) rfl ⟨rfl, trivial⟩ trivial ?_
      refine G.op1 (op_add (Ev.t 11 (bI .i64 v3)) (Ev.c _ rfl) rfl) rfl ⟨rfl, trivial⟩ trivial ?_
      refine G.op1 (op_assign (Ev.t 12 (bI .i64 (IntKind.wrap .i64 (v3 + 1)))) rfl) rfl ⟨rfl, trivial⟩ trivial ?_
      refine G.endOps ?_
      exact G.arr (J4 (IntKind.wrap .i64 (v3 + 1)) hF) ⟨rfl, rfl, rfl, trivial⟩ trivial rfl
  · refine G.cond rfl (fun hx => by rw [hc7] at hx; cases hx) (fun _ => ?_)
    refine G.exit ?_
    refine GX.c ?_
    refine GX.q ?_
    refine GX.bYes ?_
    exact G.arr (J2 () hF) trivial trivial rfl


set_option maxRecDepth 20000 in
set_option maxHeartbeats 2000000 in
theorem ct_ref04_Get (p_0 : (List Api_Dep)) (key_1 : ByteArray) (r : Api_Stamp) (hF : ref04_Get p_0 key_1 = some r) : Ct Try.prog 15 [.g (.d (.sl 3 (List.map encApi_Dep p_0))), .g (.d (.v (.string key_1)))] (.one (.agg (encApi_Stamp r))) := by
  unfold ref04_Get at hF
  refine Ct.intro Try.func15 rfl Try.ntmps15 rfl rfl fun M w => ?_
  refine G.seq ?_
  refine G.region ?_
  refine G.op2 (op_alloc (k := 1004) (cs := [bI .i64 0, bI .i64 0]) ti34 ⟨.v _ rfl, .v _ rfl, trivial⟩ rfl) rfl trivial ⟨rfl, trivial⟩ ?_
  refine G.endOps ?_
  refine G.seq ?_
  refine G.seq ?_
  refine G.region ?_
  refine G.op1 (op_assign (Ev.c _ rfl) rfl) rfl trivial trivial ?_
  refine G.endOps ?_
  refine G.joinC (T := Unit) (fun y1 => ⟨[(4, .one (.ptr 1004 0))], [(1004, some (.blk 34 [bI .i64 0, bI .i64 0]))]⟩) (fun y1 => ref04_Get_k1 y1 = some r) (fun y1 hF => ?_) (fun J2 => ?_)
  · unfold ref04_Get_k1 at hF
    refine G.seq ?_
    refine G.region ?_
    refine G.op1 (op_build (zs := [.v (.int .i64 0), .v (.int .i64 0)]) (ds := [.v (.int .i64 0), .v (.int .i64 0)]) Try.underlying34 ti34 (pl34 _ Try.underlying34) ⟨.v _ rfl, .v _ rfl, trivial⟩ EvP.nil rfl rfl) rfl trivial trivial ?_
    refine G.op3 (op_storeA (cs' := [bI .i64 0, bI .i64 0]) ti34 rfl rfl (Ev.t 4 (.ptr 1004 0)) (Ev.t 24 (.g (.agg [.v (.int .i64 0), .v (.int .i64 0)])))) rfl ⟨rfl, rfl, trivial⟩ ⟨rfl, trivial⟩ ?_
    refine G.endOps ?_
    cases hF
    exact G.ret1 Try.results15 (RVar.cellA (ds := [.v (.int .i64 0), .v (.int .i64 0)]) Try.underlying34 rfl ti34 rfl) ⟨rfl, trivial⟩ ⟨rfl, trivial⟩
  refine G.block ?_
  refine G.keep (sl' := [(0, .one (.g (.d (.sl 3 (List.map encApi_Dep p_0))))), (1, .one (bS key_1)), (4, .one (.ptr 1004 0)), (5, .one (bI .i64 0))]) (hp' := [(1004, some (.blk 34 [bI .i64 0, bI .i64 0]))]) ⟨rfl, rfl, rfl, rfl, trivial⟩ ⟨rfl, trivial⟩ rfl ?_
  refine G.loopF (fun (v3 : Int) => ⟨[(0, .one (.g (.d (.sl 3 (List.map encApi_Dep p_0))))), (1, .one (bS key_1)), (4, .one (.ptr 1004 0)), (5, .one (bI .i64 v3))], [(1004, some (.blk 34 [bI .i64 0, bI .i64 0]))]⟩) hF rfl (fun K6 again5 v3 J4 hF => ?_)
  unfold ref04_Get_l2 at hF
  refine G.seq ?_
  refine G.seq ?_
  refine G.region ?_
  refine G.op1 (op_move (Ev.t 5 (bI .i64 v3)) rfl) rfl ⟨rfl, trivial⟩ trivial ?_
  refine G.op1 (op_move (Ev.t 0 (.g (.d (.sl 3 (List.map encApi_Dep p_0))))) rfl) rfl ⟨rfl, trivial⟩ trivial ?_
  refine G.op1 (OpL.cast (op_lenD Try.underlying22 (Ev.t 7 (.g (.d (.sl 3 (List.map encApi_Dep p_0))))) rfl) (by rw [List.length_map])) rfl ⟨rfl, trivial⟩ trivial ?_
  refine G.op1 (op_lss (Ev.t 6 (bI .i64 v3)) (Ev.t 8 (bI .i64 (p_0.length : Int))) rfl) rfl ⟨rfl, rfl, trivial⟩ trivial ?_
  refine G.endOps ?_
  refine ifS hF (fun hc7 hF => ?_) (fun hc7 hF => ?_)
  · refine G.cond rfl (fun _ => ?_) (fun hx => by rw [hc7] at hx; cases hx)
    refine G.skip ?_
    refine G.seq ?_
    refine G.block ?_
    refine G.seq ?_
    refine G.region ?_
    refine G.op1 (op_move (Ev.t 0 (.g (.d (.sl 3 (List.map encApi_Dep p_0))))) rfl) rfl ⟨rfl, trivial⟩ trivial ?_
    refine G.op1 (op_move (Ev.t 5 (bI .i64 v3)) rfl) rfl ⟨rfl, trivial⟩ trivial ?_
    obtain ⟨x8, hx8, hF⟩ := bindS hF
    refine G.op1 (op_index (cs := [.v (.string x8.Key), .v (.int .i64 x8.Stamp.N), .v (.int .i64 x8.Stamp.Site)]) Try.underlying22 ti46 (idx_ok hx8).1 (idx_get hx8 encApi_Dep) (Ev.t 12 (.g (.d (.sl 3 (List.map encApi_Dep p_0))))) (Ev.t 13 (bI .i64 v3)) rfl) rfl ⟨rfl, rfl, trivial⟩ trivial ?_
    refine G.op1 (op_fieldE (cs' := [.v (.string x8.Key), .v (.int .i64 x8.Stamp.N), .v (.int .i64 x8.Stamp.Site)]) Try.underlying46 rfl ti9 (by decide) rfl (Ev.t 14 (.ep [.v (.string x8.Key), .v (.int .i64 x8.Stamp.N), .v (.int .i64 x8.Stamp.Site)])) rfl) rfl ⟨rfl, trivial⟩ trivial ?_
    refine G.op1 (op_load1E (c := .v (.string x8.Key)) Try.underlying9 rfl rfl (Ev.t 15 (.ep [.v (.string x8.Key), .v (.int .i64 x8.Stamp.N), .v (.int .i64 x8.Stamp.Site)])) rfl) rfl ⟨rfl, trivial⟩ trivial ?_
    refine G.op1 (op_move (Ev.t 1 (bS key_1)) rfl) rfl ⟨rfl, trivial⟩ trivial ?_
    refine G.op1 (op_eqS (Ev.t 16 (bS x8.Key)) (Ev.t 17 (bS key_1)) rfl) rfl ⟨rfl, rfl, trivial⟩ trivial ?_
    refine G.endOps ?_
    refine ifS hF (fun hc9 hF => ?_) (fun hc9 hF => ?_)
    · refine G.cond rfl (fun _ => ?_) (fun hx => by rw [hc9] at hx; cases hx)
      refine G.seq ?_
      refine G.region ?_
      refine G.op1 (op_move (Ev.t 0 (.g (.d (.sl 3 (List.map encApi_Dep p_0))))) rfl) rfl ⟨rfl, trivial⟩ trivial ?_
      refine G.op1 (op_move (Ev.t 5 (bI .i64 v3)) rfl) rfl ⟨rfl, trivial⟩ trivial ?_
      obtain ⟨x10, hx10, hF⟩ := bindS hF
      refine G.op1 (op_index (cs := [.v (.string x10.Key), .v (.int .i64 x10.Stamp.N), .v (.int .i64 x10.Stamp.Site)]) Try.underlying22 ti46 (idx_ok hx10).1 (idx_get hx10 encApi_Dep) (Ev.t 19 (.g (.d (.sl 3 (List.map encApi_Dep p_0))))) (Ev.t 20 (bI .i64 v3)) rfl) rfl ⟨rfl, rfl, trivial⟩ trivial ?_
      refine G.op1 (op_fieldE (cs' := [.v (.int .i64 x10.Stamp.N), .v (.int .i64 x10.Stamp.Site)]) Try.underlying46 rfl ti34 (by decide) rfl (Ev.t 21 (.ep [.v (.string x10.Key), .v (.int .i64 x10.Stamp.N), .v (.int .i64 x10.Stamp.Site)])) rfl) rfl ⟨rfl, trivial⟩ trivial ?_
      refine G.op1 (op_loadAE (ds := [.v (.int .i64 x10.Stamp.N), .v (.int .i64 x10.Stamp.Site)]) Try.underlying34 rfl ti34 rfl (Ev.t 22 (.ep [.v (.int .i64 x10.Stamp.N), .v (.int .i64 x10.Stamp.Site)])) rfl) rfl ⟨rfl, trivial⟩ trivial ?_
      refine G.op3 (op_storeA (cs' := [bI .i64 x10.Stamp.N, bI .i64 x10.Stamp.Site]) ti34 rfl rfl (Ev.t 4 (.ptr 1004 0)) (Ev.t 23 (.g (.agg [.v (.int .i64 x10.Stamp.N), .v (.int .i64 x10.Stamp.Site)])))) rfl ⟨rfl, rfl, trivial⟩ ⟨rfl, trivial⟩ ?_
      refine G.endOps ?_
      cases hF
      exact G.ret1 Try.results15 (RVar.cellA (ds := [.v (.int .i64 x10.Stamp.N), .v (.int .i64 x10.Stamp.Site)]) Try.underlying34 rfl ti34 rfl) ⟨rfl, trivial⟩ ⟨rfl, trivial⟩
    · refine G.cond rfl (fun hx => by rw [hc9] at hx; cases hx) (fun _ => ?_)
      refine G.skip ?_
      refine G.endBlock ?_
      refine G.region ?_
      refine G.op1 (op_move (Ev.t 5 (bI .i64 v3)) rfl) rfl ⟨rfl, trivial⟩ trivial ?_
      refine G.op1 (op_add (Ev.t 10 (bI .i64 v3)) (Ev.c _ rfl) rfl) rfl ⟨rfl, trivial⟩ trivial ?_
      refine G.op1 (op_assign (Ev.t 11 (bI .i64 (IntKind.wrap .i64 (v3 + 1)))) rfl) rfl ⟨rfl, trivial⟩ trivial ?_
      refine G.endOps ?_
      exact G.arr (J4 (IntKind.wrap .i64 (v3 + 1)) hF) ⟨rfl, rfl, rfl, rfl, trivial⟩ ⟨rfl, trivial⟩ rfl
  · refine G.cond rfl (fun hx => by rw [hc7] at hx; cases hx) (fun _ => ?_)
    refine G.exit ?_
    refine GX.c ?_
    refine GX.q ?_
    refine GX.bYes ?_
    exact G.arr (J2 () hF) ⟨rfl, trivial⟩ ⟨rfl, trivial⟩ rfl


set_option maxRecDepth 20000 in
set_option maxHeartbeats 2000000 in
theorem ct_ref04_Same (p_0 : (List Api_Dep)) (q_1 : (List Api_Dep)) (r : Bool) (hF : ref04_Same p_0 q_1 = some r) : Ct Try.prog 22 [.g (.d (.sl 3 (List.map encApi_Dep p_0))), .g (.d (.sl 3 (List.map encApi_Dep q_1)))] (.one (.d (.v (.bool r)))) := by
  unfold ref04_Same at hF
  refine Ct.intro Try.func22 rfl Try.ntmps22 rfl rfl fun M w => ?_
  refine G.seq ?_
  refine G.region ?_
  refine G.op1 (op_assign (Ev.c _ rfl) rfl) rfl trivial trivial ?_
  refine G.endOps ?_
  refine G.seq ?_
  refine G.seq ?_
  refine G.region ?_
  refine G.op1 (op_move (Ev.t 0 (.g (.d (.sl 3 (List.map encApi_Dep p_0))))) rfl) rfl ⟨rfl, trivial⟩ trivial ?_
  refine G.op1 (OpL.cast (op_lenD Try.underlying22 (Ev.t 6 (.g (.d (.sl 3 (List.map encApi_Dep p_0))))) rfl) (by rw [List.length_map])) rfl ⟨rfl, trivial⟩ trivial ?_
  refine G.op1 (op_move (Ev.t 1 (.g (.d (.sl 3 (List.map encApi_Dep q_1))))) rfl) rfl ⟨rfl, trivial⟩ trivial ?_
  refine G.op1 (OpL.cast (op_lenD Try.underlying22 (Ev.t 8 (.g (.d (.sl 3 (List.map encApi_Dep q_1))))) rfl) (by rw [List.length_map])) rfl ⟨rfl, trivial⟩ trivial ?_
  refine G.op1 (op_neI (Ev.t 7 (bI .i64 (p_0.length : Int))) (Ev.t 9 (bI .i64 (q_1.length : Int))) rfl) rfl ⟨rfl, rfl, trivial⟩ trivial ?_
  refine G.endOps ?_
  refine ifS hF (fun hc1 hF => ?_) (fun hc1 hF => ?_)
  · refine G.cond rfl (fun _ => ?_) (fun hx => by rw [hc1] at hx; cases hx)
    refine G.seq ?_
    refine G.region ?_
    refine G.op1 (op_assign (Ev.c _ rfl) rfl) rfl trivial trivial ?_
    refine G.endOps ?_
    cases hF
    exact G.ret1 Try.results22 (RVar.tmp 4 _) ⟨rfl, trivial⟩ trivial
  · refine G.cond rfl (fun hx => by rw [hc1] at hx; cases hx) (fun _ => ?_)
    refine G.skip ?_
    refine G.seq ?_
    refine G.seq ?_
    refine G.region ?_
    refine G.op1 (op_assign (Ev.c _ rfl) rfl) rfl trivial trivial ?_
    refine G.endOps ?_
    refine G.joinC (T := Unit) (fun y2 => ⟨[], []⟩) (fun y2 => ref04_Same_k1 y2 = some r) (fun y2 hF => ?_) (fun J3 => ?_)
    · unfold ref04_Same_k1 at hF
      refine G.seq ?_
      refine G.region ?_
      refine G.op1 (op_assign (Ev.c _ rfl) rfl) rfl trivial trivial ?_
      refine G.endOps ?_
      cases hF
      exact G.ret1 Try.results22 (RVar.tmp 4 _) ⟨rfl, trivial⟩ trivial
    refine G.block ?_
    refine G.keep (sl' := [(0, .one (.g (.d (.sl 3 (List.map encApi_Dep p_0))))), (1, .one (.g (.d (.sl 3 (List.map encApi_Dep q_1))))), (5, .one (bI .i64 0))]) (hp' := []) ⟨rfl, rfl, rfl, trivial⟩ trivial rfl ?_
    refine G.loopF (fun (v4 : Int) => ⟨[(0, .one (.g (.d (.sl 3 (List.map encApi_Dep p_0))))), (1, .one (.g (.d (.sl 3 (List.map encApi_Dep q_1))))), (5, .one (bI .i64 v4))], []⟩) hF rfl (fun K7 again6 v4 J5 hF => ?_)
    unfold ref04_Same_l2 at hF
    refine G.seq ?_
    refine G.seq ?_
    refine G.region ?_
    refine G.op1 (op_move (Ev.t 5 (bI .i64 v4)) rfl) rfl ⟨rfl, trivial⟩ trivial ?_
    refine G.op1 (op_move (Ev.t 0 (.g (.d (.sl 3 (List.map encApi_Dep p_0))))) rfl) rfl ⟨rfl, trivial⟩ trivial ?_
    refine G.op1 (OpL.cast (op_lenD Try.underlying22 (Ev.t 12 (.g (.d (.sl 3 (List.map encApi_Dep p_0))))) rfl) (by rw [List.length_map])) rfl ⟨rfl, trivial⟩ trivial ?_
    refine G.op1 (op_lss (Ev.t 11 (bI .i64 v4)) (Ev.t 13 (bI .i64 (p_0.length : Int))) rfl) rfl ⟨rfl, rfl, trivial⟩ trivial ?_
    refine G.endOps ?_
    refine ifS hF (fun hc8 hF => ?_) (fun hc8 hF => ?_)
    · refine G.cond rfl (fun _ => ?_) (fun hx => by rw [hc8] at hx; cases hx)
      refine G.skip ?_
      refine G.seq ?_
      refine G.block ?_
      refine G.seq ?_
      obtain ⟨x9, hx9, hF⟩ := bindS hF
      obtain ⟨x10, hx10, hF⟩ := bindS hF
      refine G.drawn (effs := [⟨[(0, .one (.g (.d (.sl 3 (List.map encApi_Dep p_0)))))], [], [(17, .one (.g (.d (.sl 3 (List.map encApi_Dep p_0)))))], []⟩, ⟨[(5, .one (bI .i64 v4))], [], [(18, .one (bI .i64 v4))], []⟩, ⟨[(17, .one (.g (.d (.sl 3 (List.map encApi_Dep p_0))))), (18, .one (bI .i64 v4))], [], [(19, .one (.ep [.v (.string x9.Key), .v (.int .i64 x9.Stamp.N), .v (.int .i64 x9.Stamp.Site)]))], []⟩, ⟨[(19, .one (.ep [.v (.string x9.Key), .v (.int .i64 x9.Stamp.N), .v (.int .i64 x9.Stamp.Site)]))], [], [(20, .one (.g (.agg [.v (.string x9.Key), .v (.int .i64 x9.Stamp.N), .v (.int .i64 x9.Stamp.Site)])))], []⟩, ⟨[(1, .one (.g (.d (.sl 3 (List.map encApi_Dep q_1)))))], [], [(21, .one (.g (.d (.sl 3 (List.map encApi_Dep q_1)))))], []⟩, ⟨[(5, .one (bI .i64 v4))], [], [(22, .one (bI .i64 v4))], []⟩, ⟨[(21, .one (.g (.d (.sl 3 (List.map encApi_Dep q_1))))), (22, .one (bI .i64 v4))], [], [(23, .one (.ep [.v (.string x10.Key), .v (.int .i64 x10.Stamp.N), .v (.int .i64 x10.Stamp.Site)]))], []⟩, ⟨[(23, .one (.ep [.v (.string x10.Key), .v (.int .i64 x10.Stamp.N), .v (.int .i64 x10.Stamp.Site)]))], [], [(24, .one (.g (.agg [.v (.string x10.Key), .v (.int .i64 x10.Stamp.N), .v (.int .i64 x10.Stamp.Site)])))], []⟩, ⟨[(20, .one (.g (.agg [.v (.string x9.Key), .v (.int .i64 x9.Stamp.N), .v (.int .i64 x9.Stamp.Site)]))), (24, .one (.g (.agg [.v (.string x10.Key), .v (.int .i64 x10.Stamp.N), .v (.int .i64 x10.Stamp.Site)])))], [], [(25, .one (bB (!(decide (x9.Key = x10.Key) && decide (x9.Stamp.N = x10.Stamp.N) && decide (x9.Stamp.Site = x10.Stamp.Site)))))], []⟩]) (deps := [[], [], [0, 1], [0, 1, 2], [], [], [4, 5], [4, 5, 6], [0, 1, 2, 3, 4, 5, 6, 7]]) (sl' := [(0, .one (.g (.d (.sl 3 (List.map encApi_Dep p_0))))), (1, .one (.g (.d (.sl 3 (List.map encApi_Dep q_1))))), (5, .one (bI .i64 v4)), (25, .one (bB (!(decide (x9.Key = x10.Key) && decide (x9.Stamp.N = x10.Stamp.N) && decide (x9.Stamp.Site = x10.Stamp.Site)))))]) (hp' := []) follows rfl rfl rfl ⟨⟨rfl, trivial⟩, trivial, ⟨rfl, trivial⟩, trivial, ⟨rfl, rfl, trivial⟩, trivial, ⟨rfl, trivial⟩, trivial, ⟨rfl, trivial⟩, trivial, ⟨rfl, trivial⟩, trivial, ⟨rfl, rfl, trivial⟩, trivial, ⟨rfl, trivial⟩, trivial, ⟨rfl, rfl, trivial⟩, trivial, trivial⟩ ⟨OpW.plain (op_move (Ev.t 0 (.g (.d (.sl 3 (List.map encApi_Dep p_0))))) rfl) rfl rfl, OpW.plain (op_move (Ev.t 5 (bI .i64 v4)) rfl) rfl rfl, OpW.plain (op_index (cs := [.v (.string x9.Key), .v (.int .i64 x9.Stamp.N), .v (.int .i64 x9.Stamp.Site)]) Try.underlying22 ti46 (idx_ok hx9).1 (idx_get hx9 encApi_Dep) (Ev.t 17 (.g (.d (.sl 3 (List.map encApi_Dep p_0))))) (Ev.t 18 (bI .i64 v4)) rfl) rfl rfl, OpW.plain (op_loadAE (ds := [.v (.string x9.Key), .v (.int .i64 x9.Stamp.N), .v (.int .i64 x9.Stamp.Site)]) Try.underlying46 rfl ti46 rfl (Ev.t 19 (.ep [.v (.string x9.Key), .v (.int .i64 x9.Stamp.N), .v (.int .i64 x9.Stamp.Site)])) rfl) rfl rfl, OpW.plain (op_move (Ev.t 1 (.g (.d (.sl 3 (List.map encApi_Dep q_1))))) rfl) rfl rfl, OpW.plain (op_move (Ev.t 5 (bI .i64 v4)) rfl) rfl rfl, OpW.plain (op_index (cs := [.v (.string x10.Key), .v (.int .i64 x10.Stamp.N), .v (.int .i64 x10.Stamp.Site)]) Try.underlying22 ti46 (idx_ok hx10).1 (idx_get hx10 encApi_Dep) (Ev.t 21 (.g (.d (.sl 3 (List.map encApi_Dep q_1))))) (Ev.t 22 (bI .i64 v4)) rfl) rfl rfl, OpW.plain (op_loadAE (ds := [.v (.string x10.Key), .v (.int .i64 x10.Stamp.N), .v (.int .i64 x10.Stamp.Site)]) Try.underlying46 rfl ti46 rfl (Ev.t 23 (.ep [.v (.string x10.Key), .v (.int .i64 x10.Stamp.N), .v (.int .i64 x10.Stamp.Site)])) rfl) rfl rfl, OpW.plain (op_eqA (us := [.string x9.Key, .int .i64 x9.Stamp.N, .int .i64 x9.Stamp.Site]) (vs := [.string x10.Key, .int .i64 x10.Stamp.N, .int .i64 x10.Stamp.Site]) rfl rfl Try.eqGuardType46 (fun w => ne46 x9.Key x9.Stamp.N x9.Stamp.Site x10.Key x10.Stamp.N x10.Stamp.Site w) (Ev.t 20 (.g (.agg [.v (.string x9.Key), .v (.int .i64 x9.Stamp.N), .v (.int .i64 x9.Stamp.Site)]))) (Ev.t 24 (.g (.agg [.v (.string x10.Key), .v (.int .i64 x10.Stamp.N), .v (.int .i64 x10.Stamp.Site)]))) rfl) rfl rfl, trivial⟩ ⟨rfl, rfl, rfl, rfl, trivial⟩ trivial rfl ?_
      refine ifS hF (fun hc11 hF => ?_) (fun hc11 hF => ?_)
      · refine G.cond rfl (fun _ => ?_) (fun hx => by rw [hc11] at hx; cases hx)
        refine G.seq ?_
        refine G.region ?_
        refine G.op1 (op_assign (Ev.c _ rfl) rfl) rfl trivial trivial ?_
        refine G.endOps ?_
        cases hF
        exact G.ret1 Try.results22 (RVar.tmp 4 _) ⟨rfl, trivial⟩ trivial
      · refine G.cond rfl (fun hx => by rw [hc11] at hx; cases hx) (fun _ => ?_)
        refine G.skip ?_
        refine G.endBlock ?_
        refine G.region ?_
        refine G.op1 (op_move (Ev.t 5 (bI .i64 v4)) rfl) rfl ⟨rfl, trivial⟩ trivial ?_
        refine G.op1 (op_add (Ev.t 15 (bI .i64 v4)) (Ev.c _ rfl) rfl) rfl ⟨rfl, trivial⟩ trivial ?_
        refine G.op1 (op_assign (Ev.t 16 (bI .i64 (IntKind.wrap .i64 (v4 + 1)))) rfl) rfl ⟨rfl, trivial⟩ trivial ?_
        refine G.endOps ?_
        exact G.arr (J5 (IntKind.wrap .i64 (v4 + 1)) hF) ⟨rfl, rfl, rfl, trivial⟩ trivial rfl
    · refine G.cond rfl (fun hx => by rw [hc8] at hx; cases hx) (fun _ => ?_)
      refine G.exit ?_
      refine GX.c ?_
      refine GX.q ?_
      refine GX.bYes ?_
      exact G.arr (J3 () hF) trivial trivial rfl


set_option maxRecDepth 20000 in
set_option maxHeartbeats 2000000 in
theorem ct_law15_ClientEnters (q_0 : Law15_Ask) (site_1 : Int) (r : Bool) (hF : law15_ClientEnters q_0 site_1 = some r) : Ct Try.prog 6 [.g (.agg (encLaw15_Ask q_0)), .g (.d (.v (.int .i64 site_1)))] (.one (.d (.v (.bool r)))) := by
  unfold law15_ClientEnters at hF
  refine Ct.intro Try.func6 rfl Try.ntmps6 rfl rfl fun M w => ?_
  refine G.seq ?_
  refine G.region ?_
  refine G.op2 (op_boxA (k := 1002) (Ev.t 0 (.g (.agg [.sl 3 (List.map encApi_Dep q_0.Past), .sl 3 (List.map encApi_Dep q_0.Have), .sl 6 (List.map encApi_Version q_0.Versions), .sl 2 (List.map encApi_Range q_0.Own)]))) rfl) rfl ⟨rfl, trivial⟩ ⟨rfl, trivial⟩ ?_
  refine G.op1 (op_assign (Ev.c _ rfl) rfl) rfl trivial trivial ?_
  refine G.endOps ?_
  refine G.seq ?_
  refine G.region ?_
  obtain ⟨r1, hr1, hF⟩ := bindS hF
  refine G.op1 (op_callQ (sv := .one (bB r1)) cf7 (ct_law15_awake r1 hr1) rfl rfl EvQL.nil rfl) rfl trivial trivial ?_
  refine G.op1 (op_assign (Ev.t 20 (bB r1)) rfl) rfl ⟨rfl, trivial⟩ trivial ?_
  refine G.endOps ?_
  refine G.seq ?_
  refine G.region ?_
  refine G.op1 (op_fieldP (off' := 0) Try.underlying26 rfl ti22 (by decide) rfl (Ev.t 2 (.ptr 1002 0)) rfl) rfl ⟨rfl, trivial⟩ trivial ?_
  refine G.op1 (op_load1P (c := .g (.d (.sl 3 (List.map encApi_Dep q_0.Past)))) Try.underlying22 rfl rfl (Ev.t 21 (.ptr 1002 0)) rfl) rfl ⟨rfl, trivial⟩ ⟨rfl, trivial⟩ ?_
  obtain ⟨r2, hr2, hF⟩ := bindS hF
  refine G.op1 (op_call (sv := .one (.g (.d (.sl 3 (List.map encApi_Dep r2))))) cf8 (ct_law15_row q_0.Past r2 hr2) rfl (EvL.cons (Ev.t 22 (.g (.d (.sl 3 (List.map encApi_Dep q_0.Past))))) EvL.nil) rfl) rfl ⟨rfl, trivial⟩ trivial ?_
  refine G.op1 (op_build (zs := [.v (.int .i64 0), .sl 3 (List.map encApi_Dep ([] : (List Api_Dep)))]) (ds := [.v (.int .i64 0), .sl 3 (List.map encApi_Dep r2)]) Try.underlying30 ti30 (pl30 _ Try.underlying30) ⟨.v _ rfl, .n 3, trivial⟩ (EvP.cons (Ev.t 23 (.g (.d (.sl 3 (List.map encApi_Dep r2))))) EvP.nil) rfl rfl) rfl ⟨rfl, trivial⟩ trivial ?_
  obtain ⟨r3, hr3, hF⟩ := bindS hF
  refine G.op1 (op_call (sv := .one (.g (.agg [.v (.int .i64 r3.Site), .sl 3 (List.map encApi_Dep r3.Past)]))) cf17 (ct_client_Leave (Api_Session.mk 0 r2) r3 hr3) rfl (EvL.cons (Ev.t 24 (.g (.agg [.v (.int .i64 0), .sl 3 (List.map encApi_Dep r2)]))) EvL.nil) rfl) rfl ⟨rfl, trivial⟩ trivial ?_
  refine G.op2 (op_alloc (k := 1006) (cs := [bI .i64 0, .g (.d (.sl 3 (List.map encApi_Dep ([] : (List Api_Dep)))))]) ti30 ⟨.v _ rfl, .n 3, trivial⟩ rfl) rfl trivial ⟨rfl, trivial⟩ ?_
  refine G.op3 (op_storeA (cs' := [bI .i64 r3.Site, .g (.d (.sl 3 (List.map encApi_Dep r3.Past)))]) ti30 rfl rfl (Ev.t 6 (.ptr 1006 0)) (Ev.t 25 (.g (.agg [.v (.int .i64 r3.Site), .sl 3 (List.map encApi_Dep r3.Past)])))) rfl ⟨rfl, rfl, trivial⟩ ⟨rfl, trivial⟩ ?_
  refine G.endOps ?_
  refine G.seq ?_
  refine G.region ?_
  refine G.op1 (op_fieldP (off' := 1) Try.underlying26 rfl ti22 (by decide) rfl (Ev.t 2 (.ptr 1002 0)) rfl) rfl ⟨rfl, trivial⟩ trivial ?_
  refine G.op1 (op_load1P (c := .g (.d (.sl 3 (List.map encApi_Dep q_0.Have)))) Try.underlying22 rfl rfl (Ev.t 26 (.ptr 1002 1)) rfl) rfl ⟨rfl, trivial⟩ ⟨rfl, trivial⟩ ?_
  obtain ⟨r4, hr4, hF⟩ := bindS hF
  refine G.op1 (op_call (sv := .one (.g (.d (.sl 3 (List.map encApi_Dep r4))))) cf8 (ct_law15_row q_0.Have r4 hr4) rfl (EvL.cons (Ev.t 27 (.g (.d (.sl 3 (List.map encApi_Dep q_0.Have))))) EvL.nil) rfl) rfl ⟨rfl, trivial⟩ trivial ?_
  refine G.op1 (op_assign (Ev.t 28 (.g (.d (.sl 3 (List.map encApi_Dep r4))))) rfl) rfl ⟨rfl, trivial⟩ trivial ?_
  refine G.endOps ?_
  refine G.seq ?_
  refine G.region ?_
  refine G.op1 (op_fieldP (off' := 3) Try.underlying26 rfl ti24 (by decide) rfl (Ev.t 2 (.ptr 1002 0)) rfl) rfl ⟨rfl, trivial⟩ trivial ?_
  refine G.op1 (op_load1P (c := .g (.d (.sl 2 (List.map encApi_Range q_0.Own)))) Try.underlying24 rfl rfl (Ev.t 29 (.ptr 1002 3)) rfl) rfl ⟨rfl, trivial⟩ ⟨rfl, trivial⟩ ?_
  obtain ⟨r5, hr5, hF⟩ := bindS hF
  refine G.op1 (op_call (sv := .one (.g (.d (.sl 2 (List.map encApi_Range r5))))) cf18 (ct_law15_ranges q_0.Own r5 hr5) rfl (EvL.cons (Ev.t 30 (.g (.d (.sl 2 (List.map encApi_Range q_0.Own))))) EvL.nil) rfl) rfl ⟨rfl, trivial⟩ trivial ?_
  refine G.op1 (op_assign (Ev.t 31 (.g (.d (.sl 2 (List.map encApi_Range r5))))) rfl) rfl ⟨rfl, trivial⟩ trivial ?_
  refine G.endOps ?_
  refine G.seq ?_
  refine G.region ?_
  refine G.op1 (op_move (Ev.t 1 (bI .i64 site_1)) rfl) rfl ⟨rfl, trivial⟩ trivial ?_
  refine G.op1 (op_rem (by decide) (Ev.t 32 (bI .i64 site_1)) (Ev.c _ rfl) rfl) rfl ⟨rfl, trivial⟩ trivial ?_
  refine G.op1 (op_add (Ev.t 33 (bI .i64 (Int.tmod site_1 6))) (Ev.c _ rfl) rfl) rfl ⟨rfl, trivial⟩ trivial ?_
  refine G.op1 (op_rem (by decide) (Ev.t 34 (bI .i64 (IntKind.wrap .i64 ((Int.tmod site_1 6) + 6)))) (Ev.c _ rfl) rfl) rfl ⟨rfl, trivial⟩ trivial ?_
  refine G.op1 (op_assign (Ev.t 35 (bI .i64 (Int.tmod (IntKind.wrap .i64 ((Int.tmod site_1 6) + 6)) 6))) rfl) rfl ⟨rfl, trivial⟩ trivial ?_
  refine G.endOps ?_
  refine G.seq ?_
  refine G.region ?_
  refine G.op1 (op_loadAP (ds := [.v (.int .i64 r3.Site), .sl 3 (List.map encApi_Dep r3.Past)]) Try.underlying30 rfl ti30 rfl (Ev.t 6 (.ptr 1006 0)) rfl) rfl ⟨rfl, trivial⟩ ⟨rfl, trivial⟩ ?_
  refine G.op1 (op_move (Ev.t 9 (bI .i64 (Int.tmod (IntKind.wrap .i64 ((Int.tmod site_1 6) + 6)) 6))) rfl) rfl ⟨rfl, trivial⟩ trivial ?_
  refine G.op1 (op_move (Ev.t 7 (.g (.d (.sl 3 (List.map encApi_Dep r4))))) rfl) rfl ⟨rfl, trivial⟩ trivial ?_
  refine G.op1 (op_move (Ev.t 8 (.g (.d (.sl 2 (List.map encApi_Range r5))))) rfl) rfl ⟨rfl, trivial⟩ trivial ?_
  obtain ⟨r6, hr6, hF⟩ := bindS hF
  refine G.op1 (op_call (sv := .tup [.g (.agg [.v (.int .i64 r6.1.Site), .sl 3 (List.map encApi_Dep r6.1.Past)]), bI .i64 r6.2]) cf19 (ct_client_Enter r3 (Int.tmod (IntKind.wrap .i64 ((Int.tmod site_1 6) + 6)) 6) r4 r5 r6 hr6) rfl (EvL.cons (Ev.t 37 (.g (.agg [.v (.int .i64 r3.Site), .sl 3 (List.map encApi_Dep r3.Past)]))) (EvL.cons (Ev.t 38 (bI .i64 (Int.tmod (IntKind.wrap .i64 ((Int.tmod site_1 6) + 6)) 6))) (EvL.cons (Ev.t 39 (.g (.d (.sl 3 (List.map encApi_Dep r4))))) (EvL.cons (Ev.t 40 (.g (.d (.sl 2 (List.map encApi_Range r5))))) EvL.nil)))) rfl) rfl ⟨rfl, rfl, rfl, rfl, trivial⟩ trivial ?_
  refine G.op1 (op_moveS (t := 41) (sv := .tup [.g (.agg [.v (.int .i64 r6.1.Site), .sl 3 (List.map encApi_Dep r6.1.Past)]), bI .i64 r6.2]) rfl) rfl ⟨rfl, trivial⟩ trivial ?_
  refine G.op1 (op_extract (l := [.g (.agg [.v (.int .i64 r6.1.Site), .sl 3 (List.map encApi_Dep r6.1.Past)]), bI .i64 r6.2]) (c := .g (.agg [.v (.int .i64 r6.1.Site), .sl 3 (List.map encApi_Dep r6.1.Past)])) rfl rfl) rfl ⟨rfl, trivial⟩ trivial ?_
  refine G.op1 (op_extract (l := [.g (.agg [.v (.int .i64 r6.1.Site), .sl 3 (List.map encApi_Dep r6.1.Past)]), bI .i64 r6.2]) (c := bI .i64 r6.2) rfl rfl) rfl ⟨rfl, trivial⟩ trivial ?_
  refine G.op2 (op_alloc (k := 1010) (cs := [bI .i64 0, .g (.d (.sl 3 (List.map encApi_Dep ([] : (List Api_Dep)))))]) ti30 ⟨.v _ rfl, .n 3, trivial⟩ rfl) rfl trivial ⟨rfl, trivial⟩ ?_
  refine G.op3 (op_storeA (cs' := [bI .i64 r6.1.Site, .g (.d (.sl 3 (List.map encApi_Dep r6.1.Past)))]) ti30 rfl rfl (Ev.t 10 (.ptr 1010 0)) (Ev.t 42 (.g (.agg [.v (.int .i64 r6.1.Site), .sl 3 (List.map encApi_Dep r6.1.Past)])))) rfl ⟨rfl, rfl, trivial⟩ ⟨rfl, trivial⟩ ?_
  refine G.op1 (op_assign (Ev.t 43 (bI .i64 r6.2)) rfl) rfl ⟨rfl, trivial⟩ trivial ?_
  refine G.endOps ?_
  refine G.seq ?_
  refine G.region ?_
  obtain ⟨r7, hr7, hF⟩ := bindS hF
  refine G.op1 (op_call (sv := .one (.g (.agg [.v (.int .i64 r7.Site), .sl 3 (List.map encApi_Dep r7.Past)]))) cf20 (ct_client_New (-1) r7 hr7) rfl (EvL.cons (Ev.c _ rfl) EvL.nil) rfl) rfl trivial trivial ?_
  refine G.op1 (op_move (Ev.t 9 (bI .i64 (Int.tmod (IntKind.wrap .i64 ((Int.tmod site_1 6) + 6)) 6))) rfl) rfl ⟨rfl, trivial⟩ trivial ?_
  refine G.op1 (op_move (Ev.t 7 (.g (.d (.sl 3 (List.map encApi_Dep r4))))) rfl) rfl ⟨rfl, trivial⟩ trivial ?_
  refine G.op1 (op_move (Ev.t 8 (.g (.d (.sl 2 (List.map encApi_Range r5))))) rfl) rfl ⟨rfl, trivial⟩ trivial ?_
  obtain ⟨r8, hr8, hF⟩ := bindS hF
  refine G.op1 (op_call (sv := .tup [.g (.agg [.v (.int .i64 r8.1.Site), .sl 3 (List.map encApi_Dep r8.1.Past)]), bI .i64 r8.2]) cf19 (ct_client_Enter r7 (Int.tmod (IntKind.wrap .i64 ((Int.tmod site_1 6) + 6)) 6) r4 r5 r8 hr8) rfl (EvL.cons (Ev.t 45 (.g (.agg [.v (.int .i64 r7.Site), .sl 3 (List.map encApi_Dep r7.Past)]))) (EvL.cons (Ev.t 46 (bI .i64 (Int.tmod (IntKind.wrap .i64 ((Int.tmod site_1 6) + 6)) 6))) (EvL.cons (Ev.t 47 (.g (.d (.sl 3 (List.map encApi_Dep r4))))) (EvL.cons (Ev.t 48 (.g (.d (.sl 2 (List.map encApi_Range r5))))) EvL.nil)))) rfl) rfl ⟨rfl, rfl, rfl, rfl, trivial⟩ trivial ?_
  refine G.op1 (op_moveS (t := 49) (sv := .tup [.g (.agg [.v (.int .i64 r8.1.Site), .sl 3 (List.map encApi_Dep r8.1.Past)]), bI .i64 r8.2]) rfl) rfl ⟨rfl, trivial⟩ trivial ?_
  refine G.op1 (op_extract (l := [.g (.agg [.v (.int .i64 r8.1.Site), .sl 3 (List.map encApi_Dep r8.1.Past)]), bI .i64 r8.2]) (c := .g (.agg [.v (.int .i64 r8.1.Site), .sl 3 (List.map encApi_Dep r8.1.Past)])) rfl rfl) rfl ⟨rfl, trivial⟩ trivial ?_
  refine G.op1 (op_extract (l := [.g (.agg [.v (.int .i64 r8.1.Site), .sl 3 (List.map encApi_Dep r8.1.Past)]), bI .i64 r8.2]) (c := bI .i64 r8.2) rfl rfl) rfl ⟨rfl, trivial⟩ trivial ?_
  refine G.op2 (op_alloc (k := 1012) (cs := [bI .i64 0, .g (.d (.sl 3 (List.map encApi_Dep ([] : (List Api_Dep)))))]) ti30 ⟨.v _ rfl, .n 3, trivial⟩ rfl) rfl trivial ⟨rfl, trivial⟩ ?_
  refine G.op3 (op_storeA (cs' := [bI .i64 r8.1.Site, .g (.d (.sl 3 (List.map encApi_Dep r8.1.Past)))]) ti30 rfl rfl (Ev.t 12 (.ptr 1012 0)) (Ev.t 50 (.g (.agg [.v (.int .i64 r8.1.Site), .sl 3 (List.map encApi_Dep r8.1.Past)])))) rfl ⟨rfl, rfl, trivial⟩ ⟨rfl, trivial⟩ ?_
  refine G.op1 (op_assign (Ev.t 51 (bI .i64 r8.2)) rfl) rfl ⟨rfl, trivial⟩ trivial ?_
  refine G.endOps ?_
  refine G.seq ?_
  refine G.seq ?_
  refine G.joinC (T := Bool) (fun y9 => ⟨[(5, .one (bB r1)), (6, .one (.ptr 1006 0)), (7, .one (.g (.d (.sl 3 (List.map encApi_Dep r4))))), (8, .one (.g (.d (.sl 2 (List.map encApi_Range r5))))), (9, .one (bI .i64 (Int.tmod (IntKind.wrap .i64 ((Int.tmod site_1 6) + 6)) 6))), (10, .one (.ptr 1010 0)), (11, .one (bI .i64 r6.2)), (59, .one (bB y9))], [(1006, some (.blk 30 [bI .i64 r3.Site, .g (.d (.sl 3 (List.map encApi_Dep r3.Past)))])), (1010, some (.blk 30 [bI .i64 r6.1.Site, .g (.d (.sl 3 (List.map encApi_Dep r6.1.Past)))]))]⟩) (fun y9 => law15_ClientEnters_k1 site_1 r1 r3 r4 r5 r6 y9 = some r) (fun y9 hF => ?_) (fun J39 => ?_)
  · unfold law15_ClientEnters_k1 at hF
    refine ifS hF (fun hc10 hF => ?_) (fun hc10 hF => ?_)
    · refine G.cond rfl (fun _ => ?_) (fun hx => by rw [hc10] at hx; cases hx)
      refine G.seq ?_
      refine G.region ?_
      refine G.op1 (op_assign (Ev.c _ rfl) rfl) rfl trivial trivial ?_
      refine G.endOps ?_
      cases hF
      exact G.ret1 Try.results6 (RVar.tmp 4 _) ⟨rfl, trivial⟩ trivial
    · refine G.cond rfl (fun hx => by rw [hc10] at hx; cases hx) (fun _ => ?_)
      refine G.skip ?_
      refine G.seq ?_
      refine G.seq ?_
      refine G.region ?_
      refine G.op1 (op_move (Ev.t 11 (bI .i64 r6.2)) rfl) rfl ⟨rfl, trivial⟩ trivial ?_
      refine G.op1 (op_neI (Ev.t 60 (bI .i64 r6.2)) (Ev.c _ rfl) rfl) rfl ⟨rfl, trivial⟩ trivial ?_
      refine G.endOps ?_
      refine ifS hF (fun hc11 hF => ?_) (fun hc11 hF => ?_)
      · refine G.cond rfl (fun _ => ?_) (fun hx => by rw [hc11] at hx; cases hx)
        refine G.seq ?_
        refine G.joinC (T := Bool) (fun y12 => ⟨[(4, .one (bB y12))], []⟩) (fun y12 => law15_ClientEnters_k2 y12 = some r) (fun y12 hF => ?_) (fun J13 => ?_)
        · unfold law15_ClientEnters_k2 at hF
          cases hF
          exact G.ret1 Try.results6 (RVar.tmp 4 _) ⟨rfl, trivial⟩ trivial
        refine G.region ?_
        refine G.op1 (op_move (Ev.t 5 (bB r1)) rfl) rfl ⟨rfl, trivial⟩ trivial ?_
        refine G.op1 (op_move (Ev.t 62 (bB r1)) rfl) rfl ⟨rfl, trivial⟩ trivial ?_
        refine G.joinL (T := Bool) 3 (fun y14 => ⟨[(6, .one (.ptr 1006 0)), (7, .one (.g (.d (.sl 3 (List.map encApi_Dep r4))))), (8, .one (.g (.d (.sl 2 (List.map encApi_Range r5))))), (66, .one (bB y14))], [(1006, some (.blk 30 [bI .i64 r3.Site, .g (.d (.sl 3 (List.map encApi_Dep r3.Past)))]))]⟩) (fun y14 => law15_ClientEnters_k3 r3 r4 r5 y14 = some r) (fun y14 hF => ?_) (fun J17 => ?_)
        · unfold law15_ClientEnters_k3 at hF
          refine G.op1 (op_move (Ev.t 66 (bB y14)) rfl) rfl ⟨rfl, trivial⟩ trivial ?_
          refine ifS hF (fun hc15 hF => ?_) (fun hc15 hF => ?_)
          · refine G.known (t := 67) hc15 rfl ?_
            refine G.opG1 (op_loadAP (ds := [.v (.int .i64 r3.Site), .sl 3 (List.map encApi_Dep r3.Past)]) Try.underlying30 rfl ti30 rfl (Ev.t 6 (.ptr 1006 0)) rfl) rfl rfl rfl ⟨rfl, trivial⟩ ⟨rfl, trivial⟩ ?_
            refine G.opG1 (op_move (Ev.t 7 (.g (.d (.sl 3 (List.map encApi_Dep r4))))) rfl) rfl rfl rfl ⟨rfl, trivial⟩ trivial ?_
            refine G.opG1 (op_move (Ev.t 8 (.g (.d (.sl 2 (List.map encApi_Range r5))))) rfl) rfl rfl rfl ⟨rfl, trivial⟩ trivial ?_
            obtain ⟨r16, hr16, hF⟩ := bindS hF
            refine G.opG1 (op_callQ (sv := .one (bB r16)) cf13 (ct_client_May r3 r4 r5 r16 hr16) rfl rfl (EvQL.cons (EvQ.g (Ev.t 68 (.g (.agg [.v (.int .i64 r3.Site), .sl 3 (List.map encApi_Dep r3.Past)])))) (EvQL.cons (EvQ.g (Ev.t 69 (.g (.d (.sl 3 (List.map encApi_Dep r4)))))) (EvQL.cons (EvQ.g (Ev.t 70 (.g (.d (.sl 2 (List.map encApi_Range r5)))))) EvQL.nil))) rfl) rfl rfl rfl ⟨rfl, rfl, rfl, trivial⟩ trivial ?_
            refine G.opG1 (op_not (Ev.t 71 (bB r16)) rfl) rfl rfl rfl ⟨rfl, trivial⟩ trivial ?_
            refine G.op1 (op_pickT (Ev.t 67 (bB true)) (Ev.t 72 (bB (!r16))) rfl) rfl ⟨rfl, rfl, trivial⟩ trivial ?_
            refine G.op1 (op_assign (Ev.t 73 (bB (!r16))) rfl) rfl ⟨rfl, trivial⟩ trivial ?_
            refine G.endOps ?_
            exact G.arr (J13 (!r16) hF) ⟨rfl, trivial⟩ trivial rfl
          · refine G.known (t := 67) hc15 rfl ?_
            refine G.opN1 rfl rfl rfl rfl rfl ?_
            refine G.opN1 rfl rfl rfl rfl rfl ?_
            refine G.opN1 rfl rfl rfl rfl rfl ?_
            refine G.opN1 rfl rfl rfl rfl rfl ?_
            refine G.opN1 rfl rfl rfl rfl rfl ?_
            refine G.op1 (op_pickF (Ev.t 67 (bB false)) (Ev.c _ rfl) rfl) rfl ⟨rfl, trivial⟩ trivial ?_
            refine G.op1 (op_assign (Ev.t 73 (bB false)) rfl) rfl ⟨rfl, trivial⟩ trivial ?_
            refine G.endOps ?_
            exact G.arr (J13 false hF) ⟨rfl, trivial⟩ trivial rfl
        refine ifS hF (fun hc18 hF => ?_) (fun hc18 hF => ?_)
        · refine G.known (t := 63) hc18 rfl ?_
          refine G.opG1 (op_move (Ev.t 11 (bI .i64 r6.2)) rfl) rfl rfl rfl ⟨rfl, trivial⟩ trivial ?_
          refine G.opG1 (op_eqI (Ev.t 64 (bI .i64 r6.2)) (Ev.c _ rfl) rfl) rfl rfl rfl ⟨rfl, trivial⟩ trivial ?_
          refine G.op1 (op_pickT (Ev.t 63 (bB true)) (Ev.t 65 (bB (decide (r6.2 = 17)))) rfl) rfl ⟨rfl, rfl, trivial⟩ trivial ?_
          exact G.arr (J17 (decide (r6.2 = 17)) hF) ⟨rfl, rfl, rfl, rfl, trivial⟩ ⟨rfl, trivial⟩ rfl
        · refine G.known (t := 63) hc18 rfl ?_
          refine G.opN1 rfl rfl rfl rfl rfl ?_
          refine G.opN1 rfl rfl rfl rfl rfl ?_
          refine G.op1 (op_pickF (Ev.t 63 (bB false)) (Ev.c _ rfl) rfl) rfl ⟨rfl, trivial⟩ trivial ?_
          exact G.arr (J17 false hF) ⟨rfl, rfl, rfl, rfl, trivial⟩ ⟨rfl, trivial⟩ rfl
      · refine G.cond rfl (fun hx => by rw [hc11] at hx; cases hx) (fun _ => ?_)
        refine G.skip ?_
        refine G.seq ?_
        refine G.seq ?_
        refine G.region ?_
        refine G.op1 (op_assign (Ev.c _ rfl) rfl) rfl trivial trivial ?_
        refine G.endOps ?_
        refine G.joinC (T := Unit) (fun y19 => ⟨[(5, .one (bB r1)), (6, .one (.ptr 1006 0)), (7, .one (.g (.d (.sl 3 (List.map encApi_Dep r4))))), (8, .one (.g (.d (.sl 2 (List.map encApi_Range r5))))), (9, .one (bI .i64 (Int.tmod (IntKind.wrap .i64 ((Int.tmod site_1 6) + 6)) 6))), (10, .one (.ptr 1010 0))], [(1006, some (.blk 30 [bI .i64 r3.Site, .g (.d (.sl 3 (List.map encApi_Dep r3.Past)))])), (1010, some (.blk 30 [bI .i64 r6.1.Site, .g (.d (.sl 3 (List.map encApi_Dep r6.1.Past)))]))]⟩) (fun y19 => law15_ClientEnters_k4 site_1 r1 r3 r4 r5 r6 y19 = some r) (fun y19 hF => ?_) (fun J27 => ?_)
        · unfold law15_ClientEnters_k4 at hF
          refine G.seq ?_
          refine G.region ?_
          refine G.op1 (op_loadAP (ds := [.v (.int .i64 r6.1.Site), .sl 3 (List.map encApi_Dep r6.1.Past)]) Try.underlying30 rfl ti30 rfl (Ev.t 10 (.ptr 1010 0)) rfl) rfl ⟨rfl, trivial⟩ ⟨rfl, trivial⟩ ?_
          refine G.op1 (op_move (Ev.t 9 (bI .i64 (Int.tmod (IntKind.wrap .i64 ((Int.tmod site_1 6) + 6)) 6))) rfl) rfl ⟨rfl, trivial⟩ trivial ?_
          refine G.op1 (op_move (Ev.t 7 (.g (.d (.sl 3 (List.map encApi_Dep r4))))) rfl) rfl ⟨rfl, trivial⟩ trivial ?_
          refine G.op1 (op_move (Ev.t 8 (.g (.d (.sl 2 (List.map encApi_Range r5))))) rfl) rfl ⟨rfl, trivial⟩ trivial ?_
          obtain ⟨r20, hr20, hF⟩ := bindS hF
          refine G.op1 (op_call (sv := .tup [.g (.agg [.v (.int .i64 r20.1.Site), .sl 3 (List.map encApi_Dep r20.1.Past)]), bI .i64 r20.2]) cf19 (ct_client_Enter r6.1 (Int.tmod (IntKind.wrap .i64 ((Int.tmod site_1 6) + 6)) 6) r4 r5 r20 hr20) rfl (EvL.cons (Ev.t 102 (.g (.agg [.v (.int .i64 r6.1.Site), .sl 3 (List.map encApi_Dep r6.1.Past)]))) (EvL.cons (Ev.t 103 (bI .i64 (Int.tmod (IntKind.wrap .i64 ((Int.tmod site_1 6) + 6)) 6))) (EvL.cons (Ev.t 104 (.g (.d (.sl 3 (List.map encApi_Dep r4))))) (EvL.cons (Ev.t 105 (.g (.d (.sl 2 (List.map encApi_Range r5))))) EvL.nil)))) rfl) rfl ⟨rfl, rfl, rfl, rfl, trivial⟩ trivial ?_
          refine G.op1 (op_moveS (t := 106) (sv := .tup [.g (.agg [.v (.int .i64 r20.1.Site), .sl 3 (List.map encApi_Dep r20.1.Past)]), bI .i64 r20.2]) rfl) rfl ⟨rfl, trivial⟩ trivial ?_
          refine G.op1 (op_extract (l := [.g (.agg [.v (.int .i64 r20.1.Site), .sl 3 (List.map encApi_Dep r20.1.Past)]), bI .i64 r20.2]) (c := .g (.agg [.v (.int .i64 r20.1.Site), .sl 3 (List.map encApi_Dep r20.1.Past)])) rfl rfl) rfl ⟨rfl, trivial⟩ trivial ?_
          refine G.op1 (op_extract (l := [.g (.agg [.v (.int .i64 r20.1.Site), .sl 3 (List.map encApi_Dep r20.1.Past)]), bI .i64 r20.2]) (c := bI .i64 r20.2) rfl rfl) rfl ⟨rfl, trivial⟩ trivial ?_
          refine G.op2 (op_alloc (k := 1017) (cs := [bI .i64 0, .g (.d (.sl 3 (List.map encApi_Dep ([] : (List Api_Dep)))))]) ti30 ⟨.v _ rfl, .n 3, trivial⟩ rfl) rfl trivial ⟨rfl, trivial⟩ ?_
          refine G.op3 (op_storeA (cs' := [bI .i64 r20.1.Site, .g (.d (.sl 3 (List.map encApi_Dep r20.1.Past)))]) ti30 rfl rfl (Ev.t 17 (.ptr 1017 0)) (Ev.t 107 (.g (.agg [.v (.int .i64 r20.1.Site), .sl 3 (List.map encApi_Dep r20.1.Past)])))) rfl ⟨rfl, rfl, trivial⟩ ⟨rfl, trivial⟩ ?_
          refine G.op1 (op_assign (Ev.t 108 (bI .i64 r20.2)) rfl) rfl ⟨rfl, trivial⟩ trivial ?_
          refine G.endOps ?_
          refine G.seq ?_
          refine G.region ?_
          refine G.op1 (op_fieldP (off' := 1) Try.underlying30 rfl ti22 (by decide) rfl (Ev.t 10 (.ptr 1010 0)) rfl) rfl ⟨rfl, trivial⟩ trivial ?_
          refine G.op1 (op_load1P (c := .g (.d (.sl 3 (List.map encApi_Dep r6.1.Past)))) Try.underlying22 rfl rfl (Ev.t 109 (.ptr 1010 1)) rfl) rfl ⟨rfl, trivial⟩ ⟨rfl, trivial⟩ ?_
          refine G.op1 (op_fieldP (off' := 1) Try.underlying30 rfl ti22 (by decide) rfl (Ev.t 6 (.ptr 1006 0)) rfl) rfl ⟨rfl, trivial⟩ trivial ?_
          refine G.op1 (op_load1P (c := .g (.d (.sl 3 (List.map encApi_Dep r3.Past)))) Try.underlying22 rfl rfl (Ev.t 111 (.ptr 1006 1)) rfl) rfl ⟨rfl, trivial⟩ ⟨rfl, trivial⟩ ?_
          obtain ⟨r21, hr21, hF⟩ := bindS hF
          refine G.op1 (op_callQ (sv := .one (bB r21)) cf22 (ct_ref04_Same r6.1.Past r3.Past r21 hr21) rfl rfl (EvQL.cons (EvQ.g (Ev.t 110 (.g (.d (.sl 3 (List.map encApi_Dep r6.1.Past)))))) (EvQL.cons (EvQ.g (Ev.t 112 (.g (.d (.sl 3 (List.map encApi_Dep r3.Past)))))) EvQL.nil)) rfl) rfl ⟨rfl, rfl, trivial⟩ trivial ?_
          refine G.op1 (op_assign (Ev.t 113 (bB r21)) rfl) rfl ⟨rfl, trivial⟩ trivial ?_
          refine G.endOps ?_
          refine G.seq ?_
          refine G.region ?_
          refine G.op1 (op_move (Ev.t 5 (bB r1)) rfl) rfl ⟨rfl, trivial⟩ trivial ?_
          refine G.op1 (op_move (Ev.t 114 (bB r1)) rfl) rfl ⟨rfl, trivial⟩ trivial ?_
          refine G.joinL (T := Bool) 5 (fun y22 => ⟨[(18, .one (bI .i64 r20.2)), (19, .one (bB r21)), (120, .one (bB y22))], []⟩) (fun y22 => law15_ClientEnters_k5 r20 r21 y22 = some r) (fun y22 hF => ?_) (fun J25 => ?_)
          · unfold law15_ClientEnters_k5 at hF
            refine G.op1 (op_move (Ev.t 120 (bB y22)) rfl) rfl ⟨rfl, trivial⟩ trivial ?_
            refine ifS hF (fun hc23 hF => ?_) (fun hc23 hF => ?_)
            · refine G.known (t := 121) hc23 rfl ?_
              refine G.opG1 (op_move (Ev.t 19 (bB r21)) rfl) rfl rfl rfl ⟨rfl, trivial⟩ trivial ?_
              refine G.op1 (op_pickT (Ev.t 121 (bB true)) (Ev.t 122 (bB r21)) rfl) rfl ⟨rfl, rfl, trivial⟩ trivial ?_
              refine G.op1 (op_move (Ev.t 123 (bB r21)) rfl) rfl ⟨rfl, trivial⟩ trivial ?_
              refine ifS hF (fun hc24 hF => ?_) (fun hc24 hF => ?_)
              · refine G.known (t := 124) hc24 rfl ?_
                refine G.opG1 (op_move (Ev.t 18 (bI .i64 r20.2)) rfl) rfl rfl rfl ⟨rfl, trivial⟩ trivial ?_
                refine G.opG1 (op_eqI (Ev.t 125 (bI .i64 r20.2)) (Ev.c _ rfl) rfl) rfl rfl rfl ⟨rfl, trivial⟩ trivial ?_
                refine G.op1 (op_pickT (Ev.t 124 (bB true)) (Ev.t 126 (bB (decide (r20.2 = 13)))) rfl) rfl ⟨rfl, rfl, trivial⟩ trivial ?_
                refine G.op1 (op_assign (Ev.t 127 (bB (decide (r20.2 = 13)))) rfl) rfl ⟨rfl, trivial⟩ trivial ?_
                refine G.endOps ?_
                cases hF
                exact G.ret1 Try.results6 (RVar.tmp 4 _) ⟨rfl, trivial⟩ trivial
              · refine G.known (t := 124) hc24 rfl ?_
                refine G.opN1 rfl rfl rfl rfl rfl ?_
                refine G.opN1 rfl rfl rfl rfl rfl ?_
                refine G.op1 (op_pickF (Ev.t 124 (bB false)) (Ev.c _ rfl) rfl) rfl ⟨rfl, trivial⟩ trivial ?_
                refine G.op1 (op_assign (Ev.t 127 (bB false)) rfl) rfl ⟨rfl, trivial⟩ trivial ?_
                refine G.endOps ?_
                cases hF
                exact G.ret1 Try.results6 (RVar.tmp 4 _) ⟨rfl, trivial⟩ trivial
            · refine G.known (t := 121) hc23 rfl ?_
              refine G.opN1 rfl rfl rfl rfl rfl ?_
              refine G.op1 (op_pickF (Ev.t 121 (bB false)) (Ev.c _ rfl) rfl) rfl ⟨rfl, trivial⟩ trivial ?_
              refine G.op1 (op_move (Ev.t 123 (bB false)) rfl) rfl ⟨rfl, trivial⟩ trivial ?_
              refine G.opN1 rfl rfl rfl rfl rfl ?_
              refine G.opN1 rfl rfl rfl rfl rfl ?_
              refine G.op1 (op_pickF (Ev.t 124 (bB false)) (Ev.c _ rfl) rfl) rfl ⟨rfl, trivial⟩ trivial ?_
              refine G.op1 (op_assign (Ev.t 127 (bB false)) rfl) rfl ⟨rfl, trivial⟩ trivial ?_
              refine G.endOps ?_
              cases hF
              exact G.ret1 Try.results6 (RVar.tmp 4 _) ⟨rfl, trivial⟩ trivial
          refine ifS hF (fun hc26 hF => ?_) (fun hc26 hF => ?_)
          · refine G.known (t := 115) hc26 rfl ?_
            refine G.opG1 (op_fieldP (off' := 0) Try.underlying30 rfl ti3 (by decide) rfl (Ev.t 10 (.ptr 1010 0)) rfl) rfl rfl rfl ⟨rfl, trivial⟩ trivial ?_
            refine G.opG1 (op_load1P (c := bI .i64 r6.1.Site) Try.underlying3 rfl rfl (Ev.t 116 (.ptr 1010 0)) rfl) rfl rfl rfl ⟨rfl, trivial⟩ ⟨rfl, trivial⟩ ?_
            refine G.opG1 (op_move (Ev.t 9 (bI .i64 (Int.tmod (IntKind.wrap .i64 ((Int.tmod site_1 6) + 6)) 6))) rfl) rfl rfl rfl ⟨rfl, trivial⟩ trivial ?_
            refine G.opG1 (op_eqI (Ev.t 117 (bI .i64 r6.1.Site)) (Ev.t 118 (bI .i64 (Int.tmod (IntKind.wrap .i64 ((Int.tmod site_1 6) + 6)) 6))) rfl) rfl rfl rfl ⟨rfl, rfl, trivial⟩ trivial ?_
            refine G.op1 (op_pickT (Ev.t 115 (bB true)) (Ev.t 119 (bB (decide (r6.1.Site = (Int.tmod (IntKind.wrap .i64 ((Int.tmod site_1 6) + 6)) 6))))) rfl) rfl ⟨rfl, rfl, trivial⟩ trivial ?_
            exact G.arr (J25 (decide (r6.1.Site = (Int.tmod (IntKind.wrap .i64 ((Int.tmod site_1 6) + 6)) 6))) hF) ⟨rfl, rfl, rfl, trivial⟩ trivial rfl
          · refine G.known (t := 115) hc26 rfl ?_
            refine G.opN1 rfl rfl rfl rfl rfl ?_
            refine G.opN1 rfl rfl rfl rfl rfl ?_
            refine G.opN1 rfl rfl rfl rfl rfl ?_
            refine G.opN1 rfl rfl rfl rfl rfl ?_
            refine G.op1 (op_pickF (Ev.t 115 (bB false)) (Ev.c _ rfl) rfl) rfl ⟨rfl, trivial⟩ trivial ?_
            exact G.arr (J25 false hF) ⟨rfl, rfl, rfl, trivial⟩ trivial rfl
        refine G.block ?_
        refine G.keep (sl' := [(5, .one (bB r1)), (6, .one (.ptr 1006 0)), (7, .one (.g (.d (.sl 3 (List.map encApi_Dep r4))))), (8, .one (.g (.d (.sl 2 (List.map encApi_Range r5))))), (9, .one (bI .i64 (Int.tmod (IntKind.wrap .i64 ((Int.tmod site_1 6) + 6)) 6))), (10, .one (.ptr 1010 0)), (14, .one (bI .i64 0))]) (hp' := [(1006, some (.blk 30 [bI .i64 r3.Site, .g (.d (.sl 3 (List.map encApi_Dep r3.Past)))])), (1010, some (.blk 30 [bI .i64 r6.1.Site, .g (.d (.sl 3 (List.map encApi_Dep r6.1.Past)))]))]) ⟨rfl, rfl, rfl, rfl, rfl, rfl, rfl, trivial⟩ ⟨rfl, rfl, trivial⟩ rfl ?_
        refine G.loopF (fun (v28 : Int) => ⟨[(5, .one (bB r1)), (6, .one (.ptr 1006 0)), (7, .one (.g (.d (.sl 3 (List.map encApi_Dep r4))))), (8, .one (.g (.d (.sl 2 (List.map encApi_Range r5))))), (9, .one (bI .i64 (Int.tmod (IntKind.wrap .i64 ((Int.tmod site_1 6) + 6)) 6))), (10, .one (.ptr 1010 0)), (14, .one (bI .i64 v28))], [(1006, some (.blk 30 [bI .i64 r3.Site, .g (.d (.sl 3 (List.map encApi_Dep r3.Past)))])), (1010, some (.blk 30 [bI .i64 r6.1.Site, .g (.d (.sl 3 (List.map encApi_Dep r6.1.Past)))]))]⟩) hF rfl (fun K31 again30 v28 J29 hF => ?_)
        unfold law15_ClientEnters_l6 at hF
        refine G.seq ?_
        refine G.seq ?_
        refine G.region ?_
        refine G.op1 (op_move (Ev.t 14 (bI .i64 v28)) rfl) rfl ⟨rfl, trivial⟩ trivial ?_
        refine G.op1 (op_fieldP (off' := 1) Try.underlying30 rfl ti22 (by decide) rfl (Ev.t 6 (.ptr 1006 0)) rfl) rfl ⟨rfl, trivial⟩ trivial ?_
        refine G.op1 (op_load1P (c := .g (.d (.sl 3 (List.map encApi_Dep r3.Past)))) Try.underlying22 rfl rfl (Ev.t 75 (.ptr 1006 1)) rfl) rfl ⟨rfl, trivial⟩ ⟨rfl, trivial⟩ ?_
        refine G.op1 (OpL.cast (op_lenD Try.underlying22 (Ev.t 76 (.g (.d (.sl 3 (List.map encApi_Dep r3.Past))))) rfl) (by rw [List.length_map])) rfl ⟨rfl, trivial⟩ trivial ?_
        refine G.op1 (op_lss (Ev.t 74 (bI .i64 v28)) (Ev.t 77 (bI .i64 (r3.Past.length : Int))) rfl) rfl ⟨rfl, rfl, trivial⟩ trivial ?_
        refine G.endOps ?_
        refine ifS hF (fun hc32 hF => ?_) (fun hc32 hF => ?_)
        · refine G.cond rfl (fun _ => ?_) (fun hx => by rw [hc32] at hx; cases hx)
          refine G.skip ?_
          refine G.seq ?_
          refine G.block ?_
          refine G.seq ?_
          refine G.region ?_
          refine G.op1 (op_fieldP (off' := 1) Try.underlying30 rfl ti22 (by decide) rfl (Ev.t 6 (.ptr 1006 0)) rfl) rfl ⟨rfl, trivial⟩ trivial ?_
          refine G.op1 (op_load1P (c := .g (.d (.sl 3 (List.map encApi_Dep r3.Past)))) Try.underlying22 rfl rfl (Ev.t 81 (.ptr 1006 1)) rfl) rfl ⟨rfl, trivial⟩ ⟨rfl, trivial⟩ ?_
          refine G.op1 (op_move (Ev.t 14 (bI .i64 v28)) rfl) rfl ⟨rfl, trivial⟩ trivial ?_
          obtain ⟨x33, hx33, hF⟩ := bindS hF
          refine G.op1 (op_index (cs := [.v (.string x33.Key), .v (.int .i64 x33.Stamp.N), .v (.int .i64 x33.Stamp.Site)]) Try.underlying22 ti46 (idx_ok hx33).1 (idx_get hx33 encApi_Dep) (Ev.t 82 (.g (.d (.sl 3 (List.map encApi_Dep r3.Past))))) (Ev.t 83 (bI .i64 v28)) rfl) rfl ⟨rfl, rfl, trivial⟩ trivial ?_
          refine G.op1 (op_loadAE (ds := [.v (.string x33.Key), .v (.int .i64 x33.Stamp.N), .v (.int .i64 x33.Stamp.Site)]) Try.underlying46 rfl ti46 rfl (Ev.t 84 (.ep [.v (.string x33.Key), .v (.int .i64 x33.Stamp.N), .v (.int .i64 x33.Stamp.Site)])) rfl) rfl ⟨rfl, trivial⟩ trivial ?_
          refine G.op2 (op_alloc (k := 1015) (cs := [bS ByteArray.empty, bI .i64 0, bI .i64 0]) ti46 ⟨.v _ rfl, .v _ rfl, .v _ rfl, trivial⟩ rfl) rfl trivial ⟨rfl, trivial⟩ ?_
          refine G.op3 (op_storeA (cs' := [bS x33.Key, bI .i64 x33.Stamp.N, bI .i64 x33.Stamp.Site]) ti46 rfl rfl (Ev.t 15 (.ptr 1015 0)) (Ev.t 85 (.g (.agg [.v (.string x33.Key), .v (.int .i64 x33.Stamp.N), .v (.int .i64 x33.Stamp.Site)])))) rfl ⟨rfl, rfl, trivial⟩ ⟨rfl, trivial⟩ ?_
          refine G.endOps ?_
          refine G.seq ?_
          refine G.region ?_
          refine G.op1 (op_move (Ev.t 8 (.g (.d (.sl 2 (List.map encApi_Range r5))))) rfl) rfl ⟨rfl, trivial⟩ trivial ?_
          refine G.op1 (op_fieldP (off' := 0) Try.underlying46 rfl ti9 (by decide) rfl (Ev.t 15 (.ptr 1015 0)) rfl) rfl ⟨rfl, trivial⟩ trivial ?_
          refine G.op1 (op_load1P (c := bS x33.Key) Try.underlying9 rfl rfl (Ev.t 87 (.ptr 1015 0)) rfl) rfl ⟨rfl, trivial⟩ ⟨rfl, trivial⟩ ?_
          obtain ⟨r34, hr34, hF⟩ := bindS hF
          refine G.op1 (op_callQ (sv := .one (bI .i64 r34)) cf21 (ct_ref02_Find r5 x33.Key r34 hr34) rfl rfl (EvQL.cons (EvQ.g (Ev.t 86 (.g (.d (.sl 2 (List.map encApi_Range r5)))))) (EvQL.cons (EvQ.g (Ev.t 88 (bS x33.Key))) EvQL.nil)) rfl) rfl ⟨rfl, rfl, trivial⟩ trivial ?_
          refine G.op1 (op_geq (Ev.t 89 (bI .i64 r34)) (Ev.c _ rfl) rfl) rfl ⟨rfl, trivial⟩ trivial ?_
          refine G.op1 (op_assign (Ev.t 90 (bB (decide (0 ≤ r34)))) rfl) rfl ⟨rfl, trivial⟩ trivial ?_
          refine G.endOps ?_
          refine G.seq ?_
          refine ifS hF (fun hc35 hF => ?_) (fun hc35 hF => ?_)
          · refine G.known (t := 16) (c := true) hc35 rfl ?_
            refine G.known (t := 90) (c := true) hc35 rfl ?_
            obtain ⟨r36, hr36, hF⟩ := bindS hF
            obtain ⟨r37, hr37, hF⟩ := bindS hF
            refine G.drawn (effs := [⟨[(16, .one (bB true))], [], [(91, .one (bB true))], []⟩, ⟨[(91, .one (bB true))], [], [(92, .one (bB true))], []⟩, ⟨[(92, .one (bB true)), (7, .one (.g (.d (.sl 3 (List.map encApi_Dep r4)))))], [], [(93, .one (.g (.d (.sl 3 (List.map encApi_Dep r4)))))], []⟩, ⟨[(92, .one (bB true)), (15, .one (.ptr 1015 0))], [], [(94, .one (.ptr 1015 0))], []⟩, ⟨[(92, .one (bB true)), (94, .one (.ptr 1015 0))], [(1015, some (.blk 46 [bS x33.Key, bI .i64 x33.Stamp.N, bI .i64 x33.Stamp.Site]))], [(95, .one (bS x33.Key))], []⟩, ⟨[(92, .one (bB true)), (93, .one (.g (.d (.sl 3 (List.map encApi_Dep r4))))), (95, .one (bS x33.Key))], [], [(96, .one (.g (.agg [.v (.int .i64 r36.N), .v (.int .i64 r36.Site)])))], []⟩, ⟨[(92, .one (bB true)), (15, .one (.ptr 1015 0))], [], [(97, .one (.ptr 1015 1))], []⟩, ⟨[(92, .one (bB true)), (97, .one (.ptr 1015 1))], [(1015, some (.blk 46 [bS x33.Key, bI .i64 x33.Stamp.N, bI .i64 x33.Stamp.Site]))], [(98, .one (.g (.agg [.v (.int .i64 x33.Stamp.N), .v (.int .i64 x33.Stamp.Site)])))], []⟩, ⟨[(92, .one (bB true)), (96, .one (.g (.agg [.v (.int .i64 r36.N), .v (.int .i64 r36.Site)]))), (98, .one (.g (.agg [.v (.int .i64 x33.Stamp.N), .v (.int .i64 x33.Stamp.Site)])))], [], [(99, .one (bB r37))], []⟩, ⟨[(92, .one (bB true)), (99, .one (bB r37))], [], [(100, .one (bB r37))], []⟩]) (deps := [[], [0], [0, 1], [0, 1], [0, 1, 3], [0, 1, 2, 3, 4], [0, 1], [0, 1, 6], [0, 1, 2, 3, 4, 5, 6, 7], [0, 1, 2, 3, 4, 5, 6, 7, 8]]) (sl' := [(5, .one (bB r1)), (6, .one (.ptr 1006 0)), (7, .one (.g (.d (.sl 3 (List.map encApi_Dep r4))))), (8, .one (.g (.d (.sl 2 (List.map encApi_Range r5))))), (9, .one (bI .i64 (Int.tmod (IntKind.wrap .i64 ((Int.tmod site_1 6) + 6)) 6))), (10, .one (.ptr 1010 0)), (14, .one (bI .i64 v28)), (100, .one (bB r37))]) (hp' := [(1006, some (.blk 30 [bI .i64 r3.Site, .g (.d (.sl 3 (List.map encApi_Dep r3.Past)))])), (1010, some (.blk 30 [bI .i64 r6.1.Site, .g (.d (.sl 3 (List.map encApi_Dep r6.1.Past)))]))]) follows rfl rfl rfl ⟨⟨rfl, trivial⟩, trivial, ⟨rfl, trivial⟩, trivial, ⟨rfl, rfl, trivial⟩, trivial, ⟨rfl, rfl, trivial⟩, trivial, ⟨rfl, rfl, trivial⟩, ⟨⟨rfl, rfl⟩, trivial⟩, ⟨rfl, rfl, rfl, trivial⟩, trivial, ⟨rfl, rfl, trivial⟩, trivial, ⟨rfl, rfl, trivial⟩, ⟨⟨rfl, rfl⟩, trivial⟩, ⟨rfl, rfl, rfl, trivial⟩, trivial, ⟨rfl, rfl, trivial⟩, trivial, trivial⟩ ⟨OpW.plain (op_move (Ev.t 16 (bB true)) rfl) rfl rfl, OpW.plain (op_move (Ev.t 91 (bB true)) rfl) rfl rfl, OpW.yes (op_move (Ev.t 7 (.g (.d (.sl 3 (List.map encApi_Dep r4))))) rfl) rfl rfl rfl, OpW.yes (op_fieldP (off' := 0) Try.underlying46 rfl ti9 (by decide) rfl (Ev.t 15 (.ptr 1015 0)) rfl) rfl rfl rfl, OpW.yes (op_load1P (c := bS x33.Key) Try.underlying9 rfl rfl (Ev.t 94 (.ptr 1015 0)) rfl) rfl rfl rfl, OpW.yes (op_callQ (sv := .one (.g (.agg [.v (.int .i64 r36.N), .v (.int .i64 r36.Site)]))) cf15 (ct_ref04_Get r4 x33.Key r36 hr36) rfl rfl (EvQL.cons (EvQ.g (Ev.t 93 (.g (.d (.sl 3 (List.map encApi_Dep r4)))))) (EvQL.cons (EvQ.g (Ev.t 95 (bS x33.Key))) EvQL.nil)) rfl) rfl rfl rfl, OpW.yes (op_fieldP (off' := 1) Try.underlying46 rfl ti34 (by decide) rfl (Ev.t 15 (.ptr 1015 0)) rfl) rfl rfl rfl, OpW.yes (op_loadAP (ds := [.v (.int .i64 x33.Stamp.N), .v (.int .i64 x33.Stamp.Site)]) Try.underlying34 rfl ti34 rfl (Ev.t 97 (.ptr 1015 1)) rfl) rfl rfl rfl, OpW.yes (op_callQ (sv := .one (bB r37)) cf16 (ct_ref03_Less r36 x33.Stamp r37 hr37) rfl rfl (EvQL.cons (EvQ.g (Ev.t 96 (.g (.agg [.v (.int .i64 r36.N), .v (.int .i64 r36.Site)])))) (EvQL.cons (EvQ.g (Ev.t 98 (.g (.agg [.v (.int .i64 x33.Stamp.N), .v (.int .i64 x33.Stamp.Site)])))) EvQL.nil)) rfl) rfl rfl rfl, OpW.plain (op_pickT (Ev.t 92 (bB true)) (Ev.t 99 (bB r37)) rfl) rfl rfl, trivial⟩ ⟨rfl, rfl, rfl, rfl, rfl, rfl, rfl, rfl, trivial⟩ ⟨rfl, rfl, trivial⟩ rfl ?_
            refine ifS hF (fun hc38 hF => ?_) (fun hc38 hF => ?_)
            · refine G.cond rfl (fun _ => ?_) (fun hx => by rw [hc38] at hx; cases hx)
              refine G.seq ?_
              refine G.region ?_
              refine G.op1 (op_assign (Ev.c _ rfl) rfl) rfl trivial trivial ?_
              refine G.endOps ?_
              cases hF
              exact G.ret1 Try.results6 (RVar.tmp 4 _) ⟨rfl, trivial⟩ trivial
            · refine G.cond rfl (fun hx => by rw [hc38] at hx; cases hx) (fun _ => ?_)
              refine G.skip ?_
              refine G.endBlock ?_
              refine G.region ?_
              refine G.op1 (op_move (Ev.t 14 (bI .i64 v28)) rfl) rfl ⟨rfl, trivial⟩ trivial ?_
              refine G.op1 (op_add (Ev.t 79 (bI .i64 v28)) (Ev.c _ rfl) rfl) rfl ⟨rfl, trivial⟩ trivial ?_
              refine G.op1 (op_assign (Ev.t 80 (bI .i64 (IntKind.wrap .i64 (v28 + 1)))) rfl) rfl ⟨rfl, trivial⟩ trivial ?_
              refine G.endOps ?_
              exact G.arr (J29 (IntKind.wrap .i64 (v28 + 1)) hF) ⟨rfl, rfl, rfl, rfl, rfl, rfl, rfl, trivial⟩ ⟨rfl, rfl, trivial⟩ rfl
          · refine G.known (t := 16) (c := false) hc35 rfl ?_
            refine G.known (t := 90) (c := false) hc35 rfl ?_
            refine G.drawn (effs := [⟨[(16, .one (bB false))], [], [(91, .one (bB false))], []⟩, ⟨[(91, .one (bB false))], [], [(92, .one (bB false))], []⟩, ⟨[(92, .one (bB false))], [], [(93, .one (.x Go.undef))], []⟩, ⟨[(92, .one (bB false))], [], [(94, .one (.x Go.undef))], []⟩, ⟨[(92, .one (bB false))], [], [(95, .one (.x Go.undef))], []⟩, ⟨[(92, .one (bB false))], [], [(96, .one (.x Go.undef))], []⟩, ⟨[(92, .one (bB false))], [], [(97, .one (.x Go.undef))], []⟩, ⟨[(92, .one (bB false))], [], [(98, .one (.x Go.undef))], []⟩, ⟨[(92, .one (bB false))], [], [(99, .one (.x Go.undef))], []⟩, ⟨[(92, .one (bB false))], [], [(100, .one (bB false))], []⟩]) (deps := [[], [0], [0, 1], [0, 1], [0, 1, 3], [0, 1, 2, 3, 4], [0, 1], [0, 1, 6], [0, 1, 2, 3, 4, 5, 6, 7], [0, 1, 2, 3, 4, 5, 6, 7, 8]]) (sl' := [(5, .one (bB r1)), (6, .one (.ptr 1006 0)), (7, .one (.g (.d (.sl 3 (List.map encApi_Dep r4))))), (8, .one (.g (.d (.sl 2 (List.map encApi_Range r5))))), (9, .one (bI .i64 (Int.tmod (IntKind.wrap .i64 ((Int.tmod site_1 6) + 6)) 6))), (10, .one (.ptr 1010 0)), (14, .one (bI .i64 v28)), (100, .one (bB false))]) (hp' := [(1006, some (.blk 30 [bI .i64 r3.Site, .g (.d (.sl 3 (List.map encApi_Dep r3.Past)))])), (1010, some (.blk 30 [bI .i64 r6.1.Site, .g (.d (.sl 3 (List.map encApi_Dep r6.1.Past)))]))]) follows rfl rfl rfl ⟨⟨rfl, trivial⟩, trivial, ⟨rfl, trivial⟩, trivial, ⟨rfl, trivial⟩, trivial, ⟨rfl, trivial⟩, trivial, ⟨rfl, trivial⟩, trivial, ⟨rfl, trivial⟩, trivial, ⟨rfl, trivial⟩, trivial, ⟨rfl, trivial⟩, trivial, ⟨rfl, trivial⟩, trivial, ⟨rfl, trivial⟩, trivial, trivial⟩ ⟨OpW.plain (op_move (Ev.t 16 (bB false)) rfl) rfl rfl, OpW.plain (op_move (Ev.t 91 (bB false)) rfl) rfl rfl, OpW.no rfl rfl rfl rfl rfl, OpW.no rfl rfl rfl rfl rfl, OpW.no rfl rfl rfl rfl rfl, OpW.no rfl rfl rfl rfl rfl, OpW.no rfl rfl rfl rfl rfl, OpW.no rfl rfl rfl rfl rfl, OpW.no rfl rfl rfl rfl rfl, OpW.plain (op_pickF (Ev.t 92 (bB false)) (Ev.c _ rfl) rfl) rfl rfl, trivial⟩ ⟨rfl, rfl, rfl, rfl, rfl, rfl, rfl, rfl, trivial⟩ ⟨rfl, rfl, trivial⟩ rfl ?_
            refine G.condF rfl ?_
            refine G.skip ?_
            refine G.endBlock ?_
            refine G.region ?_
            refine G.op1 (op_move (Ev.t 14 (bI .i64 v28)) rfl) rfl ⟨rfl, trivial⟩ trivial ?_
            refine G.op1 (op_add (Ev.t 79 (bI .i64 v28)) (Ev.c _ rfl) rfl) rfl ⟨rfl, trivial⟩ trivial ?_
            refine G.op1 (op_assign (Ev.t 80 (bI .i64 (IntKind.wrap .i64 (v28 + 1)))) rfl) rfl ⟨rfl, trivial⟩ trivial ?_
            refine G.endOps ?_
            exact G.arr (J29 (IntKind.wrap .i64 (v28 + 1)) hF) ⟨rfl, rfl, rfl, rfl, rfl, rfl, rfl, trivial⟩ ⟨rfl, rfl, trivial⟩ rfl
        · refine G.cond rfl (fun hx => by rw [hc32] at hx; cases hx) (fun _ => ?_)
          refine G.exit ?_
          refine GX.c ?_
          refine GX.q ?_
          refine GX.bYes ?_
          exact G.arr (J27 () hF) ⟨rfl, rfl, rfl, rfl, rfl, rfl, trivial⟩ ⟨rfl, rfl, trivial⟩ rfl
  refine G.region ?_
  refine G.op1 (op_move (Ev.t 13 (bI .i64 r8.2)) rfl) rfl ⟨rfl, trivial⟩ trivial ?_
  refine G.op1 (op_neI (Ev.t 52 (bI .i64 r8.2)) (Ev.c _ rfl) rfl) rfl ⟨rfl, trivial⟩ trivial ?_
  refine G.op1 (op_move (Ev.t 53 (bB (!decide (r8.2 = 0)))) rfl) rfl ⟨rfl, trivial⟩ trivial ?_
  refine ifS hF (fun hc40 hF => ?_) (fun hc40 hF => ?_)
  · refine G.known (t := 54) hc40 rfl ?_
    refine G.opN1 rfl rfl rfl rfl rfl ?_
    refine G.opN1 rfl rfl rfl rfl rfl ?_
    refine G.opN1 rfl rfl rfl rfl rfl ?_
    refine G.opN1 rfl rfl rfl rfl rfl ?_
    refine G.op1 (op_pickT (Ev.t 54 (bB true)) (Ev.c _ rfl) rfl) rfl ⟨rfl, trivial⟩ trivial ?_
    refine G.endOps ?_
    exact G.arr (J39 true hF) ⟨rfl, rfl, rfl, rfl, rfl, rfl, rfl, rfl, trivial⟩ ⟨rfl, rfl, trivial⟩ rfl
  · refine G.known (t := 54) hc40 rfl ?_
    refine G.opG1 (op_fieldP (off' := 0) Try.underlying30 rfl ti3 (by decide) rfl (Ev.t 12 (.ptr 1012 0)) rfl) rfl rfl rfl ⟨rfl, trivial⟩ trivial ?_
    refine G.opG1 (op_load1P (c := bI .i64 r8.1.Site) Try.underlying3 rfl rfl (Ev.t 55 (.ptr 1012 0)) rfl) rfl rfl rfl ⟨rfl, trivial⟩ ⟨rfl, trivial⟩ ?_
    refine G.opG1 (op_move (Ev.t 9 (bI .i64 (Int.tmod (IntKind.wrap .i64 ((Int.tmod site_1 6) + 6)) 6))) rfl) rfl rfl rfl ⟨rfl, trivial⟩ trivial ?_
    refine G.opG1 (op_neI (Ev.t 56 (bI .i64 r8.1.Site)) (Ev.t 57 (bI .i64 (Int.tmod (IntKind.wrap .i64 ((Int.tmod site_1 6) + 6)) 6))) rfl) rfl rfl rfl ⟨rfl, rfl, trivial⟩ trivial ?_
    refine G.op1 (op_pickF (Ev.t 54 (bB false)) (Ev.t 58 (bB (!decide (r8.1.Site = (Int.tmod (IntKind.wrap .i64 ((Int.tmod site_1 6) + 6)) 6))))) rfl) rfl ⟨rfl, rfl, trivial⟩ trivial ?_
    refine G.endOps ?_
    exact G.arr (J39 (!decide (r8.1.Site = (Int.tmod (IntKind.wrap .i64 ((Int.tmod site_1 6) + 6)) 6))) hF) ⟨rfl, rfl, rfl, rfl, rfl, rfl, rfl, rfl, trivial⟩ ⟨rfl, rfl, trivial⟩ rfl


end Go.Ark
