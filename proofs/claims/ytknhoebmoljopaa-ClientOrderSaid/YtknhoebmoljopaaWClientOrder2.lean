/- Walks, printed by a program of mine: each function of the program computes the typed function of its name. Conditions: none. -/
import Derived.Test.YtknhoebmoljopaaWClientOrder1
namespace Go.Ark
open Go Go.Ab Go.RowKit Go.Lib Go.Proofs

set_option maxRecDepth 20000 in
set_option maxHeartbeats 2000000 in
theorem ct_ref04_Add (p_0 : (List Api_Dep)) (d_1 : Api_Dep) (r : (List Api_Dep)) (hF : ref04_Add p_0 d_1 = some r) : Ct Try.prog 23 [.g (.d (.sl 3 (List.map encApi_Dep p_0))), .g (.agg (encApi_Dep d_1))] (.one (.d (.sl 3 (List.map encApi_Dep r)))) := by
  unfold ref04_Add at hF
  refine Ct.intro Try.func23 rfl Try.ntmps23 rfl rfl fun M w => ?_
  refine G.seq ?_
  refine G.region ?_
  refine G.op2 (op_boxA (k := 1003) (Ev.t 1 (.g (.agg [.v (.string d_1.Key), .v (.int .i64 d_1.Stamp.N), .v (.int .i64 d_1.Stamp.Site)]))) rfl) rfl ⟨rfl, trivial⟩ ⟨rfl, trivial⟩ ?_
  refine G.op1 (op_assign (Ev.n 3) rfl) rfl trivial trivial ?_
  refine G.endOps ?_
  refine G.seq ?_
  refine G.region ?_
  refine G.op1 (op_fieldP (off' := 0) Try.underlying46 rfl ti9 (by decide) rfl (Ev.t 3 (.ptr 1003 0)) rfl) rfl ⟨rfl, trivial⟩ trivial ?_
  refine G.op1 (op_load1P (c := bS d_1.Key) Try.underlying9 rfl rfl (Ev.t 11 (.ptr 1003 0)) rfl) rfl ⟨rfl, trivial⟩ ⟨rfl, trivial⟩ ?_
  obtain ⟨r1, hr1, hF⟩ := bindS hF
  refine G.op1 (op_callQ (sv := .one (bB r1)) cf30 (ct_ref02_Check d_1.Key r1 hr1) rfl rfl (EvQL.cons (EvQ.g (Ev.t 12 (bS d_1.Key))) EvQL.nil) rfl) rfl ⟨rfl, trivial⟩ trivial ?_
  refine G.op1 (op_assign (Ev.t 13 (bB r1)) rfl) rfl ⟨rfl, trivial⟩ trivial ?_
  refine G.endOps ?_
  refine G.seq ?_
  refine G.region ?_
  refine G.op1 (op_fieldP (off' := 1) Try.underlying46 rfl ti34 (by decide) rfl (Ev.t 3 (.ptr 1003 0)) rfl) rfl ⟨rfl, trivial⟩ trivial ?_
  refine G.op1 (op_loadAP (ds := [.v (.int .i64 d_1.Stamp.N), .v (.int .i64 d_1.Stamp.Site)]) Try.underlying34 rfl ti34 rfl (Ev.t 14 (.ptr 1003 1)) rfl) rfl ⟨rfl, trivial⟩ ⟨rfl, trivial⟩ ?_
  obtain ⟨r2, hr2, hF⟩ := bindS hF
  refine G.op1 (op_callQ (sv := .one (bB r2)) cf31 (ct_ref03_Check d_1.Stamp r2 hr2) rfl rfl (EvQL.cons (EvQ.g (Ev.t 15 (.g (.agg [.v (.int .i64 d_1.Stamp.N), .v (.int .i64 d_1.Stamp.Site)])))) EvQL.nil) rfl) rfl ⟨rfl, trivial⟩ trivial ?_
  refine G.op1 (op_assign (Ev.t 16 (bB r2)) rfl) rfl ⟨rfl, trivial⟩ trivial ?_
  refine G.endOps ?_
  refine G.seq ?_
  refine G.seq ?_
  refine G.joinC (T := Bool) (fun y3 => ⟨[(0, .one (.g (.d (.sl 3 (List.map encApi_Dep p_0))))), (3, .one (.ptr 1003 0)), (22, .one (bB y3))], [(1003, some (.blk 46 [bS d_1.Key, bI .i64 d_1.Stamp.N, bI .i64 d_1.Stamp.Site]))]⟩) (fun y3 => ref04_Add_k1 p_0 d_1 y3 = some r) (fun y3 hF => ?_) (fun J28 => ?_)
  · unfold ref04_Add_k1 at hF
    refine ifS hF (fun hc4 hF => ?_) (fun hc4 hF => ?_)
    · refine G.cond rfl (fun _ => ?_) (fun hx => by rw [hc4] at hx; cases hx)
      refine G.seq ?_
      refine G.region ?_
      refine G.op1 (op_move (Ev.t 0 (.g (.d (.sl 3 (List.map encApi_Dep p_0))))) rfl) rfl ⟨rfl, trivial⟩ trivial ?_
      refine G.op1 (op_assign (Ev.t 23 (.g (.d (.sl 3 (List.map encApi_Dep p_0))))) rfl) rfl ⟨rfl, trivial⟩ trivial ?_
      refine G.endOps ?_
      cases hF
      exact G.ret1 Try.results23 (RVar.tmp 4 _) ⟨rfl, trivial⟩ trivial
    · refine G.cond rfl (fun hx => by rw [hc4] at hx; cases hx) (fun _ => ?_)
      refine G.skip ?_
      refine G.seq ?_
      refine G.region ?_
      refine G.op2 (op_assignRow (E := 46) (size := 3) (k := 2007) (ex := false) rfl rfl) rfl trivial ⟨rfl, trivial⟩ ?_
      refine G.endOps ?_
      refine G.seq ?_
      refine G.region ?_
      refine G.op1 (op_assign (Ev.c _ rfl) rfl) rfl trivial trivial ?_
      refine G.endOps ?_
      refine G.seq ?_
      refine G.seq ?_
      refine G.region ?_
      refine G.op1 (op_assign (Ev.c _ rfl) rfl) rfl trivial trivial ?_
      refine G.endOps ?_
      refine G.joinC (T := Bool × (List Api_Dep)) (fun y5 => ⟨[(3, .one (.ptr 1003 0)), (7, .one (.own 2007 (List.map encApi_Dep y5.2))), (8, .one (bB y5.1))], [(1003, some (.blk 46 [bS d_1.Key, bI .i64 d_1.Stamp.N, bI .i64 d_1.Stamp.Site])), (2007, some (.row 46 3 (List.map encApi_Dep y5.2) false))]⟩) (fun y5 => ref04_Add_k2 d_1 y5 = some r) (fun y5 hF => ?_) (fun J8 => ?_)
      · unfold ref04_Add_k2 at hF
        refine G.seq ?_
        refine G.seq ?_
        refine G.region ?_
        refine G.op1 (op_move (Ev.t 8 (bB y5.1)) rfl) rfl ⟨rfl, trivial⟩ trivial ?_
        refine G.op1 (op_not (Ev.t 62 (bB y5.1)) rfl) rfl ⟨rfl, trivial⟩ trivial ?_
        refine G.endOps ?_
        refine ifS hF (fun hc6 hF => ?_) (fun hc6 hF => ?_)
        · refine G.cond rfl (fun _ => ?_) (fun hx => by rw [hc6] at hx; cases hx)
          refine G.region ?_
          refine G.op1 (op_move (Ev.t 7 (.own 2007 (List.map encApi_Dep y5.2))) rfl) rfl ⟨rfl, trivial⟩ trivial ?_
          refine G.op1 (op_loadAP (ds := [.v (.string d_1.Key), .v (.int .i64 d_1.Stamp.N), .v (.int .i64 d_1.Stamp.Site)]) Try.underlying46 rfl ti46 rfl (Ev.t 3 (.ptr 1003 0)) rfl) rfl ⟨rfl, trivial⟩ ⟨rfl, trivial⟩ ?_
          refine G.op1 (op_buildSlice (es := List.map encApi_Dep [d_1]) Try.underlying22 ti46 rfl rfl (EvP.cons (Ev.t 65 (.g (.agg [.v (.string d_1.Key), .v (.int .i64 d_1.Stamp.N), .v (.int .i64 d_1.Stamp.Site)]))) EvP.nil) rfl rfl (by simp [encApi_Dep]) rfl) rfl ⟨rfl, trivial⟩ trivial ?_
          obtain ⟨l7, hl7, hF⟩ := bindS hF
          refine G.op2 (op_appendO Try.underlying22 ti46 rfl (app_map hl7 encApi_Dep) (app_b1 hl7 encApi_Dep) (app_b2 hl7 encApi_Dep) (Ev.t 64 (.own 2007 (List.map encApi_Dep y5.2))) (Ev.t 66 (.g (.d (.sl 3 (List.map encApi_Dep ([d_1])))))) rfl) rfl ⟨rfl, rfl, trivial⟩ ⟨rfl, trivial⟩ ?_
          refine G.op1 (op_assign (Ev.t 67 (.own 2007 (List.map encApi_Dep l7))) rfl) rfl ⟨rfl, trivial⟩ trivial ?_
          refine G.endOps ?_
          refine G.seq ?_
          refine G.region ?_
          refine G.op1 (op_move (Ev.t 7 (.own 2007 (List.map encApi_Dep l7))) rfl) rfl ⟨rfl, trivial⟩ trivial ?_
          refine G.op1 (op_assign (Ev.t 68 (.own 2007 (List.map encApi_Dep l7))) rfl) rfl ⟨rfl, trivial⟩ trivial ?_
          refine G.endOps ?_
          refine G.view (t := 4) rfl rfl ?_
          cases hF
          exact G.ret1 Try.results23 (RVar.tmp 4 _) ⟨rfl, trivial⟩ trivial
        · refine G.cond rfl (fun hx => by rw [hc6] at hx; cases hx) (fun _ => ?_)
          refine G.skip ?_
          refine G.seq ?_
          refine G.region ?_
          refine G.op1 (op_move (Ev.t 7 (.own 2007 (List.map encApi_Dep y5.2))) rfl) rfl ⟨rfl, trivial⟩ trivial ?_
          refine G.op1 (op_assign (Ev.t 68 (.own 2007 (List.map encApi_Dep y5.2))) rfl) rfl ⟨rfl, trivial⟩ trivial ?_
          refine G.endOps ?_
          refine G.view (t := 4) rfl rfl ?_
          cases hF
          exact G.ret1 Try.results23 (RVar.tmp 4 _) ⟨rfl, trivial⟩ trivial
      refine G.block ?_
      refine G.keep (sl' := [(0, .one (.g (.d (.sl 3 (List.map encApi_Dep p_0))))), (3, .one (.ptr 1003 0)), (7, .one (.own 2007 (List.map encApi_Dep ([] : (List Api_Dep))))), (8, .one (bB false)), (9, .one (bI .i64 0))]) (hp' := [(1003, some (.blk 46 [bS d_1.Key, bI .i64 d_1.Stamp.N, bI .i64 d_1.Stamp.Site])), (2007, some (.row 46 3 (List.map encApi_Dep ([] : (List Api_Dep))) false))]) ⟨rfl, rfl, rfl, rfl, rfl, trivial⟩ ⟨rfl, rfl, trivial⟩ rfl ?_
      refine G.loopF (fun (v9 : Bool × Int × (List Api_Dep)) => ⟨[(0, .one (.g (.d (.sl 3 (List.map encApi_Dep p_0))))), (3, .one (.ptr 1003 0)), (7, .one (.own 2007 (List.map encApi_Dep v9.2.2))), (8, .one (bB v9.1)), (9, .one (bI .i64 v9.2.1))], [(1003, some (.blk 46 [bS d_1.Key, bI .i64 d_1.Stamp.N, bI .i64 d_1.Stamp.Site])), (2007, some (.row 46 3 (List.map encApi_Dep v9.2.2) false))]⟩) hF rfl (fun K12 again11 v9 J10 hF => ?_)
      unfold ref04_Add_l3 at hF
      refine G.seq ?_
      refine G.seq ?_
      refine G.region ?_
      refine G.op1 (op_move (Ev.t 9 (bI .i64 v9.2.1)) rfl) rfl ⟨rfl, trivial⟩ trivial ?_
      refine G.op1 (op_move (Ev.t 0 (.g (.d (.sl 3 (List.map encApi_Dep p_0))))) rfl) rfl ⟨rfl, trivial⟩ trivial ?_
      refine G.op1 (OpL.cast (op_lenD Try.underlying22 (Ev.t 25 (.g (.d (.sl 3 (List.map encApi_Dep p_0))))) rfl) (by rw [List.length_map])) rfl ⟨rfl, trivial⟩ trivial ?_
      refine G.op1 (op_lss (Ev.t 24 (bI .i64 v9.2.1)) (Ev.t 26 (bI .i64 (p_0.length : Int))) rfl) rfl ⟨rfl, rfl, trivial⟩ trivial ?_
      refine G.endOps ?_
      refine ifS hF (fun hc13 hF => ?_) (fun hc13 hF => ?_)
      · refine G.cond rfl (fun _ => ?_) (fun hx => by rw [hc13] at hx; cases hx)
        refine G.skip ?_
        refine G.seq ?_
        refine G.block ?_
        refine G.seq ?_
        refine G.region ?_
        refine G.op1 (op_move (Ev.t 0 (.g (.d (.sl 3 (List.map encApi_Dep p_0))))) rfl) rfl ⟨rfl, trivial⟩ trivial ?_
        refine G.op1 (op_move (Ev.t 9 (bI .i64 v9.2.1)) rfl) rfl ⟨rfl, trivial⟩ trivial ?_
        obtain ⟨x14, hx14, hF⟩ := bindS hF
        refine G.op1 (op_index (cs := [.v (.string x14.Key), .v (.int .i64 x14.Stamp.N), .v (.int .i64 x14.Stamp.Site)]) Try.underlying22 ti46 (idx_ok hx14).1 (idx_get hx14 encApi_Dep) (Ev.t 30 (.g (.d (.sl 3 (List.map encApi_Dep p_0))))) (Ev.t 31 (bI .i64 v9.2.1)) rfl) rfl ⟨rfl, rfl, trivial⟩ trivial ?_
        refine G.op1 (op_loadAE (ds := [.v (.string x14.Key), .v (.int .i64 x14.Stamp.N), .v (.int .i64 x14.Stamp.Site)]) Try.underlying46 rfl ti46 rfl (Ev.t 32 (.ep [.v (.string x14.Key), .v (.int .i64 x14.Stamp.N), .v (.int .i64 x14.Stamp.Site)])) rfl) rfl ⟨rfl, trivial⟩ trivial ?_
        refine G.op2 (op_alloc (k := 1010) (cs := [bS ByteArray.empty, bI .i64 0, bI .i64 0]) ti46 ⟨.v _ rfl, .v _ rfl, .v _ rfl, trivial⟩ rfl) rfl trivial ⟨rfl, trivial⟩ ?_
        refine G.op3 (op_storeA (cs' := [bS x14.Key, bI .i64 x14.Stamp.N, bI .i64 x14.Stamp.Site]) ti46 rfl rfl (Ev.t 10 (.ptr 1010 0)) (Ev.t 33 (.g (.agg [.v (.string x14.Key), .v (.int .i64 x14.Stamp.N), .v (.int .i64 x14.Stamp.Site)])))) rfl ⟨rfl, rfl, trivial⟩ ⟨rfl, trivial⟩ ?_
        refine G.endOps ?_
        refine G.seq ?_
        refine G.seq ?_
        refine G.region ?_
        refine G.op1 (op_fieldP (off' := 0) Try.underlying46 rfl ti9 (by decide) rfl (Ev.t 10 (.ptr 1010 0)) rfl) rfl ⟨rfl, trivial⟩ trivial ?_
        refine G.op1 (op_load1P (c := bS x14.Key) Try.underlying9 rfl rfl (Ev.t 34 (.ptr 1010 0)) rfl) rfl ⟨rfl, trivial⟩ ⟨rfl, trivial⟩ ?_
        refine G.op1 (op_fieldP (off' := 0) Try.underlying46 rfl ti9 (by decide) rfl (Ev.t 3 (.ptr 1003 0)) rfl) rfl ⟨rfl, trivial⟩ trivial ?_
        refine G.op1 (op_load1P (c := bS d_1.Key) Try.underlying9 rfl rfl (Ev.t 36 (.ptr 1003 0)) rfl) rfl ⟨rfl, trivial⟩ ⟨rfl, trivial⟩ ?_
        refine G.op1 (op_eqS (Ev.t 35 (bS x14.Key)) (Ev.t 37 (bS d_1.Key)) rfl) rfl ⟨rfl, rfl, trivial⟩ trivial ?_
        refine G.endOps ?_
        refine G.joinC (T := Bool × ByteArray × Int × Int) (fun y15 => ⟨[(0, .one (.g (.d (.sl 3 (List.map encApi_Dep p_0))))), (3, .one (.ptr 1003 0)), (7, .one (.own 2007 (List.map encApi_Dep v9.2.2))), (8, .one (bB y15.1)), (9, .one (bI .i64 v9.2.1)), (10, .one (.ptr 1010 0))], [(1003, some (.blk 46 [bS d_1.Key, bI .i64 d_1.Stamp.N, bI .i64 d_1.Stamp.Site])), (1010, some (.blk 46 [bS y15.2.1, bI .i64 y15.2.2.1, bI .i64 y15.2.2.2])), (2007, some (.row 46 3 (List.map encApi_Dep v9.2.2) false))]⟩) (fun y15 => ref04_Add_k4 d_1 again11 v9 y15 = some r) (fun y15 hF => ?_) (fun J24 => ?_)
        · unfold ref04_Add_k4 at hF
          refine G.seq ?_
          refine G.seq ?_
          refine G.joinC (T := Bool) (fun y16 => ⟨[(0, .one (.g (.d (.sl 3 (List.map encApi_Dep p_0))))), (3, .one (.ptr 1003 0)), (7, .one (.own 2007 (List.map encApi_Dep v9.2.2))), (8, .one (bB y15.1)), (9, .one (bI .i64 v9.2.1)), (10, .one (.ptr 1010 0)), (53, .one (bB y16))], [(1003, some (.blk 46 [bS d_1.Key, bI .i64 d_1.Stamp.N, bI .i64 d_1.Stamp.Site])), (1010, some (.blk 46 [bS y15.2.1, bI .i64 y15.2.2.1, bI .i64 y15.2.2.2])), (2007, some (.row 46 3 (List.map encApi_Dep v9.2.2) false))]⟩) (fun y16 => ref04_Add_k5 d_1 again11 v9 y15 y16 = some r) (fun y16 hF => ?_) (fun J22 => ?_)
          · unfold ref04_Add_k5 at hF
            refine G.joinC (T := Bool × (List Api_Dep)) (fun y17 => ⟨[(0, .one (.g (.d (.sl 3 (List.map encApi_Dep p_0))))), (3, .one (.ptr 1003 0)), (7, .one (.own 2007 (List.map encApi_Dep y17.2))), (8, .one (bB y17.1)), (9, .one (bI .i64 v9.2.1)), (10, .one (.ptr 1010 0))], [(1003, some (.blk 46 [bS d_1.Key, bI .i64 d_1.Stamp.N, bI .i64 d_1.Stamp.Site])), (1010, some (.blk 46 [bS y15.2.1, bI .i64 y15.2.2.1, bI .i64 y15.2.2.2])), (2007, some (.row 46 3 (List.map encApi_Dep y17.2) false))]⟩) (fun y17 => ref04_Add_k6 again11 v9 y15 y17 = some r) (fun y17 hF => ?_) (fun J19 => ?_)
            · unfold ref04_Add_k6 at hF
              refine G.region ?_
              refine G.op1 (op_move (Ev.t 7 (.own 2007 (List.map encApi_Dep y17.2))) rfl) rfl ⟨rfl, trivial⟩ trivial ?_
              refine G.op1 (op_loadAP (ds := [.v (.string y15.2.1), .v (.int .i64 y15.2.2.1), .v (.int .i64 y15.2.2.2)]) Try.underlying46 rfl ti46 rfl (Ev.t 10 (.ptr 1010 0)) rfl) rfl ⟨rfl, trivial⟩ ⟨rfl, trivial⟩ ?_
              refine G.op1 (op_buildSlice (es := List.map encApi_Dep [(Api_Dep.mk y15.2.1 (Api_Stamp.mk y15.2.2.1 y15.2.2.2))]) Try.underlying22 ti46 rfl rfl (EvP.cons (Ev.t 59 (.g (.agg [.v (.string y15.2.1), .v (.int .i64 y15.2.2.1), .v (.int .i64 y15.2.2.2)]))) EvP.nil) rfl rfl (by simp [encApi_Dep]) rfl) rfl ⟨rfl, trivial⟩ trivial ?_
              obtain ⟨l18, hl18, hF⟩ := bindS hF
              refine G.op2 (op_appendO Try.underlying22 ti46 rfl (app_map hl18 encApi_Dep) (app_b1 hl18 encApi_Dep) (app_b2 hl18 encApi_Dep) (Ev.t 58 (.own 2007 (List.map encApi_Dep y17.2))) (Ev.t 60 (.g (.d (.sl 3 (List.map encApi_Dep ([(Api_Dep.mk y15.2.1 (Api_Stamp.mk y15.2.2.1 y15.2.2.2))])))))) rfl) rfl ⟨rfl, rfl, trivial⟩ ⟨rfl, trivial⟩ ?_
              refine G.op1 (op_assign (Ev.t 61 (.own 2007 (List.map encApi_Dep l18))) rfl) rfl ⟨rfl, trivial⟩ trivial ?_
              refine G.endOps ?_
              refine G.endBlock ?_
              refine G.region ?_
              refine G.op1 (op_move (Ev.t 9 (bI .i64 v9.2.1)) rfl) rfl ⟨rfl, trivial⟩ trivial ?_
              refine G.op1 (op_add (Ev.t 28 (bI .i64 v9.2.1)) (Ev.c _ rfl) rfl) rfl ⟨rfl, trivial⟩ trivial ?_
              refine G.op1 (op_assign (Ev.t 29 (bI .i64 (IntKind.wrap .i64 (v9.2.1 + 1)))) rfl) rfl ⟨rfl, trivial⟩ trivial ?_
              refine G.endOps ?_
              exact G.arr (J10 (y17.1, IntKind.wrap .i64 (v9.2.1 + 1), l18) hF) ⟨rfl, rfl, rfl, rfl, rfl, trivial⟩ ⟨rfl, rfl, trivial⟩ rfl
            refine ifS hF (fun hc20 hF => ?_) (fun hc20 hF => ?_)
            · refine G.cond rfl (fun _ => ?_) (fun hx => by rw [hc20] at hx; cases hx)
              refine G.seq ?_
              refine G.region ?_
              refine G.op1 (op_move (Ev.t 7 (.own 2007 (List.map encApi_Dep v9.2.2))) rfl) rfl ⟨rfl, trivial⟩ trivial ?_
              refine G.op1 (op_loadAP (ds := [.v (.string d_1.Key), .v (.int .i64 d_1.Stamp.N), .v (.int .i64 d_1.Stamp.Site)]) Try.underlying46 rfl ti46 rfl (Ev.t 3 (.ptr 1003 0)) rfl) rfl ⟨rfl, trivial⟩ ⟨rfl, trivial⟩ ?_
              refine G.op1 (op_buildSlice (es := List.map encApi_Dep [d_1]) Try.underlying22 ti46 rfl rfl (EvP.cons (Ev.t 55 (.g (.agg [.v (.string d_1.Key), .v (.int .i64 d_1.Stamp.N), .v (.int .i64 d_1.Stamp.Site)]))) EvP.nil) rfl rfl (by simp [encApi_Dep]) rfl) rfl ⟨rfl, trivial⟩ trivial ?_
              obtain ⟨l21, hl21, hF⟩ := bindS hF
              refine G.op2 (op_appendO Try.underlying22 ti46 rfl (app_map hl21 encApi_Dep) (app_b1 hl21 encApi_Dep) (app_b2 hl21 encApi_Dep) (Ev.t 54 (.own 2007 (List.map encApi_Dep v9.2.2))) (Ev.t 56 (.g (.d (.sl 3 (List.map encApi_Dep ([d_1])))))) rfl) rfl ⟨rfl, rfl, trivial⟩ ⟨rfl, trivial⟩ ?_
              refine G.op1 (op_assign (Ev.t 57 (.own 2007 (List.map encApi_Dep l21))) rfl) rfl ⟨rfl, trivial⟩ trivial ?_
              refine G.endOps ?_
              refine G.region ?_
              refine G.op1 (op_assign (Ev.c _ rfl) rfl) rfl trivial trivial ?_
              refine G.endOps ?_
              exact G.arr (J19 (true, l21) hF) ⟨rfl, rfl, rfl, rfl, rfl, rfl, trivial⟩ ⟨rfl, rfl, rfl, trivial⟩ rfl
            · refine G.cond rfl (fun hx => by rw [hc20] at hx; cases hx) (fun _ => ?_)
              refine G.skip ?_
              exact G.arr (J19 (y15.1, v9.2.2) hF) ⟨rfl, rfl, rfl, rfl, rfl, rfl, trivial⟩ ⟨rfl, rfl, rfl, trivial⟩ rfl
          refine G.region ?_
          refine G.op1 (op_move (Ev.t 8 (bB y15.1)) rfl) rfl ⟨rfl, trivial⟩ trivial ?_
          refine G.op1 (op_not (Ev.t 45 (bB y15.1)) rfl) rfl ⟨rfl, trivial⟩ trivial ?_
          refine G.op1 (op_move (Ev.t 46 (bB (!y15.1))) rfl) rfl ⟨rfl, trivial⟩ trivial ?_
          refine ifS hF (fun hc23 hF => ?_) (fun hc23 hF => ?_)
          · refine G.known (t := 47) hc23 rfl ?_
            refine G.opG1 (op_fieldP (off' := 0) Try.underlying46 rfl ti9 (by decide) rfl (Ev.t 10 (.ptr 1010 0)) rfl) rfl rfl rfl ⟨rfl, trivial⟩ trivial ?_
            refine G.opG1 (op_load1P (c := bS y15.2.1) Try.underlying9 rfl rfl (Ev.t 48 (.ptr 1010 0)) rfl) rfl rfl rfl ⟨rfl, trivial⟩ ⟨rfl, trivial⟩ ?_
            refine G.opG1 (op_fieldP (off' := 0) Try.underlying46 rfl ti9 (by decide) rfl (Ev.t 3 (.ptr 1003 0)) rfl) rfl rfl rfl ⟨rfl, trivial⟩ trivial ?_
            refine G.opG1 (op_load1P (c := bS d_1.Key) Try.underlying9 rfl rfl (Ev.t 50 (.ptr 1003 0)) rfl) rfl rfl rfl ⟨rfl, trivial⟩ ⟨rfl, trivial⟩ ?_
            refine G.opG1 (op_gtS (Ev.t 49 (bS y15.2.1)) (Ev.t 51 (bS d_1.Key)) rfl) rfl rfl rfl ⟨rfl, rfl, trivial⟩ trivial ?_
            refine G.op1 (op_pickT (Ev.t 47 (bB true)) (Ev.t 52 (bB (!(slt y15.2.1 d_1.Key || seq y15.2.1 d_1.Key)))) rfl) rfl ⟨rfl, rfl, trivial⟩ trivial ?_
            refine G.endOps ?_
            exact G.arr (J22 (!(slt y15.2.1 d_1.Key || seq y15.2.1 d_1.Key)) hF) ⟨rfl, rfl, rfl, rfl, rfl, rfl, rfl, trivial⟩ ⟨rfl, rfl, rfl, trivial⟩ rfl
          · refine G.known (t := 47) hc23 rfl ?_
            refine G.opN1 rfl rfl rfl rfl rfl ?_
            refine G.opN1 rfl rfl rfl rfl rfl ?_
            refine G.opN1 rfl rfl rfl rfl rfl ?_
            refine G.opN1 rfl rfl rfl rfl rfl ?_
            refine G.opN1 rfl rfl rfl rfl rfl ?_
            refine G.op1 (op_pickF (Ev.t 47 (bB false)) (Ev.c _ rfl) rfl) rfl ⟨rfl, trivial⟩ trivial ?_
            refine G.endOps ?_
            exact G.arr (J22 false hF) ⟨rfl, rfl, rfl, rfl, rfl, rfl, rfl, trivial⟩ ⟨rfl, rfl, rfl, trivial⟩ rfl
        refine ifS hF (fun hc25 hF => ?_) (fun hc25 hF => ?_)
        · refine G.cond rfl (fun _ => ?_) (fun hx => by rw [hc25] at hx; cases hx)
          refine G.seq ?_
          refine G.seq ?_
          refine G.region ?_
          refine G.op1 (op_fieldP (off' := 1) Try.underlying46 rfl ti34 (by decide) rfl (Ev.t 10 (.ptr 1010 0)) rfl) rfl ⟨rfl, trivial⟩ trivial ?_
          refine G.op1 (op_loadAP (ds := [.v (.int .i64 x14.Stamp.N), .v (.int .i64 x14.Stamp.Site)]) Try.underlying34 rfl ti34 rfl (Ev.t 39 (.ptr 1010 1)) rfl) rfl ⟨rfl, trivial⟩ ⟨rfl, trivial⟩ ?_
          refine G.op1 (op_fieldP (off' := 1) Try.underlying46 rfl ti34 (by decide) rfl (Ev.t 3 (.ptr 1003 0)) rfl) rfl ⟨rfl, trivial⟩ trivial ?_
          refine G.op1 (op_loadAP (ds := [.v (.int .i64 d_1.Stamp.N), .v (.int .i64 d_1.Stamp.Site)]) Try.underlying34 rfl ti34 rfl (Ev.t 41 (.ptr 1003 1)) rfl) rfl ⟨rfl, trivial⟩ ⟨rfl, trivial⟩ ?_
          obtain ⟨r26, hr26, hF⟩ := bindS hF
          refine G.op1 (op_callQ (sv := .one (bB r26)) cf16 (ct_ref03_Less x14.Stamp d_1.Stamp r26 hr26) rfl rfl (EvQL.cons (EvQ.g (Ev.t 40 (.g (.agg [.v (.int .i64 x14.Stamp.N), .v (.int .i64 x14.Stamp.Site)])))) (EvQL.cons (EvQ.g (Ev.t 42 (.g (.agg [.v (.int .i64 d_1.Stamp.N), .v (.int .i64 d_1.Stamp.Site)])))) EvQL.nil)) rfl) rfl ⟨rfl, rfl, trivial⟩ trivial ?_
          refine G.endOps ?_
          refine ifS hF (fun hc27 hF => ?_) (fun hc27 hF => ?_)
          · refine G.cond rfl (fun _ => ?_) (fun hx => by rw [hc27] at hx; cases hx)
            refine G.region ?_
            refine G.op1 (op_loadAP (ds := [.v (.string d_1.Key), .v (.int .i64 d_1.Stamp.N), .v (.int .i64 d_1.Stamp.Site)]) Try.underlying46 rfl ti46 rfl (Ev.t 3 (.ptr 1003 0)) rfl) rfl ⟨rfl, trivial⟩ ⟨rfl, trivial⟩ ?_
            refine G.op3 (op_storeA (cs' := [bS d_1.Key, bI .i64 d_1.Stamp.N, bI .i64 d_1.Stamp.Site]) ti46 rfl rfl (Ev.t 10 (.ptr 1010 0)) (Ev.t 44 (.g (.agg [.v (.string d_1.Key), .v (.int .i64 d_1.Stamp.N), .v (.int .i64 d_1.Stamp.Site)])))) rfl ⟨rfl, rfl, trivial⟩ ⟨rfl, trivial⟩ ?_
            refine G.endOps ?_
            refine G.region ?_
            refine G.op1 (op_assign (Ev.c _ rfl) rfl) rfl trivial trivial ?_
            refine G.endOps ?_
            exact G.arr (J24 (true, d_1.Key, d_1.Stamp.N, d_1.Stamp.Site) hF) ⟨rfl, rfl, rfl, rfl, rfl, rfl, trivial⟩ ⟨rfl, rfl, rfl, trivial⟩ rfl
          · refine G.cond rfl (fun hx => by rw [hc27] at hx; cases hx) (fun _ => ?_)
            refine G.skip ?_
            refine G.region ?_
            refine G.op1 (op_assign (Ev.c _ rfl) rfl) rfl trivial trivial ?_
            refine G.endOps ?_
            exact G.arr (J24 (true, x14.Key, x14.Stamp.N, x14.Stamp.Site) hF) ⟨rfl, rfl, rfl, rfl, rfl, rfl, trivial⟩ ⟨rfl, rfl, rfl, trivial⟩ rfl
        · refine G.cond rfl (fun hx => by rw [hc25] at hx; cases hx) (fun _ => ?_)
          refine G.skip ?_
          exact G.arr (J24 (v9.1, x14.Key, x14.Stamp.N, x14.Stamp.Site) hF) ⟨rfl, rfl, rfl, rfl, rfl, rfl, trivial⟩ ⟨rfl, rfl, rfl, trivial⟩ rfl
      · refine G.cond rfl (fun hx => by rw [hc13] at hx; cases hx) (fun _ => ?_)
        refine G.exit ?_
        refine GX.c ?_
        refine GX.q ?_
        refine GX.bYes ?_
        exact G.arr (J8 (v9.1, v9.2.2) hF) ⟨rfl, rfl, rfl, trivial⟩ ⟨rfl, rfl, trivial⟩ rfl
  refine G.region ?_
  refine G.op1 (op_move (Ev.t 5 (bB r1)) rfl) rfl ⟨rfl, trivial⟩ trivial ?_
  refine G.op1 (op_not (Ev.t 17 (bB r1)) rfl) rfl ⟨rfl, trivial⟩ trivial ?_
  refine G.op1 (op_move (Ev.t 18 (bB (!r1))) rfl) rfl ⟨rfl, trivial⟩ trivial ?_
  refine ifS hF (fun hc29 hF => ?_) (fun hc29 hF => ?_)
  · refine G.known (t := 19) hc29 rfl ?_
    refine G.opN1 rfl rfl rfl rfl rfl ?_
    refine G.opN1 rfl rfl rfl rfl rfl ?_
    refine G.op1 (op_pickT (Ev.t 19 (bB true)) (Ev.c _ rfl) rfl) rfl ⟨rfl, trivial⟩ trivial ?_
    refine G.endOps ?_
    exact G.arr (J28 true hF) ⟨rfl, rfl, rfl, trivial⟩ ⟨rfl, trivial⟩ rfl
  · refine G.known (t := 19) hc29 rfl ?_
    refine G.opG1 (op_move (Ev.t 6 (bB r2)) rfl) rfl rfl rfl ⟨rfl, trivial⟩ trivial ?_
    refine G.opG1 (op_not (Ev.t 20 (bB r2)) rfl) rfl rfl rfl ⟨rfl, trivial⟩ trivial ?_
    refine G.op1 (op_pickF (Ev.t 19 (bB false)) (Ev.t 21 (bB (!r2))) rfl) rfl ⟨rfl, rfl, trivial⟩ trivial ?_
    refine G.endOps ?_
    exact G.arr (J28 (!r2) hF) ⟨rfl, rfl, rfl, trivial⟩ ⟨rfl, trivial⟩ rfl


set_option maxRecDepth 20000 in
set_option maxHeartbeats 2000000 in
theorem ct_law15_row (l_0 : (List Api_Dep)) (r : (List Api_Dep)) (hF : law15_row l_0 = some r) : Ct Try.prog 8 [.g (.d (.sl 3 (List.map encApi_Dep l_0)))] (.one (.d (.sl 3 (List.map encApi_Dep r)))) := by
  unfold law15_row at hF
  refine Ct.intro Try.func8 rfl Try.ntmps8 rfl rfl fun M w => ?_
  refine G.seq ?_
  refine G.region ?_
  refine G.op1 (op_assign (Ev.n 3) rfl) rfl trivial trivial ?_
  refine G.endOps ?_
  refine G.seq ?_
  refine G.region ?_
  refine G.op1 (op_assign (Ev.n 3) rfl) rfl trivial trivial ?_
  refine G.endOps ?_
  refine G.seq ?_
  refine G.seq ?_
  refine G.region ?_
  refine G.op1 (op_assign (Ev.c _ rfl) rfl) rfl trivial trivial ?_
  refine G.endOps ?_
  refine G.joinC (T := (List Api_Dep)) (fun y1 => ⟨[(3, .one (.g (.d (.sl 3 (List.map encApi_Dep y1)))))], []⟩) (fun y1 => law15_row_k1 y1 = some r) (fun y1 hF => ?_) (fun J2 => ?_)
  · unfold law15_row_k1 at hF
    refine G.seq ?_
    refine G.region ?_
    refine G.op1 (op_move (Ev.t 3 (.g (.d (.sl 3 (List.map encApi_Dep y1))))) rfl) rfl ⟨rfl, trivial⟩ trivial ?_
    refine G.op1 (op_assign (Ev.t 31 (.g (.d (.sl 3 (List.map encApi_Dep y1))))) rfl) rfl ⟨rfl, trivial⟩ trivial ?_
    refine G.endOps ?_
    cases hF
    exact G.ret1 Try.results8 (RVar.tmp 2 _) ⟨rfl, trivial⟩ trivial
  refine G.block ?_
  refine G.keep (sl' := [(0, .one (.g (.d (.sl 3 (List.map encApi_Dep l_0))))), (3, .one (.g (.d (.sl 3 (List.map encApi_Dep ([] : (List Api_Dep))))))), (4, .one (bI .i64 0))]) (hp' := []) ⟨rfl, rfl, rfl, trivial⟩ trivial rfl ?_
  refine G.loopF (fun (v3 : (List Api_Dep) × Int) => ⟨[(0, .one (.g (.d (.sl 3 (List.map encApi_Dep l_0))))), (3, .one (.g (.d (.sl 3 (List.map encApi_Dep v3.1))))), (4, .one (bI .i64 v3.2))], []⟩) hF rfl (fun K6 again5 v3 J4 hF => ?_)
  unfold law15_row_l2 at hF
  refine G.seq ?_
  refine G.seq ?_
  refine G.joinC (T := Bool) (fun y7 => ⟨[(0, .one (.g (.d (.sl 3 (List.map encApi_Dep l_0))))), (3, .one (.g (.d (.sl 3 (List.map encApi_Dep v3.1))))), (4, .one (bI .i64 v3.2)), (13, .one (bB y7))], []⟩) (fun y7 => law15_row_k3 l_0 again5 v3 y7 = some r) (fun y7 hF => ?_) (fun J15 => ?_)
  · unfold law15_row_k3 at hF
    refine ifS hF (fun hc8 hF => ?_) (fun hc8 hF => ?_)
    · refine G.cond rfl (fun _ => ?_) (fun hx => by rw [hc8] at hx; cases hx)
      refine G.skip ?_
      refine G.seq ?_
      refine G.block ?_
      refine G.seq ?_
      refine G.region ?_
      refine G.op1 (op_move (Ev.t 0 (.g (.d (.sl 3 (List.map encApi_Dep l_0))))) rfl) rfl ⟨rfl, trivial⟩ trivial ?_
      refine G.op1 (op_move (Ev.t 4 (bI .i64 v3.2)) rfl) rfl ⟨rfl, trivial⟩ trivial ?_
      obtain ⟨x9, hx9, hF⟩ := bindS hF
      refine G.op1 (op_index (cs := [.v (.string x9.Key), .v (.int .i64 x9.Stamp.N), .v (.int .i64 x9.Stamp.Site)]) Try.underlying22 ti46 (idx_ok hx9).1 (idx_get hx9 encApi_Dep) (Ev.t 16 (.g (.d (.sl 3 (List.map encApi_Dep l_0))))) (Ev.t 17 (bI .i64 v3.2)) rfl) rfl ⟨rfl, rfl, trivial⟩ trivial ?_
      refine G.op1 (op_loadAE (ds := [.v (.string x9.Key), .v (.int .i64 x9.Stamp.N), .v (.int .i64 x9.Stamp.Site)]) Try.underlying46 rfl ti46 rfl (Ev.t 18 (.ep [.v (.string x9.Key), .v (.int .i64 x9.Stamp.N), .v (.int .i64 x9.Stamp.Site)])) rfl) rfl ⟨rfl, trivial⟩ trivial ?_
      refine G.op2 (op_alloc (k := 1005) (cs := [bS ByteArray.empty, bI .i64 0, bI .i64 0]) ti46 ⟨.v _ rfl, .v _ rfl, .v _ rfl, trivial⟩ rfl) rfl trivial ⟨rfl, trivial⟩ ?_
      refine G.op3 (op_storeA (cs' := [bS x9.Key, bI .i64 x9.Stamp.N, bI .i64 x9.Stamp.Site]) ti46 rfl rfl (Ev.t 5 (.ptr 1005 0)) (Ev.t 19 (.g (.agg [.v (.string x9.Key), .v (.int .i64 x9.Stamp.N), .v (.int .i64 x9.Stamp.Site)])))) rfl ⟨rfl, rfl, trivial⟩ ⟨rfl, trivial⟩ ?_
      refine G.endOps ?_
      refine G.seq ?_
      refine G.seq ?_
      refine G.region ?_
      refine G.op1 (op_fieldP (off' := 0) Try.underlying46 rfl ti9 (by decide) rfl (Ev.t 5 (.ptr 1005 0)) rfl) rfl ⟨rfl, trivial⟩ trivial ?_
      refine G.op1 (op_load1P (c := bS x9.Key) Try.underlying9 rfl rfl (Ev.t 20 (.ptr 1005 0)) rfl) rfl ⟨rfl, trivial⟩ ⟨rfl, trivial⟩ ?_
      refine G.op1 (op_lenS Try.underlying9 (Ev.t 21 (bS x9.Key)) rfl) rfl ⟨rfl, trivial⟩ trivial ?_
      refine G.op1 (op_gtr (Ev.t 22 (bI .i64 (x9.Key.size : Int))) (Ev.c _ rfl) rfl) rfl ⟨rfl, trivial⟩ trivial ?_
      refine G.endOps ?_
      refine G.joinC (T := ByteArray) (fun y10 => ⟨[(0, .one (.g (.d (.sl 3 (List.map encApi_Dep l_0))))), (3, .one (.g (.d (.sl 3 (List.map encApi_Dep v3.1))))), (4, .one (bI .i64 v3.2)), (5, .one (.ptr 1005 0))], [(1005, some (.blk 46 [bS y10, bI .i64 x9.Stamp.N, bI .i64 x9.Stamp.Site]))]⟩) (fun y10 => law15_row_k4 again5 v3 x9 y10 = some r) (fun y10 hF => ?_) (fun J12 => ?_)
      · unfold law15_row_k4 at hF
        refine G.region ?_
        refine G.op1 (op_move (Ev.t 3 (.g (.d (.sl 3 (List.map encApi_Dep v3.1))))) rfl) rfl ⟨rfl, trivial⟩ trivial ?_
        refine G.op1 (op_loadAP (ds := [.v (.string y10), .v (.int .i64 x9.Stamp.N), .v (.int .i64 x9.Stamp.Site)]) Try.underlying46 rfl ti46 rfl (Ev.t 5 (.ptr 1005 0)) rfl) rfl ⟨rfl, trivial⟩ ⟨rfl, trivial⟩ ?_
        obtain ⟨r11, hr11, hF⟩ := bindS hF
        refine G.op1 (op_call (sv := .one (.g (.d (.sl 3 (List.map encApi_Dep r11))))) cf23 (ct_ref04_Add v3.1 (Api_Dep.mk y10 x9.Stamp) r11 hr11) rfl (EvL.cons (Ev.t 28 (.g (.d (.sl 3 (List.map encApi_Dep v3.1))))) (EvL.cons (Ev.t 29 (.g (.agg [.v (.string y10), .v (.int .i64 x9.Stamp.N), .v (.int .i64 x9.Stamp.Site)]))) EvL.nil)) rfl) rfl ⟨rfl, rfl, trivial⟩ trivial ?_
        refine G.op1 (op_assign (Ev.t 30 (.g (.d (.sl 3 (List.map encApi_Dep r11))))) rfl) rfl ⟨rfl, trivial⟩ trivial ?_
        refine G.endOps ?_
        refine G.endBlock ?_
        refine G.region ?_
        refine G.op1 (op_move (Ev.t 4 (bI .i64 v3.2)) rfl) rfl ⟨rfl, trivial⟩ trivial ?_
        refine G.op1 (op_add (Ev.t 14 (bI .i64 v3.2)) (Ev.c _ rfl) rfl) rfl ⟨rfl, trivial⟩ trivial ?_
        refine G.op1 (op_assign (Ev.t 15 (bI .i64 (IntKind.wrap .i64 (v3.2 + 1)))) rfl) rfl ⟨rfl, trivial⟩ trivial ?_
        refine G.endOps ?_
        exact G.arr (J4 (r11, IntKind.wrap .i64 (v3.2 + 1)) hF) ⟨rfl, rfl, rfl, trivial⟩ trivial rfl
      refine ifS hF (fun hc13 hF => ?_) (fun hc13 hF => ?_)
      · refine G.cond rfl (fun _ => ?_) (fun hx => by rw [hc13] at hx; cases hx)
        refine G.region ?_
        refine G.op1 (op_fieldP (off' := 0) Try.underlying46 rfl ti9 (by decide) rfl (Ev.t 5 (.ptr 1005 0)) rfl) rfl ⟨rfl, trivial⟩ trivial ?_
        refine G.op1 (op_load1P (c := bS x9.Key) Try.underlying9 rfl rfl (Ev.t 24 (.ptr 1005 0)) rfl) rfl ⟨rfl, trivial⟩ ⟨rfl, trivial⟩ ?_
        obtain ⟨s14, hs14, hF⟩ := bindS hF
        refine G.op1 (OpL.cast (op_sliceS (lo := none) (hi := some 12) Try.underlying9 (ssub_ok hs14).1 (ssub_ok hs14).2.1 (ssub_ok hs14).2.2.1 (Ev.t 25 (bS x9.Key)) EvO.none (EvO.some (Ev.c _ rfl)) rfl) (congrArg (fun s => bS s) (ssub_ok hs14).2.2.2)) rfl ⟨rfl, trivial⟩ trivial ?_
        refine G.op1 (op_fieldP (off' := 0) Try.underlying46 rfl ti9 (by decide) rfl (Ev.t 5 (.ptr 1005 0)) rfl) rfl ⟨rfl, trivial⟩ trivial ?_
        refine G.op3 (op_store1 (cs' := [bS s14, bI .i64 x9.Stamp.N, bI .i64 x9.Stamp.Site]) (c := bS s14) trivial ti9 rfl rfl (Ev.t 27 (.ptr 1005 0)) (Ev.t 26 (bS s14))) rfl ⟨rfl, rfl, trivial⟩ ⟨rfl, trivial⟩ ?_
        refine G.endOps ?_
        exact G.arr (J12 s14 hF) ⟨rfl, rfl, rfl, rfl, trivial⟩ ⟨rfl, trivial⟩ rfl
      · refine G.cond rfl (fun hx => by rw [hc13] at hx; cases hx) (fun _ => ?_)
        refine G.skip ?_
        exact G.arr (J12 x9.Key hF) ⟨rfl, rfl, rfl, rfl, trivial⟩ ⟨rfl, trivial⟩ rfl
    · refine G.cond rfl (fun hx => by rw [hc8] at hx; cases hx) (fun _ => ?_)
      refine G.exit ?_
      refine GX.c ?_
      refine GX.q ?_
      refine GX.bYes ?_
      exact G.arr (J2 v3.1 hF) ⟨rfl, trivial⟩ trivial rfl
  refine G.region ?_
  refine G.op1 (op_move (Ev.t 4 (bI .i64 v3.2)) rfl) rfl ⟨rfl, trivial⟩ trivial ?_
  refine G.op1 (op_move (Ev.t 0 (.g (.d (.sl 3 (List.map encApi_Dep l_0))))) rfl) rfl ⟨rfl, trivial⟩ trivial ?_
  refine G.op1 (OpL.cast (op_lenD Try.underlying22 (Ev.t 7 (.g (.d (.sl 3 (List.map encApi_Dep l_0))))) rfl) (by rw [List.length_map])) rfl ⟨rfl, trivial⟩ trivial ?_
  refine G.op1 (op_lss (Ev.t 6 (bI .i64 v3.2)) (Ev.t 8 (bI .i64 (l_0.length : Int))) rfl) rfl ⟨rfl, rfl, trivial⟩ trivial ?_
  refine G.op1 (op_move (Ev.t 9 (bB (decide (v3.2 < (l_0.length : Int))))) rfl) rfl ⟨rfl, trivial⟩ trivial ?_
  refine ifS hF (fun hc16 hF => ?_) (fun hc16 hF => ?_)
  · refine G.known (t := 10) hc16 rfl ?_
    refine G.opG1 (op_move (Ev.t 4 (bI .i64 v3.2)) rfl) rfl rfl rfl ⟨rfl, trivial⟩ trivial ?_
    refine G.opG1 (op_lss (Ev.t 11 (bI .i64 v3.2)) (Ev.c _ rfl) rfl) rfl rfl rfl ⟨rfl, trivial⟩ trivial ?_
    refine G.op1 (op_pickT (Ev.t 10 (bB true)) (Ev.t 12 (bB (decide (v3.2 < 6)))) rfl) rfl ⟨rfl, rfl, trivial⟩ trivial ?_
    refine G.endOps ?_
    exact G.arr (J15 (decide (v3.2 < 6)) hF) ⟨rfl, rfl, rfl, rfl, trivial⟩ trivial rfl
  · refine G.known (t := 10) hc16 rfl ?_
    refine G.opN1 rfl rfl rfl rfl rfl ?_
    refine G.opN1 rfl rfl rfl rfl rfl ?_
    refine G.op1 (op_pickF (Ev.t 10 (bB false)) (Ev.c _ rfl) rfl) rfl ⟨rfl, trivial⟩ trivial ?_
    refine G.endOps ?_
    exact G.arr (J15 false hF) ⟨rfl, rfl, rfl, rfl, trivial⟩ trivial rfl


set_option maxRecDepth 20000 in
set_option maxHeartbeats 2000000 in
theorem ct_law15_few (l_0 : (List Api_Version)) (r : (List Api_Version)) (hF : law15_few l_0 = some r) : Ct Try.prog 9 [.g (.d (.sl 6 (List.map encApi_Version l_0)))] (.one (.d (.sl 6 (List.map encApi_Version r)))) := by
  unfold law15_few at hF
  refine Ct.intro Try.func9 rfl Try.ntmps9 rfl rfl fun M w => ?_
  refine G.seq ?_
  refine G.region ?_
  refine G.op1 (op_assign (Ev.n 6) rfl) rfl trivial trivial ?_
  refine G.endOps ?_
  refine G.seq ?_
  refine G.region ?_
  refine G.op2 (op_assignRow (E := 36) (size := 6) (k := 2003) (ex := false) rfl rfl) rfl trivial ⟨rfl, trivial⟩ ?_
  refine G.endOps ?_
  refine G.seq ?_
  refine G.seq ?_
  refine G.region ?_
  refine G.op1 (op_assign (Ev.c _ rfl) rfl) rfl trivial trivial ?_
  refine G.endOps ?_
  refine G.joinC (T := (List Api_Version)) (fun y1 => ⟨[(3, .one (.own 2003 (List.map encApi_Version y1)))], [(2003, some (.row 36 6 (List.map encApi_Version y1) false))]⟩) (fun y1 => law15_few_k1 y1 = some r) (fun y1 hF => ?_) (fun J2 => ?_)
  · unfold law15_few_k1 at hF
    refine G.seq ?_
    refine G.region ?_
    refine G.op1 (op_move (Ev.t 3 (.own 2003 (List.map encApi_Version y1))) rfl) rfl ⟨rfl, trivial⟩ trivial ?_
    refine G.op1 (op_assign (Ev.t 36 (.own 2003 (List.map encApi_Version y1))) rfl) rfl ⟨rfl, trivial⟩ trivial ?_
    refine G.endOps ?_
    refine G.view (t := 2) rfl rfl ?_
    cases hF
    exact G.ret1 Try.results9 (RVar.tmp 2 _) ⟨rfl, trivial⟩ trivial
  refine G.block ?_
  refine G.keep (sl' := [(0, .one (.g (.d (.sl 6 (List.map encApi_Version l_0))))), (3, .one (.own 2003 (List.map encApi_Version ([] : (List Api_Version))))), (4, .one (bI .i64 0))]) (hp' := [(2003, some (.row 36 6 (List.map encApi_Version ([] : (List Api_Version))) false))]) ⟨rfl, rfl, rfl, trivial⟩ ⟨rfl, trivial⟩ rfl ?_
  refine G.loopF (fun (v3 : Int × (List Api_Version)) => ⟨[(0, .one (.g (.d (.sl 6 (List.map encApi_Version l_0))))), (3, .one (.own 2003 (List.map encApi_Version v3.2))), (4, .one (bI .i64 v3.1))], [(2003, some (.row 36 6 (List.map encApi_Version v3.2) false))]⟩) hF rfl (fun K6 again5 v3 J4 hF => ?_)
  unfold law15_few_l2 at hF
  refine G.seq ?_
  refine G.seq ?_
  refine G.joinC (T := Bool) (fun y7 => ⟨[(0, .one (.g (.d (.sl 6 (List.map encApi_Version l_0))))), (3, .one (.own 2003 (List.map encApi_Version v3.2))), (4, .one (bI .i64 v3.1)), (13, .one (bB y7))], [(2003, some (.row 36 6 (List.map encApi_Version v3.2) false))]⟩) (fun y7 => law15_few_k3 l_0 again5 v3 y7 = some r) (fun y7 hF => ?_) (fun J16 => ?_)
  · unfold law15_few_k3 at hF
    refine ifS hF (fun hc8 hF => ?_) (fun hc8 hF => ?_)
    · refine G.cond rfl (fun _ => ?_) (fun hx => by rw [hc8] at hx; cases hx)
      refine G.skip ?_
      refine G.seq ?_
      refine G.block ?_
      refine G.seq ?_
      refine G.region ?_
      refine G.op1 (op_move (Ev.t 0 (.g (.d (.sl 6 (List.map encApi_Version l_0))))) rfl) rfl ⟨rfl, trivial⟩ trivial ?_
      refine G.op1 (op_move (Ev.t 4 (bI .i64 v3.1)) rfl) rfl ⟨rfl, trivial⟩ trivial ?_
      obtain ⟨x9, hx9, hF⟩ := bindS hF
      refine G.op1 (op_index (cs := [.v (.string x9.Key), .v (.string x9.Value), .v (.bool x9.Gone), .v (.int .i64 x9.Stamp.N), .v (.int .i64 x9.Stamp.Site), .sl 3 (List.map encApi_Dep x9.Past)]) Try.underlying23 ti36 (idx_ok hx9).1 (idx_get hx9 encApi_Version) (Ev.t 16 (.g (.d (.sl 6 (List.map encApi_Version l_0))))) (Ev.t 17 (bI .i64 v3.1)) rfl) rfl ⟨rfl, rfl, trivial⟩ trivial ?_
      refine G.op1 (op_loadAE (ds := [.v (.string x9.Key), .v (.string x9.Value), .v (.bool x9.Gone), .v (.int .i64 x9.Stamp.N), .v (.int .i64 x9.Stamp.Site), .sl 3 (List.map encApi_Dep x9.Past)]) Try.underlying36 rfl ti36 rfl (Ev.t 18 (.ep [.v (.string x9.Key), .v (.string x9.Value), .v (.bool x9.Gone), .v (.int .i64 x9.Stamp.N), .v (.int .i64 x9.Stamp.Site), .sl 3 (List.map encApi_Dep x9.Past)])) rfl) rfl ⟨rfl, trivial⟩ trivial ?_
      refine G.op2 (op_alloc (k := 1005) (cs := [bS ByteArray.empty, bS ByteArray.empty, bB false, bI .i64 0, bI .i64 0, .g (.d (.sl 3 (List.map encApi_Dep ([] : (List Api_Dep)))))]) ti36 ⟨.v _ rfl, .v _ rfl, .v _ rfl, .v _ rfl, .v _ rfl, .n 3, trivial⟩ rfl) rfl trivial ⟨rfl, trivial⟩ ?_
      refine G.op3 (op_storeA (cs' := [bS x9.Key, bS x9.Value, bB x9.Gone, bI .i64 x9.Stamp.N, bI .i64 x9.Stamp.Site, .g (.d (.sl 3 (List.map encApi_Dep x9.Past)))]) ti36 rfl rfl (Ev.t 5 (.ptr 1005 0)) (Ev.t 19 (.g (.agg [.v (.string x9.Key), .v (.string x9.Value), .v (.bool x9.Gone), .v (.int .i64 x9.Stamp.N), .v (.int .i64 x9.Stamp.Site), .sl 3 (List.map encApi_Dep x9.Past)])))) rfl ⟨rfl, rfl, trivial⟩ ⟨rfl, trivial⟩ ?_
      refine G.endOps ?_
      refine G.seq ?_
      refine G.seq ?_
      refine G.region ?_
      refine G.op1 (op_fieldP (off' := 0) Try.underlying36 rfl ti9 (by decide) rfl (Ev.t 5 (.ptr 1005 0)) rfl) rfl ⟨rfl, trivial⟩ trivial ?_
      refine G.op1 (op_load1P (c := bS x9.Key) Try.underlying9 rfl rfl (Ev.t 20 (.ptr 1005 0)) rfl) rfl ⟨rfl, trivial⟩ ⟨rfl, trivial⟩ ?_
      refine G.op1 (op_lenS Try.underlying9 (Ev.t 21 (bS x9.Key)) rfl) rfl ⟨rfl, trivial⟩ trivial ?_
      refine G.op1 (op_gtr (Ev.t 22 (bI .i64 (x9.Key.size : Int))) (Ev.c _ rfl) rfl) rfl ⟨rfl, trivial⟩ trivial ?_
      refine G.endOps ?_
      refine G.joinC (T := ByteArray) (fun y10 => ⟨[(0, .one (.g (.d (.sl 6 (List.map encApi_Version l_0))))), (3, .one (.own 2003 (List.map encApi_Version v3.2))), (4, .one (bI .i64 v3.1)), (5, .one (.ptr 1005 0))], [(1005, some (.blk 36 [bS y10, bS x9.Value, bB x9.Gone, bI .i64 x9.Stamp.N, bI .i64 x9.Stamp.Site, .g (.d (.sl 3 (List.map encApi_Dep x9.Past)))])), (2003, some (.row 36 6 (List.map encApi_Version v3.2) false))]⟩) (fun y10 => law15_few_k4 again5 v3 x9 y10 = some r) (fun y10 hF => ?_) (fun J13 => ?_)
      · unfold law15_few_k4 at hF
        refine G.seq ?_
        refine G.region ?_
        refine G.op1 (op_fieldP (off' := 5) Try.underlying36 rfl ti22 (by decide) rfl (Ev.t 5 (.ptr 1005 0)) rfl) rfl ⟨rfl, trivial⟩ trivial ?_
        refine G.op1 (op_load1P (c := .g (.d (.sl 3 (List.map encApi_Dep x9.Past)))) Try.underlying22 rfl rfl (Ev.t 28 (.ptr 1005 5)) rfl) rfl ⟨rfl, trivial⟩ ⟨rfl, trivial⟩ ?_
        obtain ⟨r11, hr11, hF⟩ := bindS hF
        refine G.op1 (op_call (sv := .one (.g (.d (.sl 3 (List.map encApi_Dep r11))))) cf8 (ct_law15_row x9.Past r11 hr11) rfl (EvL.cons (Ev.t 29 (.g (.d (.sl 3 (List.map encApi_Dep x9.Past))))) EvL.nil) rfl) rfl ⟨rfl, trivial⟩ trivial ?_
        refine G.op1 (op_fieldP (off' := 5) Try.underlying36 rfl ti22 (by decide) rfl (Ev.t 5 (.ptr 1005 0)) rfl) rfl ⟨rfl, trivial⟩ trivial ?_
        refine G.op3 (op_store1 (cs' := [bS y10, bS x9.Value, bB x9.Gone, bI .i64 x9.Stamp.N, bI .i64 x9.Stamp.Site, .g (.d (.sl 3 (List.map encApi_Dep r11)))]) (c := .g (.d (.sl 3 (List.map encApi_Dep r11)))) trivial ti22 rfl rfl (Ev.t 31 (.ptr 1005 5)) (Ev.t 30 (.g (.d (.sl 3 (List.map encApi_Dep r11)))))) rfl ⟨rfl, rfl, trivial⟩ ⟨rfl, trivial⟩ ?_
        refine G.endOps ?_
        refine G.region ?_
        refine G.op1 (op_move (Ev.t 3 (.own 2003 (List.map encApi_Version v3.2))) rfl) rfl ⟨rfl, trivial⟩ trivial ?_
        refine G.op1 (op_loadAP (ds := [.v (.string y10), .v (.string x9.Value), .v (.bool x9.Gone), .v (.int .i64 x9.Stamp.N), .v (.int .i64 x9.Stamp.Site), .sl 3 (List.map encApi_Dep r11)]) Try.underlying36 rfl ti36 rfl (Ev.t 5 (.ptr 1005 0)) rfl) rfl ⟨rfl, trivial⟩ ⟨rfl, trivial⟩ ?_
        refine G.op1 (op_buildSlice (es := List.map encApi_Version [(Api_Version.mk y10 x9.Value x9.Gone x9.Stamp r11)]) Try.underlying23 ti36 rfl rfl (EvP.cons (Ev.t 33 (.g (.agg [.v (.string y10), .v (.string x9.Value), .v (.bool x9.Gone), .v (.int .i64 x9.Stamp.N), .v (.int .i64 x9.Stamp.Site), .sl 3 (List.map encApi_Dep r11)]))) EvP.nil) rfl rfl (by simp [encApi_Version]) rfl) rfl ⟨rfl, trivial⟩ trivial ?_
        obtain ⟨l12, hl12, hF⟩ := bindS hF
        refine G.op2 (op_appendO Try.underlying23 ti36 rfl (app_map hl12 encApi_Version) (app_b1 hl12 encApi_Version) (app_b2 hl12 encApi_Version) (Ev.t 32 (.own 2003 (List.map encApi_Version v3.2))) (Ev.t 34 (.g (.d (.sl 6 (List.map encApi_Version ([(Api_Version.mk y10 x9.Value x9.Gone x9.Stamp r11)])))))) rfl) rfl ⟨rfl, rfl, trivial⟩ ⟨rfl, trivial⟩ ?_
        refine G.op1 (op_assign (Ev.t 35 (.own 2003 (List.map encApi_Version l12))) rfl) rfl ⟨rfl, trivial⟩ trivial ?_
        refine G.endOps ?_
        refine G.endBlock ?_
        refine G.region ?_
        refine G.op1 (op_move (Ev.t 4 (bI .i64 v3.1)) rfl) rfl ⟨rfl, trivial⟩ trivial ?_
        refine G.op1 (op_add (Ev.t 14 (bI .i64 v3.1)) (Ev.c _ rfl) rfl) rfl ⟨rfl, trivial⟩ trivial ?_
        refine G.op1 (op_assign (Ev.t 15 (bI .i64 (IntKind.wrap .i64 (v3.1 + 1)))) rfl) rfl ⟨rfl, trivial⟩ trivial ?_
        refine G.endOps ?_
        exact G.arr (J4 (IntKind.wrap .i64 (v3.1 + 1), l12) hF) ⟨rfl, rfl, rfl, trivial⟩ ⟨rfl, trivial⟩ rfl
      refine ifS hF (fun hc14 hF => ?_) (fun hc14 hF => ?_)
      · refine G.cond rfl (fun _ => ?_) (fun hx => by rw [hc14] at hx; cases hx)
        refine G.region ?_
        refine G.op1 (op_fieldP (off' := 0) Try.underlying36 rfl ti9 (by decide) rfl (Ev.t 5 (.ptr 1005 0)) rfl) rfl ⟨rfl, trivial⟩ trivial ?_
        refine G.op1 (op_load1P (c := bS x9.Key) Try.underlying9 rfl rfl (Ev.t 24 (.ptr 1005 0)) rfl) rfl ⟨rfl, trivial⟩ ⟨rfl, trivial⟩ ?_
        obtain ⟨s15, hs15, hF⟩ := bindS hF
        refine G.op1 (OpL.cast (op_sliceS (lo := none) (hi := some 12) Try.underlying9 (ssub_ok hs15).1 (ssub_ok hs15).2.1 (ssub_ok hs15).2.2.1 (Ev.t 25 (bS x9.Key)) EvO.none (EvO.some (Ev.c _ rfl)) rfl) (congrArg (fun s => bS s) (ssub_ok hs15).2.2.2)) rfl ⟨rfl, trivial⟩ trivial ?_
        refine G.op1 (op_fieldP (off' := 0) Try.underlying36 rfl ti9 (by decide) rfl (Ev.t 5 (.ptr 1005 0)) rfl) rfl ⟨rfl, trivial⟩ trivial ?_
        refine G.op3 (op_store1 (cs' := [bS s15, bS x9.Value, bB x9.Gone, bI .i64 x9.Stamp.N, bI .i64 x9.Stamp.Site, .g (.d (.sl 3 (List.map encApi_Dep x9.Past)))]) (c := bS s15) trivial ti9 rfl rfl (Ev.t 27 (.ptr 1005 0)) (Ev.t 26 (bS s15))) rfl ⟨rfl, rfl, trivial⟩ ⟨rfl, trivial⟩ ?_
        refine G.endOps ?_
        exact G.arr (J13 s15 hF) ⟨rfl, rfl, rfl, rfl, trivial⟩ ⟨rfl, rfl, trivial⟩ rfl
      · refine G.cond rfl (fun hx => by rw [hc14] at hx; cases hx) (fun _ => ?_)
        refine G.skip ?_
        exact G.arr (J13 x9.Key hF) ⟨rfl, rfl, rfl, rfl, trivial⟩ ⟨rfl, rfl, trivial⟩ rfl
    · refine G.cond rfl (fun hx => by rw [hc8] at hx; cases hx) (fun _ => ?_)
      refine G.exit ?_
      refine GX.c ?_
      refine GX.q ?_
      refine GX.bYes ?_
      exact G.arr (J2 v3.2 hF) ⟨rfl, trivial⟩ ⟨rfl, trivial⟩ rfl
  refine G.region ?_
  refine G.op1 (op_move (Ev.t 4 (bI .i64 v3.1)) rfl) rfl ⟨rfl, trivial⟩ trivial ?_
  refine G.op1 (op_move (Ev.t 0 (.g (.d (.sl 6 (List.map encApi_Version l_0))))) rfl) rfl ⟨rfl, trivial⟩ trivial ?_
  refine G.op1 (OpL.cast (op_lenD Try.underlying23 (Ev.t 7 (.g (.d (.sl 6 (List.map encApi_Version l_0))))) rfl) (by rw [List.length_map])) rfl ⟨rfl, trivial⟩ trivial ?_
  refine G.op1 (op_lss (Ev.t 6 (bI .i64 v3.1)) (Ev.t 8 (bI .i64 (l_0.length : Int))) rfl) rfl ⟨rfl, rfl, trivial⟩ trivial ?_
  refine G.op1 (op_move (Ev.t 9 (bB (decide (v3.1 < (l_0.length : Int))))) rfl) rfl ⟨rfl, trivial⟩ trivial ?_
  refine ifS hF (fun hc17 hF => ?_) (fun hc17 hF => ?_)
  · refine G.known (t := 10) hc17 rfl ?_
    refine G.opG1 (op_move (Ev.t 4 (bI .i64 v3.1)) rfl) rfl rfl rfl ⟨rfl, trivial⟩ trivial ?_
    refine G.opG1 (op_lss (Ev.t 11 (bI .i64 v3.1)) (Ev.c _ rfl) rfl) rfl rfl rfl ⟨rfl, trivial⟩ trivial ?_
    refine G.op1 (op_pickT (Ev.t 10 (bB true)) (Ev.t 12 (bB (decide (v3.1 < 4)))) rfl) rfl ⟨rfl, rfl, trivial⟩ trivial ?_
    refine G.endOps ?_
    exact G.arr (J16 (decide (v3.1 < 4)) hF) ⟨rfl, rfl, rfl, rfl, trivial⟩ ⟨rfl, trivial⟩ rfl
  · refine G.known (t := 10) hc17 rfl ?_
    refine G.opN1 rfl rfl rfl rfl rfl ?_
    refine G.opN1 rfl rfl rfl rfl rfl ?_
    refine G.op1 (op_pickF (Ev.t 10 (bB false)) (Ev.c _ rfl) rfl) rfl ⟨rfl, trivial⟩ trivial ?_
    refine G.endOps ?_
    exact G.arr (J16 false hF) ⟨rfl, rfl, rfl, rfl, trivial⟩ ⟨rfl, trivial⟩ rfl


set_option maxRecDepth 20000 in
set_option maxHeartbeats 2000000 in
theorem ct_ref04_Same (p_0 : (List Api_Dep)) (q_1 : (List Api_Dep)) (r : Bool) (hF : ref04_Same p_0 q_1 = some r) : Ct Try.prog 22 [.g (.d (.sl 3 (List.map encApi_Dep p_0))), .g (.d (.sl 3 (List.map encApi_Dep q_1)))] (.one (.d (.v (.bool r)))) := by
  unfold ref04_Same at hF
  refine Ct.intro Try.func22 rfl Try.ntmps22 rfl rfl fun M w => ?_
  refine G.seq ?_
  refine G.region ?_
  refine G.op1 (op_assign (Ev.c _ rfl) rfl) rfl trivial trivial ?_
  refine G.endOps ?_
  refine G.seq ?_
  refine G.seq ?_
  refine G.region ?_
  refine G.op1 (op_move (Ev.t 0 (.g (.d (.sl 3 (List.map encApi_Dep p_0))))) rfl) rfl ⟨rfl, trivial⟩ trivial ?_
  refine G.op1 (OpL.cast (op_lenD Try.underlying22 (Ev.t 6 (.g (.d (.sl 3 (List.map encApi_Dep p_0))))) rfl) (by rw [List.length_map])) rfl ⟨rfl, trivial⟩ trivial ?_
  refine G.op1 (op_move (Ev.t 1 (.g (.d (.sl 3 (List.map encApi_Dep q_1))))) rfl) rfl ⟨rfl, trivial⟩ trivial ?_
  refine G.op1 (OpL.cast (op_lenD Try.underlying22 (Ev.t 8 (.g (.d (.sl 3 (List.map encApi_Dep q_1))))) rfl) (by rw [List.length_map])) rfl ⟨rfl, trivial⟩ trivial ?_
  refine G.op1 (op_neI (Ev.t 7 (bI .i64 (p_0.length : Int))) (Ev.t 9 (bI .i64 (q_1.length : Int))) rfl) rfl ⟨rfl, rfl, trivial⟩ trivial ?_
  refine G.endOps ?_
  refine ifS hF (fun hc1 hF => ?_) (fun hc1 hF => ?_)
  · refine G.cond rfl (fun _ => ?_) (fun hx => by rw [hc1] at hx; cases hx)
    refine G.seq ?_
    refine G.region ?_
    refine G.op1 (op_assign (Ev.c _ rfl) rfl) rfl trivial trivial ?_
    refine G.endOps ?_
    cases hF
    exact G.ret1 Try.results22 (RVar.tmp 4 _) ⟨rfl, trivial⟩ trivial
  · refine G.cond rfl (fun hx => by rw [hc1] at hx; cases hx) (fun _ => ?_)
    refine G.skip ?_
    refine G.seq ?_
    refine G.seq ?_
    refine G.region ?_
    refine G.op1 (op_assign (Ev.c _ rfl) rfl) rfl trivial trivial ?_
    refine G.endOps ?_
    refine G.joinC (T := Unit) (fun y2 => ⟨[], []⟩) (fun y2 => ref04_Same_k1 y2 = some r) (fun y2 hF => ?_) (fun J3 => ?_)
    · unfold ref04_Same_k1 at hF
      refine G.seq ?_
      refine G.region ?_
      refine G.op1 (op_assign (Ev.c _ rfl) rfl) rfl trivial trivial ?_
      refine G.endOps ?_
      cases hF
      exact G.ret1 Try.results22 (RVar.tmp 4 _) ⟨rfl, trivial⟩ trivial
    refine G.block ?_
    refine G.keep (sl' := [(0, .one (.g (.d (.sl 3 (List.map encApi_Dep p_0))))), (1, .one (.g (.d (.sl 3 (List.map encApi_Dep q_1))))), (5, .one (bI .i64 0))]) (hp' := []) ⟨rfl, rfl, rfl, trivial⟩ trivial rfl ?_
    refine G.loopF (fun (v4 : Int) => ⟨[(0, .one (.g (.d (.sl 3 (List.map encApi_Dep p_0))))), (1, .one (.g (.d (.sl 3 (List.map encApi_Dep q_1))))), (5, .one (bI .i64 v4))], []⟩) hF rfl (fun K7 again6 v4 J5 hF => ?_)
    unfold ref04_Same_l2 at hF
    refine G.seq ?_
    refine G.seq ?_
    refine G.region ?_
    refine G.op1 (op_move (Ev.t 5 (bI .i64 v4)) rfl) rfl ⟨rfl, trivial⟩ trivial ?_
    refine G.op1 (op_move (Ev.t 0 (.g (.d (.sl 3 (List.map encApi_Dep p_0))))) rfl) rfl ⟨rfl, trivial⟩ trivial ?_
    refine G.op1 (OpL.cast (op_lenD Try.underlying22 (Ev.t 12 (.g (.d (.sl 3 (List.map encApi_Dep p_0))))) rfl) (by rw [List.length_map])) rfl ⟨rfl, trivial⟩ trivial ?_
    refine G.op1 (op_lss (Ev.t 11 (bI .i64 v4)) (Ev.t 13 (bI .i64 (p_0.length : Int))) rfl) rfl ⟨rfl, rfl, trivial⟩ trivial ?_
    refine G.endOps ?_
    refine ifS hF (fun hc8 hF => ?_) (fun hc8 hF => ?_)
    · refine G.cond rfl (fun _ => ?_) (fun hx => by rw [hc8] at hx; cases hx)
      refine G.skip ?_
      refine G.seq ?_
      refine G.block ?_
      refine G.seq ?_
      obtain ⟨x9, hx9, hF⟩ := bindS hF
      obtain ⟨x10, hx10, hF⟩ := bindS hF
      refine G.drawn (effs := [⟨[(0, .one (.g (.d (.sl 3 (List.map encApi_Dep p_0)))))], [], [(17, .one (.g (.d (.sl 3 (List.map encApi_Dep p_0)))))], []⟩, ⟨[(5, .one (bI .i64 v4))], [], [(18, .one (bI .i64 v4))], []⟩, ⟨[(17, .one (.g (.d (.sl 3 (List.map encApi_Dep p_0))))), (18, .one (bI .i64 v4))], [], [(19, .one (.ep [.v (.string x9.Key), .v (.int .i64 x9.Stamp.N), .v (.int .i64 x9.Stamp.Site)]))], []⟩, ⟨[(19, .one (.ep [.v (.string x9.Key), .v (.int .i64 x9.Stamp.N), .v (.int .i64 x9.Stamp.Site)]))], [], [(20, .one (.g (.agg [.v (.string x9.Key), .v (.int .i64 x9.Stamp.N), .v (.int .i64 x9.Stamp.Site)])))], []⟩, ⟨[(1, .one (.g (.d (.sl 3 (List.map encApi_Dep q_1)))))], [], [(21, .one (.g (.d (.sl 3 (List.map encApi_Dep q_1)))))], []⟩, ⟨[(5, .one (bI .i64 v4))], [], [(22, .one (bI .i64 v4))], []⟩, ⟨[(21, .one (.g (.d (.sl 3 (List.map encApi_Dep q_1))))), (22, .one (bI .i64 v4))], [], [(23, .one (.ep [.v (.string x10.Key), .v (.int .i64 x10.Stamp.N), .v (.int .i64 x10.Stamp.Site)]))], []⟩, ⟨[(23, .one (.ep [.v (.string x10.Key), .v (.int .i64 x10.Stamp.N), .v (.int .i64 x10.Stamp.Site)]))], [], [(24, .one (.g (.agg [.v (.string x10.Key), .v (.int .i64 x10.Stamp.N), .v (.int .i64 x10.Stamp.Site)])))], []⟩, ⟨[(20, .one (.g (.agg [.v (.string x9.Key), .v (.int .i64 x9.Stamp.N), .v (.int .i64 x9.Stamp.Site)]))), (24, .one (.g (.agg [.v (.string x10.Key), .v (.int .i64 x10.Stamp.N), .v (.int .i64 x10.Stamp.Site)])))], [], [(25, .one (bB (!(decide (x9.Key = x10.Key) && decide (x9.Stamp.N = x10.Stamp.N) && decide (x9.Stamp.Site = x10.Stamp.Site)))))], []⟩]) (deps := [[], [], [0, 1], [0, 1, 2], [], [], [4, 5], [4, 5, 6], [0, 1, 2, 3, 4, 5, 6, 7]]) (sl' := [(0, .one (.g (.d (.sl 3 (List.map encApi_Dep p_0))))), (1, .one (.g (.d (.sl 3 (List.map encApi_Dep q_1))))), (5, .one (bI .i64 v4)), (25, .one (bB (!(decide (x9.Key = x10.Key) && decide (x9.Stamp.N = x10.Stamp.N) && decide (x9.Stamp.Site = x10.Stamp.Site)))))]) (hp' := []) follows rfl rfl rfl ⟨⟨rfl, trivial⟩, trivial, ⟨rfl, trivial⟩, trivial, ⟨rfl, rfl, trivial⟩, trivial, ⟨rfl, trivial⟩, trivial, ⟨rfl, trivial⟩, trivial, ⟨rfl, trivial⟩, trivial, ⟨rfl, rfl, trivial⟩, trivial, ⟨rfl, trivial⟩, trivial, ⟨rfl, rfl, trivial⟩, trivial, trivial⟩ ⟨OpW.plain (op_move (Ev.t 0 (.g (.d (.sl 3 (List.map encApi_Dep p_0))))) rfl) rfl rfl, OpW.plain (op_move (Ev.t 5 (bI .i64 v4)) rfl) rfl rfl, OpW.plain (op_index (cs := [.v (.string x9.Key), .v (.int .i64 x9.Stamp.N), .v (.int .i64 x9.Stamp.Site)]) Try.underlying22 ti46 (idx_ok hx9).1 (idx_get hx9 encApi_Dep) (Ev.t 17 (.g (.d (.sl 3 (List.map encApi_Dep p_0))))) (Ev.t 18 (bI .i64 v4)) rfl) rfl rfl, OpW.plain (op_loadAE (ds := [.v (.string x9.Key), .v (.int .i64 x9.Stamp.N), .v (.int .i64 x9.Stamp.Site)]) Try.underlying46 rfl ti46 rfl (Ev.t 19 (.ep [.v (.string x9.Key), .v (.int .i64 x9.Stamp.N), .v (.int .i64 x9.Stamp.Site)])) rfl) rfl rfl, OpW.plain (op_move (Ev.t 1 (.g (.d (.sl 3 (List.map encApi_Dep q_1))))) rfl) rfl rfl, OpW.plain (op_move (Ev.t 5 (bI .i64 v4)) rfl) rfl rfl, OpW.plain (op_index (cs := [.v (.string x10.Key), .v (.int .i64 x10.Stamp.N), .v (.int .i64 x10.Stamp.Site)]) Try.underlying22 ti46 (idx_ok hx10).1 (idx_get hx10 encApi_Dep) (Ev.t 21 (.g (.d (.sl 3 (List.map encApi_Dep q_1))))) (Ev.t 22 (bI .i64 v4)) rfl) rfl rfl, OpW.plain (op_loadAE (ds := [.v (.string x10.Key), .v (.int .i64 x10.Stamp.N), .v (.int .i64 x10.Stamp.Site)]) Try.underlying46 rfl ti46 rfl (Ev.t 23 (.ep [.v (.string x10.Key), .v (.int .i64 x10.Stamp.N), .v (.int .i64 x10.Stamp.Site)])) rfl) rfl rfl, OpW.plain (op_eqA (us := [.string x9.Key, .int .i64 x9.Stamp.N, .int .i64 x9.Stamp.Site]) (vs := [.string x10.Key, .int .i64 x10.Stamp.N, .int .i64 x10.Stamp.Site]) rfl rfl Try.eqGuardType46 (fun w => ne46 x9.Key x9.Stamp.N x9.Stamp.Site x10.Key x10.Stamp.N x10.Stamp.Site w) (Ev.t 20 (.g (.agg [.v (.string x9.Key), .v (.int .i64 x9.Stamp.N), .v (.int .i64 x9.Stamp.Site)]))) (Ev.t 24 (.g (.agg [.v (.string x10.Key), .v (.int .i64 x10.Stamp.N), .v (.int .i64 x10.Stamp.Site)]))) rfl) rfl rfl, trivial⟩ ⟨rfl, rfl, rfl, rfl, trivial⟩ trivial rfl ?_
      refine ifS hF (fun hc11 hF => ?_) (fun hc11 hF => ?_)
      · refine G.cond rfl (fun _ => ?_) (fun hx => by rw [hc11] at hx; cases hx)
        refine G.seq ?_
        refine G.region ?_
        refine G.op1 (op_assign (Ev.c _ rfl) rfl) rfl trivial trivial ?_
        refine G.endOps ?_
        cases hF
        exact G.ret1 Try.results22 (RVar.tmp 4 _) ⟨rfl, trivial⟩ trivial
      · refine G.cond rfl (fun hx => by rw [hc11] at hx; cases hx) (fun _ => ?_)
        refine G.skip ?_
        refine G.endBlock ?_
        refine G.region ?_
        refine G.op1 (op_move (Ev.t 5 (bI .i64 v4)) rfl) rfl ⟨rfl, trivial⟩ trivial ?_
        refine G.op1 (op_add (Ev.t 15 (bI .i64 v4)) (Ev.c _ rfl) rfl) rfl ⟨rfl, trivial⟩ trivial ?_
        refine G.op1 (op_assign (Ev.t 16 (bI .i64 (IntKind.wrap .i64 (v4 + 1)))) rfl) rfl ⟨rfl, trivial⟩ trivial ?_
        refine G.endOps ?_
        exact G.arr (J5 (IntKind.wrap .i64 (v4 + 1)) hF) ⟨rfl, rfl, rfl, trivial⟩ trivial rfl
    · refine G.cond rfl (fun hx => by rw [hc8] at hx; cases hx) (fun _ => ?_)
      refine G.exit ?_
      refine GX.c ?_
      refine GX.q ?_
      refine GX.bYes ?_
      exact G.arr (J3 () hF) trivial trivial rfl


set_option maxRecDepth 20000 in
set_option maxHeartbeats 2000000 in
theorem ct_ref15_Same (a_0 : Api_Session) (b_1 : Api_Session) (r : Bool) (hF : ref15_Same a_0 b_1 = some r) : Ct Try.prog 11 [.g (.agg (encApi_Session a_0)), .g (.agg (encApi_Session b_1))] (.one (.d (.v (.bool r)))) := by
  unfold ref15_Same at hF
  refine Ct.intro Try.func11 rfl Try.ntmps11 rfl rfl fun M w => ?_
  refine G.seq ?_
  refine G.region ?_
  refine G.op2 (op_boxA (k := 1002) (Ev.t 0 (.g (.agg [.v (.int .i64 a_0.Site), .sl 3 (List.map encApi_Dep a_0.Past)]))) rfl) rfl ⟨rfl, trivial⟩ ⟨rfl, trivial⟩ ?_
  refine G.op2 (op_boxA (k := 1003) (Ev.t 1 (.g (.agg [.v (.int .i64 b_1.Site), .sl 3 (List.map encApi_Dep b_1.Past)]))) rfl) rfl ⟨rfl, trivial⟩ ⟨rfl, trivial⟩ ?_
  refine G.op1 (op_assign (Ev.c _ rfl) rfl) rfl trivial trivial ?_
  refine G.endOps ?_
  refine G.seq ?_
  refine G.region ?_
  refine G.op1 (op_fieldP (off' := 1) Try.underlying30 rfl ti22 (by decide) rfl (Ev.t 2 (.ptr 1002 0)) rfl) rfl ⟨rfl, trivial⟩ trivial ?_
  refine G.op1 (op_load1P (c := .g (.d (.sl 3 (List.map encApi_Dep a_0.Past)))) Try.underlying22 rfl rfl (Ev.t 6 (.ptr 1002 1)) rfl) rfl ⟨rfl, trivial⟩ ⟨rfl, trivial⟩ ?_
  refine G.op1 (op_fieldP (off' := 1) Try.underlying30 rfl ti22 (by decide) rfl (Ev.t 3 (.ptr 1003 0)) rfl) rfl ⟨rfl, trivial⟩ trivial ?_
  refine G.op1 (op_load1P (c := .g (.d (.sl 3 (List.map encApi_Dep b_1.Past)))) Try.underlying22 rfl rfl (Ev.t 8 (.ptr 1003 1)) rfl) rfl ⟨rfl, trivial⟩ ⟨rfl, trivial⟩ ?_
  obtain ⟨r1, hr1, hF⟩ := bindS hF
  refine G.op1 (op_callQ (sv := .one (bB r1)) cf22 (ct_ref04_Same a_0.Past b_1.Past r1 hr1) rfl rfl (EvQL.cons (EvQ.g (Ev.t 7 (.g (.d (.sl 3 (List.map encApi_Dep a_0.Past)))))) (EvQL.cons (EvQ.g (Ev.t 9 (.g (.d (.sl 3 (List.map encApi_Dep b_1.Past)))))) EvQL.nil)) rfl) rfl ⟨rfl, rfl, trivial⟩ trivial ?_
  refine G.op1 (op_assign (Ev.t 10 (bB r1)) rfl) rfl ⟨rfl, trivial⟩ trivial ?_
  refine G.endOps ?_
  refine G.seq ?_
  refine G.region ?_
  refine G.op1 (op_move (Ev.t 5 (bB r1)) rfl) rfl ⟨rfl, trivial⟩ trivial ?_
  refine G.op1 (op_move (Ev.t 11 (bB r1)) rfl) rfl ⟨rfl, trivial⟩ trivial ?_
  refine ifS hF (fun hc2 hF => ?_) (fun hc2 hF => ?_)
  · refine G.known (t := 12) hc2 rfl ?_
    refine G.opG1 (op_fieldP (off' := 0) Try.underlying30 rfl ti3 (by decide) rfl (Ev.t 2 (.ptr 1002 0)) rfl) rfl rfl rfl ⟨rfl, trivial⟩ trivial ?_
    refine G.opG1 (op_load1P (c := bI .i64 a_0.Site) Try.underlying3 rfl rfl (Ev.t 13 (.ptr 1002 0)) rfl) rfl rfl rfl ⟨rfl, trivial⟩ ⟨rfl, trivial⟩ ?_
    refine G.opG1 (op_fieldP (off' := 0) Try.underlying30 rfl ti3 (by decide) rfl (Ev.t 3 (.ptr 1003 0)) rfl) rfl rfl rfl ⟨rfl, trivial⟩ trivial ?_
    refine G.opG1 (op_load1P (c := bI .i64 b_1.Site) Try.underlying3 rfl rfl (Ev.t 15 (.ptr 1003 0)) rfl) rfl rfl rfl ⟨rfl, trivial⟩ ⟨rfl, trivial⟩ ?_
    refine G.opG1 (op_eqI (Ev.t 14 (bI .i64 a_0.Site)) (Ev.t 16 (bI .i64 b_1.Site)) rfl) rfl rfl rfl ⟨rfl, rfl, trivial⟩ trivial ?_
    refine G.op1 (op_pickT (Ev.t 12 (bB true)) (Ev.t 17 (bB (decide (a_0.Site = b_1.Site)))) rfl) rfl ⟨rfl, rfl, trivial⟩ trivial ?_
    refine G.op1 (op_assign (Ev.t 18 (bB (decide (a_0.Site = b_1.Site)))) rfl) rfl ⟨rfl, trivial⟩ trivial ?_
    refine G.endOps ?_
    cases hF
    exact G.ret1 Try.results11 (RVar.tmp 4 _) ⟨rfl, trivial⟩ trivial
  · refine G.known (t := 12) hc2 rfl ?_
    refine G.opN1 rfl rfl rfl rfl rfl ?_
    refine G.opN1 rfl rfl rfl rfl rfl ?_
    refine G.opN1 rfl rfl rfl rfl rfl ?_
    refine G.opN1 rfl rfl rfl rfl rfl ?_
    refine G.opN1 rfl rfl rfl rfl rfl ?_
    refine G.op1 (op_pickF (Ev.t 12 (bB false)) (Ev.c _ rfl) rfl) rfl ⟨rfl, trivial⟩ trivial ?_
    refine G.op1 (op_assign (Ev.t 18 (bB false)) rfl) rfl ⟨rfl, trivial⟩ trivial ?_
    refine G.endOps ?_
    cases hF
    exact G.ret1 Try.results11 (RVar.tmp 4 _) ⟨rfl, trivial⟩ trivial


set_option maxRecDepth 20000 in
set_option maxHeartbeats 2000000 in
theorem ct_law15_ClientOrder (q_0 : Law15_Ask) (r : Bool) (hF : law15_ClientOrder q_0 = some r) : Ct Try.prog 3 [.g (.agg (encLaw15_Ask q_0))] (.one (.d (.v (.bool r)))) := by
  unfold law15_ClientOrder at hF
  refine Ct.intro Try.func3 rfl Try.ntmps3 rfl rfl fun M w => ?_
  refine G.seq ?_
  refine G.region ?_
  refine G.op2 (op_boxA (k := 1001) (Ev.t 0 (.g (.agg [.sl 3 (List.map encApi_Dep q_0.Past), .sl 3 (List.map encApi_Dep q_0.Have), .sl 6 (List.map encApi_Version q_0.Versions), .sl 2 (List.map encApi_Range q_0.Own)]))) rfl) rfl ⟨rfl, trivial⟩ ⟨rfl, trivial⟩ ?_
  refine G.op1 (op_assign (Ev.c _ rfl) rfl) rfl trivial trivial ?_
  refine G.endOps ?_
  refine G.seq ?_
  refine G.region ?_
  obtain ⟨r1, hr1, hF⟩ := bindS hF
  refine G.op1 (op_callQ (sv := .one (bB r1)) cf7 (ct_law15_awake r1 hr1) rfl rfl EvQL.nil rfl) rfl trivial trivial ?_
  refine G.op1 (op_assign (Ev.t 12 (bB r1)) rfl) rfl ⟨rfl, trivial⟩ trivial ?_
  refine G.endOps ?_
  refine G.seq ?_
  refine G.region ?_
  refine G.op1 (op_fieldP (off' := 0) Try.underlying26 rfl ti22 (by decide) rfl (Ev.t 1 (.ptr 1001 0)) rfl) rfl ⟨rfl, trivial⟩ trivial ?_
  refine G.op1 (op_load1P (c := .g (.d (.sl 3 (List.map encApi_Dep q_0.Past)))) Try.underlying22 rfl rfl (Ev.t 13 (.ptr 1001 0)) rfl) rfl ⟨rfl, trivial⟩ ⟨rfl, trivial⟩ ?_
  obtain ⟨r2, hr2, hF⟩ := bindS hF
  refine G.op1 (op_call (sv := .one (.g (.d (.sl 3 (List.map encApi_Dep r2))))) cf8 (ct_law15_row q_0.Past r2 hr2) rfl (EvL.cons (Ev.t 14 (.g (.d (.sl 3 (List.map encApi_Dep q_0.Past))))) EvL.nil) rfl) rfl ⟨rfl, trivial⟩ trivial ?_
  refine G.op1 (op_build (zs := [.v (.int .i64 0), .sl 3 (List.map encApi_Dep ([] : (List Api_Dep)))]) (ds := [.v (.int .i64 0), .sl 3 (List.map encApi_Dep r2)]) Try.underlying30 ti30 (pl30 _ Try.underlying30) ⟨.v _ rfl, .n 3, trivial⟩ (EvP.cons (Ev.t 15 (.g (.d (.sl 3 (List.map encApi_Dep r2))))) EvP.nil) rfl rfl) rfl ⟨rfl, trivial⟩ trivial ?_
  refine G.op2 (op_alloc (k := 1004) (cs := [bI .i64 0, .g (.d (.sl 3 (List.map encApi_Dep ([] : (List Api_Dep)))))]) ti30 ⟨.v _ rfl, .n 3, trivial⟩ rfl) rfl trivial ⟨rfl, trivial⟩ ?_
  refine G.op3 (op_storeA (cs' := [bI .i64 0, .g (.d (.sl 3 (List.map encApi_Dep r2)))]) ti30 rfl rfl (Ev.t 4 (.ptr 1004 0)) (Ev.t 16 (.g (.agg [.v (.int .i64 0), .sl 3 (List.map encApi_Dep r2)])))) rfl ⟨rfl, rfl, trivial⟩ ⟨rfl, trivial⟩ ?_
  refine G.endOps ?_
  refine G.seq ?_
  refine G.region ?_
  refine G.op1 (op_fieldP (off' := 2) Try.underlying26 rfl ti23 (by decide) rfl (Ev.t 1 (.ptr 1001 0)) rfl) rfl ⟨rfl, trivial⟩ trivial ?_
  refine G.op1 (op_load1P (c := .g (.d (.sl 6 (List.map encApi_Version q_0.Versions)))) Try.underlying23 rfl rfl (Ev.t 17 (.ptr 1001 2)) rfl) rfl ⟨rfl, trivial⟩ ⟨rfl, trivial⟩ ?_
  obtain ⟨r3, hr3, hF⟩ := bindS hF
  refine G.op1 (op_call (sv := .one (.g (.d (.sl 6 (List.map encApi_Version r3))))) cf9 (ct_law15_few q_0.Versions r3 hr3) rfl (EvL.cons (Ev.t 18 (.g (.d (.sl 6 (List.map encApi_Version q_0.Versions))))) EvL.nil) rfl) rfl ⟨rfl, trivial⟩ trivial ?_
  refine G.op1 (op_assign (Ev.t 19 (.g (.d (.sl 6 (List.map encApi_Version r3))))) rfl) rfl ⟨rfl, trivial⟩ trivial ?_
  refine G.endOps ?_
  refine G.seq ?_
  refine G.region ?_
  refine G.op1 (op_loadAP (ds := [.v (.int .i64 0), .sl 3 (List.map encApi_Dep r2)]) Try.underlying30 rfl ti30 rfl (Ev.t 4 (.ptr 1004 0)) rfl) rfl ⟨rfl, trivial⟩ ⟨rfl, trivial⟩ ?_
  refine G.op1 (op_move (Ev.t 5 (.g (.d (.sl 6 (List.map encApi_Version r3))))) rfl) rfl ⟨rfl, trivial⟩ trivial ?_
  obtain ⟨r4, hr4, hF⟩ := bindS hF
  refine G.op1 (op_call (sv := .one (.g (.agg [.v (.int .i64 r4.Site), .sl 3 (List.map encApi_Dep r4.Past)]))) cf10 (ct_client_Saw (Api_Session.mk 0 r2) r3 r4 hr4) rfl (EvL.cons (Ev.t 20 (.g (.agg [.v (.int .i64 0), .sl 3 (List.map encApi_Dep r2)]))) (EvL.cons (Ev.t 21 (.g (.d (.sl 6 (List.map encApi_Version r3))))) EvL.nil)) rfl) rfl ⟨rfl, rfl, trivial⟩ trivial ?_
  refine G.op2 (op_alloc (k := 1006) (cs := [bI .i64 0, .g (.d (.sl 3 (List.map encApi_Dep ([] : (List Api_Dep)))))]) ti30 ⟨.v _ rfl, .n 3, trivial⟩ rfl) rfl trivial ⟨rfl, trivial⟩ ?_
  refine G.op3 (op_storeA (cs' := [bI .i64 r4.Site, .g (.d (.sl 3 (List.map encApi_Dep r4.Past)))]) ti30 rfl rfl (Ev.t 6 (.ptr 1006 0)) (Ev.t 22 (.g (.agg [.v (.int .i64 r4.Site), .sl 3 (List.map encApi_Dep r4.Past)])))) rfl ⟨rfl, rfl, trivial⟩ ⟨rfl, trivial⟩ ?_
  refine G.endOps ?_
  refine G.seq ?_
  refine G.region ?_
  refine G.op1 (op_loadAP (ds := [.v (.int .i64 0), .sl 3 (List.map encApi_Dep r2)]) Try.underlying30 rfl ti30 rfl (Ev.t 4 (.ptr 1004 0)) rfl) rfl ⟨rfl, trivial⟩ ⟨rfl, trivial⟩ ?_
  refine G.op2 (op_alloc (k := 1007) (cs := [bI .i64 0, .g (.d (.sl 3 (List.map encApi_Dep ([] : (List Api_Dep)))))]) ti30 ⟨.v _ rfl, .n 3, trivial⟩ rfl) rfl trivial ⟨rfl, trivial⟩ ?_
  refine G.op3 (op_storeA (cs' := [bI .i64 0, .g (.d (.sl 3 (List.map encApi_Dep r2)))]) ti30 rfl rfl (Ev.t 7 (.ptr 1007 0)) (Ev.t 23 (.g (.agg [.v (.int .i64 0), .sl 3 (List.map encApi_Dep r2)])))) rfl ⟨rfl, rfl, trivial⟩ ⟨rfl, trivial⟩ ?_
  refine G.endOps ?_
  refine G.seq ?_
  refine G.region ?_
  refine G.op1 (op_loadAP (ds := [.v (.int .i64 0), .sl 3 (List.map encApi_Dep r2)]) Try.underlying30 rfl ti30 rfl (Ev.t 4 (.ptr 1004 0)) rfl) rfl ⟨rfl, trivial⟩ ⟨rfl, trivial⟩ ?_
  refine G.op2 (op_alloc (k := 1008) (cs := [bI .i64 0, .g (.d (.sl 3 (List.map encApi_Dep ([] : (List Api_Dep)))))]) ti30 ⟨.v _ rfl, .n 3, trivial⟩ rfl) rfl trivial ⟨rfl, trivial⟩ ?_
  refine G.op3 (op_storeA (cs' := [bI .i64 0, .g (.d (.sl 3 (List.map encApi_Dep r2)))]) ti30 rfl rfl (Ev.t 8 (.ptr 1008 0)) (Ev.t 24 (.g (.agg [.v (.int .i64 0), .sl 3 (List.map encApi_Dep r2)])))) rfl ⟨rfl, rfl, trivial⟩ ⟨rfl, trivial⟩ ?_
  refine G.endOps ?_
  refine G.seq ?_
  refine G.seq ?_
  refine G.region ?_
  refine G.op1 (op_assign (Ev.c _ rfl) rfl) rfl trivial trivial ?_
  refine G.endOps ?_
  refine G.joinC (T := Int × (List Api_Dep) × Int × (List Api_Dep)) (fun y5 => ⟨[(3, .one (bB r1)), (6, .one (.ptr 1006 0)), (7, .one (.ptr 1007 0)), (8, .one (.ptr 1008 0))], [(1006, some (.blk 30 [bI .i64 r4.Site, .g (.d (.sl 3 (List.map encApi_Dep r4.Past)))])), (1007, some (.blk 30 [bI .i64 y5.1, .g (.d (.sl 3 (List.map encApi_Dep y5.2.1)))])), (1008, some (.blk 30 [bI .i64 y5.2.2.1, .g (.d (.sl 3 (List.map encApi_Dep y5.2.2.2)))]))]⟩) (fun y5 => law15_ClientOrder_k1 r1 r4 y5 = some r) (fun y5 hF => ?_) (fun J10 => ?_)
  · unfold law15_ClientOrder_k1 at hF
    refine G.seq ?_
    refine G.region ?_
    refine G.op1 (op_loadAP (ds := [.v (.int .i64 y5.1), .sl 3 (List.map encApi_Dep y5.2.1)]) Try.underlying30 rfl ti30 rfl (Ev.t 7 (.ptr 1007 0)) rfl) rfl ⟨rfl, trivial⟩ ⟨rfl, trivial⟩ ?_
    refine G.op1 (op_loadAP (ds := [.v (.int .i64 r4.Site), .sl 3 (List.map encApi_Dep r4.Past)]) Try.underlying30 rfl ti30 rfl (Ev.t 6 (.ptr 1006 0)) rfl) rfl ⟨rfl, trivial⟩ ⟨rfl, trivial⟩ ?_
    obtain ⟨r6, hr6, hF⟩ := bindS hF
    refine G.op1 (op_callQ (sv := .one (bB r6)) cf11 (ct_ref15_Same (Api_Session.mk y5.1 y5.2.1) r4 r6 hr6) rfl rfl (EvQL.cons (EvQ.g (Ev.t 49 (.g (.agg [.v (.int .i64 y5.1), .sl 3 (List.map encApi_Dep y5.2.1)])))) (EvQL.cons (EvQ.g (Ev.t 50 (.g (.agg [.v (.int .i64 r4.Site), .sl 3 (List.map encApi_Dep r4.Past)])))) EvQL.nil)) rfl) rfl ⟨rfl, rfl, trivial⟩ trivial ?_
    refine G.op1 (op_assign (Ev.t 51 (bB r6)) rfl) rfl ⟨rfl, trivial⟩ trivial ?_
    refine G.endOps ?_
    refine G.seq ?_
    refine G.region ?_
    refine G.op1 (op_loadAP (ds := [.v (.int .i64 y5.2.2.1), .sl 3 (List.map encApi_Dep y5.2.2.2)]) Try.underlying30 rfl ti30 rfl (Ev.t 8 (.ptr 1008 0)) rfl) rfl ⟨rfl, trivial⟩ ⟨rfl, trivial⟩ ?_
    refine G.op1 (op_loadAP (ds := [.v (.int .i64 r4.Site), .sl 3 (List.map encApi_Dep r4.Past)]) Try.underlying30 rfl ti30 rfl (Ev.t 6 (.ptr 1006 0)) rfl) rfl ⟨rfl, trivial⟩ ⟨rfl, trivial⟩ ?_
    obtain ⟨r7, hr7, hF⟩ := bindS hF
    refine G.op1 (op_callQ (sv := .one (bB r7)) cf11 (ct_ref15_Same (Api_Session.mk y5.2.2.1 y5.2.2.2) r4 r7 hr7) rfl rfl (EvQL.cons (EvQ.g (Ev.t 52 (.g (.agg [.v (.int .i64 y5.2.2.1), .sl 3 (List.map encApi_Dep y5.2.2.2)])))) (EvQL.cons (EvQ.g (Ev.t 53 (.g (.agg [.v (.int .i64 r4.Site), .sl 3 (List.map encApi_Dep r4.Past)])))) EvQL.nil)) rfl) rfl ⟨rfl, rfl, trivial⟩ trivial ?_
    refine G.op1 (op_assign (Ev.t 54 (bB r7)) rfl) rfl ⟨rfl, trivial⟩ trivial ?_
    refine G.endOps ?_
    refine G.seq ?_
    refine G.region ?_
    refine G.op1 (op_move (Ev.t 3 (bB r1)) rfl) rfl ⟨rfl, trivial⟩ trivial ?_
    refine G.op1 (op_move (Ev.t 55 (bB r1)) rfl) rfl ⟨rfl, trivial⟩ trivial ?_
    refine ifS hF (fun hc8 hF => ?_) (fun hc8 hF => ?_)
    · refine G.known (t := 56) hc8 rfl ?_
      refine G.opG1 (op_move (Ev.t 10 (bB r6)) rfl) rfl rfl rfl ⟨rfl, trivial⟩ trivial ?_
      refine G.op1 (op_pickT (Ev.t 56 (bB true)) (Ev.t 57 (bB r6)) rfl) rfl ⟨rfl, rfl, trivial⟩ trivial ?_
      refine G.op1 (op_move (Ev.t 58 (bB r6)) rfl) rfl ⟨rfl, trivial⟩ trivial ?_
      refine ifS hF (fun hc9 hF => ?_) (fun hc9 hF => ?_)
      · refine G.known (t := 59) hc9 rfl ?_
        refine G.opG1 (op_move (Ev.t 11 (bB r7)) rfl) rfl rfl rfl ⟨rfl, trivial⟩ trivial ?_
        refine G.op1 (op_pickT (Ev.t 59 (bB true)) (Ev.t 60 (bB r7)) rfl) rfl ⟨rfl, rfl, trivial⟩ trivial ?_
        refine G.op1 (op_assign (Ev.t 61 (bB r7)) rfl) rfl ⟨rfl, trivial⟩ trivial ?_
        refine G.endOps ?_
        cases hF
        exact G.ret1 Try.results3 (RVar.tmp 2 _) ⟨rfl, trivial⟩ trivial
      · refine G.known (t := 59) hc9 rfl ?_
        refine G.opN1 rfl rfl rfl rfl rfl ?_
        refine G.op1 (op_pickF (Ev.t 59 (bB false)) (Ev.c _ rfl) rfl) rfl ⟨rfl, trivial⟩ trivial ?_
        refine G.op1 (op_assign (Ev.t 61 (bB false)) rfl) rfl ⟨rfl, trivial⟩ trivial ?_
        refine G.endOps ?_
        cases hF
        exact G.ret1 Try.results3 (RVar.tmp 2 _) ⟨rfl, trivial⟩ trivial
    · refine G.known (t := 56) hc8 rfl ?_
      refine G.opN1 rfl rfl rfl rfl rfl ?_
      refine G.op1 (op_pickF (Ev.t 56 (bB false)) (Ev.c _ rfl) rfl) rfl ⟨rfl, trivial⟩ trivial ?_
      refine G.op1 (op_move (Ev.t 58 (bB false)) rfl) rfl ⟨rfl, trivial⟩ trivial ?_
      refine G.opN1 rfl rfl rfl rfl rfl ?_
      refine G.op1 (op_pickF (Ev.t 59 (bB false)) (Ev.c _ rfl) rfl) rfl ⟨rfl, trivial⟩ trivial ?_
      refine G.op1 (op_assign (Ev.t 61 (bB false)) rfl) rfl ⟨rfl, trivial⟩ trivial ?_
      refine G.endOps ?_
      cases hF
      exact G.ret1 Try.results3 (RVar.tmp 2 _) ⟨rfl, trivial⟩ trivial
  refine G.block ?_
  refine G.keep (sl' := [(3, .one (bB r1)), (5, .one (.g (.d (.sl 6 (List.map encApi_Version r3))))), (6, .one (.ptr 1006 0)), (7, .one (.ptr 1007 0)), (8, .one (.ptr 1008 0)), (9, .one (bI .i64 0))]) (hp' := [(1006, some (.blk 30 [bI .i64 r4.Site, .g (.d (.sl 3 (List.map encApi_Dep r4.Past)))])), (1007, some (.blk 30 [bI .i64 0, .g (.d (.sl 3 (List.map encApi_Dep r2)))])), (1008, some (.blk 30 [bI .i64 0, .g (.d (.sl 3 (List.map encApi_Dep r2)))]))]) ⟨rfl, rfl, rfl, rfl, rfl, rfl, trivial⟩ ⟨rfl, rfl, rfl, trivial⟩ rfl ?_
  refine G.loopF (fun (v11 : Int × Int × (List Api_Dep) × Int × (List Api_Dep)) => ⟨[(3, .one (bB r1)), (5, .one (.g (.d (.sl 6 (List.map encApi_Version r3))))), (6, .one (.ptr 1006 0)), (7, .one (.ptr 1007 0)), (8, .one (.ptr 1008 0)), (9, .one (bI .i64 v11.1))], [(1006, some (.blk 30 [bI .i64 r4.Site, .g (.d (.sl 3 (List.map encApi_Dep r4.Past)))])), (1007, some (.blk 30 [bI .i64 v11.2.1, .g (.d (.sl 3 (List.map encApi_Dep v11.2.2.1)))])), (1008, some (.blk 30 [bI .i64 v11.2.2.2.1, .g (.d (.sl 3 (List.map encApi_Dep v11.2.2.2.2)))]))]⟩) hF rfl (fun K14 again13 v11 J12 hF => ?_)
  unfold law15_ClientOrder_l2 at hF
  refine G.seq ?_
  refine G.seq ?_
  refine G.region ?_
  refine G.op1 (op_move (Ev.t 9 (bI .i64 v11.1)) rfl) rfl ⟨rfl, trivial⟩ trivial ?_
  refine G.op1 (op_move (Ev.t 5 (.g (.d (.sl 6 (List.map encApi_Version r3))))) rfl) rfl ⟨rfl, trivial⟩ trivial ?_
  refine G.op1 (OpL.cast (op_lenD Try.underlying23 (Ev.t 26 (.g (.d (.sl 6 (List.map encApi_Version r3))))) rfl) (by rw [List.length_map])) rfl ⟨rfl, trivial⟩ trivial ?_
  refine G.op1 (op_lss (Ev.t 25 (bI .i64 v11.1)) (Ev.t 27 (bI .i64 (r3.length : Int))) rfl) rfl ⟨rfl, rfl, trivial⟩ trivial ?_
  refine G.endOps ?_
  refine ifS hF (fun hc15 hF => ?_) (fun hc15 hF => ?_)
  · refine G.cond rfl (fun _ => ?_) (fun hx => by rw [hc15] at hx; cases hx)
    refine G.skip ?_
    refine G.seq ?_
    refine G.block ?_
    refine G.seq ?_
    obtain ⟨x16, hx16, hF⟩ := bindS hF
    obtain ⟨r17, hr17, hF⟩ := bindS hF
    refine G.drawn (effs := [⟨[(7, .one (.ptr 1007 0))], [(1007, some (.blk 30 [bI .i64 v11.2.1, .g (.d (.sl 3 (List.map encApi_Dep v11.2.2.1)))]))], [(31, .one (.g (.agg [.v (.int .i64 v11.2.1), .sl 3 (List.map encApi_Dep v11.2.2.1)])))], []⟩, ⟨[(5, .one (.g (.d (.sl 6 (List.map encApi_Version r3)))))], [], [(32, .one (.g (.d (.sl 6 (List.map encApi_Version r3)))))], []⟩, ⟨[(9, .one (bI .i64 v11.1))], [], [(33, .one (bI .i64 v11.1))], []⟩, ⟨[(32, .one (.g (.d (.sl 6 (List.map encApi_Version r3))))), (33, .one (bI .i64 v11.1))], [], [(34, .one (.ep [.v (.string x16.Key), .v (.string x16.Value), .v (.bool x16.Gone), .v (.int .i64 x16.Stamp.N), .v (.int .i64 x16.Stamp.Site), .sl 3 (List.map encApi_Dep x16.Past)]))], []⟩, ⟨[(34, .one (.ep [.v (.string x16.Key), .v (.string x16.Value), .v (.bool x16.Gone), .v (.int .i64 x16.Stamp.N), .v (.int .i64 x16.Stamp.Site), .sl 3 (List.map encApi_Dep x16.Past)]))], [], [(35, .one (.g (.agg [.v (.string x16.Key), .v (.string x16.Value), .v (.bool x16.Gone), .v (.int .i64 x16.Stamp.N), .v (.int .i64 x16.Stamp.Site), .sl 3 (List.map encApi_Dep x16.Past)])))], []⟩, ⟨[(35, .one (.g (.agg [.v (.string x16.Key), .v (.string x16.Value), .v (.bool x16.Gone), .v (.int .i64 x16.Stamp.N), .v (.int .i64 x16.Stamp.Site), .sl 3 (List.map encApi_Dep x16.Past)])))], [], [(36, .one (.g (.d (.sl 6 (List.map encApi_Version ([x16]))))))], []⟩, ⟨[(31, .one (.g (.agg [.v (.int .i64 v11.2.1), .sl 3 (List.map encApi_Dep v11.2.2.1)]))), (36, .one (.g (.d (.sl 6 (List.map encApi_Version ([x16]))))))], [], [(37, .one (.g (.agg [.v (.int .i64 r17.Site), .sl 3 (List.map encApi_Dep r17.Past)])))], []⟩, ⟨[(7, .one (.ptr 1007 0)), (37, .one (.g (.agg [.v (.int .i64 r17.Site), .sl 3 (List.map encApi_Dep r17.Past)])))], [(1007, some (.blk 30 [bI .i64 v11.2.1, .g (.d (.sl 3 (List.map encApi_Dep v11.2.2.1)))]))], [], [(1007, some (.blk 30 [bI .i64 r17.Site, .g (.d (.sl 3 (List.map encApi_Dep r17.Past)))]))]⟩]) (deps := [[], [], [], [1, 2], [1, 2, 3], [1, 2, 3, 4], [0, 1, 2, 3, 4, 5], [0, 1, 2, 3, 4, 5, 6]]) (sl' := [(3, .one (bB r1)), (5, .one (.g (.d (.sl 6 (List.map encApi_Version r3))))), (6, .one (.ptr 1006 0)), (7, .one (.ptr 1007 0)), (8, .one (.ptr 1008 0)), (9, .one (bI .i64 v11.1))]) (hp' := [(1006, some (.blk 30 [bI .i64 r4.Site, .g (.d (.sl 3 (List.map encApi_Dep r4.Past)))])), (1007, some (.blk 30 [bI .i64 r17.Site, .g (.d (.sl 3 (List.map encApi_Dep r17.Past)))])), (1008, some (.blk 30 [bI .i64 v11.2.2.2.1, .g (.d (.sl 3 (List.map encApi_Dep v11.2.2.2.2)))]))]) follows rfl rfl rfl ⟨⟨rfl, trivial⟩, ⟨⟨rfl, rfl⟩, trivial⟩, ⟨rfl, trivial⟩, trivial, ⟨rfl, trivial⟩, trivial, ⟨rfl, rfl, trivial⟩, trivial, ⟨rfl, trivial⟩, trivial, ⟨rfl, trivial⟩, trivial, ⟨rfl, rfl, trivial⟩, trivial, ⟨rfl, rfl, trivial⟩, ⟨⟨rfl, rfl⟩, trivial⟩, trivial⟩ ⟨OpW.plain (op_loadAP (ds := [.v (.int .i64 v11.2.1), .sl 3 (List.map encApi_Dep v11.2.2.1)]) Try.underlying30 rfl ti30 rfl (Ev.t 7 (.ptr 1007 0)) rfl) rfl rfl, OpW.plain (op_move (Ev.t 5 (.g (.d (.sl 6 (List.map encApi_Version r3))))) rfl) rfl rfl, OpW.plain (op_move (Ev.t 9 (bI .i64 v11.1)) rfl) rfl rfl, OpW.plain (op_index (cs := [.v (.string x16.Key), .v (.string x16.Value), .v (.bool x16.Gone), .v (.int .i64 x16.Stamp.N), .v (.int .i64 x16.Stamp.Site), .sl 3 (List.map encApi_Dep x16.Past)]) Try.underlying23 ti36 (idx_ok hx16).1 (idx_get hx16 encApi_Version) (Ev.t 32 (.g (.d (.sl 6 (List.map encApi_Version r3))))) (Ev.t 33 (bI .i64 v11.1)) rfl) rfl rfl, OpW.plain (op_loadAE (ds := [.v (.string x16.Key), .v (.string x16.Value), .v (.bool x16.Gone), .v (.int .i64 x16.Stamp.N), .v (.int .i64 x16.Stamp.Site), .sl 3 (List.map encApi_Dep x16.Past)]) Try.underlying36 rfl ti36 rfl (Ev.t 34 (.ep [.v (.string x16.Key), .v (.string x16.Value), .v (.bool x16.Gone), .v (.int .i64 x16.Stamp.N), .v (.int .i64 x16.Stamp.Site), .sl 3 (List.map encApi_Dep x16.Past)])) rfl) rfl rfl, OpW.plain (op_buildSlice (es := List.map encApi_Version [x16]) Try.underlying23 ti36 rfl rfl (EvP.cons (Ev.t 35 (.g (.agg [.v (.string x16.Key), .v (.string x16.Value), .v (.bool x16.Gone), .v (.int .i64 x16.Stamp.N), .v (.int .i64 x16.Stamp.Site), .sl 3 (List.map encApi_Dep x16.Past)]))) EvP.nil) rfl rfl (by simp [encApi_Version]) rfl) rfl rfl, OpW.plain (op_call (sv := .one (.g (.agg [.v (.int .i64 r17.Site), .sl 3 (List.map encApi_Dep r17.Past)]))) cf10 (ct_client_Saw (Api_Session.mk v11.2.1 v11.2.2.1) ([x16]) r17 hr17) rfl (EvL.cons (Ev.t 31 (.g (.agg [.v (.int .i64 v11.2.1), .sl 3 (List.map encApi_Dep v11.2.2.1)]))) (EvL.cons (Ev.t 36 (.g (.d (.sl 6 (List.map encApi_Version ([x16])))))) EvL.nil)) rfl) rfl rfl, OpW.plain (op_storeA (cs' := [bI .i64 r17.Site, .g (.d (.sl 3 (List.map encApi_Dep r17.Past)))]) ti30 rfl rfl (Ev.t 7 (.ptr 1007 0)) (Ev.t 37 (.g (.agg [.v (.int .i64 r17.Site), .sl 3 (List.map encApi_Dep r17.Past)])))) rfl rfl, trivial⟩ ⟨rfl, rfl, rfl, rfl, rfl, rfl, trivial⟩ ⟨rfl, rfl, rfl, trivial⟩ rfl ?_
    obtain ⟨x18, hx18, hF⟩ := bindS hF
    obtain ⟨r19, hr19, hF⟩ := bindS hF
    refine G.drawn (effs := [⟨[(8, .one (.ptr 1008 0))], [(1008, some (.blk 30 [bI .i64 v11.2.2.2.1, .g (.d (.sl 3 (List.map encApi_Dep v11.2.2.2.2)))]))], [(38, .one (.g (.agg [.v (.int .i64 v11.2.2.2.1), .sl 3 (List.map encApi_Dep v11.2.2.2.2)])))], []⟩, ⟨[(5, .one (.g (.d (.sl 6 (List.map encApi_Version r3)))))], [], [(39, .one (.g (.d (.sl 6 (List.map encApi_Version r3)))))], []⟩, ⟨[(5, .one (.g (.d (.sl 6 (List.map encApi_Version r3)))))], [], [(40, .one (.g (.d (.sl 6 (List.map encApi_Version r3)))))], []⟩, ⟨[(40, .one (.g (.d (.sl 6 (List.map encApi_Version r3)))))], [], [(41, .one (bI .i64 (r3.length : Int)))], []⟩, ⟨[(41, .one (bI .i64 (r3.length : Int)))], [], [(42, .one (bI .i64 (IntKind.wrap .i64 ((r3.length : Int) - 1))))], []⟩, ⟨[(9, .one (bI .i64 v11.1))], [], [(43, .one (bI .i64 v11.1))], []⟩, ⟨[(42, .one (bI .i64 (IntKind.wrap .i64 ((r3.length : Int) - 1)))), (43, .one (bI .i64 v11.1))], [], [(44, .one (bI .i64 (IntKind.wrap .i64 ((IntKind.wrap .i64 ((r3.length : Int) - 1)) - v11.1))))], []⟩, ⟨[(39, .one (.g (.d (.sl 6 (List.map encApi_Version r3))))), (44, .one (bI .i64 (IntKind.wrap .i64 ((IntKind.wrap .i64 ((r3.length : Int) - 1)) - v11.1))))], [], [(45, .one (.ep [.v (.string x18.Key), .v (.string x18.Value), .v (.bool x18.Gone), .v (.int .i64 x18.Stamp.N), .v (.int .i64 x18.Stamp.Site), .sl 3 (List.map encApi_Dep x18.Past)]))], []⟩, ⟨[(45, .one (.ep [.v (.string x18.Key), .v (.string x18.Value), .v (.bool x18.Gone), .v (.int .i64 x18.Stamp.N), .v (.int .i64 x18.Stamp.Site), .sl 3 (List.map encApi_Dep x18.Past)]))], [], [(46, .one (.g (.agg [.v (.string x18.Key), .v (.string x18.Value), .v (.bool x18.Gone), .v (.int .i64 x18.Stamp.N), .v (.int .i64 x18.Stamp.Site), .sl 3 (List.map encApi_Dep x18.Past)])))], []⟩, ⟨[(46, .one (.g (.agg [.v (.string x18.Key), .v (.string x18.Value), .v (.bool x18.Gone), .v (.int .i64 x18.Stamp.N), .v (.int .i64 x18.Stamp.Site), .sl 3 (List.map encApi_Dep x18.Past)])))], [], [(47, .one (.g (.d (.sl 6 (List.map encApi_Version ([x18]))))))], []⟩, ⟨[(38, .one (.g (.agg [.v (.int .i64 v11.2.2.2.1), .sl 3 (List.map encApi_Dep v11.2.2.2.2)]))), (47, .one (.g (.d (.sl 6 (List.map encApi_Version ([x18]))))))], [], [(48, .one (.g (.agg [.v (.int .i64 r19.Site), .sl 3 (List.map encApi_Dep r19.Past)])))], []⟩, ⟨[(8, .one (.ptr 1008 0)), (48, .one (.g (.agg [.v (.int .i64 r19.Site), .sl 3 (List.map encApi_Dep r19.Past)])))], [(1008, some (.blk 30 [bI .i64 v11.2.2.2.1, .g (.d (.sl 3 (List.map encApi_Dep v11.2.2.2.2)))]))], [], [(1008, some (.blk 30 [bI .i64 r19.Site, .g (.d (.sl 3 (List.map encApi_Dep r19.Past)))]))]⟩]) (deps := [[], [], [], [2], [2, 3], [], [2, 3, 4, 5], [1, 2, 3, 4, 5, 6], [1, 2, 3, 4, 5, 6, 7], [1, 2, 3, 4, 5, 6, 7, 8], [0, 1, 2, 3, 4, 5, 6, 7, 8, 9], [0, 1, 2, 3, 4, 5, 6, 7, 8, 9, 10]]) (sl' := [(3, .one (bB r1)), (5, .one (.g (.d (.sl 6 (List.map encApi_Version r3))))), (6, .one (.ptr 1006 0)), (7, .one (.ptr 1007 0)), (8, .one (.ptr 1008 0)), (9, .one (bI .i64 v11.1))]) (hp' := [(1006, some (.blk 30 [bI .i64 r4.Site, .g (.d (.sl 3 (List.map encApi_Dep r4.Past)))])), (1007, some (.blk 30 [bI .i64 r17.Site, .g (.d (.sl 3 (List.map encApi_Dep r17.Past)))])), (1008, some (.blk 30 [bI .i64 r19.Site, .g (.d (.sl 3 (List.map encApi_Dep r19.Past)))]))]) follows rfl rfl rfl ⟨⟨rfl, trivial⟩, ⟨⟨rfl, rfl⟩, trivial⟩, ⟨rfl, trivial⟩, trivial, ⟨rfl, trivial⟩, trivial, ⟨rfl, trivial⟩, trivial, ⟨rfl, trivial⟩, trivial, ⟨rfl, trivial⟩, trivial, ⟨rfl, rfl, trivial⟩, trivial, ⟨rfl, rfl, trivial⟩, trivial, ⟨rfl, trivial⟩, trivial, ⟨rfl, trivial⟩, trivial, ⟨rfl, rfl, trivial⟩, trivial, ⟨rfl, rfl, trivial⟩, ⟨⟨rfl, rfl⟩, trivial⟩, trivial⟩ ⟨OpW.plain (op_loadAP (ds := [.v (.int .i64 v11.2.2.2.1), .sl 3 (List.map encApi_Dep v11.2.2.2.2)]) Try.underlying30 rfl ti30 rfl (Ev.t 8 (.ptr 1008 0)) rfl) rfl rfl, OpW.plain (op_move (Ev.t 5 (.g (.d (.sl 6 (List.map encApi_Version r3))))) rfl) rfl rfl, OpW.plain (op_move (Ev.t 5 (.g (.d (.sl 6 (List.map encApi_Version r3))))) rfl) rfl rfl, OpW.plain (OpL.cast (op_lenD Try.underlying23 (Ev.t 40 (.g (.d (.sl 6 (List.map encApi_Version r3))))) rfl) (by rw [List.length_map])) rfl rfl, OpW.plain (op_sub (Ev.t 41 (bI .i64 (r3.length : Int))) (Ev.c _ rfl) rfl) rfl rfl, OpW.plain (op_move (Ev.t 9 (bI .i64 v11.1)) rfl) rfl rfl, OpW.plain (op_sub (Ev.t 42 (bI .i64 (IntKind.wrap .i64 ((r3.length : Int) - 1)))) (Ev.t 43 (bI .i64 v11.1)) rfl) rfl rfl, OpW.plain (op_index (cs := [.v (.string x18.Key), .v (.string x18.Value), .v (.bool x18.Gone), .v (.int .i64 x18.Stamp.N), .v (.int .i64 x18.Stamp.Site), .sl 3 (List.map encApi_Dep x18.Past)]) Try.underlying23 ti36 (idx_ok hx18).1 (idx_get hx18 encApi_Version) (Ev.t 39 (.g (.d (.sl 6 (List.map encApi_Version r3))))) (Ev.t 44 (bI .i64 (IntKind.wrap .i64 ((IntKind.wrap .i64 ((r3.length : Int) - 1)) - v11.1)))) rfl) rfl rfl, OpW.plain (op_loadAE (ds := [.v (.string x18.Key), .v (.string x18.Value), .v (.bool x18.Gone), .v (.int .i64 x18.Stamp.N), .v (.int .i64 x18.Stamp.Site), .sl 3 (List.map encApi_Dep x18.Past)]) Try.underlying36 rfl ti36 rfl (Ev.t 45 (.ep [.v (.string x18.Key), .v (.string x18.Value), .v (.bool x18.Gone), .v (.int .i64 x18.Stamp.N), .v (.int .i64 x18.Stamp.Site), .sl 3 (List.map encApi_Dep x18.Past)])) rfl) rfl rfl, OpW.plain (op_buildSlice (es := List.map encApi_Version [x18]) Try.underlying23 ti36 rfl rfl (EvP.cons (Ev.t 46 (.g (.agg [.v (.string x18.Key), .v (.string x18.Value), .v (.bool x18.Gone), .v (.int .i64 x18.Stamp.N), .v (.int .i64 x18.Stamp.Site), .sl 3 (List.map encApi_Dep x18.Past)]))) EvP.nil) rfl rfl (by simp [encApi_Version]) rfl) rfl rfl, OpW.plain (op_call (sv := .one (.g (.agg [.v (.int .i64 r19.Site), .sl 3 (List.map encApi_Dep r19.Past)]))) cf10 (ct_client_Saw (Api_Session.mk v11.2.2.2.1 v11.2.2.2.2) ([x18]) r19 hr19) rfl (EvL.cons (Ev.t 38 (.g (.agg [.v (.int .i64 v11.2.2.2.1), .sl 3 (List.map encApi_Dep v11.2.2.2.2)]))) (EvL.cons (Ev.t 47 (.g (.d (.sl 6 (List.map encApi_Version ([x18])))))) EvL.nil)) rfl) rfl rfl, OpW.plain (op_storeA (cs' := [bI .i64 r19.Site, .g (.d (.sl 3 (List.map encApi_Dep r19.Past)))]) ti30 rfl rfl (Ev.t 8 (.ptr 1008 0)) (Ev.t 48 (.g (.agg [.v (.int .i64 r19.Site), .sl 3 (List.map encApi_Dep r19.Past)])))) rfl rfl, trivial⟩ ⟨rfl, rfl, rfl, rfl, rfl, rfl, trivial⟩ ⟨rfl, rfl, rfl, trivial⟩ rfl ?_
    refine G.endBlock ?_
    refine G.region ?_
    refine G.op1 (op_move (Ev.t 9 (bI .i64 v11.1)) rfl) rfl ⟨rfl, trivial⟩ trivial ?_
    refine G.op1 (op_add (Ev.t 29 (bI .i64 v11.1)) (Ev.c _ rfl) rfl) rfl ⟨rfl, trivial⟩ trivial ?_
    refine G.op1 (op_assign (Ev.t 30 (bI .i64 (IntKind.wrap .i64 (v11.1 + 1)))) rfl) rfl ⟨rfl, trivial⟩ trivial ?_
    refine G.endOps ?_
    exact G.arr (J12 (IntKind.wrap .i64 (v11.1 + 1), r17.Site, r17.Past, r19.Site, r19.Past) hF) ⟨rfl, rfl, rfl, rfl, rfl, rfl, trivial⟩ ⟨rfl, rfl, rfl, trivial⟩ rfl
  · refine G.cond rfl (fun hx => by rw [hc15] at hx; cases hx) (fun _ => ?_)
    refine G.exit ?_
    refine GX.c ?_
    refine GX.q ?_
    refine GX.bYes ?_
    exact G.arr (J10 (v11.2.1, v11.2.2.1, v11.2.2.2.1, v11.2.2.2.2) hF) ⟨rfl, rfl, rfl, rfl, trivial⟩ ⟨rfl, rfl, rfl, trivial⟩ rfl


end Go.Ark
