/- Walks, printed by a program of mine: each function of the program computes the typed function of its name. Conditions: none. -/
import Derived.Test.YtedpjlinmkingaaWPastAdd1
namespace Go.Ark
open Go Go.Ab Go.RowKit Go.Lib Go.Proofs

set_option maxRecDepth 20000 in
set_option maxHeartbeats 2000000 in
theorem ct_slices_Equal_Dep (s1_0 : (List Api_Dep)) (s2_1 : (List Api_Dep)) (r : Bool) (hF : slices_Equal_Dep s1_0 s2_1 = some r) : Ct Try.prog 35 [.g (.d (.sl 3 (List.map encApi_Dep s1_0))), .g (.d (.sl 3 (List.map encApi_Dep s2_1)))] (.one (.d (.v (.bool r)))) := by
  unfold slices_Equal_Dep at hF
  refine Ct.intro Try.func35 rfl Try.ntmps35 rfl rfl fun M w => ?_
  refine G.seq ?_
  refine G.region ?_
  refine G.op1 (op_assign (Ev.c _ rfl) rfl) rfl trivial trivial ?_
  refine G.endOps ?_
  refine G.seq ?_
  refine G.seq ?_
  refine G.region ?_
  refine G.op1 (op_move (Ev.t 0 (.g (.d (.sl 3 (List.map encApi_Dep s1_0))))) rfl) rfl ⟨rfl, trivial⟩ trivial ?_
  refine G.op1 (OpL.cast (op_lenD Try.underlying22 (Ev.t 6 (.g (.d (.sl 3 (List.map encApi_Dep s1_0))))) rfl) (by rw [List.length_map])) rfl ⟨rfl, trivial⟩ trivial ?_
  refine G.op1 (op_move (Ev.t 1 (.g (.d (.sl 3 (List.map encApi_Dep s2_1))))) rfl) rfl ⟨rfl, trivial⟩ trivial ?_
  refine G.op1 (OpL.cast (op_lenD Try.underlying22 (Ev.t 8 (.g (.d (.sl 3 (List.map encApi_Dep s2_1))))) rfl) (by rw [List.length_map])) rfl ⟨rfl, trivial⟩ trivial ?_
  refine G.op1 (op_neI (Ev.t 7 (bI .i64 (s1_0.length : Int))) (Ev.t 9 (bI .i64 (s2_1.length : Int))) rfl) rfl ⟨rfl, rfl, trivial⟩ trivial ?_
  refine G.endOps ?_
  refine ifS hF (fun hc1 hF => ?_) (fun hc1 hF => ?_)
  · refine G.cond rfl (fun _ => ?_) (fun hx => by rw [hc1] at hx; cases hx)
    refine G.seq ?_
    refine G.region ?_
    refine G.op1 (op_assign (Ev.c _ rfl) rfl) rfl trivial trivial ?_
    refine G.endOps ?_
    cases hF
    exact G.ret1 Try.results35 (RVar.tmp 4 _) ⟨rfl, trivial⟩ trivial
  · refine G.cond rfl (fun hx => by rw [hc1] at hx; cases hx) (fun _ => ?_)
    refine G.skip ?_
    refine G.seq ?_
    refine G.seq ?_
    refine G.region ?_
    refine G.op1 (op_move (Ev.t 0 (.g (.d (.sl 3 (List.map encApi_Dep s1_0))))) rfl) rfl ⟨rfl, trivial⟩ trivial ?_
    refine G.op1 (OpL.cast (op_lenD Try.underlying22 (Ev.t 11 (.g (.d (.sl 3 (List.map encApi_Dep s1_0))))) rfl) (by rw [List.length_map])) rfl ⟨rfl, trivial⟩ trivial ?_
    refine G.op1 (op_move (Ev.c _ rfl) rfl) rfl trivial trivial ?_
    refine G.endOps ?_
    refine G.joinC (T := Unit) (fun y2 => ⟨[], []⟩) (fun y2 => slices_Equal_Dep_k1 y2 = some r) (fun y2 hF => ?_) (fun J3 => ?_)
    · unfold slices_Equal_Dep_k1 at hF
      refine G.seq ?_
      refine G.region ?_
      refine G.op1 (op_assign (Ev.c _ rfl) rfl) rfl trivial trivial ?_
      refine G.endOps ?_
      cases hF
      exact G.ret1 Try.results35 (RVar.tmp 4 _) ⟨rfl, trivial⟩ trivial
    refine G.block ?_
    refine G.keep (sl' := [(0, .one (.g (.d (.sl 3 (List.map encApi_Dep s1_0))))), (1, .one (.g (.d (.sl 3 (List.map encApi_Dep s2_1))))), (12, .one (bI .i64 (s1_0.length : Int))), (13, .one (bI .i64 0))]) (hp' := []) ⟨rfl, rfl, rfl, rfl, trivial⟩ trivial rfl ?_
    refine G.loopF (fun (v4 : Int) => ⟨[(0, .one (.g (.d (.sl 3 (List.map encApi_Dep s1_0))))), (1, .one (.g (.d (.sl 3 (List.map encApi_Dep s2_1))))), (12, .one (bI .i64 (s1_0.length : Int))), (13, .one (bI .i64 v4))], []⟩) hF rfl (fun K7 again6 v4 J5 hF => ?_)
    unfold slices_Equal_Dep_l2 at hF
    refine G.seq ?_
    refine G.region ?_
    refine G.op1 (op_lss (Ev.t 13 (bI .i64 v4)) (Ev.t 12 (bI .i64 (s1_0.length : Int))) rfl) rfl ⟨rfl, rfl, trivial⟩ trivial ?_
    refine G.endOps ?_
    refine G.seq ?_
    refine ifS hF (fun hc8 hF => ?_) (fun hc8 hF => ?_)
    · refine G.cond rfl (fun _ => ?_) (fun hx => by rw [hc8] at hx; cases hx)
      refine G.skip ?_
      refine G.seq ?_
      refine G.block ?_
      refine G.seq ?_
      refine G.region ?_
      refine G.op1 (op_move (Ev.t 13 (bI .i64 v4)) rfl) rfl ⟨rfl, trivial⟩ trivial ?_
      refine G.op1 (op_assign (Ev.t 15 (bI .i64 v4)) rfl) rfl ⟨rfl, trivial⟩ trivial ?_
      refine G.endOps ?_
      refine G.seq ?_
      obtain ⟨x9, hx9, hF⟩ := bindS hF
      obtain ⟨x10, hx10, hF⟩ := bindS hF
      refine G.drawn (effs := [⟨[(0, .one (.g (.d (.sl 3 (List.map encApi_Dep s1_0)))))], [], [(16, .one (.g (.d (.sl 3 (List.map encApi_Dep s1_0)))))], []⟩, ⟨[(5, .one (bI .i64 v4))], [], [(17, .one (bI .i64 v4))], []⟩, ⟨[(16, .one (.g (.d (.sl 3 (List.map encApi_Dep s1_0))))), (17, .one (bI .i64 v4))], [], [(18, .one (.ep [.v (.string x9.Key), .v (.int .i64 x9.Stamp.N), .v (.int .i64 x9.Stamp.Site)]))], []⟩, ⟨[(18, .one (.ep [.v (.string x9.Key), .v (.int .i64 x9.Stamp.N), .v (.int .i64 x9.Stamp.Site)]))], [], [(19, .one (.g (.agg [.v (.string x9.Key), .v (.int .i64 x9.Stamp.N), .v (.int .i64 x9.Stamp.Site)])))], []⟩, ⟨[(1, .one (.g (.d (.sl 3 (List.map encApi_Dep s2_1)))))], [], [(20, .one (.g (.d (.sl 3 (List.map encApi_Dep s2_1)))))], []⟩, ⟨[(5, .one (bI .i64 v4))], [], [(21, .one (bI .i64 v4))], []⟩, ⟨[(20, .one (.g (.d (.sl 3 (List.map encApi_Dep s2_1))))), (21, .one (bI .i64 v4))], [], [(22, .one (.ep [.v (.string x10.Key), .v (.int .i64 x10.Stamp.N), .v (.int .i64 x10.Stamp.Site)]))], []⟩, ⟨[(22, .one (.ep [.v (.string x10.Key), .v (.int .i64 x10.Stamp.N), .v (.int .i64 x10.Stamp.Site)]))], [], [(23, .one (.g (.agg [.v (.string x10.Key), .v (.int .i64 x10.Stamp.N), .v (.int .i64 x10.Stamp.Site)])))], []⟩, ⟨[(19, .one (.g (.agg [.v (.string x9.Key), .v (.int .i64 x9.Stamp.N), .v (.int .i64 x9.Stamp.Site)]))), (23, .one (.g (.agg [.v (.string x10.Key), .v (.int .i64 x10.Stamp.N), .v (.int .i64 x10.Stamp.Site)])))], [], [(24, .one (bB (!(decide (x9.Key = x10.Key) && decide (x9.Stamp.N = x10.Stamp.N) && decide (x9.Stamp.Site = x10.Stamp.Site)))))], []⟩]) (deps := [[], [], [0, 1], [0, 1, 2], [], [], [4, 5], [4, 5, 6], [0, 1, 2, 3, 4, 5, 6, 7]]) (sl' := [(0, .one (.g (.d (.sl 3 (List.map encApi_Dep s1_0))))), (1, .one (.g (.d (.sl 3 (List.map encApi_Dep s2_1))))), (12, .one (bI .i64 (s1_0.length : Int))), (13, .one (bI .i64 v4)), (24, .one (bB (!(decide (x9.Key = x10.Key) && decide (x9.Stamp.N = x10.Stamp.N) && decide (x9.Stamp.Site = x10.Stamp.Site)))))]) (hp' := []) follows rfl rfl rfl ⟨⟨rfl, trivial⟩, trivial, ⟨rfl, trivial⟩, trivial, ⟨rfl, rfl, trivial⟩, trivial, ⟨rfl, trivial⟩, trivial, ⟨rfl, trivial⟩, trivial, ⟨rfl, trivial⟩, trivial, ⟨rfl, rfl, trivial⟩, trivial, ⟨rfl, trivial⟩, trivial, ⟨rfl, rfl, trivial⟩, trivial, trivial⟩ ⟨OpW.plain (op_move (Ev.t 0 (.g (.d (.sl 3 (List.map encApi_Dep s1_0))))) rfl) rfl rfl, OpW.plain (op_move (Ev.t 5 (bI .i64 v4)) rfl) rfl rfl, OpW.plain (op_index (cs := [.v (.string x9.Key), .v (.int .i64 x9.Stamp.N), .v (.int .i64 x9.Stamp.Site)]) Try.underlying22 ti26 (idx_ok hx9).1 (idx_get hx9 encApi_Dep) (Ev.t 16 (.g (.d (.sl 3 (List.map encApi_Dep s1_0))))) (Ev.t 17 (bI .i64 v4)) rfl) rfl rfl, OpW.plain (op_loadAE (ds := [.v (.string x9.Key), .v (.int .i64 x9.Stamp.N), .v (.int .i64 x9.Stamp.Site)]) Try.underlying26 rfl ti26 rfl (Ev.t 18 (.ep [.v (.string x9.Key), .v (.int .i64 x9.Stamp.N), .v (.int .i64 x9.Stamp.Site)])) rfl) rfl rfl, OpW.plain (op_move (Ev.t 1 (.g (.d (.sl 3 (List.map encApi_Dep s2_1))))) rfl) rfl rfl, OpW.plain (op_move (Ev.t 5 (bI .i64 v4)) rfl) rfl rfl, OpW.plain (op_index (cs := [.v (.string x10.Key), .v (.int .i64 x10.Stamp.N), .v (.int .i64 x10.Stamp.Site)]) Try.underlying22 ti26 (idx_ok hx10).1 (idx_get hx10 encApi_Dep) (Ev.t 20 (.g (.d (.sl 3 (List.map encApi_Dep s2_1))))) (Ev.t 21 (bI .i64 v4)) rfl) rfl rfl, OpW.plain (op_loadAE (ds := [.v (.string x10.Key), .v (.int .i64 x10.Stamp.N), .v (.int .i64 x10.Stamp.Site)]) Try.underlying26 rfl ti26 rfl (Ev.t 22 (.ep [.v (.string x10.Key), .v (.int .i64 x10.Stamp.N), .v (.int .i64 x10.Stamp.Site)])) rfl) rfl rfl, OpW.plain (op_eqA (us := [.string x9.Key, .int .i64 x9.Stamp.N, .int .i64 x9.Stamp.Site]) (vs := [.string x10.Key, .int .i64 x10.Stamp.N, .int .i64 x10.Stamp.Site]) rfl rfl Try.eqGuardType26 (fun w => ne26 x9.Key x9.Stamp.N x9.Stamp.Site x10.Key x10.Stamp.N x10.Stamp.Site w) (Ev.t 19 (.g (.agg [.v (.string x9.Key), .v (.int .i64 x9.Stamp.N), .v (.int .i64 x9.Stamp.Site)]))) (Ev.t 23 (.g (.agg [.v (.string x10.Key), .v (.int .i64 x10.Stamp.N), .v (.int .i64 x10.Stamp.Site)]))) rfl) rfl rfl, trivial⟩ ⟨rfl, rfl, rfl, rfl, rfl, trivial⟩ trivial rfl ?_
      refine ifS hF (fun hc11 hF => ?_) (fun hc11 hF => ?_)
      · refine G.cond rfl (fun _ => ?_) (fun hx => by rw [hc11] at hx; cases hx)
        refine G.seq ?_
        refine G.region ?_
        refine G.op1 (op_assign (Ev.c _ rfl) rfl) rfl trivial trivial ?_
        refine G.endOps ?_
        cases hF
        exact G.ret1 Try.results35 (RVar.tmp 4 _) ⟨rfl, trivial⟩ trivial
      · refine G.cond rfl (fun hx => by rw [hc11] at hx; cases hx) (fun _ => ?_)
        refine G.skip ?_
        refine G.endBlock ?_
        refine G.region ?_
        refine G.op1 (op_add (Ev.t 13 (bI .i64 v4)) (Ev.c _ rfl) rfl) rfl ⟨rfl, trivial⟩ trivial ?_
        refine G.op1 (op_move (Ev.t 25 (bI .i64 (IntKind.wrap .i64 (v4 + 1)))) rfl) rfl ⟨rfl, trivial⟩ trivial ?_
        refine G.endOps ?_
        exact G.arr (J5 (IntKind.wrap .i64 (v4 + 1)) hF) ⟨rfl, rfl, rfl, rfl, trivial⟩ trivial rfl
    · refine G.cond rfl (fun hx => by rw [hc8] at hx; cases hx) (fun _ => ?_)
      refine G.exit ?_
      refine GX.c ?_
      refine GX.q ?_
      refine GX.bYes ?_
      exact G.arr (J3 () hF) trivial trivial rfl


set_option maxRecDepth 20000 in
set_option maxHeartbeats 2000000 in
theorem ct_past_Same (p_0 : (List Api_Dep)) (q_1 : (List Api_Dep)) (r : Bool) (hF : past_Same p_0 q_1 = some r) : Ct Try.prog 14 [.g (.d (.sl 3 (List.map encApi_Dep p_0))), .g (.d (.sl 3 (List.map encApi_Dep q_1)))] (.one (.d (.v (.bool r)))) := by
  unfold past_Same at hF
  refine Ct.intro Try.func14 rfl Try.ntmps14 rfl rfl fun M w => ?_
  refine G.seq ?_
  refine G.region ?_
  refine G.op1 (op_assign (Ev.c _ rfl) rfl) rfl trivial trivial ?_
  refine G.endOps ?_
  refine G.seq ?_
  refine G.region ?_
  refine G.op1 (op_move (Ev.t 0 (.g (.d (.sl 3 (List.map encApi_Dep p_0))))) rfl) rfl ⟨rfl, trivial⟩ trivial ?_
  refine G.op1 (op_move (Ev.t 1 (.g (.d (.sl 3 (List.map encApi_Dep q_1))))) rfl) rfl ⟨rfl, trivial⟩ trivial ?_
  obtain ⟨r1, hr1, hF⟩ := bindS hF
  refine G.op1 (op_callQ (sv := .one (bB r1)) cf35 (ct_slices_Equal_Dep p_0 q_1 r1 hr1) rfl rfl (EvQL.cons (EvQ.g (Ev.t 5 (.g (.d (.sl 3 (List.map encApi_Dep p_0)))))) (EvQL.cons (EvQ.g (Ev.t 6 (.g (.d (.sl 3 (List.map encApi_Dep q_1)))))) EvQL.nil)) rfl) rfl ⟨rfl, rfl, trivial⟩ trivial ?_
  refine G.op1 (op_assign (Ev.t 7 (bB r1)) rfl) rfl ⟨rfl, trivial⟩ trivial ?_
  refine G.endOps ?_
  cases hF
  exact G.ret1 Try.results14 (RVar.tmp 4 _) ⟨rfl, trivial⟩ trivial


set_option maxRecDepth 20000 in
set_option maxHeartbeats 2000000 in
theorem ct_law04_PastAdd (l_0 : (List Api_Dep)) (d_1 : Api_Dep) (other_2 : ByteArray) (r : Bool) (hF : law04_PastAdd l_0 d_1 other_2 = some r) : Ct Try.prog 3 [.g (.d (.sl 3 (List.map encApi_Dep l_0))), .g (.agg (encApi_Dep d_1)), .g (.d (.v (.string other_2)))] (.one (.d (.v (.bool r)))) := by
  unfold law04_PastAdd at hF
  refine Ct.intro Try.func3 rfl Try.ntmps3 rfl rfl fun M w => ?_
  refine G.seq ?_
  refine G.region ?_
  refine G.op2 (op_boxA (k := 1004) (Ev.t 1 (.g (.agg [.v (.string d_1.Key), .v (.int .i64 d_1.Stamp.N), .v (.int .i64 d_1.Stamp.Site)]))) rfl) rfl ⟨rfl, trivial⟩ ⟨rfl, trivial⟩ ?_
  refine G.op1 (op_assign (Ev.c _ rfl) rfl) rfl trivial trivial ?_
  refine G.endOps ?_
  refine G.seq ?_
  refine G.region ?_
  obtain ⟨r1, hr1, hF⟩ := bindS hF
  refine G.op1 (op_callQ (sv := .one (bB r1)) cf9 (ct_law04_awake r1 hr1) rfl rfl EvQL.nil rfl) rfl trivial trivial ?_
  refine G.op1 (op_assign (Ev.t 14 (bB r1)) rfl) rfl ⟨rfl, trivial⟩ trivial ?_
  refine G.endOps ?_
  refine G.seq ?_
  refine G.region ?_
  refine G.op1 (op_move (Ev.t 0 (.g (.d (.sl 3 (List.map encApi_Dep l_0))))) rfl) rfl ⟨rfl, trivial⟩ trivial ?_
  obtain ⟨r2, hr2, hF⟩ := bindS hF
  refine G.op1 (op_call (sv := .one (.g (.d (.sl 3 (List.map encApi_Dep r2))))) cf10 (ct_law04_made l_0 r2 hr2) rfl (EvL.cons (Ev.t 15 (.g (.d (.sl 3 (List.map encApi_Dep l_0))))) EvL.nil) rfl) rfl ⟨rfl, trivial⟩ trivial ?_
  refine G.op1 (op_assign (Ev.t 16 (.g (.d (.sl 3 (List.map encApi_Dep r2))))) rfl) rfl ⟨rfl, trivial⟩ trivial ?_
  refine G.endOps ?_
  refine G.seq ?_
  refine G.region ?_
  refine G.op1 (op_move (Ev.t 8 (.g (.d (.sl 3 (List.map encApi_Dep r2))))) rfl) rfl ⟨rfl, trivial⟩ trivial ?_
  refine G.op1 (op_loadAP (ds := [.v (.string d_1.Key), .v (.int .i64 d_1.Stamp.N), .v (.int .i64 d_1.Stamp.Site)]) Try.underlying26 rfl ti26 rfl (Ev.t 4 (.ptr 1004 0)) rfl) rfl ⟨rfl, trivial⟩ ⟨rfl, trivial⟩ ?_
  obtain ⟨r3, hr3, hF⟩ := bindS hF
  refine G.op1 (op_call (sv := .one (.g (.d (.sl 3 (List.map encApi_Dep r3))))) cf11 (ct_past_Add r2 d_1 r3 hr3) rfl (EvL.cons (Ev.t 17 (.g (.d (.sl 3 (List.map encApi_Dep r2))))) (EvL.cons (Ev.t 18 (.g (.agg [.v (.string d_1.Key), .v (.int .i64 d_1.Stamp.N), .v (.int .i64 d_1.Stamp.Site)]))) EvL.nil)) rfl) rfl ⟨rfl, rfl, trivial⟩ trivial ?_
  refine G.op1 (op_assign (Ev.t 19 (.g (.d (.sl 3 (List.map encApi_Dep r3))))) rfl) rfl ⟨rfl, trivial⟩ trivial ?_
  refine G.endOps ?_
  refine G.seq ?_
  refine G.region ?_
  refine G.op1 (op_move (Ev.t 8 (.g (.d (.sl 3 (List.map encApi_Dep r2))))) rfl) rfl ⟨rfl, trivial⟩ trivial ?_
  refine G.op1 (op_fieldP (off' := 0) Try.underlying26 rfl ti9 (by decide) rfl (Ev.t 4 (.ptr 1004 0)) rfl) rfl ⟨rfl, trivial⟩ trivial ?_
  refine G.op1 (op_load1P (c := bS d_1.Key) Try.underlying9 rfl rfl (Ev.t 21 (.ptr 1004 0)) rfl) rfl ⟨rfl, trivial⟩ ⟨rfl, trivial⟩ ?_
  obtain ⟨r4, hr4, hF⟩ := bindS hF
  refine G.op1 (op_callQ (sv := .one (.g (.agg [.v (.int .i64 r4.N), .v (.int .i64 r4.Site)]))) cf12 (ct_past_Get r2 d_1.Key r4 hr4) rfl rfl (EvQL.cons (EvQ.g (Ev.t 20 (.g (.d (.sl 3 (List.map encApi_Dep r2)))))) (EvQL.cons (EvQ.g (Ev.t 22 (bS d_1.Key))) EvQL.nil)) rfl) rfl ⟨rfl, rfl, trivial⟩ trivial ?_
  refine G.op2 (op_alloc (k := 1010) (cs := [bI .i64 0, bI .i64 0]) ti24 ⟨.v _ rfl, .v _ rfl, trivial⟩ rfl) rfl trivial ⟨rfl, trivial⟩ ?_
  refine G.op3 (op_storeA (cs' := [bI .i64 r4.N, bI .i64 r4.Site]) ti24 rfl rfl (Ev.t 10 (.ptr 1010 0)) (Ev.t 23 (.g (.agg [.v (.int .i64 r4.N), .v (.int .i64 r4.Site)])))) rfl ⟨rfl, rfl, trivial⟩ ⟨rfl, trivial⟩ ?_
  refine G.endOps ?_
  refine G.seq ?_
  refine G.region ?_
  refine G.op1 (op_move (Ev.t 9 (.g (.d (.sl 3 (List.map encApi_Dep r3))))) rfl) rfl ⟨rfl, trivial⟩ trivial ?_
  refine G.op1 (op_fieldP (off' := 0) Try.underlying26 rfl ti9 (by decide) rfl (Ev.t 4 (.ptr 1004 0)) rfl) rfl ⟨rfl, trivial⟩ trivial ?_
  refine G.op1 (op_load1P (c := bS d_1.Key) Try.underlying9 rfl rfl (Ev.t 25 (.ptr 1004 0)) rfl) rfl ⟨rfl, trivial⟩ ⟨rfl, trivial⟩ ?_
  obtain ⟨r5, hr5, hF⟩ := bindS hF
  refine G.op1 (op_callQ (sv := .one (.g (.agg [.v (.int .i64 r5.N), .v (.int .i64 r5.Site)]))) cf12 (ct_past_Get r3 d_1.Key r5 hr5) rfl rfl (EvQL.cons (EvQ.g (Ev.t 24 (.g (.d (.sl 3 (List.map encApi_Dep r3)))))) (EvQL.cons (EvQ.g (Ev.t 26 (bS d_1.Key))) EvQL.nil)) rfl) rfl ⟨rfl, rfl, trivial⟩ trivial ?_
  refine G.op2 (op_alloc (k := 1011) (cs := [bI .i64 0, bI .i64 0]) ti24 ⟨.v _ rfl, .v _ rfl, trivial⟩ rfl) rfl trivial ⟨rfl, trivial⟩ ?_
  refine G.op3 (op_storeA (cs' := [bI .i64 r5.N, bI .i64 r5.Site]) ti24 rfl rfl (Ev.t 11 (.ptr 1011 0)) (Ev.t 27 (.g (.agg [.v (.int .i64 r5.N), .v (.int .i64 r5.Site)])))) rfl ⟨rfl, rfl, trivial⟩ ⟨rfl, trivial⟩ ?_
  refine G.endOps ?_
  refine G.seq ?_
  refine G.region ?_
  refine G.op1 (op_loadAP (ds := [.v (.string d_1.Key), .v (.int .i64 d_1.Stamp.N), .v (.int .i64 d_1.Stamp.Site)]) Try.underlying26 rfl ti26 rfl (Ev.t 4 (.ptr 1004 0)) rfl) rfl ⟨rfl, trivial⟩ ⟨rfl, trivial⟩ ?_
  refine G.op1 (op_buildSlice (es := List.map encApi_Dep [d_1]) Try.underlying22 ti26 rfl rfl (EvP.cons (Ev.t 28 (.g (.agg [.v (.string d_1.Key), .v (.int .i64 d_1.Stamp.N), .v (.int .i64 d_1.Stamp.Site)]))) EvP.nil) rfl rfl (by simp [encApi_Dep]) rfl) rfl ⟨rfl, trivial⟩ trivial ?_
  obtain ⟨r6, hr6, hF⟩ := bindS hF
  refine G.op1 (op_callQ (sv := .one (bB r6)) cf13 (ct_past_Check ([d_1]) r6 hr6) rfl rfl (EvQL.cons (EvQ.g (Ev.t 29 (.g (.d (.sl 3 (List.map encApi_Dep ([d_1]))))))) EvQL.nil) rfl) rfl ⟨rfl, trivial⟩ trivial ?_
  refine G.op1 (op_assign (Ev.t 30 (bB r6)) rfl) rfl ⟨rfl, trivial⟩ trivial ?_
  refine G.endOps ?_
  refine G.seq ?_
  refine G.seq ?_
  refine G.region ?_
  refine G.op1 (op_move (Ev.t 12 (bB r6)) rfl) rfl ⟨rfl, trivial⟩ trivial ?_
  refine G.op1 (op_not (Ev.t 31 (bB r6)) rfl) rfl ⟨rfl, trivial⟩ trivial ?_
  refine G.endOps ?_
  refine ifS hF (fun hc7 hF => ?_) (fun hc7 hF => ?_)
  · refine G.cond rfl (fun _ => ?_) (fun hx => by rw [hc7] at hx; cases hx)
    refine G.seq ?_
    refine G.joinC (T := Bool) (fun y8 => ⟨[(6, .one (bB y8))], []⟩) (fun y8 => law04_PastAdd_k1 y8 = some r) (fun y8 hF => ?_) (fun J9 => ?_)
    · unfold law04_PastAdd_k1 at hF
      cases hF
      exact G.ret1 Try.results3 (RVar.tmp 6 _) ⟨rfl, trivial⟩ trivial
    refine G.region ?_
    refine G.op1 (op_move (Ev.t 7 (bB r1)) rfl) rfl ⟨rfl, trivial⟩ trivial ?_
    refine G.op1 (op_move (Ev.t 33 (bB r1)) rfl) rfl ⟨rfl, trivial⟩ trivial ?_
    refine ifS hF (fun hc10 hF => ?_) (fun hc10 hF => ?_)
    · refine G.known (t := 34) hc10 rfl ?_
      refine G.opG1 (op_move (Ev.t 8 (.g (.d (.sl 3 (List.map encApi_Dep r2))))) rfl) rfl rfl rfl ⟨rfl, trivial⟩ trivial ?_
      refine G.opG1 (op_move (Ev.t 9 (.g (.d (.sl 3 (List.map encApi_Dep r3))))) rfl) rfl rfl rfl ⟨rfl, trivial⟩ trivial ?_
      obtain ⟨r11, hr11, hF⟩ := bindS hF
      refine G.opG1 (op_callQ (sv := .one (bB r11)) cf14 (ct_past_Same r2 r3 r11 hr11) rfl rfl (EvQL.cons (EvQ.g (Ev.t 35 (.g (.d (.sl 3 (List.map encApi_Dep r2)))))) (EvQL.cons (EvQ.g (Ev.t 36 (.g (.d (.sl 3 (List.map encApi_Dep r3)))))) EvQL.nil)) rfl) rfl rfl rfl ⟨rfl, rfl, trivial⟩ trivial ?_
      refine G.op1 (op_pickT (Ev.t 34 (bB true)) (Ev.t 37 (bB r11)) rfl) rfl ⟨rfl, rfl, trivial⟩ trivial ?_
      refine G.op1 (op_assign (Ev.t 38 (bB r11)) rfl) rfl ⟨rfl, trivial⟩ trivial ?_
      refine G.endOps ?_
      exact G.arr (J9 r11 hF) ⟨rfl, trivial⟩ trivial rfl
    · refine G.known (t := 34) hc10 rfl ?_
      refine G.opN1 rfl rfl rfl rfl rfl ?_
      refine G.opN1 rfl rfl rfl rfl rfl ?_
      refine G.opN1 rfl rfl rfl rfl rfl ?_
      refine G.op1 (op_pickF (Ev.t 34 (bB false)) (Ev.c _ rfl) rfl) rfl ⟨rfl, trivial⟩ trivial ?_
      refine G.op1 (op_assign (Ev.t 38 (bB false)) rfl) rfl ⟨rfl, trivial⟩ trivial ?_
      refine G.endOps ?_
      exact G.arr (J9 false hF) ⟨rfl, trivial⟩ trivial rfl
  · refine G.cond rfl (fun hx => by rw [hc7] at hx; cases hx) (fun _ => ?_)
    refine G.skip ?_
    refine G.seq ?_
    refine G.region ?_
    refine G.op1 (op_loadAP (ds := [.v (.int .i64 r4.N), .v (.int .i64 r4.Site)]) Try.underlying24 rfl ti24 rfl (Ev.t 10 (.ptr 1010 0)) rfl) rfl ⟨rfl, trivial⟩ ⟨rfl, trivial⟩ ?_
    refine G.op2 (op_alloc (k := 1013) (cs := [bI .i64 0, bI .i64 0]) ti24 ⟨.v _ rfl, .v _ rfl, trivial⟩ rfl) rfl trivial ⟨rfl, trivial⟩ ?_
    refine G.op3 (op_storeA (cs' := [bI .i64 r4.N, bI .i64 r4.Site]) ti24 rfl rfl (Ev.t 13 (.ptr 1013 0)) (Ev.t 39 (.g (.agg [.v (.int .i64 r4.N), .v (.int .i64 r4.Site)])))) rfl ⟨rfl, rfl, trivial⟩ ⟨rfl, trivial⟩ ?_
    refine G.endOps ?_
    refine G.seq ?_
    refine G.seq ?_
    refine G.joinC (T := Bool) (fun y12 => ⟨[(2, .one (bS other_2)), (4, .one (.ptr 1004 0)), (7, .one (bB r1)), (8, .one (.g (.d (.sl 3 (List.map encApi_Dep r2))))), (9, .one (.g (.d (.sl 3 (List.map encApi_Dep r3))))), (11, .one (.ptr 1011 0)), (13, .one (.ptr 1013 0)), (61, .one (bB y12))], [(1004, some (.blk 26 [bS d_1.Key, bI .i64 d_1.Stamp.N, bI .i64 d_1.Stamp.Site])), (1011, some (.blk 24 [bI .i64 r5.N, bI .i64 r5.Site])), (1013, some (.blk 24 [bI .i64 r4.N, bI .i64 r4.Site]))]⟩) (fun y12 => law04_PastAdd_k2 d_1 other_2 r1 r2 r3 r4 r5 y12 = some r) (fun y12 hF => ?_) (fun J32 => ?_)
    · unfold law04_PastAdd_k2 at hF
      refine G.joinC (T := Int × Int) (fun y13 => ⟨[(2, .one (bS other_2)), (4, .one (.ptr 1004 0)), (7, .one (bB r1)), (8, .one (.g (.d (.sl 3 (List.map encApi_Dep r2))))), (9, .one (.g (.d (.sl 3 (List.map encApi_Dep r3))))), (11, .one (.ptr 1011 0)), (13, .one (.ptr 1013 0))], [(1004, some (.blk 26 [bS d_1.Key, bI .i64 d_1.Stamp.N, bI .i64 d_1.Stamp.Site])), (1011, some (.blk 24 [bI .i64 r5.N, bI .i64 r5.Site])), (1013, some (.blk 24 [bI .i64 y13.1, bI .i64 y13.2]))]⟩) (fun y13 => law04_PastAdd_k3 d_1 other_2 r1 r2 r3 r5 y13 = some r) (fun y13 hF => ?_) (fun J30 => ?_)
      · unfold law04_PastAdd_k3 at hF
        refine G.seq ?_
        refine G.region ?_
        refine G.op1 (op_move (Ev.t 7 (bB r1)) rfl) rfl ⟨rfl, trivial⟩ trivial ?_
        refine G.op1 (op_move (Ev.t 64 (bB r1)) rfl) rfl ⟨rfl, trivial⟩ trivial ?_
        refine G.joinL (T := Bool) 4 (fun y14 => ⟨[(2, .one (bS other_2)), (4, .one (.ptr 1004 0)), (8, .one (.g (.d (.sl 3 (List.map encApi_Dep r2))))), (9, .one (.g (.d (.sl 3 (List.map encApi_Dep r3))))), (69, .one (bB y14))], [(1004, some (.blk 26 [bS d_1.Key, bI .i64 d_1.Stamp.N, bI .i64 d_1.Stamp.Site]))]⟩) (fun y14 => law04_PastAdd_k4 d_1 other_2 r2 r3 y14 = some r) (fun y14 hF => ?_) (fun J28 => ?_)
        · unfold law04_PastAdd_k4 at hF
          refine G.op1 (op_move (Ev.t 69 (bB y14)) rfl) rfl ⟨rfl, trivial⟩ trivial ?_
          refine G.joinL (T := Bool) 14 (fun y15 => ⟨[(4, .one (.ptr 1004 0)), (8, .one (.g (.d (.sl 3 (List.map encApi_Dep r2))))), (9, .one (.g (.d (.sl 3 (List.map encApi_Dep r3))))), (84, .one (bB y15))], [(1004, some (.blk 26 [bS d_1.Key, bI .i64 d_1.Stamp.N, bI .i64 d_1.Stamp.Site]))]⟩) (fun y15 => law04_PastAdd_k5 d_1 r2 r3 y15 = some r) (fun y15 hF => ?_) (fun J23 => ?_)
          · unfold law04_PastAdd_k5 at hF
            refine G.op1 (op_move (Ev.t 84 (bB y15)) rfl) rfl ⟨rfl, trivial⟩ trivial ?_
            refine G.joinL (T := Bool) 4 (fun y16 => ⟨[(4, .one (.ptr 1004 0)), (9, .one (.g (.d (.sl 3 (List.map encApi_Dep r3))))), (89, .one (bB y16))], [(1004, some (.blk 26 [bS d_1.Key, bI .i64 d_1.Stamp.N, bI .i64 d_1.Stamp.Site]))]⟩) (fun y16 => law04_PastAdd_k6 d_1 r3 y16 = some r) (fun y16 hF => ?_) (fun J20 => ?_)
            · unfold law04_PastAdd_k6 at hF
              refine G.op1 (op_move (Ev.t 89 (bB y16)) rfl) rfl ⟨rfl, trivial⟩ trivial ?_
              refine ifS hF (fun hc17 hF => ?_) (fun hc17 hF => ?_)
              · refine G.known (t := 90) hc17 rfl ?_
                refine G.opG1 (op_move (Ev.t 9 (.g (.d (.sl 3 (List.map encApi_Dep r3))))) rfl) rfl rfl rfl ⟨rfl, trivial⟩ trivial ?_
                refine G.opG1 (op_loadAP (ds := [.v (.string d_1.Key), .v (.int .i64 d_1.Stamp.N), .v (.int .i64 d_1.Stamp.Site)]) Try.underlying26 rfl ti26 rfl (Ev.t 4 (.ptr 1004 0)) rfl) rfl rfl rfl ⟨rfl, trivial⟩ ⟨rfl, trivial⟩ ?_
                obtain ⟨r18, hr18, hF⟩ := bindS hF
                refine G.opG1 (op_call (sv := .one (.g (.d (.sl 3 (List.map encApi_Dep r18))))) cf11 (ct_past_Add r3 d_1 r18 hr18) rfl (EvL.cons (Ev.t 91 (.g (.d (.sl 3 (List.map encApi_Dep r3))))) (EvL.cons (Ev.t 92 (.g (.agg [.v (.string d_1.Key), .v (.int .i64 d_1.Stamp.N), .v (.int .i64 d_1.Stamp.Site)]))) EvL.nil)) rfl) rfl rfl rfl ⟨rfl, rfl, trivial⟩ trivial ?_
                refine G.opG1 (op_move (Ev.t 9 (.g (.d (.sl 3 (List.map encApi_Dep r3))))) rfl) rfl rfl rfl ⟨rfl, trivial⟩ trivial ?_
                obtain ⟨r19, hr19, hF⟩ := bindS hF
                refine G.opG1 (op_callQ (sv := .one (bB r19)) cf14 (ct_past_Same r18 r3 r19 hr19) rfl rfl (EvQL.cons (EvQ.g (Ev.t 93 (.g (.d (.sl 3 (List.map encApi_Dep r18)))))) (EvQL.cons (EvQ.g (Ev.t 94 (.g (.d (.sl 3 (List.map encApi_Dep r3)))))) EvQL.nil)) rfl) rfl rfl rfl ⟨rfl, rfl, trivial⟩ trivial ?_
                refine G.op1 (op_pickT (Ev.t 90 (bB true)) (Ev.t 95 (bB r19)) rfl) rfl ⟨rfl, rfl, trivial⟩ trivial ?_
                refine G.op1 (op_assign (Ev.t 96 (bB r19)) rfl) rfl ⟨rfl, trivial⟩ trivial ?_
                refine G.endOps ?_
                cases hF
                exact G.ret1 Try.results3 (RVar.tmp 6 _) ⟨rfl, trivial⟩ trivial
              · refine G.known (t := 90) hc17 rfl ?_
                refine G.opN1 rfl rfl rfl rfl rfl ?_
                refine G.opN1 rfl rfl rfl rfl rfl ?_
                refine G.opN1 rfl rfl rfl rfl rfl ?_
                refine G.opN1 rfl rfl rfl rfl rfl ?_
                refine G.opN1 rfl rfl rfl rfl rfl ?_
                refine G.op1 (op_pickF (Ev.t 90 (bB false)) (Ev.c _ rfl) rfl) rfl ⟨rfl, trivial⟩ trivial ?_
                refine G.op1 (op_assign (Ev.t 96 (bB false)) rfl) rfl ⟨rfl, trivial⟩ trivial ?_
                refine G.endOps ?_
                cases hF
                exact G.ret1 Try.results3 (RVar.tmp 6 _) ⟨rfl, trivial⟩ trivial
            refine ifS hF (fun hc21 hF => ?_) (fun hc21 hF => ?_)
            · refine G.known (t := 85) hc21 rfl ?_
              refine G.opG1 (op_move (Ev.t 9 (.g (.d (.sl 3 (List.map encApi_Dep r3))))) rfl) rfl rfl rfl ⟨rfl, trivial⟩ trivial ?_
              refine G.opG1 (op_move (Ev.t 8 (.g (.d (.sl 3 (List.map encApi_Dep r2))))) rfl) rfl rfl rfl ⟨rfl, trivial⟩ trivial ?_
              obtain ⟨r22, hr22, hF⟩ := bindS hF
              refine G.opG1 (op_callQ (sv := .one (bB r22)) cf15 (ct_past_Covers r3 r2 r22 hr22) rfl rfl (EvQL.cons (EvQ.g (Ev.t 86 (.g (.d (.sl 3 (List.map encApi_Dep r3)))))) (EvQL.cons (EvQ.g (Ev.t 87 (.g (.d (.sl 3 (List.map encApi_Dep r2)))))) EvQL.nil)) rfl) rfl rfl rfl ⟨rfl, rfl, trivial⟩ trivial ?_
              refine G.op1 (op_pickT (Ev.t 85 (bB true)) (Ev.t 88 (bB r22)) rfl) rfl ⟨rfl, rfl, trivial⟩ trivial ?_
              exact G.arr (J20 r22 hF) ⟨rfl, rfl, rfl, trivial⟩ ⟨rfl, trivial⟩ rfl
            · refine G.known (t := 85) hc21 rfl ?_
              refine G.opN1 rfl rfl rfl rfl rfl ?_
              refine G.opN1 rfl rfl rfl rfl rfl ?_
              refine G.opN1 rfl rfl rfl rfl rfl ?_
              refine G.op1 (op_pickF (Ev.t 85 (bB false)) (Ev.c _ rfl) rfl) rfl ⟨rfl, trivial⟩ trivial ?_
              exact G.arr (J20 false hF) ⟨rfl, rfl, rfl, trivial⟩ ⟨rfl, trivial⟩ rfl
          refine ifS hF (fun hc24 hF => ?_) (fun hc24 hF => ?_)
          · refine G.known (t := 70) hc24 rfl ?_
            refine G.opG1 (op_move (Ev.t 2 (bS other_2)) rfl) rfl rfl rfl ⟨rfl, trivial⟩ trivial ?_
            refine G.opG1 (op_fieldP (off' := 0) Try.underlying26 rfl ti9 (by decide) rfl (Ev.t 4 (.ptr 1004 0)) rfl) rfl rfl rfl ⟨rfl, trivial⟩ trivial ?_
            refine G.opG1 (op_load1P (c := bS d_1.Key) Try.underlying9 rfl rfl (Ev.t 72 (.ptr 1004 0)) rfl) rfl rfl rfl ⟨rfl, trivial⟩ ⟨rfl, trivial⟩ ?_
            refine G.opG1 (op_eqS (Ev.t 71 (bS other_2)) (Ev.t 73 (bS d_1.Key)) rfl) rfl rfl rfl ⟨rfl, rfl, trivial⟩ trivial ?_
            refine G.opG1 (op_move (Ev.t 74 (bB (seq other_2 d_1.Key))) rfl) rfl rfl rfl ⟨rfl, trivial⟩ trivial ?_
            refine ifS hF (fun hc25 hF => ?_) (fun hc25 hF => ?_)
            · refine G.known (t := 75) hc25 rfl ?_
              refine G.opN1 rfl rfl rfl rfl rfl ?_
              refine G.opN1 rfl rfl rfl rfl rfl ?_
              refine G.opN1 rfl rfl rfl rfl rfl ?_
              refine G.opN1 rfl rfl rfl rfl rfl ?_
              refine G.opN1 rfl rfl rfl rfl rfl ?_
              refine G.opN1 rfl rfl rfl rfl rfl ?_
              refine G.opN1 rfl rfl rfl rfl rfl ?_
              refine G.opG1 (op_pickT (Ev.t 75 (bB true)) (Ev.c _ rfl) rfl) rfl rfl rfl ⟨rfl, trivial⟩ trivial ?_
              refine G.op1 (op_pickT (Ev.t 70 (bB true)) (Ev.t 83 (bB true)) rfl) rfl ⟨rfl, rfl, trivial⟩ trivial ?_
              exact G.arr (J23 true hF) ⟨rfl, rfl, rfl, rfl, trivial⟩ ⟨rfl, trivial⟩ rfl
            · refine G.known (t := 75) hc25 rfl ?_
              refine G.opG1 (op_move (Ev.t 9 (.g (.d (.sl 3 (List.map encApi_Dep r3))))) rfl) rfl rfl rfl ⟨rfl, trivial⟩ trivial ?_
              refine G.opG1 (op_move (Ev.t 2 (bS other_2)) rfl) rfl rfl rfl ⟨rfl, trivial⟩ trivial ?_
              obtain ⟨r26, hr26, hF⟩ := bindS hF
              refine G.opG1 (op_callQ (sv := .one (.g (.agg [.v (.int .i64 r26.N), .v (.int .i64 r26.Site)]))) cf12 (ct_past_Get r3 other_2 r26 hr26) rfl rfl (EvQL.cons (EvQ.g (Ev.t 76 (.g (.d (.sl 3 (List.map encApi_Dep r3)))))) (EvQL.cons (EvQ.g (Ev.t 77 (bS other_2))) EvQL.nil)) rfl) rfl rfl rfl ⟨rfl, rfl, trivial⟩ trivial ?_
              refine G.opG1 (op_move (Ev.t 8 (.g (.d (.sl 3 (List.map encApi_Dep r2))))) rfl) rfl rfl rfl ⟨rfl, trivial⟩ trivial ?_
              refine G.opG1 (op_move (Ev.t 2 (bS other_2)) rfl) rfl rfl rfl ⟨rfl, trivial⟩ trivial ?_
              obtain ⟨r27, hr27, hF⟩ := bindS hF
              refine G.opG1 (op_callQ (sv := .one (.g (.agg [.v (.int .i64 r27.N), .v (.int .i64 r27.Site)]))) cf12 (ct_past_Get r2 other_2 r27 hr27) rfl rfl (EvQL.cons (EvQ.g (Ev.t 79 (.g (.d (.sl 3 (List.map encApi_Dep r2)))))) (EvQL.cons (EvQ.g (Ev.t 80 (bS other_2))) EvQL.nil)) rfl) rfl rfl rfl ⟨rfl, rfl, trivial⟩ trivial ?_
              refine G.opG1 (op_eqA (us := [.int .i64 r26.N, .int .i64 r26.Site]) (vs := [.int .i64 r27.N, .int .i64 r27.Site]) rfl rfl Try.eqGuardType24 (fun w => eq24 r26.N r26.Site r27.N r27.Site w) (Ev.t 78 (.g (.agg [.v (.int .i64 r26.N), .v (.int .i64 r26.Site)]))) (Ev.t 81 (.g (.agg [.v (.int .i64 r27.N), .v (.int .i64 r27.Site)]))) rfl) rfl rfl rfl ⟨rfl, rfl, trivial⟩ trivial ?_
              refine G.opG1 (op_pickF (Ev.t 75 (bB false)) (Ev.t 82 (bB (decide (r26.N = r27.N) && decide (r26.Site = r27.Site)))) rfl) rfl rfl rfl ⟨rfl, rfl, trivial⟩ trivial ?_
              refine G.op1 (op_pickT (Ev.t 70 (bB true)) (Ev.t 83 (bB (decide (r26.N = r27.N) && decide (r26.Site = r27.Site)))) rfl) rfl ⟨rfl, rfl, trivial⟩ trivial ?_
              exact G.arr (J23 (decide (r26.N = r27.N) && decide (r26.Site = r27.Site)) hF) ⟨rfl, rfl, rfl, rfl, trivial⟩ ⟨rfl, trivial⟩ rfl
          · refine G.known (t := 70) hc24 rfl ?_
            refine G.opN1 rfl rfl rfl rfl rfl ?_
            refine G.opN1 rfl rfl rfl rfl rfl ?_
            refine G.opN1 rfl rfl rfl rfl rfl ?_
            refine G.opN1 rfl rfl rfl rfl rfl ?_
            refine G.opN1 rfl rfl rfl rfl rfl ?_
            refine G.opU rfl rfl rfl rfl ?_
            refine G.opU rfl rfl rfl rfl ?_
            refine G.opU rfl rfl rfl rfl ?_
            refine G.opU rfl rfl rfl rfl ?_
            refine G.opU rfl rfl rfl rfl ?_
            refine G.opU rfl rfl rfl rfl ?_
            refine G.opU rfl rfl rfl rfl ?_
            refine G.opN1 rfl rfl rfl rfl rfl ?_
            refine G.op1 (op_pickF (Ev.t 70 (bB false)) (Ev.c _ rfl) rfl) rfl ⟨rfl, trivial⟩ trivial ?_
            exact G.arr (J23 false hF) ⟨rfl, rfl, rfl, rfl, trivial⟩ ⟨rfl, trivial⟩ rfl
        refine ifS hF (fun hc29 hF => ?_) (fun hc29 hF => ?_)
        · refine G.known (t := 65) hc29 rfl ?_
          refine G.opG1 (op_loadAP (ds := [.v (.int .i64 r5.N), .v (.int .i64 r5.Site)]) Try.underlying24 rfl ti24 rfl (Ev.t 11 (.ptr 1011 0)) rfl) rfl rfl rfl ⟨rfl, trivial⟩ ⟨rfl, trivial⟩ ?_
          refine G.opG1 (op_loadAP (ds := [.v (.int .i64 y13.1), .v (.int .i64 y13.2)]) Try.underlying24 rfl ti24 rfl (Ev.t 13 (.ptr 1013 0)) rfl) rfl rfl rfl ⟨rfl, trivial⟩ ⟨rfl, trivial⟩ ?_
          refine G.opG1 (op_eqA (us := [.int .i64 r5.N, .int .i64 r5.Site]) (vs := [.int .i64 y13.1, .int .i64 y13.2]) rfl rfl Try.eqGuardType24 (fun w => eq24 r5.N r5.Site y13.1 y13.2 w) (Ev.t 66 (.g (.agg [.v (.int .i64 r5.N), .v (.int .i64 r5.Site)]))) (Ev.t 67 (.g (.agg [.v (.int .i64 y13.1), .v (.int .i64 y13.2)]))) rfl) rfl rfl rfl ⟨rfl, rfl, trivial⟩ trivial ?_
          refine G.op1 (op_pickT (Ev.t 65 (bB true)) (Ev.t 68 (bB (decide (r5.N = y13.1) && decide (r5.Site = y13.2)))) rfl) rfl ⟨rfl, rfl, trivial⟩ trivial ?_
          exact G.arr (J28 (decide (r5.N = y13.1) && decide (r5.Site = y13.2)) hF) ⟨rfl, rfl, rfl, rfl, rfl, trivial⟩ ⟨rfl, trivial⟩ rfl
        · refine G.known (t := 65) hc29 rfl ?_
          refine G.opN1 rfl rfl rfl rfl rfl ?_
          refine G.opN1 rfl rfl rfl rfl rfl ?_
          refine G.opN1 rfl rfl rfl rfl rfl ?_
          refine G.op1 (op_pickF (Ev.t 65 (bB false)) (Ev.c _ rfl) rfl) rfl ⟨rfl, trivial⟩ trivial ?_
          exact G.arr (J28 false hF) ⟨rfl, rfl, rfl, rfl, rfl, trivial⟩ ⟨rfl, trivial⟩ rfl
      refine ifS hF (fun hc31 hF => ?_) (fun hc31 hF => ?_)
      · refine G.cond rfl (fun _ => ?_) (fun hx => by rw [hc31] at hx; cases hx)
        refine G.region ?_
        refine G.op1 (op_fieldP (off' := 1) Try.underlying26 rfl ti24 (by decide) rfl (Ev.t 4 (.ptr 1004 0)) rfl) rfl ⟨rfl, trivial⟩ trivial ?_
        refine G.op1 (op_loadAP (ds := [.v (.int .i64 d_1.Stamp.N), .v (.int .i64 d_1.Stamp.Site)]) Try.underlying24 rfl ti24 rfl (Ev.t 62 (.ptr 1004 1)) rfl) rfl ⟨rfl, trivial⟩ ⟨rfl, trivial⟩ ?_
        refine G.op3 (op_storeA (cs' := [bI .i64 d_1.Stamp.N, bI .i64 d_1.Stamp.Site]) ti24 rfl rfl (Ev.t 13 (.ptr 1013 0)) (Ev.t 63 (.g (.agg [.v (.int .i64 d_1.Stamp.N), .v (.int .i64 d_1.Stamp.Site)])))) rfl ⟨rfl, rfl, trivial⟩ ⟨rfl, trivial⟩ ?_
        refine G.endOps ?_
        exact G.arr (J30 (d_1.Stamp.N, d_1.Stamp.Site) hF) ⟨rfl, rfl, rfl, rfl, rfl, rfl, rfl, trivial⟩ ⟨rfl, rfl, rfl, trivial⟩ rfl
      · refine G.cond rfl (fun hx => by rw [hc31] at hx; cases hx) (fun _ => ?_)
        refine G.skip ?_
        exact G.arr (J30 (r4.N, r4.Site) hF) ⟨rfl, rfl, rfl, rfl, rfl, rfl, rfl, trivial⟩ ⟨rfl, rfl, rfl, trivial⟩ rfl
    refine G.region ?_
    refine G.op1 (op_fieldP (off' := 0) Try.underlying24 rfl ti3 (by decide) rfl (Ev.t 10 (.ptr 1010 0)) rfl) rfl ⟨rfl, trivial⟩ trivial ?_
    refine G.op1 (op_load1P (c := bI .i64 r4.N) Try.underlying3 rfl rfl (Ev.t 40 (.ptr 1010 0)) rfl) rfl ⟨rfl, trivial⟩ ⟨rfl, trivial⟩ ?_
    refine G.op1 (op_fieldP (off' := 1) Try.underlying26 rfl ti24 (by decide) rfl (Ev.t 4 (.ptr 1004 0)) rfl) rfl ⟨rfl, trivial⟩ trivial ?_
    refine G.op1 (op_fieldP (off' := 1) Try.underlying24 rfl ti3 (by decide) rfl (Ev.t 42 (.ptr 1004 1)) rfl) rfl ⟨rfl, trivial⟩ trivial ?_
    refine G.op1 (op_load1P (c := bI .i64 d_1.Stamp.N) Try.underlying3 rfl rfl (Ev.t 43 (.ptr 1004 1)) rfl) rfl ⟨rfl, trivial⟩ ⟨rfl, trivial⟩ ?_
    refine G.op1 (op_lss (Ev.t 41 (bI .i64 r4.N)) (Ev.t 44 (bI .i64 d_1.Stamp.N)) rfl) rfl ⟨rfl, rfl, trivial⟩ trivial ?_
    refine G.op1 (op_move (Ev.t 45 (bB (decide (r4.N < d_1.Stamp.N)))) rfl) rfl ⟨rfl, trivial⟩ trivial ?_
    refine ifS hF (fun hc33 hF => ?_) (fun hc33 hF => ?_)
    · refine G.known (t := 46) hc33 rfl ?_
      refine G.opN1 rfl rfl rfl rfl rfl ?_
      refine G.opN1 rfl rfl rfl rfl rfl ?_
      refine G.opN1 rfl rfl rfl rfl rfl ?_
      refine G.opN1 rfl rfl rfl rfl rfl ?_
      refine G.opN1 rfl rfl rfl rfl rfl ?_
      refine G.opN1 rfl rfl rfl rfl rfl ?_
      refine G.opN1 rfl rfl rfl rfl rfl ?_
      refine G.opU rfl rfl rfl rfl ?_
      refine G.opU rfl rfl rfl rfl ?_
      refine G.opU rfl rfl rfl rfl ?_
      refine G.opU rfl rfl rfl rfl ?_
      refine G.opU rfl rfl rfl rfl ?_
      refine G.opU rfl rfl rfl rfl ?_
      refine G.opN1 rfl rfl rfl rfl rfl ?_
      refine G.op1 (op_pickT (Ev.t 46 (bB true)) (Ev.c _ rfl) rfl) rfl ⟨rfl, trivial⟩ trivial ?_
      refine G.endOps ?_
      exact G.arr (J32 true hF) ⟨rfl, rfl, rfl, rfl, rfl, rfl, rfl, rfl, trivial⟩ ⟨rfl, rfl, rfl, trivial⟩ rfl
    · refine G.known (t := 46) hc33 rfl ?_
      refine G.opG1 (op_fieldP (off' := 0) Try.underlying24 rfl ti3 (by decide) rfl (Ev.t 10 (.ptr 1010 0)) rfl) rfl rfl rfl ⟨rfl, trivial⟩ trivial ?_
      refine G.opG1 (op_load1P (c := bI .i64 r4.N) Try.underlying3 rfl rfl (Ev.t 47 (.ptr 1010 0)) rfl) rfl rfl rfl ⟨rfl, trivial⟩ ⟨rfl, trivial⟩ ?_
      refine G.opG1 (op_fieldP (off' := 1) Try.underlying26 rfl ti24 (by decide) rfl (Ev.t 4 (.ptr 1004 0)) rfl) rfl rfl rfl ⟨rfl, trivial⟩ trivial ?_
      refine G.opG1 (op_fieldP (off' := 1) Try.underlying24 rfl ti3 (by decide) rfl (Ev.t 49 (.ptr 1004 1)) rfl) rfl rfl rfl ⟨rfl, trivial⟩ trivial ?_
      refine G.opG1 (op_load1P (c := bI .i64 d_1.Stamp.N) Try.underlying3 rfl rfl (Ev.t 50 (.ptr 1004 1)) rfl) rfl rfl rfl ⟨rfl, trivial⟩ ⟨rfl, trivial⟩ ?_
      refine G.opG1 (op_eqI (Ev.t 48 (bI .i64 r4.N)) (Ev.t 51 (bI .i64 d_1.Stamp.N)) rfl) rfl rfl rfl ⟨rfl, rfl, trivial⟩ trivial ?_
      refine G.opG1 (op_move (Ev.t 52 (bB (decide (r4.N = d_1.Stamp.N)))) rfl) rfl rfl rfl ⟨rfl, trivial⟩ trivial ?_
      refine ifS hF (fun hc34 hF => ?_) (fun hc34 hF => ?_)
      · refine G.known (t := 53) hc34 rfl ?_
        refine G.opG1 (op_fieldP (off' := 1) Try.underlying24 rfl ti3 (by decide) rfl (Ev.t 10 (.ptr 1010 0)) rfl) rfl rfl rfl ⟨rfl, trivial⟩ trivial ?_
        refine G.opG1 (op_load1P (c := bI .i64 r4.Site) Try.underlying3 rfl rfl (Ev.t 54 (.ptr 1010 1)) rfl) rfl rfl rfl ⟨rfl, trivial⟩ ⟨rfl, trivial⟩ ?_
        refine G.opG1 (op_fieldP (off' := 1) Try.underlying26 rfl ti24 (by decide) rfl (Ev.t 4 (.ptr 1004 0)) rfl) rfl rfl rfl ⟨rfl, trivial⟩ trivial ?_
        refine G.opG1 (op_fieldP (off' := 2) Try.underlying24 rfl ti3 (by decide) rfl (Ev.t 56 (.ptr 1004 1)) rfl) rfl rfl rfl ⟨rfl, trivial⟩ trivial ?_
        refine G.opG1 (op_load1P (c := bI .i64 d_1.Stamp.Site) Try.underlying3 rfl rfl (Ev.t 57 (.ptr 1004 2)) rfl) rfl rfl rfl ⟨rfl, trivial⟩ ⟨rfl, trivial⟩ ?_
        refine G.opG1 (op_lss (Ev.t 55 (bI .i64 r4.Site)) (Ev.t 58 (bI .i64 d_1.Stamp.Site)) rfl) rfl rfl rfl ⟨rfl, rfl, trivial⟩ trivial ?_
        refine G.opG1 (op_pickT (Ev.t 53 (bB true)) (Ev.t 59 (bB (decide (r4.Site < d_1.Stamp.Site)))) rfl) rfl rfl rfl ⟨rfl, rfl, trivial⟩ trivial ?_
        refine G.op1 (op_pickF (Ev.t 46 (bB false)) (Ev.t 60 (bB (decide (r4.Site < d_1.Stamp.Site)))) rfl) rfl ⟨rfl, rfl, trivial⟩ trivial ?_
        refine G.endOps ?_
        exact G.arr (J32 (decide (r4.Site < d_1.Stamp.Site)) hF) ⟨rfl, rfl, rfl, rfl, rfl, rfl, rfl, rfl, trivial⟩ ⟨rfl, rfl, rfl, trivial⟩ rfl
      · refine G.known (t := 53) hc34 rfl ?_
        refine G.opN1 rfl rfl rfl rfl rfl ?_
        refine G.opN1 rfl rfl rfl rfl rfl ?_
        refine G.opN1 rfl rfl rfl rfl rfl ?_
        refine G.opN1 rfl rfl rfl rfl rfl ?_
        refine G.opN1 rfl rfl rfl rfl rfl ?_
        refine G.opN1 rfl rfl rfl rfl rfl ?_
        refine G.opG1 (op_pickF (Ev.t 53 (bB false)) (Ev.c _ rfl) rfl) rfl rfl rfl ⟨rfl, trivial⟩ trivial ?_
        refine G.op1 (op_pickF (Ev.t 46 (bB false)) (Ev.t 60 (bB false)) rfl) rfl ⟨rfl, rfl, trivial⟩ trivial ?_
        refine G.endOps ?_
        exact G.arr (J32 false hF) ⟨rfl, rfl, rfl, rfl, rfl, rfl, rfl, rfl, trivial⟩ ⟨rfl, rfl, rfl, trivial⟩ rfl


end Go.Ark
