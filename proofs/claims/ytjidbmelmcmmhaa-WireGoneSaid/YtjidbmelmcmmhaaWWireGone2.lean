/- Walks, printed by a program of mine: each function of the program computes the typed function of its name. Conditions: none. -/
import Derived.Test.YtjidbmelmcmmhaaWWireGone1
namespace Go.Ark
open Go Go.Ab Go.RowKit Go.Lib Go.Proofs

set_option maxRecDepth 20000 in
set_option maxHeartbeats 2000000 in
theorem ct_slices_Equal_Dep (s1_0 : (List Api_Dep)) (s2_1 : (List Api_Dep)) (r : Bool) (hF : slices_Equal_Dep s1_0 s2_1 = some r) : Ct Try.prog 62 [.g (.d (.sl 3 (List.map encApi_Dep s1_0))), .g (.d (.sl 3 (List.map encApi_Dep s2_1)))] (.one (.d (.v (.bool r)))) := by
  unfold slices_Equal_Dep at hF
  refine Ct.intro Try.func62 rfl Try.ntmps62 rfl rfl fun M w => ?_
  refine G.seq ?_
  refine G.region ?_
  refine G.op1 (op_assign (Ev.c _ rfl) rfl) rfl trivial trivial ?_
  refine G.endOps ?_
  refine G.seq ?_
  refine G.seq ?_
  refine G.region ?_
  refine G.op1 (op_move (Ev.t 0 (.g (.d (.sl 3 (List.map encApi_Dep s1_0))))) rfl) rfl ⟨rfl, trivial⟩ trivial ?_
  refine G.op1 (OpL.cast (op_lenD Try.underlying24 (Ev.t 6 (.g (.d (.sl 3 (List.map encApi_Dep s1_0))))) rfl) (by rw [List.length_map])) rfl ⟨rfl, trivial⟩ trivial ?_
  refine G.op1 (op_move (Ev.t 1 (.g (.d (.sl 3 (List.map encApi_Dep s2_1))))) rfl) rfl ⟨rfl, trivial⟩ trivial ?_
  refine G.op1 (OpL.cast (op_lenD Try.underlying24 (Ev.t 8 (.g (.d (.sl 3 (List.map encApi_Dep s2_1))))) rfl) (by rw [List.length_map])) rfl ⟨rfl, trivial⟩ trivial ?_
  refine G.op1 (op_neI (Ev.t 7 (bI .i64 (s1_0.length : Int))) (Ev.t 9 (bI .i64 (s2_1.length : Int))) rfl) rfl ⟨rfl, rfl, trivial⟩ trivial ?_
  refine G.endOps ?_
  refine ifS hF (fun hc1 hF => ?_) (fun hc1 hF => ?_)
  · refine G.cond rfl (fun _ => ?_) (fun hx => by rw [hc1] at hx; cases hx)
    refine G.seq ?_
    refine G.region ?_
    refine G.op1 (op_assign (Ev.c _ rfl) rfl) rfl trivial trivial ?_
    refine G.endOps ?_
    cases hF
    exact G.ret1 Try.results62 (RVar.tmp 4 _) ⟨rfl, trivial⟩ trivial
  · refine G.cond rfl (fun hx => by rw [hc1] at hx; cases hx) (fun _ => ?_)
    refine G.skip ?_
    refine G.seq ?_
    refine G.seq ?_
    refine G.region ?_
    refine G.op1 (op_move (Ev.t 0 (.g (.d (.sl 3 (List.map encApi_Dep s1_0))))) rfl) rfl ⟨rfl, trivial⟩ trivial ?_
    refine G.op1 (OpL.cast (op_lenD Try.underlying24 (Ev.t 11 (.g (.d (.sl 3 (List.map encApi_Dep s1_0))))) rfl) (by rw [List.length_map])) rfl ⟨rfl, trivial⟩ trivial ?_
    refine G.op1 (op_move (Ev.c _ rfl) rfl) rfl trivial trivial ?_
    refine G.endOps ?_
    refine G.joinC (T := Unit) (fun y2 => ⟨[], []⟩) (fun y2 => slices_Equal_Dep_k1 y2 = some r) (fun y2 hF => ?_) (fun J3 => ?_)
    · unfold slices_Equal_Dep_k1 at hF
      refine G.seq ?_
      refine G.region ?_
      refine G.op1 (op_assign (Ev.c _ rfl) rfl) rfl trivial trivial ?_
      refine G.endOps ?_
      cases hF
      exact G.ret1 Try.results62 (RVar.tmp 4 _) ⟨rfl, trivial⟩ trivial
    refine G.block ?_
    refine G.keep (sl' := [(0, .one (.g (.d (.sl 3 (List.map encApi_Dep s1_0))))), (1, .one (.g (.d (.sl 3 (List.map encApi_Dep s2_1))))), (12, .one (bI .i64 (s1_0.length : Int))), (13, .one (bI .i64 0))]) (hp' := []) ⟨rfl, rfl, rfl, rfl, trivial⟩ trivial rfl ?_
    refine G.loopF (fun (v4 : Int) => ⟨[(0, .one (.g (.d (.sl 3 (List.map encApi_Dep s1_0))))), (1, .one (.g (.d (.sl 3 (List.map encApi_Dep s2_1))))), (12, .one (bI .i64 (s1_0.length : Int))), (13, .one (bI .i64 v4))], []⟩) hF rfl (fun K7 again6 v4 J5 hF => ?_)
    unfold slices_Equal_Dep_l2 at hF
    refine G.seq ?_
    refine G.region ?_
    refine G.op1 (op_lss (Ev.t 13 (bI .i64 v4)) (Ev.t 12 (bI .i64 (s1_0.length : Int))) rfl) rfl ⟨rfl, rfl, trivial⟩ trivial ?_
    refine G.endOps ?_
    refine G.seq ?_
    refine ifS hF (fun hc8 hF => ?_) (fun hc8 hF => ?_)
    · refine G.cond rfl (fun _ => ?_) (fun hx => by rw [hc8] at hx; cases hx)
      refine G.skip ?_
      refine G.seq ?_
      refine G.block ?_
      refine G.seq ?_
      refine G.region ?_
      refine G.op1 (op_move (Ev.t 13 (bI .i64 v4)) rfl) rfl ⟨rfl, trivial⟩ trivial ?_
      refine G.op1 (op_assign (Ev.t 15 (bI .i64 v4)) rfl) rfl ⟨rfl, trivial⟩ trivial ?_
      refine G.endOps ?_
      refine G.seq ?_
      obtain ⟨x9, hx9, hF⟩ := bindS hF
      obtain ⟨x10, hx10, hF⟩ := bindS hF
      refine G.drawn (effs := [⟨[(0, .one (.g (.d (.sl 3 (List.map encApi_Dep s1_0)))))], [], [(16, .one (.g (.d (.sl 3 (List.map encApi_Dep s1_0)))))], []⟩, ⟨[(5, .one (bI .i64 v4))], [], [(17, .one (bI .i64 v4))], []⟩, ⟨[(16, .one (.g (.d (.sl 3 (List.map encApi_Dep s1_0))))), (17, .one (bI .i64 v4))], [], [(18, .one (.ep [.v (.string x9.Key), .v (.int .i64 x9.Stamp.N), .v (.int .i64 x9.Stamp.Site)]))], []⟩, ⟨[(18, .one (.ep [.v (.string x9.Key), .v (.int .i64 x9.Stamp.N), .v (.int .i64 x9.Stamp.Site)]))], [], [(19, .one (.g (.agg [.v (.string x9.Key), .v (.int .i64 x9.Stamp.N), .v (.int .i64 x9.Stamp.Site)])))], []⟩, ⟨[(1, .one (.g (.d (.sl 3 (List.map encApi_Dep s2_1)))))], [], [(20, .one (.g (.d (.sl 3 (List.map encApi_Dep s2_1)))))], []⟩, ⟨[(5, .one (bI .i64 v4))], [], [(21, .one (bI .i64 v4))], []⟩, ⟨[(20, .one (.g (.d (.sl 3 (List.map encApi_Dep s2_1))))), (21, .one (bI .i64 v4))], [], [(22, .one (.ep [.v (.string x10.Key), .v (.int .i64 x10.Stamp.N), .v (.int .i64 x10.Stamp.Site)]))], []⟩, ⟨[(22, .one (.ep [.v (.string x10.Key), .v (.int .i64 x10.Stamp.N), .v (.int .i64 x10.Stamp.Site)]))], [], [(23, .one (.g (.agg [.v (.string x10.Key), .v (.int .i64 x10.Stamp.N), .v (.int .i64 x10.Stamp.Site)])))], []⟩, ⟨[(19, .one (.g (.agg [.v (.string x9.Key), .v (.int .i64 x9.Stamp.N), .v (.int .i64 x9.Stamp.Site)]))), (23, .one (.g (.agg [.v (.string x10.Key), .v (.int .i64 x10.Stamp.N), .v (.int .i64 x10.Stamp.Site)])))], [], [(24, .one (bB (!(decide (x9.Key = x10.Key) && decide (x9.Stamp.N = x10.Stamp.N) && decide (x9.Stamp.Site = x10.Stamp.Site)))))], []⟩]) (deps := [[], [], [0, 1], [0, 1, 2], [], [], [4, 5], [4, 5, 6], [0, 1, 2, 3, 4, 5, 6, 7]]) (sl' := [(0, .one (.g (.d (.sl 3 (List.map encApi_Dep s1_0))))), (1, .one (.g (.d (.sl 3 (List.map encApi_Dep s2_1))))), (12, .one (bI .i64 (s1_0.length : Int))), (13, .one (bI .i64 v4)), (24, .one (bB (!(decide (x9.Key = x10.Key) && decide (x9.Stamp.N = x10.Stamp.N) && decide (x9.Stamp.Site = x10.Stamp.Site)))))]) (hp' := []) follows rfl rfl rfl ⟨⟨rfl, trivial⟩, trivial, ⟨rfl, trivial⟩, trivial, ⟨rfl, rfl, trivial⟩, trivial, ⟨rfl, trivial⟩, trivial, ⟨rfl, trivial⟩, trivial, ⟨rfl, trivial⟩, trivial, ⟨rfl, rfl, trivial⟩, trivial, ⟨rfl, trivial⟩, trivial, ⟨rfl, rfl, trivial⟩, trivial, trivial⟩ ⟨OpW.plain (op_move (Ev.t 0 (.g (.d (.sl 3 (List.map encApi_Dep s1_0))))) rfl) rfl rfl, OpW.plain (op_move (Ev.t 5 (bI .i64 v4)) rfl) rfl rfl, OpW.plain (op_index (cs := [.v (.string x9.Key), .v (.int .i64 x9.Stamp.N), .v (.int .i64 x9.Stamp.Site)]) Try.underlying24 ti52 (idx_ok hx9).1 (idx_get hx9 encApi_Dep) (Ev.t 16 (.g (.d (.sl 3 (List.map encApi_Dep s1_0))))) (Ev.t 17 (bI .i64 v4)) rfl) rfl rfl, OpW.plain (op_loadAE (ds := [.v (.string x9.Key), .v (.int .i64 x9.Stamp.N), .v (.int .i64 x9.Stamp.Site)]) Try.underlying52 rfl ti52 rfl (Ev.t 18 (.ep [.v (.string x9.Key), .v (.int .i64 x9.Stamp.N), .v (.int .i64 x9.Stamp.Site)])) rfl) rfl rfl, OpW.plain (op_move (Ev.t 1 (.g (.d (.sl 3 (List.map encApi_Dep s2_1))))) rfl) rfl rfl, OpW.plain (op_move (Ev.t 5 (bI .i64 v4)) rfl) rfl rfl, OpW.plain (op_index (cs := [.v (.string x10.Key), .v (.int .i64 x10.Stamp.N), .v (.int .i64 x10.Stamp.Site)]) Try.underlying24 ti52 (idx_ok hx10).1 (idx_get hx10 encApi_Dep) (Ev.t 20 (.g (.d (.sl 3 (List.map encApi_Dep s2_1))))) (Ev.t 21 (bI .i64 v4)) rfl) rfl rfl, OpW.plain (op_loadAE (ds := [.v (.string x10.Key), .v (.int .i64 x10.Stamp.N), .v (.int .i64 x10.Stamp.Site)]) Try.underlying52 rfl ti52 rfl (Ev.t 22 (.ep [.v (.string x10.Key), .v (.int .i64 x10.Stamp.N), .v (.int .i64 x10.Stamp.Site)])) rfl) rfl rfl, OpW.plain (op_eqA (us := [.string x9.Key, .int .i64 x9.Stamp.N, .int .i64 x9.Stamp.Site]) (vs := [.string x10.Key, .int .i64 x10.Stamp.N, .int .i64 x10.Stamp.Site]) rfl rfl Try.eqGuardType52 (fun w => ne52 x9.Key x9.Stamp.N x9.Stamp.Site x10.Key x10.Stamp.N x10.Stamp.Site w) (Ev.t 19 (.g (.agg [.v (.string x9.Key), .v (.int .i64 x9.Stamp.N), .v (.int .i64 x9.Stamp.Site)]))) (Ev.t 23 (.g (.agg [.v (.string x10.Key), .v (.int .i64 x10.Stamp.N), .v (.int .i64 x10.Stamp.Site)]))) rfl) rfl rfl, trivial⟩ ⟨rfl, rfl, rfl, rfl, rfl, trivial⟩ trivial rfl ?_
      refine ifS hF (fun hc11 hF => ?_) (fun hc11 hF => ?_)
      · refine G.cond rfl (fun _ => ?_) (fun hx => by rw [hc11] at hx; cases hx)
        refine G.seq ?_
        refine G.region ?_
        refine G.op1 (op_assign (Ev.c _ rfl) rfl) rfl trivial trivial ?_
        refine G.endOps ?_
        cases hF
        exact G.ret1 Try.results62 (RVar.tmp 4 _) ⟨rfl, trivial⟩ trivial
      · refine G.cond rfl (fun hx => by rw [hc11] at hx; cases hx) (fun _ => ?_)
        refine G.skip ?_
        refine G.endBlock ?_
        refine G.region ?_
        refine G.op1 (op_add (Ev.t 13 (bI .i64 v4)) (Ev.c _ rfl) rfl) rfl ⟨rfl, trivial⟩ trivial ?_
        refine G.op1 (op_move (Ev.t 25 (bI .i64 (IntKind.wrap .i64 (v4 + 1)))) rfl) rfl ⟨rfl, trivial⟩ trivial ?_
        refine G.endOps ?_
        exact G.arr (J5 (IntKind.wrap .i64 (v4 + 1)) hF) ⟨rfl, rfl, rfl, rfl, trivial⟩ trivial rfl
    · refine G.cond rfl (fun hx => by rw [hc8] at hx; cases hx) (fun _ => ?_)
      refine G.exit ?_
      refine GX.c ?_
      refine GX.q ?_
      refine GX.bYes ?_
      exact G.arr (J3 () hF) trivial trivial rfl


set_option maxRecDepth 20000 in
set_option maxHeartbeats 2000000 in
theorem ct_past_Same (p_0 : (List Api_Dep)) (q_1 : (List Api_Dep)) (r : Bool) (hF : past_Same p_0 q_1 = some r) : Ct Try.prog 40 [.g (.d (.sl 3 (List.map encApi_Dep p_0))), .g (.d (.sl 3 (List.map encApi_Dep q_1)))] (.one (.d (.v (.bool r)))) := by
  unfold past_Same at hF
  refine Ct.intro Try.func40 rfl Try.ntmps40 rfl rfl fun M w => ?_
  refine G.seq ?_
  refine G.region ?_
  refine G.op1 (op_assign (Ev.c _ rfl) rfl) rfl trivial trivial ?_
  refine G.endOps ?_
  refine G.seq ?_
  refine G.region ?_
  refine G.op1 (op_move (Ev.t 0 (.g (.d (.sl 3 (List.map encApi_Dep p_0))))) rfl) rfl ⟨rfl, trivial⟩ trivial ?_
  refine G.op1 (op_move (Ev.t 1 (.g (.d (.sl 3 (List.map encApi_Dep q_1))))) rfl) rfl ⟨rfl, trivial⟩ trivial ?_
  obtain ⟨r1, hr1, hF⟩ := bindS hF
  refine G.op1 (op_callQ (sv := .one (bB r1)) cf62 (ct_slices_Equal_Dep p_0 q_1 r1 hr1) rfl rfl (EvQL.cons (EvQ.g (Ev.t 5 (.g (.d (.sl 3 (List.map encApi_Dep p_0)))))) (EvQL.cons (EvQ.g (Ev.t 6 (.g (.d (.sl 3 (List.map encApi_Dep q_1)))))) EvQL.nil)) rfl) rfl ⟨rfl, rfl, trivial⟩ trivial ?_
  refine G.op1 (op_assign (Ev.t 7 (bB r1)) rfl) rfl ⟨rfl, trivial⟩ trivial ?_
  refine G.endOps ?_
  cases hF
  exact G.ret1 Try.results40 (RVar.tmp 4 _) ⟨rfl, trivial⟩ trivial


set_option maxRecDepth 20000 in
set_option maxHeartbeats 2000000 in
theorem ct_wire_Same (a_0 : Api_Version) (b_1 : Api_Version) (r : Bool) (hF : wire_Same a_0 b_1 = some r) : Ct Try.prog 15 [.g (.agg (encApi_Version a_0)), .g (.agg (encApi_Version b_1))] (.one (.d (.v (.bool r)))) := by
  unfold wire_Same at hF
  refine Ct.intro Try.func15 rfl Try.ntmps15 rfl rfl fun M w => ?_
  refine G.seq ?_
  refine G.region ?_
  refine G.op2 (op_boxA (k := 1002) (Ev.t 0 (.g (.agg [.v (.string a_0.Key), .v (.string a_0.Value), .v (.bool a_0.Gone), .v (.int .i64 a_0.Stamp.N), .v (.int .i64 a_0.Stamp.Site), .sl 3 (List.map encApi_Dep a_0.Past)]))) rfl) rfl ⟨rfl, trivial⟩ ⟨rfl, trivial⟩ ?_
  refine G.op2 (op_boxA (k := 1003) (Ev.t 1 (.g (.agg [.v (.string b_1.Key), .v (.string b_1.Value), .v (.bool b_1.Gone), .v (.int .i64 b_1.Stamp.N), .v (.int .i64 b_1.Stamp.Site), .sl 3 (List.map encApi_Dep b_1.Past)]))) rfl) rfl ⟨rfl, trivial⟩ ⟨rfl, trivial⟩ ?_
  refine G.op1 (op_assign (Ev.c _ rfl) rfl) rfl trivial trivial ?_
  refine G.endOps ?_
  refine G.seq ?_
  refine G.region ?_
  refine G.op1 (op_fieldP (off' := 0) Try.underlying26 rfl ti9 (by decide) rfl (Ev.t 2 (.ptr 1002 0)) rfl) rfl ⟨rfl, trivial⟩ trivial ?_
  refine G.op1 (op_load1P (c := bS a_0.Key) Try.underlying9 rfl rfl (Ev.t 5 (.ptr 1002 0)) rfl) rfl ⟨rfl, trivial⟩ ⟨rfl, trivial⟩ ?_
  refine G.op1 (op_fieldP (off' := 0) Try.underlying26 rfl ti9 (by decide) rfl (Ev.t 3 (.ptr 1003 0)) rfl) rfl ⟨rfl, trivial⟩ trivial ?_
  refine G.op1 (op_load1P (c := bS b_1.Key) Try.underlying9 rfl rfl (Ev.t 7 (.ptr 1003 0)) rfl) rfl ⟨rfl, trivial⟩ ⟨rfl, trivial⟩ ?_
  refine G.op1 (op_eqS (Ev.t 6 (bS a_0.Key)) (Ev.t 8 (bS b_1.Key)) rfl) rfl ⟨rfl, rfl, trivial⟩ trivial ?_
  refine G.op1 (op_move (Ev.t 9 (bB (seq a_0.Key b_1.Key))) rfl) rfl ⟨rfl, trivial⟩ trivial ?_
  refine G.joinL (T := Bool) 6 (fun y1 => ⟨[(2, .one (.ptr 1002 0)), (3, .one (.ptr 1003 0)), (16, .one (bB y1))], [(1002, some (.blk 26 [bS a_0.Key, bS a_0.Value, bB a_0.Gone, bI .i64 a_0.Stamp.N, bI .i64 a_0.Stamp.Site, .g (.d (.sl 3 (List.map encApi_Dep a_0.Past)))])), (1003, some (.blk 26 [bS b_1.Key, bS b_1.Value, bB b_1.Gone, bI .i64 b_1.Stamp.N, bI .i64 b_1.Stamp.Site, .g (.d (.sl 3 (List.map encApi_Dep b_1.Past)))]))]⟩) (fun y1 => wire_Same_k1 a_0 b_1 y1 = some r) (fun y1 hF => ?_) (fun J10 => ?_)
  · unfold wire_Same_k1 at hF
    refine G.op1 (op_move (Ev.t 16 (bB y1)) rfl) rfl ⟨rfl, trivial⟩ trivial ?_
    refine G.joinL (T := Bool) 6 (fun y2 => ⟨[(2, .one (.ptr 1002 0)), (3, .one (.ptr 1003 0)), (23, .one (bB y2))], [(1002, some (.blk 26 [bS a_0.Key, bS a_0.Value, bB a_0.Gone, bI .i64 a_0.Stamp.N, bI .i64 a_0.Stamp.Site, .g (.d (.sl 3 (List.map encApi_Dep a_0.Past)))])), (1003, some (.blk 26 [bS b_1.Key, bS b_1.Value, bB b_1.Gone, bI .i64 b_1.Stamp.N, bI .i64 b_1.Stamp.Site, .g (.d (.sl 3 (List.map encApi_Dep b_1.Past)))]))]⟩) (fun y2 => wire_Same_k2 a_0 b_1 y2 = some r) (fun y2 hF => ?_) (fun J8 => ?_)
    · unfold wire_Same_k2 at hF
      refine G.op1 (op_move (Ev.t 23 (bB y2)) rfl) rfl ⟨rfl, trivial⟩ trivial ?_
      refine G.joinL (T := Bool) 6 (fun y3 => ⟨[(2, .one (.ptr 1002 0)), (3, .one (.ptr 1003 0)), (30, .one (bB y3))], [(1002, some (.blk 26 [bS a_0.Key, bS a_0.Value, bB a_0.Gone, bI .i64 a_0.Stamp.N, bI .i64 a_0.Stamp.Site, .g (.d (.sl 3 (List.map encApi_Dep a_0.Past)))])), (1003, some (.blk 26 [bS b_1.Key, bS b_1.Value, bB b_1.Gone, bI .i64 b_1.Stamp.N, bI .i64 b_1.Stamp.Site, .g (.d (.sl 3 (List.map encApi_Dep b_1.Past)))]))]⟩) (fun y3 => wire_Same_k3 a_0 b_1 y3 = some r) (fun y3 hF => ?_) (fun J6 => ?_)
      · unfold wire_Same_k3 at hF
        refine G.op1 (op_move (Ev.t 30 (bB y3)) rfl) rfl ⟨rfl, trivial⟩ trivial ?_
        refine ifS hF (fun hc4 hF => ?_) (fun hc4 hF => ?_)
        · refine G.known (t := 31) hc4 rfl ?_
          refine G.opG1 (op_fieldP (off' := 5) Try.underlying26 rfl ti24 (by decide) rfl (Ev.t 2 (.ptr 1002 0)) rfl) rfl rfl rfl ⟨rfl, trivial⟩ trivial ?_
          refine G.opG1 (op_load1P (c := .g (.d (.sl 3 (List.map encApi_Dep a_0.Past)))) Try.underlying24 rfl rfl (Ev.t 32 (.ptr 1002 5)) rfl) rfl rfl rfl ⟨rfl, trivial⟩ ⟨rfl, trivial⟩ ?_
          refine G.opG1 (op_fieldP (off' := 5) Try.underlying26 rfl ti24 (by decide) rfl (Ev.t 3 (.ptr 1003 0)) rfl) rfl rfl rfl ⟨rfl, trivial⟩ trivial ?_
          refine G.opG1 (op_load1P (c := .g (.d (.sl 3 (List.map encApi_Dep b_1.Past)))) Try.underlying24 rfl rfl (Ev.t 34 (.ptr 1003 5)) rfl) rfl rfl rfl ⟨rfl, trivial⟩ ⟨rfl, trivial⟩ ?_
          obtain ⟨r5, hr5, hF⟩ := bindS hF
          refine G.opG1 (op_callQ (sv := .one (bB r5)) cf40 (ct_past_Same a_0.Past b_1.Past r5 hr5) rfl rfl (EvQL.cons (EvQ.g (Ev.t 33 (.g (.d (.sl 3 (List.map encApi_Dep a_0.Past)))))) (EvQL.cons (EvQ.g (Ev.t 35 (.g (.d (.sl 3 (List.map encApi_Dep b_1.Past)))))) EvQL.nil)) rfl) rfl rfl rfl ⟨rfl, rfl, trivial⟩ trivial ?_
          refine G.op1 (op_pickT (Ev.t 31 (bB true)) (Ev.t 36 (bB r5)) rfl) rfl ⟨rfl, rfl, trivial⟩ trivial ?_
          refine G.op1 (op_assign (Ev.t 37 (bB r5)) rfl) rfl ⟨rfl, trivial⟩ trivial ?_
          refine G.endOps ?_
          cases hF
          exact G.ret1 Try.results15 (RVar.tmp 4 _) ⟨rfl, trivial⟩ trivial
        · refine G.known (t := 31) hc4 rfl ?_
          refine G.opN1 rfl rfl rfl rfl rfl ?_
          refine G.opN1 rfl rfl rfl rfl rfl ?_
          refine G.opN1 rfl rfl rfl rfl rfl ?_
          refine G.opN1 rfl rfl rfl rfl rfl ?_
          refine G.opN1 rfl rfl rfl rfl rfl ?_
          refine G.op1 (op_pickF (Ev.t 31 (bB false)) (Ev.c _ rfl) rfl) rfl ⟨rfl, trivial⟩ trivial ?_
          refine G.op1 (op_assign (Ev.t 37 (bB false)) rfl) rfl ⟨rfl, trivial⟩ trivial ?_
          refine G.endOps ?_
          cases hF
          exact G.ret1 Try.results15 (RVar.tmp 4 _) ⟨rfl, trivial⟩ trivial
      refine ifS hF (fun hc7 hF => ?_) (fun hc7 hF => ?_)
      · refine G.known (t := 24) hc7 rfl ?_
        refine G.opG1 (op_fieldP (off' := 3) Try.underlying26 rfl ti23 (by decide) rfl (Ev.t 2 (.ptr 1002 0)) rfl) rfl rfl rfl ⟨rfl, trivial⟩ trivial ?_
        refine G.opG1 (op_loadAP (ds := [.v (.int .i64 a_0.Stamp.N), .v (.int .i64 a_0.Stamp.Site)]) Try.underlying23 rfl ti23 rfl (Ev.t 25 (.ptr 1002 3)) rfl) rfl rfl rfl ⟨rfl, trivial⟩ ⟨rfl, trivial⟩ ?_
        refine G.opG1 (op_fieldP (off' := 3) Try.underlying26 rfl ti23 (by decide) rfl (Ev.t 3 (.ptr 1003 0)) rfl) rfl rfl rfl ⟨rfl, trivial⟩ trivial ?_
        refine G.opG1 (op_loadAP (ds := [.v (.int .i64 b_1.Stamp.N), .v (.int .i64 b_1.Stamp.Site)]) Try.underlying23 rfl ti23 rfl (Ev.t 27 (.ptr 1003 3)) rfl) rfl rfl rfl ⟨rfl, trivial⟩ ⟨rfl, trivial⟩ ?_
        refine G.opG1 (op_eqA (us := [.int .i64 a_0.Stamp.N, .int .i64 a_0.Stamp.Site]) (vs := [.int .i64 b_1.Stamp.N, .int .i64 b_1.Stamp.Site]) rfl rfl Try.eqGuardType23 (fun w => eq23 a_0.Stamp.N a_0.Stamp.Site b_1.Stamp.N b_1.Stamp.Site w) (Ev.t 26 (.g (.agg [.v (.int .i64 a_0.Stamp.N), .v (.int .i64 a_0.Stamp.Site)]))) (Ev.t 28 (.g (.agg [.v (.int .i64 b_1.Stamp.N), .v (.int .i64 b_1.Stamp.Site)]))) rfl) rfl rfl rfl ⟨rfl, rfl, trivial⟩ trivial ?_
        refine G.op1 (op_pickT (Ev.t 24 (bB true)) (Ev.t 29 (bB (decide (a_0.Stamp.N = b_1.Stamp.N) && decide (a_0.Stamp.Site = b_1.Stamp.Site)))) rfl) rfl ⟨rfl, rfl, trivial⟩ trivial ?_
        exact G.arr (J6 (decide (a_0.Stamp.N = b_1.Stamp.N) && decide (a_0.Stamp.Site = b_1.Stamp.Site)) hF) ⟨rfl, rfl, rfl, trivial⟩ ⟨rfl, rfl, trivial⟩ rfl
      · refine G.known (t := 24) hc7 rfl ?_
        refine G.opN1 rfl rfl rfl rfl rfl ?_
        refine G.opN1 rfl rfl rfl rfl rfl ?_
        refine G.opN1 rfl rfl rfl rfl rfl ?_
        refine G.opN1 rfl rfl rfl rfl rfl ?_
        refine G.opN1 rfl rfl rfl rfl rfl ?_
        refine G.op1 (op_pickF (Ev.t 24 (bB false)) (Ev.c _ rfl) rfl) rfl ⟨rfl, trivial⟩ trivial ?_
        exact G.arr (J6 false hF) ⟨rfl, rfl, rfl, trivial⟩ ⟨rfl, rfl, trivial⟩ rfl
    refine ifS hF (fun hc9 hF => ?_) (fun hc9 hF => ?_)
    · refine G.known (t := 17) hc9 rfl ?_
      refine G.opG1 (op_fieldP (off' := 2) Try.underlying26 rfl ti4 (by decide) rfl (Ev.t 2 (.ptr 1002 0)) rfl) rfl rfl rfl ⟨rfl, trivial⟩ trivial ?_
      refine G.opG1 (op_load1P (c := bB a_0.Gone) Try.underlying4 rfl rfl (Ev.t 18 (.ptr 1002 2)) rfl) rfl rfl rfl ⟨rfl, trivial⟩ ⟨rfl, trivial⟩ ?_
      refine G.opG1 (op_fieldP (off' := 2) Try.underlying26 rfl ti4 (by decide) rfl (Ev.t 3 (.ptr 1003 0)) rfl) rfl rfl rfl ⟨rfl, trivial⟩ trivial ?_
      refine G.opG1 (op_load1P (c := bB b_1.Gone) Try.underlying4 rfl rfl (Ev.t 20 (.ptr 1003 2)) rfl) rfl rfl rfl ⟨rfl, trivial⟩ ⟨rfl, trivial⟩ ?_
      refine G.opG1 (op_eqB Try.underlying4 (Ev.t 19 (bB a_0.Gone)) (Ev.t 21 (bB b_1.Gone)) rfl) rfl rfl rfl ⟨rfl, rfl, trivial⟩ trivial ?_
      refine G.op1 (op_pickT (Ev.t 17 (bB true)) (Ev.t 22 (bB (a_0.Gone == b_1.Gone))) rfl) rfl ⟨rfl, rfl, trivial⟩ trivial ?_
      exact G.arr (J8 (a_0.Gone == b_1.Gone) hF) ⟨rfl, rfl, rfl, trivial⟩ ⟨rfl, rfl, trivial⟩ rfl
    · refine G.known (t := 17) hc9 rfl ?_
      refine G.opN1 rfl rfl rfl rfl rfl ?_
      refine G.opN1 rfl rfl rfl rfl rfl ?_
      refine G.opN1 rfl rfl rfl rfl rfl ?_
      refine G.opN1 rfl rfl rfl rfl rfl ?_
      refine G.opN1 rfl rfl rfl rfl rfl ?_
      refine G.op1 (op_pickF (Ev.t 17 (bB false)) (Ev.c _ rfl) rfl) rfl ⟨rfl, trivial⟩ trivial ?_
      exact G.arr (J8 false hF) ⟨rfl, rfl, rfl, trivial⟩ ⟨rfl, rfl, trivial⟩ rfl
  refine ifS hF (fun hc11 hF => ?_) (fun hc11 hF => ?_)
  · refine G.known (t := 10) hc11 rfl ?_
    refine G.opG1 (op_fieldP (off' := 1) Try.underlying26 rfl ti9 (by decide) rfl (Ev.t 2 (.ptr 1002 0)) rfl) rfl rfl rfl ⟨rfl, trivial⟩ trivial ?_
    refine G.opG1 (op_load1P (c := bS a_0.Value) Try.underlying9 rfl rfl (Ev.t 11 (.ptr 1002 1)) rfl) rfl rfl rfl ⟨rfl, trivial⟩ ⟨rfl, trivial⟩ ?_
    refine G.opG1 (op_fieldP (off' := 1) Try.underlying26 rfl ti9 (by decide) rfl (Ev.t 3 (.ptr 1003 0)) rfl) rfl rfl rfl ⟨rfl, trivial⟩ trivial ?_
    refine G.opG1 (op_load1P (c := bS b_1.Value) Try.underlying9 rfl rfl (Ev.t 13 (.ptr 1003 1)) rfl) rfl rfl rfl ⟨rfl, trivial⟩ ⟨rfl, trivial⟩ ?_
    refine G.opG1 (op_eqS (Ev.t 12 (bS a_0.Value)) (Ev.t 14 (bS b_1.Value)) rfl) rfl rfl rfl ⟨rfl, rfl, trivial⟩ trivial ?_
    refine G.op1 (op_pickT (Ev.t 10 (bB true)) (Ev.t 15 (bB (seq a_0.Value b_1.Value))) rfl) rfl ⟨rfl, rfl, trivial⟩ trivial ?_
    exact G.arr (J10 (seq a_0.Value b_1.Value) hF) ⟨rfl, rfl, rfl, trivial⟩ ⟨rfl, rfl, trivial⟩ rfl
  · refine G.known (t := 10) hc11 rfl ?_
    refine G.opN1 rfl rfl rfl rfl rfl ?_
    refine G.opN1 rfl rfl rfl rfl rfl ?_
    refine G.opN1 rfl rfl rfl rfl rfl ?_
    refine G.opN1 rfl rfl rfl rfl rfl ?_
    refine G.opN1 rfl rfl rfl rfl rfl ?_
    refine G.op1 (op_pickF (Ev.t 10 (bB false)) (Ev.c _ rfl) rfl) rfl ⟨rfl, trivial⟩ trivial ?_
    exact G.arr (J10 false hF) ⟨rfl, rfl, rfl, trivial⟩ ⟨rfl, rfl, trivial⟩ rfl


set_option maxRecDepth 20000 in
set_option maxHeartbeats 2000000 in
theorem ct_law06_awake (r : Bool) (hF : law06_awake = some r) : Ct Try.prog 9 [] (.one (.d (.v (.bool r)))) := by
  unfold law06_awake at hF
  refine Ct.intro Try.func9 rfl Try.ntmps9 rfl rfl fun M w => ?_
  refine G.seq ?_
  refine G.region ?_
  refine G.op1 (op_assign (Ev.c _ rfl) rfl) rfl trivial trivial ?_
  refine G.endOps ?_
  refine G.seq ?_
  refine G.region ?_
  refine G.op1 (op_build (zs := [.v (.int .i64 0), .v (.int .i64 0)]) (ds := [.v (.int .i64 3), .v (.int .i64 2)]) Try.underlying23 ti23 (pl23 _ Try.underlying23) ⟨.v _ rfl, .v _ rfl, trivial⟩ (EvP.cons (Ev.c _ rfl) (EvP.cons (Ev.c _ rfl) EvP.nil)) rfl rfl) rfl trivial trivial ?_
  refine G.op1 (op_build (zs := [.v (.string ByteArray.empty), .v (.string ByteArray.empty), .v (.bool false), .v (.int .i64 0), .v (.int .i64 0), .sl 3 (List.map encApi_Dep ([] : (List Api_Dep)))]) (ds := [.v (.string (ByteArray.mk #[97])), .v (.string (ByteArray.mk #[98])), .v (.bool false), .v (.int .i64 3), .v (.int .i64 2), .sl 3 (List.map encApi_Dep ([] : (List Api_Dep)))]) Try.underlying26 ti26 (pl26 _ Try.underlying26) ⟨.v _ rfl, .v _ rfl, .v _ rfl, .v _ rfl, .v _ rfl, .n 3, trivial⟩ (EvP.cons (Ev.c _ rfl) (EvP.cons (Ev.c _ rfl) (EvP.cons (Ev.t 4 (.g (.agg [.v (.int .i64 3), .v (.int .i64 2)]))) EvP.nil))) rfl rfl) rfl ⟨rfl, trivial⟩ trivial ?_
  refine G.op2 (op_alloc (k := 1001) (cs := [bS ByteArray.empty, bS ByteArray.empty, bB false, bI .i64 0, bI .i64 0, .g (.d (.sl 3 (List.map encApi_Dep ([] : (List Api_Dep)))))]) ti26 ⟨.v _ rfl, .v _ rfl, .v _ rfl, .v _ rfl, .v _ rfl, .n 3, trivial⟩ rfl) rfl trivial ⟨rfl, trivial⟩ ?_
  refine G.op3 (op_storeA (cs' := [bS (ByteArray.mk #[97]), bS (ByteArray.mk #[98]), bB false, bI .i64 3, bI .i64 2, .g (.d (.sl 3 (List.map encApi_Dep ([] : (List Api_Dep)))))]) ti26 rfl rfl (Ev.t 1 (.ptr 1001 0)) (Ev.t 5 (.g (.agg [.v (.string (ByteArray.mk #[97])), .v (.string (ByteArray.mk #[98])), .v (.bool false), .v (.int .i64 3), .v (.int .i64 2), .sl 3 (List.map encApi_Dep ([] : (List Api_Dep)))])))) rfl ⟨rfl, rfl, trivial⟩ ⟨rfl, trivial⟩ ?_
  refine G.endOps ?_
  refine G.seq ?_
  refine G.region ?_
  obtain ⟨r1, hr1, hF⟩ := bindS hF
  refine G.op1 (op_call (sv := .tup [.g (.agg [.v (.string r1.1.Key), .v (.string r1.1.Value), .v (.bool r1.1.Gone), .v (.int .i64 r1.1.Stamp.N), .v (.int .i64 r1.1.Stamp.Site), .sl 3 (List.map encApi_Dep r1.1.Past)]), bB r1.2]) cf17 (ct_wire_Read (ByteArray.mk #[1, 97, 0, 1, 98, 3, 2, 0]) r1 hr1) rfl (EvL.cons (Ev.c _ rfl) EvL.nil) rfl) rfl trivial trivial ?_
  refine G.op1 (op_moveS (t := 7) (sv := .tup [.g (.agg [.v (.string r1.1.Key), .v (.string r1.1.Value), .v (.bool r1.1.Gone), .v (.int .i64 r1.1.Stamp.N), .v (.int .i64 r1.1.Stamp.Site), .sl 3 (List.map encApi_Dep r1.1.Past)]), bB r1.2]) rfl) rfl ⟨rfl, trivial⟩ trivial ?_
  refine G.op1 (op_extract (l := [.g (.agg [.v (.string r1.1.Key), .v (.string r1.1.Value), .v (.bool r1.1.Gone), .v (.int .i64 r1.1.Stamp.N), .v (.int .i64 r1.1.Stamp.Site), .sl 3 (List.map encApi_Dep r1.1.Past)]), bB r1.2]) (c := .g (.agg [.v (.string r1.1.Key), .v (.string r1.1.Value), .v (.bool r1.1.Gone), .v (.int .i64 r1.1.Stamp.N), .v (.int .i64 r1.1.Stamp.Site), .sl 3 (List.map encApi_Dep r1.1.Past)])) rfl rfl) rfl ⟨rfl, trivial⟩ trivial ?_
  refine G.op1 (op_extract (l := [.g (.agg [.v (.string r1.1.Key), .v (.string r1.1.Value), .v (.bool r1.1.Gone), .v (.int .i64 r1.1.Stamp.N), .v (.int .i64 r1.1.Stamp.Site), .sl 3 (List.map encApi_Dep r1.1.Past)]), bB r1.2]) (c := bB r1.2) rfl rfl) rfl ⟨rfl, trivial⟩ trivial ?_
  refine G.op2 (op_alloc (k := 1002) (cs := [bS ByteArray.empty, bS ByteArray.empty, bB false, bI .i64 0, bI .i64 0, .g (.d (.sl 3 (List.map encApi_Dep ([] : (List Api_Dep)))))]) ti26 ⟨.v _ rfl, .v _ rfl, .v _ rfl, .v _ rfl, .v _ rfl, .n 3, trivial⟩ rfl) rfl trivial ⟨rfl, trivial⟩ ?_
  refine G.op3 (op_storeA (cs' := [bS r1.1.Key, bS r1.1.Value, bB r1.1.Gone, bI .i64 r1.1.Stamp.N, bI .i64 r1.1.Stamp.Site, .g (.d (.sl 3 (List.map encApi_Dep r1.1.Past)))]) ti26 rfl rfl (Ev.t 2 (.ptr 1002 0)) (Ev.t 8 (.g (.agg [.v (.string r1.1.Key), .v (.string r1.1.Value), .v (.bool r1.1.Gone), .v (.int .i64 r1.1.Stamp.N), .v (.int .i64 r1.1.Stamp.Site), .sl 3 (List.map encApi_Dep r1.1.Past)])))) rfl ⟨rfl, rfl, trivial⟩ ⟨rfl, trivial⟩ ?_
  refine G.op1 (op_assign (Ev.t 9 (bB r1.2)) rfl) rfl ⟨rfl, trivial⟩ trivial ?_
  refine G.endOps ?_
  refine G.seq ?_
  refine G.region ?_
  refine G.op1 (op_loadAP (ds := [.v (.string (ByteArray.mk #[97])), .v (.string (ByteArray.mk #[98])), .v (.bool false), .v (.int .i64 3), .v (.int .i64 2), .sl 3 (List.map encApi_Dep ([] : (List Api_Dep)))]) Try.underlying26 rfl ti26 rfl (Ev.t 1 (.ptr 1001 0)) rfl) rfl ⟨rfl, trivial⟩ ⟨rfl, trivial⟩ ?_
  obtain ⟨r2, hr2, hF⟩ := bindS hF
  refine G.op1 (op_callQ (sv := .one (bS r2)) cf13 (ct_wire_Bytes (Api_Version.mk (ByteArray.mk #[97]) (ByteArray.mk #[98]) false (Api_Stamp.mk 3 2) ([] : (List Api_Dep))) r2 hr2) rfl rfl (EvQL.cons (EvQ.g (Ev.t 10 (.g (.agg [.v (.string (ByteArray.mk #[97])), .v (.string (ByteArray.mk #[98])), .v (.bool false), .v (.int .i64 3), .v (.int .i64 2), .sl 3 (List.map encApi_Dep ([] : (List Api_Dep)))])))) EvQL.nil) rfl) rfl ⟨rfl, trivial⟩ trivial ?_
  refine G.op1 (op_eqS (Ev.t 11 (bS r2)) (Ev.c _ rfl) rfl) rfl ⟨rfl, trivial⟩ trivial ?_
  refine G.op1 (op_move (Ev.t 12 (bB (seq r2 (ByteArray.mk #[1, 97, 0, 1, 98, 3, 2, 0])))) rfl) rfl ⟨rfl, trivial⟩ trivial ?_
  refine G.joinL (T := Bool) 2 (fun y3 => ⟨[(1, .one (.ptr 1001 0)), (2, .one (.ptr 1002 0)), (15, .one (bB y3))], [(1001, some (.blk 26 [bS (ByteArray.mk #[97]), bS (ByteArray.mk #[98]), bB false, bI .i64 3, bI .i64 2, .g (.d (.sl 3 (List.map encApi_Dep ([] : (List Api_Dep)))))])), (1002, some (.blk 26 [bS r1.1.Key, bS r1.1.Value, bB r1.1.Gone, bI .i64 r1.1.Stamp.N, bI .i64 r1.1.Stamp.Site, .g (.d (.sl 3 (List.map encApi_Dep r1.1.Past)))]))]⟩) (fun y3 => law06_awake_k1 r1 y3 = some r) (fun y3 hF => ?_) (fun J6 => ?_)
  · unfold law06_awake_k1 at hF
    refine G.op1 (op_move (Ev.t 15 (bB y3)) rfl) rfl ⟨rfl, trivial⟩ trivial ?_
    refine ifS hF (fun hc4 hF => ?_) (fun hc4 hF => ?_)
    · refine G.known (t := 16) hc4 rfl ?_
      refine G.opG1 (op_loadAP (ds := [.v (.string (ByteArray.mk #[97])), .v (.string (ByteArray.mk #[98])), .v (.bool false), .v (.int .i64 3), .v (.int .i64 2), .sl 3 (List.map encApi_Dep ([] : (List Api_Dep)))]) Try.underlying26 rfl ti26 rfl (Ev.t 1 (.ptr 1001 0)) rfl) rfl rfl rfl ⟨rfl, trivial⟩ ⟨rfl, trivial⟩ ?_
      refine G.opG1 (op_loadAP (ds := [.v (.string r1.1.Key), .v (.string r1.1.Value), .v (.bool r1.1.Gone), .v (.int .i64 r1.1.Stamp.N), .v (.int .i64 r1.1.Stamp.Site), .sl 3 (List.map encApi_Dep r1.1.Past)]) Try.underlying26 rfl ti26 rfl (Ev.t 2 (.ptr 1002 0)) rfl) rfl rfl rfl ⟨rfl, trivial⟩ ⟨rfl, trivial⟩ ?_
      obtain ⟨r5, hr5, hF⟩ := bindS hF
      refine G.opG1 (op_callQ (sv := .one (bB r5)) cf15 (ct_wire_Same (Api_Version.mk (ByteArray.mk #[97]) (ByteArray.mk #[98]) false (Api_Stamp.mk 3 2) ([] : (List Api_Dep))) r1.1 r5 hr5) rfl rfl (EvQL.cons (EvQ.g (Ev.t 17 (.g (.agg [.v (.string (ByteArray.mk #[97])), .v (.string (ByteArray.mk #[98])), .v (.bool false), .v (.int .i64 3), .v (.int .i64 2), .sl 3 (List.map encApi_Dep ([] : (List Api_Dep)))])))) (EvQL.cons (EvQ.g (Ev.t 18 (.g (.agg [.v (.string r1.1.Key), .v (.string r1.1.Value), .v (.bool r1.1.Gone), .v (.int .i64 r1.1.Stamp.N), .v (.int .i64 r1.1.Stamp.Site), .sl 3 (List.map encApi_Dep r1.1.Past)])))) EvQL.nil)) rfl) rfl rfl rfl ⟨rfl, rfl, trivial⟩ trivial ?_
      refine G.op1 (op_pickT (Ev.t 16 (bB true)) (Ev.t 19 (bB r5)) rfl) rfl ⟨rfl, rfl, trivial⟩ trivial ?_
      refine G.op1 (op_assign (Ev.t 20 (bB r5)) rfl) rfl ⟨rfl, trivial⟩ trivial ?_
      refine G.endOps ?_
      cases hF
      exact G.ret1 Try.results9 (RVar.tmp 0 _) ⟨rfl, trivial⟩ trivial
    · refine G.known (t := 16) hc4 rfl ?_
      refine G.opN1 rfl rfl rfl rfl rfl ?_
      refine G.opN1 rfl rfl rfl rfl rfl ?_
      refine G.opN1 rfl rfl rfl rfl rfl ?_
      refine G.op1 (op_pickF (Ev.t 16 (bB false)) (Ev.c _ rfl) rfl) rfl ⟨rfl, trivial⟩ trivial ?_
      refine G.op1 (op_assign (Ev.t 20 (bB false)) rfl) rfl ⟨rfl, trivial⟩ trivial ?_
      refine G.endOps ?_
      cases hF
      exact G.ret1 Try.results9 (RVar.tmp 0 _) ⟨rfl, trivial⟩ trivial
  refine ifS hF (fun hc7 hF => ?_) (fun hc7 hF => ?_)
  · refine G.known (t := 13) hc7 rfl ?_
    refine G.opG1 (op_move (Ev.t 3 (bB r1.2)) rfl) rfl rfl rfl ⟨rfl, trivial⟩ trivial ?_
    refine G.op1 (op_pickT (Ev.t 13 (bB true)) (Ev.t 14 (bB r1.2)) rfl) rfl ⟨rfl, rfl, trivial⟩ trivial ?_
    exact G.arr (J6 r1.2 hF) ⟨rfl, rfl, rfl, trivial⟩ ⟨rfl, rfl, trivial⟩ rfl
  · refine G.known (t := 13) hc7 rfl ?_
    refine G.opN1 rfl rfl rfl rfl rfl ?_
    refine G.op1 (op_pickF (Ev.t 13 (bB false)) (Ev.c _ rfl) rfl) rfl ⟨rfl, trivial⟩ trivial ?_
    exact G.arr (J6 false hF) ⟨rfl, rfl, rfl, trivial⟩ ⟨rfl, rfl, trivial⟩ rfl


set_option maxRecDepth 20000 in
set_option maxHeartbeats 2000000 in
theorem ct_law06_WireGone (n_0 : Int) (gone_1 : Bool) (r : Bool) (hF : law06_WireGone n_0 gone_1 = some r) : Ct Try.prog 7 [.g (.d (.v (.int .i64 n_0))), .g (.d (.v (.bool gone_1)))] (.one (.d (.v (.bool r)))) := by
  unfold law06_WireGone at hF
  refine Ct.intro Try.func7 rfl Try.ntmps7 rfl rfl fun M w => ?_
  refine G.seq ?_
  refine G.region ?_
  refine G.op1 (op_assign (Ev.c _ rfl) rfl) rfl trivial trivial ?_
  refine G.endOps ?_
  refine G.seq ?_
  refine G.region ?_
  obtain ⟨r1, hr1, hF⟩ := bindS hF
  refine G.op1 (op_callQ (sv := .one (bB r1)) cf9 (ct_law06_awake r1 hr1) rfl rfl EvQL.nil rfl) rfl trivial trivial ?_
  refine G.op1 (op_assign (Ev.t 12 (bB r1)) rfl) rfl ⟨rfl, trivial⟩ trivial ?_
  refine G.endOps ?_
  refine G.seq ?_
  refine G.region ?_
  refine G.op1 (op_move (Ev.t 0 (bI .i64 n_0)) rfl) rfl ⟨rfl, trivial⟩ trivial ?_
  refine G.op1 (op_rem (by decide) (Ev.t 13 (bI .i64 n_0)) (Ev.c _ rfl) rfl) rfl ⟨rfl, trivial⟩ trivial ?_
  refine G.op1 (op_add (Ev.t 14 (bI .i64 (Int.tmod n_0 41))) (Ev.c _ rfl) rfl) rfl ⟨rfl, trivial⟩ trivial ?_
  refine G.op1 (op_rem (by decide) (Ev.t 15 (bI .i64 (IntKind.wrap .i64 ((Int.tmod n_0 41) + 41)))) (Ev.c _ rfl) rfl) rfl ⟨rfl, trivial⟩ trivial ?_
  refine G.op1 (op_assign (Ev.t 16 (bI .i64 (Int.tmod (IntKind.wrap .i64 ((Int.tmod n_0 41) + 41)) 41))) rfl) rfl ⟨rfl, trivial⟩ trivial ?_
  refine G.endOps ?_
  refine G.seq ?_
  refine G.region ?_
  refine G.op1 (op_move (Ev.t 6 (bI .i64 (Int.tmod (IntKind.wrap .i64 ((Int.tmod n_0 41) + 41)) 41))) rfl) rfl ⟨rfl, trivial⟩ trivial ?_
  obtain ⟨hz2, hF⟩ := chkS hF
  refine G.op1 (OpL.cast (c' := .g (.d (.sl 1 (List.map encI_u8 (List.replicate (Int.toNat (Int.tmod (IntKind.wrap .i64 ((Int.tmod n_0 41) + 41)) 41)) (0 : Int)))))) (op_makeSlice1 Try.underlying33 ti5 rfl rfl (of_decide_eq_true hz2) (Ev.t 17 (bI .i64 (Int.tmod (IntKind.wrap .i64 ((Int.tmod n_0 41) + 41)) 41))) rfl) (by rw [List.map_replicate])) rfl ⟨rfl, trivial⟩ trivial ?_
  refine G.op1 (op_assign (Ev.t 18 (.g (.d (.sl 1 (List.map encI_u8 (List.replicate (Int.toNat (Int.tmod (IntKind.wrap .i64 ((Int.tmod n_0 41) + 41)) 41)) (0 : Int))))))) rfl) rfl ⟨rfl, trivial⟩ trivial ?_
  refine G.endOps ?_
  refine G.seq ?_
  refine G.region ?_
  refine G.op1 (op_move (Ev.t 7 (.g (.d (.sl 1 (List.map encI_u8 (List.replicate (Int.toNat (Int.tmod (IntKind.wrap .i64 ((Int.tmod n_0 41) + 41)) 41)) (0 : Int))))))) rfl) rfl ⟨rfl, trivial⟩ trivial ?_
  refine G.op1 (op_toText (ns := List.replicate (Int.toNat (Int.tmod (IntKind.wrap .i64 ((Int.tmod n_0 41) + 41)) 41)) (0 : Int)) Try.underlying33 Try.underlying5 Try.underlying9 rfl (Ev.t 19 (.g (.d (.sl 1 (List.map encI_u8 (List.replicate (Int.toNat (Int.tmod (IntKind.wrap .i64 ((Int.tmod n_0 41) + 41)) 41)) (0 : Int))))))) rfl) rfl ⟨rfl, trivial⟩ trivial ?_
  refine G.op1 (op_move (Ev.t 1 (bB gone_1)) rfl) rfl ⟨rfl, trivial⟩ trivial ?_
  refine G.op1 (op_build (zs := [.v (.int .i64 0), .v (.int .i64 0)]) (ds := [.v (.int .i64 1), .v (.int .i64 0)]) Try.underlying23 ti23 (pl23 _ Try.underlying23) ⟨.v _ rfl, .v _ rfl, trivial⟩ (EvP.cons (Ev.c _ rfl) EvP.nil) rfl rfl) rfl trivial trivial ?_
  refine G.op1 (op_build (zs := [.v (.string ByteArray.empty), .v (.string ByteArray.empty), .v (.bool false), .v (.int .i64 0), .v (.int .i64 0), .sl 3 (List.map encApi_Dep ([] : (List Api_Dep)))]) (ds := [.v (.string (ByteArray.mk #[107])), .v (.string (bytesOf (List.replicate (Int.toNat (Int.tmod (IntKind.wrap .i64 ((Int.tmod n_0 41) + 41)) 41)) (0 : Int)))), .v (.bool gone_1), .v (.int .i64 1), .v (.int .i64 0), .sl 3 (List.map encApi_Dep ([] : (List Api_Dep)))]) Try.underlying26 ti26 (pl26 _ Try.underlying26) ⟨.v _ rfl, .v _ rfl, .v _ rfl, .v _ rfl, .v _ rfl, .n 3, trivial⟩ (EvP.cons (Ev.c _ rfl) (EvP.cons (Ev.t 20 (bS (bytesOf (List.replicate (Int.toNat (Int.tmod (IntKind.wrap .i64 ((Int.tmod n_0 41) + 41)) 41)) (0 : Int))))) (EvP.cons (Ev.t 21 (bB gone_1)) (EvP.cons (Ev.t 22 (.g (.agg [.v (.int .i64 1), .v (.int .i64 0)]))) EvP.nil)))) rfl rfl) rfl ⟨rfl, rfl, rfl, trivial⟩ trivial ?_
  refine G.op2 (op_alloc (k := 1008) (cs := [bS ByteArray.empty, bS ByteArray.empty, bB false, bI .i64 0, bI .i64 0, .g (.d (.sl 3 (List.map encApi_Dep ([] : (List Api_Dep)))))]) ti26 ⟨.v _ rfl, .v _ rfl, .v _ rfl, .v _ rfl, .v _ rfl, .n 3, trivial⟩ rfl) rfl trivial ⟨rfl, trivial⟩ ?_
  refine G.op3 (op_storeA (cs' := [bS (ByteArray.mk #[107]), bS (bytesOf (List.replicate (Int.toNat (Int.tmod (IntKind.wrap .i64 ((Int.tmod n_0 41) + 41)) 41)) (0 : Int))), bB gone_1, bI .i64 1, bI .i64 0, .g (.d (.sl 3 (List.map encApi_Dep ([] : (List Api_Dep)))))]) ti26 rfl rfl (Ev.t 8 (.ptr 1008 0)) (Ev.t 23 (.g (.agg [.v (.string (ByteArray.mk #[107])), .v (.string (bytesOf (List.replicate (Int.toNat (Int.tmod (IntKind.wrap .i64 ((Int.tmod n_0 41) + 41)) 41)) (0 : Int)))), .v (.bool gone_1), .v (.int .i64 1), .v (.int .i64 0), .sl 3 (List.map encApi_Dep ([] : (List Api_Dep)))])))) rfl ⟨rfl, rfl, trivial⟩ ⟨rfl, trivial⟩ ?_
  refine G.endOps ?_
  refine G.seq ?_
  refine G.joinC (T := Bool) (fun y3 => ⟨[(1, .one (bB gone_1)), (5, .one (bB r1)), (8, .one (.ptr 1008 0)), (9, .one (bB y3))], [(1008, some (.blk 26 [bS (ByteArray.mk #[107]), bS (bytesOf (List.replicate (Int.toNat (Int.tmod (IntKind.wrap .i64 ((Int.tmod n_0 41) + 41)) 41)) (0 : Int))), bB gone_1, bI .i64 1, bI .i64 0, .g (.d (.sl 3 (List.map encApi_Dep ([] : (List Api_Dep)))))]))]⟩) (fun y3 => law06_WireGone_k1 n_0 gone_1 r1 y3 = some r) (fun y3 hF => ?_) (fun J17 => ?_)
  · unfold law06_WireGone_k1 at hF
    refine G.seq ?_
    refine G.region ?_
    refine G.op1 (op_loadAP (ds := [.v (.string (ByteArray.mk #[107])), .v (.string (bytesOf (List.replicate (Int.toNat (Int.tmod (IntKind.wrap .i64 ((Int.tmod n_0 41) + 41)) 41)) (0 : Int)))), .v (.bool gone_1), .v (.int .i64 1), .v (.int .i64 0), .sl 3 (List.map encApi_Dep ([] : (List Api_Dep)))]) Try.underlying26 rfl ti26 rfl (Ev.t 8 (.ptr 1008 0)) rfl) rfl ⟨rfl, trivial⟩ ⟨rfl, trivial⟩ ?_
    obtain ⟨r4, hr4, hF⟩ := bindS hF
    refine G.op1 (op_callQ (sv := .one (bS r4)) cf13 (ct_wire_Bytes (Api_Version.mk (ByteArray.mk #[107]) (bytesOf (List.replicate (Int.toNat (Int.tmod (IntKind.wrap .i64 ((Int.tmod n_0 41) + 41)) 41)) (0 : Int))) gone_1 (Api_Stamp.mk 1 0) ([] : (List Api_Dep))) r4 hr4) rfl rfl (EvQL.cons (EvQ.g (Ev.t 35 (.g (.agg [.v (.string (ByteArray.mk #[107])), .v (.string (bytesOf (List.replicate (Int.toNat (Int.tmod (IntKind.wrap .i64 ((Int.tmod n_0 41) + 41)) 41)) (0 : Int)))), .v (.bool gone_1), .v (.int .i64 1), .v (.int .i64 0), .sl 3 (List.map encApi_Dep ([] : (List Api_Dep)))])))) EvQL.nil) rfl) rfl ⟨rfl, trivial⟩ trivial ?_
    obtain ⟨r5, hr5, hF⟩ := bindS hF
    refine G.op1 (op_call (sv := .tup [.g (.agg [.v (.string r5.1.Key), .v (.string r5.1.Value), .v (.bool r5.1.Gone), .v (.int .i64 r5.1.Stamp.N), .v (.int .i64 r5.1.Stamp.Site), .sl 3 (List.map encApi_Dep r5.1.Past)]), bB r5.2]) cf17 (ct_wire_Read r4 r5 hr5) rfl (EvL.cons (Ev.t 36 (bS r4)) EvL.nil) rfl) rfl ⟨rfl, trivial⟩ trivial ?_
    refine G.op1 (op_moveS (t := 37) (sv := .tup [.g (.agg [.v (.string r5.1.Key), .v (.string r5.1.Value), .v (.bool r5.1.Gone), .v (.int .i64 r5.1.Stamp.N), .v (.int .i64 r5.1.Stamp.Site), .sl 3 (List.map encApi_Dep r5.1.Past)]), bB r5.2]) rfl) rfl ⟨rfl, trivial⟩ trivial ?_
    refine G.op1 (op_extract (l := [.g (.agg [.v (.string r5.1.Key), .v (.string r5.1.Value), .v (.bool r5.1.Gone), .v (.int .i64 r5.1.Stamp.N), .v (.int .i64 r5.1.Stamp.Site), .sl 3 (List.map encApi_Dep r5.1.Past)]), bB r5.2]) (c := .g (.agg [.v (.string r5.1.Key), .v (.string r5.1.Value), .v (.bool r5.1.Gone), .v (.int .i64 r5.1.Stamp.N), .v (.int .i64 r5.1.Stamp.Site), .sl 3 (List.map encApi_Dep r5.1.Past)])) rfl rfl) rfl ⟨rfl, trivial⟩ trivial ?_
    refine G.op1 (op_extract (l := [.g (.agg [.v (.string r5.1.Key), .v (.string r5.1.Value), .v (.bool r5.1.Gone), .v (.int .i64 r5.1.Stamp.N), .v (.int .i64 r5.1.Stamp.Site), .sl 3 (List.map encApi_Dep r5.1.Past)]), bB r5.2]) (c := bB r5.2) rfl rfl) rfl ⟨rfl, trivial⟩ trivial ?_
    refine G.op2 (op_alloc (k := 1010) (cs := [bS ByteArray.empty, bS ByteArray.empty, bB false, bI .i64 0, bI .i64 0, .g (.d (.sl 3 (List.map encApi_Dep ([] : (List Api_Dep)))))]) ti26 ⟨.v _ rfl, .v _ rfl, .v _ rfl, .v _ rfl, .v _ rfl, .n 3, trivial⟩ rfl) rfl trivial ⟨rfl, trivial⟩ ?_
    refine G.op3 (op_storeA (cs' := [bS r5.1.Key, bS r5.1.Value, bB r5.1.Gone, bI .i64 r5.1.Stamp.N, bI .i64 r5.1.Stamp.Site, .g (.d (.sl 3 (List.map encApi_Dep r5.1.Past)))]) ti26 rfl rfl (Ev.t 10 (.ptr 1010 0)) (Ev.t 38 (.g (.agg [.v (.string r5.1.Key), .v (.string r5.1.Value), .v (.bool r5.1.Gone), .v (.int .i64 r5.1.Stamp.N), .v (.int .i64 r5.1.Stamp.Site), .sl 3 (List.map encApi_Dep r5.1.Past)])))) rfl ⟨rfl, rfl, trivial⟩ ⟨rfl, trivial⟩ ?_
    refine G.op1 (op_assign (Ev.t 39 (bB r5.2)) rfl) rfl ⟨rfl, trivial⟩ trivial ?_
    refine G.endOps ?_
    refine G.seq ?_
    refine G.region ?_
    refine G.op1 (op_move (Ev.t 5 (bB r1)) rfl) rfl ⟨rfl, trivial⟩ trivial ?_
    refine G.op1 (op_move (Ev.t 40 (bB r1)) rfl) rfl ⟨rfl, trivial⟩ trivial ?_
    refine G.joinL (T := Bool) 5 (fun y6 => ⟨[(1, .one (bB gone_1)), (8, .one (.ptr 1008 0)), (9, .one (bB y3)), (10, .one (.ptr 1010 0)), (11, .one (bB r5.2)), (46, .one (bB y6))], [(1008, some (.blk 26 [bS (ByteArray.mk #[107]), bS (bytesOf (List.replicate (Int.toNat (Int.tmod (IntKind.wrap .i64 ((Int.tmod n_0 41) + 41)) 41)) (0 : Int))), bB gone_1, bI .i64 1, bI .i64 0, .g (.d (.sl 3 (List.map encApi_Dep ([] : (List Api_Dep)))))])), (1010, some (.blk 26 [bS r5.1.Key, bS r5.1.Value, bB r5.1.Gone, bI .i64 r5.1.Stamp.N, bI .i64 r5.1.Stamp.Site, .g (.d (.sl 3 (List.map encApi_Dep r5.1.Past)))]))]⟩) (fun y6 => law06_WireGone_k2 n_0 gone_1 y3 r5 y6 = some r) (fun y6 hF => ?_) (fun J14 => ?_)
    · unfold law06_WireGone_k2 at hF
      refine G.op1 (op_move (Ev.t 46 (bB y6)) rfl) rfl ⟨rfl, trivial⟩ trivial ?_
      refine G.joinL (T := Bool) 4 (fun y7 => ⟨[(1, .one (bB gone_1)), (8, .one (.ptr 1008 0)), (9, .one (bB y3)), (10, .one (.ptr 1010 0)), (51, .one (bB y7))], [(1008, some (.blk 26 [bS (ByteArray.mk #[107]), bS (bytesOf (List.replicate (Int.toNat (Int.tmod (IntKind.wrap .i64 ((Int.tmod n_0 41) + 41)) 41)) (0 : Int))), bB gone_1, bI .i64 1, bI .i64 0, .g (.d (.sl 3 (List.map encApi_Dep ([] : (List Api_Dep)))))])), (1010, some (.blk 26 [bS r5.1.Key, bS r5.1.Value, bB r5.1.Gone, bI .i64 r5.1.Stamp.N, bI .i64 r5.1.Stamp.Site, .g (.d (.sl 3 (List.map encApi_Dep r5.1.Past)))]))]⟩) (fun y7 => law06_WireGone_k3 n_0 gone_1 y3 r5 y7 = some r) (fun y7 hF => ?_) (fun J12 => ?_)
      · unfold law06_WireGone_k3 at hF
        refine G.op1 (op_move (Ev.t 51 (bB y7)) rfl) rfl ⟨rfl, trivial⟩ trivial ?_
        refine ifS hF (fun hc8 hF => ?_) (fun hc8 hF => ?_)
        · refine G.known (t := 52) hc8 rfl ?_
          refine G.opG1 (op_move (Ev.t 9 (bB y3)) rfl) rfl rfl rfl ⟨rfl, trivial⟩ trivial ?_
          refine G.opG1 (op_not (Ev.t 53 (bB y3)) rfl) rfl rfl rfl ⟨rfl, trivial⟩ trivial ?_
          refine G.opG1 (op_move (Ev.t 54 (bB (!y3))) rfl) rfl rfl rfl ⟨rfl, trivial⟩ trivial ?_
          refine ifS hF (fun hc9 hF => ?_) (fun hc9 hF => ?_)
          · refine G.known (t := 55) hc9 rfl ?_
            refine G.opN1 rfl rfl rfl rfl rfl ?_
            refine G.opN1 rfl rfl rfl rfl rfl ?_
            refine G.opN1 rfl rfl rfl rfl rfl ?_
            refine G.opN1 rfl rfl rfl rfl rfl ?_
            refine G.opU rfl rfl rfl rfl ?_
            refine G.opU rfl rfl rfl rfl ?_
            refine G.opU rfl rfl rfl rfl ?_
            refine G.opU rfl rfl rfl rfl ?_
            refine G.opN1 rfl rfl rfl rfl rfl ?_
            refine G.opG1 (op_pickT (Ev.t 55 (bB true)) (Ev.c _ rfl) rfl) rfl rfl rfl ⟨rfl, trivial⟩ trivial ?_
            refine G.op1 (op_pickT (Ev.t 52 (bB true)) (Ev.t 65 (bB true)) rfl) rfl ⟨rfl, rfl, trivial⟩ trivial ?_
            refine G.op1 (op_assign (Ev.t 66 (bB true)) rfl) rfl ⟨rfl, trivial⟩ trivial ?_
            refine G.endOps ?_
            cases hF
            exact G.ret1 Try.results7 (RVar.tmp 4 _) ⟨rfl, trivial⟩ trivial
          · refine G.known (t := 55) hc9 rfl ?_
            refine G.opG1 (op_loadAP (ds := [.v (.string (ByteArray.mk #[107])), .v (.string (bytesOf (List.replicate (Int.toNat (Int.tmod (IntKind.wrap .i64 ((Int.tmod n_0 41) + 41)) 41)) (0 : Int)))), .v (.bool gone_1), .v (.int .i64 1), .v (.int .i64 0), .sl 3 (List.map encApi_Dep ([] : (List Api_Dep)))]) Try.underlying26 rfl ti26 rfl (Ev.t 8 (.ptr 1008 0)) rfl) rfl rfl rfl ⟨rfl, trivial⟩ ⟨rfl, trivial⟩ ?_
            refine G.opG1 (op_loadAP (ds := [.v (.string r5.1.Key), .v (.string r5.1.Value), .v (.bool r5.1.Gone), .v (.int .i64 r5.1.Stamp.N), .v (.int .i64 r5.1.Stamp.Site), .sl 3 (List.map encApi_Dep r5.1.Past)]) Try.underlying26 rfl ti26 rfl (Ev.t 10 (.ptr 1010 0)) rfl) rfl rfl rfl ⟨rfl, trivial⟩ ⟨rfl, trivial⟩ ?_
            obtain ⟨r10, hr10, hF⟩ := bindS hF
            refine G.opG1 (op_callQ (sv := .one (bB r10)) cf15 (ct_wire_Same (Api_Version.mk (ByteArray.mk #[107]) (bytesOf (List.replicate (Int.toNat (Int.tmod (IntKind.wrap .i64 ((Int.tmod n_0 41) + 41)) 41)) (0 : Int))) gone_1 (Api_Stamp.mk 1 0) ([] : (List Api_Dep))) r5.1 r10 hr10) rfl rfl (EvQL.cons (EvQ.g (Ev.t 56 (.g (.agg [.v (.string (ByteArray.mk #[107])), .v (.string (bytesOf (List.replicate (Int.toNat (Int.tmod (IntKind.wrap .i64 ((Int.tmod n_0 41) + 41)) 41)) (0 : Int)))), .v (.bool gone_1), .v (.int .i64 1), .v (.int .i64 0), .sl 3 (List.map encApi_Dep ([] : (List Api_Dep)))])))) (EvQL.cons (EvQ.g (Ev.t 57 (.g (.agg [.v (.string r5.1.Key), .v (.string r5.1.Value), .v (.bool r5.1.Gone), .v (.int .i64 r5.1.Stamp.N), .v (.int .i64 r5.1.Stamp.Site), .sl 3 (List.map encApi_Dep r5.1.Past)])))) EvQL.nil)) rfl) rfl rfl rfl ⟨rfl, rfl, trivial⟩ trivial ?_
            refine G.opG1 (op_move (Ev.t 58 (bB r10)) rfl) rfl rfl rfl ⟨rfl, trivial⟩ trivial ?_
            refine ifS hF (fun hc11 hF => ?_) (fun hc11 hF => ?_)
            · refine G.known (t := 59) hc11 rfl ?_
              refine G.opG1 (op_fieldP (off' := 2) Try.underlying26 rfl ti4 (by decide) rfl (Ev.t 10 (.ptr 1010 0)) rfl) rfl rfl rfl ⟨rfl, trivial⟩ trivial ?_
              refine G.opG1 (op_load1P (c := bB r5.1.Gone) Try.underlying4 rfl rfl (Ev.t 60 (.ptr 1010 2)) rfl) rfl rfl rfl ⟨rfl, trivial⟩ ⟨rfl, trivial⟩ ?_
              refine G.opG1 (op_move (Ev.t 1 (bB gone_1)) rfl) rfl rfl rfl ⟨rfl, trivial⟩ trivial ?_
              refine G.opG1 (op_eqB Try.underlying4 (Ev.t 61 (bB r5.1.Gone)) (Ev.t 62 (bB gone_1)) rfl) rfl rfl rfl ⟨rfl, rfl, trivial⟩ trivial ?_
              refine G.opG1 (op_pickT (Ev.t 59 (bB true)) (Ev.t 63 (bB (r5.1.Gone == gone_1))) rfl) rfl rfl rfl ⟨rfl, rfl, trivial⟩ trivial ?_
              refine G.opG1 (op_pickF (Ev.t 55 (bB false)) (Ev.t 64 (bB (r5.1.Gone == gone_1))) rfl) rfl rfl rfl ⟨rfl, rfl, trivial⟩ trivial ?_
              refine G.op1 (op_pickT (Ev.t 52 (bB true)) (Ev.t 65 (bB (r5.1.Gone == gone_1))) rfl) rfl ⟨rfl, rfl, trivial⟩ trivial ?_
              refine G.op1 (op_assign (Ev.t 66 (bB (r5.1.Gone == gone_1))) rfl) rfl ⟨rfl, trivial⟩ trivial ?_
              refine G.endOps ?_
              cases hF
              exact G.ret1 Try.results7 (RVar.tmp 4 _) ⟨rfl, trivial⟩ trivial
            · refine G.known (t := 59) hc11 rfl ?_
              refine G.opN1 rfl rfl rfl rfl rfl ?_
              refine G.opN1 rfl rfl rfl rfl rfl ?_
              refine G.opN1 rfl rfl rfl rfl rfl ?_
              refine G.opN1 rfl rfl rfl rfl rfl ?_
              refine G.opG1 (op_pickF (Ev.t 59 (bB false)) (Ev.c _ rfl) rfl) rfl rfl rfl ⟨rfl, trivial⟩ trivial ?_
              refine G.opG1 (op_pickF (Ev.t 55 (bB false)) (Ev.t 64 (bB false)) rfl) rfl rfl rfl ⟨rfl, rfl, trivial⟩ trivial ?_
              refine G.op1 (op_pickT (Ev.t 52 (bB true)) (Ev.t 65 (bB false)) rfl) rfl ⟨rfl, rfl, trivial⟩ trivial ?_
              refine G.op1 (op_assign (Ev.t 66 (bB false)) rfl) rfl ⟨rfl, trivial⟩ trivial ?_
              refine G.endOps ?_
              cases hF
              exact G.ret1 Try.results7 (RVar.tmp 4 _) ⟨rfl, trivial⟩ trivial
        · refine G.known (t := 52) hc8 rfl ?_
          refine G.opN1 rfl rfl rfl rfl rfl ?_
          refine G.opN1 rfl rfl rfl rfl rfl ?_
          refine G.opN1 rfl rfl rfl rfl rfl ?_
          refine G.opU rfl rfl rfl rfl ?_
          refine G.opU rfl rfl rfl rfl ?_
          refine G.opU rfl rfl rfl rfl ?_
          refine G.opU rfl rfl rfl rfl ?_
          refine G.opU rfl rfl rfl rfl ?_
          refine G.opU rfl rfl rfl rfl ?_
          refine G.opU rfl rfl rfl rfl ?_
          refine G.opU rfl rfl rfl rfl ?_
          refine G.opU rfl rfl rfl rfl ?_
          refine G.opN1 rfl rfl rfl rfl rfl ?_
          refine G.op1 (op_pickF (Ev.t 52 (bB false)) (Ev.c _ rfl) rfl) rfl ⟨rfl, trivial⟩ trivial ?_
          refine G.op1 (op_assign (Ev.t 66 (bB false)) rfl) rfl ⟨rfl, trivial⟩ trivial ?_
          refine G.endOps ?_
          cases hF
          exact G.ret1 Try.results7 (RVar.tmp 4 _) ⟨rfl, trivial⟩ trivial
      refine ifS hF (fun hc13 hF => ?_) (fun hc13 hF => ?_)
      · refine G.known (t := 47) hc13 rfl ?_
        refine G.opG1 (op_move (Ev.t 11 (bB r5.2)) rfl) rfl rfl rfl ⟨rfl, trivial⟩ trivial ?_
        refine G.opG1 (op_move (Ev.t 9 (bB y3)) rfl) rfl rfl rfl ⟨rfl, trivial⟩ trivial ?_
        refine G.opG1 (op_eqB Try.underlying4 (Ev.t 48 (bB r5.2)) (Ev.t 49 (bB y3)) rfl) rfl rfl rfl ⟨rfl, rfl, trivial⟩ trivial ?_
        refine G.op1 (op_pickT (Ev.t 47 (bB true)) (Ev.t 50 (bB (r5.2 == y3))) rfl) rfl ⟨rfl, rfl, trivial⟩ trivial ?_
        exact G.arr (J12 (r5.2 == y3) hF) ⟨rfl, rfl, rfl, rfl, rfl, trivial⟩ ⟨rfl, rfl, trivial⟩ rfl
      · refine G.known (t := 47) hc13 rfl ?_
        refine G.opN1 rfl rfl rfl rfl rfl ?_
        refine G.opN1 rfl rfl rfl rfl rfl ?_
        refine G.opN1 rfl rfl rfl rfl rfl ?_
        refine G.op1 (op_pickF (Ev.t 47 (bB false)) (Ev.c _ rfl) rfl) rfl ⟨rfl, trivial⟩ trivial ?_
        exact G.arr (J12 false hF) ⟨rfl, rfl, rfl, rfl, rfl, trivial⟩ ⟨rfl, rfl, trivial⟩ rfl
    refine ifS hF (fun hc15 hF => ?_) (fun hc15 hF => ?_)
    · refine G.known (t := 41) hc15 rfl ?_
      refine G.opG1 (op_loadAP (ds := [.v (.string (ByteArray.mk #[107])), .v (.string (bytesOf (List.replicate (Int.toNat (Int.tmod (IntKind.wrap .i64 ((Int.tmod n_0 41) + 41)) 41)) (0 : Int)))), .v (.bool gone_1), .v (.int .i64 1), .v (.int .i64 0), .sl 3 (List.map encApi_Dep ([] : (List Api_Dep)))]) Try.underlying26 rfl ti26 rfl (Ev.t 8 (.ptr 1008 0)) rfl) rfl rfl rfl ⟨rfl, trivial⟩ ⟨rfl, trivial⟩ ?_
      obtain ⟨r16, hr16, hF⟩ := bindS hF
      refine G.opG1 (op_callQ (sv := .one (bB r16)) cf11 (ct_wire_Check (Api_Version.mk (ByteArray.mk #[107]) (bytesOf (List.replicate (Int.toNat (Int.tmod (IntKind.wrap .i64 ((Int.tmod n_0 41) + 41)) 41)) (0 : Int))) gone_1 (Api_Stamp.mk 1 0) ([] : (List Api_Dep))) r16 hr16) rfl rfl (EvQL.cons (EvQ.g (Ev.t 42 (.g (.agg [.v (.string (ByteArray.mk #[107])), .v (.string (bytesOf (List.replicate (Int.toNat (Int.tmod (IntKind.wrap .i64 ((Int.tmod n_0 41) + 41)) 41)) (0 : Int)))), .v (.bool gone_1), .v (.int .i64 1), .v (.int .i64 0), .sl 3 (List.map encApi_Dep ([] : (List Api_Dep)))])))) EvQL.nil) rfl) rfl rfl rfl ⟨rfl, trivial⟩ trivial ?_
      refine G.opG1 (op_move (Ev.t 9 (bB y3)) rfl) rfl rfl rfl ⟨rfl, trivial⟩ trivial ?_
      refine G.opG1 (op_eqB Try.underlying4 (Ev.t 43 (bB r16)) (Ev.t 44 (bB y3)) rfl) rfl rfl rfl ⟨rfl, rfl, trivial⟩ trivial ?_
      refine G.op1 (op_pickT (Ev.t 41 (bB true)) (Ev.t 45 (bB (r16 == y3))) rfl) rfl ⟨rfl, rfl, trivial⟩ trivial ?_
      exact G.arr (J14 (r16 == y3) hF) ⟨rfl, rfl, rfl, rfl, rfl, rfl, trivial⟩ ⟨rfl, rfl, trivial⟩ rfl
    · refine G.known (t := 41) hc15 rfl ?_
      refine G.opN1 rfl rfl rfl rfl rfl ?_
      refine G.opN1 rfl rfl rfl rfl rfl ?_
      refine G.opN1 rfl rfl rfl rfl rfl ?_
      refine G.opN1 rfl rfl rfl rfl rfl ?_
      refine G.op1 (op_pickF (Ev.t 41 (bB false)) (Ev.c _ rfl) rfl) rfl ⟨rfl, trivial⟩ trivial ?_
      exact G.arr (J14 false hF) ⟨rfl, rfl, rfl, rfl, rfl, rfl, trivial⟩ ⟨rfl, rfl, trivial⟩ rfl
  refine G.region ?_
  refine G.op1 (op_move (Ev.t 6 (bI .i64 (Int.tmod (IntKind.wrap .i64 ((Int.tmod n_0 41) + 41)) 41))) rfl) rfl ⟨rfl, trivial⟩ trivial ?_
  refine G.op1 (op_leq (Ev.t 24 (bI .i64 (Int.tmod (IntKind.wrap .i64 ((Int.tmod n_0 41) + 41)) 41))) (Ev.c _ rfl) rfl) rfl ⟨rfl, trivial⟩ trivial ?_
  refine G.op1 (op_move (Ev.t 25 (bB (decide ((Int.tmod (IntKind.wrap .i64 ((Int.tmod n_0 41) + 41)) 41) ≤ 32)))) rfl) rfl ⟨rfl, trivial⟩ trivial ?_
  refine ifS hF (fun hc18 hF => ?_) (fun hc18 hF => ?_)
  · refine G.known (t := 26) hc18 rfl ?_
    refine G.opG1 (op_move (Ev.t 1 (bB gone_1)) rfl) rfl rfl rfl ⟨rfl, trivial⟩ trivial ?_
    refine G.opG1 (op_not (Ev.t 27 (bB gone_1)) rfl) rfl rfl rfl ⟨rfl, trivial⟩ trivial ?_
    refine G.opG1 (op_move (Ev.t 28 (bB (!gone_1))) rfl) rfl rfl rfl ⟨rfl, trivial⟩ trivial ?_
    refine ifS hF (fun hc19 hF => ?_) (fun hc19 hF => ?_)
    · refine G.known (t := 29) hc19 rfl ?_
      refine G.opN1 rfl rfl rfl rfl rfl ?_
      refine G.opN1 rfl rfl rfl rfl rfl ?_
      refine G.opG1 (op_pickT (Ev.t 29 (bB true)) (Ev.c _ rfl) rfl) rfl rfl rfl ⟨rfl, trivial⟩ trivial ?_
      refine G.op1 (op_pickT (Ev.t 26 (bB true)) (Ev.t 32 (bB true)) rfl) rfl ⟨rfl, rfl, trivial⟩ trivial ?_
      refine G.op1 (op_assign (Ev.t 33 (bB true)) rfl) rfl ⟨rfl, trivial⟩ trivial ?_
      refine G.endOps ?_
      exact G.arr (J17 true hF) ⟨rfl, rfl, rfl, rfl, trivial⟩ ⟨rfl, trivial⟩ rfl
    · refine G.known (t := 29) hc19 rfl ?_
      refine G.opG1 (op_move (Ev.t 6 (bI .i64 (Int.tmod (IntKind.wrap .i64 ((Int.tmod n_0 41) + 41)) 41))) rfl) rfl rfl rfl ⟨rfl, trivial⟩ trivial ?_
      refine G.opG1 (op_eqI (Ev.t 30 (bI .i64 (Int.tmod (IntKind.wrap .i64 ((Int.tmod n_0 41) + 41)) 41))) (Ev.c _ rfl) rfl) rfl rfl rfl ⟨rfl, trivial⟩ trivial ?_
      refine G.opG1 (op_pickF (Ev.t 29 (bB false)) (Ev.t 31 (bB (decide ((Int.tmod (IntKind.wrap .i64 ((Int.tmod n_0 41) + 41)) 41) = 0)))) rfl) rfl rfl rfl ⟨rfl, rfl, trivial⟩ trivial ?_
      refine G.op1 (op_pickT (Ev.t 26 (bB true)) (Ev.t 32 (bB (decide ((Int.tmod (IntKind.wrap .i64 ((Int.tmod n_0 41) + 41)) 41) = 0)))) rfl) rfl ⟨rfl, rfl, trivial⟩ trivial ?_
      refine G.op1 (op_assign (Ev.t 33 (bB (decide ((Int.tmod (IntKind.wrap .i64 ((Int.tmod n_0 41) + 41)) 41) = 0)))) rfl) rfl ⟨rfl, trivial⟩ trivial ?_
      refine G.endOps ?_
      exact G.arr (J17 (decide ((Int.tmod (IntKind.wrap .i64 ((Int.tmod n_0 41) + 41)) 41) = 0)) hF) ⟨rfl, rfl, rfl, rfl, trivial⟩ ⟨rfl, trivial⟩ rfl
  · refine G.known (t := 26) hc18 rfl ?_
    refine G.opN1 rfl rfl rfl rfl rfl ?_
    refine G.opN1 rfl rfl rfl rfl rfl ?_
    refine G.opN1 rfl rfl rfl rfl rfl ?_
    refine G.opU rfl rfl rfl rfl ?_
    refine G.opU rfl rfl rfl rfl ?_
    refine G.opN1 rfl rfl rfl rfl rfl ?_
    refine G.op1 (op_pickF (Ev.t 26 (bB false)) (Ev.c _ rfl) rfl) rfl ⟨rfl, trivial⟩ trivial ?_
    refine G.op1 (op_assign (Ev.t 33 (bB false)) rfl) rfl ⟨rfl, trivial⟩ trivial ?_
    refine G.endOps ?_
    exact G.arr (J17 false hF) ⟨rfl, rfl, rfl, rfl, trivial⟩ ⟨rfl, trivial⟩ rfl


end Go.Ark
