/- Walks, printed by a program of mine: each function of the program computes the typed function of its name. Conditions: none. -/
import Derived.Test.YtjidbmelmcmmhaaWWireWrites1
namespace Go.Ark
open Go Go.Ab Go.RowKit Go.Lib Go.Proofs

set_option maxRecDepth 20000 in
set_option maxHeartbeats 2000000 in
theorem ct_slices_Equal_Dep (s1_0 : (List Api_Dep)) (s2_1 : (List Api_Dep)) (r : Bool) (hF : slices_Equal_Dep s1_0 s2_1 = some r) : Ct Try.prog 62 [.g (.d (.sl 3 (List.map encApi_Dep s1_0))), .g (.d (.sl 3 (List.map encApi_Dep s2_1)))] (.one (.d (.v (.bool r)))) := by
  unfold slices_Equal_Dep at hF
  refine Ct.intro Try.func62 rfl Try.ntmps62 rfl rfl fun M w => ?_
  refine G.seq ?_
  refine G.region ?_
  refine G.op1 (op_assign (Ev.c _ rfl) rfl) rfl trivial trivial ?_
  refine G.endOps ?_
  refine G.seq ?_
  refine G.seq ?_
  refine G.region ?_
  refine G.op1 (op_move (Ev.t 0 (.g (.d (.sl 3 (List.map encApi_Dep s1_0))))) rfl) rfl ⟨rfl, trivial⟩ trivial ?_
  refine G.op1 (OpL.cast (op_lenD Try.underlying24 (Ev.t 6 (.g (.d (.sl 3 (List.map encApi_Dep s1_0))))) rfl) (by rw [List.length_map])) rfl ⟨rfl, trivial⟩ trivial ?_
  refine G.op1 (op_move (Ev.t 1 (.g (.d (.sl 3 (List.map encApi_Dep s2_1))))) rfl) rfl ⟨rfl, trivial⟩ trivial ?_
  refine G.op1 (OpL.cast (op_lenD Try.underlying24 (Ev.t 8 (.g (.d (.sl 3 (List.map encApi_Dep s2_1))))) rfl) (by rw [List.length_map])) rfl ⟨rfl, trivial⟩ trivial ?_
  refine G.op1 (op_neI (Ev.t 7 (bI .i64 (s1_0.length : Int))) (Ev.t 9 (bI .i64 (s2_1.length : Int))) rfl) rfl ⟨rfl, rfl, trivial⟩ trivial ?_
  refine G.endOps ?_
  refine ifS hF (fun hc1 hF => ?_) (fun hc1 hF => ?_)
  · refine G.cond rfl (fun _ => ?_) (fun hx => by rw [hc1] at hx; cases hx)
    refine G.seq ?_
    refine G.region ?_
    refine G.op1 (op_assign (Ev.c _ rfl) rfl) rfl trivial trivial ?_
    refine G.endOps ?_
    cases hF
    exact G.ret1 Try.results62 (RVar.tmp 4 _) ⟨rfl, trivial⟩ trivial
  · refine G.cond rfl (fun hx => by rw [hc1] at hx; cases hx) (fun _ => ?_)
    refine G.skip ?_
    refine G.seq ?_
    refine G.seq ?_
    refine G.region ?_
    refine G.op1 (op_move (Ev.t 0 (.g (.d (.sl 3 (List.map encApi_Dep s1_0))))) rfl) rfl ⟨rfl, trivial⟩ trivial ?_
    refine G.op1 (OpL.cast (op_lenD Try.underlying24 (Ev.t 11 (.g (.d (.sl 3 (List.map encApi_Dep s1_0))))) rfl) (by rw [List.length_map])) rfl ⟨rfl, trivial⟩ trivial ?_
    refine G.op1 (op_move (Ev.c _ rfl) rfl) rfl trivial trivial ?_
    refine G.endOps ?_
    refine G.joinC (T := Unit) (fun y2 => ⟨[], []⟩) (fun y2 => slices_Equal_Dep_k1 y2 = some r) (fun y2 hF => ?_) (fun J3 => ?_)
    · unfold slices_Equal_Dep_k1 at hF
      refine G.seq ?_
      refine G.region ?_
      refine G.op1 (op_assign (Ev.c _ rfl) rfl) rfl trivial trivial ?_
      refine G.endOps ?_
      cases hF
      exact G.ret1 Try.results62 (RVar.tmp 4 _) ⟨rfl, trivial⟩ trivial
    refine G.block ?_
    refine G.keep (sl' := [(0, .one (.g (.d (.sl 3 (List.map encApi_Dep s1_0))))), (1, .one (.g (.d (.sl 3 (List.map encApi_Dep s2_1))))), (12, .one (bI .i64 (s1_0.length : Int))), (13, .one (bI .i64 0))]) (hp' := []) ⟨rfl, rfl, rfl, rfl, trivial⟩ trivial rfl ?_
    refine G.loopF (fun (v4 : Int) => ⟨[(0, .one (.g (.d (.sl 3 (List.map encApi_Dep s1_0))))), (1, .one (.g (.d (.sl 3 (List.map encApi_Dep s2_1))))), (12, .one (bI .i64 (s1_0.length : Int))), (13, .one (bI .i64 v4))], []⟩) hF rfl (fun K7 again6 v4 J5 hF => ?_)
    unfold slices_Equal_Dep_l2 at hF
    refine G.seq ?_
    refine G.region ?_
    refine G.op1 (op_lss (Ev.t 13 (bI .i64 v4)) (Ev.t 12 (bI .i64 (s1_0.length : Int))) rfl) rfl ⟨rfl, rfl, trivial⟩ trivial ?_
    refine G.endOps ?_
    refine G.seq ?_
    refine ifS hF (fun hc8 hF => ?_) (fun hc8 hF => ?_)
    · refine G.cond rfl (fun _ => ?_) (fun hx => by rw [hc8] at hx; cases hx)
      refine G.skip ?_
      refine G.seq ?_
      refine G.block ?_
      refine G.seq ?_
      refine G.region ?_
      refine G.op1 (op_move (Ev.t 13 (bI .i64 v4)) rfl) rfl ⟨rfl, trivial⟩ trivial ?_
      refine G.op1 (op_assign (Ev.t 15 (bI .i64 v4)) rfl) rfl ⟨rfl, trivial⟩ trivial ?_
      refine G.endOps ?_
      refine G.seq ?_
      obtain ⟨x9, hx9, hF⟩ := bindS hF
      obtain ⟨x10, hx10, hF⟩ := bindS hF
      refine G.drawn (effs := [⟨[(0, .one (.g (.d (.sl 3 (List.map encApi_Dep s1_0)))))], [], [(16, .one (.g (.d (.sl 3 (List.map encApi_Dep s1_0)))))], []⟩, ⟨[(5, .one (bI .i64 v4))], [], [(17, .one (bI .i64 v4))], []⟩, ⟨[(16, .one (.g (.d (.sl 3 (List.map encApi_Dep s1_0))))), (17, .one (bI .i64 v4))], [], [(18, .one (.ep [.v (.string x9.Key), .v (.int .i64 x9.Stamp.N), .v (.int .i64 x9.Stamp.Site)]))], []⟩, ⟨[(18, .one (.ep [.v (.string x9.Key), .v (.int .i64 x9.Stamp.N), .v (.int .i64 x9.Stamp.Site)]))], [], [(19, .one (.g (.agg [.v (.string x9.Key), .v (.int .i64 x9.Stamp.N), .v (.int .i64 x9.Stamp.Site)])))], []⟩, ⟨[(1, .one (.g (.d (.sl 3 (List.map encApi_Dep s2_1)))))], [], [(20, .one (.g (.d (.sl 3 (List.map encApi_Dep s2_1)))))], []⟩, ⟨[(5, .one (bI .i64 v4))], [], [(21, .one (bI .i64 v4))], []⟩, ⟨[(20, .one (.g (.d (.sl 3 (List.map encApi_Dep s2_1))))), (21, .one (bI .i64 v4))], [], [(22, .one (.ep [.v (.string x10.Key), .v (.int .i64 x10.Stamp.N), .v (.int .i64 x10.Stamp.Site)]))], []⟩, ⟨[(22, .one (.ep [.v (.string x10.Key), .v (.int .i64 x10.Stamp.N), .v (.int .i64 x10.Stamp.Site)]))], [], [(23, .one (.g (.agg [.v (.string x10.Key), .v (.int .i64 x10.Stamp.N), .v (.int .i64 x10.Stamp.Site)])))], []⟩, ⟨[(19, .one (.g (.agg [.v (.string x9.Key), .v (.int .i64 x9.Stamp.N), .v (.int .i64 x9.Stamp.Site)]))), (23, .one (.g (.agg [.v (.string x10.Key), .v (.int .i64 x10.Stamp.N), .v (.int .i64 x10.Stamp.Site)])))], [], [(24, .one (bB (!(decide (x9.Key = x10.Key) && decide (x9.Stamp.N = x10.Stamp.N) && decide (x9.Stamp.Site = x10.Stamp.Site)))))], []⟩]) (deps := [[], [], [0, 1], [0, 1, 2], [], [], [4, 5], [4, 5, 6], [0, 1, 2, 3, 4, 5, 6, 7]]) (sl' := [(0, .one (.g (.d (.sl 3 (List.map encApi_Dep s1_0))))), (1, .one (.g (.d (.sl 3 (List.map encApi_Dep s2_1))))), (12, .one (bI .i64 (s1_0.length : Int))), (13, .one (bI .i64 v4)), (24, .one (bB (!(decide (x9.Key = x10.Key) && decide (x9.Stamp.N = x10.Stamp.N) && decide (x9.Stamp.Site = x10.Stamp.Site)))))]) (hp' := []) follows rfl rfl rfl ⟨⟨rfl, trivial⟩, trivial, ⟨rfl, trivial⟩, trivial, ⟨rfl, rfl, trivial⟩, trivial, ⟨rfl, trivial⟩, trivial, ⟨rfl, trivial⟩, trivial, ⟨rfl, trivial⟩, trivial, ⟨rfl, rfl, trivial⟩, trivial, ⟨rfl, trivial⟩, trivial, ⟨rfl, rfl, trivial⟩, trivial, trivial⟩ ⟨OpW.plain (op_move (Ev.t 0 (.g (.d (.sl 3 (List.map encApi_Dep s1_0))))) rfl) rfl rfl, OpW.plain (op_move (Ev.t 5 (bI .i64 v4)) rfl) rfl rfl, OpW.plain (op_index (cs := [.v (.string x9.Key), .v (.int .i64 x9.Stamp.N), .v (.int .i64 x9.Stamp.Site)]) Try.underlying24 ti52 (idx_ok hx9).1 (idx_get hx9 encApi_Dep) (Ev.t 16 (.g (.d (.sl 3 (List.map encApi_Dep s1_0))))) (Ev.t 17 (bI .i64 v4)) rfl) rfl rfl, OpW.plain (op_loadAE (ds := [.v (.string x9.Key), .v (.int .i64 x9.Stamp.N), .v (.int .i64 x9.Stamp.Site)]) Try.underlying52 rfl ti52 rfl (Ev.t 18 (.ep [.v (.string x9.Key), .v (.int .i64 x9.Stamp.N), .v (.int .i64 x9.Stamp.Site)])) rfl) rfl rfl, OpW.plain (op_move (Ev.t 1 (.g (.d (.sl 3 (List.map encApi_Dep s2_1))))) rfl) rfl rfl, OpW.plain (op_move (Ev.t 5 (bI .i64 v4)) rfl) rfl rfl, OpW.plain (op_index (cs := [.v (.string x10.Key), .v (.int .i64 x10.Stamp.N), .v (.int .i64 x10.Stamp.Site)]) Try.underlying24 ti52 (idx_ok hx10).1 (idx_get hx10 encApi_Dep) (Ev.t 20 (.g (.d (.sl 3 (List.map encApi_Dep s2_1))))) (Ev.t 21 (bI .i64 v4)) rfl) rfl rfl, OpW.plain (op_loadAE (ds := [.v (.string x10.Key), .v (.int .i64 x10.Stamp.N), .v (.int .i64 x10.Stamp.Site)]) Try.underlying52 rfl ti52 rfl (Ev.t 22 (.ep [.v (.string x10.Key), .v (.int .i64 x10.Stamp.N), .v (.int .i64 x10.Stamp.Site)])) rfl) rfl rfl, OpW.plain (op_eqA (us := [.string x9.Key, .int .i64 x9.Stamp.N, .int .i64 x9.Stamp.Site]) (vs := [.string x10.Key, .int .i64 x10.Stamp.N, .int .i64 x10.Stamp.Site]) rfl rfl Try.eqGuardType52 (fun w => ne52 x9.Key x9.Stamp.N x9.Stamp.Site x10.Key x10.Stamp.N x10.Stamp.Site w) (Ev.t 19 (.g (.agg [.v (.string x9.Key), .v (.int .i64 x9.Stamp.N), .v (.int .i64 x9.Stamp.Site)]))) (Ev.t 23 (.g (.agg [.v (.string x10.Key), .v (.int .i64 x10.Stamp.N), .v (.int .i64 x10.Stamp.Site)]))) rfl) rfl rfl, trivial⟩ ⟨rfl, rfl, rfl, rfl, rfl, trivial⟩ trivial rfl ?_
      refine ifS hF (fun hc11 hF => ?_) (fun hc11 hF => ?_)
      · refine G.cond rfl (fun _ => ?_) (fun hx => by rw [hc11] at hx; cases hx)
        refine G.seq ?_
        refine G.region ?_
        refine G.op1 (op_assign (Ev.c _ rfl) rfl) rfl trivial trivial ?_
        refine G.endOps ?_
        cases hF
        exact G.ret1 Try.results62 (RVar.tmp 4 _) ⟨rfl, trivial⟩ trivial
      · refine G.cond rfl (fun hx => by rw [hc11] at hx; cases hx) (fun _ => ?_)
        refine G.skip ?_
        refine G.endBlock ?_
        refine G.region ?_
        refine G.op1 (op_add (Ev.t 13 (bI .i64 v4)) (Ev.c _ rfl) rfl) rfl ⟨rfl, trivial⟩ trivial ?_
        refine G.op1 (op_move (Ev.t 25 (bI .i64 (IntKind.wrap .i64 (v4 + 1)))) rfl) rfl ⟨rfl, trivial⟩ trivial ?_
        refine G.endOps ?_
        exact G.arr (J5 (IntKind.wrap .i64 (v4 + 1)) hF) ⟨rfl, rfl, rfl, rfl, trivial⟩ trivial rfl
    · refine G.cond rfl (fun hx => by rw [hc8] at hx; cases hx) (fun _ => ?_)
      refine G.exit ?_
      refine GX.c ?_
      refine GX.q ?_
      refine GX.bYes ?_
      exact G.arr (J3 () hF) trivial trivial rfl


set_option maxRecDepth 20000 in
set_option maxHeartbeats 2000000 in
theorem ct_past_Same (p_0 : (List Api_Dep)) (q_1 : (List Api_Dep)) (r : Bool) (hF : past_Same p_0 q_1 = some r) : Ct Try.prog 40 [.g (.d (.sl 3 (List.map encApi_Dep p_0))), .g (.d (.sl 3 (List.map encApi_Dep q_1)))] (.one (.d (.v (.bool r)))) := by
  unfold past_Same at hF
  refine Ct.intro Try.func40 rfl Try.ntmps40 rfl rfl fun M w => ?_
  refine G.seq ?_
  refine G.region ?_
  refine G.op1 (op_assign (Ev.c _ rfl) rfl) rfl trivial trivial ?_
  refine G.endOps ?_
  refine G.seq ?_
  refine G.region ?_
  refine G.op1 (op_move (Ev.t 0 (.g (.d (.sl 3 (List.map encApi_Dep p_0))))) rfl) rfl ⟨rfl, trivial⟩ trivial ?_
  refine G.op1 (op_move (Ev.t 1 (.g (.d (.sl 3 (List.map encApi_Dep q_1))))) rfl) rfl ⟨rfl, trivial⟩ trivial ?_
  obtain ⟨r1, hr1, hF⟩ := bindS hF
  refine G.op1 (op_callQ (sv := .one (bB r1)) cf62 (ct_slices_Equal_Dep p_0 q_1 r1 hr1) rfl rfl (EvQL.cons (EvQ.g (Ev.t 5 (.g (.d (.sl 3 (List.map encApi_Dep p_0)))))) (EvQL.cons (EvQ.g (Ev.t 6 (.g (.d (.sl 3 (List.map encApi_Dep q_1)))))) EvQL.nil)) rfl) rfl ⟨rfl, rfl, trivial⟩ trivial ?_
  refine G.op1 (op_assign (Ev.t 7 (bB r1)) rfl) rfl ⟨rfl, trivial⟩ trivial ?_
  refine G.endOps ?_
  cases hF
  exact G.ret1 Try.results40 (RVar.tmp 4 _) ⟨rfl, trivial⟩ trivial


set_option maxRecDepth 20000 in
set_option maxHeartbeats 2000000 in
theorem ct_wire_Same (a_0 : Api_Version) (b_1 : Api_Version) (r : Bool) (hF : wire_Same a_0 b_1 = some r) : Ct Try.prog 15 [.g (.agg (encApi_Version a_0)), .g (.agg (encApi_Version b_1))] (.one (.d (.v (.bool r)))) := by
  unfold wire_Same at hF
  refine Ct.intro Try.func15 rfl Try.ntmps15 rfl rfl fun M w => ?_
  refine G.seq ?_
  refine G.region ?_
  refine G.op2 (op_boxA (k := 1002) (Ev.t 0 (.g (.agg [.v (.string a_0.Key), .v (.string a_0.Value), .v (.bool a_0.Gone), .v (.int .i64 a_0.Stamp.N), .v (.int .i64 a_0.Stamp.Site), .sl 3 (List.map encApi_Dep a_0.Past)]))) rfl) rfl ⟨rfl, trivial⟩ ⟨rfl, trivial⟩ ?_
  refine G.op2 (op_boxA (k := 1003) (Ev.t 1 (.g (.agg [.v (.string b_1.Key), .v (.string b_1.Value), .v (.bool b_1.Gone), .v (.int .i64 b_1.Stamp.N), .v (.int .i64 b_1.Stamp.Site), .sl 3 (List.map encApi_Dep b_1.Past)]))) rfl) rfl ⟨rfl, trivial⟩ ⟨rfl, trivial⟩ ?_
  refine G.op1 (op_assign (Ev.c _ rfl) rfl) rfl trivial trivial ?_
  refine G.endOps ?_
  refine G.seq ?_
  refine G.region ?_
  refine G.op1 (op_fieldP (off' := 0) Try.underlying26 rfl ti9 (by decide) rfl (Ev.t 2 (.ptr 1002 0)) rfl) rfl ⟨rfl, trivial⟩ trivial ?_
  refine G.op1 (op_load1P (c := bS a_0.Key) Try.underlying9 rfl rfl (Ev.t 5 (.ptr 1002 0)) rfl) rfl ⟨rfl, trivial⟩ ⟨rfl, trivial⟩ ?_
  refine G.op1 (op_fieldP (off' := 0) Try.underlying26 rfl ti9 (by decide) rfl (Ev.t 3 (.ptr 1003 0)) rfl) rfl ⟨rfl, trivial⟩ trivial ?_
  refine G.op1 (op_load1P (c := bS b_1.Key) Try.underlying9 rfl rfl (Ev.t 7 (.ptr 1003 0)) rfl) rfl ⟨rfl, trivial⟩ ⟨rfl, trivial⟩ ?_
  refine G.op1 (op_eqS (Ev.t 6 (bS a_0.Key)) (Ev.t 8 (bS b_1.Key)) rfl) rfl ⟨rfl, rfl, trivial⟩ trivial ?_
  refine G.op1 (op_move (Ev.t 9 (bB (seq a_0.Key b_1.Key))) rfl) rfl ⟨rfl, trivial⟩ trivial ?_
  refine G.joinL (T := Bool) 6 (fun y1 => ⟨[(2, .one (.ptr 1002 0)), (3, .one (.ptr 1003 0)), (16, .one (bB y1))], [(1002, some (.blk 26 [bS a_0.Key, bS a_0.Value, bB a_0.Gone, bI .i64 a_0.Stamp.N, bI .i64 a_0.Stamp.Site, .g (.d (.sl 3 (List.map encApi_Dep a_0.Past)))])), (1003, some (.blk 26 [bS b_1.Key, bS b_1.Value, bB b_1.Gone, bI .i64 b_1.Stamp.N, bI .i64 b_1.Stamp.Site, .g (.d (.sl 3 (List.map encApi_Dep b_1.Past)))]))]⟩) (fun y1 => wire_Same_k1 a_0 b_1 y1 = some r) (fun y1 hF => ?_) (fun J10 => ?_)
  · unfold wire_Same_k1 at hF
    refine G.op1 (op_move (Ev.t 16 (bB y1)) rfl) rfl ⟨rfl, trivial⟩ trivial ?_
    refine G.joinL (T := Bool) 6 (fun y2 => ⟨[(2, .one (.ptr 1002 0)), (3, .one (.ptr 1003 0)), (23, .one (bB y2))], [(1002, some (.blk 26 [bS a_0.Key, bS a_0.Value, bB a_0.Gone, bI .i64 a_0.Stamp.N, bI .i64 a_0.Stamp.Site, .g (.d (.sl 3 (List.map encApi_Dep a_0.Past)))])), (1003, some (.blk 26 [bS b_1.Key, bS b_1.Value, bB b_1.Gone, bI .i64 b_1.Stamp.N, bI .i64 b_1.Stamp.Site, .g (.d (.sl 3 (List.map encApi_Dep b_1.Past)))]))]⟩) (fun y2 => wire_Same_k2 a_0 b_1 y2 = some r) (fun y2 hF => ?_) (fun J8 => ?_)
    · unfold wire_Same_k2 at hF
      refine G.op1 (op_move (Ev.t 23 (bB y2)) rfl) rfl ⟨rfl, trivial⟩ trivial ?_
      refine G.joinL (T := Bool) 6 (fun y3 => ⟨[(2, .one (.ptr 1002 0)), (3, .one (.ptr 1003 0)), (30, .one (bB y3))], [(1002, some (.blk 26 [bS a_0.Key, bS a_0.Value, bB a_0.Gone, bI .i64 a_0.Stamp.N, bI .i64 a_0.Stamp.Site, .g (.d (.sl 3 (List.map encApi_Dep a_0.Past)))])), (1003, some (.blk 26 [bS b_1.Key, bS b_1.Value, bB b_1.Gone, bI .i64 b_1.Stamp.N, bI .i64 b_1.Stamp.Site, .g (.d (.sl 3 (List.map encApi_Dep b_1.Past)))]))]⟩) (fun y3 => wire_Same_k3 a_0 b_1 y3 = some r) (fun y3 hF => ?_) (fun J6 => ?_)
      · unfold wire_Same_k3 at hF
        refine G.op1 (op_move (Ev.t 30 (bB y3)) rfl) rfl ⟨rfl, trivial⟩ trivial ?_
        refine ifS hF (fun hc4 hF => ?_) (fun hc4 hF => ?_)
        · refine G.known (t := 31) hc4 rfl ?_
          refine G.opG1 (op_fieldP (off' := 5) Try.underlying26 rfl ti24 (by decide) rfl (Ev.t 2 (.ptr 1002 0)) rfl) rfl rfl rfl ⟨rfl, trivial⟩ trivial ?_
          refine G.opG1 (op_load1P (c := .g (.d (.sl 3 (List.map encApi_Dep a_0.Past)))) Try.underlying24 rfl rfl (Ev.t 32 (.ptr 1002 5)) rfl) rfl rfl rfl ⟨rfl, trivial⟩ ⟨rfl, trivial⟩ ?_
          refine G.opG1 (op_fieldP (off' := 5) Try.underlying26 rfl ti24 (by decide) rfl (Ev.t 3 (.ptr 1003 0)) rfl) rfl rfl rfl ⟨rfl, trivial⟩ trivial ?_
          refine G.opG1 (op_load1P (c := .g (.d (.sl 3 (List.map encApi_Dep b_1.Past)))) Try.underlying24 rfl rfl (Ev.t 34 (.ptr 1003 5)) rfl) rfl rfl rfl ⟨rfl, trivial⟩ ⟨rfl, trivial⟩ ?_
          obtain ⟨r5, hr5, hF⟩ := bindS hF
          refine G.opG1 (op_callQ (sv := .one (bB r5)) cf40 (ct_past_Same a_0.Past b_1.Past r5 hr5) rfl rfl (EvQL.cons (EvQ.g (Ev.t 33 (.g (.d (.sl 3 (List.map encApi_Dep a_0.Past)))))) (EvQL.cons (EvQ.g (Ev.t 35 (.g (.d (.sl 3 (List.map encApi_Dep b_1.Past)))))) EvQL.nil)) rfl) rfl rfl rfl ⟨rfl, rfl, trivial⟩ trivial ?_
          refine G.op1 (op_pickT (Ev.t 31 (bB true)) (Ev.t 36 (bB r5)) rfl) rfl ⟨rfl, rfl, trivial⟩ trivial ?_
          refine G.op1 (op_assign (Ev.t 37 (bB r5)) rfl) rfl ⟨rfl, trivial⟩ trivial ?_
          refine G.endOps ?_
          cases hF
          exact G.ret1 Try.results15 (RVar.tmp 4 _) ⟨rfl, trivial⟩ trivial
        · refine G.known (t := 31) hc4 rfl ?_
          refine G.opN1 rfl rfl rfl rfl rfl ?_
          refine G.opN1 rfl rfl rfl rfl rfl ?_
          refine G.opN1 rfl rfl rfl rfl rfl ?_
          refine G.opN1 rfl rfl rfl rfl rfl ?_
          refine G.opN1 rfl rfl rfl rfl rfl ?_
          refine G.op1 (op_pickF (Ev.t 31 (bB false)) (Ev.c _ rfl) rfl) rfl ⟨rfl, trivial⟩ trivial ?_
          refine G.op1 (op_assign (Ev.t 37 (bB false)) rfl) rfl ⟨rfl, trivial⟩ trivial ?_
          refine G.endOps ?_
          cases hF
          exact G.ret1 Try.results15 (RVar.tmp 4 _) ⟨rfl, trivial⟩ trivial
      refine ifS hF (fun hc7 hF => ?_) (fun hc7 hF => ?_)
      · refine G.known (t := 24) hc7 rfl ?_
        refine G.opG1 (op_fieldP (off' := 3) Try.underlying26 rfl ti23 (by decide) rfl (Ev.t 2 (.ptr 1002 0)) rfl) rfl rfl rfl ⟨rfl, trivial⟩ trivial ?_
        refine G.opG1 (op_loadAP (ds := [.v (.int .i64 a_0.Stamp.N), .v (.int .i64 a_0.Stamp.Site)]) Try.underlying23 rfl ti23 rfl (Ev.t 25 (.ptr 1002 3)) rfl) rfl rfl rfl ⟨rfl, trivial⟩ ⟨rfl, trivial⟩ ?_
        refine G.opG1 (op_fieldP (off' := 3) Try.underlying26 rfl ti23 (by decide) rfl (Ev.t 3 (.ptr 1003 0)) rfl) rfl rfl rfl ⟨rfl, trivial⟩ trivial ?_
        refine G.opG1 (op_loadAP (ds := [.v (.int .i64 b_1.Stamp.N), .v (.int .i64 b_1.Stamp.Site)]) Try.underlying23 rfl ti23 rfl (Ev.t 27 (.ptr 1003 3)) rfl) rfl rfl rfl ⟨rfl, trivial⟩ ⟨rfl, trivial⟩ ?_
        refine G.opG1 (op_eqA (us := [.int .i64 a_0.Stamp.N, .int .i64 a_0.Stamp.Site]) (vs := [.int .i64 b_1.Stamp.N, .int .i64 b_1.Stamp.Site]) rfl rfl Try.eqGuardType23 (fun w => eq23 a_0.Stamp.N a_0.Stamp.Site b_1.Stamp.N b_1.Stamp.Site w) (Ev.t 26 (.g (.agg [.v (.int .i64 a_0.Stamp.N), .v (.int .i64 a_0.Stamp.Site)]))) (Ev.t 28 (.g (.agg [.v (.int .i64 b_1.Stamp.N), .v (.int .i64 b_1.Stamp.Site)]))) rfl) rfl rfl rfl ⟨rfl, rfl, trivial⟩ trivial ?_
        refine G.op1 (op_pickT (Ev.t 24 (bB true)) (Ev.t 29 (bB (decide (a_0.Stamp.N = b_1.Stamp.N) && decide (a_0.Stamp.Site = b_1.Stamp.Site)))) rfl) rfl ⟨rfl, rfl, trivial⟩ trivial ?_
        exact G.arr (J6 (decide (a_0.Stamp.N = b_1.Stamp.N) && decide (a_0.Stamp.Site = b_1.Stamp.Site)) hF) ⟨rfl, rfl, rfl, trivial⟩ ⟨rfl, rfl, trivial⟩ rfl
      · refine G.known (t := 24) hc7 rfl ?_
        refine G.opN1 rfl rfl rfl rfl rfl ?_
        refine G.opN1 rfl rfl rfl rfl rfl ?_
        refine G.opN1 rfl rfl rfl rfl rfl ?_
        refine G.opN1 rfl rfl rfl rfl rfl ?_
        refine G.opN1 rfl rfl rfl rfl rfl ?_
        refine G.op1 (op_pickF (Ev.t 24 (bB false)) (Ev.c _ rfl) rfl) rfl ⟨rfl, trivial⟩ trivial ?_
        exact G.arr (J6 false hF) ⟨rfl, rfl, rfl, trivial⟩ ⟨rfl, rfl, trivial⟩ rfl
    refine ifS hF (fun hc9 hF => ?_) (fun hc9 hF => ?_)
    · refine G.known (t := 17) hc9 rfl ?_
      refine G.opG1 (op_fieldP (off' := 2) Try.underlying26 rfl ti4 (by decide) rfl (Ev.t 2 (.ptr 1002 0)) rfl) rfl rfl rfl ⟨rfl, trivial⟩ trivial ?_
      refine G.opG1 (op_load1P (c := bB a_0.Gone) Try.underlying4 rfl rfl (Ev.t 18 (.ptr 1002 2)) rfl) rfl rfl rfl ⟨rfl, trivial⟩ ⟨rfl, trivial⟩ ?_
      refine G.opG1 (op_fieldP (off' := 2) Try.underlying26 rfl ti4 (by decide) rfl (Ev.t 3 (.ptr 1003 0)) rfl) rfl rfl rfl ⟨rfl, trivial⟩ trivial ?_
      refine G.opG1 (op_load1P (c := bB b_1.Gone) Try.underlying4 rfl rfl (Ev.t 20 (.ptr 1003 2)) rfl) rfl rfl rfl ⟨rfl, trivial⟩ ⟨rfl, trivial⟩ ?_
      refine G.opG1 (op_eqB Try.underlying4 (Ev.t 19 (bB a_0.Gone)) (Ev.t 21 (bB b_1.Gone)) rfl) rfl rfl rfl ⟨rfl, rfl, trivial⟩ trivial ?_
      refine G.op1 (op_pickT (Ev.t 17 (bB true)) (Ev.t 22 (bB (a_0.Gone == b_1.Gone))) rfl) rfl ⟨rfl, rfl, trivial⟩ trivial ?_
      exact G.arr (J8 (a_0.Gone == b_1.Gone) hF) ⟨rfl, rfl, rfl, trivial⟩ ⟨rfl, rfl, trivial⟩ rfl
    · refine G.known (t := 17) hc9 rfl ?_
      refine G.opN1 rfl rfl rfl rfl rfl ?_
      refine G.opN1 rfl rfl rfl rfl rfl ?_
      refine G.opN1 rfl rfl rfl rfl rfl ?_
      refine G.opN1 rfl rfl rfl rfl rfl ?_
      refine G.opN1 rfl rfl rfl rfl rfl ?_
      refine G.op1 (op_pickF (Ev.t 17 (bB false)) (Ev.c _ rfl) rfl) rfl ⟨rfl, trivial⟩ trivial ?_
      exact G.arr (J8 false hF) ⟨rfl, rfl, rfl, trivial⟩ ⟨rfl, rfl, trivial⟩ rfl
  refine ifS hF (fun hc11 hF => ?_) (fun hc11 hF => ?_)
  · refine G.known (t := 10) hc11 rfl ?_
    refine G.opG1 (op_fieldP (off' := 1) Try.underlying26 rfl ti9 (by decide) rfl (Ev.t 2 (.ptr 1002 0)) rfl) rfl rfl rfl ⟨rfl, trivial⟩ trivial ?_
    refine G.opG1 (op_load1P (c := bS a_0.Value) Try.underlying9 rfl rfl (Ev.t 11 (.ptr 1002 1)) rfl) rfl rfl rfl ⟨rfl, trivial⟩ ⟨rfl, trivial⟩ ?_
    refine G.opG1 (op_fieldP (off' := 1) Try.underlying26 rfl ti9 (by decide) rfl (Ev.t 3 (.ptr 1003 0)) rfl) rfl rfl rfl ⟨rfl, trivial⟩ trivial ?_
    refine G.opG1 (op_load1P (c := bS b_1.Value) Try.underlying9 rfl rfl (Ev.t 13 (.ptr 1003 1)) rfl) rfl rfl rfl ⟨rfl, trivial⟩ ⟨rfl, trivial⟩ ?_
    refine G.opG1 (op_eqS (Ev.t 12 (bS a_0.Value)) (Ev.t 14 (bS b_1.Value)) rfl) rfl rfl rfl ⟨rfl, rfl, trivial⟩ trivial ?_
    refine G.op1 (op_pickT (Ev.t 10 (bB true)) (Ev.t 15 (bB (seq a_0.Value b_1.Value))) rfl) rfl ⟨rfl, rfl, trivial⟩ trivial ?_
    exact G.arr (J10 (seq a_0.Value b_1.Value) hF) ⟨rfl, rfl, rfl, trivial⟩ ⟨rfl, rfl, trivial⟩ rfl
  · refine G.known (t := 10) hc11 rfl ?_
    refine G.opN1 rfl rfl rfl rfl rfl ?_
    refine G.opN1 rfl rfl rfl rfl rfl ?_
    refine G.opN1 rfl rfl rfl rfl rfl ?_
    refine G.opN1 rfl rfl rfl rfl rfl ?_
    refine G.opN1 rfl rfl rfl rfl rfl ?_
    refine G.op1 (op_pickF (Ev.t 10 (bB false)) (Ev.c _ rfl) rfl) rfl ⟨rfl, trivial⟩ trivial ?_
    exact G.arr (J10 false hF) ⟨rfl, rfl, rfl, trivial⟩ ⟨rfl, rfl, trivial⟩ rfl


set_option maxRecDepth 20000 in
set_option maxHeartbeats 2000000 in
theorem ct_law06_awake (r : Bool) (hF : law06_awake = some r) : Ct Try.prog 9 [] (.one (.d (.v (.bool r)))) := by
  unfold law06_awake at hF
  refine Ct.intro Try.func9 rfl Try.ntmps9 rfl rfl fun M w => ?_
  refine G.seq ?_
  refine G.region ?_
  refine G.op1 (op_assign (Ev.c _ rfl) rfl) rfl trivial trivial ?_
  refine G.endOps ?_
  refine G.seq ?_
  refine G.region ?_
  refine G.op1 (op_build (zs := [.v (.int .i64 0), .v (.int .i64 0)]) (ds := [.v (.int .i64 3), .v (.int .i64 2)]) Try.underlying23 ti23 (pl23 _ Try.underlying23) ⟨.v _ rfl, .v _ rfl, trivial⟩ (EvP.cons (Ev.c _ rfl) (EvP.cons (Ev.c _ rfl) EvP.nil)) rfl rfl) rfl trivial trivial ?_
  refine G.op1 (op_build (zs := [.v (.string ByteArray.empty), .v (.string ByteArray.empty), .v (.bool false), .v (.int .i64 0), .v (.int .i64 0), .sl 3 (List.map encApi_Dep ([] : (List Api_Dep)))]) (ds := [.v (.string (ByteArray.mk #[97])), .v (.string (ByteArray.mk #[98])), .v (.bool false), .v (.int .i64 3), .v (.int .i64 2), .sl 3 (List.map encApi_Dep ([] : (List Api_Dep)))]) Try.underlying26 ti26 (pl26 _ Try.underlying26) ⟨.v _ rfl, .v _ rfl, .v _ rfl, .v _ rfl, .v _ rfl, .n 3, trivial⟩ (EvP.cons (Ev.c _ rfl) (EvP.cons (Ev.c _ rfl) (EvP.cons (Ev.t 4 (.g (.agg [.v (.int .i64 3), .v (.int .i64 2)]))) EvP.nil))) rfl rfl) rfl ⟨rfl, trivial⟩ trivial ?_
  refine G.op2 (op_alloc (k := 1001) (cs := [bS ByteArray.empty, bS ByteArray.empty, bB false, bI .i64 0, bI .i64 0, .g (.d (.sl 3 (List.map encApi_Dep ([] : (List Api_Dep)))))]) ti26 ⟨.v _ rfl, .v _ rfl, .v _ rfl, .v _ rfl, .v _ rfl, .n 3, trivial⟩ rfl) rfl trivial ⟨rfl, trivial⟩ ?_
  refine G.op3 (op_storeA (cs' := [bS (ByteArray.mk #[97]), bS (ByteArray.mk #[98]), bB false, bI .i64 3, bI .i64 2, .g (.d (.sl 3 (List.map encApi_Dep ([] : (List Api_Dep)))))]) ti26 rfl rfl (Ev.t 1 (.ptr 1001 0)) (Ev.t 5 (.g (.agg [.v (.string (ByteArray.mk #[97])), .v (.string (ByteArray.mk #[98])), .v (.bool false), .v (.int .i64 3), .v (.int .i64 2), .sl 3 (List.map encApi_Dep ([] : (List Api_Dep)))])))) rfl ⟨rfl, rfl, trivial⟩ ⟨rfl, trivial⟩ ?_
  refine G.endOps ?_
  refine G.seq ?_
  refine G.region ?_
  obtain ⟨r1, hr1, hF⟩ := bindS hF
  refine G.op1 (op_call (sv := .tup [.g (.agg [.v (.string r1.1.Key), .v (.string r1.1.Value), .v (.bool r1.1.Gone), .v (.int .i64 r1.1.Stamp.N), .v (.int .i64 r1.1.Stamp.Site), .sl 3 (List.map encApi_Dep r1.1.Past)]), bB r1.2]) cf17 (ct_wire_Read (ByteArray.mk #[1, 97, 0, 1, 98, 3, 2, 0]) r1 hr1) rfl (EvL.cons (Ev.c _ rfl) EvL.nil) rfl) rfl trivial trivial ?_
  refine G.op1 (op_moveS (t := 7) (sv := .tup [.g (.agg [.v (.string r1.1.Key), .v (.string r1.1.Value), .v (.bool r1.1.Gone), .v (.int .i64 r1.1.Stamp.N), .v (.int .i64 r1.1.Stamp.Site), .sl 3 (List.map encApi_Dep r1.1.Past)]), bB r1.2]) rfl) rfl ⟨rfl, trivial⟩ trivial ?_
  refine G.op1 (op_extract (l := [.g (.agg [.v (.string r1.1.Key), .v (.string r1.1.Value), .v (.bool r1.1.Gone), .v (.int .i64 r1.1.Stamp.N), .v (.int .i64 r1.1.Stamp.Site), .sl 3 (List.map encApi_Dep r1.1.Past)]), bB r1.2]) (c := .g (.agg [.v (.string r1.1.Key), .v (.string r1.1.Value), .v (.bool r1.1.Gone), .v (.int .i64 r1.1.Stamp.N), .v (.int .i64 r1.1.Stamp.Site), .sl 3 (List.map encApi_Dep r1.1.Past)])) rfl rfl) rfl ⟨rfl, trivial⟩ trivial ?_
  refine G.op1 (op_extract (l := [.g (.agg [.v (.string r1.1.Key), .v (.string r1.1.Value), .v (.bool r1.1.Gone), .v (.int .i64 r1.1.Stamp.N), .v (.int .i64 r1.1.Stamp.Site), .sl 3 (List.map encApi_Dep r1.1.Past)]), bB r1.2]) (c := bB r1.2) rfl rfl) rfl ⟨rfl, trivial⟩ trivial ?_
  refine G.op2 (op_alloc (k := 1002) (cs := [bS ByteArray.empty, bS ByteArray.empty, bB false, bI .i64 0, bI .i64 0, .g (.d (.sl 3 (List.map encApi_Dep ([] : (List Api_Dep)))))]) ti26 ⟨.v _ rfl, .v _ rfl, .v _ rfl, .v _ rfl, .v _ rfl, .n 3, trivial⟩ rfl) rfl trivial ⟨rfl, trivial⟩ ?_
  refine G.op3 (op_storeA (cs' := [bS r1.1.Key, bS r1.1.Value, bB r1.1.Gone, bI .i64 r1.1.Stamp.N, bI .i64 r1.1.Stamp.Site, .g (.d (.sl 3 (List.map encApi_Dep r1.1.Past)))]) ti26 rfl rfl (Ev.t 2 (.ptr 1002 0)) (Ev.t 8 (.g (.agg [.v (.string r1.1.Key), .v (.string r1.1.Value), .v (.bool r1.1.Gone), .v (.int .i64 r1.1.Stamp.N), .v (.int .i64 r1.1.Stamp.Site), .sl 3 (List.map encApi_Dep r1.1.Past)])))) rfl ⟨rfl, rfl, trivial⟩ ⟨rfl, trivial⟩ ?_
  refine G.op1 (op_assign (Ev.t 9 (bB r1.2)) rfl) rfl ⟨rfl, trivial⟩ trivial ?_
  refine G.endOps ?_
  refine G.seq ?_
  refine G.region ?_
  refine G.op1 (op_loadAP (ds := [.v (.string (ByteArray.mk #[97])), .v (.string (ByteArray.mk #[98])), .v (.bool false), .v (.int .i64 3), .v (.int .i64 2), .sl 3 (List.map encApi_Dep ([] : (List Api_Dep)))]) Try.underlying26 rfl ti26 rfl (Ev.t 1 (.ptr 1001 0)) rfl) rfl ⟨rfl, trivial⟩ ⟨rfl, trivial⟩ ?_
  obtain ⟨r2, hr2, hF⟩ := bindS hF
  refine G.op1 (op_callQ (sv := .one (bS r2)) cf13 (ct_wire_Bytes (Api_Version.mk (ByteArray.mk #[97]) (ByteArray.mk #[98]) false (Api_Stamp.mk 3 2) ([] : (List Api_Dep))) r2 hr2) rfl rfl (EvQL.cons (EvQ.g (Ev.t 10 (.g (.agg [.v (.string (ByteArray.mk #[97])), .v (.string (ByteArray.mk #[98])), .v (.bool false), .v (.int .i64 3), .v (.int .i64 2), .sl 3 (List.map encApi_Dep ([] : (List Api_Dep)))])))) EvQL.nil) rfl) rfl ⟨rfl, trivial⟩ trivial ?_
  refine G.op1 (op_eqS (Ev.t 11 (bS r2)) (Ev.c _ rfl) rfl) rfl ⟨rfl, trivial⟩ trivial ?_
  refine G.op1 (op_move (Ev.t 12 (bB (seq r2 (ByteArray.mk #[1, 97, 0, 1, 98, 3, 2, 0])))) rfl) rfl ⟨rfl, trivial⟩ trivial ?_
  refine G.joinL (T := Bool) 2 (fun y3 => ⟨[(1, .one (.ptr 1001 0)), (2, .one (.ptr 1002 0)), (15, .one (bB y3))], [(1001, some (.blk 26 [bS (ByteArray.mk #[97]), bS (ByteArray.mk #[98]), bB false, bI .i64 3, bI .i64 2, .g (.d (.sl 3 (List.map encApi_Dep ([] : (List Api_Dep)))))])), (1002, some (.blk 26 [bS r1.1.Key, bS r1.1.Value, bB r1.1.Gone, bI .i64 r1.1.Stamp.N, bI .i64 r1.1.Stamp.Site, .g (.d (.sl 3 (List.map encApi_Dep r1.1.Past)))]))]⟩) (fun y3 => law06_awake_k1 r1 y3 = some r) (fun y3 hF => ?_) (fun J6 => ?_)
  · unfold law06_awake_k1 at hF
    refine G.op1 (op_move (Ev.t 15 (bB y3)) rfl) rfl ⟨rfl, trivial⟩ trivial ?_
    refine ifS hF (fun hc4 hF => ?_) (fun hc4 hF => ?_)
    · refine G.known (t := 16) hc4 rfl ?_
      refine G.opG1 (op_loadAP (ds := [.v (.string (ByteArray.mk #[97])), .v (.string (ByteArray.mk #[98])), .v (.bool false), .v (.int .i64 3), .v (.int .i64 2), .sl 3 (List.map encApi_Dep ([] : (List Api_Dep)))]) Try.underlying26 rfl ti26 rfl (Ev.t 1 (.ptr 1001 0)) rfl) rfl rfl rfl ⟨rfl, trivial⟩ ⟨rfl, trivial⟩ ?_
      refine G.opG1 (op_loadAP (ds := [.v (.string r1.1.Key), .v (.string r1.1.Value), .v (.bool r1.1.Gone), .v (.int .i64 r1.1.Stamp.N), .v (.int .i64 r1.1.Stamp.Site), .sl 3 (List.map encApi_Dep r1.1.Past)]) Try.underlying26 rfl ti26 rfl (Ev.t 2 (.ptr 1002 0)) rfl) rfl rfl rfl ⟨rfl, trivial⟩ ⟨rfl, trivial⟩ ?_
      obtain ⟨r5, hr5, hF⟩ := bindS hF
      refine G.opG1 (op_callQ (sv := .one (bB r5)) cf15 (ct_wire_Same (Api_Version.mk (ByteArray.mk #[97]) (ByteArray.mk #[98]) false (Api_Stamp.mk 3 2) ([] : (List Api_Dep))) r1.1 r5 hr5) rfl rfl (EvQL.cons (EvQ.g (Ev.t 17 (.g (.agg [.v (.string (ByteArray.mk #[97])), .v (.string (ByteArray.mk #[98])), .v (.bool false), .v (.int .i64 3), .v (.int .i64 2), .sl 3 (List.map encApi_Dep ([] : (List Api_Dep)))])))) (EvQL.cons (EvQ.g (Ev.t 18 (.g (.agg [.v (.string r1.1.Key), .v (.string r1.1.Value), .v (.bool r1.1.Gone), .v (.int .i64 r1.1.Stamp.N), .v (.int .i64 r1.1.Stamp.Site), .sl 3 (List.map encApi_Dep r1.1.Past)])))) EvQL.nil)) rfl) rfl rfl rfl ⟨rfl, rfl, trivial⟩ trivial ?_
      refine G.op1 (op_pickT (Ev.t 16 (bB true)) (Ev.t 19 (bB r5)) rfl) rfl ⟨rfl, rfl, trivial⟩ trivial ?_
      refine G.op1 (op_assign (Ev.t 20 (bB r5)) rfl) rfl ⟨rfl, trivial⟩ trivial ?_
      refine G.endOps ?_
      cases hF
      exact G.ret1 Try.results9 (RVar.tmp 0 _) ⟨rfl, trivial⟩ trivial
    · refine G.known (t := 16) hc4 rfl ?_
      refine G.opN1 rfl rfl rfl rfl rfl ?_
      refine G.opN1 rfl rfl rfl rfl rfl ?_
      refine G.opN1 rfl rfl rfl rfl rfl ?_
      refine G.op1 (op_pickF (Ev.t 16 (bB false)) (Ev.c _ rfl) rfl) rfl ⟨rfl, trivial⟩ trivial ?_
      refine G.op1 (op_assign (Ev.t 20 (bB false)) rfl) rfl ⟨rfl, trivial⟩ trivial ?_
      refine G.endOps ?_
      cases hF
      exact G.ret1 Try.results9 (RVar.tmp 0 _) ⟨rfl, trivial⟩ trivial
  refine ifS hF (fun hc7 hF => ?_) (fun hc7 hF => ?_)
  · refine G.known (t := 13) hc7 rfl ?_
    refine G.opG1 (op_move (Ev.t 3 (bB r1.2)) rfl) rfl rfl rfl ⟨rfl, trivial⟩ trivial ?_
    refine G.op1 (op_pickT (Ev.t 13 (bB true)) (Ev.t 14 (bB r1.2)) rfl) rfl ⟨rfl, rfl, trivial⟩ trivial ?_
    exact G.arr (J6 r1.2 hF) ⟨rfl, rfl, rfl, trivial⟩ ⟨rfl, rfl, trivial⟩ rfl
  · refine G.known (t := 13) hc7 rfl ?_
    refine G.opN1 rfl rfl rfl rfl rfl ?_
    refine G.op1 (op_pickF (Ev.t 13 (bB false)) (Ev.c _ rfl) rfl) rfl ⟨rfl, trivial⟩ trivial ?_
    exact G.arr (J6 false hF) ⟨rfl, rfl, rfl, trivial⟩ ⟨rfl, rfl, trivial⟩ rfl


set_option maxRecDepth 20000 in
set_option maxHeartbeats 2000000 in
theorem ct_ref02_long (c_0 : Int) (r : Int) (hF : ref02_long c_0 = some r) : Ct Try.prog 72 [.g (.d (.v (.int .u8 c_0)))] (.one (.d (.v (.int .i64 r)))) := by
  unfold ref02_long at hF
  refine Ct.intro Try.func72 rfl Try.ntmps72 rfl rfl fun M w => ?_
  refine G.seq ?_
  refine G.region ?_
  refine G.op1 (op_assign (Ev.c _ rfl) rfl) rfl trivial trivial ?_
  refine G.endOps ?_
  refine G.seq ?_
  refine G.seq ?_
  refine G.region ?_
  refine G.op1 (op_move (Ev.t 0 (bI .u8 c_0)) rfl) rfl ⟨rfl, trivial⟩ trivial ?_
  refine G.op1 (op_lss (Ev.t 3 (bI .u8 c_0)) (Ev.c _ rfl) rfl) rfl ⟨rfl, trivial⟩ trivial ?_
  refine G.endOps ?_
  refine ifS hF (fun hc1 hF => ?_) (fun hc1 hF => ?_)
  · refine G.cond rfl (fun _ => ?_) (fun hx => by rw [hc1] at hx; cases hx)
    refine G.seq ?_
    refine G.region ?_
    refine G.op1 (op_assign (Ev.c _ rfl) rfl) rfl trivial trivial ?_
    refine G.endOps ?_
    cases hF
    exact G.ret1 Try.results72 (RVar.tmp 2 _) ⟨rfl, trivial⟩ trivial
  · refine G.cond rfl (fun hx => by rw [hc1] at hx; cases hx) (fun _ => ?_)
    refine G.skip ?_
    refine G.seq ?_
    refine G.seq ?_
    refine G.joinC (T := Bool) (fun y2 => ⟨[(0, .one (bI .u8 c_0)), (10, .one (bB y2))], []⟩) (fun y2 => ref02_long_k1 c_0 y2 = some r) (fun y2 hF => ?_) (fun J10 => ?_)
    · unfold ref02_long_k1 at hF
      refine ifS hF (fun hc3 hF => ?_) (fun hc3 hF => ?_)
      · refine G.cond rfl (fun _ => ?_) (fun hx => by rw [hc3] at hx; cases hx)
        refine G.seq ?_
        refine G.region ?_
        refine G.op1 (op_assign (Ev.c _ rfl) rfl) rfl trivial trivial ?_
        refine G.endOps ?_
        cases hF
        exact G.ret1 Try.results72 (RVar.tmp 2 _) ⟨rfl, trivial⟩ trivial
      · refine G.cond rfl (fun hx => by rw [hc3] at hx; cases hx) (fun _ => ?_)
        refine G.skip ?_
        refine G.seq ?_
        refine G.seq ?_
        refine G.joinC (T := Bool) (fun y4 => ⟨[(0, .one (bI .u8 c_0)), (16, .one (bB y4))], []⟩) (fun y4 => ref02_long_k2 c_0 y4 = some r) (fun y4 hF => ?_) (fun J8 => ?_)
        · unfold ref02_long_k2 at hF
          refine ifS hF (fun hc5 hF => ?_) (fun hc5 hF => ?_)
          · refine G.cond rfl (fun _ => ?_) (fun hx => by rw [hc5] at hx; cases hx)
            refine G.seq ?_
            refine G.region ?_
            refine G.op1 (op_assign (Ev.c _ rfl) rfl) rfl trivial trivial ?_
            refine G.endOps ?_
            cases hF
            exact G.ret1 Try.results72 (RVar.tmp 2 _) ⟨rfl, trivial⟩ trivial
          · refine G.cond rfl (fun hx => by rw [hc5] at hx; cases hx) (fun _ => ?_)
            refine G.skip ?_
            refine G.seq ?_
            refine G.seq ?_
            refine G.region ?_
            refine G.op1 (op_move (Ev.t 0 (bI .u8 c_0)) rfl) rfl ⟨rfl, trivial⟩ trivial ?_
            refine G.op1 (op_geq (Ev.t 17 (bI .u8 c_0)) (Ev.c _ rfl) rfl) rfl ⟨rfl, trivial⟩ trivial ?_
            refine G.op1 (op_move (Ev.t 18 (bB (decide (240 ≤ c_0)))) rfl) rfl ⟨rfl, trivial⟩ trivial ?_
            refine ifS hF (fun hc6 hF => ?_) (fun hc6 hF => ?_)
            · refine G.known (t := 19) hc6 rfl ?_
              refine G.opG1 (op_move (Ev.t 0 (bI .u8 c_0)) rfl) rfl rfl rfl ⟨rfl, trivial⟩ trivial ?_
              refine G.opG1 (op_leq (Ev.t 20 (bI .u8 c_0)) (Ev.c _ rfl) rfl) rfl rfl rfl ⟨rfl, trivial⟩ trivial ?_
              refine G.op1 (op_pickT (Ev.t 19 (bB true)) (Ev.t 21 (bB (decide (c_0 ≤ 244)))) rfl) rfl ⟨rfl, rfl, trivial⟩ trivial ?_
              refine G.endOps ?_
              refine ifS hF (fun hc7 hF => ?_) (fun hc7 hF => ?_)
              · refine G.cond rfl (fun _ => ?_) (fun hx => by rw [hc7] at hx; cases hx)
                refine G.seq ?_
                refine G.region ?_
                refine G.op1 (op_assign (Ev.c _ rfl) rfl) rfl trivial trivial ?_
                refine G.endOps ?_
                cases hF
                exact G.ret1 Try.results72 (RVar.tmp 2 _) ⟨rfl, trivial⟩ trivial
              · refine G.cond rfl (fun hx => by rw [hc7] at hx; cases hx) (fun _ => ?_)
                refine G.skip ?_
                refine G.seq ?_
                refine G.region ?_
                refine G.op1 (op_assign (Ev.c _ rfl) rfl) rfl trivial trivial ?_
                refine G.endOps ?_
                cases hF
                exact G.ret1 Try.results72 (RVar.tmp 2 _) ⟨rfl, trivial⟩ trivial
            · refine G.known (t := 19) hc6 rfl ?_
              refine G.opN1 rfl rfl rfl rfl rfl ?_
              refine G.opN1 rfl rfl rfl rfl rfl ?_
              refine G.op1 (op_pickF (Ev.t 19 (bB false)) (Ev.c _ rfl) rfl) rfl ⟨rfl, trivial⟩ trivial ?_
              refine G.endOps ?_
              refine G.condF rfl ?_
              refine G.skip ?_
              refine G.seq ?_
              refine G.region ?_
              refine G.op1 (op_assign (Ev.c _ rfl) rfl) rfl trivial trivial ?_
              refine G.endOps ?_
              cases hF
              exact G.ret1 Try.results72 (RVar.tmp 2 _) ⟨rfl, trivial⟩ trivial
        refine G.region ?_
        refine G.op1 (op_move (Ev.t 0 (bI .u8 c_0)) rfl) rfl ⟨rfl, trivial⟩ trivial ?_
        refine G.op1 (op_geq (Ev.t 11 (bI .u8 c_0)) (Ev.c _ rfl) rfl) rfl ⟨rfl, trivial⟩ trivial ?_
        refine G.op1 (op_move (Ev.t 12 (bB (decide (224 ≤ c_0)))) rfl) rfl ⟨rfl, trivial⟩ trivial ?_
        refine ifS hF (fun hc9 hF => ?_) (fun hc9 hF => ?_)
        · refine G.known (t := 13) hc9 rfl ?_
          refine G.opG1 (op_move (Ev.t 0 (bI .u8 c_0)) rfl) rfl rfl rfl ⟨rfl, trivial⟩ trivial ?_
          refine G.opG1 (op_leq (Ev.t 14 (bI .u8 c_0)) (Ev.c _ rfl) rfl) rfl rfl rfl ⟨rfl, trivial⟩ trivial ?_
          refine G.op1 (op_pickT (Ev.t 13 (bB true)) (Ev.t 15 (bB (decide (c_0 ≤ 239)))) rfl) rfl ⟨rfl, rfl, trivial⟩ trivial ?_
          refine G.endOps ?_
          exact G.arr (J8 (decide (c_0 ≤ 239)) hF) ⟨rfl, rfl, trivial⟩ trivial rfl
        · refine G.known (t := 13) hc9 rfl ?_
          refine G.opN1 rfl rfl rfl rfl rfl ?_
          refine G.opN1 rfl rfl rfl rfl rfl ?_
          refine G.op1 (op_pickF (Ev.t 13 (bB false)) (Ev.c _ rfl) rfl) rfl ⟨rfl, trivial⟩ trivial ?_
          refine G.endOps ?_
          exact G.arr (J8 false hF) ⟨rfl, rfl, trivial⟩ trivial rfl
    refine G.region ?_
    refine G.op1 (op_move (Ev.t 0 (bI .u8 c_0)) rfl) rfl ⟨rfl, trivial⟩ trivial ?_
    refine G.op1 (op_geq (Ev.t 5 (bI .u8 c_0)) (Ev.c _ rfl) rfl) rfl ⟨rfl, trivial⟩ trivial ?_
    refine G.op1 (op_move (Ev.t 6 (bB (decide (194 ≤ c_0)))) rfl) rfl ⟨rfl, trivial⟩ trivial ?_
    refine ifS hF (fun hc11 hF => ?_) (fun hc11 hF => ?_)
    · refine G.known (t := 7) hc11 rfl ?_
      refine G.opG1 (op_move (Ev.t 0 (bI .u8 c_0)) rfl) rfl rfl rfl ⟨rfl, trivial⟩ trivial ?_
      refine G.opG1 (op_leq (Ev.t 8 (bI .u8 c_0)) (Ev.c _ rfl) rfl) rfl rfl rfl ⟨rfl, trivial⟩ trivial ?_
      refine G.op1 (op_pickT (Ev.t 7 (bB true)) (Ev.t 9 (bB (decide (c_0 ≤ 223)))) rfl) rfl ⟨rfl, rfl, trivial⟩ trivial ?_
      refine G.endOps ?_
      exact G.arr (J10 (decide (c_0 ≤ 223)) hF) ⟨rfl, rfl, trivial⟩ trivial rfl
    · refine G.known (t := 7) hc11 rfl ?_
      refine G.opN1 rfl rfl rfl rfl rfl ?_
      refine G.opN1 rfl rfl rfl rfl rfl ?_
      refine G.op1 (op_pickF (Ev.t 7 (bB false)) (Ev.c _ rfl) rfl) rfl ⟨rfl, trivial⟩ trivial ?_
      refine G.endOps ?_
      exact G.arr (J10 false hF) ⟨rfl, rfl, trivial⟩ trivial rfl


set_option maxRecDepth 20000 in
set_option maxHeartbeats 2000000 in
theorem ct_ref02_Runes (s_0 : ByteArray) (r : Int) (hF : ref02_Runes s_0 = some r) : Ct Try.prog 60 [.g (.d (.v (.string s_0)))] (.one (.d (.v (.int .i64 r)))) := by
  unfold ref02_Runes at hF
  refine Ct.intro Try.func60 rfl Try.ntmps60 rfl rfl fun M w => ?_
  refine G.seq ?_
  refine G.region ?_
  refine G.op1 (op_assign (Ev.c _ rfl) rfl) rfl trivial trivial ?_
  refine G.endOps ?_
  refine G.seq ?_
  refine G.region ?_
  refine G.op1 (op_assign (Ev.c _ rfl) rfl) rfl trivial trivial ?_
  refine G.endOps ?_
  refine G.seq ?_
  refine G.seq ?_
  refine G.region ?_
  refine G.op1 (op_assign (Ev.c _ rfl) rfl) rfl trivial trivial ?_
  refine G.endOps ?_
  refine G.joinC (T := Int) (fun y1 => ⟨[(3, .one (bI .i64 y1))], []⟩) (fun y1 => ref02_Runes_k1 y1 = some r) (fun y1 hF => ?_) (fun J2 => ?_)
  · unfold ref02_Runes_k1 at hF
    refine G.seq ?_
    refine G.region ?_
    refine G.op1 (op_move (Ev.t 3 (bI .i64 y1)) rfl) rfl ⟨rfl, trivial⟩ trivial ?_
    refine G.op1 (op_assign (Ev.t 99 (bI .i64 y1)) rfl) rfl ⟨rfl, trivial⟩ trivial ?_
    refine G.endOps ?_
    cases hF
    exact G.ret1 Try.results60 (RVar.tmp 2 _) ⟨rfl, trivial⟩ trivial
  refine G.block ?_
  refine G.keep (sl' := [(0, .one (bS s_0)), (3, .one (bI .i64 0)), (4, .one (bI .i64 0))]) (hp' := []) ⟨rfl, rfl, rfl, trivial⟩ trivial rfl ?_
  refine G.loopF (fun (v3 : Int × Int) => ⟨[(0, .one (bS s_0)), (3, .one (bI .i64 v3.1)), (4, .one (bI .i64 v3.2))], []⟩) hF rfl (fun K6 again5 v3 J4 hF => ?_)
  unfold ref02_Runes_l2 at hF
  refine G.seq ?_
  refine G.seq ?_
  refine G.region ?_
  refine G.op1 (op_move (Ev.t 4 (bI .i64 v3.2)) rfl) rfl ⟨rfl, trivial⟩ trivial ?_
  refine G.op1 (op_move (Ev.t 0 (bS s_0)) rfl) rfl ⟨rfl, trivial⟩ trivial ?_
  refine G.op1 (op_lenS Try.underlying9 (Ev.t 8 (bS s_0)) rfl) rfl ⟨rfl, trivial⟩ trivial ?_
  refine G.op1 (op_lss (Ev.t 7 (bI .i64 v3.2)) (Ev.t 9 (bI .i64 (s_0.size : Int))) rfl) rfl ⟨rfl, rfl, trivial⟩ trivial ?_
  refine G.endOps ?_
  refine ifS hF (fun hc7 hF => ?_) (fun hc7 hF => ?_)
  · refine G.cond rfl (fun _ => ?_) (fun hx => by rw [hc7] at hx; cases hx)
    refine G.skip ?_
    refine G.block ?_
    refine G.seq ?_
    refine G.region ?_
    refine G.op1 (op_move (Ev.t 0 (bS s_0)) rfl) rfl ⟨rfl, trivial⟩ trivial ?_
    refine G.op1 (op_move (Ev.t 4 (bI .i64 v3.2)) rfl) rfl ⟨rfl, trivial⟩ trivial ?_
    obtain ⟨b8, hb8, hF⟩ := bindS hF
    refine G.op1 (op_indexS Try.underlying9 (sidx_ok hb8).1 (sidx_ok hb8).2 (Ev.t 11 (bS s_0)) (Ev.t 12 (bI .i64 v3.2)) rfl) rfl ⟨rfl, rfl, trivial⟩ trivial ?_
    obtain ⟨r9, hr9, hF⟩ := bindS hF
    refine G.op1 (op_callQ (sv := .one (bI .i64 r9)) cf72 (ct_ref02_long (b8.toNat : Int) r9 hr9) rfl rfl (EvQL.cons (EvQ.g (Ev.t 13 (bI .u8 (b8.toNat : Int)))) EvQL.nil) rfl) rfl ⟨rfl, trivial⟩ trivial ?_
    refine G.op1 (op_assign (Ev.t 14 (bI .i64 r9)) rfl) rfl ⟨rfl, trivial⟩ trivial ?_
    refine G.endOps ?_
    refine G.seq ?_
    refine G.seq ?_
    refine G.joinC (T := Bool) (fun y10 => ⟨[(0, .one (bS s_0)), (3, .one (bI .i64 v3.1)), (4, .one (bI .i64 v3.2)), (5, .one (bI .i64 r9)), (24, .one (bB y10))], []⟩) (fun y10 => ref02_Runes_k3 s_0 again5 v3 r9 y10 = some r) (fun y10 hF => ?_) (fun J47 => ?_)
    · unfold ref02_Runes_k3 at hF
      refine ifS hF (fun hc11 hF => ?_) (fun hc11 hF => ?_)
      · refine G.cond rfl (fun _ => ?_) (fun hx => by rw [hc11] at hx; cases hx)
        refine G.seq ?_
        refine G.region ?_
        refine G.op1 (op_assign (Ev.c _ rfl) rfl) rfl trivial trivial ?_
        refine G.endOps ?_
        cases hF
        exact G.ret1 Try.results60 (RVar.tmp 2 _) ⟨rfl, trivial⟩ trivial
      · refine G.cond rfl (fun hx => by rw [hc11] at hx; cases hx) (fun _ => ?_)
        refine G.skip ?_
        refine G.seq ?_
        refine G.seq ?_
        refine G.region ?_
        refine G.op1 (op_assign (Ev.c _ rfl) rfl) rfl trivial trivial ?_
        refine G.endOps ?_
        refine G.joinC (T := Unit) (fun y12 => ⟨[(0, .one (bS s_0)), (3, .one (bI .i64 v3.1)), (4, .one (bI .i64 v3.2)), (5, .one (bI .i64 r9))], []⟩) (fun y12 => ref02_Runes_k4 s_0 again5 v3 r9 y12 = some r) (fun y12 hF => ?_) (fun J37 => ?_)
        · unfold ref02_Runes_k4 at hF
          refine G.seq ?_
          refine G.seq ?_
          refine G.joinC (T := Bool) (fun y13 => ⟨[(0, .one (bS s_0)), (3, .one (bI .i64 v3.1)), (4, .one (bI .i64 v3.2)), (5, .one (bI .i64 r9)), (93, .one (bB y13))], []⟩) (fun y13 => ref02_Runes_k5 again5 v3 r9 y13 = some r) (fun y13 hF => ?_) (fun J15 => ?_)
          · unfold ref02_Runes_k5 at hF
            refine ifS hF (fun hc14 hF => ?_) (fun hc14 hF => ?_)
            · refine G.cond rfl (fun _ => ?_) (fun hx => by rw [hc14] at hx; cases hx)
              refine G.seq ?_
              refine G.region ?_
              refine G.op1 (op_assign (Ev.c _ rfl) rfl) rfl trivial trivial ?_
              refine G.endOps ?_
              cases hF
              exact G.ret1 Try.results60 (RVar.tmp 2 _) ⟨rfl, trivial⟩ trivial
            · refine G.cond rfl (fun hx => by rw [hc14] at hx; cases hx) (fun _ => ?_)
              refine G.skip ?_
              refine G.seq ?_
              refine G.region ?_
              refine G.op1 (op_move (Ev.t 4 (bI .i64 v3.2)) rfl) rfl ⟨rfl, trivial⟩ trivial ?_
              refine G.op1 (op_move (Ev.t 5 (bI .i64 r9)) rfl) rfl ⟨rfl, trivial⟩ trivial ?_
              refine G.op1 (op_add (Ev.t 94 (bI .i64 v3.2)) (Ev.t 95 (bI .i64 r9)) rfl) rfl ⟨rfl, rfl, trivial⟩ trivial ?_
              refine G.op1 (op_assign (Ev.t 96 (bI .i64 (IntKind.wrap .i64 (v3.2 + r9)))) rfl) rfl ⟨rfl, trivial⟩ trivial ?_
              refine G.endOps ?_
              refine G.region ?_
              refine G.op1 (op_move (Ev.t 3 (bI .i64 v3.1)) rfl) rfl ⟨rfl, trivial⟩ trivial ?_
              refine G.op1 (op_add (Ev.t 97 (bI .i64 v3.1)) (Ev.c _ rfl) rfl) rfl ⟨rfl, trivial⟩ trivial ?_
              refine G.op1 (op_assign (Ev.t 98 (bI .i64 (IntKind.wrap .i64 (v3.1 + 1)))) rfl) rfl ⟨rfl, trivial⟩ trivial ?_
              refine G.endOps ?_
              refine G.endBlock ?_
              exact G.arr (J4 (IntKind.wrap .i64 (v3.1 + 1), IntKind.wrap .i64 (v3.2 + r9)) hF) ⟨rfl, rfl, rfl, trivial⟩ trivial rfl
          refine G.region ?_
          refine G.op1 (op_move (Ev.t 0 (bS s_0)) rfl) rfl ⟨rfl, trivial⟩ trivial ?_
          refine G.op1 (op_move (Ev.t 4 (bI .i64 v3.2)) rfl) rfl ⟨rfl, trivial⟩ trivial ?_
          obtain ⟨b16, hb16, hF⟩ := bindS hF
          refine G.op1 (op_indexS Try.underlying9 (sidx_ok hb16).1 (sidx_ok hb16).2 (Ev.t 44 (bS s_0)) (Ev.t 45 (bI .i64 v3.2)) rfl) rfl ⟨rfl, rfl, trivial⟩ trivial ?_
          refine G.op1 (op_eqI (Ev.t 46 (bI .u8 (b16.toNat : Int))) (Ev.c _ rfl) rfl) rfl ⟨rfl, trivial⟩ trivial ?_
          refine G.op1 (op_move (Ev.t 47 (bB (decide ((b16.toNat : Int) = 224)))) rfl) rfl ⟨rfl, trivial⟩ trivial ?_
          refine G.joinL (T := Bool) 6 (fun y17 => ⟨[(0, .one (bS s_0)), (3, .one (bI .i64 v3.1)), (4, .one (bI .i64 v3.2)), (5, .one (bI .i64 r9)), (54, .one (bB y17))], []⟩) (fun y17 => ref02_Runes_k6 s_0 again5 v3 r9 y17 = some r) (fun y17 hF => ?_) (fun J34 => ?_)
          · unfold ref02_Runes_k6 at hF
            refine G.op1 (op_move (Ev.t 54 (bB y17)) rfl) rfl ⟨rfl, trivial⟩ trivial ?_
            refine G.joinL (T := Bool) 12 (fun y18 => ⟨[(0, .one (bS s_0)), (3, .one (bI .i64 v3.1)), (4, .one (bI .i64 v3.2)), (5, .one (bI .i64 r9)), (67, .one (bB y18))], []⟩) (fun y18 => ref02_Runes_k7 s_0 again5 v3 r9 y18 = some r) (fun y18 hF => ?_) (fun J29 => ?_)
            · unfold ref02_Runes_k7 at hF
              refine G.op1 (op_move (Ev.t 67 (bB y18)) rfl) rfl ⟨rfl, trivial⟩ trivial ?_
              refine G.joinL (T := Bool) 12 (fun y19 => ⟨[(0, .one (bS s_0)), (3, .one (bI .i64 v3.1)), (4, .one (bI .i64 v3.2)), (5, .one (bI .i64 r9)), (80, .one (bB y19))], []⟩) (fun y19 => ref02_Runes_k8 s_0 again5 v3 r9 y19 = some r) (fun y19 hF => ?_) (fun J24 => ?_)
              · unfold ref02_Runes_k8 at hF
                refine G.op1 (op_move (Ev.t 80 (bB y19)) rfl) rfl ⟨rfl, trivial⟩ trivial ?_
                refine ifS hF (fun hc20 hF => ?_) (fun hc20 hF => ?_)
                · refine G.known (t := 81) hc20 rfl ?_
                  refine G.opN1 rfl rfl rfl rfl rfl ?_
                  refine G.opN1 rfl rfl rfl rfl rfl ?_
                  refine G.opN1 rfl rfl rfl rfl rfl ?_
                  refine G.opN1 rfl rfl rfl rfl rfl ?_
                  refine G.opN1 rfl rfl rfl rfl rfl ?_
                  refine G.opU rfl rfl rfl rfl ?_
                  refine G.opU rfl rfl rfl rfl ?_
                  refine G.opU rfl rfl rfl rfl ?_
                  refine G.opU rfl rfl rfl rfl ?_
                  refine G.opU rfl rfl rfl rfl ?_
                  refine G.opN1 rfl rfl rfl rfl rfl ?_
                  refine G.op1 (op_pickT (Ev.t 81 (bB true)) (Ev.c _ rfl) rfl) rfl ⟨rfl, trivial⟩ trivial ?_
                  refine G.endOps ?_
                  exact G.arr (J15 true hF) ⟨rfl, rfl, rfl, rfl, rfl, trivial⟩ trivial rfl
                · refine G.known (t := 81) hc20 rfl ?_
                  refine G.opG1 (op_move (Ev.t 0 (bS s_0)) rfl) rfl rfl rfl ⟨rfl, trivial⟩ trivial ?_
                  refine G.opG1 (op_move (Ev.t 4 (bI .i64 v3.2)) rfl) rfl rfl rfl ⟨rfl, trivial⟩ trivial ?_
                  obtain ⟨b21, hb21, hF⟩ := bindS hF
                  refine G.opG1 (op_indexS Try.underlying9 (sidx_ok hb21).1 (sidx_ok hb21).2 (Ev.t 82 (bS s_0)) (Ev.t 83 (bI .i64 v3.2)) rfl) rfl rfl rfl ⟨rfl, rfl, trivial⟩ trivial ?_
                  refine G.opG1 (op_eqI (Ev.t 84 (bI .u8 (b21.toNat : Int))) (Ev.c _ rfl) rfl) rfl rfl rfl ⟨rfl, trivial⟩ trivial ?_
                  refine G.opG1 (op_move (Ev.t 85 (bB (decide ((b21.toNat : Int) = 244)))) rfl) rfl rfl rfl ⟨rfl, trivial⟩ trivial ?_
                  refine ifS hF (fun hc22 hF => ?_) (fun hc22 hF => ?_)
                  · refine G.known (t := 86) hc22 rfl ?_
                    refine G.opG1 (op_move (Ev.t 0 (bS s_0)) rfl) rfl rfl rfl ⟨rfl, trivial⟩ trivial ?_
                    refine G.opG1 (op_move (Ev.t 4 (bI .i64 v3.2)) rfl) rfl rfl rfl ⟨rfl, trivial⟩ trivial ?_
                    refine G.opG1 (op_add (Ev.t 88 (bI .i64 v3.2)) (Ev.c _ rfl) rfl) rfl rfl rfl ⟨rfl, trivial⟩ trivial ?_
                    obtain ⟨b23, hb23, hF⟩ := bindS hF
                    refine G.opG1 (op_indexS Try.underlying9 (sidx_ok hb23).1 (sidx_ok hb23).2 (Ev.t 87 (bS s_0)) (Ev.t 89 (bI .i64 (IntKind.wrap .i64 (v3.2 + 1)))) rfl) rfl rfl rfl ⟨rfl, rfl, trivial⟩ trivial ?_
                    refine G.opG1 (op_gtr (Ev.t 90 (bI .u8 (b23.toNat : Int))) (Ev.c _ rfl) rfl) rfl rfl rfl ⟨rfl, trivial⟩ trivial ?_
                    refine G.opG1 (op_pickT (Ev.t 86 (bB true)) (Ev.t 91 (bB (decide (143 < (b23.toNat : Int))))) rfl) rfl rfl rfl ⟨rfl, rfl, trivial⟩ trivial ?_
                    refine G.op1 (op_pickF (Ev.t 81 (bB false)) (Ev.t 92 (bB (decide (143 < (b23.toNat : Int))))) rfl) rfl ⟨rfl, rfl, trivial⟩ trivial ?_
                    refine G.endOps ?_
                    exact G.arr (J15 (decide (143 < (b23.toNat : Int))) hF) ⟨rfl, rfl, rfl, rfl, rfl, trivial⟩ trivial rfl
                  · refine G.known (t := 86) hc22 rfl ?_
                    refine G.opN1 rfl rfl rfl rfl rfl ?_
                    refine G.opN1 rfl rfl rfl rfl rfl ?_
                    refine G.opN1 rfl rfl rfl rfl rfl ?_
                    refine G.opN1 rfl rfl rfl rfl rfl ?_
                    refine G.opN1 rfl rfl rfl rfl rfl ?_
                    refine G.opG1 (op_pickF (Ev.t 86 (bB false)) (Ev.c _ rfl) rfl) rfl rfl rfl ⟨rfl, trivial⟩ trivial ?_
                    refine G.op1 (op_pickF (Ev.t 81 (bB false)) (Ev.t 92 (bB false)) rfl) rfl ⟨rfl, rfl, trivial⟩ trivial ?_
                    refine G.endOps ?_
                    exact G.arr (J15 false hF) ⟨rfl, rfl, rfl, rfl, rfl, trivial⟩ trivial rfl
              refine ifS hF (fun hc25 hF => ?_) (fun hc25 hF => ?_)
              · refine G.known (t := 68) hc25 rfl ?_
                refine G.opN1 rfl rfl rfl rfl rfl ?_
                refine G.opN1 rfl rfl rfl rfl rfl ?_
                refine G.opN1 rfl rfl rfl rfl rfl ?_
                refine G.opN1 rfl rfl rfl rfl rfl ?_
                refine G.opN1 rfl rfl rfl rfl rfl ?_
                refine G.opU rfl rfl rfl rfl ?_
                refine G.opU rfl rfl rfl rfl ?_
                refine G.opU rfl rfl rfl rfl ?_
                refine G.opU rfl rfl rfl rfl ?_
                refine G.opU rfl rfl rfl rfl ?_
                refine G.opN1 rfl rfl rfl rfl rfl ?_
                refine G.op1 (op_pickT (Ev.t 68 (bB true)) (Ev.c _ rfl) rfl) rfl ⟨rfl, trivial⟩ trivial ?_
                exact G.arr (J24 true hF) ⟨rfl, rfl, rfl, rfl, rfl, trivial⟩ trivial rfl
              · refine G.known (t := 68) hc25 rfl ?_
                refine G.opG1 (op_move (Ev.t 0 (bS s_0)) rfl) rfl rfl rfl ⟨rfl, trivial⟩ trivial ?_
                refine G.opG1 (op_move (Ev.t 4 (bI .i64 v3.2)) rfl) rfl rfl rfl ⟨rfl, trivial⟩ trivial ?_
                obtain ⟨b26, hb26, hF⟩ := bindS hF
                refine G.opG1 (op_indexS Try.underlying9 (sidx_ok hb26).1 (sidx_ok hb26).2 (Ev.t 69 (bS s_0)) (Ev.t 70 (bI .i64 v3.2)) rfl) rfl rfl rfl ⟨rfl, rfl, trivial⟩ trivial ?_
                refine G.opG1 (op_eqI (Ev.t 71 (bI .u8 (b26.toNat : Int))) (Ev.c _ rfl) rfl) rfl rfl rfl ⟨rfl, trivial⟩ trivial ?_
                refine G.opG1 (op_move (Ev.t 72 (bB (decide ((b26.toNat : Int) = 240)))) rfl) rfl rfl rfl ⟨rfl, trivial⟩ trivial ?_
                refine ifS hF (fun hc27 hF => ?_) (fun hc27 hF => ?_)
                · refine G.known (t := 73) hc27 rfl ?_
                  refine G.opG1 (op_move (Ev.t 0 (bS s_0)) rfl) rfl rfl rfl ⟨rfl, trivial⟩ trivial ?_
                  refine G.opG1 (op_move (Ev.t 4 (bI .i64 v3.2)) rfl) rfl rfl rfl ⟨rfl, trivial⟩ trivial ?_
                  refine G.opG1 (op_add (Ev.t 75 (bI .i64 v3.2)) (Ev.c _ rfl) rfl) rfl rfl rfl ⟨rfl, trivial⟩ trivial ?_
                  obtain ⟨b28, hb28, hF⟩ := bindS hF
                  refine G.opG1 (op_indexS Try.underlying9 (sidx_ok hb28).1 (sidx_ok hb28).2 (Ev.t 74 (bS s_0)) (Ev.t 76 (bI .i64 (IntKind.wrap .i64 (v3.2 + 1)))) rfl) rfl rfl rfl ⟨rfl, rfl, trivial⟩ trivial ?_
                  refine G.opG1 (op_lss (Ev.t 77 (bI .u8 (b28.toNat : Int))) (Ev.c _ rfl) rfl) rfl rfl rfl ⟨rfl, trivial⟩ trivial ?_
                  refine G.opG1 (op_pickT (Ev.t 73 (bB true)) (Ev.t 78 (bB (decide ((b28.toNat : Int) < 144)))) rfl) rfl rfl rfl ⟨rfl, rfl, trivial⟩ trivial ?_
                  refine G.op1 (op_pickF (Ev.t 68 (bB false)) (Ev.t 79 (bB (decide ((b28.toNat : Int) < 144)))) rfl) rfl ⟨rfl, rfl, trivial⟩ trivial ?_
                  exact G.arr (J24 (decide ((b28.toNat : Int) < 144)) hF) ⟨rfl, rfl, rfl, rfl, rfl, trivial⟩ trivial rfl
                · refine G.known (t := 73) hc27 rfl ?_
                  refine G.opN1 rfl rfl rfl rfl rfl ?_
                  refine G.opN1 rfl rfl rfl rfl rfl ?_
                  refine G.opN1 rfl rfl rfl rfl rfl ?_
                  refine G.opN1 rfl rfl rfl rfl rfl ?_
                  refine G.opN1 rfl rfl rfl rfl rfl ?_
                  refine G.opG1 (op_pickF (Ev.t 73 (bB false)) (Ev.c _ rfl) rfl) rfl rfl rfl ⟨rfl, trivial⟩ trivial ?_
                  refine G.op1 (op_pickF (Ev.t 68 (bB false)) (Ev.t 79 (bB false)) rfl) rfl ⟨rfl, rfl, trivial⟩ trivial ?_
                  exact G.arr (J24 false hF) ⟨rfl, rfl, rfl, rfl, rfl, trivial⟩ trivial rfl
            refine ifS hF (fun hc30 hF => ?_) (fun hc30 hF => ?_)
            · refine G.known (t := 55) hc30 rfl ?_
              refine G.opN1 rfl rfl rfl rfl rfl ?_
              refine G.opN1 rfl rfl rfl rfl rfl ?_
              refine G.opN1 rfl rfl rfl rfl rfl ?_
              refine G.opN1 rfl rfl rfl rfl rfl ?_
              refine G.opN1 rfl rfl rfl rfl rfl ?_
              refine G.opU rfl rfl rfl rfl ?_
              refine G.opU rfl rfl rfl rfl ?_
              refine G.opU rfl rfl rfl rfl ?_
              refine G.opU rfl rfl rfl rfl ?_
              refine G.opU rfl rfl rfl rfl ?_
              refine G.opN1 rfl rfl rfl rfl rfl ?_
              refine G.op1 (op_pickT (Ev.t 55 (bB true)) (Ev.c _ rfl) rfl) rfl ⟨rfl, trivial⟩ trivial ?_
              exact G.arr (J29 true hF) ⟨rfl, rfl, rfl, rfl, rfl, trivial⟩ trivial rfl
            · refine G.known (t := 55) hc30 rfl ?_
              refine G.opG1 (op_move (Ev.t 0 (bS s_0)) rfl) rfl rfl rfl ⟨rfl, trivial⟩ trivial ?_
              refine G.opG1 (op_move (Ev.t 4 (bI .i64 v3.2)) rfl) rfl rfl rfl ⟨rfl, trivial⟩ trivial ?_
              obtain ⟨b31, hb31, hF⟩ := bindS hF
              refine G.opG1 (op_indexS Try.underlying9 (sidx_ok hb31).1 (sidx_ok hb31).2 (Ev.t 56 (bS s_0)) (Ev.t 57 (bI .i64 v3.2)) rfl) rfl rfl rfl ⟨rfl, rfl, trivial⟩ trivial ?_
              refine G.opG1 (op_eqI (Ev.t 58 (bI .u8 (b31.toNat : Int))) (Ev.c _ rfl) rfl) rfl rfl rfl ⟨rfl, trivial⟩ trivial ?_
              refine G.opG1 (op_move (Ev.t 59 (bB (decide ((b31.toNat : Int) = 237)))) rfl) rfl rfl rfl ⟨rfl, trivial⟩ trivial ?_
              refine ifS hF (fun hc32 hF => ?_) (fun hc32 hF => ?_)
              · refine G.known (t := 60) hc32 rfl ?_
                refine G.opG1 (op_move (Ev.t 0 (bS s_0)) rfl) rfl rfl rfl ⟨rfl, trivial⟩ trivial ?_
                refine G.opG1 (op_move (Ev.t 4 (bI .i64 v3.2)) rfl) rfl rfl rfl ⟨rfl, trivial⟩ trivial ?_
                refine G.opG1 (op_add (Ev.t 62 (bI .i64 v3.2)) (Ev.c _ rfl) rfl) rfl rfl rfl ⟨rfl, trivial⟩ trivial ?_
                obtain ⟨b33, hb33, hF⟩ := bindS hF
                refine G.opG1 (op_indexS Try.underlying9 (sidx_ok hb33).1 (sidx_ok hb33).2 (Ev.t 61 (bS s_0)) (Ev.t 63 (bI .i64 (IntKind.wrap .i64 (v3.2 + 1)))) rfl) rfl rfl rfl ⟨rfl, rfl, trivial⟩ trivial ?_
                refine G.opG1 (op_gtr (Ev.t 64 (bI .u8 (b33.toNat : Int))) (Ev.c _ rfl) rfl) rfl rfl rfl ⟨rfl, trivial⟩ trivial ?_
                refine G.opG1 (op_pickT (Ev.t 60 (bB true)) (Ev.t 65 (bB (decide (159 < (b33.toNat : Int))))) rfl) rfl rfl rfl ⟨rfl, rfl, trivial⟩ trivial ?_
                refine G.op1 (op_pickF (Ev.t 55 (bB false)) (Ev.t 66 (bB (decide (159 < (b33.toNat : Int))))) rfl) rfl ⟨rfl, rfl, trivial⟩ trivial ?_
                exact G.arr (J29 (decide (159 < (b33.toNat : Int))) hF) ⟨rfl, rfl, rfl, rfl, rfl, trivial⟩ trivial rfl
              · refine G.known (t := 60) hc32 rfl ?_
                refine G.opN1 rfl rfl rfl rfl rfl ?_
                refine G.opN1 rfl rfl rfl rfl rfl ?_
                refine G.opN1 rfl rfl rfl rfl rfl ?_
                refine G.opN1 rfl rfl rfl rfl rfl ?_
                refine G.opN1 rfl rfl rfl rfl rfl ?_
                refine G.opG1 (op_pickF (Ev.t 60 (bB false)) (Ev.c _ rfl) rfl) rfl rfl rfl ⟨rfl, trivial⟩ trivial ?_
                refine G.op1 (op_pickF (Ev.t 55 (bB false)) (Ev.t 66 (bB false)) rfl) rfl ⟨rfl, rfl, trivial⟩ trivial ?_
                exact G.arr (J29 false hF) ⟨rfl, rfl, rfl, rfl, rfl, trivial⟩ trivial rfl
          refine ifS hF (fun hc35 hF => ?_) (fun hc35 hF => ?_)
          · refine G.known (t := 48) hc35 rfl ?_
            refine G.opG1 (op_move (Ev.t 0 (bS s_0)) rfl) rfl rfl rfl ⟨rfl, trivial⟩ trivial ?_
            refine G.opG1 (op_move (Ev.t 4 (bI .i64 v3.2)) rfl) rfl rfl rfl ⟨rfl, trivial⟩ trivial ?_
            refine G.opG1 (op_add (Ev.t 50 (bI .i64 v3.2)) (Ev.c _ rfl) rfl) rfl rfl rfl ⟨rfl, trivial⟩ trivial ?_
            obtain ⟨b36, hb36, hF⟩ := bindS hF
            refine G.opG1 (op_indexS Try.underlying9 (sidx_ok hb36).1 (sidx_ok hb36).2 (Ev.t 49 (bS s_0)) (Ev.t 51 (bI .i64 (IntKind.wrap .i64 (v3.2 + 1)))) rfl) rfl rfl rfl ⟨rfl, rfl, trivial⟩ trivial ?_
            refine G.opG1 (op_lss (Ev.t 52 (bI .u8 (b36.toNat : Int))) (Ev.c _ rfl) rfl) rfl rfl rfl ⟨rfl, trivial⟩ trivial ?_
            refine G.op1 (op_pickT (Ev.t 48 (bB true)) (Ev.t 53 (bB (decide ((b36.toNat : Int) < 160)))) rfl) rfl ⟨rfl, rfl, trivial⟩ trivial ?_
            exact G.arr (J34 (decide ((b36.toNat : Int) < 160)) hF) ⟨rfl, rfl, rfl, rfl, rfl, trivial⟩ trivial rfl
          · refine G.known (t := 48) hc35 rfl ?_
            refine G.opN1 rfl rfl rfl rfl rfl ?_
            refine G.opN1 rfl rfl rfl rfl rfl ?_
            refine G.opN1 rfl rfl rfl rfl rfl ?_
            refine G.opN1 rfl rfl rfl rfl rfl ?_
            refine G.opN1 rfl rfl rfl rfl rfl ?_
            refine G.op1 (op_pickF (Ev.t 48 (bB false)) (Ev.c _ rfl) rfl) rfl ⟨rfl, trivial⟩ trivial ?_
            exact G.arr (J34 false hF) ⟨rfl, rfl, rfl, rfl, rfl, trivial⟩ trivial rfl
        refine G.block ?_
        refine G.keep (sl' := [(0, .one (bS s_0)), (3, .one (bI .i64 v3.1)), (4, .one (bI .i64 v3.2)), (5, .one (bI .i64 r9)), (6, .one (bI .i64 1))]) (hp' := []) ⟨rfl, rfl, rfl, rfl, rfl, trivial⟩ trivial rfl ?_
        refine G.loopF (fun (v38 : Int) => ⟨[(0, .one (bS s_0)), (3, .one (bI .i64 v3.1)), (4, .one (bI .i64 v3.2)), (5, .one (bI .i64 r9)), (6, .one (bI .i64 v38))], []⟩) hF rfl (fun K41 again40 v38 J39 hF => ?_)
        unfold ref02_Runes_l9 at hF
        refine G.seq ?_
        refine G.seq ?_
        refine G.region ?_
        refine G.op1 (op_move (Ev.t 6 (bI .i64 v38)) rfl) rfl ⟨rfl, trivial⟩ trivial ?_
        refine G.op1 (op_move (Ev.t 5 (bI .i64 r9)) rfl) rfl ⟨rfl, trivial⟩ trivial ?_
        refine G.op1 (op_lss (Ev.t 25 (bI .i64 v38)) (Ev.t 26 (bI .i64 r9)) rfl) rfl ⟨rfl, rfl, trivial⟩ trivial ?_
        refine G.endOps ?_
        refine ifS hF (fun hc42 hF => ?_) (fun hc42 hF => ?_)
        · refine G.cond rfl (fun _ => ?_) (fun hx => by rw [hc42] at hx; cases hx)
          refine G.skip ?_
          refine G.seq ?_
          refine G.block ?_
          refine G.seq ?_
          refine G.region ?_
          refine G.op1 (op_move (Ev.t 0 (bS s_0)) rfl) rfl ⟨rfl, trivial⟩ trivial ?_
          refine G.op1 (op_move (Ev.t 4 (bI .i64 v3.2)) rfl) rfl ⟨rfl, trivial⟩ trivial ?_
          refine G.op1 (op_move (Ev.t 6 (bI .i64 v38)) rfl) rfl ⟨rfl, trivial⟩ trivial ?_
          refine G.op1 (op_add (Ev.t 31 (bI .i64 v3.2)) (Ev.t 32 (bI .i64 v38)) rfl) rfl ⟨rfl, rfl, trivial⟩ trivial ?_
          obtain ⟨b43, hb43, hF⟩ := bindS hF
          refine G.op1 (op_indexS Try.underlying9 (sidx_ok hb43).1 (sidx_ok hb43).2 (Ev.t 30 (bS s_0)) (Ev.t 33 (bI .i64 (IntKind.wrap .i64 (v3.2 + v38)))) rfl) rfl ⟨rfl, rfl, trivial⟩ trivial ?_
          refine G.op1 (op_lss (Ev.t 34 (bI .u8 (b43.toNat : Int))) (Ev.c _ rfl) rfl) rfl ⟨rfl, trivial⟩ trivial ?_
          refine G.op1 (op_move (Ev.t 35 (bB (decide ((b43.toNat : Int) < 128)))) rfl) rfl ⟨rfl, trivial⟩ trivial ?_
          refine ifS hF (fun hc44 hF => ?_) (fun hc44 hF => ?_)
          · refine G.known (t := 36) hc44 rfl ?_
            refine G.opN1 rfl rfl rfl rfl rfl ?_
            refine G.opN1 rfl rfl rfl rfl rfl ?_
            refine G.opN1 rfl rfl rfl rfl rfl ?_
            refine G.opN1 rfl rfl rfl rfl rfl ?_
            refine G.opN1 rfl rfl rfl rfl rfl ?_
            refine G.opN1 rfl rfl rfl rfl rfl ?_
            refine G.op1 (op_pickT (Ev.t 36 (bB true)) (Ev.c _ rfl) rfl) rfl ⟨rfl, trivial⟩ trivial ?_
            refine G.endOps ?_
            refine G.condT rfl ?_
            refine G.seq ?_
            refine G.region ?_
            refine G.op1 (op_assign (Ev.c _ rfl) rfl) rfl trivial trivial ?_
            refine G.endOps ?_
            cases hF
            exact G.ret1 Try.results60 (RVar.tmp 2 _) ⟨rfl, trivial⟩ trivial
          · refine G.known (t := 36) hc44 rfl ?_
            refine G.opG1 (op_move (Ev.t 0 (bS s_0)) rfl) rfl rfl rfl ⟨rfl, trivial⟩ trivial ?_
            refine G.opG1 (op_move (Ev.t 4 (bI .i64 v3.2)) rfl) rfl rfl rfl ⟨rfl, trivial⟩ trivial ?_
            refine G.opG1 (op_move (Ev.t 6 (bI .i64 v38)) rfl) rfl rfl rfl ⟨rfl, trivial⟩ trivial ?_
            refine G.opG1 (op_add (Ev.t 38 (bI .i64 v3.2)) (Ev.t 39 (bI .i64 v38)) rfl) rfl rfl rfl ⟨rfl, rfl, trivial⟩ trivial ?_
            obtain ⟨b45, hb45, hF⟩ := bindS hF
            refine G.opG1 (op_indexS Try.underlying9 (sidx_ok hb45).1 (sidx_ok hb45).2 (Ev.t 37 (bS s_0)) (Ev.t 40 (bI .i64 (IntKind.wrap .i64 (v3.2 + v38)))) rfl) rfl rfl rfl ⟨rfl, rfl, trivial⟩ trivial ?_
            refine G.opG1 (op_gtr (Ev.t 41 (bI .u8 (b45.toNat : Int))) (Ev.c _ rfl) rfl) rfl rfl rfl ⟨rfl, trivial⟩ trivial ?_
            refine G.op1 (op_pickF (Ev.t 36 (bB false)) (Ev.t 42 (bB (decide (191 < (b45.toNat : Int))))) rfl) rfl ⟨rfl, rfl, trivial⟩ trivial ?_
            refine G.endOps ?_
            refine ifS hF (fun hc46 hF => ?_) (fun hc46 hF => ?_)
            · refine G.cond rfl (fun _ => ?_) (fun hx => by rw [hc46] at hx; cases hx)
              refine G.seq ?_
              refine G.region ?_
              refine G.op1 (op_assign (Ev.c _ rfl) rfl) rfl trivial trivial ?_
              refine G.endOps ?_
              cases hF
              exact G.ret1 Try.results60 (RVar.tmp 2 _) ⟨rfl, trivial⟩ trivial
            · refine G.cond rfl (fun hx => by rw [hc46] at hx; cases hx) (fun _ => ?_)
              refine G.skip ?_
              refine G.endBlock ?_
              refine G.region ?_
              refine G.op1 (op_move (Ev.t 6 (bI .i64 v38)) rfl) rfl ⟨rfl, trivial⟩ trivial ?_
              refine G.op1 (op_add (Ev.t 28 (bI .i64 v38)) (Ev.c _ rfl) rfl) rfl ⟨rfl, trivial⟩ trivial ?_
              refine G.op1 (op_assign (Ev.t 29 (bI .i64 (IntKind.wrap .i64 (v38 + 1)))) rfl) rfl ⟨rfl, trivial⟩ trivial ?_
              refine G.endOps ?_
              exact G.arr (J39 (IntKind.wrap .i64 (v38 + 1)) hF) ⟨rfl, rfl, rfl, rfl, rfl, trivial⟩ trivial rfl
        · refine G.cond rfl (fun hx => by rw [hc42] at hx; cases hx) (fun _ => ?_)
          refine G.exit ?_
          refine GX.c ?_
          refine GX.q ?_
          refine GX.bYes ?_
          exact G.arr (J37 () hF) ⟨rfl, rfl, rfl, rfl, trivial⟩ trivial rfl
    refine G.region ?_
    refine G.op1 (op_move (Ev.t 5 (bI .i64 r9)) rfl) rfl ⟨rfl, trivial⟩ trivial ?_
    refine G.op1 (op_eqI (Ev.t 15 (bI .i64 r9)) (Ev.c _ rfl) rfl) rfl ⟨rfl, trivial⟩ trivial ?_
    refine G.op1 (op_move (Ev.t 16 (bB (decide (r9 = 0)))) rfl) rfl ⟨rfl, trivial⟩ trivial ?_
    refine ifS hF (fun hc48 hF => ?_) (fun hc48 hF => ?_)
    · refine G.known (t := 17) hc48 rfl ?_
      refine G.opN1 rfl rfl rfl rfl rfl ?_
      refine G.opN1 rfl rfl rfl rfl rfl ?_
      refine G.opN1 rfl rfl rfl rfl rfl ?_
      refine G.opN1 rfl rfl rfl rfl rfl ?_
      refine G.opN1 rfl rfl rfl rfl rfl ?_
      refine G.opN1 rfl rfl rfl rfl rfl ?_
      refine G.op1 (op_pickT (Ev.t 17 (bB true)) (Ev.c _ rfl) rfl) rfl ⟨rfl, trivial⟩ trivial ?_
      refine G.endOps ?_
      exact G.arr (J47 true hF) ⟨rfl, rfl, rfl, rfl, rfl, trivial⟩ trivial rfl
    · refine G.known (t := 17) hc48 rfl ?_
      refine G.opG1 (op_move (Ev.t 5 (bI .i64 r9)) rfl) rfl rfl rfl ⟨rfl, trivial⟩ trivial ?_
      refine G.opG1 (op_move (Ev.t 0 (bS s_0)) rfl) rfl rfl rfl ⟨rfl, trivial⟩ trivial ?_
      refine G.opG1 (op_lenS Try.underlying9 (Ev.t 19 (bS s_0)) rfl) rfl rfl rfl ⟨rfl, trivial⟩ trivial ?_
      refine G.opG1 (op_move (Ev.t 4 (bI .i64 v3.2)) rfl) rfl rfl rfl ⟨rfl, trivial⟩ trivial ?_
      refine G.opG1 (op_sub (Ev.t 20 (bI .i64 (s_0.size : Int))) (Ev.t 21 (bI .i64 v3.2)) rfl) rfl rfl rfl ⟨rfl, rfl, trivial⟩ trivial ?_
      refine G.opG1 (op_gtr (Ev.t 18 (bI .i64 r9)) (Ev.t 22 (bI .i64 (IntKind.wrap .i64 ((s_0.size : Int) - v3.2)))) rfl) rfl rfl rfl ⟨rfl, rfl, trivial⟩ trivial ?_
      refine G.op1 (op_pickF (Ev.t 17 (bB false)) (Ev.t 23 (bB (decide ((IntKind.wrap .i64 ((s_0.size : Int) - v3.2)) < r9)))) rfl) rfl ⟨rfl, rfl, trivial⟩ trivial ?_
      refine G.endOps ?_
      exact G.arr (J47 (decide ((IntKind.wrap .i64 ((s_0.size : Int) - v3.2)) < r9)) hF) ⟨rfl, rfl, rfl, rfl, rfl, trivial⟩ trivial rfl
  · refine G.cond rfl (fun hx => by rw [hc7] at hx; cases hx) (fun _ => ?_)
    refine G.exit ?_
    refine GX.c ?_
    refine GX.q ?_
    refine GX.bYes ?_
    exact G.arr (J2 v3.1 hF) ⟨rfl, trivial⟩ trivial rfl


set_option maxRecDepth 20000 in
set_option maxHeartbeats 2000000 in
theorem ct_ref02_Check (s_0 : ByteArray) (r : Bool) (hF : ref02_Check s_0 = some r) : Ct Try.prog 28 [.g (.d (.v (.string s_0)))] (.one (.d (.v (.bool r)))) := by
  unfold ref02_Check at hF
  refine Ct.intro Try.func28 rfl Try.ntmps28 rfl rfl fun M w => ?_
  refine G.seq ?_
  refine G.region ?_
  refine G.op1 (op_assign (Ev.c _ rfl) rfl) rfl trivial trivial ?_
  refine G.endOps ?_
  refine G.seq ?_
  refine G.region ?_
  refine G.op1 (op_move (Ev.t 0 (bS s_0)) rfl) rfl ⟨rfl, trivial⟩ trivial ?_
  obtain ⟨r1, hr1, hF⟩ := bindS hF
  refine G.op1 (op_callQ (sv := .one (bI .i64 r1)) cf60 (ct_ref02_Runes s_0 r1 hr1) rfl rfl (EvQL.cons (EvQ.g (Ev.t 5 (bS s_0))) EvQL.nil) rfl) rfl ⟨rfl, trivial⟩ trivial ?_
  refine G.op1 (op_assign (Ev.t 6 (bI .i64 r1)) rfl) rfl ⟨rfl, trivial⟩ trivial ?_
  refine G.endOps ?_
  refine G.seq ?_
  refine G.seq ?_
  refine G.region ?_
  refine G.op1 (op_assign (Ev.c _ rfl) rfl) rfl trivial trivial ?_
  refine G.endOps ?_
  refine G.joinC (T := Unit) (fun y2 => ⟨[(3, .one (bI .i64 r1))], []⟩) (fun y2 => ref02_Check_k1 r1 y2 = some r) (fun y2 hF => ?_) (fun J4 => ?_)
  · unfold ref02_Check_k1 at hF
    refine G.seq ?_
    refine G.region ?_
    refine G.op1 (op_move (Ev.t 3 (bI .i64 r1)) rfl) rfl ⟨rfl, trivial⟩ trivial ?_
    refine G.op1 (op_geq (Ev.t 17 (bI .i64 r1)) (Ev.c _ rfl) rfl) rfl ⟨rfl, trivial⟩ trivial ?_
    refine G.op1 (op_move (Ev.t 18 (bB (decide (1 ≤ r1)))) rfl) rfl ⟨rfl, trivial⟩ trivial ?_
    refine ifS hF (fun hc3 hF => ?_) (fun hc3 hF => ?_)
    · refine G.known (t := 19) hc3 rfl ?_
      refine G.opG1 (op_move (Ev.t 3 (bI .i64 r1)) rfl) rfl rfl rfl ⟨rfl, trivial⟩ trivial ?_
      refine G.opG1 (op_leq (Ev.t 20 (bI .i64 r1)) (Ev.c _ rfl) rfl) rfl rfl rfl ⟨rfl, trivial⟩ trivial ?_
      refine G.op1 (op_pickT (Ev.t 19 (bB true)) (Ev.t 21 (bB (decide (r1 ≤ 8)))) rfl) rfl ⟨rfl, rfl, trivial⟩ trivial ?_
      refine G.op1 (op_assign (Ev.t 22 (bB (decide (r1 ≤ 8)))) rfl) rfl ⟨rfl, trivial⟩ trivial ?_
      refine G.endOps ?_
      cases hF
      exact G.ret1 Try.results28 (RVar.tmp 2 _) ⟨rfl, trivial⟩ trivial
    · refine G.known (t := 19) hc3 rfl ?_
      refine G.opN1 rfl rfl rfl rfl rfl ?_
      refine G.opN1 rfl rfl rfl rfl rfl ?_
      refine G.op1 (op_pickF (Ev.t 19 (bB false)) (Ev.c _ rfl) rfl) rfl ⟨rfl, trivial⟩ trivial ?_
      refine G.op1 (op_assign (Ev.t 22 (bB false)) rfl) rfl ⟨rfl, trivial⟩ trivial ?_
      refine G.endOps ?_
      cases hF
      exact G.ret1 Try.results28 (RVar.tmp 2 _) ⟨rfl, trivial⟩ trivial
  refine G.block ?_
  refine G.keep (sl' := [(0, .one (bS s_0)), (3, .one (bI .i64 r1)), (4, .one (bI .i64 0))]) (hp' := []) ⟨rfl, rfl, rfl, trivial⟩ trivial rfl ?_
  refine G.loopF (fun (v5 : Int) => ⟨[(0, .one (bS s_0)), (3, .one (bI .i64 r1)), (4, .one (bI .i64 v5))], []⟩) hF rfl (fun K8 again7 v5 J6 hF => ?_)
  unfold ref02_Check_l2 at hF
  refine G.seq ?_
  refine G.seq ?_
  refine G.region ?_
  refine G.op1 (op_move (Ev.t 4 (bI .i64 v5)) rfl) rfl ⟨rfl, trivial⟩ trivial ?_
  refine G.op1 (op_move (Ev.t 0 (bS s_0)) rfl) rfl ⟨rfl, trivial⟩ trivial ?_
  refine G.op1 (op_lenS Try.underlying9 (Ev.t 8 (bS s_0)) rfl) rfl ⟨rfl, trivial⟩ trivial ?_
  refine G.op1 (op_lss (Ev.t 7 (bI .i64 v5)) (Ev.t 9 (bI .i64 (s_0.size : Int))) rfl) rfl ⟨rfl, rfl, trivial⟩ trivial ?_
  refine G.endOps ?_
  refine ifS hF (fun hc9 hF => ?_) (fun hc9 hF => ?_)
  · refine G.cond rfl (fun _ => ?_) (fun hx => by rw [hc9] at hx; cases hx)
    refine G.skip ?_
    refine G.seq ?_
    refine G.block ?_
    refine G.seq ?_
    refine G.region ?_
    refine G.op1 (op_move (Ev.t 0 (bS s_0)) rfl) rfl ⟨rfl, trivial⟩ trivial ?_
    refine G.op1 (op_move (Ev.t 4 (bI .i64 v5)) rfl) rfl ⟨rfl, trivial⟩ trivial ?_
    obtain ⟨b10, hb10, hF⟩ := bindS hF
    refine G.op1 (op_indexS Try.underlying9 (sidx_ok hb10).1 (sidx_ok hb10).2 (Ev.t 13 (bS s_0)) (Ev.t 14 (bI .i64 v5)) rfl) rfl ⟨rfl, rfl, trivial⟩ trivial ?_
    refine G.op1 (op_lss (Ev.t 15 (bI .u8 (b10.toNat : Int))) (Ev.c _ rfl) rfl) rfl ⟨rfl, trivial⟩ trivial ?_
    refine G.endOps ?_
    refine ifS hF (fun hc11 hF => ?_) (fun hc11 hF => ?_)
    · refine G.cond rfl (fun _ => ?_) (fun hx => by rw [hc11] at hx; cases hx)
      refine G.seq ?_
      refine G.region ?_
      refine G.op1 (op_assign (Ev.c _ rfl) rfl) rfl trivial trivial ?_
      refine G.endOps ?_
      cases hF
      exact G.ret1 Try.results28 (RVar.tmp 2 _) ⟨rfl, trivial⟩ trivial
    · refine G.cond rfl (fun hx => by rw [hc11] at hx; cases hx) (fun _ => ?_)
      refine G.skip ?_
      refine G.endBlock ?_
      refine G.region ?_
      refine G.op1 (op_move (Ev.t 4 (bI .i64 v5)) rfl) rfl ⟨rfl, trivial⟩ trivial ?_
      refine G.op1 (op_add (Ev.t 11 (bI .i64 v5)) (Ev.c _ rfl) rfl) rfl ⟨rfl, trivial⟩ trivial ?_
      refine G.op1 (op_assign (Ev.t 12 (bI .i64 (IntKind.wrap .i64 (v5 + 1)))) rfl) rfl ⟨rfl, trivial⟩ trivial ?_
      refine G.endOps ?_
      exact G.arr (J6 (IntKind.wrap .i64 (v5 + 1)) hF) ⟨rfl, rfl, rfl, trivial⟩ trivial rfl
  · refine G.cond rfl (fun hx => by rw [hc9] at hx; cases hx) (fun _ => ?_)
    refine G.exit ?_
    refine GX.c ?_
    refine GX.q ?_
    refine GX.bYes ?_
    exact G.arr (J4 () hF) ⟨rfl, trivial⟩ trivial rfl


set_option maxRecDepth 20000 in
set_option maxHeartbeats 2000000 in
theorem ct_ref03_Check (s_0 : Api_Stamp) (r : Bool) (hF : ref03_Check s_0 = some r) : Ct Try.prog 29 [.g (.agg (encApi_Stamp s_0))] (.one (.d (.v (.bool r)))) := by
  unfold ref03_Check at hF
  refine Ct.intro Try.func29 rfl Try.ntmps29 rfl rfl fun M w => ?_
  refine G.seq ?_
  refine G.region ?_
  refine G.op2 (op_boxA (k := 1001) (Ev.t 0 (.g (.agg [.v (.int .i64 s_0.N), .v (.int .i64 s_0.Site)]))) rfl) rfl ⟨rfl, trivial⟩ ⟨rfl, trivial⟩ ?_
  refine G.op1 (op_assign (Ev.c _ rfl) rfl) rfl trivial trivial ?_
  refine G.endOps ?_
  refine G.seq ?_
  refine G.region ?_
  refine G.op1 (op_fieldP (off' := 0) Try.underlying23 rfl ti3 (by decide) rfl (Ev.t 1 (.ptr 1001 0)) rfl) rfl ⟨rfl, trivial⟩ trivial ?_
  refine G.op1 (op_load1P (c := bI .i64 s_0.N) Try.underlying3 rfl rfl (Ev.t 3 (.ptr 1001 0)) rfl) rfl ⟨rfl, trivial⟩ ⟨rfl, trivial⟩ ?_
  refine G.op1 (op_geq (Ev.t 4 (bI .i64 s_0.N)) (Ev.c _ rfl) rfl) rfl ⟨rfl, trivial⟩ trivial ?_
  refine G.op1 (op_move (Ev.t 5 (bB (decide (1 ≤ s_0.N)))) rfl) rfl ⟨rfl, trivial⟩ trivial ?_
  refine G.joinL (T := Bool) 4 (fun y1 => ⟨[(1, .one (.ptr 1001 0)), (10, .one (bB y1))], [(1001, some (.blk 23 [bI .i64 s_0.N, bI .i64 s_0.Site]))]⟩) (fun y1 => ref03_Check_k1 s_0 y1 = some r) (fun y1 hF => ?_) (fun J6 => ?_)
  · unfold ref03_Check_k1 at hF
    refine G.op1 (op_move (Ev.t 10 (bB y1)) rfl) rfl ⟨rfl, trivial⟩ trivial ?_
    refine G.joinL (T := Bool) 4 (fun y2 => ⟨[(1, .one (.ptr 1001 0)), (15, .one (bB y2))], [(1001, some (.blk 23 [bI .i64 s_0.N, bI .i64 s_0.Site]))]⟩) (fun y2 => ref03_Check_k2 s_0 y2 = some r) (fun y2 hF => ?_) (fun J4 => ?_)
    · unfold ref03_Check_k2 at hF
      refine G.op1 (op_move (Ev.t 15 (bB y2)) rfl) rfl ⟨rfl, trivial⟩ trivial ?_
      refine ifS hF (fun hc3 hF => ?_) (fun hc3 hF => ?_)
      · refine G.known (t := 16) hc3 rfl ?_
        refine G.opG1 (op_fieldP (off' := 1) Try.underlying23 rfl ti3 (by decide) rfl (Ev.t 1 (.ptr 1001 0)) rfl) rfl rfl rfl ⟨rfl, trivial⟩ trivial ?_
        refine G.opG1 (op_load1P (c := bI .i64 s_0.Site) Try.underlying3 rfl rfl (Ev.t 17 (.ptr 1001 1)) rfl) rfl rfl rfl ⟨rfl, trivial⟩ ⟨rfl, trivial⟩ ?_
        refine G.opG1 (op_lss (Ev.t 18 (bI .i64 s_0.Site)) (Ev.c _ rfl) rfl) rfl rfl rfl ⟨rfl, trivial⟩ trivial ?_
        refine G.op1 (op_pickT (Ev.t 16 (bB true)) (Ev.t 19 (bB (decide (s_0.Site < 6)))) rfl) rfl ⟨rfl, rfl, trivial⟩ trivial ?_
        refine G.op1 (op_assign (Ev.t 20 (bB (decide (s_0.Site < 6)))) rfl) rfl ⟨rfl, trivial⟩ trivial ?_
        refine G.endOps ?_
        cases hF
        exact G.ret1 Try.results29 (RVar.tmp 2 _) ⟨rfl, trivial⟩ trivial
      · refine G.known (t := 16) hc3 rfl ?_
        refine G.opN1 rfl rfl rfl rfl rfl ?_
        refine G.opN1 rfl rfl rfl rfl rfl ?_
        refine G.opN1 rfl rfl rfl rfl rfl ?_
        refine G.op1 (op_pickF (Ev.t 16 (bB false)) (Ev.c _ rfl) rfl) rfl ⟨rfl, trivial⟩ trivial ?_
        refine G.op1 (op_assign (Ev.t 20 (bB false)) rfl) rfl ⟨rfl, trivial⟩ trivial ?_
        refine G.endOps ?_
        cases hF
        exact G.ret1 Try.results29 (RVar.tmp 2 _) ⟨rfl, trivial⟩ trivial
    refine ifS hF (fun hc5 hF => ?_) (fun hc5 hF => ?_)
    · refine G.known (t := 11) hc5 rfl ?_
      refine G.opG1 (op_fieldP (off' := 1) Try.underlying23 rfl ti3 (by decide) rfl (Ev.t 1 (.ptr 1001 0)) rfl) rfl rfl rfl ⟨rfl, trivial⟩ trivial ?_
      refine G.opG1 (op_load1P (c := bI .i64 s_0.Site) Try.underlying3 rfl rfl (Ev.t 12 (.ptr 1001 1)) rfl) rfl rfl rfl ⟨rfl, trivial⟩ ⟨rfl, trivial⟩ ?_
      refine G.opG1 (op_geq (Ev.t 13 (bI .i64 s_0.Site)) (Ev.c _ rfl) rfl) rfl rfl rfl ⟨rfl, trivial⟩ trivial ?_
      refine G.op1 (op_pickT (Ev.t 11 (bB true)) (Ev.t 14 (bB (decide (0 ≤ s_0.Site)))) rfl) rfl ⟨rfl, rfl, trivial⟩ trivial ?_
      exact G.arr (J4 (decide (0 ≤ s_0.Site)) hF) ⟨rfl, rfl, trivial⟩ ⟨rfl, trivial⟩ rfl
    · refine G.known (t := 11) hc5 rfl ?_
      refine G.opN1 rfl rfl rfl rfl rfl ?_
      refine G.opN1 rfl rfl rfl rfl rfl ?_
      refine G.opN1 rfl rfl rfl rfl rfl ?_
      refine G.op1 (op_pickF (Ev.t 11 (bB false)) (Ev.c _ rfl) rfl) rfl ⟨rfl, trivial⟩ trivial ?_
      exact G.arr (J4 false hF) ⟨rfl, rfl, trivial⟩ ⟨rfl, trivial⟩ rfl
  refine ifS hF (fun hc7 hF => ?_) (fun hc7 hF => ?_)
  · refine G.known (t := 6) hc7 rfl ?_
    refine G.opG1 (op_fieldP (off' := 0) Try.underlying23 rfl ti3 (by decide) rfl (Ev.t 1 (.ptr 1001 0)) rfl) rfl rfl rfl ⟨rfl, trivial⟩ trivial ?_
    refine G.opG1 (op_load1P (c := bI .i64 s_0.N) Try.underlying3 rfl rfl (Ev.t 7 (.ptr 1001 0)) rfl) rfl rfl rfl ⟨rfl, trivial⟩ ⟨rfl, trivial⟩ ?_
    refine G.opG1 (op_leq (Ev.t 8 (bI .i64 s_0.N)) (Ev.c _ rfl) rfl) rfl rfl rfl ⟨rfl, trivial⟩ trivial ?_
    refine G.op1 (op_pickT (Ev.t 6 (bB true)) (Ev.t 9 (bB (decide (s_0.N ≤ 1099511627776)))) rfl) rfl ⟨rfl, rfl, trivial⟩ trivial ?_
    exact G.arr (J6 (decide (s_0.N ≤ 1099511627776)) hF) ⟨rfl, rfl, trivial⟩ ⟨rfl, trivial⟩ rfl
  · refine G.known (t := 6) hc7 rfl ?_
    refine G.opN1 rfl rfl rfl rfl rfl ?_
    refine G.opN1 rfl rfl rfl rfl rfl ?_
    refine G.opN1 rfl rfl rfl rfl rfl ?_
    refine G.op1 (op_pickF (Ev.t 6 (bB false)) (Ev.c _ rfl) rfl) rfl ⟨rfl, trivial⟩ trivial ?_
    exact G.arr (J6 false hF) ⟨rfl, rfl, trivial⟩ ⟨rfl, trivial⟩ rfl


set_option maxRecDepth 20000 in
set_option maxHeartbeats 2000000 in
theorem ct_ref03_Less (a_0 : Api_Stamp) (b_1 : Api_Stamp) (r : Bool) (hF : ref03_Less a_0 b_1 = some r) : Ct Try.prog 57 [.g (.agg (encApi_Stamp a_0)), .g (.agg (encApi_Stamp b_1))] (.one (.d (.v (.bool r)))) := by
  unfold ref03_Less at hF
  refine Ct.intro Try.func57 rfl Try.ntmps57 rfl rfl fun M w => ?_
  refine G.seq ?_
  refine G.region ?_
  refine G.op2 (op_boxA (k := 1002) (Ev.t 0 (.g (.agg [.v (.int .i64 a_0.N), .v (.int .i64 a_0.Site)]))) rfl) rfl ⟨rfl, trivial⟩ ⟨rfl, trivial⟩ ?_
  refine G.op2 (op_boxA (k := 1003) (Ev.t 1 (.g (.agg [.v (.int .i64 b_1.N), .v (.int .i64 b_1.Site)]))) rfl) rfl ⟨rfl, trivial⟩ ⟨rfl, trivial⟩ ?_
  refine G.op1 (op_assign (Ev.c _ rfl) rfl) rfl trivial trivial ?_
  refine G.endOps ?_
  refine G.seq ?_
  refine G.seq ?_
  refine G.region ?_
  refine G.op1 (op_fieldP (off' := 0) Try.underlying23 rfl ti3 (by decide) rfl (Ev.t 2 (.ptr 1002 0)) rfl) rfl ⟨rfl, trivial⟩ trivial ?_
  refine G.op1 (op_load1P (c := bI .i64 a_0.N) Try.underlying3 rfl rfl (Ev.t 5 (.ptr 1002 0)) rfl) rfl ⟨rfl, trivial⟩ ⟨rfl, trivial⟩ ?_
  refine G.op1 (op_fieldP (off' := 0) Try.underlying23 rfl ti3 (by decide) rfl (Ev.t 3 (.ptr 1003 0)) rfl) rfl ⟨rfl, trivial⟩ trivial ?_
  refine G.op1 (op_load1P (c := bI .i64 b_1.N) Try.underlying3 rfl rfl (Ev.t 7 (.ptr 1003 0)) rfl) rfl ⟨rfl, trivial⟩ ⟨rfl, trivial⟩ ?_
  refine G.op1 (op_neI (Ev.t 6 (bI .i64 a_0.N)) (Ev.t 8 (bI .i64 b_1.N)) rfl) rfl ⟨rfl, rfl, trivial⟩ trivial ?_
  refine G.endOps ?_
  refine ifS hF (fun hc1 hF => ?_) (fun hc1 hF => ?_)
  · refine G.cond rfl (fun _ => ?_) (fun hx => by rw [hc1] at hx; cases hx)
    refine G.seq ?_
    refine G.region ?_
    refine G.op1 (op_fieldP (off' := 0) Try.underlying23 rfl ti3 (by decide) rfl (Ev.t 2 (.ptr 1002 0)) rfl) rfl ⟨rfl, trivial⟩ trivial ?_
    refine G.op1 (op_load1P (c := bI .i64 a_0.N) Try.underlying3 rfl rfl (Ev.t 10 (.ptr 1002 0)) rfl) rfl ⟨rfl, trivial⟩ ⟨rfl, trivial⟩ ?_
    refine G.op1 (op_fieldP (off' := 0) Try.underlying23 rfl ti3 (by decide) rfl (Ev.t 3 (.ptr 1003 0)) rfl) rfl ⟨rfl, trivial⟩ trivial ?_
    refine G.op1 (op_load1P (c := bI .i64 b_1.N) Try.underlying3 rfl rfl (Ev.t 12 (.ptr 1003 0)) rfl) rfl ⟨rfl, trivial⟩ ⟨rfl, trivial⟩ ?_
    refine G.op1 (op_lss (Ev.t 11 (bI .i64 a_0.N)) (Ev.t 13 (bI .i64 b_1.N)) rfl) rfl ⟨rfl, rfl, trivial⟩ trivial ?_
    refine G.op1 (op_assign (Ev.t 14 (bB (decide (a_0.N < b_1.N)))) rfl) rfl ⟨rfl, trivial⟩ trivial ?_
    refine G.endOps ?_
    cases hF
    exact G.ret1 Try.results57 (RVar.tmp 4 _) ⟨rfl, trivial⟩ trivial
  · refine G.cond rfl (fun hx => by rw [hc1] at hx; cases hx) (fun _ => ?_)
    refine G.skip ?_
    refine G.seq ?_
    refine G.region ?_
    refine G.op1 (op_fieldP (off' := 1) Try.underlying23 rfl ti3 (by decide) rfl (Ev.t 2 (.ptr 1002 0)) rfl) rfl ⟨rfl, trivial⟩ trivial ?_
    refine G.op1 (op_load1P (c := bI .i64 a_0.Site) Try.underlying3 rfl rfl (Ev.t 15 (.ptr 1002 1)) rfl) rfl ⟨rfl, trivial⟩ ⟨rfl, trivial⟩ ?_
    refine G.op1 (op_fieldP (off' := 1) Try.underlying23 rfl ti3 (by decide) rfl (Ev.t 3 (.ptr 1003 0)) rfl) rfl ⟨rfl, trivial⟩ trivial ?_
    refine G.op1 (op_load1P (c := bI .i64 b_1.Site) Try.underlying3 rfl rfl (Ev.t 17 (.ptr 1003 1)) rfl) rfl ⟨rfl, trivial⟩ ⟨rfl, trivial⟩ ?_
    refine G.op1 (op_lss (Ev.t 16 (bI .i64 a_0.Site)) (Ev.t 18 (bI .i64 b_1.Site)) rfl) rfl ⟨rfl, rfl, trivial⟩ trivial ?_
    refine G.op1 (op_assign (Ev.t 19 (bB (decide (a_0.Site < b_1.Site)))) rfl) rfl ⟨rfl, trivial⟩ trivial ?_
    refine G.endOps ?_
    cases hF
    exact G.ret1 Try.results57 (RVar.tmp 4 _) ⟨rfl, trivial⟩ trivial


set_option maxRecDepth 20000 in
set_option maxHeartbeats 2000000 in
theorem ct_ref04_Add (p_0 : (List Api_Dep)) (d_1 : Api_Dep) (r : (List Api_Dep)) (hF : ref04_Add p_0 d_1 = some r) : Ct Try.prog 24 [.g (.d (.sl 3 (List.map encApi_Dep p_0))), .g (.agg (encApi_Dep d_1))] (.one (.d (.sl 3 (List.map encApi_Dep r)))) := by
  unfold ref04_Add at hF
  refine Ct.intro Try.func24 rfl Try.ntmps24 rfl rfl fun M w => ?_
  refine G.seq ?_
  refine G.region ?_
  refine G.op2 (op_boxA (k := 1003) (Ev.t 1 (.g (.agg [.v (.string d_1.Key), .v (.int .i64 d_1.Stamp.N), .v (.int .i64 d_1.Stamp.Site)]))) rfl) rfl ⟨rfl, trivial⟩ ⟨rfl, trivial⟩ ?_
  refine G.op1 (op_assign (Ev.n 3) rfl) rfl trivial trivial ?_
  refine G.endOps ?_
  refine G.seq ?_
  refine G.region ?_
  refine G.op1 (op_fieldP (off' := 0) Try.underlying52 rfl ti9 (by decide) rfl (Ev.t 3 (.ptr 1003 0)) rfl) rfl ⟨rfl, trivial⟩ trivial ?_
  refine G.op1 (op_load1P (c := bS d_1.Key) Try.underlying9 rfl rfl (Ev.t 11 (.ptr 1003 0)) rfl) rfl ⟨rfl, trivial⟩ ⟨rfl, trivial⟩ ?_
  obtain ⟨r1, hr1, hF⟩ := bindS hF
  refine G.op1 (op_callQ (sv := .one (bB r1)) cf28 (ct_ref02_Check d_1.Key r1 hr1) rfl rfl (EvQL.cons (EvQ.g (Ev.t 12 (bS d_1.Key))) EvQL.nil) rfl) rfl ⟨rfl, trivial⟩ trivial ?_
  refine G.op1 (op_assign (Ev.t 13 (bB r1)) rfl) rfl ⟨rfl, trivial⟩ trivial ?_
  refine G.endOps ?_
  refine G.seq ?_
  refine G.region ?_
  refine G.op1 (op_fieldP (off' := 1) Try.underlying52 rfl ti23 (by decide) rfl (Ev.t 3 (.ptr 1003 0)) rfl) rfl ⟨rfl, trivial⟩ trivial ?_
  refine G.op1 (op_loadAP (ds := [.v (.int .i64 d_1.Stamp.N), .v (.int .i64 d_1.Stamp.Site)]) Try.underlying23 rfl ti23 rfl (Ev.t 14 (.ptr 1003 1)) rfl) rfl ⟨rfl, trivial⟩ ⟨rfl, trivial⟩ ?_
  obtain ⟨r2, hr2, hF⟩ := bindS hF
  refine G.op1 (op_callQ (sv := .one (bB r2)) cf29 (ct_ref03_Check d_1.Stamp r2 hr2) rfl rfl (EvQL.cons (EvQ.g (Ev.t 15 (.g (.agg [.v (.int .i64 d_1.Stamp.N), .v (.int .i64 d_1.Stamp.Site)])))) EvQL.nil) rfl) rfl ⟨rfl, trivial⟩ trivial ?_
  refine G.op1 (op_assign (Ev.t 16 (bB r2)) rfl) rfl ⟨rfl, trivial⟩ trivial ?_
  refine G.endOps ?_
  refine G.seq ?_
  refine G.seq ?_
  refine G.joinC (T := Bool) (fun y3 => ⟨[(0, .one (.g (.d (.sl 3 (List.map encApi_Dep p_0))))), (3, .one (.ptr 1003 0)), (22, .one (bB y3))], [(1003, some (.blk 52 [bS d_1.Key, bI .i64 d_1.Stamp.N, bI .i64 d_1.Stamp.Site]))]⟩) (fun y3 => ref04_Add_k1 p_0 d_1 y3 = some r) (fun y3 hF => ?_) (fun J28 => ?_)
  · unfold ref04_Add_k1 at hF
    refine ifS hF (fun hc4 hF => ?_) (fun hc4 hF => ?_)
    · refine G.cond rfl (fun _ => ?_) (fun hx => by rw [hc4] at hx; cases hx)
      refine G.seq ?_
      refine G.region ?_
      refine G.op1 (op_move (Ev.t 0 (.g (.d (.sl 3 (List.map encApi_Dep p_0))))) rfl) rfl ⟨rfl, trivial⟩ trivial ?_
      refine G.op1 (op_assign (Ev.t 23 (.g (.d (.sl 3 (List.map encApi_Dep p_0))))) rfl) rfl ⟨rfl, trivial⟩ trivial ?_
      refine G.endOps ?_
      cases hF
      exact G.ret1 Try.results24 (RVar.tmp 4 _) ⟨rfl, trivial⟩ trivial
    · refine G.cond rfl (fun hx => by rw [hc4] at hx; cases hx) (fun _ => ?_)
      refine G.skip ?_
      refine G.seq ?_
      refine G.region ?_
      refine G.op2 (op_assignRow (E := 52) (size := 3) (k := 2007) (ex := false) rfl rfl) rfl trivial ⟨rfl, trivial⟩ ?_
      refine G.endOps ?_
      refine G.seq ?_
      refine G.region ?_
      refine G.op1 (op_assign (Ev.c _ rfl) rfl) rfl trivial trivial ?_
      refine G.endOps ?_
      refine G.seq ?_
      refine G.seq ?_
      refine G.region ?_
      refine G.op1 (op_assign (Ev.c _ rfl) rfl) rfl trivial trivial ?_
      refine G.endOps ?_
      refine G.joinC (T := Bool × (List Api_Dep)) (fun y5 => ⟨[(3, .one (.ptr 1003 0)), (7, .one (.own 2007 (List.map encApi_Dep y5.2))), (8, .one (bB y5.1))], [(1003, some (.blk 52 [bS d_1.Key, bI .i64 d_1.Stamp.N, bI .i64 d_1.Stamp.Site])), (2007, some (.row 52 3 (List.map encApi_Dep y5.2) false))]⟩) (fun y5 => ref04_Add_k2 d_1 y5 = some r) (fun y5 hF => ?_) (fun J8 => ?_)
      · unfold ref04_Add_k2 at hF
        refine G.seq ?_
        refine G.seq ?_
        refine G.region ?_
        refine G.op1 (op_move (Ev.t 8 (bB y5.1)) rfl) rfl ⟨rfl, trivial⟩ trivial ?_
        refine G.op1 (op_not (Ev.t 62 (bB y5.1)) rfl) rfl ⟨rfl, trivial⟩ trivial ?_
        refine G.endOps ?_
        refine ifS hF (fun hc6 hF => ?_) (fun hc6 hF => ?_)
        · refine G.cond rfl (fun _ => ?_) (fun hx => by rw [hc6] at hx; cases hx)
          refine G.region ?_
          refine G.op1 (op_move (Ev.t 7 (.own 2007 (List.map encApi_Dep y5.2))) rfl) rfl ⟨rfl, trivial⟩ trivial ?_
          refine G.op1 (op_loadAP (ds := [.v (.string d_1.Key), .v (.int .i64 d_1.Stamp.N), .v (.int .i64 d_1.Stamp.Site)]) Try.underlying52 rfl ti52 rfl (Ev.t 3 (.ptr 1003 0)) rfl) rfl ⟨rfl, trivial⟩ ⟨rfl, trivial⟩ ?_
          refine G.op1 (op_buildSlice (es := List.map encApi_Dep [d_1]) Try.underlying24 ti52 rfl rfl (EvP.cons (Ev.t 65 (.g (.agg [.v (.string d_1.Key), .v (.int .i64 d_1.Stamp.N), .v (.int .i64 d_1.Stamp.Site)]))) EvP.nil) rfl rfl (by simp [encApi_Dep]) rfl) rfl ⟨rfl, trivial⟩ trivial ?_
          obtain ⟨l7, hl7, hF⟩ := bindS hF
          refine G.op2 (op_appendO Try.underlying24 ti52 rfl (app_map hl7 encApi_Dep) (app_b1 hl7 encApi_Dep) (app_b2 hl7 encApi_Dep) (Ev.t 64 (.own 2007 (List.map encApi_Dep y5.2))) (Ev.t 66 (.g (.d (.sl 3 (List.map encApi_Dep ([d_1])))))) rfl) rfl ⟨rfl, rfl, trivial⟩ ⟨rfl, trivial⟩ ?_
          refine G.op1 (op_assign (Ev.t 67 (.own 2007 (List.map encApi_Dep l7))) rfl) rfl ⟨rfl, trivial⟩ trivial ?_
          refine G.endOps ?_
          refine G.seq ?_
          refine G.region ?_
          refine G.op1 (op_move (Ev.t 7 (.own 2007 (List.map encApi_Dep l7))) rfl) rfl ⟨rfl, trivial⟩ trivial ?_
          refine G.op1 (op_assign (Ev.t 68 (.own 2007 (List.map encApi_Dep l7))) rfl) rfl ⟨rfl, trivial⟩ trivial ?_
          refine G.endOps ?_
          refine G.view (t := 4) rfl rfl ?_
          cases hF
          exact G.ret1 Try.results24 (RVar.tmp 4 _) ⟨rfl, trivial⟩ trivial
        · refine G.cond rfl (fun hx => by rw [hc6] at hx; cases hx) (fun _ => ?_)
          refine G.skip ?_
          refine G.seq ?_
          refine G.region ?_
          refine G.op1 (op_move (Ev.t 7 (.own 2007 (List.map encApi_Dep y5.2))) rfl) rfl ⟨rfl, trivial⟩ trivial ?_
          refine G.op1 (op_assign (Ev.t 68 (.own 2007 (List.map encApi_Dep y5.2))) rfl) rfl ⟨rfl, trivial⟩ trivial ?_
          refine G.endOps ?_
          refine G.view (t := 4) rfl rfl ?_
          cases hF
          exact G.ret1 Try.results24 (RVar.tmp 4 _) ⟨rfl, trivial⟩ trivial
      refine G.block ?_
      refine G.keep (sl' := [(0, .one (.g (.d (.sl 3 (List.map encApi_Dep p_0))))), (3, .one (.ptr 1003 0)), (7, .one (.own 2007 (List.map encApi_Dep ([] : (List Api_Dep))))), (8, .one (bB false)), (9, .one (bI .i64 0))]) (hp' := [(1003, some (.blk 52 [bS d_1.Key, bI .i64 d_1.Stamp.N, bI .i64 d_1.Stamp.Site])), (2007, some (.row 52 3 (List.map encApi_Dep ([] : (List Api_Dep))) false))]) ⟨rfl, rfl, rfl, rfl, rfl, trivial⟩ ⟨rfl, rfl, trivial⟩ rfl ?_
      refine G.loopF (fun (v9 : Bool × Int × (List Api_Dep)) => ⟨[(0, .one (.g (.d (.sl 3 (List.map encApi_Dep p_0))))), (3, .one (.ptr 1003 0)), (7, .one (.own 2007 (List.map encApi_Dep v9.2.2))), (8, .one (bB v9.1)), (9, .one (bI .i64 v9.2.1))], [(1003, some (.blk 52 [bS d_1.Key, bI .i64 d_1.Stamp.N, bI .i64 d_1.Stamp.Site])), (2007, some (.row 52 3 (List.map encApi_Dep v9.2.2) false))]⟩) hF rfl (fun K12 again11 v9 J10 hF => ?_)
      unfold ref04_Add_l3 at hF
      refine G.seq ?_
      refine G.seq ?_
      refine G.region ?_
      refine G.op1 (op_move (Ev.t 9 (bI .i64 v9.2.1)) rfl) rfl ⟨rfl, trivial⟩ trivial ?_
      refine G.op1 (op_move (Ev.t 0 (.g (.d (.sl 3 (List.map encApi_Dep p_0))))) rfl) rfl ⟨rfl, trivial⟩ trivial ?_
      refine G.op1 (OpL.cast (op_lenD Try.underlying24 (Ev.t 25 (.g (.d (.sl 3 (List.map encApi_Dep p_0))))) rfl) (by rw [List.length_map])) rfl ⟨rfl, trivial⟩ trivial ?_
      refine G.op1 (op_lss (Ev.t 24 (bI .i64 v9.2.1)) (Ev.t 26 (bI .i64 (p_0.length : Int))) rfl) rfl ⟨rfl, rfl, trivial⟩ trivial ?_
      refine G.endOps ?_
      refine ifS hF (fun hc13 hF => ?_) (fun hc13 hF => ?_)
      · refine G.cond rfl (fun _ => ?_) (fun hx => by rw [hc13] at hx; cases hx)
        refine G.skip ?_
        refine G.seq ?_
        refine G.block ?_
        refine G.seq ?_
        refine G.region ?_
        refine G.op1 (op_move (Ev.t 0 (.g (.d (.sl 3 (List.map encApi_Dep p_0))))) rfl) rfl ⟨rfl, trivial⟩ trivial ?_
        refine G.op1 (op_move (Ev.t 9 (bI .i64 v9.2.1)) rfl) rfl ⟨rfl, trivial⟩ trivial ?_
        obtain ⟨x14, hx14, hF⟩ := bindS hF
        refine G.op1 (op_index (cs := [.v (.string x14.Key), .v (.int .i64 x14.Stamp.N), .v (.int .i64 x14.Stamp.Site)]) Try.underlying24 ti52 (idx_ok hx14).1 (idx_get hx14 encApi_Dep) (Ev.t 30 (.g (.d (.sl 3 (List.map encApi_Dep p_0))))) (Ev.t 31 (bI .i64 v9.2.1)) rfl) rfl ⟨rfl, rfl, trivial⟩ trivial ?_
        refine G.op1 (op_loadAE (ds := [.v (.string x14.Key), .v (.int .i64 x14.Stamp.N), .v (.int .i64 x14.Stamp.Site)]) Try.underlying52 rfl ti52 rfl (Ev.t 32 (.ep [.v (.string x14.Key), .v (.int .i64 x14.Stamp.N), .v (.int .i64 x14.Stamp.Site)])) rfl) rfl ⟨rfl, trivial⟩ trivial ?_
        refine G.op2 (op_alloc (k := 1010) (cs := [bS ByteArray.empty, bI .i64 0, bI .i64 0]) ti52 ⟨.v _ rfl, .v _ rfl, .v _ rfl, trivial⟩ rfl) rfl trivial ⟨rfl, trivial⟩ ?_
        refine G.op3 (op_storeA (cs' := [bS x14.Key, bI .i64 x14.Stamp.N, bI .i64 x14.Stamp.Site]) ti52 rfl rfl (Ev.t 10 (.ptr 1010 0)) (Ev.t 33 (.g (.agg [.v (.string x14.Key), .v (.int .i64 x14.Stamp.N), .v (.int .i64 x14.Stamp.Site)])))) rfl ⟨rfl, rfl, trivial⟩ ⟨rfl, trivial⟩ ?_
        refine G.endOps ?_
        refine G.seq ?_
        refine G.seq ?_
        refine G.region ?_
        refine G.op1 (op_fieldP (off' := 0) Try.underlying52 rfl ti9 (by decide) rfl (Ev.t 10 (.ptr 1010 0)) rfl) rfl ⟨rfl, trivial⟩ trivial ?_
        refine G.op1 (op_load1P (c := bS x14.Key) Try.underlying9 rfl rfl (Ev.t 34 (.ptr 1010 0)) rfl) rfl ⟨rfl, trivial⟩ ⟨rfl, trivial⟩ ?_
        refine G.op1 (op_fieldP (off' := 0) Try.underlying52 rfl ti9 (by decide) rfl (Ev.t 3 (.ptr 1003 0)) rfl) rfl ⟨rfl, trivial⟩ trivial ?_
        refine G.op1 (op_load1P (c := bS d_1.Key) Try.underlying9 rfl rfl (Ev.t 36 (.ptr 1003 0)) rfl) rfl ⟨rfl, trivial⟩ ⟨rfl, trivial⟩ ?_
        refine G.op1 (op_eqS (Ev.t 35 (bS x14.Key)) (Ev.t 37 (bS d_1.Key)) rfl) rfl ⟨rfl, rfl, trivial⟩ trivial ?_
        refine G.endOps ?_
        refine G.joinC (T := Bool × ByteArray × Int × Int) (fun y15 => ⟨[(0, .one (.g (.d (.sl 3 (List.map encApi_Dep p_0))))), (3, .one (.ptr 1003 0)), (7, .one (.own 2007 (List.map encApi_Dep v9.2.2))), (8, .one (bB y15.1)), (9, .one (bI .i64 v9.2.1)), (10, .one (.ptr 1010 0))], [(1003, some (.blk 52 [bS d_1.Key, bI .i64 d_1.Stamp.N, bI .i64 d_1.Stamp.Site])), (1010, some (.blk 52 [bS y15.2.1, bI .i64 y15.2.2.1, bI .i64 y15.2.2.2])), (2007, some (.row 52 3 (List.map encApi_Dep v9.2.2) false))]⟩) (fun y15 => ref04_Add_k4 d_1 again11 v9 y15 = some r) (fun y15 hF => ?_) (fun J24 => ?_)
        · unfold ref04_Add_k4 at hF
          refine G.seq ?_
          refine G.seq ?_
          refine G.joinC (T := Bool) (fun y16 => ⟨[(0, .one (.g (.d (.sl 3 (List.map encApi_Dep p_0))))), (3, .one (.ptr 1003 0)), (7, .one (.own 2007 (List.map encApi_Dep v9.2.2))), (8, .one (bB y15.1)), (9, .one (bI .i64 v9.2.1)), (10, .one (.ptr 1010 0)), (53, .one (bB y16))], [(1003, some (.blk 52 [bS d_1.Key, bI .i64 d_1.Stamp.N, bI .i64 d_1.Stamp.Site])), (1010, some (.blk 52 [bS y15.2.1, bI .i64 y15.2.2.1, bI .i64 y15.2.2.2])), (2007, some (.row 52 3 (List.map encApi_Dep v9.2.2) false))]⟩) (fun y16 => ref04_Add_k5 d_1 again11 v9 y15 y16 = some r) (fun y16 hF => ?_) (fun J22 => ?_)
          · unfold ref04_Add_k5 at hF
            refine G.joinC (T := Bool × (List Api_Dep)) (fun y17 => ⟨[(0, .one (.g (.d (.sl 3 (List.map encApi_Dep p_0))))), (3, .one (.ptr 1003 0)), (7, .one (.own 2007 (List.map encApi_Dep y17.2))), (8, .one (bB y17.1)), (9, .one (bI .i64 v9.2.1)), (10, .one (.ptr 1010 0))], [(1003, some (.blk 52 [bS d_1.Key, bI .i64 d_1.Stamp.N, bI .i64 d_1.Stamp.Site])), (1010, some (.blk 52 [bS y15.2.1, bI .i64 y15.2.2.1, bI .i64 y15.2.2.2])), (2007, some (.row 52 3 (List.map encApi_Dep y17.2) false))]⟩) (fun y17 => ref04_Add_k6 again11 v9 y15 y17 = some r) (fun y17 hF => ?_) (fun J19 => ?_)
            · unfold ref04_Add_k6 at hF
              refine G.region ?_
              refine G.op1 (op_move (Ev.t 7 (.own 2007 (List.map encApi_Dep y17.2))) rfl) rfl ⟨rfl, trivial⟩ trivial ?_
              refine G.op1 (op_loadAP (ds := [.v (.string y15.2.1), .v (.int .i64 y15.2.2.1), .v (.int .i64 y15.2.2.2)]) Try.underlying52 rfl ti52 rfl (Ev.t 10 (.ptr 1010 0)) rfl) rfl ⟨rfl, trivial⟩ ⟨rfl, trivial⟩ ?_
              refine G.op1 (op_buildSlice (es := List.map encApi_Dep [(Api_Dep.mk y15.2.1 (Api_Stamp.mk y15.2.2.1 y15.2.2.2))]) Try.underlying24 ti52 rfl rfl (EvP.cons (Ev.t 59 (.g (.agg [.v (.string y15.2.1), .v (.int .i64 y15.2.2.1), .v (.int .i64 y15.2.2.2)]))) EvP.nil) rfl rfl (by simp [encApi_Dep]) rfl) rfl ⟨rfl, trivial⟩ trivial ?_
              obtain ⟨l18, hl18, hF⟩ := bindS hF
              refine G.op2 (op_appendO Try.underlying24 ti52 rfl (app_map hl18 encApi_Dep) (app_b1 hl18 encApi_Dep) (app_b2 hl18 encApi_Dep) (Ev.t 58 (.own 2007 (List.map encApi_Dep y17.2))) (Ev.t 60 (.g (.d (.sl 3 (List.map encApi_Dep ([(Api_Dep.mk y15.2.1 (Api_Stamp.mk y15.2.2.1 y15.2.2.2))])))))) rfl) rfl ⟨rfl, rfl, trivial⟩ ⟨rfl, trivial⟩ ?_
              refine G.op1 (op_assign (Ev.t 61 (.own 2007 (List.map encApi_Dep l18))) rfl) rfl ⟨rfl, trivial⟩ trivial ?_
              refine G.endOps ?_
              refine G.endBlock ?_
              refine G.region ?_
              refine G.op1 (op_move (Ev.t 9 (bI .i64 v9.2.1)) rfl) rfl ⟨rfl, trivial⟩ trivial ?_
              refine G.op1 (op_add (Ev.t 28 (bI .i64 v9.2.1)) (Ev.c _ rfl) rfl) rfl ⟨rfl, trivial⟩ trivial ?_
              refine G.op1 (op_assign (Ev.t 29 (bI .i64 (IntKind.wrap .i64 (v9.2.1 + 1)))) rfl) rfl ⟨rfl, trivial⟩ trivial ?_
              refine G.endOps ?_
              exact G.arr (J10 (y17.1, IntKind.wrap .i64 (v9.2.1 + 1), l18) hF) ⟨rfl, rfl, rfl, rfl, rfl, trivial⟩ ⟨rfl, rfl, trivial⟩ rfl
            refine ifS hF (fun hc20 hF => ?_) (fun hc20 hF => ?_)
            · refine G.cond rfl (fun _ => ?_) (fun hx => by rw [hc20] at hx; cases hx)
              refine G.seq ?_
              refine G.region ?_
              refine G.op1 (op_move (Ev.t 7 (.own 2007 (List.map encApi_Dep v9.2.2))) rfl) rfl ⟨rfl, trivial⟩ trivial ?_
              refine G.op1 (op_loadAP (ds := [.v (.string d_1.Key), .v (.int .i64 d_1.Stamp.N), .v (.int .i64 d_1.Stamp.Site)]) Try.underlying52 rfl ti52 rfl (Ev.t 3 (.ptr 1003 0)) rfl) rfl ⟨rfl, trivial⟩ ⟨rfl, trivial⟩ ?_
              refine G.op1 (op_buildSlice (es := List.map encApi_Dep [d_1]) Try.underlying24 ti52 rfl rfl (EvP.cons (Ev.t 55 (.g (.agg [.v (.string d_1.Key), .v (.int .i64 d_1.Stamp.N), .v (.int .i64 d_1.Stamp.Site)]))) EvP.nil) rfl rfl (by simp [encApi_Dep]) rfl) rfl ⟨rfl, trivial⟩ trivial ?_
              obtain ⟨l21, hl21, hF⟩ := bindS hF
              refine G.op2 (op_appendO Try.underlying24 ti52 rfl (app_map hl21 encApi_Dep) (app_b1 hl21 encApi_Dep) (app_b2 hl21 encApi_Dep) (Ev.t 54 (.own 2007 (List.map encApi_Dep v9.2.2))) (Ev.t 56 (.g (.d (.sl 3 (List.map encApi_Dep ([d_1])))))) rfl) rfl ⟨rfl, rfl, trivial⟩ ⟨rfl, trivial⟩ ?_
              refine G.op1 (op_assign (Ev.t 57 (.own 2007 (List.map encApi_Dep l21))) rfl) rfl ⟨rfl, trivial⟩ trivial ?_
              refine G.endOps ?_
              refine G.region ?_
              refine G.op1 (op_assign (Ev.c _ rfl) rfl) rfl trivial trivial ?_
              refine G.endOps ?_
              exact G.arr (J19 (true, l21) hF) ⟨rfl, rfl, rfl, rfl, rfl, rfl, trivial⟩ ⟨rfl, rfl, rfl, trivial⟩ rfl
            · refine G.cond rfl (fun hx => by rw [hc20] at hx; cases hx) (fun _ => ?_)
              refine G.skip ?_
              exact G.arr (J19 (y15.1, v9.2.2) hF) ⟨rfl, rfl, rfl, rfl, rfl, rfl, trivial⟩ ⟨rfl, rfl, rfl, trivial⟩ rfl
          refine G.region ?_
          refine G.op1 (op_move (Ev.t 8 (bB y15.1)) rfl) rfl ⟨rfl, trivial⟩ trivial ?_
          refine G.op1 (op_not (Ev.t 45 (bB y15.1)) rfl) rfl ⟨rfl, trivial⟩ trivial ?_
          refine G.op1 (op_move (Ev.t 46 (bB (!y15.1))) rfl) rfl ⟨rfl, trivial⟩ trivial ?_
          refine ifS hF (fun hc23 hF => ?_) (fun hc23 hF => ?_)
          · refine G.known (t := 47) hc23 rfl ?_
            refine G.opG1 (op_fieldP (off' := 0) Try.underlying52 rfl ti9 (by decide) rfl (Ev.t 10 (.ptr 1010 0)) rfl) rfl rfl rfl ⟨rfl, trivial⟩ trivial ?_
            refine G.opG1 (op_load1P (c := bS y15.2.1) Try.underlying9 rfl rfl (Ev.t 48 (.ptr 1010 0)) rfl) rfl rfl rfl ⟨rfl, trivial⟩ ⟨rfl, trivial⟩ ?_
            refine G.opG1 (op_fieldP (off' := 0) Try.underlying52 rfl ti9 (by decide) rfl (Ev.t 3 (.ptr 1003 0)) rfl) rfl rfl rfl ⟨rfl, trivial⟩ trivial ?_
            refine G.opG1 (op_load1P (c := bS d_1.Key) Try.underlying9 rfl rfl (Ev.t 50 (.ptr 1003 0)) rfl) rfl rfl rfl ⟨rfl, trivial⟩ ⟨rfl, trivial⟩ ?_
            refine G.opG1 (op_gtS (Ev.t 49 (bS y15.2.1)) (Ev.t 51 (bS d_1.Key)) rfl) rfl rfl rfl ⟨rfl, rfl, trivial⟩ trivial ?_
            refine G.op1 (op_pickT (Ev.t 47 (bB true)) (Ev.t 52 (bB (!(slt y15.2.1 d_1.Key || seq y15.2.1 d_1.Key)))) rfl) rfl ⟨rfl, rfl, trivial⟩ trivial ?_
            refine G.endOps ?_
            exact G.arr (J22 (!(slt y15.2.1 d_1.Key || seq y15.2.1 d_1.Key)) hF) ⟨rfl, rfl, rfl, rfl, rfl, rfl, rfl, trivial⟩ ⟨rfl, rfl, rfl, trivial⟩ rfl
          · refine G.known (t := 47) hc23 rfl ?_
            refine G.opN1 rfl rfl rfl rfl rfl ?_
            refine G.opN1 rfl rfl rfl rfl rfl ?_
            refine G.opN1 rfl rfl rfl rfl rfl ?_
            refine G.opN1 rfl rfl rfl rfl rfl ?_
            refine G.opN1 rfl rfl rfl rfl rfl ?_
            refine G.op1 (op_pickF (Ev.t 47 (bB false)) (Ev.c _ rfl) rfl) rfl ⟨rfl, trivial⟩ trivial ?_
            refine G.endOps ?_
            exact G.arr (J22 false hF) ⟨rfl, rfl, rfl, rfl, rfl, rfl, rfl, trivial⟩ ⟨rfl, rfl, rfl, trivial⟩ rfl
        refine ifS hF (fun hc25 hF => ?_) (fun hc25 hF => ?_)
        · refine G.cond rfl (fun _ => ?_) (fun hx => by rw [hc25] at hx; cases hx)
          refine G.seq ?_
          refine G.seq ?_
          refine G.region ?_
          refine G.op1 (op_fieldP (off' := 1) Try.underlying52 rfl ti23 (by decide) rfl (Ev.t 10 (.ptr 1010 0)) rfl) rfl ⟨rfl, trivial⟩ trivial ?_
          refine G.op1 (op_loadAP (ds := [.v (.int .i64 x14.Stamp.N), .v (.int .i64 x14.Stamp.Site)]) Try.underlying23 rfl ti23 rfl (Ev.t 39 (.ptr 1010 1)) rfl) rfl ⟨rfl, trivial⟩ ⟨rfl, trivial⟩ ?_
          refine G.op1 (op_fieldP (off' := 1) Try.underlying52 rfl ti23 (by decide) rfl (Ev.t 3 (.ptr 1003 0)) rfl) rfl ⟨rfl, trivial⟩ trivial ?_
          refine G.op1 (op_loadAP (ds := [.v (.int .i64 d_1.Stamp.N), .v (.int .i64 d_1.Stamp.Site)]) Try.underlying23 rfl ti23 rfl (Ev.t 41 (.ptr 1003 1)) rfl) rfl ⟨rfl, trivial⟩ ⟨rfl, trivial⟩ ?_
          obtain ⟨r26, hr26, hF⟩ := bindS hF
          refine G.op1 (op_callQ (sv := .one (bB r26)) cf57 (ct_ref03_Less x14.Stamp d_1.Stamp r26 hr26) rfl rfl (EvQL.cons (EvQ.g (Ev.t 40 (.g (.agg [.v (.int .i64 x14.Stamp.N), .v (.int .i64 x14.Stamp.Site)])))) (EvQL.cons (EvQ.g (Ev.t 42 (.g (.agg [.v (.int .i64 d_1.Stamp.N), .v (.int .i64 d_1.Stamp.Site)])))) EvQL.nil)) rfl) rfl ⟨rfl, rfl, trivial⟩ trivial ?_
          refine G.endOps ?_
          refine ifS hF (fun hc27 hF => ?_) (fun hc27 hF => ?_)
          · refine G.cond rfl (fun _ => ?_) (fun hx => by rw [hc27] at hx; cases hx)
            refine G.region ?_
            refine G.op1 (op_loadAP (ds := [.v (.string d_1.Key), .v (.int .i64 d_1.Stamp.N), .v (.int .i64 d_1.Stamp.Site)]) Try.underlying52 rfl ti52 rfl (Ev.t 3 (.ptr 1003 0)) rfl) rfl ⟨rfl, trivial⟩ ⟨rfl, trivial⟩ ?_
            refine G.op3 (op_storeA (cs' := [bS d_1.Key, bI .i64 d_1.Stamp.N, bI .i64 d_1.Stamp.Site]) ti52 rfl rfl (Ev.t 10 (.ptr 1010 0)) (Ev.t 44 (.g (.agg [.v (.string d_1.Key), .v (.int .i64 d_1.Stamp.N), .v (.int .i64 d_1.Stamp.Site)])))) rfl ⟨rfl, rfl, trivial⟩ ⟨rfl, trivial⟩ ?_
            refine G.endOps ?_
            refine G.region ?_
            refine G.op1 (op_assign (Ev.c _ rfl) rfl) rfl trivial trivial ?_
            refine G.endOps ?_
            exact G.arr (J24 (true, d_1.Key, d_1.Stamp.N, d_1.Stamp.Site) hF) ⟨rfl, rfl, rfl, rfl, rfl, rfl, trivial⟩ ⟨rfl, rfl, rfl, trivial⟩ rfl
          · refine G.cond rfl (fun hx => by rw [hc27] at hx; cases hx) (fun _ => ?_)
            refine G.skip ?_
            refine G.region ?_
            refine G.op1 (op_assign (Ev.c _ rfl) rfl) rfl trivial trivial ?_
            refine G.endOps ?_
            exact G.arr (J24 (true, x14.Key, x14.Stamp.N, x14.Stamp.Site) hF) ⟨rfl, rfl, rfl, rfl, rfl, rfl, trivial⟩ ⟨rfl, rfl, rfl, trivial⟩ rfl
        · refine G.cond rfl (fun hx => by rw [hc25] at hx; cases hx) (fun _ => ?_)
          refine G.skip ?_
          exact G.arr (J24 (v9.1, x14.Key, x14.Stamp.N, x14.Stamp.Site) hF) ⟨rfl, rfl, rfl, rfl, rfl, rfl, trivial⟩ ⟨rfl, rfl, rfl, trivial⟩ rfl
      · refine G.cond rfl (fun hx => by rw [hc13] at hx; cases hx) (fun _ => ?_)
        refine G.exit ?_
        refine GX.c ?_
        refine GX.q ?_
        refine GX.bYes ?_
        exact G.arr (J8 (v9.1, v9.2.2) hF) ⟨rfl, rfl, rfl, trivial⟩ ⟨rfl, rfl, trivial⟩ rfl
  refine G.region ?_
  refine G.op1 (op_move (Ev.t 5 (bB r1)) rfl) rfl ⟨rfl, trivial⟩ trivial ?_
  refine G.op1 (op_not (Ev.t 17 (bB r1)) rfl) rfl ⟨rfl, trivial⟩ trivial ?_
  refine G.op1 (op_move (Ev.t 18 (bB (!r1))) rfl) rfl ⟨rfl, trivial⟩ trivial ?_
  refine ifS hF (fun hc29 hF => ?_) (fun hc29 hF => ?_)
  · refine G.known (t := 19) hc29 rfl ?_
    refine G.opN1 rfl rfl rfl rfl rfl ?_
    refine G.opN1 rfl rfl rfl rfl rfl ?_
    refine G.op1 (op_pickT (Ev.t 19 (bB true)) (Ev.c _ rfl) rfl) rfl ⟨rfl, trivial⟩ trivial ?_
    refine G.endOps ?_
    exact G.arr (J28 true hF) ⟨rfl, rfl, rfl, trivial⟩ ⟨rfl, trivial⟩ rfl
  · refine G.known (t := 19) hc29 rfl ?_
    refine G.opG1 (op_move (Ev.t 6 (bB r2)) rfl) rfl rfl rfl ⟨rfl, trivial⟩ trivial ?_
    refine G.opG1 (op_not (Ev.t 20 (bB r2)) rfl) rfl rfl rfl ⟨rfl, trivial⟩ trivial ?_
    refine G.op1 (op_pickF (Ev.t 19 (bB false)) (Ev.t 21 (bB (!r2))) rfl) rfl ⟨rfl, rfl, trivial⟩ trivial ?_
    refine G.endOps ?_
    exact G.arr (J28 (!r2) hF) ⟨rfl, rfl, rfl, trivial⟩ ⟨rfl, trivial⟩ rfl


set_option maxRecDepth 20000 in
set_option maxHeartbeats 2000000 in
theorem ct_law06_few (v_0 : Api_Version) (r : Api_Version) (hF : law06_few v_0 = some r) : Ct Try.prog 10 [.g (.agg (encApi_Version v_0))] (.one (.agg (encApi_Version r))) := by
  unfold law06_few at hF
  refine Ct.intro Try.func10 rfl Try.ntmps10 rfl rfl fun M w => ?_
  refine G.seq ?_
  refine G.region ?_
  refine G.op2 (op_boxA (k := 1001) (Ev.t 0 (.g (.agg [.v (.string v_0.Key), .v (.string v_0.Value), .v (.bool v_0.Gone), .v (.int .i64 v_0.Stamp.N), .v (.int .i64 v_0.Stamp.Site), .sl 3 (List.map encApi_Dep v_0.Past)]))) rfl) rfl ⟨rfl, trivial⟩ ⟨rfl, trivial⟩ ?_
  refine G.op2 (op_alloc (k := 1002) (cs := [bS ByteArray.empty, bS ByteArray.empty, bB false, bI .i64 0, bI .i64 0, .g (.d (.sl 3 (List.map encApi_Dep ([] : (List Api_Dep)))))]) ti26 ⟨.v _ rfl, .v _ rfl, .v _ rfl, .v _ rfl, .v _ rfl, .n 3, trivial⟩ rfl) rfl trivial ⟨rfl, trivial⟩ ?_
  refine G.endOps ?_
  refine G.seq ?_
  refine G.seq ?_
  refine G.region ?_
  refine G.op1 (op_fieldP (off' := 0) Try.underlying26 rfl ti9 (by decide) rfl (Ev.t 1 (.ptr 1001 0)) rfl) rfl ⟨rfl, trivial⟩ trivial ?_
  refine G.op1 (op_load1P (c := bS v_0.Key) Try.underlying9 rfl rfl (Ev.t 6 (.ptr 1001 0)) rfl) rfl ⟨rfl, trivial⟩ ⟨rfl, trivial⟩ ?_
  refine G.op1 (op_lenS Try.underlying9 (Ev.t 7 (bS v_0.Key)) rfl) rfl ⟨rfl, trivial⟩ trivial ?_
  refine G.op1 (op_gtr (Ev.t 8 (bI .i64 (v_0.Key.size : Int))) (Ev.c _ rfl) rfl) rfl ⟨rfl, trivial⟩ trivial ?_
  refine G.endOps ?_
  refine G.joinC (T := ByteArray) (fun y1 => ⟨[(1, .one (.ptr 1001 0)), (2, .one (.ptr 1002 0))], [(1001, some (.blk 26 [bS y1, bS v_0.Value, bB v_0.Gone, bI .i64 v_0.Stamp.N, bI .i64 v_0.Stamp.Site, .g (.d (.sl 3 (List.map encApi_Dep v_0.Past)))])), (1002, some (.blk 26 [bS ByteArray.empty, bS ByteArray.empty, bB false, bI .i64 0, bI .i64 0, .g (.d (.sl 3 (List.map encApi_Dep ([] : (List Api_Dep)))))]))]⟩) (fun y1 => law06_few_k1 v_0 y1 = some r) (fun y1 hF => ?_) (fun J22 => ?_)
  · unfold law06_few_k1 at hF
    refine G.seq ?_
    refine G.seq ?_
    refine G.region ?_
    refine G.op1 (op_fieldP (off' := 1) Try.underlying26 rfl ti9 (by decide) rfl (Ev.t 1 (.ptr 1001 0)) rfl) rfl ⟨rfl, trivial⟩ trivial ?_
    refine G.op1 (op_load1P (c := bS v_0.Value) Try.underlying9 rfl rfl (Ev.t 14 (.ptr 1001 1)) rfl) rfl ⟨rfl, trivial⟩ ⟨rfl, trivial⟩ ?_
    refine G.op1 (op_lenS Try.underlying9 (Ev.t 15 (bS v_0.Value)) rfl) rfl ⟨rfl, trivial⟩ trivial ?_
    refine G.op1 (op_gtr (Ev.t 16 (bI .i64 (v_0.Value.size : Int))) (Ev.c _ rfl) rfl) rfl ⟨rfl, trivial⟩ trivial ?_
    refine G.endOps ?_
    refine G.joinC (T := ByteArray) (fun y2 => ⟨[(1, .one (.ptr 1001 0)), (2, .one (.ptr 1002 0))], [(1001, some (.blk 26 [bS y1, bS y2, bB v_0.Gone, bI .i64 v_0.Stamp.N, bI .i64 v_0.Stamp.Site, .g (.d (.sl 3 (List.map encApi_Dep v_0.Past)))])), (1002, some (.blk 26 [bS ByteArray.empty, bS ByteArray.empty, bB false, bI .i64 0, bI .i64 0, .g (.d (.sl 3 (List.map encApi_Dep ([] : (List Api_Dep)))))]))]⟩) (fun y2 => law06_few_k2 v_0 y1 y2 = some r) (fun y2 hF => ?_) (fun J19 => ?_)
    · unfold law06_few_k2 at hF
      refine G.seq ?_
      refine G.region ?_
      refine G.op1 (op_assign (Ev.n 3) rfl) rfl trivial trivial ?_
      refine G.endOps ?_
      refine G.seq ?_
      refine G.seq ?_
      refine G.region ?_
      refine G.op1 (op_assign (Ev.c _ rfl) rfl) rfl trivial trivial ?_
      refine G.endOps ?_
      refine G.joinC (T := (List Api_Dep)) (fun y3 => ⟨[(1, .one (.ptr 1001 0)), (2, .one (.ptr 1002 0)), (3, .one (.g (.d (.sl 3 (List.map encApi_Dep y3)))))], [(1001, some (.blk 26 [bS y1, bS y2, bB v_0.Gone, bI .i64 v_0.Stamp.N, bI .i64 v_0.Stamp.Site, .g (.d (.sl 3 (List.map encApi_Dep v_0.Past)))])), (1002, some (.blk 26 [bS ByteArray.empty, bS ByteArray.empty, bB false, bI .i64 0, bI .i64 0, .g (.d (.sl 3 (List.map encApi_Dep ([] : (List Api_Dep)))))]))]⟩) (fun y3 => law06_few_k3 v_0 y1 y2 y3 = some r) (fun y3 hF => ?_) (fun J4 => ?_)
      · unfold law06_few_k3 at hF
        refine G.seq ?_
        refine G.region ?_
        refine G.op1 (op_move (Ev.t 3 (.g (.d (.sl 3 (List.map encApi_Dep y3))))) rfl) rfl ⟨rfl, trivial⟩ trivial ?_
        refine G.op1 (op_fieldP (off' := 5) Try.underlying26 rfl ti24 (by decide) rfl (Ev.t 1 (.ptr 1001 0)) rfl) rfl ⟨rfl, trivial⟩ trivial ?_
        refine G.op3 (op_store1 (cs' := [bS y1, bS y2, bB v_0.Gone, bI .i64 v_0.Stamp.N, bI .i64 v_0.Stamp.Site, .g (.d (.sl 3 (List.map encApi_Dep y3)))]) (c := .g (.d (.sl 3 (List.map encApi_Dep y3)))) trivial ti24 rfl rfl (Ev.t 50 (.ptr 1001 5)) (Ev.t 49 (.g (.d (.sl 3 (List.map encApi_Dep y3)))))) rfl ⟨rfl, rfl, trivial⟩ ⟨rfl, trivial⟩ ?_
        refine G.endOps ?_
        refine G.seq ?_
        refine G.region ?_
        refine G.op1 (op_loadAP (ds := [.v (.string y1), .v (.string y2), .v (.bool v_0.Gone), .v (.int .i64 v_0.Stamp.N), .v (.int .i64 v_0.Stamp.Site), .sl 3 (List.map encApi_Dep y3)]) Try.underlying26 rfl ti26 rfl (Ev.t 1 (.ptr 1001 0)) rfl) rfl ⟨rfl, trivial⟩ ⟨rfl, trivial⟩ ?_
        refine G.op3 (op_storeA (cs' := [bS y1, bS y2, bB v_0.Gone, bI .i64 v_0.Stamp.N, bI .i64 v_0.Stamp.Site, .g (.d (.sl 3 (List.map encApi_Dep y3)))]) ti26 rfl rfl (Ev.t 2 (.ptr 1002 0)) (Ev.t 51 (.g (.agg [.v (.string y1), .v (.string y2), .v (.bool v_0.Gone), .v (.int .i64 v_0.Stamp.N), .v (.int .i64 v_0.Stamp.Site), .sl 3 (List.map encApi_Dep y3)])))) rfl ⟨rfl, rfl, trivial⟩ ⟨rfl, trivial⟩ ?_
        refine G.endOps ?_
        cases hF
        exact G.ret1 Try.results10 (RVar.cellA (ds := [.v (.string y1), .v (.string y2), .v (.bool v_0.Gone), .v (.int .i64 v_0.Stamp.N), .v (.int .i64 v_0.Stamp.Site), .sl 3 (List.map encApi_Dep y3)]) Try.underlying26 rfl ti26 rfl) ⟨rfl, trivial⟩ ⟨rfl, trivial⟩
      refine G.block ?_
      refine G.keep (sl' := [(1, .one (.ptr 1001 0)), (2, .one (.ptr 1002 0)), (3, .one (.g (.d (.sl 3 (List.map encApi_Dep ([] : (List Api_Dep))))))), (4, .one (bI .i64 0))]) (hp' := [(1001, some (.blk 26 [bS y1, bS y2, bB v_0.Gone, bI .i64 v_0.Stamp.N, bI .i64 v_0.Stamp.Site, .g (.d (.sl 3 (List.map encApi_Dep v_0.Past)))])), (1002, some (.blk 26 [bS ByteArray.empty, bS ByteArray.empty, bB false, bI .i64 0, bI .i64 0, .g (.d (.sl 3 (List.map encApi_Dep ([] : (List Api_Dep)))))]))]) ⟨rfl, rfl, rfl, rfl, trivial⟩ ⟨rfl, rfl, trivial⟩ rfl ?_
      refine G.loopF (fun (v5 : (List Api_Dep) × Int) => ⟨[(1, .one (.ptr 1001 0)), (2, .one (.ptr 1002 0)), (3, .one (.g (.d (.sl 3 (List.map encApi_Dep v5.1))))), (4, .one (bI .i64 v5.2))], [(1001, some (.blk 26 [bS y1, bS y2, bB v_0.Gone, bI .i64 v_0.Stamp.N, bI .i64 v_0.Stamp.Site, .g (.d (.sl 3 (List.map encApi_Dep v_0.Past)))])), (1002, some (.blk 26 [bS ByteArray.empty, bS ByteArray.empty, bB false, bI .i64 0, bI .i64 0, .g (.d (.sl 3 (List.map encApi_Dep ([] : (List Api_Dep)))))]))]⟩) hF rfl (fun K8 again7 v5 J6 hF => ?_)
      unfold law06_few_l4 at hF
      refine G.seq ?_
      refine G.seq ?_
      refine G.joinC (T := Bool) (fun y9 => ⟨[(1, .one (.ptr 1001 0)), (2, .one (.ptr 1002 0)), (3, .one (.g (.d (.sl 3 (List.map encApi_Dep v5.1))))), (4, .one (bI .i64 v5.2)), (30, .one (bB y9))], [(1001, some (.blk 26 [bS y1, bS y2, bB v_0.Gone, bI .i64 v_0.Stamp.N, bI .i64 v_0.Stamp.Site, .g (.d (.sl 3 (List.map encApi_Dep v_0.Past)))])), (1002, some (.blk 26 [bS ByteArray.empty, bS ByteArray.empty, bB false, bI .i64 0, bI .i64 0, .g (.d (.sl 3 (List.map encApi_Dep ([] : (List Api_Dep)))))]))]⟩) (fun y9 => law06_few_k5 v_0 y1 y2 again7 v5 y9 = some r) (fun y9 hF => ?_) (fun J17 => ?_)
      · unfold law06_few_k5 at hF
        refine ifS hF (fun hc10 hF => ?_) (fun hc10 hF => ?_)
        · refine G.cond rfl (fun _ => ?_) (fun hx => by rw [hc10] at hx; cases hx)
          refine G.skip ?_
          refine G.seq ?_
          refine G.block ?_
          refine G.seq ?_
          refine G.region ?_
          refine G.op1 (op_fieldP (off' := 5) Try.underlying26 rfl ti24 (by decide) rfl (Ev.t 1 (.ptr 1001 0)) rfl) rfl ⟨rfl, trivial⟩ trivial ?_
          refine G.op1 (op_load1P (c := .g (.d (.sl 3 (List.map encApi_Dep v_0.Past)))) Try.underlying24 rfl rfl (Ev.t 33 (.ptr 1001 5)) rfl) rfl ⟨rfl, trivial⟩ ⟨rfl, trivial⟩ ?_
          refine G.op1 (op_move (Ev.t 4 (bI .i64 v5.2)) rfl) rfl ⟨rfl, trivial⟩ trivial ?_
          obtain ⟨x11, hx11, hF⟩ := bindS hF
          refine G.op1 (op_index (cs := [.v (.string x11.Key), .v (.int .i64 x11.Stamp.N), .v (.int .i64 x11.Stamp.Site)]) Try.underlying24 ti52 (idx_ok hx11).1 (idx_get hx11 encApi_Dep) (Ev.t 34 (.g (.d (.sl 3 (List.map encApi_Dep v_0.Past))))) (Ev.t 35 (bI .i64 v5.2)) rfl) rfl ⟨rfl, rfl, trivial⟩ trivial ?_
          refine G.op1 (op_loadAE (ds := [.v (.string x11.Key), .v (.int .i64 x11.Stamp.N), .v (.int .i64 x11.Stamp.Site)]) Try.underlying52 rfl ti52 rfl (Ev.t 36 (.ep [.v (.string x11.Key), .v (.int .i64 x11.Stamp.N), .v (.int .i64 x11.Stamp.Site)])) rfl) rfl ⟨rfl, trivial⟩ trivial ?_
          refine G.op2 (op_alloc (k := 1005) (cs := [bS ByteArray.empty, bI .i64 0, bI .i64 0]) ti52 ⟨.v _ rfl, .v _ rfl, .v _ rfl, trivial⟩ rfl) rfl trivial ⟨rfl, trivial⟩ ?_
          refine G.op3 (op_storeA (cs' := [bS x11.Key, bI .i64 x11.Stamp.N, bI .i64 x11.Stamp.Site]) ti52 rfl rfl (Ev.t 5 (.ptr 1005 0)) (Ev.t 37 (.g (.agg [.v (.string x11.Key), .v (.int .i64 x11.Stamp.N), .v (.int .i64 x11.Stamp.Site)])))) rfl ⟨rfl, rfl, trivial⟩ ⟨rfl, trivial⟩ ?_
          refine G.endOps ?_
          refine G.seq ?_
          refine G.seq ?_
          refine G.region ?_
          refine G.op1 (op_fieldP (off' := 0) Try.underlying52 rfl ti9 (by decide) rfl (Ev.t 5 (.ptr 1005 0)) rfl) rfl ⟨rfl, trivial⟩ trivial ?_
          refine G.op1 (op_load1P (c := bS x11.Key) Try.underlying9 rfl rfl (Ev.t 38 (.ptr 1005 0)) rfl) rfl ⟨rfl, trivial⟩ ⟨rfl, trivial⟩ ?_
          refine G.op1 (op_lenS Try.underlying9 (Ev.t 39 (bS x11.Key)) rfl) rfl ⟨rfl, trivial⟩ trivial ?_
          refine G.op1 (op_gtr (Ev.t 40 (bI .i64 (x11.Key.size : Int))) (Ev.c _ rfl) rfl) rfl ⟨rfl, trivial⟩ trivial ?_
          refine G.endOps ?_
          refine G.joinC (T := ByteArray) (fun y12 => ⟨[(1, .one (.ptr 1001 0)), (2, .one (.ptr 1002 0)), (3, .one (.g (.d (.sl 3 (List.map encApi_Dep v5.1))))), (4, .one (bI .i64 v5.2)), (5, .one (.ptr 1005 0))], [(1001, some (.blk 26 [bS y1, bS y2, bB v_0.Gone, bI .i64 v_0.Stamp.N, bI .i64 v_0.Stamp.Site, .g (.d (.sl 3 (List.map encApi_Dep v_0.Past)))])), (1002, some (.blk 26 [bS ByteArray.empty, bS ByteArray.empty, bB false, bI .i64 0, bI .i64 0, .g (.d (.sl 3 (List.map encApi_Dep ([] : (List Api_Dep)))))])), (1005, some (.blk 52 [bS y12, bI .i64 x11.Stamp.N, bI .i64 x11.Stamp.Site]))]⟩) (fun y12 => law06_few_k6 again7 v5 x11 y12 = some r) (fun y12 hF => ?_) (fun J14 => ?_)
          · unfold law06_few_k6 at hF
            refine G.region ?_
            refine G.op1 (op_move (Ev.t 3 (.g (.d (.sl 3 (List.map encApi_Dep v5.1))))) rfl) rfl ⟨rfl, trivial⟩ trivial ?_
            refine G.op1 (op_loadAP (ds := [.v (.string y12), .v (.int .i64 x11.Stamp.N), .v (.int .i64 x11.Stamp.Site)]) Try.underlying52 rfl ti52 rfl (Ev.t 5 (.ptr 1005 0)) rfl) rfl ⟨rfl, trivial⟩ ⟨rfl, trivial⟩ ?_
            obtain ⟨r13, hr13, hF⟩ := bindS hF
            refine G.op1 (op_call (sv := .one (.g (.d (.sl 3 (List.map encApi_Dep r13))))) cf24 (ct_ref04_Add v5.1 (Api_Dep.mk y12 x11.Stamp) r13 hr13) rfl (EvL.cons (Ev.t 46 (.g (.d (.sl 3 (List.map encApi_Dep v5.1))))) (EvL.cons (Ev.t 47 (.g (.agg [.v (.string y12), .v (.int .i64 x11.Stamp.N), .v (.int .i64 x11.Stamp.Site)]))) EvL.nil)) rfl) rfl ⟨rfl, rfl, trivial⟩ trivial ?_
            refine G.op1 (op_assign (Ev.t 48 (.g (.d (.sl 3 (List.map encApi_Dep r13))))) rfl) rfl ⟨rfl, trivial⟩ trivial ?_
            refine G.endOps ?_
            refine G.endBlock ?_
            refine G.region ?_
            refine G.op1 (op_move (Ev.t 4 (bI .i64 v5.2)) rfl) rfl ⟨rfl, trivial⟩ trivial ?_
            refine G.op1 (op_add (Ev.t 31 (bI .i64 v5.2)) (Ev.c _ rfl) rfl) rfl ⟨rfl, trivial⟩ trivial ?_
            refine G.op1 (op_assign (Ev.t 32 (bI .i64 (IntKind.wrap .i64 (v5.2 + 1)))) rfl) rfl ⟨rfl, trivial⟩ trivial ?_
            refine G.endOps ?_
            exact G.arr (J6 (r13, IntKind.wrap .i64 (v5.2 + 1)) hF) ⟨rfl, rfl, rfl, rfl, trivial⟩ ⟨rfl, rfl, trivial⟩ rfl
          refine ifS hF (fun hc15 hF => ?_) (fun hc15 hF => ?_)
          · refine G.cond rfl (fun _ => ?_) (fun hx => by rw [hc15] at hx; cases hx)
            refine G.region ?_
            refine G.op1 (op_fieldP (off' := 0) Try.underlying52 rfl ti9 (by decide) rfl (Ev.t 5 (.ptr 1005 0)) rfl) rfl ⟨rfl, trivial⟩ trivial ?_
            refine G.op1 (op_load1P (c := bS x11.Key) Try.underlying9 rfl rfl (Ev.t 42 (.ptr 1005 0)) rfl) rfl ⟨rfl, trivial⟩ ⟨rfl, trivial⟩ ?_
            obtain ⟨s16, hs16, hF⟩ := bindS hF
            refine G.op1 (OpL.cast (op_sliceS (lo := none) (hi := some 12) Try.underlying9 (ssub_ok hs16).1 (ssub_ok hs16).2.1 (ssub_ok hs16).2.2.1 (Ev.t 43 (bS x11.Key)) EvO.none (EvO.some (Ev.c _ rfl)) rfl) (congrArg (fun s => bS s) (ssub_ok hs16).2.2.2)) rfl ⟨rfl, trivial⟩ trivial ?_
            refine G.op1 (op_fieldP (off' := 0) Try.underlying52 rfl ti9 (by decide) rfl (Ev.t 5 (.ptr 1005 0)) rfl) rfl ⟨rfl, trivial⟩ trivial ?_
            refine G.op3 (op_store1 (cs' := [bS s16, bI .i64 x11.Stamp.N, bI .i64 x11.Stamp.Site]) (c := bS s16) trivial ti9 rfl rfl (Ev.t 45 (.ptr 1005 0)) (Ev.t 44 (bS s16))) rfl ⟨rfl, rfl, trivial⟩ ⟨rfl, trivial⟩ ?_
            refine G.endOps ?_
            exact G.arr (J14 s16 hF) ⟨rfl, rfl, rfl, rfl, rfl, trivial⟩ ⟨rfl, rfl, rfl, trivial⟩ rfl
          · refine G.cond rfl (fun hx => by rw [hc15] at hx; cases hx) (fun _ => ?_)
            refine G.skip ?_
            exact G.arr (J14 x11.Key hF) ⟨rfl, rfl, rfl, rfl, rfl, trivial⟩ ⟨rfl, rfl, rfl, trivial⟩ rfl
        · refine G.cond rfl (fun hx => by rw [hc10] at hx; cases hx) (fun _ => ?_)
          refine G.exit ?_
          refine GX.c ?_
          refine GX.q ?_
          refine GX.bYes ?_
          exact G.arr (J4 v5.1 hF) ⟨rfl, rfl, rfl, trivial⟩ ⟨rfl, rfl, trivial⟩ rfl
      refine G.region ?_
      refine G.op1 (op_move (Ev.t 4 (bI .i64 v5.2)) rfl) rfl ⟨rfl, trivial⟩ trivial ?_
      refine G.op1 (op_fieldP (off' := 5) Try.underlying26 rfl ti24 (by decide) rfl (Ev.t 1 (.ptr 1001 0)) rfl) rfl ⟨rfl, trivial⟩ trivial ?_
      refine G.op1 (op_load1P (c := .g (.d (.sl 3 (List.map encApi_Dep v_0.Past)))) Try.underlying24 rfl rfl (Ev.t 23 (.ptr 1001 5)) rfl) rfl ⟨rfl, trivial⟩ ⟨rfl, trivial⟩ ?_
      refine G.op1 (OpL.cast (op_lenD Try.underlying24 (Ev.t 24 (.g (.d (.sl 3 (List.map encApi_Dep v_0.Past))))) rfl) (by rw [List.length_map])) rfl ⟨rfl, trivial⟩ trivial ?_
      refine G.op1 (op_lss (Ev.t 22 (bI .i64 v5.2)) (Ev.t 25 (bI .i64 (v_0.Past.length : Int))) rfl) rfl ⟨rfl, rfl, trivial⟩ trivial ?_
      refine G.op1 (op_move (Ev.t 26 (bB (decide (v5.2 < (v_0.Past.length : Int))))) rfl) rfl ⟨rfl, trivial⟩ trivial ?_
      refine ifS hF (fun hc18 hF => ?_) (fun hc18 hF => ?_)
      · refine G.known (t := 27) hc18 rfl ?_
        refine G.opG1 (op_move (Ev.t 4 (bI .i64 v5.2)) rfl) rfl rfl rfl ⟨rfl, trivial⟩ trivial ?_
        refine G.opG1 (op_lss (Ev.t 28 (bI .i64 v5.2)) (Ev.c _ rfl) rfl) rfl rfl rfl ⟨rfl, trivial⟩ trivial ?_
        refine G.op1 (op_pickT (Ev.t 27 (bB true)) (Ev.t 29 (bB (decide (v5.2 < 8)))) rfl) rfl ⟨rfl, rfl, trivial⟩ trivial ?_
        refine G.endOps ?_
        exact G.arr (J17 (decide (v5.2 < 8)) hF) ⟨rfl, rfl, rfl, rfl, rfl, trivial⟩ ⟨rfl, rfl, trivial⟩ rfl
      · refine G.known (t := 27) hc18 rfl ?_
        refine G.opN1 rfl rfl rfl rfl rfl ?_
        refine G.opN1 rfl rfl rfl rfl rfl ?_
        refine G.op1 (op_pickF (Ev.t 27 (bB false)) (Ev.c _ rfl) rfl) rfl ⟨rfl, trivial⟩ trivial ?_
        refine G.endOps ?_
        exact G.arr (J17 false hF) ⟨rfl, rfl, rfl, rfl, rfl, trivial⟩ ⟨rfl, rfl, trivial⟩ rfl
    refine ifS hF (fun hc20 hF => ?_) (fun hc20 hF => ?_)
    · refine G.cond rfl (fun _ => ?_) (fun hx => by rw [hc20] at hx; cases hx)
      refine G.region ?_
      refine G.op1 (op_fieldP (off' := 1) Try.underlying26 rfl ti9 (by decide) rfl (Ev.t 1 (.ptr 1001 0)) rfl) rfl ⟨rfl, trivial⟩ trivial ?_
      refine G.op1 (op_load1P (c := bS v_0.Value) Try.underlying9 rfl rfl (Ev.t 18 (.ptr 1001 1)) rfl) rfl ⟨rfl, trivial⟩ ⟨rfl, trivial⟩ ?_
      obtain ⟨s21, hs21, hF⟩ := bindS hF
      refine G.op1 (OpL.cast (op_sliceS (lo := none) (hi := some 40) Try.underlying9 (ssub_ok hs21).1 (ssub_ok hs21).2.1 (ssub_ok hs21).2.2.1 (Ev.t 19 (bS v_0.Value)) EvO.none (EvO.some (Ev.c _ rfl)) rfl) (congrArg (fun s => bS s) (ssub_ok hs21).2.2.2)) rfl ⟨rfl, trivial⟩ trivial ?_
      refine G.op1 (op_fieldP (off' := 1) Try.underlying26 rfl ti9 (by decide) rfl (Ev.t 1 (.ptr 1001 0)) rfl) rfl ⟨rfl, trivial⟩ trivial ?_
      refine G.op3 (op_store1 (cs' := [bS y1, bS s21, bB v_0.Gone, bI .i64 v_0.Stamp.N, bI .i64 v_0.Stamp.Site, .g (.d (.sl 3 (List.map encApi_Dep v_0.Past)))]) (c := bS s21) trivial ti9 rfl rfl (Ev.t 21 (.ptr 1001 1)) (Ev.t 20 (bS s21))) rfl ⟨rfl, rfl, trivial⟩ ⟨rfl, trivial⟩ ?_
      refine G.endOps ?_
      exact G.arr (J19 s21 hF) ⟨rfl, rfl, trivial⟩ ⟨rfl, rfl, trivial⟩ rfl
    · refine G.cond rfl (fun hx => by rw [hc20] at hx; cases hx) (fun _ => ?_)
      refine G.skip ?_
      exact G.arr (J19 v_0.Value hF) ⟨rfl, rfl, trivial⟩ ⟨rfl, rfl, trivial⟩ rfl
  refine ifS hF (fun hc23 hF => ?_) (fun hc23 hF => ?_)
  · refine G.cond rfl (fun _ => ?_) (fun hx => by rw [hc23] at hx; cases hx)
    refine G.region ?_
    refine G.op1 (op_fieldP (off' := 0) Try.underlying26 rfl ti9 (by decide) rfl (Ev.t 1 (.ptr 1001 0)) rfl) rfl ⟨rfl, trivial⟩ trivial ?_
    refine G.op1 (op_load1P (c := bS v_0.Key) Try.underlying9 rfl rfl (Ev.t 10 (.ptr 1001 0)) rfl) rfl ⟨rfl, trivial⟩ ⟨rfl, trivial⟩ ?_
    obtain ⟨s24, hs24, hF⟩ := bindS hF
    refine G.op1 (OpL.cast (op_sliceS (lo := none) (hi := some 40) Try.underlying9 (ssub_ok hs24).1 (ssub_ok hs24).2.1 (ssub_ok hs24).2.2.1 (Ev.t 11 (bS v_0.Key)) EvO.none (EvO.some (Ev.c _ rfl)) rfl) (congrArg (fun s => bS s) (ssub_ok hs24).2.2.2)) rfl ⟨rfl, trivial⟩ trivial ?_
    refine G.op1 (op_fieldP (off' := 0) Try.underlying26 rfl ti9 (by decide) rfl (Ev.t 1 (.ptr 1001 0)) rfl) rfl ⟨rfl, trivial⟩ trivial ?_
    refine G.op3 (op_store1 (cs' := [bS s24, bS v_0.Value, bB v_0.Gone, bI .i64 v_0.Stamp.N, bI .i64 v_0.Stamp.Site, .g (.d (.sl 3 (List.map encApi_Dep v_0.Past)))]) (c := bS s24) trivial ti9 rfl rfl (Ev.t 13 (.ptr 1001 0)) (Ev.t 12 (bS s24))) rfl ⟨rfl, rfl, trivial⟩ ⟨rfl, trivial⟩ ?_
    refine G.endOps ?_
    exact G.arr (J22 s24 hF) ⟨rfl, rfl, trivial⟩ ⟨rfl, rfl, trivial⟩ rfl
  · refine G.cond rfl (fun hx => by rw [hc23] at hx; cases hx) (fun _ => ?_)
    refine G.skip ?_
    exact G.arr (J22 v_0.Key hF) ⟨rfl, rfl, trivial⟩ ⟨rfl, rfl, trivial⟩ rfl


set_option maxRecDepth 20000 in
set_option maxHeartbeats 2000000 in
theorem ct_ref04_Check (p_0 : (List Api_Dep)) (r : Bool) (hF : ref04_Check p_0 = some r) : Ct Try.prog 30 [.g (.d (.sl 3 (List.map encApi_Dep p_0)))] (.one (.d (.v (.bool r)))) := by
  unfold ref04_Check at hF
  refine Ct.intro Try.func30 rfl Try.ntmps30 rfl rfl fun M w => ?_
  refine G.seq ?_
  refine G.region ?_
  refine G.op1 (op_assign (Ev.c _ rfl) rfl) rfl trivial trivial ?_
  refine G.endOps ?_
  refine G.seq ?_
  refine G.seq ?_
  refine G.region ?_
  refine G.op1 (op_assign (Ev.c _ rfl) rfl) rfl trivial trivial ?_
  refine G.endOps ?_
  refine G.joinC (T := Unit) (fun y1 => ⟨[(0, .one (.g (.d (.sl 3 (List.map encApi_Dep p_0)))))], []⟩) (fun y1 => ref04_Check_k1 p_0 y1 = some r) (fun y1 hF => ?_) (fun J2 => ?_)
  · unfold ref04_Check_k1 at hF
    refine G.seq ?_
    refine G.region ?_
    refine G.op1 (op_move (Ev.t 0 (.g (.d (.sl 3 (List.map encApi_Dep p_0))))) rfl) rfl ⟨rfl, trivial⟩ trivial ?_
    refine G.op1 (OpL.cast (op_lenD Try.underlying24 (Ev.t 48 (.g (.d (.sl 3 (List.map encApi_Dep p_0))))) rfl) (by rw [List.length_map])) rfl ⟨rfl, trivial⟩ trivial ?_
    refine G.op1 (op_leq (Ev.t 49 (bI .i64 (p_0.length : Int))) (Ev.c _ rfl) rfl) rfl ⟨rfl, trivial⟩ trivial ?_
    refine G.op1 (op_assign (Ev.t 50 (bB (decide ((p_0.length : Int) ≤ 24)))) rfl) rfl ⟨rfl, trivial⟩ trivial ?_
    refine G.endOps ?_
    cases hF
    exact G.ret1 Try.results30 (RVar.tmp 2 _) ⟨rfl, trivial⟩ trivial
  refine G.block ?_
  refine G.keep (sl' := [(0, .one (.g (.d (.sl 3 (List.map encApi_Dep p_0))))), (3, .one (bI .i64 0))]) (hp' := []) ⟨rfl, rfl, trivial⟩ trivial rfl ?_
  refine G.loopF (fun (v3 : Int) => ⟨[(0, .one (.g (.d (.sl 3 (List.map encApi_Dep p_0))))), (3, .one (bI .i64 v3))], []⟩) hF rfl (fun K6 again5 v3 J4 hF => ?_)
  unfold ref04_Check_l2 at hF
  refine G.seq ?_
  refine G.seq ?_
  refine G.region ?_
  refine G.op1 (op_move (Ev.t 3 (bI .i64 v3)) rfl) rfl ⟨rfl, trivial⟩ trivial ?_
  refine G.op1 (op_move (Ev.t 0 (.g (.d (.sl 3 (List.map encApi_Dep p_0))))) rfl) rfl ⟨rfl, trivial⟩ trivial ?_
  refine G.op1 (OpL.cast (op_lenD Try.underlying24 (Ev.t 7 (.g (.d (.sl 3 (List.map encApi_Dep p_0))))) rfl) (by rw [List.length_map])) rfl ⟨rfl, trivial⟩ trivial ?_
  refine G.op1 (op_lss (Ev.t 6 (bI .i64 v3)) (Ev.t 8 (bI .i64 (p_0.length : Int))) rfl) rfl ⟨rfl, rfl, trivial⟩ trivial ?_
  refine G.endOps ?_
  refine ifS hF (fun hc7 hF => ?_) (fun hc7 hF => ?_)
  · refine G.cond rfl (fun _ => ?_) (fun hx => by rw [hc7] at hx; cases hx)
    refine G.skip ?_
    refine G.seq ?_
    refine G.block ?_
    refine G.seq ?_
    refine G.region ?_
    refine G.op1 (op_move (Ev.t 0 (.g (.d (.sl 3 (List.map encApi_Dep p_0))))) rfl) rfl ⟨rfl, trivial⟩ trivial ?_
    refine G.op1 (op_move (Ev.t 3 (bI .i64 v3)) rfl) rfl ⟨rfl, trivial⟩ trivial ?_
    obtain ⟨x8, hx8, hF⟩ := bindS hF
    refine G.op1 (op_index (cs := [.v (.string x8.Key), .v (.int .i64 x8.Stamp.N), .v (.int .i64 x8.Stamp.Site)]) Try.underlying24 ti52 (idx_ok hx8).1 (idx_get hx8 encApi_Dep) (Ev.t 12 (.g (.d (.sl 3 (List.map encApi_Dep p_0))))) (Ev.t 13 (bI .i64 v3)) rfl) rfl ⟨rfl, rfl, trivial⟩ trivial ?_
    refine G.op1 (op_fieldE (cs' := [.v (.string x8.Key), .v (.int .i64 x8.Stamp.N), .v (.int .i64 x8.Stamp.Site)]) Try.underlying52 rfl ti9 (by decide) rfl (Ev.t 14 (.ep [.v (.string x8.Key), .v (.int .i64 x8.Stamp.N), .v (.int .i64 x8.Stamp.Site)])) rfl) rfl ⟨rfl, trivial⟩ trivial ?_
    refine G.op1 (op_load1E (c := .v (.string x8.Key)) Try.underlying9 rfl rfl (Ev.t 15 (.ep [.v (.string x8.Key), .v (.int .i64 x8.Stamp.N), .v (.int .i64 x8.Stamp.Site)])) rfl) rfl ⟨rfl, trivial⟩ trivial ?_
    obtain ⟨r9, hr9, hF⟩ := bindS hF
    refine G.op1 (op_callQ (sv := .one (bB r9)) cf28 (ct_ref02_Check x8.Key r9 hr9) rfl rfl (EvQL.cons (EvQ.g (Ev.t 16 (bS x8.Key))) EvQL.nil) rfl) rfl ⟨rfl, trivial⟩ trivial ?_
    refine G.op1 (op_assign (Ev.t 17 (bB r9)) rfl) rfl ⟨rfl, trivial⟩ trivial ?_
    refine G.endOps ?_
    refine G.seq ?_
    refine G.region ?_
    refine G.op1 (op_move (Ev.t 0 (.g (.d (.sl 3 (List.map encApi_Dep p_0))))) rfl) rfl ⟨rfl, trivial⟩ trivial ?_
    refine G.op1 (op_move (Ev.t 3 (bI .i64 v3)) rfl) rfl ⟨rfl, trivial⟩ trivial ?_
    obtain ⟨x10, hx10, hF⟩ := bindS hF
    refine G.op1 (op_index (cs := [.v (.string x10.Key), .v (.int .i64 x10.Stamp.N), .v (.int .i64 x10.Stamp.Site)]) Try.underlying24 ti52 (idx_ok hx10).1 (idx_get hx10 encApi_Dep) (Ev.t 18 (.g (.d (.sl 3 (List.map encApi_Dep p_0))))) (Ev.t 19 (bI .i64 v3)) rfl) rfl ⟨rfl, rfl, trivial⟩ trivial ?_
    refine G.op1 (op_fieldE (cs' := [.v (.int .i64 x10.Stamp.N), .v (.int .i64 x10.Stamp.Site)]) Try.underlying52 rfl ti23 (by decide) rfl (Ev.t 20 (.ep [.v (.string x10.Key), .v (.int .i64 x10.Stamp.N), .v (.int .i64 x10.Stamp.Site)])) rfl) rfl ⟨rfl, trivial⟩ trivial ?_
    refine G.op1 (op_loadAE (ds := [.v (.int .i64 x10.Stamp.N), .v (.int .i64 x10.Stamp.Site)]) Try.underlying23 rfl ti23 rfl (Ev.t 21 (.ep [.v (.int .i64 x10.Stamp.N), .v (.int .i64 x10.Stamp.Site)])) rfl) rfl ⟨rfl, trivial⟩ trivial ?_
    obtain ⟨r11, hr11, hF⟩ := bindS hF
    refine G.op1 (op_callQ (sv := .one (bB r11)) cf29 (ct_ref03_Check x10.Stamp r11 hr11) rfl rfl (EvQL.cons (EvQ.g (Ev.t 22 (.g (.agg [.v (.int .i64 x10.Stamp.N), .v (.int .i64 x10.Stamp.Site)])))) EvQL.nil) rfl) rfl ⟨rfl, trivial⟩ trivial ?_
    refine G.op1 (op_assign (Ev.t 23 (bB r11)) rfl) rfl ⟨rfl, trivial⟩ trivial ?_
    refine G.endOps ?_
    refine G.seq ?_
    refine ifS hF (fun hc12 hF => ?_) (fun hc12 hF => ?_)
    · refine G.drawn (effs := (⟨[(4, .one (bB r9))], [], [(24, .one (bB r9))], []⟩ :: ⟨[(24, .one (bB r9))], [], [(25, .one (bB true))], []⟩ :: ⟨[(25, .one (bB true))], [], [(26, .one (bB true))], []⟩ :: ⟨[(26, .one (bB true))], [], [(27, .one (.x Go.undef))], []⟩ :: ⟨[(26, .one (bB true))], [], [(28, .one (.x Go.undef))], []⟩ :: ⟨[(26, .one (bB true))], [], [(29, .one (bB true))], []⟩ :: ⟨[(29, .one (bB true))], [], [(30, .one (bB true))], []⟩ :: ⟨[(30, .one (bB true))], [], [(31, .one (.x Go.undef))], []⟩ :: ⟨[(30, .one (bB true))], [], [(32, .one (.x Go.undef))], []⟩ :: ⟨[(30, .one (bB true))], [], [(33, .one (.x Go.undef))], []⟩ :: ⟨[(33, .one (.x Go.undef))], [], [(34, .one (.x Go.undef))], []⟩ :: ⟨[(33, .one (.x Go.undef))], [], [(35, .one (.x Go.undef))], []⟩ :: ⟨[(33, .one (.x Go.undef))], [], [(36, .one (.x Go.undef))], []⟩ :: ⟨[(33, .one (.x Go.undef))], [], [(37, .one (.x Go.undef))], []⟩ :: ⟨[(33, .one (.x Go.undef))], [], [(38, .one (.x Go.undef))], []⟩ :: ⟨[(33, .one (.x Go.undef))], [], [(39, .one (.x Go.undef))], []⟩ :: ⟨[(33, .one (.x Go.undef))], [], [(40, .one (.x Go.undef))], []⟩ :: ⟨[(33, .one (.x Go.undef))], [], [(41, .one (.x Go.undef))], []⟩ :: ⟨[(33, .one (.x Go.undef))], [], [(42, .one (.x Go.undef))], []⟩ :: ⟨[(33, .one (.x Go.undef))], [], [(43, .one (.x Go.undef))], []⟩ :: ⟨[(33, .one (.x Go.undef))], [], [(44, .one (.x Go.undef))], []⟩ :: ⟨[(33, .one (.x Go.undef))], [], [(45, .one (.x Go.undef))], []⟩ :: ⟨[(30, .one (bB true))], [], [(46, .one (.x Go.undef))], []⟩ :: ⟨[(30, .one (bB true))], [], [(47, .one (bB true))], []⟩ :: [])) (deps := ([] :: [0] :: [0, 1] :: [0, 1, 2] :: [0, 1, 2, 3] :: [0, 1, 2, 3, 4] :: [0, 1, 2, 3, 4, 5] :: [0, 1, 2, 3, 4, 5, 6] :: [0, 1, 2, 3, 4, 5, 6, 7] :: [0, 1, 2, 3, 4, 5, 6, 7, 8] :: [0, 1, 2, 3, 4, 5, 6, 7, 8, 9] :: [0, 1, 2, 3, 4, 5, 6, 7, 8, 9] :: [0, 1, 2, 3, 4, 5, 6, 7, 8, 9, 11] :: [0, 1, 2, 3, 4, 5, 6, 7, 8, 9, 10, 11, 12] :: [0, 1, 2, 3, 4, 5, 6, 7, 8, 9, 10, 11, 12, 13] :: [0, 1, 2, 3, 4, 5, 6, 7, 8, 9, 10, 11, 12, 13, 14] :: [0, 1, 2, 3, 4, 5, 6, 7, 8, 9] :: [0, 1, 2, 3, 4, 5, 6, 7, 8, 9] :: [0, 1, 2, 3, 4, 5, 6, 7, 8, 9, 16, 17] :: [0, 1, 2, 3, 4, 5, 6, 7, 8, 9, 16, 17, 18] :: [0, 1, 2, 3, 4, 5, 6, 7, 8, 9, 16, 17, 18, 19] :: (0 :: 1 :: 2 :: 3 :: 4 :: 5 :: 6 :: 7 :: 8 :: 9 :: 10 :: 11 :: 12 :: 13 :: 14 :: 15 :: 16 :: 17 :: 18 :: 19 :: 20 :: []) :: (0 :: 1 :: 2 :: 3 :: 4 :: 5 :: 6 :: 7 :: 8 :: 9 :: 10 :: 11 :: 12 :: 13 :: 14 :: 15 :: 16 :: 17 :: 18 :: 19 :: 20 :: 21 :: []) :: (0 :: 1 :: 2 :: 3 :: 4 :: 5 :: 6 :: 7 :: 8 :: 9 :: 10 :: 11 :: 12 :: 13 :: 14 :: 15 :: 16 :: 17 :: 18 :: 19 :: 20 :: 21 :: 22 :: []) :: [])) (sl' := [(0, .one (.g (.d (.sl 3 (List.map encApi_Dep p_0))))), (3, .one (bI .i64 v3)), (47, .one (bB true))]) (hp' := []) follows rfl rfl rfl ⟨⟨rfl, trivial⟩, trivial, ⟨rfl, trivial⟩, trivial, ⟨rfl, trivial⟩, trivial, ⟨rfl, trivial⟩, trivial, ⟨rfl, trivial⟩, trivial, ⟨rfl, trivial⟩, trivial, ⟨rfl, trivial⟩, trivial, ⟨rfl, trivial⟩, trivial, ⟨rfl, trivial⟩, trivial, ⟨rfl, trivial⟩, trivial, ⟨rfl, trivial⟩, trivial, ⟨rfl, trivial⟩, trivial, ⟨rfl, trivial⟩, trivial, ⟨rfl, trivial⟩, trivial, ⟨rfl, trivial⟩, trivial, ⟨rfl, trivial⟩, trivial, ⟨rfl, trivial⟩, trivial, ⟨rfl, trivial⟩, trivial, ⟨rfl, trivial⟩, trivial, ⟨rfl, trivial⟩, trivial, ⟨rfl, trivial⟩, trivial, ⟨rfl, trivial⟩, trivial, ⟨rfl, trivial⟩, trivial, ⟨rfl, trivial⟩, trivial, trivial⟩ ⟨OpW.plain (op_move (Ev.t 4 (bB r9)) rfl) rfl rfl, OpW.plain (OpL.cast (op_not (Ev.t 24 (bB r9)) rfl) (congrArg (fun b => bB b) hc12)) rfl rfl, OpW.plain (op_move (Ev.t 25 (bB true)) rfl) rfl rfl, OpW.no rfl rfl rfl rfl rfl, OpW.no rfl rfl rfl rfl rfl, OpW.plain (op_pickT (Ev.t 26 (bB true)) (Ev.c _ rfl) rfl) rfl rfl, OpW.plain (op_move (Ev.t 29 (bB true)) rfl) rfl rfl, OpW.no rfl rfl rfl rfl rfl, OpW.no rfl rfl rfl rfl rfl, OpW.no rfl rfl rfl rfl rfl, OpW.un rfl rfl rfl rfl, OpW.un rfl rfl rfl rfl, OpW.un rfl rfl rfl rfl, OpW.un rfl rfl rfl rfl, OpW.un rfl rfl rfl rfl, OpW.un rfl rfl rfl rfl, OpW.un rfl rfl rfl rfl, OpW.un rfl rfl rfl rfl, OpW.un rfl rfl rfl rfl, OpW.un rfl rfl rfl rfl, OpW.un rfl rfl rfl rfl, OpW.un rfl rfl rfl rfl, OpW.no rfl rfl rfl rfl rfl, OpW.plain (op_pickT (Ev.t 30 (bB true)) (Ev.c _ rfl) rfl) rfl rfl, trivial⟩ ⟨rfl, rfl, rfl, trivial⟩ trivial rfl ?_
      refine G.condT rfl ?_
      refine G.seq ?_
      refine G.region ?_
      refine G.op1 (op_assign (Ev.c _ rfl) rfl) rfl trivial trivial ?_
      refine G.endOps ?_
      cases hF
      exact G.ret1 Try.results30 (RVar.tmp 2 _) ⟨rfl, trivial⟩ trivial
    · refine ifS hF (fun hc13 hF => ?_) (fun hc13 hF => ?_)
      · refine G.drawn (effs := (⟨[(4, .one (bB r9))], [], [(24, .one (bB r9))], []⟩ :: ⟨[(24, .one (bB r9))], [], [(25, .one (bB false))], []⟩ :: ⟨[(25, .one (bB false))], [], [(26, .one (bB false))], []⟩ :: ⟨[(26, .one (bB false)), (5, .one (bB r11))], [], [(27, .one (bB r11))], []⟩ :: ⟨[(26, .one (bB false)), (27, .one (bB r11))], [], [(28, .one (bB true))], []⟩ :: ⟨[(26, .one (bB false)), (28, .one (bB true))], [], [(29, .one (bB true))], []⟩ :: ⟨[(29, .one (bB true))], [], [(30, .one (bB true))], []⟩ :: ⟨[(30, .one (bB true))], [], [(31, .one (.x Go.undef))], []⟩ :: ⟨[(30, .one (bB true))], [], [(32, .one (.x Go.undef))], []⟩ :: ⟨[(30, .one (bB true))], [], [(33, .one (.x Go.undef))], []⟩ :: ⟨[(33, .one (.x Go.undef))], [], [(34, .one (.x Go.undef))], []⟩ :: ⟨[(33, .one (.x Go.undef))], [], [(35, .one (.x Go.undef))], []⟩ :: ⟨[(33, .one (.x Go.undef))], [], [(36, .one (.x Go.undef))], []⟩ :: ⟨[(33, .one (.x Go.undef))], [], [(37, .one (.x Go.undef))], []⟩ :: ⟨[(33, .one (.x Go.undef))], [], [(38, .one (.x Go.undef))], []⟩ :: ⟨[(33, .one (.x Go.undef))], [], [(39, .one (.x Go.undef))], []⟩ :: ⟨[(33, .one (.x Go.undef))], [], [(40, .one (.x Go.undef))], []⟩ :: ⟨[(33, .one (.x Go.undef))], [], [(41, .one (.x Go.undef))], []⟩ :: ⟨[(33, .one (.x Go.undef))], [], [(42, .one (.x Go.undef))], []⟩ :: ⟨[(33, .one (.x Go.undef))], [], [(43, .one (.x Go.undef))], []⟩ :: ⟨[(33, .one (.x Go.undef))], [], [(44, .one (.x Go.undef))], []⟩ :: ⟨[(33, .one (.x Go.undef))], [], [(45, .one (.x Go.undef))], []⟩ :: ⟨[(30, .one (bB true))], [], [(46, .one (.x Go.undef))], []⟩ :: ⟨[(30, .one (bB true))], [], [(47, .one (bB true))], []⟩ :: [])) (deps := ([] :: [0] :: [0, 1] :: [0, 1, 2] :: [0, 1, 2, 3] :: [0, 1, 2, 3, 4] :: [0, 1, 2, 3, 4, 5] :: [0, 1, 2, 3, 4, 5, 6] :: [0, 1, 2, 3, 4, 5, 6, 7] :: [0, 1, 2, 3, 4, 5, 6, 7, 8] :: [0, 1, 2, 3, 4, 5, 6, 7, 8, 9] :: [0, 1, 2, 3, 4, 5, 6, 7, 8, 9] :: [0, 1, 2, 3, 4, 5, 6, 7, 8, 9, 11] :: [0, 1, 2, 3, 4, 5, 6, 7, 8, 9, 10, 11, 12] :: [0, 1, 2, 3, 4, 5, 6, 7, 8, 9, 10, 11, 12, 13] :: [0, 1, 2, 3, 4, 5, 6, 7, 8, 9, 10, 11, 12, 13, 14] :: [0, 1, 2, 3, 4, 5, 6, 7, 8, 9] :: [0, 1, 2, 3, 4, 5, 6, 7, 8, 9] :: [0, 1, 2, 3, 4, 5, 6, 7, 8, 9, 16, 17] :: [0, 1, 2, 3, 4, 5, 6, 7, 8, 9, 16, 17, 18] :: [0, 1, 2, 3, 4, 5, 6, 7, 8, 9, 16, 17, 18, 19] :: (0 :: 1 :: 2 :: 3 :: 4 :: 5 :: 6 :: 7 :: 8 :: 9 :: 10 :: 11 :: 12 :: 13 :: 14 :: 15 :: 16 :: 17 :: 18 :: 19 :: 20 :: []) :: (0 :: 1 :: 2 :: 3 :: 4 :: 5 :: 6 :: 7 :: 8 :: 9 :: 10 :: 11 :: 12 :: 13 :: 14 :: 15 :: 16 :: 17 :: 18 :: 19 :: 20 :: 21 :: []) :: (0 :: 1 :: 2 :: 3 :: 4 :: 5 :: 6 :: 7 :: 8 :: 9 :: 10 :: 11 :: 12 :: 13 :: 14 :: 15 :: 16 :: 17 :: 18 :: 19 :: 20 :: 21 :: 22 :: []) :: [])) (sl' := [(0, .one (.g (.d (.sl 3 (List.map encApi_Dep p_0))))), (3, .one (bI .i64 v3)), (47, .one (bB true))]) (hp' := []) follows rfl rfl rfl ⟨⟨rfl, trivial⟩, trivial, ⟨rfl, trivial⟩, trivial, ⟨rfl, trivial⟩, trivial, ⟨rfl, rfl, trivial⟩, trivial, ⟨rfl, rfl, trivial⟩, trivial, ⟨rfl, rfl, trivial⟩, trivial, ⟨rfl, trivial⟩, trivial, ⟨rfl, trivial⟩, trivial, ⟨rfl, trivial⟩, trivial, ⟨rfl, trivial⟩, trivial, ⟨rfl, trivial⟩, trivial, ⟨rfl, trivial⟩, trivial, ⟨rfl, trivial⟩, trivial, ⟨rfl, trivial⟩, trivial, ⟨rfl, trivial⟩, trivial, ⟨rfl, trivial⟩, trivial, ⟨rfl, trivial⟩, trivial, ⟨rfl, trivial⟩, trivial, ⟨rfl, trivial⟩, trivial, ⟨rfl, trivial⟩, trivial, ⟨rfl, trivial⟩, trivial, ⟨rfl, trivial⟩, trivial, ⟨rfl, trivial⟩, trivial, ⟨rfl, trivial⟩, trivial, trivial⟩ ⟨OpW.plain (op_move (Ev.t 4 (bB r9)) rfl) rfl rfl, OpW.plain (OpL.cast (op_not (Ev.t 24 (bB r9)) rfl) (congrArg (fun b => bB b) hc12)) rfl rfl, OpW.plain (op_move (Ev.t 25 (bB false)) rfl) rfl rfl, OpW.yes (op_move (Ev.t 5 (bB r11)) rfl) rfl rfl rfl, OpW.yes (OpL.cast (op_not (Ev.t 27 (bB r11)) rfl) (congrArg (fun b => bB b) hc13)) rfl rfl rfl, OpW.plain (op_pickF (Ev.t 26 (bB false)) (Ev.t 28 (bB true)) rfl) rfl rfl, OpW.plain (op_move (Ev.t 29 (bB true)) rfl) rfl rfl, OpW.no rfl rfl rfl rfl rfl, OpW.no rfl rfl rfl rfl rfl, OpW.no rfl rfl rfl rfl rfl, OpW.un rfl rfl rfl rfl, OpW.un rfl rfl rfl rfl, OpW.un rfl rfl rfl rfl, OpW.un rfl rfl rfl rfl, OpW.un rfl rfl rfl rfl, OpW.un rfl rfl rfl rfl, OpW.un rfl rfl rfl rfl, OpW.un rfl rfl rfl rfl, OpW.un rfl rfl rfl rfl, OpW.un rfl rfl rfl rfl, OpW.un rfl rfl rfl rfl, OpW.un rfl rfl rfl rfl, OpW.no rfl rfl rfl rfl rfl, OpW.plain (op_pickT (Ev.t 30 (bB true)) (Ev.c _ rfl) rfl) rfl rfl, trivial⟩ ⟨rfl, rfl, rfl, trivial⟩ trivial rfl ?_
        refine G.condT rfl ?_
        refine G.seq ?_
        refine G.region ?_
        refine G.op1 (op_assign (Ev.c _ rfl) rfl) rfl trivial trivial ?_
        refine G.endOps ?_
        cases hF
        exact G.ret1 Try.results30 (RVar.tmp 2 _) ⟨rfl, trivial⟩ trivial
      · refine ifS hF (fun hc14 hF => ?_) (fun hc14 hF => ?_)
        · obtain ⟨x15, hx15, hF⟩ := bindS hF
          obtain ⟨x16, hx16, hF⟩ := bindS hF
          refine G.drawn (effs := (⟨[(4, .one (bB r9))], [], [(24, .one (bB r9))], []⟩ :: ⟨[(24, .one (bB r9))], [], [(25, .one (bB false))], []⟩ :: ⟨[(25, .one (bB false))], [], [(26, .one (bB false))], []⟩ :: ⟨[(26, .one (bB false)), (5, .one (bB r11))], [], [(27, .one (bB r11))], []⟩ :: ⟨[(26, .one (bB false)), (27, .one (bB r11))], [], [(28, .one (bB false))], []⟩ :: ⟨[(26, .one (bB false)), (28, .one (bB false))], [], [(29, .one (bB false))], []⟩ :: ⟨[(29, .one (bB false))], [], [(30, .one (bB false))], []⟩ :: ⟨[(30, .one (bB false)), (3, .one (bI .i64 v3))], [], [(31, .one (bI .i64 v3))], []⟩ :: ⟨[(30, .one (bB false)), (31, .one (bI .i64 v3))], [], [(32, .one (bB true))], []⟩ :: ⟨[(30, .one (bB false)), (32, .one (bB true))], [], [(33, .one (bB true))], []⟩ :: ⟨[(33, .one (bB true)), (0, .one (.g (.d (.sl 3 (List.map encApi_Dep p_0)))))], [], [(34, .one (.g (.d (.sl 3 (List.map encApi_Dep p_0)))))], []⟩ :: ⟨[(33, .one (bB true)), (3, .one (bI .i64 v3))], [], [(35, .one (bI .i64 v3))], []⟩ :: ⟨[(33, .one (bB true)), (35, .one (bI .i64 v3))], [], [(36, .one (bI .i64 (IntKind.wrap .i64 (v3 - 1))))], []⟩ :: ⟨[(33, .one (bB true)), (34, .one (.g (.d (.sl 3 (List.map encApi_Dep p_0))))), (36, .one (bI .i64 (IntKind.wrap .i64 (v3 - 1))))], [], [(37, .one (.ep [.v (.string x15.Key), .v (.int .i64 x15.Stamp.N), .v (.int .i64 x15.Stamp.Site)]))], []⟩ :: ⟨[(33, .one (bB true)), (37, .one (.ep [.v (.string x15.Key), .v (.int .i64 x15.Stamp.N), .v (.int .i64 x15.Stamp.Site)]))], [], [(38, .one (.ep [.v (.string x15.Key), .v (.int .i64 x15.Stamp.N), .v (.int .i64 x15.Stamp.Site)]))], []⟩ :: ⟨[(33, .one (bB true)), (38, .one (.ep [.v (.string x15.Key), .v (.int .i64 x15.Stamp.N), .v (.int .i64 x15.Stamp.Site)]))], [], [(39, .one (bS x15.Key))], []⟩ :: ⟨[(33, .one (bB true)), (0, .one (.g (.d (.sl 3 (List.map encApi_Dep p_0)))))], [], [(40, .one (.g (.d (.sl 3 (List.map encApi_Dep p_0)))))], []⟩ :: ⟨[(33, .one (bB true)), (3, .one (bI .i64 v3))], [], [(41, .one (bI .i64 v3))], []⟩ :: ⟨[(33, .one (bB true)), (40, .one (.g (.d (.sl 3 (List.map encApi_Dep p_0))))), (41, .one (bI .i64 v3))], [], [(42, .one (.ep [.v (.string x16.Key), .v (.int .i64 x16.Stamp.N), .v (.int .i64 x16.Stamp.Site)]))], []⟩ :: ⟨[(33, .one (bB true)), (42, .one (.ep [.v (.string x16.Key), .v (.int .i64 x16.Stamp.N), .v (.int .i64 x16.Stamp.Site)]))], [], [(43, .one (.ep [.v (.string x16.Key), .v (.int .i64 x16.Stamp.N), .v (.int .i64 x16.Stamp.Site)]))], []⟩ :: ⟨[(33, .one (bB true)), (43, .one (.ep [.v (.string x16.Key), .v (.int .i64 x16.Stamp.N), .v (.int .i64 x16.Stamp.Site)]))], [], [(44, .one (bS x16.Key))], []⟩ :: ⟨[(33, .one (bB true)), (39, .one (bS x15.Key)), (44, .one (bS x16.Key))], [], [(45, .one (bB (!slt x15.Key x16.Key)))], []⟩ :: ⟨[(30, .one (bB false)), (33, .one (bB true)), (45, .one (bB (!slt x15.Key x16.Key)))], [], [(46, .one (bB (!slt x15.Key x16.Key)))], []⟩ :: ⟨[(30, .one (bB false)), (46, .one (bB (!slt x15.Key x16.Key)))], [], [(47, .one (bB (!slt x15.Key x16.Key)))], []⟩ :: [])) (deps := ([] :: [0] :: [0, 1] :: [0, 1, 2] :: [0, 1, 2, 3] :: [0, 1, 2, 3, 4] :: [0, 1, 2, 3, 4, 5] :: [0, 1, 2, 3, 4, 5, 6] :: [0, 1, 2, 3, 4, 5, 6, 7] :: [0, 1, 2, 3, 4, 5, 6, 7, 8] :: [0, 1, 2, 3, 4, 5, 6, 7, 8, 9] :: [0, 1, 2, 3, 4, 5, 6, 7, 8, 9] :: [0, 1, 2, 3, 4, 5, 6, 7, 8, 9, 11] :: [0, 1, 2, 3, 4, 5, 6, 7, 8, 9, 10, 11, 12] :: [0, 1, 2, 3, 4, 5, 6, 7, 8, 9, 10, 11, 12, 13] :: [0, 1, 2, 3, 4, 5, 6, 7, 8, 9, 10, 11, 12, 13, 14] :: [0, 1, 2, 3, 4, 5, 6, 7, 8, 9] :: [0, 1, 2, 3, 4, 5, 6, 7, 8, 9] :: [0, 1, 2, 3, 4, 5, 6, 7, 8, 9, 16, 17] :: [0, 1, 2, 3, 4, 5, 6, 7, 8, 9, 16, 17, 18] :: [0, 1, 2, 3, 4, 5, 6, 7, 8, 9, 16, 17, 18, 19] :: (0 :: 1 :: 2 :: 3 :: 4 :: 5 :: 6 :: 7 :: 8 :: 9 :: 10 :: 11 :: 12 :: 13 :: 14 :: 15 :: 16 :: 17 :: 18 :: 19 :: 20 :: []) :: (0 :: 1 :: 2 :: 3 :: 4 :: 5 :: 6 :: 7 :: 8 :: 9 :: 10 :: 11 :: 12 :: 13 :: 14 :: 15 :: 16 :: 17 :: 18 :: 19 :: 20 :: 21 :: []) :: (0 :: 1 :: 2 :: 3 :: 4 :: 5 :: 6 :: 7 :: 8 :: 9 :: 10 :: 11 :: 12 :: 13 :: 14 :: 15 :: 16 :: 17 :: 18 :: 19 :: 20 :: 21 :: 22 :: []) :: [])) (sl' := [(0, .one (.g (.d (.sl 3 (List.map encApi_Dep p_0))))), (3, .one (bI .i64 v3)), (47, .one (bB (!slt x15.Key x16.Key)))]) (hp' := []) follows rfl rfl rfl ⟨⟨rfl, trivial⟩, trivial, ⟨rfl, trivial⟩, trivial, ⟨rfl, trivial⟩, trivial, ⟨rfl, rfl, trivial⟩, trivial, ⟨rfl, rfl, trivial⟩, trivial, ⟨rfl, rfl, trivial⟩, trivial, ⟨rfl, trivial⟩, trivial, ⟨rfl, rfl, trivial⟩, trivial, ⟨rfl, rfl, trivial⟩, trivial, ⟨rfl, rfl, trivial⟩, trivial, ⟨rfl, rfl, trivial⟩, trivial, ⟨rfl, rfl, trivial⟩, trivial, ⟨rfl, rfl, trivial⟩, trivial, ⟨rfl, rfl, rfl, trivial⟩, trivial, ⟨rfl, rfl, trivial⟩, trivial, ⟨rfl, rfl, trivial⟩, trivial, ⟨rfl, rfl, trivial⟩, trivial, ⟨rfl, rfl, trivial⟩, trivial, ⟨rfl, rfl, rfl, trivial⟩, trivial, ⟨rfl, rfl, trivial⟩, trivial, ⟨rfl, rfl, trivial⟩, trivial, ⟨rfl, rfl, rfl, trivial⟩, trivial, ⟨rfl, rfl, rfl, trivial⟩, trivial, ⟨rfl, rfl, trivial⟩, trivial, trivial⟩ ⟨OpW.plain (op_move (Ev.t 4 (bB r9)) rfl) rfl rfl, OpW.plain (OpL.cast (op_not (Ev.t 24 (bB r9)) rfl) (congrArg (fun b => bB b) hc12)) rfl rfl, OpW.plain (op_move (Ev.t 25 (bB false)) rfl) rfl rfl, OpW.yes (op_move (Ev.t 5 (bB r11)) rfl) rfl rfl rfl, OpW.yes (OpL.cast (op_not (Ev.t 27 (bB r11)) rfl) (congrArg (fun b => bB b) hc13)) rfl rfl rfl, OpW.plain (op_pickF (Ev.t 26 (bB false)) (Ev.t 28 (bB false)) rfl) rfl rfl, OpW.plain (op_move (Ev.t 29 (bB false)) rfl) rfl rfl, OpW.yes (op_move (Ev.t 3 (bI .i64 v3)) rfl) rfl rfl rfl, OpW.yes (OpL.cast (op_gtr (Ev.t 31 (bI .i64 v3)) (Ev.c _ rfl) rfl) (congrArg (fun b => bB b) hc14)) rfl rfl rfl, OpW.yes (op_move (Ev.t 32 (bB true)) rfl) rfl rfl rfl, OpW.yes (op_move (Ev.t 0 (.g (.d (.sl 3 (List.map encApi_Dep p_0))))) rfl) rfl rfl rfl, OpW.yes (op_move (Ev.t 3 (bI .i64 v3)) rfl) rfl rfl rfl, OpW.yes (op_sub (Ev.t 35 (bI .i64 v3)) (Ev.c _ rfl) rfl) rfl rfl rfl, OpW.yes (op_index (cs := [.v (.string x15.Key), .v (.int .i64 x15.Stamp.N), .v (.int .i64 x15.Stamp.Site)]) Try.underlying24 ti52 (idx_ok hx15).1 (idx_get hx15 encApi_Dep) (Ev.t 34 (.g (.d (.sl 3 (List.map encApi_Dep p_0))))) (Ev.t 36 (bI .i64 (IntKind.wrap .i64 (v3 - 1)))) rfl) rfl rfl rfl, OpW.yes (op_fieldE (cs' := [.v (.string x15.Key), .v (.int .i64 x15.Stamp.N), .v (.int .i64 x15.Stamp.Site)]) Try.underlying52 rfl ti9 (by decide) rfl (Ev.t 37 (.ep [.v (.string x15.Key), .v (.int .i64 x15.Stamp.N), .v (.int .i64 x15.Stamp.Site)])) rfl) rfl rfl rfl, OpW.yes (op_load1E (c := .v (.string x15.Key)) Try.underlying9 rfl rfl (Ev.t 38 (.ep [.v (.string x15.Key), .v (.int .i64 x15.Stamp.N), .v (.int .i64 x15.Stamp.Site)])) rfl) rfl rfl rfl, OpW.yes (op_move (Ev.t 0 (.g (.d (.sl 3 (List.map encApi_Dep p_0))))) rfl) rfl rfl rfl, OpW.yes (op_move (Ev.t 3 (bI .i64 v3)) rfl) rfl rfl rfl, OpW.yes (op_index (cs := [.v (.string x16.Key), .v (.int .i64 x16.Stamp.N), .v (.int .i64 x16.Stamp.Site)]) Try.underlying24 ti52 (idx_ok hx16).1 (idx_get hx16 encApi_Dep) (Ev.t 40 (.g (.d (.sl 3 (List.map encApi_Dep p_0))))) (Ev.t 41 (bI .i64 v3)) rfl) rfl rfl rfl, OpW.yes (op_fieldE (cs' := [.v (.string x16.Key), .v (.int .i64 x16.Stamp.N), .v (.int .i64 x16.Stamp.Site)]) Try.underlying52 rfl ti9 (by decide) rfl (Ev.t 42 (.ep [.v (.string x16.Key), .v (.int .i64 x16.Stamp.N), .v (.int .i64 x16.Stamp.Site)])) rfl) rfl rfl rfl, OpW.yes (op_load1E (c := .v (.string x16.Key)) Try.underlying9 rfl rfl (Ev.t 43 (.ep [.v (.string x16.Key), .v (.int .i64 x16.Stamp.N), .v (.int .i64 x16.Stamp.Site)])) rfl) rfl rfl rfl, OpW.yes (op_geS (Ev.t 39 (bS x15.Key)) (Ev.t 44 (bS x16.Key)) rfl) rfl rfl rfl, OpW.yes (op_pickT (Ev.t 33 (bB true)) (Ev.t 45 (bB (!slt x15.Key x16.Key))) rfl) rfl rfl rfl, OpW.plain (op_pickF (Ev.t 30 (bB false)) (Ev.t 46 (bB (!slt x15.Key x16.Key))) rfl) rfl rfl, trivial⟩ ⟨rfl, rfl, rfl, trivial⟩ trivial rfl ?_
          refine ifS hF (fun hc17 hF => ?_) (fun hc17 hF => ?_)
          · refine G.cond rfl (fun _ => ?_) (fun hx => by rw [hc17] at hx; cases hx)
            refine G.seq ?_
            refine G.region ?_
            refine G.op1 (op_assign (Ev.c _ rfl) rfl) rfl trivial trivial ?_
            refine G.endOps ?_
            cases hF
            exact G.ret1 Try.results30 (RVar.tmp 2 _) ⟨rfl, trivial⟩ trivial
          · refine G.cond rfl (fun hx => by rw [hc17] at hx; cases hx) (fun _ => ?_)
            refine G.skip ?_
            refine G.endBlock ?_
            refine G.region ?_
            refine G.op1 (op_move (Ev.t 3 (bI .i64 v3)) rfl) rfl ⟨rfl, trivial⟩ trivial ?_
            refine G.op1 (op_add (Ev.t 10 (bI .i64 v3)) (Ev.c _ rfl) rfl) rfl ⟨rfl, trivial⟩ trivial ?_
            refine G.op1 (op_assign (Ev.t 11 (bI .i64 (IntKind.wrap .i64 (v3 + 1)))) rfl) rfl ⟨rfl, trivial⟩ trivial ?_
            refine G.endOps ?_
            exact G.arr (J4 (IntKind.wrap .i64 (v3 + 1)) hF) ⟨rfl, rfl, trivial⟩ trivial rfl
        · refine G.drawn (effs := (⟨[(4, .one (bB r9))], [], [(24, .one (bB r9))], []⟩ :: ⟨[(24, .one (bB r9))], [], [(25, .one (bB false))], []⟩ :: ⟨[(25, .one (bB false))], [], [(26, .one (bB false))], []⟩ :: ⟨[(26, .one (bB false)), (5, .one (bB r11))], [], [(27, .one (bB r11))], []⟩ :: ⟨[(26, .one (bB false)), (27, .one (bB r11))], [], [(28, .one (bB false))], []⟩ :: ⟨[(26, .one (bB false)), (28, .one (bB false))], [], [(29, .one (bB false))], []⟩ :: ⟨[(29, .one (bB false))], [], [(30, .one (bB false))], []⟩ :: ⟨[(30, .one (bB false)), (3, .one (bI .i64 v3))], [], [(31, .one (bI .i64 v3))], []⟩ :: ⟨[(30, .one (bB false)), (31, .one (bI .i64 v3))], [], [(32, .one (bB false))], []⟩ :: ⟨[(30, .one (bB false)), (32, .one (bB false))], [], [(33, .one (bB false))], []⟩ :: ⟨[(33, .one (bB false))], [], [(34, .one (.x Go.undef))], []⟩ :: ⟨[(33, .one (bB false))], [], [(35, .one (.x Go.undef))], []⟩ :: ⟨[(33, .one (bB false))], [], [(36, .one (.x Go.undef))], []⟩ :: ⟨[(33, .one (bB false))], [], [(37, .one (.x Go.undef))], []⟩ :: ⟨[(33, .one (bB false))], [], [(38, .one (.x Go.undef))], []⟩ :: ⟨[(33, .one (bB false))], [], [(39, .one (.x Go.undef))], []⟩ :: ⟨[(33, .one (bB false))], [], [(40, .one (.x Go.undef))], []⟩ :: ⟨[(33, .one (bB false))], [], [(41, .one (.x Go.undef))], []⟩ :: ⟨[(33, .one (bB false))], [], [(42, .one (.x Go.undef))], []⟩ :: ⟨[(33, .one (bB false))], [], [(43, .one (.x Go.undef))], []⟩ :: ⟨[(33, .one (bB false))], [], [(44, .one (.x Go.undef))], []⟩ :: ⟨[(33, .one (bB false))], [], [(45, .one (.x Go.undef))], []⟩ :: ⟨[(30, .one (bB false)), (33, .one (bB false))], [], [(46, .one (bB false))], []⟩ :: ⟨[(30, .one (bB false)), (46, .one (bB false))], [], [(47, .one (bB false))], []⟩ :: [])) (deps := ([] :: [0] :: [0, 1] :: [0, 1, 2] :: [0, 1, 2, 3] :: [0, 1, 2, 3, 4] :: [0, 1, 2, 3, 4, 5] :: [0, 1, 2, 3, 4, 5, 6] :: [0, 1, 2, 3, 4, 5, 6, 7] :: [0, 1, 2, 3, 4, 5, 6, 7, 8] :: [0, 1, 2, 3, 4, 5, 6, 7, 8, 9] :: [0, 1, 2, 3, 4, 5, 6, 7, 8, 9] :: [0, 1, 2, 3, 4, 5, 6, 7, 8, 9, 11] :: [0, 1, 2, 3, 4, 5, 6, 7, 8, 9, 10, 11, 12] :: [0, 1, 2, 3, 4, 5, 6, 7, 8, 9, 10, 11, 12, 13] :: [0, 1, 2, 3, 4, 5, 6, 7, 8, 9, 10, 11, 12, 13, 14] :: [0, 1, 2, 3, 4, 5, 6, 7, 8, 9] :: [0, 1, 2, 3, 4, 5, 6, 7, 8, 9] :: [0, 1, 2, 3, 4, 5, 6, 7, 8, 9, 16, 17] :: [0, 1, 2, 3, 4, 5, 6, 7, 8, 9, 16, 17, 18] :: [0, 1, 2, 3, 4, 5, 6, 7, 8, 9, 16, 17, 18, 19] :: (0 :: 1 :: 2 :: 3 :: 4 :: 5 :: 6 :: 7 :: 8 :: 9 :: 10 :: 11 :: 12 :: 13 :: 14 :: 15 :: 16 :: 17 :: 18 :: 19 :: 20 :: []) :: (0 :: 1 :: 2 :: 3 :: 4 :: 5 :: 6 :: 7 :: 8 :: 9 :: 10 :: 11 :: 12 :: 13 :: 14 :: 15 :: 16 :: 17 :: 18 :: 19 :: 20 :: 21 :: []) :: (0 :: 1 :: 2 :: 3 :: 4 :: 5 :: 6 :: 7 :: 8 :: 9 :: 10 :: 11 :: 12 :: 13 :: 14 :: 15 :: 16 :: 17 :: 18 :: 19 :: 20 :: 21 :: 22 :: []) :: [])) (sl' := [(0, .one (.g (.d (.sl 3 (List.map encApi_Dep p_0))))), (3, .one (bI .i64 v3)), (47, .one (bB false))]) (hp' := []) follows rfl rfl rfl ⟨⟨rfl, trivial⟩, trivial, ⟨rfl, trivial⟩, trivial, ⟨rfl, trivial⟩, trivial, ⟨rfl, rfl, trivial⟩, trivial, ⟨rfl, rfl, trivial⟩, trivial, ⟨rfl, rfl, trivial⟩, trivial, ⟨rfl, trivial⟩, trivial, ⟨rfl, rfl, trivial⟩, trivial, ⟨rfl, rfl, trivial⟩, trivial, ⟨rfl, rfl, trivial⟩, trivial, ⟨rfl, trivial⟩, trivial, ⟨rfl, trivial⟩, trivial, ⟨rfl, trivial⟩, trivial, ⟨rfl, trivial⟩, trivial, ⟨rfl, trivial⟩, trivial, ⟨rfl, trivial⟩, trivial, ⟨rfl, trivial⟩, trivial, ⟨rfl, trivial⟩, trivial, ⟨rfl, trivial⟩, trivial, ⟨rfl, trivial⟩, trivial, ⟨rfl, trivial⟩, trivial, ⟨rfl, trivial⟩, trivial, ⟨rfl, rfl, trivial⟩, trivial, ⟨rfl, rfl, trivial⟩, trivial, trivial⟩ ⟨OpW.plain (op_move (Ev.t 4 (bB r9)) rfl) rfl rfl, OpW.plain (OpL.cast (op_not (Ev.t 24 (bB r9)) rfl) (congrArg (fun b => bB b) hc12)) rfl rfl, OpW.plain (op_move (Ev.t 25 (bB false)) rfl) rfl rfl, OpW.yes (op_move (Ev.t 5 (bB r11)) rfl) rfl rfl rfl, OpW.yes (OpL.cast (op_not (Ev.t 27 (bB r11)) rfl) (congrArg (fun b => bB b) hc13)) rfl rfl rfl, OpW.plain (op_pickF (Ev.t 26 (bB false)) (Ev.t 28 (bB false)) rfl) rfl rfl, OpW.plain (op_move (Ev.t 29 (bB false)) rfl) rfl rfl, OpW.yes (op_move (Ev.t 3 (bI .i64 v3)) rfl) rfl rfl rfl, OpW.yes (OpL.cast (op_gtr (Ev.t 31 (bI .i64 v3)) (Ev.c _ rfl) rfl) (congrArg (fun b => bB b) hc14)) rfl rfl rfl, OpW.yes (op_move (Ev.t 32 (bB false)) rfl) rfl rfl rfl, OpW.no rfl rfl rfl rfl rfl, OpW.no rfl rfl rfl rfl rfl, OpW.no rfl rfl rfl rfl rfl, OpW.no rfl rfl rfl rfl rfl, OpW.no rfl rfl rfl rfl rfl, OpW.no rfl rfl rfl rfl rfl, OpW.no rfl rfl rfl rfl rfl, OpW.no rfl rfl rfl rfl rfl, OpW.no rfl rfl rfl rfl rfl, OpW.no rfl rfl rfl rfl rfl, OpW.no rfl rfl rfl rfl rfl, OpW.no rfl rfl rfl rfl rfl, OpW.yes (op_pickF (Ev.t 33 (bB false)) (Ev.c _ rfl) rfl) rfl rfl rfl, OpW.plain (op_pickF (Ev.t 30 (bB false)) (Ev.t 46 (bB false)) rfl) rfl rfl, trivial⟩ ⟨rfl, rfl, rfl, trivial⟩ trivial rfl ?_
          refine G.condF rfl ?_
          refine G.skip ?_
          refine G.endBlock ?_
          refine G.region ?_
          refine G.op1 (op_move (Ev.t 3 (bI .i64 v3)) rfl) rfl ⟨rfl, trivial⟩ trivial ?_
          refine G.op1 (op_add (Ev.t 10 (bI .i64 v3)) (Ev.c _ rfl) rfl) rfl ⟨rfl, trivial⟩ trivial ?_
          refine G.op1 (op_assign (Ev.t 11 (bI .i64 (IntKind.wrap .i64 (v3 + 1)))) rfl) rfl ⟨rfl, trivial⟩ trivial ?_
          refine G.endOps ?_
          exact G.arr (J4 (IntKind.wrap .i64 (v3 + 1)) hF) ⟨rfl, rfl, trivial⟩ trivial rfl
  · refine G.cond rfl (fun hx => by rw [hc7] at hx; cases hx) (fun _ => ?_)
    refine G.exit ?_
    refine GX.c ?_
    refine GX.q ?_
    refine GX.bYes ?_
    exact G.arr (J2 () hF) ⟨rfl, trivial⟩ trivial rfl


set_option maxRecDepth 20000 in
set_option maxHeartbeats 2000000 in
theorem ct_ref06_Check (v_0 : Api_Version) (r : Bool) (hF : ref06_Check v_0 = some r) : Ct Try.prog 12 [.g (.agg (encApi_Version v_0))] (.one (.d (.v (.bool r)))) := by
  unfold ref06_Check at hF
  refine Ct.intro Try.func12 rfl Try.ntmps12 rfl rfl fun M w => ?_
  refine G.seq ?_
  refine G.region ?_
  refine G.op2 (op_boxA (k := 1001) (Ev.t 0 (.g (.agg [.v (.string v_0.Key), .v (.string v_0.Value), .v (.bool v_0.Gone), .v (.int .i64 v_0.Stamp.N), .v (.int .i64 v_0.Stamp.Site), .sl 3 (List.map encApi_Dep v_0.Past)]))) rfl) rfl ⟨rfl, trivial⟩ ⟨rfl, trivial⟩ ?_
  refine G.op1 (op_assign (Ev.c _ rfl) rfl) rfl trivial trivial ?_
  refine G.endOps ?_
  refine G.seq ?_
  refine G.region ?_
  refine G.op1 (op_fieldP (off' := 0) Try.underlying26 rfl ti9 (by decide) rfl (Ev.t 1 (.ptr 1001 0)) rfl) rfl ⟨rfl, trivial⟩ trivial ?_
  refine G.op1 (op_load1P (c := bS v_0.Key) Try.underlying9 rfl rfl (Ev.t 6 (.ptr 1001 0)) rfl) rfl ⟨rfl, trivial⟩ ⟨rfl, trivial⟩ ?_
  obtain ⟨r1, hr1, hF⟩ := bindS hF
  refine G.op1 (op_callQ (sv := .one (bB r1)) cf28 (ct_ref02_Check v_0.Key r1 hr1) rfl rfl (EvQL.cons (EvQ.g (Ev.t 7 (bS v_0.Key))) EvQL.nil) rfl) rfl ⟨rfl, trivial⟩ trivial ?_
  refine G.op1 (op_assign (Ev.t 8 (bB r1)) rfl) rfl ⟨rfl, trivial⟩ trivial ?_
  refine G.endOps ?_
  refine G.seq ?_
  refine G.region ?_
  refine G.op1 (op_fieldP (off' := 3) Try.underlying26 rfl ti23 (by decide) rfl (Ev.t 1 (.ptr 1001 0)) rfl) rfl ⟨rfl, trivial⟩ trivial ?_
  refine G.op1 (op_loadAP (ds := [.v (.int .i64 v_0.Stamp.N), .v (.int .i64 v_0.Stamp.Site)]) Try.underlying23 rfl ti23 rfl (Ev.t 9 (.ptr 1001 3)) rfl) rfl ⟨rfl, trivial⟩ ⟨rfl, trivial⟩ ?_
  obtain ⟨r2, hr2, hF⟩ := bindS hF
  refine G.op1 (op_callQ (sv := .one (bB r2)) cf29 (ct_ref03_Check v_0.Stamp r2 hr2) rfl rfl (EvQL.cons (EvQ.g (Ev.t 10 (.g (.agg [.v (.int .i64 v_0.Stamp.N), .v (.int .i64 v_0.Stamp.Site)])))) EvQL.nil) rfl) rfl ⟨rfl, trivial⟩ trivial ?_
  refine G.op1 (op_assign (Ev.t 11 (bB r2)) rfl) rfl ⟨rfl, trivial⟩ trivial ?_
  refine G.endOps ?_
  refine G.seq ?_
  refine G.region ?_
  refine G.op1 (op_fieldP (off' := 5) Try.underlying26 rfl ti24 (by decide) rfl (Ev.t 1 (.ptr 1001 0)) rfl) rfl ⟨rfl, trivial⟩ trivial ?_
  refine G.op1 (op_load1P (c := .g (.d (.sl 3 (List.map encApi_Dep v_0.Past)))) Try.underlying24 rfl rfl (Ev.t 12 (.ptr 1001 5)) rfl) rfl ⟨rfl, trivial⟩ ⟨rfl, trivial⟩ ?_
  obtain ⟨r3, hr3, hF⟩ := bindS hF
  refine G.op1 (op_callQ (sv := .one (bB r3)) cf30 (ct_ref04_Check v_0.Past r3 hr3) rfl rfl (EvQL.cons (EvQ.g (Ev.t 13 (.g (.d (.sl 3 (List.map encApi_Dep v_0.Past)))))) EvQL.nil) rfl) rfl ⟨rfl, trivial⟩ trivial ?_
  refine G.op1 (op_assign (Ev.t 14 (bB r3)) rfl) rfl ⟨rfl, trivial⟩ trivial ?_
  refine G.endOps ?_
  refine G.seq ?_
  refine G.region ?_
  refine G.op1 (op_move (Ev.t 3 (bB r1)) rfl) rfl ⟨rfl, trivial⟩ trivial ?_
  refine G.op1 (op_move (Ev.t 15 (bB r1)) rfl) rfl ⟨rfl, trivial⟩ trivial ?_
  refine G.joinL (T := Bool) 2 (fun y4 => ⟨[(1, .one (.ptr 1001 0)), (5, .one (bB r3)), (18, .one (bB y4))], [(1001, some (.blk 26 [bS v_0.Key, bS v_0.Value, bB v_0.Gone, bI .i64 v_0.Stamp.N, bI .i64 v_0.Stamp.Site, .g (.d (.sl 3 (List.map encApi_Dep v_0.Past)))]))]⟩) (fun y4 => ref06_Check_k1 v_0 r3 y4 = some r) (fun y4 hF => ?_) (fun J13 => ?_)
  · unfold ref06_Check_k1 at hF
    refine G.op1 (op_move (Ev.t 18 (bB y4)) rfl) rfl ⟨rfl, trivial⟩ trivial ?_
    refine G.joinL (T := Bool) 2 (fun y5 => ⟨[(1, .one (.ptr 1001 0)), (21, .one (bB y5))], [(1001, some (.blk 26 [bS v_0.Key, bS v_0.Value, bB v_0.Gone, bI .i64 v_0.Stamp.N, bI .i64 v_0.Stamp.Site, .g (.d (.sl 3 (List.map encApi_Dep v_0.Past)))]))]⟩) (fun y5 => ref06_Check_k2 v_0 y5 = some r) (fun y5 hF => ?_) (fun J11 => ?_)
    · unfold ref06_Check_k2 at hF
      refine G.op1 (op_move (Ev.t 21 (bB y5)) rfl) rfl ⟨rfl, trivial⟩ trivial ?_
      refine G.joinL (T := Bool) 5 (fun y6 => ⟨[(1, .one (.ptr 1001 0)), (27, .one (bB y6))], [(1001, some (.blk 26 [bS v_0.Key, bS v_0.Value, bB v_0.Gone, bI .i64 v_0.Stamp.N, bI .i64 v_0.Stamp.Site, .g (.d (.sl 3 (List.map encApi_Dep v_0.Past)))]))]⟩) (fun y6 => ref06_Check_k3 v_0 y6 = some r) (fun y6 hF => ?_) (fun J9 => ?_)
      · unfold ref06_Check_k3 at hF
        refine G.op1 (op_move (Ev.t 27 (bB y6)) rfl) rfl ⟨rfl, trivial⟩ trivial ?_
        refine ifS hF (fun hc7 hF => ?_) (fun hc7 hF => ?_)
        · refine G.known (t := 28) hc7 rfl ?_
          refine G.opG1 (op_fieldP (off' := 2) Try.underlying26 rfl ti4 (by decide) rfl (Ev.t 1 (.ptr 1001 0)) rfl) rfl rfl rfl ⟨rfl, trivial⟩ trivial ?_
          refine G.opG1 (op_load1P (c := bB v_0.Gone) Try.underlying4 rfl rfl (Ev.t 29 (.ptr 1001 2)) rfl) rfl rfl rfl ⟨rfl, trivial⟩ ⟨rfl, trivial⟩ ?_
          refine G.opG1 (op_not (Ev.t 30 (bB v_0.Gone)) rfl) rfl rfl rfl ⟨rfl, trivial⟩ trivial ?_
          refine G.opG1 (op_move (Ev.t 31 (bB (!v_0.Gone))) rfl) rfl rfl rfl ⟨rfl, trivial⟩ trivial ?_
          refine ifS hF (fun hc8 hF => ?_) (fun hc8 hF => ?_)
          · refine G.known (t := 32) hc8 rfl ?_
            refine G.opN1 rfl rfl rfl rfl rfl ?_
            refine G.opN1 rfl rfl rfl rfl rfl ?_
            refine G.opN1 rfl rfl rfl rfl rfl ?_
            refine G.opG1 (op_pickT (Ev.t 32 (bB true)) (Ev.c _ rfl) rfl) rfl rfl rfl ⟨rfl, trivial⟩ trivial ?_
            refine G.op1 (op_pickT (Ev.t 28 (bB true)) (Ev.t 36 (bB true)) rfl) rfl ⟨rfl, rfl, trivial⟩ trivial ?_
            refine G.op1 (op_assign (Ev.t 37 (bB true)) rfl) rfl ⟨rfl, trivial⟩ trivial ?_
            refine G.endOps ?_
            cases hF
            exact G.ret1 Try.results12 (RVar.tmp 2 _) ⟨rfl, trivial⟩ trivial
          · refine G.known (t := 32) hc8 rfl ?_
            refine G.opG1 (op_fieldP (off' := 1) Try.underlying26 rfl ti9 (by decide) rfl (Ev.t 1 (.ptr 1001 0)) rfl) rfl rfl rfl ⟨rfl, trivial⟩ trivial ?_
            refine G.opG1 (op_load1P (c := bS v_0.Value) Try.underlying9 rfl rfl (Ev.t 33 (.ptr 1001 1)) rfl) rfl rfl rfl ⟨rfl, trivial⟩ ⟨rfl, trivial⟩ ?_
            refine G.opG1 (op_eqS (Ev.t 34 (bS v_0.Value)) (Ev.c _ rfl) rfl) rfl rfl rfl ⟨rfl, trivial⟩ trivial ?_
            refine G.opG1 (op_pickF (Ev.t 32 (bB false)) (Ev.t 35 (bB (seq v_0.Value ByteArray.empty))) rfl) rfl rfl rfl ⟨rfl, rfl, trivial⟩ trivial ?_
            refine G.op1 (op_pickT (Ev.t 28 (bB true)) (Ev.t 36 (bB (seq v_0.Value ByteArray.empty))) rfl) rfl ⟨rfl, rfl, trivial⟩ trivial ?_
            refine G.op1 (op_assign (Ev.t 37 (bB (seq v_0.Value ByteArray.empty))) rfl) rfl ⟨rfl, trivial⟩ trivial ?_
            refine G.endOps ?_
            cases hF
            exact G.ret1 Try.results12 (RVar.tmp 2 _) ⟨rfl, trivial⟩ trivial
        · refine G.known (t := 28) hc7 rfl ?_
          refine G.opN1 rfl rfl rfl rfl rfl ?_
          refine G.opN1 rfl rfl rfl rfl rfl ?_
          refine G.opN1 rfl rfl rfl rfl rfl ?_
          refine G.opN1 rfl rfl rfl rfl rfl ?_
          refine G.opU rfl rfl rfl rfl ?_
          refine G.opU rfl rfl rfl rfl ?_
          refine G.opU rfl rfl rfl rfl ?_
          refine G.opN1 rfl rfl rfl rfl rfl ?_
          refine G.op1 (op_pickF (Ev.t 28 (bB false)) (Ev.c _ rfl) rfl) rfl ⟨rfl, trivial⟩ trivial ?_
          refine G.op1 (op_assign (Ev.t 37 (bB false)) rfl) rfl ⟨rfl, trivial⟩ trivial ?_
          refine G.endOps ?_
          cases hF
          exact G.ret1 Try.results12 (RVar.tmp 2 _) ⟨rfl, trivial⟩ trivial
      refine ifS hF (fun hc10 hF => ?_) (fun hc10 hF => ?_)
      · refine G.known (t := 22) hc10 rfl ?_
        refine G.opG1 (op_fieldP (off' := 1) Try.underlying26 rfl ti9 (by decide) rfl (Ev.t 1 (.ptr 1001 0)) rfl) rfl rfl rfl ⟨rfl, trivial⟩ trivial ?_
        refine G.opG1 (op_load1P (c := bS v_0.Value) Try.underlying9 rfl rfl (Ev.t 23 (.ptr 1001 1)) rfl) rfl rfl rfl ⟨rfl, trivial⟩ ⟨rfl, trivial⟩ ?_
        refine G.opG1 (op_lenS Try.underlying9 (Ev.t 24 (bS v_0.Value)) rfl) rfl rfl rfl ⟨rfl, trivial⟩ trivial ?_
        refine G.opG1 (op_leq (Ev.t 25 (bI .i64 (v_0.Value.size : Int))) (Ev.c _ rfl) rfl) rfl rfl rfl ⟨rfl, trivial⟩ trivial ?_
        refine G.op1 (op_pickT (Ev.t 22 (bB true)) (Ev.t 26 (bB (decide ((v_0.Value.size : Int) ≤ 32)))) rfl) rfl ⟨rfl, rfl, trivial⟩ trivial ?_
        exact G.arr (J9 (decide ((v_0.Value.size : Int) ≤ 32)) hF) ⟨rfl, rfl, trivial⟩ ⟨rfl, trivial⟩ rfl
      · refine G.known (t := 22) hc10 rfl ?_
        refine G.opN1 rfl rfl rfl rfl rfl ?_
        refine G.opN1 rfl rfl rfl rfl rfl ?_
        refine G.opN1 rfl rfl rfl rfl rfl ?_
        refine G.opN1 rfl rfl rfl rfl rfl ?_
        refine G.op1 (op_pickF (Ev.t 22 (bB false)) (Ev.c _ rfl) rfl) rfl ⟨rfl, trivial⟩ trivial ?_
        exact G.arr (J9 false hF) ⟨rfl, rfl, trivial⟩ ⟨rfl, trivial⟩ rfl
    refine ifS hF (fun hc12 hF => ?_) (fun hc12 hF => ?_)
    · refine G.known (t := 19) hc12 rfl ?_
      refine G.opG1 (op_move (Ev.t 5 (bB r3)) rfl) rfl rfl rfl ⟨rfl, trivial⟩ trivial ?_
      refine G.op1 (op_pickT (Ev.t 19 (bB true)) (Ev.t 20 (bB r3)) rfl) rfl ⟨rfl, rfl, trivial⟩ trivial ?_
      exact G.arr (J11 r3 hF) ⟨rfl, rfl, trivial⟩ ⟨rfl, trivial⟩ rfl
    · refine G.known (t := 19) hc12 rfl ?_
      refine G.opN1 rfl rfl rfl rfl rfl ?_
      refine G.op1 (op_pickF (Ev.t 19 (bB false)) (Ev.c _ rfl) rfl) rfl ⟨rfl, trivial⟩ trivial ?_
      exact G.arr (J11 false hF) ⟨rfl, rfl, trivial⟩ ⟨rfl, trivial⟩ rfl
  refine ifS hF (fun hc14 hF => ?_) (fun hc14 hF => ?_)
  · refine G.known (t := 16) hc14 rfl ?_
    refine G.opG1 (op_move (Ev.t 4 (bB r2)) rfl) rfl rfl rfl ⟨rfl, trivial⟩ trivial ?_
    refine G.op1 (op_pickT (Ev.t 16 (bB true)) (Ev.t 17 (bB r2)) rfl) rfl ⟨rfl, rfl, trivial⟩ trivial ?_
    exact G.arr (J13 r2 hF) ⟨rfl, rfl, rfl, trivial⟩ ⟨rfl, trivial⟩ rfl
  · refine G.known (t := 16) hc14 rfl ?_
    refine G.opN1 rfl rfl rfl rfl rfl ?_
    refine G.op1 (op_pickF (Ev.t 16 (bB false)) (Ev.c _ rfl) rfl) rfl ⟨rfl, trivial⟩ trivial ?_
    exact G.arr (J13 false hF) ⟨rfl, rfl, rfl, trivial⟩ ⟨rfl, trivial⟩ rfl


set_option maxRecDepth 20000 in
set_option maxHeartbeats 2000000 in
theorem ct_ref01_Number_b (again0 : Int → Option ByteArray) (ih : ∀ (n_0 : Int) (r : ByteArray), again0 n_0 = some r → Ct Try.prog 37 [.g (.d (.v (.int .u64 n_0)))] (.one (.d (.v (.string r))))) (n_0 : Int) (r : ByteArray) (hF : ref01_Number_b again0 n_0 = some r) : Ct Try.prog 37 [.g (.d (.v (.int .u64 n_0)))] (.one (.d (.v (.string r)))) := by
  unfold ref01_Number_b at hF
  refine Ct.intro Try.func37 rfl Try.ntmps37 rfl rfl fun M w => ?_
  refine G.seq ?_
  refine G.region ?_
  refine G.op1 (op_assign (Ev.c _ rfl) rfl) rfl trivial trivial ?_
  refine G.endOps ?_
  refine G.seq ?_
  refine G.seq ?_
  refine G.region ?_
  refine G.op1 (op_move (Ev.t 0 (bI .u64 n_0)) rfl) rfl ⟨rfl, trivial⟩ trivial ?_
  refine G.op1 (op_lss (Ev.t 3 (bI .u64 n_0)) (Ev.c _ rfl) rfl) rfl ⟨rfl, trivial⟩ trivial ?_
  refine G.endOps ?_
  refine ifS hF (fun hc1 hF => ?_) (fun hc1 hF => ?_)
  · refine G.cond rfl (fun _ => ?_) (fun hx => by rw [hc1] at hx; cases hx)
    refine G.seq ?_
    refine G.region ?_
    refine G.op1 (op_move (Ev.t 0 (bI .u64 n_0)) rfl) rfl ⟨rfl, trivial⟩ trivial ?_
    refine G.op1 (op_convI Try.underlying57 Try.underlying5 (Ev.t 5 (bI .u64 n_0)) rfl) rfl ⟨rfl, trivial⟩ trivial ?_
    refine G.op1 (op_buildSlice (es := List.map encI_u8 [IntKind.wrap .u8 n_0]) Try.underlying33 ti5 rfl rfl (EvP.cons (Ev.t 6 (bI .u8 (IntKind.wrap .u8 n_0))) EvP.nil) rfl rfl (by simp [encI_u8]) rfl) rfl ⟨rfl, trivial⟩ trivial ?_
    refine G.op1 (op_toText (ns := [IntKind.wrap .u8 n_0]) Try.underlying33 Try.underlying5 Try.underlying9 rfl (Ev.t 7 (.g (.d (.sl 1 (List.map encI_u8 ([IntKind.wrap .u8 n_0])))))) rfl) rfl ⟨rfl, trivial⟩ trivial ?_
    refine G.op1 (op_assign (Ev.t 8 (bS (bytesOf ([IntKind.wrap .u8 n_0])))) rfl) rfl ⟨rfl, trivial⟩ trivial ?_
    refine G.endOps ?_
    cases hF
    exact G.ret1 Try.results37 (RVar.tmp 2 _) ⟨rfl, trivial⟩ trivial
  · refine G.cond rfl (fun hx => by rw [hc1] at hx; cases hx) (fun _ => ?_)
    refine G.skip ?_
    refine G.seq ?_
    obtain ⟨r2, hr2, hF⟩ := bindS hF
    obtain ⟨s3, hs3, hF⟩ := bindS hF
    refine G.drawn (effs := [⟨[(0, .one (bI .u64 n_0))], [], [(9, .one (bI .u64 n_0))], []⟩, ⟨[(9, .one (bI .u64 n_0))], [], [(10, .one (bI .u64 (Int.tmod n_0 128)))], []⟩, ⟨[(10, .one (bI .u64 (Int.tmod n_0 128)))], [], [(11, .one (bI .u64 (IntKind.wrap .u64 (128 + (Int.tmod n_0 128)))))], []⟩, ⟨[(11, .one (bI .u64 (IntKind.wrap .u64 (128 + (Int.tmod n_0 128)))))], [], [(12, .one (bI .u8 (IntKind.wrap .u8 (IntKind.wrap .u64 (128 + (Int.tmod n_0 128))))))], []⟩, ⟨[(12, .one (bI .u8 (IntKind.wrap .u8 (IntKind.wrap .u64 (128 + (Int.tmod n_0 128))))))], [], [(13, .one (.g (.d (.sl 1 (List.map encI_u8 ([IntKind.wrap .u8 (IntKind.wrap .u64 (128 + (Int.tmod n_0 128)))]))))))], []⟩, ⟨[(13, .one (.g (.d (.sl 1 (List.map encI_u8 ([IntKind.wrap .u8 (IntKind.wrap .u64 (128 + (Int.tmod n_0 128)))]))))))], [], [(14, .one (bS (bytesOf ([IntKind.wrap .u8 (IntKind.wrap .u64 (128 + (Int.tmod n_0 128)))]))))], []⟩, ⟨[(0, .one (bI .u64 n_0))], [], [(15, .one (bI .u64 n_0))], []⟩, ⟨[(15, .one (bI .u64 n_0))], [], [(16, .one (bI .u64 (IntKind.wrap .u64 (Int.tdiv n_0 128))))], []⟩, ⟨[(16, .one (bI .u64 (IntKind.wrap .u64 (Int.tdiv n_0 128))))], [], [(17, .one (bS r2))], []⟩, ⟨[(14, .one (bS (bytesOf ([IntKind.wrap .u8 (IntKind.wrap .u64 (128 + (Int.tmod n_0 128)))])))), (17, .one (bS r2))], [], [(18, .one (bS s3))], []⟩, ⟨[(18, .one (bS s3))], [], [(2, .one (bS s3))], []⟩]) (deps := [[], [0], [0, 1], [0, 1, 2], [0, 1, 2, 3], [0, 1, 2, 3, 4], [], [6], [6, 7], [0, 1, 2, 3, 4, 5, 6, 7, 8], [0, 1, 2, 3, 4, 5, 6, 7, 8, 9]]) (sl' := [(2, .one (bS s3))]) (hp' := []) follows rfl rfl rfl ⟨⟨rfl, trivial⟩, trivial, ⟨rfl, trivial⟩, trivial, ⟨rfl, trivial⟩, trivial, ⟨rfl, trivial⟩, trivial, ⟨rfl, trivial⟩, trivial, ⟨rfl, trivial⟩, trivial, ⟨rfl, trivial⟩, trivial, ⟨rfl, trivial⟩, trivial, ⟨rfl, trivial⟩, trivial, ⟨rfl, rfl, trivial⟩, trivial, ⟨rfl, trivial⟩, trivial, trivial⟩ ⟨OpW.plain (op_move (Ev.t 0 (bI .u64 n_0)) rfl) rfl rfl, OpW.plain (op_rem (by decide) (Ev.t 9 (bI .u64 n_0)) (Ev.c _ rfl) rfl) rfl rfl, OpW.plain (op_add (Ev.c _ rfl) (Ev.t 10 (bI .u64 (Int.tmod n_0 128))) rfl) rfl rfl, OpW.plain (op_convI Try.underlying57 Try.underlying5 (Ev.t 11 (bI .u64 (IntKind.wrap .u64 (128 + (Int.tmod n_0 128))))) rfl) rfl rfl, OpW.plain (op_buildSlice (es := List.map encI_u8 [IntKind.wrap .u8 (IntKind.wrap .u64 (128 + (Int.tmod n_0 128)))]) Try.underlying33 ti5 rfl rfl (EvP.cons (Ev.t 12 (bI .u8 (IntKind.wrap .u8 (IntKind.wrap .u64 (128 + (Int.tmod n_0 128)))))) EvP.nil) rfl rfl (by simp [encI_u8]) rfl) rfl rfl, OpW.plain (op_toText (ns := [IntKind.wrap .u8 (IntKind.wrap .u64 (128 + (Int.tmod n_0 128)))]) Try.underlying33 Try.underlying5 Try.underlying9 rfl (Ev.t 13 (.g (.d (.sl 1 (List.map encI_u8 ([IntKind.wrap .u8 (IntKind.wrap .u64 (128 + (Int.tmod n_0 128)))])))))) rfl) rfl rfl, OpW.plain (op_move (Ev.t 0 (bI .u64 n_0)) rfl) rfl rfl, OpW.plain (op_quo (by decide) (Ev.t 15 (bI .u64 n_0)) (Ev.c _ rfl) rfl) rfl rfl, OpW.plain (op_call (sv := .one (bS r2)) cf37 (ih (IntKind.wrap .u64 (Int.tdiv n_0 128)) r2 hr2) rfl (EvL.cons (Ev.t 16 (bI .u64 (IntKind.wrap .u64 (Int.tdiv n_0 128)))) EvL.nil) rfl) rfl rfl, OpW.plain (OpL.cast (op_cat (scat_ok hs3).1 (Ev.t 14 (bS (bytesOf ([IntKind.wrap .u8 (IntKind.wrap .u64 (128 + (Int.tmod n_0 128)))])))) (Ev.t 17 (bS r2)) rfl) (by rw [(scat_ok hs3).2])) rfl rfl, OpW.plain (op_assign (Ev.t 18 (bS s3)) rfl) rfl rfl, trivial⟩ ⟨rfl, trivial⟩ trivial rfl ?_
    cases hF
    exact G.ret1 Try.results37 (RVar.tmp 2 _) ⟨rfl, trivial⟩ trivial
theorem ct_ref01_Number_n : ∀ (n : Nat) (n_0 : Int) (r : ByteArray), loopF (fun again0 v0 => ref01_Number_b again0 v0) n n_0 = some r → Ct Try.prog 37 [.g (.d (.v (.int .u64 n_0)))] (.one (.d (.v (.string r))))
  | 0, _,  _, h => (by cases h)
  | n + 1, n_0,  r, h => ct_ref01_Number_b _ (fun n_0 r h => ct_ref01_Number_n n n_0 r h) n_0 r h
theorem ct_ref01_Number (n_0 : Int) (r : ByteArray) (hF : ref01_Number n_0 = some r) : Ct Try.prog 37 [.g (.d (.v (.int .u64 n_0)))] (.one (.d (.v (.string r)))) := ct_ref01_Number_n FU n_0 r hF


set_option maxRecDepth 20000 in
set_option maxHeartbeats 2000000 in
theorem ct_ref01_Text (s_0 : ByteArray) (r : ByteArray) (hF : ref01_Text s_0 = some r) : Ct Try.prog 36 [.g (.d (.v (.string s_0)))] (.one (.d (.v (.string r)))) := by
  unfold ref01_Text at hF
  refine Ct.intro Try.func36 rfl Try.ntmps36 rfl rfl fun M w => ?_
  refine G.seq ?_
  refine G.region ?_
  refine G.op1 (op_assign (Ev.c _ rfl) rfl) rfl trivial trivial ?_
  refine G.endOps ?_
  refine G.seq ?_
  refine G.region ?_
  refine G.op1 (op_move (Ev.t 0 (bS s_0)) rfl) rfl ⟨rfl, trivial⟩ trivial ?_
  refine G.op1 (op_lenS Try.underlying9 (Ev.t 3 (bS s_0)) rfl) rfl ⟨rfl, trivial⟩ trivial ?_
  refine G.op1 (op_convI Try.underlying3 Try.underlying57 (Ev.t 4 (bI .i64 (s_0.size : Int))) rfl) rfl ⟨rfl, trivial⟩ trivial ?_
  obtain ⟨r1, hr1, hF⟩ := bindS hF
  refine G.op1 (op_callQ (sv := .one (bS r1)) cf37 (ct_ref01_Number (IntKind.wrap .u64 (s_0.size : Int)) r1 hr1) rfl rfl (EvQL.cons (EvQ.g (Ev.t 5 (bI .u64 (IntKind.wrap .u64 (s_0.size : Int))))) EvQL.nil) rfl) rfl ⟨rfl, trivial⟩ trivial ?_
  refine G.op1 (op_move (Ev.t 0 (bS s_0)) rfl) rfl ⟨rfl, trivial⟩ trivial ?_
  obtain ⟨s2, hs2, hF⟩ := bindS hF
  refine G.op1 (OpL.cast (op_cat (scat_ok hs2).1 (Ev.t 6 (bS r1)) (Ev.t 7 (bS s_0)) rfl) (by rw [(scat_ok hs2).2])) rfl ⟨rfl, rfl, trivial⟩ trivial ?_
  refine G.op1 (op_assign (Ev.t 8 (bS s2)) rfl) rfl ⟨rfl, trivial⟩ trivial ?_
  refine G.endOps ?_
  cases hF
  exact G.ret1 Try.results36 (RVar.tmp 2 _) ⟨rfl, trivial⟩ trivial


set_option maxRecDepth 20000 in
set_option maxHeartbeats 2000000 in
theorem ct_ref03_Bytes (s_0 : Api_Stamp) (r : ByteArray) (hF : ref03_Bytes s_0 = some r) : Ct Try.prog 38 [.g (.agg (encApi_Stamp s_0))] (.one (.d (.v (.string r)))) := by
  unfold ref03_Bytes at hF
  refine Ct.intro Try.func38 rfl Try.ntmps38 rfl rfl fun M w => ?_
  refine G.seq ?_
  refine G.region ?_
  refine G.op2 (op_boxA (k := 1001) (Ev.t 0 (.g (.agg [.v (.int .i64 s_0.N), .v (.int .i64 s_0.Site)]))) rfl) rfl ⟨rfl, trivial⟩ ⟨rfl, trivial⟩ ?_
  refine G.op1 (op_assign (Ev.c _ rfl) rfl) rfl trivial trivial ?_
  refine G.endOps ?_
  refine G.seq ?_
  refine G.region ?_
  refine G.op1 (op_loadAP (ds := [.v (.int .i64 s_0.N), .v (.int .i64 s_0.Site)]) Try.underlying23 rfl ti23 rfl (Ev.t 1 (.ptr 1001 0)) rfl) rfl ⟨rfl, trivial⟩ ⟨rfl, trivial⟩ ?_
  obtain ⟨r1, hr1, hF⟩ := bindS hF
  refine G.op1 (op_callQ (sv := .one (bB r1)) cf29 (ct_ref03_Check s_0 r1 hr1) rfl rfl (EvQL.cons (EvQ.g (Ev.t 4 (.g (.agg [.v (.int .i64 s_0.N), .v (.int .i64 s_0.Site)])))) EvQL.nil) rfl) rfl ⟨rfl, trivial⟩ trivial ?_
  refine G.op1 (op_assign (Ev.t 5 (bB r1)) rfl) rfl ⟨rfl, trivial⟩ trivial ?_
  refine G.endOps ?_
  refine G.seq ?_
  refine G.seq ?_
  refine G.region ?_
  refine G.op1 (op_move (Ev.t 3 (bB r1)) rfl) rfl ⟨rfl, trivial⟩ trivial ?_
  refine G.op1 (op_not (Ev.t 6 (bB r1)) rfl) rfl ⟨rfl, trivial⟩ trivial ?_
  refine G.endOps ?_
  refine ifS hF (fun hc2 hF => ?_) (fun hc2 hF => ?_)
  · refine G.cond rfl (fun _ => ?_) (fun hx => by rw [hc2] at hx; cases hx)
    refine G.seq ?_
    refine G.region ?_
    refine G.op1 (op_assign (Ev.c _ rfl) rfl) rfl trivial trivial ?_
    refine G.endOps ?_
    cases hF
    exact G.ret1 Try.results38 (RVar.tmp 2 _) ⟨rfl, trivial⟩ trivial
  · refine G.cond rfl (fun hx => by rw [hc2] at hx; cases hx) (fun _ => ?_)
    refine G.skip ?_
    refine G.seq ?_
    obtain ⟨r3, hr3, hF⟩ := bindS hF
    obtain ⟨r4, hr4, hF⟩ := bindS hF
    obtain ⟨s5, hs5, hF⟩ := bindS hF
    refine G.drawn (effs := [⟨[(1, .one (.ptr 1001 0))], [], [(8, .one (.ptr 1001 0))], []⟩, ⟨[(8, .one (.ptr 1001 0))], [(1001, some (.blk 23 [bI .i64 s_0.N, bI .i64 s_0.Site]))], [(9, .one (bI .i64 s_0.N))], []⟩, ⟨[(9, .one (bI .i64 s_0.N))], [], [(10, .one (bI .u64 (IntKind.wrap .u64 s_0.N)))], []⟩, ⟨[(10, .one (bI .u64 (IntKind.wrap .u64 s_0.N)))], [], [(11, .one (bS r3))], []⟩, ⟨[(1, .one (.ptr 1001 0))], [], [(12, .one (.ptr 1001 1))], []⟩, ⟨[(12, .one (.ptr 1001 1))], [(1001, some (.blk 23 [bI .i64 s_0.N, bI .i64 s_0.Site]))], [(13, .one (bI .i64 s_0.Site))], []⟩, ⟨[(13, .one (bI .i64 s_0.Site))], [], [(14, .one (bI .u64 (IntKind.wrap .u64 s_0.Site)))], []⟩, ⟨[(14, .one (bI .u64 (IntKind.wrap .u64 s_0.Site)))], [], [(15, .one (bS r4))], []⟩, ⟨[(11, .one (bS r3)), (15, .one (bS r4))], [], [(16, .one (bS s5))], []⟩, ⟨[(16, .one (bS s5))], [], [(2, .one (bS s5))], []⟩]) (deps := [[], [0], [0, 1], [0, 1, 2], [], [4], [4, 5], [0, 1, 2, 3, 4, 5, 6], [0, 1, 2, 3, 4, 5, 6, 7], [0, 1, 2, 3, 4, 5, 6, 7, 8]]) (sl' := [(2, .one (bS s5))]) (hp' := []) follows rfl rfl rfl ⟨⟨rfl, trivial⟩, trivial, ⟨rfl, trivial⟩, ⟨⟨rfl, rfl⟩, trivial⟩, ⟨rfl, trivial⟩, trivial, ⟨rfl, trivial⟩, trivial, ⟨rfl, trivial⟩, trivial, ⟨rfl, trivial⟩, ⟨⟨rfl, rfl⟩, trivial⟩, ⟨rfl, trivial⟩, trivial, ⟨rfl, trivial⟩, trivial, ⟨rfl, rfl, trivial⟩, trivial, ⟨rfl, trivial⟩, trivial, trivial⟩ ⟨OpW.plain (op_fieldP (off' := 0) Try.underlying23 rfl ti3 (by decide) rfl (Ev.t 1 (.ptr 1001 0)) rfl) rfl rfl, OpW.plain (op_load1P (c := bI .i64 s_0.N) Try.underlying3 rfl rfl (Ev.t 8 (.ptr 1001 0)) rfl) rfl rfl, OpW.plain (op_convI Try.underlying3 Try.underlying57 (Ev.t 9 (bI .i64 s_0.N)) rfl) rfl rfl, OpW.plain (op_callQ (sv := .one (bS r3)) cf37 (ct_ref01_Number (IntKind.wrap .u64 s_0.N) r3 hr3) rfl rfl (EvQL.cons (EvQ.g (Ev.t 10 (bI .u64 (IntKind.wrap .u64 s_0.N)))) EvQL.nil) rfl) rfl rfl, OpW.plain (op_fieldP (off' := 1) Try.underlying23 rfl ti3 (by decide) rfl (Ev.t 1 (.ptr 1001 0)) rfl) rfl rfl, OpW.plain (op_load1P (c := bI .i64 s_0.Site) Try.underlying3 rfl rfl (Ev.t 12 (.ptr 1001 1)) rfl) rfl rfl, OpW.plain (op_convI Try.underlying3 Try.underlying57 (Ev.t 13 (bI .i64 s_0.Site)) rfl) rfl rfl, OpW.plain (op_callQ (sv := .one (bS r4)) cf37 (ct_ref01_Number (IntKind.wrap .u64 s_0.Site) r4 hr4) rfl rfl (EvQL.cons (EvQ.g (Ev.t 14 (bI .u64 (IntKind.wrap .u64 s_0.Site)))) EvQL.nil) rfl) rfl rfl, OpW.plain (OpL.cast (op_cat (scat_ok hs5).1 (Ev.t 11 (bS r3)) (Ev.t 15 (bS r4)) rfl) (by rw [(scat_ok hs5).2])) rfl rfl, OpW.plain (op_assign (Ev.t 16 (bS s5)) rfl) rfl rfl, trivial⟩ ⟨rfl, trivial⟩ trivial rfl ?_
    cases hF
    exact G.ret1 Try.results38 (RVar.tmp 2 _) ⟨rfl, trivial⟩ trivial


set_option maxRecDepth 20000 in
set_option maxHeartbeats 2000000 in
theorem ct_ref04_Bytes (p_0 : (List Api_Dep)) (r : ByteArray) (hF : ref04_Bytes p_0 = some r) : Ct Try.prog 39 [.g (.d (.sl 3 (List.map encApi_Dep p_0)))] (.one (.d (.v (.string r)))) := by
  unfold ref04_Bytes at hF
  refine Ct.intro Try.func39 rfl Try.ntmps39 rfl rfl fun M w => ?_
  refine G.seq ?_
  refine G.region ?_
  refine G.op1 (op_assign (Ev.c _ rfl) rfl) rfl trivial trivial ?_
  refine G.endOps ?_
  refine G.seq ?_
  refine G.region ?_
  refine G.op1 (op_move (Ev.t 0 (.g (.d (.sl 3 (List.map encApi_Dep p_0))))) rfl) rfl ⟨rfl, trivial⟩ trivial ?_
  obtain ⟨r1, hr1, hF⟩ := bindS hF
  refine G.op1 (op_callQ (sv := .one (bB r1)) cf30 (ct_ref04_Check p_0 r1 hr1) rfl rfl (EvQL.cons (EvQ.g (Ev.t 6 (.g (.d (.sl 3 (List.map encApi_Dep p_0)))))) EvQL.nil) rfl) rfl ⟨rfl, trivial⟩ trivial ?_
  refine G.op1 (op_assign (Ev.t 7 (bB r1)) rfl) rfl ⟨rfl, trivial⟩ trivial ?_
  refine G.endOps ?_
  refine G.seq ?_
  refine G.seq ?_
  refine G.region ?_
  refine G.op1 (op_move (Ev.t 3 (bB r1)) rfl) rfl ⟨rfl, trivial⟩ trivial ?_
  refine G.op1 (op_not (Ev.t 8 (bB r1)) rfl) rfl ⟨rfl, trivial⟩ trivial ?_
  refine G.endOps ?_
  refine ifS hF (fun hc2 hF => ?_) (fun hc2 hF => ?_)
  · refine G.cond rfl (fun _ => ?_) (fun hx => by rw [hc2] at hx; cases hx)
    refine G.seq ?_
    refine G.region ?_
    refine G.op1 (op_assign (Ev.c _ rfl) rfl) rfl trivial trivial ?_
    refine G.endOps ?_
    cases hF
    exact G.ret1 Try.results39 (RVar.tmp 2 _) ⟨rfl, trivial⟩ trivial
  · refine G.cond rfl (fun hx => by rw [hc2] at hx; cases hx) (fun _ => ?_)
    refine G.skip ?_
    refine G.seq ?_
    refine G.region ?_
    refine G.op1 (op_move (Ev.t 0 (.g (.d (.sl 3 (List.map encApi_Dep p_0))))) rfl) rfl ⟨rfl, trivial⟩ trivial ?_
    refine G.op1 (OpL.cast (op_lenD Try.underlying24 (Ev.t 10 (.g (.d (.sl 3 (List.map encApi_Dep p_0))))) rfl) (by rw [List.length_map])) rfl ⟨rfl, trivial⟩ trivial ?_
    refine G.op1 (op_convI Try.underlying3 Try.underlying57 (Ev.t 11 (bI .i64 (p_0.length : Int))) rfl) rfl ⟨rfl, trivial⟩ trivial ?_
    obtain ⟨r3, hr3, hF⟩ := bindS hF
    refine G.op1 (op_callQ (sv := .one (bS r3)) cf37 (ct_ref01_Number (IntKind.wrap .u64 (p_0.length : Int)) r3 hr3) rfl rfl (EvQL.cons (EvQ.g (Ev.t 12 (bI .u64 (IntKind.wrap .u64 (p_0.length : Int))))) EvQL.nil) rfl) rfl ⟨rfl, trivial⟩ trivial ?_
    refine G.op1 (op_assign (Ev.t 13 (bS r3)) rfl) rfl ⟨rfl, trivial⟩ trivial ?_
    refine G.endOps ?_
    refine G.seq ?_
    refine G.seq ?_
    refine G.region ?_
    refine G.op1 (op_assign (Ev.c _ rfl) rfl) rfl trivial trivial ?_
    refine G.endOps ?_
    refine G.joinC (T := ByteArray) (fun y4 => ⟨[(4, .one (bS y4))], []⟩) (fun y4 => ref04_Bytes_k1 y4 = some r) (fun y4 hF => ?_) (fun J5 => ?_)
    · unfold ref04_Bytes_k1 at hF
      refine G.seq ?_
      refine G.region ?_
      refine G.op1 (op_move (Ev.t 4 (bS y4)) rfl) rfl ⟨rfl, trivial⟩ trivial ?_
      refine G.op1 (op_assign (Ev.t 35 (bS y4)) rfl) rfl ⟨rfl, trivial⟩ trivial ?_
      refine G.endOps ?_
      cases hF
      exact G.ret1 Try.results39 (RVar.tmp 2 _) ⟨rfl, trivial⟩ trivial
    refine G.block ?_
    refine G.keep (sl' := [(0, .one (.g (.d (.sl 3 (List.map encApi_Dep p_0))))), (4, .one (bS r3)), (5, .one (bI .i64 0))]) (hp' := []) ⟨rfl, rfl, rfl, trivial⟩ trivial rfl ?_
    refine G.loopF (fun (v6 : ByteArray × Int) => ⟨[(0, .one (.g (.d (.sl 3 (List.map encApi_Dep p_0))))), (4, .one (bS v6.1)), (5, .one (bI .i64 v6.2))], []⟩) hF rfl (fun K9 again8 v6 J7 hF => ?_)
    unfold ref04_Bytes_l2 at hF
    refine G.seq ?_
    refine G.seq ?_
    refine G.region ?_
    refine G.op1 (op_move (Ev.t 5 (bI .i64 v6.2)) rfl) rfl ⟨rfl, trivial⟩ trivial ?_
    refine G.op1 (op_move (Ev.t 0 (.g (.d (.sl 3 (List.map encApi_Dep p_0))))) rfl) rfl ⟨rfl, trivial⟩ trivial ?_
    refine G.op1 (OpL.cast (op_lenD Try.underlying24 (Ev.t 15 (.g (.d (.sl 3 (List.map encApi_Dep p_0))))) rfl) (by rw [List.length_map])) rfl ⟨rfl, trivial⟩ trivial ?_
    refine G.op1 (op_lss (Ev.t 14 (bI .i64 v6.2)) (Ev.t 16 (bI .i64 (p_0.length : Int))) rfl) rfl ⟨rfl, rfl, trivial⟩ trivial ?_
    refine G.endOps ?_
    refine ifS hF (fun hc10 hF => ?_) (fun hc10 hF => ?_)
    · refine G.cond rfl (fun _ => ?_) (fun hx => by rw [hc10] at hx; cases hx)
      refine G.skip ?_
      refine G.seq ?_
      refine G.block ?_
      obtain ⟨x11, hx11, hF⟩ := bindS hF
      obtain ⟨r12, hr12, hF⟩ := bindS hF
      obtain ⟨s13, hs13, hF⟩ := bindS hF
      obtain ⟨x14, hx14, hF⟩ := bindS hF
      obtain ⟨r15, hr15, hF⟩ := bindS hF
      obtain ⟨s16, hs16, hF⟩ := bindS hF
      refine G.drawn (effs := [⟨[(4, .one (bS v6.1))], [], [(20, .one (bS v6.1))], []⟩, ⟨[(0, .one (.g (.d (.sl 3 (List.map encApi_Dep p_0)))))], [], [(21, .one (.g (.d (.sl 3 (List.map encApi_Dep p_0)))))], []⟩, ⟨[(5, .one (bI .i64 v6.2))], [], [(22, .one (bI .i64 v6.2))], []⟩, ⟨[(21, .one (.g (.d (.sl 3 (List.map encApi_Dep p_0))))), (22, .one (bI .i64 v6.2))], [], [(23, .one (.ep [.v (.string x11.Key), .v (.int .i64 x11.Stamp.N), .v (.int .i64 x11.Stamp.Site)]))], []⟩, ⟨[(23, .one (.ep [.v (.string x11.Key), .v (.int .i64 x11.Stamp.N), .v (.int .i64 x11.Stamp.Site)]))], [], [(24, .one (.ep [.v (.string x11.Key), .v (.int .i64 x11.Stamp.N), .v (.int .i64 x11.Stamp.Site)]))], []⟩, ⟨[(24, .one (.ep [.v (.string x11.Key), .v (.int .i64 x11.Stamp.N), .v (.int .i64 x11.Stamp.Site)]))], [], [(25, .one (bS x11.Key))], []⟩, ⟨[(25, .one (bS x11.Key))], [], [(26, .one (bS r12))], []⟩, ⟨[(20, .one (bS v6.1)), (26, .one (bS r12))], [], [(27, .one (bS s13))], []⟩, ⟨[(0, .one (.g (.d (.sl 3 (List.map encApi_Dep p_0)))))], [], [(28, .one (.g (.d (.sl 3 (List.map encApi_Dep p_0)))))], []⟩, ⟨[(5, .one (bI .i64 v6.2))], [], [(29, .one (bI .i64 v6.2))], []⟩, ⟨[(28, .one (.g (.d (.sl 3 (List.map encApi_Dep p_0))))), (29, .one (bI .i64 v6.2))], [], [(30, .one (.ep [.v (.string x14.Key), .v (.int .i64 x14.Stamp.N), .v (.int .i64 x14.Stamp.Site)]))], []⟩, ⟨[(30, .one (.ep [.v (.string x14.Key), .v (.int .i64 x14.Stamp.N), .v (.int .i64 x14.Stamp.Site)]))], [], [(31, .one (.ep [.v (.int .i64 x14.Stamp.N), .v (.int .i64 x14.Stamp.Site)]))], []⟩, ⟨[(31, .one (.ep [.v (.int .i64 x14.Stamp.N), .v (.int .i64 x14.Stamp.Site)]))], [], [(32, .one (.g (.agg [.v (.int .i64 x14.Stamp.N), .v (.int .i64 x14.Stamp.Site)])))], []⟩, ⟨[(32, .one (.g (.agg [.v (.int .i64 x14.Stamp.N), .v (.int .i64 x14.Stamp.Site)])))], [], [(33, .one (bS r15))], []⟩, ⟨[(27, .one (bS s13)), (33, .one (bS r15))], [], [(34, .one (bS s16))], []⟩, ⟨[(34, .one (bS s16))], [], [(4, .one (bS s16))], []⟩]) (deps := [[], [], [], [1, 2], [1, 2, 3], [1, 2, 3, 4], [1, 2, 3, 4, 5], [0, 1, 2, 3, 4, 5, 6], [], [], [8, 9], [8, 9, 10], [8, 9, 10, 11], [1, 2, 3, 4, 5, 6, 8, 9, 10, 11, 12], [0, 1, 2, 3, 4, 5, 6, 7, 8, 9, 10, 11, 12, 13], [0, 1, 2, 3, 4, 5, 6, 7, 8, 9, 10, 11, 12, 13, 14]]) (sl' := [(0, .one (.g (.d (.sl 3 (List.map encApi_Dep p_0))))), (4, .one (bS s16)), (5, .one (bI .i64 v6.2))]) (hp' := []) follows rfl rfl rfl ⟨⟨⟨rfl, rfl⟩, trivial⟩, trivial, ⟨rfl, trivial⟩, trivial, ⟨rfl, trivial⟩, trivial, ⟨rfl, rfl, trivial⟩, trivial, ⟨rfl, trivial⟩, trivial, ⟨rfl, trivial⟩, trivial, ⟨rfl, trivial⟩, trivial, ⟨rfl, rfl, trivial⟩, trivial, ⟨rfl, trivial⟩, trivial, ⟨rfl, trivial⟩, trivial, ⟨rfl, rfl, trivial⟩, trivial, ⟨rfl, trivial⟩, trivial, ⟨rfl, trivial⟩, trivial, ⟨rfl, trivial⟩, trivial, ⟨rfl, rfl, trivial⟩, trivial, ⟨rfl, trivial⟩, trivial, trivial⟩ ⟨OpW.plain (op_move (Ev.t 4 (bS v6.1)) rfl) rfl rfl, OpW.plain (op_move (Ev.t 0 (.g (.d (.sl 3 (List.map encApi_Dep p_0))))) rfl) rfl rfl, OpW.plain (op_move (Ev.t 5 (bI .i64 v6.2)) rfl) rfl rfl, OpW.plain (op_index (cs := [.v (.string x11.Key), .v (.int .i64 x11.Stamp.N), .v (.int .i64 x11.Stamp.Site)]) Try.underlying24 ti52 (idx_ok hx11).1 (idx_get hx11 encApi_Dep) (Ev.t 21 (.g (.d (.sl 3 (List.map encApi_Dep p_0))))) (Ev.t 22 (bI .i64 v6.2)) rfl) rfl rfl, OpW.plain (op_fieldE (cs' := [.v (.string x11.Key), .v (.int .i64 x11.Stamp.N), .v (.int .i64 x11.Stamp.Site)]) Try.underlying52 rfl ti9 (by decide) rfl (Ev.t 23 (.ep [.v (.string x11.Key), .v (.int .i64 x11.Stamp.N), .v (.int .i64 x11.Stamp.Site)])) rfl) rfl rfl, OpW.plain (op_load1E (c := .v (.string x11.Key)) Try.underlying9 rfl rfl (Ev.t 24 (.ep [.v (.string x11.Key), .v (.int .i64 x11.Stamp.N), .v (.int .i64 x11.Stamp.Site)])) rfl) rfl rfl, OpW.plain (op_callQ (sv := .one (bS r12)) cf36 (ct_ref01_Text x11.Key r12 hr12) rfl rfl (EvQL.cons (EvQ.g (Ev.t 25 (bS x11.Key))) EvQL.nil) rfl) rfl rfl, OpW.plain (OpL.cast (op_cat (scat_ok hs13).1 (Ev.t 20 (bS v6.1)) (Ev.t 26 (bS r12)) rfl) (by rw [(scat_ok hs13).2])) rfl rfl, OpW.plain (op_move (Ev.t 0 (.g (.d (.sl 3 (List.map encApi_Dep p_0))))) rfl) rfl rfl, OpW.plain (op_move (Ev.t 5 (bI .i64 v6.2)) rfl) rfl rfl, OpW.plain (op_index (cs := [.v (.string x14.Key), .v (.int .i64 x14.Stamp.N), .v (.int .i64 x14.Stamp.Site)]) Try.underlying24 ti52 (idx_ok hx14).1 (idx_get hx14 encApi_Dep) (Ev.t 28 (.g (.d (.sl 3 (List.map encApi_Dep p_0))))) (Ev.t 29 (bI .i64 v6.2)) rfl) rfl rfl, OpW.plain (op_fieldE (cs' := [.v (.int .i64 x14.Stamp.N), .v (.int .i64 x14.Stamp.Site)]) Try.underlying52 rfl ti23 (by decide) rfl (Ev.t 30 (.ep [.v (.string x14.Key), .v (.int .i64 x14.Stamp.N), .v (.int .i64 x14.Stamp.Site)])) rfl) rfl rfl, OpW.plain (op_loadAE (ds := [.v (.int .i64 x14.Stamp.N), .v (.int .i64 x14.Stamp.Site)]) Try.underlying23 rfl ti23 rfl (Ev.t 31 (.ep [.v (.int .i64 x14.Stamp.N), .v (.int .i64 x14.Stamp.Site)])) rfl) rfl rfl, OpW.plain (op_callQ (sv := .one (bS r15)) cf38 (ct_ref03_Bytes x14.Stamp r15 hr15) rfl rfl (EvQL.cons (EvQ.g (Ev.t 32 (.g (.agg [.v (.int .i64 x14.Stamp.N), .v (.int .i64 x14.Stamp.Site)])))) EvQL.nil) rfl) rfl rfl, OpW.plain (OpL.cast (op_cat (scat_ok hs16).1 (Ev.t 27 (bS s13)) (Ev.t 33 (bS r15)) rfl) (by rw [(scat_ok hs16).2])) rfl rfl, OpW.plain (op_assign (Ev.t 34 (bS s16)) rfl) rfl rfl, trivial⟩ ⟨rfl, rfl, rfl, trivial⟩ trivial rfl ?_
      refine G.endBlock ?_
      refine G.region ?_
      refine G.op1 (op_move (Ev.t 5 (bI .i64 v6.2)) rfl) rfl ⟨rfl, trivial⟩ trivial ?_
      refine G.op1 (op_add (Ev.t 18 (bI .i64 v6.2)) (Ev.c _ rfl) rfl) rfl ⟨rfl, trivial⟩ trivial ?_
      refine G.op1 (op_assign (Ev.t 19 (bI .i64 (IntKind.wrap .i64 (v6.2 + 1)))) rfl) rfl ⟨rfl, trivial⟩ trivial ?_
      refine G.endOps ?_
      exact G.arr (J7 (s16, IntKind.wrap .i64 (v6.2 + 1)) hF) ⟨rfl, rfl, rfl, trivial⟩ trivial rfl
    · refine G.cond rfl (fun hx => by rw [hc10] at hx; cases hx) (fun _ => ?_)
      refine G.exit ?_
      refine GX.c ?_
      refine GX.q ?_
      refine GX.bYes ?_
      exact G.arr (J5 v6.1 hF) ⟨rfl, trivial⟩ trivial rfl


set_option maxRecDepth 20000 in
set_option maxHeartbeats 2000000 in
theorem ct_ref06_Bytes (v_0 : Api_Version) (r : ByteArray) (hF : ref06_Bytes v_0 = some r) : Ct Try.prog 14 [.g (.agg (encApi_Version v_0))] (.one (.d (.v (.string r)))) := by
  unfold ref06_Bytes at hF
  refine Ct.intro Try.func14 rfl Try.ntmps14 rfl rfl fun M w => ?_
  refine G.seq ?_
  refine G.region ?_
  refine G.op2 (op_boxA (k := 1001) (Ev.t 0 (.g (.agg [.v (.string v_0.Key), .v (.string v_0.Value), .v (.bool v_0.Gone), .v (.int .i64 v_0.Stamp.N), .v (.int .i64 v_0.Stamp.Site), .sl 3 (List.map encApi_Dep v_0.Past)]))) rfl) rfl ⟨rfl, trivial⟩ ⟨rfl, trivial⟩ ?_
  refine G.op1 (op_assign (Ev.c _ rfl) rfl) rfl trivial trivial ?_
  refine G.endOps ?_
  refine G.seq ?_
  refine G.region ?_
  refine G.op1 (op_loadAP (ds := [.v (.string v_0.Key), .v (.string v_0.Value), .v (.bool v_0.Gone), .v (.int .i64 v_0.Stamp.N), .v (.int .i64 v_0.Stamp.Site), .sl 3 (List.map encApi_Dep v_0.Past)]) Try.underlying26 rfl ti26 rfl (Ev.t 1 (.ptr 1001 0)) rfl) rfl ⟨rfl, trivial⟩ ⟨rfl, trivial⟩ ?_
  obtain ⟨r1, hr1, hF⟩ := bindS hF
  refine G.op1 (op_callQ (sv := .one (bB r1)) cf12 (ct_ref06_Check v_0 r1 hr1) rfl rfl (EvQL.cons (EvQ.g (Ev.t 5 (.g (.agg [.v (.string v_0.Key), .v (.string v_0.Value), .v (.bool v_0.Gone), .v (.int .i64 v_0.Stamp.N), .v (.int .i64 v_0.Stamp.Site), .sl 3 (List.map encApi_Dep v_0.Past)])))) EvQL.nil) rfl) rfl ⟨rfl, trivial⟩ trivial ?_
  refine G.op1 (op_assign (Ev.t 6 (bB r1)) rfl) rfl ⟨rfl, trivial⟩ trivial ?_
  refine G.endOps ?_
  refine G.seq ?_
  refine G.seq ?_
  refine G.region ?_
  refine G.op1 (op_move (Ev.t 3 (bB r1)) rfl) rfl ⟨rfl, trivial⟩ trivial ?_
  refine G.op1 (op_not (Ev.t 7 (bB r1)) rfl) rfl ⟨rfl, trivial⟩ trivial ?_
  refine G.endOps ?_
  refine ifS hF (fun hc2 hF => ?_) (fun hc2 hF => ?_)
  · refine G.cond rfl (fun _ => ?_) (fun hx => by rw [hc2] at hx; cases hx)
    refine G.seq ?_
    refine G.region ?_
    refine G.op1 (op_assign (Ev.c _ rfl) rfl) rfl trivial trivial ?_
    refine G.endOps ?_
    cases hF
    exact G.ret1 Try.results14 (RVar.tmp 2 _) ⟨rfl, trivial⟩ trivial
  · refine G.cond rfl (fun hx => by rw [hc2] at hx; cases hx) (fun _ => ?_)
    refine G.skip ?_
    refine G.seq ?_
    refine G.region ?_
    refine G.op1 (op_assign (Ev.c _ rfl) rfl) rfl trivial trivial ?_
    refine G.endOps ?_
    refine G.seq ?_
    refine G.seq ?_
    refine G.region ?_
    refine G.op1 (op_fieldP (off' := 2) Try.underlying26 rfl ti4 (by decide) rfl (Ev.t 1 (.ptr 1001 0)) rfl) rfl ⟨rfl, trivial⟩ trivial ?_
    refine G.op1 (op_load1P (c := bB v_0.Gone) Try.underlying4 rfl rfl (Ev.t 9 (.ptr 1001 2)) rfl) rfl ⟨rfl, trivial⟩ ⟨rfl, trivial⟩ ?_
    refine G.endOps ?_
    refine G.joinC (T := Int) (fun y3 => ⟨[(1, .one (.ptr 1001 0)), (4, .one (bI .u64 y3))], [(1001, some (.blk 26 [bS v_0.Key, bS v_0.Value, bB v_0.Gone, bI .i64 v_0.Stamp.N, bI .i64 v_0.Stamp.Site, .g (.d (.sl 3 (List.map encApi_Dep v_0.Past)))]))]⟩) (fun y3 => ref06_Bytes_k1 v_0 y3 = some r) (fun y3 hF => ?_) (fun J13 => ?_)
    · unfold ref06_Bytes_k1 at hF
      refine G.seq ?_
      obtain ⟨r4, hr4, hF⟩ := bindS hF
      obtain ⟨r5, hr5, hF⟩ := bindS hF
      obtain ⟨s6, hs6, hF⟩ := bindS hF
      obtain ⟨r7, hr7, hF⟩ := bindS hF
      obtain ⟨s8, hs8, hF⟩ := bindS hF
      obtain ⟨r9, hr9, hF⟩ := bindS hF
      obtain ⟨s10, hs10, hF⟩ := bindS hF
      obtain ⟨r11, hr11, hF⟩ := bindS hF
      obtain ⟨s12, hs12, hF⟩ := bindS hF
      refine G.drawn (effs := [⟨[(1, .one (.ptr 1001 0))], [], [(11, .one (.ptr 1001 0))], []⟩, ⟨[(11, .one (.ptr 1001 0))], [(1001, some (.blk 26 [bS v_0.Key, bS v_0.Value, bB v_0.Gone, bI .i64 v_0.Stamp.N, bI .i64 v_0.Stamp.Site, .g (.d (.sl 3 (List.map encApi_Dep v_0.Past)))]))], [(12, .one (bS v_0.Key))], []⟩, ⟨[(12, .one (bS v_0.Key))], [], [(13, .one (bS r4))], []⟩, ⟨[(4, .one (bI .u64 y3))], [], [(14, .one (bI .u64 y3))], []⟩, ⟨[(14, .one (bI .u64 y3))], [], [(15, .one (bS r5))], []⟩, ⟨[(13, .one (bS r4)), (15, .one (bS r5))], [], [(16, .one (bS s6))], []⟩, ⟨[(1, .one (.ptr 1001 0))], [], [(17, .one (.ptr 1001 1))], []⟩, ⟨[(17, .one (.ptr 1001 1))], [(1001, some (.blk 26 [bS v_0.Key, bS v_0.Value, bB v_0.Gone, bI .i64 v_0.Stamp.N, bI .i64 v_0.Stamp.Site, .g (.d (.sl 3 (List.map encApi_Dep v_0.Past)))]))], [(18, .one (bS v_0.Value))], []⟩, ⟨[(18, .one (bS v_0.Value))], [], [(19, .one (bS r7))], []⟩, ⟨[(16, .one (bS s6)), (19, .one (bS r7))], [], [(20, .one (bS s8))], []⟩, ⟨[(1, .one (.ptr 1001 0))], [], [(21, .one (.ptr 1001 3))], []⟩, ⟨[(21, .one (.ptr 1001 3))], [(1001, some (.blk 26 [bS v_0.Key, bS v_0.Value, bB v_0.Gone, bI .i64 v_0.Stamp.N, bI .i64 v_0.Stamp.Site, .g (.d (.sl 3 (List.map encApi_Dep v_0.Past)))]))], [(22, .one (.g (.agg [.v (.int .i64 v_0.Stamp.N), .v (.int .i64 v_0.Stamp.Site)])))], []⟩, ⟨[(22, .one (.g (.agg [.v (.int .i64 v_0.Stamp.N), .v (.int .i64 v_0.Stamp.Site)])))], [], [(23, .one (bS r9))], []⟩, ⟨[(20, .one (bS s8)), (23, .one (bS r9))], [], [(24, .one (bS s10))], []⟩, ⟨[(1, .one (.ptr 1001 0))], [], [(25, .one (.ptr 1001 5))], []⟩, ⟨[(25, .one (.ptr 1001 5))], [(1001, some (.blk 26 [bS v_0.Key, bS v_0.Value, bB v_0.Gone, bI .i64 v_0.Stamp.N, bI .i64 v_0.Stamp.Site, .g (.d (.sl 3 (List.map encApi_Dep v_0.Past)))]))], [(26, .one (.g (.d (.sl 3 (List.map encApi_Dep v_0.Past)))))], []⟩, ⟨[(26, .one (.g (.d (.sl 3 (List.map encApi_Dep v_0.Past)))))], [], [(27, .one (bS r11))], []⟩, ⟨[(24, .one (bS s10)), (27, .one (bS r11))], [], [(28, .one (bS s12))], []⟩, ⟨[(28, .one (bS s12))], [], [(2, .one (bS s12))], []⟩]) (deps := [[], [0], [0, 1], [], [0, 1, 2, 3], [0, 1, 2, 3, 4], [], [6], [0, 1, 2, 3, 4, 6, 7], [0, 1, 2, 3, 4, 5, 6, 7, 8], [], [10], [0, 1, 2, 3, 4, 6, 7, 8, 10, 11], [0, 1, 2, 3, 4, 5, 6, 7, 8, 9, 10, 11, 12], [], [14], [0, 1, 2, 3, 4, 6, 7, 8, 10, 11, 12, 14, 15], [0, 1, 2, 3, 4, 5, 6, 7, 8, 9, 10, 11, 12, 13, 14, 15, 16], [0, 1, 2, 3, 4, 5, 6, 7, 8, 9, 10, 11, 12, 13, 14, 15, 16, 17]]) (sl' := [(2, .one (bS s12))]) (hp' := []) follows rfl rfl rfl ⟨⟨rfl, trivial⟩, trivial, ⟨rfl, trivial⟩, ⟨⟨rfl, rfl⟩, trivial⟩, ⟨rfl, trivial⟩, trivial, ⟨rfl, trivial⟩, trivial, ⟨rfl, trivial⟩, trivial, ⟨rfl, rfl, trivial⟩, trivial, ⟨rfl, trivial⟩, trivial, ⟨rfl, trivial⟩, ⟨⟨rfl, rfl⟩, trivial⟩, ⟨rfl, trivial⟩, trivial, ⟨rfl, rfl, trivial⟩, trivial, ⟨rfl, trivial⟩, trivial, ⟨rfl, trivial⟩, ⟨⟨rfl, rfl⟩, trivial⟩, ⟨rfl, trivial⟩, trivial, ⟨rfl, rfl, trivial⟩, trivial, ⟨rfl, trivial⟩, trivial, ⟨rfl, trivial⟩, ⟨⟨rfl, rfl⟩, trivial⟩, ⟨rfl, trivial⟩, trivial, ⟨rfl, rfl, trivial⟩, trivial, ⟨rfl, trivial⟩, trivial, trivial⟩ ⟨OpW.plain (op_fieldP (off' := 0) Try.underlying26 rfl ti9 (by decide) rfl (Ev.t 1 (.ptr 1001 0)) rfl) rfl rfl, OpW.plain (op_load1P (c := bS v_0.Key) Try.underlying9 rfl rfl (Ev.t 11 (.ptr 1001 0)) rfl) rfl rfl, OpW.plain (op_callQ (sv := .one (bS r4)) cf36 (ct_ref01_Text v_0.Key r4 hr4) rfl rfl (EvQL.cons (EvQ.g (Ev.t 12 (bS v_0.Key))) EvQL.nil) rfl) rfl rfl, OpW.plain (op_move (Ev.t 4 (bI .u64 y3)) rfl) rfl rfl, OpW.plain (op_callQ (sv := .one (bS r5)) cf37 (ct_ref01_Number y3 r5 hr5) rfl rfl (EvQL.cons (EvQ.g (Ev.t 14 (bI .u64 y3))) EvQL.nil) rfl) rfl rfl, OpW.plain (OpL.cast (op_cat (scat_ok hs6).1 (Ev.t 13 (bS r4)) (Ev.t 15 (bS r5)) rfl) (by rw [(scat_ok hs6).2])) rfl rfl, OpW.plain (op_fieldP (off' := 1) Try.underlying26 rfl ti9 (by decide) rfl (Ev.t 1 (.ptr 1001 0)) rfl) rfl rfl, OpW.plain (op_load1P (c := bS v_0.Value) Try.underlying9 rfl rfl (Ev.t 17 (.ptr 1001 1)) rfl) rfl rfl, OpW.plain (op_callQ (sv := .one (bS r7)) cf36 (ct_ref01_Text v_0.Value r7 hr7) rfl rfl (EvQL.cons (EvQ.g (Ev.t 18 (bS v_0.Value))) EvQL.nil) rfl) rfl rfl, OpW.plain (OpL.cast (op_cat (scat_ok hs8).1 (Ev.t 16 (bS s6)) (Ev.t 19 (bS r7)) rfl) (by rw [(scat_ok hs8).2])) rfl rfl, OpW.plain (op_fieldP (off' := 3) Try.underlying26 rfl ti23 (by decide) rfl (Ev.t 1 (.ptr 1001 0)) rfl) rfl rfl, OpW.plain (op_loadAP (ds := [.v (.int .i64 v_0.Stamp.N), .v (.int .i64 v_0.Stamp.Site)]) Try.underlying23 rfl ti23 rfl (Ev.t 21 (.ptr 1001 3)) rfl) rfl rfl, OpW.plain (op_callQ (sv := .one (bS r9)) cf38 (ct_ref03_Bytes v_0.Stamp r9 hr9) rfl rfl (EvQL.cons (EvQ.g (Ev.t 22 (.g (.agg [.v (.int .i64 v_0.Stamp.N), .v (.int .i64 v_0.Stamp.Site)])))) EvQL.nil) rfl) rfl rfl, OpW.plain (OpL.cast (op_cat (scat_ok hs10).1 (Ev.t 20 (bS s8)) (Ev.t 23 (bS r9)) rfl) (by rw [(scat_ok hs10).2])) rfl rfl, OpW.plain (op_fieldP (off' := 5) Try.underlying26 rfl ti24 (by decide) rfl (Ev.t 1 (.ptr 1001 0)) rfl) rfl rfl, OpW.plain (op_load1P (c := .g (.d (.sl 3 (List.map encApi_Dep v_0.Past)))) Try.underlying24 rfl rfl (Ev.t 25 (.ptr 1001 5)) rfl) rfl rfl, OpW.plain (op_callQ (sv := .one (bS r11)) cf39 (ct_ref04_Bytes v_0.Past r11 hr11) rfl rfl (EvQL.cons (EvQ.g (Ev.t 26 (.g (.d (.sl 3 (List.map encApi_Dep v_0.Past)))))) EvQL.nil) rfl) rfl rfl, OpW.plain (OpL.cast (op_cat (scat_ok hs12).1 (Ev.t 24 (bS s10)) (Ev.t 27 (bS r11)) rfl) (by rw [(scat_ok hs12).2])) rfl rfl, OpW.plain (op_assign (Ev.t 28 (bS s12)) rfl) rfl rfl, trivial⟩ ⟨rfl, trivial⟩ trivial rfl ?_
      cases hF
      exact G.ret1 Try.results14 (RVar.tmp 2 _) ⟨rfl, trivial⟩ trivial
    refine ifS hF (fun hc14 hF => ?_) (fun hc14 hF => ?_)
    · refine G.cond rfl (fun _ => ?_) (fun hx => by rw [hc14] at hx; cases hx)
      refine G.region ?_
      refine G.op1 (op_assign (Ev.c _ rfl) rfl) rfl trivial trivial ?_
      refine G.endOps ?_
      exact G.arr (J13 1 hF) ⟨rfl, rfl, trivial⟩ ⟨rfl, trivial⟩ rfl
    · refine G.cond rfl (fun hx => by rw [hc14] at hx; cases hx) (fun _ => ?_)
      refine G.skip ?_
      exact G.arr (J13 0 hF) ⟨rfl, rfl, trivial⟩ ⟨rfl, trivial⟩ rfl


set_option maxRecDepth 20000 in
set_option maxHeartbeats 2000000 in
theorem ct_ref04_Same (p_0 : (List Api_Dep)) (q_1 : (List Api_Dep)) (r : Bool) (hF : ref04_Same p_0 q_1 = some r) : Ct Try.prog 41 [.g (.d (.sl 3 (List.map encApi_Dep p_0))), .g (.d (.sl 3 (List.map encApi_Dep q_1)))] (.one (.d (.v (.bool r)))) := by
  unfold ref04_Same at hF
  refine Ct.intro Try.func41 rfl Try.ntmps41 rfl rfl fun M w => ?_
  refine G.seq ?_
  refine G.region ?_
  refine G.op1 (op_assign (Ev.c _ rfl) rfl) rfl trivial trivial ?_
  refine G.endOps ?_
  refine G.seq ?_
  refine G.seq ?_
  refine G.region ?_
  refine G.op1 (op_move (Ev.t 0 (.g (.d (.sl 3 (List.map encApi_Dep p_0))))) rfl) rfl ⟨rfl, trivial⟩ trivial ?_
  refine G.op1 (OpL.cast (op_lenD Try.underlying24 (Ev.t 6 (.g (.d (.sl 3 (List.map encApi_Dep p_0))))) rfl) (by rw [List.length_map])) rfl ⟨rfl, trivial⟩ trivial ?_
  refine G.op1 (op_move (Ev.t 1 (.g (.d (.sl 3 (List.map encApi_Dep q_1))))) rfl) rfl ⟨rfl, trivial⟩ trivial ?_
  refine G.op1 (OpL.cast (op_lenD Try.underlying24 (Ev.t 8 (.g (.d (.sl 3 (List.map encApi_Dep q_1))))) rfl) (by rw [List.length_map])) rfl ⟨rfl, trivial⟩ trivial ?_
  refine G.op1 (op_neI (Ev.t 7 (bI .i64 (p_0.length : Int))) (Ev.t 9 (bI .i64 (q_1.length : Int))) rfl) rfl ⟨rfl, rfl, trivial⟩ trivial ?_
  refine G.endOps ?_
  refine ifS hF (fun hc1 hF => ?_) (fun hc1 hF => ?_)
  · refine G.cond rfl (fun _ => ?_) (fun hx => by rw [hc1] at hx; cases hx)
    refine G.seq ?_
    refine G.region ?_
    refine G.op1 (op_assign (Ev.c _ rfl) rfl) rfl trivial trivial ?_
    refine G.endOps ?_
    cases hF
    exact G.ret1 Try.results41 (RVar.tmp 4 _) ⟨rfl, trivial⟩ trivial
  · refine G.cond rfl (fun hx => by rw [hc1] at hx; cases hx) (fun _ => ?_)
    refine G.skip ?_
    refine G.seq ?_
    refine G.seq ?_
    refine G.region ?_
    refine G.op1 (op_assign (Ev.c _ rfl) rfl) rfl trivial trivial ?_
    refine G.endOps ?_
    refine G.joinC (T := Unit) (fun y2 => ⟨[], []⟩) (fun y2 => ref04_Same_k1 y2 = some r) (fun y2 hF => ?_) (fun J3 => ?_)
    · unfold ref04_Same_k1 at hF
      refine G.seq ?_
      refine G.region ?_
      refine G.op1 (op_assign (Ev.c _ rfl) rfl) rfl trivial trivial ?_
      refine G.endOps ?_
      cases hF
      exact G.ret1 Try.results41 (RVar.tmp 4 _) ⟨rfl, trivial⟩ trivial
    refine G.block ?_
    refine G.keep (sl' := [(0, .one (.g (.d (.sl 3 (List.map encApi_Dep p_0))))), (1, .one (.g (.d (.sl 3 (List.map encApi_Dep q_1))))), (5, .one (bI .i64 0))]) (hp' := []) ⟨rfl, rfl, rfl, trivial⟩ trivial rfl ?_
    refine G.loopF (fun (v4 : Int) => ⟨[(0, .one (.g (.d (.sl 3 (List.map encApi_Dep p_0))))), (1, .one (.g (.d (.sl 3 (List.map encApi_Dep q_1))))), (5, .one (bI .i64 v4))], []⟩) hF rfl (fun K7 again6 v4 J5 hF => ?_)
    unfold ref04_Same_l2 at hF
    refine G.seq ?_
    refine G.seq ?_
    refine G.region ?_
    refine G.op1 (op_move (Ev.t 5 (bI .i64 v4)) rfl) rfl ⟨rfl, trivial⟩ trivial ?_
    refine G.op1 (op_move (Ev.t 0 (.g (.d (.sl 3 (List.map encApi_Dep p_0))))) rfl) rfl ⟨rfl, trivial⟩ trivial ?_
    refine G.op1 (OpL.cast (op_lenD Try.underlying24 (Ev.t 12 (.g (.d (.sl 3 (List.map encApi_Dep p_0))))) rfl) (by rw [List.length_map])) rfl ⟨rfl, trivial⟩ trivial ?_
    refine G.op1 (op_lss (Ev.t 11 (bI .i64 v4)) (Ev.t 13 (bI .i64 (p_0.length : Int))) rfl) rfl ⟨rfl, rfl, trivial⟩ trivial ?_
    refine G.endOps ?_
    refine ifS hF (fun hc8 hF => ?_) (fun hc8 hF => ?_)
    · refine G.cond rfl (fun _ => ?_) (fun hx => by rw [hc8] at hx; cases hx)
      refine G.skip ?_
      refine G.seq ?_
      refine G.block ?_
      refine G.seq ?_
      obtain ⟨x9, hx9, hF⟩ := bindS hF
      obtain ⟨x10, hx10, hF⟩ := bindS hF
      refine G.drawn (effs := [⟨[(0, .one (.g (.d (.sl 3 (List.map encApi_Dep p_0)))))], [], [(17, .one (.g (.d (.sl 3 (List.map encApi_Dep p_0)))))], []⟩, ⟨[(5, .one (bI .i64 v4))], [], [(18, .one (bI .i64 v4))], []⟩, ⟨[(17, .one (.g (.d (.sl 3 (List.map encApi_Dep p_0))))), (18, .one (bI .i64 v4))], [], [(19, .one (.ep [.v (.string x9.Key), .v (.int .i64 x9.Stamp.N), .v (.int .i64 x9.Stamp.Site)]))], []⟩, ⟨[(19, .one (.ep [.v (.string x9.Key), .v (.int .i64 x9.Stamp.N), .v (.int .i64 x9.Stamp.Site)]))], [], [(20, .one (.g (.agg [.v (.string x9.Key), .v (.int .i64 x9.Stamp.N), .v (.int .i64 x9.Stamp.Site)])))], []⟩, ⟨[(1, .one (.g (.d (.sl 3 (List.map encApi_Dep q_1)))))], [], [(21, .one (.g (.d (.sl 3 (List.map encApi_Dep q_1)))))], []⟩, ⟨[(5, .one (bI .i64 v4))], [], [(22, .one (bI .i64 v4))], []⟩, ⟨[(21, .one (.g (.d (.sl 3 (List.map encApi_Dep q_1))))), (22, .one (bI .i64 v4))], [], [(23, .one (.ep [.v (.string x10.Key), .v (.int .i64 x10.Stamp.N), .v (.int .i64 x10.Stamp.Site)]))], []⟩, ⟨[(23, .one (.ep [.v (.string x10.Key), .v (.int .i64 x10.Stamp.N), .v (.int .i64 x10.Stamp.Site)]))], [], [(24, .one (.g (.agg [.v (.string x10.Key), .v (.int .i64 x10.Stamp.N), .v (.int .i64 x10.Stamp.Site)])))], []⟩, ⟨[(20, .one (.g (.agg [.v (.string x9.Key), .v (.int .i64 x9.Stamp.N), .v (.int .i64 x9.Stamp.Site)]))), (24, .one (.g (.agg [.v (.string x10.Key), .v (.int .i64 x10.Stamp.N), .v (.int .i64 x10.Stamp.Site)])))], [], [(25, .one (bB (!(decide (x9.Key = x10.Key) && decide (x9.Stamp.N = x10.Stamp.N) && decide (x9.Stamp.Site = x10.Stamp.Site)))))], []⟩]) (deps := [[], [], [0, 1], [0, 1, 2], [], [], [4, 5], [4, 5, 6], [0, 1, 2, 3, 4, 5, 6, 7]]) (sl' := [(0, .one (.g (.d (.sl 3 (List.map encApi_Dep p_0))))), (1, .one (.g (.d (.sl 3 (List.map encApi_Dep q_1))))), (5, .one (bI .i64 v4)), (25, .one (bB (!(decide (x9.Key = x10.Key) && decide (x9.Stamp.N = x10.Stamp.N) && decide (x9.Stamp.Site = x10.Stamp.Site)))))]) (hp' := []) follows rfl rfl rfl ⟨⟨rfl, trivial⟩, trivial, ⟨rfl, trivial⟩, trivial, ⟨rfl, rfl, trivial⟩, trivial, ⟨rfl, trivial⟩, trivial, ⟨rfl, trivial⟩, trivial, ⟨rfl, trivial⟩, trivial, ⟨rfl, rfl, trivial⟩, trivial, ⟨rfl, trivial⟩, trivial, ⟨rfl, rfl, trivial⟩, trivial, trivial⟩ ⟨OpW.plain (op_move (Ev.t 0 (.g (.d (.sl 3 (List.map encApi_Dep p_0))))) rfl) rfl rfl, OpW.plain (op_move (Ev.t 5 (bI .i64 v4)) rfl) rfl rfl, OpW.plain (op_index (cs := [.v (.string x9.Key), .v (.int .i64 x9.Stamp.N), .v (.int .i64 x9.Stamp.Site)]) Try.underlying24 ti52 (idx_ok hx9).1 (idx_get hx9 encApi_Dep) (Ev.t 17 (.g (.d (.sl 3 (List.map encApi_Dep p_0))))) (Ev.t 18 (bI .i64 v4)) rfl) rfl rfl, OpW.plain (op_loadAE (ds := [.v (.string x9.Key), .v (.int .i64 x9.Stamp.N), .v (.int .i64 x9.Stamp.Site)]) Try.underlying52 rfl ti52 rfl (Ev.t 19 (.ep [.v (.string x9.Key), .v (.int .i64 x9.Stamp.N), .v (.int .i64 x9.Stamp.Site)])) rfl) rfl rfl, OpW.plain (op_move (Ev.t 1 (.g (.d (.sl 3 (List.map encApi_Dep q_1))))) rfl) rfl rfl, OpW.plain (op_move (Ev.t 5 (bI .i64 v4)) rfl) rfl rfl, OpW.plain (op_index (cs := [.v (.string x10.Key), .v (.int .i64 x10.Stamp.N), .v (.int .i64 x10.Stamp.Site)]) Try.underlying24 ti52 (idx_ok hx10).1 (idx_get hx10 encApi_Dep) (Ev.t 21 (.g (.d (.sl 3 (List.map encApi_Dep q_1))))) (Ev.t 22 (bI .i64 v4)) rfl) rfl rfl, OpW.plain (op_loadAE (ds := [.v (.string x10.Key), .v (.int .i64 x10.Stamp.N), .v (.int .i64 x10.Stamp.Site)]) Try.underlying52 rfl ti52 rfl (Ev.t 23 (.ep [.v (.string x10.Key), .v (.int .i64 x10.Stamp.N), .v (.int .i64 x10.Stamp.Site)])) rfl) rfl rfl, OpW.plain (op_eqA (us := [.string x9.Key, .int .i64 x9.Stamp.N, .int .i64 x9.Stamp.Site]) (vs := [.string x10.Key, .int .i64 x10.Stamp.N, .int .i64 x10.Stamp.Site]) rfl rfl Try.eqGuardType52 (fun w => ne52 x9.Key x9.Stamp.N x9.Stamp.Site x10.Key x10.Stamp.N x10.Stamp.Site w) (Ev.t 20 (.g (.agg [.v (.string x9.Key), .v (.int .i64 x9.Stamp.N), .v (.int .i64 x9.Stamp.Site)]))) (Ev.t 24 (.g (.agg [.v (.string x10.Key), .v (.int .i64 x10.Stamp.N), .v (.int .i64 x10.Stamp.Site)]))) rfl) rfl rfl, trivial⟩ ⟨rfl, rfl, rfl, rfl, trivial⟩ trivial rfl ?_
      refine ifS hF (fun hc11 hF => ?_) (fun hc11 hF => ?_)
      · refine G.cond rfl (fun _ => ?_) (fun hx => by rw [hc11] at hx; cases hx)
        refine G.seq ?_
        refine G.region ?_
        refine G.op1 (op_assign (Ev.c _ rfl) rfl) rfl trivial trivial ?_
        refine G.endOps ?_
        cases hF
        exact G.ret1 Try.results41 (RVar.tmp 4 _) ⟨rfl, trivial⟩ trivial
      · refine G.cond rfl (fun hx => by rw [hc11] at hx; cases hx) (fun _ => ?_)
        refine G.skip ?_
        refine G.endBlock ?_
        refine G.region ?_
        refine G.op1 (op_move (Ev.t 5 (bI .i64 v4)) rfl) rfl ⟨rfl, trivial⟩ trivial ?_
        refine G.op1 (op_add (Ev.t 15 (bI .i64 v4)) (Ev.c _ rfl) rfl) rfl ⟨rfl, trivial⟩ trivial ?_
        refine G.op1 (op_assign (Ev.t 16 (bI .i64 (IntKind.wrap .i64 (v4 + 1)))) rfl) rfl ⟨rfl, trivial⟩ trivial ?_
        refine G.endOps ?_
        exact G.arr (J5 (IntKind.wrap .i64 (v4 + 1)) hF) ⟨rfl, rfl, rfl, trivial⟩ trivial rfl
    · refine G.cond rfl (fun hx => by rw [hc8] at hx; cases hx) (fun _ => ?_)
      refine G.exit ?_
      refine GX.c ?_
      refine GX.q ?_
      refine GX.bYes ?_
      exact G.arr (J3 () hF) trivial trivial rfl


set_option maxRecDepth 20000 in
set_option maxHeartbeats 2000000 in
theorem ct_ref06_Same (a_0 : Api_Version) (b_1 : Api_Version) (r : Bool) (hF : ref06_Same a_0 b_1 = some r) : Ct Try.prog 16 [.g (.agg (encApi_Version a_0)), .g (.agg (encApi_Version b_1))] (.one (.d (.v (.bool r)))) := by
  unfold ref06_Same at hF
  refine Ct.intro Try.func16 rfl Try.ntmps16 rfl rfl fun M w => ?_
  refine G.seq ?_
  refine G.region ?_
  refine G.op2 (op_boxA (k := 1002) (Ev.t 0 (.g (.agg [.v (.string a_0.Key), .v (.string a_0.Value), .v (.bool a_0.Gone), .v (.int .i64 a_0.Stamp.N), .v (.int .i64 a_0.Stamp.Site), .sl 3 (List.map encApi_Dep a_0.Past)]))) rfl) rfl ⟨rfl, trivial⟩ ⟨rfl, trivial⟩ ?_
  refine G.op2 (op_boxA (k := 1003) (Ev.t 1 (.g (.agg [.v (.string b_1.Key), .v (.string b_1.Value), .v (.bool b_1.Gone), .v (.int .i64 b_1.Stamp.N), .v (.int .i64 b_1.Stamp.Site), .sl 3 (List.map encApi_Dep b_1.Past)]))) rfl) rfl ⟨rfl, trivial⟩ ⟨rfl, trivial⟩ ?_
  refine G.op1 (op_assign (Ev.c _ rfl) rfl) rfl trivial trivial ?_
  refine G.endOps ?_
  refine G.seq ?_
  refine G.region ?_
  refine G.op1 (op_fieldP (off' := 5) Try.underlying26 rfl ti24 (by decide) rfl (Ev.t 2 (.ptr 1002 0)) rfl) rfl ⟨rfl, trivial⟩ trivial ?_
  refine G.op1 (op_load1P (c := .g (.d (.sl 3 (List.map encApi_Dep a_0.Past)))) Try.underlying24 rfl rfl (Ev.t 6 (.ptr 1002 5)) rfl) rfl ⟨rfl, trivial⟩ ⟨rfl, trivial⟩ ?_
  refine G.op1 (op_fieldP (off' := 5) Try.underlying26 rfl ti24 (by decide) rfl (Ev.t 3 (.ptr 1003 0)) rfl) rfl ⟨rfl, trivial⟩ trivial ?_
  refine G.op1 (op_load1P (c := .g (.d (.sl 3 (List.map encApi_Dep b_1.Past)))) Try.underlying24 rfl rfl (Ev.t 8 (.ptr 1003 5)) rfl) rfl ⟨rfl, trivial⟩ ⟨rfl, trivial⟩ ?_
  obtain ⟨r1, hr1, hF⟩ := bindS hF
  refine G.op1 (op_callQ (sv := .one (bB r1)) cf41 (ct_ref04_Same a_0.Past b_1.Past r1 hr1) rfl rfl (EvQL.cons (EvQ.g (Ev.t 7 (.g (.d (.sl 3 (List.map encApi_Dep a_0.Past)))))) (EvQL.cons (EvQ.g (Ev.t 9 (.g (.d (.sl 3 (List.map encApi_Dep b_1.Past)))))) EvQL.nil)) rfl) rfl ⟨rfl, rfl, trivial⟩ trivial ?_
  refine G.op1 (op_assign (Ev.t 10 (bB r1)) rfl) rfl ⟨rfl, trivial⟩ trivial ?_
  refine G.endOps ?_
  refine G.seq ?_
  refine G.region ?_
  refine G.op1 (op_move (Ev.t 5 (bB r1)) rfl) rfl ⟨rfl, trivial⟩ trivial ?_
  refine G.op1 (op_move (Ev.t 11 (bB r1)) rfl) rfl ⟨rfl, trivial⟩ trivial ?_
  refine G.joinL (T := Bool) 6 (fun y2 => ⟨[(2, .one (.ptr 1002 0)), (3, .one (.ptr 1003 0)), (18, .one (bB y2))], [(1002, some (.blk 26 [bS a_0.Key, bS a_0.Value, bB a_0.Gone, bI .i64 a_0.Stamp.N, bI .i64 a_0.Stamp.Site, .g (.d (.sl 3 (List.map encApi_Dep a_0.Past)))])), (1003, some (.blk 26 [bS b_1.Key, bS b_1.Value, bB b_1.Gone, bI .i64 b_1.Stamp.N, bI .i64 b_1.Stamp.Site, .g (.d (.sl 3 (List.map encApi_Dep b_1.Past)))]))]⟩) (fun y2 => ref06_Same_k1 a_0 b_1 y2 = some r) (fun y2 hF => ?_) (fun J10 => ?_)
  · unfold ref06_Same_k1 at hF
    refine G.op1 (op_move (Ev.t 18 (bB y2)) rfl) rfl ⟨rfl, trivial⟩ trivial ?_
    refine G.joinL (T := Bool) 6 (fun y3 => ⟨[(2, .one (.ptr 1002 0)), (3, .one (.ptr 1003 0)), (25, .one (bB y3))], [(1002, some (.blk 26 [bS a_0.Key, bS a_0.Value, bB a_0.Gone, bI .i64 a_0.Stamp.N, bI .i64 a_0.Stamp.Site, .g (.d (.sl 3 (List.map encApi_Dep a_0.Past)))])), (1003, some (.blk 26 [bS b_1.Key, bS b_1.Value, bB b_1.Gone, bI .i64 b_1.Stamp.N, bI .i64 b_1.Stamp.Site, .g (.d (.sl 3 (List.map encApi_Dep b_1.Past)))]))]⟩) (fun y3 => ref06_Same_k2 a_0 b_1 y3 = some r) (fun y3 hF => ?_) (fun J8 => ?_)
    · unfold ref06_Same_k2 at hF
      refine G.op1 (op_move (Ev.t 25 (bB y3)) rfl) rfl ⟨rfl, trivial⟩ trivial ?_
      refine G.joinL (T := Bool) 6 (fun y4 => ⟨[(2, .one (.ptr 1002 0)), (3, .one (.ptr 1003 0)), (32, .one (bB y4))], [(1002, some (.blk 26 [bS a_0.Key, bS a_0.Value, bB a_0.Gone, bI .i64 a_0.Stamp.N, bI .i64 a_0.Stamp.Site, .g (.d (.sl 3 (List.map encApi_Dep a_0.Past)))])), (1003, some (.blk 26 [bS b_1.Key, bS b_1.Value, bB b_1.Gone, bI .i64 b_1.Stamp.N, bI .i64 b_1.Stamp.Site, .g (.d (.sl 3 (List.map encApi_Dep b_1.Past)))]))]⟩) (fun y4 => ref06_Same_k3 a_0 b_1 y4 = some r) (fun y4 hF => ?_) (fun J6 => ?_)
      · unfold ref06_Same_k3 at hF
        refine G.op1 (op_move (Ev.t 32 (bB y4)) rfl) rfl ⟨rfl, trivial⟩ trivial ?_
        refine ifS hF (fun hc5 hF => ?_) (fun hc5 hF => ?_)
        · refine G.known (t := 33) hc5 rfl ?_
          refine G.opG1 (op_fieldP (off' := 3) Try.underlying26 rfl ti23 (by decide) rfl (Ev.t 2 (.ptr 1002 0)) rfl) rfl rfl rfl ⟨rfl, trivial⟩ trivial ?_
          refine G.opG1 (op_loadAP (ds := [.v (.int .i64 a_0.Stamp.N), .v (.int .i64 a_0.Stamp.Site)]) Try.underlying23 rfl ti23 rfl (Ev.t 34 (.ptr 1002 3)) rfl) rfl rfl rfl ⟨rfl, trivial⟩ ⟨rfl, trivial⟩ ?_
          refine G.opG1 (op_fieldP (off' := 3) Try.underlying26 rfl ti23 (by decide) rfl (Ev.t 3 (.ptr 1003 0)) rfl) rfl rfl rfl ⟨rfl, trivial⟩ trivial ?_
          refine G.opG1 (op_loadAP (ds := [.v (.int .i64 b_1.Stamp.N), .v (.int .i64 b_1.Stamp.Site)]) Try.underlying23 rfl ti23 rfl (Ev.t 36 (.ptr 1003 3)) rfl) rfl rfl rfl ⟨rfl, trivial⟩ ⟨rfl, trivial⟩ ?_
          refine G.opG1 (op_eqA (us := [.int .i64 a_0.Stamp.N, .int .i64 a_0.Stamp.Site]) (vs := [.int .i64 b_1.Stamp.N, .int .i64 b_1.Stamp.Site]) rfl rfl Try.eqGuardType23 (fun w => eq23 a_0.Stamp.N a_0.Stamp.Site b_1.Stamp.N b_1.Stamp.Site w) (Ev.t 35 (.g (.agg [.v (.int .i64 a_0.Stamp.N), .v (.int .i64 a_0.Stamp.Site)]))) (Ev.t 37 (.g (.agg [.v (.int .i64 b_1.Stamp.N), .v (.int .i64 b_1.Stamp.Site)]))) rfl) rfl rfl rfl ⟨rfl, rfl, trivial⟩ trivial ?_
          refine G.op1 (op_pickT (Ev.t 33 (bB true)) (Ev.t 38 (bB (decide (a_0.Stamp.N = b_1.Stamp.N) && decide (a_0.Stamp.Site = b_1.Stamp.Site)))) rfl) rfl ⟨rfl, rfl, trivial⟩ trivial ?_
          refine G.op1 (op_assign (Ev.t 39 (bB (decide (a_0.Stamp.N = b_1.Stamp.N) && decide (a_0.Stamp.Site = b_1.Stamp.Site)))) rfl) rfl ⟨rfl, trivial⟩ trivial ?_
          refine G.endOps ?_
          cases hF
          exact G.ret1 Try.results16 (RVar.tmp 4 _) ⟨rfl, trivial⟩ trivial
        · refine G.known (t := 33) hc5 rfl ?_
          refine G.opN1 rfl rfl rfl rfl rfl ?_
          refine G.opN1 rfl rfl rfl rfl rfl ?_
          refine G.opN1 rfl rfl rfl rfl rfl ?_
          refine G.opN1 rfl rfl rfl rfl rfl ?_
          refine G.opN1 rfl rfl rfl rfl rfl ?_
          refine G.op1 (op_pickF (Ev.t 33 (bB false)) (Ev.c _ rfl) rfl) rfl ⟨rfl, trivial⟩ trivial ?_
          refine G.op1 (op_assign (Ev.t 39 (bB false)) rfl) rfl ⟨rfl, trivial⟩ trivial ?_
          refine G.endOps ?_
          cases hF
          exact G.ret1 Try.results16 (RVar.tmp 4 _) ⟨rfl, trivial⟩ trivial
      refine ifS hF (fun hc7 hF => ?_) (fun hc7 hF => ?_)
      · refine G.known (t := 26) hc7 rfl ?_
        refine G.opG1 (op_fieldP (off' := 2) Try.underlying26 rfl ti4 (by decide) rfl (Ev.t 2 (.ptr 1002 0)) rfl) rfl rfl rfl ⟨rfl, trivial⟩ trivial ?_
        refine G.opG1 (op_load1P (c := bB a_0.Gone) Try.underlying4 rfl rfl (Ev.t 27 (.ptr 1002 2)) rfl) rfl rfl rfl ⟨rfl, trivial⟩ ⟨rfl, trivial⟩ ?_
        refine G.opG1 (op_fieldP (off' := 2) Try.underlying26 rfl ti4 (by decide) rfl (Ev.t 3 (.ptr 1003 0)) rfl) rfl rfl rfl ⟨rfl, trivial⟩ trivial ?_
        refine G.opG1 (op_load1P (c := bB b_1.Gone) Try.underlying4 rfl rfl (Ev.t 29 (.ptr 1003 2)) rfl) rfl rfl rfl ⟨rfl, trivial⟩ ⟨rfl, trivial⟩ ?_
        refine G.opG1 (op_eqB Try.underlying4 (Ev.t 28 (bB a_0.Gone)) (Ev.t 30 (bB b_1.Gone)) rfl) rfl rfl rfl ⟨rfl, rfl, trivial⟩ trivial ?_
        refine G.op1 (op_pickT (Ev.t 26 (bB true)) (Ev.t 31 (bB (a_0.Gone == b_1.Gone))) rfl) rfl ⟨rfl, rfl, trivial⟩ trivial ?_
        exact G.arr (J6 (a_0.Gone == b_1.Gone) hF) ⟨rfl, rfl, rfl, trivial⟩ ⟨rfl, rfl, trivial⟩ rfl
      · refine G.known (t := 26) hc7 rfl ?_
        refine G.opN1 rfl rfl rfl rfl rfl ?_
        refine G.opN1 rfl rfl rfl rfl rfl ?_
        refine G.opN1 rfl rfl rfl rfl rfl ?_
        refine G.opN1 rfl rfl rfl rfl rfl ?_
        refine G.opN1 rfl rfl rfl rfl rfl ?_
        refine G.op1 (op_pickF (Ev.t 26 (bB false)) (Ev.c _ rfl) rfl) rfl ⟨rfl, trivial⟩ trivial ?_
        exact G.arr (J6 false hF) ⟨rfl, rfl, rfl, trivial⟩ ⟨rfl, rfl, trivial⟩ rfl
    refine ifS hF (fun hc9 hF => ?_) (fun hc9 hF => ?_)
    · refine G.known (t := 19) hc9 rfl ?_
      refine G.opG1 (op_fieldP (off' := 1) Try.underlying26 rfl ti9 (by decide) rfl (Ev.t 2 (.ptr 1002 0)) rfl) rfl rfl rfl ⟨rfl, trivial⟩ trivial ?_
      refine G.opG1 (op_load1P (c := bS a_0.Value) Try.underlying9 rfl rfl (Ev.t 20 (.ptr 1002 1)) rfl) rfl rfl rfl ⟨rfl, trivial⟩ ⟨rfl, trivial⟩ ?_
      refine G.opG1 (op_fieldP (off' := 1) Try.underlying26 rfl ti9 (by decide) rfl (Ev.t 3 (.ptr 1003 0)) rfl) rfl rfl rfl ⟨rfl, trivial⟩ trivial ?_
      refine G.opG1 (op_load1P (c := bS b_1.Value) Try.underlying9 rfl rfl (Ev.t 22 (.ptr 1003 1)) rfl) rfl rfl rfl ⟨rfl, trivial⟩ ⟨rfl, trivial⟩ ?_
      refine G.opG1 (op_eqS (Ev.t 21 (bS a_0.Value)) (Ev.t 23 (bS b_1.Value)) rfl) rfl rfl rfl ⟨rfl, rfl, trivial⟩ trivial ?_
      refine G.op1 (op_pickT (Ev.t 19 (bB true)) (Ev.t 24 (bB (seq a_0.Value b_1.Value))) rfl) rfl ⟨rfl, rfl, trivial⟩ trivial ?_
      exact G.arr (J8 (seq a_0.Value b_1.Value) hF) ⟨rfl, rfl, rfl, trivial⟩ ⟨rfl, rfl, trivial⟩ rfl
    · refine G.known (t := 19) hc9 rfl ?_
      refine G.opN1 rfl rfl rfl rfl rfl ?_
      refine G.opN1 rfl rfl rfl rfl rfl ?_
      refine G.opN1 rfl rfl rfl rfl rfl ?_
      refine G.opN1 rfl rfl rfl rfl rfl ?_
      refine G.opN1 rfl rfl rfl rfl rfl ?_
      refine G.op1 (op_pickF (Ev.t 19 (bB false)) (Ev.c _ rfl) rfl) rfl ⟨rfl, trivial⟩ trivial ?_
      exact G.arr (J8 false hF) ⟨rfl, rfl, rfl, trivial⟩ ⟨rfl, rfl, trivial⟩ rfl
  refine ifS hF (fun hc11 hF => ?_) (fun hc11 hF => ?_)
  · refine G.known (t := 12) hc11 rfl ?_
    refine G.opG1 (op_fieldP (off' := 0) Try.underlying26 rfl ti9 (by decide) rfl (Ev.t 2 (.ptr 1002 0)) rfl) rfl rfl rfl ⟨rfl, trivial⟩ trivial ?_
    refine G.opG1 (op_load1P (c := bS a_0.Key) Try.underlying9 rfl rfl (Ev.t 13 (.ptr 1002 0)) rfl) rfl rfl rfl ⟨rfl, trivial⟩ ⟨rfl, trivial⟩ ?_
    refine G.opG1 (op_fieldP (off' := 0) Try.underlying26 rfl ti9 (by decide) rfl (Ev.t 3 (.ptr 1003 0)) rfl) rfl rfl rfl ⟨rfl, trivial⟩ trivial ?_
    refine G.opG1 (op_load1P (c := bS b_1.Key) Try.underlying9 rfl rfl (Ev.t 15 (.ptr 1003 0)) rfl) rfl rfl rfl ⟨rfl, trivial⟩ ⟨rfl, trivial⟩ ?_
    refine G.opG1 (op_eqS (Ev.t 14 (bS a_0.Key)) (Ev.t 16 (bS b_1.Key)) rfl) rfl rfl rfl ⟨rfl, rfl, trivial⟩ trivial ?_
    refine G.op1 (op_pickT (Ev.t 12 (bB true)) (Ev.t 17 (bB (seq a_0.Key b_1.Key))) rfl) rfl ⟨rfl, rfl, trivial⟩ trivial ?_
    exact G.arr (J10 (seq a_0.Key b_1.Key) hF) ⟨rfl, rfl, rfl, trivial⟩ ⟨rfl, rfl, trivial⟩ rfl
  · refine G.known (t := 12) hc11 rfl ?_
    refine G.opN1 rfl rfl rfl rfl rfl ?_
    refine G.opN1 rfl rfl rfl rfl rfl ?_
    refine G.opN1 rfl rfl rfl rfl rfl ?_
    refine G.opN1 rfl rfl rfl rfl rfl ?_
    refine G.opN1 rfl rfl rfl rfl rfl ?_
    refine G.op1 (op_pickF (Ev.t 12 (bB false)) (Ev.c _ rfl) rfl) rfl ⟨rfl, trivial⟩ trivial ?_
    exact G.arr (J10 false hF) ⟨rfl, rfl, rfl, trivial⟩ ⟨rfl, rfl, trivial⟩ rfl

end Go.Ark
