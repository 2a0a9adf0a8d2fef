/- Walks, printed by a program of mine: each function of the program computes the typed function of its name. Conditions: none. -/
import Derived.Test.YtjidbmelmcmmhaaWWireRows1
namespace Go.Ark
open Go Go.Ab Go.RowKit Go.Lib Go.Proofs

set_option maxRecDepth 20000 in
set_option maxHeartbeats 2000000 in
theorem ct_slices_Equal_Dep (s1_0 : (List Api_Dep)) (s2_1 : (List Api_Dep)) (r : Bool) (hF : slices_Equal_Dep s1_0 s2_1 = some r) : Ct Try.prog 62 [.g (.d (.sl 3 (List.map encApi_Dep s1_0))), .g (.d (.sl 3 (List.map encApi_Dep s2_1)))] (.one (.d (.v (.bool r)))) := by
  unfold slices_Equal_Dep at hF
  refine Ct.intro Try.func62 rfl Try.ntmps62 rfl rfl fun M w => ?_
  refine G.seq ?_
  refine G.region ?_
  refine G.op1 (op_assign (Ev.c _ rfl) rfl) rfl trivial trivial ?_
  refine G.endOps ?_
  refine G.seq ?_
  refine G.seq ?_
  refine G.region ?_
  refine G.op1 (op_move (Ev.t 0 (.g (.d (.sl 3 (List.map encApi_Dep s1_0))))) rfl) rfl ⟨rfl, trivial⟩ trivial ?_
  refine G.op1 (OpL.cast (op_lenD Try.underlying24 (Ev.t 6 (.g (.d (.sl 3 (List.map encApi_Dep s1_0))))) rfl) (by rw [List.length_map])) rfl ⟨rfl, trivial⟩ trivial ?_
  refine G.op1 (op_move (Ev.t 1 (.g (.d (.sl 3 (List.map encApi_Dep s2_1))))) rfl) rfl ⟨rfl, trivial⟩ trivial ?_
  refine G.op1 (OpL.cast (op_lenD Try.underlying24 (Ev.t 8 (.g (.d (.sl 3 (List.map encApi_Dep s2_1))))) rfl) (by rw [List.length_map])) rfl ⟨rfl, trivial⟩ trivial ?_
  refine G.op1 (op_neI (Ev.t 7 (bI .i64 (s1_0.length : Int))) (Ev.t 9 (bI .i64 (s2_1.length : Int))) rfl) rfl ⟨rfl, rfl, trivial⟩ trivial ?_
  refine G.endOps ?_
  refine ifS hF (fun hc1 hF => ?_) (fun hc1 hF => ?_)
  · refine G.cond rfl (fun _ => ?_) (fun hx => by rw [hc1] at hx; cases hx)
    refine G.seq ?_
    refine G.region ?_
    refine G.op1 (op_assign (Ev.c _ rfl) rfl) rfl trivial trivial ?_
    refine G.endOps ?_
    cases hF
    exact G.ret1 Try.results62 (RVar.tmp 4 _) ⟨rfl, trivial⟩ trivial
  · refine G.cond rfl (fun hx => by rw [hc1] at hx; cases hx) (fun _ => ?_)
    refine G.skip ?_
    refine G.seq ?_
    refine G.seq ?_
    refine G.region ?_
    refine G.op1 (op_move (Ev.t 0 (.g (.d (.sl 3 (List.map encApi_Dep s1_0))))) rfl) rfl ⟨rfl, trivial⟩ trivial ?_
    refine G.op1 (OpL.cast (op_lenD Try.underlying24 (Ev.t 11 (.g (.d (.sl 3 (List.map encApi_Dep s1_0))))) rfl) (by rw [List.length_map])) rfl ⟨rfl, trivial⟩ trivial ?_
    refine G.op1 (op_move (Ev.c _ rfl) rfl) rfl trivial trivial ?_
    refine G.endOps ?_
    refine G.joinC (T := Unit) (fun y2 => ⟨[], []⟩) (fun y2 => slices_Equal_Dep_k1 y2 = some r) (fun y2 hF => ?_) (fun J3 => ?_)
    · unfold slices_Equal_Dep_k1 at hF
      refine G.seq ?_
      refine G.region ?_
      refine G.op1 (op_assign (Ev.c _ rfl) rfl) rfl trivial trivial ?_
      refine G.endOps ?_
      cases hF
      exact G.ret1 Try.results62 (RVar.tmp 4 _) ⟨rfl, trivial⟩ trivial
    refine G.block ?_
    refine G.keep (sl' := [(0, .one (.g (.d (.sl 3 (List.map encApi_Dep s1_0))))), (1, .one (.g (.d (.sl 3 (List.map encApi_Dep s2_1))))), (12, .one (bI .i64 (s1_0.length : Int))), (13, .one (bI .i64 0))]) (hp' := []) ⟨rfl, rfl, rfl, rfl, trivial⟩ trivial rfl ?_
    refine G.loopF (fun (v4 : Int) => ⟨[(0, .one (.g (.d (.sl 3 (List.map encApi_Dep s1_0))))), (1, .one (.g (.d (.sl 3 (List.map encApi_Dep s2_1))))), (12, .one (bI .i64 (s1_0.length : Int))), (13, .one (bI .i64 v4))], []⟩) hF rfl (fun K7 again6 v4 J5 hF => ?_)
    unfold slices_Equal_Dep_l2 at hF
    refine G.seq ?_
    refine G.region ?_
    refine G.op1 (op_lss (Ev.t 13 (bI .i64 v4)) (Ev.t 12 (bI .i64 (s1_0.length : Int))) rfl) rfl ⟨rfl, rfl, trivial⟩ trivial ?_
    refine G.endOps ?_
    refine G.seq ?_
    refine ifS hF (fun hc8 hF => ?_) (fun hc8 hF => ?_)
    · refine G.cond rfl (fun _ => ?_) (fun hx => by rw [hc8] at hx; cases hx)
      refine G.skip ?_
      refine G.seq ?_
      refine G.block ?_
      refine G.seq ?_
      refine G.region ?_
      refine G.op1 (op_move (Ev.t 13 (bI .i64 v4)) rfl) rfl ⟨rfl, trivial⟩ trivial ?_
      refine G.op1 (op_assign (Ev.t 15 (bI .i64 v4)) rfl) rfl ⟨rfl, trivial⟩ trivial ?_
      refine G.endOps ?_
      refine G.seq ?_
      obtain ⟨x9, hx9, hF⟩ := bindS hF
      obtain ⟨x10, hx10, hF⟩ := bindS hF
      refine G.drawn (effs := [⟨[(0, .one (.g (.d (.sl 3 (List.map encApi_Dep s1_0)))))], [], [(16, .one (.g (.d (.sl 3 (List.map encApi_Dep s1_0)))))], []⟩, ⟨[(5, .one (bI .i64 v4))], [], [(17, .one (bI .i64 v4))], []⟩, ⟨[(16, .one (.g (.d (.sl 3 (List.map encApi_Dep s1_0))))), (17, .one (bI .i64 v4))], [], [(18, .one (.ep [.v (.string x9.Key), .v (.int .i64 x9.Stamp.N), .v (.int .i64 x9.Stamp.Site)]))], []⟩, ⟨[(18, .one (.ep [.v (.string x9.Key), .v (.int .i64 x9.Stamp.N), .v (.int .i64 x9.Stamp.Site)]))], [], [(19, .one (.g (.agg [.v (.string x9.Key), .v (.int .i64 x9.Stamp.N), .v (.int .i64 x9.Stamp.Site)])))], []⟩, ⟨[(1, .one (.g (.d (.sl 3 (List.map encApi_Dep s2_1)))))], [], [(20, .one (.g (.d (.sl 3 (List.map encApi_Dep s2_1)))))], []⟩, ⟨[(5, .one (bI .i64 v4))], [], [(21, .one (bI .i64 v4))], []⟩, ⟨[(20, .one (.g (.d (.sl 3 (List.map encApi_Dep s2_1))))), (21, .one (bI .i64 v4))], [], [(22, .one (.ep [.v (.string x10.Key), .v (.int .i64 x10.Stamp.N), .v (.int .i64 x10.Stamp.Site)]))], []⟩, ⟨[(22, .one (.ep [.v (.string x10.Key), .v (.int .i64 x10.Stamp.N), .v (.int .i64 x10.Stamp.Site)]))], [], [(23, .one (.g (.agg [.v (.string x10.Key), .v (.int .i64 x10.Stamp.N), .v (.int .i64 x10.Stamp.Site)])))], []⟩, ⟨[(19, .one (.g (.agg [.v (.string x9.Key), .v (.int .i64 x9.Stamp.N), .v (.int .i64 x9.Stamp.Site)]))), (23, .one (.g (.agg [.v (.string x10.Key), .v (.int .i64 x10.Stamp.N), .v (.int .i64 x10.Stamp.Site)])))], [], [(24, .one (bB (!(decide (x9.Key = x10.Key) && decide (x9.Stamp.N = x10.Stamp.N) && decide (x9.Stamp.Site = x10.Stamp.Site)))))], []⟩]) (deps := [[], [], [0, 1], [0, 1, 2], [], [], [4, 5], [4, 5, 6], [0, 1, 2, 3, 4, 5, 6, 7]]) (sl' := [(0, .one (.g (.d (.sl 3 (List.map encApi_Dep s1_0))))), (1, .one (.g (.d (.sl 3 (List.map encApi_Dep s2_1))))), (12, .one (bI .i64 (s1_0.length : Int))), (13, .one (bI .i64 v4)), (24, .one (bB (!(decide (x9.Key = x10.Key) && decide (x9.Stamp.N = x10.Stamp.N) && decide (x9.Stamp.Site = x10.Stamp.Site)))))]) (hp' := []) follows rfl rfl rfl ⟨⟨rfl, trivial⟩, trivial, ⟨rfl, trivial⟩, trivial, ⟨rfl, rfl, trivial⟩, trivial, ⟨rfl, trivial⟩, trivial, ⟨rfl, trivial⟩, trivial, ⟨rfl, trivial⟩, trivial, ⟨rfl, rfl, trivial⟩, trivial, ⟨rfl, trivial⟩, trivial, ⟨rfl, rfl, trivial⟩, trivial, trivial⟩ ⟨OpW.plain (op_move (Ev.t 0 (.g (.d (.sl 3 (List.map encApi_Dep s1_0))))) rfl) rfl rfl, OpW.plain (op_move (Ev.t 5 (bI .i64 v4)) rfl) rfl rfl, OpW.plain (op_index (cs := [.v (.string x9.Key), .v (.int .i64 x9.Stamp.N), .v (.int .i64 x9.Stamp.Site)]) Try.underlying24 ti52 (idx_ok hx9).1 (idx_get hx9 encApi_Dep) (Ev.t 16 (.g (.d (.sl 3 (List.map encApi_Dep s1_0))))) (Ev.t 17 (bI .i64 v4)) rfl) rfl rfl, OpW.plain (op_loadAE (ds := [.v (.string x9.Key), .v (.int .i64 x9.Stamp.N), .v (.int .i64 x9.Stamp.Site)]) Try.underlying52 rfl ti52 rfl (Ev.t 18 (.ep [.v (.string x9.Key), .v (.int .i64 x9.Stamp.N), .v (.int .i64 x9.Stamp.Site)])) rfl) rfl rfl, OpW.plain (op_move (Ev.t 1 (.g (.d (.sl 3 (List.map encApi_Dep s2_1))))) rfl) rfl rfl, OpW.plain (op_move (Ev.t 5 (bI .i64 v4)) rfl) rfl rfl, OpW.plain (op_index (cs := [.v (.string x10.Key), .v (.int .i64 x10.Stamp.N), .v (.int .i64 x10.Stamp.Site)]) Try.underlying24 ti52 (idx_ok hx10).1 (idx_get hx10 encApi_Dep) (Ev.t 20 (.g (.d (.sl 3 (List.map encApi_Dep s2_1))))) (Ev.t 21 (bI .i64 v4)) rfl) rfl rfl, OpW.plain (op_loadAE (ds := [.v (.string x10.Key), .v (.int .i64 x10.Stamp.N), .v (.int .i64 x10.Stamp.Site)]) Try.underlying52 rfl ti52 rfl (Ev.t 22 (.ep [.v (.string x10.Key), .v (.int .i64 x10.Stamp.N), .v (.int .i64 x10.Stamp.Site)])) rfl) rfl rfl, OpW.plain (op_eqA (us := [.string x9.Key, .int .i64 x9.Stamp.N, .int .i64 x9.Stamp.Site]) (vs := [.string x10.Key, .int .i64 x10.Stamp.N, .int .i64 x10.Stamp.Site]) rfl rfl Try.eqGuardType52 (fun w => ne52 x9.Key x9.Stamp.N x9.Stamp.Site x10.Key x10.Stamp.N x10.Stamp.Site w) (Ev.t 19 (.g (.agg [.v (.string x9.Key), .v (.int .i64 x9.Stamp.N), .v (.int .i64 x9.Stamp.Site)]))) (Ev.t 23 (.g (.agg [.v (.string x10.Key), .v (.int .i64 x10.Stamp.N), .v (.int .i64 x10.Stamp.Site)]))) rfl) rfl rfl, trivial⟩ ⟨rfl, rfl, rfl, rfl, rfl, trivial⟩ trivial rfl ?_
      refine ifS hF (fun hc11 hF => ?_) (fun hc11 hF => ?_)
      · refine G.cond rfl (fun _ => ?_) (fun hx => by rw [hc11] at hx; cases hx)
        refine G.seq ?_
        refine G.region ?_
        refine G.op1 (op_assign (Ev.c _ rfl) rfl) rfl trivial trivial ?_
        refine G.endOps ?_
        cases hF
        exact G.ret1 Try.results62 (RVar.tmp 4 _) ⟨rfl, trivial⟩ trivial
      · refine G.cond rfl (fun hx => by rw [hc11] at hx; cases hx) (fun _ => ?_)
        refine G.skip ?_
        refine G.endBlock ?_
        refine G.region ?_
        refine G.op1 (op_add (Ev.t 13 (bI .i64 v4)) (Ev.c _ rfl) rfl) rfl ⟨rfl, trivial⟩ trivial ?_
        refine G.op1 (op_move (Ev.t 25 (bI .i64 (IntKind.wrap .i64 (v4 + 1)))) rfl) rfl ⟨rfl, trivial⟩ trivial ?_
        refine G.endOps ?_
        exact G.arr (J5 (IntKind.wrap .i64 (v4 + 1)) hF) ⟨rfl, rfl, rfl, rfl, trivial⟩ trivial rfl
    · refine G.cond rfl (fun hx => by rw [hc8] at hx; cases hx) (fun _ => ?_)
      refine G.exit ?_
      refine GX.c ?_
      refine GX.q ?_
      refine GX.bYes ?_
      exact G.arr (J3 () hF) trivial trivial rfl


set_option maxRecDepth 20000 in
set_option maxHeartbeats 2000000 in
theorem ct_past_Same (p_0 : (List Api_Dep)) (q_1 : (List Api_Dep)) (r : Bool) (hF : past_Same p_0 q_1 = some r) : Ct Try.prog 40 [.g (.d (.sl 3 (List.map encApi_Dep p_0))), .g (.d (.sl 3 (List.map encApi_Dep q_1)))] (.one (.d (.v (.bool r)))) := by
  unfold past_Same at hF
  refine Ct.intro Try.func40 rfl Try.ntmps40 rfl rfl fun M w => ?_
  refine G.seq ?_
  refine G.region ?_
  refine G.op1 (op_assign (Ev.c _ rfl) rfl) rfl trivial trivial ?_
  refine G.endOps ?_
  refine G.seq ?_
  refine G.region ?_
  refine G.op1 (op_move (Ev.t 0 (.g (.d (.sl 3 (List.map encApi_Dep p_0))))) rfl) rfl ⟨rfl, trivial⟩ trivial ?_
  refine G.op1 (op_move (Ev.t 1 (.g (.d (.sl 3 (List.map encApi_Dep q_1))))) rfl) rfl ⟨rfl, trivial⟩ trivial ?_
  obtain ⟨r1, hr1, hF⟩ := bindS hF
  refine G.op1 (op_callQ (sv := .one (bB r1)) cf62 (ct_slices_Equal_Dep p_0 q_1 r1 hr1) rfl rfl (EvQL.cons (EvQ.g (Ev.t 5 (.g (.d (.sl 3 (List.map encApi_Dep p_0)))))) (EvQL.cons (EvQ.g (Ev.t 6 (.g (.d (.sl 3 (List.map encApi_Dep q_1)))))) EvQL.nil)) rfl) rfl ⟨rfl, rfl, trivial⟩ trivial ?_
  refine G.op1 (op_assign (Ev.t 7 (bB r1)) rfl) rfl ⟨rfl, trivial⟩ trivial ?_
  refine G.endOps ?_
  cases hF
  exact G.ret1 Try.results40 (RVar.tmp 4 _) ⟨rfl, trivial⟩ trivial


set_option maxRecDepth 20000 in
set_option maxHeartbeats 2000000 in
theorem ct_wire_Same (a_0 : Api_Version) (b_1 : Api_Version) (r : Bool) (hF : wire_Same a_0 b_1 = some r) : Ct Try.prog 15 [.g (.agg (encApi_Version a_0)), .g (.agg (encApi_Version b_1))] (.one (.d (.v (.bool r)))) := by
  unfold wire_Same at hF
  refine Ct.intro Try.func15 rfl Try.ntmps15 rfl rfl fun M w => ?_
  refine G.seq ?_
  refine G.region ?_
  refine G.op2 (op_boxA (k := 1002) (Ev.t 0 (.g (.agg [.v (.string a_0.Key), .v (.string a_0.Value), .v (.bool a_0.Gone), .v (.int .i64 a_0.Stamp.N), .v (.int .i64 a_0.Stamp.Site), .sl 3 (List.map encApi_Dep a_0.Past)]))) rfl) rfl ⟨rfl, trivial⟩ ⟨rfl, trivial⟩ ?_
  refine G.op2 (op_boxA (k := 1003) (Ev.t 1 (.g (.agg [.v (.string b_1.Key), .v (.string b_1.Value), .v (.bool b_1.Gone), .v (.int .i64 b_1.Stamp.N), .v (.int .i64 b_1.Stamp.Site), .sl 3 (List.map encApi_Dep b_1.Past)]))) rfl) rfl ⟨rfl, trivial⟩ ⟨rfl, trivial⟩ ?_
  refine G.op1 (op_assign (Ev.c _ rfl) rfl) rfl trivial trivial ?_
  refine G.endOps ?_
  refine G.seq ?_
  refine G.region ?_
  refine G.op1 (op_fieldP (off' := 0) Try.underlying26 rfl ti9 (by decide) rfl (Ev.t 2 (.ptr 1002 0)) rfl) rfl ⟨rfl, trivial⟩ trivial ?_
  refine G.op1 (op_load1P (c := bS a_0.Key) Try.underlying9 rfl rfl (Ev.t 5 (.ptr 1002 0)) rfl) rfl ⟨rfl, trivial⟩ ⟨rfl, trivial⟩ ?_
  refine G.op1 (op_fieldP (off' := 0) Try.underlying26 rfl ti9 (by decide) rfl (Ev.t 3 (.ptr 1003 0)) rfl) rfl ⟨rfl, trivial⟩ trivial ?_
  refine G.op1 (op_load1P (c := bS b_1.Key) Try.underlying9 rfl rfl (Ev.t 7 (.ptr 1003 0)) rfl) rfl ⟨rfl, trivial⟩ ⟨rfl, trivial⟩ ?_
  refine G.op1 (op_eqS (Ev.t 6 (bS a_0.Key)) (Ev.t 8 (bS b_1.Key)) rfl) rfl ⟨rfl, rfl, trivial⟩ trivial ?_
  refine G.op1 (op_move (Ev.t 9 (bB (seq a_0.Key b_1.Key))) rfl) rfl ⟨rfl, trivial⟩ trivial ?_
  refine G.joinL (T := Bool) 6 (fun y1 => ⟨[(2, .one (.ptr 1002 0)), (3, .one (.ptr 1003 0)), (16, .one (bB y1))], [(1002, some (.blk 26 [bS a_0.Key, bS a_0.Value, bB a_0.Gone, bI .i64 a_0.Stamp.N, bI .i64 a_0.Stamp.Site, .g (.d (.sl 3 (List.map encApi_Dep a_0.Past)))])), (1003, some (.blk 26 [bS b_1.Key, bS b_1.Value, bB b_1.Gone, bI .i64 b_1.Stamp.N, bI .i64 b_1.Stamp.Site, .g (.d (.sl 3 (List.map encApi_Dep b_1.Past)))]))]⟩) (fun y1 => wire_Same_k1 a_0 b_1 y1 = some r) (fun y1 hF => ?_) (fun J10 => ?_)
  · unfold wire_Same_k1 at hF
    refine G.op1 (op_move (Ev.t 16 (bB y1)) rfl) rfl ⟨rfl, trivial⟩ trivial ?_
    refine G.joinL (T := Bool) 6 (fun y2 => ⟨[(2, .one (.ptr 1002 0)), (3, .one (.ptr 1003 0)), (23, .one (bB y2))], [(1002, some (.blk 26 [bS a_0.Key, bS a_0.Value, bB a_0.Gone, bI .i64 a_0.Stamp.N, bI .i64 a_0.Stamp.Site, .g (.d (.sl 3 (List.map encApi_Dep a_0.Past)))])), (1003, some (.blk 26 [bS b_1.Key, bS b_1.Value, bB b_1.Gone, bI .i64 b_1.Stamp.N, bI .i64 b_1.Stamp.Site, .g (.d (.sl 3 (List.map encApi_Dep b_1.Past)))]))]⟩) (fun y2 => wire_Same_k2 a_0 b_1 y2 = some r) (fun y2 hF => ?_) (fun J8 => ?_)
    · unfold wire_Same_k2 at hF
      refine G.op1 (op_move (Ev.t 23 (bB y2)) rfl) rfl ⟨rfl, trivial⟩ trivial ?_
      refine G.joinL (T := Bool) 6 (fun y3 => ⟨[(2, .one (.ptr 1002 0)), (3, .one (.ptr 1003 0)), (30, .one (bB y3))], [(1002, some (.blk 26 [bS a_0.Key, bS a_0.Value, bB a_0.Gone, bI .i64 a_0.Stamp.N, bI .i64 a_0.Stamp.Site, .g (.d (.sl 3 (List.map encApi_Dep a_0.Past)))])), (1003, some (.blk 26 [bS b_1.Key, bS b_1.Value, bB b_1.Gone, bI .i64 b_1.Stamp.N, bI .i64 b_1.Stamp.Site, .g (.d (.sl 3 (List.map encApi_Dep b_1.Past)))]))]⟩) (fun y3 => wire_Same_k3 a_0 b_1 y3 = some r) (fun y3 hF => ?_) (fun J6 => ?_)
      · unfold wire_Same_k3 at hF
        refine G.op1 (op_move (Ev.t 30 (bB y3)) rfl) rfl ⟨rfl, trivial⟩ trivial ?_
        refine ifS hF (fun hc4 hF => ?_) (fun hc4 hF => ?_)
        · refine G.known (t := 31) hc4 rfl ?_
          refine G.opG1 (op_fieldP (off' := 5) Try.underlying26 rfl ti24 (by decide) rfl (Ev.t 2 (.ptr 1002 0)) rfl) rfl rfl rfl ⟨rfl, trivial⟩ trivial ?_
          refine G.opG1 (op_load1P (c := .g (.d (.sl 3 (List.map encApi_Dep a_0.Past)))) Try.underlying24 rfl rfl (Ev.t 32 (.ptr 1002 5)) rfl) rfl rfl rfl ⟨rfl, trivial⟩ ⟨rfl, trivial⟩ ?_
          refine G.opG1 (op_fieldP (off' := 5) Try.underlying26 rfl ti24 (by decide) rfl (Ev.t 3 (.ptr 1003 0)) rfl) rfl rfl rfl ⟨rfl, trivial⟩ trivial ?_
          refine G.opG1 (op_load1P (c := .g (.d (.sl 3 (List.map encApi_Dep b_1.Past)))) Try.underlying24 rfl rfl (Ev.t 34 (.ptr 1003 5)) rfl) rfl rfl rfl ⟨rfl, trivial⟩ ⟨rfl, trivial⟩ ?_
          obtain ⟨r5, hr5, hF⟩ := bindS hF
          refine G.opG1 (op_callQ (sv := .one (bB r5)) cf40 (ct_past_Same a_0.Past b_1.Past r5 hr5) rfl rfl (EvQL.cons (EvQ.g (Ev.t 33 (.g (.d (.sl 3 (List.map encApi_Dep a_0.Past)))))) (EvQL.cons (EvQ.g (Ev.t 35 (.g (.d (.sl 3 (List.map encApi_Dep b_1.Past)))))) EvQL.nil)) rfl) rfl rfl rfl ⟨rfl, rfl, trivial⟩ trivial ?_
          refine G.op1 (op_pickT (Ev.t 31 (bB true)) (Ev.t 36 (bB r5)) rfl) rfl ⟨rfl, rfl, trivial⟩ trivial ?_
          refine G.op1 (op_assign (Ev.t 37 (bB r5)) rfl) rfl ⟨rfl, trivial⟩ trivial ?_
          refine G.endOps ?_
          cases hF
          exact G.ret1 Try.results15 (RVar.tmp 4 _) ⟨rfl, trivial⟩ trivial
        · refine G.known (t := 31) hc4 rfl ?_
          refine G.opN1 rfl rfl rfl rfl rfl ?_
          refine G.opN1 rfl rfl rfl rfl rfl ?_
          refine G.opN1 rfl rfl rfl rfl rfl ?_
          refine G.opN1 rfl rfl rfl rfl rfl ?_
          refine G.opN1 rfl rfl rfl rfl rfl ?_
          refine G.op1 (op_pickF (Ev.t 31 (bB false)) (Ev.c _ rfl) rfl) rfl ⟨rfl, trivial⟩ trivial ?_
          refine G.op1 (op_assign (Ev.t 37 (bB false)) rfl) rfl ⟨rfl, trivial⟩ trivial ?_
          refine G.endOps ?_
          cases hF
          exact G.ret1 Try.results15 (RVar.tmp 4 _) ⟨rfl, trivial⟩ trivial
      refine ifS hF (fun hc7 hF => ?_) (fun hc7 hF => ?_)
      · refine G.known (t := 24) hc7 rfl ?_
        refine G.opG1 (op_fieldP (off' := 3) Try.underlying26 rfl ti23 (by decide) rfl (Ev.t 2 (.ptr 1002 0)) rfl) rfl rfl rfl ⟨rfl, trivial⟩ trivial ?_
        refine G.opG1 (op_loadAP (ds := [.v (.int .i64 a_0.Stamp.N), .v (.int .i64 a_0.Stamp.Site)]) Try.underlying23 rfl ti23 rfl (Ev.t 25 (.ptr 1002 3)) rfl) rfl rfl rfl ⟨rfl, trivial⟩ ⟨rfl, trivial⟩ ?_
        refine G.opG1 (op_fieldP (off' := 3) Try.underlying26 rfl ti23 (by decide) rfl (Ev.t 3 (.ptr 1003 0)) rfl) rfl rfl rfl ⟨rfl, trivial⟩ trivial ?_
        refine G.opG1 (op_loadAP (ds := [.v (.int .i64 b_1.Stamp.N), .v (.int .i64 b_1.Stamp.Site)]) Try.underlying23 rfl ti23 rfl (Ev.t 27 (.ptr 1003 3)) rfl) rfl rfl rfl ⟨rfl, trivial⟩ ⟨rfl, trivial⟩ ?_
        refine G.opG1 (op_eqA (us := [.int .i64 a_0.Stamp.N, .int .i64 a_0.Stamp.Site]) (vs := [.int .i64 b_1.Stamp.N, .int .i64 b_1.Stamp.Site]) rfl rfl Try.eqGuardType23 (fun w => eq23 a_0.Stamp.N a_0.Stamp.Site b_1.Stamp.N b_1.Stamp.Site w) (Ev.t 26 (.g (.agg [.v (.int .i64 a_0.Stamp.N), .v (.int .i64 a_0.Stamp.Site)]))) (Ev.t 28 (.g (.agg [.v (.int .i64 b_1.Stamp.N), .v (.int .i64 b_1.Stamp.Site)]))) rfl) rfl rfl rfl ⟨rfl, rfl, trivial⟩ trivial ?_
        refine G.op1 (op_pickT (Ev.t 24 (bB true)) (Ev.t 29 (bB (decide (a_0.Stamp.N = b_1.Stamp.N) && decide (a_0.Stamp.Site = b_1.Stamp.Site)))) rfl) rfl ⟨rfl, rfl, trivial⟩ trivial ?_
        exact G.arr (J6 (decide (a_0.Stamp.N = b_1.Stamp.N) && decide (a_0.Stamp.Site = b_1.Stamp.Site)) hF) ⟨rfl, rfl, rfl, trivial⟩ ⟨rfl, rfl, trivial⟩ rfl
      · refine G.known (t := 24) hc7 rfl ?_
        refine G.opN1 rfl rfl rfl rfl rfl ?_
        refine G.opN1 rfl rfl rfl rfl rfl ?_
        refine G.opN1 rfl rfl rfl rfl rfl ?_
        refine G.opN1 rfl rfl rfl rfl rfl ?_
        refine G.opN1 rfl rfl rfl rfl rfl ?_
        refine G.op1 (op_pickF (Ev.t 24 (bB false)) (Ev.c _ rfl) rfl) rfl ⟨rfl, trivial⟩ trivial ?_
        exact G.arr (J6 false hF) ⟨rfl, rfl, rfl, trivial⟩ ⟨rfl, rfl, trivial⟩ rfl
    refine ifS hF (fun hc9 hF => ?_) (fun hc9 hF => ?_)
    · refine G.known (t := 17) hc9 rfl ?_
      refine G.opG1 (op_fieldP (off' := 2) Try.underlying26 rfl ti4 (by decide) rfl (Ev.t 2 (.ptr 1002 0)) rfl) rfl rfl rfl ⟨rfl, trivial⟩ trivial ?_
      refine G.opG1 (op_load1P (c := bB a_0.Gone) Try.underlying4 rfl rfl (Ev.t 18 (.ptr 1002 2)) rfl) rfl rfl rfl ⟨rfl, trivial⟩ ⟨rfl, trivial⟩ ?_
      refine G.opG1 (op_fieldP (off' := 2) Try.underlying26 rfl ti4 (by decide) rfl (Ev.t 3 (.ptr 1003 0)) rfl) rfl rfl rfl ⟨rfl, trivial⟩ trivial ?_
      refine G.opG1 (op_load1P (c := bB b_1.Gone) Try.underlying4 rfl rfl (Ev.t 20 (.ptr 1003 2)) rfl) rfl rfl rfl ⟨rfl, trivial⟩ ⟨rfl, trivial⟩ ?_
      refine G.opG1 (op_eqB Try.underlying4 (Ev.t 19 (bB a_0.Gone)) (Ev.t 21 (bB b_1.Gone)) rfl) rfl rfl rfl ⟨rfl, rfl, trivial⟩ trivial ?_
      refine G.op1 (op_pickT (Ev.t 17 (bB true)) (Ev.t 22 (bB (a_0.Gone == b_1.Gone))) rfl) rfl ⟨rfl, rfl, trivial⟩ trivial ?_
      exact G.arr (J8 (a_0.Gone == b_1.Gone) hF) ⟨rfl, rfl, rfl, trivial⟩ ⟨rfl, rfl, trivial⟩ rfl
    · refine G.known (t := 17) hc9 rfl ?_
      refine G.opN1 rfl rfl rfl rfl rfl ?_
      refine G.opN1 rfl rfl rfl rfl rfl ?_
      refine G.opN1 rfl rfl rfl rfl rfl ?_
      refine G.opN1 rfl rfl rfl rfl rfl ?_
      refine G.opN1 rfl rfl rfl rfl rfl ?_
      refine G.op1 (op_pickF (Ev.t 17 (bB false)) (Ev.c _ rfl) rfl) rfl ⟨rfl, trivial⟩ trivial ?_
      exact G.arr (J8 false hF) ⟨rfl, rfl, rfl, trivial⟩ ⟨rfl, rfl, trivial⟩ rfl
  refine ifS hF (fun hc11 hF => ?_) (fun hc11 hF => ?_)
  · refine G.known (t := 10) hc11 rfl ?_
    refine G.opG1 (op_fieldP (off' := 1) Try.underlying26 rfl ti9 (by decide) rfl (Ev.t 2 (.ptr 1002 0)) rfl) rfl rfl rfl ⟨rfl, trivial⟩ trivial ?_
    refine G.opG1 (op_load1P (c := bS a_0.Value) Try.underlying9 rfl rfl (Ev.t 11 (.ptr 1002 1)) rfl) rfl rfl rfl ⟨rfl, trivial⟩ ⟨rfl, trivial⟩ ?_
    refine G.opG1 (op_fieldP (off' := 1) Try.underlying26 rfl ti9 (by decide) rfl (Ev.t 3 (.ptr 1003 0)) rfl) rfl rfl rfl ⟨rfl, trivial⟩ trivial ?_
    refine G.opG1 (op_load1P (c := bS b_1.Value) Try.underlying9 rfl rfl (Ev.t 13 (.ptr 1003 1)) rfl) rfl rfl rfl ⟨rfl, trivial⟩ ⟨rfl, trivial⟩ ?_
    refine G.opG1 (op_eqS (Ev.t 12 (bS a_0.Value)) (Ev.t 14 (bS b_1.Value)) rfl) rfl rfl rfl ⟨rfl, rfl, trivial⟩ trivial ?_
    refine G.op1 (op_pickT (Ev.t 10 (bB true)) (Ev.t 15 (bB (seq a_0.Value b_1.Value))) rfl) rfl ⟨rfl, rfl, trivial⟩ trivial ?_
    exact G.arr (J10 (seq a_0.Value b_1.Value) hF) ⟨rfl, rfl, rfl, trivial⟩ ⟨rfl, rfl, trivial⟩ rfl
  · refine G.known (t := 10) hc11 rfl ?_
    refine G.opN1 rfl rfl rfl rfl rfl ?_
    refine G.opN1 rfl rfl rfl rfl rfl ?_
    refine G.opN1 rfl rfl rfl rfl rfl ?_
    refine G.opN1 rfl rfl rfl rfl rfl ?_
    refine G.opN1 rfl rfl rfl rfl rfl ?_
    refine G.op1 (op_pickF (Ev.t 10 (bB false)) (Ev.c _ rfl) rfl) rfl ⟨rfl, trivial⟩ trivial ?_
    exact G.arr (J10 false hF) ⟨rfl, rfl, rfl, trivial⟩ ⟨rfl, rfl, trivial⟩ rfl


set_option maxRecDepth 20000 in
set_option maxHeartbeats 2000000 in
theorem ct_law06_awake (r : Bool) (hF : law06_awake = some r) : Ct Try.prog 9 [] (.one (.d (.v (.bool r)))) := by
  unfold law06_awake at hF
  refine Ct.intro Try.func9 rfl Try.ntmps9 rfl rfl fun M w => ?_
  refine G.seq ?_
  refine G.region ?_
  refine G.op1 (op_assign (Ev.c _ rfl) rfl) rfl trivial trivial ?_
  refine G.endOps ?_
  refine G.seq ?_
  refine G.region ?_
  refine G.op1 (op_build (zs := [.v (.int .i64 0), .v (.int .i64 0)]) (ds := [.v (.int .i64 3), .v (.int .i64 2)]) Try.underlying23 ti23 (pl23 _ Try.underlying23) ⟨.v _ rfl, .v _ rfl, trivial⟩ (EvP.cons (Ev.c _ rfl) (EvP.cons (Ev.c _ rfl) EvP.nil)) rfl rfl) rfl trivial trivial ?_
  refine G.op1 (op_build (zs := [.v (.string ByteArray.empty), .v (.string ByteArray.empty), .v (.bool false), .v (.int .i64 0), .v (.int .i64 0), .sl 3 (List.map encApi_Dep ([] : (List Api_Dep)))]) (ds := [.v (.string (ByteArray.mk #[97])), .v (.string (ByteArray.mk #[98])), .v (.bool false), .v (.int .i64 3), .v (.int .i64 2), .sl 3 (List.map encApi_Dep ([] : (List Api_Dep)))]) Try.underlying26 ti26 (pl26 _ Try.underlying26) ⟨.v _ rfl, .v _ rfl, .v _ rfl, .v _ rfl, .v _ rfl, .n 3, trivial⟩ (EvP.cons (Ev.c _ rfl) (EvP.cons (Ev.c _ rfl) (EvP.cons (Ev.t 4 (.g (.agg [.v (.int .i64 3), .v (.int .i64 2)]))) EvP.nil))) rfl rfl) rfl ⟨rfl, trivial⟩ trivial ?_
  refine G.op2 (op_alloc (k := 1001) (cs := [bS ByteArray.empty, bS ByteArray.empty, bB false, bI .i64 0, bI .i64 0, .g (.d (.sl 3 (List.map encApi_Dep ([] : (List Api_Dep)))))]) ti26 ⟨.v _ rfl, .v _ rfl, .v _ rfl, .v _ rfl, .v _ rfl, .n 3, trivial⟩ rfl) rfl trivial ⟨rfl, trivial⟩ ?_
  refine G.op3 (op_storeA (cs' := [bS (ByteArray.mk #[97]), bS (ByteArray.mk #[98]), bB false, bI .i64 3, bI .i64 2, .g (.d (.sl 3 (List.map encApi_Dep ([] : (List Api_Dep)))))]) ti26 rfl rfl (Ev.t 1 (.ptr 1001 0)) (Ev.t 5 (.g (.agg [.v (.string (ByteArray.mk #[97])), .v (.string (ByteArray.mk #[98])), .v (.bool false), .v (.int .i64 3), .v (.int .i64 2), .sl 3 (List.map encApi_Dep ([] : (List Api_Dep)))])))) rfl ⟨rfl, rfl, trivial⟩ ⟨rfl, trivial⟩ ?_
  refine G.endOps ?_
  refine G.seq ?_
  refine G.region ?_
  obtain ⟨r1, hr1, hF⟩ := bindS hF
  refine G.op1 (op_call (sv := .tup [.g (.agg [.v (.string r1.1.Key), .v (.string r1.1.Value), .v (.bool r1.1.Gone), .v (.int .i64 r1.1.Stamp.N), .v (.int .i64 r1.1.Stamp.Site), .sl 3 (List.map encApi_Dep r1.1.Past)]), bB r1.2]) cf17 (ct_wire_Read (ByteArray.mk #[1, 97, 0, 1, 98, 3, 2, 0]) r1 hr1) rfl (EvL.cons (Ev.c _ rfl) EvL.nil) rfl) rfl trivial trivial ?_
  refine G.op1 (op_moveS (t := 7) (sv := .tup [.g (.agg [.v (.string r1.1.Key), .v (.string r1.1.Value), .v (.bool r1.1.Gone), .v (.int .i64 r1.1.Stamp.N), .v (.int .i64 r1.1.Stamp.Site), .sl 3 (List.map encApi_Dep r1.1.Past)]), bB r1.2]) rfl) rfl ⟨rfl, trivial⟩ trivial ?_
  refine G.op1 (op_extract (l := [.g (.agg [.v (.string r1.1.Key), .v (.string r1.1.Value), .v (.bool r1.1.Gone), .v (.int .i64 r1.1.Stamp.N), .v (.int .i64 r1.1.Stamp.Site), .sl 3 (List.map encApi_Dep r1.1.Past)]), bB r1.2]) (c := .g (.agg [.v (.string r1.1.Key), .v (.string r1.1.Value), .v (.bool r1.1.Gone), .v (.int .i64 r1.1.Stamp.N), .v (.int .i64 r1.1.Stamp.Site), .sl 3 (List.map encApi_Dep r1.1.Past)])) rfl rfl) rfl ⟨rfl, trivial⟩ trivial ?_
  refine G.op1 (op_extract (l := [.g (.agg [.v (.string r1.1.Key), .v (.string r1.1.Value), .v (.bool r1.1.Gone), .v (.int .i64 r1.1.Stamp.N), .v (.int .i64 r1.1.Stamp.Site), .sl 3 (List.map encApi_Dep r1.1.Past)]), bB r1.2]) (c := bB r1.2) rfl rfl) rfl ⟨rfl, trivial⟩ trivial ?_
  refine G.op2 (op_alloc (k := 1002) (cs := [bS ByteArray.empty, bS ByteArray.empty, bB false, bI .i64 0, bI .i64 0, .g (.d (.sl 3 (List.map encApi_Dep ([] : (List Api_Dep)))))]) ti26 ⟨.v _ rfl, .v _ rfl, .v _ rfl, .v _ rfl, .v _ rfl, .n 3, trivial⟩ rfl) rfl trivial ⟨rfl, trivial⟩ ?_
  refine G.op3 (op_storeA (cs' := [bS r1.1.Key, bS r1.1.Value, bB r1.1.Gone, bI .i64 r1.1.Stamp.N, bI .i64 r1.1.Stamp.Site, .g (.d (.sl 3 (List.map encApi_Dep r1.1.Past)))]) ti26 rfl rfl (Ev.t 2 (.ptr 1002 0)) (Ev.t 8 (.g (.agg [.v (.string r1.1.Key), .v (.string r1.1.Value), .v (.bool r1.1.Gone), .v (.int .i64 r1.1.Stamp.N), .v (.int .i64 r1.1.Stamp.Site), .sl 3 (List.map encApi_Dep r1.1.Past)])))) rfl ⟨rfl, rfl, trivial⟩ ⟨rfl, trivial⟩ ?_
  refine G.op1 (op_assign (Ev.t 9 (bB r1.2)) rfl) rfl ⟨rfl, trivial⟩ trivial ?_
  refine G.endOps ?_
  refine G.seq ?_
  refine G.region ?_
  refine G.op1 (op_loadAP (ds := [.v (.string (ByteArray.mk #[97])), .v (.string (ByteArray.mk #[98])), .v (.bool false), .v (.int .i64 3), .v (.int .i64 2), .sl 3 (List.map encApi_Dep ([] : (List Api_Dep)))]) Try.underlying26 rfl ti26 rfl (Ev.t 1 (.ptr 1001 0)) rfl) rfl ⟨rfl, trivial⟩ ⟨rfl, trivial⟩ ?_
  obtain ⟨r2, hr2, hF⟩ := bindS hF
  refine G.op1 (op_callQ (sv := .one (bS r2)) cf13 (ct_wire_Bytes (Api_Version.mk (ByteArray.mk #[97]) (ByteArray.mk #[98]) false (Api_Stamp.mk 3 2) ([] : (List Api_Dep))) r2 hr2) rfl rfl (EvQL.cons (EvQ.g (Ev.t 10 (.g (.agg [.v (.string (ByteArray.mk #[97])), .v (.string (ByteArray.mk #[98])), .v (.bool false), .v (.int .i64 3), .v (.int .i64 2), .sl 3 (List.map encApi_Dep ([] : (List Api_Dep)))])))) EvQL.nil) rfl) rfl ⟨rfl, trivial⟩ trivial ?_
  refine G.op1 (op_eqS (Ev.t 11 (bS r2)) (Ev.c _ rfl) rfl) rfl ⟨rfl, trivial⟩ trivial ?_
  refine G.op1 (op_move (Ev.t 12 (bB (seq r2 (ByteArray.mk #[1, 97, 0, 1, 98, 3, 2, 0])))) rfl) rfl ⟨rfl, trivial⟩ trivial ?_
  refine G.joinL (T := Bool) 2 (fun y3 => ⟨[(1, .one (.ptr 1001 0)), (2, .one (.ptr 1002 0)), (15, .one (bB y3))], [(1001, some (.blk 26 [bS (ByteArray.mk #[97]), bS (ByteArray.mk #[98]), bB false, bI .i64 3, bI .i64 2, .g (.d (.sl 3 (List.map encApi_Dep ([] : (List Api_Dep)))))])), (1002, some (.blk 26 [bS r1.1.Key, bS r1.1.Value, bB r1.1.Gone, bI .i64 r1.1.Stamp.N, bI .i64 r1.1.Stamp.Site, .g (.d (.sl 3 (List.map encApi_Dep r1.1.Past)))]))]⟩) (fun y3 => law06_awake_k1 r1 y3 = some r) (fun y3 hF => ?_) (fun J6 => ?_)
  · unfold law06_awake_k1 at hF
    refine G.op1 (op_move (Ev.t 15 (bB y3)) rfl) rfl ⟨rfl, trivial⟩ trivial ?_
    refine ifS hF (fun hc4 hF => ?_) (fun hc4 hF => ?_)
    · refine G.known (t := 16) hc4 rfl ?_
      refine G.opG1 (op_loadAP (ds := [.v (.string (ByteArray.mk #[97])), .v (.string (ByteArray.mk #[98])), .v (.bool false), .v (.int .i64 3), .v (.int .i64 2), .sl 3 (List.map encApi_Dep ([] : (List Api_Dep)))]) Try.underlying26 rfl ti26 rfl (Ev.t 1 (.ptr 1001 0)) rfl) rfl rfl rfl ⟨rfl, trivial⟩ ⟨rfl, trivial⟩ ?_
      refine G.opG1 (op_loadAP (ds := [.v (.string r1.1.Key), .v (.string r1.1.Value), .v (.bool r1.1.Gone), .v (.int .i64 r1.1.Stamp.N), .v (.int .i64 r1.1.Stamp.Site), .sl 3 (List.map encApi_Dep r1.1.Past)]) Try.underlying26 rfl ti26 rfl (Ev.t 2 (.ptr 1002 0)) rfl) rfl rfl rfl ⟨rfl, trivial⟩ ⟨rfl, trivial⟩ ?_
      obtain ⟨r5, hr5, hF⟩ := bindS hF
      refine G.opG1 (op_callQ (sv := .one (bB r5)) cf15 (ct_wire_Same (Api_Version.mk (ByteArray.mk #[97]) (ByteArray.mk #[98]) false (Api_Stamp.mk 3 2) ([] : (List Api_Dep))) r1.1 r5 hr5) rfl rfl (EvQL.cons (EvQ.g (Ev.t 17 (.g (.agg [.v (.string (ByteArray.mk #[97])), .v (.string (ByteArray.mk #[98])), .v (.bool false), .v (.int .i64 3), .v (.int .i64 2), .sl 3 (List.map encApi_Dep ([] : (List Api_Dep)))])))) (EvQL.cons (EvQ.g (Ev.t 18 (.g (.agg [.v (.string r1.1.Key), .v (.string r1.1.Value), .v (.bool r1.1.Gone), .v (.int .i64 r1.1.Stamp.N), .v (.int .i64 r1.1.Stamp.Site), .sl 3 (List.map encApi_Dep r1.1.Past)])))) EvQL.nil)) rfl) rfl rfl rfl ⟨rfl, rfl, trivial⟩ trivial ?_
      refine G.op1 (op_pickT (Ev.t 16 (bB true)) (Ev.t 19 (bB r5)) rfl) rfl ⟨rfl, rfl, trivial⟩ trivial ?_
      refine G.op1 (op_assign (Ev.t 20 (bB r5)) rfl) rfl ⟨rfl, trivial⟩ trivial ?_
      refine G.endOps ?_
      cases hF
      exact G.ret1 Try.results9 (RVar.tmp 0 _) ⟨rfl, trivial⟩ trivial
    · refine G.known (t := 16) hc4 rfl ?_
      refine G.opN1 rfl rfl rfl rfl rfl ?_
      refine G.opN1 rfl rfl rfl rfl rfl ?_
      refine G.opN1 rfl rfl rfl rfl rfl ?_
      refine G.op1 (op_pickF (Ev.t 16 (bB false)) (Ev.c _ rfl) rfl) rfl ⟨rfl, trivial⟩ trivial ?_
      refine G.op1 (op_assign (Ev.t 20 (bB false)) rfl) rfl ⟨rfl, trivial⟩ trivial ?_
      refine G.endOps ?_
      cases hF
      exact G.ret1 Try.results9 (RVar.tmp 0 _) ⟨rfl, trivial⟩ trivial
  refine ifS hF (fun hc7 hF => ?_) (fun hc7 hF => ?_)
  · refine G.known (t := 13) hc7 rfl ?_
    refine G.opG1 (op_move (Ev.t 3 (bB r1.2)) rfl) rfl rfl rfl ⟨rfl, trivial⟩ trivial ?_
    refine G.op1 (op_pickT (Ev.t 13 (bB true)) (Ev.t 14 (bB r1.2)) rfl) rfl ⟨rfl, rfl, trivial⟩ trivial ?_
    exact G.arr (J6 r1.2 hF) ⟨rfl, rfl, rfl, trivial⟩ ⟨rfl, rfl, trivial⟩ rfl
  · refine G.known (t := 13) hc7 rfl ?_
    refine G.opN1 rfl rfl rfl rfl rfl ?_
    refine G.op1 (op_pickF (Ev.t 13 (bB false)) (Ev.c _ rfl) rfl) rfl ⟨rfl, trivial⟩ trivial ?_
    exact G.arr (J6 false hF) ⟨rfl, rfl, rfl, trivial⟩ ⟨rfl, rfl, trivial⟩ rfl


set_option maxRecDepth 20000 in
set_option maxHeartbeats 2000000 in
theorem ct_law06_Spec_row (q_0 : Law06_Spec) (r : Api_Row) (hF : law06_Spec_row q_0 = some r) : Ct Try.prog 19 [.g (.agg (encLaw06_Spec q_0))] (.one (.agg (encApi_Row r))) := by
  unfold law06_Spec_row at hF
  refine Ct.intro Try.func19 rfl Try.ntmps19 rfl rfl fun M w => ?_
  refine G.seq ?_
  refine G.region ?_
  refine G.op2 (op_boxA (k := 1001) (Ev.t 0 (.g (.agg [.sl 1 (List.map encI_i64 q_0.Ends), .sl 1 (List.map encI_i64 q_0.Owners), .sl 1 (List.map encI_i64 q_0.Parents)]))) rfl) rfl ⟨rfl, trivial⟩ ⟨rfl, trivial⟩ ?_
  refine G.op2 (op_alloc (k := 1002) (cs := [.g (.d (.sl 2 (List.map encApi_Range ([] : (List Api_Range))))), .g (.d (.sl 1 (List.map encI_i64 ([] : (List Int))))), .g (.d (.sl 1 (List.map encI_i64 ([] : (List Int)))))]) ti44 ⟨.n 2, .n 1, .n 1, trivial⟩ rfl) rfl trivial ⟨rfl, trivial⟩ ?_
  refine G.endOps ?_
  refine G.seq ?_
  refine G.region ?_
  refine G.op2 (op_buildRowN (kk := 2012) (ex := false) (es := List.map encI_i64 [(-1)]) Try.underlying39 ti3 rfl rfl rfl (EvP.cons (Ev.c _ rfl) EvP.nil) rfl rfl (by simp [encI_i64]) rfl) rfl trivial ⟨rfl, trivial⟩ ?_
  refine G.buildLit (kb := 1003) (kk := 2012) (off := 2) (zs := [.v (.slice none 0 0), .v (.slice none 0 0), .v (.slice none 0 0)]) (cs := [.g (.d (.v (.slice none 0 0))), .g (.d (.v (.slice none 0 0))), .own 2012 (List.map encI_i64 ([(-1)]))]) Try.underlying44 ti44 (pl44 _ Try.underlying44) ⟨.v _ rfl, .v _ rfl, .v _ rfl, trivial⟩ rfl rfl (Ev.t 12 (.own 2012 (List.map encI_i64 ([(-1)])))) ⟨rfl, trivial⟩ rfl rfl rfl rfl rfl rfl rfl ?_
  refine G.rowCell (kb := 1003) (kk := 5048) (E := 88) (size := 2) (j := 0) (cs' := [.own 5048 (List.map encApi_Range ([] : List Api_Range)), .g (.d (.v (.slice none 0 0))), .own 2012 (List.map encI_i64 ([(-1)]))]) rfl rfl rfl rfl rfl rfl ?_
  refine G.rowCell (kb := 1003) (kk := 5049) (E := 3) (size := 1) (j := 1) (cs' := [.own 5048 (List.map encApi_Range ([] : List Api_Range)), .own 5049 (List.map encI_i64 ([] : List Int)), .own 2012 (List.map encI_i64 ([(-1)]))]) rfl rfl rfl rfl rfl rfl ?_
  refine G.endOps ?_
  refine G.seq ?_
  refine G.seq ?_
  refine G.region ?_
  refine G.op1 (op_assign (Ev.c _ rfl) rfl) rfl trivial trivial ?_
  refine G.endOps ?_
  refine G.joinC (T := (List Int)) (fun y1 => ⟨[(1, .one (.ptr 1001 0)), (2, .one (.ptr 1002 0)), (3, .one (.ptr 1003 0))], [(1001, some (.blk 41 [.g (.d (.sl 1 (List.map encI_i64 q_0.Ends))), .g (.d (.sl 1 (List.map encI_i64 q_0.Owners))), .g (.d (.sl 1 (List.map encI_i64 q_0.Parents)))])), (1002, some (.blk 44 [.g (.d (.sl 2 (List.map encApi_Range ([] : (List Api_Range))))), .g (.d (.sl 1 (List.map encI_i64 ([] : (List Int))))), .g (.d (.sl 1 (List.map encI_i64 ([] : (List Int)))))])), (1003, some (.blk 44 [.own 5048 (List.map encApi_Range ([] : List Api_Range)), .own 5049 (List.map encI_i64 ([] : List Int)), .own 2012 (List.map encI_i64 y1)])), (2012, some (.row 3 1 (List.map encI_i64 y1) false)), (5048, some (.row 88 2 (List.map encApi_Range ([] : List Api_Range)) false)), (5049, some (.row 3 1 (List.map encI_i64 ([] : List Int)) false))]⟩) (fun y1 => law06_Spec_row_k1 q_0 y1 = some r) (fun y1 hF => ?_) (fun J37 => ?_)
  · unfold law06_Spec_row_k1 at hF
    refine G.seq ?_
    refine G.region ?_
    refine G.op1 (op_assign (Ev.c _ rfl) rfl) rfl trivial trivial ?_
    refine G.endOps ?_
    refine G.seq ?_
    refine G.seq ?_
    refine G.region ?_
    refine G.op1 (op_assign (Ev.c _ rfl) rfl) rfl trivial trivial ?_
    refine G.endOps ?_
    refine G.joinC (T := ByteArray × (List Api_Range)) (fun y2 => ⟨[(1, .one (.ptr 1001 0)), (2, .one (.ptr 1002 0)), (3, .one (.ptr 1003 0)), (5, .one (bS y2.1))], [(1001, some (.blk 41 [.g (.d (.sl 1 (List.map encI_i64 q_0.Ends))), .g (.d (.sl 1 (List.map encI_i64 q_0.Owners))), .g (.d (.sl 1 (List.map encI_i64 q_0.Parents)))])), (1002, some (.blk 44 [.g (.d (.sl 2 (List.map encApi_Range ([] : (List Api_Range))))), .g (.d (.sl 1 (List.map encI_i64 ([] : (List Int))))), .g (.d (.sl 1 (List.map encI_i64 ([] : (List Int)))))])), (1003, some (.blk 44 [.own 5048 (List.map encApi_Range y2.2), .own 5049 (List.map encI_i64 ([] : List Int)), .own 2012 (List.map encI_i64 y1)])), (2012, some (.row 3 1 (List.map encI_i64 y1) false)), (5048, some (.row 88 2 (List.map encApi_Range y2.2) false)), (5049, some (.row 3 1 (List.map encI_i64 ([] : List Int)) false))]⟩) (fun y2 => law06_Spec_row_k2 q_0 y1 y2 = some r) (fun y2 hF => ?_) (fun J25 => ?_)
    · unfold law06_Spec_row_k2 at hF
      refine G.seq ?_
      refine G.region ?_
      refine G.op1 (op_fieldP (off' := 0) Try.underlying44 rfl ti42 (by decide) rfl (Ev.t 3 (.ptr 1003 0)) rfl) rfl ⟨rfl, trivial⟩ trivial ?_
      refine G.op1 (op_load1P (c := .own 5048 (List.map encApi_Range y2.2)) Try.underlying42 rfl rfl (Ev.t 74 (.ptr 1003 0)) rfl) rfl ⟨rfl, trivial⟩ ⟨rfl, trivial⟩ ?_
      refine G.op1 (op_move (Ev.t 5 (bS y2.1)) rfl) rfl ⟨rfl, trivial⟩ trivial ?_
      refine G.op1 (op_build (zs := [.v (.string ByteArray.empty), .v (.string ByteArray.empty)]) (ds := [.v (.string y2.1), .v (.string ByteArray.empty)]) Try.underlying88 ti88 (pl88 _ Try.underlying88) ⟨.v _ rfl, .v _ rfl, trivial⟩ (EvP.cons (Ev.t 76 (bS y2.1)) EvP.nil) rfl rfl) rfl ⟨rfl, trivial⟩ trivial ?_
      refine G.op1 (op_buildSlice (es := List.map encApi_Range [(Api_Range.mk y2.1 ByteArray.empty)]) Try.underlying42 ti88 rfl rfl (EvP.cons (Ev.t 77 (.g (.agg [.v (.string y2.1), .v (.string ByteArray.empty)]))) EvP.nil) rfl rfl (by simp [encApi_Range]) rfl) rfl ⟨rfl, trivial⟩ trivial ?_
      obtain ⟨l3, hl3, hF⟩ := bindS hF
      refine G.op2 (op_appendO Try.underlying42 ti88 rfl (app_map hl3 encApi_Range) (app_b1 hl3 encApi_Range) (app_b2 hl3 encApi_Range) (Ev.t 75 (.own 5048 (List.map encApi_Range y2.2))) (Ev.t 78 (.g (.d (.sl 2 (List.map encApi_Range ([(Api_Range.mk y2.1 ByteArray.empty)])))))) rfl) rfl ⟨rfl, rfl, trivial⟩ ⟨rfl, trivial⟩ ?_
      refine G.op1 (op_fieldP (off' := 0) Try.underlying44 rfl ti42 (by decide) rfl (Ev.t 3 (.ptr 1003 0)) rfl) rfl ⟨rfl, trivial⟩ trivial ?_
      refine G.op3 (op_storeO (cs' := [.own 5048 (List.map encApi_Range l3), .own 5049 (List.map encI_i64 ([] : List Int)), .own 2012 (List.map encI_i64 y1)]) ti42 rfl rfl rfl (Ev.t 80 (.ptr 1003 0)) (Ev.t 79 (.own 5048 (List.map encApi_Range l3)))) rfl ⟨rfl, rfl, trivial⟩ ⟨rfl, rfl, trivial⟩ ?_
      refine G.endOps ?_
      refine G.seq ?_
      refine G.region ?_
      refine G.op1 (op_assign (Ev.c _ rfl) rfl) rfl trivial trivial ?_
      refine G.endOps ?_
      refine G.seq ?_
      refine G.seq ?_
      refine G.region ?_
      refine G.op1 (op_assign (Ev.c _ rfl) rfl) rfl trivial trivial ?_
      refine G.endOps ?_
      refine G.joinC (T := Int) (fun y4 => ⟨[(1, .one (.ptr 1001 0)), (2, .one (.ptr 1002 0)), (3, .one (.ptr 1003 0)), (8, .one (bI .i64 y4))], [(1001, some (.blk 41 [.g (.d (.sl 1 (List.map encI_i64 q_0.Ends))), .g (.d (.sl 1 (List.map encI_i64 q_0.Owners))), .g (.d (.sl 1 (List.map encI_i64 q_0.Parents)))])), (1002, some (.blk 44 [.g (.d (.sl 2 (List.map encApi_Range ([] : (List Api_Range))))), .g (.d (.sl 1 (List.map encI_i64 ([] : (List Int))))), .g (.d (.sl 1 (List.map encI_i64 ([] : (List Int)))))])), (1003, some (.blk 44 [.own 5048 (List.map encApi_Range l3), .own 5049 (List.map encI_i64 ([] : List Int)), .own 2012 (List.map encI_i64 y1)])), (2012, some (.row 3 1 (List.map encI_i64 y1) false)), (5048, some (.row 88 2 (List.map encApi_Range l3) false)), (5049, some (.row 3 1 (List.map encI_i64 ([] : List Int)) false))]⟩) (fun y4 => law06_Spec_row_k3 q_0 y1 l3 y4 = some r) (fun y4 hF => ?_) (fun J19 => ?_)
      · unfold law06_Spec_row_k3 at hF
        refine G.seq ?_
        refine G.seq ?_
        refine G.region ?_
        refine G.op1 (op_assign (Ev.c _ rfl) rfl) rfl trivial trivial ?_
        refine G.endOps ?_
        refine G.joinC (T := (List Int)) (fun y5 => ⟨[(2, .one (.ptr 1002 0)), (3, .one (.ptr 1003 0))], [(1002, some (.blk 44 [.g (.d (.sl 2 (List.map encApi_Range ([] : (List Api_Range))))), .g (.d (.sl 1 (List.map encI_i64 ([] : (List Int))))), .g (.d (.sl 1 (List.map encI_i64 ([] : (List Int)))))])), (1003, some (.blk 44 [.own 5048 (List.map encApi_Range l3), .own 5049 (List.map encI_i64 y5), .own 2012 (List.map encI_i64 y1)])), (2012, some (.row 3 1 (List.map encI_i64 y1) false)), (5048, some (.row 88 2 (List.map encApi_Range l3) false)), (5049, some (.row 3 1 (List.map encI_i64 y5) false))]⟩) (fun y5 => law06_Spec_row_k4 y1 l3 y5 = some r) (fun y5 hF => ?_) (fun J6 => ?_)
        · unfold law06_Spec_row_k4 at hF
          refine G.seq ?_
          refine G.region ?_
          refine G.viewCell (kb := 1003) (j := 0) (cs' := [.g (.d (.sl 2 (List.map encApi_Range l3))), .own 5049 (List.map encI_i64 y5), .own 2012 (List.map encI_i64 y1)]) rfl rfl rfl rfl ?_
          refine G.viewCell (kb := 1003) (j := 1) (cs' := [.g (.d (.sl 2 (List.map encApi_Range l3))), .g (.d (.sl 1 (List.map encI_i64 y5))), .own 2012 (List.map encI_i64 y1)]) rfl rfl rfl rfl ?_
          refine G.viewCell (kb := 1003) (j := 2) (cs' := [.g (.d (.sl 2 (List.map encApi_Range l3))), .g (.d (.sl 1 (List.map encI_i64 y5))), .g (.d (.sl 1 (List.map encI_i64 y1)))]) rfl rfl rfl rfl ?_
          refine G.op1 (op_loadAP (ds := [.sl 2 (List.map encApi_Range l3), .sl 1 (List.map encI_i64 y5), .sl 1 (List.map encI_i64 y1)]) Try.underlying44 rfl ti44 rfl (Ev.t 3 (.ptr 1003 0)) rfl) rfl ⟨rfl, trivial⟩ ⟨rfl, trivial⟩ ?_
          refine G.op3 (op_storeA (cs' := [.g (.d (.sl 2 (List.map encApi_Range l3))), .g (.d (.sl 1 (List.map encI_i64 y5))), .g (.d (.sl 1 (List.map encI_i64 y1)))]) ti44 rfl rfl (Ev.t 2 (.ptr 1002 0)) (Ev.t 123 (.g (.agg [.sl 2 (List.map encApi_Range l3), .sl 1 (List.map encI_i64 y5), .sl 1 (List.map encI_i64 y1)])))) rfl ⟨rfl, rfl, trivial⟩ ⟨rfl, trivial⟩ ?_
          refine G.endOps ?_
          cases hF
          exact G.ret1 Try.results19 (RVar.cellA (ds := [.sl 2 (List.map encApi_Range l3), .sl 1 (List.map encI_i64 y5), .sl 1 (List.map encI_i64 y1)]) Try.underlying44 rfl ti44 rfl) ⟨rfl, trivial⟩ ⟨rfl, trivial⟩
        refine G.block ?_
        refine G.keep (sl' := [(1, .one (.ptr 1001 0)), (2, .one (.ptr 1002 0)), (3, .one (.ptr 1003 0)), (8, .one (bI .i64 y4)), (10, .one (bI .i64 0))]) (hp' := [(1001, some (.blk 41 [.g (.d (.sl 1 (List.map encI_i64 q_0.Ends))), .g (.d (.sl 1 (List.map encI_i64 q_0.Owners))), .g (.d (.sl 1 (List.map encI_i64 q_0.Parents)))])), (1002, some (.blk 44 [.g (.d (.sl 2 (List.map encApi_Range ([] : (List Api_Range))))), .g (.d (.sl 1 (List.map encI_i64 ([] : (List Int))))), .g (.d (.sl 1 (List.map encI_i64 ([] : (List Int)))))])), (1003, some (.blk 44 [.own 5048 (List.map encApi_Range l3), .own 5049 (List.map encI_i64 ([] : List Int)), .own 2012 (List.map encI_i64 y1)])), (2012, some (.row 3 1 (List.map encI_i64 y1) false)), (5048, some (.row 88 2 (List.map encApi_Range l3) false)), (5049, some (.row 3 1 (List.map encI_i64 ([] : List Int)) false))]) ⟨rfl, rfl, rfl, rfl, rfl, trivial⟩ ⟨rfl, rfl, rfl, rfl, rfl, rfl, trivial⟩ rfl ?_
        refine G.loopF (fun (v7 : Int × (List Int)) => ⟨[(1, .one (.ptr 1001 0)), (2, .one (.ptr 1002 0)), (3, .one (.ptr 1003 0)), (8, .one (bI .i64 y4)), (10, .one (bI .i64 v7.1))], [(1001, some (.blk 41 [.g (.d (.sl 1 (List.map encI_i64 q_0.Ends))), .g (.d (.sl 1 (List.map encI_i64 q_0.Owners))), .g (.d (.sl 1 (List.map encI_i64 q_0.Parents)))])), (1002, some (.blk 44 [.g (.d (.sl 2 (List.map encApi_Range ([] : (List Api_Range))))), .g (.d (.sl 1 (List.map encI_i64 ([] : (List Int))))), .g (.d (.sl 1 (List.map encI_i64 ([] : (List Int)))))])), (1003, some (.blk 44 [.own 5048 (List.map encApi_Range l3), .own 5049 (List.map encI_i64 v7.2), .own 2012 (List.map encI_i64 y1)])), (2012, some (.row 3 1 (List.map encI_i64 y1) false)), (5048, some (.row 88 2 (List.map encApi_Range l3) false)), (5049, some (.row 3 1 (List.map encI_i64 v7.2) false))]⟩) hF rfl (fun K10 again9 v7 J8 hF => ?_)
        unfold law06_Spec_row_l5 at hF
        refine G.seq ?_
        refine G.seq ?_
        refine G.region ?_
        refine G.op1 (op_move (Ev.t 10 (bI .i64 v7.1)) rfl) rfl ⟨rfl, trivial⟩ trivial ?_
        refine G.op1 (op_fieldP (off' := 0) Try.underlying44 rfl ti42 (by decide) rfl (Ev.t 3 (.ptr 1003 0)) rfl) rfl ⟨rfl, trivial⟩ trivial ?_
        refine G.op1 (op_load1P (c := .own 5048 (List.map encApi_Range l3)) Try.underlying42 rfl rfl (Ev.t 91 (.ptr 1003 0)) rfl) rfl ⟨rfl, trivial⟩ ⟨rfl, trivial⟩ ?_
        refine G.op1 (OpL.cast (op_lenO Try.underlying42 (Ev.t 92 (.own 5048 (List.map encApi_Range l3))) rfl) (by rw [List.length_map])) rfl ⟨rfl, trivial⟩ ⟨rfl, trivial⟩ ?_
        refine G.op1 (op_lss (Ev.t 90 (bI .i64 v7.1)) (Ev.t 93 (bI .i64 (l3.length : Int))) rfl) rfl ⟨rfl, rfl, trivial⟩ trivial ?_
        refine G.endOps ?_
        refine ifS hF (fun hc11 hF => ?_) (fun hc11 hF => ?_)
        · refine G.cond rfl (fun _ => ?_) (fun hx => by rw [hc11] at hx; cases hx)
          refine G.skip ?_
          refine G.seq ?_
          refine G.block ?_
          refine G.seq ?_
          refine G.region ?_
          refine G.op1 (op_assign (Ev.c _ rfl) rfl) rfl trivial trivial ?_
          refine G.endOps ?_
          refine G.seq ?_
          refine G.seq ?_
          refine G.region ?_
          refine G.op1 (op_move (Ev.t 10 (bI .i64 v7.1)) rfl) rfl ⟨rfl, trivial⟩ trivial ?_
          refine G.op1 (op_fieldP (off' := 1) Try.underlying41 rfl ti39 (by decide) rfl (Ev.t 1 (.ptr 1001 0)) rfl) rfl ⟨rfl, trivial⟩ trivial ?_
          refine G.op1 (op_load1P (c := .g (.d (.sl 1 (List.map encI_i64 q_0.Owners)))) Try.underlying39 rfl rfl (Ev.t 98 (.ptr 1001 1)) rfl) rfl ⟨rfl, trivial⟩ ⟨rfl, trivial⟩ ?_
          refine G.op1 (OpL.cast (op_lenD Try.underlying39 (Ev.t 99 (.g (.d (.sl 1 (List.map encI_i64 q_0.Owners))))) rfl) (by rw [List.length_map])) rfl ⟨rfl, trivial⟩ trivial ?_
          refine G.op1 (op_lss (Ev.t 97 (bI .i64 v7.1)) (Ev.t 100 (bI .i64 (q_0.Owners.length : Int))) rfl) rfl ⟨rfl, rfl, trivial⟩ trivial ?_
          refine G.endOps ?_
          refine G.joinC (T := Int) (fun y12 => ⟨[(1, .one (.ptr 1001 0)), (2, .one (.ptr 1002 0)), (3, .one (.ptr 1003 0)), (8, .one (bI .i64 y4)), (10, .one (bI .i64 v7.1)), (11, .one (bI .i64 y12))], [(1001, some (.blk 41 [.g (.d (.sl 1 (List.map encI_i64 q_0.Ends))), .g (.d (.sl 1 (List.map encI_i64 q_0.Owners))), .g (.d (.sl 1 (List.map encI_i64 q_0.Parents)))])), (1002, some (.blk 44 [.g (.d (.sl 2 (List.map encApi_Range ([] : (List Api_Range))))), .g (.d (.sl 1 (List.map encI_i64 ([] : (List Int))))), .g (.d (.sl 1 (List.map encI_i64 ([] : (List Int)))))])), (1003, some (.blk 44 [.own 5048 (List.map encApi_Range l3), .own 5049 (List.map encI_i64 v7.2), .own 2012 (List.map encI_i64 y1)])), (2012, some (.row 3 1 (List.map encI_i64 y1) false)), (5048, some (.row 88 2 (List.map encApi_Range l3) false)), (5049, some (.row 3 1 (List.map encI_i64 v7.2) false))]⟩) (fun y12 => law06_Spec_row_k6 again9 v7 y12 = some r) (fun y12 hF => ?_) (fun J14 => ?_)
          · unfold law06_Spec_row_k6 at hF
            refine G.region ?_
            refine G.op1 (op_fieldP (off' := 1) Try.underlying44 rfl ti39 (by decide) rfl (Ev.t 3 (.ptr 1003 0)) rfl) rfl ⟨rfl, trivial⟩ trivial ?_
            refine G.op1 (op_load1P (c := .own 5049 (List.map encI_i64 v7.2)) Try.underlying39 rfl rfl (Ev.t 116 (.ptr 1003 1)) rfl) rfl ⟨rfl, trivial⟩ ⟨rfl, trivial⟩ ?_
            refine G.op1 (op_move (Ev.t 11 (bI .i64 y12)) rfl) rfl ⟨rfl, trivial⟩ trivial ?_
            refine G.op1 (op_add (Ev.c _ rfl) (Ev.t 118 (bI .i64 y12)) rfl) rfl ⟨rfl, trivial⟩ trivial ?_
            refine G.op1 (op_buildSlice (es := List.map encI_i64 [IntKind.wrap .i64 (1 + y12)]) Try.underlying39 ti3 rfl rfl (EvP.cons (Ev.t 119 (bI .i64 (IntKind.wrap .i64 (1 + y12)))) EvP.nil) rfl rfl (by simp [encI_i64]) rfl) rfl ⟨rfl, trivial⟩ trivial ?_
            obtain ⟨l13, hl13, hF⟩ := bindS hF
            refine G.op2 (op_appendO Try.underlying39 ti3 rfl (app_map hl13 encI_i64) (app_b1 hl13 encI_i64) (app_b2 hl13 encI_i64) (Ev.t 117 (.own 5049 (List.map encI_i64 v7.2))) (Ev.t 120 (.g (.d (.sl 1 (List.map encI_i64 ([IntKind.wrap .i64 (1 + y12)])))))) rfl) rfl ⟨rfl, rfl, trivial⟩ ⟨rfl, trivial⟩ ?_
            refine G.op1 (op_fieldP (off' := 1) Try.underlying44 rfl ti39 (by decide) rfl (Ev.t 3 (.ptr 1003 0)) rfl) rfl ⟨rfl, trivial⟩ trivial ?_
            refine G.op3 (op_storeO (cs' := [.own 5048 (List.map encApi_Range l3), .own 5049 (List.map encI_i64 l13), .own 2012 (List.map encI_i64 y1)]) ti39 rfl rfl rfl (Ev.t 122 (.ptr 1003 1)) (Ev.t 121 (.own 5049 (List.map encI_i64 l13)))) rfl ⟨rfl, rfl, trivial⟩ ⟨rfl, rfl, trivial⟩ ?_
            refine G.endOps ?_
            refine G.endBlock ?_
            refine G.region ?_
            refine G.op1 (op_move (Ev.t 10 (bI .i64 v7.1)) rfl) rfl ⟨rfl, trivial⟩ trivial ?_
            refine G.op1 (op_add (Ev.t 95 (bI .i64 v7.1)) (Ev.c _ rfl) rfl) rfl ⟨rfl, trivial⟩ trivial ?_
            refine G.op1 (op_assign (Ev.t 96 (bI .i64 (IntKind.wrap .i64 (v7.1 + 1)))) rfl) rfl ⟨rfl, trivial⟩ trivial ?_
            refine G.endOps ?_
            exact G.arr (J8 (IntKind.wrap .i64 (v7.1 + 1), l13) hF) ⟨rfl, rfl, rfl, rfl, rfl, trivial⟩ ⟨rfl, rfl, rfl, rfl, rfl, rfl, trivial⟩ rfl
          refine ifS hF (fun hc15 hF => ?_) (fun hc15 hF => ?_)
          · refine G.cond rfl (fun _ => ?_) (fun hx => by rw [hc15] at hx; cases hx)
            refine G.region ?_
            refine G.op1 (op_fieldP (off' := 1) Try.underlying41 rfl ti39 (by decide) rfl (Ev.t 1 (.ptr 1001 0)) rfl) rfl ⟨rfl, trivial⟩ trivial ?_
            refine G.op1 (op_load1P (c := .g (.d (.sl 1 (List.map encI_i64 q_0.Owners)))) Try.underlying39 rfl rfl (Ev.t 102 (.ptr 1001 1)) rfl) rfl ⟨rfl, trivial⟩ ⟨rfl, trivial⟩ ?_
            refine G.op1 (op_move (Ev.t 10 (bI .i64 v7.1)) rfl) rfl ⟨rfl, trivial⟩ trivial ?_
            obtain ⟨x16, hx16, hF⟩ := bindS hF
            refine G.op1 (op_index (cs := [.v (.int .i64 x16)]) Try.underlying39 ti3 (idx_ok hx16).1 (idx_get hx16 encI_i64) (Ev.t 103 (.g (.d (.sl 1 (List.map encI_i64 q_0.Owners))))) (Ev.t 104 (bI .i64 v7.1)) rfl) rfl ⟨rfl, rfl, trivial⟩ trivial ?_
            refine G.op1 (op_load1E (c := .v (.int .i64 x16)) Try.underlying3 rfl rfl (Ev.t 105 (.ep [.v (.int .i64 x16)])) rfl) rfl ⟨rfl, trivial⟩ trivial ?_
            refine G.op1 (op_move (Ev.t 8 (bI .i64 y4)) rfl) rfl ⟨rfl, trivial⟩ trivial ?_
            refine G.op1 (op_sub (Ev.t 107 (bI .i64 y4)) (Ev.c _ rfl) rfl) rfl ⟨rfl, trivial⟩ trivial ?_
            obtain ⟨hz17, hF⟩ := chkS hF
            refine G.op1 (op_rem (by simpa using hz17) (Ev.t 106 (bI .i64 x16)) (Ev.t 108 (bI .i64 (IntKind.wrap .i64 (y4 - 1)))) rfl) rfl ⟨rfl, rfl, trivial⟩ trivial ?_
            refine G.op1 (op_move (Ev.t 8 (bI .i64 y4)) rfl) rfl ⟨rfl, trivial⟩ trivial ?_
            refine G.op1 (op_add (Ev.t 109 (bI .i64 (Int.tmod x16 (IntKind.wrap .i64 (y4 - 1))))) (Ev.t 110 (bI .i64 y4)) rfl) rfl ⟨rfl, rfl, trivial⟩ trivial ?_
            refine G.op1 (op_sub (Ev.t 111 (bI .i64 (IntKind.wrap .i64 ((Int.tmod x16 (IntKind.wrap .i64 (y4 - 1))) + y4)))) (Ev.c _ rfl) rfl) rfl ⟨rfl, trivial⟩ trivial ?_
            refine G.op1 (op_move (Ev.t 8 (bI .i64 y4)) rfl) rfl ⟨rfl, trivial⟩ trivial ?_
            refine G.op1 (op_sub (Ev.t 113 (bI .i64 y4)) (Ev.c _ rfl) rfl) rfl ⟨rfl, trivial⟩ trivial ?_
            obtain ⟨hz18, hF⟩ := chkS hF
            refine G.op1 (op_rem (by simpa using hz18) (Ev.t 112 (bI .i64 (IntKind.wrap .i64 ((IntKind.wrap .i64 ((Int.tmod x16 (IntKind.wrap .i64 (y4 - 1))) + y4)) - 1)))) (Ev.t 114 (bI .i64 (IntKind.wrap .i64 (y4 - 1)))) rfl) rfl ⟨rfl, rfl, trivial⟩ trivial ?_
            refine G.op1 (op_assign (Ev.t 115 (bI .i64 (Int.tmod (IntKind.wrap .i64 ((IntKind.wrap .i64 ((Int.tmod x16 (IntKind.wrap .i64 (y4 - 1))) + y4)) - 1)) (IntKind.wrap .i64 (y4 - 1))))) rfl) rfl ⟨rfl, trivial⟩ trivial ?_
            refine G.endOps ?_
            exact G.arr (J14 (Int.tmod (IntKind.wrap .i64 ((IntKind.wrap .i64 ((Int.tmod x16 (IntKind.wrap .i64 (y4 - 1))) + y4)) - 1)) (IntKind.wrap .i64 (y4 - 1))) hF) ⟨rfl, rfl, rfl, rfl, rfl, rfl, trivial⟩ ⟨rfl, rfl, rfl, rfl, rfl, rfl, trivial⟩ rfl
          · refine G.cond rfl (fun hx => by rw [hc15] at hx; cases hx) (fun _ => ?_)
            refine G.skip ?_
            exact G.arr (J14 0 hF) ⟨rfl, rfl, rfl, rfl, rfl, rfl, trivial⟩ ⟨rfl, rfl, rfl, rfl, rfl, rfl, trivial⟩ rfl
        · refine G.cond rfl (fun hx => by rw [hc11] at hx; cases hx) (fun _ => ?_)
          refine G.exit ?_
          refine GX.c ?_
          refine GX.q ?_
          refine GX.bYes ?_
          exact G.arr (J6 v7.2 hF) ⟨rfl, rfl, trivial⟩ ⟨rfl, rfl, rfl, rfl, rfl, trivial⟩ rfl
      refine G.block ?_
      refine G.keep (sl' := [(1, .one (.ptr 1001 0)), (2, .one (.ptr 1002 0)), (3, .one (.ptr 1003 0)), (8, .one (bI .i64 1)), (9, .one (bI .i64 0))]) (hp' := [(1001, some (.blk 41 [.g (.d (.sl 1 (List.map encI_i64 q_0.Ends))), .g (.d (.sl 1 (List.map encI_i64 q_0.Owners))), .g (.d (.sl 1 (List.map encI_i64 q_0.Parents)))])), (1002, some (.blk 44 [.g (.d (.sl 2 (List.map encApi_Range ([] : (List Api_Range))))), .g (.d (.sl 1 (List.map encI_i64 ([] : (List Int))))), .g (.d (.sl 1 (List.map encI_i64 ([] : (List Int)))))])), (1003, some (.blk 44 [.own 5048 (List.map encApi_Range l3), .own 5049 (List.map encI_i64 ([] : List Int)), .own 2012 (List.map encI_i64 y1)])), (2012, some (.row 3 1 (List.map encI_i64 y1) false)), (5048, some (.row 88 2 (List.map encApi_Range l3) false)), (5049, some (.row 3 1 (List.map encI_i64 ([] : List Int)) false))]) ⟨rfl, rfl, rfl, rfl, rfl, trivial⟩ ⟨rfl, rfl, rfl, rfl, rfl, rfl, trivial⟩ rfl ?_
      refine G.loopF (fun (v20 : Int × Int) => ⟨[(1, .one (.ptr 1001 0)), (2, .one (.ptr 1002 0)), (3, .one (.ptr 1003 0)), (8, .one (bI .i64 v20.1)), (9, .one (bI .i64 v20.2))], [(1001, some (.blk 41 [.g (.d (.sl 1 (List.map encI_i64 q_0.Ends))), .g (.d (.sl 1 (List.map encI_i64 q_0.Owners))), .g (.d (.sl 1 (List.map encI_i64 q_0.Parents)))])), (1002, some (.blk 44 [.g (.d (.sl 2 (List.map encApi_Range ([] : (List Api_Range))))), .g (.d (.sl 1 (List.map encI_i64 ([] : (List Int))))), .g (.d (.sl 1 (List.map encI_i64 ([] : (List Int)))))])), (1003, some (.blk 44 [.own 5048 (List.map encApi_Range l3), .own 5049 (List.map encI_i64 ([] : List Int)), .own 2012 (List.map encI_i64 y1)])), (2012, some (.row 3 1 (List.map encI_i64 y1) false)), (5048, some (.row 88 2 (List.map encApi_Range l3) false)), (5049, some (.row 3 1 (List.map encI_i64 ([] : List Int)) false))]⟩) hF rfl (fun K23 again22 v20 J21 hF => ?_)
      unfold law06_Spec_row_l7 at hF
      refine G.seq ?_
      refine G.seq ?_
      refine G.region ?_
      refine G.op1 (op_move (Ev.t 9 (bI .i64 v20.2)) rfl) rfl ⟨rfl, trivial⟩ trivial ?_
      refine G.op1 (op_fieldP (off' := 2) Try.underlying44 rfl ti39 (by decide) rfl (Ev.t 3 (.ptr 1003 0)) rfl) rfl ⟨rfl, trivial⟩ trivial ?_
      refine G.op1 (op_load1P (c := .own 2012 (List.map encI_i64 y1)) Try.underlying39 rfl rfl (Ev.t 82 (.ptr 1003 2)) rfl) rfl ⟨rfl, trivial⟩ ⟨rfl, trivial⟩ ?_
      refine G.op1 (OpL.cast (op_lenO Try.underlying39 (Ev.t 83 (.own 2012 (List.map encI_i64 y1))) rfl) (by rw [List.length_map])) rfl ⟨rfl, trivial⟩ ⟨rfl, trivial⟩ ?_
      refine G.op1 (op_lss (Ev.t 81 (bI .i64 v20.2)) (Ev.t 84 (bI .i64 (y1.length : Int))) rfl) rfl ⟨rfl, rfl, trivial⟩ trivial ?_
      refine G.endOps ?_
      refine ifS hF (fun hc24 hF => ?_) (fun hc24 hF => ?_)
      · refine G.cond rfl (fun _ => ?_) (fun hx => by rw [hc24] at hx; cases hx)
        refine G.skip ?_
        refine G.seq ?_
        refine G.block ?_
        refine G.region ?_
        refine G.op1 (op_move (Ev.t 8 (bI .i64 v20.1)) rfl) rfl ⟨rfl, trivial⟩ trivial ?_
        refine G.op1 (op_mul (Ev.t 88 (bI .i64 v20.1)) (Ev.c _ rfl) rfl) rfl ⟨rfl, trivial⟩ trivial ?_
        refine G.op1 (op_assign (Ev.t 89 (bI .i64 (IntKind.wrap .i64 (v20.1 * 2)))) rfl) rfl ⟨rfl, trivial⟩ trivial ?_
        refine G.endOps ?_
        refine G.endBlock ?_
        refine G.region ?_
        refine G.op1 (op_move (Ev.t 9 (bI .i64 v20.2)) rfl) rfl ⟨rfl, trivial⟩ trivial ?_
        refine G.op1 (op_add (Ev.t 86 (bI .i64 v20.2)) (Ev.c _ rfl) rfl) rfl ⟨rfl, trivial⟩ trivial ?_
        refine G.op1 (op_assign (Ev.t 87 (bI .i64 (IntKind.wrap .i64 (v20.2 + 1)))) rfl) rfl ⟨rfl, trivial⟩ trivial ?_
        refine G.endOps ?_
        exact G.arr (J21 (IntKind.wrap .i64 (v20.1 * 2), IntKind.wrap .i64 (v20.2 + 1)) hF) ⟨rfl, rfl, rfl, rfl, rfl, trivial⟩ ⟨rfl, rfl, rfl, rfl, rfl, rfl, trivial⟩ rfl
      · refine G.cond rfl (fun hx => by rw [hc24] at hx; cases hx) (fun _ => ?_)
        refine G.exit ?_
        refine GX.c ?_
        refine GX.q ?_
        refine GX.bYes ?_
        exact G.arr (J19 v20.1 hF) ⟨rfl, rfl, rfl, rfl, trivial⟩ ⟨rfl, rfl, rfl, rfl, rfl, rfl, trivial⟩ rfl
    refine G.block ?_
    refine G.keep (sl' := [(1, .one (.ptr 1001 0)), (2, .one (.ptr 1002 0)), (3, .one (.ptr 1003 0)), (5, .one (bS ByteArray.empty)), (6, .one (bI .i64 0))]) (hp' := [(1001, some (.blk 41 [.g (.d (.sl 1 (List.map encI_i64 q_0.Ends))), .g (.d (.sl 1 (List.map encI_i64 q_0.Owners))), .g (.d (.sl 1 (List.map encI_i64 q_0.Parents)))])), (1002, some (.blk 44 [.g (.d (.sl 2 (List.map encApi_Range ([] : (List Api_Range))))), .g (.d (.sl 1 (List.map encI_i64 ([] : (List Int))))), .g (.d (.sl 1 (List.map encI_i64 ([] : (List Int)))))])), (1003, some (.blk 44 [.own 5048 (List.map encApi_Range ([] : List Api_Range)), .own 5049 (List.map encI_i64 ([] : List Int)), .own 2012 (List.map encI_i64 y1)])), (2012, some (.row 3 1 (List.map encI_i64 y1) false)), (5048, some (.row 88 2 (List.map encApi_Range ([] : List Api_Range)) false)), (5049, some (.row 3 1 (List.map encI_i64 ([] : List Int)) false))]) ⟨rfl, rfl, rfl, rfl, rfl, trivial⟩ ⟨rfl, rfl, rfl, rfl, rfl, rfl, trivial⟩ rfl ?_
    refine G.loopF (fun (v26 : ByteArray × Int × (List Api_Range)) => ⟨[(1, .one (.ptr 1001 0)), (2, .one (.ptr 1002 0)), (3, .one (.ptr 1003 0)), (5, .one (bS v26.1)), (6, .one (bI .i64 v26.2.1))], [(1001, some (.blk 41 [.g (.d (.sl 1 (List.map encI_i64 q_0.Ends))), .g (.d (.sl 1 (List.map encI_i64 q_0.Owners))), .g (.d (.sl 1 (List.map encI_i64 q_0.Parents)))])), (1002, some (.blk 44 [.g (.d (.sl 2 (List.map encApi_Range ([] : (List Api_Range))))), .g (.d (.sl 1 (List.map encI_i64 ([] : (List Int))))), .g (.d (.sl 1 (List.map encI_i64 ([] : (List Int)))))])), (1003, some (.blk 44 [.own 5048 (List.map encApi_Range v26.2.2), .own 5049 (List.map encI_i64 ([] : List Int)), .own 2012 (List.map encI_i64 y1)])), (2012, some (.row 3 1 (List.map encI_i64 y1) false)), (5048, some (.row 88 2 (List.map encApi_Range v26.2.2) false)), (5049, some (.row 3 1 (List.map encI_i64 ([] : List Int)) false))]⟩) hF rfl (fun K29 again28 v26 J27 hF => ?_)
    unfold law06_Spec_row_l8 at hF
    refine G.seq ?_
    refine G.seq ?_
    refine G.joinC (T := Bool) (fun y30 => ⟨[(1, .one (.ptr 1001 0)), (2, .one (.ptr 1002 0)), (3, .one (.ptr 1003 0)), (5, .one (bS v26.1)), (6, .one (bI .i64 v26.2.1)), (47, .one (bB y30))], [(1001, some (.blk 41 [.g (.d (.sl 1 (List.map encI_i64 q_0.Ends))), .g (.d (.sl 1 (List.map encI_i64 q_0.Owners))), .g (.d (.sl 1 (List.map encI_i64 q_0.Parents)))])), (1002, some (.blk 44 [.g (.d (.sl 2 (List.map encApi_Range ([] : (List Api_Range))))), .g (.d (.sl 1 (List.map encI_i64 ([] : (List Int))))), .g (.d (.sl 1 (List.map encI_i64 ([] : (List Int)))))])), (1003, some (.blk 44 [.own 5048 (List.map encApi_Range v26.2.2), .own 5049 (List.map encI_i64 ([] : List Int)), .own 2012 (List.map encI_i64 y1)])), (2012, some (.row 3 1 (List.map encI_i64 y1) false)), (5048, some (.row 88 2 (List.map encApi_Range v26.2.2) false)), (5049, some (.row 3 1 (List.map encI_i64 ([] : List Int)) false))]⟩) (fun y30 => law06_Spec_row_k9 q_0 y1 again28 v26 y30 = some r) (fun y30 hF => ?_) (fun J35 => ?_)
    · unfold law06_Spec_row_k9 at hF
      refine ifS hF (fun hc31 hF => ?_) (fun hc31 hF => ?_)
      · refine G.cond rfl (fun _ => ?_) (fun hx => by rw [hc31] at hx; cases hx)
        refine G.skip ?_
        refine G.seq ?_
        refine G.block ?_
        refine G.seq ?_
        refine G.region ?_
        refine G.op1 (op_fieldP (off' := 0) Try.underlying41 rfl ti39 (by decide) rfl (Ev.t 1 (.ptr 1001 0)) rfl) rfl ⟨rfl, trivial⟩ trivial ?_
        refine G.op1 (op_load1P (c := .g (.d (.sl 1 (List.map encI_i64 q_0.Ends)))) Try.underlying39 rfl rfl (Ev.t 50 (.ptr 1001 0)) rfl) rfl ⟨rfl, trivial⟩ ⟨rfl, trivial⟩ ?_
        refine G.op1 (op_move (Ev.t 6 (bI .i64 v26.2.1)) rfl) rfl ⟨rfl, trivial⟩ trivial ?_
        obtain ⟨x32, hx32, hF⟩ := bindS hF
        refine G.op1 (op_index (cs := [.v (.int .i64 x32)]) Try.underlying39 ti3 (idx_ok hx32).1 (idx_get hx32 encI_i64) (Ev.t 51 (.g (.d (.sl 1 (List.map encI_i64 q_0.Ends))))) (Ev.t 52 (bI .i64 v26.2.1)) rfl) rfl ⟨rfl, rfl, trivial⟩ trivial ?_
        refine G.op1 (op_load1E (c := .v (.int .i64 x32)) Try.underlying3 rfl rfl (Ev.t 53 (.ep [.v (.int .i64 x32)])) rfl) rfl ⟨rfl, trivial⟩ trivial ?_
        refine G.op1 (op_rem (by decide) (Ev.t 54 (bI .i64 x32)) (Ev.c _ rfl) rfl) rfl ⟨rfl, trivial⟩ trivial ?_
        refine G.op1 (op_add (Ev.t 55 (bI .i64 (Int.tmod x32 26))) (Ev.c _ rfl) rfl) rfl ⟨rfl, trivial⟩ trivial ?_
        refine G.op1 (op_rem (by decide) (Ev.t 56 (bI .i64 (IntKind.wrap .i64 ((Int.tmod x32 26) + 26)))) (Ev.c _ rfl) rfl) rfl ⟨rfl, trivial⟩ trivial ?_
        refine G.op1 (op_add (Ev.c _ rfl) (Ev.t 57 (bI .i64 (Int.tmod (IntKind.wrap .i64 ((Int.tmod x32 26) + 26)) 26))) rfl) rfl ⟨rfl, trivial⟩ trivial ?_
        refine G.op1 (op_convI Try.underlying3 Try.underlying5 (Ev.t 58 (bI .i64 (IntKind.wrap .i64 (97 + (Int.tmod (IntKind.wrap .i64 ((Int.tmod x32 26) + 26)) 26))))) rfl) rfl ⟨rfl, trivial⟩ trivial ?_
        refine G.op1 (op_buildSlice (es := List.map encI_u8 [IntKind.wrap .u8 (IntKind.wrap .i64 (97 + (Int.tmod (IntKind.wrap .i64 ((Int.tmod x32 26) + 26)) 26)))]) Try.underlying33 ti5 rfl rfl (EvP.cons (Ev.t 59 (bI .u8 (IntKind.wrap .u8 (IntKind.wrap .i64 (97 + (Int.tmod (IntKind.wrap .i64 ((Int.tmod x32 26) + 26)) 26)))))) EvP.nil) rfl rfl (by simp [encI_u8]) rfl) rfl ⟨rfl, trivial⟩ trivial ?_
        refine G.op1 (op_toText (ns := [IntKind.wrap .u8 (IntKind.wrap .i64 (97 + (Int.tmod (IntKind.wrap .i64 ((Int.tmod x32 26) + 26)) 26)))]) Try.underlying33 Try.underlying5 Try.underlying9 rfl (Ev.t 60 (.g (.d (.sl 1 (List.map encI_u8 ([IntKind.wrap .u8 (IntKind.wrap .i64 (97 + (Int.tmod (IntKind.wrap .i64 ((Int.tmod x32 26) + 26)) 26)))])))))) rfl) rfl ⟨rfl, trivial⟩ trivial ?_
        refine G.op1 (op_assign (Ev.t 61 (bS (bytesOf ([IntKind.wrap .u8 (IntKind.wrap .i64 (97 + (Int.tmod (IntKind.wrap .i64 ((Int.tmod x32 26) + 26)) 26)))])))) rfl) rfl ⟨rfl, trivial⟩ trivial ?_
        refine G.endOps ?_
        refine G.seq ?_
        refine G.region ?_
        refine G.op1 (op_move (Ev.t 7 (bS (bytesOf ([IntKind.wrap .u8 (IntKind.wrap .i64 (97 + (Int.tmod (IntKind.wrap .i64 ((Int.tmod x32 26) + 26)) 26)))])))) rfl) rfl ⟨rfl, trivial⟩ trivial ?_
        refine G.op1 (op_move (Ev.t 5 (bS v26.1)) rfl) rfl ⟨rfl, trivial⟩ trivial ?_
        refine G.op1 (op_gtS (Ev.t 62 (bS (bytesOf ([IntKind.wrap .u8 (IntKind.wrap .i64 (97 + (Int.tmod (IntKind.wrap .i64 ((Int.tmod x32 26) + 26)) 26)))])))) (Ev.t 63 (bS v26.1)) rfl) rfl ⟨rfl, rfl, trivial⟩ trivial ?_
        refine G.endOps ?_
        refine ifS hF (fun hc33 hF => ?_) (fun hc33 hF => ?_)
        · refine G.cond rfl (fun _ => ?_) (fun hx => by rw [hc33] at hx; cases hx)
          refine G.seq ?_
          refine G.region ?_
          refine G.op1 (op_fieldP (off' := 0) Try.underlying44 rfl ti42 (by decide) rfl (Ev.t 3 (.ptr 1003 0)) rfl) rfl ⟨rfl, trivial⟩ trivial ?_
          refine G.op1 (op_load1P (c := .own 5048 (List.map encApi_Range v26.2.2)) Try.underlying42 rfl rfl (Ev.t 65 (.ptr 1003 0)) rfl) rfl ⟨rfl, trivial⟩ ⟨rfl, trivial⟩ ?_
          refine G.op1 (op_move (Ev.t 5 (bS v26.1)) rfl) rfl ⟨rfl, trivial⟩ trivial ?_
          refine G.op1 (op_move (Ev.t 7 (bS (bytesOf ([IntKind.wrap .u8 (IntKind.wrap .i64 (97 + (Int.tmod (IntKind.wrap .i64 ((Int.tmod x32 26) + 26)) 26)))])))) rfl) rfl ⟨rfl, trivial⟩ trivial ?_
          refine G.op1 (op_build (zs := [.v (.string ByteArray.empty), .v (.string ByteArray.empty)]) (ds := [.v (.string v26.1), .v (.string (bytesOf ([IntKind.wrap .u8 (IntKind.wrap .i64 (97 + (Int.tmod (IntKind.wrap .i64 ((Int.tmod x32 26) + 26)) 26)))])))]) Try.underlying88 ti88 (pl88 _ Try.underlying88) ⟨.v _ rfl, .v _ rfl, trivial⟩ (EvP.cons (Ev.t 67 (bS v26.1)) (EvP.cons (Ev.t 68 (bS (bytesOf ([IntKind.wrap .u8 (IntKind.wrap .i64 (97 + (Int.tmod (IntKind.wrap .i64 ((Int.tmod x32 26) + 26)) 26)))])))) EvP.nil)) rfl rfl) rfl ⟨rfl, rfl, trivial⟩ trivial ?_
          refine G.op1 (op_buildSlice (es := List.map encApi_Range [(Api_Range.mk v26.1 (bytesOf ([IntKind.wrap .u8 (IntKind.wrap .i64 (97 + (Int.tmod (IntKind.wrap .i64 ((Int.tmod x32 26) + 26)) 26)))])))]) Try.underlying42 ti88 rfl rfl (EvP.cons (Ev.t 69 (.g (.agg [.v (.string v26.1), .v (.string (bytesOf ([IntKind.wrap .u8 (IntKind.wrap .i64 (97 + (Int.tmod (IntKind.wrap .i64 ((Int.tmod x32 26) + 26)) 26)))])))]))) EvP.nil) rfl rfl (by simp [encApi_Range]) rfl) rfl ⟨rfl, trivial⟩ trivial ?_
          obtain ⟨l34, hl34, hF⟩ := bindS hF
          refine G.op2 (op_appendO Try.underlying42 ti88 rfl (app_map hl34 encApi_Range) (app_b1 hl34 encApi_Range) (app_b2 hl34 encApi_Range) (Ev.t 66 (.own 5048 (List.map encApi_Range v26.2.2))) (Ev.t 70 (.g (.d (.sl 2 (List.map encApi_Range ([(Api_Range.mk v26.1 (bytesOf ([IntKind.wrap .u8 (IntKind.wrap .i64 (97 + (Int.tmod (IntKind.wrap .i64 ((Int.tmod x32 26) + 26)) 26)))])))])))))) rfl) rfl ⟨rfl, rfl, trivial⟩ ⟨rfl, trivial⟩ ?_
          refine G.op1 (op_fieldP (off' := 0) Try.underlying44 rfl ti42 (by decide) rfl (Ev.t 3 (.ptr 1003 0)) rfl) rfl ⟨rfl, trivial⟩ trivial ?_
          refine G.op3 (op_storeO (cs' := [.own 5048 (List.map encApi_Range l34), .own 5049 (List.map encI_i64 ([] : List Int)), .own 2012 (List.map encI_i64 y1)]) ti42 rfl rfl rfl (Ev.t 72 (.ptr 1003 0)) (Ev.t 71 (.own 5048 (List.map encApi_Range l34)))) rfl ⟨rfl, rfl, trivial⟩ ⟨rfl, rfl, trivial⟩ ?_
          refine G.endOps ?_
          refine G.region ?_
          refine G.op1 (op_move (Ev.t 7 (bS (bytesOf ([IntKind.wrap .u8 (IntKind.wrap .i64 (97 + (Int.tmod (IntKind.wrap .i64 ((Int.tmod x32 26) + 26)) 26)))])))) rfl) rfl ⟨rfl, trivial⟩ trivial ?_
          refine G.op1 (op_assign (Ev.t 73 (bS (bytesOf ([IntKind.wrap .u8 (IntKind.wrap .i64 (97 + (Int.tmod (IntKind.wrap .i64 ((Int.tmod x32 26) + 26)) 26)))])))) rfl) rfl ⟨rfl, trivial⟩ trivial ?_
          refine G.endOps ?_
          refine G.endBlock ?_
          refine G.region ?_
          refine G.op1 (op_move (Ev.t 6 (bI .i64 v26.2.1)) rfl) rfl ⟨rfl, trivial⟩ trivial ?_
          refine G.op1 (op_add (Ev.t 48 (bI .i64 v26.2.1)) (Ev.c _ rfl) rfl) rfl ⟨rfl, trivial⟩ trivial ?_
          refine G.op1 (op_assign (Ev.t 49 (bI .i64 (IntKind.wrap .i64 (v26.2.1 + 1)))) rfl) rfl ⟨rfl, trivial⟩ trivial ?_
          refine G.endOps ?_
          exact G.arr (J27 (bytesOf ([IntKind.wrap .u8 (IntKind.wrap .i64 (97 + (Int.tmod (IntKind.wrap .i64 ((Int.tmod x32 26) + 26)) 26)))]), IntKind.wrap .i64 (v26.2.1 + 1), l34) hF) ⟨rfl, rfl, rfl, rfl, rfl, trivial⟩ ⟨rfl, rfl, rfl, rfl, rfl, rfl, trivial⟩ rfl
        · refine G.cond rfl (fun hx => by rw [hc33] at hx; cases hx) (fun _ => ?_)
          refine G.skip ?_
          refine G.endBlock ?_
          refine G.region ?_
          refine G.op1 (op_move (Ev.t 6 (bI .i64 v26.2.1)) rfl) rfl ⟨rfl, trivial⟩ trivial ?_
          refine G.op1 (op_add (Ev.t 48 (bI .i64 v26.2.1)) (Ev.c _ rfl) rfl) rfl ⟨rfl, trivial⟩ trivial ?_
          refine G.op1 (op_assign (Ev.t 49 (bI .i64 (IntKind.wrap .i64 (v26.2.1 + 1)))) rfl) rfl ⟨rfl, trivial⟩ trivial ?_
          refine G.endOps ?_
          exact G.arr (J27 (v26.1, IntKind.wrap .i64 (v26.2.1 + 1), v26.2.2) hF) ⟨rfl, rfl, rfl, rfl, rfl, trivial⟩ ⟨rfl, rfl, rfl, rfl, rfl, rfl, trivial⟩ rfl
      · refine G.cond rfl (fun hx => by rw [hc31] at hx; cases hx) (fun _ => ?_)
        refine G.exit ?_
        refine GX.c ?_
        refine GX.q ?_
        refine GX.bYes ?_
        exact G.arr (J25 (v26.1, v26.2.2) hF) ⟨rfl, rfl, rfl, rfl, trivial⟩ ⟨rfl, rfl, rfl, rfl, rfl, rfl, trivial⟩ rfl
    refine G.region ?_
    refine G.op1 (op_move (Ev.t 6 (bI .i64 v26.2.1)) rfl) rfl ⟨rfl, trivial⟩ trivial ?_
    refine G.op1 (op_fieldP (off' := 0) Try.underlying41 rfl ti39 (by decide) rfl (Ev.t 1 (.ptr 1001 0)) rfl) rfl ⟨rfl, trivial⟩ trivial ?_
    refine G.op1 (op_load1P (c := .g (.d (.sl 1 (List.map encI_i64 q_0.Ends)))) Try.underlying39 rfl rfl (Ev.t 40 (.ptr 1001 0)) rfl) rfl ⟨rfl, trivial⟩ ⟨rfl, trivial⟩ ?_
    refine G.op1 (OpL.cast (op_lenD Try.underlying39 (Ev.t 41 (.g (.d (.sl 1 (List.map encI_i64 q_0.Ends))))) rfl) (by rw [List.length_map])) rfl ⟨rfl, trivial⟩ trivial ?_
    refine G.op1 (op_lss (Ev.t 39 (bI .i64 v26.2.1)) (Ev.t 42 (bI .i64 (q_0.Ends.length : Int))) rfl) rfl ⟨rfl, rfl, trivial⟩ trivial ?_
    refine G.op1 (op_move (Ev.t 43 (bB (decide (v26.2.1 < (q_0.Ends.length : Int))))) rfl) rfl ⟨rfl, trivial⟩ trivial ?_
    refine ifS hF (fun hc36 hF => ?_) (fun hc36 hF => ?_)
    · refine G.known (t := 44) hc36 rfl ?_
      refine G.opG1 (op_move (Ev.t 6 (bI .i64 v26.2.1)) rfl) rfl rfl rfl ⟨rfl, trivial⟩ trivial ?_
      refine G.opG1 (op_lss (Ev.t 45 (bI .i64 v26.2.1)) (Ev.c _ rfl) rfl) rfl rfl rfl ⟨rfl, trivial⟩ trivial ?_
      refine G.op1 (op_pickT (Ev.t 44 (bB true)) (Ev.t 46 (bB (decide (v26.2.1 < 7)))) rfl) rfl ⟨rfl, rfl, trivial⟩ trivial ?_
      refine G.endOps ?_
      exact G.arr (J35 (decide (v26.2.1 < 7)) hF) ⟨rfl, rfl, rfl, rfl, rfl, rfl, trivial⟩ ⟨rfl, rfl, rfl, rfl, rfl, rfl, trivial⟩ rfl
    · refine G.known (t := 44) hc36 rfl ?_
      refine G.opN1 rfl rfl rfl rfl rfl ?_
      refine G.opN1 rfl rfl rfl rfl rfl ?_
      refine G.op1 (op_pickF (Ev.t 44 (bB false)) (Ev.c _ rfl) rfl) rfl ⟨rfl, trivial⟩ trivial ?_
      refine G.endOps ?_
      exact G.arr (J35 false hF) ⟨rfl, rfl, rfl, rfl, rfl, rfl, trivial⟩ ⟨rfl, rfl, rfl, rfl, rfl, rfl, trivial⟩ rfl
  refine G.block ?_
  refine G.keep (sl' := [(1, .one (.ptr 1001 0)), (2, .one (.ptr 1002 0)), (3, .one (.ptr 1003 0)), (4, .one (bI .i64 0))]) (hp' := [(1001, some (.blk 41 [.g (.d (.sl 1 (List.map encI_i64 q_0.Ends))), .g (.d (.sl 1 (List.map encI_i64 q_0.Owners))), .g (.d (.sl 1 (List.map encI_i64 q_0.Parents)))])), (1002, some (.blk 44 [.g (.d (.sl 2 (List.map encApi_Range ([] : (List Api_Range))))), .g (.d (.sl 1 (List.map encI_i64 ([] : (List Int))))), .g (.d (.sl 1 (List.map encI_i64 ([] : (List Int)))))])), (1003, some (.blk 44 [.own 5048 (List.map encApi_Range ([] : List Api_Range)), .own 5049 (List.map encI_i64 ([] : List Int)), .own 2012 (List.map encI_i64 ([(-1)]))])), (2012, some (.row 3 1 (List.map encI_i64 ([(-1)])) false)), (5048, some (.row 88 2 (List.map encApi_Range ([] : List Api_Range)) false)), (5049, some (.row 3 1 (List.map encI_i64 ([] : List Int)) false))]) ⟨rfl, rfl, rfl, rfl, trivial⟩ ⟨rfl, rfl, rfl, rfl, rfl, rfl, trivial⟩ rfl ?_
  refine G.loopF (fun (v38 : Int × (List Int)) => ⟨[(1, .one (.ptr 1001 0)), (2, .one (.ptr 1002 0)), (3, .one (.ptr 1003 0)), (4, .one (bI .i64 v38.1))], [(1001, some (.blk 41 [.g (.d (.sl 1 (List.map encI_i64 q_0.Ends))), .g (.d (.sl 1 (List.map encI_i64 q_0.Owners))), .g (.d (.sl 1 (List.map encI_i64 q_0.Parents)))])), (1002, some (.blk 44 [.g (.d (.sl 2 (List.map encApi_Range ([] : (List Api_Range))))), .g (.d (.sl 1 (List.map encI_i64 ([] : (List Int))))), .g (.d (.sl 1 (List.map encI_i64 ([] : (List Int)))))])), (1003, some (.blk 44 [.own 5048 (List.map encApi_Range ([] : List Api_Range)), .own 5049 (List.map encI_i64 ([] : List Int)), .own 2012 (List.map encI_i64 v38.2)])), (2012, some (.row 3 1 (List.map encI_i64 v38.2) false)), (5048, some (.row 88 2 (List.map encApi_Range ([] : List Api_Range)) false)), (5049, some (.row 3 1 (List.map encI_i64 ([] : List Int)) false))]⟩) hF rfl (fun K41 again40 v38 J39 hF => ?_)
  unfold law06_Spec_row_l10 at hF
  refine G.seq ?_
  refine G.seq ?_
  refine G.joinC (T := Bool) (fun y42 => ⟨[(1, .one (.ptr 1001 0)), (2, .one (.ptr 1002 0)), (3, .one (.ptr 1003 0)), (4, .one (bI .i64 v38.1)), (22, .one (bB y42))], [(1001, some (.blk 41 [.g (.d (.sl 1 (List.map encI_i64 q_0.Ends))), .g (.d (.sl 1 (List.map encI_i64 q_0.Owners))), .g (.d (.sl 1 (List.map encI_i64 q_0.Parents)))])), (1002, some (.blk 44 [.g (.d (.sl 2 (List.map encApi_Range ([] : (List Api_Range))))), .g (.d (.sl 1 (List.map encI_i64 ([] : (List Int))))), .g (.d (.sl 1 (List.map encI_i64 ([] : (List Int)))))])), (1003, some (.blk 44 [.own 5048 (List.map encApi_Range ([] : List Api_Range)), .own 5049 (List.map encI_i64 ([] : List Int)), .own 2012 (List.map encI_i64 v38.2)])), (2012, some (.row 3 1 (List.map encI_i64 v38.2) false)), (5048, some (.row 88 2 (List.map encApi_Range ([] : List Api_Range)) false)), (5049, some (.row 3 1 (List.map encI_i64 ([] : List Int)) false))]⟩) (fun y42 => law06_Spec_row_k11 q_0 again40 v38 y42 = some r) (fun y42 hF => ?_) (fun J46 => ?_)
  · unfold law06_Spec_row_k11 at hF
    refine ifS hF (fun hc43 hF => ?_) (fun hc43 hF => ?_)
    · refine G.cond rfl (fun _ => ?_) (fun hx => by rw [hc43] at hx; cases hx)
      refine G.skip ?_
      refine G.seq ?_
      refine G.block ?_
      obtain ⟨x44, hx44, hF⟩ := bindS hF
      obtain ⟨l45, hl45, hF⟩ := bindS hF
      refine G.drawn (effs := [⟨[(3, .one (.ptr 1003 0))], [], [(25, .one (.ptr 1003 2))], []⟩, ⟨[(25, .one (.ptr 1003 2))], [(1003, some (.blk 44 [.own 5048 (List.map encApi_Range ([] : List Api_Range)), .own 5049 (List.map encI_i64 ([] : List Int)), .own 2012 (List.map encI_i64 v38.2)]))], [(26, .one (.own 2012 (List.map encI_i64 v38.2)))], []⟩, ⟨[(1, .one (.ptr 1001 0))], [], [(27, .one (.ptr 1001 2))], []⟩, ⟨[(27, .one (.ptr 1001 2))], [(1001, some (.blk 41 [.g (.d (.sl 1 (List.map encI_i64 q_0.Ends))), .g (.d (.sl 1 (List.map encI_i64 q_0.Owners))), .g (.d (.sl 1 (List.map encI_i64 q_0.Parents)))]))], [(28, .one (.g (.d (.sl 1 (List.map encI_i64 q_0.Parents)))))], []⟩, ⟨[(4, .one (bI .i64 v38.1))], [], [(29, .one (bI .i64 v38.1))], []⟩, ⟨[(28, .one (.g (.d (.sl 1 (List.map encI_i64 q_0.Parents))))), (29, .one (bI .i64 v38.1))], [], [(30, .one (.ep [.v (.int .i64 x44)]))], []⟩, ⟨[(30, .one (.ep [.v (.int .i64 x44)]))], [], [(31, .one (bI .i64 x44))], []⟩, ⟨[(31, .one (bI .i64 x44))], [], [(32, .one (bI .i64 (Int.tmod x44 7)))], []⟩, ⟨[(32, .one (bI .i64 (Int.tmod x44 7)))], [], [(33, .one (bI .i64 (IntKind.wrap .i64 ((Int.tmod x44 7) + 7))))], []⟩, ⟨[(33, .one (bI .i64 (IntKind.wrap .i64 ((Int.tmod x44 7) + 7))))], [], [(34, .one (bI .i64 (Int.tmod (IntKind.wrap .i64 ((Int.tmod x44 7) + 7)) 7)))], []⟩, ⟨[(34, .one (bI .i64 (Int.tmod (IntKind.wrap .i64 ((Int.tmod x44 7) + 7)) 7)))], [], [(35, .one (bI .i64 (IntKind.wrap .i64 ((Int.tmod (IntKind.wrap .i64 ((Int.tmod x44 7) + 7)) 7) - 1))))], []⟩, ⟨[(35, .one (bI .i64 (IntKind.wrap .i64 ((Int.tmod (IntKind.wrap .i64 ((Int.tmod x44 7) + 7)) 7) - 1))))], [], [(36, .one (.g (.d (.sl 1 (List.map encI_i64 ([IntKind.wrap .i64 ((Int.tmod (IntKind.wrap .i64 ((Int.tmod x44 7) + 7)) 7) - 1)]))))))], []⟩, ⟨[(26, .one (.own 2012 (List.map encI_i64 v38.2))), (36, .one (.g (.d (.sl 1 (List.map encI_i64 ([IntKind.wrap .i64 ((Int.tmod (IntKind.wrap .i64 ((Int.tmod x44 7) + 7)) 7) - 1)]))))))], [(2012, some (.row 3 1 (List.map encI_i64 v38.2) false))], [(37, .one (.own 2012 (List.map encI_i64 l45)))], [(2012, some (.row 3 1 (List.map encI_i64 l45) false))]⟩, ⟨[(3, .one (.ptr 1003 0))], [], [(38, .one (.ptr 1003 2))], []⟩, ⟨[(38, .one (.ptr 1003 2)), (37, .one (.own 2012 (List.map encI_i64 l45)))], [(1003, some (.blk 44 [.own 5048 (List.map encApi_Range ([] : List Api_Range)), .own 5049 (List.map encI_i64 ([] : List Int)), .own 2012 (List.map encI_i64 v38.2)])), (2012, some (.row 3 1 (List.map encI_i64 l45) false))], [], [(1003, some (.blk 44 [.own 5048 (List.map encApi_Range ([] : List Api_Range)), .own 5049 (List.map encI_i64 ([] : List Int)), .own 2012 (List.map encI_i64 l45)]))]⟩]) (deps := [[], [0], [], [2], [], [2, 3, 4], [2, 3, 4, 5], [2, 3, 4, 5, 6], [2, 3, 4, 5, 6, 7], [2, 3, 4, 5, 6, 7, 8], [2, 3, 4, 5, 6, 7, 8, 9], [2, 3, 4, 5, 6, 7, 8, 9, 10], [0, 1, 2, 3, 4, 5, 6, 7, 8, 9, 10, 11], [0, 1, 2, 3, 4, 5, 6, 7, 8, 9, 10, 11, 12], [0, 1, 2, 3, 4, 5, 6, 7, 8, 9, 10, 11, 12, 13]]) (sl' := [(1, .one (.ptr 1001 0)), (2, .one (.ptr 1002 0)), (3, .one (.ptr 1003 0)), (4, .one (bI .i64 v38.1))]) (hp' := [(1001, some (.blk 41 [.g (.d (.sl 1 (List.map encI_i64 q_0.Ends))), .g (.d (.sl 1 (List.map encI_i64 q_0.Owners))), .g (.d (.sl 1 (List.map encI_i64 q_0.Parents)))])), (1002, some (.blk 44 [.g (.d (.sl 2 (List.map encApi_Range ([] : (List Api_Range))))), .g (.d (.sl 1 (List.map encI_i64 ([] : (List Int))))), .g (.d (.sl 1 (List.map encI_i64 ([] : (List Int)))))])), (1003, some (.blk 44 [.own 5048 (List.map encApi_Range ([] : List Api_Range)), .own 5049 (List.map encI_i64 ([] : List Int)), .own 2012 (List.map encI_i64 l45)])), (2012, some (.row 3 1 (List.map encI_i64 l45) false)), (5048, some (.row 88 2 (List.map encApi_Range ([] : List Api_Range)) false)), (5049, some (.row 3 1 (List.map encI_i64 ([] : List Int)) false))]) follows rfl rfl rfl ⟨⟨rfl, trivial⟩, trivial, ⟨rfl, trivial⟩, ⟨⟨rfl, rfl⟩, trivial⟩, ⟨rfl, trivial⟩, trivial, ⟨rfl, trivial⟩, ⟨⟨rfl, rfl⟩, trivial⟩, ⟨rfl, trivial⟩, trivial, ⟨rfl, rfl, trivial⟩, trivial, ⟨rfl, trivial⟩, trivial, ⟨rfl, trivial⟩, trivial, ⟨rfl, trivial⟩, trivial, ⟨rfl, trivial⟩, trivial, ⟨rfl, trivial⟩, trivial, ⟨rfl, trivial⟩, trivial, ⟨rfl, rfl, trivial⟩, ⟨⟨rfl, rfl⟩, trivial⟩, ⟨rfl, trivial⟩, trivial, ⟨rfl, rfl, trivial⟩, ⟨⟨rfl, rfl⟩, ⟨rfl, rfl⟩, trivial⟩, trivial⟩ ⟨OpW.plain (op_fieldP (off' := 2) Try.underlying44 rfl ti39 (by decide) rfl (Ev.t 3 (.ptr 1003 0)) rfl) rfl rfl, OpW.plain (op_load1P (c := .own 2012 (List.map encI_i64 v38.2)) Try.underlying39 rfl rfl (Ev.t 25 (.ptr 1003 2)) rfl) rfl rfl, OpW.plain (op_fieldP (off' := 2) Try.underlying41 rfl ti39 (by decide) rfl (Ev.t 1 (.ptr 1001 0)) rfl) rfl rfl, OpW.plain (op_load1P (c := .g (.d (.sl 1 (List.map encI_i64 q_0.Parents)))) Try.underlying39 rfl rfl (Ev.t 27 (.ptr 1001 2)) rfl) rfl rfl, OpW.plain (op_move (Ev.t 4 (bI .i64 v38.1)) rfl) rfl rfl, OpW.plain (op_index (cs := [.v (.int .i64 x44)]) Try.underlying39 ti3 (idx_ok hx44).1 (idx_get hx44 encI_i64) (Ev.t 28 (.g (.d (.sl 1 (List.map encI_i64 q_0.Parents))))) (Ev.t 29 (bI .i64 v38.1)) rfl) rfl rfl, OpW.plain (op_load1E (c := .v (.int .i64 x44)) Try.underlying3 rfl rfl (Ev.t 30 (.ep [.v (.int .i64 x44)])) rfl) rfl rfl, OpW.plain (op_rem (by decide) (Ev.t 31 (bI .i64 x44)) (Ev.c _ rfl) rfl) rfl rfl, OpW.plain (op_add (Ev.t 32 (bI .i64 (Int.tmod x44 7))) (Ev.c _ rfl) rfl) rfl rfl, OpW.plain (op_rem (by decide) (Ev.t 33 (bI .i64 (IntKind.wrap .i64 ((Int.tmod x44 7) + 7)))) (Ev.c _ rfl) rfl) rfl rfl, OpW.plain (op_sub (Ev.t 34 (bI .i64 (Int.tmod (IntKind.wrap .i64 ((Int.tmod x44 7) + 7)) 7))) (Ev.c _ rfl) rfl) rfl rfl, OpW.plain (op_buildSlice (es := List.map encI_i64 [IntKind.wrap .i64 ((Int.tmod (IntKind.wrap .i64 ((Int.tmod x44 7) + 7)) 7) - 1)]) Try.underlying39 ti3 rfl rfl (EvP.cons (Ev.t 35 (bI .i64 (IntKind.wrap .i64 ((Int.tmod (IntKind.wrap .i64 ((Int.tmod x44 7) + 7)) 7) - 1)))) EvP.nil) rfl rfl (by simp [encI_i64]) rfl) rfl rfl, OpW.plain (op_appendO Try.underlying39 ti3 rfl (app_map hl45 encI_i64) (app_b1 hl45 encI_i64) (app_b2 hl45 encI_i64) (Ev.t 26 (.own 2012 (List.map encI_i64 v38.2))) (Ev.t 36 (.g (.d (.sl 1 (List.map encI_i64 ([IntKind.wrap .i64 ((Int.tmod (IntKind.wrap .i64 ((Int.tmod x44 7) + 7)) 7) - 1)])))))) rfl) rfl rfl, OpW.plain (op_fieldP (off' := 2) Try.underlying44 rfl ti39 (by decide) rfl (Ev.t 3 (.ptr 1003 0)) rfl) rfl rfl, OpW.plain (op_storeO (cs' := [.own 5048 (List.map encApi_Range ([] : List Api_Range)), .own 5049 (List.map encI_i64 ([] : List Int)), .own 2012 (List.map encI_i64 l45)]) ti39 rfl rfl rfl (Ev.t 38 (.ptr 1003 2)) (Ev.t 37 (.own 2012 (List.map encI_i64 l45)))) rfl rfl, trivial⟩ ⟨rfl, rfl, rfl, rfl, trivial⟩ ⟨rfl, rfl, rfl, rfl, rfl, rfl, trivial⟩ rfl ?_
      refine G.endBlock ?_
      refine G.region ?_
      refine G.op1 (op_move (Ev.t 4 (bI .i64 v38.1)) rfl) rfl ⟨rfl, trivial⟩ trivial ?_
      refine G.op1 (op_add (Ev.t 23 (bI .i64 v38.1)) (Ev.c _ rfl) rfl) rfl ⟨rfl, trivial⟩ trivial ?_
      refine G.op1 (op_assign (Ev.t 24 (bI .i64 (IntKind.wrap .i64 (v38.1 + 1)))) rfl) rfl ⟨rfl, trivial⟩ trivial ?_
      refine G.endOps ?_
      exact G.arr (J39 (IntKind.wrap .i64 (v38.1 + 1), l45) hF) ⟨rfl, rfl, rfl, rfl, trivial⟩ ⟨rfl, rfl, rfl, rfl, rfl, rfl, trivial⟩ rfl
    · refine G.cond rfl (fun hx => by rw [hc43] at hx; cases hx) (fun _ => ?_)
      refine G.exit ?_
      refine GX.c ?_
      refine GX.q ?_
      refine GX.bYes ?_
      exact G.arr (J37 v38.2 hF) ⟨rfl, rfl, rfl, trivial⟩ ⟨rfl, rfl, rfl, rfl, rfl, rfl, trivial⟩ rfl
  refine G.region ?_
  refine G.op1 (op_move (Ev.t 4 (bI .i64 v38.1)) rfl) rfl ⟨rfl, trivial⟩ trivial ?_
  refine G.op1 (op_fieldP (off' := 2) Try.underlying41 rfl ti39 (by decide) rfl (Ev.t 1 (.ptr 1001 0)) rfl) rfl ⟨rfl, trivial⟩ trivial ?_
  refine G.op1 (op_load1P (c := .g (.d (.sl 1 (List.map encI_i64 q_0.Parents)))) Try.underlying39 rfl rfl (Ev.t 15 (.ptr 1001 2)) rfl) rfl ⟨rfl, trivial⟩ ⟨rfl, trivial⟩ ?_
  refine G.op1 (OpL.cast (op_lenD Try.underlying39 (Ev.t 16 (.g (.d (.sl 1 (List.map encI_i64 q_0.Parents))))) rfl) (by rw [List.length_map])) rfl ⟨rfl, trivial⟩ trivial ?_
  refine G.op1 (op_lss (Ev.t 14 (bI .i64 v38.1)) (Ev.t 17 (bI .i64 (q_0.Parents.length : Int))) rfl) rfl ⟨rfl, rfl, trivial⟩ trivial ?_
  refine G.op1 (op_move (Ev.t 18 (bB (decide (v38.1 < (q_0.Parents.length : Int))))) rfl) rfl ⟨rfl, trivial⟩ trivial ?_
  refine ifS hF (fun hc47 hF => ?_) (fun hc47 hF => ?_)
  · refine G.known (t := 19) hc47 rfl ?_
    refine G.opG1 (op_move (Ev.t 4 (bI .i64 v38.1)) rfl) rfl rfl rfl ⟨rfl, trivial⟩ trivial ?_
    refine G.opG1 (op_lss (Ev.t 20 (bI .i64 v38.1)) (Ev.c _ rfl) rfl) rfl rfl rfl ⟨rfl, trivial⟩ trivial ?_
    refine G.op1 (op_pickT (Ev.t 19 (bB true)) (Ev.t 21 (bB (decide (v38.1 < 5)))) rfl) rfl ⟨rfl, rfl, trivial⟩ trivial ?_
    refine G.endOps ?_
    exact G.arr (J46 (decide (v38.1 < 5)) hF) ⟨rfl, rfl, rfl, rfl, rfl, trivial⟩ ⟨rfl, rfl, rfl, rfl, rfl, rfl, trivial⟩ rfl
  · refine G.known (t := 19) hc47 rfl ?_
    refine G.opN1 rfl rfl rfl rfl rfl ?_
    refine G.opN1 rfl rfl rfl rfl rfl ?_
    refine G.op1 (op_pickF (Ev.t 19 (bB false)) (Ev.c _ rfl) rfl) rfl ⟨rfl, trivial⟩ trivial ?_
    refine G.endOps ?_
    exact G.arr (J46 false hF) ⟨rfl, rfl, rfl, rfl, rfl, trivial⟩ ⟨rfl, rfl, rfl, rfl, rfl, rfl, trivial⟩ rfl


set_option maxRecDepth 20000 in
set_option maxHeartbeats 2000000 in
theorem ct_keys_Good_1 (s_0 : ByteArray) (r : Bool) (hF : keys_Good_1 s_0 = some r) : Ct Try.prog 79 [.g (.d (.v (.string s_0)))] (.one (.d (.v (.bool r)))) := by
  unfold keys_Good_1 at hF
  refine Ct.intro Try.func79 rfl Try.ntmps79 rfl rfl fun M w => ?_
  refine G.seq ?_
  refine G.region ?_
  refine G.op1 (op_assign (Ev.c _ rfl) rfl) rfl trivial trivial ?_
  refine G.endOps ?_
  refine G.seq ?_
  refine G.region ?_
  refine G.op1 (op_move (Ev.t 0 (bS s_0)) rfl) rfl ⟨rfl, trivial⟩ trivial ?_
  refine G.op1 (op_eqS (Ev.t 3 (bS s_0)) (Ev.c _ rfl) rfl) rfl ⟨rfl, trivial⟩ trivial ?_
  refine G.op1 (op_move (Ev.t 4 (bB (seq s_0 ByteArray.empty))) rfl) rfl ⟨rfl, trivial⟩ trivial ?_
  refine ifS hF (fun hc1 hF => ?_) (fun hc1 hF => ?_)
  · refine G.known (t := 5) hc1 rfl ?_
    refine G.opN1 rfl rfl rfl rfl rfl ?_
    refine G.opN1 rfl rfl rfl rfl rfl ?_
    refine G.op1 (op_pickT (Ev.t 5 (bB true)) (Ev.c _ rfl) rfl) rfl ⟨rfl, trivial⟩ trivial ?_
    refine G.op1 (op_assign (Ev.t 8 (bB true)) rfl) rfl ⟨rfl, trivial⟩ trivial ?_
    refine G.endOps ?_
    cases hF
    exact G.ret1 Try.results79 (RVar.tmp 2 _) ⟨rfl, trivial⟩ trivial
  · refine G.known (t := 5) hc1 rfl ?_
    refine G.opG1 (op_move (Ev.t 0 (bS s_0)) rfl) rfl rfl rfl ⟨rfl, trivial⟩ trivial ?_
    obtain ⟨r2, hr2, hF⟩ := bindS hF
    refine G.opG1 (op_callQ (sv := .one (bB r2)) cf25 (ct_keys_Check s_0 r2 hr2) rfl rfl (EvQL.cons (EvQ.g (Ev.t 6 (bS s_0))) EvQL.nil) rfl) rfl rfl rfl ⟨rfl, trivial⟩ trivial ?_
    refine G.op1 (op_pickF (Ev.t 5 (bB false)) (Ev.t 7 (bB r2)) rfl) rfl ⟨rfl, rfl, trivial⟩ trivial ?_
    refine G.op1 (op_assign (Ev.t 8 (bB r2)) rfl) rfl ⟨rfl, trivial⟩ trivial ?_
    refine G.endOps ?_
    cases hF
    exact G.ret1 Try.results79 (RVar.tmp 2 _) ⟨rfl, trivial⟩ trivial


set_option maxRecDepth 20000 in
set_option maxHeartbeats 2000000 in
theorem ct_keys_Good (r_0 : Api_Range) (r : Bool) (hF : keys_Good r_0 = some r) : Ct Try.prog 74 [.g (.agg (encApi_Range r_0))] (.one (.d (.v (.bool r)))) := by
  unfold keys_Good at hF
  refine Ct.intro Try.func74 rfl Try.ntmps74 rfl rfl fun M w => ?_
  refine G.seq ?_
  refine G.region ?_
  refine G.op2 (op_boxA (k := 1001) (Ev.t 0 (.g (.agg [.v (.string r_0.From), .v (.string r_0.To)]))) rfl) rfl ⟨rfl, trivial⟩ ⟨rfl, trivial⟩ ?_
  refine G.op1 (op_assign (Ev.c _ rfl) rfl) rfl trivial trivial ?_
  refine G.endOps ?_
  refine G.seq ?_
  refine G.region ?_
  refine G.op1 (op_assign (Ev.f 79) rfl) rfl trivial trivial ?_
  refine G.endOps ?_
  refine G.seq ?_
  refine G.region ?_
  refine G.op1 (op_move (Ev.t 3 (.clo 79 [])) rfl) rfl ⟨rfl, trivial⟩ trivial ?_
  refine G.op1 (op_fieldP (off' := 0) Try.underlying88 rfl ti9 (by decide) rfl (Ev.t 1 (.ptr 1001 0)) rfl) rfl ⟨rfl, trivial⟩ trivial ?_
  refine G.op1 (op_load1P (c := bS r_0.From) Try.underlying9 rfl rfl (Ev.t 5 (.ptr 1001 0)) rfl) rfl ⟨rfl, trivial⟩ ⟨rfl, trivial⟩ ?_
  obtain ⟨r1, hr1, hF⟩ := bindS hF
  refine G.op1 (op_callClo (sv := .one (bB r1)) (args := _) (gs := _) cf79 (ct_keys_Good_1 r_0.From r1 hr1) rfl rfl EvC.nil (EvQL.cons (EvQ.g (Ev.t 6 (bS r_0.From))) EvQL.nil) rfl) rfl ⟨rfl, rfl, trivial⟩ trivial ?_
  refine G.op1 (op_move (Ev.t 7 (bB r1)) rfl) rfl ⟨rfl, trivial⟩ trivial ?_
  refine G.joinL (T := Bool) 5 (fun y2 => ⟨[(1, .one (.ptr 1001 0)), (13, .one (bB y2))], [(1001, some (.blk 88 [bS r_0.From, bS r_0.To]))]⟩) (fun y2 => keys_Good_k1 r_0 y2 = some r) (fun y2 hF => ?_) (fun J5 => ?_)
  · unfold keys_Good_k1 at hF
    refine G.op1 (op_move (Ev.t 13 (bB y2)) rfl) rfl ⟨rfl, trivial⟩ trivial ?_
    refine ifS hF (fun hc3 hF => ?_) (fun hc3 hF => ?_)
    · refine G.known (t := 14) hc3 rfl ?_
      refine G.opG1 (op_fieldP (off' := 1) Try.underlying88 rfl ti9 (by decide) rfl (Ev.t 1 (.ptr 1001 0)) rfl) rfl rfl rfl ⟨rfl, trivial⟩ trivial ?_
      refine G.opG1 (op_load1P (c := bS r_0.To) Try.underlying9 rfl rfl (Ev.t 15 (.ptr 1001 1)) rfl) rfl rfl rfl ⟨rfl, trivial⟩ ⟨rfl, trivial⟩ ?_
      refine G.opG1 (op_eqS (Ev.t 16 (bS r_0.To)) (Ev.c _ rfl) rfl) rfl rfl rfl ⟨rfl, trivial⟩ trivial ?_
      refine G.opG1 (op_move (Ev.t 17 (bB (seq r_0.To ByteArray.empty))) rfl) rfl rfl rfl ⟨rfl, trivial⟩ trivial ?_
      refine ifS hF (fun hc4 hF => ?_) (fun hc4 hF => ?_)
      · refine G.known (t := 18) hc4 rfl ?_
        refine G.opN1 rfl rfl rfl rfl rfl ?_
        refine G.opN1 rfl rfl rfl rfl rfl ?_
        refine G.opN1 rfl rfl rfl rfl rfl ?_
        refine G.opN1 rfl rfl rfl rfl rfl ?_
        refine G.opN1 rfl rfl rfl rfl rfl ?_
        refine G.opG1 (op_pickT (Ev.t 18 (bB true)) (Ev.c _ rfl) rfl) rfl rfl rfl ⟨rfl, trivial⟩ trivial ?_
        refine G.op1 (op_pickT (Ev.t 14 (bB true)) (Ev.t 24 (bB true)) rfl) rfl ⟨rfl, rfl, trivial⟩ trivial ?_
        refine G.op1 (op_assign (Ev.t 25 (bB true)) rfl) rfl ⟨rfl, trivial⟩ trivial ?_
        refine G.endOps ?_
        cases hF
        exact G.ret1 Try.results74 (RVar.tmp 2 _) ⟨rfl, trivial⟩ trivial
      · refine G.known (t := 18) hc4 rfl ?_
        refine G.opG1 (op_fieldP (off' := 0) Try.underlying88 rfl ti9 (by decide) rfl (Ev.t 1 (.ptr 1001 0)) rfl) rfl rfl rfl ⟨rfl, trivial⟩ trivial ?_
        refine G.opG1 (op_load1P (c := bS r_0.From) Try.underlying9 rfl rfl (Ev.t 19 (.ptr 1001 0)) rfl) rfl rfl rfl ⟨rfl, trivial⟩ ⟨rfl, trivial⟩ ?_
        refine G.opG1 (op_fieldP (off' := 1) Try.underlying88 rfl ti9 (by decide) rfl (Ev.t 1 (.ptr 1001 0)) rfl) rfl rfl rfl ⟨rfl, trivial⟩ trivial ?_
        refine G.opG1 (op_load1P (c := bS r_0.To) Try.underlying9 rfl rfl (Ev.t 21 (.ptr 1001 1)) rfl) rfl rfl rfl ⟨rfl, trivial⟩ ⟨rfl, trivial⟩ ?_
        refine G.opG1 (op_ltS (Ev.t 20 (bS r_0.From)) (Ev.t 22 (bS r_0.To)) rfl) rfl rfl rfl ⟨rfl, rfl, trivial⟩ trivial ?_
        refine G.opG1 (op_pickF (Ev.t 18 (bB false)) (Ev.t 23 (bB (slt r_0.From r_0.To))) rfl) rfl rfl rfl ⟨rfl, rfl, trivial⟩ trivial ?_
        refine G.op1 (op_pickT (Ev.t 14 (bB true)) (Ev.t 24 (bB (slt r_0.From r_0.To))) rfl) rfl ⟨rfl, rfl, trivial⟩ trivial ?_
        refine G.op1 (op_assign (Ev.t 25 (bB (slt r_0.From r_0.To))) rfl) rfl ⟨rfl, trivial⟩ trivial ?_
        refine G.endOps ?_
        cases hF
        exact G.ret1 Try.results74 (RVar.tmp 2 _) ⟨rfl, trivial⟩ trivial
    · refine G.known (t := 14) hc3 rfl ?_
      refine G.opN1 rfl rfl rfl rfl rfl ?_
      refine G.opN1 rfl rfl rfl rfl rfl ?_
      refine G.opN1 rfl rfl rfl rfl rfl ?_
      refine G.opN1 rfl rfl rfl rfl rfl ?_
      refine G.opU rfl rfl rfl rfl ?_
      refine G.opU rfl rfl rfl rfl ?_
      refine G.opU rfl rfl rfl rfl ?_
      refine G.opU rfl rfl rfl rfl ?_
      refine G.opU rfl rfl rfl rfl ?_
      refine G.opN1 rfl rfl rfl rfl rfl ?_
      refine G.op1 (op_pickF (Ev.t 14 (bB false)) (Ev.c _ rfl) rfl) rfl ⟨rfl, trivial⟩ trivial ?_
      refine G.op1 (op_assign (Ev.t 25 (bB false)) rfl) rfl ⟨rfl, trivial⟩ trivial ?_
      refine G.endOps ?_
      cases hF
      exact G.ret1 Try.results74 (RVar.tmp 2 _) ⟨rfl, trivial⟩ trivial
  refine ifS hF (fun hc6 hF => ?_) (fun hc6 hF => ?_)
  · refine G.known (t := 8) hc6 rfl ?_
    refine G.opG1 (op_move (Ev.t 3 (.clo 79 [])) rfl) rfl rfl rfl ⟨rfl, trivial⟩ trivial ?_
    refine G.opG1 (op_fieldP (off' := 1) Try.underlying88 rfl ti9 (by decide) rfl (Ev.t 1 (.ptr 1001 0)) rfl) rfl rfl rfl ⟨rfl, trivial⟩ trivial ?_
    refine G.opG1 (op_load1P (c := bS r_0.To) Try.underlying9 rfl rfl (Ev.t 10 (.ptr 1001 1)) rfl) rfl rfl rfl ⟨rfl, trivial⟩ ⟨rfl, trivial⟩ ?_
    obtain ⟨r7, hr7, hF⟩ := bindS hF
    refine G.opG1 (op_callClo (sv := .one (bB r7)) (args := _) (gs := _) cf79 (ct_keys_Good_1 r_0.To r7 hr7) rfl rfl EvC.nil (EvQL.cons (EvQ.g (Ev.t 11 (bS r_0.To))) EvQL.nil) rfl) rfl rfl rfl ⟨rfl, rfl, trivial⟩ trivial ?_
    refine G.op1 (op_pickT (Ev.t 8 (bB true)) (Ev.t 12 (bB r7)) rfl) rfl ⟨rfl, rfl, trivial⟩ trivial ?_
    exact G.arr (J5 r7 hF) ⟨rfl, rfl, trivial⟩ ⟨rfl, trivial⟩ rfl
  · refine G.known (t := 8) hc6 rfl ?_
    refine G.opN1 rfl rfl rfl rfl rfl ?_
    refine G.opN1 rfl rfl rfl rfl rfl ?_
    refine G.opN1 rfl rfl rfl rfl rfl ?_
    refine G.opN1 rfl rfl rfl rfl rfl ?_
    refine G.op1 (op_pickF (Ev.t 8 (bB false)) (Ev.c _ rfl) rfl) rfl ⟨rfl, trivial⟩ trivial ?_
    exact G.arr (J5 false hF) ⟨rfl, rfl, trivial⟩ ⟨rfl, trivial⟩ rfl


set_option maxRecDepth 20000 in
set_option maxHeartbeats 2000000 in
theorem ct_keys_Whole (l_0 : (List Api_Range)) (r : Bool) (hF : keys_Whole l_0 = some r) : Ct Try.prog 65 [.g (.d (.sl 2 (List.map encApi_Range l_0)))] (.one (.d (.v (.bool r)))) := by
  unfold keys_Whole at hF
  refine Ct.intro Try.func65 rfl Try.ntmps65 rfl rfl fun M w => ?_
  refine G.seq ?_
  refine G.region ?_
  refine G.op1 (op_assign (Ev.c _ rfl) rfl) rfl trivial trivial ?_
  refine G.endOps ?_
  refine G.seq ?_
  refine G.region ?_
  refine G.op1 (op_assign (Ev.c _ rfl) rfl) rfl trivial trivial ?_
  refine G.endOps ?_
  refine G.seq ?_
  refine G.seq ?_
  refine G.region ?_
  refine G.op1 (op_move (Ev.t 0 (.g (.d (.sl 2 (List.map encApi_Range l_0))))) rfl) rfl ⟨rfl, trivial⟩ trivial ?_
  refine G.op1 (OpL.cast (op_lenD Try.underlying42 (Ev.t 6 (.g (.d (.sl 2 (List.map encApi_Range l_0))))) rfl) (by rw [List.length_map])) rfl ⟨rfl, trivial⟩ trivial ?_
  refine G.op1 (op_move (Ev.c _ rfl) rfl) rfl trivial trivial ?_
  refine G.endOps ?_
  refine G.joinC (T := ByteArray) (fun y1 => ⟨[(0, .one (.g (.d (.sl 2 (List.map encApi_Range l_0))))), (3, .one (bS y1))], []⟩) (fun y1 => keys_Whole_k1 l_0 y1 = some r) (fun y1 hF => ?_) (fun J3 => ?_)
  · unfold keys_Whole_k1 at hF
    refine G.seq ?_
    refine G.region ?_
    refine G.op1 (op_move (Ev.t 0 (.g (.d (.sl 2 (List.map encApi_Range l_0))))) rfl) rfl ⟨rfl, trivial⟩ trivial ?_
    refine G.op1 (OpL.cast (op_lenD Try.underlying42 (Ev.t 33 (.g (.d (.sl 2 (List.map encApi_Range l_0))))) rfl) (by rw [List.length_map])) rfl ⟨rfl, trivial⟩ trivial ?_
    refine G.op1 (op_gtr (Ev.t 34 (bI .i64 (l_0.length : Int))) (Ev.c _ rfl) rfl) rfl ⟨rfl, trivial⟩ trivial ?_
    refine G.op1 (op_move (Ev.t 35 (bB (decide (0 < (l_0.length : Int))))) rfl) rfl ⟨rfl, trivial⟩ trivial ?_
    refine ifS hF (fun hc2 hF => ?_) (fun hc2 hF => ?_)
    · refine G.known (t := 36) hc2 rfl ?_
      refine G.opG1 (op_move (Ev.t 3 (bS y1)) rfl) rfl rfl rfl ⟨rfl, trivial⟩ trivial ?_
      refine G.opG1 (op_eqS (Ev.t 37 (bS y1)) (Ev.c _ rfl) rfl) rfl rfl rfl ⟨rfl, trivial⟩ trivial ?_
      refine G.op1 (op_pickT (Ev.t 36 (bB true)) (Ev.t 38 (bB (seq y1 ByteArray.empty))) rfl) rfl ⟨rfl, rfl, trivial⟩ trivial ?_
      refine G.op1 (op_assign (Ev.t 39 (bB (seq y1 ByteArray.empty))) rfl) rfl ⟨rfl, trivial⟩ trivial ?_
      refine G.endOps ?_
      cases hF
      exact G.ret1 Try.results65 (RVar.tmp 2 _) ⟨rfl, trivial⟩ trivial
    · refine G.known (t := 36) hc2 rfl ?_
      refine G.opN1 rfl rfl rfl rfl rfl ?_
      refine G.opN1 rfl rfl rfl rfl rfl ?_
      refine G.op1 (op_pickF (Ev.t 36 (bB false)) (Ev.c _ rfl) rfl) rfl ⟨rfl, trivial⟩ trivial ?_
      refine G.op1 (op_assign (Ev.t 39 (bB false)) rfl) rfl ⟨rfl, trivial⟩ trivial ?_
      refine G.endOps ?_
      cases hF
      exact G.ret1 Try.results65 (RVar.tmp 2 _) ⟨rfl, trivial⟩ trivial
  refine G.block ?_
  refine G.keep (sl' := [(0, .one (.g (.d (.sl 2 (List.map encApi_Range l_0))))), (3, .one (bS ByteArray.empty)), (6, .one (.g (.d (.sl 2 (List.map encApi_Range l_0))))), (7, .one (bI .i64 (l_0.length : Int))), (8, .one (bI .i64 0))]) (hp' := []) ⟨rfl, rfl, rfl, rfl, rfl, trivial⟩ trivial rfl ?_
  refine G.loopF (fun (v4 : ByteArray × Int) => ⟨[(0, .one (.g (.d (.sl 2 (List.map encApi_Range l_0))))), (3, .one (bS v4.1)), (6, .one (.g (.d (.sl 2 (List.map encApi_Range l_0))))), (7, .one (bI .i64 (l_0.length : Int))), (8, .one (bI .i64 v4.2))], []⟩) hF rfl (fun K7 again6 v4 J5 hF => ?_)
  unfold keys_Whole_l2 at hF
  refine G.seq ?_
  refine G.region ?_
  refine G.op1 (op_lss (Ev.t 8 (bI .i64 v4.2)) (Ev.t 7 (bI .i64 (l_0.length : Int))) rfl) rfl ⟨rfl, rfl, trivial⟩ trivial ?_
  refine G.endOps ?_
  refine G.seq ?_
  refine ifS hF (fun hc8 hF => ?_) (fun hc8 hF => ?_)
  · refine G.cond rfl (fun _ => ?_) (fun hx => by rw [hc8] at hx; cases hx)
    refine G.skip ?_
    refine G.seq ?_
    refine G.block ?_
    refine G.seq ?_
    refine G.region ?_
    refine G.op1 (op_move (Ev.t 8 (bI .i64 v4.2)) rfl) rfl ⟨rfl, trivial⟩ trivial ?_
    obtain ⟨x9, hx9, hF⟩ := bindS hF
    refine G.op1 (op_index (cs := [.v (.string x9.From), .v (.string x9.To)]) Try.underlying42 ti88 (idx_ok hx9).1 (idx_get hx9 encApi_Range) (Ev.t 6 (.g (.d (.sl 2 (List.map encApi_Range l_0))))) (Ev.t 8 (bI .i64 v4.2)) rfl) rfl ⟨rfl, rfl, trivial⟩ trivial ?_
    refine G.op1 (op_loadAE (ds := [.v (.string x9.From), .v (.string x9.To)]) Try.underlying88 rfl ti88 rfl (Ev.t 11 (.ep [.v (.string x9.From), .v (.string x9.To)])) rfl) rfl ⟨rfl, trivial⟩ trivial ?_
    refine G.op2 (op_alloc (k := 1005) (cs := [bS ByteArray.empty, bS ByteArray.empty]) ti88 ⟨.v _ rfl, .v _ rfl, trivial⟩ rfl) rfl trivial ⟨rfl, trivial⟩ ?_
    refine G.op1 (op_assign (Ev.t 10 (bI .i64 v4.2)) rfl) rfl ⟨rfl, trivial⟩ trivial ?_
    refine G.op3 (op_storeA (cs' := [bS x9.From, bS x9.To]) ti88 rfl rfl (Ev.t 5 (.ptr 1005 0)) (Ev.t 12 (.g (.agg [.v (.string x9.From), .v (.string x9.To)])))) rfl ⟨rfl, rfl, trivial⟩ ⟨rfl, trivial⟩ ?_
    refine G.endOps ?_
    refine G.seq ?_
    refine G.seq ?_
    refine G.joinC (T := Bool) (fun y10 => ⟨[(0, .one (.g (.d (.sl 2 (List.map encApi_Range l_0))))), (5, .one (.ptr 1005 0)), (6, .one (.g (.d (.sl 2 (List.map encApi_Range l_0))))), (7, .one (bI .i64 (l_0.length : Int))), (8, .one (bI .i64 v4.2)), (29, .one (bB y10))], [(1005, some (.blk 88 [bS x9.From, bS x9.To]))]⟩) (fun y10 => keys_Whole_k3 again6 v4 x9 y10 = some r) (fun y10 hF => ?_) (fun J12 => ?_)
    · unfold keys_Whole_k3 at hF
      refine ifS hF (fun hc11 hF => ?_) (fun hc11 hF => ?_)
      · refine G.cond rfl (fun _ => ?_) (fun hx => by rw [hc11] at hx; cases hx)
        refine G.seq ?_
        refine G.region ?_
        refine G.op1 (op_assign (Ev.c _ rfl) rfl) rfl trivial trivial ?_
        refine G.endOps ?_
        cases hF
        exact G.ret1 Try.results65 (RVar.tmp 2 _) ⟨rfl, trivial⟩ trivial
      · refine G.cond rfl (fun hx => by rw [hc11] at hx; cases hx) (fun _ => ?_)
        refine G.skip ?_
        refine G.region ?_
        refine G.op1 (op_fieldP (off' := 1) Try.underlying88 rfl ti9 (by decide) rfl (Ev.t 5 (.ptr 1005 0)) rfl) rfl ⟨rfl, trivial⟩ trivial ?_
        refine G.op1 (op_load1P (c := bS x9.To) Try.underlying9 rfl rfl (Ev.t 30 (.ptr 1005 1)) rfl) rfl ⟨rfl, trivial⟩ ⟨rfl, trivial⟩ ?_
        refine G.op1 (op_assign (Ev.t 31 (bS x9.To)) rfl) rfl ⟨rfl, trivial⟩ trivial ?_
        refine G.endOps ?_
        refine G.endBlock ?_
        refine G.region ?_
        refine G.op1 (op_add (Ev.t 8 (bI .i64 v4.2)) (Ev.c _ rfl) rfl) rfl ⟨rfl, trivial⟩ trivial ?_
        refine G.op1 (op_move (Ev.t 32 (bI .i64 (IntKind.wrap .i64 (v4.2 + 1)))) rfl) rfl ⟨rfl, trivial⟩ trivial ?_
        refine G.endOps ?_
        exact G.arr (J5 (x9.To, IntKind.wrap .i64 (v4.2 + 1)) hF) ⟨rfl, rfl, rfl, rfl, rfl, trivial⟩ trivial rfl
    refine G.region ?_
    refine G.op1 (op_loadAP (ds := [.v (.string x9.From), .v (.string x9.To)]) Try.underlying88 rfl ti88 rfl (Ev.t 5 (.ptr 1005 0)) rfl) rfl ⟨rfl, trivial⟩ ⟨rfl, trivial⟩ ?_
    obtain ⟨r13, hr13, hF⟩ := bindS hF
    refine G.op1 (op_callQ (sv := .one (bB r13)) cf74 (ct_keys_Good x9 r13 hr13) rfl rfl (EvQL.cons (EvQ.g (Ev.t 13 (.g (.agg [.v (.string x9.From), .v (.string x9.To)])))) EvQL.nil) rfl) rfl ⟨rfl, trivial⟩ trivial ?_
    refine G.op1 (op_not (Ev.t 14 (bB r13)) rfl) rfl ⟨rfl, trivial⟩ trivial ?_
    refine G.op1 (op_move (Ev.t 15 (bB (!r13))) rfl) rfl ⟨rfl, trivial⟩ trivial ?_
    refine G.joinL (T := Bool) 5 (fun y14 => ⟨[(0, .one (.g (.d (.sl 2 (List.map encApi_Range l_0))))), (3, .one (bS v4.1)), (4, .one (bI .i64 v4.2)), (5, .one (.ptr 1005 0)), (6, .one (.g (.d (.sl 2 (List.map encApi_Range l_0))))), (7, .one (bI .i64 (l_0.length : Int))), (8, .one (bI .i64 v4.2)), (21, .one (bB y14))], [(1005, some (.blk 88 [bS x9.From, bS x9.To]))]⟩) (fun y14 => keys_Whole_k4 again6 v4 x9 y14 = some r) (fun y14 hF => ?_) (fun J17 => ?_)
    · unfold keys_Whole_k4 at hF
      refine G.op1 (op_move (Ev.t 21 (bB y14)) rfl) rfl ⟨rfl, trivial⟩ trivial ?_
      refine ifS hF (fun hc15 hF => ?_) (fun hc15 hF => ?_)
      · refine G.known (t := 22) hc15 rfl ?_
        refine G.opN1 rfl rfl rfl rfl rfl ?_
        refine G.opN1 rfl rfl rfl rfl rfl ?_
        refine G.opN1 rfl rfl rfl rfl rfl ?_
        refine G.opU rfl rfl rfl rfl ?_
        refine G.opU rfl rfl rfl rfl ?_
        refine G.opN1 rfl rfl rfl rfl rfl ?_
        refine G.op1 (op_pickT (Ev.t 22 (bB true)) (Ev.c _ rfl) rfl) rfl ⟨rfl, trivial⟩ trivial ?_
        refine G.endOps ?_
        exact G.arr (J12 true hF) ⟨rfl, rfl, rfl, rfl, rfl, rfl, trivial⟩ ⟨rfl, trivial⟩ rfl
      · refine G.known (t := 22) hc15 rfl ?_
        refine G.opG1 (op_move (Ev.t 4 (bI .i64 v4.2)) rfl) rfl rfl rfl ⟨rfl, trivial⟩ trivial ?_
        refine G.opG1 (op_gtr (Ev.t 23 (bI .i64 v4.2)) (Ev.c _ rfl) rfl) rfl rfl rfl ⟨rfl, trivial⟩ trivial ?_
        refine G.opG1 (op_move (Ev.t 24 (bB (decide (0 < v4.2)))) rfl) rfl rfl rfl ⟨rfl, trivial⟩ trivial ?_
        refine ifS hF (fun hc16 hF => ?_) (fun hc16 hF => ?_)
        · refine G.known (t := 25) hc16 rfl ?_
          refine G.opG1 (op_move (Ev.t 3 (bS v4.1)) rfl) rfl rfl rfl ⟨rfl, trivial⟩ trivial ?_
          refine G.opG1 (op_eqS (Ev.t 26 (bS v4.1)) (Ev.c _ rfl) rfl) rfl rfl rfl ⟨rfl, trivial⟩ trivial ?_
          refine G.opG1 (op_pickT (Ev.t 25 (bB true)) (Ev.t 27 (bB (seq v4.1 ByteArray.empty))) rfl) rfl rfl rfl ⟨rfl, rfl, trivial⟩ trivial ?_
          refine G.op1 (op_pickF (Ev.t 22 (bB false)) (Ev.t 28 (bB (seq v4.1 ByteArray.empty))) rfl) rfl ⟨rfl, rfl, trivial⟩ trivial ?_
          refine G.endOps ?_
          exact G.arr (J12 (seq v4.1 ByteArray.empty) hF) ⟨rfl, rfl, rfl, rfl, rfl, rfl, trivial⟩ ⟨rfl, trivial⟩ rfl
        · refine G.known (t := 25) hc16 rfl ?_
          refine G.opN1 rfl rfl rfl rfl rfl ?_
          refine G.opN1 rfl rfl rfl rfl rfl ?_
          refine G.opG1 (op_pickF (Ev.t 25 (bB false)) (Ev.c _ rfl) rfl) rfl rfl rfl ⟨rfl, trivial⟩ trivial ?_
          refine G.op1 (op_pickF (Ev.t 22 (bB false)) (Ev.t 28 (bB false)) rfl) rfl ⟨rfl, rfl, trivial⟩ trivial ?_
          refine G.endOps ?_
          exact G.arr (J12 false hF) ⟨rfl, rfl, rfl, rfl, rfl, rfl, trivial⟩ ⟨rfl, trivial⟩ rfl
    refine ifS hF (fun hc18 hF => ?_) (fun hc18 hF => ?_)
    · refine G.known (t := 16) hc18 rfl ?_
      refine G.opN1 rfl rfl rfl rfl rfl ?_
      refine G.opN1 rfl rfl rfl rfl rfl ?_
      refine G.opN1 rfl rfl rfl rfl rfl ?_
      refine G.opN1 rfl rfl rfl rfl rfl ?_
      refine G.op1 (op_pickT (Ev.t 16 (bB true)) (Ev.c _ rfl) rfl) rfl ⟨rfl, trivial⟩ trivial ?_
      exact G.arr (J17 true hF) ⟨rfl, rfl, rfl, rfl, rfl, rfl, rfl, rfl, trivial⟩ ⟨rfl, trivial⟩ rfl
    · refine G.known (t := 16) hc18 rfl ?_
      refine G.opG1 (op_fieldP (off' := 0) Try.underlying88 rfl ti9 (by decide) rfl (Ev.t 5 (.ptr 1005 0)) rfl) rfl rfl rfl ⟨rfl, trivial⟩ trivial ?_
      refine G.opG1 (op_load1P (c := bS x9.From) Try.underlying9 rfl rfl (Ev.t 17 (.ptr 1005 0)) rfl) rfl rfl rfl ⟨rfl, trivial⟩ ⟨rfl, trivial⟩ ?_
      refine G.opG1 (op_move (Ev.t 3 (bS v4.1)) rfl) rfl rfl rfl ⟨rfl, trivial⟩ trivial ?_
      refine G.opG1 (op_neS (Ev.t 18 (bS x9.From)) (Ev.t 19 (bS v4.1)) rfl) rfl rfl rfl ⟨rfl, rfl, trivial⟩ trivial ?_
      refine G.op1 (op_pickF (Ev.t 16 (bB false)) (Ev.t 20 (bB (!seq x9.From v4.1))) rfl) rfl ⟨rfl, rfl, trivial⟩ trivial ?_
      exact G.arr (J17 (!seq x9.From v4.1) hF) ⟨rfl, rfl, rfl, rfl, rfl, rfl, rfl, rfl, trivial⟩ ⟨rfl, trivial⟩ rfl
  · refine G.cond rfl (fun hx => by rw [hc8] at hx; cases hx) (fun _ => ?_)
    refine G.exit ?_
    refine GX.c ?_
    refine GX.q ?_
    refine GX.bYes ?_
    exact G.arr (J3 v4.1 hF) ⟨rfl, rfl, trivial⟩ trivial rfl


set_option maxRecDepth 20000 in
set_option maxHeartbeats 2000000 in
theorem ct_wire_written_1 (p_0 : Int) (r : Bool) (hF : wire_written_1 p_0 = some r) : Ct Try.prog 66 [.g (.d (.v (.int .i64 p_0)))] (.one (.d (.v (.bool r)))) := by
  unfold wire_written_1 at hF
  refine Ct.intro Try.func66 rfl Try.ntmps66 rfl rfl fun M w => ?_
  refine G.seq ?_
  refine G.region ?_
  refine G.op1 (op_assign (Ev.c _ rfl) rfl) rfl trivial trivial ?_
  refine G.endOps ?_
  refine G.seq ?_
  refine G.region ?_
  refine G.op1 (op_move (Ev.t 0 (bI .i64 p_0)) rfl) rfl ⟨rfl, trivial⟩ trivial ?_
  refine G.op1 (op_lss (Ev.t 3 (bI .i64 p_0)) (Ev.c _ rfl) rfl) rfl ⟨rfl, trivial⟩ trivial ?_
  refine G.op1 (op_move (Ev.t 4 (bB (decide (p_0 < (-1))))) rfl) rfl ⟨rfl, trivial⟩ trivial ?_
  refine ifS hF (fun hc1 hF => ?_) (fun hc1 hF => ?_)
  · refine G.known (t := 5) hc1 rfl ?_
    refine G.opN1 rfl rfl rfl rfl rfl ?_
    refine G.opN1 rfl rfl rfl rfl rfl ?_
    refine G.op1 (op_pickT (Ev.t 5 (bB true)) (Ev.c _ rfl) rfl) rfl ⟨rfl, trivial⟩ trivial ?_
    refine G.op1 (op_assign (Ev.t 8 (bB true)) rfl) rfl ⟨rfl, trivial⟩ trivial ?_
    refine G.endOps ?_
    cases hF
    exact G.ret1 Try.results66 (RVar.tmp 2 _) ⟨rfl, trivial⟩ trivial
  · refine G.known (t := 5) hc1 rfl ?_
    refine G.opG1 (op_move (Ev.t 0 (bI .i64 p_0)) rfl) rfl rfl rfl ⟨rfl, trivial⟩ trivial ?_
    refine G.opG1 (op_geq (Ev.t 6 (bI .i64 p_0)) (Ev.c _ rfl) rfl) rfl rfl rfl ⟨rfl, trivial⟩ trivial ?_
    refine G.op1 (op_pickF (Ev.t 5 (bB false)) (Ev.t 7 (bB (decide (6 ≤ p_0)))) rfl) rfl ⟨rfl, rfl, trivial⟩ trivial ?_
    refine G.op1 (op_assign (Ev.t 8 (bB (decide (6 ≤ p_0)))) rfl) rfl ⟨rfl, trivial⟩ trivial ?_
    refine G.endOps ?_
    cases hF
    exact G.ret1 Try.results66 (RVar.tmp 2 _) ⟨rfl, trivial⟩ trivial


set_option maxRecDepth 20000 in
set_option maxHeartbeats 2000000 in
theorem ct_wire_written_2 (o_0 : Int) (c0 : Int) (r : Bool) (hF : wire_written_2 o_0 c0 = some r) : Ct Try.prog 67 [.g (.d (.v (.int .i64 o_0))), .ep [.v (.int .i64 c0)]] (.one (.d (.v (.bool r)))) := by
  unfold wire_written_2 at hF
  refine Ct.intro Try.func67 rfl Try.ntmps67 rfl rfl fun M w => ?_
  refine G.seq ?_
  refine G.region ?_
  refine G.op1 (op_assign (Ev.c _ rfl) rfl) rfl trivial trivial ?_
  refine G.endOps ?_
  refine G.seq ?_
  refine G.region ?_
  refine G.op1 (op_move (Ev.t 0 (bI .i64 o_0)) rfl) rfl ⟨rfl, trivial⟩ trivial ?_
  refine G.op1 (op_lss (Ev.t 4 (bI .i64 o_0)) (Ev.c _ rfl) rfl) rfl ⟨rfl, trivial⟩ trivial ?_
  refine G.op1 (op_move (Ev.t 5 (bB (decide (o_0 < 1)))) rfl) rfl ⟨rfl, trivial⟩ trivial ?_
  refine ifS hF (fun hc1 hF => ?_) (fun hc1 hF => ?_)
  · refine G.known (t := 6) hc1 rfl ?_
    refine G.opN1 rfl rfl rfl rfl rfl ?_
    refine G.opN1 rfl rfl rfl rfl rfl ?_
    refine G.opN1 rfl rfl rfl rfl rfl ?_
    refine G.opN1 rfl rfl rfl rfl rfl ?_
    refine G.op1 (op_pickT (Ev.t 6 (bB true)) (Ev.c _ rfl) rfl) rfl ⟨rfl, trivial⟩ trivial ?_
    refine G.op1 (op_assign (Ev.t 11 (bB true)) rfl) rfl ⟨rfl, trivial⟩ trivial ?_
    refine G.endOps ?_
    cases hF
    exact G.ret1 Try.results67 (RVar.tmp 3 _) ⟨rfl, trivial⟩ trivial
  · refine G.known (t := 6) hc1 rfl ?_
    refine G.opG1 (op_move (Ev.t 0 (bI .i64 o_0)) rfl) rfl rfl rfl ⟨rfl, trivial⟩ trivial ?_
    refine G.opG1 (op_load1E (c := .v (.int .i64 c0)) Try.underlying3 rfl rfl (Ev.t 1 (.ep [.v (.int .i64 c0)])) rfl) rfl rfl rfl ⟨rfl, trivial⟩ trivial ?_
    obtain ⟨hz2, hF⟩ := chkS hF
    refine G.opG1 (op_shr (of_decide_eq_true hz2) (Ev.t 7 (bI .i64 o_0)) (Ev.t 8 (bI .i64 c0)) rfl) rfl rfl rfl ⟨rfl, rfl, trivial⟩ trivial ?_
    refine G.opG1 (op_neI (Ev.t 9 (bI .i64 (Int.fdiv o_0 (2 ^ min (Int.toNat c0) (IntKind.bits .i64))))) (Ev.c _ rfl) rfl) rfl rfl rfl ⟨rfl, trivial⟩ trivial ?_
    refine G.op1 (op_pickF (Ev.t 6 (bB false)) (Ev.t 10 (bB (!decide ((Int.fdiv o_0 (2 ^ min (Int.toNat c0) (IntKind.bits .i64))) = 0)))) rfl) rfl ⟨rfl, rfl, trivial⟩ trivial ?_
    refine G.op1 (op_assign (Ev.t 11 (bB (!decide ((Int.fdiv o_0 (2 ^ min (Int.toNat c0) (IntKind.bits .i64))) = 0)))) rfl) rfl ⟨rfl, trivial⟩ trivial ?_
    refine G.endOps ?_
    cases hF
    exact G.ret1 Try.results67 (RVar.tmp 3 _) ⟨rfl, trivial⟩ trivial


set_option maxRecDepth 20000 in
set_option maxHeartbeats 2000000 in
theorem ct_slices_IndexFunc_int (s_0 : (List Int)) (f_1 : (Int → Option Bool)) (r : Int) (hF : slices_IndexFunc_int s_0 f_1 = some r) : Ct Try.prog 75 [.g (.d (.sl 1 (List.map encI_i64 s_0))), .sem (sem1 (fun x => .d (.v (.int .i64 x))) (fun y => .bool y) f_1)] (.one (.d (.v (.int .i64 r)))) := by
  unfold slices_IndexFunc_int at hF
  refine Ct.intro Try.func75 rfl Try.ntmps75 rfl rfl fun M w => ?_
  refine G.seq ?_
  refine G.region ?_
  refine G.op1 (op_assign (Ev.c _ rfl) rfl) rfl trivial trivial ?_
  refine G.endOps ?_
  refine G.seq ?_
  refine G.seq ?_
  refine G.region ?_
  refine G.op1 (op_move (Ev.t 0 (.g (.d (.sl 1 (List.map encI_i64 s_0))))) rfl) rfl ⟨rfl, trivial⟩ trivial ?_
  refine G.op1 (OpL.cast (op_lenD Try.underlying39 (Ev.t 6 (.g (.d (.sl 1 (List.map encI_i64 s_0))))) rfl) (by rw [List.length_map])) rfl ⟨rfl, trivial⟩ trivial ?_
  refine G.op1 (op_move (Ev.c _ rfl) rfl) rfl trivial trivial ?_
  refine G.endOps ?_
  refine G.joinC (T := Unit) (fun y1 => ⟨[], []⟩) (fun y1 => slices_IndexFunc_int_k1 y1 = some r) (fun y1 hF => ?_) (fun J2 => ?_)
  · unfold slices_IndexFunc_int_k1 at hF
    refine G.seq ?_
    refine G.region ?_
    refine G.op1 (op_assign (Ev.c _ rfl) rfl) rfl trivial trivial ?_
    refine G.endOps ?_
    cases hF
    exact G.ret1 Try.results75 (RVar.tmp 4 _) ⟨rfl, trivial⟩ trivial
  refine G.block ?_
  refine G.keep (sl' := [(0, .one (.g (.d (.sl 1 (List.map encI_i64 s_0))))), (1, .one (.sem (sem1 (fun x => .d (.v (.int .i64 x))) (fun y => .bool y) f_1))), (7, .one (bI .i64 (s_0.length : Int))), (8, .one (bI .i64 0))]) (hp' := []) ⟨rfl, rfl, rfl, rfl, trivial⟩ trivial rfl ?_
  refine G.loopF (fun (v3 : Int) => ⟨[(0, .one (.g (.d (.sl 1 (List.map encI_i64 s_0))))), (1, .one (.sem (sem1 (fun x => .d (.v (.int .i64 x))) (fun y => .bool y) f_1))), (7, .one (bI .i64 (s_0.length : Int))), (8, .one (bI .i64 v3))], []⟩) hF rfl (fun K6 again5 v3 J4 hF => ?_)
  unfold slices_IndexFunc_int_l2 at hF
  refine G.seq ?_
  refine G.region ?_
  refine G.op1 (op_lss (Ev.t 8 (bI .i64 v3)) (Ev.t 7 (bI .i64 (s_0.length : Int))) rfl) rfl ⟨rfl, rfl, trivial⟩ trivial ?_
  refine G.endOps ?_
  refine G.seq ?_
  refine ifS hF (fun hc7 hF => ?_) (fun hc7 hF => ?_)
  · refine G.cond rfl (fun _ => ?_) (fun hx => by rw [hc7] at hx; cases hx)
    refine G.skip ?_
    refine G.seq ?_
    refine G.block ?_
    refine G.seq ?_
    refine G.region ?_
    refine G.op1 (op_move (Ev.t 8 (bI .i64 v3)) rfl) rfl ⟨rfl, trivial⟩ trivial ?_
    refine G.op1 (op_assign (Ev.t 10 (bI .i64 v3)) rfl) rfl ⟨rfl, trivial⟩ trivial ?_
    refine G.endOps ?_
    refine G.seq ?_
    refine G.region ?_
    refine G.op1 (op_move (Ev.t 1 (.sem (sem1 (fun x => .d (.v (.int .i64 x))) (fun y => .bool y) f_1))) rfl) rfl ⟨rfl, trivial⟩ trivial ?_
    refine G.op1 (op_move (Ev.t 0 (.g (.d (.sl 1 (List.map encI_i64 s_0))))) rfl) rfl ⟨rfl, trivial⟩ trivial ?_
    refine G.op1 (op_move (Ev.t 5 (bI .i64 v3)) rfl) rfl ⟨rfl, trivial⟩ trivial ?_
    obtain ⟨x8, hx8, hF⟩ := bindS hF
    refine G.op1 (op_index (cs := [.v (.int .i64 x8)]) Try.underlying39 ti3 (idx_ok hx8).1 (idx_get hx8 encI_i64) (Ev.t 12 (.g (.d (.sl 1 (List.map encI_i64 s_0))))) (Ev.t 13 (bI .i64 v3)) rfl) rfl ⟨rfl, rfl, trivial⟩ trivial ?_
    refine G.op1 (op_load1E (c := .v (.int .i64 x8)) Try.underlying3 rfl rfl (Ev.t 14 (.ep [.v (.int .i64 x8)])) rfl) rfl ⟨rfl, trivial⟩ trivial ?_
    obtain ⟨r9, hr9, hF⟩ := bindS hF
    refine G.op1 (op_callSem (t := 11) (v := .bool r9) (Φ := sem1 (fun x => .d (.v (.int .i64 x))) (fun y => .bool y) f_1) ⟨x8, r9, rfl, hr9, rfl⟩ rfl (EvL.cons (Ev.t 15 (bI .i64 x8)) EvL.nil) rfl) rfl ⟨rfl, rfl, trivial⟩ trivial ?_
    refine G.endOps ?_
    refine ifS hF (fun hc10 hF => ?_) (fun hc10 hF => ?_)
    · refine G.cond rfl (fun _ => ?_) (fun hx => by rw [hc10] at hx; cases hx)
      refine G.seq ?_
      refine G.region ?_
      refine G.op1 (op_move (Ev.t 5 (bI .i64 v3)) rfl) rfl ⟨rfl, trivial⟩ trivial ?_
      refine G.op1 (op_assign (Ev.t 17 (bI .i64 v3)) rfl) rfl ⟨rfl, trivial⟩ trivial ?_
      refine G.endOps ?_
      cases hF
      exact G.ret1 Try.results75 (RVar.tmp 4 _) ⟨rfl, trivial⟩ trivial
    · refine G.cond rfl (fun hx => by rw [hc10] at hx; cases hx) (fun _ => ?_)
      refine G.skip ?_
      refine G.endBlock ?_
      refine G.region ?_
      refine G.op1 (op_add (Ev.t 8 (bI .i64 v3)) (Ev.c _ rfl) rfl) rfl ⟨rfl, trivial⟩ trivial ?_
      refine G.op1 (op_move (Ev.t 18 (bI .i64 (IntKind.wrap .i64 (v3 + 1)))) rfl) rfl ⟨rfl, trivial⟩ trivial ?_
      refine G.endOps ?_
      exact G.arr (J4 (IntKind.wrap .i64 (v3 + 1)) hF) ⟨rfl, rfl, rfl, rfl, trivial⟩ trivial rfl
  · refine G.cond rfl (fun hx => by rw [hc7] at hx; cases hx) (fun _ => ?_)
    refine G.exit ?_
    refine GX.c ?_
    refine GX.q ?_
    refine GX.bYes ?_
    exact G.arr (J2 () hF) trivial trivial rfl


set_option maxRecDepth 20000 in
set_option maxHeartbeats 2000000 in
theorem ct_slices_ContainsFunc_int (s_0 : (List Int)) (f_1 : (Int → Option Bool)) (r : Bool) (hF : slices_ContainsFunc_int s_0 f_1 = some r) : Ct Try.prog 68 [.g (.d (.sl 1 (List.map encI_i64 s_0))), .sem (sem1 (fun x => .d (.v (.int .i64 x))) (fun y => .bool y) f_1)] (.one (.d (.v (.bool r)))) := by
  unfold slices_ContainsFunc_int at hF
  refine Ct.intro Try.func68 rfl Try.ntmps68 rfl rfl fun M w => ?_
  refine G.seq ?_
  refine G.region ?_
  refine G.op1 (op_assign (Ev.c _ rfl) rfl) rfl trivial trivial ?_
  refine G.endOps ?_
  refine G.seq ?_
  refine G.region ?_
  refine G.op1 (op_move (Ev.t 0 (.g (.d (.sl 1 (List.map encI_i64 s_0))))) rfl) rfl ⟨rfl, trivial⟩ trivial ?_
  refine G.op1 (op_move (Ev.t 1 (.sem (sem1 (fun x => .d (.v (.int .i64 x))) (fun y => .bool y) f_1))) rfl) rfl ⟨rfl, trivial⟩ trivial ?_
  obtain ⟨r1, hr1, hF⟩ := bindS hF
  refine G.op1 (op_callQ (sv := .one (bI .i64 r1)) cf75 (ct_slices_IndexFunc_int s_0 f_1 r1 hr1) rfl rfl (EvQL.cons (EvQ.g (Ev.t 5 (.g (.d (.sl 1 (List.map encI_i64 s_0)))))) (EvQL.cons (EvQ.sem (Ev.t 6 (.sem (sem1 (fun x => .d (.v (.int .i64 x))) (fun y => .bool y) f_1)))) EvQL.nil)) rfl) rfl ⟨rfl, rfl, trivial⟩ trivial ?_
  refine G.op1 (op_geq (Ev.t 7 (bI .i64 r1)) (Ev.c _ rfl) rfl) rfl ⟨rfl, trivial⟩ trivial ?_
  refine G.op1 (op_assign (Ev.t 8 (bB (decide (0 ≤ r1)))) rfl) rfl ⟨rfl, trivial⟩ trivial ?_
  refine G.endOps ?_
  cases hF
  exact G.ret1 Try.results68 (RVar.tmp 4 _) ⟨rfl, trivial⟩ trivial


set_option maxRecDepth 20000 in
set_option maxHeartbeats 2000000 in
theorem ct_wire_written (c_0 : Api_Row) (r : Bool) (hF : wire_written c_0 = some r) : Ct Try.prog 52 [.g (.agg (encApi_Row c_0))] (.one (.d (.v (.bool r)))) := by
  unfold wire_written at hF
  refine Ct.intro Try.func52 rfl Try.ntmps52 rfl rfl fun M w => ?_
  refine G.seq ?_
  refine G.region ?_
  refine G.op2 (op_boxA (k := 1001) (Ev.t 0 (.g (.agg [.sl 2 (List.map encApi_Range c_0.Ranges), .sl 1 (List.map encI_i64 c_0.Owners), .sl 1 (List.map encI_i64 c_0.Parents)]))) rfl) rfl ⟨rfl, trivial⟩ ⟨rfl, trivial⟩ ?_
  refine G.op1 (op_assign (Ev.c _ rfl) rfl) rfl trivial trivial ?_
  refine G.endOps ?_
  refine G.seq ?_
  refine G.region ?_
  refine G.op1 (op_fieldP (off' := 2) Try.underlying44 rfl ti39 (by decide) rfl (Ev.t 1 (.ptr 1001 0)) rfl) rfl ⟨rfl, trivial⟩ trivial ?_
  refine G.op1 (op_load1P (c := .g (.d (.sl 1 (List.map encI_i64 c_0.Parents)))) Try.underlying39 rfl rfl (Ev.t 6 (.ptr 1001 2)) rfl) rfl ⟨rfl, trivial⟩ ⟨rfl, trivial⟩ ?_
  refine G.op1 (OpL.cast (op_lenD Try.underlying39 (Ev.t 7 (.g (.d (.sl 1 (List.map encI_i64 c_0.Parents))))) rfl) (by rw [List.length_map])) rfl ⟨rfl, trivial⟩ trivial ?_
  refine G.op2 (op_alloc (k := 1003) (cs := [bI .i64 0]) ti3 ⟨.v _ rfl, trivial⟩ rfl) rfl trivial ⟨rfl, trivial⟩ ?_
  refine G.op3 (op_store1 (cs' := [bI .i64 (c_0.Parents.length : Int)]) (c := bI .i64 (c_0.Parents.length : Int)) trivial ti3 rfl rfl (Ev.t 3 (.ptr 1003 0)) (Ev.t 8 (bI .i64 (c_0.Parents.length : Int)))) rfl ⟨rfl, rfl, trivial⟩ ⟨rfl, trivial⟩ ?_
  refine G.endOps ?_
  refine G.seq ?_
  refine G.seq ?_
  refine G.joinC (T := Bool) (fun y1 => ⟨[(1, .one (.ptr 1001 0)), (3, .one (.ptr 1003 0)), (35, .one (bB y1))], [(1001, some (.blk 44 [.g (.d (.sl 2 (List.map encApi_Range c_0.Ranges))), .g (.d (.sl 1 (List.map encI_i64 c_0.Owners))), .g (.d (.sl 1 (List.map encI_i64 c_0.Parents)))])), (1003, some (.blk 3 [bI .i64 (c_0.Parents.length : Int)]))]⟩) (fun y1 => wire_written_k1 c_0 y1 = some r) (fun y1 hF => ?_) (fun J6 => ?_)
  · unfold wire_written_k1 at hF
    refine ifS hF (fun hc2 hF => ?_) (fun hc2 hF => ?_)
    · refine G.cond rfl (fun _ => ?_) (fun hx => by rw [hc2] at hx; cases hx)
      refine G.seq ?_
      refine G.region ?_
      refine G.op1 (op_assign (Ev.c _ rfl) rfl) rfl trivial trivial ?_
      refine G.endOps ?_
      cases hF
      exact G.ret1 Try.results52 (RVar.tmp 2 _) ⟨rfl, trivial⟩ trivial
    · refine G.cond rfl (fun hx => by rw [hc2] at hx; cases hx) (fun _ => ?_)
      refine G.skip ?_
      refine G.seq ?_
      refine G.region ?_
      refine G.op1 (op_assign (Ev.f 66) rfl) rfl trivial trivial ?_
      refine G.endOps ?_
      refine G.seq ?_
      refine G.region ?_
      refine G.op1 (op_makeFunc1 (Ev.t 3 (.ptr 1003 0)) rfl) rfl ⟨rfl, trivial⟩ trivial ?_
      refine G.op1 (op_assign (Ev.t 36 (.clo 67 [1003])) rfl) rfl ⟨rfl, trivial⟩ trivial ?_
      refine G.endOps ?_
      refine G.seq ?_
      refine G.region ?_
      refine G.op1 (op_fieldP (off' := 2) Try.underlying44 rfl ti39 (by decide) rfl (Ev.t 1 (.ptr 1001 0)) rfl) rfl ⟨rfl, trivial⟩ trivial ?_
      refine G.op1 (op_load1P (c := .g (.d (.sl 1 (List.map encI_i64 c_0.Parents)))) Try.underlying39 rfl rfl (Ev.t 37 (.ptr 1001 2)) rfl) rfl ⟨rfl, trivial⟩ ⟨rfl, trivial⟩ ?_
      refine G.op1 (op_move (Ev.t 4 (.clo 66 [])) rfl) rfl ⟨rfl, trivial⟩ trivial ?_
      obtain ⟨r3, hr3, hF⟩ := bindS hF
      refine G.op1 (op_callQ (sv := .one (bB r3)) cf68 (ct_slices_ContainsFunc_int c_0.Parents (fun x0 => wire_written_1 x0) r3 hr3) rfl rfl (EvQL.cons (EvQ.g (Ev.t 38 (.g (.d (.sl 1 (List.map encI_i64 c_0.Parents)))))) (EvQL.cons (EvQ.clo (Φ := sem1 (fun x => .d (.v (.int .i64 x))) (fun y => .bool y) (fun x0 => wire_written_1 x0)) (Ev.t 39 (.clo 66 [])) EvC.nil cf66 (fun args v ⟨x0, b, h1, h2, h3⟩ => by subst h1 h3; exact ct_wire_written_1 x0 b h2)) EvQL.nil)) rfl) rfl ⟨rfl, rfl, trivial⟩ trivial ?_
      refine G.op1 (op_not (Ev.t 40 (bB r3)) rfl) rfl ⟨rfl, trivial⟩ trivial ?_
      refine G.op1 (op_move (Ev.t 41 (bB (!r3))) rfl) rfl ⟨rfl, trivial⟩ trivial ?_
      refine ifS hF (fun hc4 hF => ?_) (fun hc4 hF => ?_)
      · refine G.known (t := 42) hc4 rfl ?_
        refine G.opG1 (op_fieldP (off' := 1) Try.underlying44 rfl ti39 (by decide) rfl (Ev.t 1 (.ptr 1001 0)) rfl) rfl rfl rfl ⟨rfl, trivial⟩ trivial ?_
        refine G.opG1 (op_load1P (c := .g (.d (.sl 1 (List.map encI_i64 c_0.Owners)))) Try.underlying39 rfl rfl (Ev.t 43 (.ptr 1001 1)) rfl) rfl rfl rfl ⟨rfl, trivial⟩ ⟨rfl, trivial⟩ ?_
        refine G.opG1 (op_move (Ev.t 5 (.clo 67 [1003])) rfl) rfl rfl rfl ⟨rfl, trivial⟩ trivial ?_
        obtain ⟨r5, hr5, hF⟩ := bindS hF
        refine G.opG1 (op_callQ (sv := .one (bB r5)) cf68 (ct_slices_ContainsFunc_int c_0.Owners (fun x0 => wire_written_2 x0 (c_0.Parents.length : Int)) r5 hr5) rfl rfl (EvQL.cons (EvQ.g (Ev.t 44 (.g (.d (.sl 1 (List.map encI_i64 c_0.Owners)))))) (EvQL.cons (EvQ.clo (Φ := sem1 (fun x => .d (.v (.int .i64 x))) (fun y => .bool y) (fun x0 => wire_written_2 x0 (c_0.Parents.length : Int))) (Ev.t 45 (.clo 67 [1003])) (EvC.cons rfl EvC.nil) cf67 (fun args v ⟨x0, b, h1, h2, h3⟩ => by subst h1 h3; exact ct_wire_written_2 x0 (c_0.Parents.length : Int) b h2)) EvQL.nil)) rfl) rfl rfl rfl ⟨rfl, rfl, trivial⟩ ⟨rfl, trivial⟩ ?_
        refine G.opG1 (op_not (Ev.t 46 (bB r5)) rfl) rfl rfl rfl ⟨rfl, trivial⟩ trivial ?_
        refine G.op1 (op_pickT (Ev.t 42 (bB true)) (Ev.t 47 (bB (!r5))) rfl) rfl ⟨rfl, rfl, trivial⟩ trivial ?_
        refine G.op1 (op_assign (Ev.t 48 (bB (!r5))) rfl) rfl ⟨rfl, trivial⟩ trivial ?_
        refine G.endOps ?_
        cases hF
        exact G.ret1 Try.results52 (RVar.tmp 2 _) ⟨rfl, trivial⟩ trivial
      · refine G.known (t := 42) hc4 rfl ?_
        refine G.opN1 rfl rfl rfl rfl rfl ?_
        refine G.opN1 rfl rfl rfl rfl rfl ?_
        refine G.opN1 rfl rfl rfl rfl rfl ?_
        refine G.opN1 rfl rfl rfl rfl rfl ?_
        refine G.opN1 rfl rfl rfl rfl rfl ?_
        refine G.op1 (op_pickF (Ev.t 42 (bB false)) (Ev.c _ rfl) rfl) rfl ⟨rfl, trivial⟩ trivial ?_
        refine G.op1 (op_assign (Ev.t 48 (bB false)) rfl) rfl ⟨rfl, trivial⟩ trivial ?_
        refine G.endOps ?_
        cases hF
        exact G.ret1 Try.results52 (RVar.tmp 2 _) ⟨rfl, trivial⟩ trivial
  refine G.region ?_
  refine G.op1 (op_load1P (c := bI .i64 (c_0.Parents.length : Int)) Try.underlying3 rfl rfl (Ev.t 3 (.ptr 1003 0)) rfl) rfl ⟨rfl, trivial⟩ ⟨rfl, trivial⟩ ?_
  refine G.op1 (op_lss (Ev.t 9 (bI .i64 (c_0.Parents.length : Int))) (Ev.c _ rfl) rfl) rfl ⟨rfl, trivial⟩ trivial ?_
  refine G.op1 (op_move (Ev.t 10 (bB (decide ((c_0.Parents.length : Int) < 1)))) rfl) rfl ⟨rfl, trivial⟩ trivial ?_
  refine G.joinL (T := Bool) 3 (fun y7 => ⟨[(1, .one (.ptr 1001 0)), (3, .one (.ptr 1003 0)), (14, .one (bB y7))], [(1001, some (.blk 44 [.g (.d (.sl 2 (List.map encApi_Range c_0.Ranges))), .g (.d (.sl 1 (List.map encI_i64 c_0.Owners))), .g (.d (.sl 1 (List.map encI_i64 c_0.Parents)))])), (1003, some (.blk 3 [bI .i64 (c_0.Parents.length : Int)]))]⟩) (fun y7 => wire_written_k2 c_0 y7 = some r) (fun y7 hF => ?_) (fun J16 => ?_)
  · unfold wire_written_k2 at hF
    refine G.op1 (op_move (Ev.t 14 (bB y7)) rfl) rfl ⟨rfl, trivial⟩ trivial ?_
    refine G.joinL (T := Bool) 5 (fun y8 => ⟨[(1, .one (.ptr 1001 0)), (3, .one (.ptr 1003 0)), (20, .one (bB y8))], [(1001, some (.blk 44 [.g (.d (.sl 2 (List.map encApi_Range c_0.Ranges))), .g (.d (.sl 1 (List.map encI_i64 c_0.Owners))), .g (.d (.sl 1 (List.map encI_i64 c_0.Parents)))])), (1003, some (.blk 3 [bI .i64 (c_0.Parents.length : Int)]))]⟩) (fun y8 => wire_written_k3 c_0 y8 = some r) (fun y8 hF => ?_) (fun J14 => ?_)
    · unfold wire_written_k3 at hF
      refine G.op1 (op_move (Ev.t 20 (bB y8)) rfl) rfl ⟨rfl, trivial⟩ trivial ?_
      refine G.joinL (T := Bool) 8 (fun y9 => ⟨[(1, .one (.ptr 1001 0)), (3, .one (.ptr 1003 0)), (29, .one (bB y9))], [(1001, some (.blk 44 [.g (.d (.sl 2 (List.map encApi_Range c_0.Ranges))), .g (.d (.sl 1 (List.map encI_i64 c_0.Owners))), .g (.d (.sl 1 (List.map encI_i64 c_0.Parents)))])), (1003, some (.blk 3 [bI .i64 (c_0.Parents.length : Int)]))]⟩) (fun y9 => wire_written_k4 c_0 y9 = some r) (fun y9 hF => ?_) (fun J12 => ?_)
      · unfold wire_written_k4 at hF
        refine G.op1 (op_move (Ev.t 29 (bB y9)) rfl) rfl ⟨rfl, trivial⟩ trivial ?_
        refine ifS hF (fun hc10 hF => ?_) (fun hc10 hF => ?_)
        · refine G.known (t := 30) hc10 rfl ?_
          refine G.opN1 rfl rfl rfl rfl rfl ?_
          refine G.opN1 rfl rfl rfl rfl rfl ?_
          refine G.opN1 rfl rfl rfl rfl rfl ?_
          refine G.opN1 rfl rfl rfl rfl rfl ?_
          refine G.op1 (op_pickT (Ev.t 30 (bB true)) (Ev.c _ rfl) rfl) rfl ⟨rfl, trivial⟩ trivial ?_
          refine G.endOps ?_
          exact G.arr (J6 true hF) ⟨rfl, rfl, rfl, trivial⟩ ⟨rfl, rfl, trivial⟩ rfl
        · refine G.known (t := 30) hc10 rfl ?_
          refine G.opG1 (op_fieldP (off' := 0) Try.underlying44 rfl ti42 (by decide) rfl (Ev.t 1 (.ptr 1001 0)) rfl) rfl rfl rfl ⟨rfl, trivial⟩ trivial ?_
          refine G.opG1 (op_load1P (c := .g (.d (.sl 2 (List.map encApi_Range c_0.Ranges)))) Try.underlying42 rfl rfl (Ev.t 31 (.ptr 1001 0)) rfl) rfl rfl rfl ⟨rfl, trivial⟩ ⟨rfl, trivial⟩ ?_
          obtain ⟨r11, hr11, hF⟩ := bindS hF
          refine G.opG1 (op_callQ (sv := .one (bB r11)) cf65 (ct_keys_Whole c_0.Ranges r11 hr11) rfl rfl (EvQL.cons (EvQ.g (Ev.t 32 (.g (.d (.sl 2 (List.map encApi_Range c_0.Ranges)))))) EvQL.nil) rfl) rfl rfl rfl ⟨rfl, trivial⟩ trivial ?_
          refine G.opG1 (op_not (Ev.t 33 (bB r11)) rfl) rfl rfl rfl ⟨rfl, trivial⟩ trivial ?_
          refine G.op1 (op_pickF (Ev.t 30 (bB false)) (Ev.t 34 (bB (!r11))) rfl) rfl ⟨rfl, rfl, trivial⟩ trivial ?_
          refine G.endOps ?_
          exact G.arr (J6 (!r11) hF) ⟨rfl, rfl, rfl, trivial⟩ ⟨rfl, rfl, trivial⟩ rfl
      refine ifS hF (fun hc13 hF => ?_) (fun hc13 hF => ?_)
      · refine G.known (t := 21) hc13 rfl ?_
        refine G.opN1 rfl rfl rfl rfl rfl ?_
        refine G.opN1 rfl rfl rfl rfl rfl ?_
        refine G.opN1 rfl rfl rfl rfl rfl ?_
        refine G.opN1 rfl rfl rfl rfl rfl ?_
        refine G.opN1 rfl rfl rfl rfl rfl ?_
        refine G.opN1 rfl rfl rfl rfl rfl ?_
        refine G.opN1 rfl rfl rfl rfl rfl ?_
        refine G.op1 (op_pickT (Ev.t 21 (bB true)) (Ev.c _ rfl) rfl) rfl ⟨rfl, trivial⟩ trivial ?_
        exact G.arr (J12 true hF) ⟨rfl, rfl, rfl, trivial⟩ ⟨rfl, rfl, trivial⟩ rfl
      · refine G.known (t := 21) hc13 rfl ?_
        refine G.opG1 (op_fieldP (off' := 1) Try.underlying44 rfl ti39 (by decide) rfl (Ev.t 1 (.ptr 1001 0)) rfl) rfl rfl rfl ⟨rfl, trivial⟩ trivial ?_
        refine G.opG1 (op_load1P (c := .g (.d (.sl 1 (List.map encI_i64 c_0.Owners)))) Try.underlying39 rfl rfl (Ev.t 22 (.ptr 1001 1)) rfl) rfl rfl rfl ⟨rfl, trivial⟩ ⟨rfl, trivial⟩ ?_
        refine G.opG1 (OpL.cast (op_lenD Try.underlying39 (Ev.t 23 (.g (.d (.sl 1 (List.map encI_i64 c_0.Owners))))) rfl) (by rw [List.length_map])) rfl rfl rfl ⟨rfl, trivial⟩ trivial ?_
        refine G.opG1 (op_fieldP (off' := 0) Try.underlying44 rfl ti42 (by decide) rfl (Ev.t 1 (.ptr 1001 0)) rfl) rfl rfl rfl ⟨rfl, trivial⟩ trivial ?_
        refine G.opG1 (op_load1P (c := .g (.d (.sl 2 (List.map encApi_Range c_0.Ranges)))) Try.underlying42 rfl rfl (Ev.t 25 (.ptr 1001 0)) rfl) rfl rfl rfl ⟨rfl, trivial⟩ ⟨rfl, trivial⟩ ?_
        refine G.opG1 (OpL.cast (op_lenD Try.underlying42 (Ev.t 26 (.g (.d (.sl 2 (List.map encApi_Range c_0.Ranges))))) rfl) (by rw [List.length_map])) rfl rfl rfl ⟨rfl, trivial⟩ trivial ?_
        refine G.opG1 (op_neI (Ev.t 24 (bI .i64 (c_0.Owners.length : Int))) (Ev.t 27 (bI .i64 (c_0.Ranges.length : Int))) rfl) rfl rfl rfl ⟨rfl, rfl, trivial⟩ trivial ?_
        refine G.op1 (op_pickF (Ev.t 21 (bB false)) (Ev.t 28 (bB (!decide ((c_0.Owners.length : Int) = (c_0.Ranges.length : Int))))) rfl) rfl ⟨rfl, rfl, trivial⟩ trivial ?_
        exact G.arr (J12 (!decide ((c_0.Owners.length : Int) = (c_0.Ranges.length : Int))) hF) ⟨rfl, rfl, rfl, trivial⟩ ⟨rfl, rfl, trivial⟩ rfl
    refine ifS hF (fun hc15 hF => ?_) (fun hc15 hF => ?_)
    · refine G.known (t := 15) hc15 rfl ?_
      refine G.opN1 rfl rfl rfl rfl rfl ?_
      refine G.opN1 rfl rfl rfl rfl rfl ?_
      refine G.opN1 rfl rfl rfl rfl rfl ?_
      refine G.opN1 rfl rfl rfl rfl rfl ?_
      refine G.op1 (op_pickT (Ev.t 15 (bB true)) (Ev.c _ rfl) rfl) rfl ⟨rfl, trivial⟩ trivial ?_
      exact G.arr (J14 true hF) ⟨rfl, rfl, rfl, trivial⟩ ⟨rfl, rfl, trivial⟩ rfl
    · refine G.known (t := 15) hc15 rfl ?_
      refine G.opG1 (op_fieldP (off' := 0) Try.underlying44 rfl ti42 (by decide) rfl (Ev.t 1 (.ptr 1001 0)) rfl) rfl rfl rfl ⟨rfl, trivial⟩ trivial ?_
      refine G.opG1 (op_load1P (c := .g (.d (.sl 2 (List.map encApi_Range c_0.Ranges)))) Try.underlying42 rfl rfl (Ev.t 16 (.ptr 1001 0)) rfl) rfl rfl rfl ⟨rfl, trivial⟩ ⟨rfl, trivial⟩ ?_
      refine G.opG1 (OpL.cast (op_lenD Try.underlying42 (Ev.t 17 (.g (.d (.sl 2 (List.map encApi_Range c_0.Ranges))))) rfl) (by rw [List.length_map])) rfl rfl rfl ⟨rfl, trivial⟩ trivial ?_
      refine G.opG1 (op_gtr (Ev.t 18 (bI .i64 (c_0.Ranges.length : Int))) (Ev.c _ rfl) rfl) rfl rfl rfl ⟨rfl, trivial⟩ trivial ?_
      refine G.op1 (op_pickF (Ev.t 15 (bB false)) (Ev.t 19 (bB (decide (8 < (c_0.Ranges.length : Int))))) rfl) rfl ⟨rfl, rfl, trivial⟩ trivial ?_
      exact G.arr (J14 (decide (8 < (c_0.Ranges.length : Int))) hF) ⟨rfl, rfl, rfl, trivial⟩ ⟨rfl, rfl, trivial⟩ rfl
  refine ifS hF (fun hc17 hF => ?_) (fun hc17 hF => ?_)
  · refine G.known (t := 11) hc17 rfl ?_
    refine G.opN1 rfl rfl rfl rfl rfl ?_
    refine G.opN1 rfl rfl rfl rfl rfl ?_
    refine G.op1 (op_pickT (Ev.t 11 (bB true)) (Ev.c _ rfl) rfl) rfl ⟨rfl, trivial⟩ trivial ?_
    exact G.arr (J16 true hF) ⟨rfl, rfl, rfl, trivial⟩ ⟨rfl, rfl, trivial⟩ rfl
  · refine G.known (t := 11) hc17 rfl ?_
    refine G.opG1 (op_load1P (c := bI .i64 (c_0.Parents.length : Int)) Try.underlying3 rfl rfl (Ev.t 3 (.ptr 1003 0)) rfl) rfl rfl rfl ⟨rfl, trivial⟩ ⟨rfl, trivial⟩ ?_
    refine G.opG1 (op_gtr (Ev.t 12 (bI .i64 (c_0.Parents.length : Int))) (Ev.c _ rfl) rfl) rfl rfl rfl ⟨rfl, trivial⟩ trivial ?_
    refine G.op1 (op_pickF (Ev.t 11 (bB false)) (Ev.t 13 (bB (decide (6 < (c_0.Parents.length : Int))))) rfl) rfl ⟨rfl, rfl, trivial⟩ trivial ?_
    exact G.arr (J16 (decide (6 < (c_0.Parents.length : Int))) hF) ⟨rfl, rfl, rfl, trivial⟩ ⟨rfl, rfl, trivial⟩ rfl


set_option maxRecDepth 20000 in
set_option maxHeartbeats 2000000 in
theorem ct_wire_RowBytes (c_0 : Api_Row) (r : ByteArray) (hF : wire_RowBytes c_0 = some r) : Ct Try.prog 20 [.g (.agg (encApi_Row c_0))] (.one (.d (.v (.string r)))) := by
  unfold wire_RowBytes at hF
  refine Ct.intro Try.func20 rfl Try.ntmps20 rfl rfl fun M w => ?_
  refine G.seq ?_
  refine G.region ?_
  refine G.op2 (op_boxA (k := 1001) (Ev.t 0 (.g (.agg [.sl 2 (List.map encApi_Range c_0.Ranges), .sl 1 (List.map encI_i64 c_0.Owners), .sl 1 (List.map encI_i64 c_0.Parents)]))) rfl) rfl ⟨rfl, trivial⟩ ⟨rfl, trivial⟩ ?_
  refine G.op1 (op_assign (Ev.c _ rfl) rfl) rfl trivial trivial ?_
  refine G.endOps ?_
  refine G.seq ?_
  refine G.seq ?_
  refine G.region ?_
  refine G.op1 (op_loadAP (ds := [.sl 2 (List.map encApi_Range c_0.Ranges), .sl 1 (List.map encI_i64 c_0.Owners), .sl 1 (List.map encI_i64 c_0.Parents)]) Try.underlying44 rfl ti44 rfl (Ev.t 1 (.ptr 1001 0)) rfl) rfl ⟨rfl, trivial⟩ ⟨rfl, trivial⟩ ?_
  obtain ⟨r1, hr1, hF⟩ := bindS hF
  refine G.op1 (op_callQ (sv := .one (bB r1)) cf52 (ct_wire_written c_0 r1 hr1) rfl rfl (EvQL.cons (EvQ.g (Ev.t 12 (.g (.agg [.sl 2 (List.map encApi_Range c_0.Ranges), .sl 1 (List.map encI_i64 c_0.Owners), .sl 1 (List.map encI_i64 c_0.Parents)])))) EvQL.nil) rfl) rfl ⟨rfl, trivial⟩ trivial ?_
  refine G.op1 (op_not (Ev.t 13 (bB r1)) rfl) rfl ⟨rfl, trivial⟩ trivial ?_
  refine G.endOps ?_
  refine ifS hF (fun hc2 hF => ?_) (fun hc2 hF => ?_)
  · refine G.cond rfl (fun _ => ?_) (fun hx => by rw [hc2] at hx; cases hx)
    refine G.seq ?_
    refine G.region ?_
    refine G.op1 (op_assign (Ev.c _ rfl) rfl) rfl trivial trivial ?_
    refine G.endOps ?_
    cases hF
    exact G.ret1 Try.results20 (RVar.tmp 2 _) ⟨rfl, trivial⟩ trivial
  · refine G.cond rfl (fun hx => by rw [hc2] at hx; cases hx) (fun _ => ?_)
    refine G.skip ?_
    refine G.seq ?_
    refine G.region ?_
    refine G.op1 (op_fieldP (off' := 0) Try.underlying44 rfl ti42 (by decide) rfl (Ev.t 1 (.ptr 1001 0)) rfl) rfl ⟨rfl, trivial⟩ trivial ?_
    refine G.op1 (op_load1P (c := .g (.d (.sl 2 (List.map encApi_Range c_0.Ranges)))) Try.underlying42 rfl rfl (Ev.t 15 (.ptr 1001 0)) rfl) rfl ⟨rfl, trivial⟩ ⟨rfl, trivial⟩ ?_
    refine G.op1 (OpL.cast (op_lenD Try.underlying42 (Ev.t 16 (.g (.d (.sl 2 (List.map encApi_Range c_0.Ranges))))) rfl) (by rw [List.length_map])) rfl ⟨rfl, trivial⟩ trivial ?_
    refine G.op1 (op_assign (Ev.t 17 (bI .i64 (c_0.Ranges.length : Int))) rfl) rfl ⟨rfl, trivial⟩ trivial ?_
    refine G.endOps ?_
    refine G.seq ?_
    refine G.region ?_
    refine G.opM (op_allocB (T := 92) (E := 5) (k := 1004) (kk := 3004) ti92 rfl rfl rfl) rfl trivial ⟨rfl, rfl, trivial⟩ ?_
    refine G.endOps ?_
    refine G.seq ?_
    refine G.region ?_
    refine G.op1 (op_move (Ev.t 3 (bI .i64 (c_0.Ranges.length : Int))) rfl) rfl ⟨rfl, trivial⟩ trivial ?_
    refine G.op1 (op_convI Try.underlying3 Try.underlying57 (Ev.t 18 (bI .i64 (c_0.Ranges.length : Int))) rfl) rfl ⟨rfl, trivial⟩ trivial ?_
    obtain ⟨r3, hr3, hF⟩ := bindS hF
    refine G.op1 (op_callQ (sv := .one (bS r3)) cf33 (ct_vary_Number (IntKind.wrap .u64 (c_0.Ranges.length : Int)) r3 hr3) rfl rfl (EvQL.cons (EvQ.g (Ev.t 19 (bI .u64 (IntKind.wrap .u64 (c_0.Ranges.length : Int))))) EvQL.nil) rfl) rfl ⟨rfl, trivial⟩ trivial ?_
    obtain ⟨r4, hr4, hF⟩ := bindS hF
    refine G.opM (op_callM (k := 1004) (h := .bld 92 5 ByteArray.empty) (h' := .bld 92 5 r4) 3004 (sv := .tup [bI .i64 (r3.size : Int), .g (.d (.v .nilIface))]) cf53 (ct_bld_WriteString ByteArray.empty r3 r4 hr4) rfl rfl (EvM.pt (Ev.t 4 (.ptr 1004 0)) (EvM.g (Ev.t 20 (bS r3)) EvM.nil)) rfl) rfl ⟨rfl, rfl, trivial⟩ ⟨rfl, rfl, trivial⟩ ?_
    refine G.endOps ?_
    refine G.seq ?_
    refine G.seq ?_
    refine G.region ?_
    refine G.op1 (op_fieldP (off' := 0) Try.underlying44 rfl ti42 (by decide) rfl (Ev.t 1 (.ptr 1001 0)) rfl) rfl ⟨rfl, trivial⟩ trivial ?_
    refine G.op1 (op_load1P (c := .g (.d (.sl 2 (List.map encApi_Range c_0.Ranges)))) Try.underlying42 rfl rfl (Ev.t 22 (.ptr 1001 0)) rfl) rfl ⟨rfl, trivial⟩ ⟨rfl, trivial⟩ ?_
    refine G.op1 (op_move (Ev.t 3 (bI .i64 (c_0.Ranges.length : Int))) rfl) rfl ⟨rfl, trivial⟩ trivial ?_
    refine G.op1 (op_sub (Ev.t 24 (bI .i64 (c_0.Ranges.length : Int))) (Ev.c _ rfl) rfl) rfl ⟨rfl, trivial⟩ trivial ?_
    obtain ⟨l5, hl5, hF⟩ := bindS hF
    refine G.op1 (op_sliceD (lo := none) (hi := some (IntKind.wrap .i64 ((c_0.Ranges.length : Int) - 1))) Try.underlying42 ti88 (sub_ok hl5 encApi_Range).1 (sub_ok hl5 encApi_Range).2.1 (sub_ok hl5 encApi_Range).2.2.1 (sub_ok hl5 encApi_Range).2.2.2 (Ev.t 23 (.g (.d (.sl 2 (List.map encApi_Range c_0.Ranges))))) EvO.none (EvO.some (Ev.t 25 (bI .i64 (IntKind.wrap .i64 ((c_0.Ranges.length : Int) - 1))))) rfl) rfl ⟨rfl, rfl, trivial⟩ trivial ?_
    refine G.op1 (OpL.cast (op_lenD Try.underlying42 (Ev.t 26 (.g (.d (.sl 2 (List.map encApi_Range l5))))) rfl) (by rw [List.length_map])) rfl ⟨rfl, trivial⟩ trivial ?_
    refine G.op1 (op_move (Ev.c _ rfl) rfl) rfl trivial trivial ?_
    refine G.endOps ?_
    refine G.joinC (T := ByteArray) (fun y6 => ⟨[(1, .one (.ptr 1001 0)), (4, .one (.ptr 1004 0))], [(1001, some (.blk 44 [.g (.d (.sl 2 (List.map encApi_Range c_0.Ranges))), .g (.d (.sl 1 (List.map encI_i64 c_0.Owners))), .g (.d (.sl 1 (List.map encI_i64 c_0.Parents)))])), (1004, some (.bld 92 5 3004 y6)), (3004, some (.hid true 1004))]⟩) (fun y6 => wire_RowBytes_k1 c_0 y6 = some r) (fun y6 hF => ?_) (fun J29 => ?_)
    · unfold wire_RowBytes_k1 at hF
      refine G.seq ?_
      refine G.region ?_
      refine G.op2 (op_assignRow (E := 57) (size := 1) (k := 2007) (ex := false) rfl rfl) rfl trivial ⟨rfl, trivial⟩ ?_
      refine G.endOps ?_
      refine G.seq ?_
      refine G.seq ?_
      refine G.region ?_
      refine G.op1 (op_fieldP (off' := 1) Try.underlying44 rfl ti39 (by decide) rfl (Ev.t 1 (.ptr 1001 0)) rfl) rfl ⟨rfl, trivial⟩ trivial ?_
      refine G.op1 (op_load1P (c := .g (.d (.sl 1 (List.map encI_i64 c_0.Owners)))) Try.underlying39 rfl rfl (Ev.t 37 (.ptr 1001 1)) rfl) rfl ⟨rfl, trivial⟩ ⟨rfl, trivial⟩ ?_
      refine G.op1 (OpL.cast (op_lenD Try.underlying39 (Ev.t 38 (.g (.d (.sl 1 (List.map encI_i64 c_0.Owners))))) rfl) (by rw [List.length_map])) rfl ⟨rfl, trivial⟩ trivial ?_
      refine G.op1 (op_move (Ev.c _ rfl) rfl) rfl trivial trivial ?_
      refine G.endOps ?_
      refine G.joinC (T := (List Int)) (fun y7 => ⟨[(1, .one (.ptr 1001 0)), (4, .one (.ptr 1004 0)), (7, .one (.own 2007 (List.map encI_u64 y7)))], [(1001, some (.blk 44 [.g (.d (.sl 2 (List.map encApi_Range c_0.Ranges))), .g (.d (.sl 1 (List.map encI_i64 c_0.Owners))), .g (.d (.sl 1 (List.map encI_i64 c_0.Parents)))])), (1004, some (.bld 92 5 3004 y6)), (2007, some (.row 57 1 (List.map encI_u64 y7) false)), (3004, some (.hid true 1004))]⟩) (fun y7 => wire_RowBytes_k2 c_0 y6 y7 = some r) (fun y7 hF => ?_) (fun J21 => ?_)
      · unfold wire_RowBytes_k2 at hF
        refine G.seq ?_
        refine G.region ?_
        refine G.op1 (op_move (Ev.t 7 (.own 2007 (List.map encI_u64 y7))) rfl) rfl ⟨rfl, trivial⟩ trivial ?_
        refine G.op1 (op_fieldP (off' := 2) Try.underlying44 rfl ti39 (by decide) rfl (Ev.t 1 (.ptr 1001 0)) rfl) rfl ⟨rfl, trivial⟩ trivial ?_
        refine G.op1 (op_load1P (c := .g (.d (.sl 1 (List.map encI_i64 c_0.Parents)))) Try.underlying39 rfl rfl (Ev.t 51 (.ptr 1001 2)) rfl) rfl ⟨rfl, trivial⟩ ⟨rfl, trivial⟩ ?_
        refine G.op1 (OpL.cast (op_lenD Try.underlying39 (Ev.t 52 (.g (.d (.sl 1 (List.map encI_i64 c_0.Parents))))) rfl) (by rw [List.length_map])) rfl ⟨rfl, trivial⟩ trivial ?_
        refine G.op1 (op_convI Try.underlying3 Try.underlying57 (Ev.t 53 (bI .i64 (c_0.Parents.length : Int))) rfl) rfl ⟨rfl, trivial⟩ trivial ?_
        refine G.op1 (op_buildSlice (es := List.map encI_u64 [IntKind.wrap .u64 (c_0.Parents.length : Int)]) Try.underlying97 ti57 rfl rfl (EvP.cons (Ev.t 54 (bI .u64 (IntKind.wrap .u64 (c_0.Parents.length : Int)))) EvP.nil) rfl rfl (by simp [encI_u64]) rfl) rfl ⟨rfl, trivial⟩ trivial ?_
        obtain ⟨l8, hl8, hF⟩ := bindS hF
        refine G.op2 (op_appendO Try.underlying97 ti57 rfl (app_map hl8 encI_u64) (app_b1 hl8 encI_u64) (app_b2 hl8 encI_u64) (Ev.t 50 (.own 2007 (List.map encI_u64 y7))) (Ev.t 55 (.g (.d (.sl 1 (List.map encI_u64 ([IntKind.wrap .u64 (c_0.Parents.length : Int)])))))) rfl) rfl ⟨rfl, rfl, trivial⟩ ⟨rfl, trivial⟩ ?_
        refine G.op1 (op_assign (Ev.t 56 (.own 2007 (List.map encI_u64 l8))) rfl) rfl ⟨rfl, trivial⟩ trivial ?_
        refine G.endOps ?_
        refine G.seq ?_
        refine G.seq ?_
        refine G.region ?_
        refine G.op1 (op_fieldP (off' := 2) Try.underlying44 rfl ti39 (by decide) rfl (Ev.t 1 (.ptr 1001 0)) rfl) rfl ⟨rfl, trivial⟩ trivial ?_
        refine G.op1 (op_load1P (c := .g (.d (.sl 1 (List.map encI_i64 c_0.Parents)))) Try.underlying39 rfl rfl (Ev.t 57 (.ptr 1001 2)) rfl) rfl ⟨rfl, trivial⟩ ⟨rfl, trivial⟩ ?_
        refine G.op1 (OpL.cast (op_lenD Try.underlying39 (Ev.t 58 (.g (.d (.sl 1 (List.map encI_i64 c_0.Parents))))) rfl) (by rw [List.length_map])) rfl ⟨rfl, trivial⟩ trivial ?_
        refine G.op1 (op_move (Ev.c _ rfl) rfl) rfl trivial trivial ?_
        refine G.endOps ?_
        refine G.joinC (T := (List Int)) (fun y9 => ⟨[(4, .one (.ptr 1004 0)), (7, .one (.own 2007 (List.map encI_u64 y9)))], [(1004, some (.bld 92 5 3004 y6)), (2007, some (.row 57 1 (List.map encI_u64 y9) false)), (3004, some (.hid true 1004))]⟩) (fun y9 => wire_RowBytes_k3 y6 y9 = some r) (fun y9 hF => ?_) (fun J13 => ?_)
        · unfold wire_RowBytes_k3 at hF
          refine G.seq ?_
          refine G.region ?_
          obtain ⟨r10, hr10, hF⟩ := bindS hF
          refine G.opM (op_callM (k := 1004) (h := .bld 92 5 y6) (h' := .gone) 3004 (sv := .one (bS r10)) cf54 (ct_bld_String y6 r10 hr10) rfl rfl (EvM.pt (Ev.t 4 (.ptr 1004 0)) EvM.nil) rfl) rfl ⟨rfl, trivial⟩ ⟨rfl, rfl, trivial⟩ ?_
          refine G.op1 (op_move (Ev.t 7 (.own 2007 (List.map encI_u64 y9))) rfl) rfl ⟨rfl, trivial⟩ trivial ?_
          obtain ⟨r11, hr11, hF⟩ := bindS hF
          refine G.op1 (op_callQ (sv := .one (bS r11)) cf55 (ct_vary_Join y9 r11 hr11) rfl rfl (EvQL.cons (EvQ.own (Ev.t 72 (.own 2007 (List.map encI_u64 y9)))) EvQL.nil) rfl) rfl ⟨rfl, trivial⟩ ⟨rfl, trivial⟩ ?_
          obtain ⟨s12, hs12, hF⟩ := bindS hF
          refine G.op1 (OpL.cast (op_cat (scat_ok hs12).1 (Ev.t 71 (bS r10)) (Ev.t 73 (bS r11)) rfl) (by rw [(scat_ok hs12).2])) rfl ⟨rfl, rfl, trivial⟩ trivial ?_
          refine G.op1 (op_assign (Ev.t 74 (bS s12)) rfl) rfl ⟨rfl, trivial⟩ trivial ?_
          refine G.endOps ?_
          cases hF
          exact G.ret1 Try.results20 (RVar.tmp 2 _) ⟨rfl, trivial⟩ trivial
        refine G.block ?_
        refine G.keep (sl' := [(4, .one (.ptr 1004 0)), (7, .one (.own 2007 (List.map encI_u64 l8))), (58, .one (.g (.d (.sl 1 (List.map encI_i64 c_0.Parents))))), (59, .one (bI .i64 (c_0.Parents.length : Int))), (60, .one (bI .i64 0))]) (hp' := [(1004, some (.bld 92 5 3004 y6)), (2007, some (.row 57 1 (List.map encI_u64 l8) false)), (3004, some (.hid true 1004))]) ⟨rfl, rfl, rfl, rfl, rfl, trivial⟩ ⟨rfl, rfl, rfl, trivial⟩ rfl ?_
        refine G.loopF (fun (v14 : Int × (List Int)) => ⟨[(4, .one (.ptr 1004 0)), (7, .one (.own 2007 (List.map encI_u64 v14.2))), (58, .one (.g (.d (.sl 1 (List.map encI_i64 c_0.Parents))))), (59, .one (bI .i64 (c_0.Parents.length : Int))), (60, .one (bI .i64 v14.1))], [(1004, some (.bld 92 5 3004 y6)), (2007, some (.row 57 1 (List.map encI_u64 v14.2) false)), (3004, some (.hid true 1004))]⟩) hF rfl (fun K17 again16 v14 J15 hF => ?_)
        unfold wire_RowBytes_l4 at hF
        refine G.seq ?_
        refine G.region ?_
        refine G.op1 (op_lss (Ev.t 60 (bI .i64 v14.1)) (Ev.t 59 (bI .i64 (c_0.Parents.length : Int))) rfl) rfl ⟨rfl, rfl, trivial⟩ trivial ?_
        refine G.endOps ?_
        refine G.seq ?_
        refine ifS hF (fun hc18 hF => ?_) (fun hc18 hF => ?_)
        · refine G.cond rfl (fun _ => ?_) (fun hx => by rw [hc18] at hx; cases hx)
          refine G.skip ?_
          refine G.seq ?_
          refine G.block ?_
          refine G.seq ?_
          refine G.region ?_
          obtain ⟨x19, hx19, hF⟩ := bindS hF
          refine G.op1 (op_index (cs := [.v (.int .i64 x19)]) Try.underlying39 ti3 (idx_ok hx19).1 (idx_get hx19 encI_i64) (Ev.t 58 (.g (.d (.sl 1 (List.map encI_i64 c_0.Parents))))) (Ev.t 60 (bI .i64 v14.1)) rfl) rfl ⟨rfl, rfl, trivial⟩ trivial ?_
          refine G.op1 (op_load1E (c := .v (.int .i64 x19)) Try.underlying3 rfl rfl (Ev.t 62 (.ep [.v (.int .i64 x19)])) rfl) rfl ⟨rfl, trivial⟩ trivial ?_
          refine G.op1 (op_assign (Ev.t 63 (bI .i64 x19)) rfl) rfl ⟨rfl, trivial⟩ trivial ?_
          refine G.endOps ?_
          refine G.region ?_
          refine G.op1 (op_move (Ev.t 7 (.own 2007 (List.map encI_u64 v14.2))) rfl) rfl ⟨rfl, trivial⟩ trivial ?_
          refine G.op1 (op_move (Ev.t 11 (bI .i64 x19)) rfl) rfl ⟨rfl, trivial⟩ trivial ?_
          refine G.op1 (op_add (Ev.t 65 (bI .i64 x19)) (Ev.c _ rfl) rfl) rfl ⟨rfl, trivial⟩ trivial ?_
          refine G.op1 (op_convI Try.underlying3 Try.underlying57 (Ev.t 66 (bI .i64 (IntKind.wrap .i64 (x19 + 1)))) rfl) rfl ⟨rfl, trivial⟩ trivial ?_
          refine G.op1 (op_buildSlice (es := List.map encI_u64 [IntKind.wrap .u64 (IntKind.wrap .i64 (x19 + 1))]) Try.underlying97 ti57 rfl rfl (EvP.cons (Ev.t 67 (bI .u64 (IntKind.wrap .u64 (IntKind.wrap .i64 (x19 + 1))))) EvP.nil) rfl rfl (by simp [encI_u64]) rfl) rfl ⟨rfl, trivial⟩ trivial ?_
          obtain ⟨l20, hl20, hF⟩ := bindS hF
          refine G.op2 (op_appendO Try.underlying97 ti57 rfl (app_map hl20 encI_u64) (app_b1 hl20 encI_u64) (app_b2 hl20 encI_u64) (Ev.t 64 (.own 2007 (List.map encI_u64 v14.2))) (Ev.t 68 (.g (.d (.sl 1 (List.map encI_u64 ([IntKind.wrap .u64 (IntKind.wrap .i64 (x19 + 1))])))))) rfl) rfl ⟨rfl, rfl, trivial⟩ ⟨rfl, trivial⟩ ?_
          refine G.op1 (op_assign (Ev.t 69 (.own 2007 (List.map encI_u64 l20))) rfl) rfl ⟨rfl, trivial⟩ trivial ?_
          refine G.endOps ?_
          refine G.endBlock ?_
          refine G.region ?_
          refine G.op1 (op_add (Ev.t 60 (bI .i64 v14.1)) (Ev.c _ rfl) rfl) rfl ⟨rfl, trivial⟩ trivial ?_
          refine G.op1 (op_move (Ev.t 70 (bI .i64 (IntKind.wrap .i64 (v14.1 + 1)))) rfl) rfl ⟨rfl, trivial⟩ trivial ?_
          refine G.endOps ?_
          exact G.arr (J15 (IntKind.wrap .i64 (v14.1 + 1), l20) hF) ⟨rfl, rfl, rfl, rfl, rfl, trivial⟩ ⟨rfl, rfl, rfl, trivial⟩ rfl
        · refine G.cond rfl (fun hx => by rw [hc18] at hx; cases hx) (fun _ => ?_)
          refine G.exit ?_
          refine GX.c ?_
          refine GX.q ?_
          refine GX.bYes ?_
          exact G.arr (J13 v14.2 hF) ⟨rfl, rfl, trivial⟩ ⟨rfl, rfl, rfl, trivial⟩ rfl
      refine G.block ?_
      refine G.keep (sl' := [(1, .one (.ptr 1001 0)), (4, .one (.ptr 1004 0)), (7, .one (.own 2007 (List.map encI_u64 ([] : (List Int))))), (38, .one (.g (.d (.sl 1 (List.map encI_i64 c_0.Owners))))), (39, .one (bI .i64 (c_0.Owners.length : Int))), (40, .one (bI .i64 0))]) (hp' := [(1001, some (.blk 44 [.g (.d (.sl 2 (List.map encApi_Range c_0.Ranges))), .g (.d (.sl 1 (List.map encI_i64 c_0.Owners))), .g (.d (.sl 1 (List.map encI_i64 c_0.Parents)))])), (1004, some (.bld 92 5 3004 y6)), (2007, some (.row 57 1 (List.map encI_u64 ([] : (List Int))) false)), (3004, some (.hid true 1004))]) ⟨rfl, rfl, rfl, rfl, rfl, rfl, trivial⟩ ⟨rfl, rfl, rfl, rfl, trivial⟩ rfl ?_
      refine G.loopF (fun (v22 : Int × (List Int)) => ⟨[(1, .one (.ptr 1001 0)), (4, .one (.ptr 1004 0)), (7, .one (.own 2007 (List.map encI_u64 v22.2))), (38, .one (.g (.d (.sl 1 (List.map encI_i64 c_0.Owners))))), (39, .one (bI .i64 (c_0.Owners.length : Int))), (40, .one (bI .i64 v22.1))], [(1001, some (.blk 44 [.g (.d (.sl 2 (List.map encApi_Range c_0.Ranges))), .g (.d (.sl 1 (List.map encI_i64 c_0.Owners))), .g (.d (.sl 1 (List.map encI_i64 c_0.Parents)))])), (1004, some (.bld 92 5 3004 y6)), (2007, some (.row 57 1 (List.map encI_u64 v22.2) false)), (3004, some (.hid true 1004))]⟩) hF rfl (fun K25 again24 v22 J23 hF => ?_)
      unfold wire_RowBytes_l5 at hF
      refine G.seq ?_
      refine G.region ?_
      refine G.op1 (op_lss (Ev.t 40 (bI .i64 v22.1)) (Ev.t 39 (bI .i64 (c_0.Owners.length : Int))) rfl) rfl ⟨rfl, rfl, trivial⟩ trivial ?_
      refine G.endOps ?_
      refine G.seq ?_
      refine ifS hF (fun hc26 hF => ?_) (fun hc26 hF => ?_)
      · refine G.cond rfl (fun _ => ?_) (fun hx => by rw [hc26] at hx; cases hx)
        refine G.skip ?_
        refine G.seq ?_
        refine G.block ?_
        refine G.seq ?_
        refine G.region ?_
        obtain ⟨x27, hx27, hF⟩ := bindS hF
        refine G.op1 (op_index (cs := [.v (.int .i64 x27)]) Try.underlying39 ti3 (idx_ok hx27).1 (idx_get hx27 encI_i64) (Ev.t 38 (.g (.d (.sl 1 (List.map encI_i64 c_0.Owners))))) (Ev.t 40 (bI .i64 v22.1)) rfl) rfl ⟨rfl, rfl, trivial⟩ trivial ?_
        refine G.op1 (op_load1E (c := .v (.int .i64 x27)) Try.underlying3 rfl rfl (Ev.t 42 (.ep [.v (.int .i64 x27)])) rfl) rfl ⟨rfl, trivial⟩ trivial ?_
        refine G.op1 (op_assign (Ev.t 43 (bI .i64 x27)) rfl) rfl ⟨rfl, trivial⟩ trivial ?_
        refine G.endOps ?_
        refine G.region ?_
        refine G.op1 (op_move (Ev.t 7 (.own 2007 (List.map encI_u64 v22.2))) rfl) rfl ⟨rfl, trivial⟩ trivial ?_
        refine G.op1 (op_move (Ev.t 9 (bI .i64 x27)) rfl) rfl ⟨rfl, trivial⟩ trivial ?_
        refine G.op1 (op_convI Try.underlying3 Try.underlying57 (Ev.t 45 (bI .i64 x27)) rfl) rfl ⟨rfl, trivial⟩ trivial ?_
        refine G.op1 (op_buildSlice (es := List.map encI_u64 [IntKind.wrap .u64 x27]) Try.underlying97 ti57 rfl rfl (EvP.cons (Ev.t 46 (bI .u64 (IntKind.wrap .u64 x27))) EvP.nil) rfl rfl (by simp [encI_u64]) rfl) rfl ⟨rfl, trivial⟩ trivial ?_
        obtain ⟨l28, hl28, hF⟩ := bindS hF
        refine G.op2 (op_appendO Try.underlying97 ti57 rfl (app_map hl28 encI_u64) (app_b1 hl28 encI_u64) (app_b2 hl28 encI_u64) (Ev.t 44 (.own 2007 (List.map encI_u64 v22.2))) (Ev.t 47 (.g (.d (.sl 1 (List.map encI_u64 ([IntKind.wrap .u64 x27])))))) rfl) rfl ⟨rfl, rfl, trivial⟩ ⟨rfl, trivial⟩ ?_
        refine G.op1 (op_assign (Ev.t 48 (.own 2007 (List.map encI_u64 l28))) rfl) rfl ⟨rfl, trivial⟩ trivial ?_
        refine G.endOps ?_
        refine G.endBlock ?_
        refine G.region ?_
        refine G.op1 (op_add (Ev.t 40 (bI .i64 v22.1)) (Ev.c _ rfl) rfl) rfl ⟨rfl, trivial⟩ trivial ?_
        refine G.op1 (op_move (Ev.t 49 (bI .i64 (IntKind.wrap .i64 (v22.1 + 1)))) rfl) rfl ⟨rfl, trivial⟩ trivial ?_
        refine G.endOps ?_
        exact G.arr (J23 (IntKind.wrap .i64 (v22.1 + 1), l28) hF) ⟨rfl, rfl, rfl, rfl, rfl, rfl, trivial⟩ ⟨rfl, rfl, rfl, rfl, trivial⟩ rfl
      · refine G.cond rfl (fun hx => by rw [hc26] at hx; cases hx) (fun _ => ?_)
        refine G.exit ?_
        refine GX.c ?_
        refine GX.q ?_
        refine GX.bYes ?_
        exact G.arr (J21 v22.2 hF) ⟨rfl, rfl, rfl, trivial⟩ ⟨rfl, rfl, rfl, rfl, trivial⟩ rfl
    refine G.block ?_
    refine G.keep (sl' := [(1, .one (.ptr 1001 0)), (4, .one (.ptr 1004 0)), (26, .one (.g (.d (.sl 2 (List.map encApi_Range l5))))), (27, .one (bI .i64 (l5.length : Int))), (28, .one (bI .i64 0))]) (hp' := [(1001, some (.blk 44 [.g (.d (.sl 2 (List.map encApi_Range c_0.Ranges))), .g (.d (.sl 1 (List.map encI_i64 c_0.Owners))), .g (.d (.sl 1 (List.map encI_i64 c_0.Parents)))])), (1004, some (.bld 92 5 3004 r4)), (3004, some (.hid true 1004))]) ⟨rfl, rfl, rfl, rfl, rfl, trivial⟩ ⟨rfl, rfl, rfl, trivial⟩ rfl ?_
    refine G.loopF (fun (v30 : Int × ByteArray) => ⟨[(1, .one (.ptr 1001 0)), (4, .one (.ptr 1004 0)), (26, .one (.g (.d (.sl 2 (List.map encApi_Range l5))))), (27, .one (bI .i64 (l5.length : Int))), (28, .one (bI .i64 v30.1))], [(1001, some (.blk 44 [.g (.d (.sl 2 (List.map encApi_Range c_0.Ranges))), .g (.d (.sl 1 (List.map encI_i64 c_0.Owners))), .g (.d (.sl 1 (List.map encI_i64 c_0.Parents)))])), (1004, some (.bld 92 5 3004 v30.2)), (3004, some (.hid true 1004))]⟩) hF rfl (fun K33 again32 v30 J31 hF => ?_)
    unfold wire_RowBytes_l6 at hF
    refine G.seq ?_
    refine G.region ?_
    refine G.op1 (op_lss (Ev.t 28 (bI .i64 v30.1)) (Ev.t 27 (bI .i64 (l5.length : Int))) rfl) rfl ⟨rfl, rfl, trivial⟩ trivial ?_
    refine G.endOps ?_
    refine G.seq ?_
    refine ifS hF (fun hc34 hF => ?_) (fun hc34 hF => ?_)
    · refine G.cond rfl (fun _ => ?_) (fun hx => by rw [hc34] at hx; cases hx)
      refine G.skip ?_
      refine G.seq ?_
      refine G.block ?_
      refine G.seq ?_
      refine G.region ?_
      obtain ⟨x35, hx35, hF⟩ := bindS hF
      refine G.op1 (op_index (cs := [.v (.string x35.From), .v (.string x35.To)]) Try.underlying42 ti88 (idx_ok hx35).1 (idx_get hx35 encApi_Range) (Ev.t 26 (.g (.d (.sl 2 (List.map encApi_Range l5))))) (Ev.t 28 (bI .i64 v30.1)) rfl) rfl ⟨rfl, rfl, trivial⟩ trivial ?_
      refine G.op1 (op_loadAE (ds := [.v (.string x35.From), .v (.string x35.To)]) Try.underlying88 rfl ti88 rfl (Ev.t 30 (.ep [.v (.string x35.From), .v (.string x35.To)])) rfl) rfl ⟨rfl, trivial⟩ trivial ?_
      refine G.op2 (op_alloc (k := 1006) (cs := [bS ByteArray.empty, bS ByteArray.empty]) ti88 ⟨.v _ rfl, .v _ rfl, trivial⟩ rfl) rfl trivial ⟨rfl, trivial⟩ ?_
      refine G.op3 (op_storeA (cs' := [bS x35.From, bS x35.To]) ti88 rfl rfl (Ev.t 6 (.ptr 1006 0)) (Ev.t 31 (.g (.agg [.v (.string x35.From), .v (.string x35.To)])))) rfl ⟨rfl, rfl, trivial⟩ ⟨rfl, trivial⟩ ?_
      refine G.endOps ?_
      refine G.region ?_
      refine G.op1 (op_fieldP (off' := 1) Try.underlying88 rfl ti9 (by decide) rfl (Ev.t 6 (.ptr 1006 0)) rfl) rfl ⟨rfl, trivial⟩ trivial ?_
      refine G.op1 (op_load1P (c := bS x35.To) Try.underlying9 rfl rfl (Ev.t 32 (.ptr 1006 1)) rfl) rfl ⟨rfl, trivial⟩ ⟨rfl, trivial⟩ ?_
      obtain ⟨r36, hr36, hF⟩ := bindS hF
      refine G.op1 (op_callQ (sv := .one (bS r36)) cf32 (ct_vary_Text x35.To r36 hr36) rfl rfl (EvQL.cons (EvQ.g (Ev.t 33 (bS x35.To))) EvQL.nil) rfl) rfl ⟨rfl, trivial⟩ trivial ?_
      obtain ⟨r37, hr37, hF⟩ := bindS hF
      refine G.opM (op_callM (k := 1004) (h := .bld 92 5 v30.2) (h' := .bld 92 5 r37) 3004 (sv := .tup [bI .i64 (r36.size : Int), .g (.d (.v .nilIface))]) cf53 (ct_bld_WriteString v30.2 r36 r37 hr37) rfl rfl (EvM.pt (Ev.t 4 (.ptr 1004 0)) (EvM.g (Ev.t 34 (bS r36)) EvM.nil)) rfl) rfl ⟨rfl, rfl, trivial⟩ ⟨rfl, rfl, trivial⟩ ?_
      refine G.endOps ?_
      refine G.endBlock ?_
      refine G.region ?_
      refine G.op1 (op_add (Ev.t 28 (bI .i64 v30.1)) (Ev.c _ rfl) rfl) rfl ⟨rfl, trivial⟩ trivial ?_
      refine G.op1 (op_move (Ev.t 36 (bI .i64 (IntKind.wrap .i64 (v30.1 + 1)))) rfl) rfl ⟨rfl, trivial⟩ trivial ?_
      refine G.endOps ?_
      exact G.arr (J31 (IntKind.wrap .i64 (v30.1 + 1), r37) hF) ⟨rfl, rfl, rfl, rfl, rfl, trivial⟩ ⟨rfl, rfl, rfl, trivial⟩ rfl
    · refine G.cond rfl (fun hx => by rw [hc34] at hx; cases hx) (fun _ => ?_)
      refine G.exit ?_
      refine GX.c ?_
      refine GX.q ?_
      refine GX.bYes ?_
      exact G.arr (J29 v30.2 hF) ⟨rfl, rfl, trivial⟩ ⟨rfl, rfl, rfl, trivial⟩ rfl


set_option maxRecDepth 20000 in
set_option maxHeartbeats 2000000 in
theorem ct_wire_many (n_0 : Int) (most_1 : Int) (number_2 : Wire_reader) (r : (Wire_reader × (List Int))) (hF : wire_many n_0 most_1 number_2 = some r) : CtB Try.prog 56 43 [.d (.v (.int .i64 n_0)), .d (.v (.int .u64 most_1))] 67 (encWire_reader number_2) (encWire_reader r.1) 3 1 (List.map encI_i64 r.2) := by
  unfold wire_many at hF
  refine CtB.intro Try.func56 rfl Try.ntmps56 rfl (fun M w b => ?_)
  refine G.seq ?_
  refine G.region ?_
  refine G.op1 (op_assign (Ev.n 1) rfl) rfl trivial trivial ?_
  refine G.endOps ?_
  refine G.seq ?_
  refine G.region ?_
  refine G.op2 (op_assignRow (E := 3) (size := 1) (k := 2007) (ex := true) rfl rfl) rfl trivial ⟨rfl, trivial⟩ ?_
  refine G.endOps ?_
  refine G.seq ?_
  refine G.seq ?_
  refine G.region ?_
  refine G.op1 (op_move (Ev.t 0 (bI .i64 n_0)) rfl) rfl ⟨rfl, trivial⟩ trivial ?_
  refine G.op1 (op_move (Ev.c _ rfl) rfl) rfl trivial trivial ?_
  refine G.endOps ?_
  refine G.joinC (T := ByteArray × Int × Bool × (List Int)) (fun y1 => ⟨[(7, .one (.own 2007 (List.map encI_i64 y1.2.2.2)))], [(0, some (.blk 67 [bS y1.1, bI .i64 y1.2.1, bB y1.2.2.1])), (2007, some (.row 3 1 (List.map encI_i64 y1.2.2.2) true))]⟩) (fun y1 => wire_many_k1 y1 = some r) (fun y1 hF => ?_) (fun J2 => ?_)
  · unfold wire_many_k1 at hF
    refine G.seq ?_
    refine G.region ?_
    refine G.op1 (op_move (Ev.t 7 (.own 2007 (List.map encI_i64 y1.2.2.2))) rfl) rfl ⟨rfl, trivial⟩ trivial ?_
    refine G.op1 (op_assign (Ev.t 18 (.own 2007 (List.map encI_i64 y1.2.2.2))) rfl) rfl ⟨rfl, trivial⟩ trivial ?_
    refine G.endOps ?_
    cases hF
    exact G.retB Try.results56 rfl rfl rfl
  refine G.block ?_
  refine G.keep (sl' := [(1, .one (bI .u64 most_1)), (2, .one (.pv 0 (bmV 43))), (7, .one (.own 2007 (List.map encI_i64 ([] : (List Int))))), (8, .one (bI .i64 n_0)), (9, .one (bI .i64 0))]) (hp' := [(0, some (.blk 67 [bS number_2.s, bI .i64 number_2.at_, bB number_2.bad])), (2007, some (.row 3 1 (List.map encI_i64 ([] : (List Int))) true))]) ⟨rfl, rfl, rfl, rfl, rfl, trivial⟩ ⟨rfl, rfl, trivial⟩ rfl ?_
  refine G.loopF (fun (v3 : Int × ByteArray × Int × Bool × (List Int)) => ⟨[(1, .one (bI .u64 most_1)), (2, .one (.pv 0 (bmV 43))), (7, .one (.own 2007 (List.map encI_i64 v3.2.2.2.2))), (8, .one (bI .i64 n_0)), (9, .one (bI .i64 v3.1))], [(0, some (.blk 67 [bS v3.2.1, bI .i64 v3.2.2.1, bB v3.2.2.2.1])), (2007, some (.row 3 1 (List.map encI_i64 v3.2.2.2.2) true))]⟩) hF rfl (fun K6 again5 v3 J4 hF => ?_)
  unfold wire_many_l2 at hF
  refine G.seq ?_
  refine G.region ?_
  refine G.op1 (op_lss (Ev.t 9 (bI .i64 v3.1)) (Ev.t 8 (bI .i64 n_0)) rfl) rfl ⟨rfl, rfl, trivial⟩ trivial ?_
  refine G.endOps ?_
  refine G.seq ?_
  refine ifS hF (fun hc7 hF => ?_) (fun hc7 hF => ?_)
  · refine G.cond rfl (fun _ => ?_) (fun hx => by rw [hc7] at hx; cases hx)
    refine G.skip ?_
    refine G.seq ?_
    refine G.block ?_
    refine G.region ?_
    refine G.op1 (op_move (Ev.t 7 (.own 2007 (List.map encI_i64 v3.2.2.2.2))) rfl) rfl ⟨rfl, trivial⟩ trivial ?_
    refine G.op1 (op_move (Ev.t 2 (.pv 0 (bmV 43))) rfl) rfl ⟨rfl, trivial⟩ trivial ?_
    refine G.op1 (op_move (Ev.t 1 (bI .u64 most_1)) rfl) rfl ⟨rfl, trivial⟩ trivial ?_
    obtain ⟨r8, hr8, hF⟩ := bindS hF
    refine G.opM (op_callBm (k := 0) (h := .dat 67 (encWire_reader (Wire_reader.mk v3.2.1 v3.2.2.1 v3.2.2.2.1))) (h' := .dat 67 (encWire_reader r8.1)) 0 (sv := .one (bI .i64 r8.2)) cf43 (ct_wire_reader_number (Wire_reader.mk v3.2.1 v3.2.2.1 v3.2.2.2.1) most_1 r8 hr8) rfl rfl (EvM.g (Ev.t 13 (bI .u64 most_1)) EvM.nil) rfl) rfl ⟨rfl, rfl, trivial⟩ ⟨rfl, trivial⟩ ?_
    refine G.op1 (op_buildSlice (es := List.map encI_i64 [r8.2]) Try.underlying39 ti3 rfl rfl (EvP.cons (Ev.t 14 (bI .i64 r8.2)) EvP.nil) rfl rfl (by simp [encI_i64]) rfl) rfl ⟨rfl, trivial⟩ trivial ?_
    obtain ⟨l9, hl9, hF⟩ := bindS hF
    refine G.op2 (op_appendO Try.underlying39 ti3 rfl (app_map hl9 encI_i64) (app_b1 hl9 encI_i64) (app_b2 hl9 encI_i64) (Ev.t 11 (.own 2007 (List.map encI_i64 v3.2.2.2.2))) (Ev.t 15 (.g (.d (.sl 1 (List.map encI_i64 ([r8.2])))))) rfl) rfl ⟨rfl, rfl, trivial⟩ ⟨rfl, trivial⟩ ?_
    refine G.op1 (op_assign (Ev.t 16 (.own 2007 (List.map encI_i64 l9))) rfl) rfl ⟨rfl, trivial⟩ trivial ?_
    refine G.endOps ?_
    refine G.endBlock ?_
    refine G.region ?_
    refine G.op1 (op_add (Ev.t 9 (bI .i64 v3.1)) (Ev.c _ rfl) rfl) rfl ⟨rfl, trivial⟩ trivial ?_
    refine G.op1 (op_move (Ev.t 17 (bI .i64 (IntKind.wrap .i64 (v3.1 + 1)))) rfl) rfl ⟨rfl, trivial⟩ trivial ?_
    refine G.endOps ?_
    exact G.arr (J4 (IntKind.wrap .i64 (v3.1 + 1), r8.1.s, r8.1.at_, r8.1.bad, l9) hF) ⟨rfl, rfl, rfl, rfl, rfl, trivial⟩ ⟨rfl, rfl, trivial⟩ rfl
  · refine G.cond rfl (fun hx => by rw [hc7] at hx; cases hx) (fun _ => ?_)
    refine G.exit ?_
    refine GX.c ?_
    refine GX.q ?_
    refine GX.bYes ?_
    exact G.arr (J2 (v3.2.1, v3.2.2.1, v3.2.2.2.1, v3.2.2.2.2) hF) ⟨rfl, trivial⟩ ⟨rfl, rfl, trivial⟩ rfl


set_option maxRecDepth 20000 in
set_option maxHeartbeats 2000000 in
theorem ct_wire_ReadRow (s_0 : ByteArray) (r : (Api_Row × Bool)) (hF : wire_ReadRow s_0 = some r) : Ct Try.prog 21 [.g (.d (.v (.string s_0)))] (.tup [.agg (encApi_Row r.1), .d (.v (.bool r.2))]) := by
  unfold wire_ReadRow at hF
  refine Ct.intro Try.func21 rfl Try.ntmps21 rfl rfl fun M w => ?_
  refine G.seq ?_
  refine G.region ?_
  refine G.op2 (op_alloc (k := 1002) (cs := [.g (.d (.sl 2 (List.map encApi_Range ([] : (List Api_Range))))), .g (.d (.sl 1 (List.map encI_i64 ([] : (List Int))))), .g (.d (.sl 1 (List.map encI_i64 ([] : (List Int)))))]) ti44 ⟨.n 2, .n 1, .n 1, trivial⟩ rfl) rfl trivial ⟨rfl, trivial⟩ ?_
  refine G.op1 (op_assign (Ev.c _ rfl) rfl) rfl trivial trivial ?_
  refine G.endOps ?_
  refine G.seq ?_
  refine G.region ?_
  refine G.op1 (op_move (Ev.t 0 (bS s_0)) rfl) rfl ⟨rfl, trivial⟩ trivial ?_
  refine G.op1 (op_build (zs := [.v (.string ByteArray.empty), .v (.int .i64 0), .v (.bool false)]) (ds := [.v (.string s_0), .v (.int .i64 0), .v (.bool false)]) Try.underlying67 ti67 (pl67 _ Try.underlying67) ⟨.v _ rfl, .v _ rfl, .v _ rfl, trivial⟩ (EvP.cons (Ev.t 10 (bS s_0)) EvP.nil) rfl rfl) rfl ⟨rfl, trivial⟩ trivial ?_
  refine G.op2 (op_boxA (k := 1012) (Ev.t 11 (.g (.agg [.v (.string s_0), .v (.int .i64 0), .v (.bool false)]))) rfl) rfl ⟨rfl, trivial⟩ ⟨rfl, trivial⟩ ?_
  refine G.op1 (op_assign (Ev.t 12 (.ptr 1012 0)) rfl) rfl ⟨rfl, trivial⟩ trivial ?_
  refine G.endOps ?_
  refine G.seq ?_
  refine G.region ?_
  refine G.op1 (op_move (Ev.t 4 (.ptr 1012 0)) rfl) rfl ⟨rfl, trivial⟩ trivial ?_
  obtain ⟨r1, hr1, hF⟩ := bindS hF
  refine G.opM (op_callM (k := 1012) (h := .dat 67 (encWire_reader (Wire_reader.mk s_0 0 false))) (h' := .dat 67 (encWire_reader r1.1)) 0 (sv := .one (bI .i64 r1.2)) cf43 (ct_wire_reader_number (Wire_reader.mk s_0 0 false) 8 r1 hr1) rfl rfl (EvM.pt (Ev.t 13 (.ptr 1012 0)) (EvM.g (Ev.c _ rfl) EvM.nil)) rfl) rfl ⟨rfl, trivial⟩ ⟨rfl, trivial⟩ ?_
  refine G.op1 (op_assign (Ev.t 14 (bI .i64 r1.2)) rfl) rfl ⟨rfl, trivial⟩ trivial ?_
  refine G.endOps ?_
  refine G.seq ?_
  refine G.seq ?_
  refine G.joinC (T := Bool) (fun y2 => ⟨[(2, .one (.ptr 1002 0)), (4, .one (.ptr 1012 0)), (5, .one (bI .i64 r1.2)), (22, .one (bB y2))], [(1002, some (.blk 44 [.g (.d (.sl 2 (List.map encApi_Range ([] : (List Api_Range))))), .g (.d (.sl 1 (List.map encI_i64 ([] : (List Int))))), .g (.d (.sl 1 (List.map encI_i64 ([] : (List Int)))))])), (1012, some (.blk 67 [bS r1.1.s, bI .i64 r1.1.at_, bB r1.1.bad]))]⟩) (fun y2 => wire_ReadRow_k1 r1 y2 = some r) (fun y2 hF => ?_) (fun J38 => ?_)
  · unfold wire_ReadRow_k1 at hF
    refine ifS hF (fun hc3 hF => ?_) (fun hc3 hF => ?_)
    · refine G.cond rfl (fun _ => ?_) (fun hx => by rw [hc3] at hx; cases hx)
      refine G.seq ?_
      refine G.region ?_
      refine G.op1 (op_build (zs := [.sl 2 (List.map encApi_Range ([] : (List Api_Range))), .sl 1 (List.map encI_i64 ([] : (List Int))), .sl 1 (List.map encI_i64 ([] : (List Int)))]) (ds := [.sl 2 (List.map encApi_Range ([] : (List Api_Range))), .sl 1 (List.map encI_i64 ([] : (List Int))), .sl 1 (List.map encI_i64 ([] : (List Int)))]) Try.underlying44 ti44 (pl44 _ Try.underlying44) ⟨.n 2, .n 1, .n 1, trivial⟩ EvP.nil rfl rfl) rfl trivial trivial ?_
      refine G.op3 (op_storeA (cs' := [.g (.d (.sl 2 (List.map encApi_Range ([] : (List Api_Range))))), .g (.d (.sl 1 (List.map encI_i64 ([] : (List Int))))), .g (.d (.sl 1 (List.map encI_i64 ([] : (List Int)))))]) ti44 rfl rfl (Ev.t 2 (.ptr 1002 0)) (Ev.t 23 (.g (.agg [.sl 2 (List.map encApi_Range ([] : (List Api_Range))), .sl 1 (List.map encI_i64 ([] : (List Int))), .sl 1 (List.map encI_i64 ([] : (List Int)))])))) rfl ⟨rfl, rfl, trivial⟩ ⟨rfl, trivial⟩ ?_
      refine G.op1 (op_assign (Ev.c _ rfl) rfl) rfl trivial trivial ?_
      refine G.endOps ?_
      cases hF
      exact G.ret2 Try.results21 (RVar.cellA (ds := [.sl 2 (List.map encApi_Range ([] : (List Api_Range))), .sl 1 (List.map encI_i64 ([] : (List Int))), .sl 1 (List.map encI_i64 ([] : (List Int)))]) Try.underlying44 rfl ti44 rfl) (RVar.tmp 3 _) ⟨rfl, rfl, trivial⟩ ⟨rfl, trivial⟩
    · refine G.cond rfl (fun hx => by rw [hc3] at hx; cases hx) (fun _ => ?_)
      refine G.skip ?_
      refine G.seq ?_
      refine G.region ?_
      refine G.op2 (op_alloc (k := 1006) (cs := [.g (.d (.v (.slice none 0 0))), .g (.d (.sl 1 (List.map encI_i64 ([] : (List Int))))), .g (.d (.sl 1 (List.map encI_i64 ([] : (List Int)))))]) ti44 ⟨.v _ rfl, .n 1, .n 1, trivial⟩ rfl) rfl trivial ⟨rfl, trivial⟩ ?_
      refine G.rowCell (kb := 1006) (kk := 5096) (E := 88) (size := 2) (j := 0) (cs' := [.own 5096 (List.map encApi_Range ([] : List Api_Range)), .g (.d (.sl 1 (List.map encI_i64 ([] : (List Int))))), .g (.d (.sl 1 (List.map encI_i64 ([] : (List Int)))))]) rfl rfl rfl rfl rfl rfl ?_
      refine G.endOps ?_
      refine G.seq ?_
      refine G.region ?_
      refine G.op1 (op_assign (Ev.c _ rfl) rfl) rfl trivial trivial ?_
      refine G.endOps ?_
      refine G.seq ?_
      refine G.seq ?_
      refine G.region ?_
      refine G.op1 (op_move (Ev.t 5 (bI .i64 r1.2)) rfl) rfl ⟨rfl, trivial⟩ trivial ?_
      refine G.op1 (op_sub (Ev.t 24 (bI .i64 r1.2)) (Ev.c _ rfl) rfl) rfl ⟨rfl, trivial⟩ trivial ?_
      refine G.op1 (op_move (Ev.c _ rfl) rfl) rfl trivial trivial ?_
      refine G.endOps ?_
      refine G.joinC (T := ByteArray × ByteArray × Int × Bool × (List Api_Range)) (fun y4 => ⟨[(2, .one (.ptr 1002 0)), (4, .one (.ptr 1012 0)), (5, .one (bI .i64 r1.2)), (6, .one (.ptr 1006 0)), (7, .one (bS y4.1))], [(1002, some (.blk 44 [.g (.d (.sl 2 (List.map encApi_Range ([] : (List Api_Range))))), .g (.d (.sl 1 (List.map encI_i64 ([] : (List Int))))), .g (.d (.sl 1 (List.map encI_i64 ([] : (List Int)))))])), (1006, some (.blk 44 [.own 5096 (List.map encApi_Range y4.2.2.2.2), .g (.d (.sl 1 (List.map encI_i64 ([] : (List Int))))), .g (.d (.sl 1 (List.map encI_i64 ([] : (List Int)))))])), (1012, some (.blk 67 [bS y4.2.1, bI .i64 y4.2.2.1, bB y4.2.2.2.1])), (5096, some (.row 88 2 (List.map encApi_Range y4.2.2.2.2) false))]⟩) (fun y4 => wire_ReadRow_k2 r1 y4 = some r) (fun y4 hF => ?_) (fun J26 => ?_)
      · unfold wire_ReadRow_k2 at hF
        refine G.seq ?_
        refine G.region ?_
        refine G.op1 (op_fieldP (off' := 0) Try.underlying44 rfl ti42 (by decide) rfl (Ev.t 6 (.ptr 1006 0)) rfl) rfl ⟨rfl, trivial⟩ trivial ?_
        refine G.op1 (op_load1P (c := .own 5096 (List.map encApi_Range y4.2.2.2.2)) Try.underlying42 rfl rfl (Ev.t 49 (.ptr 1006 0)) rfl) rfl ⟨rfl, trivial⟩ ⟨rfl, trivial⟩ ?_
        refine G.op1 (op_move (Ev.t 7 (bS y4.1)) rfl) rfl ⟨rfl, trivial⟩ trivial ?_
        refine G.op1 (op_build (zs := [.v (.string ByteArray.empty), .v (.string ByteArray.empty)]) (ds := [.v (.string y4.1), .v (.string ByteArray.empty)]) Try.underlying88 ti88 (pl88 _ Try.underlying88) ⟨.v _ rfl, .v _ rfl, trivial⟩ (EvP.cons (Ev.t 51 (bS y4.1)) EvP.nil) rfl rfl) rfl ⟨rfl, trivial⟩ trivial ?_
        refine G.op1 (op_buildSlice (es := List.map encApi_Range [(Api_Range.mk y4.1 ByteArray.empty)]) Try.underlying42 ti88 rfl rfl (EvP.cons (Ev.t 52 (.g (.agg [.v (.string y4.1), .v (.string ByteArray.empty)]))) EvP.nil) rfl rfl (by simp [encApi_Range]) rfl) rfl ⟨rfl, trivial⟩ trivial ?_
        obtain ⟨l5, hl5, hF⟩ := bindS hF
        refine G.op2 (op_appendO Try.underlying42 ti88 rfl (app_map hl5 encApi_Range) (app_b1 hl5 encApi_Range) (app_b2 hl5 encApi_Range) (Ev.t 50 (.own 5096 (List.map encApi_Range y4.2.2.2.2))) (Ev.t 53 (.g (.d (.sl 2 (List.map encApi_Range ([(Api_Range.mk y4.1 ByteArray.empty)])))))) rfl) rfl ⟨rfl, rfl, trivial⟩ ⟨rfl, trivial⟩ ?_
        refine G.op1 (op_fieldP (off' := 0) Try.underlying44 rfl ti42 (by decide) rfl (Ev.t 6 (.ptr 1006 0)) rfl) rfl ⟨rfl, trivial⟩ trivial ?_
        refine G.op3 (op_storeO (cs' := [.own 5096 (List.map encApi_Range l5), .g (.d (.sl 1 (List.map encI_i64 ([] : (List Int))))), .g (.d (.sl 1 (List.map encI_i64 ([] : (List Int)))))]) ti42 rfl rfl rfl (Ev.t 55 (.ptr 1006 0)) (Ev.t 54 (.own 5096 (List.map encApi_Range l5)))) rfl ⟨rfl, rfl, trivial⟩ ⟨rfl, rfl, trivial⟩ ?_
        refine G.endOps ?_
        refine G.seq ?_
        refine G.region ?_
        refine G.op1 (op_move (Ev.t 5 (bI .i64 r1.2)) rfl) rfl ⟨rfl, trivial⟩ trivial ?_
        refine G.op1 (op_move (Ev.t 4 (.ptr 1012 0)) rfl) rfl ⟨rfl, trivial⟩ trivial ?_
        refine G.op1 (op_makeBm (Ev.t 57 (.ptr 1012 0)) rfl) rfl ⟨rfl, trivial⟩ trivial ?_
        obtain ⟨r6, hr6, hF⟩ := bindS hF
        refine G.opM (op_callB (kk := 4059) cf56 (ct_wire_many r1.2 63 (Wire_reader.mk y4.2.1 y4.2.2.1 y4.2.2.2.1) r6 hr6) (EvL.cons (Ev.t 56 (bI .i64 r1.2)) (EvL.cons (Ev.c _ rfl) EvL.nil)) (Ev.t 58 (.pv 1012 (bmV 43))) rfl rfl rfl) rfl ⟨rfl, rfl, trivial⟩ ⟨rfl, rfl, trivial⟩ ?_
        refine G.op1 (op_fieldP (off' := 1) Try.underlying44 rfl ti39 (by decide) rfl (Ev.t 6 (.ptr 1006 0)) rfl) rfl ⟨rfl, trivial⟩ trivial ?_
        refine G.op3 (op_storeO (cs' := [.own 5096 (List.map encApi_Range l5), .own 4059 (List.map encI_i64 r6.2), .g (.d (.sl 1 (List.map encI_i64 ([] : (List Int)))))]) ti39 rfl rfl rfl (Ev.t 60 (.ptr 1006 1)) (Ev.t 59 (.own 4059 (List.map encI_i64 r6.2)))) rfl ⟨rfl, rfl, trivial⟩ ⟨rfl, rfl, trivial⟩ ?_
        refine G.endOps ?_
        refine G.seq ?_
        refine G.seq ?_
        refine G.region ?_
        refine G.op1 (op_move (Ev.t 4 (.ptr 1012 0)) rfl) rfl ⟨rfl, trivial⟩ trivial ?_
        refine G.op1 (op_nilCheckP (Ev.t 61 (.ptr 1012 0)) rfl) rfl ⟨rfl, trivial⟩ trivial ?_
        refine G.op1 (op_fieldP (off' := 2) Try.underlying67 rfl ti4 (by decide) rfl (Ev.t 62 (.ptr 1012 0)) rfl) rfl ⟨rfl, trivial⟩ trivial ?_
        refine G.op1 (op_load1P (c := bB r6.1.bad) Try.underlying4 rfl rfl (Ev.t 63 (.ptr 1012 2)) rfl) rfl ⟨rfl, trivial⟩ ⟨rfl, trivial⟩ ?_
        refine G.endOps ?_
        refine ifS hF (fun hc7 hF => ?_) (fun hc7 hF => ?_)
        · refine G.cond rfl (fun _ => ?_) (fun hx => by rw [hc7] at hx; cases hx)
          refine G.seq ?_
          refine G.region ?_
          refine G.op1 (op_build (zs := [.sl 2 (List.map encApi_Range ([] : (List Api_Range))), .sl 1 (List.map encI_i64 ([] : (List Int))), .sl 1 (List.map encI_i64 ([] : (List Int)))]) (ds := [.sl 2 (List.map encApi_Range ([] : (List Api_Range))), .sl 1 (List.map encI_i64 ([] : (List Int))), .sl 1 (List.map encI_i64 ([] : (List Int)))]) Try.underlying44 ti44 (pl44 _ Try.underlying44) ⟨.n 2, .n 1, .n 1, trivial⟩ EvP.nil rfl rfl) rfl trivial trivial ?_
          refine G.op3 (op_storeA (cs' := [.g (.d (.sl 2 (List.map encApi_Range ([] : (List Api_Range))))), .g (.d (.sl 1 (List.map encI_i64 ([] : (List Int))))), .g (.d (.sl 1 (List.map encI_i64 ([] : (List Int)))))]) ti44 rfl rfl (Ev.t 2 (.ptr 1002 0)) (Ev.t 65 (.g (.agg [.sl 2 (List.map encApi_Range ([] : (List Api_Range))), .sl 1 (List.map encI_i64 ([] : (List Int))), .sl 1 (List.map encI_i64 ([] : (List Int)))])))) rfl ⟨rfl, rfl, trivial⟩ ⟨rfl, trivial⟩ ?_
          refine G.op1 (op_assign (Ev.c _ rfl) rfl) rfl trivial trivial ?_
          refine G.endOps ?_
          cases hF
          exact G.ret2 Try.results21 (RVar.cellA (ds := [.sl 2 (List.map encApi_Range ([] : (List Api_Range))), .sl 1 (List.map encI_i64 ([] : (List Int))), .sl 1 (List.map encI_i64 ([] : (List Int)))]) Try.underlying44 rfl ti44 rfl) (RVar.tmp 3 _) ⟨rfl, rfl, trivial⟩ ⟨rfl, trivial⟩
        · refine G.cond rfl (fun hx => by rw [hc7] at hx; cases hx) (fun _ => ?_)
          refine G.skip ?_
          refine G.seq ?_
          refine G.region ?_
          refine G.op1 (op_move (Ev.t 4 (.ptr 1012 0)) rfl) rfl ⟨rfl, trivial⟩ trivial ?_
          obtain ⟨r8, hr8, hF⟩ := bindS hF
          refine G.opM (op_callM (k := 1012) (h := .dat 67 (encWire_reader r6.1)) (h' := .dat 67 (encWire_reader r8.1)) 0 (sv := .one (bI .i64 r8.2)) cf43 (ct_wire_reader_number r6.1 6 r8 hr8) rfl rfl (EvM.pt (Ev.t 66 (.ptr 1012 0)) (EvM.g (Ev.c _ rfl) EvM.nil)) rfl) rfl ⟨rfl, trivial⟩ ⟨rfl, trivial⟩ ?_
          refine G.op1 (op_move (Ev.t 4 (.ptr 1012 0)) rfl) rfl ⟨rfl, trivial⟩ trivial ?_
          refine G.op1 (op_makeBm (Ev.t 68 (.ptr 1012 0)) rfl) rfl ⟨rfl, trivial⟩ trivial ?_
          obtain ⟨r9, hr9, hF⟩ := bindS hF
          refine G.opM (op_callB (kk := 4070) cf56 (ct_wire_many r8.2 6 r8.1 r9 hr9) (EvL.cons (Ev.t 67 (bI .i64 r8.2)) (EvL.cons (Ev.c _ rfl) EvL.nil)) (Ev.t 69 (.pv 1012 (bmV 43))) rfl rfl rfl) rfl ⟨rfl, rfl, trivial⟩ ⟨rfl, rfl, trivial⟩ ?_
          refine G.op1 (op_fieldP (off' := 2) Try.underlying44 rfl ti39 (by decide) rfl (Ev.t 6 (.ptr 1006 0)) rfl) rfl ⟨rfl, trivial⟩ trivial ?_
          refine G.op3 (op_storeO (cs' := [.own 5096 (List.map encApi_Range l5), .own 4059 (List.map encI_i64 r6.2), .own 4070 (List.map encI_i64 r9.2)]) ti39 rfl rfl rfl (Ev.t 71 (.ptr 1006 2)) (Ev.t 70 (.own 4070 (List.map encI_i64 r9.2)))) rfl ⟨rfl, rfl, trivial⟩ ⟨rfl, rfl, trivial⟩ ?_
          refine G.endOps ?_
          refine G.seq ?_
          refine G.seq ?_
          refine G.region ?_
          refine G.op1 (op_fieldP (off' := 2) Try.underlying44 rfl ti39 (by decide) rfl (Ev.t 6 (.ptr 1006 0)) rfl) rfl ⟨rfl, trivial⟩ trivial ?_
          refine G.op1 (op_load1P (c := .own 4070 (List.map encI_i64 r9.2)) Try.underlying39 rfl rfl (Ev.t 72 (.ptr 1006 2)) rfl) rfl ⟨rfl, trivial⟩ ⟨rfl, trivial⟩ ?_
          refine G.op1 (OpL.cast (op_lenO Try.underlying39 (Ev.t 73 (.own 4070 (List.map encI_i64 r9.2))) rfl) (by rw [List.length_map])) rfl ⟨rfl, trivial⟩ ⟨rfl, trivial⟩ ?_
          refine G.op1 (op_move (Ev.c _ rfl) rfl) rfl trivial trivial ?_
          refine G.endOps ?_
          refine G.joinC (T := (List Int)) (fun y10 => ⟨[(2, .one (.ptr 1002 0)), (4, .one (.ptr 1012 0)), (6, .one (.ptr 1006 0))], [(1002, some (.blk 44 [.g (.d (.sl 2 (List.map encApi_Range ([] : (List Api_Range))))), .g (.d (.sl 1 (List.map encI_i64 ([] : (List Int))))), .g (.d (.sl 1 (List.map encI_i64 ([] : (List Int)))))])), (1006, some (.blk 44 [.own 5096 (List.map encApi_Range l5), .own 4059 (List.map encI_i64 r6.2), .own 4070 (List.map encI_i64 y10)])), (1012, some (.blk 67 [bS r9.1.s, bI .i64 r9.1.at_, bB r9.1.bad])), (4059, some (.row 3 1 (List.map encI_i64 r6.2) true)), (4070, some (.row 3 1 (List.map encI_i64 y10) true)), (5096, some (.row 88 2 (List.map encApi_Range l5) false))]⟩) (fun y10 => wire_ReadRow_k3 l5 r6 r9 y10 = some r) (fun y10 hF => ?_) (fun J17 => ?_)
          · unfold wire_ReadRow_k3 at hF
            refine G.seq ?_
            refine G.seq ?_
            refine G.joinC (T := Bool × (List Api_Range) × (List Int) × (List Int)) (fun y11 => ⟨[(2, .one (.ptr 1002 0)), (6, .one (.ptr 1006 0)), (93, .one (bB y11.1))], [(1002, some (.blk 44 [.g (.d (.sl 2 (List.map encApi_Range ([] : (List Api_Range))))), .g (.d (.sl 1 (List.map encI_i64 ([] : (List Int))))), .g (.d (.sl 1 (List.map encI_i64 ([] : (List Int)))))])), (1006, some (.blk 44 [.g (.d (.sl 2 (List.map encApi_Range y11.2.1))), .g (.d (.sl 1 (List.map encI_i64 y11.2.2.1))), .g (.d (.sl 1 (List.map encI_i64 y11.2.2.2)))]))]⟩) (fun y11 => wire_ReadRow_k4 y11 = some r) (fun y11 hF => ?_) (fun J13 => ?_)
            · unfold wire_ReadRow_k4 at hF
              refine ifS hF (fun hc12 hF => ?_) (fun hc12 hF => ?_)
              · refine G.cond rfl (fun _ => ?_) (fun hx => by rw [hc12] at hx; cases hx)
                refine G.seq ?_
                refine G.region ?_
                refine G.op1 (op_build (zs := [.sl 2 (List.map encApi_Range ([] : (List Api_Range))), .sl 1 (List.map encI_i64 ([] : (List Int))), .sl 1 (List.map encI_i64 ([] : (List Int)))]) (ds := [.sl 2 (List.map encApi_Range ([] : (List Api_Range))), .sl 1 (List.map encI_i64 ([] : (List Int))), .sl 1 (List.map encI_i64 ([] : (List Int)))]) Try.underlying44 ti44 (pl44 _ Try.underlying44) ⟨.n 2, .n 1, .n 1, trivial⟩ EvP.nil rfl rfl) rfl trivial trivial ?_
                refine G.op3 (op_storeA (cs' := [.g (.d (.sl 2 (List.map encApi_Range ([] : (List Api_Range))))), .g (.d (.sl 1 (List.map encI_i64 ([] : (List Int))))), .g (.d (.sl 1 (List.map encI_i64 ([] : (List Int)))))]) ti44 rfl rfl (Ev.t 2 (.ptr 1002 0)) (Ev.t 94 (.g (.agg [.sl 2 (List.map encApi_Range ([] : (List Api_Range))), .sl 1 (List.map encI_i64 ([] : (List Int))), .sl 1 (List.map encI_i64 ([] : (List Int)))])))) rfl ⟨rfl, rfl, trivial⟩ ⟨rfl, trivial⟩ ?_
                refine G.op1 (op_assign (Ev.c _ rfl) rfl) rfl trivial trivial ?_
                refine G.endOps ?_
                cases hF
                exact G.ret2 Try.results21 (RVar.cellA (ds := [.sl 2 (List.map encApi_Range ([] : (List Api_Range))), .sl 1 (List.map encI_i64 ([] : (List Int))), .sl 1 (List.map encI_i64 ([] : (List Int)))]) Try.underlying44 rfl ti44 rfl) (RVar.tmp 3 _) ⟨rfl, rfl, trivial⟩ ⟨rfl, trivial⟩
              · refine G.cond rfl (fun hx => by rw [hc12] at hx; cases hx) (fun _ => ?_)
                refine G.skip ?_
                refine G.seq ?_
                refine G.region ?_
                refine G.op1 (op_loadAP (ds := [.sl 2 (List.map encApi_Range y11.2.1), .sl 1 (List.map encI_i64 y11.2.2.1), .sl 1 (List.map encI_i64 y11.2.2.2)]) Try.underlying44 rfl ti44 rfl (Ev.t 6 (.ptr 1006 0)) rfl) rfl ⟨rfl, trivial⟩ ⟨rfl, trivial⟩ ?_
                refine G.op3 (op_storeA (cs' := [.g (.d (.sl 2 (List.map encApi_Range y11.2.1))), .g (.d (.sl 1 (List.map encI_i64 y11.2.2.1))), .g (.d (.sl 1 (List.map encI_i64 y11.2.2.2)))]) ti44 rfl rfl (Ev.t 2 (.ptr 1002 0)) (Ev.t 95 (.g (.agg [.sl 2 (List.map encApi_Range y11.2.1), .sl 1 (List.map encI_i64 y11.2.2.1), .sl 1 (List.map encI_i64 y11.2.2.2)])))) rfl ⟨rfl, rfl, trivial⟩ ⟨rfl, trivial⟩ ?_
                refine G.op1 (op_assign (Ev.c _ rfl) rfl) rfl trivial trivial ?_
                refine G.endOps ?_
                cases hF
                exact G.ret2 Try.results21 (RVar.cellA (ds := [.sl 2 (List.map encApi_Range y11.2.1), .sl 1 (List.map encI_i64 y11.2.2.1), .sl 1 (List.map encI_i64 y11.2.2.2)]) Try.underlying44 rfl ti44 rfl) (RVar.tmp 3 _) ⟨rfl, rfl, trivial⟩ ⟨rfl, trivial⟩
            refine G.region ?_
            refine G.op1 (op_move (Ev.t 4 (.ptr 1012 0)) rfl) rfl ⟨rfl, trivial⟩ trivial ?_
            obtain ⟨r14, hr14, hF⟩ := bindS hF
            refine G.opM (op_callM (k := 1012) (h := .dat 67 (encWire_reader r9.1)) (h' := .dat 67 (encWire_reader r14.1)) 0 (sv := .one (bB r14.2)) cf47 (ct_wire_reader_done r9.1 r14 hr14) rfl rfl (EvM.pt (Ev.t 86 (.ptr 1012 0)) EvM.nil) rfl) rfl ⟨rfl, trivial⟩ ⟨rfl, trivial⟩ ?_
            refine G.op1 (op_not (Ev.t 87 (bB r14.2)) rfl) rfl ⟨rfl, trivial⟩ trivial ?_
            refine G.op1 (op_move (Ev.t 88 (bB (!r14.2))) rfl) rfl ⟨rfl, trivial⟩ trivial ?_
            refine ifS hF (fun hc15 hF => ?_) (fun hc15 hF => ?_)
            · refine G.known (t := 89) hc15 rfl ?_
              refine G.opN1 rfl rfl rfl rfl rfl ?_
              refine G.opN1 rfl rfl rfl rfl rfl ?_
              refine G.opN1 rfl rfl rfl rfl rfl ?_
              refine G.op1 (op_pickT (Ev.t 89 (bB true)) (Ev.c _ rfl) rfl) rfl ⟨rfl, trivial⟩ trivial ?_
              refine G.endOps ?_
              refine G.viewCell (kb := 1006) (j := 0) (cs' := [.g (.d (.sl 2 (List.map encApi_Range l5))), .own 4059 (List.map encI_i64 r6.2), .own 4070 (List.map encI_i64 y10)]) rfl rfl rfl rfl ?_
              refine G.share (k' := 4059) rfl ?_
              refine G.viewCell (kb := 1006) (j := 1) (cs' := [.g (.d (.sl 2 (List.map encApi_Range l5))), .g (.d (.sl 1 (List.map encI_i64 r6.2))), .own 4070 (List.map encI_i64 y10)]) rfl rfl rfl rfl ?_
              refine G.share (k' := 4070) rfl ?_
              refine G.viewCell (kb := 1006) (j := 2) (cs' := [.g (.d (.sl 2 (List.map encApi_Range l5))), .g (.d (.sl 1 (List.map encI_i64 r6.2))), .g (.d (.sl 1 (List.map encI_i64 y10)))]) rfl rfl rfl rfl ?_
              exact G.arr (J13 (true, l5, r6.2, y10) hF) ⟨rfl, rfl, rfl, trivial⟩ ⟨rfl, rfl, trivial⟩ rfl
            · refine G.known (t := 89) hc15 rfl ?_
              refine G.viewCell (kb := 1006) (j := 0) (cs' := [.g (.d (.sl 2 (List.map encApi_Range l5))), .own 4059 (List.map encI_i64 r6.2), .own 4070 (List.map encI_i64 y10)]) rfl rfl rfl rfl ?_
              refine G.share (k' := 4059) rfl ?_
              refine G.viewCell (kb := 1006) (j := 1) (cs' := [.g (.d (.sl 2 (List.map encApi_Range l5))), .g (.d (.sl 1 (List.map encI_i64 r6.2))), .own 4070 (List.map encI_i64 y10)]) rfl rfl rfl rfl ?_
              refine G.share (k' := 4070) rfl ?_
              refine G.viewCell (kb := 1006) (j := 2) (cs' := [.g (.d (.sl 2 (List.map encApi_Range l5))), .g (.d (.sl 1 (List.map encI_i64 r6.2))), .g (.d (.sl 1 (List.map encI_i64 y10)))]) rfl rfl rfl rfl ?_
              refine G.opG1 (op_loadAP (ds := [.sl 2 (List.map encApi_Range l5), .sl 1 (List.map encI_i64 r6.2), .sl 1 (List.map encI_i64 y10)]) Try.underlying44 rfl ti44 rfl (Ev.t 6 (.ptr 1006 0)) rfl) rfl rfl rfl ⟨rfl, trivial⟩ ⟨rfl, trivial⟩ ?_
              obtain ⟨r16, hr16, hF⟩ := bindS hF
              refine G.opG1 (op_callQ (sv := .one (bB r16)) cf52 (ct_wire_written (Api_Row.mk l5 r6.2 y10) r16 hr16) rfl rfl (EvQL.cons (EvQ.g (Ev.t 90 (.g (.agg [.sl 2 (List.map encApi_Range l5), .sl 1 (List.map encI_i64 r6.2), .sl 1 (List.map encI_i64 y10)])))) EvQL.nil) rfl) rfl rfl rfl ⟨rfl, trivial⟩ trivial ?_
              refine G.opG1 (op_not (Ev.t 91 (bB r16)) rfl) rfl rfl rfl ⟨rfl, trivial⟩ trivial ?_
              refine G.op1 (op_pickF (Ev.t 89 (bB false)) (Ev.t 92 (bB (!r16))) rfl) rfl ⟨rfl, rfl, trivial⟩ trivial ?_
              refine G.endOps ?_
              exact G.arr (J13 (!r16, l5, r6.2, y10) hF) ⟨rfl, rfl, rfl, trivial⟩ ⟨rfl, rfl, trivial⟩ rfl
          refine G.block ?_
          refine G.keep (sl' := [(2, .one (.ptr 1002 0)), (4, .one (.ptr 1012 0)), (6, .one (.ptr 1006 0)), (74, .one (bI .i64 (r9.2.length : Int))), (75, .one (bI .i64 0))]) (hp' := [(1002, some (.blk 44 [.g (.d (.sl 2 (List.map encApi_Range ([] : (List Api_Range))))), .g (.d (.sl 1 (List.map encI_i64 ([] : (List Int))))), .g (.d (.sl 1 (List.map encI_i64 ([] : (List Int)))))])), (1006, some (.blk 44 [.own 5096 (List.map encApi_Range l5), .own 4059 (List.map encI_i64 r6.2), .own 4070 (List.map encI_i64 r9.2)])), (1012, some (.blk 67 [bS r9.1.s, bI .i64 r9.1.at_, bB r9.1.bad])), (4059, some (.row 3 1 (List.map encI_i64 r6.2) true)), (4070, some (.row 3 1 (List.map encI_i64 r9.2) true)), (5096, some (.row 88 2 (List.map encApi_Range l5) false))]) ⟨rfl, rfl, rfl, rfl, rfl, trivial⟩ ⟨rfl, rfl, rfl, rfl, rfl, rfl, trivial⟩ rfl ?_
          refine G.loopF (fun (v18 : Int × (List Int)) => ⟨[(2, .one (.ptr 1002 0)), (4, .one (.ptr 1012 0)), (6, .one (.ptr 1006 0)), (74, .one (bI .i64 (r9.2.length : Int))), (75, .one (bI .i64 v18.1))], [(1002, some (.blk 44 [.g (.d (.sl 2 (List.map encApi_Range ([] : (List Api_Range))))), .g (.d (.sl 1 (List.map encI_i64 ([] : (List Int))))), .g (.d (.sl 1 (List.map encI_i64 ([] : (List Int)))))])), (1006, some (.blk 44 [.own 5096 (List.map encApi_Range l5), .own 4059 (List.map encI_i64 r6.2), .own 4070 (List.map encI_i64 v18.2)])), (1012, some (.blk 67 [bS r9.1.s, bI .i64 r9.1.at_, bB r9.1.bad])), (4059, some (.row 3 1 (List.map encI_i64 r6.2) true)), (4070, some (.row 3 1 (List.map encI_i64 v18.2) true)), (5096, some (.row 88 2 (List.map encApi_Range l5) false))]⟩) hF rfl (fun K21 again20 v18 J19 hF => ?_)
          unfold wire_ReadRow_l5 at hF
          refine G.seq ?_
          refine G.region ?_
          refine G.op1 (op_lss (Ev.t 75 (bI .i64 v18.1)) (Ev.t 74 (bI .i64 (r9.2.length : Int))) rfl) rfl ⟨rfl, rfl, trivial⟩ trivial ?_
          refine G.endOps ?_
          refine G.seq ?_
          refine ifS hF (fun hc22 hF => ?_) (fun hc22 hF => ?_)
          · refine G.cond rfl (fun _ => ?_) (fun hx => by rw [hc22] at hx; cases hx)
            refine G.skip ?_
            refine G.seq ?_
            refine G.block ?_
            refine G.seq ?_
            refine G.region ?_
            refine G.op1 (op_move (Ev.t 75 (bI .i64 v18.1)) rfl) rfl ⟨rfl, trivial⟩ trivial ?_
            refine G.op1 (op_assign (Ev.t 77 (bI .i64 v18.1)) rfl) rfl ⟨rfl, trivial⟩ trivial ?_
            refine G.endOps ?_
            refine G.region ?_
            refine G.op1 (op_fieldP (off' := 2) Try.underlying44 rfl ti39 (by decide) rfl (Ev.t 6 (.ptr 1006 0)) rfl) rfl ⟨rfl, trivial⟩ trivial ?_
            refine G.op1 (op_load1P (c := .own 4070 (List.map encI_i64 v18.2)) Try.underlying39 rfl rfl (Ev.t 78 (.ptr 1006 2)) rfl) rfl ⟨rfl, trivial⟩ ⟨rfl, trivial⟩ ?_
            refine G.op1 (op_move (Ev.t 9 (bI .i64 v18.1)) rfl) rfl ⟨rfl, trivial⟩ trivial ?_
            obtain ⟨x23, hx23, hF⟩ := bindS hF
            refine G.op1 (op_indexR (cs := [.v (.int .i64 x23)]) Try.underlying39 ti3 (idx_ok hx23).1 (idx_get hx23 encI_i64) (Ev.t 79 (.own 4070 (List.map encI_i64 v18.2))) (Ev.t 80 (bI .i64 v18.1)) rfl) rfl ⟨rfl, rfl, trivial⟩ ⟨rfl, trivial⟩ ?_
            refine G.op1 (op_loadR1 (i := Int.toNat v18.1) (f := 0) (size := 1) (cs := [.v (.int .i64 x23)]) Try.underlying3 rfl (idx_get hx23 encI_i64) rfl (Ev.t 81 (.rp 4070 (List.map encI_i64 v18.2) (Int.toNat v18.1 * 1 + 0))) rfl) rfl ⟨rfl, trivial⟩ ⟨rfl, trivial⟩ ?_
            refine G.op1 (op_sub (Ev.t 82 (bI .i64 x23)) (Ev.c _ rfl) rfl) rfl ⟨rfl, trivial⟩ trivial ?_
            obtain ⟨x24, hx24, hF⟩ := bindS hF
            refine G.op1 (op_indexR (cs := [.v (.int .i64 x24)]) Try.underlying39 ti3 (idx_ok hx24).1 (idx_get hx24 encI_i64) (Ev.t 79 (.own 4070 (List.map encI_i64 v18.2))) (Ev.t 80 (bI .i64 v18.1)) rfl) rfl ⟨rfl, rfl, trivial⟩ ⟨rfl, trivial⟩ ?_
            obtain ⟨l25, hl25, hF⟩ := bindS hF
            refine G.op3 (op_storeR1 (i := Int.toNat v18.1) (f := 0) (size := 1) (cs := [.v (.int .i64 x24)]) (cs' := [.v (.int .i64 (IntKind.wrap .i64 (x23 - 1)))]) (d := .v (.int .i64 (IntKind.wrap .i64 (x23 - 1)))) ti3 (idx_get hx24 encI_i64) rfl rfl (sets_ok hl25 encI_i64).2.2 (Ev.t 84 (.rp 4070 (List.map encI_i64 v18.2) (Int.toNat v18.1 * 1 + 0))) (Ev.t 83 (bI .i64 (IntKind.wrap .i64 (x23 - 1))))) rfl ⟨rfl, rfl, trivial⟩ ⟨rfl, trivial⟩ ?_
            refine G.renew (t := 79) rfl rfl (sets_len hl25 encI_i64) ?_
            refine G.renewCell (kb := 1006) (j := 2) (cs' := [.own 5096 (List.map encApi_Range l5), .own 4059 (List.map encI_i64 r6.2), .own 4070 (List.map encI_i64 l25)]) rfl rfl rfl (sets_len hl25 encI_i64) rfl ?_
            refine G.endOps ?_
            refine G.endBlock ?_
            refine G.region ?_
            refine G.op1 (op_add (Ev.t 75 (bI .i64 v18.1)) (Ev.c _ rfl) rfl) rfl ⟨rfl, trivial⟩ trivial ?_
            refine G.op1 (op_move (Ev.t 85 (bI .i64 (IntKind.wrap .i64 (v18.1 + 1)))) rfl) rfl ⟨rfl, trivial⟩ trivial ?_
            refine G.endOps ?_
            exact G.arr (J19 (IntKind.wrap .i64 (v18.1 + 1), l25) hF) ⟨rfl, rfl, rfl, rfl, rfl, trivial⟩ ⟨rfl, rfl, rfl, rfl, rfl, rfl, trivial⟩ rfl
          · refine G.cond rfl (fun hx => by rw [hc22] at hx; cases hx) (fun _ => ?_)
            refine G.exit ?_
            refine GX.c ?_
            refine GX.q ?_
            refine GX.bYes ?_
            exact G.arr (J17 v18.2 hF) ⟨rfl, rfl, rfl, trivial⟩ ⟨rfl, rfl, rfl, rfl, rfl, rfl, trivial⟩ rfl
      refine G.block ?_
      refine G.keep (sl' := [(2, .one (.ptr 1002 0)), (4, .one (.ptr 1012 0)), (5, .one (bI .i64 r1.2)), (6, .one (.ptr 1006 0)), (7, .one (bS ByteArray.empty)), (25, .one (bI .i64 (IntKind.wrap .i64 (r1.2 - 1)))), (26, .one (bI .i64 0))]) (hp' := [(1002, some (.blk 44 [.g (.d (.sl 2 (List.map encApi_Range ([] : (List Api_Range))))), .g (.d (.sl 1 (List.map encI_i64 ([] : (List Int))))), .g (.d (.sl 1 (List.map encI_i64 ([] : (List Int)))))])), (1006, some (.blk 44 [.own 5096 (List.map encApi_Range ([] : List Api_Range)), .g (.d (.sl 1 (List.map encI_i64 ([] : (List Int))))), .g (.d (.sl 1 (List.map encI_i64 ([] : (List Int)))))])), (1012, some (.blk 67 [bS r1.1.s, bI .i64 r1.1.at_, bB r1.1.bad])), (5096, some (.row 88 2 (List.map encApi_Range ([] : List Api_Range)) false))]) ⟨rfl, rfl, rfl, rfl, rfl, rfl, rfl, trivial⟩ ⟨rfl, rfl, rfl, rfl, trivial⟩ rfl ?_
      refine G.loopF (fun (v27 : ByteArray × Int × ByteArray × Int × Bool × (List Api_Range)) => ⟨[(2, .one (.ptr 1002 0)), (4, .one (.ptr 1012 0)), (5, .one (bI .i64 r1.2)), (6, .one (.ptr 1006 0)), (7, .one (bS v27.1)), (25, .one (bI .i64 (IntKind.wrap .i64 (r1.2 - 1)))), (26, .one (bI .i64 v27.2.1))], [(1002, some (.blk 44 [.g (.d (.sl 2 (List.map encApi_Range ([] : (List Api_Range))))), .g (.d (.sl 1 (List.map encI_i64 ([] : (List Int))))), .g (.d (.sl 1 (List.map encI_i64 ([] : (List Int)))))])), (1006, some (.blk 44 [.own 5096 (List.map encApi_Range v27.2.2.2.2.2), .g (.d (.sl 1 (List.map encI_i64 ([] : (List Int))))), .g (.d (.sl 1 (List.map encI_i64 ([] : (List Int)))))])), (1012, some (.blk 67 [bS v27.2.2.1, bI .i64 v27.2.2.2.1, bB v27.2.2.2.2.1])), (5096, some (.row 88 2 (List.map encApi_Range v27.2.2.2.2.2) false))]⟩) hF rfl (fun K30 again29 v27 J28 hF => ?_)
      unfold wire_ReadRow_l6 at hF
      refine G.seq ?_
      refine G.region ?_
      refine G.op1 (op_lss (Ev.t 26 (bI .i64 v27.2.1)) (Ev.t 25 (bI .i64 (IntKind.wrap .i64 (r1.2 - 1)))) rfl) rfl ⟨rfl, rfl, trivial⟩ trivial ?_
      refine G.endOps ?_
      refine G.seq ?_
      refine ifS hF (fun hc31 hF => ?_) (fun hc31 hF => ?_)
      · refine G.cond rfl (fun _ => ?_) (fun hx => by rw [hc31] at hx; cases hx)
        refine G.skip ?_
        refine G.seq ?_
        refine G.block ?_
        refine G.seq ?_
        refine G.region ?_
        refine G.op1 (op_move (Ev.t 4 (.ptr 1012 0)) rfl) rfl ⟨rfl, trivial⟩ trivial ?_
        obtain ⟨r32, hr32, hF⟩ := bindS hF
        refine G.opM (op_callM (k := 1012) (h := .dat 67 (encWire_reader (Wire_reader.mk v27.2.2.1 v27.2.2.2.1 v27.2.2.2.2.1))) (h' := .dat 67 (encWire_reader r32.1)) 0 (sv := .one (bS r32.2)) cf42 (ct_wire_reader_text (Wire_reader.mk v27.2.2.1 v27.2.2.2.1 v27.2.2.2.2.1) 32 r32 hr32) rfl rfl (EvM.pt (Ev.t 28 (.ptr 1012 0)) (EvM.g (Ev.c _ rfl) EvM.nil)) rfl) rfl ⟨rfl, trivial⟩ ⟨rfl, trivial⟩ ?_
        refine G.op1 (op_assign (Ev.t 29 (bS r32.2)) rfl) rfl ⟨rfl, trivial⟩ trivial ?_
        refine G.endOps ?_
        refine G.seq ?_
        refine G.seq ?_
        refine G.joinC (T := Bool) (fun y33 => ⟨[(2, .one (.ptr 1002 0)), (4, .one (.ptr 1012 0)), (5, .one (bI .i64 r1.2)), (6, .one (.ptr 1006 0)), (7, .one (bS v27.1)), (8, .one (bS r32.2)), (25, .one (bI .i64 (IntKind.wrap .i64 (r1.2 - 1)))), (26, .one (bI .i64 v27.2.1)), (37, .one (bB y33))], [(1002, some (.blk 44 [.g (.d (.sl 2 (List.map encApi_Range ([] : (List Api_Range))))), .g (.d (.sl 1 (List.map encI_i64 ([] : (List Int))))), .g (.d (.sl 1 (List.map encI_i64 ([] : (List Int)))))])), (1006, some (.blk 44 [.own 5096 (List.map encApi_Range v27.2.2.2.2.2), .g (.d (.sl 1 (List.map encI_i64 ([] : (List Int))))), .g (.d (.sl 1 (List.map encI_i64 ([] : (List Int)))))])), (1012, some (.blk 67 [bS r32.1.s, bI .i64 r32.1.at_, bB r32.1.bad])), (5096, some (.row 88 2 (List.map encApi_Range v27.2.2.2.2.2) false))]⟩) (fun y33 => wire_ReadRow_k7 again29 v27 r32 y33 = some r) (fun y33 hF => ?_) (fun J36 => ?_)
        · unfold wire_ReadRow_k7 at hF
          refine ifS hF (fun hc34 hF => ?_) (fun hc34 hF => ?_)
          · refine G.cond rfl (fun _ => ?_) (fun hx => by rw [hc34] at hx; cases hx)
            refine G.seq ?_
            refine G.region ?_
            refine G.op1 (op_build (zs := [.sl 2 (List.map encApi_Range ([] : (List Api_Range))), .sl 1 (List.map encI_i64 ([] : (List Int))), .sl 1 (List.map encI_i64 ([] : (List Int)))]) (ds := [.sl 2 (List.map encApi_Range ([] : (List Api_Range))), .sl 1 (List.map encI_i64 ([] : (List Int))), .sl 1 (List.map encI_i64 ([] : (List Int)))]) Try.underlying44 ti44 (pl44 _ Try.underlying44) ⟨.n 2, .n 1, .n 1, trivial⟩ EvP.nil rfl rfl) rfl trivial trivial ?_
            refine G.op3 (op_storeA (cs' := [.g (.d (.sl 2 (List.map encApi_Range ([] : (List Api_Range))))), .g (.d (.sl 1 (List.map encI_i64 ([] : (List Int))))), .g (.d (.sl 1 (List.map encI_i64 ([] : (List Int)))))]) ti44 rfl rfl (Ev.t 2 (.ptr 1002 0)) (Ev.t 38 (.g (.agg [.sl 2 (List.map encApi_Range ([] : (List Api_Range))), .sl 1 (List.map encI_i64 ([] : (List Int))), .sl 1 (List.map encI_i64 ([] : (List Int)))])))) rfl ⟨rfl, rfl, trivial⟩ ⟨rfl, trivial⟩ ?_
            refine G.op1 (op_assign (Ev.c _ rfl) rfl) rfl trivial trivial ?_
            refine G.endOps ?_
            cases hF
            exact G.ret2 Try.results21 (RVar.cellA (ds := [.sl 2 (List.map encApi_Range ([] : (List Api_Range))), .sl 1 (List.map encI_i64 ([] : (List Int))), .sl 1 (List.map encI_i64 ([] : (List Int)))]) Try.underlying44 rfl ti44 rfl) (RVar.tmp 3 _) ⟨rfl, rfl, trivial⟩ ⟨rfl, trivial⟩
          · refine G.cond rfl (fun hx => by rw [hc34] at hx; cases hx) (fun _ => ?_)
            refine G.skip ?_
            refine G.seq ?_
            refine G.region ?_
            refine G.op1 (op_fieldP (off' := 0) Try.underlying44 rfl ti42 (by decide) rfl (Ev.t 6 (.ptr 1006 0)) rfl) rfl ⟨rfl, trivial⟩ trivial ?_
            refine G.op1 (op_load1P (c := .own 5096 (List.map encApi_Range v27.2.2.2.2.2)) Try.underlying42 rfl rfl (Ev.t 39 (.ptr 1006 0)) rfl) rfl ⟨rfl, trivial⟩ ⟨rfl, trivial⟩ ?_
            refine G.op1 (op_move (Ev.t 7 (bS v27.1)) rfl) rfl ⟨rfl, trivial⟩ trivial ?_
            refine G.op1 (op_move (Ev.t 8 (bS r32.2)) rfl) rfl ⟨rfl, trivial⟩ trivial ?_
            refine G.op1 (op_build (zs := [.v (.string ByteArray.empty), .v (.string ByteArray.empty)]) (ds := [.v (.string v27.1), .v (.string r32.2)]) Try.underlying88 ti88 (pl88 _ Try.underlying88) ⟨.v _ rfl, .v _ rfl, trivial⟩ (EvP.cons (Ev.t 41 (bS v27.1)) (EvP.cons (Ev.t 42 (bS r32.2)) EvP.nil)) rfl rfl) rfl ⟨rfl, rfl, trivial⟩ trivial ?_
            refine G.op1 (op_buildSlice (es := List.map encApi_Range [(Api_Range.mk v27.1 r32.2)]) Try.underlying42 ti88 rfl rfl (EvP.cons (Ev.t 43 (.g (.agg [.v (.string v27.1), .v (.string r32.2)]))) EvP.nil) rfl rfl (by simp [encApi_Range]) rfl) rfl ⟨rfl, trivial⟩ trivial ?_
            obtain ⟨l35, hl35, hF⟩ := bindS hF
            refine G.op2 (op_appendO Try.underlying42 ti88 rfl (app_map hl35 encApi_Range) (app_b1 hl35 encApi_Range) (app_b2 hl35 encApi_Range) (Ev.t 40 (.own 5096 (List.map encApi_Range v27.2.2.2.2.2))) (Ev.t 44 (.g (.d (.sl 2 (List.map encApi_Range ([(Api_Range.mk v27.1 r32.2)])))))) rfl) rfl ⟨rfl, rfl, trivial⟩ ⟨rfl, trivial⟩ ?_
            refine G.op1 (op_fieldP (off' := 0) Try.underlying44 rfl ti42 (by decide) rfl (Ev.t 6 (.ptr 1006 0)) rfl) rfl ⟨rfl, trivial⟩ trivial ?_
            refine G.op3 (op_storeO (cs' := [.own 5096 (List.map encApi_Range l35), .g (.d (.sl 1 (List.map encI_i64 ([] : (List Int))))), .g (.d (.sl 1 (List.map encI_i64 ([] : (List Int)))))]) ti42 rfl rfl rfl (Ev.t 46 (.ptr 1006 0)) (Ev.t 45 (.own 5096 (List.map encApi_Range l35)))) rfl ⟨rfl, rfl, trivial⟩ ⟨rfl, rfl, trivial⟩ ?_
            refine G.endOps ?_
            refine G.region ?_
            refine G.op1 (op_move (Ev.t 8 (bS r32.2)) rfl) rfl ⟨rfl, trivial⟩ trivial ?_
            refine G.op1 (op_assign (Ev.t 47 (bS r32.2)) rfl) rfl ⟨rfl, trivial⟩ trivial ?_
            refine G.endOps ?_
            refine G.endBlock ?_
            refine G.region ?_
            refine G.op1 (op_add (Ev.t 26 (bI .i64 v27.2.1)) (Ev.c _ rfl) rfl) rfl ⟨rfl, trivial⟩ trivial ?_
            refine G.op1 (op_move (Ev.t 48 (bI .i64 (IntKind.wrap .i64 (v27.2.1 + 1)))) rfl) rfl ⟨rfl, trivial⟩ trivial ?_
            refine G.endOps ?_
            exact G.arr (J28 (r32.2, IntKind.wrap .i64 (v27.2.1 + 1), r32.1.s, r32.1.at_, r32.1.bad, l35) hF) ⟨rfl, rfl, rfl, rfl, rfl, rfl, rfl, trivial⟩ ⟨rfl, rfl, rfl, rfl, trivial⟩ rfl
        refine G.region ?_
        refine G.op1 (op_move (Ev.t 4 (.ptr 1012 0)) rfl) rfl ⟨rfl, trivial⟩ trivial ?_
        refine G.op1 (op_nilCheckP (Ev.t 30 (.ptr 1012 0)) rfl) rfl ⟨rfl, trivial⟩ trivial ?_
        refine G.op1 (op_fieldP (off' := 2) Try.underlying67 rfl ti4 (by decide) rfl (Ev.t 31 (.ptr 1012 0)) rfl) rfl ⟨rfl, trivial⟩ trivial ?_
        refine G.op1 (op_load1P (c := bB r32.1.bad) Try.underlying4 rfl rfl (Ev.t 32 (.ptr 1012 2)) rfl) rfl ⟨rfl, trivial⟩ ⟨rfl, trivial⟩ ?_
        refine G.op1 (op_move (Ev.t 33 (bB r32.1.bad)) rfl) rfl ⟨rfl, trivial⟩ trivial ?_
        refine ifS hF (fun hc37 hF => ?_) (fun hc37 hF => ?_)
        · refine G.known (t := 34) hc37 rfl ?_
          refine G.opN1 rfl rfl rfl rfl rfl ?_
          refine G.opN1 rfl rfl rfl rfl rfl ?_
          refine G.op1 (op_pickT (Ev.t 34 (bB true)) (Ev.c _ rfl) rfl) rfl ⟨rfl, trivial⟩ trivial ?_
          refine G.endOps ?_
          exact G.arr (J36 true hF) ⟨rfl, rfl, rfl, rfl, rfl, rfl, rfl, rfl, rfl, trivial⟩ ⟨rfl, rfl, rfl, rfl, trivial⟩ rfl
        · refine G.known (t := 34) hc37 rfl ?_
          refine G.opG1 (op_move (Ev.t 8 (bS r32.2)) rfl) rfl rfl rfl ⟨rfl, trivial⟩ trivial ?_
          refine G.opG1 (op_eqS (Ev.t 35 (bS r32.2)) (Ev.c _ rfl) rfl) rfl rfl rfl ⟨rfl, trivial⟩ trivial ?_
          refine G.op1 (op_pickF (Ev.t 34 (bB false)) (Ev.t 36 (bB (seq r32.2 ByteArray.empty))) rfl) rfl ⟨rfl, rfl, trivial⟩ trivial ?_
          refine G.endOps ?_
          exact G.arr (J36 (seq r32.2 ByteArray.empty) hF) ⟨rfl, rfl, rfl, rfl, rfl, rfl, rfl, rfl, rfl, trivial⟩ ⟨rfl, rfl, rfl, rfl, trivial⟩ rfl
      · refine G.cond rfl (fun hx => by rw [hc31] at hx; cases hx) (fun _ => ?_)
        refine G.exit ?_
        refine GX.c ?_
        refine GX.q ?_
        refine GX.bYes ?_
        exact G.arr (J26 (v27.1, v27.2.2.1, v27.2.2.2.1, v27.2.2.2.2.1, v27.2.2.2.2.2) hF) ⟨rfl, rfl, rfl, rfl, rfl, trivial⟩ ⟨rfl, rfl, rfl, rfl, trivial⟩ rfl
  refine G.region ?_
  refine G.op1 (op_move (Ev.t 4 (.ptr 1012 0)) rfl) rfl ⟨rfl, trivial⟩ trivial ?_
  refine G.op1 (op_nilCheckP (Ev.t 15 (.ptr 1012 0)) rfl) rfl ⟨rfl, trivial⟩ trivial ?_
  refine G.op1 (op_fieldP (off' := 2) Try.underlying67 rfl ti4 (by decide) rfl (Ev.t 16 (.ptr 1012 0)) rfl) rfl ⟨rfl, trivial⟩ trivial ?_
  refine G.op1 (op_load1P (c := bB r1.1.bad) Try.underlying4 rfl rfl (Ev.t 17 (.ptr 1012 2)) rfl) rfl ⟨rfl, trivial⟩ ⟨rfl, trivial⟩ ?_
  refine G.op1 (op_move (Ev.t 18 (bB r1.1.bad)) rfl) rfl ⟨rfl, trivial⟩ trivial ?_
  refine ifS hF (fun hc39 hF => ?_) (fun hc39 hF => ?_)
  · refine G.known (t := 19) hc39 rfl ?_
    refine G.opN1 rfl rfl rfl rfl rfl ?_
    refine G.opN1 rfl rfl rfl rfl rfl ?_
    refine G.op1 (op_pickT (Ev.t 19 (bB true)) (Ev.c _ rfl) rfl) rfl ⟨rfl, trivial⟩ trivial ?_
    refine G.endOps ?_
    exact G.arr (J38 true hF) ⟨rfl, rfl, rfl, rfl, trivial⟩ ⟨rfl, rfl, trivial⟩ rfl
  · refine G.known (t := 19) hc39 rfl ?_
    refine G.opG1 (op_move (Ev.t 5 (bI .i64 r1.2)) rfl) rfl rfl rfl ⟨rfl, trivial⟩ trivial ?_
    refine G.opG1 (op_eqI (Ev.t 20 (bI .i64 r1.2)) (Ev.c _ rfl) rfl) rfl rfl rfl ⟨rfl, trivial⟩ trivial ?_
    refine G.op1 (op_pickF (Ev.t 19 (bB false)) (Ev.t 21 (bB (decide (r1.2 = 0)))) rfl) rfl ⟨rfl, rfl, trivial⟩ trivial ?_
    refine G.endOps ?_
    exact G.arr (J38 (decide (r1.2 = 0)) hF) ⟨rfl, rfl, rfl, rfl, trivial⟩ ⟨rfl, rfl, trivial⟩ rfl


set_option maxRecDepth 20000 in
set_option maxHeartbeats 2000000 in
theorem ct_ref01_Number_b (again0 : Int → Option ByteArray) (ih : ∀ (n_0 : Int) (r : ByteArray), again0 n_0 = some r → Ct Try.prog 37 [.g (.d (.v (.int .u64 n_0)))] (.one (.d (.v (.string r))))) (n_0 : Int) (r : ByteArray) (hF : ref01_Number_b again0 n_0 = some r) : Ct Try.prog 37 [.g (.d (.v (.int .u64 n_0)))] (.one (.d (.v (.string r)))) := by
  unfold ref01_Number_b at hF
  refine Ct.intro Try.func37 rfl Try.ntmps37 rfl rfl fun M w => ?_
  refine G.seq ?_
  refine G.region ?_
  refine G.op1 (op_assign (Ev.c _ rfl) rfl) rfl trivial trivial ?_
  refine G.endOps ?_
  refine G.seq ?_
  refine G.seq ?_
  refine G.region ?_
  refine G.op1 (op_move (Ev.t 0 (bI .u64 n_0)) rfl) rfl ⟨rfl, trivial⟩ trivial ?_
  refine G.op1 (op_lss (Ev.t 3 (bI .u64 n_0)) (Ev.c _ rfl) rfl) rfl ⟨rfl, trivial⟩ trivial ?_
  refine G.endOps ?_
  refine ifS hF (fun hc1 hF => ?_) (fun hc1 hF => ?_)
  · refine G.cond rfl (fun _ => ?_) (fun hx => by rw [hc1] at hx; cases hx)
    refine G.seq ?_
    refine G.region ?_
    refine G.op1 (op_move (Ev.t 0 (bI .u64 n_0)) rfl) rfl ⟨rfl, trivial⟩ trivial ?_
    refine G.op1 (op_convI Try.underlying57 Try.underlying5 (Ev.t 5 (bI .u64 n_0)) rfl) rfl ⟨rfl, trivial⟩ trivial ?_
    refine G.op1 (op_buildSlice (es := List.map encI_u8 [IntKind.wrap .u8 n_0]) Try.underlying33 ti5 rfl rfl (EvP.cons (Ev.t 6 (bI .u8 (IntKind.wrap .u8 n_0))) EvP.nil) rfl rfl (by simp [encI_u8]) rfl) rfl ⟨rfl, trivial⟩ trivial ?_
    refine G.op1 (op_toText (ns := [IntKind.wrap .u8 n_0]) Try.underlying33 Try.underlying5 Try.underlying9 rfl (Ev.t 7 (.g (.d (.sl 1 (List.map encI_u8 ([IntKind.wrap .u8 n_0])))))) rfl) rfl ⟨rfl, trivial⟩ trivial ?_
    refine G.op1 (op_assign (Ev.t 8 (bS (bytesOf ([IntKind.wrap .u8 n_0])))) rfl) rfl ⟨rfl, trivial⟩ trivial ?_
    refine G.endOps ?_
    cases hF
    exact G.ret1 Try.results37 (RVar.tmp 2 _) ⟨rfl, trivial⟩ trivial
  · refine G.cond rfl (fun hx => by rw [hc1] at hx; cases hx) (fun _ => ?_)
    refine G.skip ?_
    refine G.seq ?_
    obtain ⟨r2, hr2, hF⟩ := bindS hF
    obtain ⟨s3, hs3, hF⟩ := bindS hF
    refine G.drawn (effs := [⟨[(0, .one (bI .u64 n_0))], [], [(9, .one (bI .u64 n_0))], []⟩, ⟨[(9, .one (bI .u64 n_0))], [], [(10, .one (bI .u64 (Int.tmod n_0 128)))], []⟩, ⟨[(10, .one (bI .u64 (Int.tmod n_0 128)))], [], [(11, .one (bI .u64 (IntKind.wrap .u64 (128 + (Int.tmod n_0 128)))))], []⟩, ⟨[(11, .one (bI .u64 (IntKind.wrap .u64 (128 + (Int.tmod n_0 128)))))], [], [(12, .one (bI .u8 (IntKind.wrap .u8 (IntKind.wrap .u64 (128 + (Int.tmod n_0 128))))))], []⟩, ⟨[(12, .one (bI .u8 (IntKind.wrap .u8 (IntKind.wrap .u64 (128 + (Int.tmod n_0 128))))))], [], [(13, .one (.g (.d (.sl 1 (List.map encI_u8 ([IntKind.wrap .u8 (IntKind.wrap .u64 (128 + (Int.tmod n_0 128)))]))))))], []⟩, ⟨[(13, .one (.g (.d (.sl 1 (List.map encI_u8 ([IntKind.wrap .u8 (IntKind.wrap .u64 (128 + (Int.tmod n_0 128)))]))))))], [], [(14, .one (bS (bytesOf ([IntKind.wrap .u8 (IntKind.wrap .u64 (128 + (Int.tmod n_0 128)))]))))], []⟩, ⟨[(0, .one (bI .u64 n_0))], [], [(15, .one (bI .u64 n_0))], []⟩, ⟨[(15, .one (bI .u64 n_0))], [], [(16, .one (bI .u64 (IntKind.wrap .u64 (Int.tdiv n_0 128))))], []⟩, ⟨[(16, .one (bI .u64 (IntKind.wrap .u64 (Int.tdiv n_0 128))))], [], [(17, .one (bS r2))], []⟩, ⟨[(14, .one (bS (bytesOf ([IntKind.wrap .u8 (IntKind.wrap .u64 (128 + (Int.tmod n_0 128)))])))), (17, .one (bS r2))], [], [(18, .one (bS s3))], []⟩, ⟨[(18, .one (bS s3))], [], [(2, .one (bS s3))], []⟩]) (deps := [[], [0], [0, 1], [0, 1, 2], [0, 1, 2, 3], [0, 1, 2, 3, 4], [], [6], [6, 7], [0, 1, 2, 3, 4, 5, 6, 7, 8], [0, 1, 2, 3, 4, 5, 6, 7, 8, 9]]) (sl' := [(2, .one (bS s3))]) (hp' := []) follows rfl rfl rfl ⟨⟨rfl, trivial⟩, trivial, ⟨rfl, trivial⟩, trivial, ⟨rfl, trivial⟩, trivial, ⟨rfl, trivial⟩, trivial, ⟨rfl, trivial⟩, trivial, ⟨rfl, trivial⟩, trivial, ⟨rfl, trivial⟩, trivial, ⟨rfl, trivial⟩, trivial, ⟨rfl, trivial⟩, trivial, ⟨rfl, rfl, trivial⟩, trivial, ⟨rfl, trivial⟩, trivial, trivial⟩ ⟨OpW.plain (op_move (Ev.t 0 (bI .u64 n_0)) rfl) rfl rfl, OpW.plain (op_rem (by decide) (Ev.t 9 (bI .u64 n_0)) (Ev.c _ rfl) rfl) rfl rfl, OpW.plain (op_add (Ev.c _ rfl) (Ev.t 10 (bI .u64 (Int.tmod n_0 128))) rfl) rfl rfl, OpW.plain (op_convI Try.underlying57 Try.underlying5 (Ev.t 11 (bI .u64 (IntKind.wrap .u64 (128 + (Int.tmod n_0 128))))) rfl) rfl rfl, OpW.plain (op_buildSlice (es := List.map encI_u8 [IntKind.wrap .u8 (IntKind.wrap .u64 (128 + (Int.tmod n_0 128)))]) Try.underlying33 ti5 rfl rfl (EvP.cons (Ev.t 12 (bI .u8 (IntKind.wrap .u8 (IntKind.wrap .u64 (128 + (Int.tmod n_0 128)))))) EvP.nil) rfl rfl (by simp [encI_u8]) rfl) rfl rfl, OpW.plain (op_toText (ns := [IntKind.wrap .u8 (IntKind.wrap .u64 (128 + (Int.tmod n_0 128)))]) Try.underlying33 Try.underlying5 Try.underlying9 rfl (Ev.t 13 (.g (.d (.sl 1 (List.map encI_u8 ([IntKind.wrap .u8 (IntKind.wrap .u64 (128 + (Int.tmod n_0 128)))])))))) rfl) rfl rfl, OpW.plain (op_move (Ev.t 0 (bI .u64 n_0)) rfl) rfl rfl, OpW.plain (op_quo (by decide) (Ev.t 15 (bI .u64 n_0)) (Ev.c _ rfl) rfl) rfl rfl, OpW.plain (op_call (sv := .one (bS r2)) cf37 (ih (IntKind.wrap .u64 (Int.tdiv n_0 128)) r2 hr2) rfl (EvL.cons (Ev.t 16 (bI .u64 (IntKind.wrap .u64 (Int.tdiv n_0 128)))) EvL.nil) rfl) rfl rfl, OpW.plain (OpL.cast (op_cat (scat_ok hs3).1 (Ev.t 14 (bS (bytesOf ([IntKind.wrap .u8 (IntKind.wrap .u64 (128 + (Int.tmod n_0 128)))])))) (Ev.t 17 (bS r2)) rfl) (by rw [(scat_ok hs3).2])) rfl rfl, OpW.plain (op_assign (Ev.t 18 (bS s3)) rfl) rfl rfl, trivial⟩ ⟨rfl, trivial⟩ trivial rfl ?_
    cases hF
    exact G.ret1 Try.results37 (RVar.tmp 2 _) ⟨rfl, trivial⟩ trivial
theorem ct_ref01_Number_n : ∀ (n : Nat) (n_0 : Int) (r : ByteArray), loopF (fun again0 v0 => ref01_Number_b again0 v0) n n_0 = some r → Ct Try.prog 37 [.g (.d (.v (.int .u64 n_0)))] (.one (.d (.v (.string r))))
  | 0, _,  _, h => (by cases h)
  | n + 1, n_0,  r, h => ct_ref01_Number_b _ (fun n_0 r h => ct_ref01_Number_n n n_0 r h) n_0 r h
theorem ct_ref01_Number (n_0 : Int) (r : ByteArray) (hF : ref01_Number n_0 = some r) : Ct Try.prog 37 [.g (.d (.v (.int .u64 n_0)))] (.one (.d (.v (.string r)))) := ct_ref01_Number_n FU n_0 r hF


set_option maxRecDepth 20000 in
set_option maxHeartbeats 2000000 in
theorem ct_ref01_Text (s_0 : ByteArray) (r : ByteArray) (hF : ref01_Text s_0 = some r) : Ct Try.prog 36 [.g (.d (.v (.string s_0)))] (.one (.d (.v (.string r)))) := by
  unfold ref01_Text at hF
  refine Ct.intro Try.func36 rfl Try.ntmps36 rfl rfl fun M w => ?_
  refine G.seq ?_
  refine G.region ?_
  refine G.op1 (op_assign (Ev.c _ rfl) rfl) rfl trivial trivial ?_
  refine G.endOps ?_
  refine G.seq ?_
  refine G.region ?_
  refine G.op1 (op_move (Ev.t 0 (bS s_0)) rfl) rfl ⟨rfl, trivial⟩ trivial ?_
  refine G.op1 (op_lenS Try.underlying9 (Ev.t 3 (bS s_0)) rfl) rfl ⟨rfl, trivial⟩ trivial ?_
  refine G.op1 (op_convI Try.underlying3 Try.underlying57 (Ev.t 4 (bI .i64 (s_0.size : Int))) rfl) rfl ⟨rfl, trivial⟩ trivial ?_
  obtain ⟨r1, hr1, hF⟩ := bindS hF
  refine G.op1 (op_callQ (sv := .one (bS r1)) cf37 (ct_ref01_Number (IntKind.wrap .u64 (s_0.size : Int)) r1 hr1) rfl rfl (EvQL.cons (EvQ.g (Ev.t 5 (bI .u64 (IntKind.wrap .u64 (s_0.size : Int))))) EvQL.nil) rfl) rfl ⟨rfl, trivial⟩ trivial ?_
  refine G.op1 (op_move (Ev.t 0 (bS s_0)) rfl) rfl ⟨rfl, trivial⟩ trivial ?_
  obtain ⟨s2, hs2, hF⟩ := bindS hF
  refine G.op1 (OpL.cast (op_cat (scat_ok hs2).1 (Ev.t 6 (bS r1)) (Ev.t 7 (bS s_0)) rfl) (by rw [(scat_ok hs2).2])) rfl ⟨rfl, rfl, trivial⟩ trivial ?_
  refine G.op1 (op_assign (Ev.t 8 (bS s2)) rfl) rfl ⟨rfl, trivial⟩ trivial ?_
  refine G.endOps ?_
  cases hF
  exact G.ret1 Try.results36 (RVar.tmp 2 _) ⟨rfl, trivial⟩ trivial


set_option maxRecDepth 20000 in
set_option maxHeartbeats 2000000 in
theorem ct_ref06_RowBytes (c_0 : Api_Row) (r : ByteArray) (hF : ref06_RowBytes c_0 = some r) : Ct Try.prog 22 [.g (.agg (encApi_Row c_0))] (.one (.d (.v (.string r)))) := by
  unfold ref06_RowBytes at hF
  refine Ct.intro Try.func22 rfl Try.ntmps22 rfl rfl fun M w => ?_
  refine G.seq ?_
  refine G.region ?_
  refine G.op2 (op_boxA (k := 1001) (Ev.t 0 (.g (.agg [.sl 2 (List.map encApi_Range c_0.Ranges), .sl 1 (List.map encI_i64 c_0.Owners), .sl 1 (List.map encI_i64 c_0.Parents)]))) rfl) rfl ⟨rfl, trivial⟩ ⟨rfl, trivial⟩ ?_
  refine G.op1 (op_assign (Ev.c _ rfl) rfl) rfl trivial trivial ?_
  refine G.endOps ?_
  refine G.seq ?_
  refine G.region ?_
  refine G.op1 (op_fieldP (off' := 0) Try.underlying44 rfl ti42 (by decide) rfl (Ev.t 1 (.ptr 1001 0)) rfl) rfl ⟨rfl, trivial⟩ trivial ?_
  refine G.op1 (op_load1P (c := .g (.d (.sl 2 (List.map encApi_Range c_0.Ranges)))) Try.underlying42 rfl rfl (Ev.t 8 (.ptr 1001 0)) rfl) rfl ⟨rfl, trivial⟩ ⟨rfl, trivial⟩ ?_
  refine G.op1 (OpL.cast (op_lenD Try.underlying42 (Ev.t 9 (.g (.d (.sl 2 (List.map encApi_Range c_0.Ranges))))) rfl) (by rw [List.length_map])) rfl ⟨rfl, trivial⟩ trivial ?_
  refine G.op1 (op_assign (Ev.t 10 (bI .i64 (c_0.Ranges.length : Int))) rfl) rfl ⟨rfl, trivial⟩ trivial ?_
  refine G.endOps ?_
  refine G.seq ?_
  refine G.region ?_
  refine G.op1 (op_move (Ev.t 3 (bI .i64 (c_0.Ranges.length : Int))) rfl) rfl ⟨rfl, trivial⟩ trivial ?_
  refine G.op1 (op_convI Try.underlying3 Try.underlying57 (Ev.t 11 (bI .i64 (c_0.Ranges.length : Int))) rfl) rfl ⟨rfl, trivial⟩ trivial ?_
  obtain ⟨r1, hr1, hF⟩ := bindS hF
  refine G.op1 (op_callQ (sv := .one (bS r1)) cf37 (ct_ref01_Number (IntKind.wrap .u64 (c_0.Ranges.length : Int)) r1 hr1) rfl rfl (EvQL.cons (EvQ.g (Ev.t 12 (bI .u64 (IntKind.wrap .u64 (c_0.Ranges.length : Int))))) EvQL.nil) rfl) rfl ⟨rfl, trivial⟩ trivial ?_
  refine G.op1 (op_assign (Ev.t 13 (bS r1)) rfl) rfl ⟨rfl, trivial⟩ trivial ?_
  refine G.endOps ?_
  refine G.seq ?_
  refine G.seq ?_
  refine G.region ?_
  refine G.op1 (op_assign (Ev.c _ rfl) rfl) rfl trivial trivial ?_
  refine G.endOps ?_
  refine G.joinC (T := ByteArray) (fun y2 => ⟨[(1, .one (.ptr 1001 0)), (3, .one (bI .i64 (c_0.Ranges.length : Int))), (4, .one (bS y2))], [(1001, some (.blk 44 [.g (.d (.sl 2 (List.map encApi_Range c_0.Ranges))), .g (.d (.sl 1 (List.map encI_i64 c_0.Owners))), .g (.d (.sl 1 (List.map encI_i64 c_0.Parents)))]))]⟩) (fun y2 => ref06_RowBytes_k1 c_0 y2 = some r) (fun y2 hF => ?_) (fun J25 => ?_)
  · unfold ref06_RowBytes_k1 at hF
    refine G.seq ?_
    refine G.seq ?_
    refine G.region ?_
    refine G.op1 (op_assign (Ev.c _ rfl) rfl) rfl trivial trivial ?_
    refine G.endOps ?_
    refine G.joinC (T := ByteArray) (fun y3 => ⟨[(1, .one (.ptr 1001 0)), (4, .one (bS y3))], [(1001, some (.blk 44 [.g (.d (.sl 2 (List.map encApi_Range c_0.Ranges))), .g (.d (.sl 1 (List.map encI_i64 c_0.Owners))), .g (.d (.sl 1 (List.map encI_i64 c_0.Parents)))]))]⟩) (fun y3 => ref06_RowBytes_k2 c_0 y3 = some r) (fun y3 hF => ?_) (fun J16 => ?_)
    · unfold ref06_RowBytes_k2 at hF
      refine G.seq ?_
      refine G.region ?_
      refine G.op1 (op_move (Ev.t 4 (bS y3)) rfl) rfl ⟨rfl, trivial⟩ trivial ?_
      refine G.op1 (op_fieldP (off' := 2) Try.underlying44 rfl ti39 (by decide) rfl (Ev.t 1 (.ptr 1001 0)) rfl) rfl ⟨rfl, trivial⟩ trivial ?_
      refine G.op1 (op_load1P (c := .g (.d (.sl 1 (List.map encI_i64 c_0.Parents)))) Try.underlying39 rfl rfl (Ev.t 44 (.ptr 1001 2)) rfl) rfl ⟨rfl, trivial⟩ ⟨rfl, trivial⟩ ?_
      refine G.op1 (OpL.cast (op_lenD Try.underlying39 (Ev.t 45 (.g (.d (.sl 1 (List.map encI_i64 c_0.Parents))))) rfl) (by rw [List.length_map])) rfl ⟨rfl, trivial⟩ trivial ?_
      refine G.op1 (op_convI Try.underlying3 Try.underlying57 (Ev.t 46 (bI .i64 (c_0.Parents.length : Int))) rfl) rfl ⟨rfl, trivial⟩ trivial ?_
      obtain ⟨r4, hr4, hF⟩ := bindS hF
      refine G.op1 (op_callQ (sv := .one (bS r4)) cf37 (ct_ref01_Number (IntKind.wrap .u64 (c_0.Parents.length : Int)) r4 hr4) rfl rfl (EvQL.cons (EvQ.g (Ev.t 47 (bI .u64 (IntKind.wrap .u64 (c_0.Parents.length : Int))))) EvQL.nil) rfl) rfl ⟨rfl, trivial⟩ trivial ?_
      obtain ⟨s5, hs5, hF⟩ := bindS hF
      refine G.op1 (OpL.cast (op_cat (scat_ok hs5).1 (Ev.t 43 (bS y3)) (Ev.t 48 (bS r4)) rfl) (by rw [(scat_ok hs5).2])) rfl ⟨rfl, rfl, trivial⟩ trivial ?_
      refine G.op1 (op_assign (Ev.t 49 (bS s5)) rfl) rfl ⟨rfl, trivial⟩ trivial ?_
      refine G.endOps ?_
      refine G.seq ?_
      refine G.seq ?_
      refine G.region ?_
      refine G.op1 (op_assign (Ev.c _ rfl) rfl) rfl trivial trivial ?_
      refine G.endOps ?_
      refine G.joinC (T := ByteArray) (fun y6 => ⟨[(4, .one (bS y6))], []⟩) (fun y6 => ref06_RowBytes_k3 y6 = some r) (fun y6 hF => ?_) (fun J7 => ?_)
      · unfold ref06_RowBytes_k3 at hF
        refine G.seq ?_
        refine G.region ?_
        refine G.op1 (op_move (Ev.t 4 (bS y6)) rfl) rfl ⟨rfl, trivial⟩ trivial ?_
        refine G.op1 (op_assign (Ev.t 67 (bS y6)) rfl) rfl ⟨rfl, trivial⟩ trivial ?_
        refine G.endOps ?_
        cases hF
        exact G.ret1 Try.results22 (RVar.tmp 2 _) ⟨rfl, trivial⟩ trivial
      refine G.block ?_
      refine G.keep (sl' := [(1, .one (.ptr 1001 0)), (4, .one (bS s5)), (7, .one (bI .i64 0))]) (hp' := [(1001, some (.blk 44 [.g (.d (.sl 2 (List.map encApi_Range c_0.Ranges))), .g (.d (.sl 1 (List.map encI_i64 c_0.Owners))), .g (.d (.sl 1 (List.map encI_i64 c_0.Parents)))]))]) ⟨rfl, rfl, rfl, trivial⟩ ⟨rfl, trivial⟩ rfl ?_
      refine G.loopF (fun (v8 : ByteArray × Int) => ⟨[(1, .one (.ptr 1001 0)), (4, .one (bS v8.1)), (7, .one (bI .i64 v8.2))], [(1001, some (.blk 44 [.g (.d (.sl 2 (List.map encApi_Range c_0.Ranges))), .g (.d (.sl 1 (List.map encI_i64 c_0.Owners))), .g (.d (.sl 1 (List.map encI_i64 c_0.Parents)))]))]⟩) hF rfl (fun K11 again10 v8 J9 hF => ?_)
      unfold ref06_RowBytes_l4 at hF
      refine G.seq ?_
      refine G.seq ?_
      refine G.region ?_
      refine G.op1 (op_move (Ev.t 7 (bI .i64 v8.2)) rfl) rfl ⟨rfl, trivial⟩ trivial ?_
      refine G.op1 (op_fieldP (off' := 2) Try.underlying44 rfl ti39 (by decide) rfl (Ev.t 1 (.ptr 1001 0)) rfl) rfl ⟨rfl, trivial⟩ trivial ?_
      refine G.op1 (op_load1P (c := .g (.d (.sl 1 (List.map encI_i64 c_0.Parents)))) Try.underlying39 rfl rfl (Ev.t 51 (.ptr 1001 2)) rfl) rfl ⟨rfl, trivial⟩ ⟨rfl, trivial⟩ ?_
      refine G.op1 (OpL.cast (op_lenD Try.underlying39 (Ev.t 52 (.g (.d (.sl 1 (List.map encI_i64 c_0.Parents))))) rfl) (by rw [List.length_map])) rfl ⟨rfl, trivial⟩ trivial ?_
      refine G.op1 (op_lss (Ev.t 50 (bI .i64 v8.2)) (Ev.t 53 (bI .i64 (c_0.Parents.length : Int))) rfl) rfl ⟨rfl, rfl, trivial⟩ trivial ?_
      refine G.endOps ?_
      refine ifS hF (fun hc12 hF => ?_) (fun hc12 hF => ?_)
      · refine G.cond rfl (fun _ => ?_) (fun hx => by rw [hc12] at hx; cases hx)
        refine G.skip ?_
        refine G.seq ?_
        refine G.block ?_
        refine G.region ?_
        refine G.op1 (op_move (Ev.t 4 (bS v8.1)) rfl) rfl ⟨rfl, trivial⟩ trivial ?_
        refine G.op1 (op_fieldP (off' := 2) Try.underlying44 rfl ti39 (by decide) rfl (Ev.t 1 (.ptr 1001 0)) rfl) rfl ⟨rfl, trivial⟩ trivial ?_
        refine G.op1 (op_load1P (c := .g (.d (.sl 1 (List.map encI_i64 c_0.Parents)))) Try.underlying39 rfl rfl (Ev.t 58 (.ptr 1001 2)) rfl) rfl ⟨rfl, trivial⟩ ⟨rfl, trivial⟩ ?_
        refine G.op1 (op_move (Ev.t 7 (bI .i64 v8.2)) rfl) rfl ⟨rfl, trivial⟩ trivial ?_
        obtain ⟨x13, hx13, hF⟩ := bindS hF
        refine G.op1 (op_index (cs := [.v (.int .i64 x13)]) Try.underlying39 ti3 (idx_ok hx13).1 (idx_get hx13 encI_i64) (Ev.t 59 (.g (.d (.sl 1 (List.map encI_i64 c_0.Parents))))) (Ev.t 60 (bI .i64 v8.2)) rfl) rfl ⟨rfl, rfl, trivial⟩ trivial ?_
        refine G.op1 (op_load1E (c := .v (.int .i64 x13)) Try.underlying3 rfl rfl (Ev.t 61 (.ep [.v (.int .i64 x13)])) rfl) rfl ⟨rfl, trivial⟩ trivial ?_
        refine G.op1 (op_add (Ev.t 62 (bI .i64 x13)) (Ev.c _ rfl) rfl) rfl ⟨rfl, trivial⟩ trivial ?_
        refine G.op1 (op_convI Try.underlying3 Try.underlying57 (Ev.t 63 (bI .i64 (IntKind.wrap .i64 (x13 + 1)))) rfl) rfl ⟨rfl, trivial⟩ trivial ?_
        obtain ⟨r14, hr14, hF⟩ := bindS hF
        refine G.op1 (op_callQ (sv := .one (bS r14)) cf37 (ct_ref01_Number (IntKind.wrap .u64 (IntKind.wrap .i64 (x13 + 1))) r14 hr14) rfl rfl (EvQL.cons (EvQ.g (Ev.t 64 (bI .u64 (IntKind.wrap .u64 (IntKind.wrap .i64 (x13 + 1)))))) EvQL.nil) rfl) rfl ⟨rfl, trivial⟩ trivial ?_
        obtain ⟨s15, hs15, hF⟩ := bindS hF
        refine G.op1 (OpL.cast (op_cat (scat_ok hs15).1 (Ev.t 57 (bS v8.1)) (Ev.t 65 (bS r14)) rfl) (by rw [(scat_ok hs15).2])) rfl ⟨rfl, rfl, trivial⟩ trivial ?_
        refine G.op1 (op_assign (Ev.t 66 (bS s15)) rfl) rfl ⟨rfl, trivial⟩ trivial ?_
        refine G.endOps ?_
        refine G.endBlock ?_
        refine G.region ?_
        refine G.op1 (op_move (Ev.t 7 (bI .i64 v8.2)) rfl) rfl ⟨rfl, trivial⟩ trivial ?_
        refine G.op1 (op_add (Ev.t 55 (bI .i64 v8.2)) (Ev.c _ rfl) rfl) rfl ⟨rfl, trivial⟩ trivial ?_
        refine G.op1 (op_assign (Ev.t 56 (bI .i64 (IntKind.wrap .i64 (v8.2 + 1)))) rfl) rfl ⟨rfl, trivial⟩ trivial ?_
        refine G.endOps ?_
        exact G.arr (J9 (s15, IntKind.wrap .i64 (v8.2 + 1)) hF) ⟨rfl, rfl, rfl, trivial⟩ ⟨rfl, trivial⟩ rfl
      · refine G.cond rfl (fun hx => by rw [hc12] at hx; cases hx) (fun _ => ?_)
        refine G.exit ?_
        refine GX.c ?_
        refine GX.q ?_
        refine GX.bYes ?_
        exact G.arr (J7 v8.1 hF) ⟨rfl, trivial⟩ trivial rfl
    refine G.block ?_
    refine G.keep (sl' := [(1, .one (.ptr 1001 0)), (3, .one (bI .i64 (c_0.Ranges.length : Int))), (4, .one (bS y2)), (6, .one (bI .i64 0))]) (hp' := [(1001, some (.blk 44 [.g (.d (.sl 2 (List.map encApi_Range c_0.Ranges))), .g (.d (.sl 1 (List.map encI_i64 c_0.Owners))), .g (.d (.sl 1 (List.map encI_i64 c_0.Parents)))]))]) ⟨rfl, rfl, rfl, rfl, trivial⟩ ⟨rfl, trivial⟩ rfl ?_
    refine G.loopF (fun (v17 : ByteArray × Int) => ⟨[(1, .one (.ptr 1001 0)), (3, .one (bI .i64 (c_0.Ranges.length : Int))), (4, .one (bS v17.1)), (6, .one (bI .i64 v17.2))], [(1001, some (.blk 44 [.g (.d (.sl 2 (List.map encApi_Range c_0.Ranges))), .g (.d (.sl 1 (List.map encI_i64 c_0.Owners))), .g (.d (.sl 1 (List.map encI_i64 c_0.Parents)))]))]⟩) hF rfl (fun K20 again19 v17 J18 hF => ?_)
    unfold ref06_RowBytes_l5 at hF
    refine G.seq ?_
    refine G.seq ?_
    refine G.region ?_
    refine G.op1 (op_move (Ev.t 6 (bI .i64 v17.2)) rfl) rfl ⟨rfl, trivial⟩ trivial ?_
    refine G.op1 (op_move (Ev.t 3 (bI .i64 (c_0.Ranges.length : Int))) rfl) rfl ⟨rfl, trivial⟩ trivial ?_
    refine G.op1 (op_lss (Ev.t 29 (bI .i64 v17.2)) (Ev.t 30 (bI .i64 (c_0.Ranges.length : Int))) rfl) rfl ⟨rfl, rfl, trivial⟩ trivial ?_
    refine G.endOps ?_
    refine ifS hF (fun hc21 hF => ?_) (fun hc21 hF => ?_)
    · refine G.cond rfl (fun _ => ?_) (fun hx => by rw [hc21] at hx; cases hx)
      refine G.skip ?_
      refine G.seq ?_
      refine G.block ?_
      refine G.region ?_
      refine G.op1 (op_move (Ev.t 4 (bS v17.1)) rfl) rfl ⟨rfl, trivial⟩ trivial ?_
      refine G.op1 (op_fieldP (off' := 1) Try.underlying44 rfl ti39 (by decide) rfl (Ev.t 1 (.ptr 1001 0)) rfl) rfl ⟨rfl, trivial⟩ trivial ?_
      refine G.op1 (op_load1P (c := .g (.d (.sl 1 (List.map encI_i64 c_0.Owners)))) Try.underlying39 rfl rfl (Ev.t 35 (.ptr 1001 1)) rfl) rfl ⟨rfl, trivial⟩ ⟨rfl, trivial⟩ ?_
      refine G.op1 (op_move (Ev.t 6 (bI .i64 v17.2)) rfl) rfl ⟨rfl, trivial⟩ trivial ?_
      obtain ⟨x22, hx22, hF⟩ := bindS hF
      refine G.op1 (op_index (cs := [.v (.int .i64 x22)]) Try.underlying39 ti3 (idx_ok hx22).1 (idx_get hx22 encI_i64) (Ev.t 36 (.g (.d (.sl 1 (List.map encI_i64 c_0.Owners))))) (Ev.t 37 (bI .i64 v17.2)) rfl) rfl ⟨rfl, rfl, trivial⟩ trivial ?_
      refine G.op1 (op_load1E (c := .v (.int .i64 x22)) Try.underlying3 rfl rfl (Ev.t 38 (.ep [.v (.int .i64 x22)])) rfl) rfl ⟨rfl, trivial⟩ trivial ?_
      refine G.op1 (op_convI Try.underlying3 Try.underlying57 (Ev.t 39 (bI .i64 x22)) rfl) rfl ⟨rfl, trivial⟩ trivial ?_
      obtain ⟨r23, hr23, hF⟩ := bindS hF
      refine G.op1 (op_callQ (sv := .one (bS r23)) cf37 (ct_ref01_Number (IntKind.wrap .u64 x22) r23 hr23) rfl rfl (EvQL.cons (EvQ.g (Ev.t 40 (bI .u64 (IntKind.wrap .u64 x22)))) EvQL.nil) rfl) rfl ⟨rfl, trivial⟩ trivial ?_
      obtain ⟨s24, hs24, hF⟩ := bindS hF
      refine G.op1 (OpL.cast (op_cat (scat_ok hs24).1 (Ev.t 34 (bS v17.1)) (Ev.t 41 (bS r23)) rfl) (by rw [(scat_ok hs24).2])) rfl ⟨rfl, rfl, trivial⟩ trivial ?_
      refine G.op1 (op_assign (Ev.t 42 (bS s24)) rfl) rfl ⟨rfl, trivial⟩ trivial ?_
      refine G.endOps ?_
      refine G.endBlock ?_
      refine G.region ?_
      refine G.op1 (op_move (Ev.t 6 (bI .i64 v17.2)) rfl) rfl ⟨rfl, trivial⟩ trivial ?_
      refine G.op1 (op_add (Ev.t 32 (bI .i64 v17.2)) (Ev.c _ rfl) rfl) rfl ⟨rfl, trivial⟩ trivial ?_
      refine G.op1 (op_assign (Ev.t 33 (bI .i64 (IntKind.wrap .i64 (v17.2 + 1)))) rfl) rfl ⟨rfl, trivial⟩ trivial ?_
      refine G.endOps ?_
      exact G.arr (J18 (s24, IntKind.wrap .i64 (v17.2 + 1)) hF) ⟨rfl, rfl, rfl, rfl, trivial⟩ ⟨rfl, trivial⟩ rfl
    · refine G.cond rfl (fun hx => by rw [hc21] at hx; cases hx) (fun _ => ?_)
      refine G.exit ?_
      refine GX.c ?_
      refine GX.q ?_
      refine GX.bYes ?_
      exact G.arr (J16 v17.1 hF) ⟨rfl, rfl, trivial⟩ ⟨rfl, trivial⟩ rfl
  refine G.block ?_
  refine G.keep (sl' := [(1, .one (.ptr 1001 0)), (3, .one (bI .i64 (c_0.Ranges.length : Int))), (4, .one (bS r1)), (5, .one (bI .i64 0))]) (hp' := [(1001, some (.blk 44 [.g (.d (.sl 2 (List.map encApi_Range c_0.Ranges))), .g (.d (.sl 1 (List.map encI_i64 c_0.Owners))), .g (.d (.sl 1 (List.map encI_i64 c_0.Parents)))]))]) ⟨rfl, rfl, rfl, rfl, trivial⟩ ⟨rfl, trivial⟩ rfl ?_
  refine G.loopF (fun (v26 : ByteArray × Int) => ⟨[(1, .one (.ptr 1001 0)), (3, .one (bI .i64 (c_0.Ranges.length : Int))), (4, .one (bS v26.1)), (5, .one (bI .i64 v26.2))], [(1001, some (.blk 44 [.g (.d (.sl 2 (List.map encApi_Range c_0.Ranges))), .g (.d (.sl 1 (List.map encI_i64 c_0.Owners))), .g (.d (.sl 1 (List.map encI_i64 c_0.Parents)))]))]⟩) hF rfl (fun K29 again28 v26 J27 hF => ?_)
  unfold ref06_RowBytes_l6 at hF
  refine G.seq ?_
  refine G.seq ?_
  refine G.region ?_
  refine G.op1 (op_move (Ev.t 5 (bI .i64 v26.2)) rfl) rfl ⟨rfl, trivial⟩ trivial ?_
  refine G.op1 (op_add (Ev.t 14 (bI .i64 v26.2)) (Ev.c _ rfl) rfl) rfl ⟨rfl, trivial⟩ trivial ?_
  refine G.op1 (op_move (Ev.t 3 (bI .i64 (c_0.Ranges.length : Int))) rfl) rfl ⟨rfl, trivial⟩ trivial ?_
  refine G.op1 (op_lss (Ev.t 15 (bI .i64 (IntKind.wrap .i64 (v26.2 + 1)))) (Ev.t 16 (bI .i64 (c_0.Ranges.length : Int))) rfl) rfl ⟨rfl, rfl, trivial⟩ trivial ?_
  refine G.endOps ?_
  refine ifS hF (fun hc30 hF => ?_) (fun hc30 hF => ?_)
  · refine G.cond rfl (fun _ => ?_) (fun hx => by rw [hc30] at hx; cases hx)
    refine G.skip ?_
    refine G.seq ?_
    refine G.block ?_
    refine G.region ?_
    refine G.op1 (op_move (Ev.t 4 (bS v26.1)) rfl) rfl ⟨rfl, trivial⟩ trivial ?_
    refine G.op1 (op_fieldP (off' := 0) Try.underlying44 rfl ti42 (by decide) rfl (Ev.t 1 (.ptr 1001 0)) rfl) rfl ⟨rfl, trivial⟩ trivial ?_
    refine G.op1 (op_load1P (c := .g (.d (.sl 2 (List.map encApi_Range c_0.Ranges)))) Try.underlying42 rfl rfl (Ev.t 21 (.ptr 1001 0)) rfl) rfl ⟨rfl, trivial⟩ ⟨rfl, trivial⟩ ?_
    refine G.op1 (op_move (Ev.t 5 (bI .i64 v26.2)) rfl) rfl ⟨rfl, trivial⟩ trivial ?_
    obtain ⟨x31, hx31, hF⟩ := bindS hF
    refine G.op1 (op_index (cs := [.v (.string x31.From), .v (.string x31.To)]) Try.underlying42 ti88 (idx_ok hx31).1 (idx_get hx31 encApi_Range) (Ev.t 22 (.g (.d (.sl 2 (List.map encApi_Range c_0.Ranges))))) (Ev.t 23 (bI .i64 v26.2)) rfl) rfl ⟨rfl, rfl, trivial⟩ trivial ?_
    refine G.op1 (op_fieldE (cs' := [.v (.string x31.To)]) Try.underlying88 rfl ti9 (by decide) rfl (Ev.t 24 (.ep [.v (.string x31.From), .v (.string x31.To)])) rfl) rfl ⟨rfl, trivial⟩ trivial ?_
    refine G.op1 (op_load1E (c := .v (.string x31.To)) Try.underlying9 rfl rfl (Ev.t 25 (.ep [.v (.string x31.To)])) rfl) rfl ⟨rfl, trivial⟩ trivial ?_
    obtain ⟨r32, hr32, hF⟩ := bindS hF
    refine G.op1 (op_callQ (sv := .one (bS r32)) cf36 (ct_ref01_Text x31.To r32 hr32) rfl rfl (EvQL.cons (EvQ.g (Ev.t 26 (bS x31.To))) EvQL.nil) rfl) rfl ⟨rfl, trivial⟩ trivial ?_
    obtain ⟨s33, hs33, hF⟩ := bindS hF
    refine G.op1 (OpL.cast (op_cat (scat_ok hs33).1 (Ev.t 20 (bS v26.1)) (Ev.t 27 (bS r32)) rfl) (by rw [(scat_ok hs33).2])) rfl ⟨rfl, rfl, trivial⟩ trivial ?_
    refine G.op1 (op_assign (Ev.t 28 (bS s33)) rfl) rfl ⟨rfl, trivial⟩ trivial ?_
    refine G.endOps ?_
    refine G.endBlock ?_
    refine G.region ?_
    refine G.op1 (op_move (Ev.t 5 (bI .i64 v26.2)) rfl) rfl ⟨rfl, trivial⟩ trivial ?_
    refine G.op1 (op_add (Ev.t 18 (bI .i64 v26.2)) (Ev.c _ rfl) rfl) rfl ⟨rfl, trivial⟩ trivial ?_
    refine G.op1 (op_assign (Ev.t 19 (bI .i64 (IntKind.wrap .i64 (v26.2 + 1)))) rfl) rfl ⟨rfl, trivial⟩ trivial ?_
    refine G.endOps ?_
    exact G.arr (J27 (s33, IntKind.wrap .i64 (v26.2 + 1)) hF) ⟨rfl, rfl, rfl, rfl, trivial⟩ ⟨rfl, trivial⟩ rfl
  · refine G.cond rfl (fun hx => by rw [hc30] at hx; cases hx) (fun _ => ?_)
    refine G.exit ?_
    refine GX.c ?_
    refine GX.q ?_
    refine GX.bYes ?_
    exact G.arr (J25 v26.1 hF) ⟨rfl, rfl, rfl, trivial⟩ ⟨rfl, trivial⟩ rfl

end Go.Ark
