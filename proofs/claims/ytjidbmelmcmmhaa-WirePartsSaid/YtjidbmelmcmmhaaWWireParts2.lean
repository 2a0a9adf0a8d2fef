/- Walks, printed by a program of mine: each function of the program computes the typed function of its name. Conditions: none. -/
import Derived.Test.YtjidbmelmcmmhaaWWireParts1
namespace Go.Ark
open Go Go.Ab Go.RowKit Go.Lib Go.Proofs

set_option maxRecDepth 20000 in
set_option maxHeartbeats 2000000 in
theorem ct_slices_Equal_Dep (s1_0 : (List Api_Dep)) (s2_1 : (List Api_Dep)) (r : Bool) (hF : slices_Equal_Dep s1_0 s2_1 = some r) : Ct Try.prog 62 [.g (.d (.sl 3 (List.map encApi_Dep s1_0))), .g (.d (.sl 3 (List.map encApi_Dep s2_1)))] (.one (.d (.v (.bool r)))) := by
  unfold slices_Equal_Dep at hF
  refine Ct.intro Try.func62 rfl Try.ntmps62 rfl rfl fun M w => ?_
  refine G.seq ?_
  refine G.region ?_
  refine G.op1 (op_assign (Ev.c _ rfl) rfl) rfl trivial trivial ?_
  refine G.endOps ?_
  refine G.seq ?_
  refine G.seq ?_
  refine G.region ?_
  refine G.op1 (op_move (Ev.t 0 (.g (.d (.sl 3 (List.map encApi_Dep s1_0))))) rfl) rfl ⟨rfl, trivial⟩ trivial ?_
  refine G.op1 (OpL.cast (op_lenD Try.underlying24 (Ev.t 6 (.g (.d (.sl 3 (List.map encApi_Dep s1_0))))) rfl) (by rw [List.length_map])) rfl ⟨rfl, trivial⟩ trivial ?_
  refine G.op1 (op_move (Ev.t 1 (.g (.d (.sl 3 (List.map encApi_Dep s2_1))))) rfl) rfl ⟨rfl, trivial⟩ trivial ?_
  refine G.op1 (OpL.cast (op_lenD Try.underlying24 (Ev.t 8 (.g (.d (.sl 3 (List.map encApi_Dep s2_1))))) rfl) (by rw [List.length_map])) rfl ⟨rfl, trivial⟩ trivial ?_
  refine G.op1 (op_neI (Ev.t 7 (bI .i64 (s1_0.length : Int))) (Ev.t 9 (bI .i64 (s2_1.length : Int))) rfl) rfl ⟨rfl, rfl, trivial⟩ trivial ?_
  refine G.endOps ?_
  refine ifS hF (fun hc1 hF => ?_) (fun hc1 hF => ?_)
  · refine G.cond rfl (fun _ => ?_) (fun hx => by rw [hc1] at hx; cases hx)
    refine G.seq ?_
    refine G.region ?_
    refine G.op1 (op_assign (Ev.c _ rfl) rfl) rfl trivial trivial ?_
    refine G.endOps ?_
    cases hF
    exact G.ret1 Try.results62 (RVar.tmp 4 _) ⟨rfl, trivial⟩ trivial
  · refine G.cond rfl (fun hx => by rw [hc1] at hx; cases hx) (fun _ => ?_)
    refine G.skip ?_
    refine G.seq ?_
    refine G.seq ?_
    refine G.region ?_
    refine G.op1 (op_move (Ev.t 0 (.g (.d (.sl 3 (List.map encApi_Dep s1_0))))) rfl) rfl ⟨rfl, trivial⟩ trivial ?_
    refine G.op1 (OpL.cast (op_lenD Try.underlying24 (Ev.t 11 (.g (.d (.sl 3 (List.map encApi_Dep s1_0))))) rfl) (by rw [List.length_map])) rfl ⟨rfl, trivial⟩ trivial ?_
    refine G.op1 (op_move (Ev.c _ rfl) rfl) rfl trivial trivial ?_
    refine G.endOps ?_
    refine G.joinC (T := Unit) (fun y2 => ⟨[], []⟩) (fun y2 => slices_Equal_Dep_k1 y2 = some r) (fun y2 hF => ?_) (fun J3 => ?_)
    · unfold slices_Equal_Dep_k1 at hF
      refine G.seq ?_
      refine G.region ?_
      refine G.op1 (op_assign (Ev.c _ rfl) rfl) rfl trivial trivial ?_
      refine G.endOps ?_
      cases hF
      exact G.ret1 Try.results62 (RVar.tmp 4 _) ⟨rfl, trivial⟩ trivial
    refine G.block ?_
    refine G.keep (sl' := [(0, .one (.g (.d (.sl 3 (List.map encApi_Dep s1_0))))), (1, .one (.g (.d (.sl 3 (List.map encApi_Dep s2_1))))), (12, .one (bI .i64 (s1_0.length : Int))), (13, .one (bI .i64 0))]) (hp' := []) ⟨rfl, rfl, rfl, rfl, trivial⟩ trivial rfl ?_
    refine G.loopF (fun (v4 : Int) => ⟨[(0, .one (.g (.d (.sl 3 (List.map encApi_Dep s1_0))))), (1, .one (.g (.d (.sl 3 (List.map encApi_Dep s2_1))))), (12, .one (bI .i64 (s1_0.length : Int))), (13, .one (bI .i64 v4))], []⟩) hF rfl (fun K7 again6 v4 J5 hF => ?_)
    unfold slices_Equal_Dep_l2 at hF
    refine G.seq ?_
    refine G.region ?_
    refine G.op1 (op_lss (Ev.t 13 (bI .i64 v4)) (Ev.t 12 (bI .i64 (s1_0.length : Int))) rfl) rfl ⟨rfl, rfl, trivial⟩ trivial ?_
    refine G.endOps ?_
    refine G.seq ?_
    refine ifS hF (fun hc8 hF => ?_) (fun hc8 hF => ?_)
    · refine G.cond rfl (fun _ => ?_) (fun hx => by rw [hc8] at hx; cases hx)
      refine G.skip ?_
      refine G.seq ?_
      refine G.block ?_
      refine G.seq ?_
      refine G.region ?_
      refine G.op1 (op_move (Ev.t 13 (bI .i64 v4)) rfl) rfl ⟨rfl, trivial⟩ trivial ?_
      refine G.op1 (op_assign (Ev.t 15 (bI .i64 v4)) rfl) rfl ⟨rfl, trivial⟩ trivial ?_
      refine G.endOps ?_
      refine G.seq ?_
      obtain ⟨x9, hx9, hF⟩ := bindS hF
      obtain ⟨x10, hx10, hF⟩ := bindS hF
      refine G.drawn (effs := [⟨[(0, .one (.g (.d (.sl 3 (List.map encApi_Dep s1_0)))))], [], [(16, .one (.g (.d (.sl 3 (List.map encApi_Dep s1_0)))))], []⟩, ⟨[(5, .one (bI .i64 v4))], [], [(17, .one (bI .i64 v4))], []⟩, ⟨[(16, .one (.g (.d (.sl 3 (List.map encApi_Dep s1_0))))), (17, .one (bI .i64 v4))], [], [(18, .one (.ep [.v (.string x9.Key), .v (.int .i64 x9.Stamp.N), .v (.int .i64 x9.Stamp.Site)]))], []⟩, ⟨[(18, .one (.ep [.v (.string x9.Key), .v (.int .i64 x9.Stamp.N), .v (.int .i64 x9.Stamp.Site)]))], [], [(19, .one (.g (.agg [.v (.string x9.Key), .v (.int .i64 x9.Stamp.N), .v (.int .i64 x9.Stamp.Site)])))], []⟩, ⟨[(1, .one (.g (.d (.sl 3 (List.map encApi_Dep s2_1)))))], [], [(20, .one (.g (.d (.sl 3 (List.map encApi_Dep s2_1)))))], []⟩, ⟨[(5, .one (bI .i64 v4))], [], [(21, .one (bI .i64 v4))], []⟩, ⟨[(20, .one (.g (.d (.sl 3 (List.map encApi_Dep s2_1))))), (21, .one (bI .i64 v4))], [], [(22, .one (.ep [.v (.string x10.Key), .v (.int .i64 x10.Stamp.N), .v (.int .i64 x10.Stamp.Site)]))], []⟩, ⟨[(22, .one (.ep [.v (.string x10.Key), .v (.int .i64 x10.Stamp.N), .v (.int .i64 x10.Stamp.Site)]))], [], [(23, .one (.g (.agg [.v (.string x10.Key), .v (.int .i64 x10.Stamp.N), .v (.int .i64 x10.Stamp.Site)])))], []⟩, ⟨[(19, .one (.g (.agg [.v (.string x9.Key), .v (.int .i64 x9.Stamp.N), .v (.int .i64 x9.Stamp.Site)]))), (23, .one (.g (.agg [.v (.string x10.Key), .v (.int .i64 x10.Stamp.N), .v (.int .i64 x10.Stamp.Site)])))], [], [(24, .one (bB (!(decide (x9.Key = x10.Key) && decide (x9.Stamp.N = x10.Stamp.N) && decide (x9.Stamp.Site = x10.Stamp.Site)))))], []⟩]) (deps := [[], [], [0, 1], [0, 1, 2], [], [], [4, 5], [4, 5, 6], [0, 1, 2, 3, 4, 5, 6, 7]]) (sl' := [(0, .one (.g (.d (.sl 3 (List.map encApi_Dep s1_0))))), (1, .one (.g (.d (.sl 3 (List.map encApi_Dep s2_1))))), (12, .one (bI .i64 (s1_0.length : Int))), (13, .one (bI .i64 v4)), (24, .one (bB (!(decide (x9.Key = x10.Key) && decide (x9.Stamp.N = x10.Stamp.N) && decide (x9.Stamp.Site = x10.Stamp.Site)))))]) (hp' := []) follows rfl rfl rfl ⟨⟨rfl, trivial⟩, trivial, ⟨rfl, trivial⟩, trivial, ⟨rfl, rfl, trivial⟩, trivial, ⟨rfl, trivial⟩, trivial, ⟨rfl, trivial⟩, trivial, ⟨rfl, trivial⟩, trivial, ⟨rfl, rfl, trivial⟩, trivial, ⟨rfl, trivial⟩, trivial, ⟨rfl, rfl, trivial⟩, trivial, trivial⟩ ⟨OpW.plain (op_move (Ev.t 0 (.g (.d (.sl 3 (List.map encApi_Dep s1_0))))) rfl) rfl rfl, OpW.plain (op_move (Ev.t 5 (bI .i64 v4)) rfl) rfl rfl, OpW.plain (op_index (cs := [.v (.string x9.Key), .v (.int .i64 x9.Stamp.N), .v (.int .i64 x9.Stamp.Site)]) Try.underlying24 ti52 (idx_ok hx9).1 (idx_get hx9 encApi_Dep) (Ev.t 16 (.g (.d (.sl 3 (List.map encApi_Dep s1_0))))) (Ev.t 17 (bI .i64 v4)) rfl) rfl rfl, OpW.plain (op_loadAE (ds := [.v (.string x9.Key), .v (.int .i64 x9.Stamp.N), .v (.int .i64 x9.Stamp.Site)]) Try.underlying52 rfl ti52 rfl (Ev.t 18 (.ep [.v (.string x9.Key), .v (.int .i64 x9.Stamp.N), .v (.int .i64 x9.Stamp.Site)])) rfl) rfl rfl, OpW.plain (op_move (Ev.t 1 (.g (.d (.sl 3 (List.map encApi_Dep s2_1))))) rfl) rfl rfl, OpW.plain (op_move (Ev.t 5 (bI .i64 v4)) rfl) rfl rfl, OpW.plain (op_index (cs := [.v (.string x10.Key), .v (.int .i64 x10.Stamp.N), .v (.int .i64 x10.Stamp.Site)]) Try.underlying24 ti52 (idx_ok hx10).1 (idx_get hx10 encApi_Dep) (Ev.t 20 (.g (.d (.sl 3 (List.map encApi_Dep s2_1))))) (Ev.t 21 (bI .i64 v4)) rfl) rfl rfl, OpW.plain (op_loadAE (ds := [.v (.string x10.Key), .v (.int .i64 x10.Stamp.N), .v (.int .i64 x10.Stamp.Site)]) Try.underlying52 rfl ti52 rfl (Ev.t 22 (.ep [.v (.string x10.Key), .v (.int .i64 x10.Stamp.N), .v (.int .i64 x10.Stamp.Site)])) rfl) rfl rfl, OpW.plain (op_eqA (us := [.string x9.Key, .int .i64 x9.Stamp.N, .int .i64 x9.Stamp.Site]) (vs := [.string x10.Key, .int .i64 x10.Stamp.N, .int .i64 x10.Stamp.Site]) rfl rfl Try.eqGuardType52 (fun w => ne52 x9.Key x9.Stamp.N x9.Stamp.Site x10.Key x10.Stamp.N x10.Stamp.Site w) (Ev.t 19 (.g (.agg [.v (.string x9.Key), .v (.int .i64 x9.Stamp.N), .v (.int .i64 x9.Stamp.Site)]))) (Ev.t 23 (.g (.agg [.v (.string x10.Key), .v (.int .i64 x10.Stamp.N), .v (.int .i64 x10.Stamp.Site)]))) rfl) rfl rfl, trivial⟩ ⟨rfl, rfl, rfl, rfl, rfl, trivial⟩ trivial rfl ?_
      refine ifS hF (fun hc11 hF => ?_) (fun hc11 hF => ?_)
      · refine G.cond rfl (fun _ => ?_) (fun hx => by rw [hc11] at hx; cases hx)
        refine G.seq ?_
        refine G.region ?_
        refine G.op1 (op_assign (Ev.c _ rfl) rfl) rfl trivial trivial ?_
        refine G.endOps ?_
        cases hF
        exact G.ret1 Try.results62 (RVar.tmp 4 _) ⟨rfl, trivial⟩ trivial
      · refine G.cond rfl (fun hx => by rw [hc11] at hx; cases hx) (fun _ => ?_)
        refine G.skip ?_
        refine G.endBlock ?_
        refine G.region ?_
        refine G.op1 (op_add (Ev.t 13 (bI .i64 v4)) (Ev.c _ rfl) rfl) rfl ⟨rfl, trivial⟩ trivial ?_
        refine G.op1 (op_move (Ev.t 25 (bI .i64 (IntKind.wrap .i64 (v4 + 1)))) rfl) rfl ⟨rfl, trivial⟩ trivial ?_
        refine G.endOps ?_
        exact G.arr (J5 (IntKind.wrap .i64 (v4 + 1)) hF) ⟨rfl, rfl, rfl, rfl, trivial⟩ trivial rfl
    · refine G.cond rfl (fun hx => by rw [hc8] at hx; cases hx) (fun _ => ?_)
      refine G.exit ?_
      refine GX.c ?_
      refine GX.q ?_
      refine GX.bYes ?_
      exact G.arr (J3 () hF) trivial trivial rfl


set_option maxRecDepth 20000 in
set_option maxHeartbeats 2000000 in
theorem ct_past_Same (p_0 : (List Api_Dep)) (q_1 : (List Api_Dep)) (r : Bool) (hF : past_Same p_0 q_1 = some r) : Ct Try.prog 40 [.g (.d (.sl 3 (List.map encApi_Dep p_0))), .g (.d (.sl 3 (List.map encApi_Dep q_1)))] (.one (.d (.v (.bool r)))) := by
  unfold past_Same at hF
  refine Ct.intro Try.func40 rfl Try.ntmps40 rfl rfl fun M w => ?_
  refine G.seq ?_
  refine G.region ?_
  refine G.op1 (op_assign (Ev.c _ rfl) rfl) rfl trivial trivial ?_
  refine G.endOps ?_
  refine G.seq ?_
  refine G.region ?_
  refine G.op1 (op_move (Ev.t 0 (.g (.d (.sl 3 (List.map encApi_Dep p_0))))) rfl) rfl ⟨rfl, trivial⟩ trivial ?_
  refine G.op1 (op_move (Ev.t 1 (.g (.d (.sl 3 (List.map encApi_Dep q_1))))) rfl) rfl ⟨rfl, trivial⟩ trivial ?_
  obtain ⟨r1, hr1, hF⟩ := bindS hF
  refine G.op1 (op_callQ (sv := .one (bB r1)) cf62 (ct_slices_Equal_Dep p_0 q_1 r1 hr1) rfl rfl (EvQL.cons (EvQ.g (Ev.t 5 (.g (.d (.sl 3 (List.map encApi_Dep p_0)))))) (EvQL.cons (EvQ.g (Ev.t 6 (.g (.d (.sl 3 (List.map encApi_Dep q_1)))))) EvQL.nil)) rfl) rfl ⟨rfl, rfl, trivial⟩ trivial ?_
  refine G.op1 (op_assign (Ev.t 7 (bB r1)) rfl) rfl ⟨rfl, trivial⟩ trivial ?_
  refine G.endOps ?_
  cases hF
  exact G.ret1 Try.results40 (RVar.tmp 4 _) ⟨rfl, trivial⟩ trivial


set_option maxRecDepth 20000 in
set_option maxHeartbeats 2000000 in
theorem ct_wire_Same (a_0 : Api_Version) (b_1 : Api_Version) (r : Bool) (hF : wire_Same a_0 b_1 = some r) : Ct Try.prog 15 [.g (.agg (encApi_Version a_0)), .g (.agg (encApi_Version b_1))] (.one (.d (.v (.bool r)))) := by
  unfold wire_Same at hF
  refine Ct.intro Try.func15 rfl Try.ntmps15 rfl rfl fun M w => ?_
  refine G.seq ?_
  refine G.region ?_
  refine G.op2 (op_boxA (k := 1002) (Ev.t 0 (.g (.agg [.v (.string a_0.Key), .v (.string a_0.Value), .v (.bool a_0.Gone), .v (.int .i64 a_0.Stamp.N), .v (.int .i64 a_0.Stamp.Site), .sl 3 (List.map encApi_Dep a_0.Past)]))) rfl) rfl ⟨rfl, trivial⟩ ⟨rfl, trivial⟩ ?_
  refine G.op2 (op_boxA (k := 1003) (Ev.t 1 (.g (.agg [.v (.string b_1.Key), .v (.string b_1.Value), .v (.bool b_1.Gone), .v (.int .i64 b_1.Stamp.N), .v (.int .i64 b_1.Stamp.Site), .sl 3 (List.map encApi_Dep b_1.Past)]))) rfl) rfl ⟨rfl, trivial⟩ ⟨rfl, trivial⟩ ?_
  refine G.op1 (op_assign (Ev.c _ rfl) rfl) rfl trivial trivial ?_
  refine G.endOps ?_
  refine G.seq ?_
  refine G.region ?_
  refine G.op1 (op_fieldP (off' := 0) Try.underlying26 rfl ti9 (by decide) rfl (Ev.t 2 (.ptr 1002 0)) rfl) rfl ⟨rfl, trivial⟩ trivial ?_
  refine G.op1 (op_load1P (c := bS a_0.Key) Try.underlying9 rfl rfl (Ev.t 5 (.ptr 1002 0)) rfl) rfl ⟨rfl, trivial⟩ ⟨rfl, trivial⟩ ?_
  refine G.op1 (op_fieldP (off' := 0) Try.underlying26 rfl ti9 (by decide) rfl (Ev.t 3 (.ptr 1003 0)) rfl) rfl ⟨rfl, trivial⟩ trivial ?_
  refine G.op1 (op_load1P (c := bS b_1.Key) Try.underlying9 rfl rfl (Ev.t 7 (.ptr 1003 0)) rfl) rfl ⟨rfl, trivial⟩ ⟨rfl, trivial⟩ ?_
  refine G.op1 (op_eqS (Ev.t 6 (bS a_0.Key)) (Ev.t 8 (bS b_1.Key)) rfl) rfl ⟨rfl, rfl, trivial⟩ trivial ?_
  refine G.op1 (op_move (Ev.t 9 (bB (seq a_0.Key b_1.Key))) rfl) rfl ⟨rfl, trivial⟩ trivial ?_
  refine G.joinL (T := Bool) 6 (fun y1 => ⟨[(2, .one (.ptr 1002 0)), (3, .one (.ptr 1003 0)), (16, .one (bB y1))], [(1002, some (.blk 26 [bS a_0.Key, bS a_0.Value, bB a_0.Gone, bI .i64 a_0.Stamp.N, bI .i64 a_0.Stamp.Site, .g (.d (.sl 3 (List.map encApi_Dep a_0.Past)))])), (1003, some (.blk 26 [bS b_1.Key, bS b_1.Value, bB b_1.Gone, bI .i64 b_1.Stamp.N, bI .i64 b_1.Stamp.Site, .g (.d (.sl 3 (List.map encApi_Dep b_1.Past)))]))]⟩) (fun y1 => wire_Same_k1 a_0 b_1 y1 = some r) (fun y1 hF => ?_) (fun J10 => ?_)
  · unfold wire_Same_k1 at hF
    refine G.op1 (op_move (Ev.t 16 (bB y1)) rfl) rfl ⟨rfl, trivial⟩ trivial ?_
    refine G.joinL (T := Bool) 6 (fun y2 => ⟨[(2, .one (.ptr 1002 0)), (3, .one (.ptr 1003 0)), (23, .one (bB y2))], [(1002, some (.blk 26 [bS a_0.Key, bS a_0.Value, bB a_0.Gone, bI .i64 a_0.Stamp.N, bI .i64 a_0.Stamp.Site, .g (.d (.sl 3 (List.map encApi_Dep a_0.Past)))])), (1003, some (.blk 26 [bS b_1.Key, bS b_1.Value, bB b_1.Gone, bI .i64 b_1.Stamp.N, bI .i64 b_1.Stamp.Site, .g (.d (.sl 3 (List.map encApi_Dep b_1.Past)))]))]⟩) (fun y2 => wire_Same_k2 a_0 b_1 y2 = some r) (fun y2 hF => ?_) (fun J8 => ?_)
    · unfold wire_Same_k2 at hF
      refine G.op1 (op_move (Ev.t 23 (bB y2)) rfl) rfl ⟨rfl, trivial⟩ trivial ?_
      refine G.joinL (T := Bool) 6 (fun y3 => ⟨[(2, .one (.ptr 1002 0)), (3, .one (.ptr 1003 0)), (30, .one (bB y3))], [(1002, some (.blk 26 [bS a_0.Key, bS a_0.Value, bB a_0.Gone, bI .i64 a_0.Stamp.N, bI .i64 a_0.Stamp.Site, .g (.d (.sl 3 (List.map encApi_Dep a_0.Past)))])), (1003, some (.blk 26 [bS b_1.Key, bS b_1.Value, bB b_1.Gone, bI .i64 b_1.Stamp.N, bI .i64 b_1.Stamp.Site, .g (.d (.sl 3 (List.map encApi_Dep b_1.Past)))]))]⟩) (fun y3 => wire_Same_k3 a_0 b_1 y3 = some r) (fun y3 hF => ?_) (fun J6 => ?_)
      · unfold wire_Same_k3 at hF
        refine G.op1 (op_move (Ev.t 30 (bB y3)) rfl) rfl ⟨rfl, trivial⟩ trivial ?_
        refine ifS hF (fun hc4 hF => ?_) (fun hc4 hF => ?_)
        · refine G.known (t := 31) hc4 rfl ?_
          refine G.opG1 (op_fieldP (off' := 5) Try.underlying26 rfl ti24 (by decide) rfl (Ev.t 2 (.ptr 1002 0)) rfl) rfl rfl rfl ⟨rfl, trivial⟩ trivial ?_
          refine G.opG1 (op_load1P (c := .g (.d (.sl 3 (List.map encApi_Dep a_0.Past)))) Try.underlying24 rfl rfl (Ev.t 32 (.ptr 1002 5)) rfl) rfl rfl rfl ⟨rfl, trivial⟩ ⟨rfl, trivial⟩ ?_
          refine G.opG1 (op_fieldP (off' := 5) Try.underlying26 rfl ti24 (by decide) rfl (Ev.t 3 (.ptr 1003 0)) rfl) rfl rfl rfl ⟨rfl, trivial⟩ trivial ?_
          refine G.opG1 (op_load1P (c := .g (.d (.sl 3 (List.map encApi_Dep b_1.Past)))) Try.underlying24 rfl rfl (Ev.t 34 (.ptr 1003 5)) rfl) rfl rfl rfl ⟨rfl, trivial⟩ ⟨rfl, trivial⟩ ?_
          obtain ⟨r5, hr5, hF⟩ := bindS hF
          refine G.opG1 (op_callQ (sv := .one (bB r5)) cf40 (ct_past_Same a_0.Past b_1.Past r5 hr5) rfl rfl (EvQL.cons (EvQ.g (Ev.t 33 (.g (.d (.sl 3 (List.map encApi_Dep a_0.Past)))))) (EvQL.cons (EvQ.g (Ev.t 35 (.g (.d (.sl 3 (List.map encApi_Dep b_1.Past)))))) EvQL.nil)) rfl) rfl rfl rfl ⟨rfl, rfl, trivial⟩ trivial ?_
          refine G.op1 (op_pickT (Ev.t 31 (bB true)) (Ev.t 36 (bB r5)) rfl) rfl ⟨rfl, rfl, trivial⟩ trivial ?_
          refine G.op1 (op_assign (Ev.t 37 (bB r5)) rfl) rfl ⟨rfl, trivial⟩ trivial ?_
          refine G.endOps ?_
          cases hF
          exact G.ret1 Try.results15 (RVar.tmp 4 _) ⟨rfl, trivial⟩ trivial
        · refine G.known (t := 31) hc4 rfl ?_
          refine G.opN1 rfl rfl rfl rfl rfl ?_
          refine G.opN1 rfl rfl rfl rfl rfl ?_
          refine G.opN1 rfl rfl rfl rfl rfl ?_
          refine G.opN1 rfl rfl rfl rfl rfl ?_
          refine G.opN1 rfl rfl rfl rfl rfl ?_
          refine G.op1 (op_pickF (Ev.t 31 (bB false)) (Ev.c _ rfl) rfl) rfl ⟨rfl, trivial⟩ trivial ?_
          refine G.op1 (op_assign (Ev.t 37 (bB false)) rfl) rfl ⟨rfl, trivial⟩ trivial ?_
          refine G.endOps ?_
          cases hF
          exact G.ret1 Try.results15 (RVar.tmp 4 _) ⟨rfl, trivial⟩ trivial
      refine ifS hF (fun hc7 hF => ?_) (fun hc7 hF => ?_)
      · refine G.known (t := 24) hc7 rfl ?_
        refine G.opG1 (op_fieldP (off' := 3) Try.underlying26 rfl ti23 (by decide) rfl (Ev.t 2 (.ptr 1002 0)) rfl) rfl rfl rfl ⟨rfl, trivial⟩ trivial ?_
        refine G.opG1 (op_loadAP (ds := [.v (.int .i64 a_0.Stamp.N), .v (.int .i64 a_0.Stamp.Site)]) Try.underlying23 rfl ti23 rfl (Ev.t 25 (.ptr 1002 3)) rfl) rfl rfl rfl ⟨rfl, trivial⟩ ⟨rfl, trivial⟩ ?_
        refine G.opG1 (op_fieldP (off' := 3) Try.underlying26 rfl ti23 (by decide) rfl (Ev.t 3 (.ptr 1003 0)) rfl) rfl rfl rfl ⟨rfl, trivial⟩ trivial ?_
        refine G.opG1 (op_loadAP (ds := [.v (.int .i64 b_1.Stamp.N), .v (.int .i64 b_1.Stamp.Site)]) Try.underlying23 rfl ti23 rfl (Ev.t 27 (.ptr 1003 3)) rfl) rfl rfl rfl ⟨rfl, trivial⟩ ⟨rfl, trivial⟩ ?_
        refine G.opG1 (op_eqA (us := [.int .i64 a_0.Stamp.N, .int .i64 a_0.Stamp.Site]) (vs := [.int .i64 b_1.Stamp.N, .int .i64 b_1.Stamp.Site]) rfl rfl Try.eqGuardType23 (fun w => eq23 a_0.Stamp.N a_0.Stamp.Site b_1.Stamp.N b_1.Stamp.Site w) (Ev.t 26 (.g (.agg [.v (.int .i64 a_0.Stamp.N), .v (.int .i64 a_0.Stamp.Site)]))) (Ev.t 28 (.g (.agg [.v (.int .i64 b_1.Stamp.N), .v (.int .i64 b_1.Stamp.Site)]))) rfl) rfl rfl rfl ⟨rfl, rfl, trivial⟩ trivial ?_
        refine G.op1 (op_pickT (Ev.t 24 (bB true)) (Ev.t 29 (bB (decide (a_0.Stamp.N = b_1.Stamp.N) && decide (a_0.Stamp.Site = b_1.Stamp.Site)))) rfl) rfl ⟨rfl, rfl, trivial⟩ trivial ?_
        exact G.arr (J6 (decide (a_0.Stamp.N = b_1.Stamp.N) && decide (a_0.Stamp.Site = b_1.Stamp.Site)) hF) ⟨rfl, rfl, rfl, trivial⟩ ⟨rfl, rfl, trivial⟩ rfl
      · refine G.known (t := 24) hc7 rfl ?_
        refine G.opN1 rfl rfl rfl rfl rfl ?_
        refine G.opN1 rfl rfl rfl rfl rfl ?_
        refine G.opN1 rfl rfl rfl rfl rfl ?_
        refine G.opN1 rfl rfl rfl rfl rfl ?_
        refine G.opN1 rfl rfl rfl rfl rfl ?_
        refine G.op1 (op_pickF (Ev.t 24 (bB false)) (Ev.c _ rfl) rfl) rfl ⟨rfl, trivial⟩ trivial ?_
        exact G.arr (J6 false hF) ⟨rfl, rfl, rfl, trivial⟩ ⟨rfl, rfl, trivial⟩ rfl
    refine ifS hF (fun hc9 hF => ?_) (fun hc9 hF => ?_)
    · refine G.known (t := 17) hc9 rfl ?_
      refine G.opG1 (op_fieldP (off' := 2) Try.underlying26 rfl ti4 (by decide) rfl (Ev.t 2 (.ptr 1002 0)) rfl) rfl rfl rfl ⟨rfl, trivial⟩ trivial ?_
      refine G.opG1 (op_load1P (c := bB a_0.Gone) Try.underlying4 rfl rfl (Ev.t 18 (.ptr 1002 2)) rfl) rfl rfl rfl ⟨rfl, trivial⟩ ⟨rfl, trivial⟩ ?_
      refine G.opG1 (op_fieldP (off' := 2) Try.underlying26 rfl ti4 (by decide) rfl (Ev.t 3 (.ptr 1003 0)) rfl) rfl rfl rfl ⟨rfl, trivial⟩ trivial ?_
      refine G.opG1 (op_load1P (c := bB b_1.Gone) Try.underlying4 rfl rfl (Ev.t 20 (.ptr 1003 2)) rfl) rfl rfl rfl ⟨rfl, trivial⟩ ⟨rfl, trivial⟩ ?_
      refine G.opG1 (op_eqB Try.underlying4 (Ev.t 19 (bB a_0.Gone)) (Ev.t 21 (bB b_1.Gone)) rfl) rfl rfl rfl ⟨rfl, rfl, trivial⟩ trivial ?_
      refine G.op1 (op_pickT (Ev.t 17 (bB true)) (Ev.t 22 (bB (a_0.Gone == b_1.Gone))) rfl) rfl ⟨rfl, rfl, trivial⟩ trivial ?_
      exact G.arr (J8 (a_0.Gone == b_1.Gone) hF) ⟨rfl, rfl, rfl, trivial⟩ ⟨rfl, rfl, trivial⟩ rfl
    · refine G.known (t := 17) hc9 rfl ?_
      refine G.opN1 rfl rfl rfl rfl rfl ?_
      refine G.opN1 rfl rfl rfl rfl rfl ?_
      refine G.opN1 rfl rfl rfl rfl rfl ?_
      refine G.opN1 rfl rfl rfl rfl rfl ?_
      refine G.opN1 rfl rfl rfl rfl rfl ?_
      refine G.op1 (op_pickF (Ev.t 17 (bB false)) (Ev.c _ rfl) rfl) rfl ⟨rfl, trivial⟩ trivial ?_
      exact G.arr (J8 false hF) ⟨rfl, rfl, rfl, trivial⟩ ⟨rfl, rfl, trivial⟩ rfl
  refine ifS hF (fun hc11 hF => ?_) (fun hc11 hF => ?_)
  · refine G.known (t := 10) hc11 rfl ?_
    refine G.opG1 (op_fieldP (off' := 1) Try.underlying26 rfl ti9 (by decide) rfl (Ev.t 2 (.ptr 1002 0)) rfl) rfl rfl rfl ⟨rfl, trivial⟩ trivial ?_
    refine G.opG1 (op_load1P (c := bS a_0.Value) Try.underlying9 rfl rfl (Ev.t 11 (.ptr 1002 1)) rfl) rfl rfl rfl ⟨rfl, trivial⟩ ⟨rfl, trivial⟩ ?_
    refine G.opG1 (op_fieldP (off' := 1) Try.underlying26 rfl ti9 (by decide) rfl (Ev.t 3 (.ptr 1003 0)) rfl) rfl rfl rfl ⟨rfl, trivial⟩ trivial ?_
    refine G.opG1 (op_load1P (c := bS b_1.Value) Try.underlying9 rfl rfl (Ev.t 13 (.ptr 1003 1)) rfl) rfl rfl rfl ⟨rfl, trivial⟩ ⟨rfl, trivial⟩ ?_
    refine G.opG1 (op_eqS (Ev.t 12 (bS a_0.Value)) (Ev.t 14 (bS b_1.Value)) rfl) rfl rfl rfl ⟨rfl, rfl, trivial⟩ trivial ?_
    refine G.op1 (op_pickT (Ev.t 10 (bB true)) (Ev.t 15 (bB (seq a_0.Value b_1.Value))) rfl) rfl ⟨rfl, rfl, trivial⟩ trivial ?_
    exact G.arr (J10 (seq a_0.Value b_1.Value) hF) ⟨rfl, rfl, rfl, trivial⟩ ⟨rfl, rfl, trivial⟩ rfl
  · refine G.known (t := 10) hc11 rfl ?_
    refine G.opN1 rfl rfl rfl rfl rfl ?_
    refine G.opN1 rfl rfl rfl rfl rfl ?_
    refine G.opN1 rfl rfl rfl rfl rfl ?_
    refine G.opN1 rfl rfl rfl rfl rfl ?_
    refine G.opN1 rfl rfl rfl rfl rfl ?_
    refine G.op1 (op_pickF (Ev.t 10 (bB false)) (Ev.c _ rfl) rfl) rfl ⟨rfl, trivial⟩ trivial ?_
    exact G.arr (J10 false hF) ⟨rfl, rfl, rfl, trivial⟩ ⟨rfl, rfl, trivial⟩ rfl


set_option maxRecDepth 20000 in
set_option maxHeartbeats 2000000 in
theorem ct_law06_awake (r : Bool) (hF : law06_awake = some r) : Ct Try.prog 9 [] (.one (.d (.v (.bool r)))) := by
  unfold law06_awake at hF
  refine Ct.intro Try.func9 rfl Try.ntmps9 rfl rfl fun M w => ?_
  refine G.seq ?_
  refine G.region ?_
  refine G.op1 (op_assign (Ev.c _ rfl) rfl) rfl trivial trivial ?_
  refine G.endOps ?_
  refine G.seq ?_
  refine G.region ?_
  refine G.op1 (op_build (zs := [.v (.int .i64 0), .v (.int .i64 0)]) (ds := [.v (.int .i64 3), .v (.int .i64 2)]) Try.underlying23 ti23 (pl23 _ Try.underlying23) ⟨.v _ rfl, .v _ rfl, trivial⟩ (EvP.cons (Ev.c _ rfl) (EvP.cons (Ev.c _ rfl) EvP.nil)) rfl rfl) rfl trivial trivial ?_
  refine G.op1 (op_build (zs := [.v (.string ByteArray.empty), .v (.string ByteArray.empty), .v (.bool false), .v (.int .i64 0), .v (.int .i64 0), .sl 3 (List.map encApi_Dep ([] : (List Api_Dep)))]) (ds := [.v (.string (ByteArray.mk #[97])), .v (.string (ByteArray.mk #[98])), .v (.bool false), .v (.int .i64 3), .v (.int .i64 2), .sl 3 (List.map encApi_Dep ([] : (List Api_Dep)))]) Try.underlying26 ti26 (pl26 _ Try.underlying26) ⟨.v _ rfl, .v _ rfl, .v _ rfl, .v _ rfl, .v _ rfl, .n 3, trivial⟩ (EvP.cons (Ev.c _ rfl) (EvP.cons (Ev.c _ rfl) (EvP.cons (Ev.t 4 (.g (.agg [.v (.int .i64 3), .v (.int .i64 2)]))) EvP.nil))) rfl rfl) rfl ⟨rfl, trivial⟩ trivial ?_
  refine G.op2 (op_alloc (k := 1001) (cs := [bS ByteArray.empty, bS ByteArray.empty, bB false, bI .i64 0, bI .i64 0, .g (.d (.sl 3 (List.map encApi_Dep ([] : (List Api_Dep)))))]) ti26 ⟨.v _ rfl, .v _ rfl, .v _ rfl, .v _ rfl, .v _ rfl, .n 3, trivial⟩ rfl) rfl trivial ⟨rfl, trivial⟩ ?_
  refine G.op3 (op_storeA (cs' := [bS (ByteArray.mk #[97]), bS (ByteArray.mk #[98]), bB false, bI .i64 3, bI .i64 2, .g (.d (.sl 3 (List.map encApi_Dep ([] : (List Api_Dep)))))]) ti26 rfl rfl (Ev.t 1 (.ptr 1001 0)) (Ev.t 5 (.g (.agg [.v (.string (ByteArray.mk #[97])), .v (.string (ByteArray.mk #[98])), .v (.bool false), .v (.int .i64 3), .v (.int .i64 2), .sl 3 (List.map encApi_Dep ([] : (List Api_Dep)))])))) rfl ⟨rfl, rfl, trivial⟩ ⟨rfl, trivial⟩ ?_
  refine G.endOps ?_
  refine G.seq ?_
  refine G.region ?_
  obtain ⟨r1, hr1, hF⟩ := bindS hF
  refine G.op1 (op_call (sv := .tup [.g (.agg [.v (.string r1.1.Key), .v (.string r1.1.Value), .v (.bool r1.1.Gone), .v (.int .i64 r1.1.Stamp.N), .v (.int .i64 r1.1.Stamp.Site), .sl 3 (List.map encApi_Dep r1.1.Past)]), bB r1.2]) cf17 (ct_wire_Read (ByteArray.mk #[1, 97, 0, 1, 98, 3, 2, 0]) r1 hr1) rfl (EvL.cons (Ev.c _ rfl) EvL.nil) rfl) rfl trivial trivial ?_
  refine G.op1 (op_moveS (t := 7) (sv := .tup [.g (.agg [.v (.string r1.1.Key), .v (.string r1.1.Value), .v (.bool r1.1.Gone), .v (.int .i64 r1.1.Stamp.N), .v (.int .i64 r1.1.Stamp.Site), .sl 3 (List.map encApi_Dep r1.1.Past)]), bB r1.2]) rfl) rfl ⟨rfl, trivial⟩ trivial ?_
  refine G.op1 (op_extract (l := [.g (.agg [.v (.string r1.1.Key), .v (.string r1.1.Value), .v (.bool r1.1.Gone), .v (.int .i64 r1.1.Stamp.N), .v (.int .i64 r1.1.Stamp.Site), .sl 3 (List.map encApi_Dep r1.1.Past)]), bB r1.2]) (c := .g (.agg [.v (.string r1.1.Key), .v (.string r1.1.Value), .v (.bool r1.1.Gone), .v (.int .i64 r1.1.Stamp.N), .v (.int .i64 r1.1.Stamp.Site), .sl 3 (List.map encApi_Dep r1.1.Past)])) rfl rfl) rfl ⟨rfl, trivial⟩ trivial ?_
  refine G.op1 (op_extract (l := [.g (.agg [.v (.string r1.1.Key), .v (.string r1.1.Value), .v (.bool r1.1.Gone), .v (.int .i64 r1.1.Stamp.N), .v (.int .i64 r1.1.Stamp.Site), .sl 3 (List.map encApi_Dep r1.1.Past)]), bB r1.2]) (c := bB r1.2) rfl rfl) rfl ⟨rfl, trivial⟩ trivial ?_
  refine G.op2 (op_alloc (k := 1002) (cs := [bS ByteArray.empty, bS ByteArray.empty, bB false, bI .i64 0, bI .i64 0, .g (.d (.sl 3 (List.map encApi_Dep ([] : (List Api_Dep)))))]) ti26 ⟨.v _ rfl, .v _ rfl, .v _ rfl, .v _ rfl, .v _ rfl, .n 3, trivial⟩ rfl) rfl trivial ⟨rfl, trivial⟩ ?_
  refine G.op3 (op_storeA (cs' := [bS r1.1.Key, bS r1.1.Value, bB r1.1.Gone, bI .i64 r1.1.Stamp.N, bI .i64 r1.1.Stamp.Site, .g (.d (.sl 3 (List.map encApi_Dep r1.1.Past)))]) ti26 rfl rfl (Ev.t 2 (.ptr 1002 0)) (Ev.t 8 (.g (.agg [.v (.string r1.1.Key), .v (.string r1.1.Value), .v (.bool r1.1.Gone), .v (.int .i64 r1.1.Stamp.N), .v (.int .i64 r1.1.Stamp.Site), .sl 3 (List.map encApi_Dep r1.1.Past)])))) rfl ⟨rfl, rfl, trivial⟩ ⟨rfl, trivial⟩ ?_
  refine G.op1 (op_assign (Ev.t 9 (bB r1.2)) rfl) rfl ⟨rfl, trivial⟩ trivial ?_
  refine G.endOps ?_
  refine G.seq ?_
  refine G.region ?_
  refine G.op1 (op_loadAP (ds := [.v (.string (ByteArray.mk #[97])), .v (.string (ByteArray.mk #[98])), .v (.bool false), .v (.int .i64 3), .v (.int .i64 2), .sl 3 (List.map encApi_Dep ([] : (List Api_Dep)))]) Try.underlying26 rfl ti26 rfl (Ev.t 1 (.ptr 1001 0)) rfl) rfl ⟨rfl, trivial⟩ ⟨rfl, trivial⟩ ?_
  obtain ⟨r2, hr2, hF⟩ := bindS hF
  refine G.op1 (op_callQ (sv := .one (bS r2)) cf13 (ct_wire_Bytes (Api_Version.mk (ByteArray.mk #[97]) (ByteArray.mk #[98]) false (Api_Stamp.mk 3 2) ([] : (List Api_Dep))) r2 hr2) rfl rfl (EvQL.cons (EvQ.g (Ev.t 10 (.g (.agg [.v (.string (ByteArray.mk #[97])), .v (.string (ByteArray.mk #[98])), .v (.bool false), .v (.int .i64 3), .v (.int .i64 2), .sl 3 (List.map encApi_Dep ([] : (List Api_Dep)))])))) EvQL.nil) rfl) rfl ⟨rfl, trivial⟩ trivial ?_
  refine G.op1 (op_eqS (Ev.t 11 (bS r2)) (Ev.c _ rfl) rfl) rfl ⟨rfl, trivial⟩ trivial ?_
  refine G.op1 (op_move (Ev.t 12 (bB (seq r2 (ByteArray.mk #[1, 97, 0, 1, 98, 3, 2, 0])))) rfl) rfl ⟨rfl, trivial⟩ trivial ?_
  refine G.joinL (T := Bool) 2 (fun y3 => ⟨[(1, .one (.ptr 1001 0)), (2, .one (.ptr 1002 0)), (15, .one (bB y3))], [(1001, some (.blk 26 [bS (ByteArray.mk #[97]), bS (ByteArray.mk #[98]), bB false, bI .i64 3, bI .i64 2, .g (.d (.sl 3 (List.map encApi_Dep ([] : (List Api_Dep)))))])), (1002, some (.blk 26 [bS r1.1.Key, bS r1.1.Value, bB r1.1.Gone, bI .i64 r1.1.Stamp.N, bI .i64 r1.1.Stamp.Site, .g (.d (.sl 3 (List.map encApi_Dep r1.1.Past)))]))]⟩) (fun y3 => law06_awake_k1 r1 y3 = some r) (fun y3 hF => ?_) (fun J6 => ?_)
  · unfold law06_awake_k1 at hF
    refine G.op1 (op_move (Ev.t 15 (bB y3)) rfl) rfl ⟨rfl, trivial⟩ trivial ?_
    refine ifS hF (fun hc4 hF => ?_) (fun hc4 hF => ?_)
    · refine G.known (t := 16) hc4 rfl ?_
      refine G.opG1 (op_loadAP (ds := [.v (.string (ByteArray.mk #[97])), .v (.string (ByteArray.mk #[98])), .v (.bool false), .v (.int .i64 3), .v (.int .i64 2), .sl 3 (List.map encApi_Dep ([] : (List Api_Dep)))]) Try.underlying26 rfl ti26 rfl (Ev.t 1 (.ptr 1001 0)) rfl) rfl rfl rfl ⟨rfl, trivial⟩ ⟨rfl, trivial⟩ ?_
      refine G.opG1 (op_loadAP (ds := [.v (.string r1.1.Key), .v (.string r1.1.Value), .v (.bool r1.1.Gone), .v (.int .i64 r1.1.Stamp.N), .v (.int .i64 r1.1.Stamp.Site), .sl 3 (List.map encApi_Dep r1.1.Past)]) Try.underlying26 rfl ti26 rfl (Ev.t 2 (.ptr 1002 0)) rfl) rfl rfl rfl ⟨rfl, trivial⟩ ⟨rfl, trivial⟩ ?_
      obtain ⟨r5, hr5, hF⟩ := bindS hF
      refine G.opG1 (op_callQ (sv := .one (bB r5)) cf15 (ct_wire_Same (Api_Version.mk (ByteArray.mk #[97]) (ByteArray.mk #[98]) false (Api_Stamp.mk 3 2) ([] : (List Api_Dep))) r1.1 r5 hr5) rfl rfl (EvQL.cons (EvQ.g (Ev.t 17 (.g (.agg [.v (.string (ByteArray.mk #[97])), .v (.string (ByteArray.mk #[98])), .v (.bool false), .v (.int .i64 3), .v (.int .i64 2), .sl 3 (List.map encApi_Dep ([] : (List Api_Dep)))])))) (EvQL.cons (EvQ.g (Ev.t 18 (.g (.agg [.v (.string r1.1.Key), .v (.string r1.1.Value), .v (.bool r1.1.Gone), .v (.int .i64 r1.1.Stamp.N), .v (.int .i64 r1.1.Stamp.Site), .sl 3 (List.map encApi_Dep r1.1.Past)])))) EvQL.nil)) rfl) rfl rfl rfl ⟨rfl, rfl, trivial⟩ trivial ?_
      refine G.op1 (op_pickT (Ev.t 16 (bB true)) (Ev.t 19 (bB r5)) rfl) rfl ⟨rfl, rfl, trivial⟩ trivial ?_
      refine G.op1 (op_assign (Ev.t 20 (bB r5)) rfl) rfl ⟨rfl, trivial⟩ trivial ?_
      refine G.endOps ?_
      cases hF
      exact G.ret1 Try.results9 (RVar.tmp 0 _) ⟨rfl, trivial⟩ trivial
    · refine G.known (t := 16) hc4 rfl ?_
      refine G.opN1 rfl rfl rfl rfl rfl ?_
      refine G.opN1 rfl rfl rfl rfl rfl ?_
      refine G.opN1 rfl rfl rfl rfl rfl ?_
      refine G.op1 (op_pickF (Ev.t 16 (bB false)) (Ev.c _ rfl) rfl) rfl ⟨rfl, trivial⟩ trivial ?_
      refine G.op1 (op_assign (Ev.t 20 (bB false)) rfl) rfl ⟨rfl, trivial⟩ trivial ?_
      refine G.endOps ?_
      cases hF
      exact G.ret1 Try.results9 (RVar.tmp 0 _) ⟨rfl, trivial⟩ trivial
  refine ifS hF (fun hc7 hF => ?_) (fun hc7 hF => ?_)
  · refine G.known (t := 13) hc7 rfl ?_
    refine G.opG1 (op_move (Ev.t 3 (bB r1.2)) rfl) rfl rfl rfl ⟨rfl, trivial⟩ trivial ?_
    refine G.op1 (op_pickT (Ev.t 13 (bB true)) (Ev.t 14 (bB r1.2)) rfl) rfl ⟨rfl, rfl, trivial⟩ trivial ?_
    exact G.arr (J6 r1.2 hF) ⟨rfl, rfl, rfl, trivial⟩ ⟨rfl, rfl, trivial⟩ rfl
  · refine G.known (t := 13) hc7 rfl ?_
    refine G.opN1 rfl rfl rfl rfl rfl ?_
    refine G.op1 (op_pickF (Ev.t 13 (bB false)) (Ev.c _ rfl) rfl) rfl ⟨rfl, trivial⟩ trivial ?_
    exact G.arr (J6 false hF) ⟨rfl, rfl, rfl, trivial⟩ ⟨rfl, rfl, trivial⟩ rfl


set_option maxRecDepth 20000 in
set_option maxHeartbeats 2000000 in
theorem ct_ref02_long (c_0 : Int) (r : Int) (hF : ref02_long c_0 = some r) : Ct Try.prog 72 [.g (.d (.v (.int .u8 c_0)))] (.one (.d (.v (.int .i64 r)))) := by
  unfold ref02_long at hF
  refine Ct.intro Try.func72 rfl Try.ntmps72 rfl rfl fun M w => ?_
  refine G.seq ?_
  refine G.region ?_
  refine G.op1 (op_assign (Ev.c _ rfl) rfl) rfl trivial trivial ?_
  refine G.endOps ?_
  refine G.seq ?_
  refine G.seq ?_
  refine G.region ?_
  refine G.op1 (op_move (Ev.t 0 (bI .u8 c_0)) rfl) rfl ⟨rfl, trivial⟩ trivial ?_
  refine G.op1 (op_lss (Ev.t 3 (bI .u8 c_0)) (Ev.c _ rfl) rfl) rfl ⟨rfl, trivial⟩ trivial ?_
  refine G.endOps ?_
  refine ifS hF (fun hc1 hF => ?_) (fun hc1 hF => ?_)
  · refine G.cond rfl (fun _ => ?_) (fun hx => by rw [hc1] at hx; cases hx)
    refine G.seq ?_
    refine G.region ?_
    refine G.op1 (op_assign (Ev.c _ rfl) rfl) rfl trivial trivial ?_
    refine G.endOps ?_
    cases hF
    exact G.ret1 Try.results72 (RVar.tmp 2 _) ⟨rfl, trivial⟩ trivial
  · refine G.cond rfl (fun hx => by rw [hc1] at hx; cases hx) (fun _ => ?_)
    refine G.skip ?_
    refine G.seq ?_
    refine G.seq ?_
    refine G.joinC (T := Bool) (fun y2 => ⟨[(0, .one (bI .u8 c_0)), (10, .one (bB y2))], []⟩) (fun y2 => ref02_long_k1 c_0 y2 = some r) (fun y2 hF => ?_) (fun J10 => ?_)
    · unfold ref02_long_k1 at hF
      refine ifS hF (fun hc3 hF => ?_) (fun hc3 hF => ?_)
      · refine G.cond rfl (fun _ => ?_) (fun hx => by rw [hc3] at hx; cases hx)
        refine G.seq ?_
        refine G.region ?_
        refine G.op1 (op_assign (Ev.c _ rfl) rfl) rfl trivial trivial ?_
        refine G.endOps ?_
        cases hF
        exact G.ret1 Try.results72 (RVar.tmp 2 _) ⟨rfl, trivial⟩ trivial
      · refine G.cond rfl (fun hx => by rw [hc3] at hx; cases hx) (fun _ => ?_)
        refine G.skip ?_
        refine G.seq ?_
        refine G.seq ?_
        refine G.joinC (T := Bool) (fun y4 => ⟨[(0, .one (bI .u8 c_0)), (16, .one (bB y4))], []⟩) (fun y4 => ref02_long_k2 c_0 y4 = some r) (fun y4 hF => ?_) (fun J8 => ?_)
        · unfold ref02_long_k2 at hF
          refine ifS hF (fun hc5 hF => ?_) (fun hc5 hF => ?_)
          · refine G.cond rfl (fun _ => ?_) (fun hx => by rw [hc5] at hx; cases hx)
            refine G.seq ?_
            refine G.region ?_
            refine G.op1 (op_assign (Ev.c _ rfl) rfl) rfl trivial trivial ?_
            refine G.endOps ?_
            cases hF
            exact G.ret1 Try.results72 (RVar.tmp 2 _) ⟨rfl, trivial⟩ trivial
          · refine G.cond rfl (fun hx => by rw [hc5] at hx; cases hx) (fun _ => ?_)
            refine G.skip ?_
            refine G.seq ?_
            refine G.seq ?_
            refine G.region ?_
            refine G.op1 (op_move (Ev.t 0 (bI .u8 c_0)) rfl) rfl ⟨rfl, trivial⟩ trivial ?_
            refine G.op1 (op_geq (Ev.t 17 (bI .u8 c_0)) (Ev.c _ rfl) rfl) rfl ⟨rfl, trivial⟩ trivial ?_
            refine G.op1 (op_move (Ev.t 18 (bB (decide (240 ≤ c_0)))) rfl) rfl ⟨rfl, trivial⟩ trivial ?_
            refine ifS hF (fun hc6 hF => ?_) (fun hc6 hF => ?_)
            · refine G.known (t := 19) hc6 rfl ?_
              refine G.opG1 (op_move (Ev.t 0 (bI .u8 c_0)) rfl) rfl rfl rfl ⟨rfl, trivial⟩ trivial ?_
              refine G.opG1 (op_leq (Ev.t 20 (bI .u8 c_0)) (Ev.c _ rfl) rfl) rfl rfl rfl ⟨rfl, trivial⟩ trivial ?_
              refine G.op1 (op_pickT (Ev.t 19 (bB true)) (Ev.t 21 (bB (decide (c_0 ≤ 244)))) rfl) rfl ⟨rfl, rfl, trivial⟩ trivial ?_
              refine G.endOps ?_
              refine ifS hF (fun hc7 hF => ?_) (fun hc7 hF => ?_)
              · refine G.cond rfl (fun _ => ?_) (fun hx => by rw [hc7] at hx; cases hx)
                refine G.seq ?_
                refine G.region ?_
                refine G.op1 (op_assign (Ev.c _ rfl) rfl) rfl trivial trivial ?_
                refine G.endOps ?_
                cases hF
                exact G.ret1 Try.results72 (RVar.tmp 2 _) ⟨rfl, trivial⟩ trivial
              · refine G.cond rfl (fun hx => by rw [hc7] at hx; cases hx) (fun _ => ?_)
                refine G.skip ?_
                refine G.seq ?_
                refine G.region ?_
                refine G.op1 (op_assign (Ev.c _ rfl) rfl) rfl trivial trivial ?_
                refine G.endOps ?_
                cases hF
                exact G.ret1 Try.results72 (RVar.tmp 2 _) ⟨rfl, trivial⟩ trivial
            · refine G.known (t := 19) hc6 rfl ?_
              refine G.opN1 rfl rfl rfl rfl rfl ?_
              refine G.opN1 rfl rfl rfl rfl rfl ?_
              refine G.op1 (op_pickF (Ev.t 19 (bB false)) (Ev.c _ rfl) rfl) rfl ⟨rfl, trivial⟩ trivial ?_
              refine G.endOps ?_
              refine G.condF rfl ?_
              refine G.skip ?_
              refine G.seq ?_
              refine G.region ?_
              refine G.op1 (op_assign (Ev.c _ rfl) rfl) rfl trivial trivial ?_
              refine G.endOps ?_
              cases hF
              exact G.ret1 Try.results72 (RVar.tmp 2 _) ⟨rfl, trivial⟩ trivial
        refine G.region ?_
        refine G.op1 (op_move (Ev.t 0 (bI .u8 c_0)) rfl) rfl ⟨rfl, trivial⟩ trivial ?_
        refine G.op1 (op_geq (Ev.t 11 (bI .u8 c_0)) (Ev.c _ rfl) rfl) rfl ⟨rfl, trivial⟩ trivial ?_
        refine G.op1 (op_move (Ev.t 12 (bB (decide (224 ≤ c_0)))) rfl) rfl ⟨rfl, trivial⟩ trivial ?_
        refine ifS hF (fun hc9 hF => ?_) (fun hc9 hF => ?_)
        · refine G.known (t := 13) hc9 rfl ?_
          refine G.opG1 (op_move (Ev.t 0 (bI .u8 c_0)) rfl) rfl rfl rfl ⟨rfl, trivial⟩ trivial ?_
          refine G.opG1 (op_leq (Ev.t 14 (bI .u8 c_0)) (Ev.c _ rfl) rfl) rfl rfl rfl ⟨rfl, trivial⟩ trivial ?_
          refine G.op1 (op_pickT (Ev.t 13 (bB true)) (Ev.t 15 (bB (decide (c_0 ≤ 239)))) rfl) rfl ⟨rfl, rfl, trivial⟩ trivial ?_
          refine G.endOps ?_
          exact G.arr (J8 (decide (c_0 ≤ 239)) hF) ⟨rfl, rfl, trivial⟩ trivial rfl
        · refine G.known (t := 13) hc9 rfl ?_
          refine G.opN1 rfl rfl rfl rfl rfl ?_
          refine G.opN1 rfl rfl rfl rfl rfl ?_
          refine G.op1 (op_pickF (Ev.t 13 (bB false)) (Ev.c _ rfl) rfl) rfl ⟨rfl, trivial⟩ trivial ?_
          refine G.endOps ?_
          exact G.arr (J8 false hF) ⟨rfl, rfl, trivial⟩ trivial rfl
    refine G.region ?_
    refine G.op1 (op_move (Ev.t 0 (bI .u8 c_0)) rfl) rfl ⟨rfl, trivial⟩ trivial ?_
    refine G.op1 (op_geq (Ev.t 5 (bI .u8 c_0)) (Ev.c _ rfl) rfl) rfl ⟨rfl, trivial⟩ trivial ?_
    refine G.op1 (op_move (Ev.t 6 (bB (decide (194 ≤ c_0)))) rfl) rfl ⟨rfl, trivial⟩ trivial ?_
    refine ifS hF (fun hc11 hF => ?_) (fun hc11 hF => ?_)
    · refine G.known (t := 7) hc11 rfl ?_
      refine G.opG1 (op_move (Ev.t 0 (bI .u8 c_0)) rfl) rfl rfl rfl ⟨rfl, trivial⟩ trivial ?_
      refine G.opG1 (op_leq (Ev.t 8 (bI .u8 c_0)) (Ev.c _ rfl) rfl) rfl rfl rfl ⟨rfl, trivial⟩ trivial ?_
      refine G.op1 (op_pickT (Ev.t 7 (bB true)) (Ev.t 9 (bB (decide (c_0 ≤ 223)))) rfl) rfl ⟨rfl, rfl, trivial⟩ trivial ?_
      refine G.endOps ?_
      exact G.arr (J10 (decide (c_0 ≤ 223)) hF) ⟨rfl, rfl, trivial⟩ trivial rfl
    · refine G.known (t := 7) hc11 rfl ?_
      refine G.opN1 rfl rfl rfl rfl rfl ?_
      refine G.opN1 rfl rfl rfl rfl rfl ?_
      refine G.op1 (op_pickF (Ev.t 7 (bB false)) (Ev.c _ rfl) rfl) rfl ⟨rfl, trivial⟩ trivial ?_
      refine G.endOps ?_
      exact G.arr (J10 false hF) ⟨rfl, rfl, trivial⟩ trivial rfl


set_option maxRecDepth 20000 in
set_option maxHeartbeats 2000000 in
theorem ct_ref02_Runes (s_0 : ByteArray) (r : Int) (hF : ref02_Runes s_0 = some r) : Ct Try.prog 60 [.g (.d (.v (.string s_0)))] (.one (.d (.v (.int .i64 r)))) := by
  unfold ref02_Runes at hF
  refine Ct.intro Try.func60 rfl Try.ntmps60 rfl rfl fun M w => ?_
  refine G.seq ?_
  refine G.region ?_
  refine G.op1 (op_assign (Ev.c _ rfl) rfl) rfl trivial trivial ?_
  refine G.endOps ?_
  refine G.seq ?_
  refine G.region ?_
  refine G.op1 (op_assign (Ev.c _ rfl) rfl) rfl trivial trivial ?_
  refine G.endOps ?_
  refine G.seq ?_
  refine G.seq ?_
  refine G.region ?_
  refine G.op1 (op_assign (Ev.c _ rfl) rfl) rfl trivial trivial ?_
  refine G.endOps ?_
  refine G.joinC (T := Int) (fun y1 => ⟨[(3, .one (bI .i64 y1))], []⟩) (fun y1 => ref02_Runes_k1 y1 = some r) (fun y1 hF => ?_) (fun J2 => ?_)
  · unfold ref02_Runes_k1 at hF
    refine G.seq ?_
    refine G.region ?_
    refine G.op1 (op_move (Ev.t 3 (bI .i64 y1)) rfl) rfl ⟨rfl, trivial⟩ trivial ?_
    refine G.op1 (op_assign (Ev.t 99 (bI .i64 y1)) rfl) rfl ⟨rfl, trivial⟩ trivial ?_
    refine G.endOps ?_
    cases hF
    exact G.ret1 Try.results60 (RVar.tmp 2 _) ⟨rfl, trivial⟩ trivial
  refine G.block ?_
  refine G.keep (sl' := [(0, .one (bS s_0)), (3, .one (bI .i64 0)), (4, .one (bI .i64 0))]) (hp' := []) ⟨rfl, rfl, rfl, trivial⟩ trivial rfl ?_
  refine G.loopF (fun (v3 : Int × Int) => ⟨[(0, .one (bS s_0)), (3, .one (bI .i64 v3.1)), (4, .one (bI .i64 v3.2))], []⟩) hF rfl (fun K6 again5 v3 J4 hF => ?_)
  unfold ref02_Runes_l2 at hF
  refine G.seq ?_
  refine G.seq ?_
  refine G.region ?_
  refine G.op1 (op_move (Ev.t 4 (bI .i64 v3.2)) rfl) rfl ⟨rfl, trivial⟩ trivial ?_
  refine G.op1 (op_move (Ev.t 0 (bS s_0)) rfl) rfl ⟨rfl, trivial⟩ trivial ?_
  refine G.op1 (op_lenS Try.underlying9 (Ev.t 8 (bS s_0)) rfl) rfl ⟨rfl, trivial⟩ trivial ?_
  refine G.op1 (op_lss (Ev.t 7 (bI .i64 v3.2)) (Ev.t 9 (bI .i64 (s_0.size : Int))) rfl) rfl ⟨rfl, rfl, trivial⟩ trivial ?_
  refine G.endOps ?_
  refine ifS hF (fun hc7 hF => ?_) (fun hc7 hF => ?_)
  · refine G.cond rfl (fun _ => ?_) (fun hx => by rw [hc7] at hx; cases hx)
    refine G.skip ?_
    refine G.block ?_
    refine G.seq ?_
    refine G.region ?_
    refine G.op1 (op_move (Ev.t 0 (bS s_0)) rfl) rfl ⟨rfl, trivial⟩ trivial ?_
    refine G.op1 (op_move (Ev.t 4 (bI .i64 v3.2)) rfl) rfl ⟨rfl, trivial⟩ trivial ?_
    obtain ⟨b8, hb8, hF⟩ := bindS hF
    refine G.op1 (op_indexS Try.underlying9 (sidx_ok hb8).1 (sidx_ok hb8).2 (Ev.t 11 (bS s_0)) (Ev.t 12 (bI .i64 v3.2)) rfl) rfl ⟨rfl, rfl, trivial⟩ trivial ?_
    obtain ⟨r9, hr9, hF⟩ := bindS hF
    refine G.op1 (op_callQ (sv := .one (bI .i64 r9)) cf72 (ct_ref02_long (b8.toNat : Int) r9 hr9) rfl rfl (EvQL.cons (EvQ.g (Ev.t 13 (bI .u8 (b8.toNat : Int)))) EvQL.nil) rfl) rfl ⟨rfl, trivial⟩ trivial ?_
    refine G.op1 (op_assign (Ev.t 14 (bI .i64 r9)) rfl) rfl ⟨rfl, trivial⟩ trivial ?_
    refine G.endOps ?_
    refine G.seq ?_
    refine G.seq ?_
    refine G.joinC (T := Bool) (fun y10 => ⟨[(0, .one (bS s_0)), (3, .one (bI .i64 v3.1)), (4, .one (bI .i64 v3.2)), (5, .one (bI .i64 r9)), (24, .one (bB y10))], []⟩) (fun y10 => ref02_Runes_k3 s_0 again5 v3 r9 y10 = some r) (fun y10 hF => ?_) (fun J47 => ?_)
    · unfold ref02_Runes_k3 at hF
      refine ifS hF (fun hc11 hF => ?_) (fun hc11 hF => ?_)
      · refine G.cond rfl (fun _ => ?_) (fun hx => by rw [hc11] at hx; cases hx)
        refine G.seq ?_
        refine G.region ?_
        refine G.op1 (op_assign (Ev.c _ rfl) rfl) rfl trivial trivial ?_
        refine G.endOps ?_
        cases hF
        exact G.ret1 Try.results60 (RVar.tmp 2 _) ⟨rfl, trivial⟩ trivial
      · refine G.cond rfl (fun hx => by rw [hc11] at hx; cases hx) (fun _ => ?_)
        refine G.skip ?_
        refine G.seq ?_
        refine G.seq ?_
        refine G.region ?_
        refine G.op1 (op_assign (Ev.c _ rfl) rfl) rfl trivial trivial ?_
        refine G.endOps ?_
        refine G.joinC (T := Unit) (fun y12 => ⟨[(0, .one (bS s_0)), (3, .one (bI .i64 v3.1)), (4, .one (bI .i64 v3.2)), (5, .one (bI .i64 r9))], []⟩) (fun y12 => ref02_Runes_k4 s_0 again5 v3 r9 y12 = some r) (fun y12 hF => ?_) (fun J37 => ?_)
        · unfold ref02_Runes_k4 at hF
          refine G.seq ?_
          refine G.seq ?_
          refine G.joinC (T := Bool) (fun y13 => ⟨[(0, .one (bS s_0)), (3, .one (bI .i64 v3.1)), (4, .one (bI .i64 v3.2)), (5, .one (bI .i64 r9)), (93, .one (bB y13))], []⟩) (fun y13 => ref02_Runes_k5 again5 v3 r9 y13 = some r) (fun y13 hF => ?_) (fun J15 => ?_)
          · unfold ref02_Runes_k5 at hF
            refine ifS hF (fun hc14 hF => ?_) (fun hc14 hF => ?_)
            · refine G.cond rfl (fun _ => ?_) (fun hx => by rw [hc14] at hx; cases hx)
              refine G.seq ?_
              refine G.region ?_
              refine G.op1 (op_assign (Ev.c _ rfl) rfl) rfl trivial trivial ?_
              refine G.endOps ?_
              cases hF
              exact G.ret1 Try.results60 (RVar.tmp 2 _) ⟨rfl, trivial⟩ trivial
            · refine G.cond rfl (fun hx => by rw [hc14] at hx; cases hx) (fun _ => ?_)
              refine G.skip ?_
              refine G.seq ?_
              refine G.region ?_
              refine G.op1 (op_move (Ev.t 4 (bI .i64 v3.2)) rfl) rfl ⟨rfl, trivial⟩ trivial ?_
              refine G.op1 (op_move (Ev.t 5 (bI .i64 r9)) rfl) rfl ⟨rfl, trivial⟩ trivial ?_
              refine G.op1 (op_add (Ev.t 94 (bI .i64 v3.2)) (Ev.t 95 (bI .i64 r9)) rfl) rfl ⟨rfl, rfl, trivial⟩ trivial ?_
              refine G.op1 (op_assign (Ev.t 96 (bI .i64 (IntKind.wrap .i64 (v3.2 + r9)))) rfl) rfl ⟨rfl, trivial⟩ trivial ?_
              refine G.endOps ?_
              refine G.region ?_
              refine G.op1 (op_move (Ev.t 3 (bI .i64 v3.1)) rfl) rfl ⟨rfl, trivial⟩ trivial ?_
              refine G.op1 (op_add (Ev.t 97 (bI .i64 v3.1)) (Ev.c _ rfl) rfl) rfl ⟨rfl, trivial⟩ trivial ?_
              refine G.op1 (op_assign (Ev.t 98 (bI .i64 (IntKind.wrap .i64 (v3.1 + 1)))) rfl) rfl ⟨rfl, trivial⟩ trivial ?_
              refine G.endOps ?_
              refine G.endBlock ?_
              exact G.arr (J4 (IntKind.wrap .i64 (v3.1 + 1), IntKind.wrap .i64 (v3.2 + r9)) hF) ⟨rfl, rfl, rfl, trivial⟩ trivial rfl
          refine G.region ?_
          refine G.op1 (op_move (Ev.t 0 (bS s_0)) rfl) rfl ⟨rfl, trivial⟩ trivial ?_
          refine G.op1 (op_move (Ev.t 4 (bI .i64 v3.2)) rfl) rfl ⟨rfl, trivial⟩ trivial ?_
          obtain ⟨b16, hb16, hF⟩ := bindS hF
          refine G.op1 (op_indexS Try.underlying9 (sidx_ok hb16).1 (sidx_ok hb16).2 (Ev.t 44 (bS s_0)) (Ev.t 45 (bI .i64 v3.2)) rfl) rfl ⟨rfl, rfl, trivial⟩ trivial ?_
          refine G.op1 (op_eqI (Ev.t 46 (bI .u8 (b16.toNat : Int))) (Ev.c _ rfl) rfl) rfl ⟨rfl, trivial⟩ trivial ?_
          refine G.op1 (op_move (Ev.t 47 (bB (decide ((b16.toNat : Int) = 224)))) rfl) rfl ⟨rfl, trivial⟩ trivial ?_
          refine G.joinL (T := Bool) 6 (fun y17 => ⟨[(0, .one (bS s_0)), (3, .one (bI .i64 v3.1)), (4, .one (bI .i64 v3.2)), (5, .one (bI .i64 r9)), (54, .one (bB y17))], []⟩) (fun y17 => ref02_Runes_k6 s_0 again5 v3 r9 y17 = some r) (fun y17 hF => ?_) (fun J34 => ?_)
          · unfold ref02_Runes_k6 at hF
            refine G.op1 (op_move (Ev.t 54 (bB y17)) rfl) rfl ⟨rfl, trivial⟩ trivial ?_
            refine G.joinL (T := Bool) 12 (fun y18 => ⟨[(0, .one (bS s_0)), (3, .one (bI .i64 v3.1)), (4, .one (bI .i64 v3.2)), (5, .one (bI .i64 r9)), (67, .one (bB y18))], []⟩) (fun y18 => ref02_Runes_k7 s_0 again5 v3 r9 y18 = some r) (fun y18 hF => ?_) (fun J29 => ?_)
            · unfold ref02_Runes_k7 at hF
              refine G.op1 (op_move (Ev.t 67 (bB y18)) rfl) rfl ⟨rfl, trivial⟩ trivial ?_
              refine G.joinL (T := Bool) 12 (fun y19 => ⟨[(0, .one (bS s_0)), (3, .one (bI .i64 v3.1)), (4, .one (bI .i64 v3.2)), (5, .one (bI .i64 r9)), (80, .one (bB y19))], []⟩) (fun y19 => ref02_Runes_k8 s_0 again5 v3 r9 y19 = some r) (fun y19 hF => ?_) (fun J24 => ?_)
              · unfold ref02_Runes_k8 at hF
                refine G.op1 (op_move (Ev.t 80 (bB y19)) rfl) rfl ⟨rfl, trivial⟩ trivial ?_
                refine ifS hF (fun hc20 hF => ?_) (fun hc20 hF => ?_)
                · refine G.known (t := 81) hc20 rfl ?_
                  refine G.opN1 rfl rfl rfl rfl rfl ?_
                  refine G.opN1 rfl rfl rfl rfl rfl ?_
                  refine G.opN1 rfl rfl rfl rfl rfl ?_
                  refine G.opN1 rfl rfl rfl rfl rfl ?_
                  refine G.opN1 rfl rfl rfl rfl rfl ?_
                  refine G.opU rfl rfl rfl rfl ?_
                  refine G.opU rfl rfl rfl rfl ?_
                  refine G.opU rfl rfl rfl rfl ?_
                  refine G.opU rfl rfl rfl rfl ?_
                  refine G.opU rfl rfl rfl rfl ?_
                  refine G.opN1 rfl rfl rfl rfl rfl ?_
                  refine G.op1 (op_pickT (Ev.t 81 (bB true)) (Ev.c _ rfl) rfl) rfl ⟨rfl, trivial⟩ trivial ?_
                  refine G.endOps ?_
                  exact G.arr (J15 true hF) ⟨rfl, rfl, rfl, rfl, rfl, trivial⟩ trivial rfl
                · refine G.known (t := 81) hc20 rfl ?_
                  refine G.opG1 (op_move (Ev.t 0 (bS s_0)) rfl) rfl rfl rfl ⟨rfl, trivial⟩ trivial ?_
                  refine G.opG1 (op_move (Ev.t 4 (bI .i64 v3.2)) rfl) rfl rfl rfl ⟨rfl, trivial⟩ trivial ?_
                  obtain ⟨b21, hb21, hF⟩ := bindS hF
                  refine G.opG1 (op_indexS Try.underlying9 (sidx_ok hb21).1 (sidx_ok hb21).2 (Ev.t 82 (bS s_0)) (Ev.t 83 (bI .i64 v3.2)) rfl) rfl rfl rfl ⟨rfl, rfl, trivial⟩ trivial ?_
                  refine G.opG1 (op_eqI (Ev.t 84 (bI .u8 (b21.toNat : Int))) (Ev.c _ rfl) rfl) rfl rfl rfl ⟨rfl, trivial⟩ trivial ?_
                  refine G.opG1 (op_move (Ev.t 85 (bB (decide ((b21.toNat : Int) = 244)))) rfl) rfl rfl rfl ⟨rfl, trivial⟩ trivial ?_
                  refine ifS hF (fun hc22 hF => ?_) (fun hc22 hF => ?_)
                  · refine G.known (t := 86) hc22 rfl ?_
                    refine G.opG1 (op_move (Ev.t 0 (bS s_0)) rfl) rfl rfl rfl ⟨rfl, trivial⟩ trivial ?_
                    refine G.opG1 (op_move (Ev.t 4 (bI .i64 v3.2)) rfl) rfl rfl rfl ⟨rfl, trivial⟩ trivial ?_
                    refine G.opG1 (op_add (Ev.t 88 (bI .i64 v3.2)) (Ev.c _ rfl) rfl) rfl rfl rfl ⟨rfl, trivial⟩ trivial ?_
                    obtain ⟨b23, hb23, hF⟩ := bindS hF
                    refine G.opG1 (op_indexS Try.underlying9 (sidx_ok hb23).1 (sidx_ok hb23).2 (Ev.t 87 (bS s_0)) (Ev.t 89 (bI .i64 (IntKind.wrap .i64 (v3.2 + 1)))) rfl) rfl rfl rfl ⟨rfl, rfl, trivial⟩ trivial ?_
                    refine G.opG1 (op_gtr (Ev.t 90 (bI .u8 (b23.toNat : Int))) (Ev.c _ rfl) rfl) rfl rfl rfl ⟨rfl, trivial⟩ trivial ?_
                    refine G.opG1 (op_pickT (Ev.t 86 (bB true)) (Ev.t 91 (bB (decide (143 < (b23.toNat : Int))))) rfl) rfl rfl rfl ⟨rfl, rfl, trivial⟩ trivial ?_
                    refine G.op1 (op_pickF (Ev.t 81 (bB false)) (Ev.t 92 (bB (decide (143 < (b23.toNat : Int))))) rfl) rfl ⟨rfl, rfl, trivial⟩ trivial ?_
                    refine G.endOps ?_
                    exact G.arr (J15 (decide (143 < (b23.toNat : Int))) hF) ⟨rfl, rfl, rfl, rfl, rfl, trivial⟩ trivial rfl
                  · refine G.known (t := 86) hc22 rfl ?_
                    refine G.opN1 rfl rfl rfl rfl rfl ?_
                    refine G.opN1 rfl rfl rfl rfl rfl ?_
                    refine G.opN1 rfl rfl rfl rfl rfl ?_
                    refine G.opN1 rfl rfl rfl rfl rfl ?_
                    refine G.opN1 rfl rfl rfl rfl rfl ?_
                    refine G.opG1 (op_pickF (Ev.t 86 (bB false)) (Ev.c _ rfl) rfl) rfl rfl rfl ⟨rfl, trivial⟩ trivial ?_
                    refine G.op1 (op_pickF (Ev.t 81 (bB false)) (Ev.t 92 (bB false)) rfl) rfl ⟨rfl, rfl, trivial⟩ trivial ?_
                    refine G.endOps ?_
                    exact G.arr (J15 false hF) ⟨rfl, rfl, rfl, rfl, rfl, trivial⟩ trivial rfl
              refine ifS hF (fun hc25 hF => ?_) (fun hc25 hF => ?_)
              · refine G.known (t := 68) hc25 rfl ?_
                refine G.opN1 rfl rfl rfl rfl rfl ?_
                refine G.opN1 rfl rfl rfl rfl rfl ?_
                refine G.opN1 rfl rfl rfl rfl rfl ?_
                refine G.opN1 rfl rfl rfl rfl rfl ?_
                refine G.opN1 rfl rfl rfl rfl rfl ?_
                refine G.opU rfl rfl rfl rfl ?_
                refine G.opU rfl rfl rfl rfl ?_
                refine G.opU rfl rfl rfl rfl ?_
                refine G.opU rfl rfl rfl rfl ?_
                refine G.opU rfl rfl rfl rfl ?_
                refine G.opN1 rfl rfl rfl rfl rfl ?_
                refine G.op1 (op_pickT (Ev.t 68 (bB true)) (Ev.c _ rfl) rfl) rfl ⟨rfl, trivial⟩ trivial ?_
                exact G.arr (J24 true hF) ⟨rfl, rfl, rfl, rfl, rfl, trivial⟩ trivial rfl
              · refine G.known (t := 68) hc25 rfl ?_
                refine G.opG1 (op_move (Ev.t 0 (bS s_0)) rfl) rfl rfl rfl ⟨rfl, trivial⟩ trivial ?_
                refine G.opG1 (op_move (Ev.t 4 (bI .i64 v3.2)) rfl) rfl rfl rfl ⟨rfl, trivial⟩ trivial ?_
                obtain ⟨b26, hb26, hF⟩ := bindS hF
                refine G.opG1 (op_indexS Try.underlying9 (sidx_ok hb26).1 (sidx_ok hb26).2 (Ev.t 69 (bS s_0)) (Ev.t 70 (bI .i64 v3.2)) rfl) rfl rfl rfl ⟨rfl, rfl, trivial⟩ trivial ?_
                refine G.opG1 (op_eqI (Ev.t 71 (bI .u8 (b26.toNat : Int))) (Ev.c _ rfl) rfl) rfl rfl rfl ⟨rfl, trivial⟩ trivial ?_
                refine G.opG1 (op_move (Ev.t 72 (bB (decide ((b26.toNat : Int) = 240)))) rfl) rfl rfl rfl ⟨rfl, trivial⟩ trivial ?_
                refine ifS hF (fun hc27 hF => ?_) (fun hc27 hF => ?_)
                · refine G.known (t := 73) hc27 rfl ?_
                  refine G.opG1 (op_move (Ev.t 0 (bS s_0)) rfl) rfl rfl rfl ⟨rfl, trivial⟩ trivial ?_
                  refine G.opG1 (op_move (Ev.t 4 (bI .i64 v3.2)) rfl) rfl rfl rfl ⟨rfl, trivial⟩ trivial ?_
                  refine G.opG1 (op_add (Ev.t 75 (bI .i64 v3.2)) (Ev.c _ rfl) rfl) rfl rfl rfl ⟨rfl, trivial⟩ trivial ?_
                  obtain ⟨b28, hb28, hF⟩ := bindS hF
                  refine G.opG1 (op_indexS Try.underlying9 (sidx_ok hb28).1 (sidx_ok hb28).2 (Ev.t 74 (bS s_0)) (Ev.t 76 (bI .i64 (IntKind.wrap .i64 (v3.2 + 1)))) rfl) rfl rfl rfl ⟨rfl, rfl, trivial⟩ trivial ?_
                  refine G.opG1 (op_lss (Ev.t 77 (bI .u8 (b28.toNat : Int))) (Ev.c _ rfl) rfl) rfl rfl rfl ⟨rfl, trivial⟩ trivial ?_
                  refine G.opG1 (op_pickT (Ev.t 73 (bB true)) (Ev.t 78 (bB (decide ((b28.toNat : Int) < 144)))) rfl) rfl rfl rfl ⟨rfl, rfl, trivial⟩ trivial ?_
                  refine G.op1 (op_pickF (Ev.t 68 (bB false)) (Ev.t 79 (bB (decide ((b28.toNat : Int) < 144)))) rfl) rfl ⟨rfl, rfl, trivial⟩ trivial ?_
                  exact G.arr (J24 (decide ((b28.toNat : Int) < 144)) hF) ⟨rfl, rfl, rfl, rfl, rfl, trivial⟩ trivial rfl
                · refine G.known (t := 73) hc27 rfl ?_
                  refine G.opN1 rfl rfl rfl rfl rfl ?_
                  refine G.opN1 rfl rfl rfl rfl rfl ?_
                  refine G.opN1 rfl rfl rfl rfl rfl ?_
                  refine G.opN1 rfl rfl rfl rfl rfl ?_
                  refine G.opN1 rfl rfl rfl rfl rfl ?_
                  refine G.opG1 (op_pickF (Ev.t 73 (bB false)) (Ev.c _ rfl) rfl) rfl rfl rfl ⟨rfl, trivial⟩ trivial ?_
                  refine G.op1 (op_pickF (Ev.t 68 (bB false)) (Ev.t 79 (bB false)) rfl) rfl ⟨rfl, rfl, trivial⟩ trivial ?_
                  exact G.arr (J24 false hF) ⟨rfl, rfl, rfl, rfl, rfl, trivial⟩ trivial rfl
            refine ifS hF (fun hc30 hF => ?_) (fun hc30 hF => ?_)
            · refine G.known (t := 55) hc30 rfl ?_
              refine G.opN1 rfl rfl rfl rfl rfl ?_
              refine G.opN1 rfl rfl rfl rfl rfl ?_
              refine G.opN1 rfl rfl rfl rfl rfl ?_
              refine G.opN1 rfl rfl rfl rfl rfl ?_
              refine G.opN1 rfl rfl rfl rfl rfl ?_
              refine G.opU rfl rfl rfl rfl ?_
              refine G.opU rfl rfl rfl rfl ?_
              refine G.opU rfl rfl rfl rfl ?_
              refine G.opU rfl rfl rfl rfl ?_
              refine G.opU rfl rfl rfl rfl ?_
              refine G.opN1 rfl rfl rfl rfl rfl ?_
              refine G.op1 (op_pickT (Ev.t 55 (bB true)) (Ev.c _ rfl) rfl) rfl ⟨rfl, trivial⟩ trivial ?_
              exact G.arr (J29 true hF) ⟨rfl, rfl, rfl, rfl, rfl, trivial⟩ trivial rfl
            · refine G.known (t := 55) hc30 rfl ?_
              refine G.opG1 (op_move (Ev.t 0 (bS s_0)) rfl) rfl rfl rfl ⟨rfl, trivial⟩ trivial ?_
              refine G.opG1 (op_move (Ev.t 4 (bI .i64 v3.2)) rfl) rfl rfl rfl ⟨rfl, trivial⟩ trivial ?_
              obtain ⟨b31, hb31, hF⟩ := bindS hF
              refine G.opG1 (op_indexS Try.underlying9 (sidx_ok hb31).1 (sidx_ok hb31).2 (Ev.t 56 (bS s_0)) (Ev.t 57 (bI .i64 v3.2)) rfl) rfl rfl rfl ⟨rfl, rfl, trivial⟩ trivial ?_
              refine G.opG1 (op_eqI (Ev.t 58 (bI .u8 (b31.toNat : Int))) (Ev.c _ rfl) rfl) rfl rfl rfl ⟨rfl, trivial⟩ trivial ?_
              refine G.opG1 (op_move (Ev.t 59 (bB (decide ((b31.toNat : Int) = 237)))) rfl) rfl rfl rfl ⟨rfl, trivial⟩ trivial ?_
              refine ifS hF (fun hc32 hF => ?_) (fun hc32 hF => ?_)
              · refine G.known (t := 60) hc32 rfl ?_
                refine G.opG1 (op_move (Ev.t 0 (bS s_0)) rfl) rfl rfl rfl ⟨rfl, trivial⟩ trivial ?_
                refine G.opG1 (op_move (Ev.t 4 (bI .i64 v3.2)) rfl) rfl rfl rfl ⟨rfl, trivial⟩ trivial ?_
                refine G.opG1 (op_add (Ev.t 62 (bI .i64 v3.2)) (Ev.c _ rfl) rfl) rfl rfl rfl ⟨rfl, trivial⟩ trivial ?_
                obtain ⟨b33, hb33, hF⟩ := bindS hF
                refine G.opG1 (op_indexS Try.underlying9 (sidx_ok hb33).1 (sidx_ok hb33).2 (Ev.t 61 (bS s_0)) (Ev.t 63 (bI .i64 (IntKind.wrap .i64 (v3.2 + 1)))) rfl) rfl rfl rfl ⟨rfl, rfl, trivial⟩ trivial ?_
                refine G.opG1 (op_gtr (Ev.t 64 (bI .u8 (b33.toNat : Int))) (Ev.c _ rfl) rfl) rfl rfl rfl ⟨rfl, trivial⟩ trivial ?_
                refine G.opG1 (op_pickT (Ev.t 60 (bB true)) (Ev.t 65 (bB (decide (159 < (b33.toNat : Int))))) rfl) rfl rfl rfl ⟨rfl, rfl, trivial⟩ trivial ?_
                refine G.op1 (op_pickF (Ev.t 55 (bB false)) (Ev.t 66 (bB (decide (159 < (b33.toNat : Int))))) rfl) rfl ⟨rfl, rfl, trivial⟩ trivial ?_
                exact G.arr (J29 (decide (159 < (b33.toNat : Int))) hF) ⟨rfl, rfl, rfl, rfl, rfl, trivial⟩ trivial rfl
              · refine G.known (t := 60) hc32 rfl ?_
                refine G.opN1 rfl rfl rfl rfl rfl ?_
                refine G.opN1 rfl rfl rfl rfl rfl ?_
                refine G.opN1 rfl rfl rfl rfl rfl ?_
                refine G.opN1 rfl rfl rfl rfl rfl ?_
                refine G.opN1 rfl rfl rfl rfl rfl ?_
                refine G.opG1 (op_pickF (Ev.t 60 (bB false)) (Ev.c _ rfl) rfl) rfl rfl rfl ⟨rfl, trivial⟩ trivial ?_
                refine G.op1 (op_pickF (Ev.t 55 (bB false)) (Ev.t 66 (bB false)) rfl) rfl ⟨rfl, rfl, trivial⟩ trivial ?_
                exact G.arr (J29 false hF) ⟨rfl, rfl, rfl, rfl, rfl, trivial⟩ trivial rfl
          refine ifS hF (fun hc35 hF => ?_) (fun hc35 hF => ?_)
          · refine G.known (t := 48) hc35 rfl ?_
            refine G.opG1 (op_move (Ev.t 0 (bS s_0)) rfl) rfl rfl rfl ⟨rfl, trivial⟩ trivial ?_
            refine G.opG1 (op_move (Ev.t 4 (bI .i64 v3.2)) rfl) rfl rfl rfl ⟨rfl, trivial⟩ trivial ?_
            refine G.opG1 (op_add (Ev.t 50 (bI .i64 v3.2)) (Ev.c _ rfl) rfl) rfl rfl rfl ⟨rfl, trivial⟩ trivial ?_
            obtain ⟨b36, hb36, hF⟩ := bindS hF
            refine G.opG1 (op_indexS Try.underlying9 (sidx_ok hb36).1 (sidx_ok hb36).2 (Ev.t 49 (bS s_0)) (Ev.t 51 (bI .i64 (IntKind.wrap .i64 (v3.2 + 1)))) rfl) rfl rfl rfl ⟨rfl, rfl, trivial⟩ trivial ?_
            refine G.opG1 (op_lss (Ev.t 52 (bI .u8 (b36.toNat : Int))) (Ev.c _ rfl) rfl) rfl rfl rfl ⟨rfl, trivial⟩ trivial ?_
            refine G.op1 (op_pickT (Ev.t 48 (bB true)) (Ev.t 53 (bB (decide ((b36.toNat : Int) < 160)))) rfl) rfl ⟨rfl, rfl, trivial⟩ trivial ?_
            exact G.arr (J34 (decide ((b36.toNat : Int) < 160)) hF) ⟨rfl, rfl, rfl, rfl, rfl, trivial⟩ trivial rfl
          · refine G.known (t := 48) hc35 rfl ?_
            refine G.opN1 rfl rfl rfl rfl rfl ?_
            refine G.opN1 rfl rfl rfl rfl rfl ?_
            refine G.opN1 rfl rfl rfl rfl rfl ?_
            refine G.opN1 rfl rfl rfl rfl rfl ?_
            refine G.opN1 rfl rfl rfl rfl rfl ?_
            refine G.op1 (op_pickF (Ev.t 48 (bB false)) (Ev.c _ rfl) rfl) rfl ⟨rfl, trivial⟩ trivial ?_
            exact G.arr (J34 false hF) ⟨rfl, rfl, rfl, rfl, rfl, trivial⟩ trivial rfl
        refine G.block ?_
        refine G.keep (sl' := [(0, .one (bS s_0)), (3, .one (bI .i64 v3.1)), (4, .one (bI .i64 v3.2)), (5, .one (bI .i64 r9)), (6, .one (bI .i64 1))]) (hp' := []) ⟨rfl, rfl, rfl, rfl, rfl, trivial⟩ trivial rfl ?_
        refine G.loopF (fun (v38 : Int) => ⟨[(0, .one (bS s_0)), (3, .one (bI .i64 v3.1)), (4, .one (bI .i64 v3.2)), (5, .one (bI .i64 r9)), (6, .one (bI .i64 v38))], []⟩) hF rfl (fun K41 again40 v38 J39 hF => ?_)
        unfold ref02_Runes_l9 at hF
        refine G.seq ?_
        refine G.seq ?_
        refine G.region ?_
        refine G.op1 (op_move (Ev.t 6 (bI .i64 v38)) rfl) rfl ⟨rfl, trivial⟩ trivial ?_
        refine G.op1 (op_move (Ev.t 5 (bI .i64 r9)) rfl) rfl ⟨rfl, trivial⟩ trivial ?_
        refine G.op1 (op_lss (Ev.t 25 (bI .i64 v38)) (Ev.t 26 (bI .i64 r9)) rfl) rfl ⟨rfl, rfl, trivial⟩ trivial ?_
        refine G.endOps ?_
        refine ifS hF (fun hc42 hF => ?_) (fun hc42 hF => ?_)
        · refine G.cond rfl (fun _ => ?_) (fun hx => by rw [hc42] at hx; cases hx)
          refine G.skip ?_
          refine G.seq ?_
          refine G.block ?_
          refine G.seq ?_
          refine G.region ?_
          refine G.op1 (op_move (Ev.t 0 (bS s_0)) rfl) rfl ⟨rfl, trivial⟩ trivial ?_
          refine G.op1 (op_move (Ev.t 4 (bI .i64 v3.2)) rfl) rfl ⟨rfl, trivial⟩ trivial ?_
          refine G.op1 (op_move (Ev.t 6 (bI .i64 v38)) rfl) rfl ⟨rfl, trivial⟩ trivial ?_
          refine G.op1 (op_add (Ev.t 31 (bI .i64 v3.2)) (Ev.t 32 (bI .i64 v38)) rfl) rfl ⟨rfl, rfl, trivial⟩ trivial ?_
          obtain ⟨b43, hb43, hF⟩ := bindS hF
          refine G.op1 (op_indexS Try.underlying9 (sidx_ok hb43).1 (sidx_ok hb43).2 (Ev.t 30 (bS s_0)) (Ev.t 33 (bI .i64 (IntKind.wrap .i64 (v3.2 + v38)))) rfl) rfl ⟨rfl, rfl, trivial⟩ trivial ?_
          refine G.op1 (op_lss (Ev.t 34 (bI .u8 (b43.toNat : Int))) (Ev.c _ rfl) rfl) rfl ⟨rfl, trivial⟩ trivial ?_
          refine G.op1 (op_move (Ev.t 35 (bB (decide ((b43.toNat : Int) < 128)))) rfl) rfl ⟨rfl, trivial⟩ trivial ?_
          refine ifS hF (fun hc44 hF => ?_) (fun hc44 hF => ?_)
          · refine G.known (t := 36) hc44 rfl ?_
            refine G.opN1 rfl rfl rfl rfl rfl ?_
            refine G.opN1 rfl rfl rfl rfl rfl ?_
            refine G.opN1 rfl rfl rfl rfl rfl ?_
            refine G.opN1 rfl rfl rfl rfl rfl ?_
            refine G.opN1 rfl rfl rfl rfl rfl ?_
            refine G.opN1 rfl rfl rfl rfl rfl ?_
            refine G.op1 (op_pickT (Ev.t 36 (bB true)) (Ev.c _ rfl) rfl) rfl ⟨rfl, trivial⟩ trivial ?_
            refine G.endOps ?_
            refine G.condT rfl ?_
            refine G.seq ?_
            refine G.region ?_
            refine G.op1 (op_assign (Ev.c _ rfl) rfl) rfl trivial trivial ?_
            refine G.endOps ?_
            cases hF
            exact G.ret1 Try.results60 (RVar.tmp 2 _) ⟨rfl, trivial⟩ trivial
          · refine G.known (t := 36) hc44 rfl ?_
            refine G.opG1 (op_move (Ev.t 0 (bS s_0)) rfl) rfl rfl rfl ⟨rfl, trivial⟩ trivial ?_
            refine G.opG1 (op_move (Ev.t 4 (bI .i64 v3.2)) rfl) rfl rfl rfl ⟨rfl, trivial⟩ trivial ?_
            refine G.opG1 (op_move (Ev.t 6 (bI .i64 v38)) rfl) rfl rfl rfl ⟨rfl, trivial⟩ trivial ?_
            refine G.opG1 (op_add (Ev.t 38 (bI .i64 v3.2)) (Ev.t 39 (bI .i64 v38)) rfl) rfl rfl rfl ⟨rfl, rfl, trivial⟩ trivial ?_
            obtain ⟨b45, hb45, hF⟩ := bindS hF
            refine G.opG1 (op_indexS Try.underlying9 (sidx_ok hb45).1 (sidx_ok hb45).2 (Ev.t 37 (bS s_0)) (Ev.t 40 (bI .i64 (IntKind.wrap .i64 (v3.2 + v38)))) rfl) rfl rfl rfl ⟨rfl, rfl, trivial⟩ trivial ?_
            refine G.opG1 (op_gtr (Ev.t 41 (bI .u8 (b45.toNat : Int))) (Ev.c _ rfl) rfl) rfl rfl rfl ⟨rfl, trivial⟩ trivial ?_
            refine G.op1 (op_pickF (Ev.t 36 (bB false)) (Ev.t 42 (bB (decide (191 < (b45.toNat : Int))))) rfl) rfl ⟨rfl, rfl, trivial⟩ trivial ?_
            refine G.endOps ?_
            refine ifS hF (fun hc46 hF => ?_) (fun hc46 hF => ?_)
            · refine G.cond rfl (fun _ => ?_) (fun hx => by rw [hc46] at hx; cases hx)
              refine G.seq ?_
              refine G.region ?_
              refine G.op1 (op_assign (Ev.c _ rfl) rfl) rfl trivial trivial ?_
              refine G.endOps ?_
              cases hF
              exact G.ret1 Try.results60 (RVar.tmp 2 _) ⟨rfl, trivial⟩ trivial
            · refine G.cond rfl (fun hx => by rw [hc46] at hx; cases hx) (fun _ => ?_)
              refine G.skip ?_
              refine G.endBlock ?_
              refine G.region ?_
              refine G.op1 (op_move (Ev.t 6 (bI .i64 v38)) rfl) rfl ⟨rfl, trivial⟩ trivial ?_
              refine G.op1 (op_add (Ev.t 28 (bI .i64 v38)) (Ev.c _ rfl) rfl) rfl ⟨rfl, trivial⟩ trivial ?_
              refine G.op1 (op_assign (Ev.t 29 (bI .i64 (IntKind.wrap .i64 (v38 + 1)))) rfl) rfl ⟨rfl, trivial⟩ trivial ?_
              refine G.endOps ?_
              exact G.arr (J39 (IntKind.wrap .i64 (v38 + 1)) hF) ⟨rfl, rfl, rfl, rfl, rfl, trivial⟩ trivial rfl
        · refine G.cond rfl (fun hx => by rw [hc42] at hx; cases hx) (fun _ => ?_)
          refine G.exit ?_
          refine GX.c ?_
          refine GX.q ?_
          refine GX.bYes ?_
          exact G.arr (J37 () hF) ⟨rfl, rfl, rfl, rfl, trivial⟩ trivial rfl
    refine G.region ?_
    refine G.op1 (op_move (Ev.t 5 (bI .i64 r9)) rfl) rfl ⟨rfl, trivial⟩ trivial ?_
    refine G.op1 (op_eqI (Ev.t 15 (bI .i64 r9)) (Ev.c _ rfl) rfl) rfl ⟨rfl, trivial⟩ trivial ?_
    refine G.op1 (op_move (Ev.t 16 (bB (decide (r9 = 0)))) rfl) rfl ⟨rfl, trivial⟩ trivial ?_
    refine ifS hF (fun hc48 hF => ?_) (fun hc48 hF => ?_)
    · refine G.known (t := 17) hc48 rfl ?_
      refine G.opN1 rfl rfl rfl rfl rfl ?_
      refine G.opN1 rfl rfl rfl rfl rfl ?_
      refine G.opN1 rfl rfl rfl rfl rfl ?_
      refine G.opN1 rfl rfl rfl rfl rfl ?_
      refine G.opN1 rfl rfl rfl rfl rfl ?_
      refine G.opN1 rfl rfl rfl rfl rfl ?_
      refine G.op1 (op_pickT (Ev.t 17 (bB true)) (Ev.c _ rfl) rfl) rfl ⟨rfl, trivial⟩ trivial ?_
      refine G.endOps ?_
      exact G.arr (J47 true hF) ⟨rfl, rfl, rfl, rfl, rfl, trivial⟩ trivial rfl
    · refine G.known (t := 17) hc48 rfl ?_
      refine G.opG1 (op_move (Ev.t 5 (bI .i64 r9)) rfl) rfl rfl rfl ⟨rfl, trivial⟩ trivial ?_
      refine G.opG1 (op_move (Ev.t 0 (bS s_0)) rfl) rfl rfl rfl ⟨rfl, trivial⟩ trivial ?_
      refine G.opG1 (op_lenS Try.underlying9 (Ev.t 19 (bS s_0)) rfl) rfl rfl rfl ⟨rfl, trivial⟩ trivial ?_
      refine G.opG1 (op_move (Ev.t 4 (bI .i64 v3.2)) rfl) rfl rfl rfl ⟨rfl, trivial⟩ trivial ?_
      refine G.opG1 (op_sub (Ev.t 20 (bI .i64 (s_0.size : Int))) (Ev.t 21 (bI .i64 v3.2)) rfl) rfl rfl rfl ⟨rfl, rfl, trivial⟩ trivial ?_
      refine G.opG1 (op_gtr (Ev.t 18 (bI .i64 r9)) (Ev.t 22 (bI .i64 (IntKind.wrap .i64 ((s_0.size : Int) - v3.2)))) rfl) rfl rfl rfl ⟨rfl, rfl, trivial⟩ trivial ?_
      refine G.op1 (op_pickF (Ev.t 17 (bB false)) (Ev.t 23 (bB (decide ((IntKind.wrap .i64 ((s_0.size : Int) - v3.2)) < r9)))) rfl) rfl ⟨rfl, rfl, trivial⟩ trivial ?_
      refine G.endOps ?_
      exact G.arr (J47 (decide ((IntKind.wrap .i64 ((s_0.size : Int) - v3.2)) < r9)) hF) ⟨rfl, rfl, rfl, rfl, rfl, trivial⟩ trivial rfl
  · refine G.cond rfl (fun hx => by rw [hc7] at hx; cases hx) (fun _ => ?_)
    refine G.exit ?_
    refine GX.c ?_
    refine GX.q ?_
    refine GX.bYes ?_
    exact G.arr (J2 v3.1 hF) ⟨rfl, trivial⟩ trivial rfl


set_option maxRecDepth 20000 in
set_option maxHeartbeats 2000000 in
theorem ct_ref02_Check (s_0 : ByteArray) (r : Bool) (hF : ref02_Check s_0 = some r) : Ct Try.prog 28 [.g (.d (.v (.string s_0)))] (.one (.d (.v (.bool r)))) := by
  unfold ref02_Check at hF
  refine Ct.intro Try.func28 rfl Try.ntmps28 rfl rfl fun M w => ?_
  refine G.seq ?_
  refine G.region ?_
  refine G.op1 (op_assign (Ev.c _ rfl) rfl) rfl trivial trivial ?_
  refine G.endOps ?_
  refine G.seq ?_
  refine G.region ?_
  refine G.op1 (op_move (Ev.t 0 (bS s_0)) rfl) rfl ⟨rfl, trivial⟩ trivial ?_
  obtain ⟨r1, hr1, hF⟩ := bindS hF
  refine G.op1 (op_callQ (sv := .one (bI .i64 r1)) cf60 (ct_ref02_Runes s_0 r1 hr1) rfl rfl (EvQL.cons (EvQ.g (Ev.t 5 (bS s_0))) EvQL.nil) rfl) rfl ⟨rfl, trivial⟩ trivial ?_
  refine G.op1 (op_assign (Ev.t 6 (bI .i64 r1)) rfl) rfl ⟨rfl, trivial⟩ trivial ?_
  refine G.endOps ?_
  refine G.seq ?_
  refine G.seq ?_
  refine G.region ?_
  refine G.op1 (op_assign (Ev.c _ rfl) rfl) rfl trivial trivial ?_
  refine G.endOps ?_
  refine G.joinC (T := Unit) (fun y2 => ⟨[(3, .one (bI .i64 r1))], []⟩) (fun y2 => ref02_Check_k1 r1 y2 = some r) (fun y2 hF => ?_) (fun J4 => ?_)
  · unfold ref02_Check_k1 at hF
    refine G.seq ?_
    refine G.region ?_
    refine G.op1 (op_move (Ev.t 3 (bI .i64 r1)) rfl) rfl ⟨rfl, trivial⟩ trivial ?_
    refine G.op1 (op_geq (Ev.t 17 (bI .i64 r1)) (Ev.c _ rfl) rfl) rfl ⟨rfl, trivial⟩ trivial ?_
    refine G.op1 (op_move (Ev.t 18 (bB (decide (1 ≤ r1)))) rfl) rfl ⟨rfl, trivial⟩ trivial ?_
    refine ifS hF (fun hc3 hF => ?_) (fun hc3 hF => ?_)
    · refine G.known (t := 19) hc3 rfl ?_
      refine G.opG1 (op_move (Ev.t 3 (bI .i64 r1)) rfl) rfl rfl rfl ⟨rfl, trivial⟩ trivial ?_
      refine G.opG1 (op_leq (Ev.t 20 (bI .i64 r1)) (Ev.c _ rfl) rfl) rfl rfl rfl ⟨rfl, trivial⟩ trivial ?_
      refine G.op1 (op_pickT (Ev.t 19 (bB true)) (Ev.t 21 (bB (decide (r1 ≤ 8)))) rfl) rfl ⟨rfl, rfl, trivial⟩ trivial ?_
      refine G.op1 (op_assign (Ev.t 22 (bB (decide (r1 ≤ 8)))) rfl) rfl ⟨rfl, trivial⟩ trivial ?_
      refine G.endOps ?_
      cases hF
      exact G.ret1 Try.results28 (RVar.tmp 2 _) ⟨rfl, trivial⟩ trivial
    · refine G.known (t := 19) hc3 rfl ?_
      refine G.opN1 rfl rfl rfl rfl rfl ?_
      refine G.opN1 rfl rfl rfl rfl rfl ?_
      refine G.op1 (op_pickF (Ev.t 19 (bB false)) (Ev.c _ rfl) rfl) rfl ⟨rfl, trivial⟩ trivial ?_
      refine G.op1 (op_assign (Ev.t 22 (bB false)) rfl) rfl ⟨rfl, trivial⟩ trivial ?_
      refine G.endOps ?_
      cases hF
      exact G.ret1 Try.results28 (RVar.tmp 2 _) ⟨rfl, trivial⟩ trivial
  refine G.block ?_
  refine G.keep (sl' := [(0, .one (bS s_0)), (3, .one (bI .i64 r1)), (4, .one (bI .i64 0))]) (hp' := []) ⟨rfl, rfl, rfl, trivial⟩ trivial rfl ?_
  refine G.loopF (fun (v5 : Int) => ⟨[(0, .one (bS s_0)), (3, .one (bI .i64 r1)), (4, .one (bI .i64 v5))], []⟩) hF rfl (fun K8 again7 v5 J6 hF => ?_)
  unfold ref02_Check_l2 at hF
  refine G.seq ?_
  refine G.seq ?_
  refine G.region ?_
  refine G.op1 (op_move (Ev.t 4 (bI .i64 v5)) rfl) rfl ⟨rfl, trivial⟩ trivial ?_
  refine G.op1 (op_move (Ev.t 0 (bS s_0)) rfl) rfl ⟨rfl, trivial⟩ trivial ?_
  refine G.op1 (op_lenS Try.underlying9 (Ev.t 8 (bS s_0)) rfl) rfl ⟨rfl, trivial⟩ trivial ?_
  refine G.op1 (op_lss (Ev.t 7 (bI .i64 v5)) (Ev.t 9 (bI .i64 (s_0.size : Int))) rfl) rfl ⟨rfl, rfl, trivial⟩ trivial ?_
  refine G.endOps ?_
  refine ifS hF (fun hc9 hF => ?_) (fun hc9 hF => ?_)
  · refine G.cond rfl (fun _ => ?_) (fun hx => by rw [hc9] at hx; cases hx)
    refine G.skip ?_
    refine G.seq ?_
    refine G.block ?_
    refine G.seq ?_
    refine G.region ?_
    refine G.op1 (op_move (Ev.t 0 (bS s_0)) rfl) rfl ⟨rfl, trivial⟩ trivial ?_
    refine G.op1 (op_move (Ev.t 4 (bI .i64 v5)) rfl) rfl ⟨rfl, trivial⟩ trivial ?_
    obtain ⟨b10, hb10, hF⟩ := bindS hF
    refine G.op1 (op_indexS Try.underlying9 (sidx_ok hb10).1 (sidx_ok hb10).2 (Ev.t 13 (bS s_0)) (Ev.t 14 (bI .i64 v5)) rfl) rfl ⟨rfl, rfl, trivial⟩ trivial ?_
    refine G.op1 (op_lss (Ev.t 15 (bI .u8 (b10.toNat : Int))) (Ev.c _ rfl) rfl) rfl ⟨rfl, trivial⟩ trivial ?_
    refine G.endOps ?_
    refine ifS hF (fun hc11 hF => ?_) (fun hc11 hF => ?_)
    · refine G.cond rfl (fun _ => ?_) (fun hx => by rw [hc11] at hx; cases hx)
      refine G.seq ?_
      refine G.region ?_
      refine G.op1 (op_assign (Ev.c _ rfl) rfl) rfl trivial trivial ?_
      refine G.endOps ?_
      cases hF
      exact G.ret1 Try.results28 (RVar.tmp 2 _) ⟨rfl, trivial⟩ trivial
    · refine G.cond rfl (fun hx => by rw [hc11] at hx; cases hx) (fun _ => ?_)
      refine G.skip ?_
      refine G.endBlock ?_
      refine G.region ?_
      refine G.op1 (op_move (Ev.t 4 (bI .i64 v5)) rfl) rfl ⟨rfl, trivial⟩ trivial ?_
      refine G.op1 (op_add (Ev.t 11 (bI .i64 v5)) (Ev.c _ rfl) rfl) rfl ⟨rfl, trivial⟩ trivial ?_
      refine G.op1 (op_assign (Ev.t 12 (bI .i64 (IntKind.wrap .i64 (v5 + 1)))) rfl) rfl ⟨rfl, trivial⟩ trivial ?_
      refine G.endOps ?_
      exact G.arr (J6 (IntKind.wrap .i64 (v5 + 1)) hF) ⟨rfl, rfl, rfl, trivial⟩ trivial rfl
  · refine G.cond rfl (fun hx => by rw [hc9] at hx; cases hx) (fun _ => ?_)
    refine G.exit ?_
    refine GX.c ?_
    refine GX.q ?_
    refine GX.bYes ?_
    exact G.arr (J4 () hF) ⟨rfl, trivial⟩ trivial rfl


set_option maxRecDepth 20000 in
set_option maxHeartbeats 2000000 in
theorem ct_ref03_Check (s_0 : Api_Stamp) (r : Bool) (hF : ref03_Check s_0 = some r) : Ct Try.prog 29 [.g (.agg (encApi_Stamp s_0))] (.one (.d (.v (.bool r)))) := by
  unfold ref03_Check at hF
  refine Ct.intro Try.func29 rfl Try.ntmps29 rfl rfl fun M w => ?_
  refine G.seq ?_
  refine G.region ?_
  refine G.op2 (op_boxA (k := 1001) (Ev.t 0 (.g (.agg [.v (.int .i64 s_0.N), .v (.int .i64 s_0.Site)]))) rfl) rfl ⟨rfl, trivial⟩ ⟨rfl, trivial⟩ ?_
  refine G.op1 (op_assign (Ev.c _ rfl) rfl) rfl trivial trivial ?_
  refine G.endOps ?_
  refine G.seq ?_
  refine G.region ?_
  refine G.op1 (op_fieldP (off' := 0) Try.underlying23 rfl ti3 (by decide) rfl (Ev.t 1 (.ptr 1001 0)) rfl) rfl ⟨rfl, trivial⟩ trivial ?_
  refine G.op1 (op_load1P (c := bI .i64 s_0.N) Try.underlying3 rfl rfl (Ev.t 3 (.ptr 1001 0)) rfl) rfl ⟨rfl, trivial⟩ ⟨rfl, trivial⟩ ?_
  refine G.op1 (op_geq (Ev.t 4 (bI .i64 s_0.N)) (Ev.c _ rfl) rfl) rfl ⟨rfl, trivial⟩ trivial ?_
  refine G.op1 (op_move (Ev.t 5 (bB (decide (1 ≤ s_0.N)))) rfl) rfl ⟨rfl, trivial⟩ trivial ?_
  refine G.joinL (T := Bool) 4 (fun y1 => ⟨[(1, .one (.ptr 1001 0)), (10, .one (bB y1))], [(1001, some (.blk 23 [bI .i64 s_0.N, bI .i64 s_0.Site]))]⟩) (fun y1 => ref03_Check_k1 s_0 y1 = some r) (fun y1 hF => ?_) (fun J6 => ?_)
  · unfold ref03_Check_k1 at hF
    refine G.op1 (op_move (Ev.t 10 (bB y1)) rfl) rfl ⟨rfl, trivial⟩ trivial ?_
    refine G.joinL (T := Bool) 4 (fun y2 => ⟨[(1, .one (.ptr 1001 0)), (15, .one (bB y2))], [(1001, some (.blk 23 [bI .i64 s_0.N, bI .i64 s_0.Site]))]⟩) (fun y2 => ref03_Check_k2 s_0 y2 = some r) (fun y2 hF => ?_) (fun J4 => ?_)
    · unfold ref03_Check_k2 at hF
      refine G.op1 (op_move (Ev.t 15 (bB y2)) rfl) rfl ⟨rfl, trivial⟩ trivial ?_
      refine ifS hF (fun hc3 hF => ?_) (fun hc3 hF => ?_)
      · refine G.known (t := 16) hc3 rfl ?_
        refine G.opG1 (op_fieldP (off' := 1) Try.underlying23 rfl ti3 (by decide) rfl (Ev.t 1 (.ptr 1001 0)) rfl) rfl rfl rfl ⟨rfl, trivial⟩ trivial ?_
        refine G.opG1 (op_load1P (c := bI .i64 s_0.Site) Try.underlying3 rfl rfl (Ev.t 17 (.ptr 1001 1)) rfl) rfl rfl rfl ⟨rfl, trivial⟩ ⟨rfl, trivial⟩ ?_
        refine G.opG1 (op_lss (Ev.t 18 (bI .i64 s_0.Site)) (Ev.c _ rfl) rfl) rfl rfl rfl ⟨rfl, trivial⟩ trivial ?_
        refine G.op1 (op_pickT (Ev.t 16 (bB true)) (Ev.t 19 (bB (decide (s_0.Site < 6)))) rfl) rfl ⟨rfl, rfl, trivial⟩ trivial ?_
        refine G.op1 (op_assign (Ev.t 20 (bB (decide (s_0.Site < 6)))) rfl) rfl ⟨rfl, trivial⟩ trivial ?_
        refine G.endOps ?_
        cases hF
        exact G.ret1 Try.results29 (RVar.tmp 2 _) ⟨rfl, trivial⟩ trivial
      · refine G.known (t := 16) hc3 rfl ?_
        refine G.opN1 rfl rfl rfl rfl rfl ?_
        refine G.opN1 rfl rfl rfl rfl rfl ?_
        refine G.opN1 rfl rfl rfl rfl rfl ?_
        refine G.op1 (op_pickF (Ev.t 16 (bB false)) (Ev.c _ rfl) rfl) rfl ⟨rfl, trivial⟩ trivial ?_
        refine G.op1 (op_assign (Ev.t 20 (bB false)) rfl) rfl ⟨rfl, trivial⟩ trivial ?_
        refine G.endOps ?_
        cases hF
        exact G.ret1 Try.results29 (RVar.tmp 2 _) ⟨rfl, trivial⟩ trivial
    refine ifS hF (fun hc5 hF => ?_) (fun hc5 hF => ?_)
    · refine G.known (t := 11) hc5 rfl ?_
      refine G.opG1 (op_fieldP (off' := 1) Try.underlying23 rfl ti3 (by decide) rfl (Ev.t 1 (.ptr 1001 0)) rfl) rfl rfl rfl ⟨rfl, trivial⟩ trivial ?_
      refine G.opG1 (op_load1P (c := bI .i64 s_0.Site) Try.underlying3 rfl rfl (Ev.t 12 (.ptr 1001 1)) rfl) rfl rfl rfl ⟨rfl, trivial⟩ ⟨rfl, trivial⟩ ?_
      refine G.opG1 (op_geq (Ev.t 13 (bI .i64 s_0.Site)) (Ev.c _ rfl) rfl) rfl rfl rfl ⟨rfl, trivial⟩ trivial ?_
      refine G.op1 (op_pickT (Ev.t 11 (bB true)) (Ev.t 14 (bB (decide (0 ≤ s_0.Site)))) rfl) rfl ⟨rfl, rfl, trivial⟩ trivial ?_
      exact G.arr (J4 (decide (0 ≤ s_0.Site)) hF) ⟨rfl, rfl, trivial⟩ ⟨rfl, trivial⟩ rfl
    · refine G.known (t := 11) hc5 rfl ?_
      refine G.opN1 rfl rfl rfl rfl rfl ?_
      refine G.opN1 rfl rfl rfl rfl rfl ?_
      refine G.opN1 rfl rfl rfl rfl rfl ?_
      refine G.op1 (op_pickF (Ev.t 11 (bB false)) (Ev.c _ rfl) rfl) rfl ⟨rfl, trivial⟩ trivial ?_
      exact G.arr (J4 false hF) ⟨rfl, rfl, trivial⟩ ⟨rfl, trivial⟩ rfl
  refine ifS hF (fun hc7 hF => ?_) (fun hc7 hF => ?_)
  · refine G.known (t := 6) hc7 rfl ?_
    refine G.opG1 (op_fieldP (off' := 0) Try.underlying23 rfl ti3 (by decide) rfl (Ev.t 1 (.ptr 1001 0)) rfl) rfl rfl rfl ⟨rfl, trivial⟩ trivial ?_
    refine G.opG1 (op_load1P (c := bI .i64 s_0.N) Try.underlying3 rfl rfl (Ev.t 7 (.ptr 1001 0)) rfl) rfl rfl rfl ⟨rfl, trivial⟩ ⟨rfl, trivial⟩ ?_
    refine G.opG1 (op_leq (Ev.t 8 (bI .i64 s_0.N)) (Ev.c _ rfl) rfl) rfl rfl rfl ⟨rfl, trivial⟩ trivial ?_
    refine G.op1 (op_pickT (Ev.t 6 (bB true)) (Ev.t 9 (bB (decide (s_0.N ≤ 1099511627776)))) rfl) rfl ⟨rfl, rfl, trivial⟩ trivial ?_
    exact G.arr (J6 (decide (s_0.N ≤ 1099511627776)) hF) ⟨rfl, rfl, trivial⟩ ⟨rfl, trivial⟩ rfl
  · refine G.known (t := 6) hc7 rfl ?_
    refine G.opN1 rfl rfl rfl rfl rfl ?_
    refine G.opN1 rfl rfl rfl rfl rfl ?_
    refine G.opN1 rfl rfl rfl rfl rfl ?_
    refine G.op1 (op_pickF (Ev.t 6 (bB false)) (Ev.c _ rfl) rfl) rfl ⟨rfl, trivial⟩ trivial ?_
    exact G.arr (J6 false hF) ⟨rfl, rfl, trivial⟩ ⟨rfl, trivial⟩ rfl


set_option maxRecDepth 20000 in
set_option maxHeartbeats 2000000 in
theorem ct_ref03_Less (a_0 : Api_Stamp) (b_1 : Api_Stamp) (r : Bool) (hF : ref03_Less a_0 b_1 = some r) : Ct Try.prog 57 [.g (.agg (encApi_Stamp a_0)), .g (.agg (encApi_Stamp b_1))] (.one (.d (.v (.bool r)))) := by
  unfold ref03_Less at hF
  refine Ct.intro Try.func57 rfl Try.ntmps57 rfl rfl fun M w => ?_
  refine G.seq ?_
  refine G.region ?_
  refine G.op2 (op_boxA (k := 1002) (Ev.t 0 (.g (.agg [.v (.int .i64 a_0.N), .v (.int .i64 a_0.Site)]))) rfl) rfl ⟨rfl, trivial⟩ ⟨rfl, trivial⟩ ?_
  refine G.op2 (op_boxA (k := 1003) (Ev.t 1 (.g (.agg [.v (.int .i64 b_1.N), .v (.int .i64 b_1.Site)]))) rfl) rfl ⟨rfl, trivial⟩ ⟨rfl, trivial⟩ ?_
  refine G.op1 (op_assign (Ev.c _ rfl) rfl) rfl trivial trivial ?_
  refine G.endOps ?_
  refine G.seq ?_
  refine G.seq ?_
  refine G.region ?_
  refine G.op1 (op_fieldP (off' := 0) Try.underlying23 rfl ti3 (by decide) rfl (Ev.t 2 (.ptr 1002 0)) rfl) rfl ⟨rfl, trivial⟩ trivial ?_
  refine G.op1 (op_load1P (c := bI .i64 a_0.N) Try.underlying3 rfl rfl (Ev.t 5 (.ptr 1002 0)) rfl) rfl ⟨rfl, trivial⟩ ⟨rfl, trivial⟩ ?_
  refine G.op1 (op_fieldP (off' := 0) Try.underlying23 rfl ti3 (by decide) rfl (Ev.t 3 (.ptr 1003 0)) rfl) rfl ⟨rfl, trivial⟩ trivial ?_
  refine G.op1 (op_load1P (c := bI .i64 b_1.N) Try.underlying3 rfl rfl (Ev.t 7 (.ptr 1003 0)) rfl) rfl ⟨rfl, trivial⟩ ⟨rfl, trivial⟩ ?_
  refine G.op1 (op_neI (Ev.t 6 (bI .i64 a_0.N)) (Ev.t 8 (bI .i64 b_1.N)) rfl) rfl ⟨rfl, rfl, trivial⟩ trivial ?_
  refine G.endOps ?_
  refine ifS hF (fun hc1 hF => ?_) (fun hc1 hF => ?_)
  · refine G.cond rfl (fun _ => ?_) (fun hx => by rw [hc1] at hx; cases hx)
    refine G.seq ?_
    refine G.region ?_
    refine G.op1 (op_fieldP (off' := 0) Try.underlying23 rfl ti3 (by decide) rfl (Ev.t 2 (.ptr 1002 0)) rfl) rfl ⟨rfl, trivial⟩ trivial ?_
    refine G.op1 (op_load1P (c := bI .i64 a_0.N) Try.underlying3 rfl rfl (Ev.t 10 (.ptr 1002 0)) rfl) rfl ⟨rfl, trivial⟩ ⟨rfl, trivial⟩ ?_
    refine G.op1 (op_fieldP (off' := 0) Try.underlying23 rfl ti3 (by decide) rfl (Ev.t 3 (.ptr 1003 0)) rfl) rfl ⟨rfl, trivial⟩ trivial ?_
    refine G.op1 (op_load1P (c := bI .i64 b_1.N) Try.underlying3 rfl rfl (Ev.t 12 (.ptr 1003 0)) rfl) rfl ⟨rfl, trivial⟩ ⟨rfl, trivial⟩ ?_
    refine G.op1 (op_lss (Ev.t 11 (bI .i64 a_0.N)) (Ev.t 13 (bI .i64 b_1.N)) rfl) rfl ⟨rfl, rfl, trivial⟩ trivial ?_
    refine G.op1 (op_assign (Ev.t 14 (bB (decide (a_0.N < b_1.N)))) rfl) rfl ⟨rfl, trivial⟩ trivial ?_
    refine G.endOps ?_
    cases hF
    exact G.ret1 Try.results57 (RVar.tmp 4 _) ⟨rfl, trivial⟩ trivial
  · refine G.cond rfl (fun hx => by rw [hc1] at hx; cases hx) (fun _ => ?_)
    refine G.skip ?_
    refine G.seq ?_
    refine G.region ?_
    refine G.op1 (op_fieldP (off' := 1) Try.underlying23 rfl ti3 (by decide) rfl (Ev.t 2 (.ptr 1002 0)) rfl) rfl ⟨rfl, trivial⟩ trivial ?_
    refine G.op1 (op_load1P (c := bI .i64 a_0.Site) Try.underlying3 rfl rfl (Ev.t 15 (.ptr 1002 1)) rfl) rfl ⟨rfl, trivial⟩ ⟨rfl, trivial⟩ ?_
    refine G.op1 (op_fieldP (off' := 1) Try.underlying23 rfl ti3 (by decide) rfl (Ev.t 3 (.ptr 1003 0)) rfl) rfl ⟨rfl, trivial⟩ trivial ?_
    refine G.op1 (op_load1P (c := bI .i64 b_1.Site) Try.underlying3 rfl rfl (Ev.t 17 (.ptr 1003 1)) rfl) rfl ⟨rfl, trivial⟩ ⟨rfl, trivial⟩ ?_
    refine G.op1 (op_lss (Ev.t 16 (bI .i64 a_0.Site)) (Ev.t 18 (bI .i64 b_1.Site)) rfl) rfl ⟨rfl, rfl, trivial⟩ trivial ?_
    refine G.op1 (op_assign (Ev.t 19 (bB (decide (a_0.Site < b_1.Site)))) rfl) rfl ⟨rfl, trivial⟩ trivial ?_
    refine G.endOps ?_
    cases hF
    exact G.ret1 Try.results57 (RVar.tmp 4 _) ⟨rfl, trivial⟩ trivial


set_option maxRecDepth 20000 in
set_option maxHeartbeats 2000000 in
theorem ct_ref04_Add (p_0 : (List Api_Dep)) (d_1 : Api_Dep) (r : (List Api_Dep)) (hF : ref04_Add p_0 d_1 = some r) : Ct Try.prog 24 [.g (.d (.sl 3 (List.map encApi_Dep p_0))), .g (.agg (encApi_Dep d_1))] (.one (.d (.sl 3 (List.map encApi_Dep r)))) := by
  unfold ref04_Add at hF
  refine Ct.intro Try.func24 rfl Try.ntmps24 rfl rfl fun M w => ?_
  refine G.seq ?_
  refine G.region ?_
  refine G.op2 (op_boxA (k := 1003) (Ev.t 1 (.g (.agg [.v (.string d_1.Key), .v (.int .i64 d_1.Stamp.N), .v (.int .i64 d_1.Stamp.Site)]))) rfl) rfl ⟨rfl, trivial⟩ ⟨rfl, trivial⟩ ?_
  refine G.op1 (op_assign (Ev.n 3) rfl) rfl trivial trivial ?_
  refine G.endOps ?_
  refine G.seq ?_
  refine G.region ?_
  refine G.op1 (op_fieldP (off' := 0) Try.underlying52 rfl ti9 (by decide) rfl (Ev.t 3 (.ptr 1003 0)) rfl) rfl ⟨rfl, trivial⟩ trivial ?_
  refine G.op1 (op_load1P (c := bS d_1.Key) Try.underlying9 rfl rfl (Ev.t 11 (.ptr 1003 0)) rfl) rfl ⟨rfl, trivial⟩ ⟨rfl, trivial⟩ ?_
  obtain ⟨r1, hr1, hF⟩ := bindS hF
  refine G.op1 (op_callQ (sv := .one (bB r1)) cf28 (ct_ref02_Check d_1.Key r1 hr1) rfl rfl (EvQL.cons (EvQ.g (Ev.t 12 (bS d_1.Key))) EvQL.nil) rfl) rfl ⟨rfl, trivial⟩ trivial ?_
  refine G.op1 (op_assign (Ev.t 13 (bB r1)) rfl) rfl ⟨rfl, trivial⟩ trivial ?_
  refine G.endOps ?_
  refine G.seq ?_
  refine G.region ?_
  refine G.op1 (op_fieldP (off' := 1) Try.underlying52 rfl ti23 (by decide) rfl (Ev.t 3 (.ptr 1003 0)) rfl) rfl ⟨rfl, trivial⟩ trivial ?_
  refine G.op1 (op_loadAP (ds := [.v (.int .i64 d_1.Stamp.N), .v (.int .i64 d_1.Stamp.Site)]) Try.underlying23 rfl ti23 rfl (Ev.t 14 (.ptr 1003 1)) rfl) rfl ⟨rfl, trivial⟩ ⟨rfl, trivial⟩ ?_
  obtain ⟨r2, hr2, hF⟩ := bindS hF
  refine G.op1 (op_callQ (sv := .one (bB r2)) cf29 (ct_ref03_Check d_1.Stamp r2 hr2) rfl rfl (EvQL.cons (EvQ.g (Ev.t 15 (.g (.agg [.v (.int .i64 d_1.Stamp.N), .v (.int .i64 d_1.Stamp.Site)])))) EvQL.nil) rfl) rfl ⟨rfl, trivial⟩ trivial ?_
  refine G.op1 (op_assign (Ev.t 16 (bB r2)) rfl) rfl ⟨rfl, trivial⟩ trivial ?_
  refine G.endOps ?_
  refine G.seq ?_
  refine G.seq ?_
  refine G.joinC (T := Bool) (fun y3 => ⟨[(0, .one (.g (.d (.sl 3 (List.map encApi_Dep p_0))))), (3, .one (.ptr 1003 0)), (22, .one (bB y3))], [(1003, some (.blk 52 [bS d_1.Key, bI .i64 d_1.Stamp.N, bI .i64 d_1.Stamp.Site]))]⟩) (fun y3 => ref04_Add_k1 p_0 d_1 y3 = some r) (fun y3 hF => ?_) (fun J28 => ?_)
  · unfold ref04_Add_k1 at hF
    refine ifS hF (fun hc4 hF => ?_) (fun hc4 hF => ?_)
    · refine G.cond rfl (fun _ => ?_) (fun hx => by rw [hc4] at hx; cases hx)
      refine G.seq ?_
      refine G.region ?_
      refine G.op1 (op_move (Ev.t 0 (.g (.d (.sl 3 (List.map encApi_Dep p_0))))) rfl) rfl ⟨rfl, trivial⟩ trivial ?_
      refine G.op1 (op_assign (Ev.t 23 (.g (.d (.sl 3 (List.map encApi_Dep p_0))))) rfl) rfl ⟨rfl, trivial⟩ trivial ?_
      refine G.endOps ?_
      cases hF
      exact G.ret1 Try.results24 (RVar.tmp 4 _) ⟨rfl, trivial⟩ trivial
    · refine G.cond rfl (fun hx => by rw [hc4] at hx; cases hx) (fun _ => ?_)
      refine G.skip ?_
      refine G.seq ?_
      refine G.region ?_
      refine G.op2 (op_assignRow (E := 52) (size := 3) (k := 2007) (ex := false) rfl rfl) rfl trivial ⟨rfl, trivial⟩ ?_
      refine G.endOps ?_
      refine G.seq ?_
      refine G.region ?_
      refine G.op1 (op_assign (Ev.c _ rfl) rfl) rfl trivial trivial ?_
      refine G.endOps ?_
      refine G.seq ?_
      refine G.seq ?_
      refine G.region ?_
      refine G.op1 (op_assign (Ev.c _ rfl) rfl) rfl trivial trivial ?_
      refine G.endOps ?_
      refine G.joinC (T := Bool × (List Api_Dep)) (fun y5 => ⟨[(3, .one (.ptr 1003 0)), (7, .one (.own 2007 (List.map encApi_Dep y5.2))), (8, .one (bB y5.1))], [(1003, some (.blk 52 [bS d_1.Key, bI .i64 d_1.Stamp.N, bI .i64 d_1.Stamp.Site])), (2007, some (.row 52 3 (List.map encApi_Dep y5.2) false))]⟩) (fun y5 => ref04_Add_k2 d_1 y5 = some r) (fun y5 hF => ?_) (fun J8 => ?_)
      · unfold ref04_Add_k2 at hF
        refine G.seq ?_
        refine G.seq ?_
        refine G.region ?_
        refine G.op1 (op_move (Ev.t 8 (bB y5.1)) rfl) rfl ⟨rfl, trivial⟩ trivial ?_
        refine G.op1 (op_not (Ev.t 62 (bB y5.1)) rfl) rfl ⟨rfl, trivial⟩ trivial ?_
        refine G.endOps ?_
        refine ifS hF (fun hc6 hF => ?_) (fun hc6 hF => ?_)
        · refine G.cond rfl (fun _ => ?_) (fun hx => by rw [hc6] at hx; cases hx)
          refine G.region ?_
          refine G.op1 (op_move (Ev.t 7 (.own 2007 (List.map encApi_Dep y5.2))) rfl) rfl ⟨rfl, trivial⟩ trivial ?_
          refine G.op1 (op_loadAP (ds := [.v (.string d_1.Key), .v (.int .i64 d_1.Stamp.N), .v (.int .i64 d_1.Stamp.Site)]) Try.underlying52 rfl ti52 rfl (Ev.t 3 (.ptr 1003 0)) rfl) rfl ⟨rfl, trivial⟩ ⟨rfl, trivial⟩ ?_
          refine G.op1 (op_buildSlice (es := List.map encApi_Dep [d_1]) Try.underlying24 ti52 rfl rfl (EvP.cons (Ev.t 65 (.g (.agg [.v (.string d_1.Key), .v (.int .i64 d_1.Stamp.N), .v (.int .i64 d_1.Stamp.Site)]))) EvP.nil) rfl rfl (by simp [encApi_Dep]) rfl) rfl ⟨rfl, trivial⟩ trivial ?_
          obtain ⟨l7, hl7, hF⟩ := bindS hF
          refine G.op2 (op_appendO Try.underlying24 ti52 rfl (app_map hl7 encApi_Dep) (app_b1 hl7 encApi_Dep) (app_b2 hl7 encApi_Dep) (Ev.t 64 (.own 2007 (List.map encApi_Dep y5.2))) (Ev.t 66 (.g (.d (.sl 3 (List.map encApi_Dep ([d_1])))))) rfl) rfl ⟨rfl, rfl, trivial⟩ ⟨rfl, trivial⟩ ?_
          refine G.op1 (op_assign (Ev.t 67 (.own 2007 (List.map encApi_Dep l7))) rfl) rfl ⟨rfl, trivial⟩ trivial ?_
          refine G.endOps ?_
          refine G.seq ?_
          refine G.region ?_
          refine G.op1 (op_move (Ev.t 7 (.own 2007 (List.map encApi_Dep l7))) rfl) rfl ⟨rfl, trivial⟩ trivial ?_
          refine G.op1 (op_assign (Ev.t 68 (.own 2007 (List.map encApi_Dep l7))) rfl) rfl ⟨rfl, trivial⟩ trivial ?_
          refine G.endOps ?_
          refine G.view (t := 4) rfl rfl ?_
          cases hF
          exact G.ret1 Try.results24 (RVar.tmp 4 _) ⟨rfl, trivial⟩ trivial
        · refine G.cond rfl (fun hx => by rw [hc6] at hx; cases hx) (fun _ => ?_)
          refine G.skip ?_
          refine G.seq ?_
          refine G.region ?_
          refine G.op1 (op_move (Ev.t 7 (.own 2007 (List.map encApi_Dep y5.2))) rfl) rfl ⟨rfl, trivial⟩ trivial ?_
          refine G.op1 (op_assign (Ev.t 68 (.own 2007 (List.map encApi_Dep y5.2))) rfl) rfl ⟨rfl, trivial⟩ trivial ?_
          refine G.endOps ?_
          refine G.view (t := 4) rfl rfl ?_
          cases hF
          exact G.ret1 Try.results24 (RVar.tmp 4 _) ⟨rfl, trivial⟩ trivial
      refine G.block ?_
      refine G.keep (sl' := [(0, .one (.g (.d (.sl 3 (List.map encApi_Dep p_0))))), (3, .one (.ptr 1003 0)), (7, .one (.own 2007 (List.map encApi_Dep ([] : (List Api_Dep))))), (8, .one (bB false)), (9, .one (bI .i64 0))]) (hp' := [(1003, some (.blk 52 [bS d_1.Key, bI .i64 d_1.Stamp.N, bI .i64 d_1.Stamp.Site])), (2007, some (.row 52 3 (List.map encApi_Dep ([] : (List Api_Dep))) false))]) ⟨rfl, rfl, rfl, rfl, rfl, trivial⟩ ⟨rfl, rfl, trivial⟩ rfl ?_
      refine G.loopF (fun (v9 : Bool × Int × (List Api_Dep)) => ⟨[(0, .one (.g (.d (.sl 3 (List.map encApi_Dep p_0))))), (3, .one (.ptr 1003 0)), (7, .one (.own 2007 (List.map encApi_Dep v9.2.2))), (8, .one (bB v9.1)), (9, .one (bI .i64 v9.2.1))], [(1003, some (.blk 52 [bS d_1.Key, bI .i64 d_1.Stamp.N, bI .i64 d_1.Stamp.Site])), (2007, some (.row 52 3 (List.map encApi_Dep v9.2.2) false))]⟩) hF rfl (fun K12 again11 v9 J10 hF => ?_)
      unfold ref04_Add_l3 at hF
      refine G.seq ?_
      refine G.seq ?_
      refine G.region ?_
      refine G.op1 (op_move (Ev.t 9 (bI .i64 v9.2.1)) rfl) rfl ⟨rfl, trivial⟩ trivial ?_
      refine G.op1 (op_move (Ev.t 0 (.g (.d (.sl 3 (List.map encApi_Dep p_0))))) rfl) rfl ⟨rfl, trivial⟩ trivial ?_
      refine G.op1 (OpL.cast (op_lenD Try.underlying24 (Ev.t 25 (.g (.d (.sl 3 (List.map encApi_Dep p_0))))) rfl) (by rw [List.length_map])) rfl ⟨rfl, trivial⟩ trivial ?_
      refine G.op1 (op_lss (Ev.t 24 (bI .i64 v9.2.1)) (Ev.t 26 (bI .i64 (p_0.length : Int))) rfl) rfl ⟨rfl, rfl, trivial⟩ trivial ?_
      refine G.endOps ?_
      refine ifS hF (fun hc13 hF => ?_) (fun hc13 hF => ?_)
      · refine G.cond rfl (fun _ => ?_) (fun hx => by rw [hc13] at hx; cases hx)
        refine G.skip ?_
        refine G.seq ?_
        refine G.block ?_
        refine G.seq ?_
        refine G.region ?_
        refine G.op1 (op_move (Ev.t 0 (.g (.d (.sl 3 (List.map encApi_Dep p_0))))) rfl) rfl ⟨rfl, trivial⟩ trivial ?_
        refine G.op1 (op_move (Ev.t 9 (bI .i64 v9.2.1)) rfl) rfl ⟨rfl, trivial⟩ trivial ?_
        obtain ⟨x14, hx14, hF⟩ := bindS hF
        refine G.op1 (op_index (cs := [.v (.string x14.Key), .v (.int .i64 x14.Stamp.N), .v (.int .i64 x14.Stamp.Site)]) Try.underlying24 ti52 (idx_ok hx14).1 (idx_get hx14 encApi_Dep) (Ev.t 30 (.g (.d (.sl 3 (List.map encApi_Dep p_0))))) (Ev.t 31 (bI .i64 v9.2.1)) rfl) rfl ⟨rfl, rfl, trivial⟩ trivial ?_
        refine G.op1 (op_loadAE (ds := [.v (.string x14.Key), .v (.int .i64 x14.Stamp.N), .v (.int .i64 x14.Stamp.Site)]) Try.underlying52 rfl ti52 rfl (Ev.t 32 (.ep [.v (.string x14.Key), .v (.int .i64 x14.Stamp.N), .v (.int .i64 x14.Stamp.Site)])) rfl) rfl ⟨rfl, trivial⟩ trivial ?_
        refine G.op2 (op_alloc (k := 1010) (cs := [bS ByteArray.empty, bI .i64 0, bI .i64 0]) ti52 ⟨.v _ rfl, .v _ rfl, .v _ rfl, trivial⟩ rfl) rfl trivial ⟨rfl, trivial⟩ ?_
        refine G.op3 (op_storeA (cs' := [bS x14.Key, bI .i64 x14.Stamp.N, bI .i64 x14.Stamp.Site]) ti52 rfl rfl (Ev.t 10 (.ptr 1010 0)) (Ev.t 33 (.g (.agg [.v (.string x14.Key), .v (.int .i64 x14.Stamp.N), .v (.int .i64 x14.Stamp.Site)])))) rfl ⟨rfl, rfl, trivial⟩ ⟨rfl, trivial⟩ ?_
        refine G.endOps ?_
        refine G.seq ?_
        refine G.seq ?_
        refine G.region ?_
        refine G.op1 (op_fieldP (off' := 0) Try.underlying52 rfl ti9 (by decide) rfl (Ev.t 10 (.ptr 1010 0)) rfl) rfl ⟨rfl, trivial⟩ trivial ?_
        refine G.op1 (op_load1P (c := bS x14.Key) Try.underlying9 rfl rfl (Ev.t 34 (.ptr 1010 0)) rfl) rfl ⟨rfl, trivial⟩ ⟨rfl, trivial⟩ ?_
        refine G.op1 (op_fieldP (off' := 0) Try.underlying52 rfl ti9 (by decide) rfl (Ev.t 3 (.ptr 1003 0)) rfl) rfl ⟨rfl, trivial⟩ trivial ?_
        refine G.op1 (op_load1P (c := bS d_1.Key) Try.underlying9 rfl rfl (Ev.t 36 (.ptr 1003 0)) rfl) rfl ⟨rfl, trivial⟩ ⟨rfl, trivial⟩ ?_
        refine G.op1 (op_eqS (Ev.t 35 (bS x14.Key)) (Ev.t 37 (bS d_1.Key)) rfl) rfl ⟨rfl, rfl, trivial⟩ trivial ?_
        refine G.endOps ?_
        refine G.joinC (T := Bool × ByteArray × Int × Int) (fun y15 => ⟨[(0, .one (.g (.d (.sl 3 (List.map encApi_Dep p_0))))), (3, .one (.ptr 1003 0)), (7, .one (.own 2007 (List.map encApi_Dep v9.2.2))), (8, .one (bB y15.1)), (9, .one (bI .i64 v9.2.1)), (10, .one (.ptr 1010 0))], [(1003, some (.blk 52 [bS d_1.Key, bI .i64 d_1.Stamp.N, bI .i64 d_1.Stamp.Site])), (1010, some (.blk 52 [bS y15.2.1, bI .i64 y15.2.2.1, bI .i64 y15.2.2.2])), (2007, some (.row 52 3 (List.map encApi_Dep v9.2.2) false))]⟩) (fun y15 => ref04_Add_k4 d_1 again11 v9 y15 = some r) (fun y15 hF => ?_) (fun J24 => ?_)
        · unfold ref04_Add_k4 at hF
          refine G.seq ?_
          refine G.seq ?_
          refine G.joinC (T := Bool) (fun y16 => ⟨[(0, .one (.g (.d (.sl 3 (List.map encApi_Dep p_0))))), (3, .one (.ptr 1003 0)), (7, .one (.own 2007 (List.map encApi_Dep v9.2.2))), (8, .one (bB y15.1)), (9, .one (bI .i64 v9.2.1)), (10, .one (.ptr 1010 0)), (53, .one (bB y16))], [(1003, some (.blk 52 [bS d_1.Key, bI .i64 d_1.Stamp.N, bI .i64 d_1.Stamp.Site])), (1010, some (.blk 52 [bS y15.2.1, bI .i64 y15.2.2.1, bI .i64 y15.2.2.2])), (2007, some (.row 52 3 (List.map encApi_Dep v9.2.2) false))]⟩) (fun y16 => ref04_Add_k5 d_1 again11 v9 y15 y16 = some r) (fun y16 hF => ?_) (fun J22 => ?_)
          · unfold ref04_Add_k5 at hF
            refine G.joinC (T := Bool × (List Api_Dep)) (fun y17 => ⟨[(0, .one (.g (.d (.sl 3 (List.map encApi_Dep p_0))))), (3, .one (.ptr 1003 0)), (7, .one (.own 2007 (List.map encApi_Dep y17.2))), (8, .one (bB y17.1)), (9, .one (bI .i64 v9.2.1)), (10, .one (.ptr 1010 0))], [(1003, some (.blk 52 [bS d_1.Key, bI .i64 d_1.Stamp.N, bI .i64 d_1.Stamp.Site])), (1010, some (.blk 52 [bS y15.2.1, bI .i64 y15.2.2.1, bI .i64 y15.2.2.2])), (2007, some (.row 52 3 (List.map encApi_Dep y17.2) false))]⟩) (fun y17 => ref04_Add_k6 again11 v9 y15 y17 = some r) (fun y17 hF => ?_) (fun J19 => ?_)
            · unfold ref04_Add_k6 at hF
              refine G.region ?_
              refine G.op1 (op_move (Ev.t 7 (.own 2007 (List.map encApi_Dep y17.2))) rfl) rfl ⟨rfl, trivial⟩ trivial ?_
              refine G.op1 (op_loadAP (ds := [.v (.string y15.2.1), .v (.int .i64 y15.2.2.1), .v (.int .i64 y15.2.2.2)]) Try.underlying52 rfl ti52 rfl (Ev.t 10 (.ptr 1010 0)) rfl) rfl ⟨rfl, trivial⟩ ⟨rfl, trivial⟩ ?_
              refine G.op1 (op_buildSlice (es := List.map encApi_Dep [(Api_Dep.mk y15.2.1 (Api_Stamp.mk y15.2.2.1 y15.2.2.2))]) Try.underlying24 ti52 rfl rfl (EvP.cons (Ev.t 59 (.g (.agg [.v (.string y15.2.1), .v (.int .i64 y15.2.2.1), .v (.int .i64 y15.2.2.2)]))) EvP.nil) rfl rfl (by simp [encApi_Dep]) rfl) rfl ⟨rfl, trivial⟩ trivial ?_
              obtain ⟨l18, hl18, hF⟩ := bindS hF
              refine G.op2 (op_appendO Try.underlying24 ti52 rfl (app_map hl18 encApi_Dep) (app_b1 hl18 encApi_Dep) (app_b2 hl18 encApi_Dep) (Ev.t 58 (.own 2007 (List.map encApi_Dep y17.2))) (Ev.t 60 (.g (.d (.sl 3 (List.map encApi_Dep ([(Api_Dep.mk y15.2.1 (Api_Stamp.mk y15.2.2.1 y15.2.2.2))])))))) rfl) rfl ⟨rfl, rfl, trivial⟩ ⟨rfl, trivial⟩ ?_
              refine G.op1 (op_assign (Ev.t 61 (.own 2007 (List.map encApi_Dep l18))) rfl) rfl ⟨rfl, trivial⟩ trivial ?_
              refine G.endOps ?_
              refine G.endBlock ?_
              refine G.region ?_
              refine G.op1 (op_move (Ev.t 9 (bI .i64 v9.2.1)) rfl) rfl ⟨rfl, trivial⟩ trivial ?_
              refine G.op1 (op_add (Ev.t 28 (bI .i64 v9.2.1)) (Ev.c _ rfl) rfl) rfl ⟨rfl, trivial⟩ trivial ?_
              refine G.op1 (op_assign (Ev.t 29 (bI .i64 (IntKind.wrap .i64 (v9.2.1 + 1)))) rfl) rfl ⟨rfl, trivial⟩ trivial ?_
              refine G.endOps ?_
              exact G.arr (J10 (y17.1, IntKind.wrap .i64 (v9.2.1 + 1), l18) hF) ⟨rfl, rfl, rfl, rfl, rfl, trivial⟩ ⟨rfl, rfl, trivial⟩ rfl
            refine ifS hF (fun hc20 hF => ?_) (fun hc20 hF => ?_)
            · refine G.cond rfl (fun _ => ?_) (fun hx => by rw [hc20] at hx; cases hx)
              refine G.seq ?_
              refine G.region ?_
              refine G.op1 (op_move (Ev.t 7 (.own 2007 (List.map encApi_Dep v9.2.2))) rfl) rfl ⟨rfl, trivial⟩ trivial ?_
              refine G.op1 (op_loadAP (ds := [.v (.string d_1.Key), .v (.int .i64 d_1.Stamp.N), .v (.int .i64 d_1.Stamp.Site)]) Try.underlying52 rfl ti52 rfl (Ev.t 3 (.ptr 1003 0)) rfl) rfl ⟨rfl, trivial⟩ ⟨rfl, trivial⟩ ?_
              refine G.op1 (op_buildSlice (es := List.map encApi_Dep [d_1]) Try.underlying24 ti52 rfl rfl (EvP.cons (Ev.t 55 (.g (.agg [.v (.string d_1.Key), .v (.int .i64 d_1.Stamp.N), .v (.int .i64 d_1.Stamp.Site)]))) EvP.nil) rfl rfl (by simp [encApi_Dep]) rfl) rfl ⟨rfl, trivial⟩ trivial ?_
              obtain ⟨l21, hl21, hF⟩ := bindS hF
              refine G.op2 (op_appendO Try.underlying24 ti52 rfl (app_map hl21 encApi_Dep) (app_b1 hl21 encApi_Dep) (app_b2 hl21 encApi_Dep) (Ev.t 54 (.own 2007 (List.map encApi_Dep v9.2.2))) (Ev.t 56 (.g (.d (.sl 3 (List.map encApi_Dep ([d_1])))))) rfl) rfl ⟨rfl, rfl, trivial⟩ ⟨rfl, trivial⟩ ?_
              refine G.op1 (op_assign (Ev.t 57 (.own 2007 (List.map encApi_Dep l21))) rfl) rfl ⟨rfl, trivial⟩ trivial ?_
              refine G.endOps ?_
              refine G.region ?_
              refine G.op1 (op_assign (Ev.c _ rfl) rfl) rfl trivial trivial ?_
              refine G.endOps ?_
              exact G.arr (J19 (true, l21) hF) ⟨rfl, rfl, rfl, rfl, rfl, rfl, trivial⟩ ⟨rfl, rfl, rfl, trivial⟩ rfl
            · refine G.cond rfl (fun hx => by rw [hc20] at hx; cases hx) (fun _ => ?_)
              refine G.skip ?_
              exact G.arr (J19 (y15.1, v9.2.2) hF) ⟨rfl, rfl, rfl, rfl, rfl, rfl, trivial⟩ ⟨rfl, rfl, rfl, trivial⟩ rfl
          refine G.region ?_
          refine G.op1 (op_move (Ev.t 8 (bB y15.1)) rfl) rfl ⟨rfl, trivial⟩ trivial ?_
          refine G.op1 (op_not (Ev.t 45 (bB y15.1)) rfl) rfl ⟨rfl, trivial⟩ trivial ?_
          refine G.op1 (op_move (Ev.t 46 (bB (!y15.1))) rfl) rfl ⟨rfl, trivial⟩ trivial ?_
          refine ifS hF (fun hc23 hF => ?_) (fun hc23 hF => ?_)
          · refine G.known (t := 47) hc23 rfl ?_
            refine G.opG1 (op_fieldP (off' := 0) Try.underlying52 rfl ti9 (by decide) rfl (Ev.t 10 (.ptr 1010 0)) rfl) rfl rfl rfl ⟨rfl, trivial⟩ trivial ?_
            refine G.opG1 (op_load1P (c := bS y15.2.1) Try.underlying9 rfl rfl (Ev.t 48 (.ptr 1010 0)) rfl) rfl rfl rfl ⟨rfl, trivial⟩ ⟨rfl, trivial⟩ ?_
            refine G.opG1 (op_fieldP (off' := 0) Try.underlying52 rfl ti9 (by decide) rfl (Ev.t 3 (.ptr 1003 0)) rfl) rfl rfl rfl ⟨rfl, trivial⟩ trivial ?_
            refine G.opG1 (op_load1P (c := bS d_1.Key) Try.underlying9 rfl rfl (Ev.t 50 (.ptr 1003 0)) rfl) rfl rfl rfl ⟨rfl, trivial⟩ ⟨rfl, trivial⟩ ?_
            refine G.opG1 (op_gtS (Ev.t 49 (bS y15.2.1)) (Ev.t 51 (bS d_1.Key)) rfl) rfl rfl rfl ⟨rfl, rfl, trivial⟩ trivial ?_
            refine G.op1 (op_pickT (Ev.t 47 (bB true)) (Ev.t 52 (bB (!(slt y15.2.1 d_1.Key || seq y15.2.1 d_1.Key)))) rfl) rfl ⟨rfl, rfl, trivial⟩ trivial ?_
            refine G.endOps ?_
            exact G.arr (J22 (!(slt y15.2.1 d_1.Key || seq y15.2.1 d_1.Key)) hF) ⟨rfl, rfl, rfl, rfl, rfl, rfl, rfl, trivial⟩ ⟨rfl, rfl, rfl, trivial⟩ rfl
          · refine G.known (t := 47) hc23 rfl ?_
            refine G.opN1 rfl rfl rfl rfl rfl ?_
            refine G.opN1 rfl rfl rfl rfl rfl ?_
            refine G.opN1 rfl rfl rfl rfl rfl ?_
            refine G.opN1 rfl rfl rfl rfl rfl ?_
            refine G.opN1 rfl rfl rfl rfl rfl ?_
            refine G.op1 (op_pickF (Ev.t 47 (bB false)) (Ev.c _ rfl) rfl) rfl ⟨rfl, trivial⟩ trivial ?_
            refine G.endOps ?_
            exact G.arr (J22 false hF) ⟨rfl, rfl, rfl, rfl, rfl, rfl, rfl, trivial⟩ ⟨rfl, rfl, rfl, trivial⟩ rfl
        refine ifS hF (fun hc25 hF => ?_) (fun hc25 hF => ?_)
        · refine G.cond rfl (fun _ => ?_) (fun hx => by rw [hc25] at hx; cases hx)
          refine G.seq ?_
          refine G.seq ?_
          refine G.region ?_
          refine G.op1 (op_fieldP (off' := 1) Try.underlying52 rfl ti23 (by decide) rfl (Ev.t 10 (.ptr 1010 0)) rfl) rfl ⟨rfl, trivial⟩ trivial ?_
          refine G.op1 (op_loadAP (ds := [.v (.int .i64 x14.Stamp.N), .v (.int .i64 x14.Stamp.Site)]) Try.underlying23 rfl ti23 rfl (Ev.t 39 (.ptr 1010 1)) rfl) rfl ⟨rfl, trivial⟩ ⟨rfl, trivial⟩ ?_
          refine G.op1 (op_fieldP (off' := 1) Try.underlying52 rfl ti23 (by decide) rfl (Ev.t 3 (.ptr 1003 0)) rfl) rfl ⟨rfl, trivial⟩ trivial ?_
          refine G.op1 (op_loadAP (ds := [.v (.int .i64 d_1.Stamp.N), .v (.int .i64 d_1.Stamp.Site)]) Try.underlying23 rfl ti23 rfl (Ev.t 41 (.ptr 1003 1)) rfl) rfl ⟨rfl, trivial⟩ ⟨rfl, trivial⟩ ?_
          obtain ⟨r26, hr26, hF⟩ := bindS hF
          refine G.op1 (op_callQ (sv := .one (bB r26)) cf57 (ct_ref03_Less x14.Stamp d_1.Stamp r26 hr26) rfl rfl (EvQL.cons (EvQ.g (Ev.t 40 (.g (.agg [.v (.int .i64 x14.Stamp.N), .v (.int .i64 x14.Stamp.Site)])))) (EvQL.cons (EvQ.g (Ev.t 42 (.g (.agg [.v (.int .i64 d_1.Stamp.N), .v (.int .i64 d_1.Stamp.Site)])))) EvQL.nil)) rfl) rfl ⟨rfl, rfl, trivial⟩ trivial ?_
          refine G.endOps ?_
          refine ifS hF (fun hc27 hF => ?_) (fun hc27 hF => ?_)
          · refine G.cond rfl (fun _ => ?_) (fun hx => by rw [hc27] at hx; cases hx)
            refine G.region ?_
            refine G.op1 (op_loadAP (ds := [.v (.string d_1.Key), .v (.int .i64 d_1.Stamp.N), .v (.int .i64 d_1.Stamp.Site)]) Try.underlying52 rfl ti52 rfl (Ev.t 3 (.ptr 1003 0)) rfl) rfl ⟨rfl, trivial⟩ ⟨rfl, trivial⟩ ?_
            refine G.op3 (op_storeA (cs' := [bS d_1.Key, bI .i64 d_1.Stamp.N, bI .i64 d_1.Stamp.Site]) ti52 rfl rfl (Ev.t 10 (.ptr 1010 0)) (Ev.t 44 (.g (.agg [.v (.string d_1.Key), .v (.int .i64 d_1.Stamp.N), .v (.int .i64 d_1.Stamp.Site)])))) rfl ⟨rfl, rfl, trivial⟩ ⟨rfl, trivial⟩ ?_
            refine G.endOps ?_
            refine G.region ?_
            refine G.op1 (op_assign (Ev.c _ rfl) rfl) rfl trivial trivial ?_
            refine G.endOps ?_
            exact G.arr (J24 (true, d_1.Key, d_1.Stamp.N, d_1.Stamp.Site) hF) ⟨rfl, rfl, rfl, rfl, rfl, rfl, trivial⟩ ⟨rfl, rfl, rfl, trivial⟩ rfl
          · refine G.cond rfl (fun hx => by rw [hc27] at hx; cases hx) (fun _ => ?_)
            refine G.skip ?_
            refine G.region ?_
            refine G.op1 (op_assign (Ev.c _ rfl) rfl) rfl trivial trivial ?_
            refine G.endOps ?_
            exact G.arr (J24 (true, x14.Key, x14.Stamp.N, x14.Stamp.Site) hF) ⟨rfl, rfl, rfl, rfl, rfl, rfl, trivial⟩ ⟨rfl, rfl, rfl, trivial⟩ rfl
        · refine G.cond rfl (fun hx => by rw [hc25] at hx; cases hx) (fun _ => ?_)
          refine G.skip ?_
          exact G.arr (J24 (v9.1, x14.Key, x14.Stamp.N, x14.Stamp.Site) hF) ⟨rfl, rfl, rfl, rfl, rfl, rfl, trivial⟩ ⟨rfl, rfl, rfl, trivial⟩ rfl
      · refine G.cond rfl (fun hx => by rw [hc13] at hx; cases hx) (fun _ => ?_)
        refine G.exit ?_
        refine GX.c ?_
        refine GX.q ?_
        refine GX.bYes ?_
        exact G.arr (J8 (v9.1, v9.2.2) hF) ⟨rfl, rfl, rfl, trivial⟩ ⟨rfl, rfl, trivial⟩ rfl
  refine G.region ?_
  refine G.op1 (op_move (Ev.t 5 (bB r1)) rfl) rfl ⟨rfl, trivial⟩ trivial ?_
  refine G.op1 (op_not (Ev.t 17 (bB r1)) rfl) rfl ⟨rfl, trivial⟩ trivial ?_
  refine G.op1 (op_move (Ev.t 18 (bB (!r1))) rfl) rfl ⟨rfl, trivial⟩ trivial ?_
  refine ifS hF (fun hc29 hF => ?_) (fun hc29 hF => ?_)
  · refine G.known (t := 19) hc29 rfl ?_
    refine G.opN1 rfl rfl rfl rfl rfl ?_
    refine G.opN1 rfl rfl rfl rfl rfl ?_
    refine G.op1 (op_pickT (Ev.t 19 (bB true)) (Ev.c _ rfl) rfl) rfl ⟨rfl, trivial⟩ trivial ?_
    refine G.endOps ?_
    exact G.arr (J28 true hF) ⟨rfl, rfl, rfl, trivial⟩ ⟨rfl, trivial⟩ rfl
  · refine G.known (t := 19) hc29 rfl ?_
    refine G.opG1 (op_move (Ev.t 6 (bB r2)) rfl) rfl rfl rfl ⟨rfl, trivial⟩ trivial ?_
    refine G.opG1 (op_not (Ev.t 20 (bB r2)) rfl) rfl rfl rfl ⟨rfl, trivial⟩ trivial ?_
    refine G.op1 (op_pickF (Ev.t 19 (bB false)) (Ev.t 21 (bB (!r2))) rfl) rfl ⟨rfl, rfl, trivial⟩ trivial ?_
    refine G.endOps ?_
    exact G.arr (J28 (!r2) hF) ⟨rfl, rfl, rfl, trivial⟩ ⟨rfl, trivial⟩ rfl


set_option maxRecDepth 20000 in
set_option maxHeartbeats 2000000 in
theorem ct_law06_few (v_0 : Api_Version) (r : Api_Version) (hF : law06_few v_0 = some r) : Ct Try.prog 10 [.g (.agg (encApi_Version v_0))] (.one (.agg (encApi_Version r))) := by
  unfold law06_few at hF
  refine Ct.intro Try.func10 rfl Try.ntmps10 rfl rfl fun M w => ?_
  refine G.seq ?_
  refine G.region ?_
  refine G.op2 (op_boxA (k := 1001) (Ev.t 0 (.g (.agg [.v (.string v_0.Key), .v (.string v_0.Value), .v (.bool v_0.Gone), .v (.int .i64 v_0.Stamp.N), .v (.int .i64 v_0.Stamp.Site), .sl 3 (List.map encApi_Dep v_0.Past)]))) rfl) rfl ⟨rfl, trivial⟩ ⟨rfl, trivial⟩ ?_
  refine G.op2 (op_alloc (k := 1002) (cs := [bS ByteArray.empty, bS ByteArray.empty, bB false, bI .i64 0, bI .i64 0, .g (.d (.sl 3 (List.map encApi_Dep ([] : (List Api_Dep)))))]) ti26 ⟨.v _ rfl, .v _ rfl, .v _ rfl, .v _ rfl, .v _ rfl, .n 3, trivial⟩ rfl) rfl trivial ⟨rfl, trivial⟩ ?_
  refine G.endOps ?_
  refine G.seq ?_
  refine G.seq ?_
  refine G.region ?_
  refine G.op1 (op_fieldP (off' := 0) Try.underlying26 rfl ti9 (by decide) rfl (Ev.t 1 (.ptr 1001 0)) rfl) rfl ⟨rfl, trivial⟩ trivial ?_
  refine G.op1 (op_load1P (c := bS v_0.Key) Try.underlying9 rfl rfl (Ev.t 6 (.ptr 1001 0)) rfl) rfl ⟨rfl, trivial⟩ ⟨rfl, trivial⟩ ?_
  refine G.op1 (op_lenS Try.underlying9 (Ev.t 7 (bS v_0.Key)) rfl) rfl ⟨rfl, trivial⟩ trivial ?_
  refine G.op1 (op_gtr (Ev.t 8 (bI .i64 (v_0.Key.size : Int))) (Ev.c _ rfl) rfl) rfl ⟨rfl, trivial⟩ trivial ?_
  refine G.endOps ?_
  refine G.joinC (T := ByteArray) (fun y1 => ⟨[(1, .one (.ptr 1001 0)), (2, .one (.ptr 1002 0))], [(1001, some (.blk 26 [bS y1, bS v_0.Value, bB v_0.Gone, bI .i64 v_0.Stamp.N, bI .i64 v_0.Stamp.Site, .g (.d (.sl 3 (List.map encApi_Dep v_0.Past)))])), (1002, some (.blk 26 [bS ByteArray.empty, bS ByteArray.empty, bB false, bI .i64 0, bI .i64 0, .g (.d (.sl 3 (List.map encApi_Dep ([] : (List Api_Dep)))))]))]⟩) (fun y1 => law06_few_k1 v_0 y1 = some r) (fun y1 hF => ?_) (fun J22 => ?_)
  · unfold law06_few_k1 at hF
    refine G.seq ?_
    refine G.seq ?_
    refine G.region ?_
    refine G.op1 (op_fieldP (off' := 1) Try.underlying26 rfl ti9 (by decide) rfl (Ev.t 1 (.ptr 1001 0)) rfl) rfl ⟨rfl, trivial⟩ trivial ?_
    refine G.op1 (op_load1P (c := bS v_0.Value) Try.underlying9 rfl rfl (Ev.t 14 (.ptr 1001 1)) rfl) rfl ⟨rfl, trivial⟩ ⟨rfl, trivial⟩ ?_
    refine G.op1 (op_lenS Try.underlying9 (Ev.t 15 (bS v_0.Value)) rfl) rfl ⟨rfl, trivial⟩ trivial ?_
    refine G.op1 (op_gtr (Ev.t 16 (bI .i64 (v_0.Value.size : Int))) (Ev.c _ rfl) rfl) rfl ⟨rfl, trivial⟩ trivial ?_
    refine G.endOps ?_
    refine G.joinC (T := ByteArray) (fun y2 => ⟨[(1, .one (.ptr 1001 0)), (2, .one (.ptr 1002 0))], [(1001, some (.blk 26 [bS y1, bS y2, bB v_0.Gone, bI .i64 v_0.Stamp.N, bI .i64 v_0.Stamp.Site, .g (.d (.sl 3 (List.map encApi_Dep v_0.Past)))])), (1002, some (.blk 26 [bS ByteArray.empty, bS ByteArray.empty, bB false, bI .i64 0, bI .i64 0, .g (.d (.sl 3 (List.map encApi_Dep ([] : (List Api_Dep)))))]))]⟩) (fun y2 => law06_few_k2 v_0 y1 y2 = some r) (fun y2 hF => ?_) (fun J19 => ?_)
    · unfold law06_few_k2 at hF
      refine G.seq ?_
      refine G.region ?_
      refine G.op1 (op_assign (Ev.n 3) rfl) rfl trivial trivial ?_
      refine G.endOps ?_
      refine G.seq ?_
      refine G.seq ?_
      refine G.region ?_
      refine G.op1 (op_assign (Ev.c _ rfl) rfl) rfl trivial trivial ?_
      refine G.endOps ?_
      refine G.joinC (T := (List Api_Dep)) (fun y3 => ⟨[(1, .one (.ptr 1001 0)), (2, .one (.ptr 1002 0)), (3, .one (.g (.d (.sl 3 (List.map encApi_Dep y3)))))], [(1001, some (.blk 26 [bS y1, bS y2, bB v_0.Gone, bI .i64 v_0.Stamp.N, bI .i64 v_0.Stamp.Site, .g (.d (.sl 3 (List.map encApi_Dep v_0.Past)))])), (1002, some (.blk 26 [bS ByteArray.empty, bS ByteArray.empty, bB false, bI .i64 0, bI .i64 0, .g (.d (.sl 3 (List.map encApi_Dep ([] : (List Api_Dep)))))]))]⟩) (fun y3 => law06_few_k3 v_0 y1 y2 y3 = some r) (fun y3 hF => ?_) (fun J4 => ?_)
      · unfold law06_few_k3 at hF
        refine G.seq ?_
        refine G.region ?_
        refine G.op1 (op_move (Ev.t 3 (.g (.d (.sl 3 (List.map encApi_Dep y3))))) rfl) rfl ⟨rfl, trivial⟩ trivial ?_
        refine G.op1 (op_fieldP (off' := 5) Try.underlying26 rfl ti24 (by decide) rfl (Ev.t 1 (.ptr 1001 0)) rfl) rfl ⟨rfl, trivial⟩ trivial ?_
        refine G.op3 (op_store1 (cs' := [bS y1, bS y2, bB v_0.Gone, bI .i64 v_0.Stamp.N, bI .i64 v_0.Stamp.Site, .g (.d (.sl 3 (List.map encApi_Dep y3)))]) (c := .g (.d (.sl 3 (List.map encApi_Dep y3)))) trivial ti24 rfl rfl (Ev.t 50 (.ptr 1001 5)) (Ev.t 49 (.g (.d (.sl 3 (List.map encApi_Dep y3)))))) rfl ⟨rfl, rfl, trivial⟩ ⟨rfl, trivial⟩ ?_
        refine G.endOps ?_
        refine G.seq ?_
        refine G.region ?_
        refine G.op1 (op_loadAP (ds := [.v (.string y1), .v (.string y2), .v (.bool v_0.Gone), .v (.int .i64 v_0.Stamp.N), .v (.int .i64 v_0.Stamp.Site), .sl 3 (List.map encApi_Dep y3)]) Try.underlying26 rfl ti26 rfl (Ev.t 1 (.ptr 1001 0)) rfl) rfl ⟨rfl, trivial⟩ ⟨rfl, trivial⟩ ?_
        refine G.op3 (op_storeA (cs' := [bS y1, bS y2, bB v_0.Gone, bI .i64 v_0.Stamp.N, bI .i64 v_0.Stamp.Site, .g (.d (.sl 3 (List.map encApi_Dep y3)))]) ti26 rfl rfl (Ev.t 2 (.ptr 1002 0)) (Ev.t 51 (.g (.agg [.v (.string y1), .v (.string y2), .v (.bool v_0.Gone), .v (.int .i64 v_0.Stamp.N), .v (.int .i64 v_0.Stamp.Site), .sl 3 (List.map encApi_Dep y3)])))) rfl ⟨rfl, rfl, trivial⟩ ⟨rfl, trivial⟩ ?_
        refine G.endOps ?_
        cases hF
        exact G.ret1 Try.results10 (RVar.cellA (ds := [.v (.string y1), .v (.string y2), .v (.bool v_0.Gone), .v (.int .i64 v_0.Stamp.N), .v (.int .i64 v_0.Stamp.Site), .sl 3 (List.map encApi_Dep y3)]) Try.underlying26 rfl ti26 rfl) ⟨rfl, trivial⟩ ⟨rfl, trivial⟩
      refine G.block ?_
      refine G.keep (sl' := [(1, .one (.ptr 1001 0)), (2, .one (.ptr 1002 0)), (3, .one (.g (.d (.sl 3 (List.map encApi_Dep ([] : (List Api_Dep))))))), (4, .one (bI .i64 0))]) (hp' := [(1001, some (.blk 26 [bS y1, bS y2, bB v_0.Gone, bI .i64 v_0.Stamp.N, bI .i64 v_0.Stamp.Site, .g (.d (.sl 3 (List.map encApi_Dep v_0.Past)))])), (1002, some (.blk 26 [bS ByteArray.empty, bS ByteArray.empty, bB false, bI .i64 0, bI .i64 0, .g (.d (.sl 3 (List.map encApi_Dep ([] : (List Api_Dep)))))]))]) ⟨rfl, rfl, rfl, rfl, trivial⟩ ⟨rfl, rfl, trivial⟩ rfl ?_
      refine G.loopF (fun (v5 : (List Api_Dep) × Int) => ⟨[(1, .one (.ptr 1001 0)), (2, .one (.ptr 1002 0)), (3, .one (.g (.d (.sl 3 (List.map encApi_Dep v5.1))))), (4, .one (bI .i64 v5.2))], [(1001, some (.blk 26 [bS y1, bS y2, bB v_0.Gone, bI .i64 v_0.Stamp.N, bI .i64 v_0.Stamp.Site, .g (.d (.sl 3 (List.map encApi_Dep v_0.Past)))])), (1002, some (.blk 26 [bS ByteArray.empty, bS ByteArray.empty, bB false, bI .i64 0, bI .i64 0, .g (.d (.sl 3 (List.map encApi_Dep ([] : (List Api_Dep)))))]))]⟩) hF rfl (fun K8 again7 v5 J6 hF => ?_)
      unfold law06_few_l4 at hF
      refine G.seq ?_
      refine G.seq ?_
      refine G.joinC (T := Bool) (fun y9 => ⟨[(1, .one (.ptr 1001 0)), (2, .one (.ptr 1002 0)), (3, .one (.g (.d (.sl 3 (List.map encApi_Dep v5.1))))), (4, .one (bI .i64 v5.2)), (30, .one (bB y9))], [(1001, some (.blk 26 [bS y1, bS y2, bB v_0.Gone, bI .i64 v_0.Stamp.N, bI .i64 v_0.Stamp.Site, .g (.d (.sl 3 (List.map encApi_Dep v_0.Past)))])), (1002, some (.blk 26 [bS ByteArray.empty, bS ByteArray.empty, bB false, bI .i64 0, bI .i64 0, .g (.d (.sl 3 (List.map encApi_Dep ([] : (List Api_Dep)))))]))]⟩) (fun y9 => law06_few_k5 v_0 y1 y2 again7 v5 y9 = some r) (fun y9 hF => ?_) (fun J17 => ?_)
      · unfold law06_few_k5 at hF
        refine ifS hF (fun hc10 hF => ?_) (fun hc10 hF => ?_)
        · refine G.cond rfl (fun _ => ?_) (fun hx => by rw [hc10] at hx; cases hx)
          refine G.skip ?_
          refine G.seq ?_
          refine G.block ?_
          refine G.seq ?_
          refine G.region ?_
          refine G.op1 (op_fieldP (off' := 5) Try.underlying26 rfl ti24 (by decide) rfl (Ev.t 1 (.ptr 1001 0)) rfl) rfl ⟨rfl, trivial⟩ trivial ?_
          refine G.op1 (op_load1P (c := .g (.d (.sl 3 (List.map encApi_Dep v_0.Past)))) Try.underlying24 rfl rfl (Ev.t 33 (.ptr 1001 5)) rfl) rfl ⟨rfl, trivial⟩ ⟨rfl, trivial⟩ ?_
          refine G.op1 (op_move (Ev.t 4 (bI .i64 v5.2)) rfl) rfl ⟨rfl, trivial⟩ trivial ?_
          obtain ⟨x11, hx11, hF⟩ := bindS hF
          refine G.op1 (op_index (cs := [.v (.string x11.Key), .v (.int .i64 x11.Stamp.N), .v (.int .i64 x11.Stamp.Site)]) Try.underlying24 ti52 (idx_ok hx11).1 (idx_get hx11 encApi_Dep) (Ev.t 34 (.g (.d (.sl 3 (List.map encApi_Dep v_0.Past))))) (Ev.t 35 (bI .i64 v5.2)) rfl) rfl ⟨rfl, rfl, trivial⟩ trivial ?_
          refine G.op1 (op_loadAE (ds := [.v (.string x11.Key), .v (.int .i64 x11.Stamp.N), .v (.int .i64 x11.Stamp.Site)]) Try.underlying52 rfl ti52 rfl (Ev.t 36 (.ep [.v (.string x11.Key), .v (.int .i64 x11.Stamp.N), .v (.int .i64 x11.Stamp.Site)])) rfl) rfl ⟨rfl, trivial⟩ trivial ?_
          refine G.op2 (op_alloc (k := 1005) (cs := [bS ByteArray.empty, bI .i64 0, bI .i64 0]) ti52 ⟨.v _ rfl, .v _ rfl, .v _ rfl, trivial⟩ rfl) rfl trivial ⟨rfl, trivial⟩ ?_
          refine G.op3 (op_storeA (cs' := [bS x11.Key, bI .i64 x11.Stamp.N, bI .i64 x11.Stamp.Site]) ti52 rfl rfl (Ev.t 5 (.ptr 1005 0)) (Ev.t 37 (.g (.agg [.v (.string x11.Key), .v (.int .i64 x11.Stamp.N), .v (.int .i64 x11.Stamp.Site)])))) rfl ⟨rfl, rfl, trivial⟩ ⟨rfl, trivial⟩ ?_
          refine G.endOps ?_
          refine G.seq ?_
          refine G.seq ?_
          refine G.region ?_
          refine G.op1 (op_fieldP (off' := 0) Try.underlying52 rfl ti9 (by decide) rfl (Ev.t 5 (.ptr 1005 0)) rfl) rfl ⟨rfl, trivial⟩ trivial ?_
          refine G.op1 (op_load1P (c := bS x11.Key) Try.underlying9 rfl rfl (Ev.t 38 (.ptr 1005 0)) rfl) rfl ⟨rfl, trivial⟩ ⟨rfl, trivial⟩ ?_
          refine G.op1 (op_lenS Try.underlying9 (Ev.t 39 (bS x11.Key)) rfl) rfl ⟨rfl, trivial⟩ trivial ?_
          refine G.op1 (op_gtr (Ev.t 40 (bI .i64 (x11.Key.size : Int))) (Ev.c _ rfl) rfl) rfl ⟨rfl, trivial⟩ trivial ?_
          refine G.endOps ?_
          refine G.joinC (T := ByteArray) (fun y12 => ⟨[(1, .one (.ptr 1001 0)), (2, .one (.ptr 1002 0)), (3, .one (.g (.d (.sl 3 (List.map encApi_Dep v5.1))))), (4, .one (bI .i64 v5.2)), (5, .one (.ptr 1005 0))], [(1001, some (.blk 26 [bS y1, bS y2, bB v_0.Gone, bI .i64 v_0.Stamp.N, bI .i64 v_0.Stamp.Site, .g (.d (.sl 3 (List.map encApi_Dep v_0.Past)))])), (1002, some (.blk 26 [bS ByteArray.empty, bS ByteArray.empty, bB false, bI .i64 0, bI .i64 0, .g (.d (.sl 3 (List.map encApi_Dep ([] : (List Api_Dep)))))])), (1005, some (.blk 52 [bS y12, bI .i64 x11.Stamp.N, bI .i64 x11.Stamp.Site]))]⟩) (fun y12 => law06_few_k6 again7 v5 x11 y12 = some r) (fun y12 hF => ?_) (fun J14 => ?_)
          · unfold law06_few_k6 at hF
            refine G.region ?_
            refine G.op1 (op_move (Ev.t 3 (.g (.d (.sl 3 (List.map encApi_Dep v5.1))))) rfl) rfl ⟨rfl, trivial⟩ trivial ?_
            refine G.op1 (op_loadAP (ds := [.v (.string y12), .v (.int .i64 x11.Stamp.N), .v (.int .i64 x11.Stamp.Site)]) Try.underlying52 rfl ti52 rfl (Ev.t 5 (.ptr 1005 0)) rfl) rfl ⟨rfl, trivial⟩ ⟨rfl, trivial⟩ ?_
            obtain ⟨r13, hr13, hF⟩ := bindS hF
            refine G.op1 (op_call (sv := .one (.g (.d (.sl 3 (List.map encApi_Dep r13))))) cf24 (ct_ref04_Add v5.1 (Api_Dep.mk y12 x11.Stamp) r13 hr13) rfl (EvL.cons (Ev.t 46 (.g (.d (.sl 3 (List.map encApi_Dep v5.1))))) (EvL.cons (Ev.t 47 (.g (.agg [.v (.string y12), .v (.int .i64 x11.Stamp.N), .v (.int .i64 x11.Stamp.Site)]))) EvL.nil)) rfl) rfl ⟨rfl, rfl, trivial⟩ trivial ?_
            refine G.op1 (op_assign (Ev.t 48 (.g (.d (.sl 3 (List.map encApi_Dep r13))))) rfl) rfl ⟨rfl, trivial⟩ trivial ?_
            refine G.endOps ?_
            refine G.endBlock ?_
            refine G.region ?_
            refine G.op1 (op_move (Ev.t 4 (bI .i64 v5.2)) rfl) rfl ⟨rfl, trivial⟩ trivial ?_
            refine G.op1 (op_add (Ev.t 31 (bI .i64 v5.2)) (Ev.c _ rfl) rfl) rfl ⟨rfl, trivial⟩ trivial ?_
            refine G.op1 (op_assign (Ev.t 32 (bI .i64 (IntKind.wrap .i64 (v5.2 + 1)))) rfl) rfl ⟨rfl, trivial⟩ trivial ?_
            refine G.endOps ?_
            exact G.arr (J6 (r13, IntKind.wrap .i64 (v5.2 + 1)) hF) ⟨rfl, rfl, rfl, rfl, trivial⟩ ⟨rfl, rfl, trivial⟩ rfl
          refine ifS hF (fun hc15 hF => ?_) (fun hc15 hF => ?_)
          · refine G.cond rfl (fun _ => ?_) (fun hx => by rw [hc15] at hx; cases hx)
            refine G.region ?_
            refine G.op1 (op_fieldP (off' := 0) Try.underlying52 rfl ti9 (by decide) rfl (Ev.t 5 (.ptr 1005 0)) rfl) rfl ⟨rfl, trivial⟩ trivial ?_
            refine G.op1 (op_load1P (c := bS x11.Key) Try.underlying9 rfl rfl (Ev.t 42 (.ptr 1005 0)) rfl) rfl ⟨rfl, trivial⟩ ⟨rfl, trivial⟩ ?_
            obtain ⟨s16, hs16, hF⟩ := bindS hF
            refine G.op1 (OpL.cast (op_sliceS (lo := none) (hi := some 12) Try.underlying9 (ssub_ok hs16).1 (ssub_ok hs16).2.1 (ssub_ok hs16).2.2.1 (Ev.t 43 (bS x11.Key)) EvO.none (EvO.some (Ev.c _ rfl)) rfl) (congrArg (fun s => bS s) (ssub_ok hs16).2.2.2)) rfl ⟨rfl, trivial⟩ trivial ?_
            refine G.op1 (op_fieldP (off' := 0) Try.underlying52 rfl ti9 (by decide) rfl (Ev.t 5 (.ptr 1005 0)) rfl) rfl ⟨rfl, trivial⟩ trivial ?_
            refine G.op3 (op_store1 (cs' := [bS s16, bI .i64 x11.Stamp.N, bI .i64 x11.Stamp.Site]) (c := bS s16) trivial ti9 rfl rfl (Ev.t 45 (.ptr 1005 0)) (Ev.t 44 (bS s16))) rfl ⟨rfl, rfl, trivial⟩ ⟨rfl, trivial⟩ ?_
            refine G.endOps ?_
            exact G.arr (J14 s16 hF) ⟨rfl, rfl, rfl, rfl, rfl, trivial⟩ ⟨rfl, rfl, rfl, trivial⟩ rfl
          · refine G.cond rfl (fun hx => by rw [hc15] at hx; cases hx) (fun _ => ?_)
            refine G.skip ?_
            exact G.arr (J14 x11.Key hF) ⟨rfl, rfl, rfl, rfl, rfl, trivial⟩ ⟨rfl, rfl, rfl, trivial⟩ rfl
        · refine G.cond rfl (fun hx => by rw [hc10] at hx; cases hx) (fun _ => ?_)
          refine G.exit ?_
          refine GX.c ?_
          refine GX.q ?_
          refine GX.bYes ?_
          exact G.arr (J4 v5.1 hF) ⟨rfl, rfl, rfl, trivial⟩ ⟨rfl, rfl, trivial⟩ rfl
      refine G.region ?_
      refine G.op1 (op_move (Ev.t 4 (bI .i64 v5.2)) rfl) rfl ⟨rfl, trivial⟩ trivial ?_
      refine G.op1 (op_fieldP (off' := 5) Try.underlying26 rfl ti24 (by decide) rfl (Ev.t 1 (.ptr 1001 0)) rfl) rfl ⟨rfl, trivial⟩ trivial ?_
      refine G.op1 (op_load1P (c := .g (.d (.sl 3 (List.map encApi_Dep v_0.Past)))) Try.underlying24 rfl rfl (Ev.t 23 (.ptr 1001 5)) rfl) rfl ⟨rfl, trivial⟩ ⟨rfl, trivial⟩ ?_
      refine G.op1 (OpL.cast (op_lenD Try.underlying24 (Ev.t 24 (.g (.d (.sl 3 (List.map encApi_Dep v_0.Past))))) rfl) (by rw [List.length_map])) rfl ⟨rfl, trivial⟩ trivial ?_
      refine G.op1 (op_lss (Ev.t 22 (bI .i64 v5.2)) (Ev.t 25 (bI .i64 (v_0.Past.length : Int))) rfl) rfl ⟨rfl, rfl, trivial⟩ trivial ?_
      refine G.op1 (op_move (Ev.t 26 (bB (decide (v5.2 < (v_0.Past.length : Int))))) rfl) rfl ⟨rfl, trivial⟩ trivial ?_
      refine ifS hF (fun hc18 hF => ?_) (fun hc18 hF => ?_)
      · refine G.known (t := 27) hc18 rfl ?_
        refine G.opG1 (op_move (Ev.t 4 (bI .i64 v5.2)) rfl) rfl rfl rfl ⟨rfl, trivial⟩ trivial ?_
        refine G.opG1 (op_lss (Ev.t 28 (bI .i64 v5.2)) (Ev.c _ rfl) rfl) rfl rfl rfl ⟨rfl, trivial⟩ trivial ?_
        refine G.op1 (op_pickT (Ev.t 27 (bB true)) (Ev.t 29 (bB (decide (v5.2 < 8)))) rfl) rfl ⟨rfl, rfl, trivial⟩ trivial ?_
        refine G.endOps ?_
        exact G.arr (J17 (decide (v5.2 < 8)) hF) ⟨rfl, rfl, rfl, rfl, rfl, trivial⟩ ⟨rfl, rfl, trivial⟩ rfl
      · refine G.known (t := 27) hc18 rfl ?_
        refine G.opN1 rfl rfl rfl rfl rfl ?_
        refine G.opN1 rfl rfl rfl rfl rfl ?_
        refine G.op1 (op_pickF (Ev.t 27 (bB false)) (Ev.c _ rfl) rfl) rfl ⟨rfl, trivial⟩ trivial ?_
        refine G.endOps ?_
        exact G.arr (J17 false hF) ⟨rfl, rfl, rfl, rfl, rfl, trivial⟩ ⟨rfl, rfl, trivial⟩ rfl
    refine ifS hF (fun hc20 hF => ?_) (fun hc20 hF => ?_)
    · refine G.cond rfl (fun _ => ?_) (fun hx => by rw [hc20] at hx; cases hx)
      refine G.region ?_
      refine G.op1 (op_fieldP (off' := 1) Try.underlying26 rfl ti9 (by decide) rfl (Ev.t 1 (.ptr 1001 0)) rfl) rfl ⟨rfl, trivial⟩ trivial ?_
      refine G.op1 (op_load1P (c := bS v_0.Value) Try.underlying9 rfl rfl (Ev.t 18 (.ptr 1001 1)) rfl) rfl ⟨rfl, trivial⟩ ⟨rfl, trivial⟩ ?_
      obtain ⟨s21, hs21, hF⟩ := bindS hF
      refine G.op1 (OpL.cast (op_sliceS (lo := none) (hi := some 40) Try.underlying9 (ssub_ok hs21).1 (ssub_ok hs21).2.1 (ssub_ok hs21).2.2.1 (Ev.t 19 (bS v_0.Value)) EvO.none (EvO.some (Ev.c _ rfl)) rfl) (congrArg (fun s => bS s) (ssub_ok hs21).2.2.2)) rfl ⟨rfl, trivial⟩ trivial ?_
      refine G.op1 (op_fieldP (off' := 1) Try.underlying26 rfl ti9 (by decide) rfl (Ev.t 1 (.ptr 1001 0)) rfl) rfl ⟨rfl, trivial⟩ trivial ?_
      refine G.op3 (op_store1 (cs' := [bS y1, bS s21, bB v_0.Gone, bI .i64 v_0.Stamp.N, bI .i64 v_0.Stamp.Site, .g (.d (.sl 3 (List.map encApi_Dep v_0.Past)))]) (c := bS s21) trivial ti9 rfl rfl (Ev.t 21 (.ptr 1001 1)) (Ev.t 20 (bS s21))) rfl ⟨rfl, rfl, trivial⟩ ⟨rfl, trivial⟩ ?_
      refine G.endOps ?_
      exact G.arr (J19 s21 hF) ⟨rfl, rfl, trivial⟩ ⟨rfl, rfl, trivial⟩ rfl
    · refine G.cond rfl (fun hx => by rw [hc20] at hx; cases hx) (fun _ => ?_)
      refine G.skip ?_
      exact G.arr (J19 v_0.Value hF) ⟨rfl, rfl, trivial⟩ ⟨rfl, rfl, trivial⟩ rfl
  refine ifS hF (fun hc23 hF => ?_) (fun hc23 hF => ?_)
  · refine G.cond rfl (fun _ => ?_) (fun hx => by rw [hc23] at hx; cases hx)
    refine G.region ?_
    refine G.op1 (op_fieldP (off' := 0) Try.underlying26 rfl ti9 (by decide) rfl (Ev.t 1 (.ptr 1001 0)) rfl) rfl ⟨rfl, trivial⟩ trivial ?_
    refine G.op1 (op_load1P (c := bS v_0.Key) Try.underlying9 rfl rfl (Ev.t 10 (.ptr 1001 0)) rfl) rfl ⟨rfl, trivial⟩ ⟨rfl, trivial⟩ ?_
    obtain ⟨s24, hs24, hF⟩ := bindS hF
    refine G.op1 (OpL.cast (op_sliceS (lo := none) (hi := some 40) Try.underlying9 (ssub_ok hs24).1 (ssub_ok hs24).2.1 (ssub_ok hs24).2.2.1 (Ev.t 11 (bS v_0.Key)) EvO.none (EvO.some (Ev.c _ rfl)) rfl) (congrArg (fun s => bS s) (ssub_ok hs24).2.2.2)) rfl ⟨rfl, trivial⟩ trivial ?_
    refine G.op1 (op_fieldP (off' := 0) Try.underlying26 rfl ti9 (by decide) rfl (Ev.t 1 (.ptr 1001 0)) rfl) rfl ⟨rfl, trivial⟩ trivial ?_
    refine G.op3 (op_store1 (cs' := [bS s24, bS v_0.Value, bB v_0.Gone, bI .i64 v_0.Stamp.N, bI .i64 v_0.Stamp.Site, .g (.d (.sl 3 (List.map encApi_Dep v_0.Past)))]) (c := bS s24) trivial ti9 rfl rfl (Ev.t 13 (.ptr 1001 0)) (Ev.t 12 (bS s24))) rfl ⟨rfl, rfl, trivial⟩ ⟨rfl, trivial⟩ ?_
    refine G.endOps ?_
    exact G.arr (J22 s24 hF) ⟨rfl, rfl, trivial⟩ ⟨rfl, rfl, trivial⟩ rfl
  · refine G.cond rfl (fun hx => by rw [hc23] at hx; cases hx) (fun _ => ?_)
    refine G.skip ?_
    exact G.arr (J22 v_0.Key hF) ⟨rfl, rfl, trivial⟩ ⟨rfl, rfl, trivial⟩ rfl


set_option maxRecDepth 20000 in
set_option maxHeartbeats 2000000 in
theorem ct_law06_WireParts (v_0 : Api_Version) (w_1 : Api_Version) (r : Bool) (hF : law06_WireParts v_0 w_1 = some r) : Ct Try.prog 6 [.g (.agg (encApi_Version v_0)), .g (.agg (encApi_Version w_1))] (.one (.d (.v (.bool r)))) := by
  unfold law06_WireParts at hF
  refine Ct.intro Try.func6 rfl Try.ntmps6 rfl rfl fun M w => ?_
  refine G.seq ?_
  refine G.region ?_
  refine G.op2 (op_boxA (k := 1002) (Ev.t 0 (.g (.agg [.v (.string v_0.Key), .v (.string v_0.Value), .v (.bool v_0.Gone), .v (.int .i64 v_0.Stamp.N), .v (.int .i64 v_0.Stamp.Site), .sl 3 (List.map encApi_Dep v_0.Past)]))) rfl) rfl ⟨rfl, trivial⟩ ⟨rfl, trivial⟩ ?_
  refine G.op2 (op_boxA (k := 1003) (Ev.t 1 (.g (.agg [.v (.string w_1.Key), .v (.string w_1.Value), .v (.bool w_1.Gone), .v (.int .i64 w_1.Stamp.N), .v (.int .i64 w_1.Stamp.Site), .sl 3 (List.map encApi_Dep w_1.Past)]))) rfl) rfl ⟨rfl, trivial⟩ ⟨rfl, trivial⟩ ?_
  refine G.op1 (op_assign (Ev.c _ rfl) rfl) rfl trivial trivial ?_
  refine G.endOps ?_
  refine G.seq ?_
  refine G.region ?_
  obtain ⟨r1, hr1, hF⟩ := bindS hF
  refine G.op1 (op_callQ (sv := .one (bB r1)) cf9 (ct_law06_awake r1 hr1) rfl rfl EvQL.nil rfl) rfl trivial trivial ?_
  refine G.op1 (op_assign (Ev.t 9 (bB r1)) rfl) rfl ⟨rfl, trivial⟩ trivial ?_
  refine G.endOps ?_
  refine G.seq ?_
  refine G.region ?_
  refine G.op1 (op_loadAP (ds := [.v (.string v_0.Key), .v (.string v_0.Value), .v (.bool v_0.Gone), .v (.int .i64 v_0.Stamp.N), .v (.int .i64 v_0.Stamp.Site), .sl 3 (List.map encApi_Dep v_0.Past)]) Try.underlying26 rfl ti26 rfl (Ev.t 2 (.ptr 1002 0)) rfl) rfl ⟨rfl, trivial⟩ ⟨rfl, trivial⟩ ?_
  obtain ⟨r2, hr2, hF⟩ := bindS hF
  refine G.op1 (op_call (sv := .one (.g (.agg [.v (.string r2.Key), .v (.string r2.Value), .v (.bool r2.Gone), .v (.int .i64 r2.Stamp.N), .v (.int .i64 r2.Stamp.Site), .sl 3 (List.map encApi_Dep r2.Past)]))) cf10 (ct_law06_few v_0 r2 hr2) rfl (EvL.cons (Ev.t 10 (.g (.agg [.v (.string v_0.Key), .v (.string v_0.Value), .v (.bool v_0.Gone), .v (.int .i64 v_0.Stamp.N), .v (.int .i64 v_0.Stamp.Site), .sl 3 (List.map encApi_Dep v_0.Past)]))) EvL.nil) rfl) rfl ⟨rfl, trivial⟩ trivial ?_
  refine G.op3 (op_storeA (cs' := [bS r2.Key, bS r2.Value, bB r2.Gone, bI .i64 r2.Stamp.N, bI .i64 r2.Stamp.Site, .g (.d (.sl 3 (List.map encApi_Dep r2.Past)))]) ti26 rfl rfl (Ev.t 2 (.ptr 1002 0)) (Ev.t 11 (.g (.agg [.v (.string r2.Key), .v (.string r2.Value), .v (.bool r2.Gone), .v (.int .i64 r2.Stamp.N), .v (.int .i64 r2.Stamp.Site), .sl 3 (List.map encApi_Dep r2.Past)])))) rfl ⟨rfl, rfl, trivial⟩ ⟨rfl, trivial⟩ ?_
  refine G.endOps ?_
  refine G.seq ?_
  refine G.region ?_
  refine G.op1 (op_loadAP (ds := [.v (.string w_1.Key), .v (.string w_1.Value), .v (.bool w_1.Gone), .v (.int .i64 w_1.Stamp.N), .v (.int .i64 w_1.Stamp.Site), .sl 3 (List.map encApi_Dep w_1.Past)]) Try.underlying26 rfl ti26 rfl (Ev.t 3 (.ptr 1003 0)) rfl) rfl ⟨rfl, trivial⟩ ⟨rfl, trivial⟩ ?_
  obtain ⟨r3, hr3, hF⟩ := bindS hF
  refine G.op1 (op_call (sv := .one (.g (.agg [.v (.string r3.Key), .v (.string r3.Value), .v (.bool r3.Gone), .v (.int .i64 r3.Stamp.N), .v (.int .i64 r3.Stamp.Site), .sl 3 (List.map encApi_Dep r3.Past)]))) cf10 (ct_law06_few w_1 r3 hr3) rfl (EvL.cons (Ev.t 12 (.g (.agg [.v (.string w_1.Key), .v (.string w_1.Value), .v (.bool w_1.Gone), .v (.int .i64 w_1.Stamp.N), .v (.int .i64 w_1.Stamp.Site), .sl 3 (List.map encApi_Dep w_1.Past)]))) EvL.nil) rfl) rfl ⟨rfl, trivial⟩ trivial ?_
  refine G.op3 (op_storeA (cs' := [bS r3.Key, bS r3.Value, bB r3.Gone, bI .i64 r3.Stamp.N, bI .i64 r3.Stamp.Site, .g (.d (.sl 3 (List.map encApi_Dep r3.Past)))]) ti26 rfl rfl (Ev.t 3 (.ptr 1003 0)) (Ev.t 13 (.g (.agg [.v (.string r3.Key), .v (.string r3.Value), .v (.bool r3.Gone), .v (.int .i64 r3.Stamp.N), .v (.int .i64 r3.Stamp.Site), .sl 3 (List.map encApi_Dep r3.Past)])))) rfl ⟨rfl, rfl, trivial⟩ ⟨rfl, trivial⟩ ?_
  refine G.endOps ?_
  refine G.seq ?_
  refine G.seq ?_
  refine G.joinC (T := Bool) (fun y4 => ⟨[(2, .one (.ptr 1002 0)), (3, .one (.ptr 1003 0)), (5, .one (bB r1)), (21, .one (bB y4))], [(1002, some (.blk 26 [bS r2.Key, bS r2.Value, bB r2.Gone, bI .i64 r2.Stamp.N, bI .i64 r2.Stamp.Site, .g (.d (.sl 3 (List.map encApi_Dep r2.Past)))])), (1003, some (.blk 26 [bS r3.Key, bS r3.Value, bB r3.Gone, bI .i64 r3.Stamp.N, bI .i64 r3.Stamp.Site, .g (.d (.sl 3 (List.map encApi_Dep r3.Past)))]))]⟩) (fun y4 => law06_WireParts_k1 r1 r2 r3 y4 = some r) (fun y4 hF => ?_) (fun J20 => ?_)
  · unfold law06_WireParts_k1 at hF
    refine ifS hF (fun hc5 hF => ?_) (fun hc5 hF => ?_)
    · refine G.cond rfl (fun _ => ?_) (fun hx => by rw [hc5] at hx; cases hx)
      refine G.seq ?_
      refine G.region ?_
      refine G.op1 (op_move (Ev.t 5 (bB r1)) rfl) rfl ⟨rfl, trivial⟩ trivial ?_
      refine G.op1 (op_assign (Ev.t 22 (bB r1)) rfl) rfl ⟨rfl, trivial⟩ trivial ?_
      refine G.endOps ?_
      cases hF
      exact G.ret1 Try.results6 (RVar.tmp 4 _) ⟨rfl, trivial⟩ trivial
    · refine G.cond rfl (fun hx => by rw [hc5] at hx; cases hx) (fun _ => ?_)
      refine G.skip ?_
      refine G.seq ?_
      refine G.region ?_
      refine G.op1 (op_loadAP (ds := [.v (.string r2.Key), .v (.string r2.Value), .v (.bool r2.Gone), .v (.int .i64 r2.Stamp.N), .v (.int .i64 r2.Stamp.Site), .sl 3 (List.map encApi_Dep r2.Past)]) Try.underlying26 rfl ti26 rfl (Ev.t 2 (.ptr 1002 0)) rfl) rfl ⟨rfl, trivial⟩ ⟨rfl, trivial⟩ ?_
      refine G.op1 (op_loadAP (ds := [.v (.string r3.Key), .v (.string r3.Value), .v (.bool r3.Gone), .v (.int .i64 r3.Stamp.N), .v (.int .i64 r3.Stamp.Site), .sl 3 (List.map encApi_Dep r3.Past)]) Try.underlying26 rfl ti26 rfl (Ev.t 3 (.ptr 1003 0)) rfl) rfl ⟨rfl, trivial⟩ ⟨rfl, trivial⟩ ?_
      obtain ⟨r6, hr6, hF⟩ := bindS hF
      refine G.op1 (op_callQ (sv := .one (bB r6)) cf15 (ct_wire_Same r2 r3 r6 hr6) rfl rfl (EvQL.cons (EvQ.g (Ev.t 23 (.g (.agg [.v (.string r2.Key), .v (.string r2.Value), .v (.bool r2.Gone), .v (.int .i64 r2.Stamp.N), .v (.int .i64 r2.Stamp.Site), .sl 3 (List.map encApi_Dep r2.Past)])))) (EvQL.cons (EvQ.g (Ev.t 24 (.g (.agg [.v (.string r3.Key), .v (.string r3.Value), .v (.bool r3.Gone), .v (.int .i64 r3.Stamp.N), .v (.int .i64 r3.Stamp.Site), .sl 3 (List.map encApi_Dep r3.Past)])))) EvQL.nil)) rfl) rfl ⟨rfl, rfl, trivial⟩ trivial ?_
      refine G.op1 (op_assign (Ev.t 25 (bB r6)) rfl) rfl ⟨rfl, trivial⟩ trivial ?_
      refine G.endOps ?_
      refine G.seq ?_
      refine G.region ?_
      refine G.op1 (op_loadAP (ds := [.v (.string r2.Key), .v (.string r2.Value), .v (.bool r2.Gone), .v (.int .i64 r2.Stamp.N), .v (.int .i64 r2.Stamp.Site), .sl 3 (List.map encApi_Dep r2.Past)]) Try.underlying26 rfl ti26 rfl (Ev.t 2 (.ptr 1002 0)) rfl) rfl ⟨rfl, trivial⟩ ⟨rfl, trivial⟩ ?_
      refine G.op2 (op_alloc (k := 1007) (cs := [bS ByteArray.empty, bS ByteArray.empty, bB false, bI .i64 0, bI .i64 0, .g (.d (.sl 3 (List.map encApi_Dep ([] : (List Api_Dep)))))]) ti26 ⟨.v _ rfl, .v _ rfl, .v _ rfl, .v _ rfl, .v _ rfl, .n 3, trivial⟩ rfl) rfl trivial ⟨rfl, trivial⟩ ?_
      refine G.op3 (op_storeA (cs' := [bS r2.Key, bS r2.Value, bB r2.Gone, bI .i64 r2.Stamp.N, bI .i64 r2.Stamp.Site, .g (.d (.sl 3 (List.map encApi_Dep r2.Past)))]) ti26 rfl rfl (Ev.t 7 (.ptr 1007 0)) (Ev.t 26 (.g (.agg [.v (.string r2.Key), .v (.string r2.Value), .v (.bool r2.Gone), .v (.int .i64 r2.Stamp.N), .v (.int .i64 r2.Stamp.Site), .sl 3 (List.map encApi_Dep r2.Past)])))) rfl ⟨rfl, rfl, trivial⟩ ⟨rfl, trivial⟩ ?_
      refine G.endOps ?_
      refine G.seq ?_
      refine G.region ?_
      refine G.op1 (op_fieldP (off' := 1) Try.underlying26 rfl ti9 (by decide) rfl (Ev.t 3 (.ptr 1003 0)) rfl) rfl ⟨rfl, trivial⟩ trivial ?_
      refine G.op1 (op_load1P (c := bS r3.Value) Try.underlying9 rfl rfl (Ev.t 27 (.ptr 1003 1)) rfl) rfl ⟨rfl, trivial⟩ ⟨rfl, trivial⟩ ?_
      refine G.op1 (op_fieldP (off' := 1) Try.underlying26 rfl ti9 (by decide) rfl (Ev.t 7 (.ptr 1007 0)) rfl) rfl ⟨rfl, trivial⟩ trivial ?_
      refine G.op3 (op_store1 (cs' := [bS r2.Key, bS r3.Value, bB r2.Gone, bI .i64 r2.Stamp.N, bI .i64 r2.Stamp.Site, .g (.d (.sl 3 (List.map encApi_Dep r2.Past)))]) (c := bS r3.Value) trivial ti9 rfl rfl (Ev.t 29 (.ptr 1007 1)) (Ev.t 28 (bS r3.Value))) rfl ⟨rfl, rfl, trivial⟩ ⟨rfl, trivial⟩ ?_
      refine G.endOps ?_
      refine G.seq ?_
      refine G.region ?_
      refine G.op1 (op_fieldP (off' := 2) Try.underlying26 rfl ti4 (by decide) rfl (Ev.t 3 (.ptr 1003 0)) rfl) rfl ⟨rfl, trivial⟩ trivial ?_
      refine G.op1 (op_load1P (c := bB r3.Gone) Try.underlying4 rfl rfl (Ev.t 30 (.ptr 1003 2)) rfl) rfl ⟨rfl, trivial⟩ ⟨rfl, trivial⟩ ?_
      refine G.op1 (op_fieldP (off' := 2) Try.underlying26 rfl ti4 (by decide) rfl (Ev.t 7 (.ptr 1007 0)) rfl) rfl ⟨rfl, trivial⟩ trivial ?_
      refine G.op3 (op_store1 (cs' := [bS r2.Key, bS r3.Value, bB r3.Gone, bI .i64 r2.Stamp.N, bI .i64 r2.Stamp.Site, .g (.d (.sl 3 (List.map encApi_Dep r2.Past)))]) (c := bB r3.Gone) trivial ti4 rfl rfl (Ev.t 32 (.ptr 1007 2)) (Ev.t 31 (bB r3.Gone))) rfl ⟨rfl, rfl, trivial⟩ ⟨rfl, trivial⟩ ?_
      refine G.endOps ?_
      refine G.seq ?_
      refine G.region ?_
      refine G.op1 (op_loadAP (ds := [.v (.string r2.Key), .v (.string r2.Value), .v (.bool r2.Gone), .v (.int .i64 r2.Stamp.N), .v (.int .i64 r2.Stamp.Site), .sl 3 (List.map encApi_Dep r2.Past)]) Try.underlying26 rfl ti26 rfl (Ev.t 2 (.ptr 1002 0)) rfl) rfl ⟨rfl, trivial⟩ ⟨rfl, trivial⟩ ?_
      refine G.op2 (op_alloc (k := 1008) (cs := [bS ByteArray.empty, bS ByteArray.empty, bB false, bI .i64 0, bI .i64 0, .g (.d (.sl 3 (List.map encApi_Dep ([] : (List Api_Dep)))))]) ti26 ⟨.v _ rfl, .v _ rfl, .v _ rfl, .v _ rfl, .v _ rfl, .n 3, trivial⟩ rfl) rfl trivial ⟨rfl, trivial⟩ ?_
      refine G.op3 (op_storeA (cs' := [bS r2.Key, bS r2.Value, bB r2.Gone, bI .i64 r2.Stamp.N, bI .i64 r2.Stamp.Site, .g (.d (.sl 3 (List.map encApi_Dep r2.Past)))]) ti26 rfl rfl (Ev.t 8 (.ptr 1008 0)) (Ev.t 33 (.g (.agg [.v (.string r2.Key), .v (.string r2.Value), .v (.bool r2.Gone), .v (.int .i64 r2.Stamp.N), .v (.int .i64 r2.Stamp.Site), .sl 3 (List.map encApi_Dep r2.Past)])))) rfl ⟨rfl, rfl, trivial⟩ ⟨rfl, trivial⟩ ?_
      refine G.endOps ?_
      refine G.seq ?_
      refine G.region ?_
      refine G.op1 (op_fieldP (off' := 3) Try.underlying26 rfl ti23 (by decide) rfl (Ev.t 3 (.ptr 1003 0)) rfl) rfl ⟨rfl, trivial⟩ trivial ?_
      refine G.op1 (op_loadAP (ds := [.v (.int .i64 r3.Stamp.N), .v (.int .i64 r3.Stamp.Site)]) Try.underlying23 rfl ti23 rfl (Ev.t 34 (.ptr 1003 3)) rfl) rfl ⟨rfl, trivial⟩ ⟨rfl, trivial⟩ ?_
      refine G.op1 (op_fieldP (off' := 3) Try.underlying26 rfl ti23 (by decide) rfl (Ev.t 8 (.ptr 1008 0)) rfl) rfl ⟨rfl, trivial⟩ trivial ?_
      refine G.op3 (op_storeA (cs' := [bS r2.Key, bS r2.Value, bB r2.Gone, bI .i64 r3.Stamp.N, bI .i64 r3.Stamp.Site, .g (.d (.sl 3 (List.map encApi_Dep r2.Past)))]) ti23 rfl rfl (Ev.t 36 (.ptr 1008 3)) (Ev.t 35 (.g (.agg [.v (.int .i64 r3.Stamp.N), .v (.int .i64 r3.Stamp.Site)])))) rfl ⟨rfl, rfl, trivial⟩ ⟨rfl, trivial⟩ ?_
      refine G.endOps ?_
      refine G.seq ?_
      refine ifS hF (fun hc7 hF => ?_) (fun hc7 hF => ?_)
      · refine G.known (t := 5) (c := true) hc7 rfl ?_
        obtain ⟨r8, hr8, hF⟩ := bindS hF
        obtain ⟨r9, hr9, hF⟩ := bindS hF
        refine ifS hF (fun hc10 hF => ?_) (fun hc10 hF => ?_)
        · obtain ⟨r11, hr11, hF⟩ := bindS hF
          obtain ⟨r12, hr12, hF⟩ := bindS hF
          refine ifS hF (fun hc13 hF => ?_) (fun hc13 hF => ?_)
          · refine ifS hF (fun hc14 hF => ?_) (fun hc14 hF => ?_)
            · obtain ⟨r15, hr15, hF⟩ := bindS hF
              obtain ⟨r16, hr16, hF⟩ := bindS hF
              refine G.drawn (effs := (⟨[(5, .one (bB true))], [], [(37, .one (bB true))], []⟩ :: ⟨[(37, .one (bB true))], [], [(38, .one (bB true))], []⟩ :: ⟨[(38, .one (bB true)), (2, .one (.ptr 1002 0))], [(1002, some (.blk 26 [bS r2.Key, bS r2.Value, bB r2.Gone, bI .i64 r2.Stamp.N, bI .i64 r2.Stamp.Site, .g (.d (.sl 3 (List.map encApi_Dep r2.Past)))]))], [(39, .one (.g (.agg [.v (.string r2.Key), .v (.string r2.Value), .v (.bool r2.Gone), .v (.int .i64 r2.Stamp.N), .v (.int .i64 r2.Stamp.Site), .sl 3 (List.map encApi_Dep r2.Past)])))], []⟩ :: ⟨[(38, .one (bB true)), (39, .one (.g (.agg [.v (.string r2.Key), .v (.string r2.Value), .v (.bool r2.Gone), .v (.int .i64 r2.Stamp.N), .v (.int .i64 r2.Stamp.Site), .sl 3 (List.map encApi_Dep r2.Past)])))], [], [(40, .one (bS r8))], []⟩ :: ⟨[(38, .one (bB true)), (3, .one (.ptr 1003 0))], [(1003, some (.blk 26 [bS r3.Key, bS r3.Value, bB r3.Gone, bI .i64 r3.Stamp.N, bI .i64 r3.Stamp.Site, .g (.d (.sl 3 (List.map encApi_Dep r3.Past)))]))], [(41, .one (.g (.agg [.v (.string r3.Key), .v (.string r3.Value), .v (.bool r3.Gone), .v (.int .i64 r3.Stamp.N), .v (.int .i64 r3.Stamp.Site), .sl 3 (List.map encApi_Dep r3.Past)])))], []⟩ :: ⟨[(38, .one (bB true)), (41, .one (.g (.agg [.v (.string r3.Key), .v (.string r3.Value), .v (.bool r3.Gone), .v (.int .i64 r3.Stamp.N), .v (.int .i64 r3.Stamp.Site), .sl 3 (List.map encApi_Dep r3.Past)])))], [], [(42, .one (bS r9))], []⟩ :: ⟨[(38, .one (bB true)), (40, .one (bS r8)), (42, .one (bS r9))], [], [(43, .one (bB (seq r8 r9)))], []⟩ :: ⟨[(38, .one (bB true)), (6, .one (bB r6))], [], [(44, .one (bB r6))], []⟩ :: ⟨[(38, .one (bB true)), (43, .one (bB (seq r8 r9))), (44, .one (bB r6))], [], [(45, .one (bB true))], []⟩ :: ⟨[(38, .one (bB true)), (45, .one (bB true))], [], [(46, .one (bB true))], []⟩ :: ⟨[(46, .one (bB true))], [], [(47, .one (bB true))], []⟩ :: ⟨[(47, .one (bB true)), (7, .one (.ptr 1007 0))], [(1007, some (.blk 26 [bS r2.Key, bS r3.Value, bB r3.Gone, bI .i64 r2.Stamp.N, bI .i64 r2.Stamp.Site, .g (.d (.sl 3 (List.map encApi_Dep r2.Past)))]))], [(48, .one (.g (.agg [.v (.string r2.Key), .v (.string r3.Value), .v (.bool r3.Gone), .v (.int .i64 r2.Stamp.N), .v (.int .i64 r2.Stamp.Site), .sl 3 (List.map encApi_Dep r2.Past)])))], []⟩ :: ⟨[(47, .one (bB true)), (48, .one (.g (.agg [.v (.string r2.Key), .v (.string r3.Value), .v (.bool r3.Gone), .v (.int .i64 r2.Stamp.N), .v (.int .i64 r2.Stamp.Site), .sl 3 (List.map encApi_Dep r2.Past)])))], [], [(49, .one (bS r11))], []⟩ :: ⟨[(47, .one (bB true)), (2, .one (.ptr 1002 0))], [(1002, some (.blk 26 [bS r2.Key, bS r2.Value, bB r2.Gone, bI .i64 r2.Stamp.N, bI .i64 r2.Stamp.Site, .g (.d (.sl 3 (List.map encApi_Dep r2.Past)))]))], [(50, .one (.g (.agg [.v (.string r2.Key), .v (.string r2.Value), .v (.bool r2.Gone), .v (.int .i64 r2.Stamp.N), .v (.int .i64 r2.Stamp.Site), .sl 3 (List.map encApi_Dep r2.Past)])))], []⟩ :: ⟨[(47, .one (bB true)), (50, .one (.g (.agg [.v (.string r2.Key), .v (.string r2.Value), .v (.bool r2.Gone), .v (.int .i64 r2.Stamp.N), .v (.int .i64 r2.Stamp.Site), .sl 3 (List.map encApi_Dep r2.Past)])))], [], [(51, .one (bS r12))], []⟩ :: ⟨[(47, .one (bB true)), (49, .one (bS r11)), (51, .one (bS r12))], [], [(52, .one (bB (seq r11 r12)))], []⟩ :: ⟨[(47, .one (bB true)), (2, .one (.ptr 1002 0))], [], [(53, .one (.ptr 1002 1))], []⟩ :: ⟨[(47, .one (bB true)), (53, .one (.ptr 1002 1))], [(1002, some (.blk 26 [bS r2.Key, bS r2.Value, bB r2.Gone, bI .i64 r2.Stamp.N, bI .i64 r2.Stamp.Site, .g (.d (.sl 3 (List.map encApi_Dep r2.Past)))]))], [(54, .one (bS r2.Value))], []⟩ :: ⟨[(47, .one (bB true)), (3, .one (.ptr 1003 0))], [], [(55, .one (.ptr 1003 1))], []⟩ :: ⟨[(47, .one (bB true)), (55, .one (.ptr 1003 1))], [(1003, some (.blk 26 [bS r3.Key, bS r3.Value, bB r3.Gone, bI .i64 r3.Stamp.N, bI .i64 r3.Stamp.Site, .g (.d (.sl 3 (List.map encApi_Dep r3.Past)))]))], [(56, .one (bS r3.Value))], []⟩ :: ⟨[(47, .one (bB true)), (54, .one (bS r2.Value)), (56, .one (bS r3.Value))], [], [(57, .one (bB true))], []⟩ :: ⟨[(47, .one (bB true)), (57, .one (bB true))], [], [(58, .one (bB true))], []⟩ :: ⟨[(58, .one (bB true)), (2, .one (.ptr 1002 0))], [], [(59, .one (.ptr 1002 2))], []⟩ :: ⟨[(58, .one (bB true)), (59, .one (.ptr 1002 2))], [(1002, some (.blk 26 [bS r2.Key, bS r2.Value, bB r2.Gone, bI .i64 r2.Stamp.N, bI .i64 r2.Stamp.Site, .g (.d (.sl 3 (List.map encApi_Dep r2.Past)))]))], [(60, .one (bB r2.Gone))], []⟩ :: ⟨[(58, .one (bB true)), (3, .one (.ptr 1003 0))], [], [(61, .one (.ptr 1003 2))], []⟩ :: ⟨[(58, .one (bB true)), (61, .one (.ptr 1003 2))], [(1003, some (.blk 26 [bS r3.Key, bS r3.Value, bB r3.Gone, bI .i64 r3.Stamp.N, bI .i64 r3.Stamp.Site, .g (.d (.sl 3 (List.map encApi_Dep r3.Past)))]))], [(62, .one (bB r3.Gone))], []⟩ :: ⟨[(58, .one (bB true)), (60, .one (bB r2.Gone)), (62, .one (bB r3.Gone))], [], [(63, .one (bB (r2.Gone == r3.Gone)))], []⟩ :: ⟨[(47, .one (bB true)), (58, .one (bB true)), (63, .one (bB (r2.Gone == r3.Gone)))], [], [(64, .one (bB (r2.Gone == r3.Gone)))], []⟩ :: ⟨[(47, .one (bB true)), (52, .one (bB (seq r11 r12))), (64, .one (bB (r2.Gone == r3.Gone)))], [], [(65, .one (bB true))], []⟩ :: ⟨[(47, .one (bB true)), (65, .one (bB true))], [], [(66, .one (bB true))], []⟩ :: ⟨[(66, .one (bB true))], [], [(67, .one (bB true))], []⟩ :: ⟨[(67, .one (bB true)), (8, .one (.ptr 1008 0))], [(1008, some (.blk 26 [bS r2.Key, bS r2.Value, bB r2.Gone, bI .i64 r3.Stamp.N, bI .i64 r3.Stamp.Site, .g (.d (.sl 3 (List.map encApi_Dep r2.Past)))]))], [(68, .one (.g (.agg [.v (.string r2.Key), .v (.string r2.Value), .v (.bool r2.Gone), .v (.int .i64 r3.Stamp.N), .v (.int .i64 r3.Stamp.Site), .sl 3 (List.map encApi_Dep r2.Past)])))], []⟩ :: ⟨[(67, .one (bB true)), (68, .one (.g (.agg [.v (.string r2.Key), .v (.string r2.Value), .v (.bool r2.Gone), .v (.int .i64 r3.Stamp.N), .v (.int .i64 r3.Stamp.Site), .sl 3 (List.map encApi_Dep r2.Past)])))], [], [(69, .one (bS r15))], []⟩ :: ⟨[(67, .one (bB true)), (2, .one (.ptr 1002 0))], [(1002, some (.blk 26 [bS r2.Key, bS r2.Value, bB r2.Gone, bI .i64 r2.Stamp.N, bI .i64 r2.Stamp.Site, .g (.d (.sl 3 (List.map encApi_Dep r2.Past)))]))], [(70, .one (.g (.agg [.v (.string r2.Key), .v (.string r2.Value), .v (.bool r2.Gone), .v (.int .i64 r2.Stamp.N), .v (.int .i64 r2.Stamp.Site), .sl 3 (List.map encApi_Dep r2.Past)])))], []⟩ :: ⟨[(67, .one (bB true)), (70, .one (.g (.agg [.v (.string r2.Key), .v (.string r2.Value), .v (.bool r2.Gone), .v (.int .i64 r2.Stamp.N), .v (.int .i64 r2.Stamp.Site), .sl 3 (List.map encApi_Dep r2.Past)])))], [], [(71, .one (bS r16))], []⟩ :: ⟨[(67, .one (bB true)), (69, .one (bS r15)), (71, .one (bS r16))], [], [(72, .one (bB (seq r15 r16)))], []⟩ :: ⟨[(67, .one (bB true)), (2, .one (.ptr 1002 0))], [], [(73, .one (.ptr 1002 3))], []⟩ :: ⟨[(67, .one (bB true)), (73, .one (.ptr 1002 3))], [(1002, some (.blk 26 [bS r2.Key, bS r2.Value, bB r2.Gone, bI .i64 r2.Stamp.N, bI .i64 r2.Stamp.Site, .g (.d (.sl 3 (List.map encApi_Dep r2.Past)))]))], [(74, .one (.g (.agg [.v (.int .i64 r2.Stamp.N), .v (.int .i64 r2.Stamp.Site)])))], []⟩ :: ⟨[(67, .one (bB true)), (3, .one (.ptr 1003 0))], [], [(75, .one (.ptr 1003 3))], []⟩ :: ⟨[(67, .one (bB true)), (75, .one (.ptr 1003 3))], [(1003, some (.blk 26 [bS r3.Key, bS r3.Value, bB r3.Gone, bI .i64 r3.Stamp.N, bI .i64 r3.Stamp.Site, .g (.d (.sl 3 (List.map encApi_Dep r3.Past)))]))], [(76, .one (.g (.agg [.v (.int .i64 r3.Stamp.N), .v (.int .i64 r3.Stamp.Site)])))], []⟩ :: ⟨[(67, .one (bB true)), (74, .one (.g (.agg [.v (.int .i64 r2.Stamp.N), .v (.int .i64 r2.Stamp.Site)]))), (76, .one (.g (.agg [.v (.int .i64 r3.Stamp.N), .v (.int .i64 r3.Stamp.Site)])))], [], [(77, .one (bB (decide (r2.Stamp.N = r3.Stamp.N) && decide (r2.Stamp.Site = r3.Stamp.Site))))], []⟩ :: ⟨[(67, .one (bB true)), (72, .one (bB (seq r15 r16))), (77, .one (bB (decide (r2.Stamp.N = r3.Stamp.N) && decide (r2.Stamp.Site = r3.Stamp.Site))))], [], [(78, .one (bB ((seq r15 r16) == (decide (r2.Stamp.N = r3.Stamp.N) && decide (r2.Stamp.Site = r3.Stamp.Site)))))], []⟩ :: ⟨[(67, .one (bB true)), (78, .one (bB ((seq r15 r16) == (decide (r2.Stamp.N = r3.Stamp.N) && decide (r2.Stamp.Site = r3.Stamp.Site)))))], [], [(79, .one (bB ((seq r15 r16) == (decide (r2.Stamp.N = r3.Stamp.N) && decide (r2.Stamp.Site = r3.Stamp.Site)))))], []⟩ :: ⟨[(79, .one (bB ((seq r15 r16) == (decide (r2.Stamp.N = r3.Stamp.N) && decide (r2.Stamp.Site = r3.Stamp.Site)))))], [], [(4, .one (bB ((seq r15 r16) == (decide (r2.Stamp.N = r3.Stamp.N) && decide (r2.Stamp.Site = r3.Stamp.Site)))))], []⟩ :: [])) (deps := ([] :: [0] :: [0, 1] :: [0, 1, 2] :: [0, 1] :: [0, 1, 2, 3, 4] :: [0, 1, 2, 3, 4, 5] :: [0, 1] :: [0, 1, 2, 3, 4, 5, 6, 7] :: [0, 1, 2, 3, 4, 5, 6, 7, 8] :: [0, 1, 2, 3, 4, 5, 6, 7, 8, 9] :: [0, 1, 2, 3, 4, 5, 6, 7, 8, 9, 10] :: [0, 1, 2, 3, 4, 5, 6, 7, 8, 9, 10, 11] :: [0, 1, 2, 3, 4, 5, 6, 7, 8, 9, 10] :: [0, 1, 2, 3, 4, 5, 6, 7, 8, 9, 10, 11, 12, 13] :: [0, 1, 2, 3, 4, 5, 6, 7, 8, 9, 10, 11, 12, 13, 14] :: [0, 1, 2, 3, 4, 5, 6, 7, 8, 9, 10] :: [0, 1, 2, 3, 4, 5, 6, 7, 8, 9, 10, 16] :: [0, 1, 2, 3, 4, 5, 6, 7, 8, 9, 10] :: [0, 1, 2, 3, 4, 5, 6, 7, 8, 9, 10, 18] :: [0, 1, 2, 3, 4, 5, 6, 7, 8, 9, 10, 16, 17, 18, 19] :: [0, 1, 2, 3, 4, 5, 6, 7, 8, 9, 10, 11, 12, 13, 14, 16, 17, 18, 19, 20] :: (0 :: 1 :: 2 :: 3 :: 4 :: 5 :: 6 :: 7 :: 8 :: 9 :: 10 :: 11 :: 12 :: 13 :: 14 :: 16 :: 17 :: 18 :: 19 :: 20 :: 21 :: []) :: (0 :: 1 :: 2 :: 3 :: 4 :: 5 :: 6 :: 7 :: 8 :: 9 :: 10 :: 11 :: 12 :: 13 :: 14 :: 16 :: 17 :: 18 :: 19 :: 20 :: 21 :: 22 :: []) :: (0 :: 1 :: 2 :: 3 :: 4 :: 5 :: 6 :: 7 :: 8 :: 9 :: 10 :: 11 :: 12 :: 13 :: 14 :: 16 :: 17 :: 18 :: 19 :: 20 :: 21 :: []) :: (0 :: 1 :: 2 :: 3 :: 4 :: 5 :: 6 :: 7 :: 8 :: 9 :: 10 :: 11 :: 12 :: 13 :: 14 :: 16 :: 17 :: 18 :: 19 :: 20 :: 21 :: 24 :: []) :: (0 :: 1 :: 2 :: 3 :: 4 :: 5 :: 6 :: 7 :: 8 :: 9 :: 10 :: 11 :: 12 :: 13 :: 14 :: 16 :: 17 :: 18 :: 19 :: 20 :: 21 :: 22 :: 23 :: 24 :: 25 :: []) :: (0 :: 1 :: 2 :: 3 :: 4 :: 5 :: 6 :: 7 :: 8 :: 9 :: 10 :: 11 :: 12 :: 13 :: 14 :: 16 :: 17 :: 18 :: 19 :: 20 :: 21 :: 22 :: 23 :: 24 :: 25 :: 26 :: []) :: (0 :: 1 :: 2 :: 3 :: 4 :: 5 :: 6 :: 7 :: 8 :: 9 :: 10 :: 11 :: 12 :: 13 :: 14 :: 15 :: 16 :: 17 :: 18 :: 19 :: 20 :: 21 :: 22 :: 23 :: 24 :: 25 :: 26 :: 27 :: []) :: (0 :: 1 :: 2 :: 3 :: 4 :: 5 :: 6 :: 7 :: 8 :: 9 :: 10 :: 11 :: 12 :: 13 :: 14 :: 15 :: 16 :: 17 :: 18 :: 19 :: 20 :: 21 :: 22 :: 23 :: 24 :: 25 :: 26 :: 27 :: 28 :: []) :: (0 :: 1 :: 2 :: 3 :: 4 :: 5 :: 6 :: 7 :: 8 :: 9 :: 10 :: 11 :: 12 :: 13 :: 14 :: 15 :: 16 :: 17 :: 18 :: 19 :: 20 :: 21 :: 22 :: 23 :: 24 :: 25 :: 26 :: 27 :: 28 :: 29 :: []) :: (0 :: 1 :: 2 :: 3 :: 4 :: 5 :: 6 :: 7 :: 8 :: 9 :: 10 :: 11 :: 12 :: 13 :: 14 :: 15 :: 16 :: 17 :: 18 :: 19 :: 20 :: 21 :: 22 :: 23 :: 24 :: 25 :: 26 :: 27 :: 28 :: 29 :: 30 :: []) :: (0 :: 1 :: 2 :: 3 :: 4 :: 5 :: 6 :: 7 :: 8 :: 9 :: 10 :: 11 :: 12 :: 13 :: 14 :: 15 :: 16 :: 17 :: 18 :: 19 :: 20 :: 21 :: 22 :: 23 :: 24 :: 25 :: 26 :: 27 :: 28 :: 29 :: 30 :: 31 :: []) :: (0 :: 1 :: 2 :: 3 :: 4 :: 5 :: 6 :: 7 :: 8 :: 9 :: 10 :: 11 :: 12 :: 13 :: 14 :: 15 :: 16 :: 17 :: 18 :: 19 :: 20 :: 21 :: 22 :: 23 :: 24 :: 25 :: 26 :: 27 :: 28 :: 29 :: 30 :: []) :: (0 :: 1 :: 2 :: 3 :: 4 :: 5 :: 6 :: 7 :: 8 :: 9 :: 10 :: 11 :: 12 :: 13 :: 14 :: 15 :: 16 :: 17 :: 18 :: 19 :: 20 :: 21 :: 22 :: 23 :: 24 :: 25 :: 26 :: 27 :: 28 :: 29 :: 30 :: 31 :: 32 :: 33 :: []) :: (0 :: 1 :: 2 :: 3 :: 4 :: 5 :: 6 :: 7 :: 8 :: 9 :: 10 :: 11 :: 12 :: 13 :: 14 :: 15 :: 16 :: 17 :: 18 :: 19 :: 20 :: 21 :: 22 :: 23 :: 24 :: 25 :: 26 :: 27 :: 28 :: 29 :: 30 :: 31 :: 32 :: 33 :: 34 :: []) :: (0 :: 1 :: 2 :: 3 :: 4 :: 5 :: 6 :: 7 :: 8 :: 9 :: 10 :: 11 :: 12 :: 13 :: 14 :: 15 :: 16 :: 17 :: 18 :: 19 :: 20 :: 21 :: 22 :: 23 :: 24 :: 25 :: 26 :: 27 :: 28 :: 29 :: 30 :: []) :: (0 :: 1 :: 2 :: 3 :: 4 :: 5 :: 6 :: 7 :: 8 :: 9 :: 10 :: 11 :: 12 :: 13 :: 14 :: 15 :: 16 :: 17 :: 18 :: 19 :: 20 :: 21 :: 22 :: 23 :: 24 :: 25 :: 26 :: 27 :: 28 :: 29 :: 30 :: 36 :: []) :: (0 :: 1 :: 2 :: 3 :: 4 :: 5 :: 6 :: 7 :: 8 :: 9 :: 10 :: 11 :: 12 :: 13 :: 14 :: 15 :: 16 :: 17 :: 18 :: 19 :: 20 :: 21 :: 22 :: 23 :: 24 :: 25 :: 26 :: 27 :: 28 :: 29 :: 30 :: []) :: (0 :: 1 :: 2 :: 3 :: 4 :: 5 :: 6 :: 7 :: 8 :: 9 :: 10 :: 11 :: 12 :: 13 :: 14 :: 15 :: 16 :: 17 :: 18 :: 19 :: 20 :: 21 :: 22 :: 23 :: 24 :: 25 :: 26 :: 27 :: 28 :: 29 :: 30 :: 38 :: []) :: (0 :: 1 :: 2 :: 3 :: 4 :: 5 :: 6 :: 7 :: 8 :: 9 :: 10 :: 11 :: 12 :: 13 :: 14 :: 15 :: 16 :: 17 :: 18 :: 19 :: 20 :: 21 :: 22 :: 23 :: 24 :: 25 :: 26 :: 27 :: 28 :: 29 :: 30 :: 36 :: 37 :: 38 :: 39 :: []) :: (0 :: 1 :: 2 :: 3 :: 4 :: 5 :: 6 :: 7 :: 8 :: 9 :: 10 :: 11 :: 12 :: 13 :: 14 :: 15 :: 16 :: 17 :: 18 :: 19 :: 20 :: 21 :: 22 :: 23 :: 24 :: 25 :: 26 :: 27 :: 28 :: 29 :: 30 :: 31 :: 32 :: 33 :: 34 :: 35 :: 36 :: 37 :: 38 :: 39 :: 40 :: []) :: (0 :: 1 :: 2 :: 3 :: 4 :: 5 :: 6 :: 7 :: 8 :: 9 :: 10 :: 11 :: 12 :: 13 :: 14 :: 15 :: 16 :: 17 :: 18 :: 19 :: 20 :: 21 :: 22 :: 23 :: 24 :: 25 :: 26 :: 27 :: 28 :: 29 :: 30 :: 31 :: 32 :: 33 :: 34 :: 35 :: 36 :: 37 :: 38 :: 39 :: 40 :: 41 :: []) :: (0 :: 1 :: 2 :: 3 :: 4 :: 5 :: 6 :: 7 :: 8 :: 9 :: 10 :: 11 :: 12 :: 13 :: 14 :: 15 :: 16 :: 17 :: 18 :: 19 :: 20 :: 21 :: 22 :: 23 :: 24 :: 25 :: 26 :: 27 :: 28 :: 29 :: 30 :: 31 :: 32 :: 33 :: 34 :: 35 :: 36 :: 37 :: 38 :: 39 :: 40 :: 41 :: 42 :: []) :: [])) (sl' := [(4, .one (bB ((seq r15 r16) == (decide (r2.Stamp.N = r3.Stamp.N) && decide (r2.Stamp.Site = r3.Stamp.Site)))))]) (hp' := []) follows rfl rfl rfl ⟨⟨rfl, trivial⟩, trivial, ⟨rfl, trivial⟩, trivial, ⟨rfl, rfl, trivial⟩, ⟨⟨rfl, rfl⟩, trivial⟩, ⟨rfl, rfl, trivial⟩, trivial, ⟨rfl, rfl, trivial⟩, ⟨⟨rfl, rfl⟩, trivial⟩, ⟨rfl, rfl, trivial⟩, trivial, ⟨rfl, rfl, rfl, trivial⟩, trivial, ⟨rfl, rfl, trivial⟩, trivial, ⟨rfl, rfl, rfl, trivial⟩, trivial, ⟨rfl, rfl, trivial⟩, trivial, ⟨rfl, trivial⟩, trivial, ⟨rfl, rfl, trivial⟩, ⟨⟨rfl, rfl⟩, trivial⟩, ⟨rfl, rfl, trivial⟩, trivial, ⟨rfl, rfl, trivial⟩, ⟨⟨rfl, rfl⟩, trivial⟩, ⟨rfl, rfl, trivial⟩, trivial, ⟨rfl, rfl, rfl, trivial⟩, trivial, ⟨rfl, rfl, trivial⟩, trivial, ⟨rfl, rfl, trivial⟩, ⟨⟨rfl, rfl⟩, trivial⟩, ⟨rfl, rfl, trivial⟩, trivial, ⟨rfl, rfl, trivial⟩, ⟨⟨rfl, rfl⟩, trivial⟩, ⟨rfl, rfl, rfl, trivial⟩, trivial, ⟨rfl, rfl, trivial⟩, trivial, ⟨rfl, rfl, trivial⟩, trivial, ⟨rfl, rfl, trivial⟩, ⟨⟨rfl, rfl⟩, trivial⟩, ⟨rfl, rfl, trivial⟩, trivial, ⟨rfl, rfl, trivial⟩, ⟨⟨rfl, rfl⟩, trivial⟩, ⟨rfl, rfl, rfl, trivial⟩, trivial, ⟨rfl, rfl, rfl, trivial⟩, trivial, ⟨rfl, rfl, rfl, trivial⟩, trivial, ⟨rfl, rfl, trivial⟩, trivial, ⟨rfl, trivial⟩, trivial, ⟨rfl, rfl, trivial⟩, ⟨⟨rfl, rfl⟩, trivial⟩, ⟨rfl, rfl, trivial⟩, trivial, ⟨rfl, rfl, trivial⟩, ⟨⟨rfl, rfl⟩, trivial⟩, ⟨rfl, rfl, trivial⟩, trivial, ⟨rfl, rfl, rfl, trivial⟩, trivial, ⟨rfl, rfl, trivial⟩, trivial, ⟨rfl, rfl, trivial⟩, ⟨⟨rfl, rfl⟩, trivial⟩, ⟨rfl, rfl, trivial⟩, trivial, ⟨rfl, rfl, trivial⟩, ⟨⟨rfl, rfl⟩, trivial⟩, ⟨rfl, rfl, rfl, trivial⟩, trivial, ⟨rfl, rfl, rfl, trivial⟩, trivial, ⟨rfl, rfl, trivial⟩, trivial, ⟨rfl, trivial⟩, trivial, trivial⟩ ⟨OpW.plain (op_move (Ev.t 5 (bB true)) rfl) rfl rfl, OpW.plain (op_move (Ev.t 37 (bB true)) rfl) rfl rfl, OpW.yes (op_loadAP (ds := [.v (.string r2.Key), .v (.string r2.Value), .v (.bool r2.Gone), .v (.int .i64 r2.Stamp.N), .v (.int .i64 r2.Stamp.Site), .sl 3 (List.map encApi_Dep r2.Past)]) Try.underlying26 rfl ti26 rfl (Ev.t 2 (.ptr 1002 0)) rfl) rfl rfl rfl, OpW.yes (op_callQ (sv := .one (bS r8)) cf13 (ct_wire_Bytes r2 r8 hr8) rfl rfl (EvQL.cons (EvQ.g (Ev.t 39 (.g (.agg [.v (.string r2.Key), .v (.string r2.Value), .v (.bool r2.Gone), .v (.int .i64 r2.Stamp.N), .v (.int .i64 r2.Stamp.Site), .sl 3 (List.map encApi_Dep r2.Past)])))) EvQL.nil) rfl) rfl rfl rfl, OpW.yes (op_loadAP (ds := [.v (.string r3.Key), .v (.string r3.Value), .v (.bool r3.Gone), .v (.int .i64 r3.Stamp.N), .v (.int .i64 r3.Stamp.Site), .sl 3 (List.map encApi_Dep r3.Past)]) Try.underlying26 rfl ti26 rfl (Ev.t 3 (.ptr 1003 0)) rfl) rfl rfl rfl, OpW.yes (op_callQ (sv := .one (bS r9)) cf13 (ct_wire_Bytes r3 r9 hr9) rfl rfl (EvQL.cons (EvQ.g (Ev.t 41 (.g (.agg [.v (.string r3.Key), .v (.string r3.Value), .v (.bool r3.Gone), .v (.int .i64 r3.Stamp.N), .v (.int .i64 r3.Stamp.Site), .sl 3 (List.map encApi_Dep r3.Past)])))) EvQL.nil) rfl) rfl rfl rfl, OpW.yes (op_eqS (Ev.t 40 (bS r8)) (Ev.t 42 (bS r9)) rfl) rfl rfl rfl, OpW.yes (op_move (Ev.t 6 (bB r6)) rfl) rfl rfl rfl, OpW.yes (OpL.cast (op_eqB Try.underlying4 (Ev.t 43 (bB (seq r8 r9))) (Ev.t 44 (bB r6)) rfl) (congrArg (fun b => bB b) hc10)) rfl rfl rfl, OpW.plain (op_pickT (Ev.t 38 (bB true)) (Ev.t 45 (bB true)) rfl) rfl rfl, OpW.plain (op_move (Ev.t 46 (bB true)) rfl) rfl rfl, OpW.yes (op_loadAP (ds := [.v (.string r2.Key), .v (.string r3.Value), .v (.bool r3.Gone), .v (.int .i64 r2.Stamp.N), .v (.int .i64 r2.Stamp.Site), .sl 3 (List.map encApi_Dep r2.Past)]) Try.underlying26 rfl ti26 rfl (Ev.t 7 (.ptr 1007 0)) rfl) rfl rfl rfl, OpW.yes (op_callQ (sv := .one (bS r11)) cf13 (ct_wire_Bytes (Api_Version.mk r2.Key r3.Value r3.Gone r2.Stamp r2.Past) r11 hr11) rfl rfl (EvQL.cons (EvQ.g (Ev.t 48 (.g (.agg [.v (.string r2.Key), .v (.string r3.Value), .v (.bool r3.Gone), .v (.int .i64 r2.Stamp.N), .v (.int .i64 r2.Stamp.Site), .sl 3 (List.map encApi_Dep r2.Past)])))) EvQL.nil) rfl) rfl rfl rfl, OpW.yes (op_loadAP (ds := [.v (.string r2.Key), .v (.string r2.Value), .v (.bool r2.Gone), .v (.int .i64 r2.Stamp.N), .v (.int .i64 r2.Stamp.Site), .sl 3 (List.map encApi_Dep r2.Past)]) Try.underlying26 rfl ti26 rfl (Ev.t 2 (.ptr 1002 0)) rfl) rfl rfl rfl, OpW.yes (op_callQ (sv := .one (bS r12)) cf13 (ct_wire_Bytes r2 r12 hr12) rfl rfl (EvQL.cons (EvQ.g (Ev.t 50 (.g (.agg [.v (.string r2.Key), .v (.string r2.Value), .v (.bool r2.Gone), .v (.int .i64 r2.Stamp.N), .v (.int .i64 r2.Stamp.Site), .sl 3 (List.map encApi_Dep r2.Past)])))) EvQL.nil) rfl) rfl rfl rfl, OpW.yes (op_eqS (Ev.t 49 (bS r11)) (Ev.t 51 (bS r12)) rfl) rfl rfl rfl, OpW.yes (op_fieldP (off' := 1) Try.underlying26 rfl ti9 (by decide) rfl (Ev.t 2 (.ptr 1002 0)) rfl) rfl rfl rfl, OpW.yes (op_load1P (c := bS r2.Value) Try.underlying9 rfl rfl (Ev.t 53 (.ptr 1002 1)) rfl) rfl rfl rfl, OpW.yes (op_fieldP (off' := 1) Try.underlying26 rfl ti9 (by decide) rfl (Ev.t 3 (.ptr 1003 0)) rfl) rfl rfl rfl, OpW.yes (op_load1P (c := bS r3.Value) Try.underlying9 rfl rfl (Ev.t 55 (.ptr 1003 1)) rfl) rfl rfl rfl, OpW.yes (OpL.cast (op_eqS (Ev.t 54 (bS r2.Value)) (Ev.t 56 (bS r3.Value)) rfl) (congrArg (fun b => bB b) hc13)) rfl rfl rfl, OpW.yes (op_move (Ev.t 57 (bB true)) rfl) rfl rfl rfl, OpW.yes (op_fieldP (off' := 2) Try.underlying26 rfl ti4 (by decide) rfl (Ev.t 2 (.ptr 1002 0)) rfl) rfl rfl rfl, OpW.yes (op_load1P (c := bB r2.Gone) Try.underlying4 rfl rfl (Ev.t 59 (.ptr 1002 2)) rfl) rfl rfl rfl, OpW.yes (op_fieldP (off' := 2) Try.underlying26 rfl ti4 (by decide) rfl (Ev.t 3 (.ptr 1003 0)) rfl) rfl rfl rfl, OpW.yes (op_load1P (c := bB r3.Gone) Try.underlying4 rfl rfl (Ev.t 61 (.ptr 1003 2)) rfl) rfl rfl rfl, OpW.yes (op_eqB Try.underlying4 (Ev.t 60 (bB r2.Gone)) (Ev.t 62 (bB r3.Gone)) rfl) rfl rfl rfl, OpW.yes (op_pickT (Ev.t 58 (bB true)) (Ev.t 63 (bB (r2.Gone == r3.Gone))) rfl) rfl rfl rfl, OpW.yes (OpL.cast (op_eqB Try.underlying4 (Ev.t 52 (bB (seq r11 r12))) (Ev.t 64 (bB (r2.Gone == r3.Gone))) rfl) (congrArg (fun b => bB b) hc14)) rfl rfl rfl, OpW.plain (op_pickT (Ev.t 47 (bB true)) (Ev.t 65 (bB true)) rfl) rfl rfl, OpW.plain (op_move (Ev.t 66 (bB true)) rfl) rfl rfl, OpW.yes (op_loadAP (ds := [.v (.string r2.Key), .v (.string r2.Value), .v (.bool r2.Gone), .v (.int .i64 r3.Stamp.N), .v (.int .i64 r3.Stamp.Site), .sl 3 (List.map encApi_Dep r2.Past)]) Try.underlying26 rfl ti26 rfl (Ev.t 8 (.ptr 1008 0)) rfl) rfl rfl rfl, OpW.yes (op_callQ (sv := .one (bS r15)) cf13 (ct_wire_Bytes (Api_Version.mk r2.Key r2.Value r2.Gone r3.Stamp r2.Past) r15 hr15) rfl rfl (EvQL.cons (EvQ.g (Ev.t 68 (.g (.agg [.v (.string r2.Key), .v (.string r2.Value), .v (.bool r2.Gone), .v (.int .i64 r3.Stamp.N), .v (.int .i64 r3.Stamp.Site), .sl 3 (List.map encApi_Dep r2.Past)])))) EvQL.nil) rfl) rfl rfl rfl, OpW.yes (op_loadAP (ds := [.v (.string r2.Key), .v (.string r2.Value), .v (.bool r2.Gone), .v (.int .i64 r2.Stamp.N), .v (.int .i64 r2.Stamp.Site), .sl 3 (List.map encApi_Dep r2.Past)]) Try.underlying26 rfl ti26 rfl (Ev.t 2 (.ptr 1002 0)) rfl) rfl rfl rfl, OpW.yes (op_callQ (sv := .one (bS r16)) cf13 (ct_wire_Bytes r2 r16 hr16) rfl rfl (EvQL.cons (EvQ.g (Ev.t 70 (.g (.agg [.v (.string r2.Key), .v (.string r2.Value), .v (.bool r2.Gone), .v (.int .i64 r2.Stamp.N), .v (.int .i64 r2.Stamp.Site), .sl 3 (List.map encApi_Dep r2.Past)])))) EvQL.nil) rfl) rfl rfl rfl, OpW.yes (op_eqS (Ev.t 69 (bS r15)) (Ev.t 71 (bS r16)) rfl) rfl rfl rfl, OpW.yes (op_fieldP (off' := 3) Try.underlying26 rfl ti23 (by decide) rfl (Ev.t 2 (.ptr 1002 0)) rfl) rfl rfl rfl, OpW.yes (op_loadAP (ds := [.v (.int .i64 r2.Stamp.N), .v (.int .i64 r2.Stamp.Site)]) Try.underlying23 rfl ti23 rfl (Ev.t 73 (.ptr 1002 3)) rfl) rfl rfl rfl, OpW.yes (op_fieldP (off' := 3) Try.underlying26 rfl ti23 (by decide) rfl (Ev.t 3 (.ptr 1003 0)) rfl) rfl rfl rfl, OpW.yes (op_loadAP (ds := [.v (.int .i64 r3.Stamp.N), .v (.int .i64 r3.Stamp.Site)]) Try.underlying23 rfl ti23 rfl (Ev.t 75 (.ptr 1003 3)) rfl) rfl rfl rfl, OpW.yes (op_eqA (us := [.int .i64 r2.Stamp.N, .int .i64 r2.Stamp.Site]) (vs := [.int .i64 r3.Stamp.N, .int .i64 r3.Stamp.Site]) rfl rfl Try.eqGuardType23 (fun w => eq23 r2.Stamp.N r2.Stamp.Site r3.Stamp.N r3.Stamp.Site w) (Ev.t 74 (.g (.agg [.v (.int .i64 r2.Stamp.N), .v (.int .i64 r2.Stamp.Site)]))) (Ev.t 76 (.g (.agg [.v (.int .i64 r3.Stamp.N), .v (.int .i64 r3.Stamp.Site)]))) rfl) rfl rfl rfl, OpW.yes (op_eqB Try.underlying4 (Ev.t 72 (bB (seq r15 r16))) (Ev.t 77 (bB (decide (r2.Stamp.N = r3.Stamp.N) && decide (r2.Stamp.Site = r3.Stamp.Site)))) rfl) rfl rfl rfl, OpW.plain (op_pickT (Ev.t 67 (bB true)) (Ev.t 78 (bB ((seq r15 r16) == (decide (r2.Stamp.N = r3.Stamp.N) && decide (r2.Stamp.Site = r3.Stamp.Site))))) rfl) rfl rfl, OpW.plain (op_assign (Ev.t 79 (bB ((seq r15 r16) == (decide (r2.Stamp.N = r3.Stamp.N) && decide (r2.Stamp.Site = r3.Stamp.Site))))) rfl) rfl rfl, trivial⟩ ⟨rfl, trivial⟩ trivial rfl ?_
              cases hF
              exact G.ret1 Try.results6 (RVar.tmp 4 _) ⟨rfl, trivial⟩ trivial
            · refine G.drawn (effs := (⟨[(5, .one (bB true))], [], [(37, .one (bB true))], []⟩ :: ⟨[(37, .one (bB true))], [], [(38, .one (bB true))], []⟩ :: ⟨[(38, .one (bB true)), (2, .one (.ptr 1002 0))], [(1002, some (.blk 26 [bS r2.Key, bS r2.Value, bB r2.Gone, bI .i64 r2.Stamp.N, bI .i64 r2.Stamp.Site, .g (.d (.sl 3 (List.map encApi_Dep r2.Past)))]))], [(39, .one (.g (.agg [.v (.string r2.Key), .v (.string r2.Value), .v (.bool r2.Gone), .v (.int .i64 r2.Stamp.N), .v (.int .i64 r2.Stamp.Site), .sl 3 (List.map encApi_Dep r2.Past)])))], []⟩ :: ⟨[(38, .one (bB true)), (39, .one (.g (.agg [.v (.string r2.Key), .v (.string r2.Value), .v (.bool r2.Gone), .v (.int .i64 r2.Stamp.N), .v (.int .i64 r2.Stamp.Site), .sl 3 (List.map encApi_Dep r2.Past)])))], [], [(40, .one (bS r8))], []⟩ :: ⟨[(38, .one (bB true)), (3, .one (.ptr 1003 0))], [(1003, some (.blk 26 [bS r3.Key, bS r3.Value, bB r3.Gone, bI .i64 r3.Stamp.N, bI .i64 r3.Stamp.Site, .g (.d (.sl 3 (List.map encApi_Dep r3.Past)))]))], [(41, .one (.g (.agg [.v (.string r3.Key), .v (.string r3.Value), .v (.bool r3.Gone), .v (.int .i64 r3.Stamp.N), .v (.int .i64 r3.Stamp.Site), .sl 3 (List.map encApi_Dep r3.Past)])))], []⟩ :: ⟨[(38, .one (bB true)), (41, .one (.g (.agg [.v (.string r3.Key), .v (.string r3.Value), .v (.bool r3.Gone), .v (.int .i64 r3.Stamp.N), .v (.int .i64 r3.Stamp.Site), .sl 3 (List.map encApi_Dep r3.Past)])))], [], [(42, .one (bS r9))], []⟩ :: ⟨[(38, .one (bB true)), (40, .one (bS r8)), (42, .one (bS r9))], [], [(43, .one (bB (seq r8 r9)))], []⟩ :: ⟨[(38, .one (bB true)), (6, .one (bB r6))], [], [(44, .one (bB r6))], []⟩ :: ⟨[(38, .one (bB true)), (43, .one (bB (seq r8 r9))), (44, .one (bB r6))], [], [(45, .one (bB true))], []⟩ :: ⟨[(38, .one (bB true)), (45, .one (bB true))], [], [(46, .one (bB true))], []⟩ :: ⟨[(46, .one (bB true))], [], [(47, .one (bB true))], []⟩ :: ⟨[(47, .one (bB true)), (7, .one (.ptr 1007 0))], [(1007, some (.blk 26 [bS r2.Key, bS r3.Value, bB r3.Gone, bI .i64 r2.Stamp.N, bI .i64 r2.Stamp.Site, .g (.d (.sl 3 (List.map encApi_Dep r2.Past)))]))], [(48, .one (.g (.agg [.v (.string r2.Key), .v (.string r3.Value), .v (.bool r3.Gone), .v (.int .i64 r2.Stamp.N), .v (.int .i64 r2.Stamp.Site), .sl 3 (List.map encApi_Dep r2.Past)])))], []⟩ :: ⟨[(47, .one (bB true)), (48, .one (.g (.agg [.v (.string r2.Key), .v (.string r3.Value), .v (.bool r3.Gone), .v (.int .i64 r2.Stamp.N), .v (.int .i64 r2.Stamp.Site), .sl 3 (List.map encApi_Dep r2.Past)])))], [], [(49, .one (bS r11))], []⟩ :: ⟨[(47, .one (bB true)), (2, .one (.ptr 1002 0))], [(1002, some (.blk 26 [bS r2.Key, bS r2.Value, bB r2.Gone, bI .i64 r2.Stamp.N, bI .i64 r2.Stamp.Site, .g (.d (.sl 3 (List.map encApi_Dep r2.Past)))]))], [(50, .one (.g (.agg [.v (.string r2.Key), .v (.string r2.Value), .v (.bool r2.Gone), .v (.int .i64 r2.Stamp.N), .v (.int .i64 r2.Stamp.Site), .sl 3 (List.map encApi_Dep r2.Past)])))], []⟩ :: ⟨[(47, .one (bB true)), (50, .one (.g (.agg [.v (.string r2.Key), .v (.string r2.Value), .v (.bool r2.Gone), .v (.int .i64 r2.Stamp.N), .v (.int .i64 r2.Stamp.Site), .sl 3 (List.map encApi_Dep r2.Past)])))], [], [(51, .one (bS r12))], []⟩ :: ⟨[(47, .one (bB true)), (49, .one (bS r11)), (51, .one (bS r12))], [], [(52, .one (bB (seq r11 r12)))], []⟩ :: ⟨[(47, .one (bB true)), (2, .one (.ptr 1002 0))], [], [(53, .one (.ptr 1002 1))], []⟩ :: ⟨[(47, .one (bB true)), (53, .one (.ptr 1002 1))], [(1002, some (.blk 26 [bS r2.Key, bS r2.Value, bB r2.Gone, bI .i64 r2.Stamp.N, bI .i64 r2.Stamp.Site, .g (.d (.sl 3 (List.map encApi_Dep r2.Past)))]))], [(54, .one (bS r2.Value))], []⟩ :: ⟨[(47, .one (bB true)), (3, .one (.ptr 1003 0))], [], [(55, .one (.ptr 1003 1))], []⟩ :: ⟨[(47, .one (bB true)), (55, .one (.ptr 1003 1))], [(1003, some (.blk 26 [bS r3.Key, bS r3.Value, bB r3.Gone, bI .i64 r3.Stamp.N, bI .i64 r3.Stamp.Site, .g (.d (.sl 3 (List.map encApi_Dep r3.Past)))]))], [(56, .one (bS r3.Value))], []⟩ :: ⟨[(47, .one (bB true)), (54, .one (bS r2.Value)), (56, .one (bS r3.Value))], [], [(57, .one (bB true))], []⟩ :: ⟨[(47, .one (bB true)), (57, .one (bB true))], [], [(58, .one (bB true))], []⟩ :: ⟨[(58, .one (bB true)), (2, .one (.ptr 1002 0))], [], [(59, .one (.ptr 1002 2))], []⟩ :: ⟨[(58, .one (bB true)), (59, .one (.ptr 1002 2))], [(1002, some (.blk 26 [bS r2.Key, bS r2.Value, bB r2.Gone, bI .i64 r2.Stamp.N, bI .i64 r2.Stamp.Site, .g (.d (.sl 3 (List.map encApi_Dep r2.Past)))]))], [(60, .one (bB r2.Gone))], []⟩ :: ⟨[(58, .one (bB true)), (3, .one (.ptr 1003 0))], [], [(61, .one (.ptr 1003 2))], []⟩ :: ⟨[(58, .one (bB true)), (61, .one (.ptr 1003 2))], [(1003, some (.blk 26 [bS r3.Key, bS r3.Value, bB r3.Gone, bI .i64 r3.Stamp.N, bI .i64 r3.Stamp.Site, .g (.d (.sl 3 (List.map encApi_Dep r3.Past)))]))], [(62, .one (bB r3.Gone))], []⟩ :: ⟨[(58, .one (bB true)), (60, .one (bB r2.Gone)), (62, .one (bB r3.Gone))], [], [(63, .one (bB (r2.Gone == r3.Gone)))], []⟩ :: ⟨[(47, .one (bB true)), (58, .one (bB true)), (63, .one (bB (r2.Gone == r3.Gone)))], [], [(64, .one (bB (r2.Gone == r3.Gone)))], []⟩ :: ⟨[(47, .one (bB true)), (52, .one (bB (seq r11 r12))), (64, .one (bB (r2.Gone == r3.Gone)))], [], [(65, .one (bB false))], []⟩ :: ⟨[(47, .one (bB true)), (65, .one (bB false))], [], [(66, .one (bB false))], []⟩ :: ⟨[(66, .one (bB false))], [], [(67, .one (bB false))], []⟩ :: ⟨[(67, .one (bB false))], [], [(68, .one (.x Go.undef))], []⟩ :: ⟨[(67, .one (bB false))], [], [(69, .one (.x Go.undef))], []⟩ :: ⟨[(67, .one (bB false))], [], [(70, .one (.x Go.undef))], []⟩ :: ⟨[(67, .one (bB false))], [], [(71, .one (.x Go.undef))], []⟩ :: ⟨[(67, .one (bB false))], [], [(72, .one (.x Go.undef))], []⟩ :: ⟨[(67, .one (bB false))], [], [(73, .one (.x Go.undef))], []⟩ :: ⟨[(67, .one (bB false))], [], [(74, .one (.x Go.undef))], []⟩ :: ⟨[(67, .one (bB false))], [], [(75, .one (.x Go.undef))], []⟩ :: ⟨[(67, .one (bB false))], [], [(76, .one (.x Go.undef))], []⟩ :: ⟨[(67, .one (bB false))], [], [(77, .one (.x Go.undef))], []⟩ :: ⟨[(67, .one (bB false))], [], [(78, .one (.x Go.undef))], []⟩ :: ⟨[(67, .one (bB false))], [], [(79, .one (bB false))], []⟩ :: ⟨[(79, .one (bB false))], [], [(4, .one (bB false))], []⟩ :: [])) (deps := ([] :: [0] :: [0, 1] :: [0, 1, 2] :: [0, 1] :: [0, 1, 2, 3, 4] :: [0, 1, 2, 3, 4, 5] :: [0, 1] :: [0, 1, 2, 3, 4, 5, 6, 7] :: [0, 1, 2, 3, 4, 5, 6, 7, 8] :: [0, 1, 2, 3, 4, 5, 6, 7, 8, 9] :: [0, 1, 2, 3, 4, 5, 6, 7, 8, 9, 10] :: [0, 1, 2, 3, 4, 5, 6, 7, 8, 9, 10, 11] :: [0, 1, 2, 3, 4, 5, 6, 7, 8, 9, 10] :: [0, 1, 2, 3, 4, 5, 6, 7, 8, 9, 10, 11, 12, 13] :: [0, 1, 2, 3, 4, 5, 6, 7, 8, 9, 10, 11, 12, 13, 14] :: [0, 1, 2, 3, 4, 5, 6, 7, 8, 9, 10] :: [0, 1, 2, 3, 4, 5, 6, 7, 8, 9, 10, 16] :: [0, 1, 2, 3, 4, 5, 6, 7, 8, 9, 10] :: [0, 1, 2, 3, 4, 5, 6, 7, 8, 9, 10, 18] :: [0, 1, 2, 3, 4, 5, 6, 7, 8, 9, 10, 16, 17, 18, 19] :: [0, 1, 2, 3, 4, 5, 6, 7, 8, 9, 10, 11, 12, 13, 14, 16, 17, 18, 19, 20] :: (0 :: 1 :: 2 :: 3 :: 4 :: 5 :: 6 :: 7 :: 8 :: 9 :: 10 :: 11 :: 12 :: 13 :: 14 :: 16 :: 17 :: 18 :: 19 :: 20 :: 21 :: []) :: (0 :: 1 :: 2 :: 3 :: 4 :: 5 :: 6 :: 7 :: 8 :: 9 :: 10 :: 11 :: 12 :: 13 :: 14 :: 16 :: 17 :: 18 :: 19 :: 20 :: 21 :: 22 :: []) :: (0 :: 1 :: 2 :: 3 :: 4 :: 5 :: 6 :: 7 :: 8 :: 9 :: 10 :: 11 :: 12 :: 13 :: 14 :: 16 :: 17 :: 18 :: 19 :: 20 :: 21 :: []) :: (0 :: 1 :: 2 :: 3 :: 4 :: 5 :: 6 :: 7 :: 8 :: 9 :: 10 :: 11 :: 12 :: 13 :: 14 :: 16 :: 17 :: 18 :: 19 :: 20 :: 21 :: 24 :: []) :: (0 :: 1 :: 2 :: 3 :: 4 :: 5 :: 6 :: 7 :: 8 :: 9 :: 10 :: 11 :: 12 :: 13 :: 14 :: 16 :: 17 :: 18 :: 19 :: 20 :: 21 :: 22 :: 23 :: 24 :: 25 :: []) :: (0 :: 1 :: 2 :: 3 :: 4 :: 5 :: 6 :: 7 :: 8 :: 9 :: 10 :: 11 :: 12 :: 13 :: 14 :: 16 :: 17 :: 18 :: 19 :: 20 :: 21 :: 22 :: 23 :: 24 :: 25 :: 26 :: []) :: (0 :: 1 :: 2 :: 3 :: 4 :: 5 :: 6 :: 7 :: 8 :: 9 :: 10 :: 11 :: 12 :: 13 :: 14 :: 15 :: 16 :: 17 :: 18 :: 19 :: 20 :: 21 :: 22 :: 23 :: 24 :: 25 :: 26 :: 27 :: []) :: (0 :: 1 :: 2 :: 3 :: 4 :: 5 :: 6 :: 7 :: 8 :: 9 :: 10 :: 11 :: 12 :: 13 :: 14 :: 15 :: 16 :: 17 :: 18 :: 19 :: 20 :: 21 :: 22 :: 23 :: 24 :: 25 :: 26 :: 27 :: 28 :: []) :: (0 :: 1 :: 2 :: 3 :: 4 :: 5 :: 6 :: 7 :: 8 :: 9 :: 10 :: 11 :: 12 :: 13 :: 14 :: 15 :: 16 :: 17 :: 18 :: 19 :: 20 :: 21 :: 22 :: 23 :: 24 :: 25 :: 26 :: 27 :: 28 :: 29 :: []) :: (0 :: 1 :: 2 :: 3 :: 4 :: 5 :: 6 :: 7 :: 8 :: 9 :: 10 :: 11 :: 12 :: 13 :: 14 :: 15 :: 16 :: 17 :: 18 :: 19 :: 20 :: 21 :: 22 :: 23 :: 24 :: 25 :: 26 :: 27 :: 28 :: 29 :: 30 :: []) :: (0 :: 1 :: 2 :: 3 :: 4 :: 5 :: 6 :: 7 :: 8 :: 9 :: 10 :: 11 :: 12 :: 13 :: 14 :: 15 :: 16 :: 17 :: 18 :: 19 :: 20 :: 21 :: 22 :: 23 :: 24 :: 25 :: 26 :: 27 :: 28 :: 29 :: 30 :: 31 :: []) :: (0 :: 1 :: 2 :: 3 :: 4 :: 5 :: 6 :: 7 :: 8 :: 9 :: 10 :: 11 :: 12 :: 13 :: 14 :: 15 :: 16 :: 17 :: 18 :: 19 :: 20 :: 21 :: 22 :: 23 :: 24 :: 25 :: 26 :: 27 :: 28 :: 29 :: 30 :: []) :: (0 :: 1 :: 2 :: 3 :: 4 :: 5 :: 6 :: 7 :: 8 :: 9 :: 10 :: 11 :: 12 :: 13 :: 14 :: 15 :: 16 :: 17 :: 18 :: 19 :: 20 :: 21 :: 22 :: 23 :: 24 :: 25 :: 26 :: 27 :: 28 :: 29 :: 30 :: 31 :: 32 :: 33 :: []) :: (0 :: 1 :: 2 :: 3 :: 4 :: 5 :: 6 :: 7 :: 8 :: 9 :: 10 :: 11 :: 12 :: 13 :: 14 :: 15 :: 16 :: 17 :: 18 :: 19 :: 20 :: 21 :: 22 :: 23 :: 24 :: 25 :: 26 :: 27 :: 28 :: 29 :: 30 :: 31 :: 32 :: 33 :: 34 :: []) :: (0 :: 1 :: 2 :: 3 :: 4 :: 5 :: 6 :: 7 :: 8 :: 9 :: 10 :: 11 :: 12 :: 13 :: 14 :: 15 :: 16 :: 17 :: 18 :: 19 :: 20 :: 21 :: 22 :: 23 :: 24 :: 25 :: 26 :: 27 :: 28 :: 29 :: 30 :: []) :: (0 :: 1 :: 2 :: 3 :: 4 :: 5 :: 6 :: 7 :: 8 :: 9 :: 10 :: 11 :: 12 :: 13 :: 14 :: 15 :: 16 :: 17 :: 18 :: 19 :: 20 :: 21 :: 22 :: 23 :: 24 :: 25 :: 26 :: 27 :: 28 :: 29 :: 30 :: 36 :: []) :: (0 :: 1 :: 2 :: 3 :: 4 :: 5 :: 6 :: 7 :: 8 :: 9 :: 10 :: 11 :: 12 :: 13 :: 14 :: 15 :: 16 :: 17 :: 18 :: 19 :: 20 :: 21 :: 22 :: 23 :: 24 :: 25 :: 26 :: 27 :: 28 :: 29 :: 30 :: []) :: (0 :: 1 :: 2 :: 3 :: 4 :: 5 :: 6 :: 7 :: 8 :: 9 :: 10 :: 11 :: 12 :: 13 :: 14 :: 15 :: 16 :: 17 :: 18 :: 19 :: 20 :: 21 :: 22 :: 23 :: 24 :: 25 :: 26 :: 27 :: 28 :: 29 :: 30 :: 38 :: []) :: (0 :: 1 :: 2 :: 3 :: 4 :: 5 :: 6 :: 7 :: 8 :: 9 :: 10 :: 11 :: 12 :: 13 :: 14 :: 15 :: 16 :: 17 :: 18 :: 19 :: 20 :: 21 :: 22 :: 23 :: 24 :: 25 :: 26 :: 27 :: 28 :: 29 :: 30 :: 36 :: 37 :: 38 :: 39 :: []) :: (0 :: 1 :: 2 :: 3 :: 4 :: 5 :: 6 :: 7 :: 8 :: 9 :: 10 :: 11 :: 12 :: 13 :: 14 :: 15 :: 16 :: 17 :: 18 :: 19 :: 20 :: 21 :: 22 :: 23 :: 24 :: 25 :: 26 :: 27 :: 28 :: 29 :: 30 :: 31 :: 32 :: 33 :: 34 :: 35 :: 36 :: 37 :: 38 :: 39 :: 40 :: []) :: (0 :: 1 :: 2 :: 3 :: 4 :: 5 :: 6 :: 7 :: 8 :: 9 :: 10 :: 11 :: 12 :: 13 :: 14 :: 15 :: 16 :: 17 :: 18 :: 19 :: 20 :: 21 :: 22 :: 23 :: 24 :: 25 :: 26 :: 27 :: 28 :: 29 :: 30 :: 31 :: 32 :: 33 :: 34 :: 35 :: 36 :: 37 :: 38 :: 39 :: 40 :: 41 :: []) :: (0 :: 1 :: 2 :: 3 :: 4 :: 5 :: 6 :: 7 :: 8 :: 9 :: 10 :: 11 :: 12 :: 13 :: 14 :: 15 :: 16 :: 17 :: 18 :: 19 :: 20 :: 21 :: 22 :: 23 :: 24 :: 25 :: 26 :: 27 :: 28 :: 29 :: 30 :: 31 :: 32 :: 33 :: 34 :: 35 :: 36 :: 37 :: 38 :: 39 :: 40 :: 41 :: 42 :: []) :: [])) (sl' := [(4, .one (bB false))]) (hp' := []) follows rfl rfl rfl ⟨⟨rfl, trivial⟩, trivial, ⟨rfl, trivial⟩, trivial, ⟨rfl, rfl, trivial⟩, ⟨⟨rfl, rfl⟩, trivial⟩, ⟨rfl, rfl, trivial⟩, trivial, ⟨rfl, rfl, trivial⟩, ⟨⟨rfl, rfl⟩, trivial⟩, ⟨rfl, rfl, trivial⟩, trivial, ⟨rfl, rfl, rfl, trivial⟩, trivial, ⟨rfl, rfl, trivial⟩, trivial, ⟨rfl, rfl, rfl, trivial⟩, trivial, ⟨rfl, rfl, trivial⟩, trivial, ⟨rfl, trivial⟩, trivial, ⟨rfl, rfl, trivial⟩, ⟨⟨rfl, rfl⟩, trivial⟩, ⟨rfl, rfl, trivial⟩, trivial, ⟨rfl, rfl, trivial⟩, ⟨⟨rfl, rfl⟩, trivial⟩, ⟨rfl, rfl, trivial⟩, trivial, ⟨rfl, rfl, rfl, trivial⟩, trivial, ⟨rfl, rfl, trivial⟩, trivial, ⟨rfl, rfl, trivial⟩, ⟨⟨rfl, rfl⟩, trivial⟩, ⟨rfl, rfl, trivial⟩, trivial, ⟨rfl, rfl, trivial⟩, ⟨⟨rfl, rfl⟩, trivial⟩, ⟨rfl, rfl, rfl, trivial⟩, trivial, ⟨rfl, rfl, trivial⟩, trivial, ⟨rfl, rfl, trivial⟩, trivial, ⟨rfl, rfl, trivial⟩, ⟨⟨rfl, rfl⟩, trivial⟩, ⟨rfl, rfl, trivial⟩, trivial, ⟨rfl, rfl, trivial⟩, ⟨⟨rfl, rfl⟩, trivial⟩, ⟨rfl, rfl, rfl, trivial⟩, trivial, ⟨rfl, rfl, rfl, trivial⟩, trivial, ⟨rfl, rfl, rfl, trivial⟩, trivial, ⟨rfl, rfl, trivial⟩, trivial, ⟨rfl, trivial⟩, trivial, ⟨rfl, trivial⟩, trivial, ⟨rfl, trivial⟩, trivial, ⟨rfl, trivial⟩, trivial, ⟨rfl, trivial⟩, trivial, ⟨rfl, trivial⟩, trivial, ⟨rfl, trivial⟩, trivial, ⟨rfl, trivial⟩, trivial, ⟨rfl, trivial⟩, trivial, ⟨rfl, trivial⟩, trivial, ⟨rfl, trivial⟩, trivial, ⟨rfl, trivial⟩, trivial, ⟨rfl, trivial⟩, trivial, ⟨rfl, trivial⟩, trivial, trivial⟩ ⟨OpW.plain (op_move (Ev.t 5 (bB true)) rfl) rfl rfl, OpW.plain (op_move (Ev.t 37 (bB true)) rfl) rfl rfl, OpW.yes (op_loadAP (ds := [.v (.string r2.Key), .v (.string r2.Value), .v (.bool r2.Gone), .v (.int .i64 r2.Stamp.N), .v (.int .i64 r2.Stamp.Site), .sl 3 (List.map encApi_Dep r2.Past)]) Try.underlying26 rfl ti26 rfl (Ev.t 2 (.ptr 1002 0)) rfl) rfl rfl rfl, OpW.yes (op_callQ (sv := .one (bS r8)) cf13 (ct_wire_Bytes r2 r8 hr8) rfl rfl (EvQL.cons (EvQ.g (Ev.t 39 (.g (.agg [.v (.string r2.Key), .v (.string r2.Value), .v (.bool r2.Gone), .v (.int .i64 r2.Stamp.N), .v (.int .i64 r2.Stamp.Site), .sl 3 (List.map encApi_Dep r2.Past)])))) EvQL.nil) rfl) rfl rfl rfl, OpW.yes (op_loadAP (ds := [.v (.string r3.Key), .v (.string r3.Value), .v (.bool r3.Gone), .v (.int .i64 r3.Stamp.N), .v (.int .i64 r3.Stamp.Site), .sl 3 (List.map encApi_Dep r3.Past)]) Try.underlying26 rfl ti26 rfl (Ev.t 3 (.ptr 1003 0)) rfl) rfl rfl rfl, OpW.yes (op_callQ (sv := .one (bS r9)) cf13 (ct_wire_Bytes r3 r9 hr9) rfl rfl (EvQL.cons (EvQ.g (Ev.t 41 (.g (.agg [.v (.string r3.Key), .v (.string r3.Value), .v (.bool r3.Gone), .v (.int .i64 r3.Stamp.N), .v (.int .i64 r3.Stamp.Site), .sl 3 (List.map encApi_Dep r3.Past)])))) EvQL.nil) rfl) rfl rfl rfl, OpW.yes (op_eqS (Ev.t 40 (bS r8)) (Ev.t 42 (bS r9)) rfl) rfl rfl rfl, OpW.yes (op_move (Ev.t 6 (bB r6)) rfl) rfl rfl rfl, OpW.yes (OpL.cast (op_eqB Try.underlying4 (Ev.t 43 (bB (seq r8 r9))) (Ev.t 44 (bB r6)) rfl) (congrArg (fun b => bB b) hc10)) rfl rfl rfl, OpW.plain (op_pickT (Ev.t 38 (bB true)) (Ev.t 45 (bB true)) rfl) rfl rfl, OpW.plain (op_move (Ev.t 46 (bB true)) rfl) rfl rfl, OpW.yes (op_loadAP (ds := [.v (.string r2.Key), .v (.string r3.Value), .v (.bool r3.Gone), .v (.int .i64 r2.Stamp.N), .v (.int .i64 r2.Stamp.Site), .sl 3 (List.map encApi_Dep r2.Past)]) Try.underlying26 rfl ti26 rfl (Ev.t 7 (.ptr 1007 0)) rfl) rfl rfl rfl, OpW.yes (op_callQ (sv := .one (bS r11)) cf13 (ct_wire_Bytes (Api_Version.mk r2.Key r3.Value r3.Gone r2.Stamp r2.Past) r11 hr11) rfl rfl (EvQL.cons (EvQ.g (Ev.t 48 (.g (.agg [.v (.string r2.Key), .v (.string r3.Value), .v (.bool r3.Gone), .v (.int .i64 r2.Stamp.N), .v (.int .i64 r2.Stamp.Site), .sl 3 (List.map encApi_Dep r2.Past)])))) EvQL.nil) rfl) rfl rfl rfl, OpW.yes (op_loadAP (ds := [.v (.string r2.Key), .v (.string r2.Value), .v (.bool r2.Gone), .v (.int .i64 r2.Stamp.N), .v (.int .i64 r2.Stamp.Site), .sl 3 (List.map encApi_Dep r2.Past)]) Try.underlying26 rfl ti26 rfl (Ev.t 2 (.ptr 1002 0)) rfl) rfl rfl rfl, OpW.yes (op_callQ (sv := .one (bS r12)) cf13 (ct_wire_Bytes r2 r12 hr12) rfl rfl (EvQL.cons (EvQ.g (Ev.t 50 (.g (.agg [.v (.string r2.Key), .v (.string r2.Value), .v (.bool r2.Gone), .v (.int .i64 r2.Stamp.N), .v (.int .i64 r2.Stamp.Site), .sl 3 (List.map encApi_Dep r2.Past)])))) EvQL.nil) rfl) rfl rfl rfl, OpW.yes (op_eqS (Ev.t 49 (bS r11)) (Ev.t 51 (bS r12)) rfl) rfl rfl rfl, OpW.yes (op_fieldP (off' := 1) Try.underlying26 rfl ti9 (by decide) rfl (Ev.t 2 (.ptr 1002 0)) rfl) rfl rfl rfl, OpW.yes (op_load1P (c := bS r2.Value) Try.underlying9 rfl rfl (Ev.t 53 (.ptr 1002 1)) rfl) rfl rfl rfl, OpW.yes (op_fieldP (off' := 1) Try.underlying26 rfl ti9 (by decide) rfl (Ev.t 3 (.ptr 1003 0)) rfl) rfl rfl rfl, OpW.yes (op_load1P (c := bS r3.Value) Try.underlying9 rfl rfl (Ev.t 55 (.ptr 1003 1)) rfl) rfl rfl rfl, OpW.yes (OpL.cast (op_eqS (Ev.t 54 (bS r2.Value)) (Ev.t 56 (bS r3.Value)) rfl) (congrArg (fun b => bB b) hc13)) rfl rfl rfl, OpW.yes (op_move (Ev.t 57 (bB true)) rfl) rfl rfl rfl, OpW.yes (op_fieldP (off' := 2) Try.underlying26 rfl ti4 (by decide) rfl (Ev.t 2 (.ptr 1002 0)) rfl) rfl rfl rfl, OpW.yes (op_load1P (c := bB r2.Gone) Try.underlying4 rfl rfl (Ev.t 59 (.ptr 1002 2)) rfl) rfl rfl rfl, OpW.yes (op_fieldP (off' := 2) Try.underlying26 rfl ti4 (by decide) rfl (Ev.t 3 (.ptr 1003 0)) rfl) rfl rfl rfl, OpW.yes (op_load1P (c := bB r3.Gone) Try.underlying4 rfl rfl (Ev.t 61 (.ptr 1003 2)) rfl) rfl rfl rfl, OpW.yes (op_eqB Try.underlying4 (Ev.t 60 (bB r2.Gone)) (Ev.t 62 (bB r3.Gone)) rfl) rfl rfl rfl, OpW.yes (op_pickT (Ev.t 58 (bB true)) (Ev.t 63 (bB (r2.Gone == r3.Gone))) rfl) rfl rfl rfl, OpW.yes (OpL.cast (op_eqB Try.underlying4 (Ev.t 52 (bB (seq r11 r12))) (Ev.t 64 (bB (r2.Gone == r3.Gone))) rfl) (congrArg (fun b => bB b) hc14)) rfl rfl rfl, OpW.plain (op_pickT (Ev.t 47 (bB true)) (Ev.t 65 (bB false)) rfl) rfl rfl, OpW.plain (op_move (Ev.t 66 (bB false)) rfl) rfl rfl, OpW.no rfl rfl rfl rfl rfl, OpW.no rfl rfl rfl rfl rfl, OpW.no rfl rfl rfl rfl rfl, OpW.no rfl rfl rfl rfl rfl, OpW.no rfl rfl rfl rfl rfl, OpW.no rfl rfl rfl rfl rfl, OpW.no rfl rfl rfl rfl rfl, OpW.no rfl rfl rfl rfl rfl, OpW.no rfl rfl rfl rfl rfl, OpW.no rfl rfl rfl rfl rfl, OpW.no rfl rfl rfl rfl rfl, OpW.plain (op_pickF (Ev.t 67 (bB false)) (Ev.c _ rfl) rfl) rfl rfl, OpW.plain (op_assign (Ev.t 79 (bB false)) rfl) rfl rfl, trivial⟩ ⟨rfl, trivial⟩ trivial rfl ?_
              cases hF
              exact G.ret1 Try.results6 (RVar.tmp 4 _) ⟨rfl, trivial⟩ trivial
          · refine ifS hF (fun hc17 hF => ?_) (fun hc17 hF => ?_)
            · obtain ⟨r18, hr18, hF⟩ := bindS hF
              obtain ⟨r19, hr19, hF⟩ := bindS hF
              refine G.drawn (effs := (⟨[(5, .one (bB true))], [], [(37, .one (bB true))], []⟩ :: ⟨[(37, .one (bB true))], [], [(38, .one (bB true))], []⟩ :: ⟨[(38, .one (bB true)), (2, .one (.ptr 1002 0))], [(1002, some (.blk 26 [bS r2.Key, bS r2.Value, bB r2.Gone, bI .i64 r2.Stamp.N, bI .i64 r2.Stamp.Site, .g (.d (.sl 3 (List.map encApi_Dep r2.Past)))]))], [(39, .one (.g (.agg [.v (.string r2.Key), .v (.string r2.Value), .v (.bool r2.Gone), .v (.int .i64 r2.Stamp.N), .v (.int .i64 r2.Stamp.Site), .sl 3 (List.map encApi_Dep r2.Past)])))], []⟩ :: ⟨[(38, .one (bB true)), (39, .one (.g (.agg [.v (.string r2.Key), .v (.string r2.Value), .v (.bool r2.Gone), .v (.int .i64 r2.Stamp.N), .v (.int .i64 r2.Stamp.Site), .sl 3 (List.map encApi_Dep r2.Past)])))], [], [(40, .one (bS r8))], []⟩ :: ⟨[(38, .one (bB true)), (3, .one (.ptr 1003 0))], [(1003, some (.blk 26 [bS r3.Key, bS r3.Value, bB r3.Gone, bI .i64 r3.Stamp.N, bI .i64 r3.Stamp.Site, .g (.d (.sl 3 (List.map encApi_Dep r3.Past)))]))], [(41, .one (.g (.agg [.v (.string r3.Key), .v (.string r3.Value), .v (.bool r3.Gone), .v (.int .i64 r3.Stamp.N), .v (.int .i64 r3.Stamp.Site), .sl 3 (List.map encApi_Dep r3.Past)])))], []⟩ :: ⟨[(38, .one (bB true)), (41, .one (.g (.agg [.v (.string r3.Key), .v (.string r3.Value), .v (.bool r3.Gone), .v (.int .i64 r3.Stamp.N), .v (.int .i64 r3.Stamp.Site), .sl 3 (List.map encApi_Dep r3.Past)])))], [], [(42, .one (bS r9))], []⟩ :: ⟨[(38, .one (bB true)), (40, .one (bS r8)), (42, .one (bS r9))], [], [(43, .one (bB (seq r8 r9)))], []⟩ :: ⟨[(38, .one (bB true)), (6, .one (bB r6))], [], [(44, .one (bB r6))], []⟩ :: ⟨[(38, .one (bB true)), (43, .one (bB (seq r8 r9))), (44, .one (bB r6))], [], [(45, .one (bB true))], []⟩ :: ⟨[(38, .one (bB true)), (45, .one (bB true))], [], [(46, .one (bB true))], []⟩ :: ⟨[(46, .one (bB true))], [], [(47, .one (bB true))], []⟩ :: ⟨[(47, .one (bB true)), (7, .one (.ptr 1007 0))], [(1007, some (.blk 26 [bS r2.Key, bS r3.Value, bB r3.Gone, bI .i64 r2.Stamp.N, bI .i64 r2.Stamp.Site, .g (.d (.sl 3 (List.map encApi_Dep r2.Past)))]))], [(48, .one (.g (.agg [.v (.string r2.Key), .v (.string r3.Value), .v (.bool r3.Gone), .v (.int .i64 r2.Stamp.N), .v (.int .i64 r2.Stamp.Site), .sl 3 (List.map encApi_Dep r2.Past)])))], []⟩ :: ⟨[(47, .one (bB true)), (48, .one (.g (.agg [.v (.string r2.Key), .v (.string r3.Value), .v (.bool r3.Gone), .v (.int .i64 r2.Stamp.N), .v (.int .i64 r2.Stamp.Site), .sl 3 (List.map encApi_Dep r2.Past)])))], [], [(49, .one (bS r11))], []⟩ :: ⟨[(47, .one (bB true)), (2, .one (.ptr 1002 0))], [(1002, some (.blk 26 [bS r2.Key, bS r2.Value, bB r2.Gone, bI .i64 r2.Stamp.N, bI .i64 r2.Stamp.Site, .g (.d (.sl 3 (List.map encApi_Dep r2.Past)))]))], [(50, .one (.g (.agg [.v (.string r2.Key), .v (.string r2.Value), .v (.bool r2.Gone), .v (.int .i64 r2.Stamp.N), .v (.int .i64 r2.Stamp.Site), .sl 3 (List.map encApi_Dep r2.Past)])))], []⟩ :: ⟨[(47, .one (bB true)), (50, .one (.g (.agg [.v (.string r2.Key), .v (.string r2.Value), .v (.bool r2.Gone), .v (.int .i64 r2.Stamp.N), .v (.int .i64 r2.Stamp.Site), .sl 3 (List.map encApi_Dep r2.Past)])))], [], [(51, .one (bS r12))], []⟩ :: ⟨[(47, .one (bB true)), (49, .one (bS r11)), (51, .one (bS r12))], [], [(52, .one (bB (seq r11 r12)))], []⟩ :: ⟨[(47, .one (bB true)), (2, .one (.ptr 1002 0))], [], [(53, .one (.ptr 1002 1))], []⟩ :: ⟨[(47, .one (bB true)), (53, .one (.ptr 1002 1))], [(1002, some (.blk 26 [bS r2.Key, bS r2.Value, bB r2.Gone, bI .i64 r2.Stamp.N, bI .i64 r2.Stamp.Site, .g (.d (.sl 3 (List.map encApi_Dep r2.Past)))]))], [(54, .one (bS r2.Value))], []⟩ :: ⟨[(47, .one (bB true)), (3, .one (.ptr 1003 0))], [], [(55, .one (.ptr 1003 1))], []⟩ :: ⟨[(47, .one (bB true)), (55, .one (.ptr 1003 1))], [(1003, some (.blk 26 [bS r3.Key, bS r3.Value, bB r3.Gone, bI .i64 r3.Stamp.N, bI .i64 r3.Stamp.Site, .g (.d (.sl 3 (List.map encApi_Dep r3.Past)))]))], [(56, .one (bS r3.Value))], []⟩ :: ⟨[(47, .one (bB true)), (54, .one (bS r2.Value)), (56, .one (bS r3.Value))], [], [(57, .one (bB false))], []⟩ :: ⟨[(47, .one (bB true)), (57, .one (bB false))], [], [(58, .one (bB false))], []⟩ :: ⟨[(58, .one (bB false))], [], [(59, .one (.x Go.undef))], []⟩ :: ⟨[(58, .one (bB false))], [], [(60, .one (.x Go.undef))], []⟩ :: ⟨[(58, .one (bB false))], [], [(61, .one (.x Go.undef))], []⟩ :: ⟨[(58, .one (bB false))], [], [(62, .one (.x Go.undef))], []⟩ :: ⟨[(58, .one (bB false))], [], [(63, .one (.x Go.undef))], []⟩ :: ⟨[(47, .one (bB true)), (58, .one (bB false))], [], [(64, .one (bB false))], []⟩ :: ⟨[(47, .one (bB true)), (52, .one (bB (seq r11 r12))), (64, .one (bB false))], [], [(65, .one (bB true))], []⟩ :: ⟨[(47, .one (bB true)), (65, .one (bB true))], [], [(66, .one (bB true))], []⟩ :: ⟨[(66, .one (bB true))], [], [(67, .one (bB true))], []⟩ :: ⟨[(67, .one (bB true)), (8, .one (.ptr 1008 0))], [(1008, some (.blk 26 [bS r2.Key, bS r2.Value, bB r2.Gone, bI .i64 r3.Stamp.N, bI .i64 r3.Stamp.Site, .g (.d (.sl 3 (List.map encApi_Dep r2.Past)))]))], [(68, .one (.g (.agg [.v (.string r2.Key), .v (.string r2.Value), .v (.bool r2.Gone), .v (.int .i64 r3.Stamp.N), .v (.int .i64 r3.Stamp.Site), .sl 3 (List.map encApi_Dep r2.Past)])))], []⟩ :: ⟨[(67, .one (bB true)), (68, .one (.g (.agg [.v (.string r2.Key), .v (.string r2.Value), .v (.bool r2.Gone), .v (.int .i64 r3.Stamp.N), .v (.int .i64 r3.Stamp.Site), .sl 3 (List.map encApi_Dep r2.Past)])))], [], [(69, .one (bS r18))], []⟩ :: ⟨[(67, .one (bB true)), (2, .one (.ptr 1002 0))], [(1002, some (.blk 26 [bS r2.Key, bS r2.Value, bB r2.Gone, bI .i64 r2.Stamp.N, bI .i64 r2.Stamp.Site, .g (.d (.sl 3 (List.map encApi_Dep r2.Past)))]))], [(70, .one (.g (.agg [.v (.string r2.Key), .v (.string r2.Value), .v (.bool r2.Gone), .v (.int .i64 r2.Stamp.N), .v (.int .i64 r2.Stamp.Site), .sl 3 (List.map encApi_Dep r2.Past)])))], []⟩ :: ⟨[(67, .one (bB true)), (70, .one (.g (.agg [.v (.string r2.Key), .v (.string r2.Value), .v (.bool r2.Gone), .v (.int .i64 r2.Stamp.N), .v (.int .i64 r2.Stamp.Site), .sl 3 (List.map encApi_Dep r2.Past)])))], [], [(71, .one (bS r19))], []⟩ :: ⟨[(67, .one (bB true)), (69, .one (bS r18)), (71, .one (bS r19))], [], [(72, .one (bB (seq r18 r19)))], []⟩ :: ⟨[(67, .one (bB true)), (2, .one (.ptr 1002 0))], [], [(73, .one (.ptr 1002 3))], []⟩ :: ⟨[(67, .one (bB true)), (73, .one (.ptr 1002 3))], [(1002, some (.blk 26 [bS r2.Key, bS r2.Value, bB r2.Gone, bI .i64 r2.Stamp.N, bI .i64 r2.Stamp.Site, .g (.d (.sl 3 (List.map encApi_Dep r2.Past)))]))], [(74, .one (.g (.agg [.v (.int .i64 r2.Stamp.N), .v (.int .i64 r2.Stamp.Site)])))], []⟩ :: ⟨[(67, .one (bB true)), (3, .one (.ptr 1003 0))], [], [(75, .one (.ptr 1003 3))], []⟩ :: ⟨[(67, .one (bB true)), (75, .one (.ptr 1003 3))], [(1003, some (.blk 26 [bS r3.Key, bS r3.Value, bB r3.Gone, bI .i64 r3.Stamp.N, bI .i64 r3.Stamp.Site, .g (.d (.sl 3 (List.map encApi_Dep r3.Past)))]))], [(76, .one (.g (.agg [.v (.int .i64 r3.Stamp.N), .v (.int .i64 r3.Stamp.Site)])))], []⟩ :: ⟨[(67, .one (bB true)), (74, .one (.g (.agg [.v (.int .i64 r2.Stamp.N), .v (.int .i64 r2.Stamp.Site)]))), (76, .one (.g (.agg [.v (.int .i64 r3.Stamp.N), .v (.int .i64 r3.Stamp.Site)])))], [], [(77, .one (bB (decide (r2.Stamp.N = r3.Stamp.N) && decide (r2.Stamp.Site = r3.Stamp.Site))))], []⟩ :: ⟨[(67, .one (bB true)), (72, .one (bB (seq r18 r19))), (77, .one (bB (decide (r2.Stamp.N = r3.Stamp.N) && decide (r2.Stamp.Site = r3.Stamp.Site))))], [], [(78, .one (bB ((seq r18 r19) == (decide (r2.Stamp.N = r3.Stamp.N) && decide (r2.Stamp.Site = r3.Stamp.Site)))))], []⟩ :: ⟨[(67, .one (bB true)), (78, .one (bB ((seq r18 r19) == (decide (r2.Stamp.N = r3.Stamp.N) && decide (r2.Stamp.Site = r3.Stamp.Site)))))], [], [(79, .one (bB ((seq r18 r19) == (decide (r2.Stamp.N = r3.Stamp.N) && decide (r2.Stamp.Site = r3.Stamp.Site)))))], []⟩ :: ⟨[(79, .one (bB ((seq r18 r19) == (decide (r2.Stamp.N = r3.Stamp.N) && decide (r2.Stamp.Site = r3.Stamp.Site)))))], [], [(4, .one (bB ((seq r18 r19) == (decide (r2.Stamp.N = r3.Stamp.N) && decide (r2.Stamp.Site = r3.Stamp.Site)))))], []⟩ :: [])) (deps := ([] :: [0] :: [0, 1] :: [0, 1, 2] :: [0, 1] :: [0, 1, 2, 3, 4] :: [0, 1, 2, 3, 4, 5] :: [0, 1] :: [0, 1, 2, 3, 4, 5, 6, 7] :: [0, 1, 2, 3, 4, 5, 6, 7, 8] :: [0, 1, 2, 3, 4, 5, 6, 7, 8, 9] :: [0, 1, 2, 3, 4, 5, 6, 7, 8, 9, 10] :: [0, 1, 2, 3, 4, 5, 6, 7, 8, 9, 10, 11] :: [0, 1, 2, 3, 4, 5, 6, 7, 8, 9, 10] :: [0, 1, 2, 3, 4, 5, 6, 7, 8, 9, 10, 11, 12, 13] :: [0, 1, 2, 3, 4, 5, 6, 7, 8, 9, 10, 11, 12, 13, 14] :: [0, 1, 2, 3, 4, 5, 6, 7, 8, 9, 10] :: [0, 1, 2, 3, 4, 5, 6, 7, 8, 9, 10, 16] :: [0, 1, 2, 3, 4, 5, 6, 7, 8, 9, 10] :: [0, 1, 2, 3, 4, 5, 6, 7, 8, 9, 10, 18] :: [0, 1, 2, 3, 4, 5, 6, 7, 8, 9, 10, 16, 17, 18, 19] :: [0, 1, 2, 3, 4, 5, 6, 7, 8, 9, 10, 11, 12, 13, 14, 16, 17, 18, 19, 20] :: (0 :: 1 :: 2 :: 3 :: 4 :: 5 :: 6 :: 7 :: 8 :: 9 :: 10 :: 11 :: 12 :: 13 :: 14 :: 16 :: 17 :: 18 :: 19 :: 20 :: 21 :: []) :: (0 :: 1 :: 2 :: 3 :: 4 :: 5 :: 6 :: 7 :: 8 :: 9 :: 10 :: 11 :: 12 :: 13 :: 14 :: 16 :: 17 :: 18 :: 19 :: 20 :: 21 :: 22 :: []) :: (0 :: 1 :: 2 :: 3 :: 4 :: 5 :: 6 :: 7 :: 8 :: 9 :: 10 :: 11 :: 12 :: 13 :: 14 :: 16 :: 17 :: 18 :: 19 :: 20 :: 21 :: []) :: (0 :: 1 :: 2 :: 3 :: 4 :: 5 :: 6 :: 7 :: 8 :: 9 :: 10 :: 11 :: 12 :: 13 :: 14 :: 16 :: 17 :: 18 :: 19 :: 20 :: 21 :: 24 :: []) :: (0 :: 1 :: 2 :: 3 :: 4 :: 5 :: 6 :: 7 :: 8 :: 9 :: 10 :: 11 :: 12 :: 13 :: 14 :: 16 :: 17 :: 18 :: 19 :: 20 :: 21 :: 22 :: 23 :: 24 :: 25 :: []) :: (0 :: 1 :: 2 :: 3 :: 4 :: 5 :: 6 :: 7 :: 8 :: 9 :: 10 :: 11 :: 12 :: 13 :: 14 :: 16 :: 17 :: 18 :: 19 :: 20 :: 21 :: 22 :: 23 :: 24 :: 25 :: 26 :: []) :: (0 :: 1 :: 2 :: 3 :: 4 :: 5 :: 6 :: 7 :: 8 :: 9 :: 10 :: 11 :: 12 :: 13 :: 14 :: 15 :: 16 :: 17 :: 18 :: 19 :: 20 :: 21 :: 22 :: 23 :: 24 :: 25 :: 26 :: 27 :: []) :: (0 :: 1 :: 2 :: 3 :: 4 :: 5 :: 6 :: 7 :: 8 :: 9 :: 10 :: 11 :: 12 :: 13 :: 14 :: 15 :: 16 :: 17 :: 18 :: 19 :: 20 :: 21 :: 22 :: 23 :: 24 :: 25 :: 26 :: 27 :: 28 :: []) :: (0 :: 1 :: 2 :: 3 :: 4 :: 5 :: 6 :: 7 :: 8 :: 9 :: 10 :: 11 :: 12 :: 13 :: 14 :: 15 :: 16 :: 17 :: 18 :: 19 :: 20 :: 21 :: 22 :: 23 :: 24 :: 25 :: 26 :: 27 :: 28 :: 29 :: []) :: (0 :: 1 :: 2 :: 3 :: 4 :: 5 :: 6 :: 7 :: 8 :: 9 :: 10 :: 11 :: 12 :: 13 :: 14 :: 15 :: 16 :: 17 :: 18 :: 19 :: 20 :: 21 :: 22 :: 23 :: 24 :: 25 :: 26 :: 27 :: 28 :: 29 :: 30 :: []) :: (0 :: 1 :: 2 :: 3 :: 4 :: 5 :: 6 :: 7 :: 8 :: 9 :: 10 :: 11 :: 12 :: 13 :: 14 :: 15 :: 16 :: 17 :: 18 :: 19 :: 20 :: 21 :: 22 :: 23 :: 24 :: 25 :: 26 :: 27 :: 28 :: 29 :: 30 :: 31 :: []) :: (0 :: 1 :: 2 :: 3 :: 4 :: 5 :: 6 :: 7 :: 8 :: 9 :: 10 :: 11 :: 12 :: 13 :: 14 :: 15 :: 16 :: 17 :: 18 :: 19 :: 20 :: 21 :: 22 :: 23 :: 24 :: 25 :: 26 :: 27 :: 28 :: 29 :: 30 :: []) :: (0 :: 1 :: 2 :: 3 :: 4 :: 5 :: 6 :: 7 :: 8 :: 9 :: 10 :: 11 :: 12 :: 13 :: 14 :: 15 :: 16 :: 17 :: 18 :: 19 :: 20 :: 21 :: 22 :: 23 :: 24 :: 25 :: 26 :: 27 :: 28 :: 29 :: 30 :: 31 :: 32 :: 33 :: []) :: (0 :: 1 :: 2 :: 3 :: 4 :: 5 :: 6 :: 7 :: 8 :: 9 :: 10 :: 11 :: 12 :: 13 :: 14 :: 15 :: 16 :: 17 :: 18 :: 19 :: 20 :: 21 :: 22 :: 23 :: 24 :: 25 :: 26 :: 27 :: 28 :: 29 :: 30 :: 31 :: 32 :: 33 :: 34 :: []) :: (0 :: 1 :: 2 :: 3 :: 4 :: 5 :: 6 :: 7 :: 8 :: 9 :: 10 :: 11 :: 12 :: 13 :: 14 :: 15 :: 16 :: 17 :: 18 :: 19 :: 20 :: 21 :: 22 :: 23 :: 24 :: 25 :: 26 :: 27 :: 28 :: 29 :: 30 :: []) :: (0 :: 1 :: 2 :: 3 :: 4 :: 5 :: 6 :: 7 :: 8 :: 9 :: 10 :: 11 :: 12 :: 13 :: 14 :: 15 :: 16 :: 17 :: 18 :: 19 :: 20 :: 21 :: 22 :: 23 :: 24 :: 25 :: 26 :: 27 :: 28 :: 29 :: 30 :: 36 :: []) :: (0 :: 1 :: 2 :: 3 :: 4 :: 5 :: 6 :: 7 :: 8 :: 9 :: 10 :: 11 :: 12 :: 13 :: 14 :: 15 :: 16 :: 17 :: 18 :: 19 :: 20 :: 21 :: 22 :: 23 :: 24 :: 25 :: 26 :: 27 :: 28 :: 29 :: 30 :: []) :: (0 :: 1 :: 2 :: 3 :: 4 :: 5 :: 6 :: 7 :: 8 :: 9 :: 10 :: 11 :: 12 :: 13 :: 14 :: 15 :: 16 :: 17 :: 18 :: 19 :: 20 :: 21 :: 22 :: 23 :: 24 :: 25 :: 26 :: 27 :: 28 :: 29 :: 30 :: 38 :: []) :: (0 :: 1 :: 2 :: 3 :: 4 :: 5 :: 6 :: 7 :: 8 :: 9 :: 10 :: 11 :: 12 :: 13 :: 14 :: 15 :: 16 :: 17 :: 18 :: 19 :: 20 :: 21 :: 22 :: 23 :: 24 :: 25 :: 26 :: 27 :: 28 :: 29 :: 30 :: 36 :: 37 :: 38 :: 39 :: []) :: (0 :: 1 :: 2 :: 3 :: 4 :: 5 :: 6 :: 7 :: 8 :: 9 :: 10 :: 11 :: 12 :: 13 :: 14 :: 15 :: 16 :: 17 :: 18 :: 19 :: 20 :: 21 :: 22 :: 23 :: 24 :: 25 :: 26 :: 27 :: 28 :: 29 :: 30 :: 31 :: 32 :: 33 :: 34 :: 35 :: 36 :: 37 :: 38 :: 39 :: 40 :: []) :: (0 :: 1 :: 2 :: 3 :: 4 :: 5 :: 6 :: 7 :: 8 :: 9 :: 10 :: 11 :: 12 :: 13 :: 14 :: 15 :: 16 :: 17 :: 18 :: 19 :: 20 :: 21 :: 22 :: 23 :: 24 :: 25 :: 26 :: 27 :: 28 :: 29 :: 30 :: 31 :: 32 :: 33 :: 34 :: 35 :: 36 :: 37 :: 38 :: 39 :: 40 :: 41 :: []) :: (0 :: 1 :: 2 :: 3 :: 4 :: 5 :: 6 :: 7 :: 8 :: 9 :: 10 :: 11 :: 12 :: 13 :: 14 :: 15 :: 16 :: 17 :: 18 :: 19 :: 20 :: 21 :: 22 :: 23 :: 24 :: 25 :: 26 :: 27 :: 28 :: 29 :: 30 :: 31 :: 32 :: 33 :: 34 :: 35 :: 36 :: 37 :: 38 :: 39 :: 40 :: 41 :: 42 :: []) :: [])) (sl' := [(4, .one (bB ((seq r18 r19) == (decide (r2.Stamp.N = r3.Stamp.N) && decide (r2.Stamp.Site = r3.Stamp.Site)))))]) (hp' := []) follows rfl rfl rfl ⟨⟨rfl, trivial⟩, trivial, ⟨rfl, trivial⟩, trivial, ⟨rfl, rfl, trivial⟩, ⟨⟨rfl, rfl⟩, trivial⟩, ⟨rfl, rfl, trivial⟩, trivial, ⟨rfl, rfl, trivial⟩, ⟨⟨rfl, rfl⟩, trivial⟩, ⟨rfl, rfl, trivial⟩, trivial, ⟨rfl, rfl, rfl, trivial⟩, trivial, ⟨rfl, rfl, trivial⟩, trivial, ⟨rfl, rfl, rfl, trivial⟩, trivial, ⟨rfl, rfl, trivial⟩, trivial, ⟨rfl, trivial⟩, trivial, ⟨rfl, rfl, trivial⟩, ⟨⟨rfl, rfl⟩, trivial⟩, ⟨rfl, rfl, trivial⟩, trivial, ⟨rfl, rfl, trivial⟩, ⟨⟨rfl, rfl⟩, trivial⟩, ⟨rfl, rfl, trivial⟩, trivial, ⟨rfl, rfl, rfl, trivial⟩, trivial, ⟨rfl, rfl, trivial⟩, trivial, ⟨rfl, rfl, trivial⟩, ⟨⟨rfl, rfl⟩, trivial⟩, ⟨rfl, rfl, trivial⟩, trivial, ⟨rfl, rfl, trivial⟩, ⟨⟨rfl, rfl⟩, trivial⟩, ⟨rfl, rfl, rfl, trivial⟩, trivial, ⟨rfl, rfl, trivial⟩, trivial, ⟨rfl, trivial⟩, trivial, ⟨rfl, trivial⟩, trivial, ⟨rfl, trivial⟩, trivial, ⟨rfl, trivial⟩, trivial, ⟨rfl, trivial⟩, trivial, ⟨rfl, rfl, trivial⟩, trivial, ⟨rfl, rfl, rfl, trivial⟩, trivial, ⟨rfl, rfl, trivial⟩, trivial, ⟨rfl, trivial⟩, trivial, ⟨rfl, rfl, trivial⟩, ⟨⟨rfl, rfl⟩, trivial⟩, ⟨rfl, rfl, trivial⟩, trivial, ⟨rfl, rfl, trivial⟩, ⟨⟨rfl, rfl⟩, trivial⟩, ⟨rfl, rfl, trivial⟩, trivial, ⟨rfl, rfl, rfl, trivial⟩, trivial, ⟨rfl, rfl, trivial⟩, trivial, ⟨rfl, rfl, trivial⟩, ⟨⟨rfl, rfl⟩, trivial⟩, ⟨rfl, rfl, trivial⟩, trivial, ⟨rfl, rfl, trivial⟩, ⟨⟨rfl, rfl⟩, trivial⟩, ⟨rfl, rfl, rfl, trivial⟩, trivial, ⟨rfl, rfl, rfl, trivial⟩, trivial, ⟨rfl, rfl, trivial⟩, trivial, ⟨rfl, trivial⟩, trivial, trivial⟩ ⟨OpW.plain (op_move (Ev.t 5 (bB true)) rfl) rfl rfl, OpW.plain (op_move (Ev.t 37 (bB true)) rfl) rfl rfl, OpW.yes (op_loadAP (ds := [.v (.string r2.Key), .v (.string r2.Value), .v (.bool r2.Gone), .v (.int .i64 r2.Stamp.N), .v (.int .i64 r2.Stamp.Site), .sl 3 (List.map encApi_Dep r2.Past)]) Try.underlying26 rfl ti26 rfl (Ev.t 2 (.ptr 1002 0)) rfl) rfl rfl rfl, OpW.yes (op_callQ (sv := .one (bS r8)) cf13 (ct_wire_Bytes r2 r8 hr8) rfl rfl (EvQL.cons (EvQ.g (Ev.t 39 (.g (.agg [.v (.string r2.Key), .v (.string r2.Value), .v (.bool r2.Gone), .v (.int .i64 r2.Stamp.N), .v (.int .i64 r2.Stamp.Site), .sl 3 (List.map encApi_Dep r2.Past)])))) EvQL.nil) rfl) rfl rfl rfl, OpW.yes (op_loadAP (ds := [.v (.string r3.Key), .v (.string r3.Value), .v (.bool r3.Gone), .v (.int .i64 r3.Stamp.N), .v (.int .i64 r3.Stamp.Site), .sl 3 (List.map encApi_Dep r3.Past)]) Try.underlying26 rfl ti26 rfl (Ev.t 3 (.ptr 1003 0)) rfl) rfl rfl rfl, OpW.yes (op_callQ (sv := .one (bS r9)) cf13 (ct_wire_Bytes r3 r9 hr9) rfl rfl (EvQL.cons (EvQ.g (Ev.t 41 (.g (.agg [.v (.string r3.Key), .v (.string r3.Value), .v (.bool r3.Gone), .v (.int .i64 r3.Stamp.N), .v (.int .i64 r3.Stamp.Site), .sl 3 (List.map encApi_Dep r3.Past)])))) EvQL.nil) rfl) rfl rfl rfl, OpW.yes (op_eqS (Ev.t 40 (bS r8)) (Ev.t 42 (bS r9)) rfl) rfl rfl rfl, OpW.yes (op_move (Ev.t 6 (bB r6)) rfl) rfl rfl rfl, OpW.yes (OpL.cast (op_eqB Try.underlying4 (Ev.t 43 (bB (seq r8 r9))) (Ev.t 44 (bB r6)) rfl) (congrArg (fun b => bB b) hc10)) rfl rfl rfl, OpW.plain (op_pickT (Ev.t 38 (bB true)) (Ev.t 45 (bB true)) rfl) rfl rfl, OpW.plain (op_move (Ev.t 46 (bB true)) rfl) rfl rfl, OpW.yes (op_loadAP (ds := [.v (.string r2.Key), .v (.string r3.Value), .v (.bool r3.Gone), .v (.int .i64 r2.Stamp.N), .v (.int .i64 r2.Stamp.Site), .sl 3 (List.map encApi_Dep r2.Past)]) Try.underlying26 rfl ti26 rfl (Ev.t 7 (.ptr 1007 0)) rfl) rfl rfl rfl, OpW.yes (op_callQ (sv := .one (bS r11)) cf13 (ct_wire_Bytes (Api_Version.mk r2.Key r3.Value r3.Gone r2.Stamp r2.Past) r11 hr11) rfl rfl (EvQL.cons (EvQ.g (Ev.t 48 (.g (.agg [.v (.string r2.Key), .v (.string r3.Value), .v (.bool r3.Gone), .v (.int .i64 r2.Stamp.N), .v (.int .i64 r2.Stamp.Site), .sl 3 (List.map encApi_Dep r2.Past)])))) EvQL.nil) rfl) rfl rfl rfl, OpW.yes (op_loadAP (ds := [.v (.string r2.Key), .v (.string r2.Value), .v (.bool r2.Gone), .v (.int .i64 r2.Stamp.N), .v (.int .i64 r2.Stamp.Site), .sl 3 (List.map encApi_Dep r2.Past)]) Try.underlying26 rfl ti26 rfl (Ev.t 2 (.ptr 1002 0)) rfl) rfl rfl rfl, OpW.yes (op_callQ (sv := .one (bS r12)) cf13 (ct_wire_Bytes r2 r12 hr12) rfl rfl (EvQL.cons (EvQ.g (Ev.t 50 (.g (.agg [.v (.string r2.Key), .v (.string r2.Value), .v (.bool r2.Gone), .v (.int .i64 r2.Stamp.N), .v (.int .i64 r2.Stamp.Site), .sl 3 (List.map encApi_Dep r2.Past)])))) EvQL.nil) rfl) rfl rfl rfl, OpW.yes (op_eqS (Ev.t 49 (bS r11)) (Ev.t 51 (bS r12)) rfl) rfl rfl rfl, OpW.yes (op_fieldP (off' := 1) Try.underlying26 rfl ti9 (by decide) rfl (Ev.t 2 (.ptr 1002 0)) rfl) rfl rfl rfl, OpW.yes (op_load1P (c := bS r2.Value) Try.underlying9 rfl rfl (Ev.t 53 (.ptr 1002 1)) rfl) rfl rfl rfl, OpW.yes (op_fieldP (off' := 1) Try.underlying26 rfl ti9 (by decide) rfl (Ev.t 3 (.ptr 1003 0)) rfl) rfl rfl rfl, OpW.yes (op_load1P (c := bS r3.Value) Try.underlying9 rfl rfl (Ev.t 55 (.ptr 1003 1)) rfl) rfl rfl rfl, OpW.yes (OpL.cast (op_eqS (Ev.t 54 (bS r2.Value)) (Ev.t 56 (bS r3.Value)) rfl) (congrArg (fun b => bB b) hc13)) rfl rfl rfl, OpW.yes (op_move (Ev.t 57 (bB false)) rfl) rfl rfl rfl, OpW.no rfl rfl rfl rfl rfl, OpW.no rfl rfl rfl rfl rfl, OpW.no rfl rfl rfl rfl rfl, OpW.no rfl rfl rfl rfl rfl, OpW.no rfl rfl rfl rfl rfl, OpW.yes (op_pickF (Ev.t 58 (bB false)) (Ev.c _ rfl) rfl) rfl rfl rfl, OpW.yes (OpL.cast (op_eqB Try.underlying4 (Ev.t 52 (bB (seq r11 r12))) (Ev.t 64 (bB false)) rfl) (congrArg (fun b => bB b) hc17)) rfl rfl rfl, OpW.plain (op_pickT (Ev.t 47 (bB true)) (Ev.t 65 (bB true)) rfl) rfl rfl, OpW.plain (op_move (Ev.t 66 (bB true)) rfl) rfl rfl, OpW.yes (op_loadAP (ds := [.v (.string r2.Key), .v (.string r2.Value), .v (.bool r2.Gone), .v (.int .i64 r3.Stamp.N), .v (.int .i64 r3.Stamp.Site), .sl 3 (List.map encApi_Dep r2.Past)]) Try.underlying26 rfl ti26 rfl (Ev.t 8 (.ptr 1008 0)) rfl) rfl rfl rfl, OpW.yes (op_callQ (sv := .one (bS r18)) cf13 (ct_wire_Bytes (Api_Version.mk r2.Key r2.Value r2.Gone r3.Stamp r2.Past) r18 hr18) rfl rfl (EvQL.cons (EvQ.g (Ev.t 68 (.g (.agg [.v (.string r2.Key), .v (.string r2.Value), .v (.bool r2.Gone), .v (.int .i64 r3.Stamp.N), .v (.int .i64 r3.Stamp.Site), .sl 3 (List.map encApi_Dep r2.Past)])))) EvQL.nil) rfl) rfl rfl rfl, OpW.yes (op_loadAP (ds := [.v (.string r2.Key), .v (.string r2.Value), .v (.bool r2.Gone), .v (.int .i64 r2.Stamp.N), .v (.int .i64 r2.Stamp.Site), .sl 3 (List.map encApi_Dep r2.Past)]) Try.underlying26 rfl ti26 rfl (Ev.t 2 (.ptr 1002 0)) rfl) rfl rfl rfl, OpW.yes (op_callQ (sv := .one (bS r19)) cf13 (ct_wire_Bytes r2 r19 hr19) rfl rfl (EvQL.cons (EvQ.g (Ev.t 70 (.g (.agg [.v (.string r2.Key), .v (.string r2.Value), .v (.bool r2.Gone), .v (.int .i64 r2.Stamp.N), .v (.int .i64 r2.Stamp.Site), .sl 3 (List.map encApi_Dep r2.Past)])))) EvQL.nil) rfl) rfl rfl rfl, OpW.yes (op_eqS (Ev.t 69 (bS r18)) (Ev.t 71 (bS r19)) rfl) rfl rfl rfl, OpW.yes (op_fieldP (off' := 3) Try.underlying26 rfl ti23 (by decide) rfl (Ev.t 2 (.ptr 1002 0)) rfl) rfl rfl rfl, OpW.yes (op_loadAP (ds := [.v (.int .i64 r2.Stamp.N), .v (.int .i64 r2.Stamp.Site)]) Try.underlying23 rfl ti23 rfl (Ev.t 73 (.ptr 1002 3)) rfl) rfl rfl rfl, OpW.yes (op_fieldP (off' := 3) Try.underlying26 rfl ti23 (by decide) rfl (Ev.t 3 (.ptr 1003 0)) rfl) rfl rfl rfl, OpW.yes (op_loadAP (ds := [.v (.int .i64 r3.Stamp.N), .v (.int .i64 r3.Stamp.Site)]) Try.underlying23 rfl ti23 rfl (Ev.t 75 (.ptr 1003 3)) rfl) rfl rfl rfl, OpW.yes (op_eqA (us := [.int .i64 r2.Stamp.N, .int .i64 r2.Stamp.Site]) (vs := [.int .i64 r3.Stamp.N, .int .i64 r3.Stamp.Site]) rfl rfl Try.eqGuardType23 (fun w => eq23 r2.Stamp.N r2.Stamp.Site r3.Stamp.N r3.Stamp.Site w) (Ev.t 74 (.g (.agg [.v (.int .i64 r2.Stamp.N), .v (.int .i64 r2.Stamp.Site)]))) (Ev.t 76 (.g (.agg [.v (.int .i64 r3.Stamp.N), .v (.int .i64 r3.Stamp.Site)]))) rfl) rfl rfl rfl, OpW.yes (op_eqB Try.underlying4 (Ev.t 72 (bB (seq r18 r19))) (Ev.t 77 (bB (decide (r2.Stamp.N = r3.Stamp.N) && decide (r2.Stamp.Site = r3.Stamp.Site)))) rfl) rfl rfl rfl, OpW.plain (op_pickT (Ev.t 67 (bB true)) (Ev.t 78 (bB ((seq r18 r19) == (decide (r2.Stamp.N = r3.Stamp.N) && decide (r2.Stamp.Site = r3.Stamp.Site))))) rfl) rfl rfl, OpW.plain (op_assign (Ev.t 79 (bB ((seq r18 r19) == (decide (r2.Stamp.N = r3.Stamp.N) && decide (r2.Stamp.Site = r3.Stamp.Site))))) rfl) rfl rfl, trivial⟩ ⟨rfl, trivial⟩ trivial rfl ?_
              cases hF
              exact G.ret1 Try.results6 (RVar.tmp 4 _) ⟨rfl, trivial⟩ trivial
            · refine G.drawn (effs := (⟨[(5, .one (bB true))], [], [(37, .one (bB true))], []⟩ :: ⟨[(37, .one (bB true))], [], [(38, .one (bB true))], []⟩ :: ⟨[(38, .one (bB true)), (2, .one (.ptr 1002 0))], [(1002, some (.blk 26 [bS r2.Key, bS r2.Value, bB r2.Gone, bI .i64 r2.Stamp.N, bI .i64 r2.Stamp.Site, .g (.d (.sl 3 (List.map encApi_Dep r2.Past)))]))], [(39, .one (.g (.agg [.v (.string r2.Key), .v (.string r2.Value), .v (.bool r2.Gone), .v (.int .i64 r2.Stamp.N), .v (.int .i64 r2.Stamp.Site), .sl 3 (List.map encApi_Dep r2.Past)])))], []⟩ :: ⟨[(38, .one (bB true)), (39, .one (.g (.agg [.v (.string r2.Key), .v (.string r2.Value), .v (.bool r2.Gone), .v (.int .i64 r2.Stamp.N), .v (.int .i64 r2.Stamp.Site), .sl 3 (List.map encApi_Dep r2.Past)])))], [], [(40, .one (bS r8))], []⟩ :: ⟨[(38, .one (bB true)), (3, .one (.ptr 1003 0))], [(1003, some (.blk 26 [bS r3.Key, bS r3.Value, bB r3.Gone, bI .i64 r3.Stamp.N, bI .i64 r3.Stamp.Site, .g (.d (.sl 3 (List.map encApi_Dep r3.Past)))]))], [(41, .one (.g (.agg [.v (.string r3.Key), .v (.string r3.Value), .v (.bool r3.Gone), .v (.int .i64 r3.Stamp.N), .v (.int .i64 r3.Stamp.Site), .sl 3 (List.map encApi_Dep r3.Past)])))], []⟩ :: ⟨[(38, .one (bB true)), (41, .one (.g (.agg [.v (.string r3.Key), .v (.string r3.Value), .v (.bool r3.Gone), .v (.int .i64 r3.Stamp.N), .v (.int .i64 r3.Stamp.Site), .sl 3 (List.map encApi_Dep r3.Past)])))], [], [(42, .one (bS r9))], []⟩ :: ⟨[(38, .one (bB true)), (40, .one (bS r8)), (42, .one (bS r9))], [], [(43, .one (bB (seq r8 r9)))], []⟩ :: ⟨[(38, .one (bB true)), (6, .one (bB r6))], [], [(44, .one (bB r6))], []⟩ :: ⟨[(38, .one (bB true)), (43, .one (bB (seq r8 r9))), (44, .one (bB r6))], [], [(45, .one (bB true))], []⟩ :: ⟨[(38, .one (bB true)), (45, .one (bB true))], [], [(46, .one (bB true))], []⟩ :: ⟨[(46, .one (bB true))], [], [(47, .one (bB true))], []⟩ :: ⟨[(47, .one (bB true)), (7, .one (.ptr 1007 0))], [(1007, some (.blk 26 [bS r2.Key, bS r3.Value, bB r3.Gone, bI .i64 r2.Stamp.N, bI .i64 r2.Stamp.Site, .g (.d (.sl 3 (List.map encApi_Dep r2.Past)))]))], [(48, .one (.g (.agg [.v (.string r2.Key), .v (.string r3.Value), .v (.bool r3.Gone), .v (.int .i64 r2.Stamp.N), .v (.int .i64 r2.Stamp.Site), .sl 3 (List.map encApi_Dep r2.Past)])))], []⟩ :: ⟨[(47, .one (bB true)), (48, .one (.g (.agg [.v (.string r2.Key), .v (.string r3.Value), .v (.bool r3.Gone), .v (.int .i64 r2.Stamp.N), .v (.int .i64 r2.Stamp.Site), .sl 3 (List.map encApi_Dep r2.Past)])))], [], [(49, .one (bS r11))], []⟩ :: ⟨[(47, .one (bB true)), (2, .one (.ptr 1002 0))], [(1002, some (.blk 26 [bS r2.Key, bS r2.Value, bB r2.Gone, bI .i64 r2.Stamp.N, bI .i64 r2.Stamp.Site, .g (.d (.sl 3 (List.map encApi_Dep r2.Past)))]))], [(50, .one (.g (.agg [.v (.string r2.Key), .v (.string r2.Value), .v (.bool r2.Gone), .v (.int .i64 r2.Stamp.N), .v (.int .i64 r2.Stamp.Site), .sl 3 (List.map encApi_Dep r2.Past)])))], []⟩ :: ⟨[(47, .one (bB true)), (50, .one (.g (.agg [.v (.string r2.Key), .v (.string r2.Value), .v (.bool r2.Gone), .v (.int .i64 r2.Stamp.N), .v (.int .i64 r2.Stamp.Site), .sl 3 (List.map encApi_Dep r2.Past)])))], [], [(51, .one (bS r12))], []⟩ :: ⟨[(47, .one (bB true)), (49, .one (bS r11)), (51, .one (bS r12))], [], [(52, .one (bB (seq r11 r12)))], []⟩ :: ⟨[(47, .one (bB true)), (2, .one (.ptr 1002 0))], [], [(53, .one (.ptr 1002 1))], []⟩ :: ⟨[(47, .one (bB true)), (53, .one (.ptr 1002 1))], [(1002, some (.blk 26 [bS r2.Key, bS r2.Value, bB r2.Gone, bI .i64 r2.Stamp.N, bI .i64 r2.Stamp.Site, .g (.d (.sl 3 (List.map encApi_Dep r2.Past)))]))], [(54, .one (bS r2.Value))], []⟩ :: ⟨[(47, .one (bB true)), (3, .one (.ptr 1003 0))], [], [(55, .one (.ptr 1003 1))], []⟩ :: ⟨[(47, .one (bB true)), (55, .one (.ptr 1003 1))], [(1003, some (.blk 26 [bS r3.Key, bS r3.Value, bB r3.Gone, bI .i64 r3.Stamp.N, bI .i64 r3.Stamp.Site, .g (.d (.sl 3 (List.map encApi_Dep r3.Past)))]))], [(56, .one (bS r3.Value))], []⟩ :: ⟨[(47, .one (bB true)), (54, .one (bS r2.Value)), (56, .one (bS r3.Value))], [], [(57, .one (bB false))], []⟩ :: ⟨[(47, .one (bB true)), (57, .one (bB false))], [], [(58, .one (bB false))], []⟩ :: ⟨[(58, .one (bB false))], [], [(59, .one (.x Go.undef))], []⟩ :: ⟨[(58, .one (bB false))], [], [(60, .one (.x Go.undef))], []⟩ :: ⟨[(58, .one (bB false))], [], [(61, .one (.x Go.undef))], []⟩ :: ⟨[(58, .one (bB false))], [], [(62, .one (.x Go.undef))], []⟩ :: ⟨[(58, .one (bB false))], [], [(63, .one (.x Go.undef))], []⟩ :: ⟨[(47, .one (bB true)), (58, .one (bB false))], [], [(64, .one (bB false))], []⟩ :: ⟨[(47, .one (bB true)), (52, .one (bB (seq r11 r12))), (64, .one (bB false))], [], [(65, .one (bB false))], []⟩ :: ⟨[(47, .one (bB true)), (65, .one (bB false))], [], [(66, .one (bB false))], []⟩ :: ⟨[(66, .one (bB false))], [], [(67, .one (bB false))], []⟩ :: ⟨[(67, .one (bB false))], [], [(68, .one (.x Go.undef))], []⟩ :: ⟨[(67, .one (bB false))], [], [(69, .one (.x Go.undef))], []⟩ :: ⟨[(67, .one (bB false))], [], [(70, .one (.x Go.undef))], []⟩ :: ⟨[(67, .one (bB false))], [], [(71, .one (.x Go.undef))], []⟩ :: ⟨[(67, .one (bB false))], [], [(72, .one (.x Go.undef))], []⟩ :: ⟨[(67, .one (bB false))], [], [(73, .one (.x Go.undef))], []⟩ :: ⟨[(67, .one (bB false))], [], [(74, .one (.x Go.undef))], []⟩ :: ⟨[(67, .one (bB false))], [], [(75, .one (.x Go.undef))], []⟩ :: ⟨[(67, .one (bB false))], [], [(76, .one (.x Go.undef))], []⟩ :: ⟨[(67, .one (bB false))], [], [(77, .one (.x Go.undef))], []⟩ :: ⟨[(67, .one (bB false))], [], [(78, .one (.x Go.undef))], []⟩ :: ⟨[(67, .one (bB false))], [], [(79, .one (bB false))], []⟩ :: ⟨[(79, .one (bB false))], [], [(4, .one (bB false))], []⟩ :: [])) (deps := ([] :: [0] :: [0, 1] :: [0, 1, 2] :: [0, 1] :: [0, 1, 2, 3, 4] :: [0, 1, 2, 3, 4, 5] :: [0, 1] :: [0, 1, 2, 3, 4, 5, 6, 7] :: [0, 1, 2, 3, 4, 5, 6, 7, 8] :: [0, 1, 2, 3, 4, 5, 6, 7, 8, 9] :: [0, 1, 2, 3, 4, 5, 6, 7, 8, 9, 10] :: [0, 1, 2, 3, 4, 5, 6, 7, 8, 9, 10, 11] :: [0, 1, 2, 3, 4, 5, 6, 7, 8, 9, 10] :: [0, 1, 2, 3, 4, 5, 6, 7, 8, 9, 10, 11, 12, 13] :: [0, 1, 2, 3, 4, 5, 6, 7, 8, 9, 10, 11, 12, 13, 14] :: [0, 1, 2, 3, 4, 5, 6, 7, 8, 9, 10] :: [0, 1, 2, 3, 4, 5, 6, 7, 8, 9, 10, 16] :: [0, 1, 2, 3, 4, 5, 6, 7, 8, 9, 10] :: [0, 1, 2, 3, 4, 5, 6, 7, 8, 9, 10, 18] :: [0, 1, 2, 3, 4, 5, 6, 7, 8, 9, 10, 16, 17, 18, 19] :: [0, 1, 2, 3, 4, 5, 6, 7, 8, 9, 10, 11, 12, 13, 14, 16, 17, 18, 19, 20] :: (0 :: 1 :: 2 :: 3 :: 4 :: 5 :: 6 :: 7 :: 8 :: 9 :: 10 :: 11 :: 12 :: 13 :: 14 :: 16 :: 17 :: 18 :: 19 :: 20 :: 21 :: []) :: (0 :: 1 :: 2 :: 3 :: 4 :: 5 :: 6 :: 7 :: 8 :: 9 :: 10 :: 11 :: 12 :: 13 :: 14 :: 16 :: 17 :: 18 :: 19 :: 20 :: 21 :: 22 :: []) :: (0 :: 1 :: 2 :: 3 :: 4 :: 5 :: 6 :: 7 :: 8 :: 9 :: 10 :: 11 :: 12 :: 13 :: 14 :: 16 :: 17 :: 18 :: 19 :: 20 :: 21 :: []) :: (0 :: 1 :: 2 :: 3 :: 4 :: 5 :: 6 :: 7 :: 8 :: 9 :: 10 :: 11 :: 12 :: 13 :: 14 :: 16 :: 17 :: 18 :: 19 :: 20 :: 21 :: 24 :: []) :: (0 :: 1 :: 2 :: 3 :: 4 :: 5 :: 6 :: 7 :: 8 :: 9 :: 10 :: 11 :: 12 :: 13 :: 14 :: 16 :: 17 :: 18 :: 19 :: 20 :: 21 :: 22 :: 23 :: 24 :: 25 :: []) :: (0 :: 1 :: 2 :: 3 :: 4 :: 5 :: 6 :: 7 :: 8 :: 9 :: 10 :: 11 :: 12 :: 13 :: 14 :: 16 :: 17 :: 18 :: 19 :: 20 :: 21 :: 22 :: 23 :: 24 :: 25 :: 26 :: []) :: (0 :: 1 :: 2 :: 3 :: 4 :: 5 :: 6 :: 7 :: 8 :: 9 :: 10 :: 11 :: 12 :: 13 :: 14 :: 15 :: 16 :: 17 :: 18 :: 19 :: 20 :: 21 :: 22 :: 23 :: 24 :: 25 :: 26 :: 27 :: []) :: (0 :: 1 :: 2 :: 3 :: 4 :: 5 :: 6 :: 7 :: 8 :: 9 :: 10 :: 11 :: 12 :: 13 :: 14 :: 15 :: 16 :: 17 :: 18 :: 19 :: 20 :: 21 :: 22 :: 23 :: 24 :: 25 :: 26 :: 27 :: 28 :: []) :: (0 :: 1 :: 2 :: 3 :: 4 :: 5 :: 6 :: 7 :: 8 :: 9 :: 10 :: 11 :: 12 :: 13 :: 14 :: 15 :: 16 :: 17 :: 18 :: 19 :: 20 :: 21 :: 22 :: 23 :: 24 :: 25 :: 26 :: 27 :: 28 :: 29 :: []) :: (0 :: 1 :: 2 :: 3 :: 4 :: 5 :: 6 :: 7 :: 8 :: 9 :: 10 :: 11 :: 12 :: 13 :: 14 :: 15 :: 16 :: 17 :: 18 :: 19 :: 20 :: 21 :: 22 :: 23 :: 24 :: 25 :: 26 :: 27 :: 28 :: 29 :: 30 :: []) :: (0 :: 1 :: 2 :: 3 :: 4 :: 5 :: 6 :: 7 :: 8 :: 9 :: 10 :: 11 :: 12 :: 13 :: 14 :: 15 :: 16 :: 17 :: 18 :: 19 :: 20 :: 21 :: 22 :: 23 :: 24 :: 25 :: 26 :: 27 :: 28 :: 29 :: 30 :: 31 :: []) :: (0 :: 1 :: 2 :: 3 :: 4 :: 5 :: 6 :: 7 :: 8 :: 9 :: 10 :: 11 :: 12 :: 13 :: 14 :: 15 :: 16 :: 17 :: 18 :: 19 :: 20 :: 21 :: 22 :: 23 :: 24 :: 25 :: 26 :: 27 :: 28 :: 29 :: 30 :: []) :: (0 :: 1 :: 2 :: 3 :: 4 :: 5 :: 6 :: 7 :: 8 :: 9 :: 10 :: 11 :: 12 :: 13 :: 14 :: 15 :: 16 :: 17 :: 18 :: 19 :: 20 :: 21 :: 22 :: 23 :: 24 :: 25 :: 26 :: 27 :: 28 :: 29 :: 30 :: 31 :: 32 :: 33 :: []) :: (0 :: 1 :: 2 :: 3 :: 4 :: 5 :: 6 :: 7 :: 8 :: 9 :: 10 :: 11 :: 12 :: 13 :: 14 :: 15 :: 16 :: 17 :: 18 :: 19 :: 20 :: 21 :: 22 :: 23 :: 24 :: 25 :: 26 :: 27 :: 28 :: 29 :: 30 :: 31 :: 32 :: 33 :: 34 :: []) :: (0 :: 1 :: 2 :: 3 :: 4 :: 5 :: 6 :: 7 :: 8 :: 9 :: 10 :: 11 :: 12 :: 13 :: 14 :: 15 :: 16 :: 17 :: 18 :: 19 :: 20 :: 21 :: 22 :: 23 :: 24 :: 25 :: 26 :: 27 :: 28 :: 29 :: 30 :: []) :: (0 :: 1 :: 2 :: 3 :: 4 :: 5 :: 6 :: 7 :: 8 :: 9 :: 10 :: 11 :: 12 :: 13 :: 14 :: 15 :: 16 :: 17 :: 18 :: 19 :: 20 :: 21 :: 22 :: 23 :: 24 :: 25 :: 26 :: 27 :: 28 :: 29 :: 30 :: 36 :: []) :: (0 :: 1 :: 2 :: 3 :: 4 :: 5 :: 6 :: 7 :: 8 :: 9 :: 10 :: 11 :: 12 :: 13 :: 14 :: 15 :: 16 :: 17 :: 18 :: 19 :: 20 :: 21 :: 22 :: 23 :: 24 :: 25 :: 26 :: 27 :: 28 :: 29 :: 30 :: []) :: (0 :: 1 :: 2 :: 3 :: 4 :: 5 :: 6 :: 7 :: 8 :: 9 :: 10 :: 11 :: 12 :: 13 :: 14 :: 15 :: 16 :: 17 :: 18 :: 19 :: 20 :: 21 :: 22 :: 23 :: 24 :: 25 :: 26 :: 27 :: 28 :: 29 :: 30 :: 38 :: []) :: (0 :: 1 :: 2 :: 3 :: 4 :: 5 :: 6 :: 7 :: 8 :: 9 :: 10 :: 11 :: 12 :: 13 :: 14 :: 15 :: 16 :: 17 :: 18 :: 19 :: 20 :: 21 :: 22 :: 23 :: 24 :: 25 :: 26 :: 27 :: 28 :: 29 :: 30 :: 36 :: 37 :: 38 :: 39 :: []) :: (0 :: 1 :: 2 :: 3 :: 4 :: 5 :: 6 :: 7 :: 8 :: 9 :: 10 :: 11 :: 12 :: 13 :: 14 :: 15 :: 16 :: 17 :: 18 :: 19 :: 20 :: 21 :: 22 :: 23 :: 24 :: 25 :: 26 :: 27 :: 28 :: 29 :: 30 :: 31 :: 32 :: 33 :: 34 :: 35 :: 36 :: 37 :: 38 :: 39 :: 40 :: []) :: (0 :: 1 :: 2 :: 3 :: 4 :: 5 :: 6 :: 7 :: 8 :: 9 :: 10 :: 11 :: 12 :: 13 :: 14 :: 15 :: 16 :: 17 :: 18 :: 19 :: 20 :: 21 :: 22 :: 23 :: 24 :: 25 :: 26 :: 27 :: 28 :: 29 :: 30 :: 31 :: 32 :: 33 :: 34 :: 35 :: 36 :: 37 :: 38 :: 39 :: 40 :: 41 :: []) :: (0 :: 1 :: 2 :: 3 :: 4 :: 5 :: 6 :: 7 :: 8 :: 9 :: 10 :: 11 :: 12 :: 13 :: 14 :: 15 :: 16 :: 17 :: 18 :: 19 :: 20 :: 21 :: 22 :: 23 :: 24 :: 25 :: 26 :: 27 :: 28 :: 29 :: 30 :: 31 :: 32 :: 33 :: 34 :: 35 :: 36 :: 37 :: 38 :: 39 :: 40 :: 41 :: 42 :: []) :: [])) (sl' := [(4, .one (bB false))]) (hp' := []) follows rfl rfl rfl ⟨⟨rfl, trivial⟩, trivial, ⟨rfl, trivial⟩, trivial, ⟨rfl, rfl, trivial⟩, ⟨⟨rfl, rfl⟩, trivial⟩, ⟨rfl, rfl, trivial⟩, trivial, ⟨rfl, rfl, trivial⟩, ⟨⟨rfl, rfl⟩, trivial⟩, ⟨rfl, rfl, trivial⟩, trivial, ⟨rfl, rfl, rfl, trivial⟩, trivial, ⟨rfl, rfl, trivial⟩, trivial, ⟨rfl, rfl, rfl, trivial⟩, trivial, ⟨rfl, rfl, trivial⟩, trivial, ⟨rfl, trivial⟩, trivial, ⟨rfl, rfl, trivial⟩, ⟨⟨rfl, rfl⟩, trivial⟩, ⟨rfl, rfl, trivial⟩, trivial, ⟨rfl, rfl, trivial⟩, ⟨⟨rfl, rfl⟩, trivial⟩, ⟨rfl, rfl, trivial⟩, trivial, ⟨rfl, rfl, rfl, trivial⟩, trivial, ⟨rfl, rfl, trivial⟩, trivial, ⟨rfl, rfl, trivial⟩, ⟨⟨rfl, rfl⟩, trivial⟩, ⟨rfl, rfl, trivial⟩, trivial, ⟨rfl, rfl, trivial⟩, ⟨⟨rfl, rfl⟩, trivial⟩, ⟨rfl, rfl, rfl, trivial⟩, trivial, ⟨rfl, rfl, trivial⟩, trivial, ⟨rfl, trivial⟩, trivial, ⟨rfl, trivial⟩, trivial, ⟨rfl, trivial⟩, trivial, ⟨rfl, trivial⟩, trivial, ⟨rfl, trivial⟩, trivial, ⟨rfl, rfl, trivial⟩, trivial, ⟨rfl, rfl, rfl, trivial⟩, trivial, ⟨rfl, rfl, trivial⟩, trivial, ⟨rfl, trivial⟩, trivial, ⟨rfl, trivial⟩, trivial, ⟨rfl, trivial⟩, trivial, ⟨rfl, trivial⟩, trivial, ⟨rfl, trivial⟩, trivial, ⟨rfl, trivial⟩, trivial, ⟨rfl, trivial⟩, trivial, ⟨rfl, trivial⟩, trivial, ⟨rfl, trivial⟩, trivial, ⟨rfl, trivial⟩, trivial, ⟨rfl, trivial⟩, trivial, ⟨rfl, trivial⟩, trivial, ⟨rfl, trivial⟩, trivial, ⟨rfl, trivial⟩, trivial, trivial⟩ ⟨OpW.plain (op_move (Ev.t 5 (bB true)) rfl) rfl rfl, OpW.plain (op_move (Ev.t 37 (bB true)) rfl) rfl rfl, OpW.yes (op_loadAP (ds := [.v (.string r2.Key), .v (.string r2.Value), .v (.bool r2.Gone), .v (.int .i64 r2.Stamp.N), .v (.int .i64 r2.Stamp.Site), .sl 3 (List.map encApi_Dep r2.Past)]) Try.underlying26 rfl ti26 rfl (Ev.t 2 (.ptr 1002 0)) rfl) rfl rfl rfl, OpW.yes (op_callQ (sv := .one (bS r8)) cf13 (ct_wire_Bytes r2 r8 hr8) rfl rfl (EvQL.cons (EvQ.g (Ev.t 39 (.g (.agg [.v (.string r2.Key), .v (.string r2.Value), .v (.bool r2.Gone), .v (.int .i64 r2.Stamp.N), .v (.int .i64 r2.Stamp.Site), .sl 3 (List.map encApi_Dep r2.Past)])))) EvQL.nil) rfl) rfl rfl rfl, OpW.yes (op_loadAP (ds := [.v (.string r3.Key), .v (.string r3.Value), .v (.bool r3.Gone), .v (.int .i64 r3.Stamp.N), .v (.int .i64 r3.Stamp.Site), .sl 3 (List.map encApi_Dep r3.Past)]) Try.underlying26 rfl ti26 rfl (Ev.t 3 (.ptr 1003 0)) rfl) rfl rfl rfl, OpW.yes (op_callQ (sv := .one (bS r9)) cf13 (ct_wire_Bytes r3 r9 hr9) rfl rfl (EvQL.cons (EvQ.g (Ev.t 41 (.g (.agg [.v (.string r3.Key), .v (.string r3.Value), .v (.bool r3.Gone), .v (.int .i64 r3.Stamp.N), .v (.int .i64 r3.Stamp.Site), .sl 3 (List.map encApi_Dep r3.Past)])))) EvQL.nil) rfl) rfl rfl rfl, OpW.yes (op_eqS (Ev.t 40 (bS r8)) (Ev.t 42 (bS r9)) rfl) rfl rfl rfl, OpW.yes (op_move (Ev.t 6 (bB r6)) rfl) rfl rfl rfl, OpW.yes (OpL.cast (op_eqB Try.underlying4 (Ev.t 43 (bB (seq r8 r9))) (Ev.t 44 (bB r6)) rfl) (congrArg (fun b => bB b) hc10)) rfl rfl rfl, OpW.plain (op_pickT (Ev.t 38 (bB true)) (Ev.t 45 (bB true)) rfl) rfl rfl, OpW.plain (op_move (Ev.t 46 (bB true)) rfl) rfl rfl, OpW.yes (op_loadAP (ds := [.v (.string r2.Key), .v (.string r3.Value), .v (.bool r3.Gone), .v (.int .i64 r2.Stamp.N), .v (.int .i64 r2.Stamp.Site), .sl 3 (List.map encApi_Dep r2.Past)]) Try.underlying26 rfl ti26 rfl (Ev.t 7 (.ptr 1007 0)) rfl) rfl rfl rfl, OpW.yes (op_callQ (sv := .one (bS r11)) cf13 (ct_wire_Bytes (Api_Version.mk r2.Key r3.Value r3.Gone r2.Stamp r2.Past) r11 hr11) rfl rfl (EvQL.cons (EvQ.g (Ev.t 48 (.g (.agg [.v (.string r2.Key), .v (.string r3.Value), .v (.bool r3.Gone), .v (.int .i64 r2.Stamp.N), .v (.int .i64 r2.Stamp.Site), .sl 3 (List.map encApi_Dep r2.Past)])))) EvQL.nil) rfl) rfl rfl rfl, OpW.yes (op_loadAP (ds := [.v (.string r2.Key), .v (.string r2.Value), .v (.bool r2.Gone), .v (.int .i64 r2.Stamp.N), .v (.int .i64 r2.Stamp.Site), .sl 3 (List.map encApi_Dep r2.Past)]) Try.underlying26 rfl ti26 rfl (Ev.t 2 (.ptr 1002 0)) rfl) rfl rfl rfl, OpW.yes (op_callQ (sv := .one (bS r12)) cf13 (ct_wire_Bytes r2 r12 hr12) rfl rfl (EvQL.cons (EvQ.g (Ev.t 50 (.g (.agg [.v (.string r2.Key), .v (.string r2.Value), .v (.bool r2.Gone), .v (.int .i64 r2.Stamp.N), .v (.int .i64 r2.Stamp.Site), .sl 3 (List.map encApi_Dep r2.Past)])))) EvQL.nil) rfl) rfl rfl rfl, OpW.yes (op_eqS (Ev.t 49 (bS r11)) (Ev.t 51 (bS r12)) rfl) rfl rfl rfl, OpW.yes (op_fieldP (off' := 1) Try.underlying26 rfl ti9 (by decide) rfl (Ev.t 2 (.ptr 1002 0)) rfl) rfl rfl rfl, OpW.yes (op_load1P (c := bS r2.Value) Try.underlying9 rfl rfl (Ev.t 53 (.ptr 1002 1)) rfl) rfl rfl rfl, OpW.yes (op_fieldP (off' := 1) Try.underlying26 rfl ti9 (by decide) rfl (Ev.t 3 (.ptr 1003 0)) rfl) rfl rfl rfl, OpW.yes (op_load1P (c := bS r3.Value) Try.underlying9 rfl rfl (Ev.t 55 (.ptr 1003 1)) rfl) rfl rfl rfl, OpW.yes (OpL.cast (op_eqS (Ev.t 54 (bS r2.Value)) (Ev.t 56 (bS r3.Value)) rfl) (congrArg (fun b => bB b) hc13)) rfl rfl rfl, OpW.yes (op_move (Ev.t 57 (bB false)) rfl) rfl rfl rfl, OpW.no rfl rfl rfl rfl rfl, OpW.no rfl rfl rfl rfl rfl, OpW.no rfl rfl rfl rfl rfl, OpW.no rfl rfl rfl rfl rfl, OpW.no rfl rfl rfl rfl rfl, OpW.yes (op_pickF (Ev.t 58 (bB false)) (Ev.c _ rfl) rfl) rfl rfl rfl, OpW.yes (OpL.cast (op_eqB Try.underlying4 (Ev.t 52 (bB (seq r11 r12))) (Ev.t 64 (bB false)) rfl) (congrArg (fun b => bB b) hc17)) rfl rfl rfl, OpW.plain (op_pickT (Ev.t 47 (bB true)) (Ev.t 65 (bB false)) rfl) rfl rfl, OpW.plain (op_move (Ev.t 66 (bB false)) rfl) rfl rfl, OpW.no rfl rfl rfl rfl rfl, OpW.no rfl rfl rfl rfl rfl, OpW.no rfl rfl rfl rfl rfl, OpW.no rfl rfl rfl rfl rfl, OpW.no rfl rfl rfl rfl rfl, OpW.no rfl rfl rfl rfl rfl, OpW.no rfl rfl rfl rfl rfl, OpW.no rfl rfl rfl rfl rfl, OpW.no rfl rfl rfl rfl rfl, OpW.no rfl rfl rfl rfl rfl, OpW.no rfl rfl rfl rfl rfl, OpW.plain (op_pickF (Ev.t 67 (bB false)) (Ev.c _ rfl) rfl) rfl rfl, OpW.plain (op_assign (Ev.t 79 (bB false)) rfl) rfl rfl, trivial⟩ ⟨rfl, trivial⟩ trivial rfl ?_
              cases hF
              exact G.ret1 Try.results6 (RVar.tmp 4 _) ⟨rfl, trivial⟩ trivial
        · refine G.drawn (effs := (⟨[(5, .one (bB true))], [], [(37, .one (bB true))], []⟩ :: ⟨[(37, .one (bB true))], [], [(38, .one (bB true))], []⟩ :: ⟨[(38, .one (bB true)), (2, .one (.ptr 1002 0))], [(1002, some (.blk 26 [bS r2.Key, bS r2.Value, bB r2.Gone, bI .i64 r2.Stamp.N, bI .i64 r2.Stamp.Site, .g (.d (.sl 3 (List.map encApi_Dep r2.Past)))]))], [(39, .one (.g (.agg [.v (.string r2.Key), .v (.string r2.Value), .v (.bool r2.Gone), .v (.int .i64 r2.Stamp.N), .v (.int .i64 r2.Stamp.Site), .sl 3 (List.map encApi_Dep r2.Past)])))], []⟩ :: ⟨[(38, .one (bB true)), (39, .one (.g (.agg [.v (.string r2.Key), .v (.string r2.Value), .v (.bool r2.Gone), .v (.int .i64 r2.Stamp.N), .v (.int .i64 r2.Stamp.Site), .sl 3 (List.map encApi_Dep r2.Past)])))], [], [(40, .one (bS r8))], []⟩ :: ⟨[(38, .one (bB true)), (3, .one (.ptr 1003 0))], [(1003, some (.blk 26 [bS r3.Key, bS r3.Value, bB r3.Gone, bI .i64 r3.Stamp.N, bI .i64 r3.Stamp.Site, .g (.d (.sl 3 (List.map encApi_Dep r3.Past)))]))], [(41, .one (.g (.agg [.v (.string r3.Key), .v (.string r3.Value), .v (.bool r3.Gone), .v (.int .i64 r3.Stamp.N), .v (.int .i64 r3.Stamp.Site), .sl 3 (List.map encApi_Dep r3.Past)])))], []⟩ :: ⟨[(38, .one (bB true)), (41, .one (.g (.agg [.v (.string r3.Key), .v (.string r3.Value), .v (.bool r3.Gone), .v (.int .i64 r3.Stamp.N), .v (.int .i64 r3.Stamp.Site), .sl 3 (List.map encApi_Dep r3.Past)])))], [], [(42, .one (bS r9))], []⟩ :: ⟨[(38, .one (bB true)), (40, .one (bS r8)), (42, .one (bS r9))], [], [(43, .one (bB (seq r8 r9)))], []⟩ :: ⟨[(38, .one (bB true)), (6, .one (bB r6))], [], [(44, .one (bB r6))], []⟩ :: ⟨[(38, .one (bB true)), (43, .one (bB (seq r8 r9))), (44, .one (bB r6))], [], [(45, .one (bB false))], []⟩ :: ⟨[(38, .one (bB true)), (45, .one (bB false))], [], [(46, .one (bB false))], []⟩ :: ⟨[(46, .one (bB false))], [], [(47, .one (bB false))], []⟩ :: ⟨[(47, .one (bB false))], [], [(48, .one (.x Go.undef))], []⟩ :: ⟨[(47, .one (bB false))], [], [(49, .one (.x Go.undef))], []⟩ :: ⟨[(47, .one (bB false))], [], [(50, .one (.x Go.undef))], []⟩ :: ⟨[(47, .one (bB false))], [], [(51, .one (.x Go.undef))], []⟩ :: ⟨[(47, .one (bB false))], [], [(52, .one (.x Go.undef))], []⟩ :: ⟨[(47, .one (bB false))], [], [(53, .one (.x Go.undef))], []⟩ :: ⟨[(47, .one (bB false))], [], [(54, .one (.x Go.undef))], []⟩ :: ⟨[(47, .one (bB false))], [], [(55, .one (.x Go.undef))], []⟩ :: ⟨[(47, .one (bB false))], [], [(56, .one (.x Go.undef))], []⟩ :: ⟨[(47, .one (bB false))], [], [(57, .one (.x Go.undef))], []⟩ :: ⟨[(47, .one (bB false))], [], [(58, .one (.x Go.undef))], []⟩ :: ⟨[(58, .one (.x Go.undef))], [], [(59, .one (.x Go.undef))], []⟩ :: ⟨[(58, .one (.x Go.undef))], [], [(60, .one (.x Go.undef))], []⟩ :: ⟨[(58, .one (.x Go.undef))], [], [(61, .one (.x Go.undef))], []⟩ :: ⟨[(58, .one (.x Go.undef))], [], [(62, .one (.x Go.undef))], []⟩ :: ⟨[(58, .one (.x Go.undef))], [], [(63, .one (.x Go.undef))], []⟩ :: ⟨[(47, .one (bB false))], [], [(64, .one (.x Go.undef))], []⟩ :: ⟨[(47, .one (bB false))], [], [(65, .one (.x Go.undef))], []⟩ :: ⟨[(47, .one (bB false))], [], [(66, .one (bB false))], []⟩ :: ⟨[(66, .one (bB false))], [], [(67, .one (bB false))], []⟩ :: ⟨[(67, .one (bB false))], [], [(68, .one (.x Go.undef))], []⟩ :: ⟨[(67, .one (bB false))], [], [(69, .one (.x Go.undef))], []⟩ :: ⟨[(67, .one (bB false))], [], [(70, .one (.x Go.undef))], []⟩ :: ⟨[(67, .one (bB false))], [], [(71, .one (.x Go.undef))], []⟩ :: ⟨[(67, .one (bB false))], [], [(72, .one (.x Go.undef))], []⟩ :: ⟨[(67, .one (bB false))], [], [(73, .one (.x Go.undef))], []⟩ :: ⟨[(67, .one (bB false))], [], [(74, .one (.x Go.undef))], []⟩ :: ⟨[(67, .one (bB false))], [], [(75, .one (.x Go.undef))], []⟩ :: ⟨[(67, .one (bB false))], [], [(76, .one (.x Go.undef))], []⟩ :: ⟨[(67, .one (bB false))], [], [(77, .one (.x Go.undef))], []⟩ :: ⟨[(67, .one (bB false))], [], [(78, .one (.x Go.undef))], []⟩ :: ⟨[(67, .one (bB false))], [], [(79, .one (bB false))], []⟩ :: ⟨[(79, .one (bB false))], [], [(4, .one (bB false))], []⟩ :: [])) (deps := ([] :: [0] :: [0, 1] :: [0, 1, 2] :: [0, 1] :: [0, 1, 2, 3, 4] :: [0, 1, 2, 3, 4, 5] :: [0, 1] :: [0, 1, 2, 3, 4, 5, 6, 7] :: [0, 1, 2, 3, 4, 5, 6, 7, 8] :: [0, 1, 2, 3, 4, 5, 6, 7, 8, 9] :: [0, 1, 2, 3, 4, 5, 6, 7, 8, 9, 10] :: [0, 1, 2, 3, 4, 5, 6, 7, 8, 9, 10, 11] :: [0, 1, 2, 3, 4, 5, 6, 7, 8, 9, 10] :: [0, 1, 2, 3, 4, 5, 6, 7, 8, 9, 10, 11, 12, 13] :: [0, 1, 2, 3, 4, 5, 6, 7, 8, 9, 10, 11, 12, 13, 14] :: [0, 1, 2, 3, 4, 5, 6, 7, 8, 9, 10] :: [0, 1, 2, 3, 4, 5, 6, 7, 8, 9, 10, 16] :: [0, 1, 2, 3, 4, 5, 6, 7, 8, 9, 10] :: [0, 1, 2, 3, 4, 5, 6, 7, 8, 9, 10, 18] :: [0, 1, 2, 3, 4, 5, 6, 7, 8, 9, 10, 16, 17, 18, 19] :: [0, 1, 2, 3, 4, 5, 6, 7, 8, 9, 10, 11, 12, 13, 14, 16, 17, 18, 19, 20] :: (0 :: 1 :: 2 :: 3 :: 4 :: 5 :: 6 :: 7 :: 8 :: 9 :: 10 :: 11 :: 12 :: 13 :: 14 :: 16 :: 17 :: 18 :: 19 :: 20 :: 21 :: []) :: (0 :: 1 :: 2 :: 3 :: 4 :: 5 :: 6 :: 7 :: 8 :: 9 :: 10 :: 11 :: 12 :: 13 :: 14 :: 16 :: 17 :: 18 :: 19 :: 20 :: 21 :: 22 :: []) :: (0 :: 1 :: 2 :: 3 :: 4 :: 5 :: 6 :: 7 :: 8 :: 9 :: 10 :: 11 :: 12 :: 13 :: 14 :: 16 :: 17 :: 18 :: 19 :: 20 :: 21 :: []) :: (0 :: 1 :: 2 :: 3 :: 4 :: 5 :: 6 :: 7 :: 8 :: 9 :: 10 :: 11 :: 12 :: 13 :: 14 :: 16 :: 17 :: 18 :: 19 :: 20 :: 21 :: 24 :: []) :: (0 :: 1 :: 2 :: 3 :: 4 :: 5 :: 6 :: 7 :: 8 :: 9 :: 10 :: 11 :: 12 :: 13 :: 14 :: 16 :: 17 :: 18 :: 19 :: 20 :: 21 :: 22 :: 23 :: 24 :: 25 :: []) :: (0 :: 1 :: 2 :: 3 :: 4 :: 5 :: 6 :: 7 :: 8 :: 9 :: 10 :: 11 :: 12 :: 13 :: 14 :: 16 :: 17 :: 18 :: 19 :: 20 :: 21 :: 22 :: 23 :: 24 :: 25 :: 26 :: []) :: (0 :: 1 :: 2 :: 3 :: 4 :: 5 :: 6 :: 7 :: 8 :: 9 :: 10 :: 11 :: 12 :: 13 :: 14 :: 15 :: 16 :: 17 :: 18 :: 19 :: 20 :: 21 :: 22 :: 23 :: 24 :: 25 :: 26 :: 27 :: []) :: (0 :: 1 :: 2 :: 3 :: 4 :: 5 :: 6 :: 7 :: 8 :: 9 :: 10 :: 11 :: 12 :: 13 :: 14 :: 15 :: 16 :: 17 :: 18 :: 19 :: 20 :: 21 :: 22 :: 23 :: 24 :: 25 :: 26 :: 27 :: 28 :: []) :: (0 :: 1 :: 2 :: 3 :: 4 :: 5 :: 6 :: 7 :: 8 :: 9 :: 10 :: 11 :: 12 :: 13 :: 14 :: 15 :: 16 :: 17 :: 18 :: 19 :: 20 :: 21 :: 22 :: 23 :: 24 :: 25 :: 26 :: 27 :: 28 :: 29 :: []) :: (0 :: 1 :: 2 :: 3 :: 4 :: 5 :: 6 :: 7 :: 8 :: 9 :: 10 :: 11 :: 12 :: 13 :: 14 :: 15 :: 16 :: 17 :: 18 :: 19 :: 20 :: 21 :: 22 :: 23 :: 24 :: 25 :: 26 :: 27 :: 28 :: 29 :: 30 :: []) :: (0 :: 1 :: 2 :: 3 :: 4 :: 5 :: 6 :: 7 :: 8 :: 9 :: 10 :: 11 :: 12 :: 13 :: 14 :: 15 :: 16 :: 17 :: 18 :: 19 :: 20 :: 21 :: 22 :: 23 :: 24 :: 25 :: 26 :: 27 :: 28 :: 29 :: 30 :: 31 :: []) :: (0 :: 1 :: 2 :: 3 :: 4 :: 5 :: 6 :: 7 :: 8 :: 9 :: 10 :: 11 :: 12 :: 13 :: 14 :: 15 :: 16 :: 17 :: 18 :: 19 :: 20 :: 21 :: 22 :: 23 :: 24 :: 25 :: 26 :: 27 :: 28 :: 29 :: 30 :: []) :: (0 :: 1 :: 2 :: 3 :: 4 :: 5 :: 6 :: 7 :: 8 :: 9 :: 10 :: 11 :: 12 :: 13 :: 14 :: 15 :: 16 :: 17 :: 18 :: 19 :: 20 :: 21 :: 22 :: 23 :: 24 :: 25 :: 26 :: 27 :: 28 :: 29 :: 30 :: 31 :: 32 :: 33 :: []) :: (0 :: 1 :: 2 :: 3 :: 4 :: 5 :: 6 :: 7 :: 8 :: 9 :: 10 :: 11 :: 12 :: 13 :: 14 :: 15 :: 16 :: 17 :: 18 :: 19 :: 20 :: 21 :: 22 :: 23 :: 24 :: 25 :: 26 :: 27 :: 28 :: 29 :: 30 :: 31 :: 32 :: 33 :: 34 :: []) :: (0 :: 1 :: 2 :: 3 :: 4 :: 5 :: 6 :: 7 :: 8 :: 9 :: 10 :: 11 :: 12 :: 13 :: 14 :: 15 :: 16 :: 17 :: 18 :: 19 :: 20 :: 21 :: 22 :: 23 :: 24 :: 25 :: 26 :: 27 :: 28 :: 29 :: 30 :: []) :: (0 :: 1 :: 2 :: 3 :: 4 :: 5 :: 6 :: 7 :: 8 :: 9 :: 10 :: 11 :: 12 :: 13 :: 14 :: 15 :: 16 :: 17 :: 18 :: 19 :: 20 :: 21 :: 22 :: 23 :: 24 :: 25 :: 26 :: 27 :: 28 :: 29 :: 30 :: 36 :: []) :: (0 :: 1 :: 2 :: 3 :: 4 :: 5 :: 6 :: 7 :: 8 :: 9 :: 10 :: 11 :: 12 :: 13 :: 14 :: 15 :: 16 :: 17 :: 18 :: 19 :: 20 :: 21 :: 22 :: 23 :: 24 :: 25 :: 26 :: 27 :: 28 :: 29 :: 30 :: []) :: (0 :: 1 :: 2 :: 3 :: 4 :: 5 :: 6 :: 7 :: 8 :: 9 :: 10 :: 11 :: 12 :: 13 :: 14 :: 15 :: 16 :: 17 :: 18 :: 19 :: 20 :: 21 :: 22 :: 23 :: 24 :: 25 :: 26 :: 27 :: 28 :: 29 :: 30 :: 38 :: []) :: (0 :: 1 :: 2 :: 3 :: 4 :: 5 :: 6 :: 7 :: 8 :: 9 :: 10 :: 11 :: 12 :: 13 :: 14 :: 15 :: 16 :: 17 :: 18 :: 19 :: 20 :: 21 :: 22 :: 23 :: 24 :: 25 :: 26 :: 27 :: 28 :: 29 :: 30 :: 36 :: 37 :: 38 :: 39 :: []) :: (0 :: 1 :: 2 :: 3 :: 4 :: 5 :: 6 :: 7 :: 8 :: 9 :: 10 :: 11 :: 12 :: 13 :: 14 :: 15 :: 16 :: 17 :: 18 :: 19 :: 20 :: 21 :: 22 :: 23 :: 24 :: 25 :: 26 :: 27 :: 28 :: 29 :: 30 :: 31 :: 32 :: 33 :: 34 :: 35 :: 36 :: 37 :: 38 :: 39 :: 40 :: []) :: (0 :: 1 :: 2 :: 3 :: 4 :: 5 :: 6 :: 7 :: 8 :: 9 :: 10 :: 11 :: 12 :: 13 :: 14 :: 15 :: 16 :: 17 :: 18 :: 19 :: 20 :: 21 :: 22 :: 23 :: 24 :: 25 :: 26 :: 27 :: 28 :: 29 :: 30 :: 31 :: 32 :: 33 :: 34 :: 35 :: 36 :: 37 :: 38 :: 39 :: 40 :: 41 :: []) :: (0 :: 1 :: 2 :: 3 :: 4 :: 5 :: 6 :: 7 :: 8 :: 9 :: 10 :: 11 :: 12 :: 13 :: 14 :: 15 :: 16 :: 17 :: 18 :: 19 :: 20 :: 21 :: 22 :: 23 :: 24 :: 25 :: 26 :: 27 :: 28 :: 29 :: 30 :: 31 :: 32 :: 33 :: 34 :: 35 :: 36 :: 37 :: 38 :: 39 :: 40 :: 41 :: 42 :: []) :: [])) (sl' := [(4, .one (bB false))]) (hp' := []) follows rfl rfl rfl ⟨⟨rfl, trivial⟩, trivial, ⟨rfl, trivial⟩, trivial, ⟨rfl, rfl, trivial⟩, ⟨⟨rfl, rfl⟩, trivial⟩, ⟨rfl, rfl, trivial⟩, trivial, ⟨rfl, rfl, trivial⟩, ⟨⟨rfl, rfl⟩, trivial⟩, ⟨rfl, rfl, trivial⟩, trivial, ⟨rfl, rfl, rfl, trivial⟩, trivial, ⟨rfl, rfl, trivial⟩, trivial, ⟨rfl, rfl, rfl, trivial⟩, trivial, ⟨rfl, rfl, trivial⟩, trivial, ⟨rfl, trivial⟩, trivial, ⟨rfl, trivial⟩, trivial, ⟨rfl, trivial⟩, trivial, ⟨rfl, trivial⟩, trivial, ⟨rfl, trivial⟩, trivial, ⟨rfl, trivial⟩, trivial, ⟨rfl, trivial⟩, trivial, ⟨rfl, trivial⟩, trivial, ⟨rfl, trivial⟩, trivial, ⟨rfl, trivial⟩, trivial, ⟨rfl, trivial⟩, trivial, ⟨rfl, trivial⟩, trivial, ⟨rfl, trivial⟩, trivial, ⟨rfl, trivial⟩, trivial, ⟨rfl, trivial⟩, trivial, ⟨rfl, trivial⟩, trivial, ⟨rfl, trivial⟩, trivial, ⟨rfl, trivial⟩, trivial, ⟨rfl, trivial⟩, trivial, ⟨rfl, trivial⟩, trivial, ⟨rfl, trivial⟩, trivial, ⟨rfl, trivial⟩, trivial, ⟨rfl, trivial⟩, trivial, ⟨rfl, trivial⟩, trivial, ⟨rfl, trivial⟩, trivial, ⟨rfl, trivial⟩, trivial, ⟨rfl, trivial⟩, trivial, ⟨rfl, trivial⟩, trivial, ⟨rfl, trivial⟩, trivial, ⟨rfl, trivial⟩, trivial, ⟨rfl, trivial⟩, trivial, ⟨rfl, trivial⟩, trivial, ⟨rfl, trivial⟩, trivial, ⟨rfl, trivial⟩, trivial, trivial⟩ ⟨OpW.plain (op_move (Ev.t 5 (bB true)) rfl) rfl rfl, OpW.plain (op_move (Ev.t 37 (bB true)) rfl) rfl rfl, OpW.yes (op_loadAP (ds := [.v (.string r2.Key), .v (.string r2.Value), .v (.bool r2.Gone), .v (.int .i64 r2.Stamp.N), .v (.int .i64 r2.Stamp.Site), .sl 3 (List.map encApi_Dep r2.Past)]) Try.underlying26 rfl ti26 rfl (Ev.t 2 (.ptr 1002 0)) rfl) rfl rfl rfl, OpW.yes (op_callQ (sv := .one (bS r8)) cf13 (ct_wire_Bytes r2 r8 hr8) rfl rfl (EvQL.cons (EvQ.g (Ev.t 39 (.g (.agg [.v (.string r2.Key), .v (.string r2.Value), .v (.bool r2.Gone), .v (.int .i64 r2.Stamp.N), .v (.int .i64 r2.Stamp.Site), .sl 3 (List.map encApi_Dep r2.Past)])))) EvQL.nil) rfl) rfl rfl rfl, OpW.yes (op_loadAP (ds := [.v (.string r3.Key), .v (.string r3.Value), .v (.bool r3.Gone), .v (.int .i64 r3.Stamp.N), .v (.int .i64 r3.Stamp.Site), .sl 3 (List.map encApi_Dep r3.Past)]) Try.underlying26 rfl ti26 rfl (Ev.t 3 (.ptr 1003 0)) rfl) rfl rfl rfl, OpW.yes (op_callQ (sv := .one (bS r9)) cf13 (ct_wire_Bytes r3 r9 hr9) rfl rfl (EvQL.cons (EvQ.g (Ev.t 41 (.g (.agg [.v (.string r3.Key), .v (.string r3.Value), .v (.bool r3.Gone), .v (.int .i64 r3.Stamp.N), .v (.int .i64 r3.Stamp.Site), .sl 3 (List.map encApi_Dep r3.Past)])))) EvQL.nil) rfl) rfl rfl rfl, OpW.yes (op_eqS (Ev.t 40 (bS r8)) (Ev.t 42 (bS r9)) rfl) rfl rfl rfl, OpW.yes (op_move (Ev.t 6 (bB r6)) rfl) rfl rfl rfl, OpW.yes (OpL.cast (op_eqB Try.underlying4 (Ev.t 43 (bB (seq r8 r9))) (Ev.t 44 (bB r6)) rfl) (congrArg (fun b => bB b) hc10)) rfl rfl rfl, OpW.plain (op_pickT (Ev.t 38 (bB true)) (Ev.t 45 (bB false)) rfl) rfl rfl, OpW.plain (op_move (Ev.t 46 (bB false)) rfl) rfl rfl, OpW.no rfl rfl rfl rfl rfl, OpW.no rfl rfl rfl rfl rfl, OpW.no rfl rfl rfl rfl rfl, OpW.no rfl rfl rfl rfl rfl, OpW.no rfl rfl rfl rfl rfl, OpW.no rfl rfl rfl rfl rfl, OpW.no rfl rfl rfl rfl rfl, OpW.no rfl rfl rfl rfl rfl, OpW.no rfl rfl rfl rfl rfl, OpW.no rfl rfl rfl rfl rfl, OpW.no rfl rfl rfl rfl rfl, OpW.un rfl rfl rfl rfl, OpW.un rfl rfl rfl rfl, OpW.un rfl rfl rfl rfl, OpW.un rfl rfl rfl rfl, OpW.un rfl rfl rfl rfl, OpW.no rfl rfl rfl rfl rfl, OpW.no rfl rfl rfl rfl rfl, OpW.plain (op_pickF (Ev.t 47 (bB false)) (Ev.c _ rfl) rfl) rfl rfl, OpW.plain (op_move (Ev.t 66 (bB false)) rfl) rfl rfl, OpW.no rfl rfl rfl rfl rfl, OpW.no rfl rfl rfl rfl rfl, OpW.no rfl rfl rfl rfl rfl, OpW.no rfl rfl rfl rfl rfl, OpW.no rfl rfl rfl rfl rfl, OpW.no rfl rfl rfl rfl rfl, OpW.no rfl rfl rfl rfl rfl, OpW.no rfl rfl rfl rfl rfl, OpW.no rfl rfl rfl rfl rfl, OpW.no rfl rfl rfl rfl rfl, OpW.no rfl rfl rfl rfl rfl, OpW.plain (op_pickF (Ev.t 67 (bB false)) (Ev.c _ rfl) rfl) rfl rfl, OpW.plain (op_assign (Ev.t 79 (bB false)) rfl) rfl rfl, trivial⟩ ⟨rfl, trivial⟩ trivial rfl ?_
          cases hF
          exact G.ret1 Try.results6 (RVar.tmp 4 _) ⟨rfl, trivial⟩ trivial
      · refine G.known (t := 5) (c := false) hc7 rfl ?_
        refine G.drawn (effs := (⟨[(5, .one (bB false))], [], [(37, .one (bB false))], []⟩ :: ⟨[(37, .one (bB false))], [], [(38, .one (bB false))], []⟩ :: ⟨[(38, .one (bB false))], [], [(39, .one (.x Go.undef))], []⟩ :: ⟨[(38, .one (bB false))], [], [(40, .one (.x Go.undef))], []⟩ :: ⟨[(38, .one (bB false))], [], [(41, .one (.x Go.undef))], []⟩ :: ⟨[(38, .one (bB false))], [], [(42, .one (.x Go.undef))], []⟩ :: ⟨[(38, .one (bB false))], [], [(43, .one (.x Go.undef))], []⟩ :: ⟨[(38, .one (bB false))], [], [(44, .one (.x Go.undef))], []⟩ :: ⟨[(38, .one (bB false))], [], [(45, .one (.x Go.undef))], []⟩ :: ⟨[(38, .one (bB false))], [], [(46, .one (bB false))], []⟩ :: ⟨[(46, .one (bB false))], [], [(47, .one (bB false))], []⟩ :: ⟨[(47, .one (bB false))], [], [(48, .one (.x Go.undef))], []⟩ :: ⟨[(47, .one (bB false))], [], [(49, .one (.x Go.undef))], []⟩ :: ⟨[(47, .one (bB false))], [], [(50, .one (.x Go.undef))], []⟩ :: ⟨[(47, .one (bB false))], [], [(51, .one (.x Go.undef))], []⟩ :: ⟨[(47, .one (bB false))], [], [(52, .one (.x Go.undef))], []⟩ :: ⟨[(47, .one (bB false))], [], [(53, .one (.x Go.undef))], []⟩ :: ⟨[(47, .one (bB false))], [], [(54, .one (.x Go.undef))], []⟩ :: ⟨[(47, .one (bB false))], [], [(55, .one (.x Go.undef))], []⟩ :: ⟨[(47, .one (bB false))], [], [(56, .one (.x Go.undef))], []⟩ :: ⟨[(47, .one (bB false))], [], [(57, .one (.x Go.undef))], []⟩ :: ⟨[(47, .one (bB false))], [], [(58, .one (.x Go.undef))], []⟩ :: ⟨[(58, .one (.x Go.undef))], [], [(59, .one (.x Go.undef))], []⟩ :: ⟨[(58, .one (.x Go.undef))], [], [(60, .one (.x Go.undef))], []⟩ :: ⟨[(58, .one (.x Go.undef))], [], [(61, .one (.x Go.undef))], []⟩ :: ⟨[(58, .one (.x Go.undef))], [], [(62, .one (.x Go.undef))], []⟩ :: ⟨[(58, .one (.x Go.undef))], [], [(63, .one (.x Go.undef))], []⟩ :: ⟨[(47, .one (bB false))], [], [(64, .one (.x Go.undef))], []⟩ :: ⟨[(47, .one (bB false))], [], [(65, .one (.x Go.undef))], []⟩ :: ⟨[(47, .one (bB false))], [], [(66, .one (bB false))], []⟩ :: ⟨[(66, .one (bB false))], [], [(67, .one (bB false))], []⟩ :: ⟨[(67, .one (bB false))], [], [(68, .one (.x Go.undef))], []⟩ :: ⟨[(67, .one (bB false))], [], [(69, .one (.x Go.undef))], []⟩ :: ⟨[(67, .one (bB false))], [], [(70, .one (.x Go.undef))], []⟩ :: ⟨[(67, .one (bB false))], [], [(71, .one (.x Go.undef))], []⟩ :: ⟨[(67, .one (bB false))], [], [(72, .one (.x Go.undef))], []⟩ :: ⟨[(67, .one (bB false))], [], [(73, .one (.x Go.undef))], []⟩ :: ⟨[(67, .one (bB false))], [], [(74, .one (.x Go.undef))], []⟩ :: ⟨[(67, .one (bB false))], [], [(75, .one (.x Go.undef))], []⟩ :: ⟨[(67, .one (bB false))], [], [(76, .one (.x Go.undef))], []⟩ :: ⟨[(67, .one (bB false))], [], [(77, .one (.x Go.undef))], []⟩ :: ⟨[(67, .one (bB false))], [], [(78, .one (.x Go.undef))], []⟩ :: ⟨[(67, .one (bB false))], [], [(79, .one (bB false))], []⟩ :: ⟨[(79, .one (bB false))], [], [(4, .one (bB false))], []⟩ :: [])) (deps := ([] :: [0] :: [0, 1] :: [0, 1, 2] :: [0, 1] :: [0, 1, 2, 3, 4] :: [0, 1, 2, 3, 4, 5] :: [0, 1] :: [0, 1, 2, 3, 4, 5, 6, 7] :: [0, 1, 2, 3, 4, 5, 6, 7, 8] :: [0, 1, 2, 3, 4, 5, 6, 7, 8, 9] :: [0, 1, 2, 3, 4, 5, 6, 7, 8, 9, 10] :: [0, 1, 2, 3, 4, 5, 6, 7, 8, 9, 10, 11] :: [0, 1, 2, 3, 4, 5, 6, 7, 8, 9, 10] :: [0, 1, 2, 3, 4, 5, 6, 7, 8, 9, 10, 11, 12, 13] :: [0, 1, 2, 3, 4, 5, 6, 7, 8, 9, 10, 11, 12, 13, 14] :: [0, 1, 2, 3, 4, 5, 6, 7, 8, 9, 10] :: [0, 1, 2, 3, 4, 5, 6, 7, 8, 9, 10, 16] :: [0, 1, 2, 3, 4, 5, 6, 7, 8, 9, 10] :: [0, 1, 2, 3, 4, 5, 6, 7, 8, 9, 10, 18] :: [0, 1, 2, 3, 4, 5, 6, 7, 8, 9, 10, 16, 17, 18, 19] :: [0, 1, 2, 3, 4, 5, 6, 7, 8, 9, 10, 11, 12, 13, 14, 16, 17, 18, 19, 20] :: (0 :: 1 :: 2 :: 3 :: 4 :: 5 :: 6 :: 7 :: 8 :: 9 :: 10 :: 11 :: 12 :: 13 :: 14 :: 16 :: 17 :: 18 :: 19 :: 20 :: 21 :: []) :: (0 :: 1 :: 2 :: 3 :: 4 :: 5 :: 6 :: 7 :: 8 :: 9 :: 10 :: 11 :: 12 :: 13 :: 14 :: 16 :: 17 :: 18 :: 19 :: 20 :: 21 :: 22 :: []) :: (0 :: 1 :: 2 :: 3 :: 4 :: 5 :: 6 :: 7 :: 8 :: 9 :: 10 :: 11 :: 12 :: 13 :: 14 :: 16 :: 17 :: 18 :: 19 :: 20 :: 21 :: []) :: (0 :: 1 :: 2 :: 3 :: 4 :: 5 :: 6 :: 7 :: 8 :: 9 :: 10 :: 11 :: 12 :: 13 :: 14 :: 16 :: 17 :: 18 :: 19 :: 20 :: 21 :: 24 :: []) :: (0 :: 1 :: 2 :: 3 :: 4 :: 5 :: 6 :: 7 :: 8 :: 9 :: 10 :: 11 :: 12 :: 13 :: 14 :: 16 :: 17 :: 18 :: 19 :: 20 :: 21 :: 22 :: 23 :: 24 :: 25 :: []) :: (0 :: 1 :: 2 :: 3 :: 4 :: 5 :: 6 :: 7 :: 8 :: 9 :: 10 :: 11 :: 12 :: 13 :: 14 :: 16 :: 17 :: 18 :: 19 :: 20 :: 21 :: 22 :: 23 :: 24 :: 25 :: 26 :: []) :: (0 :: 1 :: 2 :: 3 :: 4 :: 5 :: 6 :: 7 :: 8 :: 9 :: 10 :: 11 :: 12 :: 13 :: 14 :: 15 :: 16 :: 17 :: 18 :: 19 :: 20 :: 21 :: 22 :: 23 :: 24 :: 25 :: 26 :: 27 :: []) :: (0 :: 1 :: 2 :: 3 :: 4 :: 5 :: 6 :: 7 :: 8 :: 9 :: 10 :: 11 :: 12 :: 13 :: 14 :: 15 :: 16 :: 17 :: 18 :: 19 :: 20 :: 21 :: 22 :: 23 :: 24 :: 25 :: 26 :: 27 :: 28 :: []) :: (0 :: 1 :: 2 :: 3 :: 4 :: 5 :: 6 :: 7 :: 8 :: 9 :: 10 :: 11 :: 12 :: 13 :: 14 :: 15 :: 16 :: 17 :: 18 :: 19 :: 20 :: 21 :: 22 :: 23 :: 24 :: 25 :: 26 :: 27 :: 28 :: 29 :: []) :: (0 :: 1 :: 2 :: 3 :: 4 :: 5 :: 6 :: 7 :: 8 :: 9 :: 10 :: 11 :: 12 :: 13 :: 14 :: 15 :: 16 :: 17 :: 18 :: 19 :: 20 :: 21 :: 22 :: 23 :: 24 :: 25 :: 26 :: 27 :: 28 :: 29 :: 30 :: []) :: (0 :: 1 :: 2 :: 3 :: 4 :: 5 :: 6 :: 7 :: 8 :: 9 :: 10 :: 11 :: 12 :: 13 :: 14 :: 15 :: 16 :: 17 :: 18 :: 19 :: 20 :: 21 :: 22 :: 23 :: 24 :: 25 :: 26 :: 27 :: 28 :: 29 :: 30 :: 31 :: []) :: (0 :: 1 :: 2 :: 3 :: 4 :: 5 :: 6 :: 7 :: 8 :: 9 :: 10 :: 11 :: 12 :: 13 :: 14 :: 15 :: 16 :: 17 :: 18 :: 19 :: 20 :: 21 :: 22 :: 23 :: 24 :: 25 :: 26 :: 27 :: 28 :: 29 :: 30 :: []) :: (0 :: 1 :: 2 :: 3 :: 4 :: 5 :: 6 :: 7 :: 8 :: 9 :: 10 :: 11 :: 12 :: 13 :: 14 :: 15 :: 16 :: 17 :: 18 :: 19 :: 20 :: 21 :: 22 :: 23 :: 24 :: 25 :: 26 :: 27 :: 28 :: 29 :: 30 :: 31 :: 32 :: 33 :: []) :: (0 :: 1 :: 2 :: 3 :: 4 :: 5 :: 6 :: 7 :: 8 :: 9 :: 10 :: 11 :: 12 :: 13 :: 14 :: 15 :: 16 :: 17 :: 18 :: 19 :: 20 :: 21 :: 22 :: 23 :: 24 :: 25 :: 26 :: 27 :: 28 :: 29 :: 30 :: 31 :: 32 :: 33 :: 34 :: []) :: (0 :: 1 :: 2 :: 3 :: 4 :: 5 :: 6 :: 7 :: 8 :: 9 :: 10 :: 11 :: 12 :: 13 :: 14 :: 15 :: 16 :: 17 :: 18 :: 19 :: 20 :: 21 :: 22 :: 23 :: 24 :: 25 :: 26 :: 27 :: 28 :: 29 :: 30 :: []) :: (0 :: 1 :: 2 :: 3 :: 4 :: 5 :: 6 :: 7 :: 8 :: 9 :: 10 :: 11 :: 12 :: 13 :: 14 :: 15 :: 16 :: 17 :: 18 :: 19 :: 20 :: 21 :: 22 :: 23 :: 24 :: 25 :: 26 :: 27 :: 28 :: 29 :: 30 :: 36 :: []) :: (0 :: 1 :: 2 :: 3 :: 4 :: 5 :: 6 :: 7 :: 8 :: 9 :: 10 :: 11 :: 12 :: 13 :: 14 :: 15 :: 16 :: 17 :: 18 :: 19 :: 20 :: 21 :: 22 :: 23 :: 24 :: 25 :: 26 :: 27 :: 28 :: 29 :: 30 :: []) :: (0 :: 1 :: 2 :: 3 :: 4 :: 5 :: 6 :: 7 :: 8 :: 9 :: 10 :: 11 :: 12 :: 13 :: 14 :: 15 :: 16 :: 17 :: 18 :: 19 :: 20 :: 21 :: 22 :: 23 :: 24 :: 25 :: 26 :: 27 :: 28 :: 29 :: 30 :: 38 :: []) :: (0 :: 1 :: 2 :: 3 :: 4 :: 5 :: 6 :: 7 :: 8 :: 9 :: 10 :: 11 :: 12 :: 13 :: 14 :: 15 :: 16 :: 17 :: 18 :: 19 :: 20 :: 21 :: 22 :: 23 :: 24 :: 25 :: 26 :: 27 :: 28 :: 29 :: 30 :: 36 :: 37 :: 38 :: 39 :: []) :: (0 :: 1 :: 2 :: 3 :: 4 :: 5 :: 6 :: 7 :: 8 :: 9 :: 10 :: 11 :: 12 :: 13 :: 14 :: 15 :: 16 :: 17 :: 18 :: 19 :: 20 :: 21 :: 22 :: 23 :: 24 :: 25 :: 26 :: 27 :: 28 :: 29 :: 30 :: 31 :: 32 :: 33 :: 34 :: 35 :: 36 :: 37 :: 38 :: 39 :: 40 :: []) :: (0 :: 1 :: 2 :: 3 :: 4 :: 5 :: 6 :: 7 :: 8 :: 9 :: 10 :: 11 :: 12 :: 13 :: 14 :: 15 :: 16 :: 17 :: 18 :: 19 :: 20 :: 21 :: 22 :: 23 :: 24 :: 25 :: 26 :: 27 :: 28 :: 29 :: 30 :: 31 :: 32 :: 33 :: 34 :: 35 :: 36 :: 37 :: 38 :: 39 :: 40 :: 41 :: []) :: (0 :: 1 :: 2 :: 3 :: 4 :: 5 :: 6 :: 7 :: 8 :: 9 :: 10 :: 11 :: 12 :: 13 :: 14 :: 15 :: 16 :: 17 :: 18 :: 19 :: 20 :: 21 :: 22 :: 23 :: 24 :: 25 :: 26 :: 27 :: 28 :: 29 :: 30 :: 31 :: 32 :: 33 :: 34 :: 35 :: 36 :: 37 :: 38 :: 39 :: 40 :: 41 :: 42 :: []) :: [])) (sl' := [(4, .one (bB false))]) (hp' := []) follows rfl rfl rfl ⟨⟨rfl, trivial⟩, trivial, ⟨rfl, trivial⟩, trivial, ⟨rfl, trivial⟩, trivial, ⟨rfl, trivial⟩, trivial, ⟨rfl, trivial⟩, trivial, ⟨rfl, trivial⟩, trivial, ⟨rfl, trivial⟩, trivial, ⟨rfl, trivial⟩, trivial, ⟨rfl, trivial⟩, trivial, ⟨rfl, trivial⟩, trivial, ⟨rfl, trivial⟩, trivial, ⟨rfl, trivial⟩, trivial, ⟨rfl, trivial⟩, trivial, ⟨rfl, trivial⟩, trivial, ⟨rfl, trivial⟩, trivial, ⟨rfl, trivial⟩, trivial, ⟨rfl, trivial⟩, trivial, ⟨rfl, trivial⟩, trivial, ⟨rfl, trivial⟩, trivial, ⟨rfl, trivial⟩, trivial, ⟨rfl, trivial⟩, trivial, ⟨rfl, trivial⟩, trivial, ⟨rfl, trivial⟩, trivial, ⟨rfl, trivial⟩, trivial, ⟨rfl, trivial⟩, trivial, ⟨rfl, trivial⟩, trivial, ⟨rfl, trivial⟩, trivial, ⟨rfl, trivial⟩, trivial, ⟨rfl, trivial⟩, trivial, ⟨rfl, trivial⟩, trivial, ⟨rfl, trivial⟩, trivial, ⟨rfl, trivial⟩, trivial, ⟨rfl, trivial⟩, trivial, ⟨rfl, trivial⟩, trivial, ⟨rfl, trivial⟩, trivial, ⟨rfl, trivial⟩, trivial, ⟨rfl, trivial⟩, trivial, ⟨rfl, trivial⟩, trivial, ⟨rfl, trivial⟩, trivial, ⟨rfl, trivial⟩, trivial, ⟨rfl, trivial⟩, trivial, ⟨rfl, trivial⟩, trivial, ⟨rfl, trivial⟩, trivial, ⟨rfl, trivial⟩, trivial, trivial⟩ ⟨OpW.plain (op_move (Ev.t 5 (bB false)) rfl) rfl rfl, OpW.plain (op_move (Ev.t 37 (bB false)) rfl) rfl rfl, OpW.no rfl rfl rfl rfl rfl, OpW.no rfl rfl rfl rfl rfl, OpW.no rfl rfl rfl rfl rfl, OpW.no rfl rfl rfl rfl rfl, OpW.no rfl rfl rfl rfl rfl, OpW.no rfl rfl rfl rfl rfl, OpW.no rfl rfl rfl rfl rfl, OpW.plain (op_pickF (Ev.t 38 (bB false)) (Ev.c _ rfl) rfl) rfl rfl, OpW.plain (op_move (Ev.t 46 (bB false)) rfl) rfl rfl, OpW.no rfl rfl rfl rfl rfl, OpW.no rfl rfl rfl rfl rfl, OpW.no rfl rfl rfl rfl rfl, OpW.no rfl rfl rfl rfl rfl, OpW.no rfl rfl rfl rfl rfl, OpW.no rfl rfl rfl rfl rfl, OpW.no rfl rfl rfl rfl rfl, OpW.no rfl rfl rfl rfl rfl, OpW.no rfl rfl rfl rfl rfl, OpW.no rfl rfl rfl rfl rfl, OpW.no rfl rfl rfl rfl rfl, OpW.un rfl rfl rfl rfl, OpW.un rfl rfl rfl rfl, OpW.un rfl rfl rfl rfl, OpW.un rfl rfl rfl rfl, OpW.un rfl rfl rfl rfl, OpW.no rfl rfl rfl rfl rfl, OpW.no rfl rfl rfl rfl rfl, OpW.plain (op_pickF (Ev.t 47 (bB false)) (Ev.c _ rfl) rfl) rfl rfl, OpW.plain (op_move (Ev.t 66 (bB false)) rfl) rfl rfl, OpW.no rfl rfl rfl rfl rfl, OpW.no rfl rfl rfl rfl rfl, OpW.no rfl rfl rfl rfl rfl, OpW.no rfl rfl rfl rfl rfl, OpW.no rfl rfl rfl rfl rfl, OpW.no rfl rfl rfl rfl rfl, OpW.no rfl rfl rfl rfl rfl, OpW.no rfl rfl rfl rfl rfl, OpW.no rfl rfl rfl rfl rfl, OpW.no rfl rfl rfl rfl rfl, OpW.no rfl rfl rfl rfl rfl, OpW.plain (op_pickF (Ev.t 67 (bB false)) (Ev.c _ rfl) rfl) rfl rfl, OpW.plain (op_assign (Ev.t 79 (bB false)) rfl) rfl rfl, trivial⟩ ⟨rfl, trivial⟩ trivial rfl ?_
        cases hF
        exact G.ret1 Try.results6 (RVar.tmp 4 _) ⟨rfl, trivial⟩ trivial
  refine G.region ?_
  refine G.op1 (op_loadAP (ds := [.v (.string r2.Key), .v (.string r2.Value), .v (.bool r2.Gone), .v (.int .i64 r2.Stamp.N), .v (.int .i64 r2.Stamp.Site), .sl 3 (List.map encApi_Dep r2.Past)]) Try.underlying26 rfl ti26 rfl (Ev.t 2 (.ptr 1002 0)) rfl) rfl ⟨rfl, trivial⟩ ⟨rfl, trivial⟩ ?_
  obtain ⟨r21, hr21, hF⟩ := bindS hF
  refine G.op1 (op_callQ (sv := .one (bB r21)) cf11 (ct_wire_Check r2 r21 hr21) rfl rfl (EvQL.cons (EvQ.g (Ev.t 14 (.g (.agg [.v (.string r2.Key), .v (.string r2.Value), .v (.bool r2.Gone), .v (.int .i64 r2.Stamp.N), .v (.int .i64 r2.Stamp.Site), .sl 3 (List.map encApi_Dep r2.Past)])))) EvQL.nil) rfl) rfl ⟨rfl, trivial⟩ trivial ?_
  refine G.op1 (op_not (Ev.t 15 (bB r21)) rfl) rfl ⟨rfl, trivial⟩ trivial ?_
  refine G.op1 (op_move (Ev.t 16 (bB (!r21))) rfl) rfl ⟨rfl, trivial⟩ trivial ?_
  refine ifS hF (fun hc22 hF => ?_) (fun hc22 hF => ?_)
  · refine G.known (t := 17) hc22 rfl ?_
    refine G.opN1 rfl rfl rfl rfl rfl ?_
    refine G.opN1 rfl rfl rfl rfl rfl ?_
    refine G.opN1 rfl rfl rfl rfl rfl ?_
    refine G.op1 (op_pickT (Ev.t 17 (bB true)) (Ev.c _ rfl) rfl) rfl ⟨rfl, trivial⟩ trivial ?_
    refine G.endOps ?_
    exact G.arr (J20 true hF) ⟨rfl, rfl, rfl, rfl, trivial⟩ ⟨rfl, rfl, trivial⟩ rfl
  · refine G.known (t := 17) hc22 rfl ?_
    refine G.opG1 (op_loadAP (ds := [.v (.string r3.Key), .v (.string r3.Value), .v (.bool r3.Gone), .v (.int .i64 r3.Stamp.N), .v (.int .i64 r3.Stamp.Site), .sl 3 (List.map encApi_Dep r3.Past)]) Try.underlying26 rfl ti26 rfl (Ev.t 3 (.ptr 1003 0)) rfl) rfl rfl rfl ⟨rfl, trivial⟩ ⟨rfl, trivial⟩ ?_
    obtain ⟨r23, hr23, hF⟩ := bindS hF
    refine G.opG1 (op_callQ (sv := .one (bB r23)) cf11 (ct_wire_Check r3 r23 hr23) rfl rfl (EvQL.cons (EvQ.g (Ev.t 18 (.g (.agg [.v (.string r3.Key), .v (.string r3.Value), .v (.bool r3.Gone), .v (.int .i64 r3.Stamp.N), .v (.int .i64 r3.Stamp.Site), .sl 3 (List.map encApi_Dep r3.Past)])))) EvQL.nil) rfl) rfl rfl rfl ⟨rfl, trivial⟩ trivial ?_
    refine G.opG1 (op_not (Ev.t 19 (bB r23)) rfl) rfl rfl rfl ⟨rfl, trivial⟩ trivial ?_
    refine G.op1 (op_pickF (Ev.t 17 (bB false)) (Ev.t 20 (bB (!r23))) rfl) rfl ⟨rfl, rfl, trivial⟩ trivial ?_
    refine G.endOps ?_
    exact G.arr (J20 (!r23) hF) ⟨rfl, rfl, rfl, rfl, trivial⟩ ⟨rfl, rfl, trivial⟩ rfl


end Go.Ark
