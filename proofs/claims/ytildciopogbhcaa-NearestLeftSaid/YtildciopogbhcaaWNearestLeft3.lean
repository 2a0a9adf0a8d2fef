/- Walks, printed by a program of mine: each function of the program computes the typed function of its name. Conditions: none. -/
import Derived.Test.YtildciopogbhcaaWNearestLeft2
namespace Go.Ark
open Go Go.Ab Go.RowKit Go.Lib Go.Proofs

set_option maxRecDepth 20000 in
set_option maxHeartbeats 2000000 in
theorem ct_law05_NearestLeft (l_0 : (List Law05_Write)) (r : Bool) (hF : law05_NearestLeft l_0 = some r) : Ct Try.prog 5 [.g (.d (.sl 3 (List.map encLaw05_Write l_0)))] (.one (.d (.v (.bool r)))) := by
  unfold law05_NearestLeft at hF
  refine Ct.intro Try.func5 rfl Try.ntmps5 rfl rfl fun M w => ?_
  refine G.seq ?_
  refine G.region ?_
  refine G.op1 (op_assign (Ev.c _ rfl) rfl) rfl trivial trivial ?_
  refine G.endOps ?_
  refine G.seq ?_
  refine G.region ?_
  obtain ⟨r1, hr1, hF⟩ := bindS hF
  refine G.op1 (op_callQ (sv := .one (bB r1)) cf9 (ct_law05_awake r1 hr1) rfl rfl EvQL.nil rfl) rfl trivial trivial ?_
  refine G.op1 (op_assign (Ev.t 19 (bB r1)) rfl) rfl ⟨rfl, trivial⟩ trivial ?_
  refine G.endOps ?_
  refine G.seq ?_
  refine G.region ?_
  refine G.op1 (op_move (Ev.t 0 (.g (.d (.sl 3 (List.map encLaw05_Write l_0))))) rfl) rfl ⟨rfl, trivial⟩ trivial ?_
  obtain ⟨r2, hr2, hF⟩ := bindS hF
  refine G.op1 (op_call (sv := .one (.g (.d (.sl 6 (List.map encApi_Version r2))))) cf10 (ct_law05_made l_0 r2 hr2) rfl (EvL.cons (Ev.t 20 (.g (.d (.sl 3 (List.map encLaw05_Write l_0))))) EvL.nil) rfl) rfl ⟨rfl, trivial⟩ trivial ?_
  refine G.op1 (op_assign (Ev.t 21 (.g (.d (.sl 6 (List.map encApi_Version r2))))) rfl) rfl ⟨rfl, trivial⟩ trivial ?_
  refine G.endOps ?_
  refine G.seq ?_
  refine G.region ?_
  refine G.op1 (op_move (Ev.t 4 (.g (.d (.sl 6 (List.map encApi_Version r2))))) rfl) rfl ⟨rfl, trivial⟩ trivial ?_
  obtain ⟨r3, hr3, hF⟩ := bindS hF
  refine G.op1 (op_call (sv := .one (.g (.d (.sl 3 (List.map encApi_Dep r3))))) cf12 (ct_law05_all r2 r3 hr3) rfl (EvL.cons (Ev.t 22 (.g (.d (.sl 6 (List.map encApi_Version r2))))) EvL.nil) rfl) rfl ⟨rfl, trivial⟩ trivial ?_
  refine G.op1 (op_assign (Ev.t 23 (.g (.d (.sl 3 (List.map encApi_Dep r3))))) rfl) rfl ⟨rfl, trivial⟩ trivial ?_
  refine G.endOps ?_
  refine G.seq ?_
  refine G.region ?_
  refine G.op1 (op_move (Ev.t 5 (.g (.d (.sl 3 (List.map encApi_Dep r3))))) rfl) rfl ⟨rfl, trivial⟩ trivial ?_
  refine G.op1 (op_move (Ev.t 4 (.g (.d (.sl 6 (List.map encApi_Version r2))))) rfl) rfl ⟨rfl, trivial⟩ trivial ?_
  obtain ⟨r4, hr4, hF⟩ := bindS hF
  refine G.op1 (op_call (sv := .one (.g (.d (.sl 3 (List.map encApi_Dep r4))))) cf14 (ct_nearest_Reduce r3 r2 r4 hr4) rfl (EvL.cons (Ev.t 24 (.g (.d (.sl 3 (List.map encApi_Dep r3))))) (EvL.cons (Ev.t 25 (.g (.d (.sl 6 (List.map encApi_Version r2))))) EvL.nil)) rfl) rfl ⟨rfl, rfl, trivial⟩ trivial ?_
  refine G.op1 (op_assign (Ev.t 26 (.g (.d (.sl 3 (List.map encApi_Dep r4))))) rfl) rfl ⟨rfl, trivial⟩ trivial ?_
  refine G.endOps ?_
  refine G.seq ?_
  refine G.seq ?_
  refine G.region ?_
  refine G.op1 (op_assign (Ev.c _ rfl) rfl) rfl trivial trivial ?_
  refine G.endOps ?_
  refine G.joinC (T := Unit) (fun y5 => ⟨[(3, .one (bB r1)), (4, .one (.g (.d (.sl 6 (List.map encApi_Version r2))))), (5, .one (.g (.d (.sl 3 (List.map encApi_Dep r3))))), (6, .one (.g (.d (.sl 3 (List.map encApi_Dep r4)))))], []⟩) (fun y5 => law05_NearestLeft_k1 r1 r2 r3 r4 y5 = some r) (fun y5 hF => ?_) (fun J35 => ?_)
  · unfold law05_NearestLeft_k1 at hF
    refine G.seq ?_
    refine G.seq ?_
    refine G.region ?_
    refine G.op1 (op_assign (Ev.c _ rfl) rfl) rfl trivial trivial ?_
    refine G.endOps ?_
    refine G.joinC (T := Unit) (fun y6 => ⟨[(3, .one (bB r1))], []⟩) (fun y6 => law05_NearestLeft_k2 r1 y6 = some r) (fun y6 hF => ?_) (fun J7 => ?_)
    · unfold law05_NearestLeft_k2 at hF
      refine G.seq ?_
      refine G.region ?_
      refine G.op1 (op_move (Ev.t 3 (bB r1)) rfl) rfl ⟨rfl, trivial⟩ trivial ?_
      refine G.op1 (op_assign (Ev.t 133 (bB r1)) rfl) rfl ⟨rfl, trivial⟩ trivial ?_
      refine G.endOps ?_
      cases hF
      exact G.ret1 Try.results5 (RVar.tmp 2 _) ⟨rfl, trivial⟩ trivial
    refine G.block ?_
    refine G.keep (sl' := [(3, .one (bB r1)), (4, .one (.g (.d (.sl 6 (List.map encApi_Version r2))))), (5, .one (.g (.d (.sl 3 (List.map encApi_Dep r3))))), (6, .one (.g (.d (.sl 3 (List.map encApi_Dep r4))))), (12, .one (bI .i64 0))]) (hp' := []) ⟨rfl, rfl, rfl, rfl, rfl, trivial⟩ trivial rfl ?_
    refine G.loopF (fun (v8 : Int) => ⟨[(3, .one (bB r1)), (4, .one (.g (.d (.sl 6 (List.map encApi_Version r2))))), (5, .one (.g (.d (.sl 3 (List.map encApi_Dep r3))))), (6, .one (.g (.d (.sl 3 (List.map encApi_Dep r4))))), (12, .one (bI .i64 v8))], []⟩) hF rfl (fun K11 again10 v8 J9 hF => ?_)
    unfold law05_NearestLeft_l3 at hF
    refine G.seq ?_
    refine G.seq ?_
    refine G.region ?_
    refine G.op1 (op_move (Ev.t 12 (bI .i64 v8)) rfl) rfl ⟨rfl, trivial⟩ trivial ?_
    refine G.op1 (op_move (Ev.t 5 (.g (.d (.sl 3 (List.map encApi_Dep r3))))) rfl) rfl ⟨rfl, trivial⟩ trivial ?_
    refine G.op1 (OpL.cast (op_lenD Try.underlying29 (Ev.t 73 (.g (.d (.sl 3 (List.map encApi_Dep r3))))) rfl) (by rw [List.length_map])) rfl ⟨rfl, trivial⟩ trivial ?_
    refine G.op1 (op_lss (Ev.t 72 (bI .i64 v8)) (Ev.t 74 (bI .i64 (r3.length : Int))) rfl) rfl ⟨rfl, rfl, trivial⟩ trivial ?_
    refine G.endOps ?_
    refine ifS hF (fun hc12 hF => ?_) (fun hc12 hF => ?_)
    · refine G.cond rfl (fun _ => ?_) (fun hx => by rw [hc12] at hx; cases hx)
      refine G.skip ?_
      refine G.seq ?_
      refine G.joinC (T := Unit) (fun y13 => ⟨[(3, .one (bB r1)), (4, .one (.g (.d (.sl 6 (List.map encApi_Version r2))))), (5, .one (.g (.d (.sl 3 (List.map encApi_Dep r3))))), (6, .one (.g (.d (.sl 3 (List.map encApi_Dep r4))))), (12, .one (bI .i64 v8))], []⟩) (fun y13 => law05_NearestLeft_k4 again10 v8 y13 = some r) (fun y13 hF => ?_) (fun J14 => ?_)
      · unfold law05_NearestLeft_k4 at hF
        refine G.region ?_
        refine G.op1 (op_move (Ev.t 12 (bI .i64 v8)) rfl) rfl ⟨rfl, trivial⟩ trivial ?_
        refine G.op1 (op_add (Ev.t 76 (bI .i64 v8)) (Ev.c _ rfl) rfl) rfl ⟨rfl, trivial⟩ trivial ?_
        refine G.op1 (op_assign (Ev.t 77 (bI .i64 (IntKind.wrap .i64 (v8 + 1)))) rfl) rfl ⟨rfl, trivial⟩ trivial ?_
        refine G.endOps ?_
        exact G.arr (J9 (IntKind.wrap .i64 (v8 + 1)) hF) ⟨rfl, rfl, rfl, rfl, rfl, trivial⟩ trivial rfl
      refine G.block ?_
      refine G.seq ?_
      obtain ⟨x15, hx15, hF⟩ := bindS hF
      obtain ⟨r16, hr16, hF⟩ := bindS hF
      obtain ⟨x17, hx17, hF⟩ := bindS hF
      refine G.drawn (effs := [⟨[(6, .one (.g (.d (.sl 3 (List.map encApi_Dep r4)))))], [], [(78, .one (.g (.d (.sl 3 (List.map encApi_Dep r4)))))], []⟩, ⟨[(5, .one (.g (.d (.sl 3 (List.map encApi_Dep r3)))))], [], [(79, .one (.g (.d (.sl 3 (List.map encApi_Dep r3)))))], []⟩, ⟨[(12, .one (bI .i64 v8))], [], [(80, .one (bI .i64 v8))], []⟩, ⟨[(79, .one (.g (.d (.sl 3 (List.map encApi_Dep r3))))), (80, .one (bI .i64 v8))], [], [(81, .one (.ep [.v (.string x15.Key), .v (.int .i64 x15.Stamp.N), .v (.int .i64 x15.Stamp.Site)]))], []⟩, ⟨[(81, .one (.ep [.v (.string x15.Key), .v (.int .i64 x15.Stamp.N), .v (.int .i64 x15.Stamp.Site)]))], [], [(82, .one (.ep [.v (.string x15.Key), .v (.int .i64 x15.Stamp.N), .v (.int .i64 x15.Stamp.Site)]))], []⟩, ⟨[(82, .one (.ep [.v (.string x15.Key), .v (.int .i64 x15.Stamp.N), .v (.int .i64 x15.Stamp.Site)]))], [], [(83, .one (bS x15.Key))], []⟩, ⟨[(78, .one (.g (.d (.sl 3 (List.map encApi_Dep r4))))), (83, .one (bS x15.Key))], [], [(84, .one (.g (.agg [.v (.int .i64 r16.N), .v (.int .i64 r16.Site)])))], []⟩, ⟨[(5, .one (.g (.d (.sl 3 (List.map encApi_Dep r3)))))], [], [(85, .one (.g (.d (.sl 3 (List.map encApi_Dep r3)))))], []⟩, ⟨[(12, .one (bI .i64 v8))], [], [(86, .one (bI .i64 v8))], []⟩, ⟨[(85, .one (.g (.d (.sl 3 (List.map encApi_Dep r3))))), (86, .one (bI .i64 v8))], [], [(87, .one (.ep [.v (.string x17.Key), .v (.int .i64 x17.Stamp.N), .v (.int .i64 x17.Stamp.Site)]))], []⟩, ⟨[(87, .one (.ep [.v (.string x17.Key), .v (.int .i64 x17.Stamp.N), .v (.int .i64 x17.Stamp.Site)]))], [], [(88, .one (.ep [.v (.int .i64 x17.Stamp.N), .v (.int .i64 x17.Stamp.Site)]))], []⟩, ⟨[(88, .one (.ep [.v (.int .i64 x17.Stamp.N), .v (.int .i64 x17.Stamp.Site)]))], [], [(89, .one (.g (.agg [.v (.int .i64 x17.Stamp.N), .v (.int .i64 x17.Stamp.Site)])))], []⟩, ⟨[(84, .one (.g (.agg [.v (.int .i64 r16.N), .v (.int .i64 r16.Site)]))), (89, .one (.g (.agg [.v (.int .i64 x17.Stamp.N), .v (.int .i64 x17.Stamp.Site)])))], [], [(90, .one (bB (decide (r16.N = x17.Stamp.N) && decide (r16.Site = x17.Stamp.Site))))], []⟩, ⟨[(90, .one (bB (decide (r16.N = x17.Stamp.N) && decide (r16.Site = x17.Stamp.Site))))], [], [(13, .one (bB (decide (r16.N = x17.Stamp.N) && decide (r16.Site = x17.Stamp.Site))))], []⟩]) (deps := [[], [], [], [1, 2], [1, 2, 3], [1, 2, 3, 4], [0, 1, 2, 3, 4, 5], [], [], [7, 8], [7, 8, 9], [7, 8, 9, 10], [0, 1, 2, 3, 4, 5, 6, 7, 8, 9, 10, 11], [0, 1, 2, 3, 4, 5, 6, 7, 8, 9, 10, 11, 12]]) (sl' := [(3, .one (bB r1)), (4, .one (.g (.d (.sl 6 (List.map encApi_Version r2))))), (5, .one (.g (.d (.sl 3 (List.map encApi_Dep r3))))), (6, .one (.g (.d (.sl 3 (List.map encApi_Dep r4))))), (12, .one (bI .i64 v8)), (13, .one (bB (decide (r16.N = x17.Stamp.N) && decide (r16.Site = x17.Stamp.Site))))]) (hp' := []) follows rfl rfl rfl ⟨⟨rfl, trivial⟩, trivial, ⟨rfl, trivial⟩, trivial, ⟨rfl, trivial⟩, trivial, ⟨rfl, rfl, trivial⟩, trivial, ⟨rfl, trivial⟩, trivial, ⟨rfl, trivial⟩, trivial, ⟨rfl, rfl, trivial⟩, trivial, ⟨rfl, trivial⟩, trivial, ⟨rfl, trivial⟩, trivial, ⟨rfl, rfl, trivial⟩, trivial, ⟨rfl, trivial⟩, trivial, ⟨rfl, trivial⟩, trivial, ⟨rfl, rfl, trivial⟩, trivial, ⟨rfl, trivial⟩, trivial, trivial⟩ ⟨OpW.plain (op_move (Ev.t 6 (.g (.d (.sl 3 (List.map encApi_Dep r4))))) rfl) rfl rfl, OpW.plain (op_move (Ev.t 5 (.g (.d (.sl 3 (List.map encApi_Dep r3))))) rfl) rfl rfl, OpW.plain (op_move (Ev.t 12 (bI .i64 v8)) rfl) rfl rfl, OpW.plain (op_index (cs := [.v (.string x15.Key), .v (.int .i64 x15.Stamp.N), .v (.int .i64 x15.Stamp.Site)]) Try.underlying29 ti26 (idx_ok hx15).1 (idx_get hx15 encApi_Dep) (Ev.t 79 (.g (.d (.sl 3 (List.map encApi_Dep r3))))) (Ev.t 80 (bI .i64 v8)) rfl) rfl rfl, OpW.plain (op_fieldE (cs' := [.v (.string x15.Key), .v (.int .i64 x15.Stamp.N), .v (.int .i64 x15.Stamp.Site)]) Try.underlying26 rfl ti9 (by decide) rfl (Ev.t 81 (.ep [.v (.string x15.Key), .v (.int .i64 x15.Stamp.N), .v (.int .i64 x15.Stamp.Site)])) rfl) rfl rfl, OpW.plain (op_load1E (c := .v (.string x15.Key)) Try.underlying9 rfl rfl (Ev.t 82 (.ep [.v (.string x15.Key), .v (.int .i64 x15.Stamp.N), .v (.int .i64 x15.Stamp.Site)])) rfl) rfl rfl, OpW.plain (op_callQ (sv := .one (.g (.agg [.v (.int .i64 r16.N), .v (.int .i64 r16.Site)]))) cf24 (ct_ref04_Get r4 x15.Key r16 hr16) rfl rfl (EvQL.cons (EvQ.g (Ev.t 78 (.g (.d (.sl 3 (List.map encApi_Dep r4)))))) (EvQL.cons (EvQ.g (Ev.t 83 (bS x15.Key))) EvQL.nil)) rfl) rfl rfl, OpW.plain (op_move (Ev.t 5 (.g (.d (.sl 3 (List.map encApi_Dep r3))))) rfl) rfl rfl, OpW.plain (op_move (Ev.t 12 (bI .i64 v8)) rfl) rfl rfl, OpW.plain (op_index (cs := [.v (.string x17.Key), .v (.int .i64 x17.Stamp.N), .v (.int .i64 x17.Stamp.Site)]) Try.underlying29 ti26 (idx_ok hx17).1 (idx_get hx17 encApi_Dep) (Ev.t 85 (.g (.d (.sl 3 (List.map encApi_Dep r3))))) (Ev.t 86 (bI .i64 v8)) rfl) rfl rfl, OpW.plain (op_fieldE (cs' := [.v (.int .i64 x17.Stamp.N), .v (.int .i64 x17.Stamp.Site)]) Try.underlying26 rfl ti24 (by decide) rfl (Ev.t 87 (.ep [.v (.string x17.Key), .v (.int .i64 x17.Stamp.N), .v (.int .i64 x17.Stamp.Site)])) rfl) rfl rfl, OpW.plain (op_loadAE (ds := [.v (.int .i64 x17.Stamp.N), .v (.int .i64 x17.Stamp.Site)]) Try.underlying24 rfl ti24 rfl (Ev.t 88 (.ep [.v (.int .i64 x17.Stamp.N), .v (.int .i64 x17.Stamp.Site)])) rfl) rfl rfl, OpW.plain (op_eqA (us := [.int .i64 r16.N, .int .i64 r16.Site]) (vs := [.int .i64 x17.Stamp.N, .int .i64 x17.Stamp.Site]) rfl rfl Try.eqGuardType24 (fun w => eq24 r16.N r16.Site x17.Stamp.N x17.Stamp.Site w) (Ev.t 84 (.g (.agg [.v (.int .i64 r16.N), .v (.int .i64 r16.Site)]))) (Ev.t 89 (.g (.agg [.v (.int .i64 x17.Stamp.N), .v (.int .i64 x17.Stamp.Site)]))) rfl) rfl rfl, OpW.plain (op_assign (Ev.t 90 (bB (decide (r16.N = x17.Stamp.N) && decide (r16.Site = x17.Stamp.Site)))) rfl) rfl rfl, trivial⟩ ⟨rfl, rfl, rfl, rfl, rfl, rfl, trivial⟩ trivial rfl ?_
      refine G.seq ?_
      refine G.region ?_
      refine G.op1 (op_assign (Ev.c _ rfl) rfl) rfl trivial trivial ?_
      refine G.endOps ?_
      refine G.seq ?_
      refine G.seq ?_
      refine G.region ?_
      refine G.op1 (op_assign (Ev.c _ rfl) rfl) rfl trivial trivial ?_
      refine G.endOps ?_
      refine G.joinC (T := Bool) (fun y18 => ⟨[(3, .one (bB r1)), (4, .one (.g (.d (.sl 6 (List.map encApi_Version r2))))), (5, .one (.g (.d (.sl 3 (List.map encApi_Dep r3))))), (6, .one (.g (.d (.sl 3 (List.map encApi_Dep r4))))), (12, .one (bI .i64 v8)), (13, .one (bB (decide (r16.N = x17.Stamp.N) && decide (r16.Site = x17.Stamp.Site)))), (14, .one (bB y18))], []⟩) (fun y18 => law05_NearestLeft_k5 again10 v8 r16 x17 y18 = some r) (fun y18 hF => ?_) (fun J20 => ?_)
      · unfold law05_NearestLeft_k5 at hF
        refine G.seq ?_
        refine G.region ?_
        refine G.op1 (op_move (Ev.t 13 (bB (decide (r16.N = x17.Stamp.N) && decide (r16.Site = x17.Stamp.Site)))) rfl) rfl ⟨rfl, trivial⟩ trivial ?_
        refine G.op1 (op_move (Ev.t 14 (bB y18)) rfl) rfl ⟨rfl, trivial⟩ trivial ?_
        refine G.op1 (op_eqB Try.underlying4 (Ev.t 130 (bB (decide (r16.N = x17.Stamp.N) && decide (r16.Site = x17.Stamp.Site)))) (Ev.t 131 (bB y18)) rfl) rfl ⟨rfl, rfl, trivial⟩ trivial ?_
        refine G.endOps ?_
        refine ifS hF (fun hc19 hF => ?_) (fun hc19 hF => ?_)
        · refine G.cond rfl (fun _ => ?_) (fun hx => by rw [hc19] at hx; cases hx)
          refine G.seq ?_
          refine G.region ?_
          refine G.op1 (op_assign (Ev.c _ rfl) rfl) rfl trivial trivial ?_
          refine G.endOps ?_
          cases hF
          exact G.ret1 Try.results5 (RVar.tmp 2 _) ⟨rfl, trivial⟩ trivial
        · refine G.cond rfl (fun hx => by rw [hc19] at hx; cases hx) (fun _ => ?_)
          refine G.skip ?_
          refine G.endBlock ?_
          exact G.arr (J14 () hF) ⟨rfl, rfl, rfl, rfl, rfl, trivial⟩ trivial rfl
      refine G.block ?_
      refine G.keep (sl' := [(3, .one (bB r1)), (4, .one (.g (.d (.sl 6 (List.map encApi_Version r2))))), (5, .one (.g (.d (.sl 3 (List.map encApi_Dep r3))))), (6, .one (.g (.d (.sl 3 (List.map encApi_Dep r4))))), (12, .one (bI .i64 v8)), (13, .one (bB (decide (r16.N = x17.Stamp.N) && decide (r16.Site = x17.Stamp.Site)))), (14, .one (bB false)), (15, .one (bI .i64 0))]) (hp' := []) ⟨rfl, rfl, rfl, rfl, rfl, rfl, rfl, rfl, trivial⟩ trivial rfl ?_
      refine G.loopF (fun (v21 : Bool × Int) => ⟨[(3, .one (bB r1)), (4, .one (.g (.d (.sl 6 (List.map encApi_Version r2))))), (5, .one (.g (.d (.sl 3 (List.map encApi_Dep r3))))), (6, .one (.g (.d (.sl 3 (List.map encApi_Dep r4))))), (12, .one (bI .i64 v8)), (13, .one (bB (decide (r16.N = x17.Stamp.N) && decide (r16.Site = x17.Stamp.Site)))), (14, .one (bB v21.1)), (15, .one (bI .i64 v21.2))], []⟩) hF rfl (fun K24 again23 v21 J22 hF => ?_)
      unfold law05_NearestLeft_l6 at hF
      refine G.seq ?_
      refine G.seq ?_
      refine G.region ?_
      refine G.op1 (op_move (Ev.t 15 (bI .i64 v21.2)) rfl) rfl ⟨rfl, trivial⟩ trivial ?_
      refine G.op1 (op_move (Ev.t 5 (.g (.d (.sl 3 (List.map encApi_Dep r3))))) rfl) rfl ⟨rfl, trivial⟩ trivial ?_
      refine G.op1 (OpL.cast (op_lenD Try.underlying29 (Ev.t 92 (.g (.d (.sl 3 (List.map encApi_Dep r3))))) rfl) (by rw [List.length_map])) rfl ⟨rfl, trivial⟩ trivial ?_
      refine G.op1 (op_lss (Ev.t 91 (bI .i64 v21.2)) (Ev.t 93 (bI .i64 (r3.length : Int))) rfl) rfl ⟨rfl, rfl, trivial⟩ trivial ?_
      refine G.endOps ?_
      refine ifS hF (fun hc25 hF => ?_) (fun hc25 hF => ?_)
      · refine G.cond rfl (fun _ => ?_) (fun hx => by rw [hc25] at hx; cases hx)
        refine G.skip ?_
        refine G.seq ?_
        refine G.block ?_
        refine G.seq ?_
        refine G.region ?_
        refine G.op1 (op_move (Ev.t 4 (.g (.d (.sl 6 (List.map encApi_Version r2))))) rfl) rfl ⟨rfl, trivial⟩ trivial ?_
        refine G.op1 (op_move (Ev.t 5 (.g (.d (.sl 3 (List.map encApi_Dep r3))))) rfl) rfl ⟨rfl, trivial⟩ trivial ?_
        refine G.op1 (op_move (Ev.t 15 (bI .i64 v21.2)) rfl) rfl ⟨rfl, trivial⟩ trivial ?_
        obtain ⟨x26, hx26, hF⟩ := bindS hF
        refine G.op1 (op_index (cs := [.v (.string x26.Key), .v (.int .i64 x26.Stamp.N), .v (.int .i64 x26.Stamp.Site)]) Try.underlying29 ti26 (idx_ok hx26).1 (idx_get hx26 encApi_Dep) (Ev.t 99 (.g (.d (.sl 3 (List.map encApi_Dep r3))))) (Ev.t 100 (bI .i64 v21.2)) rfl) rfl ⟨rfl, rfl, trivial⟩ trivial ?_
        refine G.op1 (op_loadAE (ds := [.v (.string x26.Key), .v (.int .i64 x26.Stamp.N), .v (.int .i64 x26.Stamp.Site)]) Try.underlying26 rfl ti26 rfl (Ev.t 101 (.ep [.v (.string x26.Key), .v (.int .i64 x26.Stamp.N), .v (.int .i64 x26.Stamp.Site)])) rfl) rfl ⟨rfl, trivial⟩ trivial ?_
        obtain ⟨r27, hr27, hF⟩ := bindS hF
        refine G.op1 (op_call (sv := .tup [.g (.agg [.v (.string r27.1.Key), .v (.string r27.1.Value), .v (.bool r27.1.Gone), .v (.int .i64 r27.1.Stamp.N), .v (.int .i64 r27.1.Stamp.Site), .sl 3 (List.map encApi_Dep r27.1.Past)]), bB r27.2]) cf18 (ct_nearest_Find r2 x26 r27 hr27) rfl (EvL.cons (Ev.t 98 (.g (.d (.sl 6 (List.map encApi_Version r2))))) (EvL.cons (Ev.t 102 (.g (.agg [.v (.string x26.Key), .v (.int .i64 x26.Stamp.N), .v (.int .i64 x26.Stamp.Site)]))) EvL.nil)) rfl) rfl ⟨rfl, rfl, trivial⟩ trivial ?_
        refine G.op1 (op_moveS (t := 103) (sv := .tup [.g (.agg [.v (.string r27.1.Key), .v (.string r27.1.Value), .v (.bool r27.1.Gone), .v (.int .i64 r27.1.Stamp.N), .v (.int .i64 r27.1.Stamp.Site), .sl 3 (List.map encApi_Dep r27.1.Past)]), bB r27.2]) rfl) rfl ⟨rfl, trivial⟩ trivial ?_
        refine G.op1 (op_extract (l := [.g (.agg [.v (.string r27.1.Key), .v (.string r27.1.Value), .v (.bool r27.1.Gone), .v (.int .i64 r27.1.Stamp.N), .v (.int .i64 r27.1.Stamp.Site), .sl 3 (List.map encApi_Dep r27.1.Past)]), bB r27.2]) (c := .g (.agg [.v (.string r27.1.Key), .v (.string r27.1.Value), .v (.bool r27.1.Gone), .v (.int .i64 r27.1.Stamp.N), .v (.int .i64 r27.1.Stamp.Site), .sl 3 (List.map encApi_Dep r27.1.Past)])) rfl rfl) rfl ⟨rfl, trivial⟩ trivial ?_
        refine G.op1 (op_extract (l := [.g (.agg [.v (.string r27.1.Key), .v (.string r27.1.Value), .v (.bool r27.1.Gone), .v (.int .i64 r27.1.Stamp.N), .v (.int .i64 r27.1.Stamp.Site), .sl 3 (List.map encApi_Dep r27.1.Past)]), bB r27.2]) (c := bB r27.2) rfl rfl) rfl ⟨rfl, trivial⟩ trivial ?_
        refine G.op2 (op_alloc (k := 1016) (cs := [bS ByteArray.empty, bS ByteArray.empty, bB false, bI .i64 0, bI .i64 0, .g (.d (.sl 3 (List.map encApi_Dep ([] : (List Api_Dep)))))]) ti34 ⟨.v _ rfl, .v _ rfl, .v _ rfl, .v _ rfl, .v _ rfl, .n 3, trivial⟩ rfl) rfl trivial ⟨rfl, trivial⟩ ?_
        refine G.op3 (op_storeA (cs' := [bS r27.1.Key, bS r27.1.Value, bB r27.1.Gone, bI .i64 r27.1.Stamp.N, bI .i64 r27.1.Stamp.Site, .g (.d (.sl 3 (List.map encApi_Dep r27.1.Past)))]) ti34 rfl rfl (Ev.t 16 (.ptr 1016 0)) (Ev.t 104 (.g (.agg [.v (.string r27.1.Key), .v (.string r27.1.Value), .v (.bool r27.1.Gone), .v (.int .i64 r27.1.Stamp.N), .v (.int .i64 r27.1.Stamp.Site), .sl 3 (List.map encApi_Dep r27.1.Past)])))) rfl ⟨rfl, rfl, trivial⟩ ⟨rfl, trivial⟩ ?_
        refine G.op1 (op_assign (Ev.t 105 (bB r27.2)) rfl) rfl ⟨rfl, trivial⟩ trivial ?_
        refine G.endOps ?_
        refine G.seq ?_
        obtain ⟨x28, hx28, hF⟩ := bindS hF
        obtain ⟨r29, hr29, hF⟩ := bindS hF
        refine G.drawn (effs := [⟨[(16, .one (.ptr 1016 0))], [], [(106, .one (.ptr 1016 5))], []⟩, ⟨[(106, .one (.ptr 1016 5))], [(1016, some (.blk 34 [bS r27.1.Key, bS r27.1.Value, bB r27.1.Gone, bI .i64 r27.1.Stamp.N, bI .i64 r27.1.Stamp.Site, .g (.d (.sl 3 (List.map encApi_Dep r27.1.Past)))]))], [(107, .one (.g (.d (.sl 3 (List.map encApi_Dep r27.1.Past)))))], []⟩, ⟨[(5, .one (.g (.d (.sl 3 (List.map encApi_Dep r3)))))], [], [(108, .one (.g (.d (.sl 3 (List.map encApi_Dep r3)))))], []⟩, ⟨[(12, .one (bI .i64 v8))], [], [(109, .one (bI .i64 v8))], []⟩, ⟨[(108, .one (.g (.d (.sl 3 (List.map encApi_Dep r3))))), (109, .one (bI .i64 v8))], [], [(110, .one (.ep [.v (.string x28.Key), .v (.int .i64 x28.Stamp.N), .v (.int .i64 x28.Stamp.Site)]))], []⟩, ⟨[(110, .one (.ep [.v (.string x28.Key), .v (.int .i64 x28.Stamp.N), .v (.int .i64 x28.Stamp.Site)]))], [], [(111, .one (.ep [.v (.string x28.Key), .v (.int .i64 x28.Stamp.N), .v (.int .i64 x28.Stamp.Site)]))], []⟩, ⟨[(111, .one (.ep [.v (.string x28.Key), .v (.int .i64 x28.Stamp.N), .v (.int .i64 x28.Stamp.Site)]))], [], [(112, .one (bS x28.Key))], []⟩, ⟨[(107, .one (.g (.d (.sl 3 (List.map encApi_Dep r27.1.Past))))), (112, .one (bS x28.Key))], [], [(113, .one (.g (.agg [.v (.int .i64 r29.N), .v (.int .i64 r29.Site)])))], []⟩, ⟨[], [(1018, none)], [(18, .one (.ptr 1018 0))], [(1018, some (.blk 24 [bI .i64 0, bI .i64 0]))]⟩, ⟨[(18, .one (.ptr 1018 0)), (113, .one (.g (.agg [.v (.int .i64 r29.N), .v (.int .i64 r29.Site)])))], [(1018, some (.blk 24 [bI .i64 0, bI .i64 0]))], [], [(1018, some (.blk 24 [bI .i64 r29.N, bI .i64 r29.Site]))]⟩]) (deps := [[], [0], [], [], [2, 3], [2, 3, 4], [2, 3, 4, 5], [0, 1, 2, 3, 4, 5, 6], [], [0, 1, 2, 3, 4, 5, 6, 7, 8]]) (sl' := [(3, .one (bB r1)), (4, .one (.g (.d (.sl 6 (List.map encApi_Version r2))))), (5, .one (.g (.d (.sl 3 (List.map encApi_Dep r3))))), (6, .one (.g (.d (.sl 3 (List.map encApi_Dep r4))))), (12, .one (bI .i64 v8)), (13, .one (bB (decide (r16.N = x17.Stamp.N) && decide (r16.Site = x17.Stamp.Site)))), (14, .one (bB v21.1)), (15, .one (bI .i64 v21.2)), (17, .one (bB r27.2)), (18, .one (.ptr 1018 0))]) (hp' := [(1018, some (.blk 24 [bI .i64 r29.N, bI .i64 r29.Site]))]) follows rfl rfl rfl ⟨⟨rfl, trivial⟩, trivial, ⟨rfl, trivial⟩, ⟨⟨rfl, rfl⟩, trivial⟩, ⟨rfl, trivial⟩, trivial, ⟨rfl, trivial⟩, trivial, ⟨rfl, rfl, trivial⟩, trivial, ⟨rfl, trivial⟩, trivial, ⟨rfl, trivial⟩, trivial, ⟨rfl, rfl, trivial⟩, trivial, trivial, ⟨⟨rfl, rfl⟩, trivial⟩, ⟨rfl, rfl, trivial⟩, ⟨⟨rfl, rfl⟩, trivial⟩, trivial⟩ ⟨OpW.plain (op_fieldP (off' := 5) Try.underlying34 rfl ti29 (by decide) rfl (Ev.t 16 (.ptr 1016 0)) rfl) rfl rfl, OpW.plain (op_load1P (c := .g (.d (.sl 3 (List.map encApi_Dep r27.1.Past)))) Try.underlying29 rfl rfl (Ev.t 106 (.ptr 1016 5)) rfl) rfl rfl, OpW.plain (op_move (Ev.t 5 (.g (.d (.sl 3 (List.map encApi_Dep r3))))) rfl) rfl rfl, OpW.plain (op_move (Ev.t 12 (bI .i64 v8)) rfl) rfl rfl, OpW.plain (op_index (cs := [.v (.string x28.Key), .v (.int .i64 x28.Stamp.N), .v (.int .i64 x28.Stamp.Site)]) Try.underlying29 ti26 (idx_ok hx28).1 (idx_get hx28 encApi_Dep) (Ev.t 108 (.g (.d (.sl 3 (List.map encApi_Dep r3))))) (Ev.t 109 (bI .i64 v8)) rfl) rfl rfl, OpW.plain (op_fieldE (cs' := [.v (.string x28.Key), .v (.int .i64 x28.Stamp.N), .v (.int .i64 x28.Stamp.Site)]) Try.underlying26 rfl ti9 (by decide) rfl (Ev.t 110 (.ep [.v (.string x28.Key), .v (.int .i64 x28.Stamp.N), .v (.int .i64 x28.Stamp.Site)])) rfl) rfl rfl, OpW.plain (op_load1E (c := .v (.string x28.Key)) Try.underlying9 rfl rfl (Ev.t 111 (.ep [.v (.string x28.Key), .v (.int .i64 x28.Stamp.N), .v (.int .i64 x28.Stamp.Site)])) rfl) rfl rfl, OpW.plain (op_callQ (sv := .one (.g (.agg [.v (.int .i64 r29.N), .v (.int .i64 r29.Site)]))) cf24 (ct_ref04_Get r27.1.Past x28.Key r29 hr29) rfl rfl (EvQL.cons (EvQ.g (Ev.t 107 (.g (.d (.sl 3 (List.map encApi_Dep r27.1.Past)))))) (EvQL.cons (EvQ.g (Ev.t 112 (bS x28.Key))) EvQL.nil)) rfl) rfl rfl, OpW.plain (op_alloc (k := 1018) (cs := [bI .i64 0, bI .i64 0]) ti24 ⟨.v _ rfl, .v _ rfl, trivial⟩ rfl) rfl rfl, OpW.plain (op_storeA (cs' := [bI .i64 r29.N, bI .i64 r29.Site]) ti24 rfl rfl (Ev.t 18 (.ptr 1018 0)) (Ev.t 113 (.g (.agg [.v (.int .i64 r29.N), .v (.int .i64 r29.Site)])))) rfl rfl, trivial⟩ ⟨rfl, rfl, rfl, rfl, rfl, rfl, rfl, rfl, rfl, rfl, trivial⟩ ⟨rfl, trivial⟩ rfl ?_
        refine G.seq ?_
        refine ifS hF (fun hc30 hF => ?_) (fun hc30 hF => ?_)
        · refine ifS hF (fun hc31 hF => ?_) (fun hc31 hF => ?_)
          · refine G.known (t := 17) (c := true) hc31 rfl ?_
            obtain ⟨x32, hx32, hF⟩ := bindS hF
            obtain ⟨r33, hr33, hF⟩ := bindS hF
            refine G.drawn (effs := [⟨[(15, .one (bI .i64 v21.2))], [], [(114, .one (bI .i64 v21.2))], []⟩, ⟨[(12, .one (bI .i64 v8))], [], [(115, .one (bI .i64 v8))], []⟩, ⟨[(114, .one (bI .i64 v21.2)), (115, .one (bI .i64 v8))], [], [(116, .one (bB true))], []⟩, ⟨[(116, .one (bB true))], [], [(117, .one (bB true))], []⟩, ⟨[(117, .one (bB true)), (17, .one (bB true))], [], [(118, .one (bB true))], []⟩, ⟨[(117, .one (bB true)), (118, .one (bB true))], [], [(119, .one (bB true))], []⟩, ⟨[(119, .one (bB true))], [], [(120, .one (bB true))], []⟩, ⟨[(120, .one (bB true)), (18, .one (.ptr 1018 0))], [(1018, some (.blk 24 [bI .i64 r29.N, bI .i64 r29.Site]))], [(121, .one (.g (.agg [.v (.int .i64 r29.N), .v (.int .i64 r29.Site)])))], []⟩, ⟨[(120, .one (bB true)), (5, .one (.g (.d (.sl 3 (List.map encApi_Dep r3)))))], [], [(122, .one (.g (.d (.sl 3 (List.map encApi_Dep r3)))))], []⟩, ⟨[(120, .one (bB true)), (12, .one (bI .i64 v8))], [], [(123, .one (bI .i64 v8))], []⟩, ⟨[(120, .one (bB true)), (122, .one (.g (.d (.sl 3 (List.map encApi_Dep r3))))), (123, .one (bI .i64 v8))], [], [(124, .one (.ep [.v (.string x32.Key), .v (.int .i64 x32.Stamp.N), .v (.int .i64 x32.Stamp.Site)]))], []⟩, ⟨[(120, .one (bB true)), (124, .one (.ep [.v (.string x32.Key), .v (.int .i64 x32.Stamp.N), .v (.int .i64 x32.Stamp.Site)]))], [], [(125, .one (.ep [.v (.int .i64 x32.Stamp.N), .v (.int .i64 x32.Stamp.Site)]))], []⟩, ⟨[(120, .one (bB true)), (125, .one (.ep [.v (.int .i64 x32.Stamp.N), .v (.int .i64 x32.Stamp.Site)]))], [], [(126, .one (.g (.agg [.v (.int .i64 x32.Stamp.N), .v (.int .i64 x32.Stamp.Site)])))], []⟩, ⟨[(120, .one (bB true)), (121, .one (.g (.agg [.v (.int .i64 r29.N), .v (.int .i64 r29.Site)]))), (126, .one (.g (.agg [.v (.int .i64 x32.Stamp.N), .v (.int .i64 x32.Stamp.Site)])))], [], [(127, .one (bB r33))], []⟩, ⟨[(120, .one (bB true)), (127, .one (bB r33))], [], [(128, .one (bB (!r33)))], []⟩, ⟨[(120, .one (bB true)), (128, .one (bB (!r33)))], [], [(129, .one (bB (!r33)))], []⟩]) (deps := [[], [], [0, 1], [0, 1, 2], [0, 1, 2, 3], [0, 1, 2, 3, 4], [0, 1, 2, 3, 4, 5], [0, 1, 2, 3, 4, 5, 6], [0, 1, 2, 3, 4, 5, 6], [0, 1, 2, 3, 4, 5, 6], [0, 1, 2, 3, 4, 5, 6, 8, 9], [0, 1, 2, 3, 4, 5, 6, 8, 9, 10], [0, 1, 2, 3, 4, 5, 6, 8, 9, 10, 11], [0, 1, 2, 3, 4, 5, 6, 7, 8, 9, 10, 11, 12], [0, 1, 2, 3, 4, 5, 6, 7, 8, 9, 10, 11, 12, 13], [0, 1, 2, 3, 4, 5, 6, 7, 8, 9, 10, 11, 12, 13, 14]]) (sl' := [(3, .one (bB r1)), (4, .one (.g (.d (.sl 6 (List.map encApi_Version r2))))), (5, .one (.g (.d (.sl 3 (List.map encApi_Dep r3))))), (6, .one (.g (.d (.sl 3 (List.map encApi_Dep r4))))), (12, .one (bI .i64 v8)), (13, .one (bB (decide (r16.N = x17.Stamp.N) && decide (r16.Site = x17.Stamp.Site)))), (14, .one (bB v21.1)), (15, .one (bI .i64 v21.2)), (129, .one (bB (!r33)))]) (hp' := []) follows rfl rfl rfl ⟨⟨rfl, trivial⟩, trivial, ⟨rfl, trivial⟩, trivial, ⟨rfl, rfl, trivial⟩, trivial, ⟨rfl, trivial⟩, trivial, ⟨rfl, rfl, trivial⟩, trivial, ⟨rfl, rfl, trivial⟩, trivial, ⟨rfl, trivial⟩, trivial, ⟨rfl, rfl, trivial⟩, ⟨⟨rfl, rfl⟩, trivial⟩, ⟨rfl, rfl, trivial⟩, trivial, ⟨rfl, rfl, trivial⟩, trivial, ⟨rfl, rfl, rfl, trivial⟩, trivial, ⟨rfl, rfl, trivial⟩, trivial, ⟨rfl, rfl, trivial⟩, trivial, ⟨rfl, rfl, rfl, trivial⟩, trivial, ⟨rfl, rfl, trivial⟩, trivial, ⟨rfl, rfl, trivial⟩, trivial, trivial⟩ ⟨OpW.plain (op_move (Ev.t 15 (bI .i64 v21.2)) rfl) rfl rfl, OpW.plain (op_move (Ev.t 12 (bI .i64 v8)) rfl) rfl rfl, OpW.plain (OpL.cast (op_neI (Ev.t 114 (bI .i64 v21.2)) (Ev.t 115 (bI .i64 v8)) rfl) (congrArg (fun b => bB b) hc30)) rfl rfl, OpW.plain (op_move (Ev.t 116 (bB true)) rfl) rfl rfl, OpW.yes (op_move (Ev.t 17 (bB true)) rfl) rfl rfl rfl, OpW.plain (op_pickT (Ev.t 117 (bB true)) (Ev.t 118 (bB true)) rfl) rfl rfl, OpW.plain (op_move (Ev.t 119 (bB true)) rfl) rfl rfl, OpW.yes (op_loadAP (ds := [.v (.int .i64 r29.N), .v (.int .i64 r29.Site)]) Try.underlying24 rfl ti24 rfl (Ev.t 18 (.ptr 1018 0)) rfl) rfl rfl rfl, OpW.yes (op_move (Ev.t 5 (.g (.d (.sl 3 (List.map encApi_Dep r3))))) rfl) rfl rfl rfl, OpW.yes (op_move (Ev.t 12 (bI .i64 v8)) rfl) rfl rfl rfl, OpW.yes (op_index (cs := [.v (.string x32.Key), .v (.int .i64 x32.Stamp.N), .v (.int .i64 x32.Stamp.Site)]) Try.underlying29 ti26 (idx_ok hx32).1 (idx_get hx32 encApi_Dep) (Ev.t 122 (.g (.d (.sl 3 (List.map encApi_Dep r3))))) (Ev.t 123 (bI .i64 v8)) rfl) rfl rfl rfl, OpW.yes (op_fieldE (cs' := [.v (.int .i64 x32.Stamp.N), .v (.int .i64 x32.Stamp.Site)]) Try.underlying26 rfl ti24 (by decide) rfl (Ev.t 124 (.ep [.v (.string x32.Key), .v (.int .i64 x32.Stamp.N), .v (.int .i64 x32.Stamp.Site)])) rfl) rfl rfl rfl, OpW.yes (op_loadAE (ds := [.v (.int .i64 x32.Stamp.N), .v (.int .i64 x32.Stamp.Site)]) Try.underlying24 rfl ti24 rfl (Ev.t 125 (.ep [.v (.int .i64 x32.Stamp.N), .v (.int .i64 x32.Stamp.Site)])) rfl) rfl rfl rfl, OpW.yes (op_callQ (sv := .one (bB r33)) cf25 (ct_ref03_Less r29 x32.Stamp r33 hr33) rfl rfl (EvQL.cons (EvQ.g (Ev.t 121 (.g (.agg [.v (.int .i64 r29.N), .v (.int .i64 r29.Site)])))) (EvQL.cons (EvQ.g (Ev.t 126 (.g (.agg [.v (.int .i64 x32.Stamp.N), .v (.int .i64 x32.Stamp.Site)])))) EvQL.nil)) rfl) rfl rfl rfl, OpW.yes (op_not (Ev.t 127 (bB r33)) rfl) rfl rfl rfl, OpW.plain (op_pickT (Ev.t 120 (bB true)) (Ev.t 128 (bB (!r33))) rfl) rfl rfl, trivial⟩ ⟨rfl, rfl, rfl, rfl, rfl, rfl, rfl, rfl, rfl, trivial⟩ trivial rfl ?_
            refine ifS hF (fun hc34 hF => ?_) (fun hc34 hF => ?_)
            · refine G.cond rfl (fun _ => ?_) (fun hx => by rw [hc34] at hx; cases hx)
              refine G.region ?_
              refine G.op1 (op_assign (Ev.c _ rfl) rfl) rfl trivial trivial ?_
              refine G.endOps ?_
              refine G.endBlock ?_
              refine G.region ?_
              refine G.op1 (op_move (Ev.t 15 (bI .i64 v21.2)) rfl) rfl ⟨rfl, trivial⟩ trivial ?_
              refine G.op1 (op_add (Ev.t 95 (bI .i64 v21.2)) (Ev.c _ rfl) rfl) rfl ⟨rfl, trivial⟩ trivial ?_
              refine G.op1 (op_assign (Ev.t 96 (bI .i64 (IntKind.wrap .i64 (v21.2 + 1)))) rfl) rfl ⟨rfl, trivial⟩ trivial ?_
              refine G.endOps ?_
              exact G.arr (J22 (true, IntKind.wrap .i64 (v21.2 + 1)) hF) ⟨rfl, rfl, rfl, rfl, rfl, rfl, rfl, rfl, trivial⟩ trivial rfl
            · refine G.cond rfl (fun hx => by rw [hc34] at hx; cases hx) (fun _ => ?_)
              refine G.skip ?_
              refine G.endBlock ?_
              refine G.region ?_
              refine G.op1 (op_move (Ev.t 15 (bI .i64 v21.2)) rfl) rfl ⟨rfl, trivial⟩ trivial ?_
              refine G.op1 (op_add (Ev.t 95 (bI .i64 v21.2)) (Ev.c _ rfl) rfl) rfl ⟨rfl, trivial⟩ trivial ?_
              refine G.op1 (op_assign (Ev.t 96 (bI .i64 (IntKind.wrap .i64 (v21.2 + 1)))) rfl) rfl ⟨rfl, trivial⟩ trivial ?_
              refine G.endOps ?_
              exact G.arr (J22 (v21.1, IntKind.wrap .i64 (v21.2 + 1)) hF) ⟨rfl, rfl, rfl, rfl, rfl, rfl, rfl, rfl, trivial⟩ trivial rfl
          · refine G.known (t := 17) (c := false) hc31 rfl ?_
            refine G.drawn (effs := [⟨[(15, .one (bI .i64 v21.2))], [], [(114, .one (bI .i64 v21.2))], []⟩, ⟨[(12, .one (bI .i64 v8))], [], [(115, .one (bI .i64 v8))], []⟩, ⟨[(114, .one (bI .i64 v21.2)), (115, .one (bI .i64 v8))], [], [(116, .one (bB true))], []⟩, ⟨[(116, .one (bB true))], [], [(117, .one (bB true))], []⟩, ⟨[(117, .one (bB true)), (17, .one (bB false))], [], [(118, .one (bB false))], []⟩, ⟨[(117, .one (bB true)), (118, .one (bB false))], [], [(119, .one (bB false))], []⟩, ⟨[(119, .one (bB false))], [], [(120, .one (bB false))], []⟩, ⟨[(120, .one (bB false))], [], [(121, .one (.x Go.undef))], []⟩, ⟨[(120, .one (bB false))], [], [(122, .one (.x Go.undef))], []⟩, ⟨[(120, .one (bB false))], [], [(123, .one (.x Go.undef))], []⟩, ⟨[(120, .one (bB false))], [], [(124, .one (.x Go.undef))], []⟩, ⟨[(120, .one (bB false))], [], [(125, .one (.x Go.undef))], []⟩, ⟨[(120, .one (bB false))], [], [(126, .one (.x Go.undef))], []⟩, ⟨[(120, .one (bB false))], [], [(127, .one (.x Go.undef))], []⟩, ⟨[(120, .one (bB false))], [], [(128, .one (.x Go.undef))], []⟩, ⟨[(120, .one (bB false))], [], [(129, .one (bB false))], []⟩]) (deps := [[], [], [0, 1], [0, 1, 2], [0, 1, 2, 3], [0, 1, 2, 3, 4], [0, 1, 2, 3, 4, 5], [0, 1, 2, 3, 4, 5, 6], [0, 1, 2, 3, 4, 5, 6], [0, 1, 2, 3, 4, 5, 6], [0, 1, 2, 3, 4, 5, 6, 8, 9], [0, 1, 2, 3, 4, 5, 6, 8, 9, 10], [0, 1, 2, 3, 4, 5, 6, 8, 9, 10, 11], [0, 1, 2, 3, 4, 5, 6, 7, 8, 9, 10, 11, 12], [0, 1, 2, 3, 4, 5, 6, 7, 8, 9, 10, 11, 12, 13], [0, 1, 2, 3, 4, 5, 6, 7, 8, 9, 10, 11, 12, 13, 14]]) (sl' := [(3, .one (bB r1)), (4, .one (.g (.d (.sl 6 (List.map encApi_Version r2))))), (5, .one (.g (.d (.sl 3 (List.map encApi_Dep r3))))), (6, .one (.g (.d (.sl 3 (List.map encApi_Dep r4))))), (12, .one (bI .i64 v8)), (13, .one (bB (decide (r16.N = x17.Stamp.N) && decide (r16.Site = x17.Stamp.Site)))), (14, .one (bB v21.1)), (15, .one (bI .i64 v21.2)), (129, .one (bB false))]) (hp' := []) follows rfl rfl rfl ⟨⟨rfl, trivial⟩, trivial, ⟨rfl, trivial⟩, trivial, ⟨rfl, rfl, trivial⟩, trivial, ⟨rfl, trivial⟩, trivial, ⟨rfl, rfl, trivial⟩, trivial, ⟨rfl, rfl, trivial⟩, trivial, ⟨rfl, trivial⟩, trivial, ⟨rfl, trivial⟩, trivial, ⟨rfl, trivial⟩, trivial, ⟨rfl, trivial⟩, trivial, ⟨rfl, trivial⟩, trivial, ⟨rfl, trivial⟩, trivial, ⟨rfl, trivial⟩, trivial, ⟨rfl, trivial⟩, trivial, ⟨rfl, trivial⟩, trivial, ⟨rfl, trivial⟩, trivial, trivial⟩ ⟨OpW.plain (op_move (Ev.t 15 (bI .i64 v21.2)) rfl) rfl rfl, OpW.plain (op_move (Ev.t 12 (bI .i64 v8)) rfl) rfl rfl, OpW.plain (OpL.cast (op_neI (Ev.t 114 (bI .i64 v21.2)) (Ev.t 115 (bI .i64 v8)) rfl) (congrArg (fun b => bB b) hc30)) rfl rfl, OpW.plain (op_move (Ev.t 116 (bB true)) rfl) rfl rfl, OpW.yes (op_move (Ev.t 17 (bB false)) rfl) rfl rfl rfl, OpW.plain (op_pickT (Ev.t 117 (bB true)) (Ev.t 118 (bB false)) rfl) rfl rfl, OpW.plain (op_move (Ev.t 119 (bB false)) rfl) rfl rfl, OpW.no rfl rfl rfl rfl rfl, OpW.no rfl rfl rfl rfl rfl, OpW.no rfl rfl rfl rfl rfl, OpW.no rfl rfl rfl rfl rfl, OpW.no rfl rfl rfl rfl rfl, OpW.no rfl rfl rfl rfl rfl, OpW.no rfl rfl rfl rfl rfl, OpW.no rfl rfl rfl rfl rfl, OpW.plain (op_pickF (Ev.t 120 (bB false)) (Ev.c _ rfl) rfl) rfl rfl, trivial⟩ ⟨rfl, rfl, rfl, rfl, rfl, rfl, rfl, rfl, rfl, trivial⟩ trivial rfl ?_
            refine G.condF rfl ?_
            refine G.skip ?_
            refine G.endBlock ?_
            refine G.region ?_
            refine G.op1 (op_move (Ev.t 15 (bI .i64 v21.2)) rfl) rfl ⟨rfl, trivial⟩ trivial ?_
            refine G.op1 (op_add (Ev.t 95 (bI .i64 v21.2)) (Ev.c _ rfl) rfl) rfl ⟨rfl, trivial⟩ trivial ?_
            refine G.op1 (op_assign (Ev.t 96 (bI .i64 (IntKind.wrap .i64 (v21.2 + 1)))) rfl) rfl ⟨rfl, trivial⟩ trivial ?_
            refine G.endOps ?_
            exact G.arr (J22 (v21.1, IntKind.wrap .i64 (v21.2 + 1)) hF) ⟨rfl, rfl, rfl, rfl, rfl, rfl, rfl, rfl, trivial⟩ trivial rfl
        · refine G.drawn (effs := [⟨[(15, .one (bI .i64 v21.2))], [], [(114, .one (bI .i64 v21.2))], []⟩, ⟨[(12, .one (bI .i64 v8))], [], [(115, .one (bI .i64 v8))], []⟩, ⟨[(114, .one (bI .i64 v21.2)), (115, .one (bI .i64 v8))], [], [(116, .one (bB false))], []⟩, ⟨[(116, .one (bB false))], [], [(117, .one (bB false))], []⟩, ⟨[(117, .one (bB false))], [], [(118, .one (.x Go.undef))], []⟩, ⟨[(117, .one (bB false))], [], [(119, .one (bB false))], []⟩, ⟨[(119, .one (bB false))], [], [(120, .one (bB false))], []⟩, ⟨[(120, .one (bB false))], [], [(121, .one (.x Go.undef))], []⟩, ⟨[(120, .one (bB false))], [], [(122, .one (.x Go.undef))], []⟩, ⟨[(120, .one (bB false))], [], [(123, .one (.x Go.undef))], []⟩, ⟨[(120, .one (bB false))], [], [(124, .one (.x Go.undef))], []⟩, ⟨[(120, .one (bB false))], [], [(125, .one (.x Go.undef))], []⟩, ⟨[(120, .one (bB false))], [], [(126, .one (.x Go.undef))], []⟩, ⟨[(120, .one (bB false))], [], [(127, .one (.x Go.undef))], []⟩, ⟨[(120, .one (bB false))], [], [(128, .one (.x Go.undef))], []⟩, ⟨[(120, .one (bB false))], [], [(129, .one (bB false))], []⟩]) (deps := [[], [], [0, 1], [0, 1, 2], [0, 1, 2, 3], [0, 1, 2, 3, 4], [0, 1, 2, 3, 4, 5], [0, 1, 2, 3, 4, 5, 6], [0, 1, 2, 3, 4, 5, 6], [0, 1, 2, 3, 4, 5, 6], [0, 1, 2, 3, 4, 5, 6, 8, 9], [0, 1, 2, 3, 4, 5, 6, 8, 9, 10], [0, 1, 2, 3, 4, 5, 6, 8, 9, 10, 11], [0, 1, 2, 3, 4, 5, 6, 7, 8, 9, 10, 11, 12], [0, 1, 2, 3, 4, 5, 6, 7, 8, 9, 10, 11, 12, 13], [0, 1, 2, 3, 4, 5, 6, 7, 8, 9, 10, 11, 12, 13, 14]]) (sl' := [(3, .one (bB r1)), (4, .one (.g (.d (.sl 6 (List.map encApi_Version r2))))), (5, .one (.g (.d (.sl 3 (List.map encApi_Dep r3))))), (6, .one (.g (.d (.sl 3 (List.map encApi_Dep r4))))), (12, .one (bI .i64 v8)), (13, .one (bB (decide (r16.N = x17.Stamp.N) && decide (r16.Site = x17.Stamp.Site)))), (14, .one (bB v21.1)), (15, .one (bI .i64 v21.2)), (129, .one (bB false))]) (hp' := []) follows rfl rfl rfl ⟨⟨rfl, trivial⟩, trivial, ⟨rfl, trivial⟩, trivial, ⟨rfl, rfl, trivial⟩, trivial, ⟨rfl, trivial⟩, trivial, ⟨rfl, trivial⟩, trivial, ⟨rfl, trivial⟩, trivial, ⟨rfl, trivial⟩, trivial, ⟨rfl, trivial⟩, trivial, ⟨rfl, trivial⟩, trivial, ⟨rfl, trivial⟩, trivial, ⟨rfl, trivial⟩, trivial, ⟨rfl, trivial⟩, trivial, ⟨rfl, trivial⟩, trivial, ⟨rfl, trivial⟩, trivial, ⟨rfl, trivial⟩, trivial, ⟨rfl, trivial⟩, trivial, trivial⟩ ⟨OpW.plain (op_move (Ev.t 15 (bI .i64 v21.2)) rfl) rfl rfl, OpW.plain (op_move (Ev.t 12 (bI .i64 v8)) rfl) rfl rfl, OpW.plain (OpL.cast (op_neI (Ev.t 114 (bI .i64 v21.2)) (Ev.t 115 (bI .i64 v8)) rfl) (congrArg (fun b => bB b) hc30)) rfl rfl, OpW.plain (op_move (Ev.t 116 (bB false)) rfl) rfl rfl, OpW.no rfl rfl rfl rfl rfl, OpW.plain (op_pickF (Ev.t 117 (bB false)) (Ev.c _ rfl) rfl) rfl rfl, OpW.plain (op_move (Ev.t 119 (bB false)) rfl) rfl rfl, OpW.no rfl rfl rfl rfl rfl, OpW.no rfl rfl rfl rfl rfl, OpW.no rfl rfl rfl rfl rfl, OpW.no rfl rfl rfl rfl rfl, OpW.no rfl rfl rfl rfl rfl, OpW.no rfl rfl rfl rfl rfl, OpW.no rfl rfl rfl rfl rfl, OpW.no rfl rfl rfl rfl rfl, OpW.plain (op_pickF (Ev.t 120 (bB false)) (Ev.c _ rfl) rfl) rfl rfl, trivial⟩ ⟨rfl, rfl, rfl, rfl, rfl, rfl, rfl, rfl, rfl, trivial⟩ trivial rfl ?_
          refine G.condF rfl ?_
          refine G.skip ?_
          refine G.endBlock ?_
          refine G.region ?_
          refine G.op1 (op_move (Ev.t 15 (bI .i64 v21.2)) rfl) rfl ⟨rfl, trivial⟩ trivial ?_
          refine G.op1 (op_add (Ev.t 95 (bI .i64 v21.2)) (Ev.c _ rfl) rfl) rfl ⟨rfl, trivial⟩ trivial ?_
          refine G.op1 (op_assign (Ev.t 96 (bI .i64 (IntKind.wrap .i64 (v21.2 + 1)))) rfl) rfl ⟨rfl, trivial⟩ trivial ?_
          refine G.endOps ?_
          exact G.arr (J22 (v21.1, IntKind.wrap .i64 (v21.2 + 1)) hF) ⟨rfl, rfl, rfl, rfl, rfl, rfl, rfl, rfl, trivial⟩ trivial rfl
      · refine G.cond rfl (fun hx => by rw [hc25] at hx; cases hx) (fun _ => ?_)
        refine G.exit ?_
        refine GX.c ?_
        refine GX.q ?_
        refine GX.bYes ?_
        exact G.arr (J20 v21.1 hF) ⟨rfl, rfl, rfl, rfl, rfl, rfl, rfl, trivial⟩ trivial rfl
    · refine G.cond rfl (fun hx => by rw [hc12] at hx; cases hx) (fun _ => ?_)
      refine G.exit ?_
      refine GX.c ?_
      refine GX.q ?_
      refine GX.bYes ?_
      exact G.arr (J7 () hF) ⟨rfl, trivial⟩ trivial rfl
  refine G.block ?_
  refine G.keep (sl' := [(3, .one (bB r1)), (4, .one (.g (.d (.sl 6 (List.map encApi_Version r2))))), (5, .one (.g (.d (.sl 3 (List.map encApi_Dep r3))))), (6, .one (.g (.d (.sl 3 (List.map encApi_Dep r4))))), (7, .one (bI .i64 0))]) (hp' := []) ⟨rfl, rfl, rfl, rfl, rfl, trivial⟩ trivial rfl ?_
  refine G.loopF (fun (v36 : Int) => ⟨[(3, .one (bB r1)), (4, .one (.g (.d (.sl 6 (List.map encApi_Version r2))))), (5, .one (.g (.d (.sl 3 (List.map encApi_Dep r3))))), (6, .one (.g (.d (.sl 3 (List.map encApi_Dep r4))))), (7, .one (bI .i64 v36))], []⟩) hF rfl (fun K39 again38 v36 J37 hF => ?_)
  unfold law05_NearestLeft_l7 at hF
  refine G.seq ?_
  refine G.seq ?_
  refine G.region ?_
  refine G.op1 (op_move (Ev.t 7 (bI .i64 v36)) rfl) rfl ⟨rfl, trivial⟩ trivial ?_
  refine G.op1 (op_move (Ev.t 6 (.g (.d (.sl 3 (List.map encApi_Dep r4))))) rfl) rfl ⟨rfl, trivial⟩ trivial ?_
  refine G.op1 (OpL.cast (op_lenD Try.underlying29 (Ev.t 28 (.g (.d (.sl 3 (List.map encApi_Dep r4))))) rfl) (by rw [List.length_map])) rfl ⟨rfl, trivial⟩ trivial ?_
  refine G.op1 (op_lss (Ev.t 27 (bI .i64 v36)) (Ev.t 29 (bI .i64 (r4.length : Int))) rfl) rfl ⟨rfl, rfl, trivial⟩ trivial ?_
  refine G.endOps ?_
  refine ifS hF (fun hc40 hF => ?_) (fun hc40 hF => ?_)
  · refine G.cond rfl (fun _ => ?_) (fun hx => by rw [hc40] at hx; cases hx)
    refine G.skip ?_
    refine G.seq ?_
    refine G.joinC (T := Unit) (fun y41 => ⟨[(3, .one (bB r1)), (4, .one (.g (.d (.sl 6 (List.map encApi_Version r2))))), (5, .one (.g (.d (.sl 3 (List.map encApi_Dep r3))))), (6, .one (.g (.d (.sl 3 (List.map encApi_Dep r4))))), (7, .one (bI .i64 v36))], []⟩) (fun y41 => law05_NearestLeft_k8 again38 v36 y41 = some r) (fun y41 hF => ?_) (fun J42 => ?_)
    · unfold law05_NearestLeft_k8 at hF
      refine G.region ?_
      refine G.op1 (op_move (Ev.t 7 (bI .i64 v36)) rfl) rfl ⟨rfl, trivial⟩ trivial ?_
      refine G.op1 (op_add (Ev.t 31 (bI .i64 v36)) (Ev.c _ rfl) rfl) rfl ⟨rfl, trivial⟩ trivial ?_
      refine G.op1 (op_assign (Ev.t 32 (bI .i64 (IntKind.wrap .i64 (v36 + 1)))) rfl) rfl ⟨rfl, trivial⟩ trivial ?_
      refine G.endOps ?_
      exact G.arr (J37 (IntKind.wrap .i64 (v36 + 1)) hF) ⟨rfl, rfl, rfl, rfl, rfl, trivial⟩ trivial rfl
    refine G.block ?_
    refine G.seq ?_
    refine G.region ?_
    refine G.op1 (op_move (Ev.t 4 (.g (.d (.sl 6 (List.map encApi_Version r2))))) rfl) rfl ⟨rfl, trivial⟩ trivial ?_
    refine G.op1 (op_move (Ev.t 6 (.g (.d (.sl 3 (List.map encApi_Dep r4))))) rfl) rfl ⟨rfl, trivial⟩ trivial ?_
    refine G.op1 (op_move (Ev.t 7 (bI .i64 v36)) rfl) rfl ⟨rfl, trivial⟩ trivial ?_
    obtain ⟨x43, hx43, hF⟩ := bindS hF
    refine G.op1 (op_index (cs := [.v (.string x43.Key), .v (.int .i64 x43.Stamp.N), .v (.int .i64 x43.Stamp.Site)]) Try.underlying29 ti26 (idx_ok hx43).1 (idx_get hx43 encApi_Dep) (Ev.t 35 (.g (.d (.sl 3 (List.map encApi_Dep r4))))) (Ev.t 36 (bI .i64 v36)) rfl) rfl ⟨rfl, rfl, trivial⟩ trivial ?_
    refine G.op1 (op_loadAE (ds := [.v (.string x43.Key), .v (.int .i64 x43.Stamp.N), .v (.int .i64 x43.Stamp.Site)]) Try.underlying26 rfl ti26 rfl (Ev.t 37 (.ep [.v (.string x43.Key), .v (.int .i64 x43.Stamp.N), .v (.int .i64 x43.Stamp.Site)])) rfl) rfl ⟨rfl, trivial⟩ trivial ?_
    obtain ⟨r44, hr44, hF⟩ := bindS hF
    refine G.op1 (op_call (sv := .tup [.g (.agg [.v (.string r44.1.Key), .v (.string r44.1.Value), .v (.bool r44.1.Gone), .v (.int .i64 r44.1.Stamp.N), .v (.int .i64 r44.1.Stamp.Site), .sl 3 (List.map encApi_Dep r44.1.Past)]), bB r44.2]) cf18 (ct_nearest_Find r2 x43 r44 hr44) rfl (EvL.cons (Ev.t 34 (.g (.d (.sl 6 (List.map encApi_Version r2))))) (EvL.cons (Ev.t 38 (.g (.agg [.v (.string x43.Key), .v (.int .i64 x43.Stamp.N), .v (.int .i64 x43.Stamp.Site)]))) EvL.nil)) rfl) rfl ⟨rfl, rfl, trivial⟩ trivial ?_
    refine G.op1 (op_moveS (t := 39) (sv := .tup [.g (.agg [.v (.string r44.1.Key), .v (.string r44.1.Value), .v (.bool r44.1.Gone), .v (.int .i64 r44.1.Stamp.N), .v (.int .i64 r44.1.Stamp.Site), .sl 3 (List.map encApi_Dep r44.1.Past)]), bB r44.2]) rfl) rfl ⟨rfl, trivial⟩ trivial ?_
    refine G.op1 (op_extract (l := [.g (.agg [.v (.string r44.1.Key), .v (.string r44.1.Value), .v (.bool r44.1.Gone), .v (.int .i64 r44.1.Stamp.N), .v (.int .i64 r44.1.Stamp.Site), .sl 3 (List.map encApi_Dep r44.1.Past)]), bB r44.2]) (c := .g (.agg [.v (.string r44.1.Key), .v (.string r44.1.Value), .v (.bool r44.1.Gone), .v (.int .i64 r44.1.Stamp.N), .v (.int .i64 r44.1.Stamp.Site), .sl 3 (List.map encApi_Dep r44.1.Past)])) rfl rfl) rfl ⟨rfl, trivial⟩ trivial ?_
    refine G.op1 (op_extract (l := [.g (.agg [.v (.string r44.1.Key), .v (.string r44.1.Value), .v (.bool r44.1.Gone), .v (.int .i64 r44.1.Stamp.N), .v (.int .i64 r44.1.Stamp.Site), .sl 3 (List.map encApi_Dep r44.1.Past)]), bB r44.2]) (c := bB r44.2) rfl rfl) rfl ⟨rfl, trivial⟩ trivial ?_
    refine G.op2 (op_alloc (k := 1008) (cs := [bS ByteArray.empty, bS ByteArray.empty, bB false, bI .i64 0, bI .i64 0, .g (.d (.sl 3 (List.map encApi_Dep ([] : (List Api_Dep)))))]) ti34 ⟨.v _ rfl, .v _ rfl, .v _ rfl, .v _ rfl, .v _ rfl, .n 3, trivial⟩ rfl) rfl trivial ⟨rfl, trivial⟩ ?_
    refine G.op3 (op_storeA (cs' := [bS r44.1.Key, bS r44.1.Value, bB r44.1.Gone, bI .i64 r44.1.Stamp.N, bI .i64 r44.1.Stamp.Site, .g (.d (.sl 3 (List.map encApi_Dep r44.1.Past)))]) ti34 rfl rfl (Ev.t 8 (.ptr 1008 0)) (Ev.t 40 (.g (.agg [.v (.string r44.1.Key), .v (.string r44.1.Value), .v (.bool r44.1.Gone), .v (.int .i64 r44.1.Stamp.N), .v (.int .i64 r44.1.Stamp.Site), .sl 3 (List.map encApi_Dep r44.1.Past)])))) rfl ⟨rfl, rfl, trivial⟩ ⟨rfl, trivial⟩ ?_
    refine G.op1 (op_assign (Ev.t 41 (bB r44.2)) rfl) rfl ⟨rfl, trivial⟩ trivial ?_
    refine G.endOps ?_
    refine G.seq ?_
    refine G.region ?_
    refine G.op1 (op_assign (Ev.c _ rfl) rfl) rfl trivial trivial ?_
    refine G.endOps ?_
    refine G.joinC (T := Unit) (fun y45 => ⟨[(3, .one (bB r1)), (4, .one (.g (.d (.sl 6 (List.map encApi_Version r2))))), (5, .one (.g (.d (.sl 3 (List.map encApi_Dep r3))))), (6, .one (.g (.d (.sl 3 (List.map encApi_Dep r4))))), (7, .one (bI .i64 v36))], []⟩) (fun y45 => law05_NearestLeft_k9 again38 v36 y45 = some r) (fun y45 hF => ?_) (fun J46 => ?_)
    · unfold law05_NearestLeft_k9 at hF
      refine G.endBlock ?_
      exact G.arr (J42 () hF) ⟨rfl, rfl, rfl, rfl, rfl, trivial⟩ trivial rfl
    refine G.block ?_
    refine G.keep (sl' := [(3, .one (bB r1)), (4, .one (.g (.d (.sl 6 (List.map encApi_Version r2))))), (5, .one (.g (.d (.sl 3 (List.map encApi_Dep r3))))), (6, .one (.g (.d (.sl 3 (List.map encApi_Dep r4))))), (7, .one (bI .i64 v36)), (8, .one (.ptr 1008 0)), (9, .one (bB r44.2)), (10, .one (bI .i64 0))]) (hp' := [(1008, some (.blk 34 [bS r44.1.Key, bS r44.1.Value, bB r44.1.Gone, bI .i64 r44.1.Stamp.N, bI .i64 r44.1.Stamp.Site, .g (.d (.sl 3 (List.map encApi_Dep r44.1.Past)))]))]) ⟨rfl, rfl, rfl, rfl, rfl, rfl, rfl, rfl, trivial⟩ ⟨rfl, trivial⟩ rfl ?_
    refine G.loopF (fun (v47 : Bool × Int) => ⟨[(3, .one (bB r1)), (4, .one (.g (.d (.sl 6 (List.map encApi_Version r2))))), (5, .one (.g (.d (.sl 3 (List.map encApi_Dep r3))))), (6, .one (.g (.d (.sl 3 (List.map encApi_Dep r4))))), (7, .one (bI .i64 v36)), (8, .one (.ptr 1008 0)), (9, .one (bB v47.1)), (10, .one (bI .i64 v47.2))], [(1008, some (.blk 34 [bS r44.1.Key, bS r44.1.Value, bB r44.1.Gone, bI .i64 r44.1.Stamp.N, bI .i64 r44.1.Stamp.Site, .g (.d (.sl 3 (List.map encApi_Dep r44.1.Past)))]))]⟩) hF rfl (fun K50 again49 v47 J48 hF => ?_)
    unfold law05_NearestLeft_l10 at hF
    refine G.seq ?_
    refine G.seq ?_
    refine G.region ?_
    refine G.op1 (op_move (Ev.t 10 (bI .i64 v47.2)) rfl) rfl ⟨rfl, trivial⟩ trivial ?_
    refine G.op1 (op_move (Ev.t 6 (.g (.d (.sl 3 (List.map encApi_Dep r4))))) rfl) rfl ⟨rfl, trivial⟩ trivial ?_
    refine G.op1 (OpL.cast (op_lenD Try.underlying29 (Ev.t 43 (.g (.d (.sl 3 (List.map encApi_Dep r4))))) rfl) (by rw [List.length_map])) rfl ⟨rfl, trivial⟩ trivial ?_
    refine G.op1 (op_lss (Ev.t 42 (bI .i64 v47.2)) (Ev.t 44 (bI .i64 (r4.length : Int))) rfl) rfl ⟨rfl, rfl, trivial⟩ trivial ?_
    refine G.endOps ?_
    refine ifS hF (fun hc51 hF => ?_) (fun hc51 hF => ?_)
    · refine G.cond rfl (fun _ => ?_) (fun hx => by rw [hc51] at hx; cases hx)
      refine G.skip ?_
      refine G.seq ?_
      refine G.block ?_
      refine G.seq ?_
      obtain ⟨x52, hx52, hF⟩ := bindS hF
      obtain ⟨r53, hr53, hF⟩ := bindS hF
      refine G.drawn (effs := [⟨[(8, .one (.ptr 1008 0))], [], [(48, .one (.ptr 1008 5))], []⟩, ⟨[(48, .one (.ptr 1008 5))], [(1008, some (.blk 34 [bS r44.1.Key, bS r44.1.Value, bB r44.1.Gone, bI .i64 r44.1.Stamp.N, bI .i64 r44.1.Stamp.Site, .g (.d (.sl 3 (List.map encApi_Dep r44.1.Past)))]))], [(49, .one (.g (.d (.sl 3 (List.map encApi_Dep r44.1.Past)))))], []⟩, ⟨[(6, .one (.g (.d (.sl 3 (List.map encApi_Dep r4)))))], [], [(50, .one (.g (.d (.sl 3 (List.map encApi_Dep r4)))))], []⟩, ⟨[(10, .one (bI .i64 v47.2))], [], [(51, .one (bI .i64 v47.2))], []⟩, ⟨[(50, .one (.g (.d (.sl 3 (List.map encApi_Dep r4))))), (51, .one (bI .i64 v47.2))], [], [(52, .one (.ep [.v (.string x52.Key), .v (.int .i64 x52.Stamp.N), .v (.int .i64 x52.Stamp.Site)]))], []⟩, ⟨[(52, .one (.ep [.v (.string x52.Key), .v (.int .i64 x52.Stamp.N), .v (.int .i64 x52.Stamp.Site)]))], [], [(53, .one (.ep [.v (.string x52.Key), .v (.int .i64 x52.Stamp.N), .v (.int .i64 x52.Stamp.Site)]))], []⟩, ⟨[(53, .one (.ep [.v (.string x52.Key), .v (.int .i64 x52.Stamp.N), .v (.int .i64 x52.Stamp.Site)]))], [], [(54, .one (bS x52.Key))], []⟩, ⟨[(49, .one (.g (.d (.sl 3 (List.map encApi_Dep r44.1.Past))))), (54, .one (bS x52.Key))], [], [(55, .one (.g (.agg [.v (.int .i64 r53.N), .v (.int .i64 r53.Site)])))], []⟩, ⟨[], [(1011, none)], [(11, .one (.ptr 1011 0))], [(1011, some (.blk 24 [bI .i64 0, bI .i64 0]))]⟩, ⟨[(11, .one (.ptr 1011 0)), (55, .one (.g (.agg [.v (.int .i64 r53.N), .v (.int .i64 r53.Site)])))], [(1011, some (.blk 24 [bI .i64 0, bI .i64 0]))], [], [(1011, some (.blk 24 [bI .i64 r53.N, bI .i64 r53.Site]))]⟩]) (deps := [[], [0], [], [], [2, 3], [2, 3, 4], [2, 3, 4, 5], [0, 1, 2, 3, 4, 5, 6], [], [0, 1, 2, 3, 4, 5, 6, 7, 8]]) (sl' := [(3, .one (bB r1)), (4, .one (.g (.d (.sl 6 (List.map encApi_Version r2))))), (5, .one (.g (.d (.sl 3 (List.map encApi_Dep r3))))), (6, .one (.g (.d (.sl 3 (List.map encApi_Dep r4))))), (7, .one (bI .i64 v36)), (8, .one (.ptr 1008 0)), (9, .one (bB v47.1)), (10, .one (bI .i64 v47.2)), (11, .one (.ptr 1011 0))]) (hp' := [(1008, some (.blk 34 [bS r44.1.Key, bS r44.1.Value, bB r44.1.Gone, bI .i64 r44.1.Stamp.N, bI .i64 r44.1.Stamp.Site, .g (.d (.sl 3 (List.map encApi_Dep r44.1.Past)))])), (1011, some (.blk 24 [bI .i64 r53.N, bI .i64 r53.Site]))]) follows rfl rfl rfl ⟨⟨rfl, trivial⟩, trivial, ⟨rfl, trivial⟩, ⟨⟨rfl, rfl⟩, trivial⟩, ⟨rfl, trivial⟩, trivial, ⟨rfl, trivial⟩, trivial, ⟨rfl, rfl, trivial⟩, trivial, ⟨rfl, trivial⟩, trivial, ⟨rfl, trivial⟩, trivial, ⟨rfl, rfl, trivial⟩, trivial, trivial, ⟨⟨rfl, rfl⟩, trivial⟩, ⟨rfl, rfl, trivial⟩, ⟨⟨rfl, rfl⟩, trivial⟩, trivial⟩ ⟨OpW.plain (op_fieldP (off' := 5) Try.underlying34 rfl ti29 (by decide) rfl (Ev.t 8 (.ptr 1008 0)) rfl) rfl rfl, OpW.plain (op_load1P (c := .g (.d (.sl 3 (List.map encApi_Dep r44.1.Past)))) Try.underlying29 rfl rfl (Ev.t 48 (.ptr 1008 5)) rfl) rfl rfl, OpW.plain (op_move (Ev.t 6 (.g (.d (.sl 3 (List.map encApi_Dep r4))))) rfl) rfl rfl, OpW.plain (op_move (Ev.t 10 (bI .i64 v47.2)) rfl) rfl rfl, OpW.plain (op_index (cs := [.v (.string x52.Key), .v (.int .i64 x52.Stamp.N), .v (.int .i64 x52.Stamp.Site)]) Try.underlying29 ti26 (idx_ok hx52).1 (idx_get hx52 encApi_Dep) (Ev.t 50 (.g (.d (.sl 3 (List.map encApi_Dep r4))))) (Ev.t 51 (bI .i64 v47.2)) rfl) rfl rfl, OpW.plain (op_fieldE (cs' := [.v (.string x52.Key), .v (.int .i64 x52.Stamp.N), .v (.int .i64 x52.Stamp.Site)]) Try.underlying26 rfl ti9 (by decide) rfl (Ev.t 52 (.ep [.v (.string x52.Key), .v (.int .i64 x52.Stamp.N), .v (.int .i64 x52.Stamp.Site)])) rfl) rfl rfl, OpW.plain (op_load1E (c := .v (.string x52.Key)) Try.underlying9 rfl rfl (Ev.t 53 (.ep [.v (.string x52.Key), .v (.int .i64 x52.Stamp.N), .v (.int .i64 x52.Stamp.Site)])) rfl) rfl rfl, OpW.plain (op_callQ (sv := .one (.g (.agg [.v (.int .i64 r53.N), .v (.int .i64 r53.Site)]))) cf24 (ct_ref04_Get r44.1.Past x52.Key r53 hr53) rfl rfl (EvQL.cons (EvQ.g (Ev.t 49 (.g (.d (.sl 3 (List.map encApi_Dep r44.1.Past)))))) (EvQL.cons (EvQ.g (Ev.t 54 (bS x52.Key))) EvQL.nil)) rfl) rfl rfl, OpW.plain (op_alloc (k := 1011) (cs := [bI .i64 0, bI .i64 0]) ti24 ⟨.v _ rfl, .v _ rfl, trivial⟩ rfl) rfl rfl, OpW.plain (op_storeA (cs' := [bI .i64 r53.N, bI .i64 r53.Site]) ti24 rfl rfl (Ev.t 11 (.ptr 1011 0)) (Ev.t 55 (.g (.agg [.v (.int .i64 r53.N), .v (.int .i64 r53.Site)])))) rfl rfl, trivial⟩ ⟨rfl, rfl, rfl, rfl, rfl, rfl, rfl, rfl, rfl, trivial⟩ ⟨rfl, rfl, trivial⟩ rfl ?_
      refine G.seq ?_
      refine ifS hF (fun hc54 hF => ?_) (fun hc54 hF => ?_)
      · refine G.known (t := 9) (c := true) hc54 rfl ?_
        refine ifS hF (fun hc55 hF => ?_) (fun hc55 hF => ?_)
        · obtain ⟨x56, hx56, hF⟩ := bindS hF
          obtain ⟨r57, hr57, hF⟩ := bindS hF
          refine G.drawn (effs := [⟨[(9, .one (bB true))], [], [(56, .one (bB true))], []⟩, ⟨[(56, .one (bB true))], [], [(57, .one (bB true))], []⟩, ⟨[(57, .one (bB true)), (10, .one (bI .i64 v47.2))], [], [(58, .one (bI .i64 v47.2))], []⟩, ⟨[(57, .one (bB true)), (7, .one (bI .i64 v36))], [], [(59, .one (bI .i64 v36))], []⟩, ⟨[(57, .one (bB true)), (58, .one (bI .i64 v47.2)), (59, .one (bI .i64 v36))], [], [(60, .one (bB true))], []⟩, ⟨[(57, .one (bB true)), (60, .one (bB true))], [], [(61, .one (bB true))], []⟩, ⟨[(61, .one (bB true))], [], [(62, .one (bB true))], []⟩, ⟨[(62, .one (bB true)), (11, .one (.ptr 1011 0))], [(1011, some (.blk 24 [bI .i64 r53.N, bI .i64 r53.Site]))], [(63, .one (.g (.agg [.v (.int .i64 r53.N), .v (.int .i64 r53.Site)])))], []⟩, ⟨[(62, .one (bB true)), (6, .one (.g (.d (.sl 3 (List.map encApi_Dep r4)))))], [], [(64, .one (.g (.d (.sl 3 (List.map encApi_Dep r4)))))], []⟩, ⟨[(62, .one (bB true)), (10, .one (bI .i64 v47.2))], [], [(65, .one (bI .i64 v47.2))], []⟩, ⟨[(62, .one (bB true)), (64, .one (.g (.d (.sl 3 (List.map encApi_Dep r4))))), (65, .one (bI .i64 v47.2))], [], [(66, .one (.ep [.v (.string x56.Key), .v (.int .i64 x56.Stamp.N), .v (.int .i64 x56.Stamp.Site)]))], []⟩, ⟨[(62, .one (bB true)), (66, .one (.ep [.v (.string x56.Key), .v (.int .i64 x56.Stamp.N), .v (.int .i64 x56.Stamp.Site)]))], [], [(67, .one (.ep [.v (.int .i64 x56.Stamp.N), .v (.int .i64 x56.Stamp.Site)]))], []⟩, ⟨[(62, .one (bB true)), (67, .one (.ep [.v (.int .i64 x56.Stamp.N), .v (.int .i64 x56.Stamp.Site)]))], [], [(68, .one (.g (.agg [.v (.int .i64 x56.Stamp.N), .v (.int .i64 x56.Stamp.Site)])))], []⟩, ⟨[(62, .one (bB true)), (63, .one (.g (.agg [.v (.int .i64 r53.N), .v (.int .i64 r53.Site)]))), (68, .one (.g (.agg [.v (.int .i64 x56.Stamp.N), .v (.int .i64 x56.Stamp.Site)])))], [], [(69, .one (bB r57))], []⟩, ⟨[(62, .one (bB true)), (69, .one (bB r57))], [], [(70, .one (bB (!r57)))], []⟩, ⟨[(62, .one (bB true)), (70, .one (bB (!r57)))], [], [(71, .one (bB (!r57)))], []⟩]) (deps := [[], [0], [0, 1], [0, 1], [0, 1, 2, 3], [0, 1, 2, 3, 4], [0, 1, 2, 3, 4, 5], [0, 1, 2, 3, 4, 5, 6], [0, 1, 2, 3, 4, 5, 6], [0, 1, 2, 3, 4, 5, 6], [0, 1, 2, 3, 4, 5, 6, 8, 9], [0, 1, 2, 3, 4, 5, 6, 8, 9, 10], [0, 1, 2, 3, 4, 5, 6, 8, 9, 10, 11], [0, 1, 2, 3, 4, 5, 6, 7, 8, 9, 10, 11, 12], [0, 1, 2, 3, 4, 5, 6, 7, 8, 9, 10, 11, 12, 13], [0, 1, 2, 3, 4, 5, 6, 7, 8, 9, 10, 11, 12, 13, 14]]) (sl' := [(3, .one (bB r1)), (4, .one (.g (.d (.sl 6 (List.map encApi_Version r2))))), (5, .one (.g (.d (.sl 3 (List.map encApi_Dep r3))))), (6, .one (.g (.d (.sl 3 (List.map encApi_Dep r4))))), (7, .one (bI .i64 v36)), (8, .one (.ptr 1008 0)), (9, .one (bB true)), (10, .one (bI .i64 v47.2)), (71, .one (bB (!r57)))]) (hp' := [(1008, some (.blk 34 [bS r44.1.Key, bS r44.1.Value, bB r44.1.Gone, bI .i64 r44.1.Stamp.N, bI .i64 r44.1.Stamp.Site, .g (.d (.sl 3 (List.map encApi_Dep r44.1.Past)))]))]) follows rfl rfl rfl ⟨⟨rfl, trivial⟩, trivial, ⟨rfl, trivial⟩, trivial, ⟨rfl, rfl, trivial⟩, trivial, ⟨rfl, rfl, trivial⟩, trivial, ⟨rfl, rfl, rfl, trivial⟩, trivial, ⟨rfl, rfl, trivial⟩, trivial, ⟨rfl, trivial⟩, trivial, ⟨rfl, rfl, trivial⟩, ⟨⟨rfl, rfl⟩, trivial⟩, ⟨rfl, rfl, trivial⟩, trivial, ⟨rfl, rfl, trivial⟩, trivial, ⟨rfl, rfl, rfl, trivial⟩, trivial, ⟨rfl, rfl, trivial⟩, trivial, ⟨rfl, rfl, trivial⟩, trivial, ⟨rfl, rfl, rfl, trivial⟩, trivial, ⟨rfl, rfl, trivial⟩, trivial, ⟨rfl, rfl, trivial⟩, trivial, trivial⟩ ⟨OpW.plain (op_move (Ev.t 9 (bB true)) rfl) rfl rfl, OpW.plain (op_move (Ev.t 56 (bB true)) rfl) rfl rfl, OpW.yes (op_move (Ev.t 10 (bI .i64 v47.2)) rfl) rfl rfl rfl, OpW.yes (op_move (Ev.t 7 (bI .i64 v36)) rfl) rfl rfl rfl, OpW.yes (OpL.cast (op_neI (Ev.t 58 (bI .i64 v47.2)) (Ev.t 59 (bI .i64 v36)) rfl) (congrArg (fun b => bB b) hc55)) rfl rfl rfl, OpW.plain (op_pickT (Ev.t 57 (bB true)) (Ev.t 60 (bB true)) rfl) rfl rfl, OpW.plain (op_move (Ev.t 61 (bB true)) rfl) rfl rfl, OpW.yes (op_loadAP (ds := [.v (.int .i64 r53.N), .v (.int .i64 r53.Site)]) Try.underlying24 rfl ti24 rfl (Ev.t 11 (.ptr 1011 0)) rfl) rfl rfl rfl, OpW.yes (op_move (Ev.t 6 (.g (.d (.sl 3 (List.map encApi_Dep r4))))) rfl) rfl rfl rfl, OpW.yes (op_move (Ev.t 10 (bI .i64 v47.2)) rfl) rfl rfl rfl, OpW.yes (op_index (cs := [.v (.string x56.Key), .v (.int .i64 x56.Stamp.N), .v (.int .i64 x56.Stamp.Site)]) Try.underlying29 ti26 (idx_ok hx56).1 (idx_get hx56 encApi_Dep) (Ev.t 64 (.g (.d (.sl 3 (List.map encApi_Dep r4))))) (Ev.t 65 (bI .i64 v47.2)) rfl) rfl rfl rfl, OpW.yes (op_fieldE (cs' := [.v (.int .i64 x56.Stamp.N), .v (.int .i64 x56.Stamp.Site)]) Try.underlying26 rfl ti24 (by decide) rfl (Ev.t 66 (.ep [.v (.string x56.Key), .v (.int .i64 x56.Stamp.N), .v (.int .i64 x56.Stamp.Site)])) rfl) rfl rfl rfl, OpW.yes (op_loadAE (ds := [.v (.int .i64 x56.Stamp.N), .v (.int .i64 x56.Stamp.Site)]) Try.underlying24 rfl ti24 rfl (Ev.t 67 (.ep [.v (.int .i64 x56.Stamp.N), .v (.int .i64 x56.Stamp.Site)])) rfl) rfl rfl rfl, OpW.yes (op_callQ (sv := .one (bB r57)) cf25 (ct_ref03_Less r53 x56.Stamp r57 hr57) rfl rfl (EvQL.cons (EvQ.g (Ev.t 63 (.g (.agg [.v (.int .i64 r53.N), .v (.int .i64 r53.Site)])))) (EvQL.cons (EvQ.g (Ev.t 68 (.g (.agg [.v (.int .i64 x56.Stamp.N), .v (.int .i64 x56.Stamp.Site)])))) EvQL.nil)) rfl) rfl rfl rfl, OpW.yes (op_not (Ev.t 69 (bB r57)) rfl) rfl rfl rfl, OpW.plain (op_pickT (Ev.t 62 (bB true)) (Ev.t 70 (bB (!r57))) rfl) rfl rfl, trivial⟩ ⟨rfl, rfl, rfl, rfl, rfl, rfl, rfl, rfl, rfl, trivial⟩ ⟨rfl, trivial⟩ rfl ?_
          refine ifS hF (fun hc58 hF => ?_) (fun hc58 hF => ?_)
          · refine G.cond rfl (fun _ => ?_) (fun hx => by rw [hc58] at hx; cases hx)
            refine G.seq ?_
            refine G.region ?_
            refine G.op1 (op_assign (Ev.c _ rfl) rfl) rfl trivial trivial ?_
            refine G.endOps ?_
            cases hF
            exact G.ret1 Try.results5 (RVar.tmp 2 _) ⟨rfl, trivial⟩ trivial
          · refine G.cond rfl (fun hx => by rw [hc58] at hx; cases hx) (fun _ => ?_)
            refine G.skip ?_
            refine G.endBlock ?_
            refine G.region ?_
            refine G.op1 (op_move (Ev.t 10 (bI .i64 v47.2)) rfl) rfl ⟨rfl, trivial⟩ trivial ?_
            refine G.op1 (op_add (Ev.t 46 (bI .i64 v47.2)) (Ev.c _ rfl) rfl) rfl ⟨rfl, trivial⟩ trivial ?_
            refine G.op1 (op_assign (Ev.t 47 (bI .i64 (IntKind.wrap .i64 (v47.2 + 1)))) rfl) rfl ⟨rfl, trivial⟩ trivial ?_
            refine G.endOps ?_
            exact G.arr (J48 (true, IntKind.wrap .i64 (v47.2 + 1)) hF) ⟨rfl, rfl, rfl, rfl, rfl, rfl, rfl, rfl, trivial⟩ ⟨rfl, trivial⟩ rfl
        · refine G.drawn (effs := [⟨[(9, .one (bB true))], [], [(56, .one (bB true))], []⟩, ⟨[(56, .one (bB true))], [], [(57, .one (bB true))], []⟩, ⟨[(57, .one (bB true)), (10, .one (bI .i64 v47.2))], [], [(58, .one (bI .i64 v47.2))], []⟩, ⟨[(57, .one (bB true)), (7, .one (bI .i64 v36))], [], [(59, .one (bI .i64 v36))], []⟩, ⟨[(57, .one (bB true)), (58, .one (bI .i64 v47.2)), (59, .one (bI .i64 v36))], [], [(60, .one (bB false))], []⟩, ⟨[(57, .one (bB true)), (60, .one (bB false))], [], [(61, .one (bB false))], []⟩, ⟨[(61, .one (bB false))], [], [(62, .one (bB false))], []⟩, ⟨[(62, .one (bB false))], [], [(63, .one (.x Go.undef))], []⟩, ⟨[(62, .one (bB false))], [], [(64, .one (.x Go.undef))], []⟩, ⟨[(62, .one (bB false))], [], [(65, .one (.x Go.undef))], []⟩, ⟨[(62, .one (bB false))], [], [(66, .one (.x Go.undef))], []⟩, ⟨[(62, .one (bB false))], [], [(67, .one (.x Go.undef))], []⟩, ⟨[(62, .one (bB false))], [], [(68, .one (.x Go.undef))], []⟩, ⟨[(62, .one (bB false))], [], [(69, .one (.x Go.undef))], []⟩, ⟨[(62, .one (bB false))], [], [(70, .one (.x Go.undef))], []⟩, ⟨[(62, .one (bB false))], [], [(71, .one (bB false))], []⟩]) (deps := [[], [0], [0, 1], [0, 1], [0, 1, 2, 3], [0, 1, 2, 3, 4], [0, 1, 2, 3, 4, 5], [0, 1, 2, 3, 4, 5, 6], [0, 1, 2, 3, 4, 5, 6], [0, 1, 2, 3, 4, 5, 6], [0, 1, 2, 3, 4, 5, 6, 8, 9], [0, 1, 2, 3, 4, 5, 6, 8, 9, 10], [0, 1, 2, 3, 4, 5, 6, 8, 9, 10, 11], [0, 1, 2, 3, 4, 5, 6, 7, 8, 9, 10, 11, 12], [0, 1, 2, 3, 4, 5, 6, 7, 8, 9, 10, 11, 12, 13], [0, 1, 2, 3, 4, 5, 6, 7, 8, 9, 10, 11, 12, 13, 14]]) (sl' := [(3, .one (bB r1)), (4, .one (.g (.d (.sl 6 (List.map encApi_Version r2))))), (5, .one (.g (.d (.sl 3 (List.map encApi_Dep r3))))), (6, .one (.g (.d (.sl 3 (List.map encApi_Dep r4))))), (7, .one (bI .i64 v36)), (8, .one (.ptr 1008 0)), (9, .one (bB true)), (10, .one (bI .i64 v47.2)), (71, .one (bB false))]) (hp' := [(1008, some (.blk 34 [bS r44.1.Key, bS r44.1.Value, bB r44.1.Gone, bI .i64 r44.1.Stamp.N, bI .i64 r44.1.Stamp.Site, .g (.d (.sl 3 (List.map encApi_Dep r44.1.Past)))]))]) follows rfl rfl rfl ⟨⟨rfl, trivial⟩, trivial, ⟨rfl, trivial⟩, trivial, ⟨rfl, rfl, trivial⟩, trivial, ⟨rfl, rfl, trivial⟩, trivial, ⟨rfl, rfl, rfl, trivial⟩, trivial, ⟨rfl, rfl, trivial⟩, trivial, ⟨rfl, trivial⟩, trivial, ⟨rfl, trivial⟩, trivial, ⟨rfl, trivial⟩, trivial, ⟨rfl, trivial⟩, trivial, ⟨rfl, trivial⟩, trivial, ⟨rfl, trivial⟩, trivial, ⟨rfl, trivial⟩, trivial, ⟨rfl, trivial⟩, trivial, ⟨rfl, trivial⟩, trivial, ⟨rfl, trivial⟩, trivial, trivial⟩ ⟨OpW.plain (op_move (Ev.t 9 (bB true)) rfl) rfl rfl, OpW.plain (op_move (Ev.t 56 (bB true)) rfl) rfl rfl, OpW.yes (op_move (Ev.t 10 (bI .i64 v47.2)) rfl) rfl rfl rfl, OpW.yes (op_move (Ev.t 7 (bI .i64 v36)) rfl) rfl rfl rfl, OpW.yes (OpL.cast (op_neI (Ev.t 58 (bI .i64 v47.2)) (Ev.t 59 (bI .i64 v36)) rfl) (congrArg (fun b => bB b) hc55)) rfl rfl rfl, OpW.plain (op_pickT (Ev.t 57 (bB true)) (Ev.t 60 (bB false)) rfl) rfl rfl, OpW.plain (op_move (Ev.t 61 (bB false)) rfl) rfl rfl, OpW.no rfl rfl rfl rfl rfl, OpW.no rfl rfl rfl rfl rfl, OpW.no rfl rfl rfl rfl rfl, OpW.no rfl rfl rfl rfl rfl, OpW.no rfl rfl rfl rfl rfl, OpW.no rfl rfl rfl rfl rfl, OpW.no rfl rfl rfl rfl rfl, OpW.no rfl rfl rfl rfl rfl, OpW.plain (op_pickF (Ev.t 62 (bB false)) (Ev.c _ rfl) rfl) rfl rfl, trivial⟩ ⟨rfl, rfl, rfl, rfl, rfl, rfl, rfl, rfl, rfl, trivial⟩ ⟨rfl, trivial⟩ rfl ?_
          refine G.condF rfl ?_
          refine G.skip ?_
          refine G.endBlock ?_
          refine G.region ?_
          refine G.op1 (op_move (Ev.t 10 (bI .i64 v47.2)) rfl) rfl ⟨rfl, trivial⟩ trivial ?_
          refine G.op1 (op_add (Ev.t 46 (bI .i64 v47.2)) (Ev.c _ rfl) rfl) rfl ⟨rfl, trivial⟩ trivial ?_
          refine G.op1 (op_assign (Ev.t 47 (bI .i64 (IntKind.wrap .i64 (v47.2 + 1)))) rfl) rfl ⟨rfl, trivial⟩ trivial ?_
          refine G.endOps ?_
          exact G.arr (J48 (true, IntKind.wrap .i64 (v47.2 + 1)) hF) ⟨rfl, rfl, rfl, rfl, rfl, rfl, rfl, rfl, trivial⟩ ⟨rfl, trivial⟩ rfl
      · refine G.known (t := 9) (c := false) hc54 rfl ?_
        refine G.drawn (effs := [⟨[(9, .one (bB false))], [], [(56, .one (bB false))], []⟩, ⟨[(56, .one (bB false))], [], [(57, .one (bB false))], []⟩, ⟨[(57, .one (bB false))], [], [(58, .one (.x Go.undef))], []⟩, ⟨[(57, .one (bB false))], [], [(59, .one (.x Go.undef))], []⟩, ⟨[(57, .one (bB false))], [], [(60, .one (.x Go.undef))], []⟩, ⟨[(57, .one (bB false))], [], [(61, .one (bB false))], []⟩, ⟨[(61, .one (bB false))], [], [(62, .one (bB false))], []⟩, ⟨[(62, .one (bB false))], [], [(63, .one (.x Go.undef))], []⟩, ⟨[(62, .one (bB false))], [], [(64, .one (.x Go.undef))], []⟩, ⟨[(62, .one (bB false))], [], [(65, .one (.x Go.undef))], []⟩, ⟨[(62, .one (bB false))], [], [(66, .one (.x Go.undef))], []⟩, ⟨[(62, .one (bB false))], [], [(67, .one (.x Go.undef))], []⟩, ⟨[(62, .one (bB false))], [], [(68, .one (.x Go.undef))], []⟩, ⟨[(62, .one (bB false))], [], [(69, .one (.x Go.undef))], []⟩, ⟨[(62, .one (bB false))], [], [(70, .one (.x Go.undef))], []⟩, ⟨[(62, .one (bB false))], [], [(71, .one (bB false))], []⟩]) (deps := [[], [0], [0, 1], [0, 1], [0, 1, 2, 3], [0, 1, 2, 3, 4], [0, 1, 2, 3, 4, 5], [0, 1, 2, 3, 4, 5, 6], [0, 1, 2, 3, 4, 5, 6], [0, 1, 2, 3, 4, 5, 6], [0, 1, 2, 3, 4, 5, 6, 8, 9], [0, 1, 2, 3, 4, 5, 6, 8, 9, 10], [0, 1, 2, 3, 4, 5, 6, 8, 9, 10, 11], [0, 1, 2, 3, 4, 5, 6, 7, 8, 9, 10, 11, 12], [0, 1, 2, 3, 4, 5, 6, 7, 8, 9, 10, 11, 12, 13], [0, 1, 2, 3, 4, 5, 6, 7, 8, 9, 10, 11, 12, 13, 14]]) (sl' := [(3, .one (bB r1)), (4, .one (.g (.d (.sl 6 (List.map encApi_Version r2))))), (5, .one (.g (.d (.sl 3 (List.map encApi_Dep r3))))), (6, .one (.g (.d (.sl 3 (List.map encApi_Dep r4))))), (7, .one (bI .i64 v36)), (8, .one (.ptr 1008 0)), (9, .one (bB false)), (10, .one (bI .i64 v47.2)), (71, .one (bB false))]) (hp' := [(1008, some (.blk 34 [bS r44.1.Key, bS r44.1.Value, bB r44.1.Gone, bI .i64 r44.1.Stamp.N, bI .i64 r44.1.Stamp.Site, .g (.d (.sl 3 (List.map encApi_Dep r44.1.Past)))]))]) follows rfl rfl rfl ⟨⟨rfl, trivial⟩, trivial, ⟨rfl, trivial⟩, trivial, ⟨rfl, trivial⟩, trivial, ⟨rfl, trivial⟩, trivial, ⟨rfl, trivial⟩, trivial, ⟨rfl, trivial⟩, trivial, ⟨rfl, trivial⟩, trivial, ⟨rfl, trivial⟩, trivial, ⟨rfl, trivial⟩, trivial, ⟨rfl, trivial⟩, trivial, ⟨rfl, trivial⟩, trivial, ⟨rfl, trivial⟩, trivial, ⟨rfl, trivial⟩, trivial, ⟨rfl, trivial⟩, trivial, ⟨rfl, trivial⟩, trivial, ⟨rfl, trivial⟩, trivial, trivial⟩ ⟨OpW.plain (op_move (Ev.t 9 (bB false)) rfl) rfl rfl, OpW.plain (op_move (Ev.t 56 (bB false)) rfl) rfl rfl, OpW.no rfl rfl rfl rfl rfl, OpW.no rfl rfl rfl rfl rfl, OpW.no rfl rfl rfl rfl rfl, OpW.plain (op_pickF (Ev.t 57 (bB false)) (Ev.c _ rfl) rfl) rfl rfl, OpW.plain (op_move (Ev.t 61 (bB false)) rfl) rfl rfl, OpW.no rfl rfl rfl rfl rfl, OpW.no rfl rfl rfl rfl rfl, OpW.no rfl rfl rfl rfl rfl, OpW.no rfl rfl rfl rfl rfl, OpW.no rfl rfl rfl rfl rfl, OpW.no rfl rfl rfl rfl rfl, OpW.no rfl rfl rfl rfl rfl, OpW.no rfl rfl rfl rfl rfl, OpW.plain (op_pickF (Ev.t 62 (bB false)) (Ev.c _ rfl) rfl) rfl rfl, trivial⟩ ⟨rfl, rfl, rfl, rfl, rfl, rfl, rfl, rfl, rfl, trivial⟩ ⟨rfl, trivial⟩ rfl ?_
        refine G.condF rfl ?_
        refine G.skip ?_
        refine G.endBlock ?_
        refine G.region ?_
        refine G.op1 (op_move (Ev.t 10 (bI .i64 v47.2)) rfl) rfl ⟨rfl, trivial⟩ trivial ?_
        refine G.op1 (op_add (Ev.t 46 (bI .i64 v47.2)) (Ev.c _ rfl) rfl) rfl ⟨rfl, trivial⟩ trivial ?_
        refine G.op1 (op_assign (Ev.t 47 (bI .i64 (IntKind.wrap .i64 (v47.2 + 1)))) rfl) rfl ⟨rfl, trivial⟩ trivial ?_
        refine G.endOps ?_
        exact G.arr (J48 (false, IntKind.wrap .i64 (v47.2 + 1)) hF) ⟨rfl, rfl, rfl, rfl, rfl, rfl, rfl, rfl, trivial⟩ ⟨rfl, trivial⟩ rfl
    · refine G.cond rfl (fun hx => by rw [hc51] at hx; cases hx) (fun _ => ?_)
      refine G.exit ?_
      refine GX.c ?_
      refine GX.q ?_
      refine GX.bYes ?_
      exact G.arr (J46 () hF) ⟨rfl, rfl, rfl, rfl, rfl, trivial⟩ trivial rfl
  · refine G.cond rfl (fun hx => by rw [hc40] at hx; cases hx) (fun _ => ?_)
    refine G.exit ?_
    refine GX.c ?_
    refine GX.q ?_
    refine GX.bYes ?_
    exact G.arr (J35 () hF) ⟨rfl, rfl, rfl, rfl, trivial⟩ trivial rfl


end Go.Ark
