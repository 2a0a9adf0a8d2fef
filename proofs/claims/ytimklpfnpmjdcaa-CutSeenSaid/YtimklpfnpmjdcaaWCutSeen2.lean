/- Walks, printed by a program of mine: each function of the program computes the typed function of its name. Conditions: none. -/
import Derived.Test.YtimklpfnpmjdcaaWCutSeen1
namespace Go.Ark
open Go Go.Ab Go.RowKit Go.Lib Go.Proofs

set_option maxRecDepth 20000 in
set_option maxHeartbeats 2000000 in
theorem ct_law19_row (l_0 : (List Api_Dep)) (r : (List Api_Dep)) (hF : law19_row l_0 = some r) : Ct Try.prog 11 [.g (.d (.sl 3 (List.map encApi_Dep l_0)))] (.one (.d (.sl 3 (List.map encApi_Dep r)))) := by
  unfold law19_row at hF
  refine Ct.intro Try.func11 rfl Try.ntmps11 rfl rfl fun M w => ?_
  refine G.seq ?_
  refine G.region ?_
  refine G.op1 (op_assign (Ev.n 3) rfl) rfl trivial trivial ?_
  refine G.endOps ?_
  refine G.seq ?_
  refine G.region ?_
  refine G.op1 (op_assign (Ev.n 3) rfl) rfl trivial trivial ?_
  refine G.endOps ?_
  refine G.seq ?_
  refine G.seq ?_
  refine G.region ?_
  refine G.op1 (op_assign (Ev.c _ rfl) rfl) rfl trivial trivial ?_
  refine G.endOps ?_
  refine G.joinC (T := (List Api_Dep)) (fun y1 => ⟨[(3, .one (.g (.d (.sl 3 (List.map encApi_Dep y1)))))], []⟩) (fun y1 => law19_row_k1 y1 = some r) (fun y1 hF => ?_) (fun J2 => ?_)
  · unfold law19_row_k1 at hF
    refine G.seq ?_
    refine G.region ?_
    refine G.op1 (op_move (Ev.t 3 (.g (.d (.sl 3 (List.map encApi_Dep y1))))) rfl) rfl ⟨rfl, trivial⟩ trivial ?_
    refine G.op1 (op_assign (Ev.t 29 (.g (.d (.sl 3 (List.map encApi_Dep y1))))) rfl) rfl ⟨rfl, trivial⟩ trivial ?_
    refine G.endOps ?_
    cases hF
    exact G.ret1 Try.results11 (RVar.tmp 2 _) ⟨rfl, trivial⟩ trivial
  refine G.block ?_
  refine G.keep (sl' := [(0, .one (.g (.d (.sl 3 (List.map encApi_Dep l_0))))), (3, .one (.g (.d (.sl 3 (List.map encApi_Dep ([] : (List Api_Dep))))))), (4, .one (bI .i64 0))]) (hp' := []) ⟨rfl, rfl, rfl, trivial⟩ trivial rfl ?_
  refine G.loopF (fun (v3 : (List Api_Dep) × Int) => ⟨[(0, .one (.g (.d (.sl 3 (List.map encApi_Dep l_0))))), (3, .one (.g (.d (.sl 3 (List.map encApi_Dep v3.1))))), (4, .one (bI .i64 v3.2))], []⟩) hF rfl (fun K6 again5 v3 J4 hF => ?_)
  unfold law19_row_l2 at hF
  refine G.seq ?_
  refine G.seq ?_
  refine G.joinC (T := Bool) (fun y7 => ⟨[(0, .one (.g (.d (.sl 3 (List.map encApi_Dep l_0))))), (3, .one (.g (.d (.sl 3 (List.map encApi_Dep v3.1))))), (4, .one (bI .i64 v3.2)), (12, .one (bB y7))], []⟩) (fun y7 => law19_row_k3 l_0 again5 v3 y7 = some r) (fun y7 hF => ?_) (fun J13 => ?_)
  · unfold law19_row_k3 at hF
    refine ifS hF (fun hc8 hF => ?_) (fun hc8 hF => ?_)
    · refine G.cond rfl (fun _ => ?_) (fun hx => by rw [hc8] at hx; cases hx)
      refine G.skip ?_
      refine G.seq ?_
      refine G.block ?_
      obtain ⟨x9, hx9, hF⟩ := bindS hF
      obtain ⟨r10, hr10, hF⟩ := bindS hF
      obtain ⟨x11, hx11, hF⟩ := bindS hF
      obtain ⟨r12, hr12, hF⟩ := bindS hF
      refine G.drawn (effs := [⟨[(3, .one (.g (.d (.sl 3 (List.map encApi_Dep v3.1)))))], [], [(15, .one (.g (.d (.sl 3 (List.map encApi_Dep v3.1)))))], []⟩, ⟨[(0, .one (.g (.d (.sl 3 (List.map encApi_Dep l_0)))))], [], [(16, .one (.g (.d (.sl 3 (List.map encApi_Dep l_0)))))], []⟩, ⟨[(4, .one (bI .i64 v3.2))], [], [(17, .one (bI .i64 v3.2))], []⟩, ⟨[(16, .one (.g (.d (.sl 3 (List.map encApi_Dep l_0))))), (17, .one (bI .i64 v3.2))], [], [(18, .one (.ep [.v (.string x9.Key), .v (.int .i64 x9.Stamp.N), .v (.int .i64 x9.Stamp.Site)]))], []⟩, ⟨[(18, .one (.ep [.v (.string x9.Key), .v (.int .i64 x9.Stamp.N), .v (.int .i64 x9.Stamp.Site)]))], [], [(19, .one (.ep [.v (.string x9.Key), .v (.int .i64 x9.Stamp.N), .v (.int .i64 x9.Stamp.Site)]))], []⟩, ⟨[(19, .one (.ep [.v (.string x9.Key), .v (.int .i64 x9.Stamp.N), .v (.int .i64 x9.Stamp.Site)]))], [], [(20, .one (bS x9.Key))], []⟩, ⟨[(20, .one (bS x9.Key))], [], [(21, .one (bS r10))], []⟩, ⟨[(0, .one (.g (.d (.sl 3 (List.map encApi_Dep l_0)))))], [], [(22, .one (.g (.d (.sl 3 (List.map encApi_Dep l_0)))))], []⟩, ⟨[(4, .one (bI .i64 v3.2))], [], [(23, .one (bI .i64 v3.2))], []⟩, ⟨[(22, .one (.g (.d (.sl 3 (List.map encApi_Dep l_0))))), (23, .one (bI .i64 v3.2))], [], [(24, .one (.ep [.v (.string x11.Key), .v (.int .i64 x11.Stamp.N), .v (.int .i64 x11.Stamp.Site)]))], []⟩, ⟨[(24, .one (.ep [.v (.string x11.Key), .v (.int .i64 x11.Stamp.N), .v (.int .i64 x11.Stamp.Site)]))], [], [(25, .one (.ep [.v (.int .i64 x11.Stamp.N), .v (.int .i64 x11.Stamp.Site)]))], []⟩, ⟨[(25, .one (.ep [.v (.int .i64 x11.Stamp.N), .v (.int .i64 x11.Stamp.Site)]))], [], [(26, .one (.g (.agg [.v (.int .i64 x11.Stamp.N), .v (.int .i64 x11.Stamp.Site)])))], []⟩, ⟨[(21, .one (bS r10)), (26, .one (.g (.agg [.v (.int .i64 x11.Stamp.N), .v (.int .i64 x11.Stamp.Site)])))], [], [(27, .one (.g (.agg [.v (.string r10), .v (.int .i64 x11.Stamp.N), .v (.int .i64 x11.Stamp.Site)])))], []⟩, ⟨[(15, .one (.g (.d (.sl 3 (List.map encApi_Dep v3.1))))), (27, .one (.g (.agg [.v (.string r10), .v (.int .i64 x11.Stamp.N), .v (.int .i64 x11.Stamp.Site)])))], [], [(28, .one (.g (.d (.sl 3 (List.map encApi_Dep r12)))))], []⟩, ⟨[(28, .one (.g (.d (.sl 3 (List.map encApi_Dep r12)))))], [], [(3, .one (.g (.d (.sl 3 (List.map encApi_Dep r12)))))], []⟩]) (deps := [[], [], [], [1, 2], [1, 2, 3], [1, 2, 3, 4], [1, 2, 3, 4, 5], [], [], [7, 8], [7, 8, 9], [7, 8, 9, 10], [1, 2, 3, 4, 5, 6, 7, 8, 9, 10, 11], [0, 1, 2, 3, 4, 5, 6, 7, 8, 9, 10, 11, 12], [0, 1, 2, 3, 4, 5, 6, 7, 8, 9, 10, 11, 12, 13]]) (sl' := [(0, .one (.g (.d (.sl 3 (List.map encApi_Dep l_0))))), (3, .one (.g (.d (.sl 3 (List.map encApi_Dep r12))))), (4, .one (bI .i64 v3.2))]) (hp' := []) follows rfl rfl rfl ⟨⟨⟨rfl, rfl⟩, trivial⟩, trivial, ⟨rfl, trivial⟩, trivial, ⟨rfl, trivial⟩, trivial, ⟨rfl, rfl, trivial⟩, trivial, ⟨rfl, trivial⟩, trivial, ⟨rfl, trivial⟩, trivial, ⟨rfl, trivial⟩, trivial, ⟨rfl, trivial⟩, trivial, ⟨rfl, trivial⟩, trivial, ⟨rfl, rfl, trivial⟩, trivial, ⟨rfl, trivial⟩, trivial, ⟨rfl, trivial⟩, trivial, ⟨rfl, rfl, trivial⟩, trivial, ⟨rfl, rfl, trivial⟩, trivial, ⟨rfl, trivial⟩, trivial, trivial⟩ ⟨OpW.plain (op_move (Ev.t 3 (.g (.d (.sl 3 (List.map encApi_Dep v3.1))))) rfl) rfl rfl, OpW.plain (op_move (Ev.t 0 (.g (.d (.sl 3 (List.map encApi_Dep l_0))))) rfl) rfl rfl, OpW.plain (op_move (Ev.t 4 (bI .i64 v3.2)) rfl) rfl rfl, OpW.plain (op_index (cs := [.v (.string x9.Key), .v (.int .i64 x9.Stamp.N), .v (.int .i64 x9.Stamp.Site)]) Try.underlying24 ti47 (idx_ok hx9).1 (idx_get hx9 encApi_Dep) (Ev.t 16 (.g (.d (.sl 3 (List.map encApi_Dep l_0))))) (Ev.t 17 (bI .i64 v3.2)) rfl) rfl rfl, OpW.plain (op_fieldE (cs' := [.v (.string x9.Key), .v (.int .i64 x9.Stamp.N), .v (.int .i64 x9.Stamp.Site)]) Try.underlying47 rfl ti9 (by decide) rfl (Ev.t 18 (.ep [.v (.string x9.Key), .v (.int .i64 x9.Stamp.N), .v (.int .i64 x9.Stamp.Site)])) rfl) rfl rfl, OpW.plain (op_load1E (c := .v (.string x9.Key)) Try.underlying9 rfl rfl (Ev.t 19 (.ep [.v (.string x9.Key), .v (.int .i64 x9.Stamp.N), .v (.int .i64 x9.Stamp.Site)])) rfl) rfl rfl, OpW.plain (op_callQ (sv := .one (bS r10)) cf30 (ct_law19_short x9.Key r10 hr10) rfl rfl (EvQL.cons (EvQ.g (Ev.t 20 (bS x9.Key))) EvQL.nil) rfl) rfl rfl, OpW.plain (op_move (Ev.t 0 (.g (.d (.sl 3 (List.map encApi_Dep l_0))))) rfl) rfl rfl, OpW.plain (op_move (Ev.t 4 (bI .i64 v3.2)) rfl) rfl rfl, OpW.plain (op_index (cs := [.v (.string x11.Key), .v (.int .i64 x11.Stamp.N), .v (.int .i64 x11.Stamp.Site)]) Try.underlying24 ti47 (idx_ok hx11).1 (idx_get hx11 encApi_Dep) (Ev.t 22 (.g (.d (.sl 3 (List.map encApi_Dep l_0))))) (Ev.t 23 (bI .i64 v3.2)) rfl) rfl rfl, OpW.plain (op_fieldE (cs' := [.v (.int .i64 x11.Stamp.N), .v (.int .i64 x11.Stamp.Site)]) Try.underlying47 rfl ti35 (by decide) rfl (Ev.t 24 (.ep [.v (.string x11.Key), .v (.int .i64 x11.Stamp.N), .v (.int .i64 x11.Stamp.Site)])) rfl) rfl rfl, OpW.plain (op_loadAE (ds := [.v (.int .i64 x11.Stamp.N), .v (.int .i64 x11.Stamp.Site)]) Try.underlying35 rfl ti35 rfl (Ev.t 25 (.ep [.v (.int .i64 x11.Stamp.N), .v (.int .i64 x11.Stamp.Site)])) rfl) rfl rfl, OpW.plain (op_build (zs := [.v (.string ByteArray.empty), .v (.int .i64 0), .v (.int .i64 0)]) (ds := [.v (.string r10), .v (.int .i64 x11.Stamp.N), .v (.int .i64 x11.Stamp.Site)]) Try.underlying47 ti47 (pl47 _ Try.underlying47) ⟨.v _ rfl, .v _ rfl, .v _ rfl, trivial⟩ (EvP.cons (Ev.t 21 (bS r10)) (EvP.cons (Ev.t 26 (.g (.agg [.v (.int .i64 x11.Stamp.N), .v (.int .i64 x11.Stamp.Site)]))) EvP.nil)) rfl rfl) rfl rfl, OpW.plain (op_call (sv := .one (.g (.d (.sl 3 (List.map encApi_Dep r12))))) cf31 (ct_ref04_Add v3.1 (Api_Dep.mk r10 x11.Stamp) r12 hr12) rfl (EvL.cons (Ev.t 15 (.g (.d (.sl 3 (List.map encApi_Dep v3.1))))) (EvL.cons (Ev.t 27 (.g (.agg [.v (.string r10), .v (.int .i64 x11.Stamp.N), .v (.int .i64 x11.Stamp.Site)]))) EvL.nil)) rfl) rfl rfl, OpW.plain (op_assign (Ev.t 28 (.g (.d (.sl 3 (List.map encApi_Dep r12))))) rfl) rfl rfl, trivial⟩ ⟨rfl, rfl, rfl, trivial⟩ trivial rfl ?_
      refine G.endBlock ?_
      refine G.region ?_
      refine G.op1 (op_move (Ev.t 4 (bI .i64 v3.2)) rfl) rfl ⟨rfl, trivial⟩ trivial ?_
      refine G.op1 (op_add (Ev.t 13 (bI .i64 v3.2)) (Ev.c _ rfl) rfl) rfl ⟨rfl, trivial⟩ trivial ?_
      refine G.op1 (op_assign (Ev.t 14 (bI .i64 (IntKind.wrap .i64 (v3.2 + 1)))) rfl) rfl ⟨rfl, trivial⟩ trivial ?_
      refine G.endOps ?_
      exact G.arr (J4 (r12, IntKind.wrap .i64 (v3.2 + 1)) hF) ⟨rfl, rfl, rfl, trivial⟩ trivial rfl
    · refine G.cond rfl (fun hx => by rw [hc8] at hx; cases hx) (fun _ => ?_)
      refine G.exit ?_
      refine GX.c ?_
      refine GX.q ?_
      refine GX.bYes ?_
      exact G.arr (J2 v3.1 hF) ⟨rfl, trivial⟩ trivial rfl
  refine G.region ?_
  refine G.op1 (op_move (Ev.t 4 (bI .i64 v3.2)) rfl) rfl ⟨rfl, trivial⟩ trivial ?_
  refine G.op1 (op_move (Ev.t 0 (.g (.d (.sl 3 (List.map encApi_Dep l_0))))) rfl) rfl ⟨rfl, trivial⟩ trivial ?_
  refine G.op1 (OpL.cast (op_lenD Try.underlying24 (Ev.t 6 (.g (.d (.sl 3 (List.map encApi_Dep l_0))))) rfl) (by rw [List.length_map])) rfl ⟨rfl, trivial⟩ trivial ?_
  refine G.op1 (op_lss (Ev.t 5 (bI .i64 v3.2)) (Ev.t 7 (bI .i64 (l_0.length : Int))) rfl) rfl ⟨rfl, rfl, trivial⟩ trivial ?_
  refine G.op1 (op_move (Ev.t 8 (bB (decide (v3.2 < (l_0.length : Int))))) rfl) rfl ⟨rfl, trivial⟩ trivial ?_
  refine ifS hF (fun hc14 hF => ?_) (fun hc14 hF => ?_)
  · refine G.known (t := 9) hc14 rfl ?_
    refine G.opG1 (op_move (Ev.t 4 (bI .i64 v3.2)) rfl) rfl rfl rfl ⟨rfl, trivial⟩ trivial ?_
    refine G.opG1 (op_lss (Ev.t 10 (bI .i64 v3.2)) (Ev.c _ rfl) rfl) rfl rfl rfl ⟨rfl, trivial⟩ trivial ?_
    refine G.op1 (op_pickT (Ev.t 9 (bB true)) (Ev.t 11 (bB (decide (v3.2 < 6)))) rfl) rfl ⟨rfl, rfl, trivial⟩ trivial ?_
    refine G.endOps ?_
    exact G.arr (J13 (decide (v3.2 < 6)) hF) ⟨rfl, rfl, rfl, rfl, trivial⟩ trivial rfl
  · refine G.known (t := 9) hc14 rfl ?_
    refine G.opN1 rfl rfl rfl rfl rfl ?_
    refine G.opN1 rfl rfl rfl rfl rfl ?_
    refine G.op1 (op_pickF (Ev.t 9 (bB false)) (Ev.c _ rfl) rfl) rfl ⟨rfl, trivial⟩ trivial ?_
    refine G.endOps ?_
    exact G.arr (J13 false hF) ⟨rfl, rfl, rfl, rfl, trivial⟩ trivial rfl


set_option maxRecDepth 20000 in
set_option maxHeartbeats 2000000 in
theorem ct_ref02_Same (a_0 : (List ByteArray)) (b_1 : (List ByteArray)) (r : Bool) (hF : ref02_Same a_0 b_1 = some r) : Ct Try.prog 16 [.g (.d (.sl 1 (List.map encS a_0))), .g (.d (.sl 1 (List.map encS b_1)))] (.one (.d (.v (.bool r)))) := by
  unfold ref02_Same at hF
  refine Ct.intro Try.func16 rfl Try.ntmps16 rfl rfl fun M w => ?_
  refine G.seq ?_
  refine G.region ?_
  refine G.op1 (op_assign (Ev.c _ rfl) rfl) rfl trivial trivial ?_
  refine G.endOps ?_
  refine G.seq ?_
  refine G.seq ?_
  refine G.region ?_
  refine G.op1 (op_move (Ev.t 0 (.g (.d (.sl 1 (List.map encS a_0))))) rfl) rfl ⟨rfl, trivial⟩ trivial ?_
  refine G.op1 (OpL.cast (op_lenD Try.underlying23 (Ev.t 6 (.g (.d (.sl 1 (List.map encS a_0))))) rfl) (by rw [List.length_map])) rfl ⟨rfl, trivial⟩ trivial ?_
  refine G.op1 (op_move (Ev.t 1 (.g (.d (.sl 1 (List.map encS b_1))))) rfl) rfl ⟨rfl, trivial⟩ trivial ?_
  refine G.op1 (OpL.cast (op_lenD Try.underlying23 (Ev.t 8 (.g (.d (.sl 1 (List.map encS b_1))))) rfl) (by rw [List.length_map])) rfl ⟨rfl, trivial⟩ trivial ?_
  refine G.op1 (op_neI (Ev.t 7 (bI .i64 (a_0.length : Int))) (Ev.t 9 (bI .i64 (b_1.length : Int))) rfl) rfl ⟨rfl, rfl, trivial⟩ trivial ?_
  refine G.endOps ?_
  refine ifS hF (fun hc1 hF => ?_) (fun hc1 hF => ?_)
  · refine G.cond rfl (fun _ => ?_) (fun hx => by rw [hc1] at hx; cases hx)
    refine G.seq ?_
    refine G.region ?_
    refine G.op1 (op_assign (Ev.c _ rfl) rfl) rfl trivial trivial ?_
    refine G.endOps ?_
    cases hF
    exact G.ret1 Try.results16 (RVar.tmp 4 _) ⟨rfl, trivial⟩ trivial
  · refine G.cond rfl (fun hx => by rw [hc1] at hx; cases hx) (fun _ => ?_)
    refine G.skip ?_
    refine G.seq ?_
    refine G.seq ?_
    refine G.region ?_
    refine G.op1 (op_assign (Ev.c _ rfl) rfl) rfl trivial trivial ?_
    refine G.endOps ?_
    refine G.joinC (T := Unit) (fun y2 => ⟨[], []⟩) (fun y2 => ref02_Same_k1 y2 = some r) (fun y2 hF => ?_) (fun J3 => ?_)
    · unfold ref02_Same_k1 at hF
      refine G.seq ?_
      refine G.region ?_
      refine G.op1 (op_assign (Ev.c _ rfl) rfl) rfl trivial trivial ?_
      refine G.endOps ?_
      cases hF
      exact G.ret1 Try.results16 (RVar.tmp 4 _) ⟨rfl, trivial⟩ trivial
    refine G.block ?_
    refine G.keep (sl' := [(0, .one (.g (.d (.sl 1 (List.map encS a_0))))), (1, .one (.g (.d (.sl 1 (List.map encS b_1))))), (5, .one (bI .i64 0))]) (hp' := []) ⟨rfl, rfl, rfl, trivial⟩ trivial rfl ?_
    refine G.loopF (fun (v4 : Int) => ⟨[(0, .one (.g (.d (.sl 1 (List.map encS a_0))))), (1, .one (.g (.d (.sl 1 (List.map encS b_1))))), (5, .one (bI .i64 v4))], []⟩) hF rfl (fun K7 again6 v4 J5 hF => ?_)
    unfold ref02_Same_l2 at hF
    refine G.seq ?_
    refine G.seq ?_
    refine G.region ?_
    refine G.op1 (op_move (Ev.t 5 (bI .i64 v4)) rfl) rfl ⟨rfl, trivial⟩ trivial ?_
    refine G.op1 (op_move (Ev.t 0 (.g (.d (.sl 1 (List.map encS a_0))))) rfl) rfl ⟨rfl, trivial⟩ trivial ?_
    refine G.op1 (OpL.cast (op_lenD Try.underlying23 (Ev.t 12 (.g (.d (.sl 1 (List.map encS a_0))))) rfl) (by rw [List.length_map])) rfl ⟨rfl, trivial⟩ trivial ?_
    refine G.op1 (op_lss (Ev.t 11 (bI .i64 v4)) (Ev.t 13 (bI .i64 (a_0.length : Int))) rfl) rfl ⟨rfl, rfl, trivial⟩ trivial ?_
    refine G.endOps ?_
    refine ifS hF (fun hc8 hF => ?_) (fun hc8 hF => ?_)
    · refine G.cond rfl (fun _ => ?_) (fun hx => by rw [hc8] at hx; cases hx)
      refine G.skip ?_
      refine G.seq ?_
      refine G.block ?_
      refine G.seq ?_
      obtain ⟨x9, hx9, hF⟩ := bindS hF
      obtain ⟨x10, hx10, hF⟩ := bindS hF
      refine G.drawn (effs := [⟨[(0, .one (.g (.d (.sl 1 (List.map encS a_0)))))], [], [(17, .one (.g (.d (.sl 1 (List.map encS a_0)))))], []⟩, ⟨[(5, .one (bI .i64 v4))], [], [(18, .one (bI .i64 v4))], []⟩, ⟨[(17, .one (.g (.d (.sl 1 (List.map encS a_0))))), (18, .one (bI .i64 v4))], [], [(19, .one (.ep [.v (.string x9)]))], []⟩, ⟨[(19, .one (.ep [.v (.string x9)]))], [], [(20, .one (bS x9))], []⟩, ⟨[(1, .one (.g (.d (.sl 1 (List.map encS b_1)))))], [], [(21, .one (.g (.d (.sl 1 (List.map encS b_1)))))], []⟩, ⟨[(5, .one (bI .i64 v4))], [], [(22, .one (bI .i64 v4))], []⟩, ⟨[(21, .one (.g (.d (.sl 1 (List.map encS b_1))))), (22, .one (bI .i64 v4))], [], [(23, .one (.ep [.v (.string x10)]))], []⟩, ⟨[(23, .one (.ep [.v (.string x10)]))], [], [(24, .one (bS x10))], []⟩, ⟨[(20, .one (bS x9)), (24, .one (bS x10))], [], [(25, .one (bB (!seq x9 x10)))], []⟩]) (deps := [[], [], [0, 1], [0, 1, 2], [], [], [4, 5], [4, 5, 6], [0, 1, 2, 3, 4, 5, 6, 7]]) (sl' := [(0, .one (.g (.d (.sl 1 (List.map encS a_0))))), (1, .one (.g (.d (.sl 1 (List.map encS b_1))))), (5, .one (bI .i64 v4)), (25, .one (bB (!seq x9 x10)))]) (hp' := []) follows rfl rfl rfl ⟨⟨rfl, trivial⟩, trivial, ⟨rfl, trivial⟩, trivial, ⟨rfl, rfl, trivial⟩, trivial, ⟨rfl, trivial⟩, trivial, ⟨rfl, trivial⟩, trivial, ⟨rfl, trivial⟩, trivial, ⟨rfl, rfl, trivial⟩, trivial, ⟨rfl, trivial⟩, trivial, ⟨rfl, rfl, trivial⟩, trivial, trivial⟩ ⟨OpW.plain (op_move (Ev.t 0 (.g (.d (.sl 1 (List.map encS a_0))))) rfl) rfl rfl, OpW.plain (op_move (Ev.t 5 (bI .i64 v4)) rfl) rfl rfl, OpW.plain (op_index (cs := [.v (.string x9)]) Try.underlying23 ti9 (idx_ok hx9).1 (idx_get hx9 encS) (Ev.t 17 (.g (.d (.sl 1 (List.map encS a_0))))) (Ev.t 18 (bI .i64 v4)) rfl) rfl rfl, OpW.plain (op_load1E (c := .v (.string x9)) Try.underlying9 rfl rfl (Ev.t 19 (.ep [.v (.string x9)])) rfl) rfl rfl, OpW.plain (op_move (Ev.t 1 (.g (.d (.sl 1 (List.map encS b_1))))) rfl) rfl rfl, OpW.plain (op_move (Ev.t 5 (bI .i64 v4)) rfl) rfl rfl, OpW.plain (op_index (cs := [.v (.string x10)]) Try.underlying23 ti9 (idx_ok hx10).1 (idx_get hx10 encS) (Ev.t 21 (.g (.d (.sl 1 (List.map encS b_1))))) (Ev.t 22 (bI .i64 v4)) rfl) rfl rfl, OpW.plain (op_load1E (c := .v (.string x10)) Try.underlying9 rfl rfl (Ev.t 23 (.ep [.v (.string x10)])) rfl) rfl rfl, OpW.plain (op_neS (Ev.t 20 (bS x9)) (Ev.t 24 (bS x10)) rfl) rfl rfl, trivial⟩ ⟨rfl, rfl, rfl, rfl, trivial⟩ trivial rfl ?_
      refine ifS hF (fun hc11 hF => ?_) (fun hc11 hF => ?_)
      · refine G.cond rfl (fun _ => ?_) (fun hx => by rw [hc11] at hx; cases hx)
        refine G.seq ?_
        refine G.region ?_
        refine G.op1 (op_assign (Ev.c _ rfl) rfl) rfl trivial trivial ?_
        refine G.endOps ?_
        cases hF
        exact G.ret1 Try.results16 (RVar.tmp 4 _) ⟨rfl, trivial⟩ trivial
      · refine G.cond rfl (fun hx => by rw [hc11] at hx; cases hx) (fun _ => ?_)
        refine G.skip ?_
        refine G.endBlock ?_
        refine G.region ?_
        refine G.op1 (op_move (Ev.t 5 (bI .i64 v4)) rfl) rfl ⟨rfl, trivial⟩ trivial ?_
        refine G.op1 (op_add (Ev.t 15 (bI .i64 v4)) (Ev.c _ rfl) rfl) rfl ⟨rfl, trivial⟩ trivial ?_
        refine G.op1 (op_assign (Ev.t 16 (bI .i64 (IntKind.wrap .i64 (v4 + 1)))) rfl) rfl ⟨rfl, trivial⟩ trivial ?_
        refine G.endOps ?_
        exact G.arr (J5 (IntKind.wrap .i64 (v4 + 1)) hF) ⟨rfl, rfl, rfl, trivial⟩ trivial rfl
    · refine G.cond rfl (fun hx => by rw [hc8] at hx; cases hx) (fun _ => ?_)
      refine G.exit ?_
      refine GX.c ?_
      refine GX.q ?_
      refine GX.bYes ?_
      exact G.arr (J3 () hF) trivial trivial rfl


set_option maxRecDepth 20000 in
set_option maxHeartbeats 2000000 in
theorem ct_ref04_Same (p_0 : (List Api_Dep)) (q_1 : (List Api_Dep)) (r : Bool) (hF : ref04_Same p_0 q_1 = some r) : Ct Try.prog 13 [.g (.d (.sl 3 (List.map encApi_Dep p_0))), .g (.d (.sl 3 (List.map encApi_Dep q_1)))] (.one (.d (.v (.bool r)))) := by
  unfold ref04_Same at hF
  refine Ct.intro Try.func13 rfl Try.ntmps13 rfl rfl fun M w => ?_
  refine G.seq ?_
  refine G.region ?_
  refine G.op1 (op_assign (Ev.c _ rfl) rfl) rfl trivial trivial ?_
  refine G.endOps ?_
  refine G.seq ?_
  refine G.seq ?_
  refine G.region ?_
  refine G.op1 (op_move (Ev.t 0 (.g (.d (.sl 3 (List.map encApi_Dep p_0))))) rfl) rfl ⟨rfl, trivial⟩ trivial ?_
  refine G.op1 (OpL.cast (op_lenD Try.underlying24 (Ev.t 6 (.g (.d (.sl 3 (List.map encApi_Dep p_0))))) rfl) (by rw [List.length_map])) rfl ⟨rfl, trivial⟩ trivial ?_
  refine G.op1 (op_move (Ev.t 1 (.g (.d (.sl 3 (List.map encApi_Dep q_1))))) rfl) rfl ⟨rfl, trivial⟩ trivial ?_
  refine G.op1 (OpL.cast (op_lenD Try.underlying24 (Ev.t 8 (.g (.d (.sl 3 (List.map encApi_Dep q_1))))) rfl) (by rw [List.length_map])) rfl ⟨rfl, trivial⟩ trivial ?_
  refine G.op1 (op_neI (Ev.t 7 (bI .i64 (p_0.length : Int))) (Ev.t 9 (bI .i64 (q_1.length : Int))) rfl) rfl ⟨rfl, rfl, trivial⟩ trivial ?_
  refine G.endOps ?_
  refine ifS hF (fun hc1 hF => ?_) (fun hc1 hF => ?_)
  · refine G.cond rfl (fun _ => ?_) (fun hx => by rw [hc1] at hx; cases hx)
    refine G.seq ?_
    refine G.region ?_
    refine G.op1 (op_assign (Ev.c _ rfl) rfl) rfl trivial trivial ?_
    refine G.endOps ?_
    cases hF
    exact G.ret1 Try.results13 (RVar.tmp 4 _) ⟨rfl, trivial⟩ trivial
  · refine G.cond rfl (fun hx => by rw [hc1] at hx; cases hx) (fun _ => ?_)
    refine G.skip ?_
    refine G.seq ?_
    refine G.seq ?_
    refine G.region ?_
    refine G.op1 (op_assign (Ev.c _ rfl) rfl) rfl trivial trivial ?_
    refine G.endOps ?_
    refine G.joinC (T := Unit) (fun y2 => ⟨[], []⟩) (fun y2 => ref04_Same_k1 y2 = some r) (fun y2 hF => ?_) (fun J3 => ?_)
    · unfold ref04_Same_k1 at hF
      refine G.seq ?_
      refine G.region ?_
      refine G.op1 (op_assign (Ev.c _ rfl) rfl) rfl trivial trivial ?_
      refine G.endOps ?_
      cases hF
      exact G.ret1 Try.results13 (RVar.tmp 4 _) ⟨rfl, trivial⟩ trivial
    refine G.block ?_
    refine G.keep (sl' := [(0, .one (.g (.d (.sl 3 (List.map encApi_Dep p_0))))), (1, .one (.g (.d (.sl 3 (List.map encApi_Dep q_1))))), (5, .one (bI .i64 0))]) (hp' := []) ⟨rfl, rfl, rfl, trivial⟩ trivial rfl ?_
    refine G.loopF (fun (v4 : Int) => ⟨[(0, .one (.g (.d (.sl 3 (List.map encApi_Dep p_0))))), (1, .one (.g (.d (.sl 3 (List.map encApi_Dep q_1))))), (5, .one (bI .i64 v4))], []⟩) hF rfl (fun K7 again6 v4 J5 hF => ?_)
    unfold ref04_Same_l2 at hF
    refine G.seq ?_
    refine G.seq ?_
    refine G.region ?_
    refine G.op1 (op_move (Ev.t 5 (bI .i64 v4)) rfl) rfl ⟨rfl, trivial⟩ trivial ?_
    refine G.op1 (op_move (Ev.t 0 (.g (.d (.sl 3 (List.map encApi_Dep p_0))))) rfl) rfl ⟨rfl, trivial⟩ trivial ?_
    refine G.op1 (OpL.cast (op_lenD Try.underlying24 (Ev.t 12 (.g (.d (.sl 3 (List.map encApi_Dep p_0))))) rfl) (by rw [List.length_map])) rfl ⟨rfl, trivial⟩ trivial ?_
    refine G.op1 (op_lss (Ev.t 11 (bI .i64 v4)) (Ev.t 13 (bI .i64 (p_0.length : Int))) rfl) rfl ⟨rfl, rfl, trivial⟩ trivial ?_
    refine G.endOps ?_
    refine ifS hF (fun hc8 hF => ?_) (fun hc8 hF => ?_)
    · refine G.cond rfl (fun _ => ?_) (fun hx => by rw [hc8] at hx; cases hx)
      refine G.skip ?_
      refine G.seq ?_
      refine G.block ?_
      refine G.seq ?_
      obtain ⟨x9, hx9, hF⟩ := bindS hF
      obtain ⟨x10, hx10, hF⟩ := bindS hF
      refine G.drawn (effs := [⟨[(0, .one (.g (.d (.sl 3 (List.map encApi_Dep p_0)))))], [], [(17, .one (.g (.d (.sl 3 (List.map encApi_Dep p_0)))))], []⟩, ⟨[(5, .one (bI .i64 v4))], [], [(18, .one (bI .i64 v4))], []⟩, ⟨[(17, .one (.g (.d (.sl 3 (List.map encApi_Dep p_0))))), (18, .one (bI .i64 v4))], [], [(19, .one (.ep [.v (.string x9.Key), .v (.int .i64 x9.Stamp.N), .v (.int .i64 x9.Stamp.Site)]))], []⟩, ⟨[(19, .one (.ep [.v (.string x9.Key), .v (.int .i64 x9.Stamp.N), .v (.int .i64 x9.Stamp.Site)]))], [], [(20, .one (.g (.agg [.v (.string x9.Key), .v (.int .i64 x9.Stamp.N), .v (.int .i64 x9.Stamp.Site)])))], []⟩, ⟨[(1, .one (.g (.d (.sl 3 (List.map encApi_Dep q_1)))))], [], [(21, .one (.g (.d (.sl 3 (List.map encApi_Dep q_1)))))], []⟩, ⟨[(5, .one (bI .i64 v4))], [], [(22, .one (bI .i64 v4))], []⟩, ⟨[(21, .one (.g (.d (.sl 3 (List.map encApi_Dep q_1))))), (22, .one (bI .i64 v4))], [], [(23, .one (.ep [.v (.string x10.Key), .v (.int .i64 x10.Stamp.N), .v (.int .i64 x10.Stamp.Site)]))], []⟩, ⟨[(23, .one (.ep [.v (.string x10.Key), .v (.int .i64 x10.Stamp.N), .v (.int .i64 x10.Stamp.Site)]))], [], [(24, .one (.g (.agg [.v (.string x10.Key), .v (.int .i64 x10.Stamp.N), .v (.int .i64 x10.Stamp.Site)])))], []⟩, ⟨[(20, .one (.g (.agg [.v (.string x9.Key), .v (.int .i64 x9.Stamp.N), .v (.int .i64 x9.Stamp.Site)]))), (24, .one (.g (.agg [.v (.string x10.Key), .v (.int .i64 x10.Stamp.N), .v (.int .i64 x10.Stamp.Site)])))], [], [(25, .one (bB (!(decide (x9.Key = x10.Key) && decide (x9.Stamp.N = x10.Stamp.N) && decide (x9.Stamp.Site = x10.Stamp.Site)))))], []⟩]) (deps := [[], [], [0, 1], [0, 1, 2], [], [], [4, 5], [4, 5, 6], [0, 1, 2, 3, 4, 5, 6, 7]]) (sl' := [(0, .one (.g (.d (.sl 3 (List.map encApi_Dep p_0))))), (1, .one (.g (.d (.sl 3 (List.map encApi_Dep q_1))))), (5, .one (bI .i64 v4)), (25, .one (bB (!(decide (x9.Key = x10.Key) && decide (x9.Stamp.N = x10.Stamp.N) && decide (x9.Stamp.Site = x10.Stamp.Site)))))]) (hp' := []) follows rfl rfl rfl ⟨⟨rfl, trivial⟩, trivial, ⟨rfl, trivial⟩, trivial, ⟨rfl, rfl, trivial⟩, trivial, ⟨rfl, trivial⟩, trivial, ⟨rfl, trivial⟩, trivial, ⟨rfl, trivial⟩, trivial, ⟨rfl, rfl, trivial⟩, trivial, ⟨rfl, trivial⟩, trivial, ⟨rfl, rfl, trivial⟩, trivial, trivial⟩ ⟨OpW.plain (op_move (Ev.t 0 (.g (.d (.sl 3 (List.map encApi_Dep p_0))))) rfl) rfl rfl, OpW.plain (op_move (Ev.t 5 (bI .i64 v4)) rfl) rfl rfl, OpW.plain (op_index (cs := [.v (.string x9.Key), .v (.int .i64 x9.Stamp.N), .v (.int .i64 x9.Stamp.Site)]) Try.underlying24 ti47 (idx_ok hx9).1 (idx_get hx9 encApi_Dep) (Ev.t 17 (.g (.d (.sl 3 (List.map encApi_Dep p_0))))) (Ev.t 18 (bI .i64 v4)) rfl) rfl rfl, OpW.plain (op_loadAE (ds := [.v (.string x9.Key), .v (.int .i64 x9.Stamp.N), .v (.int .i64 x9.Stamp.Site)]) Try.underlying47 rfl ti47 rfl (Ev.t 19 (.ep [.v (.string x9.Key), .v (.int .i64 x9.Stamp.N), .v (.int .i64 x9.Stamp.Site)])) rfl) rfl rfl, OpW.plain (op_move (Ev.t 1 (.g (.d (.sl 3 (List.map encApi_Dep q_1))))) rfl) rfl rfl, OpW.plain (op_move (Ev.t 5 (bI .i64 v4)) rfl) rfl rfl, OpW.plain (op_index (cs := [.v (.string x10.Key), .v (.int .i64 x10.Stamp.N), .v (.int .i64 x10.Stamp.Site)]) Try.underlying24 ti47 (idx_ok hx10).1 (idx_get hx10 encApi_Dep) (Ev.t 21 (.g (.d (.sl 3 (List.map encApi_Dep q_1))))) (Ev.t 22 (bI .i64 v4)) rfl) rfl rfl, OpW.plain (op_loadAE (ds := [.v (.string x10.Key), .v (.int .i64 x10.Stamp.N), .v (.int .i64 x10.Stamp.Site)]) Try.underlying47 rfl ti47 rfl (Ev.t 23 (.ep [.v (.string x10.Key), .v (.int .i64 x10.Stamp.N), .v (.int .i64 x10.Stamp.Site)])) rfl) rfl rfl, OpW.plain (op_eqA (us := [.string x9.Key, .int .i64 x9.Stamp.N, .int .i64 x9.Stamp.Site]) (vs := [.string x10.Key, .int .i64 x10.Stamp.N, .int .i64 x10.Stamp.Site]) rfl rfl Try.eqGuardType47 (fun w => ne47 x9.Key x9.Stamp.N x9.Stamp.Site x10.Key x10.Stamp.N x10.Stamp.Site w) (Ev.t 20 (.g (.agg [.v (.string x9.Key), .v (.int .i64 x9.Stamp.N), .v (.int .i64 x9.Stamp.Site)]))) (Ev.t 24 (.g (.agg [.v (.string x10.Key), .v (.int .i64 x10.Stamp.N), .v (.int .i64 x10.Stamp.Site)]))) rfl) rfl rfl, trivial⟩ ⟨rfl, rfl, rfl, rfl, trivial⟩ trivial rfl ?_
      refine ifS hF (fun hc11 hF => ?_) (fun hc11 hF => ?_)
      · refine G.cond rfl (fun _ => ?_) (fun hx => by rw [hc11] at hx; cases hx)
        refine G.seq ?_
        refine G.region ?_
        refine G.op1 (op_assign (Ev.c _ rfl) rfl) rfl trivial trivial ?_
        refine G.endOps ?_
        cases hF
        exact G.ret1 Try.results13 (RVar.tmp 4 _) ⟨rfl, trivial⟩ trivial
      · refine G.cond rfl (fun hx => by rw [hc11] at hx; cases hx) (fun _ => ?_)
        refine G.skip ?_
        refine G.endBlock ?_
        refine G.region ?_
        refine G.op1 (op_move (Ev.t 5 (bI .i64 v4)) rfl) rfl ⟨rfl, trivial⟩ trivial ?_
        refine G.op1 (op_add (Ev.t 15 (bI .i64 v4)) (Ev.c _ rfl) rfl) rfl ⟨rfl, trivial⟩ trivial ?_
        refine G.op1 (op_assign (Ev.t 16 (bI .i64 (IntKind.wrap .i64 (v4 + 1)))) rfl) rfl ⟨rfl, trivial⟩ trivial ?_
        refine G.endOps ?_
        exact G.arr (J5 (IntKind.wrap .i64 (v4 + 1)) hF) ⟨rfl, rfl, rfl, trivial⟩ trivial rfl
    · refine G.cond rfl (fun hx => by rw [hc8] at hx; cases hx) (fun _ => ?_)
      refine G.exit ?_
      refine GX.c ?_
      refine GX.q ?_
      refine GX.bYes ?_
      exact G.arr (J3 () hF) trivial trivial rfl


set_option maxRecDepth 20000 in
set_option maxHeartbeats 2000000 in
theorem ct_law19_CutSeen (seen_0 : (List Api_Dep)) (r : Bool) (hF : law19_CutSeen seen_0 = some r) : Ct Try.prog 8 [.g (.d (.sl 3 (List.map encApi_Dep seen_0)))] (.one (.d (.v (.bool r)))) := by
  unfold law19_CutSeen at hF
  refine Ct.intro Try.func8 rfl Try.ntmps8 rfl rfl fun M w => ?_
  refine G.seq ?_
  refine G.region ?_
  refine G.op1 (op_assign (Ev.c _ rfl) rfl) rfl trivial trivial ?_
  refine G.endOps ?_
  refine G.seq ?_
  refine G.region ?_
  obtain ⟨r1, hr1, hF⟩ := bindS hF
  refine G.op1 (op_callQ (sv := .one (bB r1)) cf9 (ct_law19_awake r1 hr1) rfl rfl EvQL.nil rfl) rfl trivial trivial ?_
  refine G.op1 (op_assign (Ev.t 10 (bB r1)) rfl) rfl ⟨rfl, trivial⟩ trivial ?_
  refine G.endOps ?_
  refine G.seq ?_
  refine G.region ?_
  refine G.op1 (op_move (Ev.t 0 (.g (.d (.sl 3 (List.map encApi_Dep seen_0))))) rfl) rfl ⟨rfl, trivial⟩ trivial ?_
  obtain ⟨r2, hr2, hF⟩ := bindS hF
  refine G.op1 (op_call (sv := .one (.g (.d (.sl 3 (List.map encApi_Dep r2))))) cf11 (ct_law19_row seen_0 r2 hr2) rfl (EvL.cons (Ev.t 11 (.g (.d (.sl 3 (List.map encApi_Dep seen_0))))) EvL.nil) rfl) rfl ⟨rfl, trivial⟩ trivial ?_
  refine G.op1 (op_assign (Ev.t 12 (.g (.d (.sl 3 (List.map encApi_Dep r2))))) rfl) rfl ⟨rfl, trivial⟩ trivial ?_
  refine G.endOps ?_
  refine G.seq ?_
  refine G.region ?_
  refine G.op2 (op_assignRow (E := 9) (size := 1) (k := 2005) (ex := false) rfl rfl) rfl trivial ⟨rfl, trivial⟩ ?_
  refine G.endOps ?_
  refine G.seq ?_
  refine G.region ?_
  refine G.op2 (op_assignRow (E := 42) (size := 6) (k := 2006) (ex := false) rfl rfl) rfl trivial ⟨rfl, trivial⟩ ?_
  refine G.endOps ?_
  refine G.seq ?_
  refine G.seq ?_
  refine G.region ?_
  refine G.op1 (op_assign (Ev.c _ rfl) rfl) rfl trivial trivial ?_
  refine G.endOps ?_
  refine G.joinC (T := (List ByteArray) × (List Api_Version)) (fun y3 => ⟨[(3, .one (bB r1)), (4, .one (.g (.d (.sl 3 (List.map encApi_Dep r2))))), (5, .one (.own 2005 (List.map encS y3.1))), (6, .one (.own 2006 (List.map encApi_Version y3.2)))], [(2005, some (.row 9 1 (List.map encS y3.1) false)), (2006, some (.row 42 6 (List.map encApi_Version y3.2) false))]⟩) (fun y3 => law19_CutSeen_k1 r1 r2 y3 = some r) (fun y3 hF => ?_) (fun J31 => ?_)
  · unfold law19_CutSeen_k1 at hF
    refine G.seq ?_
    refine G.region ?_
    refine G.op1 (op_move (Ev.t 5 (.own 2005 (List.map encS y3.1))) rfl) rfl ⟨rfl, trivial⟩ trivial ?_
    refine G.op1 (op_move (Ev.t 4 (.g (.d (.sl 3 (List.map encApi_Dep r2))))) rfl) rfl ⟨rfl, trivial⟩ trivial ?_
    refine G.view (t := 41) rfl rfl ?_
    obtain ⟨r4, hr4, hF⟩ := bindS hF
    refine G.op1 (op_call (sv := .one (.g (.d (.sl 1 (List.map encS r4))))) cf17 (ct_cut_Late y3.1 ([] : (List Api_Version)) r2 r4 hr4) rfl (EvL.cons (Ev.t 41 (.g (.d (.sl 1 (List.map encS y3.1))))) (EvL.cons (Ev.n 6) (EvL.cons (Ev.t 42 (.g (.d (.sl 3 (List.map encApi_Dep r2))))) EvL.nil))) rfl) rfl ⟨rfl, rfl, trivial⟩ trivial ?_
    refine G.op1 (op_move (Ev.t 5 (.own 2005 (List.map encS y3.1))) rfl) rfl ⟨rfl, trivial⟩ trivial ?_
    obtain ⟨r5, hr5, hF⟩ := bindS hF
    refine G.op1 (op_callQ (sv := .one (bB r5)) cf16 (ct_ref02_Same r4 y3.1 r5 hr5) rfl rfl (EvQL.cons (EvQ.g (Ev.t 43 (.g (.d (.sl 1 (List.map encS r4)))))) (EvQL.cons (EvQ.own (Ev.t 44 (.own 2005 (List.map encS y3.1)))) EvQL.nil)) rfl) rfl ⟨rfl, rfl, trivial⟩ ⟨rfl, trivial⟩ ?_
    refine G.op1 (op_assign (Ev.t 45 (bB r5)) rfl) rfl ⟨rfl, trivial⟩ trivial ?_
    refine G.endOps ?_
    refine G.seq ?_
    refine G.seq ?_
    refine G.region ?_
    refine G.op1 (op_assign (Ev.c _ rfl) rfl) rfl trivial trivial ?_
    refine G.endOps ?_
    refine G.joinC (T := Unit) (fun y6 => ⟨[(3, .one (bB r1)), (4, .one (.g (.d (.sl 3 (List.map encApi_Dep r2))))), (5, .one (.own 2005 (List.map encS y3.1))), (6, .one (.own 2006 (List.map encApi_Version y3.2))), (8, .one (bB r5))], [(2005, some (.row 9 1 (List.map encS y3.1) false)), (2006, some (.row 42 6 (List.map encApi_Version y3.2) false))]⟩) (fun y6 => law19_CutSeen_k2 r1 r2 y3 r5 y6 = some r) (fun y6 hF => ?_) (fun J22 => ?_)
    · unfold law19_CutSeen_k2 at hF
      refine G.seq ?_
      refine G.region ?_
      refine G.op1 (op_move (Ev.t 3 (bB r1)) rfl) rfl ⟨rfl, trivial⟩ trivial ?_
      refine G.op1 (op_move (Ev.t 64 (bB r1)) rfl) rfl ⟨rfl, trivial⟩ trivial ?_
      refine G.joinL (T := Bool) 2 (fun y7 => ⟨[(4, .one (.g (.d (.sl 3 (List.map encApi_Dep r2))))), (5, .one (.own 2005 (List.map encS y3.1))), (6, .one (.own 2006 (List.map encApi_Version y3.2))), (67, .one (bB y7))], [(2005, some (.row 9 1 (List.map encS y3.1) false)), (2006, some (.row 42 6 (List.map encApi_Version y3.2) false))]⟩) (fun y7 => law19_CutSeen_k3 r2 y3 y7 = some r) (fun y7 hF => ?_) (fun J20 => ?_)
      · unfold law19_CutSeen_k3 at hF
        refine G.op1 (op_move (Ev.t 67 (bB y7)) rfl) rfl ⟨rfl, trivial⟩ trivial ?_
        refine G.joinL (T := Bool) 5 (fun y8 => ⟨[(4, .one (.g (.d (.sl 3 (List.map encApi_Dep r2))))), (6, .one (.own 2006 (List.map encApi_Version y3.2))), (73, .one (bB y8))], [(2006, some (.row 42 6 (List.map encApi_Version y3.2) false))]⟩) (fun y8 => law19_CutSeen_k4 r2 y3 y8 = some r) (fun y8 hF => ?_) (fun J17 => ?_)
        · unfold law19_CutSeen_k4 at hF
          refine G.op1 (op_move (Ev.t 73 (bB y8)) rfl) rfl ⟨rfl, trivial⟩ trivial ?_
          refine G.joinL (T := Bool) 6 (fun y9 => ⟨[(4, .one (.g (.d (.sl 3 (List.map encApi_Dep r2))))), (6, .one (.own 2006 (List.map encApi_Version y3.2))), (80, .one (bB y9))], [(2006, some (.row 42 6 (List.map encApi_Version y3.2) false))]⟩) (fun y9 => law19_CutSeen_k5 r2 y3 y9 = some r) (fun y9 hF => ?_) (fun J13 => ?_)
          · unfold law19_CutSeen_k5 at hF
            refine G.op1 (op_move (Ev.t 80 (bB y9)) rfl) rfl ⟨rfl, trivial⟩ trivial ?_
            refine ifS hF (fun hc10 hF => ?_) (fun hc10 hF => ?_)
            · refine G.known (t := 81) hc10 rfl ?_
              refine G.opG1 (op_move (Ev.t 6 (.own 2006 (List.map encApi_Version y3.2))) rfl) rfl rfl rfl ⟨rfl, trivial⟩ trivial ?_
              refine G.view (t := 82) rfl rfl ?_
              obtain ⟨r11, hr11, hF⟩ := bindS hF
              refine G.opG1 (op_call (sv := .one (.g (.d (.sl 3 (List.map encApi_Dep r11))))) cf19 (ct_cut_After ([] : (List Api_Dep)) y3.2 r11 hr11) rfl (EvL.cons (Ev.n 3) (EvL.cons (Ev.t 82 (.g (.d (.sl 6 (List.map encApi_Version y3.2))))) EvL.nil)) rfl) rfl rfl rfl ⟨rfl, trivial⟩ trivial ?_
              refine G.opG1 (op_move (Ev.t 4 (.g (.d (.sl 3 (List.map encApi_Dep r2))))) rfl) rfl rfl rfl ⟨rfl, trivial⟩ trivial ?_
              obtain ⟨r12, hr12, hF⟩ := bindS hF
              refine G.opG1 (op_callQ (sv := .one (bB r12)) cf13 (ct_ref04_Same r11 r2 r12 hr12) rfl rfl (EvQL.cons (EvQ.g (Ev.t 83 (.g (.d (.sl 3 (List.map encApi_Dep r11)))))) (EvQL.cons (EvQ.g (Ev.t 84 (.g (.d (.sl 3 (List.map encApi_Dep r2)))))) EvQL.nil)) rfl) rfl rfl rfl ⟨rfl, rfl, trivial⟩ trivial ?_
              refine G.op1 (op_pickT (Ev.t 81 (bB true)) (Ev.t 85 (bB r12)) rfl) rfl ⟨rfl, rfl, trivial⟩ trivial ?_
              refine G.op1 (op_assign (Ev.t 86 (bB r12)) rfl) rfl ⟨rfl, trivial⟩ trivial ?_
              refine G.endOps ?_
              cases hF
              exact G.ret1 Try.results8 (RVar.tmp 2 _) ⟨rfl, trivial⟩ trivial
            · refine G.known (t := 81) hc10 rfl ?_
              refine G.opN1 rfl rfl rfl rfl rfl ?_
              refine G.opN1 rfl rfl rfl rfl rfl ?_
              refine G.opN1 rfl rfl rfl rfl rfl ?_
              refine G.opN1 rfl rfl rfl rfl rfl ?_
              refine G.op1 (op_pickF (Ev.t 81 (bB false)) (Ev.c _ rfl) rfl) rfl ⟨rfl, trivial⟩ trivial ?_
              refine G.op1 (op_assign (Ev.t 86 (bB false)) rfl) rfl ⟨rfl, trivial⟩ trivial ?_
              refine G.endOps ?_
              cases hF
              exact G.ret1 Try.results8 (RVar.tmp 2 _) ⟨rfl, trivial⟩ trivial
          refine ifS hF (fun hc14 hF => ?_) (fun hc14 hF => ?_)
          · refine G.known (t := 74) hc14 rfl ?_
            refine G.opG1 (op_move (Ev.t 4 (.g (.d (.sl 3 (List.map encApi_Dep r2))))) rfl) rfl rfl rfl ⟨rfl, trivial⟩ trivial ?_
            refine G.opG1 (op_move (Ev.t 6 (.own 2006 (List.map encApi_Version y3.2))) rfl) rfl rfl rfl ⟨rfl, trivial⟩ trivial ?_
            refine G.view (t := 76) rfl rfl ?_
            obtain ⟨r15, hr15, hF⟩ := bindS hF
            refine G.opG1 (op_call (sv := .one (.g (.d (.sl 3 (List.map encApi_Dep r15))))) cf19 (ct_cut_After r2 y3.2 r15 hr15) rfl (EvL.cons (Ev.t 75 (.g (.d (.sl 3 (List.map encApi_Dep r2))))) (EvL.cons (Ev.t 76 (.g (.d (.sl 6 (List.map encApi_Version y3.2))))) EvL.nil)) rfl) rfl rfl rfl ⟨rfl, rfl, trivial⟩ trivial ?_
            refine G.opG1 (op_move (Ev.t 4 (.g (.d (.sl 3 (List.map encApi_Dep r2))))) rfl) rfl rfl rfl ⟨rfl, trivial⟩ trivial ?_
            obtain ⟨r16, hr16, hF⟩ := bindS hF
            refine G.opG1 (op_callQ (sv := .one (bB r16)) cf13 (ct_ref04_Same r15 r2 r16 hr16) rfl rfl (EvQL.cons (EvQ.g (Ev.t 77 (.g (.d (.sl 3 (List.map encApi_Dep r15)))))) (EvQL.cons (EvQ.g (Ev.t 78 (.g (.d (.sl 3 (List.map encApi_Dep r2)))))) EvQL.nil)) rfl) rfl rfl rfl ⟨rfl, rfl, trivial⟩ trivial ?_
            refine G.op1 (op_pickT (Ev.t 74 (bB true)) (Ev.t 79 (bB r16)) rfl) rfl ⟨rfl, rfl, trivial⟩ trivial ?_
            exact G.arr (J13 r16 hF) ⟨rfl, rfl, rfl, trivial⟩ ⟨rfl, trivial⟩ rfl
          · refine G.known (t := 74) hc14 rfl ?_
            refine G.opN1 rfl rfl rfl rfl rfl ?_
            refine G.opN1 rfl rfl rfl rfl rfl ?_
            refine G.opN1 rfl rfl rfl rfl rfl ?_
            refine G.opN1 rfl rfl rfl rfl rfl ?_
            refine G.opN1 rfl rfl rfl rfl rfl ?_
            refine G.op1 (op_pickF (Ev.t 74 (bB false)) (Ev.c _ rfl) rfl) rfl ⟨rfl, trivial⟩ trivial ?_
            exact G.arr (J13 false hF) ⟨rfl, rfl, rfl, trivial⟩ ⟨rfl, trivial⟩ rfl
        refine ifS hF (fun hc18 hF => ?_) (fun hc18 hF => ?_)
        · refine G.known (t := 68) hc18 rfl ?_
          refine G.opG1 (op_move (Ev.t 5 (.own 2005 (List.map encS y3.1))) rfl) rfl rfl rfl ⟨rfl, trivial⟩ trivial ?_
          refine G.opG1 (op_move (Ev.t 6 (.own 2006 (List.map encApi_Version y3.2))) rfl) rfl rfl rfl ⟨rfl, trivial⟩ trivial ?_
          refine G.opG1 (op_move (Ev.t 4 (.g (.d (.sl 3 (List.map encApi_Dep r2))))) rfl) rfl rfl rfl ⟨rfl, trivial⟩ trivial ?_
          obtain ⟨r19, hr19, hF⟩ := bindS hF
          refine G.opG1 (op_callQ (sv := .one (bB r19)) cf23 (ct_cut_Check y3.1 y3.2 r2 r19 hr19) rfl rfl (EvQL.cons (EvQ.own (Ev.t 69 (.own 2005 (List.map encS y3.1)))) (EvQL.cons (EvQ.own (Ev.t 70 (.own 2006 (List.map encApi_Version y3.2)))) (EvQL.cons (EvQ.g (Ev.t 71 (.g (.d (.sl 3 (List.map encApi_Dep r2)))))) EvQL.nil))) rfl) rfl rfl rfl ⟨rfl, rfl, rfl, trivial⟩ ⟨rfl, rfl, trivial⟩ ?_
          refine G.op1 (op_pickT (Ev.t 68 (bB true)) (Ev.t 72 (bB r19)) rfl) rfl ⟨rfl, rfl, trivial⟩ trivial ?_
          exact G.arr (J17 r19 hF) ⟨rfl, rfl, rfl, trivial⟩ ⟨rfl, trivial⟩ rfl
        · refine G.known (t := 68) hc18 rfl ?_
          refine G.opN1 rfl rfl rfl rfl rfl ?_
          refine G.opN1 rfl rfl rfl rfl rfl ?_
          refine G.opN1 rfl rfl rfl rfl rfl ?_
          refine G.opN1 rfl rfl rfl rfl rfl ?_
          refine G.op1 (op_pickF (Ev.t 68 (bB false)) (Ev.c _ rfl) rfl) rfl ⟨rfl, trivial⟩ trivial ?_
          exact G.arr (J17 false hF) ⟨rfl, rfl, rfl, trivial⟩ ⟨rfl, trivial⟩ rfl
      refine ifS hF (fun hc21 hF => ?_) (fun hc21 hF => ?_)
      · refine G.known (t := 65) hc21 rfl ?_
        refine G.opG1 (op_move (Ev.t 8 (bB r5)) rfl) rfl rfl rfl ⟨rfl, trivial⟩ trivial ?_
        refine G.op1 (op_pickT (Ev.t 65 (bB true)) (Ev.t 66 (bB r5)) rfl) rfl ⟨rfl, rfl, trivial⟩ trivial ?_
        exact G.arr (J20 r5 hF) ⟨rfl, rfl, rfl, rfl, trivial⟩ ⟨rfl, rfl, trivial⟩ rfl
      · refine G.known (t := 65) hc21 rfl ?_
        refine G.opN1 rfl rfl rfl rfl rfl ?_
        refine G.op1 (op_pickF (Ev.t 65 (bB false)) (Ev.c _ rfl) rfl) rfl ⟨rfl, trivial⟩ trivial ?_
        exact G.arr (J20 false hF) ⟨rfl, rfl, rfl, rfl, trivial⟩ ⟨rfl, rfl, trivial⟩ rfl
    refine G.block ?_
    refine G.keep (sl' := [(3, .one (bB r1)), (4, .one (.g (.d (.sl 3 (List.map encApi_Dep r2))))), (5, .one (.own 2005 (List.map encS y3.1))), (6, .one (.own 2006 (List.map encApi_Version y3.2))), (8, .one (bB r5)), (9, .one (bI .i64 0))]) (hp' := [(2005, some (.row 9 1 (List.map encS y3.1) false)), (2006, some (.row 42 6 (List.map encApi_Version y3.2) false))]) ⟨rfl, rfl, rfl, rfl, rfl, rfl, trivial⟩ ⟨rfl, rfl, trivial⟩ rfl ?_
    refine G.loopF (fun (v23 : Int) => ⟨[(3, .one (bB r1)), (4, .one (.g (.d (.sl 3 (List.map encApi_Dep r2))))), (5, .one (.own 2005 (List.map encS y3.1))), (6, .one (.own 2006 (List.map encApi_Version y3.2))), (8, .one (bB r5)), (9, .one (bI .i64 v23))], [(2005, some (.row 9 1 (List.map encS y3.1) false)), (2006, some (.row 42 6 (List.map encApi_Version y3.2) false))]⟩) hF rfl (fun K26 again25 v23 J24 hF => ?_)
    unfold law19_CutSeen_l6 at hF
    refine G.seq ?_
    refine G.seq ?_
    refine G.region ?_
    refine G.op1 (op_move (Ev.t 9 (bI .i64 v23)) rfl) rfl ⟨rfl, trivial⟩ trivial ?_
    refine G.op1 (op_move (Ev.t 6 (.own 2006 (List.map encApi_Version y3.2))) rfl) rfl ⟨rfl, trivial⟩ trivial ?_
    refine G.op1 (OpL.cast (op_lenO Try.underlying22 (Ev.t 47 (.own 2006 (List.map encApi_Version y3.2))) rfl) (by rw [List.length_map])) rfl ⟨rfl, trivial⟩ ⟨rfl, trivial⟩ ?_
    refine G.op1 (op_lss (Ev.t 46 (bI .i64 v23)) (Ev.t 48 (bI .i64 (y3.2.length : Int))) rfl) rfl ⟨rfl, rfl, trivial⟩ trivial ?_
    refine G.endOps ?_
    refine ifS hF (fun hc27 hF => ?_) (fun hc27 hF => ?_)
    · refine G.cond rfl (fun _ => ?_) (fun hx => by rw [hc27] at hx; cases hx)
      refine G.skip ?_
      refine G.seq ?_
      refine G.block ?_
      refine G.seq ?_
      refine G.region ?_
      refine G.op1 (op_move (Ev.t 5 (.own 2005 (List.map encS y3.1))) rfl) rfl ⟨rfl, trivial⟩ trivial ?_
      refine G.op1 (op_move (Ev.t 6 (.own 2006 (List.map encApi_Version y3.2))) rfl) rfl ⟨rfl, trivial⟩ trivial ?_
      refine G.op1 (op_move (Ev.t 9 (bI .i64 v23)) rfl) rfl ⟨rfl, trivial⟩ trivial ?_
      refine G.view (t := 53) rfl rfl ?_
      obtain ⟨l28, hl28, hF⟩ := bindS hF
      refine G.op1 (op_sliceD (lo := none) (hi := some v23) Try.underlying22 ti42 (sub_ok hl28 encApi_Version).1 (sub_ok hl28 encApi_Version).2.1 (sub_ok hl28 encApi_Version).2.2.1 (sub_ok hl28 encApi_Version).2.2.2 (Ev.t 53 (.g (.d (.sl 6 (List.map encApi_Version y3.2))))) EvO.none (EvO.some (Ev.t 54 (bI .i64 v23))) rfl) rfl ⟨rfl, rfl, trivial⟩ trivial ?_
      refine G.op1 (op_move (Ev.t 4 (.g (.d (.sl 3 (List.map encApi_Dep r2))))) rfl) rfl ⟨rfl, trivial⟩ trivial ?_
      refine G.view (t := 52) rfl rfl ?_
      obtain ⟨r29, hr29, hF⟩ := bindS hF
      refine G.op1 (op_call (sv := .one (.g (.d (.sl 1 (List.map encS r29))))) cf17 (ct_cut_Late y3.1 l28 r2 r29 hr29) rfl (EvL.cons (Ev.t 52 (.g (.d (.sl 1 (List.map encS y3.1))))) (EvL.cons (Ev.t 55 (.g (.d (.sl 6 (List.map encApi_Version l28))))) (EvL.cons (Ev.t 56 (.g (.d (.sl 3 (List.map encApi_Dep r2))))) EvL.nil))) rfl) rfl ⟨rfl, rfl, rfl, trivial⟩ trivial ?_
      refine G.op1 (OpL.cast (op_lenD Try.underlying23 (Ev.t 57 (.g (.d (.sl 1 (List.map encS r29))))) rfl) (by rw [List.length_map])) rfl ⟨rfl, trivial⟩ trivial ?_
      refine G.op1 (op_move (Ev.t 5 (.own 2005 (List.map encS y3.1))) rfl) rfl ⟨rfl, trivial⟩ trivial ?_
      refine G.op1 (OpL.cast (op_lenO Try.underlying23 (Ev.t 59 (.own 2005 (List.map encS y3.1))) rfl) (by rw [List.length_map])) rfl ⟨rfl, trivial⟩ ⟨rfl, trivial⟩ ?_
      refine G.op1 (op_move (Ev.t 9 (bI .i64 v23)) rfl) rfl ⟨rfl, trivial⟩ trivial ?_
      refine G.op1 (op_sub (Ev.t 60 (bI .i64 (y3.1.length : Int))) (Ev.t 61 (bI .i64 v23)) rfl) rfl ⟨rfl, rfl, trivial⟩ trivial ?_
      refine G.op1 (op_neI (Ev.t 58 (bI .i64 (r29.length : Int))) (Ev.t 62 (bI .i64 (IntKind.wrap .i64 ((y3.1.length : Int) - v23)))) rfl) rfl ⟨rfl, rfl, trivial⟩ trivial ?_
      refine G.endOps ?_
      refine ifS hF (fun hc30 hF => ?_) (fun hc30 hF => ?_)
      · refine G.cond rfl (fun _ => ?_) (fun hx => by rw [hc30] at hx; cases hx)
        refine G.seq ?_
        refine G.region ?_
        refine G.op1 (op_assign (Ev.c _ rfl) rfl) rfl trivial trivial ?_
        refine G.endOps ?_
        cases hF
        exact G.ret1 Try.results8 (RVar.tmp 2 _) ⟨rfl, trivial⟩ trivial
      · refine G.cond rfl (fun hx => by rw [hc30] at hx; cases hx) (fun _ => ?_)
        refine G.skip ?_
        refine G.endBlock ?_
        refine G.region ?_
        refine G.op1 (op_move (Ev.t 9 (bI .i64 v23)) rfl) rfl ⟨rfl, trivial⟩ trivial ?_
        refine G.op1 (op_add (Ev.t 50 (bI .i64 v23)) (Ev.c _ rfl) rfl) rfl ⟨rfl, trivial⟩ trivial ?_
        refine G.op1 (op_assign (Ev.t 51 (bI .i64 (IntKind.wrap .i64 (v23 + 1)))) rfl) rfl ⟨rfl, trivial⟩ trivial ?_
        refine G.endOps ?_
        exact G.arr (J24 (IntKind.wrap .i64 (v23 + 1)) hF) ⟨rfl, rfl, rfl, rfl, rfl, rfl, trivial⟩ ⟨rfl, rfl, trivial⟩ rfl
    · refine G.cond rfl (fun hx => by rw [hc27] at hx; cases hx) (fun _ => ?_)
      refine G.exit ?_
      refine GX.c ?_
      refine GX.q ?_
      refine GX.bYes ?_
      exact G.arr (J22 () hF) ⟨rfl, rfl, rfl, rfl, rfl, trivial⟩ ⟨rfl, rfl, trivial⟩ rfl
  refine G.block ?_
  refine G.keep (sl' := [(3, .one (bB r1)), (4, .one (.g (.d (.sl 3 (List.map encApi_Dep r2))))), (5, .one (.own 2005 (List.map encS ([] : (List ByteArray))))), (6, .one (.own 2006 (List.map encApi_Version ([] : (List Api_Version))))), (7, .one (bI .i64 0))]) (hp' := [(2005, some (.row 9 1 (List.map encS ([] : (List ByteArray))) false)), (2006, some (.row 42 6 (List.map encApi_Version ([] : (List Api_Version))) false))]) ⟨rfl, rfl, rfl, rfl, rfl, trivial⟩ ⟨rfl, rfl, trivial⟩ rfl ?_
  refine G.loopF (fun (v32 : Int × (List ByteArray) × (List Api_Version)) => ⟨[(3, .one (bB r1)), (4, .one (.g (.d (.sl 3 (List.map encApi_Dep r2))))), (5, .one (.own 2005 (List.map encS v32.2.1))), (6, .one (.own 2006 (List.map encApi_Version v32.2.2))), (7, .one (bI .i64 v32.1))], [(2005, some (.row 9 1 (List.map encS v32.2.1) false)), (2006, some (.row 42 6 (List.map encApi_Version v32.2.2) false))]⟩) hF rfl (fun K35 again34 v32 J33 hF => ?_)
  unfold law19_CutSeen_l7 at hF
  refine G.seq ?_
  refine G.seq ?_
  refine G.region ?_
  refine G.op1 (op_move (Ev.t 7 (bI .i64 v32.1)) rfl) rfl ⟨rfl, trivial⟩ trivial ?_
  refine G.op1 (op_move (Ev.t 4 (.g (.d (.sl 3 (List.map encApi_Dep r2))))) rfl) rfl ⟨rfl, trivial⟩ trivial ?_
  refine G.op1 (OpL.cast (op_lenD Try.underlying24 (Ev.t 14 (.g (.d (.sl 3 (List.map encApi_Dep r2))))) rfl) (by rw [List.length_map])) rfl ⟨rfl, trivial⟩ trivial ?_
  refine G.op1 (op_lss (Ev.t 13 (bI .i64 v32.1)) (Ev.t 15 (bI .i64 (r2.length : Int))) rfl) rfl ⟨rfl, rfl, trivial⟩ trivial ?_
  refine G.endOps ?_
  refine ifS hF (fun hc36 hF => ?_) (fun hc36 hF => ?_)
  · refine G.cond rfl (fun _ => ?_) (fun hx => by rw [hc36] at hx; cases hx)
    refine G.skip ?_
    refine G.seq ?_
    refine G.block ?_
    refine G.seq ?_
    refine G.region ?_
    refine G.op1 (op_move (Ev.t 5 (.own 2005 (List.map encS v32.2.1))) rfl) rfl ⟨rfl, trivial⟩ trivial ?_
    refine G.op1 (op_move (Ev.t 4 (.g (.d (.sl 3 (List.map encApi_Dep r2))))) rfl) rfl ⟨rfl, trivial⟩ trivial ?_
    refine G.op1 (op_move (Ev.t 7 (bI .i64 v32.1)) rfl) rfl ⟨rfl, trivial⟩ trivial ?_
    obtain ⟨x37, hx37, hF⟩ := bindS hF
    refine G.op1 (op_index (cs := [.v (.string x37.Key), .v (.int .i64 x37.Stamp.N), .v (.int .i64 x37.Stamp.Site)]) Try.underlying24 ti47 (idx_ok hx37).1 (idx_get hx37 encApi_Dep) (Ev.t 20 (.g (.d (.sl 3 (List.map encApi_Dep r2))))) (Ev.t 21 (bI .i64 v32.1)) rfl) rfl ⟨rfl, rfl, trivial⟩ trivial ?_
    refine G.op1 (op_fieldE (cs' := [.v (.string x37.Key), .v (.int .i64 x37.Stamp.N), .v (.int .i64 x37.Stamp.Site)]) Try.underlying47 rfl ti9 (by decide) rfl (Ev.t 22 (.ep [.v (.string x37.Key), .v (.int .i64 x37.Stamp.N), .v (.int .i64 x37.Stamp.Site)])) rfl) rfl ⟨rfl, trivial⟩ trivial ?_
    refine G.op1 (op_load1E (c := .v (.string x37.Key)) Try.underlying9 rfl rfl (Ev.t 23 (.ep [.v (.string x37.Key), .v (.int .i64 x37.Stamp.N), .v (.int .i64 x37.Stamp.Site)])) rfl) rfl ⟨rfl, trivial⟩ trivial ?_
    refine G.op1 (op_buildSlice (es := List.map encS [x37.Key]) Try.underlying23 ti9 rfl rfl (EvP.cons (Ev.t 24 (bS x37.Key)) EvP.nil) rfl rfl (by simp [encS]) rfl) rfl ⟨rfl, trivial⟩ trivial ?_
    obtain ⟨l38, hl38, hF⟩ := bindS hF
    refine G.op2 (op_appendO Try.underlying23 ti9 rfl (app_map hl38 encS) (app_b1 hl38 encS) (app_b2 hl38 encS) (Ev.t 19 (.own 2005 (List.map encS v32.2.1))) (Ev.t 25 (.g (.d (.sl 1 (List.map encS ([x37.Key])))))) rfl) rfl ⟨rfl, rfl, trivial⟩ ⟨rfl, trivial⟩ ?_
    refine G.op1 (op_assign (Ev.t 26 (.own 2005 (List.map encS l38))) rfl) rfl ⟨rfl, trivial⟩ trivial ?_
    refine G.endOps ?_
    obtain ⟨x39, hx39, hF⟩ := bindS hF
    obtain ⟨x40, hx40, hF⟩ := bindS hF
    obtain ⟨l41, hl41, hF⟩ := bindS hF
    refine G.drawn (effs := [⟨[(6, .one (.own 2006 (List.map encApi_Version v32.2.2)))], [], [(27, .one (.own 2006 (List.map encApi_Version v32.2.2)))], []⟩, ⟨[(4, .one (.g (.d (.sl 3 (List.map encApi_Dep r2)))))], [], [(28, .one (.g (.d (.sl 3 (List.map encApi_Dep r2)))))], []⟩, ⟨[(7, .one (bI .i64 v32.1))], [], [(29, .one (bI .i64 v32.1))], []⟩, ⟨[(28, .one (.g (.d (.sl 3 (List.map encApi_Dep r2))))), (29, .one (bI .i64 v32.1))], [], [(30, .one (.ep [.v (.string x39.Key), .v (.int .i64 x39.Stamp.N), .v (.int .i64 x39.Stamp.Site)]))], []⟩, ⟨[(30, .one (.ep [.v (.string x39.Key), .v (.int .i64 x39.Stamp.N), .v (.int .i64 x39.Stamp.Site)]))], [], [(31, .one (.ep [.v (.string x39.Key), .v (.int .i64 x39.Stamp.N), .v (.int .i64 x39.Stamp.Site)]))], []⟩, ⟨[(31, .one (.ep [.v (.string x39.Key), .v (.int .i64 x39.Stamp.N), .v (.int .i64 x39.Stamp.Site)]))], [], [(32, .one (bS x39.Key))], []⟩, ⟨[(4, .one (.g (.d (.sl 3 (List.map encApi_Dep r2)))))], [], [(33, .one (.g (.d (.sl 3 (List.map encApi_Dep r2)))))], []⟩, ⟨[(7, .one (bI .i64 v32.1))], [], [(34, .one (bI .i64 v32.1))], []⟩, ⟨[(33, .one (.g (.d (.sl 3 (List.map encApi_Dep r2))))), (34, .one (bI .i64 v32.1))], [], [(35, .one (.ep [.v (.string x40.Key), .v (.int .i64 x40.Stamp.N), .v (.int .i64 x40.Stamp.Site)]))], []⟩, ⟨[(35, .one (.ep [.v (.string x40.Key), .v (.int .i64 x40.Stamp.N), .v (.int .i64 x40.Stamp.Site)]))], [], [(36, .one (.ep [.v (.int .i64 x40.Stamp.N), .v (.int .i64 x40.Stamp.Site)]))], []⟩, ⟨[(36, .one (.ep [.v (.int .i64 x40.Stamp.N), .v (.int .i64 x40.Stamp.Site)]))], [], [(37, .one (.g (.agg [.v (.int .i64 x40.Stamp.N), .v (.int .i64 x40.Stamp.Site)])))], []⟩, ⟨[(32, .one (bS x39.Key)), (37, .one (.g (.agg [.v (.int .i64 x40.Stamp.N), .v (.int .i64 x40.Stamp.Site)])))], [], [(38, .one (.g (.agg [.v (.string x39.Key), .v (.string ByteArray.empty), .v (.bool false), .v (.int .i64 x40.Stamp.N), .v (.int .i64 x40.Stamp.Site), .sl 3 (List.map encApi_Dep ([] : (List Api_Dep)))])))], []⟩, ⟨[(38, .one (.g (.agg [.v (.string x39.Key), .v (.string ByteArray.empty), .v (.bool false), .v (.int .i64 x40.Stamp.N), .v (.int .i64 x40.Stamp.Site), .sl 3 (List.map encApi_Dep ([] : (List Api_Dep)))])))], [], [(39, .one (.g (.d (.sl 6 (List.map encApi_Version ([(Api_Version.mk x39.Key ByteArray.empty false x40.Stamp ([] : (List Api_Dep)))]))))))], []⟩, ⟨[(27, .one (.own 2006 (List.map encApi_Version v32.2.2))), (39, .one (.g (.d (.sl 6 (List.map encApi_Version ([(Api_Version.mk x39.Key ByteArray.empty false x40.Stamp ([] : (List Api_Dep)))]))))))], [(2006, some (.row 42 6 (List.map encApi_Version v32.2.2) false))], [(40, .one (.own 2006 (List.map encApi_Version l41)))], [(2006, some (.row 42 6 (List.map encApi_Version l41) false))]⟩, ⟨[(40, .one (.own 2006 (List.map encApi_Version l41)))], [], [(6, .one (.own 2006 (List.map encApi_Version l41)))], []⟩]) (deps := [[], [], [], [1, 2], [1, 2, 3], [1, 2, 3, 4], [], [], [6, 7], [6, 7, 8], [6, 7, 8, 9], [1, 2, 3, 4, 5, 6, 7, 8, 9, 10], [1, 2, 3, 4, 5, 6, 7, 8, 9, 10, 11], [0, 1, 2, 3, 4, 5, 6, 7, 8, 9, 10, 11, 12], [0, 1, 2, 3, 4, 5, 6, 7, 8, 9, 10, 11, 12, 13]]) (sl' := [(3, .one (bB r1)), (4, .one (.g (.d (.sl 3 (List.map encApi_Dep r2))))), (5, .one (.own 2005 (List.map encS l38))), (6, .one (.own 2006 (List.map encApi_Version l41))), (7, .one (bI .i64 v32.1))]) (hp' := [(2005, some (.row 9 1 (List.map encS l38) false)), (2006, some (.row 42 6 (List.map encApi_Version l41) false))]) follows rfl rfl rfl ⟨⟨⟨rfl, rfl⟩, trivial⟩, trivial, ⟨rfl, trivial⟩, trivial, ⟨rfl, trivial⟩, trivial, ⟨rfl, rfl, trivial⟩, trivial, ⟨rfl, trivial⟩, trivial, ⟨rfl, trivial⟩, trivial, ⟨rfl, trivial⟩, trivial, ⟨rfl, trivial⟩, trivial, ⟨rfl, rfl, trivial⟩, trivial, ⟨rfl, trivial⟩, trivial, ⟨rfl, trivial⟩, trivial, ⟨rfl, rfl, trivial⟩, trivial, ⟨rfl, trivial⟩, trivial, ⟨rfl, rfl, trivial⟩, ⟨⟨rfl, rfl⟩, trivial⟩, ⟨rfl, trivial⟩, trivial, trivial⟩ ⟨OpW.plain (op_move (Ev.t 6 (.own 2006 (List.map encApi_Version v32.2.2))) rfl) rfl rfl, OpW.plain (op_move (Ev.t 4 (.g (.d (.sl 3 (List.map encApi_Dep r2))))) rfl) rfl rfl, OpW.plain (op_move (Ev.t 7 (bI .i64 v32.1)) rfl) rfl rfl, OpW.plain (op_index (cs := [.v (.string x39.Key), .v (.int .i64 x39.Stamp.N), .v (.int .i64 x39.Stamp.Site)]) Try.underlying24 ti47 (idx_ok hx39).1 (idx_get hx39 encApi_Dep) (Ev.t 28 (.g (.d (.sl 3 (List.map encApi_Dep r2))))) (Ev.t 29 (bI .i64 v32.1)) rfl) rfl rfl, OpW.plain (op_fieldE (cs' := [.v (.string x39.Key), .v (.int .i64 x39.Stamp.N), .v (.int .i64 x39.Stamp.Site)]) Try.underlying47 rfl ti9 (by decide) rfl (Ev.t 30 (.ep [.v (.string x39.Key), .v (.int .i64 x39.Stamp.N), .v (.int .i64 x39.Stamp.Site)])) rfl) rfl rfl, OpW.plain (op_load1E (c := .v (.string x39.Key)) Try.underlying9 rfl rfl (Ev.t 31 (.ep [.v (.string x39.Key), .v (.int .i64 x39.Stamp.N), .v (.int .i64 x39.Stamp.Site)])) rfl) rfl rfl, OpW.plain (op_move (Ev.t 4 (.g (.d (.sl 3 (List.map encApi_Dep r2))))) rfl) rfl rfl, OpW.plain (op_move (Ev.t 7 (bI .i64 v32.1)) rfl) rfl rfl, OpW.plain (op_index (cs := [.v (.string x40.Key), .v (.int .i64 x40.Stamp.N), .v (.int .i64 x40.Stamp.Site)]) Try.underlying24 ti47 (idx_ok hx40).1 (idx_get hx40 encApi_Dep) (Ev.t 33 (.g (.d (.sl 3 (List.map encApi_Dep r2))))) (Ev.t 34 (bI .i64 v32.1)) rfl) rfl rfl, OpW.plain (op_fieldE (cs' := [.v (.int .i64 x40.Stamp.N), .v (.int .i64 x40.Stamp.Site)]) Try.underlying47 rfl ti35 (by decide) rfl (Ev.t 35 (.ep [.v (.string x40.Key), .v (.int .i64 x40.Stamp.N), .v (.int .i64 x40.Stamp.Site)])) rfl) rfl rfl, OpW.plain (op_loadAE (ds := [.v (.int .i64 x40.Stamp.N), .v (.int .i64 x40.Stamp.Site)]) Try.underlying35 rfl ti35 rfl (Ev.t 36 (.ep [.v (.int .i64 x40.Stamp.N), .v (.int .i64 x40.Stamp.Site)])) rfl) rfl rfl, OpW.plain (op_build (zs := [.v (.string ByteArray.empty), .v (.string ByteArray.empty), .v (.bool false), .v (.int .i64 0), .v (.int .i64 0), .sl 3 (List.map encApi_Dep ([] : (List Api_Dep)))]) (ds := [.v (.string x39.Key), .v (.string ByteArray.empty), .v (.bool false), .v (.int .i64 x40.Stamp.N), .v (.int .i64 x40.Stamp.Site), .sl 3 (List.map encApi_Dep ([] : (List Api_Dep)))]) Try.underlying42 ti42 (pl42 _ Try.underlying42) ⟨.v _ rfl, .v _ rfl, .v _ rfl, .v _ rfl, .v _ rfl, .n 3, trivial⟩ (EvP.cons (Ev.t 32 (bS x39.Key)) (EvP.cons (Ev.t 37 (.g (.agg [.v (.int .i64 x40.Stamp.N), .v (.int .i64 x40.Stamp.Site)]))) EvP.nil)) rfl rfl) rfl rfl, OpW.plain (op_buildSlice (es := List.map encApi_Version [(Api_Version.mk x39.Key ByteArray.empty false x40.Stamp ([] : (List Api_Dep)))]) Try.underlying22 ti42 rfl rfl (EvP.cons (Ev.t 38 (.g (.agg [.v (.string x39.Key), .v (.string ByteArray.empty), .v (.bool false), .v (.int .i64 x40.Stamp.N), .v (.int .i64 x40.Stamp.Site), .sl 3 (List.map encApi_Dep ([] : (List Api_Dep)))]))) EvP.nil) rfl rfl (by simp [encApi_Version]) rfl) rfl rfl, OpW.plain (op_appendO Try.underlying22 ti42 rfl (app_map hl41 encApi_Version) (app_b1 hl41 encApi_Version) (app_b2 hl41 encApi_Version) (Ev.t 27 (.own 2006 (List.map encApi_Version v32.2.2))) (Ev.t 39 (.g (.d (.sl 6 (List.map encApi_Version ([(Api_Version.mk x39.Key ByteArray.empty false x40.Stamp ([] : (List Api_Dep)))])))))) rfl) rfl rfl, OpW.plain (op_assign (Ev.t 40 (.own 2006 (List.map encApi_Version l41))) rfl) rfl rfl, trivial⟩ ⟨rfl, rfl, rfl, rfl, rfl, trivial⟩ ⟨rfl, rfl, trivial⟩ rfl ?_
    refine G.endBlock ?_
    refine G.region ?_
    refine G.op1 (op_move (Ev.t 7 (bI .i64 v32.1)) rfl) rfl ⟨rfl, trivial⟩ trivial ?_
    refine G.op1 (op_add (Ev.t 17 (bI .i64 v32.1)) (Ev.c _ rfl) rfl) rfl ⟨rfl, trivial⟩ trivial ?_
    refine G.op1 (op_assign (Ev.t 18 (bI .i64 (IntKind.wrap .i64 (v32.1 + 1)))) rfl) rfl ⟨rfl, trivial⟩ trivial ?_
    refine G.endOps ?_
    exact G.arr (J33 (IntKind.wrap .i64 (v32.1 + 1), l38, l41) hF) ⟨rfl, rfl, rfl, rfl, rfl, trivial⟩ ⟨rfl, rfl, trivial⟩ rfl
  · refine G.cond rfl (fun hx => by rw [hc36] at hx; cases hx) (fun _ => ?_)
    refine G.exit ?_
    refine GX.c ?_
    refine GX.q ?_
    refine GX.bYes ?_
    exact G.arr (J31 (v32.2.1, v32.2.2) hF) ⟨rfl, rfl, rfl, rfl, trivial⟩ ⟨rfl, rfl, trivial⟩ rfl


end Go.Ark
