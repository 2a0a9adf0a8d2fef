/- Walks, printed by a program of mine: each function of the program computes the typed function of its name. Conditions: none. -/
import Derived.Test.YtimklpfnpmjdcaaWCutMeans1
namespace Go.Ark
open Go Go.Ab Go.RowKit Go.Lib Go.Proofs

set_option maxRecDepth 20000 in
set_option maxHeartbeats 2000000 in
theorem ct_law19_row (l_0 : (List Api_Dep)) (r : (List Api_Dep)) (hF : law19_row l_0 = some r) : Ct Try.prog 11 [.g (.d (.sl 3 (List.map encApi_Dep l_0)))] (.one (.d (.sl 3 (List.map encApi_Dep r)))) := by
  unfold law19_row at hF
  refine Ct.intro Try.func11 rfl Try.ntmps11 rfl rfl fun M w => ?_
  refine G.seq ?_
  refine G.region ?_
  refine G.op1 (op_assign (Ev.n 3) rfl) rfl trivial trivial ?_
  refine G.endOps ?_
  refine G.seq ?_
  refine G.region ?_
  refine G.op1 (op_assign (Ev.n 3) rfl) rfl trivial trivial ?_
  refine G.endOps ?_
  refine G.seq ?_
  refine G.seq ?_
  refine G.region ?_
  refine G.op1 (op_assign (Ev.c _ rfl) rfl) rfl trivial trivial ?_
  refine G.endOps ?_
  refine G.joinC (T := (List Api_Dep)) (fun y1 => ⟨[(3, .one (.g (.d (.sl 3 (List.map encApi_Dep y1)))))], []⟩) (fun y1 => law19_row_k1 y1 = some r) (fun y1 hF => ?_) (fun J2 => ?_)
  · unfold law19_row_k1 at hF
    refine G.seq ?_
    refine G.region ?_
    refine G.op1 (op_move (Ev.t 3 (.g (.d (.sl 3 (List.map encApi_Dep y1))))) rfl) rfl ⟨rfl, trivial⟩ trivial ?_
    refine G.op1 (op_assign (Ev.t 29 (.g (.d (.sl 3 (List.map encApi_Dep y1))))) rfl) rfl ⟨rfl, trivial⟩ trivial ?_
    refine G.endOps ?_
    cases hF
    exact G.ret1 Try.results11 (RVar.tmp 2 _) ⟨rfl, trivial⟩ trivial
  refine G.block ?_
  refine G.keep (sl' := [(0, .one (.g (.d (.sl 3 (List.map encApi_Dep l_0))))), (3, .one (.g (.d (.sl 3 (List.map encApi_Dep ([] : (List Api_Dep))))))), (4, .one (bI .i64 0))]) (hp' := []) ⟨rfl, rfl, rfl, trivial⟩ trivial rfl ?_
  refine G.loopF (fun (v3 : (List Api_Dep) × Int) => ⟨[(0, .one (.g (.d (.sl 3 (List.map encApi_Dep l_0))))), (3, .one (.g (.d (.sl 3 (List.map encApi_Dep v3.1))))), (4, .one (bI .i64 v3.2))], []⟩) hF rfl (fun K6 again5 v3 J4 hF => ?_)
  unfold law19_row_l2 at hF
  refine G.seq ?_
  refine G.seq ?_
  refine G.joinC (T := Bool) (fun y7 => ⟨[(0, .one (.g (.d (.sl 3 (List.map encApi_Dep l_0))))), (3, .one (.g (.d (.sl 3 (List.map encApi_Dep v3.1))))), (4, .one (bI .i64 v3.2)), (12, .one (bB y7))], []⟩) (fun y7 => law19_row_k3 l_0 again5 v3 y7 = some r) (fun y7 hF => ?_) (fun J13 => ?_)
  · unfold law19_row_k3 at hF
    refine ifS hF (fun hc8 hF => ?_) (fun hc8 hF => ?_)
    · refine G.cond rfl (fun _ => ?_) (fun hx => by rw [hc8] at hx; cases hx)
      refine G.skip ?_
      refine G.seq ?_
      refine G.block ?_
      obtain ⟨x9, hx9, hF⟩ := bindS hF
      obtain ⟨r10, hr10, hF⟩ := bindS hF
      obtain ⟨x11, hx11, hF⟩ := bindS hF
      obtain ⟨r12, hr12, hF⟩ := bindS hF
      refine G.drawn (effs := [⟨[(3, .one (.g (.d (.sl 3 (List.map encApi_Dep v3.1)))))], [], [(15, .one (.g (.d (.sl 3 (List.map encApi_Dep v3.1)))))], []⟩, ⟨[(0, .one (.g (.d (.sl 3 (List.map encApi_Dep l_0)))))], [], [(16, .one (.g (.d (.sl 3 (List.map encApi_Dep l_0)))))], []⟩, ⟨[(4, .one (bI .i64 v3.2))], [], [(17, .one (bI .i64 v3.2))], []⟩, ⟨[(16, .one (.g (.d (.sl 3 (List.map encApi_Dep l_0))))), (17, .one (bI .i64 v3.2))], [], [(18, .one (.ep [.v (.string x9.Key), .v (.int .i64 x9.Stamp.N), .v (.int .i64 x9.Stamp.Site)]))], []⟩, ⟨[(18, .one (.ep [.v (.string x9.Key), .v (.int .i64 x9.Stamp.N), .v (.int .i64 x9.Stamp.Site)]))], [], [(19, .one (.ep [.v (.string x9.Key), .v (.int .i64 x9.Stamp.N), .v (.int .i64 x9.Stamp.Site)]))], []⟩, ⟨[(19, .one (.ep [.v (.string x9.Key), .v (.int .i64 x9.Stamp.N), .v (.int .i64 x9.Stamp.Site)]))], [], [(20, .one (bS x9.Key))], []⟩, ⟨[(20, .one (bS x9.Key))], [], [(21, .one (bS r10))], []⟩, ⟨[(0, .one (.g (.d (.sl 3 (List.map encApi_Dep l_0)))))], [], [(22, .one (.g (.d (.sl 3 (List.map encApi_Dep l_0)))))], []⟩, ⟨[(4, .one (bI .i64 v3.2))], [], [(23, .one (bI .i64 v3.2))], []⟩, ⟨[(22, .one (.g (.d (.sl 3 (List.map encApi_Dep l_0))))), (23, .one (bI .i64 v3.2))], [], [(24, .one (.ep [.v (.string x11.Key), .v (.int .i64 x11.Stamp.N), .v (.int .i64 x11.Stamp.Site)]))], []⟩, ⟨[(24, .one (.ep [.v (.string x11.Key), .v (.int .i64 x11.Stamp.N), .v (.int .i64 x11.Stamp.Site)]))], [], [(25, .one (.ep [.v (.int .i64 x11.Stamp.N), .v (.int .i64 x11.Stamp.Site)]))], []⟩, ⟨[(25, .one (.ep [.v (.int .i64 x11.Stamp.N), .v (.int .i64 x11.Stamp.Site)]))], [], [(26, .one (.g (.agg [.v (.int .i64 x11.Stamp.N), .v (.int .i64 x11.Stamp.Site)])))], []⟩, ⟨[(21, .one (bS r10)), (26, .one (.g (.agg [.v (.int .i64 x11.Stamp.N), .v (.int .i64 x11.Stamp.Site)])))], [], [(27, .one (.g (.agg [.v (.string r10), .v (.int .i64 x11.Stamp.N), .v (.int .i64 x11.Stamp.Site)])))], []⟩, ⟨[(15, .one (.g (.d (.sl 3 (List.map encApi_Dep v3.1))))), (27, .one (.g (.agg [.v (.string r10), .v (.int .i64 x11.Stamp.N), .v (.int .i64 x11.Stamp.Site)])))], [], [(28, .one (.g (.d (.sl 3 (List.map encApi_Dep r12)))))], []⟩, ⟨[(28, .one (.g (.d (.sl 3 (List.map encApi_Dep r12)))))], [], [(3, .one (.g (.d (.sl 3 (List.map encApi_Dep r12)))))], []⟩]) (deps := [[], [], [], [1, 2], [1, 2, 3], [1, 2, 3, 4], [1, 2, 3, 4, 5], [], [], [7, 8], [7, 8, 9], [7, 8, 9, 10], [1, 2, 3, 4, 5, 6, 7, 8, 9, 10, 11], [0, 1, 2, 3, 4, 5, 6, 7, 8, 9, 10, 11, 12], [0, 1, 2, 3, 4, 5, 6, 7, 8, 9, 10, 11, 12, 13]]) (sl' := [(0, .one (.g (.d (.sl 3 (List.map encApi_Dep l_0))))), (3, .one (.g (.d (.sl 3 (List.map encApi_Dep r12))))), (4, .one (bI .i64 v3.2))]) (hp' := []) follows rfl rfl rfl ⟨⟨⟨rfl, rfl⟩, trivial⟩, trivial, ⟨rfl, trivial⟩, trivial, ⟨rfl, trivial⟩, trivial, ⟨rfl, rfl, trivial⟩, trivial, ⟨rfl, trivial⟩, trivial, ⟨rfl, trivial⟩, trivial, ⟨rfl, trivial⟩, trivial, ⟨rfl, trivial⟩, trivial, ⟨rfl, trivial⟩, trivial, ⟨rfl, rfl, trivial⟩, trivial, ⟨rfl, trivial⟩, trivial, ⟨rfl, trivial⟩, trivial, ⟨rfl, rfl, trivial⟩, trivial, ⟨rfl, rfl, trivial⟩, trivial, ⟨rfl, trivial⟩, trivial, trivial⟩ ⟨OpW.plain (op_move (Ev.t 3 (.g (.d (.sl 3 (List.map encApi_Dep v3.1))))) rfl) rfl rfl, OpW.plain (op_move (Ev.t 0 (.g (.d (.sl 3 (List.map encApi_Dep l_0))))) rfl) rfl rfl, OpW.plain (op_move (Ev.t 4 (bI .i64 v3.2)) rfl) rfl rfl, OpW.plain (op_index (cs := [.v (.string x9.Key), .v (.int .i64 x9.Stamp.N), .v (.int .i64 x9.Stamp.Site)]) Try.underlying24 ti47 (idx_ok hx9).1 (idx_get hx9 encApi_Dep) (Ev.t 16 (.g (.d (.sl 3 (List.map encApi_Dep l_0))))) (Ev.t 17 (bI .i64 v3.2)) rfl) rfl rfl, OpW.plain (op_fieldE (cs' := [.v (.string x9.Key), .v (.int .i64 x9.Stamp.N), .v (.int .i64 x9.Stamp.Site)]) Try.underlying47 rfl ti9 (by decide) rfl (Ev.t 18 (.ep [.v (.string x9.Key), .v (.int .i64 x9.Stamp.N), .v (.int .i64 x9.Stamp.Site)])) rfl) rfl rfl, OpW.plain (op_load1E (c := .v (.string x9.Key)) Try.underlying9 rfl rfl (Ev.t 19 (.ep [.v (.string x9.Key), .v (.int .i64 x9.Stamp.N), .v (.int .i64 x9.Stamp.Site)])) rfl) rfl rfl, OpW.plain (op_callQ (sv := .one (bS r10)) cf30 (ct_law19_short x9.Key r10 hr10) rfl rfl (EvQL.cons (EvQ.g (Ev.t 20 (bS x9.Key))) EvQL.nil) rfl) rfl rfl, OpW.plain (op_move (Ev.t 0 (.g (.d (.sl 3 (List.map encApi_Dep l_0))))) rfl) rfl rfl, OpW.plain (op_move (Ev.t 4 (bI .i64 v3.2)) rfl) rfl rfl, OpW.plain (op_index (cs := [.v (.string x11.Key), .v (.int .i64 x11.Stamp.N), .v (.int .i64 x11.Stamp.Site)]) Try.underlying24 ti47 (idx_ok hx11).1 (idx_get hx11 encApi_Dep) (Ev.t 22 (.g (.d (.sl 3 (List.map encApi_Dep l_0))))) (Ev.t 23 (bI .i64 v3.2)) rfl) rfl rfl, OpW.plain (op_fieldE (cs' := [.v (.int .i64 x11.Stamp.N), .v (.int .i64 x11.Stamp.Site)]) Try.underlying47 rfl ti35 (by decide) rfl (Ev.t 24 (.ep [.v (.string x11.Key), .v (.int .i64 x11.Stamp.N), .v (.int .i64 x11.Stamp.Site)])) rfl) rfl rfl, OpW.plain (op_loadAE (ds := [.v (.int .i64 x11.Stamp.N), .v (.int .i64 x11.Stamp.Site)]) Try.underlying35 rfl ti35 rfl (Ev.t 25 (.ep [.v (.int .i64 x11.Stamp.N), .v (.int .i64 x11.Stamp.Site)])) rfl) rfl rfl, OpW.plain (op_build (zs := [.v (.string ByteArray.empty), .v (.int .i64 0), .v (.int .i64 0)]) (ds := [.v (.string r10), .v (.int .i64 x11.Stamp.N), .v (.int .i64 x11.Stamp.Site)]) Try.underlying47 ti47 (pl47 _ Try.underlying47) ⟨.v _ rfl, .v _ rfl, .v _ rfl, trivial⟩ (EvP.cons (Ev.t 21 (bS r10)) (EvP.cons (Ev.t 26 (.g (.agg [.v (.int .i64 x11.Stamp.N), .v (.int .i64 x11.Stamp.Site)]))) EvP.nil)) rfl rfl) rfl rfl, OpW.plain (op_call (sv := .one (.g (.d (.sl 3 (List.map encApi_Dep r12))))) cf31 (ct_ref04_Add v3.1 (Api_Dep.mk r10 x11.Stamp) r12 hr12) rfl (EvL.cons (Ev.t 15 (.g (.d (.sl 3 (List.map encApi_Dep v3.1))))) (EvL.cons (Ev.t 27 (.g (.agg [.v (.string r10), .v (.int .i64 x11.Stamp.N), .v (.int .i64 x11.Stamp.Site)]))) EvL.nil)) rfl) rfl rfl, OpW.plain (op_assign (Ev.t 28 (.g (.d (.sl 3 (List.map encApi_Dep r12))))) rfl) rfl rfl, trivial⟩ ⟨rfl, rfl, rfl, trivial⟩ trivial rfl ?_
      refine G.endBlock ?_
      refine G.region ?_
      refine G.op1 (op_move (Ev.t 4 (bI .i64 v3.2)) rfl) rfl ⟨rfl, trivial⟩ trivial ?_
      refine G.op1 (op_add (Ev.t 13 (bI .i64 v3.2)) (Ev.c _ rfl) rfl) rfl ⟨rfl, trivial⟩ trivial ?_
      refine G.op1 (op_assign (Ev.t 14 (bI .i64 (IntKind.wrap .i64 (v3.2 + 1)))) rfl) rfl ⟨rfl, trivial⟩ trivial ?_
      refine G.endOps ?_
      exact G.arr (J4 (r12, IntKind.wrap .i64 (v3.2 + 1)) hF) ⟨rfl, rfl, rfl, trivial⟩ trivial rfl
    · refine G.cond rfl (fun hx => by rw [hc8] at hx; cases hx) (fun _ => ?_)
      refine G.exit ?_
      refine GX.c ?_
      refine GX.q ?_
      refine GX.bYes ?_
      exact G.arr (J2 v3.1 hF) ⟨rfl, trivial⟩ trivial rfl
  refine G.region ?_
  refine G.op1 (op_move (Ev.t 4 (bI .i64 v3.2)) rfl) rfl ⟨rfl, trivial⟩ trivial ?_
  refine G.op1 (op_move (Ev.t 0 (.g (.d (.sl 3 (List.map encApi_Dep l_0))))) rfl) rfl ⟨rfl, trivial⟩ trivial ?_
  refine G.op1 (OpL.cast (op_lenD Try.underlying24 (Ev.t 6 (.g (.d (.sl 3 (List.map encApi_Dep l_0))))) rfl) (by rw [List.length_map])) rfl ⟨rfl, trivial⟩ trivial ?_
  refine G.op1 (op_lss (Ev.t 5 (bI .i64 v3.2)) (Ev.t 7 (bI .i64 (l_0.length : Int))) rfl) rfl ⟨rfl, rfl, trivial⟩ trivial ?_
  refine G.op1 (op_move (Ev.t 8 (bB (decide (v3.2 < (l_0.length : Int))))) rfl) rfl ⟨rfl, trivial⟩ trivial ?_
  refine ifS hF (fun hc14 hF => ?_) (fun hc14 hF => ?_)
  · refine G.known (t := 9) hc14 rfl ?_
    refine G.opG1 (op_move (Ev.t 4 (bI .i64 v3.2)) rfl) rfl rfl rfl ⟨rfl, trivial⟩ trivial ?_
    refine G.opG1 (op_lss (Ev.t 10 (bI .i64 v3.2)) (Ev.c _ rfl) rfl) rfl rfl rfl ⟨rfl, trivial⟩ trivial ?_
    refine G.op1 (op_pickT (Ev.t 9 (bB true)) (Ev.t 11 (bB (decide (v3.2 < 6)))) rfl) rfl ⟨rfl, rfl, trivial⟩ trivial ?_
    refine G.endOps ?_
    exact G.arr (J13 (decide (v3.2 < 6)) hF) ⟨rfl, rfl, rfl, rfl, trivial⟩ trivial rfl
  · refine G.known (t := 9) hc14 rfl ?_
    refine G.opN1 rfl rfl rfl rfl rfl ?_
    refine G.opN1 rfl rfl rfl rfl rfl ?_
    refine G.op1 (op_pickF (Ev.t 9 (bB false)) (Ev.c _ rfl) rfl) rfl ⟨rfl, trivial⟩ trivial ?_
    refine G.endOps ?_
    exact G.arr (J13 false hF) ⟨rfl, rfl, rfl, rfl, trivial⟩ trivial rfl


set_option maxRecDepth 20000 in
set_option maxHeartbeats 2000000 in
theorem ct_law19_few (l_0 : (List Api_Version)) (r : (List Api_Version)) (hF : law19_few l_0 = some r) : Ct Try.prog 10 [.g (.d (.sl 6 (List.map encApi_Version l_0)))] (.one (.d (.sl 6 (List.map encApi_Version r)))) := by
  unfold law19_few at hF
  refine Ct.intro Try.func10 rfl Try.ntmps10 rfl rfl fun M w => ?_
  refine G.seq ?_
  refine G.region ?_
  refine G.op1 (op_assign (Ev.n 6) rfl) rfl trivial trivial ?_
  refine G.endOps ?_
  refine G.seq ?_
  refine G.region ?_
  refine G.op2 (op_assignRow (E := 42) (size := 6) (k := 2003) (ex := false) rfl rfl) rfl trivial ⟨rfl, trivial⟩ ?_
  refine G.endOps ?_
  refine G.seq ?_
  refine G.seq ?_
  refine G.region ?_
  refine G.op1 (op_assign (Ev.c _ rfl) rfl) rfl trivial trivial ?_
  refine G.endOps ?_
  refine G.joinC (T := (List Api_Version)) (fun y1 => ⟨[(3, .one (.own 2003 (List.map encApi_Version y1)))], [(2003, some (.row 42 6 (List.map encApi_Version y1) false))]⟩) (fun y1 => law19_few_k1 y1 = some r) (fun y1 hF => ?_) (fun J2 => ?_)
  · unfold law19_few_k1 at hF
    refine G.seq ?_
    refine G.region ?_
    refine G.op1 (op_move (Ev.t 3 (.own 2003 (List.map encApi_Version y1))) rfl) rfl ⟨rfl, trivial⟩ trivial ?_
    refine G.op1 (op_assign (Ev.t 32 (.own 2003 (List.map encApi_Version y1))) rfl) rfl ⟨rfl, trivial⟩ trivial ?_
    refine G.endOps ?_
    refine G.view (t := 2) rfl rfl ?_
    cases hF
    exact G.ret1 Try.results10 (RVar.tmp 2 _) ⟨rfl, trivial⟩ trivial
  refine G.block ?_
  refine G.keep (sl' := [(0, .one (.g (.d (.sl 6 (List.map encApi_Version l_0))))), (3, .one (.own 2003 (List.map encApi_Version ([] : (List Api_Version))))), (4, .one (bI .i64 0))]) (hp' := [(2003, some (.row 42 6 (List.map encApi_Version ([] : (List Api_Version))) false))]) ⟨rfl, rfl, rfl, trivial⟩ ⟨rfl, trivial⟩ rfl ?_
  refine G.loopF (fun (v3 : Int × (List Api_Version)) => ⟨[(0, .one (.g (.d (.sl 6 (List.map encApi_Version l_0))))), (3, .one (.own 2003 (List.map encApi_Version v3.2))), (4, .one (bI .i64 v3.1))], [(2003, some (.row 42 6 (List.map encApi_Version v3.2) false))]⟩) hF rfl (fun K6 again5 v3 J4 hF => ?_)
  unfold law19_few_l2 at hF
  refine G.seq ?_
  refine G.seq ?_
  refine G.joinC (T := Bool) (fun y7 => ⟨[(0, .one (.g (.d (.sl 6 (List.map encApi_Version l_0))))), (3, .one (.own 2003 (List.map encApi_Version v3.2))), (4, .one (bI .i64 v3.1)), (13, .one (bB y7))], [(2003, some (.row 42 6 (List.map encApi_Version v3.2) false))]⟩) (fun y7 => law19_few_k3 l_0 again5 v3 y7 = some r) (fun y7 hF => ?_) (fun J13 => ?_)
  · unfold law19_few_k3 at hF
    refine ifS hF (fun hc8 hF => ?_) (fun hc8 hF => ?_)
    · refine G.cond rfl (fun _ => ?_) (fun hx => by rw [hc8] at hx; cases hx)
      refine G.skip ?_
      refine G.seq ?_
      refine G.block ?_
      refine G.seq ?_
      refine G.region ?_
      refine G.op1 (op_move (Ev.t 0 (.g (.d (.sl 6 (List.map encApi_Version l_0))))) rfl) rfl ⟨rfl, trivial⟩ trivial ?_
      refine G.op1 (op_move (Ev.t 4 (bI .i64 v3.1)) rfl) rfl ⟨rfl, trivial⟩ trivial ?_
      obtain ⟨x9, hx9, hF⟩ := bindS hF
      refine G.op1 (op_index (cs := [.v (.string x9.Key), .v (.string x9.Value), .v (.bool x9.Gone), .v (.int .i64 x9.Stamp.N), .v (.int .i64 x9.Stamp.Site), .sl 3 (List.map encApi_Dep x9.Past)]) Try.underlying22 ti42 (idx_ok hx9).1 (idx_get hx9 encApi_Version) (Ev.t 16 (.g (.d (.sl 6 (List.map encApi_Version l_0))))) (Ev.t 17 (bI .i64 v3.1)) rfl) rfl ⟨rfl, rfl, trivial⟩ trivial ?_
      refine G.op1 (op_loadAE (ds := [.v (.string x9.Key), .v (.string x9.Value), .v (.bool x9.Gone), .v (.int .i64 x9.Stamp.N), .v (.int .i64 x9.Stamp.Site), .sl 3 (List.map encApi_Dep x9.Past)]) Try.underlying42 rfl ti42 rfl (Ev.t 18 (.ep [.v (.string x9.Key), .v (.string x9.Value), .v (.bool x9.Gone), .v (.int .i64 x9.Stamp.N), .v (.int .i64 x9.Stamp.Site), .sl 3 (List.map encApi_Dep x9.Past)])) rfl) rfl ⟨rfl, trivial⟩ trivial ?_
      refine G.op2 (op_alloc (k := 1005) (cs := [bS ByteArray.empty, bS ByteArray.empty, bB false, bI .i64 0, bI .i64 0, .g (.d (.sl 3 (List.map encApi_Dep ([] : (List Api_Dep)))))]) ti42 ⟨.v _ rfl, .v _ rfl, .v _ rfl, .v _ rfl, .v _ rfl, .n 3, trivial⟩ rfl) rfl trivial ⟨rfl, trivial⟩ ?_
      refine G.op3 (op_storeA (cs' := [bS x9.Key, bS x9.Value, bB x9.Gone, bI .i64 x9.Stamp.N, bI .i64 x9.Stamp.Site, .g (.d (.sl 3 (List.map encApi_Dep x9.Past)))]) ti42 rfl rfl (Ev.t 5 (.ptr 1005 0)) (Ev.t 19 (.g (.agg [.v (.string x9.Key), .v (.string x9.Value), .v (.bool x9.Gone), .v (.int .i64 x9.Stamp.N), .v (.int .i64 x9.Stamp.Site), .sl 3 (List.map encApi_Dep x9.Past)])))) rfl ⟨rfl, rfl, trivial⟩ ⟨rfl, trivial⟩ ?_
      refine G.endOps ?_
      refine G.seq ?_
      refine G.region ?_
      refine G.op1 (op_fieldP (off' := 0) Try.underlying42 rfl ti9 (by decide) rfl (Ev.t 5 (.ptr 1005 0)) rfl) rfl ⟨rfl, trivial⟩ trivial ?_
      refine G.op1 (op_load1P (c := bS x9.Key) Try.underlying9 rfl rfl (Ev.t 20 (.ptr 1005 0)) rfl) rfl ⟨rfl, trivial⟩ ⟨rfl, trivial⟩ ?_
      obtain ⟨r10, hr10, hF⟩ := bindS hF
      refine G.op1 (op_callQ (sv := .one (bS r10)) cf30 (ct_law19_short x9.Key r10 hr10) rfl rfl (EvQL.cons (EvQ.g (Ev.t 21 (bS x9.Key))) EvQL.nil) rfl) rfl ⟨rfl, trivial⟩ trivial ?_
      refine G.op1 (op_fieldP (off' := 0) Try.underlying42 rfl ti9 (by decide) rfl (Ev.t 5 (.ptr 1005 0)) rfl) rfl ⟨rfl, trivial⟩ trivial ?_
      refine G.op3 (op_store1 (cs' := [bS r10, bS x9.Value, bB x9.Gone, bI .i64 x9.Stamp.N, bI .i64 x9.Stamp.Site, .g (.d (.sl 3 (List.map encApi_Dep x9.Past)))]) (c := bS r10) trivial ti9 rfl rfl (Ev.t 23 (.ptr 1005 0)) (Ev.t 22 (bS r10))) rfl ⟨rfl, rfl, trivial⟩ ⟨rfl, trivial⟩ ?_
      refine G.endOps ?_
      refine G.seq ?_
      refine G.region ?_
      refine G.op1 (op_fieldP (off' := 5) Try.underlying42 rfl ti24 (by decide) rfl (Ev.t 5 (.ptr 1005 0)) rfl) rfl ⟨rfl, trivial⟩ trivial ?_
      refine G.op1 (op_load1P (c := .g (.d (.sl 3 (List.map encApi_Dep x9.Past)))) Try.underlying24 rfl rfl (Ev.t 24 (.ptr 1005 5)) rfl) rfl ⟨rfl, trivial⟩ ⟨rfl, trivial⟩ ?_
      obtain ⟨r11, hr11, hF⟩ := bindS hF
      refine G.op1 (op_call (sv := .one (.g (.d (.sl 3 (List.map encApi_Dep r11))))) cf11 (ct_law19_row x9.Past r11 hr11) rfl (EvL.cons (Ev.t 25 (.g (.d (.sl 3 (List.map encApi_Dep x9.Past))))) EvL.nil) rfl) rfl ⟨rfl, trivial⟩ trivial ?_
      refine G.op1 (op_fieldP (off' := 5) Try.underlying42 rfl ti24 (by decide) rfl (Ev.t 5 (.ptr 1005 0)) rfl) rfl ⟨rfl, trivial⟩ trivial ?_
      refine G.op3 (op_store1 (cs' := [bS r10, bS x9.Value, bB x9.Gone, bI .i64 x9.Stamp.N, bI .i64 x9.Stamp.Site, .g (.d (.sl 3 (List.map encApi_Dep r11)))]) (c := .g (.d (.sl 3 (List.map encApi_Dep r11)))) trivial ti24 rfl rfl (Ev.t 27 (.ptr 1005 5)) (Ev.t 26 (.g (.d (.sl 3 (List.map encApi_Dep r11)))))) rfl ⟨rfl, rfl, trivial⟩ ⟨rfl, trivial⟩ ?_
      refine G.endOps ?_
      refine G.region ?_
      refine G.op1 (op_move (Ev.t 3 (.own 2003 (List.map encApi_Version v3.2))) rfl) rfl ⟨rfl, trivial⟩ trivial ?_
      refine G.op1 (op_loadAP (ds := [.v (.string r10), .v (.string x9.Value), .v (.bool x9.Gone), .v (.int .i64 x9.Stamp.N), .v (.int .i64 x9.Stamp.Site), .sl 3 (List.map encApi_Dep r11)]) Try.underlying42 rfl ti42 rfl (Ev.t 5 (.ptr 1005 0)) rfl) rfl ⟨rfl, trivial⟩ ⟨rfl, trivial⟩ ?_
      refine G.op1 (op_buildSlice (es := List.map encApi_Version [(Api_Version.mk r10 x9.Value x9.Gone x9.Stamp r11)]) Try.underlying22 ti42 rfl rfl (EvP.cons (Ev.t 29 (.g (.agg [.v (.string r10), .v (.string x9.Value), .v (.bool x9.Gone), .v (.int .i64 x9.Stamp.N), .v (.int .i64 x9.Stamp.Site), .sl 3 (List.map encApi_Dep r11)]))) EvP.nil) rfl rfl (by simp [encApi_Version]) rfl) rfl ⟨rfl, trivial⟩ trivial ?_
      obtain ⟨l12, hl12, hF⟩ := bindS hF
      refine G.op2 (op_appendO Try.underlying22 ti42 rfl (app_map hl12 encApi_Version) (app_b1 hl12 encApi_Version) (app_b2 hl12 encApi_Version) (Ev.t 28 (.own 2003 (List.map encApi_Version v3.2))) (Ev.t 30 (.g (.d (.sl 6 (List.map encApi_Version ([(Api_Version.mk r10 x9.Value x9.Gone x9.Stamp r11)])))))) rfl) rfl ⟨rfl, rfl, trivial⟩ ⟨rfl, trivial⟩ ?_
      refine G.op1 (op_assign (Ev.t 31 (.own 2003 (List.map encApi_Version l12))) rfl) rfl ⟨rfl, trivial⟩ trivial ?_
      refine G.endOps ?_
      refine G.endBlock ?_
      refine G.region ?_
      refine G.op1 (op_move (Ev.t 4 (bI .i64 v3.1)) rfl) rfl ⟨rfl, trivial⟩ trivial ?_
      refine G.op1 (op_add (Ev.t 14 (bI .i64 v3.1)) (Ev.c _ rfl) rfl) rfl ⟨rfl, trivial⟩ trivial ?_
      refine G.op1 (op_assign (Ev.t 15 (bI .i64 (IntKind.wrap .i64 (v3.1 + 1)))) rfl) rfl ⟨rfl, trivial⟩ trivial ?_
      refine G.endOps ?_
      exact G.arr (J4 (IntKind.wrap .i64 (v3.1 + 1), l12) hF) ⟨rfl, rfl, rfl, trivial⟩ ⟨rfl, trivial⟩ rfl
    · refine G.cond rfl (fun hx => by rw [hc8] at hx; cases hx) (fun _ => ?_)
      refine G.exit ?_
      refine GX.c ?_
      refine GX.q ?_
      refine GX.bYes ?_
      exact G.arr (J2 v3.2 hF) ⟨rfl, trivial⟩ ⟨rfl, trivial⟩ rfl
  refine G.region ?_
  refine G.op1 (op_move (Ev.t 4 (bI .i64 v3.1)) rfl) rfl ⟨rfl, trivial⟩ trivial ?_
  refine G.op1 (op_move (Ev.t 0 (.g (.d (.sl 6 (List.map encApi_Version l_0))))) rfl) rfl ⟨rfl, trivial⟩ trivial ?_
  refine G.op1 (OpL.cast (op_lenD Try.underlying22 (Ev.t 7 (.g (.d (.sl 6 (List.map encApi_Version l_0))))) rfl) (by rw [List.length_map])) rfl ⟨rfl, trivial⟩ trivial ?_
  refine G.op1 (op_lss (Ev.t 6 (bI .i64 v3.1)) (Ev.t 8 (bI .i64 (l_0.length : Int))) rfl) rfl ⟨rfl, rfl, trivial⟩ trivial ?_
  refine G.op1 (op_move (Ev.t 9 (bB (decide (v3.1 < (l_0.length : Int))))) rfl) rfl ⟨rfl, trivial⟩ trivial ?_
  refine ifS hF (fun hc14 hF => ?_) (fun hc14 hF => ?_)
  · refine G.known (t := 10) hc14 rfl ?_
    refine G.opG1 (op_move (Ev.t 4 (bI .i64 v3.1)) rfl) rfl rfl rfl ⟨rfl, trivial⟩ trivial ?_
    refine G.opG1 (op_lss (Ev.t 11 (bI .i64 v3.1)) (Ev.c _ rfl) rfl) rfl rfl rfl ⟨rfl, trivial⟩ trivial ?_
    refine G.op1 (op_pickT (Ev.t 10 (bB true)) (Ev.t 12 (bB (decide (v3.1 < 6)))) rfl) rfl ⟨rfl, rfl, trivial⟩ trivial ?_
    refine G.endOps ?_
    exact G.arr (J13 (decide (v3.1 < 6)) hF) ⟨rfl, rfl, rfl, rfl, trivial⟩ ⟨rfl, trivial⟩ rfl
  · refine G.known (t := 10) hc14 rfl ?_
    refine G.opN1 rfl rfl rfl rfl rfl ?_
    refine G.opN1 rfl rfl rfl rfl rfl ?_
    refine G.op1 (op_pickF (Ev.t 10 (bB false)) (Ev.c _ rfl) rfl) rfl ⟨rfl, trivial⟩ trivial ?_
    refine G.endOps ?_
    exact G.arr (J13 false hF) ⟨rfl, rfl, rfl, rfl, trivial⟩ ⟨rfl, trivial⟩ rfl


set_option maxRecDepth 20000 in
set_option maxHeartbeats 2000000 in
theorem ct_law19_keys (l_0 : (List ByteArray)) (r : (List ByteArray)) (hF : law19_keys l_0 = some r) : Ct Try.prog 12 [.g (.d (.sl 1 (List.map encS l_0)))] (.one (.d (.sl 1 (List.map encS r)))) := by
  unfold law19_keys at hF
  refine Ct.intro Try.func12 rfl Try.ntmps12 rfl rfl fun M w => ?_
  refine G.seq ?_
  refine G.region ?_
  refine G.op1 (op_assign (Ev.n 1) rfl) rfl trivial trivial ?_
  refine G.endOps ?_
  refine G.seq ?_
  refine G.seq ?_
  refine G.region ?_
  refine G.op1 (op_move (Ev.t 0 (.g (.d (.sl 1 (List.map encS l_0))))) rfl) rfl ⟨rfl, trivial⟩ trivial ?_
  refine G.op1 (OpL.cast (op_lenD Try.underlying23 (Ev.t 3 (.g (.d (.sl 1 (List.map encS l_0))))) rfl) (by rw [List.length_map])) rfl ⟨rfl, trivial⟩ trivial ?_
  refine G.op1 (op_gtr (Ev.t 4 (bI .i64 (l_0.length : Int))) (Ev.c _ rfl) rfl) rfl ⟨rfl, trivial⟩ trivial ?_
  refine G.endOps ?_
  refine ifS hF (fun hc1 hF => ?_) (fun hc1 hF => ?_)
  · refine G.cond rfl (fun _ => ?_) (fun hx => by rw [hc1] at hx; cases hx)
    refine G.seq ?_
    refine G.region ?_
    refine G.op1 (op_move (Ev.t 0 (.g (.d (.sl 1 (List.map encS l_0))))) rfl) rfl ⟨rfl, trivial⟩ trivial ?_
    obtain ⟨l2, hl2, hF⟩ := bindS hF
    refine G.op1 (op_sliceD (lo := none) (hi := some 6) Try.underlying23 ti9 (sub_ok hl2 encS).1 (sub_ok hl2 encS).2.1 (sub_ok hl2 encS).2.2.1 (sub_ok hl2 encS).2.2.2 (Ev.t 6 (.g (.d (.sl 1 (List.map encS l_0))))) EvO.none (EvO.some (Ev.c _ rfl)) rfl) rfl ⟨rfl, trivial⟩ trivial ?_
    refine G.op1 (op_assign (Ev.t 7 (.g (.d (.sl 1 (List.map encS l2))))) rfl) rfl ⟨rfl, trivial⟩ trivial ?_
    refine G.endOps ?_
    cases hF
    exact G.ret1 Try.results12 (RVar.tmp 2 _) ⟨rfl, trivial⟩ trivial
  · refine G.cond rfl (fun hx => by rw [hc1] at hx; cases hx) (fun _ => ?_)
    refine G.skip ?_
    refine G.seq ?_
    refine G.region ?_
    refine G.op1 (op_move (Ev.t 0 (.g (.d (.sl 1 (List.map encS l_0))))) rfl) rfl ⟨rfl, trivial⟩ trivial ?_
    refine G.op1 (op_assign (Ev.t 8 (.g (.d (.sl 1 (List.map encS l_0))))) rfl) rfl ⟨rfl, trivial⟩ trivial ?_
    refine G.endOps ?_
    cases hF
    exact G.ret1 Try.results12 (RVar.tmp 2 _) ⟨rfl, trivial⟩ trivial


set_option maxRecDepth 20000 in
set_option maxHeartbeats 2000000 in
theorem ct_ref04_Get (p_0 : (List Api_Dep)) (key_1 : ByteArray) (r : Api_Stamp) (hF : ref04_Get p_0 key_1 = some r) : Ct Try.prog 26 [.g (.d (.sl 3 (List.map encApi_Dep p_0))), .g (.d (.v (.string key_1)))] (.one (.agg (encApi_Stamp r))) := by
  unfold ref04_Get at hF
  refine Ct.intro Try.func26 rfl Try.ntmps26 rfl rfl fun M w => ?_
  refine G.seq ?_
  refine G.region ?_
  refine G.op2 (op_alloc (k := 1004) (cs := [bI .i64 0, bI .i64 0]) ti35 ⟨.v _ rfl, .v _ rfl, trivial⟩ rfl) rfl trivial ⟨rfl, trivial⟩ ?_
  refine G.endOps ?_
  refine G.seq ?_
  refine G.seq ?_
  refine G.region ?_
  refine G.op1 (op_assign (Ev.c _ rfl) rfl) rfl trivial trivial ?_
  refine G.endOps ?_
  refine G.joinC (T := Unit) (fun y1 => ⟨[(4, .one (.ptr 1004 0))], [(1004, some (.blk 35 [bI .i64 0, bI .i64 0]))]⟩) (fun y1 => ref04_Get_k1 y1 = some r) (fun y1 hF => ?_) (fun J2 => ?_)
  · unfold ref04_Get_k1 at hF
    refine G.seq ?_
    refine G.region ?_
    refine G.op1 (op_build (zs := [.v (.int .i64 0), .v (.int .i64 0)]) (ds := [.v (.int .i64 0), .v (.int .i64 0)]) Try.underlying35 ti35 (pl35 _ Try.underlying35) ⟨.v _ rfl, .v _ rfl, trivial⟩ EvP.nil rfl rfl) rfl trivial trivial ?_
    refine G.op3 (op_storeA (cs' := [bI .i64 0, bI .i64 0]) ti35 rfl rfl (Ev.t 4 (.ptr 1004 0)) (Ev.t 24 (.g (.agg [.v (.int .i64 0), .v (.int .i64 0)])))) rfl ⟨rfl, rfl, trivial⟩ ⟨rfl, trivial⟩ ?_
    refine G.endOps ?_
    cases hF
    exact G.ret1 Try.results26 (RVar.cellA (ds := [.v (.int .i64 0), .v (.int .i64 0)]) Try.underlying35 rfl ti35 rfl) ⟨rfl, trivial⟩ ⟨rfl, trivial⟩
  refine G.block ?_
  refine G.keep (sl' := [(0, .one (.g (.d (.sl 3 (List.map encApi_Dep p_0))))), (1, .one (bS key_1)), (4, .one (.ptr 1004 0)), (5, .one (bI .i64 0))]) (hp' := [(1004, some (.blk 35 [bI .i64 0, bI .i64 0]))]) ⟨rfl, rfl, rfl, rfl, trivial⟩ ⟨rfl, trivial⟩ rfl ?_
  refine G.loopF (fun (v3 : Int) => ⟨[(0, .one (.g (.d (.sl 3 (List.map encApi_Dep p_0))))), (1, .one (bS key_1)), (4, .one (.ptr 1004 0)), (5, .one (bI .i64 v3))], [(1004, some (.blk 35 [bI .i64 0, bI .i64 0]))]⟩) hF rfl (fun K6 again5 v3 J4 hF => ?_)
  unfold ref04_Get_l2 at hF
  refine G.seq ?_
  refine G.seq ?_
  refine G.region ?_
  refine G.op1 (op_move (Ev.t 5 (bI .i64 v3)) rfl) rfl ⟨rfl, trivial⟩ trivial ?_
  refine G.op1 (op_move (Ev.t 0 (.g (.d (.sl 3 (List.map encApi_Dep p_0))))) rfl) rfl ⟨rfl, trivial⟩ trivial ?_
  refine G.op1 (OpL.cast (op_lenD Try.underlying24 (Ev.t 7 (.g (.d (.sl 3 (List.map encApi_Dep p_0))))) rfl) (by rw [List.length_map])) rfl ⟨rfl, trivial⟩ trivial ?_
  refine G.op1 (op_lss (Ev.t 6 (bI .i64 v3)) (Ev.t 8 (bI .i64 (p_0.length : Int))) rfl) rfl ⟨rfl, rfl, trivial⟩ trivial ?_
  refine G.endOps ?_
  refine ifS hF (fun hc7 hF => ?_) (fun hc7 hF => ?_)
  · refine G.cond rfl (fun _ => ?_) (fun hx => by rw [hc7] at hx; cases hx)
    refine G.skip ?_
    refine G.seq ?_
    refine G.block ?_
    refine G.seq ?_
    refine G.region ?_
    refine G.op1 (op_move (Ev.t 0 (.g (.d (.sl 3 (List.map encApi_Dep p_0))))) rfl) rfl ⟨rfl, trivial⟩ trivial ?_
    refine G.op1 (op_move (Ev.t 5 (bI .i64 v3)) rfl) rfl ⟨rfl, trivial⟩ trivial ?_
    obtain ⟨x8, hx8, hF⟩ := bindS hF
    refine G.op1 (op_index (cs := [.v (.string x8.Key), .v (.int .i64 x8.Stamp.N), .v (.int .i64 x8.Stamp.Site)]) Try.underlying24 ti47 (idx_ok hx8).1 (idx_get hx8 encApi_Dep) (Ev.t 12 (.g (.d (.sl 3 (List.map encApi_Dep p_0))))) (Ev.t 13 (bI .i64 v3)) rfl) rfl ⟨rfl, rfl, trivial⟩ trivial ?_
    refine G.op1 (op_fieldE (cs' := [.v (.string x8.Key), .v (.int .i64 x8.Stamp.N), .v (.int .i64 x8.Stamp.Site)]) Try.underlying47 rfl ti9 (by decide) rfl (Ev.t 14 (.ep [.v (.string x8.Key), .v (.int .i64 x8.Stamp.N), .v (.int .i64 x8.Stamp.Site)])) rfl) rfl ⟨rfl, trivial⟩ trivial ?_
    refine G.op1 (op_load1E (c := .v (.string x8.Key)) Try.underlying9 rfl rfl (Ev.t 15 (.ep [.v (.string x8.Key), .v (.int .i64 x8.Stamp.N), .v (.int .i64 x8.Stamp.Site)])) rfl) rfl ⟨rfl, trivial⟩ trivial ?_
    refine G.op1 (op_move (Ev.t 1 (bS key_1)) rfl) rfl ⟨rfl, trivial⟩ trivial ?_
    refine G.op1 (op_eqS (Ev.t 16 (bS x8.Key)) (Ev.t 17 (bS key_1)) rfl) rfl ⟨rfl, rfl, trivial⟩ trivial ?_
    refine G.endOps ?_
    refine ifS hF (fun hc9 hF => ?_) (fun hc9 hF => ?_)
    · refine G.cond rfl (fun _ => ?_) (fun hx => by rw [hc9] at hx; cases hx)
      refine G.seq ?_
      refine G.region ?_
      refine G.op1 (op_move (Ev.t 0 (.g (.d (.sl 3 (List.map encApi_Dep p_0))))) rfl) rfl ⟨rfl, trivial⟩ trivial ?_
      refine G.op1 (op_move (Ev.t 5 (bI .i64 v3)) rfl) rfl ⟨rfl, trivial⟩ trivial ?_
      obtain ⟨x10, hx10, hF⟩ := bindS hF
      refine G.op1 (op_index (cs := [.v (.string x10.Key), .v (.int .i64 x10.Stamp.N), .v (.int .i64 x10.Stamp.Site)]) Try.underlying24 ti47 (idx_ok hx10).1 (idx_get hx10 encApi_Dep) (Ev.t 19 (.g (.d (.sl 3 (List.map encApi_Dep p_0))))) (Ev.t 20 (bI .i64 v3)) rfl) rfl ⟨rfl, rfl, trivial⟩ trivial ?_
      refine G.op1 (op_fieldE (cs' := [.v (.int .i64 x10.Stamp.N), .v (.int .i64 x10.Stamp.Site)]) Try.underlying47 rfl ti35 (by decide) rfl (Ev.t 21 (.ep [.v (.string x10.Key), .v (.int .i64 x10.Stamp.N), .v (.int .i64 x10.Stamp.Site)])) rfl) rfl ⟨rfl, trivial⟩ trivial ?_
      refine G.op1 (op_loadAE (ds := [.v (.int .i64 x10.Stamp.N), .v (.int .i64 x10.Stamp.Site)]) Try.underlying35 rfl ti35 rfl (Ev.t 22 (.ep [.v (.int .i64 x10.Stamp.N), .v (.int .i64 x10.Stamp.Site)])) rfl) rfl ⟨rfl, trivial⟩ trivial ?_
      refine G.op3 (op_storeA (cs' := [bI .i64 x10.Stamp.N, bI .i64 x10.Stamp.Site]) ti35 rfl rfl (Ev.t 4 (.ptr 1004 0)) (Ev.t 23 (.g (.agg [.v (.int .i64 x10.Stamp.N), .v (.int .i64 x10.Stamp.Site)])))) rfl ⟨rfl, rfl, trivial⟩ ⟨rfl, trivial⟩ ?_
      refine G.endOps ?_
      cases hF
      exact G.ret1 Try.results26 (RVar.cellA (ds := [.v (.int .i64 x10.Stamp.N), .v (.int .i64 x10.Stamp.Site)]) Try.underlying35 rfl ti35 rfl) ⟨rfl, trivial⟩ ⟨rfl, trivial⟩
    · refine G.cond rfl (fun hx => by rw [hc9] at hx; cases hx) (fun _ => ?_)
      refine G.skip ?_
      refine G.endBlock ?_
      refine G.region ?_
      refine G.op1 (op_move (Ev.t 5 (bI .i64 v3)) rfl) rfl ⟨rfl, trivial⟩ trivial ?_
      refine G.op1 (op_add (Ev.t 10 (bI .i64 v3)) (Ev.c _ rfl) rfl) rfl ⟨rfl, trivial⟩ trivial ?_
      refine G.op1 (op_assign (Ev.t 11 (bI .i64 (IntKind.wrap .i64 (v3 + 1)))) rfl) rfl ⟨rfl, trivial⟩ trivial ?_
      refine G.endOps ?_
      exact G.arr (J4 (IntKind.wrap .i64 (v3 + 1)) hF) ⟨rfl, rfl, rfl, rfl, trivial⟩ ⟨rfl, trivial⟩ rfl
  · refine G.cond rfl (fun hx => by rw [hc7] at hx; cases hx) (fun _ => ?_)
    refine G.exit ?_
    refine GX.c ?_
    refine GX.q ?_
    refine GX.bYes ?_
    exact G.arr (J2 () hF) ⟨rfl, trivial⟩ ⟨rfl, trivial⟩ rfl


set_option maxRecDepth 20000 in
set_option maxHeartbeats 2000000 in
theorem ct_law19_CutMeans (l_0 : (List Api_Version)) (k_1 : (List ByteArray)) (seen_2 : (List Api_Dep)) (r : Bool) (hF : law19_CutMeans l_0 k_1 seen_2 = some r) : Ct Try.prog 4 [.g (.d (.sl 6 (List.map encApi_Version l_0))), .g (.d (.sl 1 (List.map encS k_1))), .g (.d (.sl 3 (List.map encApi_Dep seen_2)))] (.one (.d (.v (.bool r)))) := by
  unfold law19_CutMeans at hF
  refine Ct.intro Try.func4 rfl Try.ntmps4 rfl rfl fun M w => ?_
  refine G.seq ?_
  refine G.region ?_
  refine G.op1 (op_assign (Ev.c _ rfl) rfl) rfl trivial trivial ?_
  refine G.endOps ?_
  refine G.seq ?_
  refine G.region ?_
  obtain ⟨r1, hr1, hF⟩ := bindS hF
  refine G.op1 (op_callQ (sv := .one (bB r1)) cf9 (ct_law19_awake r1 hr1) rfl rfl EvQL.nil rfl) rfl trivial trivial ?_
  refine G.op1 (op_assign (Ev.t 14 (bB r1)) rfl) rfl ⟨rfl, trivial⟩ trivial ?_
  refine G.endOps ?_
  refine G.seq ?_
  refine G.region ?_
  refine G.op1 (op_move (Ev.t 0 (.g (.d (.sl 6 (List.map encApi_Version l_0))))) rfl) rfl ⟨rfl, trivial⟩ trivial ?_
  obtain ⟨r2, hr2, hF⟩ := bindS hF
  refine G.op1 (op_call (sv := .one (.g (.d (.sl 6 (List.map encApi_Version r2))))) cf10 (ct_law19_few l_0 r2 hr2) rfl (EvL.cons (Ev.t 15 (.g (.d (.sl 6 (List.map encApi_Version l_0))))) EvL.nil) rfl) rfl ⟨rfl, trivial⟩ trivial ?_
  refine G.op1 (op_assign (Ev.t 16 (.g (.d (.sl 6 (List.map encApi_Version r2))))) rfl) rfl ⟨rfl, trivial⟩ trivial ?_
  refine G.endOps ?_
  refine G.seq ?_
  refine G.region ?_
  refine G.op1 (op_move (Ev.t 2 (.g (.d (.sl 3 (List.map encApi_Dep seen_2))))) rfl) rfl ⟨rfl, trivial⟩ trivial ?_
  obtain ⟨r3, hr3, hF⟩ := bindS hF
  refine G.op1 (op_call (sv := .one (.g (.d (.sl 3 (List.map encApi_Dep r3))))) cf11 (ct_law19_row seen_2 r3 hr3) rfl (EvL.cons (Ev.t 17 (.g (.d (.sl 3 (List.map encApi_Dep seen_2))))) EvL.nil) rfl) rfl ⟨rfl, trivial⟩ trivial ?_
  refine G.op1 (op_assign (Ev.t 18 (.g (.d (.sl 3 (List.map encApi_Dep r3))))) rfl) rfl ⟨rfl, trivial⟩ trivial ?_
  refine G.endOps ?_
  refine G.seq ?_
  refine G.region ?_
  refine G.op1 (op_move (Ev.t 1 (.g (.d (.sl 1 (List.map encS k_1))))) rfl) rfl ⟨rfl, trivial⟩ trivial ?_
  obtain ⟨r4, hr4, hF⟩ := bindS hF
  refine G.op1 (op_call (sv := .one (.g (.d (.sl 1 (List.map encS r4))))) cf12 (ct_law19_keys k_1 r4 hr4) rfl (EvL.cons (Ev.t 19 (.g (.d (.sl 1 (List.map encS k_1))))) EvL.nil) rfl) rfl ⟨rfl, trivial⟩ trivial ?_
  refine G.op1 (op_assign (Ev.t 20 (.g (.d (.sl 1 (List.map encS r4))))) rfl) rfl ⟨rfl, trivial⟩ trivial ?_
  refine G.endOps ?_
  refine G.seq ?_
  refine G.region ?_
  refine G.op1 (op_assign (Ev.c _ rfl) rfl) rfl trivial trivial ?_
  refine G.endOps ?_
  refine G.seq ?_
  refine G.seq ?_
  refine G.region ?_
  refine G.op1 (op_assign (Ev.c _ rfl) rfl) rfl trivial trivial ?_
  refine G.endOps ?_
  refine G.joinC (T := Bool) (fun y5 => ⟨[(1, .one (.g (.d (.sl 1 (List.map encS r4))))), (7, .one (bB r1)), (8, .one (.g (.d (.sl 6 (List.map encApi_Version r2))))), (9, .one (.g (.d (.sl 3 (List.map encApi_Dep r3))))), (10, .one (bB y5))], []⟩) (fun y5 => law19_CutMeans_k1 r1 r2 r3 r4 y5 = some r) (fun y5 hF => ?_) (fun J8 => ?_)
  · unfold law19_CutMeans_k1 at hF
    refine G.seq ?_
    refine G.region ?_
    refine G.op1 (op_move (Ev.t 7 (bB r1)) rfl) rfl ⟨rfl, trivial⟩ trivial ?_
    refine G.op1 (op_move (Ev.t 78 (bB r1)) rfl) rfl ⟨rfl, trivial⟩ trivial ?_
    refine ifS hF (fun hc6 hF => ?_) (fun hc6 hF => ?_)
    · refine G.known (t := 79) hc6 rfl ?_
      refine G.opG1 (op_move (Ev.t 1 (.g (.d (.sl 1 (List.map encS r4))))) rfl) rfl rfl rfl ⟨rfl, trivial⟩ trivial ?_
      refine G.opG1 (op_move (Ev.t 8 (.g (.d (.sl 6 (List.map encApi_Version r2))))) rfl) rfl rfl rfl ⟨rfl, trivial⟩ trivial ?_
      refine G.opG1 (op_move (Ev.t 9 (.g (.d (.sl 3 (List.map encApi_Dep r3))))) rfl) rfl rfl rfl ⟨rfl, trivial⟩ trivial ?_
      obtain ⟨r7, hr7, hF⟩ := bindS hF
      refine G.opG1 (op_callQ (sv := .one (bB r7)) cf23 (ct_cut_Check r4 r2 r3 r7 hr7) rfl rfl (EvQL.cons (EvQ.g (Ev.t 80 (.g (.d (.sl 1 (List.map encS r4)))))) (EvQL.cons (EvQ.g (Ev.t 81 (.g (.d (.sl 6 (List.map encApi_Version r2)))))) (EvQL.cons (EvQ.g (Ev.t 82 (.g (.d (.sl 3 (List.map encApi_Dep r3)))))) EvQL.nil))) rfl) rfl rfl rfl ⟨rfl, rfl, rfl, trivial⟩ trivial ?_
      refine G.opG1 (op_move (Ev.t 10 (bB y5)) rfl) rfl rfl rfl ⟨rfl, trivial⟩ trivial ?_
      refine G.opG1 (op_eqB Try.underlying4 (Ev.t 83 (bB r7)) (Ev.t 84 (bB y5)) rfl) rfl rfl rfl ⟨rfl, rfl, trivial⟩ trivial ?_
      refine G.op1 (op_pickT (Ev.t 79 (bB true)) (Ev.t 85 (bB (r7 == y5))) rfl) rfl ⟨rfl, rfl, trivial⟩ trivial ?_
      refine G.op1 (op_assign (Ev.t 86 (bB (r7 == y5))) rfl) rfl ⟨rfl, trivial⟩ trivial ?_
      refine G.endOps ?_
      cases hF
      exact G.ret1 Try.results4 (RVar.tmp 6 _) ⟨rfl, trivial⟩ trivial
    · refine G.known (t := 79) hc6 rfl ?_
      refine G.opN1 rfl rfl rfl rfl rfl ?_
      refine G.opN1 rfl rfl rfl rfl rfl ?_
      refine G.opN1 rfl rfl rfl rfl rfl ?_
      refine G.opN1 rfl rfl rfl rfl rfl ?_
      refine G.opN1 rfl rfl rfl rfl rfl ?_
      refine G.opN1 rfl rfl rfl rfl rfl ?_
      refine G.op1 (op_pickF (Ev.t 79 (bB false)) (Ev.c _ rfl) rfl) rfl ⟨rfl, trivial⟩ trivial ?_
      refine G.op1 (op_assign (Ev.t 86 (bB false)) rfl) rfl ⟨rfl, trivial⟩ trivial ?_
      refine G.endOps ?_
      cases hF
      exact G.ret1 Try.results4 (RVar.tmp 6 _) ⟨rfl, trivial⟩ trivial
  refine G.block ?_
  refine G.keep (sl' := [(1, .one (.g (.d (.sl 1 (List.map encS r4))))), (7, .one (bB r1)), (8, .one (.g (.d (.sl 6 (List.map encApi_Version r2))))), (9, .one (.g (.d (.sl 3 (List.map encApi_Dep r3))))), (10, .one (bB true)), (11, .one (bI .i64 0))]) (hp' := []) ⟨rfl, rfl, rfl, rfl, rfl, rfl, trivial⟩ trivial rfl ?_
  refine G.loopF (fun (v9 : Bool × Int) => ⟨[(1, .one (.g (.d (.sl 1 (List.map encS r4))))), (7, .one (bB r1)), (8, .one (.g (.d (.sl 6 (List.map encApi_Version r2))))), (9, .one (.g (.d (.sl 3 (List.map encApi_Dep r3))))), (10, .one (bB v9.1)), (11, .one (bI .i64 v9.2))], []⟩) hF rfl (fun K12 again11 v9 J10 hF => ?_)
  unfold law19_CutMeans_l2 at hF
  refine G.seq ?_
  refine G.seq ?_
  refine G.region ?_
  refine G.op1 (op_move (Ev.t 11 (bI .i64 v9.2)) rfl) rfl ⟨rfl, trivial⟩ trivial ?_
  refine G.op1 (op_move (Ev.t 1 (.g (.d (.sl 1 (List.map encS r4))))) rfl) rfl ⟨rfl, trivial⟩ trivial ?_
  refine G.op1 (OpL.cast (op_lenD Try.underlying23 (Ev.t 22 (.g (.d (.sl 1 (List.map encS r4))))) rfl) (by rw [List.length_map])) rfl ⟨rfl, trivial⟩ trivial ?_
  refine G.op1 (op_lss (Ev.t 21 (bI .i64 v9.2)) (Ev.t 23 (bI .i64 (r4.length : Int))) rfl) rfl ⟨rfl, rfl, trivial⟩ trivial ?_
  refine G.endOps ?_
  refine ifS hF (fun hc13 hF => ?_) (fun hc13 hF => ?_)
  · refine G.cond rfl (fun _ => ?_) (fun hx => by rw [hc13] at hx; cases hx)
    refine G.skip ?_
    refine G.seq ?_
    refine G.joinC (T := Bool) (fun y14 => ⟨[(1, .one (.g (.d (.sl 1 (List.map encS r4))))), (7, .one (bB r1)), (8, .one (.g (.d (.sl 6 (List.map encApi_Version r2))))), (9, .one (.g (.d (.sl 3 (List.map encApi_Dep r3))))), (10, .one (bB y14)), (11, .one (bI .i64 v9.2))], []⟩) (fun y14 => law19_CutMeans_k3 again11 v9 y14 = some r) (fun y14 hF => ?_) (fun J15 => ?_)
    · unfold law19_CutMeans_k3 at hF
      refine G.region ?_
      refine G.op1 (op_move (Ev.t 11 (bI .i64 v9.2)) rfl) rfl ⟨rfl, trivial⟩ trivial ?_
      refine G.op1 (op_add (Ev.t 25 (bI .i64 v9.2)) (Ev.c _ rfl) rfl) rfl ⟨rfl, trivial⟩ trivial ?_
      refine G.op1 (op_assign (Ev.t 26 (bI .i64 (IntKind.wrap .i64 (v9.2 + 1)))) rfl) rfl ⟨rfl, trivial⟩ trivial ?_
      refine G.endOps ?_
      exact G.arr (J10 (y14, IntKind.wrap .i64 (v9.2 + 1)) hF) ⟨rfl, rfl, rfl, rfl, rfl, rfl, trivial⟩ trivial rfl
    refine G.block ?_
    refine G.seq ?_
    refine G.region ?_
    refine G.op1 (op_move (Ev.t 8 (.g (.d (.sl 6 (List.map encApi_Version r2))))) rfl) rfl ⟨rfl, trivial⟩ trivial ?_
    refine G.op1 (op_move (Ev.t 1 (.g (.d (.sl 1 (List.map encS r4))))) rfl) rfl ⟨rfl, trivial⟩ trivial ?_
    refine G.op1 (op_move (Ev.t 11 (bI .i64 v9.2)) rfl) rfl ⟨rfl, trivial⟩ trivial ?_
    obtain ⟨x16, hx16, hF⟩ := bindS hF
    refine G.op1 (op_index (cs := [.v (.string x16)]) Try.underlying23 ti9 (idx_ok hx16).1 (idx_get hx16 encS) (Ev.t 28 (.g (.d (.sl 1 (List.map encS r4))))) (Ev.t 29 (bI .i64 v9.2)) rfl) rfl ⟨rfl, rfl, trivial⟩ trivial ?_
    refine G.op1 (op_load1E (c := .v (.string x16)) Try.underlying9 rfl rfl (Ev.t 30 (.ep [.v (.string x16)])) rfl) rfl ⟨rfl, trivial⟩ trivial ?_
    obtain ⟨r17, hr17, hF⟩ := bindS hF
    refine G.op1 (op_callQ (sv := .one (.g (.agg [.v (.int .i64 r17.N), .v (.int .i64 r17.Site)]))) cf21 (ct_cut_Of r2 x16 r17 hr17) rfl rfl (EvQL.cons (EvQ.g (Ev.t 27 (.g (.d (.sl 6 (List.map encApi_Version r2)))))) (EvQL.cons (EvQ.g (Ev.t 31 (bS x16))) EvQL.nil)) rfl) rfl ⟨rfl, rfl, trivial⟩ trivial ?_
    refine G.op2 (op_alloc (k := 1012) (cs := [bI .i64 0, bI .i64 0]) ti35 ⟨.v _ rfl, .v _ rfl, trivial⟩ rfl) rfl trivial ⟨rfl, trivial⟩ ?_
    refine G.op3 (op_storeA (cs' := [bI .i64 r17.N, bI .i64 r17.Site]) ti35 rfl rfl (Ev.t 12 (.ptr 1012 0)) (Ev.t 32 (.g (.agg [.v (.int .i64 r17.N), .v (.int .i64 r17.Site)])))) rfl ⟨rfl, rfl, trivial⟩ ⟨rfl, trivial⟩ ?_
    refine G.endOps ?_
    refine G.seq ?_
    refine G.seq ?_
    obtain ⟨x18, hx18, hF⟩ := bindS hF
    obtain ⟨r19, hr19, hF⟩ := bindS hF
    obtain ⟨r20, hr20, hF⟩ := bindS hF
    refine G.drawn (effs := [⟨[(12, .one (.ptr 1012 0))], [(1012, some (.blk 35 [bI .i64 r17.N, bI .i64 r17.Site]))], [(33, .one (.g (.agg [.v (.int .i64 r17.N), .v (.int .i64 r17.Site)])))], []⟩, ⟨[(9, .one (.g (.d (.sl 3 (List.map encApi_Dep r3)))))], [], [(34, .one (.g (.d (.sl 3 (List.map encApi_Dep r3)))))], []⟩, ⟨[(1, .one (.g (.d (.sl 1 (List.map encS r4)))))], [], [(35, .one (.g (.d (.sl 1 (List.map encS r4)))))], []⟩, ⟨[(11, .one (bI .i64 v9.2))], [], [(36, .one (bI .i64 v9.2))], []⟩, ⟨[(35, .one (.g (.d (.sl 1 (List.map encS r4))))), (36, .one (bI .i64 v9.2))], [], [(37, .one (.ep [.v (.string x18)]))], []⟩, ⟨[(37, .one (.ep [.v (.string x18)]))], [], [(38, .one (bS x18))], []⟩, ⟨[(34, .one (.g (.d (.sl 3 (List.map encApi_Dep r3))))), (38, .one (bS x18))], [], [(39, .one (.g (.agg [.v (.int .i64 r19.N), .v (.int .i64 r19.Site)])))], []⟩, ⟨[(33, .one (.g (.agg [.v (.int .i64 r17.N), .v (.int .i64 r17.Site)]))), (39, .one (.g (.agg [.v (.int .i64 r19.N), .v (.int .i64 r19.Site)])))], [], [(40, .one (bB r20))], []⟩]) (deps := [[], [], [], [], [2, 3], [2, 3, 4], [1, 2, 3, 4, 5], [0, 1, 2, 3, 4, 5, 6]]) (sl' := [(1, .one (.g (.d (.sl 1 (List.map encS r4))))), (7, .one (bB r1)), (8, .one (.g (.d (.sl 6 (List.map encApi_Version r2))))), (9, .one (.g (.d (.sl 3 (List.map encApi_Dep r3))))), (10, .one (bB v9.1)), (11, .one (bI .i64 v9.2)), (12, .one (.ptr 1012 0)), (40, .one (bB r20))]) (hp' := [(1012, some (.blk 35 [bI .i64 r17.N, bI .i64 r17.Site]))]) follows rfl rfl rfl ⟨⟨rfl, trivial⟩, ⟨⟨rfl, rfl⟩, trivial⟩, ⟨rfl, trivial⟩, trivial, ⟨rfl, trivial⟩, trivial, ⟨rfl, trivial⟩, trivial, ⟨rfl, rfl, trivial⟩, trivial, ⟨rfl, trivial⟩, trivial, ⟨rfl, rfl, trivial⟩, trivial, ⟨rfl, rfl, trivial⟩, trivial, trivial⟩ ⟨OpW.plain (op_loadAP (ds := [.v (.int .i64 r17.N), .v (.int .i64 r17.Site)]) Try.underlying35 rfl ti35 rfl (Ev.t 12 (.ptr 1012 0)) rfl) rfl rfl, OpW.plain (op_move (Ev.t 9 (.g (.d (.sl 3 (List.map encApi_Dep r3))))) rfl) rfl rfl, OpW.plain (op_move (Ev.t 1 (.g (.d (.sl 1 (List.map encS r4))))) rfl) rfl rfl, OpW.plain (op_move (Ev.t 11 (bI .i64 v9.2)) rfl) rfl rfl, OpW.plain (op_index (cs := [.v (.string x18)]) Try.underlying23 ti9 (idx_ok hx18).1 (idx_get hx18 encS) (Ev.t 35 (.g (.d (.sl 1 (List.map encS r4))))) (Ev.t 36 (bI .i64 v9.2)) rfl) rfl rfl, OpW.plain (op_load1E (c := .v (.string x18)) Try.underlying9 rfl rfl (Ev.t 37 (.ep [.v (.string x18)])) rfl) rfl rfl, OpW.plain (op_callQ (sv := .one (.g (.agg [.v (.int .i64 r19.N), .v (.int .i64 r19.Site)]))) cf26 (ct_ref04_Get r3 x18 r19 hr19) rfl rfl (EvQL.cons (EvQ.g (Ev.t 34 (.g (.d (.sl 3 (List.map encApi_Dep r3)))))) (EvQL.cons (EvQ.g (Ev.t 38 (bS x18))) EvQL.nil)) rfl) rfl rfl, OpW.plain (op_callQ (sv := .one (bB r20)) cf25 (ct_ref03_Less r17 r19 r20 hr20) rfl rfl (EvQL.cons (EvQ.g (Ev.t 33 (.g (.agg [.v (.int .i64 r17.N), .v (.int .i64 r17.Site)])))) (EvQL.cons (EvQ.g (Ev.t 39 (.g (.agg [.v (.int .i64 r19.N), .v (.int .i64 r19.Site)])))) EvQL.nil)) rfl) rfl rfl, trivial⟩ ⟨rfl, rfl, rfl, rfl, rfl, rfl, rfl, rfl, trivial⟩ ⟨rfl, trivial⟩ rfl ?_
    refine G.joinC (T := Bool) (fun y21 => ⟨[(1, .one (.g (.d (.sl 1 (List.map encS r4))))), (7, .one (bB r1)), (8, .one (.g (.d (.sl 6 (List.map encApi_Version r2))))), (9, .one (.g (.d (.sl 3 (List.map encApi_Dep r3))))), (10, .one (bB y21)), (11, .one (bI .i64 v9.2)), (12, .one (.ptr 1012 0))], [(1012, some (.blk 35 [bI .i64 r17.N, bI .i64 r17.Site]))]⟩) (fun y21 => law19_CutMeans_k4 r2 r4 again11 v9 r17 y21 = some r) (fun y21 hF => ?_) (fun J42 => ?_)
    · unfold law19_CutMeans_k4 at hF
      refine G.seq ?_
      refine G.region ?_
      refine G.op1 (op_assign (Ev.c _ rfl) rfl) rfl trivial trivial ?_
      refine G.endOps ?_
      refine G.joinC (T := Bool) (fun y22 => ⟨[(1, .one (.g (.d (.sl 1 (List.map encS r4))))), (7, .one (bB r1)), (8, .one (.g (.d (.sl 6 (List.map encApi_Version r2))))), (9, .one (.g (.d (.sl 3 (List.map encApi_Dep r3))))), (10, .one (bB y22)), (11, .one (bI .i64 v9.2))], []⟩) (fun y22 => law19_CutMeans_k5 again11 v9 y22 = some r) (fun y22 hF => ?_) (fun J23 => ?_)
      · unfold law19_CutMeans_k5 at hF
        refine G.endBlock ?_
        exact G.arr (J15 y22 hF) ⟨rfl, rfl, rfl, rfl, rfl, rfl, trivial⟩ trivial rfl
      refine G.block ?_
      refine G.keep (sl' := [(1, .one (.g (.d (.sl 1 (List.map encS r4))))), (7, .one (bB r1)), (8, .one (.g (.d (.sl 6 (List.map encApi_Version r2))))), (9, .one (.g (.d (.sl 3 (List.map encApi_Dep r3))))), (10, .one (bB y21)), (11, .one (bI .i64 v9.2)), (12, .one (.ptr 1012 0)), (13, .one (bI .i64 0))]) (hp' := [(1012, some (.blk 35 [bI .i64 r17.N, bI .i64 r17.Site]))]) ⟨rfl, rfl, rfl, rfl, rfl, rfl, rfl, rfl, trivial⟩ ⟨rfl, trivial⟩ rfl ?_
      refine G.loopF (fun (v24 : Bool × Int) => ⟨[(1, .one (.g (.d (.sl 1 (List.map encS r4))))), (7, .one (bB r1)), (8, .one (.g (.d (.sl 6 (List.map encApi_Version r2))))), (9, .one (.g (.d (.sl 3 (List.map encApi_Dep r3))))), (10, .one (bB v24.1)), (11, .one (bI .i64 v9.2)), (12, .one (.ptr 1012 0)), (13, .one (bI .i64 v24.2))], [(1012, some (.blk 35 [bI .i64 r17.N, bI .i64 r17.Site]))]⟩) hF rfl (fun K27 again26 v24 J25 hF => ?_)
      unfold law19_CutMeans_l6 at hF
      refine G.seq ?_
      refine G.seq ?_
      refine G.region ?_
      refine G.op1 (op_move (Ev.t 13 (bI .i64 v24.2)) rfl) rfl ⟨rfl, trivial⟩ trivial ?_
      refine G.op1 (op_move (Ev.t 8 (.g (.d (.sl 6 (List.map encApi_Version r2))))) rfl) rfl ⟨rfl, trivial⟩ trivial ?_
      refine G.op1 (OpL.cast (op_lenD Try.underlying22 (Ev.t 42 (.g (.d (.sl 6 (List.map encApi_Version r2))))) rfl) (by rw [List.length_map])) rfl ⟨rfl, trivial⟩ trivial ?_
      refine G.op1 (op_lss (Ev.t 41 (bI .i64 v24.2)) (Ev.t 43 (bI .i64 (r2.length : Int))) rfl) rfl ⟨rfl, rfl, trivial⟩ trivial ?_
      refine G.endOps ?_
      refine ifS hF (fun hc28 hF => ?_) (fun hc28 hF => ?_)
      · refine G.cond rfl (fun _ => ?_) (fun hx => by rw [hc28] at hx; cases hx)
        refine G.skip ?_
        refine G.seq ?_
        refine G.block ?_
        refine G.seq ?_
        refine G.seq ?_
        obtain ⟨x29, hx29, hF⟩ := bindS hF
        obtain ⟨x30, hx30, hF⟩ := bindS hF
        obtain ⟨r31, hr31, hF⟩ := bindS hF
        obtain ⟨r32, hr32, hF⟩ := bindS hF
        refine G.drawn (effs := [⟨[(12, .one (.ptr 1012 0))], [(1012, some (.blk 35 [bI .i64 r17.N, bI .i64 r17.Site]))], [(47, .one (.g (.agg [.v (.int .i64 r17.N), .v (.int .i64 r17.Site)])))], []⟩, ⟨[(8, .one (.g (.d (.sl 6 (List.map encApi_Version r2)))))], [], [(48, .one (.g (.d (.sl 6 (List.map encApi_Version r2)))))], []⟩, ⟨[(13, .one (bI .i64 v24.2))], [], [(49, .one (bI .i64 v24.2))], []⟩, ⟨[(48, .one (.g (.d (.sl 6 (List.map encApi_Version r2))))), (49, .one (bI .i64 v24.2))], [], [(50, .one (.ep [.v (.string x29.Key), .v (.string x29.Value), .v (.bool x29.Gone), .v (.int .i64 x29.Stamp.N), .v (.int .i64 x29.Stamp.Site), .sl 3 (List.map encApi_Dep x29.Past)]))], []⟩, ⟨[(50, .one (.ep [.v (.string x29.Key), .v (.string x29.Value), .v (.bool x29.Gone), .v (.int .i64 x29.Stamp.N), .v (.int .i64 x29.Stamp.Site), .sl 3 (List.map encApi_Dep x29.Past)]))], [], [(51, .one (.ep [.sl 3 (List.map encApi_Dep x29.Past)]))], []⟩, ⟨[(51, .one (.ep [.sl 3 (List.map encApi_Dep x29.Past)]))], [], [(52, .one (.g (.d (.sl 3 (List.map encApi_Dep x29.Past)))))], []⟩, ⟨[(1, .one (.g (.d (.sl 1 (List.map encS r4)))))], [], [(53, .one (.g (.d (.sl 1 (List.map encS r4)))))], []⟩, ⟨[(11, .one (bI .i64 v9.2))], [], [(54, .one (bI .i64 v9.2))], []⟩, ⟨[(53, .one (.g (.d (.sl 1 (List.map encS r4))))), (54, .one (bI .i64 v9.2))], [], [(55, .one (.ep [.v (.string x30)]))], []⟩, ⟨[(55, .one (.ep [.v (.string x30)]))], [], [(56, .one (bS x30))], []⟩, ⟨[(52, .one (.g (.d (.sl 3 (List.map encApi_Dep x29.Past))))), (56, .one (bS x30))], [], [(57, .one (.g (.agg [.v (.int .i64 r31.N), .v (.int .i64 r31.Site)])))], []⟩, ⟨[(47, .one (.g (.agg [.v (.int .i64 r17.N), .v (.int .i64 r17.Site)]))), (57, .one (.g (.agg [.v (.int .i64 r31.N), .v (.int .i64 r31.Site)])))], [], [(58, .one (bB r32))], []⟩]) (deps := [[], [], [], [1, 2], [1, 2, 3], [1, 2, 3, 4], [], [], [6, 7], [6, 7, 8], [1, 2, 3, 4, 5, 6, 7, 8, 9], [0, 1, 2, 3, 4, 5, 6, 7, 8, 9, 10]]) (sl' := [(1, .one (.g (.d (.sl 1 (List.map encS r4))))), (7, .one (bB r1)), (8, .one (.g (.d (.sl 6 (List.map encApi_Version r2))))), (9, .one (.g (.d (.sl 3 (List.map encApi_Dep r3))))), (10, .one (bB v24.1)), (11, .one (bI .i64 v9.2)), (12, .one (.ptr 1012 0)), (13, .one (bI .i64 v24.2)), (58, .one (bB r32))]) (hp' := [(1012, some (.blk 35 [bI .i64 r17.N, bI .i64 r17.Site]))]) follows rfl rfl rfl ⟨⟨rfl, trivial⟩, ⟨⟨rfl, rfl⟩, trivial⟩, ⟨rfl, trivial⟩, trivial, ⟨rfl, trivial⟩, trivial, ⟨rfl, rfl, trivial⟩, trivial, ⟨rfl, trivial⟩, trivial, ⟨rfl, trivial⟩, trivial, ⟨rfl, trivial⟩, trivial, ⟨rfl, trivial⟩, trivial, ⟨rfl, rfl, trivial⟩, trivial, ⟨rfl, trivial⟩, trivial, ⟨rfl, rfl, trivial⟩, trivial, ⟨rfl, rfl, trivial⟩, trivial, trivial⟩ ⟨OpW.plain (op_loadAP (ds := [.v (.int .i64 r17.N), .v (.int .i64 r17.Site)]) Try.underlying35 rfl ti35 rfl (Ev.t 12 (.ptr 1012 0)) rfl) rfl rfl, OpW.plain (op_move (Ev.t 8 (.g (.d (.sl 6 (List.map encApi_Version r2))))) rfl) rfl rfl, OpW.plain (op_move (Ev.t 13 (bI .i64 v24.2)) rfl) rfl rfl, OpW.plain (op_index (cs := [.v (.string x29.Key), .v (.string x29.Value), .v (.bool x29.Gone), .v (.int .i64 x29.Stamp.N), .v (.int .i64 x29.Stamp.Site), .sl 3 (List.map encApi_Dep x29.Past)]) Try.underlying22 ti42 (idx_ok hx29).1 (idx_get hx29 encApi_Version) (Ev.t 48 (.g (.d (.sl 6 (List.map encApi_Version r2))))) (Ev.t 49 (bI .i64 v24.2)) rfl) rfl rfl, OpW.plain (op_fieldE (cs' := [.sl 3 (List.map encApi_Dep x29.Past)]) Try.underlying42 rfl ti24 (by decide) rfl (Ev.t 50 (.ep [.v (.string x29.Key), .v (.string x29.Value), .v (.bool x29.Gone), .v (.int .i64 x29.Stamp.N), .v (.int .i64 x29.Stamp.Site), .sl 3 (List.map encApi_Dep x29.Past)])) rfl) rfl rfl, OpW.plain (op_load1E (c := .sl 3 (List.map encApi_Dep x29.Past)) Try.underlying24 rfl rfl (Ev.t 51 (.ep [.sl 3 (List.map encApi_Dep x29.Past)])) rfl) rfl rfl, OpW.plain (op_move (Ev.t 1 (.g (.d (.sl 1 (List.map encS r4))))) rfl) rfl rfl, OpW.plain (op_move (Ev.t 11 (bI .i64 v9.2)) rfl) rfl rfl, OpW.plain (op_index (cs := [.v (.string x30)]) Try.underlying23 ti9 (idx_ok hx30).1 (idx_get hx30 encS) (Ev.t 53 (.g (.d (.sl 1 (List.map encS r4))))) (Ev.t 54 (bI .i64 v9.2)) rfl) rfl rfl, OpW.plain (op_load1E (c := .v (.string x30)) Try.underlying9 rfl rfl (Ev.t 55 (.ep [.v (.string x30)])) rfl) rfl rfl, OpW.plain (op_callQ (sv := .one (.g (.agg [.v (.int .i64 r31.N), .v (.int .i64 r31.Site)]))) cf26 (ct_ref04_Get x29.Past x30 r31 hr31) rfl rfl (EvQL.cons (EvQ.g (Ev.t 52 (.g (.d (.sl 3 (List.map encApi_Dep x29.Past)))))) (EvQL.cons (EvQ.g (Ev.t 56 (bS x30))) EvQL.nil)) rfl) rfl rfl, OpW.plain (op_callQ (sv := .one (bB r32)) cf25 (ct_ref03_Less r17 r31 r32 hr32) rfl rfl (EvQL.cons (EvQ.g (Ev.t 47 (.g (.agg [.v (.int .i64 r17.N), .v (.int .i64 r17.Site)])))) (EvQL.cons (EvQ.g (Ev.t 57 (.g (.agg [.v (.int .i64 r31.N), .v (.int .i64 r31.Site)])))) EvQL.nil)) rfl) rfl rfl, trivial⟩ ⟨rfl, rfl, rfl, rfl, rfl, rfl, rfl, rfl, rfl, trivial⟩ ⟨rfl, trivial⟩ rfl ?_
        refine G.joinC (T := Bool) (fun y33 => ⟨[(1, .one (.g (.d (.sl 1 (List.map encS r4))))), (7, .one (bB r1)), (8, .one (.g (.d (.sl 6 (List.map encApi_Version r2))))), (9, .one (.g (.d (.sl 3 (List.map encApi_Dep r3))))), (10, .one (bB y33)), (11, .one (bI .i64 v9.2)), (12, .one (.ptr 1012 0)), (13, .one (bI .i64 v24.2))], [(1012, some (.blk 35 [bI .i64 r17.N, bI .i64 r17.Site]))]⟩) (fun y33 => law19_CutMeans_k7 r2 r4 v9 r17 again26 v24 y33 = some r) (fun y33 hF => ?_) (fun J40 => ?_)
        · unfold law19_CutMeans_k7 at hF
          refine G.seq ?_
          obtain ⟨x34, hx34, hF⟩ := bindS hF
          obtain ⟨x35, hx35, hF⟩ := bindS hF
          refine ifS hF (fun hc36 hF => ?_) (fun hc36 hF => ?_)
          · obtain ⟨x37, hx37, hF⟩ := bindS hF
            obtain ⟨r38, hr38, hF⟩ := bindS hF
            refine G.drawn (effs := [⟨[(8, .one (.g (.d (.sl 6 (List.map encApi_Version r2)))))], [], [(59, .one (.g (.d (.sl 6 (List.map encApi_Version r2)))))], []⟩, ⟨[(13, .one (bI .i64 v24.2))], [], [(60, .one (bI .i64 v24.2))], []⟩, ⟨[(59, .one (.g (.d (.sl 6 (List.map encApi_Version r2))))), (60, .one (bI .i64 v24.2))], [], [(61, .one (.ep [.v (.string x34.Key), .v (.string x34.Value), .v (.bool x34.Gone), .v (.int .i64 x34.Stamp.N), .v (.int .i64 x34.Stamp.Site), .sl 3 (List.map encApi_Dep x34.Past)]))], []⟩, ⟨[(61, .one (.ep [.v (.string x34.Key), .v (.string x34.Value), .v (.bool x34.Gone), .v (.int .i64 x34.Stamp.N), .v (.int .i64 x34.Stamp.Site), .sl 3 (List.map encApi_Dep x34.Past)]))], [], [(62, .one (.ep [.v (.string x34.Key), .v (.string x34.Value), .v (.bool x34.Gone), .v (.int .i64 x34.Stamp.N), .v (.int .i64 x34.Stamp.Site), .sl 3 (List.map encApi_Dep x34.Past)]))], []⟩, ⟨[(62, .one (.ep [.v (.string x34.Key), .v (.string x34.Value), .v (.bool x34.Gone), .v (.int .i64 x34.Stamp.N), .v (.int .i64 x34.Stamp.Site), .sl 3 (List.map encApi_Dep x34.Past)]))], [], [(63, .one (bS x34.Key))], []⟩, ⟨[(1, .one (.g (.d (.sl 1 (List.map encS r4)))))], [], [(64, .one (.g (.d (.sl 1 (List.map encS r4)))))], []⟩, ⟨[(11, .one (bI .i64 v9.2))], [], [(65, .one (bI .i64 v9.2))], []⟩, ⟨[(64, .one (.g (.d (.sl 1 (List.map encS r4))))), (65, .one (bI .i64 v9.2))], [], [(66, .one (.ep [.v (.string x35)]))], []⟩, ⟨[(66, .one (.ep [.v (.string x35)]))], [], [(67, .one (bS x35))], []⟩, ⟨[(63, .one (bS x34.Key)), (67, .one (bS x35))], [], [(68, .one (bB true))], []⟩, ⟨[(68, .one (bB true))], [], [(69, .one (bB true))], []⟩, ⟨[(69, .one (bB true)), (12, .one (.ptr 1012 0))], [(1012, some (.blk 35 [bI .i64 r17.N, bI .i64 r17.Site]))], [(70, .one (.g (.agg [.v (.int .i64 r17.N), .v (.int .i64 r17.Site)])))], []⟩, ⟨[(69, .one (bB true)), (8, .one (.g (.d (.sl 6 (List.map encApi_Version r2)))))], [], [(71, .one (.g (.d (.sl 6 (List.map encApi_Version r2)))))], []⟩, ⟨[(69, .one (bB true)), (13, .one (bI .i64 v24.2))], [], [(72, .one (bI .i64 v24.2))], []⟩, ⟨[(69, .one (bB true)), (71, .one (.g (.d (.sl 6 (List.map encApi_Version r2))))), (72, .one (bI .i64 v24.2))], [], [(73, .one (.ep [.v (.string x37.Key), .v (.string x37.Value), .v (.bool x37.Gone), .v (.int .i64 x37.Stamp.N), .v (.int .i64 x37.Stamp.Site), .sl 3 (List.map encApi_Dep x37.Past)]))], []⟩, ⟨[(69, .one (bB true)), (73, .one (.ep [.v (.string x37.Key), .v (.string x37.Value), .v (.bool x37.Gone), .v (.int .i64 x37.Stamp.N), .v (.int .i64 x37.Stamp.Site), .sl 3 (List.map encApi_Dep x37.Past)]))], [], [(74, .one (.ep [.v (.int .i64 x37.Stamp.N), .v (.int .i64 x37.Stamp.Site), .sl 3 (List.map encApi_Dep x37.Past)]))], []⟩, ⟨[(69, .one (bB true)), (74, .one (.ep [.v (.int .i64 x37.Stamp.N), .v (.int .i64 x37.Stamp.Site), .sl 3 (List.map encApi_Dep x37.Past)]))], [], [(75, .one (.g (.agg [.v (.int .i64 x37.Stamp.N), .v (.int .i64 x37.Stamp.Site)])))], []⟩, ⟨[(69, .one (bB true)), (70, .one (.g (.agg [.v (.int .i64 r17.N), .v (.int .i64 r17.Site)]))), (75, .one (.g (.agg [.v (.int .i64 x37.Stamp.N), .v (.int .i64 x37.Stamp.Site)])))], [], [(76, .one (bB r38))], []⟩, ⟨[(69, .one (bB true)), (76, .one (bB r38))], [], [(77, .one (bB r38))], []⟩]) (deps := [[], [], [0, 1], [0, 1, 2], [0, 1, 2, 3], [], [], [5, 6], [5, 6, 7], [0, 1, 2, 3, 4, 5, 6, 7, 8], [0, 1, 2, 3, 4, 5, 6, 7, 8, 9], [0, 1, 2, 3, 4, 5, 6, 7, 8, 9, 10], [0, 1, 2, 3, 4, 5, 6, 7, 8, 9, 10], [0, 1, 2, 3, 4, 5, 6, 7, 8, 9, 10], [0, 1, 2, 3, 4, 5, 6, 7, 8, 9, 10, 12, 13], [0, 1, 2, 3, 4, 5, 6, 7, 8, 9, 10, 12, 13, 14], [0, 1, 2, 3, 4, 5, 6, 7, 8, 9, 10, 12, 13, 14, 15], [0, 1, 2, 3, 4, 5, 6, 7, 8, 9, 10, 11, 12, 13, 14, 15, 16], [0, 1, 2, 3, 4, 5, 6, 7, 8, 9, 10, 11, 12, 13, 14, 15, 16, 17]]) (sl' := [(1, .one (.g (.d (.sl 1 (List.map encS r4))))), (7, .one (bB r1)), (8, .one (.g (.d (.sl 6 (List.map encApi_Version r2))))), (9, .one (.g (.d (.sl 3 (List.map encApi_Dep r3))))), (10, .one (bB y33)), (11, .one (bI .i64 v9.2)), (12, .one (.ptr 1012 0)), (13, .one (bI .i64 v24.2)), (77, .one (bB r38))]) (hp' := [(1012, some (.blk 35 [bI .i64 r17.N, bI .i64 r17.Site]))]) follows rfl rfl rfl ⟨⟨rfl, trivial⟩, trivial, ⟨rfl, trivial⟩, trivial, ⟨rfl, rfl, trivial⟩, trivial, ⟨rfl, trivial⟩, trivial, ⟨rfl, trivial⟩, trivial, ⟨rfl, trivial⟩, trivial, ⟨rfl, trivial⟩, trivial, ⟨rfl, rfl, trivial⟩, trivial, ⟨rfl, trivial⟩, trivial, ⟨rfl, rfl, trivial⟩, trivial, ⟨rfl, trivial⟩, trivial, ⟨rfl, rfl, trivial⟩, ⟨⟨rfl, rfl⟩, trivial⟩, ⟨rfl, rfl, trivial⟩, trivial, ⟨rfl, rfl, trivial⟩, trivial, ⟨rfl, rfl, rfl, trivial⟩, trivial, ⟨rfl, rfl, trivial⟩, trivial, ⟨rfl, rfl, trivial⟩, trivial, ⟨rfl, rfl, rfl, trivial⟩, trivial, ⟨rfl, rfl, trivial⟩, trivial, trivial⟩ ⟨OpW.plain (op_move (Ev.t 8 (.g (.d (.sl 6 (List.map encApi_Version r2))))) rfl) rfl rfl, OpW.plain (op_move (Ev.t 13 (bI .i64 v24.2)) rfl) rfl rfl, OpW.plain (op_index (cs := [.v (.string x34.Key), .v (.string x34.Value), .v (.bool x34.Gone), .v (.int .i64 x34.Stamp.N), .v (.int .i64 x34.Stamp.Site), .sl 3 (List.map encApi_Dep x34.Past)]) Try.underlying22 ti42 (idx_ok hx34).1 (idx_get hx34 encApi_Version) (Ev.t 59 (.g (.d (.sl 6 (List.map encApi_Version r2))))) (Ev.t 60 (bI .i64 v24.2)) rfl) rfl rfl, OpW.plain (op_fieldE (cs' := [.v (.string x34.Key), .v (.string x34.Value), .v (.bool x34.Gone), .v (.int .i64 x34.Stamp.N), .v (.int .i64 x34.Stamp.Site), .sl 3 (List.map encApi_Dep x34.Past)]) Try.underlying42 rfl ti9 (by decide) rfl (Ev.t 61 (.ep [.v (.string x34.Key), .v (.string x34.Value), .v (.bool x34.Gone), .v (.int .i64 x34.Stamp.N), .v (.int .i64 x34.Stamp.Site), .sl 3 (List.map encApi_Dep x34.Past)])) rfl) rfl rfl, OpW.plain (op_load1E (c := .v (.string x34.Key)) Try.underlying9 rfl rfl (Ev.t 62 (.ep [.v (.string x34.Key), .v (.string x34.Value), .v (.bool x34.Gone), .v (.int .i64 x34.Stamp.N), .v (.int .i64 x34.Stamp.Site), .sl 3 (List.map encApi_Dep x34.Past)])) rfl) rfl rfl, OpW.plain (op_move (Ev.t 1 (.g (.d (.sl 1 (List.map encS r4))))) rfl) rfl rfl, OpW.plain (op_move (Ev.t 11 (bI .i64 v9.2)) rfl) rfl rfl, OpW.plain (op_index (cs := [.v (.string x35)]) Try.underlying23 ti9 (idx_ok hx35).1 (idx_get hx35 encS) (Ev.t 64 (.g (.d (.sl 1 (List.map encS r4))))) (Ev.t 65 (bI .i64 v9.2)) rfl) rfl rfl, OpW.plain (op_load1E (c := .v (.string x35)) Try.underlying9 rfl rfl (Ev.t 66 (.ep [.v (.string x35)])) rfl) rfl rfl, OpW.plain (OpL.cast (op_eqS (Ev.t 63 (bS x34.Key)) (Ev.t 67 (bS x35)) rfl) (congrArg (fun b => bB b) hc36)) rfl rfl, OpW.plain (op_move (Ev.t 68 (bB true)) rfl) rfl rfl, OpW.yes (op_loadAP (ds := [.v (.int .i64 r17.N), .v (.int .i64 r17.Site)]) Try.underlying35 rfl ti35 rfl (Ev.t 12 (.ptr 1012 0)) rfl) rfl rfl rfl, OpW.yes (op_move (Ev.t 8 (.g (.d (.sl 6 (List.map encApi_Version r2))))) rfl) rfl rfl rfl, OpW.yes (op_move (Ev.t 13 (bI .i64 v24.2)) rfl) rfl rfl rfl, OpW.yes (op_index (cs := [.v (.string x37.Key), .v (.string x37.Value), .v (.bool x37.Gone), .v (.int .i64 x37.Stamp.N), .v (.int .i64 x37.Stamp.Site), .sl 3 (List.map encApi_Dep x37.Past)]) Try.underlying22 ti42 (idx_ok hx37).1 (idx_get hx37 encApi_Version) (Ev.t 71 (.g (.d (.sl 6 (List.map encApi_Version r2))))) (Ev.t 72 (bI .i64 v24.2)) rfl) rfl rfl rfl, OpW.yes (op_fieldE (cs' := [.v (.int .i64 x37.Stamp.N), .v (.int .i64 x37.Stamp.Site), .sl 3 (List.map encApi_Dep x37.Past)]) Try.underlying42 rfl ti35 (by decide) rfl (Ev.t 73 (.ep [.v (.string x37.Key), .v (.string x37.Value), .v (.bool x37.Gone), .v (.int .i64 x37.Stamp.N), .v (.int .i64 x37.Stamp.Site), .sl 3 (List.map encApi_Dep x37.Past)])) rfl) rfl rfl rfl, OpW.yes (op_loadAE (ds := [.v (.int .i64 x37.Stamp.N), .v (.int .i64 x37.Stamp.Site)]) Try.underlying35 rfl ti35 rfl (Ev.t 74 (.ep [.v (.int .i64 x37.Stamp.N), .v (.int .i64 x37.Stamp.Site), .sl 3 (List.map encApi_Dep x37.Past)])) rfl) rfl rfl rfl, OpW.yes (op_callQ (sv := .one (bB r38)) cf25 (ct_ref03_Less r17 x37.Stamp r38 hr38) rfl rfl (EvQL.cons (EvQ.g (Ev.t 70 (.g (.agg [.v (.int .i64 r17.N), .v (.int .i64 r17.Site)])))) (EvQL.cons (EvQ.g (Ev.t 75 (.g (.agg [.v (.int .i64 x37.Stamp.N), .v (.int .i64 x37.Stamp.Site)])))) EvQL.nil)) rfl) rfl rfl rfl, OpW.plain (op_pickT (Ev.t 69 (bB true)) (Ev.t 76 (bB r38)) rfl) rfl rfl, trivial⟩ ⟨rfl, rfl, rfl, rfl, rfl, rfl, rfl, rfl, rfl, trivial⟩ ⟨rfl, trivial⟩ rfl ?_
            refine ifS hF (fun hc39 hF => ?_) (fun hc39 hF => ?_)
            · refine G.cond rfl (fun _ => ?_) (fun hx => by rw [hc39] at hx; cases hx)
              refine G.seq ?_
              refine G.region ?_
              refine G.op1 (op_assign (Ev.c _ rfl) rfl) rfl trivial trivial ?_
              refine G.endOps ?_
              cases hF
              exact G.ret1 Try.results4 (RVar.tmp 6 _) ⟨rfl, trivial⟩ trivial
            · refine G.cond rfl (fun hx => by rw [hc39] at hx; cases hx) (fun _ => ?_)
              refine G.skip ?_
              refine G.endBlock ?_
              refine G.region ?_
              refine G.op1 (op_move (Ev.t 13 (bI .i64 v24.2)) rfl) rfl ⟨rfl, trivial⟩ trivial ?_
              refine G.op1 (op_add (Ev.t 45 (bI .i64 v24.2)) (Ev.c _ rfl) rfl) rfl ⟨rfl, trivial⟩ trivial ?_
              refine G.op1 (op_assign (Ev.t 46 (bI .i64 (IntKind.wrap .i64 (v24.2 + 1)))) rfl) rfl ⟨rfl, trivial⟩ trivial ?_
              refine G.endOps ?_
              exact G.arr (J25 (y33, IntKind.wrap .i64 (v24.2 + 1)) hF) ⟨rfl, rfl, rfl, rfl, rfl, rfl, rfl, rfl, trivial⟩ ⟨rfl, trivial⟩ rfl
          · refine G.drawn (effs := [⟨[(8, .one (.g (.d (.sl 6 (List.map encApi_Version r2)))))], [], [(59, .one (.g (.d (.sl 6 (List.map encApi_Version r2)))))], []⟩, ⟨[(13, .one (bI .i64 v24.2))], [], [(60, .one (bI .i64 v24.2))], []⟩, ⟨[(59, .one (.g (.d (.sl 6 (List.map encApi_Version r2))))), (60, .one (bI .i64 v24.2))], [], [(61, .one (.ep [.v (.string x34.Key), .v (.string x34.Value), .v (.bool x34.Gone), .v (.int .i64 x34.Stamp.N), .v (.int .i64 x34.Stamp.Site), .sl 3 (List.map encApi_Dep x34.Past)]))], []⟩, ⟨[(61, .one (.ep [.v (.string x34.Key), .v (.string x34.Value), .v (.bool x34.Gone), .v (.int .i64 x34.Stamp.N), .v (.int .i64 x34.Stamp.Site), .sl 3 (List.map encApi_Dep x34.Past)]))], [], [(62, .one (.ep [.v (.string x34.Key), .v (.string x34.Value), .v (.bool x34.Gone), .v (.int .i64 x34.Stamp.N), .v (.int .i64 x34.Stamp.Site), .sl 3 (List.map encApi_Dep x34.Past)]))], []⟩, ⟨[(62, .one (.ep [.v (.string x34.Key), .v (.string x34.Value), .v (.bool x34.Gone), .v (.int .i64 x34.Stamp.N), .v (.int .i64 x34.Stamp.Site), .sl 3 (List.map encApi_Dep x34.Past)]))], [], [(63, .one (bS x34.Key))], []⟩, ⟨[(1, .one (.g (.d (.sl 1 (List.map encS r4)))))], [], [(64, .one (.g (.d (.sl 1 (List.map encS r4)))))], []⟩, ⟨[(11, .one (bI .i64 v9.2))], [], [(65, .one (bI .i64 v9.2))], []⟩, ⟨[(64, .one (.g (.d (.sl 1 (List.map encS r4))))), (65, .one (bI .i64 v9.2))], [], [(66, .one (.ep [.v (.string x35)]))], []⟩, ⟨[(66, .one (.ep [.v (.string x35)]))], [], [(67, .one (bS x35))], []⟩, ⟨[(63, .one (bS x34.Key)), (67, .one (bS x35))], [], [(68, .one (bB false))], []⟩, ⟨[(68, .one (bB false))], [], [(69, .one (bB false))], []⟩, ⟨[(69, .one (bB false))], [], [(70, .one (.x Go.undef))], []⟩, ⟨[(69, .one (bB false))], [], [(71, .one (.x Go.undef))], []⟩, ⟨[(69, .one (bB false))], [], [(72, .one (.x Go.undef))], []⟩, ⟨[(69, .one (bB false))], [], [(73, .one (.x Go.undef))], []⟩, ⟨[(69, .one (bB false))], [], [(74, .one (.x Go.undef))], []⟩, ⟨[(69, .one (bB false))], [], [(75, .one (.x Go.undef))], []⟩, ⟨[(69, .one (bB false))], [], [(76, .one (.x Go.undef))], []⟩, ⟨[(69, .one (bB false))], [], [(77, .one (bB false))], []⟩]) (deps := [[], [], [0, 1], [0, 1, 2], [0, 1, 2, 3], [], [], [5, 6], [5, 6, 7], [0, 1, 2, 3, 4, 5, 6, 7, 8], [0, 1, 2, 3, 4, 5, 6, 7, 8, 9], [0, 1, 2, 3, 4, 5, 6, 7, 8, 9, 10], [0, 1, 2, 3, 4, 5, 6, 7, 8, 9, 10], [0, 1, 2, 3, 4, 5, 6, 7, 8, 9, 10], [0, 1, 2, 3, 4, 5, 6, 7, 8, 9, 10, 12, 13], [0, 1, 2, 3, 4, 5, 6, 7, 8, 9, 10, 12, 13, 14], [0, 1, 2, 3, 4, 5, 6, 7, 8, 9, 10, 12, 13, 14, 15], [0, 1, 2, 3, 4, 5, 6, 7, 8, 9, 10, 11, 12, 13, 14, 15, 16], [0, 1, 2, 3, 4, 5, 6, 7, 8, 9, 10, 11, 12, 13, 14, 15, 16, 17]]) (sl' := [(1, .one (.g (.d (.sl 1 (List.map encS r4))))), (7, .one (bB r1)), (8, .one (.g (.d (.sl 6 (List.map encApi_Version r2))))), (9, .one (.g (.d (.sl 3 (List.map encApi_Dep r3))))), (10, .one (bB y33)), (11, .one (bI .i64 v9.2)), (12, .one (.ptr 1012 0)), (13, .one (bI .i64 v24.2)), (77, .one (bB false))]) (hp' := [(1012, some (.blk 35 [bI .i64 r17.N, bI .i64 r17.Site]))]) follows rfl rfl rfl ⟨⟨rfl, trivial⟩, trivial, ⟨rfl, trivial⟩, trivial, ⟨rfl, rfl, trivial⟩, trivial, ⟨rfl, trivial⟩, trivial, ⟨rfl, trivial⟩, trivial, ⟨rfl, trivial⟩, trivial, ⟨rfl, trivial⟩, trivial, ⟨rfl, rfl, trivial⟩, trivial, ⟨rfl, trivial⟩, trivial, ⟨rfl, rfl, trivial⟩, trivial, ⟨rfl, trivial⟩, trivial, ⟨rfl, trivial⟩, trivial, ⟨rfl, trivial⟩, trivial, ⟨rfl, trivial⟩, trivial, ⟨rfl, trivial⟩, trivial, ⟨rfl, trivial⟩, trivial, ⟨rfl, trivial⟩, trivial, ⟨rfl, trivial⟩, trivial, ⟨rfl, trivial⟩, trivial, trivial⟩ ⟨OpW.plain (op_move (Ev.t 8 (.g (.d (.sl 6 (List.map encApi_Version r2))))) rfl) rfl rfl, OpW.plain (op_move (Ev.t 13 (bI .i64 v24.2)) rfl) rfl rfl, OpW.plain (op_index (cs := [.v (.string x34.Key), .v (.string x34.Value), .v (.bool x34.Gone), .v (.int .i64 x34.Stamp.N), .v (.int .i64 x34.Stamp.Site), .sl 3 (List.map encApi_Dep x34.Past)]) Try.underlying22 ti42 (idx_ok hx34).1 (idx_get hx34 encApi_Version) (Ev.t 59 (.g (.d (.sl 6 (List.map encApi_Version r2))))) (Ev.t 60 (bI .i64 v24.2)) rfl) rfl rfl, OpW.plain (op_fieldE (cs' := [.v (.string x34.Key), .v (.string x34.Value), .v (.bool x34.Gone), .v (.int .i64 x34.Stamp.N), .v (.int .i64 x34.Stamp.Site), .sl 3 (List.map encApi_Dep x34.Past)]) Try.underlying42 rfl ti9 (by decide) rfl (Ev.t 61 (.ep [.v (.string x34.Key), .v (.string x34.Value), .v (.bool x34.Gone), .v (.int .i64 x34.Stamp.N), .v (.int .i64 x34.Stamp.Site), .sl 3 (List.map encApi_Dep x34.Past)])) rfl) rfl rfl, OpW.plain (op_load1E (c := .v (.string x34.Key)) Try.underlying9 rfl rfl (Ev.t 62 (.ep [.v (.string x34.Key), .v (.string x34.Value), .v (.bool x34.Gone), .v (.int .i64 x34.Stamp.N), .v (.int .i64 x34.Stamp.Site), .sl 3 (List.map encApi_Dep x34.Past)])) rfl) rfl rfl, OpW.plain (op_move (Ev.t 1 (.g (.d (.sl 1 (List.map encS r4))))) rfl) rfl rfl, OpW.plain (op_move (Ev.t 11 (bI .i64 v9.2)) rfl) rfl rfl, OpW.plain (op_index (cs := [.v (.string x35)]) Try.underlying23 ti9 (idx_ok hx35).1 (idx_get hx35 encS) (Ev.t 64 (.g (.d (.sl 1 (List.map encS r4))))) (Ev.t 65 (bI .i64 v9.2)) rfl) rfl rfl, OpW.plain (op_load1E (c := .v (.string x35)) Try.underlying9 rfl rfl (Ev.t 66 (.ep [.v (.string x35)])) rfl) rfl rfl, OpW.plain (OpL.cast (op_eqS (Ev.t 63 (bS x34.Key)) (Ev.t 67 (bS x35)) rfl) (congrArg (fun b => bB b) hc36)) rfl rfl, OpW.plain (op_move (Ev.t 68 (bB false)) rfl) rfl rfl, OpW.no rfl rfl rfl rfl rfl, OpW.no rfl rfl rfl rfl rfl, OpW.no rfl rfl rfl rfl rfl, OpW.no rfl rfl rfl rfl rfl, OpW.no rfl rfl rfl rfl rfl, OpW.no rfl rfl rfl rfl rfl, OpW.no rfl rfl rfl rfl rfl, OpW.plain (op_pickF (Ev.t 69 (bB false)) (Ev.c _ rfl) rfl) rfl rfl, trivial⟩ ⟨rfl, rfl, rfl, rfl, rfl, rfl, rfl, rfl, rfl, trivial⟩ ⟨rfl, trivial⟩ rfl ?_
            refine G.condF rfl ?_
            refine G.skip ?_
            refine G.endBlock ?_
            refine G.region ?_
            refine G.op1 (op_move (Ev.t 13 (bI .i64 v24.2)) rfl) rfl ⟨rfl, trivial⟩ trivial ?_
            refine G.op1 (op_add (Ev.t 45 (bI .i64 v24.2)) (Ev.c _ rfl) rfl) rfl ⟨rfl, trivial⟩ trivial ?_
            refine G.op1 (op_assign (Ev.t 46 (bI .i64 (IntKind.wrap .i64 (v24.2 + 1)))) rfl) rfl ⟨rfl, trivial⟩ trivial ?_
            refine G.endOps ?_
            exact G.arr (J25 (y33, IntKind.wrap .i64 (v24.2 + 1)) hF) ⟨rfl, rfl, rfl, rfl, rfl, rfl, rfl, rfl, trivial⟩ ⟨rfl, trivial⟩ rfl
        refine ifS hF (fun hc41 hF => ?_) (fun hc41 hF => ?_)
        · refine G.cond rfl (fun _ => ?_) (fun hx => by rw [hc41] at hx; cases hx)
          refine G.region ?_
          refine G.op1 (op_assign (Ev.c _ rfl) rfl) rfl trivial trivial ?_
          refine G.endOps ?_
          exact G.arr (J40 false hF) ⟨rfl, rfl, rfl, rfl, rfl, rfl, rfl, rfl, trivial⟩ ⟨rfl, trivial⟩ rfl
        · refine G.cond rfl (fun hx => by rw [hc41] at hx; cases hx) (fun _ => ?_)
          refine G.skip ?_
          exact G.arr (J40 v24.1 hF) ⟨rfl, rfl, rfl, rfl, rfl, rfl, rfl, rfl, trivial⟩ ⟨rfl, trivial⟩ rfl
      · refine G.cond rfl (fun hx => by rw [hc28] at hx; cases hx) (fun _ => ?_)
        refine G.exit ?_
        refine GX.c ?_
        refine GX.q ?_
        refine GX.bYes ?_
        exact G.arr (J23 v24.1 hF) ⟨rfl, rfl, rfl, rfl, rfl, rfl, trivial⟩ trivial rfl
    refine ifS hF (fun hc43 hF => ?_) (fun hc43 hF => ?_)
    · refine G.cond rfl (fun _ => ?_) (fun hx => by rw [hc43] at hx; cases hx)
      refine G.region ?_
      refine G.op1 (op_assign (Ev.c _ rfl) rfl) rfl trivial trivial ?_
      refine G.endOps ?_
      exact G.arr (J42 false hF) ⟨rfl, rfl, rfl, rfl, rfl, rfl, rfl, trivial⟩ ⟨rfl, trivial⟩ rfl
    · refine G.cond rfl (fun hx => by rw [hc43] at hx; cases hx) (fun _ => ?_)
      refine G.skip ?_
      exact G.arr (J42 v9.1 hF) ⟨rfl, rfl, rfl, rfl, rfl, rfl, rfl, trivial⟩ ⟨rfl, trivial⟩ rfl
  · refine G.cond rfl (fun hx => by rw [hc13] at hx; cases hx) (fun _ => ?_)
    refine G.exit ?_
    refine GX.c ?_
    refine GX.q ?_
    refine GX.bYes ?_
    exact G.arr (J8 v9.1 hF) ⟨rfl, rfl, rfl, rfl, rfl, trivial⟩ trivial rfl


end Go.Ark
