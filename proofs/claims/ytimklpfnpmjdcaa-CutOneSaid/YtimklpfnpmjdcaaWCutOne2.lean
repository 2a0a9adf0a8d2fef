/- Walks, printed by a program of mine: each function of the program computes the typed function of its name. Conditions: none. -/
import Derived.Test.YtimklpfnpmjdcaaWCutOne1
namespace Go.Ark
open Go Go.Ab Go.RowKit Go.Lib Go.Proofs

set_option maxRecDepth 20000 in
set_option maxHeartbeats 2000000 in
theorem ct_law19_row (l_0 : (List Api_Dep)) (r : (List Api_Dep)) (hF : law19_row l_0 = some r) : Ct Try.prog 11 [.g (.d (.sl 3 (List.map encApi_Dep l_0)))] (.one (.d (.sl 3 (List.map encApi_Dep r)))) := by
  unfold law19_row at hF
  refine Ct.intro Try.func11 rfl Try.ntmps11 rfl rfl fun M w => ?_
  refine G.seq ?_
  refine G.region ?_
  refine G.op1 (op_assign (Ev.n 3) rfl) rfl trivial trivial ?_
  refine G.endOps ?_
  refine G.seq ?_
  refine G.region ?_
  refine G.op1 (op_assign (Ev.n 3) rfl) rfl trivial trivial ?_
  refine G.endOps ?_
  refine G.seq ?_
  refine G.seq ?_
  refine G.region ?_
  refine G.op1 (op_assign (Ev.c _ rfl) rfl) rfl trivial trivial ?_
  refine G.endOps ?_
  refine G.joinC (T := (List Api_Dep)) (fun y1 => ⟨[(3, .one (.g (.d (.sl 3 (List.map encApi_Dep y1)))))], []⟩) (fun y1 => law19_row_k1 y1 = some r) (fun y1 hF => ?_) (fun J2 => ?_)
  · unfold law19_row_k1 at hF
    refine G.seq ?_
    refine G.region ?_
    refine G.op1 (op_move (Ev.t 3 (.g (.d (.sl 3 (List.map encApi_Dep y1))))) rfl) rfl ⟨rfl, trivial⟩ trivial ?_
    refine G.op1 (op_assign (Ev.t 29 (.g (.d (.sl 3 (List.map encApi_Dep y1))))) rfl) rfl ⟨rfl, trivial⟩ trivial ?_
    refine G.endOps ?_
    cases hF
    exact G.ret1 Try.results11 (RVar.tmp 2 _) ⟨rfl, trivial⟩ trivial
  refine G.block ?_
  refine G.keep (sl' := [(0, .one (.g (.d (.sl 3 (List.map encApi_Dep l_0))))), (3, .one (.g (.d (.sl 3 (List.map encApi_Dep ([] : (List Api_Dep))))))), (4, .one (bI .i64 0))]) (hp' := []) ⟨rfl, rfl, rfl, trivial⟩ trivial rfl ?_
  refine G.loopF (fun (v3 : (List Api_Dep) × Int) => ⟨[(0, .one (.g (.d (.sl 3 (List.map encApi_Dep l_0))))), (3, .one (.g (.d (.sl 3 (List.map encApi_Dep v3.1))))), (4, .one (bI .i64 v3.2))], []⟩) hF rfl (fun K6 again5 v3 J4 hF => ?_)
  unfold law19_row_l2 at hF
  refine G.seq ?_
  refine G.seq ?_
  refine G.joinC (T := Bool) (fun y7 => ⟨[(0, .one (.g (.d (.sl 3 (List.map encApi_Dep l_0))))), (3, .one (.g (.d (.sl 3 (List.map encApi_Dep v3.1))))), (4, .one (bI .i64 v3.2)), (12, .one (bB y7))], []⟩) (fun y7 => law19_row_k3 l_0 again5 v3 y7 = some r) (fun y7 hF => ?_) (fun J13 => ?_)
  · unfold law19_row_k3 at hF
    refine ifS hF (fun hc8 hF => ?_) (fun hc8 hF => ?_)
    · refine G.cond rfl (fun _ => ?_) (fun hx => by rw [hc8] at hx; cases hx)
      refine G.skip ?_
      refine G.seq ?_
      refine G.block ?_
      obtain ⟨x9, hx9, hF⟩ := bindS hF
      obtain ⟨r10, hr10, hF⟩ := bindS hF
      obtain ⟨x11, hx11, hF⟩ := bindS hF
      obtain ⟨r12, hr12, hF⟩ := bindS hF
      refine G.drawn (effs := [⟨[(3, .one (.g (.d (.sl 3 (List.map encApi_Dep v3.1)))))], [], [(15, .one (.g (.d (.sl 3 (List.map encApi_Dep v3.1)))))], []⟩, ⟨[(0, .one (.g (.d (.sl 3 (List.map encApi_Dep l_0)))))], [], [(16, .one (.g (.d (.sl 3 (List.map encApi_Dep l_0)))))], []⟩, ⟨[(4, .one (bI .i64 v3.2))], [], [(17, .one (bI .i64 v3.2))], []⟩, ⟨[(16, .one (.g (.d (.sl 3 (List.map encApi_Dep l_0))))), (17, .one (bI .i64 v3.2))], [], [(18, .one (.ep [.v (.string x9.Key), .v (.int .i64 x9.Stamp.N), .v (.int .i64 x9.Stamp.Site)]))], []⟩, ⟨[(18, .one (.ep [.v (.string x9.Key), .v (.int .i64 x9.Stamp.N), .v (.int .i64 x9.Stamp.Site)]))], [], [(19, .one (.ep [.v (.string x9.Key), .v (.int .i64 x9.Stamp.N), .v (.int .i64 x9.Stamp.Site)]))], []⟩, ⟨[(19, .one (.ep [.v (.string x9.Key), .v (.int .i64 x9.Stamp.N), .v (.int .i64 x9.Stamp.Site)]))], [], [(20, .one (bS x9.Key))], []⟩, ⟨[(20, .one (bS x9.Key))], [], [(21, .one (bS r10))], []⟩, ⟨[(0, .one (.g (.d (.sl 3 (List.map encApi_Dep l_0)))))], [], [(22, .one (.g (.d (.sl 3 (List.map encApi_Dep l_0)))))], []⟩, ⟨[(4, .one (bI .i64 v3.2))], [], [(23, .one (bI .i64 v3.2))], []⟩, ⟨[(22, .one (.g (.d (.sl 3 (List.map encApi_Dep l_0))))), (23, .one (bI .i64 v3.2))], [], [(24, .one (.ep [.v (.string x11.Key), .v (.int .i64 x11.Stamp.N), .v (.int .i64 x11.Stamp.Site)]))], []⟩, ⟨[(24, .one (.ep [.v (.string x11.Key), .v (.int .i64 x11.Stamp.N), .v (.int .i64 x11.Stamp.Site)]))], [], [(25, .one (.ep [.v (.int .i64 x11.Stamp.N), .v (.int .i64 x11.Stamp.Site)]))], []⟩, ⟨[(25, .one (.ep [.v (.int .i64 x11.Stamp.N), .v (.int .i64 x11.Stamp.Site)]))], [], [(26, .one (.g (.agg [.v (.int .i64 x11.Stamp.N), .v (.int .i64 x11.Stamp.Site)])))], []⟩, ⟨[(21, .one (bS r10)), (26, .one (.g (.agg [.v (.int .i64 x11.Stamp.N), .v (.int .i64 x11.Stamp.Site)])))], [], [(27, .one (.g (.agg [.v (.string r10), .v (.int .i64 x11.Stamp.N), .v (.int .i64 x11.Stamp.Site)])))], []⟩, ⟨[(15, .one (.g (.d (.sl 3 (List.map encApi_Dep v3.1))))), (27, .one (.g (.agg [.v (.string r10), .v (.int .i64 x11.Stamp.N), .v (.int .i64 x11.Stamp.Site)])))], [], [(28, .one (.g (.d (.sl 3 (List.map encApi_Dep r12)))))], []⟩, ⟨[(28, .one (.g (.d (.sl 3 (List.map encApi_Dep r12)))))], [], [(3, .one (.g (.d (.sl 3 (List.map encApi_Dep r12)))))], []⟩]) (deps := [[], [], [], [1, 2], [1, 2, 3], [1, 2, 3, 4], [1, 2, 3, 4, 5], [], [], [7, 8], [7, 8, 9], [7, 8, 9, 10], [1, 2, 3, 4, 5, 6, 7, 8, 9, 10, 11], [0, 1, 2, 3, 4, 5, 6, 7, 8, 9, 10, 11, 12], [0, 1, 2, 3, 4, 5, 6, 7, 8, 9, 10, 11, 12, 13]]) (sl' := [(0, .one (.g (.d (.sl 3 (List.map encApi_Dep l_0))))), (3, .one (.g (.d (.sl 3 (List.map encApi_Dep r12))))), (4, .one (bI .i64 v3.2))]) (hp' := []) follows rfl rfl rfl ⟨⟨⟨rfl, rfl⟩, trivial⟩, trivial, ⟨rfl, trivial⟩, trivial, ⟨rfl, trivial⟩, trivial, ⟨rfl, rfl, trivial⟩, trivial, ⟨rfl, trivial⟩, trivial, ⟨rfl, trivial⟩, trivial, ⟨rfl, trivial⟩, trivial, ⟨rfl, trivial⟩, trivial, ⟨rfl, trivial⟩, trivial, ⟨rfl, rfl, trivial⟩, trivial, ⟨rfl, trivial⟩, trivial, ⟨rfl, trivial⟩, trivial, ⟨rfl, rfl, trivial⟩, trivial, ⟨rfl, rfl, trivial⟩, trivial, ⟨rfl, trivial⟩, trivial, trivial⟩ ⟨OpW.plain (op_move (Ev.t 3 (.g (.d (.sl 3 (List.map encApi_Dep v3.1))))) rfl) rfl rfl, OpW.plain (op_move (Ev.t 0 (.g (.d (.sl 3 (List.map encApi_Dep l_0))))) rfl) rfl rfl, OpW.plain (op_move (Ev.t 4 (bI .i64 v3.2)) rfl) rfl rfl, OpW.plain (op_index (cs := [.v (.string x9.Key), .v (.int .i64 x9.Stamp.N), .v (.int .i64 x9.Stamp.Site)]) Try.underlying24 ti47 (idx_ok hx9).1 (idx_get hx9 encApi_Dep) (Ev.t 16 (.g (.d (.sl 3 (List.map encApi_Dep l_0))))) (Ev.t 17 (bI .i64 v3.2)) rfl) rfl rfl, OpW.plain (op_fieldE (cs' := [.v (.string x9.Key), .v (.int .i64 x9.Stamp.N), .v (.int .i64 x9.Stamp.Site)]) Try.underlying47 rfl ti9 (by decide) rfl (Ev.t 18 (.ep [.v (.string x9.Key), .v (.int .i64 x9.Stamp.N), .v (.int .i64 x9.Stamp.Site)])) rfl) rfl rfl, OpW.plain (op_load1E (c := .v (.string x9.Key)) Try.underlying9 rfl rfl (Ev.t 19 (.ep [.v (.string x9.Key), .v (.int .i64 x9.Stamp.N), .v (.int .i64 x9.Stamp.Site)])) rfl) rfl rfl, OpW.plain (op_callQ (sv := .one (bS r10)) cf30 (ct_law19_short x9.Key r10 hr10) rfl rfl (EvQL.cons (EvQ.g (Ev.t 20 (bS x9.Key))) EvQL.nil) rfl) rfl rfl, OpW.plain (op_move (Ev.t 0 (.g (.d (.sl 3 (List.map encApi_Dep l_0))))) rfl) rfl rfl, OpW.plain (op_move (Ev.t 4 (bI .i64 v3.2)) rfl) rfl rfl, OpW.plain (op_index (cs := [.v (.string x11.Key), .v (.int .i64 x11.Stamp.N), .v (.int .i64 x11.Stamp.Site)]) Try.underlying24 ti47 (idx_ok hx11).1 (idx_get hx11 encApi_Dep) (Ev.t 22 (.g (.d (.sl 3 (List.map encApi_Dep l_0))))) (Ev.t 23 (bI .i64 v3.2)) rfl) rfl rfl, OpW.plain (op_fieldE (cs' := [.v (.int .i64 x11.Stamp.N), .v (.int .i64 x11.Stamp.Site)]) Try.underlying47 rfl ti35 (by decide) rfl (Ev.t 24 (.ep [.v (.string x11.Key), .v (.int .i64 x11.Stamp.N), .v (.int .i64 x11.Stamp.Site)])) rfl) rfl rfl, OpW.plain (op_loadAE (ds := [.v (.int .i64 x11.Stamp.N), .v (.int .i64 x11.Stamp.Site)]) Try.underlying35 rfl ti35 rfl (Ev.t 25 (.ep [.v (.int .i64 x11.Stamp.N), .v (.int .i64 x11.Stamp.Site)])) rfl) rfl rfl, OpW.plain (op_build (zs := [.v (.string ByteArray.empty), .v (.int .i64 0), .v (.int .i64 0)]) (ds := [.v (.string r10), .v (.int .i64 x11.Stamp.N), .v (.int .i64 x11.Stamp.Site)]) Try.underlying47 ti47 (pl47 _ Try.underlying47) ⟨.v _ rfl, .v _ rfl, .v _ rfl, trivial⟩ (EvP.cons (Ev.t 21 (bS r10)) (EvP.cons (Ev.t 26 (.g (.agg [.v (.int .i64 x11.Stamp.N), .v (.int .i64 x11.Stamp.Site)]))) EvP.nil)) rfl rfl) rfl rfl, OpW.plain (op_call (sv := .one (.g (.d (.sl 3 (List.map encApi_Dep r12))))) cf31 (ct_ref04_Add v3.1 (Api_Dep.mk r10 x11.Stamp) r12 hr12) rfl (EvL.cons (Ev.t 15 (.g (.d (.sl 3 (List.map encApi_Dep v3.1))))) (EvL.cons (Ev.t 27 (.g (.agg [.v (.string r10), .v (.int .i64 x11.Stamp.N), .v (.int .i64 x11.Stamp.Site)]))) EvL.nil)) rfl) rfl rfl, OpW.plain (op_assign (Ev.t 28 (.g (.d (.sl 3 (List.map encApi_Dep r12))))) rfl) rfl rfl, trivial⟩ ⟨rfl, rfl, rfl, trivial⟩ trivial rfl ?_
      refine G.endBlock ?_
      refine G.region ?_
      refine G.op1 (op_move (Ev.t 4 (bI .i64 v3.2)) rfl) rfl ⟨rfl, trivial⟩ trivial ?_
      refine G.op1 (op_add (Ev.t 13 (bI .i64 v3.2)) (Ev.c _ rfl) rfl) rfl ⟨rfl, trivial⟩ trivial ?_
      refine G.op1 (op_assign (Ev.t 14 (bI .i64 (IntKind.wrap .i64 (v3.2 + 1)))) rfl) rfl ⟨rfl, trivial⟩ trivial ?_
      refine G.endOps ?_
      exact G.arr (J4 (r12, IntKind.wrap .i64 (v3.2 + 1)) hF) ⟨rfl, rfl, rfl, trivial⟩ trivial rfl
    · refine G.cond rfl (fun hx => by rw [hc8] at hx; cases hx) (fun _ => ?_)
      refine G.exit ?_
      refine GX.c ?_
      refine GX.q ?_
      refine GX.bYes ?_
      exact G.arr (J2 v3.1 hF) ⟨rfl, trivial⟩ trivial rfl
  refine G.region ?_
  refine G.op1 (op_move (Ev.t 4 (bI .i64 v3.2)) rfl) rfl ⟨rfl, trivial⟩ trivial ?_
  refine G.op1 (op_move (Ev.t 0 (.g (.d (.sl 3 (List.map encApi_Dep l_0))))) rfl) rfl ⟨rfl, trivial⟩ trivial ?_
  refine G.op1 (OpL.cast (op_lenD Try.underlying24 (Ev.t 6 (.g (.d (.sl 3 (List.map encApi_Dep l_0))))) rfl) (by rw [List.length_map])) rfl ⟨rfl, trivial⟩ trivial ?_
  refine G.op1 (op_lss (Ev.t 5 (bI .i64 v3.2)) (Ev.t 7 (bI .i64 (l_0.length : Int))) rfl) rfl ⟨rfl, rfl, trivial⟩ trivial ?_
  refine G.op1 (op_move (Ev.t 8 (bB (decide (v3.2 < (l_0.length : Int))))) rfl) rfl ⟨rfl, trivial⟩ trivial ?_
  refine ifS hF (fun hc14 hF => ?_) (fun hc14 hF => ?_)
  · refine G.known (t := 9) hc14 rfl ?_
    refine G.opG1 (op_move (Ev.t 4 (bI .i64 v3.2)) rfl) rfl rfl rfl ⟨rfl, trivial⟩ trivial ?_
    refine G.opG1 (op_lss (Ev.t 10 (bI .i64 v3.2)) (Ev.c _ rfl) rfl) rfl rfl rfl ⟨rfl, trivial⟩ trivial ?_
    refine G.op1 (op_pickT (Ev.t 9 (bB true)) (Ev.t 11 (bB (decide (v3.2 < 6)))) rfl) rfl ⟨rfl, rfl, trivial⟩ trivial ?_
    refine G.endOps ?_
    exact G.arr (J13 (decide (v3.2 < 6)) hF) ⟨rfl, rfl, rfl, rfl, trivial⟩ trivial rfl
  · refine G.known (t := 9) hc14 rfl ?_
    refine G.opN1 rfl rfl rfl rfl rfl ?_
    refine G.opN1 rfl rfl rfl rfl rfl ?_
    refine G.op1 (op_pickF (Ev.t 9 (bB false)) (Ev.c _ rfl) rfl) rfl ⟨rfl, trivial⟩ trivial ?_
    refine G.endOps ?_
    exact G.arr (J13 false hF) ⟨rfl, rfl, rfl, rfl, trivial⟩ trivial rfl


set_option maxRecDepth 20000 in
set_option maxHeartbeats 2000000 in
theorem ct_law19_few (l_0 : (List Api_Version)) (r : (List Api_Version)) (hF : law19_few l_0 = some r) : Ct Try.prog 10 [.g (.d (.sl 6 (List.map encApi_Version l_0)))] (.one (.d (.sl 6 (List.map encApi_Version r)))) := by
  unfold law19_few at hF
  refine Ct.intro Try.func10 rfl Try.ntmps10 rfl rfl fun M w => ?_
  refine G.seq ?_
  refine G.region ?_
  refine G.op1 (op_assign (Ev.n 6) rfl) rfl trivial trivial ?_
  refine G.endOps ?_
  refine G.seq ?_
  refine G.region ?_
  refine G.op2 (op_assignRow (E := 42) (size := 6) (k := 2003) (ex := false) rfl rfl) rfl trivial ⟨rfl, trivial⟩ ?_
  refine G.endOps ?_
  refine G.seq ?_
  refine G.seq ?_
  refine G.region ?_
  refine G.op1 (op_assign (Ev.c _ rfl) rfl) rfl trivial trivial ?_
  refine G.endOps ?_
  refine G.joinC (T := (List Api_Version)) (fun y1 => ⟨[(3, .one (.own 2003 (List.map encApi_Version y1)))], [(2003, some (.row 42 6 (List.map encApi_Version y1) false))]⟩) (fun y1 => law19_few_k1 y1 = some r) (fun y1 hF => ?_) (fun J2 => ?_)
  · unfold law19_few_k1 at hF
    refine G.seq ?_
    refine G.region ?_
    refine G.op1 (op_move (Ev.t 3 (.own 2003 (List.map encApi_Version y1))) rfl) rfl ⟨rfl, trivial⟩ trivial ?_
    refine G.op1 (op_assign (Ev.t 32 (.own 2003 (List.map encApi_Version y1))) rfl) rfl ⟨rfl, trivial⟩ trivial ?_
    refine G.endOps ?_
    refine G.view (t := 2) rfl rfl ?_
    cases hF
    exact G.ret1 Try.results10 (RVar.tmp 2 _) ⟨rfl, trivial⟩ trivial
  refine G.block ?_
  refine G.keep (sl' := [(0, .one (.g (.d (.sl 6 (List.map encApi_Version l_0))))), (3, .one (.own 2003 (List.map encApi_Version ([] : (List Api_Version))))), (4, .one (bI .i64 0))]) (hp' := [(2003, some (.row 42 6 (List.map encApi_Version ([] : (List Api_Version))) false))]) ⟨rfl, rfl, rfl, trivial⟩ ⟨rfl, trivial⟩ rfl ?_
  refine G.loopF (fun (v3 : Int × (List Api_Version)) => ⟨[(0, .one (.g (.d (.sl 6 (List.map encApi_Version l_0))))), (3, .one (.own 2003 (List.map encApi_Version v3.2))), (4, .one (bI .i64 v3.1))], [(2003, some (.row 42 6 (List.map encApi_Version v3.2) false))]⟩) hF rfl (fun K6 again5 v3 J4 hF => ?_)
  unfold law19_few_l2 at hF
  refine G.seq ?_
  refine G.seq ?_
  refine G.joinC (T := Bool) (fun y7 => ⟨[(0, .one (.g (.d (.sl 6 (List.map encApi_Version l_0))))), (3, .one (.own 2003 (List.map encApi_Version v3.2))), (4, .one (bI .i64 v3.1)), (13, .one (bB y7))], [(2003, some (.row 42 6 (List.map encApi_Version v3.2) false))]⟩) (fun y7 => law19_few_k3 l_0 again5 v3 y7 = some r) (fun y7 hF => ?_) (fun J13 => ?_)
  · unfold law19_few_k3 at hF
    refine ifS hF (fun hc8 hF => ?_) (fun hc8 hF => ?_)
    · refine G.cond rfl (fun _ => ?_) (fun hx => by rw [hc8] at hx; cases hx)
      refine G.skip ?_
      refine G.seq ?_
      refine G.block ?_
      refine G.seq ?_
      refine G.region ?_
      refine G.op1 (op_move (Ev.t 0 (.g (.d (.sl 6 (List.map encApi_Version l_0))))) rfl) rfl ⟨rfl, trivial⟩ trivial ?_
      refine G.op1 (op_move (Ev.t 4 (bI .i64 v3.1)) rfl) rfl ⟨rfl, trivial⟩ trivial ?_
      obtain ⟨x9, hx9, hF⟩ := bindS hF
      refine G.op1 (op_index (cs := [.v (.string x9.Key), .v (.string x9.Value), .v (.bool x9.Gone), .v (.int .i64 x9.Stamp.N), .v (.int .i64 x9.Stamp.Site), .sl 3 (List.map encApi_Dep x9.Past)]) Try.underlying22 ti42 (idx_ok hx9).1 (idx_get hx9 encApi_Version) (Ev.t 16 (.g (.d (.sl 6 (List.map encApi_Version l_0))))) (Ev.t 17 (bI .i64 v3.1)) rfl) rfl ⟨rfl, rfl, trivial⟩ trivial ?_
      refine G.op1 (op_loadAE (ds := [.v (.string x9.Key), .v (.string x9.Value), .v (.bool x9.Gone), .v (.int .i64 x9.Stamp.N), .v (.int .i64 x9.Stamp.Site), .sl 3 (List.map encApi_Dep x9.Past)]) Try.underlying42 rfl ti42 rfl (Ev.t 18 (.ep [.v (.string x9.Key), .v (.string x9.Value), .v (.bool x9.Gone), .v (.int .i64 x9.Stamp.N), .v (.int .i64 x9.Stamp.Site), .sl 3 (List.map encApi_Dep x9.Past)])) rfl) rfl ⟨rfl, trivial⟩ trivial ?_
      refine G.op2 (op_alloc (k := 1005) (cs := [bS ByteArray.empty, bS ByteArray.empty, bB false, bI .i64 0, bI .i64 0, .g (.d (.sl 3 (List.map encApi_Dep ([] : (List Api_Dep)))))]) ti42 ⟨.v _ rfl, .v _ rfl, .v _ rfl, .v _ rfl, .v _ rfl, .n 3, trivial⟩ rfl) rfl trivial ⟨rfl, trivial⟩ ?_
      refine G.op3 (op_storeA (cs' := [bS x9.Key, bS x9.Value, bB x9.Gone, bI .i64 x9.Stamp.N, bI .i64 x9.Stamp.Site, .g (.d (.sl 3 (List.map encApi_Dep x9.Past)))]) ti42 rfl rfl (Ev.t 5 (.ptr 1005 0)) (Ev.t 19 (.g (.agg [.v (.string x9.Key), .v (.string x9.Value), .v (.bool x9.Gone), .v (.int .i64 x9.Stamp.N), .v (.int .i64 x9.Stamp.Site), .sl 3 (List.map encApi_Dep x9.Past)])))) rfl ⟨rfl, rfl, trivial⟩ ⟨rfl, trivial⟩ ?_
      refine G.endOps ?_
      refine G.seq ?_
      refine G.region ?_
      refine G.op1 (op_fieldP (off' := 0) Try.underlying42 rfl ti9 (by decide) rfl (Ev.t 5 (.ptr 1005 0)) rfl) rfl ⟨rfl, trivial⟩ trivial ?_
      refine G.op1 (op_load1P (c := bS x9.Key) Try.underlying9 rfl rfl (Ev.t 20 (.ptr 1005 0)) rfl) rfl ⟨rfl, trivial⟩ ⟨rfl, trivial⟩ ?_
      obtain ⟨r10, hr10, hF⟩ := bindS hF
      refine G.op1 (op_callQ (sv := .one (bS r10)) cf30 (ct_law19_short x9.Key r10 hr10) rfl rfl (EvQL.cons (EvQ.g (Ev.t 21 (bS x9.Key))) EvQL.nil) rfl) rfl ⟨rfl, trivial⟩ trivial ?_
      refine G.op1 (op_fieldP (off' := 0) Try.underlying42 rfl ti9 (by decide) rfl (Ev.t 5 (.ptr 1005 0)) rfl) rfl ⟨rfl, trivial⟩ trivial ?_
      refine G.op3 (op_store1 (cs' := [bS r10, bS x9.Value, bB x9.Gone, bI .i64 x9.Stamp.N, bI .i64 x9.Stamp.Site, .g (.d (.sl 3 (List.map encApi_Dep x9.Past)))]) (c := bS r10) trivial ti9 rfl rfl (Ev.t 23 (.ptr 1005 0)) (Ev.t 22 (bS r10))) rfl ⟨rfl, rfl, trivial⟩ ⟨rfl, trivial⟩ ?_
      refine G.endOps ?_
      refine G.seq ?_
      refine G.region ?_
      refine G.op1 (op_fieldP (off' := 5) Try.underlying42 rfl ti24 (by decide) rfl (Ev.t 5 (.ptr 1005 0)) rfl) rfl ⟨rfl, trivial⟩ trivial ?_
      refine G.op1 (op_load1P (c := .g (.d (.sl 3 (List.map encApi_Dep x9.Past)))) Try.underlying24 rfl rfl (Ev.t 24 (.ptr 1005 5)) rfl) rfl ⟨rfl, trivial⟩ ⟨rfl, trivial⟩ ?_
      obtain ⟨r11, hr11, hF⟩ := bindS hF
      refine G.op1 (op_call (sv := .one (.g (.d (.sl 3 (List.map encApi_Dep r11))))) cf11 (ct_law19_row x9.Past r11 hr11) rfl (EvL.cons (Ev.t 25 (.g (.d (.sl 3 (List.map encApi_Dep x9.Past))))) EvL.nil) rfl) rfl ⟨rfl, trivial⟩ trivial ?_
      refine G.op1 (op_fieldP (off' := 5) Try.underlying42 rfl ti24 (by decide) rfl (Ev.t 5 (.ptr 1005 0)) rfl) rfl ⟨rfl, trivial⟩ trivial ?_
      refine G.op3 (op_store1 (cs' := [bS r10, bS x9.Value, bB x9.Gone, bI .i64 x9.Stamp.N, bI .i64 x9.Stamp.Site, .g (.d (.sl 3 (List.map encApi_Dep r11)))]) (c := .g (.d (.sl 3 (List.map encApi_Dep r11)))) trivial ti24 rfl rfl (Ev.t 27 (.ptr 1005 5)) (Ev.t 26 (.g (.d (.sl 3 (List.map encApi_Dep r11)))))) rfl ⟨rfl, rfl, trivial⟩ ⟨rfl, trivial⟩ ?_
      refine G.endOps ?_
      refine G.region ?_
      refine G.op1 (op_move (Ev.t 3 (.own 2003 (List.map encApi_Version v3.2))) rfl) rfl ⟨rfl, trivial⟩ trivial ?_
      refine G.op1 (op_loadAP (ds := [.v (.string r10), .v (.string x9.Value), .v (.bool x9.Gone), .v (.int .i64 x9.Stamp.N), .v (.int .i64 x9.Stamp.Site), .sl 3 (List.map encApi_Dep r11)]) Try.underlying42 rfl ti42 rfl (Ev.t 5 (.ptr 1005 0)) rfl) rfl ⟨rfl, trivial⟩ ⟨rfl, trivial⟩ ?_
      refine G.op1 (op_buildSlice (es := List.map encApi_Version [(Api_Version.mk r10 x9.Value x9.Gone x9.Stamp r11)]) Try.underlying22 ti42 rfl rfl (EvP.cons (Ev.t 29 (.g (.agg [.v (.string r10), .v (.string x9.Value), .v (.bool x9.Gone), .v (.int .i64 x9.Stamp.N), .v (.int .i64 x9.Stamp.Site), .sl 3 (List.map encApi_Dep r11)]))) EvP.nil) rfl rfl (by simp [encApi_Version]) rfl) rfl ⟨rfl, trivial⟩ trivial ?_
      obtain ⟨l12, hl12, hF⟩ := bindS hF
      refine G.op2 (op_appendO Try.underlying22 ti42 rfl (app_map hl12 encApi_Version) (app_b1 hl12 encApi_Version) (app_b2 hl12 encApi_Version) (Ev.t 28 (.own 2003 (List.map encApi_Version v3.2))) (Ev.t 30 (.g (.d (.sl 6 (List.map encApi_Version ([(Api_Version.mk r10 x9.Value x9.Gone x9.Stamp r11)])))))) rfl) rfl ⟨rfl, rfl, trivial⟩ ⟨rfl, trivial⟩ ?_
      refine G.op1 (op_assign (Ev.t 31 (.own 2003 (List.map encApi_Version l12))) rfl) rfl ⟨rfl, trivial⟩ trivial ?_
      refine G.endOps ?_
      refine G.endBlock ?_
      refine G.region ?_
      refine G.op1 (op_move (Ev.t 4 (bI .i64 v3.1)) rfl) rfl ⟨rfl, trivial⟩ trivial ?_
      refine G.op1 (op_add (Ev.t 14 (bI .i64 v3.1)) (Ev.c _ rfl) rfl) rfl ⟨rfl, trivial⟩ trivial ?_
      refine G.op1 (op_assign (Ev.t 15 (bI .i64 (IntKind.wrap .i64 (v3.1 + 1)))) rfl) rfl ⟨rfl, trivial⟩ trivial ?_
      refine G.endOps ?_
      exact G.arr (J4 (IntKind.wrap .i64 (v3.1 + 1), l12) hF) ⟨rfl, rfl, rfl, trivial⟩ ⟨rfl, trivial⟩ rfl
    · refine G.cond rfl (fun hx => by rw [hc8] at hx; cases hx) (fun _ => ?_)
      refine G.exit ?_
      refine GX.c ?_
      refine GX.q ?_
      refine GX.bYes ?_
      exact G.arr (J2 v3.2 hF) ⟨rfl, trivial⟩ ⟨rfl, trivial⟩ rfl
  refine G.region ?_
  refine G.op1 (op_move (Ev.t 4 (bI .i64 v3.1)) rfl) rfl ⟨rfl, trivial⟩ trivial ?_
  refine G.op1 (op_move (Ev.t 0 (.g (.d (.sl 6 (List.map encApi_Version l_0))))) rfl) rfl ⟨rfl, trivial⟩ trivial ?_
  refine G.op1 (OpL.cast (op_lenD Try.underlying22 (Ev.t 7 (.g (.d (.sl 6 (List.map encApi_Version l_0))))) rfl) (by rw [List.length_map])) rfl ⟨rfl, trivial⟩ trivial ?_
  refine G.op1 (op_lss (Ev.t 6 (bI .i64 v3.1)) (Ev.t 8 (bI .i64 (l_0.length : Int))) rfl) rfl ⟨rfl, rfl, trivial⟩ trivial ?_
  refine G.op1 (op_move (Ev.t 9 (bB (decide (v3.1 < (l_0.length : Int))))) rfl) rfl ⟨rfl, trivial⟩ trivial ?_
  refine ifS hF (fun hc14 hF => ?_) (fun hc14 hF => ?_)
  · refine G.known (t := 10) hc14 rfl ?_
    refine G.opG1 (op_move (Ev.t 4 (bI .i64 v3.1)) rfl) rfl rfl rfl ⟨rfl, trivial⟩ trivial ?_
    refine G.opG1 (op_lss (Ev.t 11 (bI .i64 v3.1)) (Ev.c _ rfl) rfl) rfl rfl rfl ⟨rfl, trivial⟩ trivial ?_
    refine G.op1 (op_pickT (Ev.t 10 (bB true)) (Ev.t 12 (bB (decide (v3.1 < 6)))) rfl) rfl ⟨rfl, rfl, trivial⟩ trivial ?_
    refine G.endOps ?_
    exact G.arr (J13 (decide (v3.1 < 6)) hF) ⟨rfl, rfl, rfl, rfl, trivial⟩ ⟨rfl, trivial⟩ rfl
  · refine G.known (t := 10) hc14 rfl ?_
    refine G.opN1 rfl rfl rfl rfl rfl ?_
    refine G.opN1 rfl rfl rfl rfl rfl ?_
    refine G.op1 (op_pickF (Ev.t 10 (bB false)) (Ev.c _ rfl) rfl) rfl ⟨rfl, trivial⟩ trivial ?_
    refine G.endOps ?_
    exact G.arr (J13 false hF) ⟨rfl, rfl, rfl, rfl, trivial⟩ ⟨rfl, trivial⟩ rfl


set_option maxRecDepth 20000 in
set_option maxHeartbeats 2000000 in
theorem ct_law19_keys (l_0 : (List ByteArray)) (r : (List ByteArray)) (hF : law19_keys l_0 = some r) : Ct Try.prog 12 [.g (.d (.sl 1 (List.map encS l_0)))] (.one (.d (.sl 1 (List.map encS r)))) := by
  unfold law19_keys at hF
  refine Ct.intro Try.func12 rfl Try.ntmps12 rfl rfl fun M w => ?_
  refine G.seq ?_
  refine G.region ?_
  refine G.op1 (op_assign (Ev.n 1) rfl) rfl trivial trivial ?_
  refine G.endOps ?_
  refine G.seq ?_
  refine G.seq ?_
  refine G.region ?_
  refine G.op1 (op_move (Ev.t 0 (.g (.d (.sl 1 (List.map encS l_0))))) rfl) rfl ⟨rfl, trivial⟩ trivial ?_
  refine G.op1 (OpL.cast (op_lenD Try.underlying23 (Ev.t 3 (.g (.d (.sl 1 (List.map encS l_0))))) rfl) (by rw [List.length_map])) rfl ⟨rfl, trivial⟩ trivial ?_
  refine G.op1 (op_gtr (Ev.t 4 (bI .i64 (l_0.length : Int))) (Ev.c _ rfl) rfl) rfl ⟨rfl, trivial⟩ trivial ?_
  refine G.endOps ?_
  refine ifS hF (fun hc1 hF => ?_) (fun hc1 hF => ?_)
  · refine G.cond rfl (fun _ => ?_) (fun hx => by rw [hc1] at hx; cases hx)
    refine G.seq ?_
    refine G.region ?_
    refine G.op1 (op_move (Ev.t 0 (.g (.d (.sl 1 (List.map encS l_0))))) rfl) rfl ⟨rfl, trivial⟩ trivial ?_
    obtain ⟨l2, hl2, hF⟩ := bindS hF
    refine G.op1 (op_sliceD (lo := none) (hi := some 6) Try.underlying23 ti9 (sub_ok hl2 encS).1 (sub_ok hl2 encS).2.1 (sub_ok hl2 encS).2.2.1 (sub_ok hl2 encS).2.2.2 (Ev.t 6 (.g (.d (.sl 1 (List.map encS l_0))))) EvO.none (EvO.some (Ev.c _ rfl)) rfl) rfl ⟨rfl, trivial⟩ trivial ?_
    refine G.op1 (op_assign (Ev.t 7 (.g (.d (.sl 1 (List.map encS l2))))) rfl) rfl ⟨rfl, trivial⟩ trivial ?_
    refine G.endOps ?_
    cases hF
    exact G.ret1 Try.results12 (RVar.tmp 2 _) ⟨rfl, trivial⟩ trivial
  · refine G.cond rfl (fun hx => by rw [hc1] at hx; cases hx) (fun _ => ?_)
    refine G.skip ?_
    refine G.seq ?_
    refine G.region ?_
    refine G.op1 (op_move (Ev.t 0 (.g (.d (.sl 1 (List.map encS l_0))))) rfl) rfl ⟨rfl, trivial⟩ trivial ?_
    refine G.op1 (op_assign (Ev.t 8 (.g (.d (.sl 1 (List.map encS l_0))))) rfl) rfl ⟨rfl, trivial⟩ trivial ?_
    refine G.endOps ?_
    cases hF
    exact G.ret1 Try.results12 (RVar.tmp 2 _) ⟨rfl, trivial⟩ trivial


set_option maxRecDepth 20000 in
set_option maxHeartbeats 2000000 in
theorem ct_ref04_Get (p_0 : (List Api_Dep)) (key_1 : ByteArray) (r : Api_Stamp) (hF : ref04_Get p_0 key_1 = some r) : Ct Try.prog 26 [.g (.d (.sl 3 (List.map encApi_Dep p_0))), .g (.d (.v (.string key_1)))] (.one (.agg (encApi_Stamp r))) := by
  unfold ref04_Get at hF
  refine Ct.intro Try.func26 rfl Try.ntmps26 rfl rfl fun M w => ?_
  refine G.seq ?_
  refine G.region ?_
  refine G.op2 (op_alloc (k := 1004) (cs := [bI .i64 0, bI .i64 0]) ti35 ⟨.v _ rfl, .v _ rfl, trivial⟩ rfl) rfl trivial ⟨rfl, trivial⟩ ?_
  refine G.endOps ?_
  refine G.seq ?_
  refine G.seq ?_
  refine G.region ?_
  refine G.op1 (op_assign (Ev.c _ rfl) rfl) rfl trivial trivial ?_
  refine G.endOps ?_
  refine G.joinC (T := Unit) (fun y1 => ⟨[(4, .one (.ptr 1004 0))], [(1004, some (.blk 35 [bI .i64 0, bI .i64 0]))]⟩) (fun y1 => ref04_Get_k1 y1 = some r) (fun y1 hF => ?_) (fun J2 => ?_)
  · unfold ref04_Get_k1 at hF
    refine G.seq ?_
    refine G.region ?_
    refine G.op1 (op_build (zs := [.v (.int .i64 0), .v (.int .i64 0)]) (ds := [.v (.int .i64 0), .v (.int .i64 0)]) Try.underlying35 ti35 (pl35 _ Try.underlying35) ⟨.v _ rfl, .v _ rfl, trivial⟩ EvP.nil rfl rfl) rfl trivial trivial ?_
    refine G.op3 (op_storeA (cs' := [bI .i64 0, bI .i64 0]) ti35 rfl rfl (Ev.t 4 (.ptr 1004 0)) (Ev.t 24 (.g (.agg [.v (.int .i64 0), .v (.int .i64 0)])))) rfl ⟨rfl, rfl, trivial⟩ ⟨rfl, trivial⟩ ?_
    refine G.endOps ?_
    cases hF
    exact G.ret1 Try.results26 (RVar.cellA (ds := [.v (.int .i64 0), .v (.int .i64 0)]) Try.underlying35 rfl ti35 rfl) ⟨rfl, trivial⟩ ⟨rfl, trivial⟩
  refine G.block ?_
  refine G.keep (sl' := [(0, .one (.g (.d (.sl 3 (List.map encApi_Dep p_0))))), (1, .one (bS key_1)), (4, .one (.ptr 1004 0)), (5, .one (bI .i64 0))]) (hp' := [(1004, some (.blk 35 [bI .i64 0, bI .i64 0]))]) ⟨rfl, rfl, rfl, rfl, trivial⟩ ⟨rfl, trivial⟩ rfl ?_
  refine G.loopF (fun (v3 : Int) => ⟨[(0, .one (.g (.d (.sl 3 (List.map encApi_Dep p_0))))), (1, .one (bS key_1)), (4, .one (.ptr 1004 0)), (5, .one (bI .i64 v3))], [(1004, some (.blk 35 [bI .i64 0, bI .i64 0]))]⟩) hF rfl (fun K6 again5 v3 J4 hF => ?_)
  unfold ref04_Get_l2 at hF
  refine G.seq ?_
  refine G.seq ?_
  refine G.region ?_
  refine G.op1 (op_move (Ev.t 5 (bI .i64 v3)) rfl) rfl ⟨rfl, trivial⟩ trivial ?_
  refine G.op1 (op_move (Ev.t 0 (.g (.d (.sl 3 (List.map encApi_Dep p_0))))) rfl) rfl ⟨rfl, trivial⟩ trivial ?_
  refine G.op1 (OpL.cast (op_lenD Try.underlying24 (Ev.t 7 (.g (.d (.sl 3 (List.map encApi_Dep p_0))))) rfl) (by rw [List.length_map])) rfl ⟨rfl, trivial⟩ trivial ?_
  refine G.op1 (op_lss (Ev.t 6 (bI .i64 v3)) (Ev.t 8 (bI .i64 (p_0.length : Int))) rfl) rfl ⟨rfl, rfl, trivial⟩ trivial ?_
  refine G.endOps ?_
  refine ifS hF (fun hc7 hF => ?_) (fun hc7 hF => ?_)
  · refine G.cond rfl (fun _ => ?_) (fun hx => by rw [hc7] at hx; cases hx)
    refine G.skip ?_
    refine G.seq ?_
    refine G.block ?_
    refine G.seq ?_
    refine G.region ?_
    refine G.op1 (op_move (Ev.t 0 (.g (.d (.sl 3 (List.map encApi_Dep p_0))))) rfl) rfl ⟨rfl, trivial⟩ trivial ?_
    refine G.op1 (op_move (Ev.t 5 (bI .i64 v3)) rfl) rfl ⟨rfl, trivial⟩ trivial ?_
    obtain ⟨x8, hx8, hF⟩ := bindS hF
    refine G.op1 (op_index (cs := [.v (.string x8.Key), .v (.int .i64 x8.Stamp.N), .v (.int .i64 x8.Stamp.Site)]) Try.underlying24 ti47 (idx_ok hx8).1 (idx_get hx8 encApi_Dep) (Ev.t 12 (.g (.d (.sl 3 (List.map encApi_Dep p_0))))) (Ev.t 13 (bI .i64 v3)) rfl) rfl ⟨rfl, rfl, trivial⟩ trivial ?_
    refine G.op1 (op_fieldE (cs' := [.v (.string x8.Key), .v (.int .i64 x8.Stamp.N), .v (.int .i64 x8.Stamp.Site)]) Try.underlying47 rfl ti9 (by decide) rfl (Ev.t 14 (.ep [.v (.string x8.Key), .v (.int .i64 x8.Stamp.N), .v (.int .i64 x8.Stamp.Site)])) rfl) rfl ⟨rfl, trivial⟩ trivial ?_
    refine G.op1 (op_load1E (c := .v (.string x8.Key)) Try.underlying9 rfl rfl (Ev.t 15 (.ep [.v (.string x8.Key), .v (.int .i64 x8.Stamp.N), .v (.int .i64 x8.Stamp.Site)])) rfl) rfl ⟨rfl, trivial⟩ trivial ?_
    refine G.op1 (op_move (Ev.t 1 (bS key_1)) rfl) rfl ⟨rfl, trivial⟩ trivial ?_
    refine G.op1 (op_eqS (Ev.t 16 (bS x8.Key)) (Ev.t 17 (bS key_1)) rfl) rfl ⟨rfl, rfl, trivial⟩ trivial ?_
    refine G.endOps ?_
    refine ifS hF (fun hc9 hF => ?_) (fun hc9 hF => ?_)
    · refine G.cond rfl (fun _ => ?_) (fun hx => by rw [hc9] at hx; cases hx)
      refine G.seq ?_
      refine G.region ?_
      refine G.op1 (op_move (Ev.t 0 (.g (.d (.sl 3 (List.map encApi_Dep p_0))))) rfl) rfl ⟨rfl, trivial⟩ trivial ?_
      refine G.op1 (op_move (Ev.t 5 (bI .i64 v3)) rfl) rfl ⟨rfl, trivial⟩ trivial ?_
      obtain ⟨x10, hx10, hF⟩ := bindS hF
      refine G.op1 (op_index (cs := [.v (.string x10.Key), .v (.int .i64 x10.Stamp.N), .v (.int .i64 x10.Stamp.Site)]) Try.underlying24 ti47 (idx_ok hx10).1 (idx_get hx10 encApi_Dep) (Ev.t 19 (.g (.d (.sl 3 (List.map encApi_Dep p_0))))) (Ev.t 20 (bI .i64 v3)) rfl) rfl ⟨rfl, rfl, trivial⟩ trivial ?_
      refine G.op1 (op_fieldE (cs' := [.v (.int .i64 x10.Stamp.N), .v (.int .i64 x10.Stamp.Site)]) Try.underlying47 rfl ti35 (by decide) rfl (Ev.t 21 (.ep [.v (.string x10.Key), .v (.int .i64 x10.Stamp.N), .v (.int .i64 x10.Stamp.Site)])) rfl) rfl ⟨rfl, trivial⟩ trivial ?_
      refine G.op1 (op_loadAE (ds := [.v (.int .i64 x10.Stamp.N), .v (.int .i64 x10.Stamp.Site)]) Try.underlying35 rfl ti35 rfl (Ev.t 22 (.ep [.v (.int .i64 x10.Stamp.N), .v (.int .i64 x10.Stamp.Site)])) rfl) rfl ⟨rfl, trivial⟩ trivial ?_
      refine G.op3 (op_storeA (cs' := [bI .i64 x10.Stamp.N, bI .i64 x10.Stamp.Site]) ti35 rfl rfl (Ev.t 4 (.ptr 1004 0)) (Ev.t 23 (.g (.agg [.v (.int .i64 x10.Stamp.N), .v (.int .i64 x10.Stamp.Site)])))) rfl ⟨rfl, rfl, trivial⟩ ⟨rfl, trivial⟩ ?_
      refine G.endOps ?_
      cases hF
      exact G.ret1 Try.results26 (RVar.cellA (ds := [.v (.int .i64 x10.Stamp.N), .v (.int .i64 x10.Stamp.Site)]) Try.underlying35 rfl ti35 rfl) ⟨rfl, trivial⟩ ⟨rfl, trivial⟩
    · refine G.cond rfl (fun hx => by rw [hc9] at hx; cases hx) (fun _ => ?_)
      refine G.skip ?_
      refine G.endBlock ?_
      refine G.region ?_
      refine G.op1 (op_move (Ev.t 5 (bI .i64 v3)) rfl) rfl ⟨rfl, trivial⟩ trivial ?_
      refine G.op1 (op_add (Ev.t 10 (bI .i64 v3)) (Ev.c _ rfl) rfl) rfl ⟨rfl, trivial⟩ trivial ?_
      refine G.op1 (op_assign (Ev.t 11 (bI .i64 (IntKind.wrap .i64 (v3 + 1)))) rfl) rfl ⟨rfl, trivial⟩ trivial ?_
      refine G.endOps ?_
      exact G.arr (J4 (IntKind.wrap .i64 (v3 + 1)) hF) ⟨rfl, rfl, rfl, rfl, trivial⟩ ⟨rfl, trivial⟩ rfl
  · refine G.cond rfl (fun hx => by rw [hc7] at hx; cases hx) (fun _ => ?_)
    refine G.exit ?_
    refine GX.c ?_
    refine GX.q ?_
    refine GX.bYes ?_
    exact G.arr (J2 () hF) ⟨rfl, trivial⟩ ⟨rfl, trivial⟩ rfl


set_option maxRecDepth 20000 in
set_option maxHeartbeats 2000000 in
theorem ct_ref19_Of (l_0 : (List Api_Version)) (key_1 : ByteArray) (r : Api_Stamp) (hF : ref19_Of l_0 key_1 = some r) : Ct Try.prog 22 [.g (.d (.sl 6 (List.map encApi_Version l_0))), .g (.d (.v (.string key_1)))] (.one (.agg (encApi_Stamp r))) := by
  unfold ref19_Of at hF
  refine Ct.intro Try.func22 rfl Try.ntmps22 rfl rfl fun M w => ?_
  refine G.seq ?_
  refine G.region ?_
  refine G.op2 (op_alloc (k := 1004) (cs := [bI .i64 0, bI .i64 0]) ti35 ⟨.v _ rfl, .v _ rfl, trivial⟩ rfl) rfl trivial ⟨rfl, trivial⟩ ?_
  refine G.endOps ?_
  refine G.seq ?_
  refine G.region ?_
  refine G.op1 (op_build (zs := [.v (.int .i64 0), .v (.int .i64 0)]) (ds := [.v (.int .i64 0), .v (.int .i64 0)]) Try.underlying35 ti35 (pl35 _ Try.underlying35) ⟨.v _ rfl, .v _ rfl, trivial⟩ EvP.nil rfl rfl) rfl trivial trivial ?_
  refine G.op2 (op_alloc (k := 1005) (cs := [bI .i64 0, bI .i64 0]) ti35 ⟨.v _ rfl, .v _ rfl, trivial⟩ rfl) rfl trivial ⟨rfl, trivial⟩ ?_
  refine G.op3 (op_storeA (cs' := [bI .i64 0, bI .i64 0]) ti35 rfl rfl (Ev.t 5 (.ptr 1005 0)) (Ev.t 7 (.g (.agg [.v (.int .i64 0), .v (.int .i64 0)])))) rfl ⟨rfl, rfl, trivial⟩ ⟨rfl, trivial⟩ ?_
  refine G.endOps ?_
  refine G.seq ?_
  refine G.seq ?_
  refine G.region ?_
  refine G.op1 (op_assign (Ev.c _ rfl) rfl) rfl trivial trivial ?_
  refine G.endOps ?_
  refine G.joinC (T := Int × Int) (fun y1 => ⟨[(4, .one (.ptr 1004 0)), (5, .one (.ptr 1005 0))], [(1004, some (.blk 35 [bI .i64 0, bI .i64 0])), (1005, some (.blk 35 [bI .i64 y1.1, bI .i64 y1.2]))]⟩) (fun y1 => ref19_Of_k1 y1 = some r) (fun y1 hF => ?_) (fun J2 => ?_)
  · unfold ref19_Of_k1 at hF
    refine G.seq ?_
    refine G.region ?_
    refine G.op1 (op_loadAP (ds := [.v (.int .i64 y1.1), .v (.int .i64 y1.2)]) Try.underlying35 rfl ti35 rfl (Ev.t 5 (.ptr 1005 0)) rfl) rfl ⟨rfl, trivial⟩ ⟨rfl, trivial⟩ ?_
    refine G.op3 (op_storeA (cs' := [bI .i64 y1.1, bI .i64 y1.2]) ti35 rfl rfl (Ev.t 4 (.ptr 1004 0)) (Ev.t 35 (.g (.agg [.v (.int .i64 y1.1), .v (.int .i64 y1.2)])))) rfl ⟨rfl, rfl, trivial⟩ ⟨rfl, trivial⟩ ?_
    refine G.endOps ?_
    cases hF
    exact G.ret1 Try.results22 (RVar.cellA (ds := [.v (.int .i64 y1.1), .v (.int .i64 y1.2)]) Try.underlying35 rfl ti35 rfl) ⟨rfl, trivial⟩ ⟨rfl, trivial⟩
  refine G.block ?_
  refine G.keep (sl' := [(0, .one (.g (.d (.sl 6 (List.map encApi_Version l_0))))), (1, .one (bS key_1)), (4, .one (.ptr 1004 0)), (5, .one (.ptr 1005 0)), (6, .one (bI .i64 0))]) (hp' := [(1004, some (.blk 35 [bI .i64 0, bI .i64 0])), (1005, some (.blk 35 [bI .i64 0, bI .i64 0]))]) ⟨rfl, rfl, rfl, rfl, rfl, trivial⟩ ⟨rfl, rfl, trivial⟩ rfl ?_
  refine G.loopF (fun (v3 : Int × Int × Int) => ⟨[(0, .one (.g (.d (.sl 6 (List.map encApi_Version l_0))))), (1, .one (bS key_1)), (4, .one (.ptr 1004 0)), (5, .one (.ptr 1005 0)), (6, .one (bI .i64 v3.1))], [(1004, some (.blk 35 [bI .i64 0, bI .i64 0])), (1005, some (.blk 35 [bI .i64 v3.2.1, bI .i64 v3.2.2]))]⟩) hF rfl (fun K6 again5 v3 J4 hF => ?_)
  unfold ref19_Of_l2 at hF
  refine G.seq ?_
  refine G.seq ?_
  refine G.region ?_
  refine G.op1 (op_move (Ev.t 6 (bI .i64 v3.1)) rfl) rfl ⟨rfl, trivial⟩ trivial ?_
  refine G.op1 (op_move (Ev.t 0 (.g (.d (.sl 6 (List.map encApi_Version l_0))))) rfl) rfl ⟨rfl, trivial⟩ trivial ?_
  refine G.op1 (OpL.cast (op_lenD Try.underlying22 (Ev.t 9 (.g (.d (.sl 6 (List.map encApi_Version l_0))))) rfl) (by rw [List.length_map])) rfl ⟨rfl, trivial⟩ trivial ?_
  refine G.op1 (op_lss (Ev.t 8 (bI .i64 v3.1)) (Ev.t 10 (bI .i64 (l_0.length : Int))) rfl) rfl ⟨rfl, rfl, trivial⟩ trivial ?_
  refine G.endOps ?_
  refine ifS hF (fun hc7 hF => ?_) (fun hc7 hF => ?_)
  · refine G.cond rfl (fun _ => ?_) (fun hx => by rw [hc7] at hx; cases hx)
    refine G.skip ?_
    refine G.seq ?_
    refine G.block ?_
    refine G.seq ?_
    refine G.joinC (T := Bool) (fun y8 => ⟨[(0, .one (.g (.d (.sl 6 (List.map encApi_Version l_0))))), (1, .one (bS key_1)), (4, .one (.ptr 1004 0)), (5, .one (.ptr 1005 0)), (6, .one (bI .i64 v3.1)), (29, .one (bB y8))], [(1004, some (.blk 35 [bI .i64 0, bI .i64 0])), (1005, some (.blk 35 [bI .i64 v3.2.1, bI .i64 v3.2.2]))]⟩) (fun y8 => ref19_Of_k3 l_0 again5 v3 y8 = some r) (fun y8 hF => ?_) (fun J11 => ?_)
    · unfold ref19_Of_k3 at hF
      refine ifS hF (fun hc9 hF => ?_) (fun hc9 hF => ?_)
      · refine G.cond rfl (fun _ => ?_) (fun hx => by rw [hc9] at hx; cases hx)
        refine G.region ?_
        refine G.op1 (op_move (Ev.t 0 (.g (.d (.sl 6 (List.map encApi_Version l_0))))) rfl) rfl ⟨rfl, trivial⟩ trivial ?_
        refine G.op1 (op_move (Ev.t 6 (bI .i64 v3.1)) rfl) rfl ⟨rfl, trivial⟩ trivial ?_
        obtain ⟨x10, hx10, hF⟩ := bindS hF
        refine G.op1 (op_index (cs := [.v (.string x10.Key), .v (.string x10.Value), .v (.bool x10.Gone), .v (.int .i64 x10.Stamp.N), .v (.int .i64 x10.Stamp.Site), .sl 3 (List.map encApi_Dep x10.Past)]) Try.underlying22 ti42 (idx_ok hx10).1 (idx_get hx10 encApi_Version) (Ev.t 30 (.g (.d (.sl 6 (List.map encApi_Version l_0))))) (Ev.t 31 (bI .i64 v3.1)) rfl) rfl ⟨rfl, rfl, trivial⟩ trivial ?_
        refine G.op1 (op_fieldE (cs' := [.v (.int .i64 x10.Stamp.N), .v (.int .i64 x10.Stamp.Site), .sl 3 (List.map encApi_Dep x10.Past)]) Try.underlying42 rfl ti35 (by decide) rfl (Ev.t 32 (.ep [.v (.string x10.Key), .v (.string x10.Value), .v (.bool x10.Gone), .v (.int .i64 x10.Stamp.N), .v (.int .i64 x10.Stamp.Site), .sl 3 (List.map encApi_Dep x10.Past)])) rfl) rfl ⟨rfl, trivial⟩ trivial ?_
        refine G.op1 (op_loadAE (ds := [.v (.int .i64 x10.Stamp.N), .v (.int .i64 x10.Stamp.Site)]) Try.underlying35 rfl ti35 rfl (Ev.t 33 (.ep [.v (.int .i64 x10.Stamp.N), .v (.int .i64 x10.Stamp.Site), .sl 3 (List.map encApi_Dep x10.Past)])) rfl) rfl ⟨rfl, trivial⟩ trivial ?_
        refine G.op3 (op_storeA (cs' := [bI .i64 x10.Stamp.N, bI .i64 x10.Stamp.Site]) ti35 rfl rfl (Ev.t 5 (.ptr 1005 0)) (Ev.t 34 (.g (.agg [.v (.int .i64 x10.Stamp.N), .v (.int .i64 x10.Stamp.Site)])))) rfl ⟨rfl, rfl, trivial⟩ ⟨rfl, trivial⟩ ?_
        refine G.endOps ?_
        refine G.endBlock ?_
        refine G.region ?_
        refine G.op1 (op_move (Ev.t 6 (bI .i64 v3.1)) rfl) rfl ⟨rfl, trivial⟩ trivial ?_
        refine G.op1 (op_add (Ev.t 12 (bI .i64 v3.1)) (Ev.c _ rfl) rfl) rfl ⟨rfl, trivial⟩ trivial ?_
        refine G.op1 (op_assign (Ev.t 13 (bI .i64 (IntKind.wrap .i64 (v3.1 + 1)))) rfl) rfl ⟨rfl, trivial⟩ trivial ?_
        refine G.endOps ?_
        exact G.arr (J4 (IntKind.wrap .i64 (v3.1 + 1), x10.Stamp.N, x10.Stamp.Site) hF) ⟨rfl, rfl, rfl, rfl, rfl, trivial⟩ ⟨rfl, rfl, trivial⟩ rfl
      · refine G.cond rfl (fun hx => by rw [hc9] at hx; cases hx) (fun _ => ?_)
        refine G.skip ?_
        refine G.endBlock ?_
        refine G.region ?_
        refine G.op1 (op_move (Ev.t 6 (bI .i64 v3.1)) rfl) rfl ⟨rfl, trivial⟩ trivial ?_
        refine G.op1 (op_add (Ev.t 12 (bI .i64 v3.1)) (Ev.c _ rfl) rfl) rfl ⟨rfl, trivial⟩ trivial ?_
        refine G.op1 (op_assign (Ev.t 13 (bI .i64 (IntKind.wrap .i64 (v3.1 + 1)))) rfl) rfl ⟨rfl, trivial⟩ trivial ?_
        refine G.endOps ?_
        exact G.arr (J4 (IntKind.wrap .i64 (v3.1 + 1), v3.2.1, v3.2.2) hF) ⟨rfl, rfl, rfl, rfl, rfl, trivial⟩ ⟨rfl, rfl, trivial⟩ rfl
    obtain ⟨x12, hx12, hF⟩ := bindS hF
    refine ifS hF (fun hc13 hF => ?_) (fun hc13 hF => ?_)
    · obtain ⟨x14, hx14, hF⟩ := bindS hF
      obtain ⟨r15, hr15, hF⟩ := bindS hF
      refine G.drawn (effs := [⟨[(0, .one (.g (.d (.sl 6 (List.map encApi_Version l_0)))))], [], [(14, .one (.g (.d (.sl 6 (List.map encApi_Version l_0)))))], []⟩, ⟨[(6, .one (bI .i64 v3.1))], [], [(15, .one (bI .i64 v3.1))], []⟩, ⟨[(14, .one (.g (.d (.sl 6 (List.map encApi_Version l_0))))), (15, .one (bI .i64 v3.1))], [], [(16, .one (.ep [.v (.string x12.Key), .v (.string x12.Value), .v (.bool x12.Gone), .v (.int .i64 x12.Stamp.N), .v (.int .i64 x12.Stamp.Site), .sl 3 (List.map encApi_Dep x12.Past)]))], []⟩, ⟨[(16, .one (.ep [.v (.string x12.Key), .v (.string x12.Value), .v (.bool x12.Gone), .v (.int .i64 x12.Stamp.N), .v (.int .i64 x12.Stamp.Site), .sl 3 (List.map encApi_Dep x12.Past)]))], [], [(17, .one (.ep [.v (.string x12.Key), .v (.string x12.Value), .v (.bool x12.Gone), .v (.int .i64 x12.Stamp.N), .v (.int .i64 x12.Stamp.Site), .sl 3 (List.map encApi_Dep x12.Past)]))], []⟩, ⟨[(17, .one (.ep [.v (.string x12.Key), .v (.string x12.Value), .v (.bool x12.Gone), .v (.int .i64 x12.Stamp.N), .v (.int .i64 x12.Stamp.Site), .sl 3 (List.map encApi_Dep x12.Past)]))], [], [(18, .one (bS x12.Key))], []⟩, ⟨[(1, .one (bS key_1))], [], [(19, .one (bS key_1))], []⟩, ⟨[(18, .one (bS x12.Key)), (19, .one (bS key_1))], [], [(20, .one (bB true))], []⟩, ⟨[(20, .one (bB true))], [], [(21, .one (bB true))], []⟩, ⟨[(21, .one (bB true)), (5, .one (.ptr 1005 0))], [(1005, some (.blk 35 [bI .i64 v3.2.1, bI .i64 v3.2.2]))], [(22, .one (.g (.agg [.v (.int .i64 v3.2.1), .v (.int .i64 v3.2.2)])))], []⟩, ⟨[(21, .one (bB true)), (0, .one (.g (.d (.sl 6 (List.map encApi_Version l_0)))))], [], [(23, .one (.g (.d (.sl 6 (List.map encApi_Version l_0)))))], []⟩, ⟨[(21, .one (bB true)), (6, .one (bI .i64 v3.1))], [], [(24, .one (bI .i64 v3.1))], []⟩, ⟨[(21, .one (bB true)), (23, .one (.g (.d (.sl 6 (List.map encApi_Version l_0))))), (24, .one (bI .i64 v3.1))], [], [(25, .one (.ep [.v (.string x14.Key), .v (.string x14.Value), .v (.bool x14.Gone), .v (.int .i64 x14.Stamp.N), .v (.int .i64 x14.Stamp.Site), .sl 3 (List.map encApi_Dep x14.Past)]))], []⟩, ⟨[(21, .one (bB true)), (25, .one (.ep [.v (.string x14.Key), .v (.string x14.Value), .v (.bool x14.Gone), .v (.int .i64 x14.Stamp.N), .v (.int .i64 x14.Stamp.Site), .sl 3 (List.map encApi_Dep x14.Past)]))], [], [(26, .one (.ep [.v (.int .i64 x14.Stamp.N), .v (.int .i64 x14.Stamp.Site), .sl 3 (List.map encApi_Dep x14.Past)]))], []⟩, ⟨[(21, .one (bB true)), (26, .one (.ep [.v (.int .i64 x14.Stamp.N), .v (.int .i64 x14.Stamp.Site), .sl 3 (List.map encApi_Dep x14.Past)]))], [], [(27, .one (.g (.agg [.v (.int .i64 x14.Stamp.N), .v (.int .i64 x14.Stamp.Site)])))], []⟩, ⟨[(21, .one (bB true)), (22, .one (.g (.agg [.v (.int .i64 v3.2.1), .v (.int .i64 v3.2.2)]))), (27, .one (.g (.agg [.v (.int .i64 x14.Stamp.N), .v (.int .i64 x14.Stamp.Site)])))], [], [(28, .one (bB r15))], []⟩, ⟨[(21, .one (bB true)), (28, .one (bB r15))], [], [(29, .one (bB r15))], []⟩]) (deps := [[], [], [0, 1], [0, 1, 2], [0, 1, 2, 3], [], [0, 1, 2, 3, 4, 5], [0, 1, 2, 3, 4, 5, 6], [0, 1, 2, 3, 4, 5, 6, 7], [0, 1, 2, 3, 4, 5, 6, 7], [0, 1, 2, 3, 4, 5, 6, 7], [0, 1, 2, 3, 4, 5, 6, 7, 9, 10], [0, 1, 2, 3, 4, 5, 6, 7, 9, 10, 11], [0, 1, 2, 3, 4, 5, 6, 7, 9, 10, 11, 12], [0, 1, 2, 3, 4, 5, 6, 7, 8, 9, 10, 11, 12, 13], [0, 1, 2, 3, 4, 5, 6, 7, 8, 9, 10, 11, 12, 13, 14]]) (sl' := [(0, .one (.g (.d (.sl 6 (List.map encApi_Version l_0))))), (1, .one (bS key_1)), (4, .one (.ptr 1004 0)), (5, .one (.ptr 1005 0)), (6, .one (bI .i64 v3.1)), (29, .one (bB r15))]) (hp' := [(1004, some (.blk 35 [bI .i64 0, bI .i64 0])), (1005, some (.blk 35 [bI .i64 v3.2.1, bI .i64 v3.2.2]))]) follows rfl rfl rfl ⟨⟨rfl, trivial⟩, trivial, ⟨rfl, trivial⟩, trivial, ⟨rfl, rfl, trivial⟩, trivial, ⟨rfl, trivial⟩, trivial, ⟨rfl, trivial⟩, trivial, ⟨rfl, trivial⟩, trivial, ⟨rfl, rfl, trivial⟩, trivial, ⟨rfl, trivial⟩, trivial, ⟨rfl, rfl, trivial⟩, ⟨⟨rfl, rfl⟩, trivial⟩, ⟨rfl, rfl, trivial⟩, trivial, ⟨rfl, rfl, trivial⟩, trivial, ⟨rfl, rfl, rfl, trivial⟩, trivial, ⟨rfl, rfl, trivial⟩, trivial, ⟨rfl, rfl, trivial⟩, trivial, ⟨rfl, rfl, rfl, trivial⟩, trivial, ⟨rfl, rfl, trivial⟩, trivial, trivial⟩ ⟨OpW.plain (op_move (Ev.t 0 (.g (.d (.sl 6 (List.map encApi_Version l_0))))) rfl) rfl rfl, OpW.plain (op_move (Ev.t 6 (bI .i64 v3.1)) rfl) rfl rfl, OpW.plain (op_index (cs := [.v (.string x12.Key), .v (.string x12.Value), .v (.bool x12.Gone), .v (.int .i64 x12.Stamp.N), .v (.int .i64 x12.Stamp.Site), .sl 3 (List.map encApi_Dep x12.Past)]) Try.underlying22 ti42 (idx_ok hx12).1 (idx_get hx12 encApi_Version) (Ev.t 14 (.g (.d (.sl 6 (List.map encApi_Version l_0))))) (Ev.t 15 (bI .i64 v3.1)) rfl) rfl rfl, OpW.plain (op_fieldE (cs' := [.v (.string x12.Key), .v (.string x12.Value), .v (.bool x12.Gone), .v (.int .i64 x12.Stamp.N), .v (.int .i64 x12.Stamp.Site), .sl 3 (List.map encApi_Dep x12.Past)]) Try.underlying42 rfl ti9 (by decide) rfl (Ev.t 16 (.ep [.v (.string x12.Key), .v (.string x12.Value), .v (.bool x12.Gone), .v (.int .i64 x12.Stamp.N), .v (.int .i64 x12.Stamp.Site), .sl 3 (List.map encApi_Dep x12.Past)])) rfl) rfl rfl, OpW.plain (op_load1E (c := .v (.string x12.Key)) Try.underlying9 rfl rfl (Ev.t 17 (.ep [.v (.string x12.Key), .v (.string x12.Value), .v (.bool x12.Gone), .v (.int .i64 x12.Stamp.N), .v (.int .i64 x12.Stamp.Site), .sl 3 (List.map encApi_Dep x12.Past)])) rfl) rfl rfl, OpW.plain (op_move (Ev.t 1 (bS key_1)) rfl) rfl rfl, OpW.plain (OpL.cast (op_eqS (Ev.t 18 (bS x12.Key)) (Ev.t 19 (bS key_1)) rfl) (congrArg (fun b => bB b) hc13)) rfl rfl, OpW.plain (op_move (Ev.t 20 (bB true)) rfl) rfl rfl, OpW.yes (op_loadAP (ds := [.v (.int .i64 v3.2.1), .v (.int .i64 v3.2.2)]) Try.underlying35 rfl ti35 rfl (Ev.t 5 (.ptr 1005 0)) rfl) rfl rfl rfl, OpW.yes (op_move (Ev.t 0 (.g (.d (.sl 6 (List.map encApi_Version l_0))))) rfl) rfl rfl rfl, OpW.yes (op_move (Ev.t 6 (bI .i64 v3.1)) rfl) rfl rfl rfl, OpW.yes (op_index (cs := [.v (.string x14.Key), .v (.string x14.Value), .v (.bool x14.Gone), .v (.int .i64 x14.Stamp.N), .v (.int .i64 x14.Stamp.Site), .sl 3 (List.map encApi_Dep x14.Past)]) Try.underlying22 ti42 (idx_ok hx14).1 (idx_get hx14 encApi_Version) (Ev.t 23 (.g (.d (.sl 6 (List.map encApi_Version l_0))))) (Ev.t 24 (bI .i64 v3.1)) rfl) rfl rfl rfl, OpW.yes (op_fieldE (cs' := [.v (.int .i64 x14.Stamp.N), .v (.int .i64 x14.Stamp.Site), .sl 3 (List.map encApi_Dep x14.Past)]) Try.underlying42 rfl ti35 (by decide) rfl (Ev.t 25 (.ep [.v (.string x14.Key), .v (.string x14.Value), .v (.bool x14.Gone), .v (.int .i64 x14.Stamp.N), .v (.int .i64 x14.Stamp.Site), .sl 3 (List.map encApi_Dep x14.Past)])) rfl) rfl rfl rfl, OpW.yes (op_loadAE (ds := [.v (.int .i64 x14.Stamp.N), .v (.int .i64 x14.Stamp.Site)]) Try.underlying35 rfl ti35 rfl (Ev.t 26 (.ep [.v (.int .i64 x14.Stamp.N), .v (.int .i64 x14.Stamp.Site), .sl 3 (List.map encApi_Dep x14.Past)])) rfl) rfl rfl rfl, OpW.yes (op_callQ (sv := .one (bB r15)) cf25 (ct_ref03_Less (Api_Stamp.mk v3.2.1 v3.2.2) x14.Stamp r15 hr15) rfl rfl (EvQL.cons (EvQ.g (Ev.t 22 (.g (.agg [.v (.int .i64 v3.2.1), .v (.int .i64 v3.2.2)])))) (EvQL.cons (EvQ.g (Ev.t 27 (.g (.agg [.v (.int .i64 x14.Stamp.N), .v (.int .i64 x14.Stamp.Site)])))) EvQL.nil)) rfl) rfl rfl rfl, OpW.plain (op_pickT (Ev.t 21 (bB true)) (Ev.t 28 (bB r15)) rfl) rfl rfl, trivial⟩ ⟨rfl, rfl, rfl, rfl, rfl, rfl, trivial⟩ ⟨rfl, rfl, trivial⟩ rfl ?_
      exact G.arr (J11 r15 hF) ⟨rfl, rfl, rfl, rfl, rfl, rfl, trivial⟩ ⟨rfl, rfl, trivial⟩ rfl
    · refine G.drawn (effs := [⟨[(0, .one (.g (.d (.sl 6 (List.map encApi_Version l_0)))))], [], [(14, .one (.g (.d (.sl 6 (List.map encApi_Version l_0)))))], []⟩, ⟨[(6, .one (bI .i64 v3.1))], [], [(15, .one (bI .i64 v3.1))], []⟩, ⟨[(14, .one (.g (.d (.sl 6 (List.map encApi_Version l_0))))), (15, .one (bI .i64 v3.1))], [], [(16, .one (.ep [.v (.string x12.Key), .v (.string x12.Value), .v (.bool x12.Gone), .v (.int .i64 x12.Stamp.N), .v (.int .i64 x12.Stamp.Site), .sl 3 (List.map encApi_Dep x12.Past)]))], []⟩, ⟨[(16, .one (.ep [.v (.string x12.Key), .v (.string x12.Value), .v (.bool x12.Gone), .v (.int .i64 x12.Stamp.N), .v (.int .i64 x12.Stamp.Site), .sl 3 (List.map encApi_Dep x12.Past)]))], [], [(17, .one (.ep [.v (.string x12.Key), .v (.string x12.Value), .v (.bool x12.Gone), .v (.int .i64 x12.Stamp.N), .v (.int .i64 x12.Stamp.Site), .sl 3 (List.map encApi_Dep x12.Past)]))], []⟩, ⟨[(17, .one (.ep [.v (.string x12.Key), .v (.string x12.Value), .v (.bool x12.Gone), .v (.int .i64 x12.Stamp.N), .v (.int .i64 x12.Stamp.Site), .sl 3 (List.map encApi_Dep x12.Past)]))], [], [(18, .one (bS x12.Key))], []⟩, ⟨[(1, .one (bS key_1))], [], [(19, .one (bS key_1))], []⟩, ⟨[(18, .one (bS x12.Key)), (19, .one (bS key_1))], [], [(20, .one (bB false))], []⟩, ⟨[(20, .one (bB false))], [], [(21, .one (bB false))], []⟩, ⟨[(21, .one (bB false))], [], [(22, .one (.x Go.undef))], []⟩, ⟨[(21, .one (bB false))], [], [(23, .one (.x Go.undef))], []⟩, ⟨[(21, .one (bB false))], [], [(24, .one (.x Go.undef))], []⟩, ⟨[(21, .one (bB false))], [], [(25, .one (.x Go.undef))], []⟩, ⟨[(21, .one (bB false))], [], [(26, .one (.x Go.undef))], []⟩, ⟨[(21, .one (bB false))], [], [(27, .one (.x Go.undef))], []⟩, ⟨[(21, .one (bB false))], [], [(28, .one (.x Go.undef))], []⟩, ⟨[(21, .one (bB false))], [], [(29, .one (bB false))], []⟩]) (deps := [[], [], [0, 1], [0, 1, 2], [0, 1, 2, 3], [], [0, 1, 2, 3, 4, 5], [0, 1, 2, 3, 4, 5, 6], [0, 1, 2, 3, 4, 5, 6, 7], [0, 1, 2, 3, 4, 5, 6, 7], [0, 1, 2, 3, 4, 5, 6, 7], [0, 1, 2, 3, 4, 5, 6, 7, 9, 10], [0, 1, 2, 3, 4, 5, 6, 7, 9, 10, 11], [0, 1, 2, 3, 4, 5, 6, 7, 9, 10, 11, 12], [0, 1, 2, 3, 4, 5, 6, 7, 8, 9, 10, 11, 12, 13], [0, 1, 2, 3, 4, 5, 6, 7, 8, 9, 10, 11, 12, 13, 14]]) (sl' := [(0, .one (.g (.d (.sl 6 (List.map encApi_Version l_0))))), (1, .one (bS key_1)), (4, .one (.ptr 1004 0)), (5, .one (.ptr 1005 0)), (6, .one (bI .i64 v3.1)), (29, .one (bB false))]) (hp' := [(1004, some (.blk 35 [bI .i64 0, bI .i64 0])), (1005, some (.blk 35 [bI .i64 v3.2.1, bI .i64 v3.2.2]))]) follows rfl rfl rfl ⟨⟨rfl, trivial⟩, trivial, ⟨rfl, trivial⟩, trivial, ⟨rfl, rfl, trivial⟩, trivial, ⟨rfl, trivial⟩, trivial, ⟨rfl, trivial⟩, trivial, ⟨rfl, trivial⟩, trivial, ⟨rfl, rfl, trivial⟩, trivial, ⟨rfl, trivial⟩, trivial, ⟨rfl, trivial⟩, trivial, ⟨rfl, trivial⟩, trivial, ⟨rfl, trivial⟩, trivial, ⟨rfl, trivial⟩, trivial, ⟨rfl, trivial⟩, trivial, ⟨rfl, trivial⟩, trivial, ⟨rfl, trivial⟩, trivial, ⟨rfl, trivial⟩, trivial, trivial⟩ ⟨OpW.plain (op_move (Ev.t 0 (.g (.d (.sl 6 (List.map encApi_Version l_0))))) rfl) rfl rfl, OpW.plain (op_move (Ev.t 6 (bI .i64 v3.1)) rfl) rfl rfl, OpW.plain (op_index (cs := [.v (.string x12.Key), .v (.string x12.Value), .v (.bool x12.Gone), .v (.int .i64 x12.Stamp.N), .v (.int .i64 x12.Stamp.Site), .sl 3 (List.map encApi_Dep x12.Past)]) Try.underlying22 ti42 (idx_ok hx12).1 (idx_get hx12 encApi_Version) (Ev.t 14 (.g (.d (.sl 6 (List.map encApi_Version l_0))))) (Ev.t 15 (bI .i64 v3.1)) rfl) rfl rfl, OpW.plain (op_fieldE (cs' := [.v (.string x12.Key), .v (.string x12.Value), .v (.bool x12.Gone), .v (.int .i64 x12.Stamp.N), .v (.int .i64 x12.Stamp.Site), .sl 3 (List.map encApi_Dep x12.Past)]) Try.underlying42 rfl ti9 (by decide) rfl (Ev.t 16 (.ep [.v (.string x12.Key), .v (.string x12.Value), .v (.bool x12.Gone), .v (.int .i64 x12.Stamp.N), .v (.int .i64 x12.Stamp.Site), .sl 3 (List.map encApi_Dep x12.Past)])) rfl) rfl rfl, OpW.plain (op_load1E (c := .v (.string x12.Key)) Try.underlying9 rfl rfl (Ev.t 17 (.ep [.v (.string x12.Key), .v (.string x12.Value), .v (.bool x12.Gone), .v (.int .i64 x12.Stamp.N), .v (.int .i64 x12.Stamp.Site), .sl 3 (List.map encApi_Dep x12.Past)])) rfl) rfl rfl, OpW.plain (op_move (Ev.t 1 (bS key_1)) rfl) rfl rfl, OpW.plain (OpL.cast (op_eqS (Ev.t 18 (bS x12.Key)) (Ev.t 19 (bS key_1)) rfl) (congrArg (fun b => bB b) hc13)) rfl rfl, OpW.plain (op_move (Ev.t 20 (bB false)) rfl) rfl rfl, OpW.no rfl rfl rfl rfl rfl, OpW.no rfl rfl rfl rfl rfl, OpW.no rfl rfl rfl rfl rfl, OpW.no rfl rfl rfl rfl rfl, OpW.no rfl rfl rfl rfl rfl, OpW.no rfl rfl rfl rfl rfl, OpW.no rfl rfl rfl rfl rfl, OpW.plain (op_pickF (Ev.t 21 (bB false)) (Ev.c _ rfl) rfl) rfl rfl, trivial⟩ ⟨rfl, rfl, rfl, rfl, rfl, rfl, trivial⟩ ⟨rfl, rfl, trivial⟩ rfl ?_
      exact G.arr (J11 false hF) ⟨rfl, rfl, rfl, rfl, rfl, rfl, trivial⟩ ⟨rfl, rfl, trivial⟩ rfl
  · refine G.cond rfl (fun hx => by rw [hc7] at hx; cases hx) (fun _ => ?_)
    refine G.exit ?_
    refine GX.c ?_
    refine GX.q ?_
    refine GX.bYes ?_
    exact G.arr (J2 (v3.2.1, v3.2.2) hF) ⟨rfl, rfl, trivial⟩ ⟨rfl, rfl, trivial⟩ rfl


set_option maxRecDepth 20000 in
set_option maxHeartbeats 2000000 in
theorem ct_law19_CutOne (v_0 : Api_Version) (k_1 : (List ByteArray)) (seen_2 : (List Api_Dep)) (r : Bool) (hF : law19_CutOne v_0 k_1 seen_2 = some r) : Ct Try.prog 6 [.g (.agg (encApi_Version v_0)), .g (.d (.sl 1 (List.map encS k_1))), .g (.d (.sl 3 (List.map encApi_Dep seen_2)))] (.one (.d (.v (.bool r)))) := by
  unfold law19_CutOne at hF
  refine Ct.intro Try.func6 rfl Try.ntmps6 rfl rfl fun M w => ?_
  refine G.seq ?_
  refine G.region ?_
  refine G.op2 (op_boxA (k := 1003) (Ev.t 0 (.g (.agg [.v (.string v_0.Key), .v (.string v_0.Value), .v (.bool v_0.Gone), .v (.int .i64 v_0.Stamp.N), .v (.int .i64 v_0.Stamp.Site), .sl 3 (List.map encApi_Dep v_0.Past)]))) rfl) rfl ⟨rfl, trivial⟩ ⟨rfl, trivial⟩ ?_
  refine G.op1 (op_assign (Ev.c _ rfl) rfl) rfl trivial trivial ?_
  refine G.endOps ?_
  refine G.seq ?_
  refine G.region ?_
  obtain ⟨r1, hr1, hF⟩ := bindS hF
  refine G.op1 (op_callQ (sv := .one (bB r1)) cf9 (ct_law19_awake r1 hr1) rfl rfl EvQL.nil rfl) rfl trivial trivial ?_
  refine G.op1 (op_assign (Ev.t 18 (bB r1)) rfl) rfl ⟨rfl, trivial⟩ trivial ?_
  refine G.endOps ?_
  refine G.seq ?_
  refine G.region ?_
  refine G.op1 (op_loadAP (ds := [.v (.string v_0.Key), .v (.string v_0.Value), .v (.bool v_0.Gone), .v (.int .i64 v_0.Stamp.N), .v (.int .i64 v_0.Stamp.Site), .sl 3 (List.map encApi_Dep v_0.Past)]) Try.underlying42 rfl ti42 rfl (Ev.t 3 (.ptr 1003 0)) rfl) rfl ⟨rfl, trivial⟩ ⟨rfl, trivial⟩ ?_
  refine G.op1 (op_buildSlice (es := List.map encApi_Version [v_0]) Try.underlying22 ti42 rfl rfl (EvP.cons (Ev.t 19 (.g (.agg [.v (.string v_0.Key), .v (.string v_0.Value), .v (.bool v_0.Gone), .v (.int .i64 v_0.Stamp.N), .v (.int .i64 v_0.Stamp.Site), .sl 3 (List.map encApi_Dep v_0.Past)]))) EvP.nil) rfl rfl (by simp [encApi_Version]) rfl) rfl ⟨rfl, trivial⟩ trivial ?_
  obtain ⟨r2, hr2, hF⟩ := bindS hF
  refine G.op1 (op_call (sv := .one (.g (.d (.sl 6 (List.map encApi_Version r2))))) cf10 (ct_law19_few ([v_0]) r2 hr2) rfl (EvL.cons (Ev.t 20 (.g (.d (.sl 6 (List.map encApi_Version ([v_0])))))) EvL.nil) rfl) rfl ⟨rfl, trivial⟩ trivial ?_
  refine G.op1 (op_assign (Ev.t 21 (.g (.d (.sl 6 (List.map encApi_Version r2))))) rfl) rfl ⟨rfl, trivial⟩ trivial ?_
  refine G.endOps ?_
  refine G.seq ?_
  refine G.region ?_
  refine G.op1 (op_move (Ev.t 2 (.g (.d (.sl 3 (List.map encApi_Dep seen_2))))) rfl) rfl ⟨rfl, trivial⟩ trivial ?_
  obtain ⟨r3, hr3, hF⟩ := bindS hF
  refine G.op1 (op_call (sv := .one (.g (.d (.sl 3 (List.map encApi_Dep r3))))) cf11 (ct_law19_row seen_2 r3 hr3) rfl (EvL.cons (Ev.t 22 (.g (.d (.sl 3 (List.map encApi_Dep seen_2))))) EvL.nil) rfl) rfl ⟨rfl, trivial⟩ trivial ?_
  refine G.op1 (op_assign (Ev.t 23 (.g (.d (.sl 3 (List.map encApi_Dep r3))))) rfl) rfl ⟨rfl, trivial⟩ trivial ?_
  refine G.endOps ?_
  refine G.seq ?_
  refine G.region ?_
  refine G.op1 (op_move (Ev.t 1 (.g (.d (.sl 1 (List.map encS k_1))))) rfl) rfl ⟨rfl, trivial⟩ trivial ?_
  obtain ⟨r4, hr4, hF⟩ := bindS hF
  refine G.op1 (op_call (sv := .one (.g (.d (.sl 1 (List.map encS r4))))) cf12 (ct_law19_keys k_1 r4 hr4) rfl (EvL.cons (Ev.t 24 (.g (.d (.sl 1 (List.map encS k_1))))) EvL.nil) rfl) rfl ⟨rfl, trivial⟩ trivial ?_
  refine G.op1 (op_assign (Ev.t 25 (.g (.d (.sl 1 (List.map encS r4))))) rfl) rfl ⟨rfl, trivial⟩ trivial ?_
  refine G.endOps ?_
  refine G.seq ?_
  refine G.region ?_
  refine G.op1 (op_move (Ev.t 8 (.g (.d (.sl 6 (List.map encApi_Version r2))))) rfl) rfl ⟨rfl, trivial⟩ trivial ?_
  obtain ⟨x5, hx5, hF⟩ := bindS hF
  refine G.op1 (op_index (cs := [.v (.string x5.Key), .v (.string x5.Value), .v (.bool x5.Gone), .v (.int .i64 x5.Stamp.N), .v (.int .i64 x5.Stamp.Site), .sl 3 (List.map encApi_Dep x5.Past)]) Try.underlying22 ti42 (idx_ok hx5).1 (idx_get hx5 encApi_Version) (Ev.t 26 (.g (.d (.sl 6 (List.map encApi_Version r2))))) (Ev.c _ rfl) rfl) rfl ⟨rfl, trivial⟩ trivial ?_
  refine G.op1 (op_loadAE (ds := [.v (.string x5.Key), .v (.string x5.Value), .v (.bool x5.Gone), .v (.int .i64 x5.Stamp.N), .v (.int .i64 x5.Stamp.Site), .sl 3 (List.map encApi_Dep x5.Past)]) Try.underlying42 rfl ti42 rfl (Ev.t 27 (.ep [.v (.string x5.Key), .v (.string x5.Value), .v (.bool x5.Gone), .v (.int .i64 x5.Stamp.N), .v (.int .i64 x5.Stamp.Site), .sl 3 (List.map encApi_Dep x5.Past)])) rfl) rfl ⟨rfl, trivial⟩ trivial ?_
  refine G.op2 (op_alloc (k := 1010) (cs := [bS ByteArray.empty, bS ByteArray.empty, bB false, bI .i64 0, bI .i64 0, .g (.d (.sl 3 (List.map encApi_Dep ([] : (List Api_Dep)))))]) ti42 ⟨.v _ rfl, .v _ rfl, .v _ rfl, .v _ rfl, .v _ rfl, .n 3, trivial⟩ rfl) rfl trivial ⟨rfl, trivial⟩ ?_
  refine G.op3 (op_storeA (cs' := [bS x5.Key, bS x5.Value, bB x5.Gone, bI .i64 x5.Stamp.N, bI .i64 x5.Stamp.Site, .g (.d (.sl 3 (List.map encApi_Dep x5.Past)))]) ti42 rfl rfl (Ev.t 10 (.ptr 1010 0)) (Ev.t 28 (.g (.agg [.v (.string x5.Key), .v (.string x5.Value), .v (.bool x5.Gone), .v (.int .i64 x5.Stamp.N), .v (.int .i64 x5.Stamp.Site), .sl 3 (List.map encApi_Dep x5.Past)])))) rfl ⟨rfl, rfl, trivial⟩ ⟨rfl, trivial⟩ ?_
  refine G.endOps ?_
  refine G.seq ?_
  refine G.region ?_
  refine G.op1 (op_move (Ev.t 9 (.g (.d (.sl 3 (List.map encApi_Dep r3))))) rfl) rfl ⟨rfl, trivial⟩ trivial ?_
  refine G.op1 (op_fieldP (off' := 0) Try.underlying42 rfl ti9 (by decide) rfl (Ev.t 10 (.ptr 1010 0)) rfl) rfl ⟨rfl, trivial⟩ trivial ?_
  refine G.op1 (op_load1P (c := bS x5.Key) Try.underlying9 rfl rfl (Ev.t 30 (.ptr 1010 0)) rfl) rfl ⟨rfl, trivial⟩ ⟨rfl, trivial⟩ ?_
  obtain ⟨r6, hr6, hF⟩ := bindS hF
  refine G.op1 (op_callQ (sv := .one (.g (.agg [.v (.int .i64 r6.N), .v (.int .i64 r6.Site)]))) cf26 (ct_ref04_Get r3 x5.Key r6 hr6) rfl rfl (EvQL.cons (EvQ.g (Ev.t 29 (.g (.d (.sl 3 (List.map encApi_Dep r3)))))) (EvQL.cons (EvQ.g (Ev.t 31 (bS x5.Key))) EvQL.nil)) rfl) rfl ⟨rfl, rfl, trivial⟩ trivial ?_
  refine G.op2 (op_alloc (k := 1011) (cs := [bI .i64 0, bI .i64 0]) ti35 ⟨.v _ rfl, .v _ rfl, trivial⟩ rfl) rfl trivial ⟨rfl, trivial⟩ ?_
  refine G.op3 (op_storeA (cs' := [bI .i64 r6.N, bI .i64 r6.Site]) ti35 rfl rfl (Ev.t 11 (.ptr 1011 0)) (Ev.t 32 (.g (.agg [.v (.int .i64 r6.N), .v (.int .i64 r6.Site)])))) rfl ⟨rfl, rfl, trivial⟩ ⟨rfl, trivial⟩ ?_
  refine G.endOps ?_
  refine G.seq ?_
  refine G.region ?_
  refine G.op1 (op_fieldP (off' := 5) Try.underlying42 rfl ti24 (by decide) rfl (Ev.t 10 (.ptr 1010 0)) rfl) rfl ⟨rfl, trivial⟩ trivial ?_
  refine G.op1 (op_load1P (c := .g (.d (.sl 3 (List.map encApi_Dep x5.Past)))) Try.underlying24 rfl rfl (Ev.t 33 (.ptr 1010 5)) rfl) rfl ⟨rfl, trivial⟩ ⟨rfl, trivial⟩ ?_
  refine G.op1 (op_fieldP (off' := 0) Try.underlying42 rfl ti9 (by decide) rfl (Ev.t 10 (.ptr 1010 0)) rfl) rfl ⟨rfl, trivial⟩ trivial ?_
  refine G.op1 (op_load1P (c := bS x5.Key) Try.underlying9 rfl rfl (Ev.t 35 (.ptr 1010 0)) rfl) rfl ⟨rfl, trivial⟩ ⟨rfl, trivial⟩ ?_
  obtain ⟨r7, hr7, hF⟩ := bindS hF
  refine G.op1 (op_callQ (sv := .one (.g (.agg [.v (.int .i64 r7.N), .v (.int .i64 r7.Site)]))) cf26 (ct_ref04_Get x5.Past x5.Key r7 hr7) rfl rfl (EvQL.cons (EvQ.g (Ev.t 34 (.g (.d (.sl 3 (List.map encApi_Dep x5.Past)))))) (EvQL.cons (EvQ.g (Ev.t 36 (bS x5.Key))) EvQL.nil)) rfl) rfl ⟨rfl, rfl, trivial⟩ trivial ?_
  refine G.op2 (op_alloc (k := 1012) (cs := [bI .i64 0, bI .i64 0]) ti35 ⟨.v _ rfl, .v _ rfl, trivial⟩ rfl) rfl trivial ⟨rfl, trivial⟩ ?_
  refine G.op3 (op_storeA (cs' := [bI .i64 r7.N, bI .i64 r7.Site]) ti35 rfl rfl (Ev.t 12 (.ptr 1012 0)) (Ev.t 37 (.g (.agg [.v (.int .i64 r7.N), .v (.int .i64 r7.Site)])))) rfl ⟨rfl, rfl, trivial⟩ ⟨rfl, trivial⟩ ?_
  refine G.endOps ?_
  refine G.seq ?_
  refine G.region ?_
  refine G.op1 (op_assign (Ev.c _ rfl) rfl) rfl trivial trivial ?_
  refine G.endOps ?_
  refine G.seq ?_
  refine G.seq ?_
  refine G.region ?_
  refine G.op1 (op_assign (Ev.c _ rfl) rfl) rfl trivial trivial ?_
  refine G.endOps ?_
  refine G.joinC (T := Bool) (fun y8 => ⟨[(1, .one (.g (.d (.sl 1 (List.map encS r4))))), (7, .one (bB r1)), (8, .one (.g (.d (.sl 6 (List.map encApi_Version r2))))), (9, .one (.g (.d (.sl 3 (List.map encApi_Dep r3))))), (10, .one (.ptr 1010 0)), (11, .one (.ptr 1011 0)), (12, .one (.ptr 1012 0)), (13, .one (bB y8))], [(1010, some (.blk 42 [bS x5.Key, bS x5.Value, bB x5.Gone, bI .i64 x5.Stamp.N, bI .i64 x5.Stamp.Site, .g (.d (.sl 3 (List.map encApi_Dep x5.Past)))])), (1011, some (.blk 35 [bI .i64 r6.N, bI .i64 r6.Site])), (1012, some (.blk 35 [bI .i64 r7.N, bI .i64 r7.Site]))]⟩) (fun y8 => law19_CutOne_k1 r1 r2 r3 r4 x5 r6 r7 y8 = some r) (fun y8 hF => ?_) (fun J21 => ?_)
  · unfold law19_CutOne_k1 at hF
    refine G.seq ?_
    refine G.region ?_
    refine G.op1 (op_move (Ev.t 8 (.g (.d (.sl 6 (List.map encApi_Version r2))))) rfl) rfl ⟨rfl, trivial⟩ trivial ?_
    refine G.op1 (op_fieldP (off' := 0) Try.underlying42 rfl ti9 (by decide) rfl (Ev.t 10 (.ptr 1010 0)) rfl) rfl ⟨rfl, trivial⟩ trivial ?_
    refine G.op1 (op_load1P (c := bS x5.Key) Try.underlying9 rfl rfl (Ev.t 57 (.ptr 1010 0)) rfl) rfl ⟨rfl, trivial⟩ ⟨rfl, trivial⟩ ?_
    obtain ⟨r9, hr9, hF⟩ := bindS hF
    refine G.op1 (op_callQ (sv := .one (.g (.agg [.v (.int .i64 r9.N), .v (.int .i64 r9.Site)]))) cf22 (ct_ref19_Of r2 x5.Key r9 hr9) rfl rfl (EvQL.cons (EvQ.g (Ev.t 56 (.g (.d (.sl 6 (List.map encApi_Version r2)))))) (EvQL.cons (EvQ.g (Ev.t 58 (bS x5.Key))) EvQL.nil)) rfl) rfl ⟨rfl, rfl, trivial⟩ trivial ?_
    refine G.op2 (op_alloc (k := 1016) (cs := [bI .i64 0, bI .i64 0]) ti35 ⟨.v _ rfl, .v _ rfl, trivial⟩ rfl) rfl trivial ⟨rfl, trivial⟩ ?_
    refine G.op3 (op_storeA (cs' := [bI .i64 r9.N, bI .i64 r9.Site]) ti35 rfl rfl (Ev.t 16 (.ptr 1016 0)) (Ev.t 59 (.g (.agg [.v (.int .i64 r9.N), .v (.int .i64 r9.Site)])))) rfl ⟨rfl, rfl, trivial⟩ ⟨rfl, trivial⟩ ?_
    refine G.endOps ?_
    refine G.seq ?_
    refine G.joinC (T := Bool) (fun y10 => ⟨[(1, .one (.g (.d (.sl 1 (List.map encS r4))))), (7, .one (bB r1)), (8, .one (.g (.d (.sl 6 (List.map encApi_Version r2))))), (9, .one (.g (.d (.sl 3 (List.map encApi_Dep r3))))), (10, .one (.ptr 1010 0)), (13, .one (bB y8)), (17, .one (bB y10))], [(1010, some (.blk 42 [bS x5.Key, bS x5.Value, bB x5.Gone, bI .i64 x5.Stamp.N, bI .i64 x5.Stamp.Site, .g (.d (.sl 3 (List.map encApi_Dep x5.Past)))]))]⟩) (fun y10 => law19_CutOne_k2 r1 r2 r3 r4 x5 y8 y10 = some r) (fun y10 hF => ?_) (fun J17 => ?_)
    · unfold law19_CutOne_k2 at hF
      refine G.seq ?_
      refine G.region ?_
      refine G.op1 (op_move (Ev.t 7 (bB r1)) rfl) rfl ⟨rfl, trivial⟩ trivial ?_
      refine G.op1 (op_move (Ev.t 70 (bB r1)) rfl) rfl ⟨rfl, trivial⟩ trivial ?_
      refine G.joinL (T := Bool) 9 (fun y11 => ⟨[(1, .one (.g (.d (.sl 1 (List.map encS r4))))), (9, .one (.g (.d (.sl 3 (List.map encApi_Dep r3))))), (13, .one (bB y8)), (80, .one (bB y11))], []⟩) (fun y11 => law19_CutOne_k3 r3 r4 y8 y11 = some r) (fun y11 hF => ?_) (fun J14 => ?_)
      · unfold law19_CutOne_k3 at hF
        refine G.op1 (op_move (Ev.t 80 (bB y11)) rfl) rfl ⟨rfl, trivial⟩ trivial ?_
        refine ifS hF (fun hc12 hF => ?_) (fun hc12 hF => ?_)
        · refine G.known (t := 81) hc12 rfl ?_
          refine G.opG1 (op_move (Ev.t 1 (.g (.d (.sl 1 (List.map encS r4))))) rfl) rfl rfl rfl ⟨rfl, trivial⟩ trivial ?_
          refine G.opG1 (op_move (Ev.t 9 (.g (.d (.sl 3 (List.map encApi_Dep r3))))) rfl) rfl rfl rfl ⟨rfl, trivial⟩ trivial ?_
          obtain ⟨r13, hr13, hF⟩ := bindS hF
          refine G.opG1 (op_callQ (sv := .one (bB r13)) cf23 (ct_cut_Check r4 ([] : (List Api_Version)) r3 r13 hr13) rfl rfl (EvQL.cons (EvQ.g (Ev.t 82 (.g (.d (.sl 1 (List.map encS r4)))))) (EvQL.cons (EvQ.g (Ev.n 6)) (EvQL.cons (EvQ.g (Ev.t 83 (.g (.d (.sl 3 (List.map encApi_Dep r3)))))) EvQL.nil))) rfl) rfl rfl rfl ⟨rfl, rfl, trivial⟩ trivial ?_
          refine G.opG1 (op_move (Ev.t 13 (bB y8)) rfl) rfl rfl rfl ⟨rfl, trivial⟩ trivial ?_
          refine G.opG1 (op_eqB Try.underlying4 (Ev.t 84 (bB r13)) (Ev.t 85 (bB y8)) rfl) rfl rfl rfl ⟨rfl, rfl, trivial⟩ trivial ?_
          refine G.op1 (op_pickT (Ev.t 81 (bB true)) (Ev.t 86 (bB (r13 == y8))) rfl) rfl ⟨rfl, rfl, trivial⟩ trivial ?_
          refine G.op1 (op_assign (Ev.t 87 (bB (r13 == y8))) rfl) rfl ⟨rfl, trivial⟩ trivial ?_
          refine G.endOps ?_
          cases hF
          exact G.ret1 Try.results6 (RVar.tmp 6 _) ⟨rfl, trivial⟩ trivial
        · refine G.known (t := 81) hc12 rfl ?_
          refine G.opN1 rfl rfl rfl rfl rfl ?_
          refine G.opN1 rfl rfl rfl rfl rfl ?_
          refine G.opN1 rfl rfl rfl rfl rfl ?_
          refine G.opN1 rfl rfl rfl rfl rfl ?_
          refine G.opN1 rfl rfl rfl rfl rfl ?_
          refine G.op1 (op_pickF (Ev.t 81 (bB false)) (Ev.c _ rfl) rfl) rfl ⟨rfl, trivial⟩ trivial ?_
          refine G.op1 (op_assign (Ev.t 87 (bB false)) rfl) rfl ⟨rfl, trivial⟩ trivial ?_
          refine G.endOps ?_
          cases hF
          exact G.ret1 Try.results6 (RVar.tmp 6 _) ⟨rfl, trivial⟩ trivial
      refine ifS hF (fun hc15 hF => ?_) (fun hc15 hF => ?_)
      · refine G.known (t := 71) hc15 rfl ?_
        refine G.opG1 (op_fieldP (off' := 0) Try.underlying42 rfl ti9 (by decide) rfl (Ev.t 10 (.ptr 1010 0)) rfl) rfl rfl rfl ⟨rfl, trivial⟩ trivial ?_
        refine G.opG1 (op_load1P (c := bS x5.Key) Try.underlying9 rfl rfl (Ev.t 72 (.ptr 1010 0)) rfl) rfl rfl rfl ⟨rfl, trivial⟩ ⟨rfl, trivial⟩ ?_
        refine G.opG1 (op_buildSlice (es := List.map encS [x5.Key]) Try.underlying23 ti9 rfl rfl (EvP.cons (Ev.t 73 (bS x5.Key)) EvP.nil) rfl rfl (by simp [encS]) rfl) rfl rfl rfl ⟨rfl, trivial⟩ trivial ?_
        refine G.opG1 (op_move (Ev.t 8 (.g (.d (.sl 6 (List.map encApi_Version r2))))) rfl) rfl rfl rfl ⟨rfl, trivial⟩ trivial ?_
        refine G.opG1 (op_move (Ev.t 9 (.g (.d (.sl 3 (List.map encApi_Dep r3))))) rfl) rfl rfl rfl ⟨rfl, trivial⟩ trivial ?_
        obtain ⟨r16, hr16, hF⟩ := bindS hF
        refine G.opG1 (op_callQ (sv := .one (bB r16)) cf23 (ct_cut_Check ([x5.Key]) r2 r3 r16 hr16) rfl rfl (EvQL.cons (EvQ.g (Ev.t 74 (.g (.d (.sl 1 (List.map encS ([x5.Key]))))))) (EvQL.cons (EvQ.g (Ev.t 75 (.g (.d (.sl 6 (List.map encApi_Version r2)))))) (EvQL.cons (EvQ.g (Ev.t 76 (.g (.d (.sl 3 (List.map encApi_Dep r3)))))) EvQL.nil))) rfl) rfl rfl rfl ⟨rfl, rfl, rfl, trivial⟩ trivial ?_
        refine G.opG1 (op_move (Ev.t 17 (bB y10)) rfl) rfl rfl rfl ⟨rfl, trivial⟩ trivial ?_
        refine G.opG1 (op_eqB Try.underlying4 (Ev.t 77 (bB r16)) (Ev.t 78 (bB y10)) rfl) rfl rfl rfl ⟨rfl, rfl, trivial⟩ trivial ?_
        refine G.op1 (op_pickT (Ev.t 71 (bB true)) (Ev.t 79 (bB (r16 == y10))) rfl) rfl ⟨rfl, rfl, trivial⟩ trivial ?_
        exact G.arr (J14 (r16 == y10) hF) ⟨rfl, rfl, rfl, rfl, trivial⟩ trivial rfl
      · refine G.known (t := 71) hc15 rfl ?_
        refine G.opN1 rfl rfl rfl rfl rfl ?_
        refine G.opN1 rfl rfl rfl rfl rfl ?_
        refine G.opN1 rfl rfl rfl rfl rfl ?_
        refine G.opN1 rfl rfl rfl rfl rfl ?_
        refine G.opN1 rfl rfl rfl rfl rfl ?_
        refine G.opN1 rfl rfl rfl rfl rfl ?_
        refine G.opN1 rfl rfl rfl rfl rfl ?_
        refine G.opN1 rfl rfl rfl rfl rfl ?_
        refine G.op1 (op_pickF (Ev.t 71 (bB false)) (Ev.c _ rfl) rfl) rfl ⟨rfl, trivial⟩ trivial ?_
        exact G.arr (J14 false hF) ⟨rfl, rfl, rfl, rfl, trivial⟩ trivial rfl
    refine G.region ?_
    refine G.op1 (op_loadAP (ds := [.v (.int .i64 r9.N), .v (.int .i64 r9.Site)]) Try.underlying35 rfl ti35 rfl (Ev.t 16 (.ptr 1016 0)) rfl) rfl ⟨rfl, trivial⟩ ⟨rfl, trivial⟩ ?_
    refine G.op1 (op_loadAP (ds := [.v (.int .i64 r6.N), .v (.int .i64 r6.Site)]) Try.underlying35 rfl ti35 rfl (Ev.t 11 (.ptr 1011 0)) rfl) rfl ⟨rfl, trivial⟩ ⟨rfl, trivial⟩ ?_
    obtain ⟨r18, hr18, hF⟩ := bindS hF
    refine G.op1 (op_callQ (sv := .one (bB r18)) cf25 (ct_ref03_Less r9 r6 r18 hr18) rfl rfl (EvQL.cons (EvQ.g (Ev.t 60 (.g (.agg [.v (.int .i64 r9.N), .v (.int .i64 r9.Site)])))) (EvQL.cons (EvQ.g (Ev.t 61 (.g (.agg [.v (.int .i64 r6.N), .v (.int .i64 r6.Site)])))) EvQL.nil)) rfl) rfl ⟨rfl, rfl, trivial⟩ trivial ?_
    refine G.op1 (op_not (Ev.t 62 (bB r18)) rfl) rfl ⟨rfl, trivial⟩ trivial ?_
    refine G.op1 (op_move (Ev.t 63 (bB (!r18))) rfl) rfl ⟨rfl, trivial⟩ trivial ?_
    refine ifS hF (fun hc19 hF => ?_) (fun hc19 hF => ?_)
    · refine G.known (t := 64) hc19 rfl ?_
      refine G.opG1 (op_loadAP (ds := [.v (.int .i64 r9.N), .v (.int .i64 r9.Site)]) Try.underlying35 rfl ti35 rfl (Ev.t 16 (.ptr 1016 0)) rfl) rfl rfl rfl ⟨rfl, trivial⟩ ⟨rfl, trivial⟩ ?_
      refine G.opG1 (op_loadAP (ds := [.v (.int .i64 r7.N), .v (.int .i64 r7.Site)]) Try.underlying35 rfl ti35 rfl (Ev.t 12 (.ptr 1012 0)) rfl) rfl rfl rfl ⟨rfl, trivial⟩ ⟨rfl, trivial⟩ ?_
      obtain ⟨r20, hr20, hF⟩ := bindS hF
      refine G.opG1 (op_callQ (sv := .one (bB r20)) cf25 (ct_ref03_Less r9 r7 r20 hr20) rfl rfl (EvQL.cons (EvQ.g (Ev.t 65 (.g (.agg [.v (.int .i64 r9.N), .v (.int .i64 r9.Site)])))) (EvQL.cons (EvQ.g (Ev.t 66 (.g (.agg [.v (.int .i64 r7.N), .v (.int .i64 r7.Site)])))) EvQL.nil)) rfl) rfl rfl rfl ⟨rfl, rfl, trivial⟩ trivial ?_
      refine G.opG1 (op_not (Ev.t 67 (bB r20)) rfl) rfl rfl rfl ⟨rfl, trivial⟩ trivial ?_
      refine G.op1 (op_pickT (Ev.t 64 (bB true)) (Ev.t 68 (bB (!r20))) rfl) rfl ⟨rfl, rfl, trivial⟩ trivial ?_
      refine G.op1 (op_assign (Ev.t 69 (bB (!r20))) rfl) rfl ⟨rfl, trivial⟩ trivial ?_
      refine G.endOps ?_
      exact G.arr (J17 (!r20) hF) ⟨rfl, rfl, rfl, rfl, rfl, rfl, rfl, trivial⟩ ⟨rfl, trivial⟩ rfl
    · refine G.known (t := 64) hc19 rfl ?_
      refine G.opN1 rfl rfl rfl rfl rfl ?_
      refine G.opN1 rfl rfl rfl rfl rfl ?_
      refine G.opN1 rfl rfl rfl rfl rfl ?_
      refine G.opN1 rfl rfl rfl rfl rfl ?_
      refine G.op1 (op_pickF (Ev.t 64 (bB false)) (Ev.c _ rfl) rfl) rfl ⟨rfl, trivial⟩ trivial ?_
      refine G.op1 (op_assign (Ev.t 69 (bB false)) rfl) rfl ⟨rfl, trivial⟩ trivial ?_
      refine G.endOps ?_
      exact G.arr (J17 false hF) ⟨rfl, rfl, rfl, rfl, rfl, rfl, rfl, trivial⟩ ⟨rfl, trivial⟩ rfl
  refine G.block ?_
  refine G.keep (sl' := [(1, .one (.g (.d (.sl 1 (List.map encS r4))))), (7, .one (bB r1)), (8, .one (.g (.d (.sl 6 (List.map encApi_Version r2))))), (9, .one (.g (.d (.sl 3 (List.map encApi_Dep r3))))), (10, .one (.ptr 1010 0)), (11, .one (.ptr 1011 0)), (12, .one (.ptr 1012 0)), (13, .one (bB true)), (14, .one (bI .i64 0))]) (hp' := [(1010, some (.blk 42 [bS x5.Key, bS x5.Value, bB x5.Gone, bI .i64 x5.Stamp.N, bI .i64 x5.Stamp.Site, .g (.d (.sl 3 (List.map encApi_Dep x5.Past)))])), (1011, some (.blk 35 [bI .i64 r6.N, bI .i64 r6.Site])), (1012, some (.blk 35 [bI .i64 r7.N, bI .i64 r7.Site]))]) ⟨rfl, rfl, rfl, rfl, rfl, rfl, rfl, rfl, rfl, trivial⟩ ⟨rfl, rfl, rfl, trivial⟩ rfl ?_
  refine G.loopF (fun (v22 : Bool × Int) => ⟨[(1, .one (.g (.d (.sl 1 (List.map encS r4))))), (7, .one (bB r1)), (8, .one (.g (.d (.sl 6 (List.map encApi_Version r2))))), (9, .one (.g (.d (.sl 3 (List.map encApi_Dep r3))))), (10, .one (.ptr 1010 0)), (11, .one (.ptr 1011 0)), (12, .one (.ptr 1012 0)), (13, .one (bB v22.1)), (14, .one (bI .i64 v22.2))], [(1010, some (.blk 42 [bS x5.Key, bS x5.Value, bB x5.Gone, bI .i64 x5.Stamp.N, bI .i64 x5.Stamp.Site, .g (.d (.sl 3 (List.map encApi_Dep x5.Past)))])), (1011, some (.blk 35 [bI .i64 r6.N, bI .i64 r6.Site])), (1012, some (.blk 35 [bI .i64 r7.N, bI .i64 r7.Site]))]⟩) hF rfl (fun K25 again24 v22 J23 hF => ?_)
  unfold law19_CutOne_l4 at hF
  refine G.seq ?_
  refine G.seq ?_
  refine G.region ?_
  refine G.op1 (op_move (Ev.t 14 (bI .i64 v22.2)) rfl) rfl ⟨rfl, trivial⟩ trivial ?_
  refine G.op1 (op_move (Ev.t 1 (.g (.d (.sl 1 (List.map encS r4))))) rfl) rfl ⟨rfl, trivial⟩ trivial ?_
  refine G.op1 (OpL.cast (op_lenD Try.underlying23 (Ev.t 39 (.g (.d (.sl 1 (List.map encS r4))))) rfl) (by rw [List.length_map])) rfl ⟨rfl, trivial⟩ trivial ?_
  refine G.op1 (op_lss (Ev.t 38 (bI .i64 v22.2)) (Ev.t 40 (bI .i64 (r4.length : Int))) rfl) rfl ⟨rfl, rfl, trivial⟩ trivial ?_
  refine G.endOps ?_
  refine ifS hF (fun hc26 hF => ?_) (fun hc26 hF => ?_)
  · refine G.cond rfl (fun _ => ?_) (fun hx => by rw [hc26] at hx; cases hx)
    refine G.skip ?_
    refine G.seq ?_
    refine G.block ?_
    refine G.seq ?_
    refine G.region ?_
    refine G.op1 (op_move (Ev.t 9 (.g (.d (.sl 3 (List.map encApi_Dep r3))))) rfl) rfl ⟨rfl, trivial⟩ trivial ?_
    refine G.op1 (op_move (Ev.t 1 (.g (.d (.sl 1 (List.map encS r4))))) rfl) rfl ⟨rfl, trivial⟩ trivial ?_
    refine G.op1 (op_move (Ev.t 14 (bI .i64 v22.2)) rfl) rfl ⟨rfl, trivial⟩ trivial ?_
    obtain ⟨x27, hx27, hF⟩ := bindS hF
    refine G.op1 (op_index (cs := [.v (.string x27)]) Try.underlying23 ti9 (idx_ok hx27).1 (idx_get hx27 encS) (Ev.t 45 (.g (.d (.sl 1 (List.map encS r4))))) (Ev.t 46 (bI .i64 v22.2)) rfl) rfl ⟨rfl, rfl, trivial⟩ trivial ?_
    refine G.op1 (op_load1E (c := .v (.string x27)) Try.underlying9 rfl rfl (Ev.t 47 (.ep [.v (.string x27)])) rfl) rfl ⟨rfl, trivial⟩ trivial ?_
    obtain ⟨r28, hr28, hF⟩ := bindS hF
    refine G.op1 (op_callQ (sv := .one (.g (.agg [.v (.int .i64 r28.N), .v (.int .i64 r28.Site)]))) cf26 (ct_ref04_Get r3 x27 r28 hr28) rfl rfl (EvQL.cons (EvQ.g (Ev.t 44 (.g (.d (.sl 3 (List.map encApi_Dep r3)))))) (EvQL.cons (EvQ.g (Ev.t 48 (bS x27))) EvQL.nil)) rfl) rfl ⟨rfl, rfl, trivial⟩ trivial ?_
    refine G.op2 (op_alloc (k := 1015) (cs := [bI .i64 0, bI .i64 0]) ti35 ⟨.v _ rfl, .v _ rfl, trivial⟩ rfl) rfl trivial ⟨rfl, trivial⟩ ?_
    refine G.op3 (op_storeA (cs' := [bI .i64 r28.N, bI .i64 r28.Site]) ti35 rfl rfl (Ev.t 15 (.ptr 1015 0)) (Ev.t 49 (.g (.agg [.v (.int .i64 r28.N), .v (.int .i64 r28.Site)])))) rfl ⟨rfl, rfl, trivial⟩ ⟨rfl, trivial⟩ ?_
    refine G.endOps ?_
    refine G.region ?_
    refine G.op1 (op_move (Ev.t 13 (bB v22.1)) rfl) rfl ⟨rfl, trivial⟩ trivial ?_
    refine G.op1 (op_move (Ev.t 50 (bB v22.1)) rfl) rfl ⟨rfl, trivial⟩ trivial ?_
    refine ifS hF (fun hc29 hF => ?_) (fun hc29 hF => ?_)
    · refine G.known (t := 51) hc29 rfl ?_
      refine G.opG1 (op_fieldP (off' := 0) Try.underlying35 rfl ti3 (by decide) rfl (Ev.t 15 (.ptr 1015 0)) rfl) rfl rfl rfl ⟨rfl, trivial⟩ trivial ?_
      refine G.opG1 (op_load1P (c := bI .i64 r28.N) Try.underlying3 rfl rfl (Ev.t 52 (.ptr 1015 0)) rfl) rfl rfl rfl ⟨rfl, trivial⟩ ⟨rfl, trivial⟩ ?_
      refine G.opG1 (op_eqI (Ev.t 53 (bI .i64 r28.N)) (Ev.c _ rfl) rfl) rfl rfl rfl ⟨rfl, trivial⟩ trivial ?_
      refine G.op1 (op_pickT (Ev.t 51 (bB true)) (Ev.t 54 (bB (decide (r28.N = 0)))) rfl) rfl ⟨rfl, rfl, trivial⟩ trivial ?_
      refine G.op1 (op_assign (Ev.t 55 (bB (decide (r28.N = 0)))) rfl) rfl ⟨rfl, trivial⟩ trivial ?_
      refine G.endOps ?_
      refine G.endBlock ?_
      refine G.region ?_
      refine G.op1 (op_move (Ev.t 14 (bI .i64 v22.2)) rfl) rfl ⟨rfl, trivial⟩ trivial ?_
      refine G.op1 (op_add (Ev.t 42 (bI .i64 v22.2)) (Ev.c _ rfl) rfl) rfl ⟨rfl, trivial⟩ trivial ?_
      refine G.op1 (op_assign (Ev.t 43 (bI .i64 (IntKind.wrap .i64 (v22.2 + 1)))) rfl) rfl ⟨rfl, trivial⟩ trivial ?_
      refine G.endOps ?_
      exact G.arr (J23 (decide (r28.N = 0), IntKind.wrap .i64 (v22.2 + 1)) hF) ⟨rfl, rfl, rfl, rfl, rfl, rfl, rfl, rfl, rfl, trivial⟩ ⟨rfl, rfl, rfl, trivial⟩ rfl
    · refine G.known (t := 51) hc29 rfl ?_
      refine G.opN1 rfl rfl rfl rfl rfl ?_
      refine G.opN1 rfl rfl rfl rfl rfl ?_
      refine G.opN1 rfl rfl rfl rfl rfl ?_
      refine G.op1 (op_pickF (Ev.t 51 (bB false)) (Ev.c _ rfl) rfl) rfl ⟨rfl, trivial⟩ trivial ?_
      refine G.op1 (op_assign (Ev.t 55 (bB false)) rfl) rfl ⟨rfl, trivial⟩ trivial ?_
      refine G.endOps ?_
      refine G.endBlock ?_
      refine G.region ?_
      refine G.op1 (op_move (Ev.t 14 (bI .i64 v22.2)) rfl) rfl ⟨rfl, trivial⟩ trivial ?_
      refine G.op1 (op_add (Ev.t 42 (bI .i64 v22.2)) (Ev.c _ rfl) rfl) rfl ⟨rfl, trivial⟩ trivial ?_
      refine G.op1 (op_assign (Ev.t 43 (bI .i64 (IntKind.wrap .i64 (v22.2 + 1)))) rfl) rfl ⟨rfl, trivial⟩ trivial ?_
      refine G.endOps ?_
      exact G.arr (J23 (false, IntKind.wrap .i64 (v22.2 + 1)) hF) ⟨rfl, rfl, rfl, rfl, rfl, rfl, rfl, rfl, rfl, trivial⟩ ⟨rfl, rfl, rfl, trivial⟩ rfl
  · refine G.cond rfl (fun hx => by rw [hc26] at hx; cases hx) (fun _ => ?_)
    refine G.exit ?_
    refine GX.c ?_
    refine GX.q ?_
    refine GX.bYes ?_
    exact G.arr (J21 v22.1 hF) ⟨rfl, rfl, rfl, rfl, rfl, rfl, rfl, rfl, trivial⟩ ⟨rfl, rfl, rfl, trivial⟩ rfl


end Go.Ark
