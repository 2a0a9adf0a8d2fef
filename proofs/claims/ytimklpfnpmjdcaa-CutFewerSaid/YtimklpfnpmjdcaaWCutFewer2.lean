/- Walks, printed by a program of mine: each function of the program computes the typed function of its name. Conditions: none. -/
import Derived.Test.YtimklpfnpmjdcaaWCutFewer1
namespace Go.Ark
open Go Go.Ab Go.RowKit Go.Lib Go.Proofs

set_option maxRecDepth 20000 in
set_option maxHeartbeats 2000000 in
theorem ct_law19_row (l_0 : (List Api_Dep)) (r : (List Api_Dep)) (hF : law19_row l_0 = some r) : Ct Try.prog 11 [.g (.d (.sl 3 (List.map encApi_Dep l_0)))] (.one (.d (.sl 3 (List.map encApi_Dep r)))) := by
  unfold law19_row at hF
  refine Ct.intro Try.func11 rfl Try.ntmps11 rfl rfl fun M w => ?_
  refine G.seq ?_
  refine G.region ?_
  refine G.op1 (op_assign (Ev.n 3) rfl) rfl trivial trivial ?_
  refine G.endOps ?_
  refine G.seq ?_
  refine G.region ?_
  refine G.op1 (op_assign (Ev.n 3) rfl) rfl trivial trivial ?_
  refine G.endOps ?_
  refine G.seq ?_
  refine G.seq ?_
  refine G.region ?_
  refine G.op1 (op_assign (Ev.c _ rfl) rfl) rfl trivial trivial ?_
  refine G.endOps ?_
  refine G.joinC (T := (List Api_Dep)) (fun y1 => ⟨[(3, .one (.g (.d (.sl 3 (List.map encApi_Dep y1)))))], []⟩) (fun y1 => law19_row_k1 y1 = some r) (fun y1 hF => ?_) (fun J2 => ?_)
  · unfold law19_row_k1 at hF
    refine G.seq ?_
    refine G.region ?_
    refine G.op1 (op_move (Ev.t 3 (.g (.d (.sl 3 (List.map encApi_Dep y1))))) rfl) rfl ⟨rfl, trivial⟩ trivial ?_
    refine G.op1 (op_assign (Ev.t 29 (.g (.d (.sl 3 (List.map encApi_Dep y1))))) rfl) rfl ⟨rfl, trivial⟩ trivial ?_
    refine G.endOps ?_
    cases hF
    exact G.ret1 Try.results11 (RVar.tmp 2 _) ⟨rfl, trivial⟩ trivial
  refine G.block ?_
  refine G.keep (sl' := [(0, .one (.g (.d (.sl 3 (List.map encApi_Dep l_0))))), (3, .one (.g (.d (.sl 3 (List.map encApi_Dep ([] : (List Api_Dep))))))), (4, .one (bI .i64 0))]) (hp' := []) ⟨rfl, rfl, rfl, trivial⟩ trivial rfl ?_
  refine G.loopF (fun (v3 : (List Api_Dep) × Int) => ⟨[(0, .one (.g (.d (.sl 3 (List.map encApi_Dep l_0))))), (3, .one (.g (.d (.sl 3 (List.map encApi_Dep v3.1))))), (4, .one (bI .i64 v3.2))], []⟩) hF rfl (fun K6 again5 v3 J4 hF => ?_)
  unfold law19_row_l2 at hF
  refine G.seq ?_
  refine G.seq ?_
  refine G.joinC (T := Bool) (fun y7 => ⟨[(0, .one (.g (.d (.sl 3 (List.map encApi_Dep l_0))))), (3, .one (.g (.d (.sl 3 (List.map encApi_Dep v3.1))))), (4, .one (bI .i64 v3.2)), (12, .one (bB y7))], []⟩) (fun y7 => law19_row_k3 l_0 again5 v3 y7 = some r) (fun y7 hF => ?_) (fun J13 => ?_)
  · unfold law19_row_k3 at hF
    refine ifS hF (fun hc8 hF => ?_) (fun hc8 hF => ?_)
    · refine G.cond rfl (fun _ => ?_) (fun hx => by rw [hc8] at hx; cases hx)
      refine G.skip ?_
      refine G.seq ?_
      refine G.block ?_
      obtain ⟨x9, hx9, hF⟩ := bindS hF
      obtain ⟨r10, hr10, hF⟩ := bindS hF
      obtain ⟨x11, hx11, hF⟩ := bindS hF
      obtain ⟨r12, hr12, hF⟩ := bindS hF
      refine G.drawn (effs := [⟨[(3, .one (.g (.d (.sl 3 (List.map encApi_Dep v3.1)))))], [], [(15, .one (.g (.d (.sl 3 (List.map encApi_Dep v3.1)))))], []⟩, ⟨[(0, .one (.g (.d (.sl 3 (List.map encApi_Dep l_0)))))], [], [(16, .one (.g (.d (.sl 3 (List.map encApi_Dep l_0)))))], []⟩, ⟨[(4, .one (bI .i64 v3.2))], [], [(17, .one (bI .i64 v3.2))], []⟩, ⟨[(16, .one (.g (.d (.sl 3 (List.map encApi_Dep l_0))))), (17, .one (bI .i64 v3.2))], [], [(18, .one (.ep [.v (.string x9.Key), .v (.int .i64 x9.Stamp.N), .v (.int .i64 x9.Stamp.Site)]))], []⟩, ⟨[(18, .one (.ep [.v (.string x9.Key), .v (.int .i64 x9.Stamp.N), .v (.int .i64 x9.Stamp.Site)]))], [], [(19, .one (.ep [.v (.string x9.Key), .v (.int .i64 x9.Stamp.N), .v (.int .i64 x9.Stamp.Site)]))], []⟩, ⟨[(19, .one (.ep [.v (.string x9.Key), .v (.int .i64 x9.Stamp.N), .v (.int .i64 x9.Stamp.Site)]))], [], [(20, .one (bS x9.Key))], []⟩, ⟨[(20, .one (bS x9.Key))], [], [(21, .one (bS r10))], []⟩, ⟨[(0, .one (.g (.d (.sl 3 (List.map encApi_Dep l_0)))))], [], [(22, .one (.g (.d (.sl 3 (List.map encApi_Dep l_0)))))], []⟩, ⟨[(4, .one (bI .i64 v3.2))], [], [(23, .one (bI .i64 v3.2))], []⟩, ⟨[(22, .one (.g (.d (.sl 3 (List.map encApi_Dep l_0))))), (23, .one (bI .i64 v3.2))], [], [(24, .one (.ep [.v (.string x11.Key), .v (.int .i64 x11.Stamp.N), .v (.int .i64 x11.Stamp.Site)]))], []⟩, ⟨[(24, .one (.ep [.v (.string x11.Key), .v (.int .i64 x11.Stamp.N), .v (.int .i64 x11.Stamp.Site)]))], [], [(25, .one (.ep [.v (.int .i64 x11.Stamp.N), .v (.int .i64 x11.Stamp.Site)]))], []⟩, ⟨[(25, .one (.ep [.v (.int .i64 x11.Stamp.N), .v (.int .i64 x11.Stamp.Site)]))], [], [(26, .one (.g (.agg [.v (.int .i64 x11.Stamp.N), .v (.int .i64 x11.Stamp.Site)])))], []⟩, ⟨[(21, .one (bS r10)), (26, .one (.g (.agg [.v (.int .i64 x11.Stamp.N), .v (.int .i64 x11.Stamp.Site)])))], [], [(27, .one (.g (.agg [.v (.string r10), .v (.int .i64 x11.Stamp.N), .v (.int .i64 x11.Stamp.Site)])))], []⟩, ⟨[(15, .one (.g (.d (.sl 3 (List.map encApi_Dep v3.1))))), (27, .one (.g (.agg [.v (.string r10), .v (.int .i64 x11.Stamp.N), .v (.int .i64 x11.Stamp.Site)])))], [], [(28, .one (.g (.d (.sl 3 (List.map encApi_Dep r12)))))], []⟩, ⟨[(28, .one (.g (.d (.sl 3 (List.map encApi_Dep r12)))))], [], [(3, .one (.g (.d (.sl 3 (List.map encApi_Dep r12)))))], []⟩]) (deps := [[], [], [], [1, 2], [1, 2, 3], [1, 2, 3, 4], [1, 2, 3, 4, 5], [], [], [7, 8], [7, 8, 9], [7, 8, 9, 10], [1, 2, 3, 4, 5, 6, 7, 8, 9, 10, 11], [0, 1, 2, 3, 4, 5, 6, 7, 8, 9, 10, 11, 12], [0, 1, 2, 3, 4, 5, 6, 7, 8, 9, 10, 11, 12, 13]]) (sl' := [(0, .one (.g (.d (.sl 3 (List.map encApi_Dep l_0))))), (3, .one (.g (.d (.sl 3 (List.map encApi_Dep r12))))), (4, .one (bI .i64 v3.2))]) (hp' := []) follows rfl rfl rfl ⟨⟨⟨rfl, rfl⟩, trivial⟩, trivial, ⟨rfl, trivial⟩, trivial, ⟨rfl, trivial⟩, trivial, ⟨rfl, rfl, trivial⟩, trivial, ⟨rfl, trivial⟩, trivial, ⟨rfl, trivial⟩, trivial, ⟨rfl, trivial⟩, trivial, ⟨rfl, trivial⟩, trivial, ⟨rfl, trivial⟩, trivial, ⟨rfl, rfl, trivial⟩, trivial, ⟨rfl, trivial⟩, trivial, ⟨rfl, trivial⟩, trivial, ⟨rfl, rfl, trivial⟩, trivial, ⟨rfl, rfl, trivial⟩, trivial, ⟨rfl, trivial⟩, trivial, trivial⟩ ⟨OpW.plain (op_move (Ev.t 3 (.g (.d (.sl 3 (List.map encApi_Dep v3.1))))) rfl) rfl rfl, OpW.plain (op_move (Ev.t 0 (.g (.d (.sl 3 (List.map encApi_Dep l_0))))) rfl) rfl rfl, OpW.plain (op_move (Ev.t 4 (bI .i64 v3.2)) rfl) rfl rfl, OpW.plain (op_index (cs := [.v (.string x9.Key), .v (.int .i64 x9.Stamp.N), .v (.int .i64 x9.Stamp.Site)]) Try.underlying24 ti47 (idx_ok hx9).1 (idx_get hx9 encApi_Dep) (Ev.t 16 (.g (.d (.sl 3 (List.map encApi_Dep l_0))))) (Ev.t 17 (bI .i64 v3.2)) rfl) rfl rfl, OpW.plain (op_fieldE (cs' := [.v (.string x9.Key), .v (.int .i64 x9.Stamp.N), .v (.int .i64 x9.Stamp.Site)]) Try.underlying47 rfl ti9 (by decide) rfl (Ev.t 18 (.ep [.v (.string x9.Key), .v (.int .i64 x9.Stamp.N), .v (.int .i64 x9.Stamp.Site)])) rfl) rfl rfl, OpW.plain (op_load1E (c := .v (.string x9.Key)) Try.underlying9 rfl rfl (Ev.t 19 (.ep [.v (.string x9.Key), .v (.int .i64 x9.Stamp.N), .v (.int .i64 x9.Stamp.Site)])) rfl) rfl rfl, OpW.plain (op_callQ (sv := .one (bS r10)) cf30 (ct_law19_short x9.Key r10 hr10) rfl rfl (EvQL.cons (EvQ.g (Ev.t 20 (bS x9.Key))) EvQL.nil) rfl) rfl rfl, OpW.plain (op_move (Ev.t 0 (.g (.d (.sl 3 (List.map encApi_Dep l_0))))) rfl) rfl rfl, OpW.plain (op_move (Ev.t 4 (bI .i64 v3.2)) rfl) rfl rfl, OpW.plain (op_index (cs := [.v (.string x11.Key), .v (.int .i64 x11.Stamp.N), .v (.int .i64 x11.Stamp.Site)]) Try.underlying24 ti47 (idx_ok hx11).1 (idx_get hx11 encApi_Dep) (Ev.t 22 (.g (.d (.sl 3 (List.map encApi_Dep l_0))))) (Ev.t 23 (bI .i64 v3.2)) rfl) rfl rfl, OpW.plain (op_fieldE (cs' := [.v (.int .i64 x11.Stamp.N), .v (.int .i64 x11.Stamp.Site)]) Try.underlying47 rfl ti35 (by decide) rfl (Ev.t 24 (.ep [.v (.string x11.Key), .v (.int .i64 x11.Stamp.N), .v (.int .i64 x11.Stamp.Site)])) rfl) rfl rfl, OpW.plain (op_loadAE (ds := [.v (.int .i64 x11.Stamp.N), .v (.int .i64 x11.Stamp.Site)]) Try.underlying35 rfl ti35 rfl (Ev.t 25 (.ep [.v (.int .i64 x11.Stamp.N), .v (.int .i64 x11.Stamp.Site)])) rfl) rfl rfl, OpW.plain (op_build (zs := [.v (.string ByteArray.empty), .v (.int .i64 0), .v (.int .i64 0)]) (ds := [.v (.string r10), .v (.int .i64 x11.Stamp.N), .v (.int .i64 x11.Stamp.Site)]) Try.underlying47 ti47 (pl47 _ Try.underlying47) ⟨.v _ rfl, .v _ rfl, .v _ rfl, trivial⟩ (EvP.cons (Ev.t 21 (bS r10)) (EvP.cons (Ev.t 26 (.g (.agg [.v (.int .i64 x11.Stamp.N), .v (.int .i64 x11.Stamp.Site)]))) EvP.nil)) rfl rfl) rfl rfl, OpW.plain (op_call (sv := .one (.g (.d (.sl 3 (List.map encApi_Dep r12))))) cf31 (ct_ref04_Add v3.1 (Api_Dep.mk r10 x11.Stamp) r12 hr12) rfl (EvL.cons (Ev.t 15 (.g (.d (.sl 3 (List.map encApi_Dep v3.1))))) (EvL.cons (Ev.t 27 (.g (.agg [.v (.string r10), .v (.int .i64 x11.Stamp.N), .v (.int .i64 x11.Stamp.Site)]))) EvL.nil)) rfl) rfl rfl, OpW.plain (op_assign (Ev.t 28 (.g (.d (.sl 3 (List.map encApi_Dep r12))))) rfl) rfl rfl, trivial⟩ ⟨rfl, rfl, rfl, trivial⟩ trivial rfl ?_
      refine G.endBlock ?_
      refine G.region ?_
      refine G.op1 (op_move (Ev.t 4 (bI .i64 v3.2)) rfl) rfl ⟨rfl, trivial⟩ trivial ?_
      refine G.op1 (op_add (Ev.t 13 (bI .i64 v3.2)) (Ev.c _ rfl) rfl) rfl ⟨rfl, trivial⟩ trivial ?_
      refine G.op1 (op_assign (Ev.t 14 (bI .i64 (IntKind.wrap .i64 (v3.2 + 1)))) rfl) rfl ⟨rfl, trivial⟩ trivial ?_
      refine G.endOps ?_
      exact G.arr (J4 (r12, IntKind.wrap .i64 (v3.2 + 1)) hF) ⟨rfl, rfl, rfl, trivial⟩ trivial rfl
    · refine G.cond rfl (fun hx => by rw [hc8] at hx; cases hx) (fun _ => ?_)
      refine G.exit ?_
      refine GX.c ?_
      refine GX.q ?_
      refine GX.bYes ?_
      exact G.arr (J2 v3.1 hF) ⟨rfl, trivial⟩ trivial rfl
  refine G.region ?_
  refine G.op1 (op_move (Ev.t 4 (bI .i64 v3.2)) rfl) rfl ⟨rfl, trivial⟩ trivial ?_
  refine G.op1 (op_move (Ev.t 0 (.g (.d (.sl 3 (List.map encApi_Dep l_0))))) rfl) rfl ⟨rfl, trivial⟩ trivial ?_
  refine G.op1 (OpL.cast (op_lenD Try.underlying24 (Ev.t 6 (.g (.d (.sl 3 (List.map encApi_Dep l_0))))) rfl) (by rw [List.length_map])) rfl ⟨rfl, trivial⟩ trivial ?_
  refine G.op1 (op_lss (Ev.t 5 (bI .i64 v3.2)) (Ev.t 7 (bI .i64 (l_0.length : Int))) rfl) rfl ⟨rfl, rfl, trivial⟩ trivial ?_
  refine G.op1 (op_move (Ev.t 8 (bB (decide (v3.2 < (l_0.length : Int))))) rfl) rfl ⟨rfl, trivial⟩ trivial ?_
  refine ifS hF (fun hc14 hF => ?_) (fun hc14 hF => ?_)
  · refine G.known (t := 9) hc14 rfl ?_
    refine G.opG1 (op_move (Ev.t 4 (bI .i64 v3.2)) rfl) rfl rfl rfl ⟨rfl, trivial⟩ trivial ?_
    refine G.opG1 (op_lss (Ev.t 10 (bI .i64 v3.2)) (Ev.c _ rfl) rfl) rfl rfl rfl ⟨rfl, trivial⟩ trivial ?_
    refine G.op1 (op_pickT (Ev.t 9 (bB true)) (Ev.t 11 (bB (decide (v3.2 < 6)))) rfl) rfl ⟨rfl, rfl, trivial⟩ trivial ?_
    refine G.endOps ?_
    exact G.arr (J13 (decide (v3.2 < 6)) hF) ⟨rfl, rfl, rfl, rfl, trivial⟩ trivial rfl
  · refine G.known (t := 9) hc14 rfl ?_
    refine G.opN1 rfl rfl rfl rfl rfl ?_
    refine G.opN1 rfl rfl rfl rfl rfl ?_
    refine G.op1 (op_pickF (Ev.t 9 (bB false)) (Ev.c _ rfl) rfl) rfl ⟨rfl, trivial⟩ trivial ?_
    refine G.endOps ?_
    exact G.arr (J13 false hF) ⟨rfl, rfl, rfl, rfl, trivial⟩ trivial rfl


set_option maxRecDepth 20000 in
set_option maxHeartbeats 2000000 in
theorem ct_law19_few (l_0 : (List Api_Version)) (r : (List Api_Version)) (hF : law19_few l_0 = some r) : Ct Try.prog 10 [.g (.d (.sl 6 (List.map encApi_Version l_0)))] (.one (.d (.sl 6 (List.map encApi_Version r)))) := by
  unfold law19_few at hF
  refine Ct.intro Try.func10 rfl Try.ntmps10 rfl rfl fun M w => ?_
  refine G.seq ?_
  refine G.region ?_
  refine G.op1 (op_assign (Ev.n 6) rfl) rfl trivial trivial ?_
  refine G.endOps ?_
  refine G.seq ?_
  refine G.region ?_
  refine G.op2 (op_assignRow (E := 42) (size := 6) (k := 2003) (ex := false) rfl rfl) rfl trivial ⟨rfl, trivial⟩ ?_
  refine G.endOps ?_
  refine G.seq ?_
  refine G.seq ?_
  refine G.region ?_
  refine G.op1 (op_assign (Ev.c _ rfl) rfl) rfl trivial trivial ?_
  refine G.endOps ?_
  refine G.joinC (T := (List Api_Version)) (fun y1 => ⟨[(3, .one (.own 2003 (List.map encApi_Version y1)))], [(2003, some (.row 42 6 (List.map encApi_Version y1) false))]⟩) (fun y1 => law19_few_k1 y1 = some r) (fun y1 hF => ?_) (fun J2 => ?_)
  · unfold law19_few_k1 at hF
    refine G.seq ?_
    refine G.region ?_
    refine G.op1 (op_move (Ev.t 3 (.own 2003 (List.map encApi_Version y1))) rfl) rfl ⟨rfl, trivial⟩ trivial ?_
    refine G.op1 (op_assign (Ev.t 32 (.own 2003 (List.map encApi_Version y1))) rfl) rfl ⟨rfl, trivial⟩ trivial ?_
    refine G.endOps ?_
    refine G.view (t := 2) rfl rfl ?_
    cases hF
    exact G.ret1 Try.results10 (RVar.tmp 2 _) ⟨rfl, trivial⟩ trivial
  refine G.block ?_
  refine G.keep (sl' := [(0, .one (.g (.d (.sl 6 (List.map encApi_Version l_0))))), (3, .one (.own 2003 (List.map encApi_Version ([] : (List Api_Version))))), (4, .one (bI .i64 0))]) (hp' := [(2003, some (.row 42 6 (List.map encApi_Version ([] : (List Api_Version))) false))]) ⟨rfl, rfl, rfl, trivial⟩ ⟨rfl, trivial⟩ rfl ?_
  refine G.loopF (fun (v3 : Int × (List Api_Version)) => ⟨[(0, .one (.g (.d (.sl 6 (List.map encApi_Version l_0))))), (3, .one (.own 2003 (List.map encApi_Version v3.2))), (4, .one (bI .i64 v3.1))], [(2003, some (.row 42 6 (List.map encApi_Version v3.2) false))]⟩) hF rfl (fun K6 again5 v3 J4 hF => ?_)
  unfold law19_few_l2 at hF
  refine G.seq ?_
  refine G.seq ?_
  refine G.joinC (T := Bool) (fun y7 => ⟨[(0, .one (.g (.d (.sl 6 (List.map encApi_Version l_0))))), (3, .one (.own 2003 (List.map encApi_Version v3.2))), (4, .one (bI .i64 v3.1)), (13, .one (bB y7))], [(2003, some (.row 42 6 (List.map encApi_Version v3.2) false))]⟩) (fun y7 => law19_few_k3 l_0 again5 v3 y7 = some r) (fun y7 hF => ?_) (fun J13 => ?_)
  · unfold law19_few_k3 at hF
    refine ifS hF (fun hc8 hF => ?_) (fun hc8 hF => ?_)
    · refine G.cond rfl (fun _ => ?_) (fun hx => by rw [hc8] at hx; cases hx)
      refine G.skip ?_
      refine G.seq ?_
      refine G.block ?_
      refine G.seq ?_
      refine G.region ?_
      refine G.op1 (op_move (Ev.t 0 (.g (.d (.sl 6 (List.map encApi_Version l_0))))) rfl) rfl ⟨rfl, trivial⟩ trivial ?_
      refine G.op1 (op_move (Ev.t 4 (bI .i64 v3.1)) rfl) rfl ⟨rfl, trivial⟩ trivial ?_
      obtain ⟨x9, hx9, hF⟩ := bindS hF
      refine G.op1 (op_index (cs := [.v (.string x9.Key), .v (.string x9.Value), .v (.bool x9.Gone), .v (.int .i64 x9.Stamp.N), .v (.int .i64 x9.Stamp.Site), .sl 3 (List.map encApi_Dep x9.Past)]) Try.underlying22 ti42 (idx_ok hx9).1 (idx_get hx9 encApi_Version) (Ev.t 16 (.g (.d (.sl 6 (List.map encApi_Version l_0))))) (Ev.t 17 (bI .i64 v3.1)) rfl) rfl ⟨rfl, rfl, trivial⟩ trivial ?_
      refine G.op1 (op_loadAE (ds := [.v (.string x9.Key), .v (.string x9.Value), .v (.bool x9.Gone), .v (.int .i64 x9.Stamp.N), .v (.int .i64 x9.Stamp.Site), .sl 3 (List.map encApi_Dep x9.Past)]) Try.underlying42 rfl ti42 rfl (Ev.t 18 (.ep [.v (.string x9.Key), .v (.string x9.Value), .v (.bool x9.Gone), .v (.int .i64 x9.Stamp.N), .v (.int .i64 x9.Stamp.Site), .sl 3 (List.map encApi_Dep x9.Past)])) rfl) rfl ⟨rfl, trivial⟩ trivial ?_
      refine G.op2 (op_alloc (k := 1005) (cs := [bS ByteArray.empty, bS ByteArray.empty, bB false, bI .i64 0, bI .i64 0, .g (.d (.sl 3 (List.map encApi_Dep ([] : (List Api_Dep)))))]) ti42 ⟨.v _ rfl, .v _ rfl, .v _ rfl, .v _ rfl, .v _ rfl, .n 3, trivial⟩ rfl) rfl trivial ⟨rfl, trivial⟩ ?_
      refine G.op3 (op_storeA (cs' := [bS x9.Key, bS x9.Value, bB x9.Gone, bI .i64 x9.Stamp.N, bI .i64 x9.Stamp.Site, .g (.d (.sl 3 (List.map encApi_Dep x9.Past)))]) ti42 rfl rfl (Ev.t 5 (.ptr 1005 0)) (Ev.t 19 (.g (.agg [.v (.string x9.Key), .v (.string x9.Value), .v (.bool x9.Gone), .v (.int .i64 x9.Stamp.N), .v (.int .i64 x9.Stamp.Site), .sl 3 (List.map encApi_Dep x9.Past)])))) rfl ⟨rfl, rfl, trivial⟩ ⟨rfl, trivial⟩ ?_
      refine G.endOps ?_
      refine G.seq ?_
      refine G.region ?_
      refine G.op1 (op_fieldP (off' := 0) Try.underlying42 rfl ti9 (by decide) rfl (Ev.t 5 (.ptr 1005 0)) rfl) rfl ⟨rfl, trivial⟩ trivial ?_
      refine G.op1 (op_load1P (c := bS x9.Key) Try.underlying9 rfl rfl (Ev.t 20 (.ptr 1005 0)) rfl) rfl ⟨rfl, trivial⟩ ⟨rfl, trivial⟩ ?_
      obtain ⟨r10, hr10, hF⟩ := bindS hF
      refine G.op1 (op_callQ (sv := .one (bS r10)) cf30 (ct_law19_short x9.Key r10 hr10) rfl rfl (EvQL.cons (EvQ.g (Ev.t 21 (bS x9.Key))) EvQL.nil) rfl) rfl ⟨rfl, trivial⟩ trivial ?_
      refine G.op1 (op_fieldP (off' := 0) Try.underlying42 rfl ti9 (by decide) rfl (Ev.t 5 (.ptr 1005 0)) rfl) rfl ⟨rfl, trivial⟩ trivial ?_
      refine G.op3 (op_store1 (cs' := [bS r10, bS x9.Value, bB x9.Gone, bI .i64 x9.Stamp.N, bI .i64 x9.Stamp.Site, .g (.d (.sl 3 (List.map encApi_Dep x9.Past)))]) (c := bS r10) trivial ti9 rfl rfl (Ev.t 23 (.ptr 1005 0)) (Ev.t 22 (bS r10))) rfl ⟨rfl, rfl, trivial⟩ ⟨rfl, trivial⟩ ?_
      refine G.endOps ?_
      refine G.seq ?_
      refine G.region ?_
      refine G.op1 (op_fieldP (off' := 5) Try.underlying42 rfl ti24 (by decide) rfl (Ev.t 5 (.ptr 1005 0)) rfl) rfl ⟨rfl, trivial⟩ trivial ?_
      refine G.op1 (op_load1P (c := .g (.d (.sl 3 (List.map encApi_Dep x9.Past)))) Try.underlying24 rfl rfl (Ev.t 24 (.ptr 1005 5)) rfl) rfl ⟨rfl, trivial⟩ ⟨rfl, trivial⟩ ?_
      obtain ⟨r11, hr11, hF⟩ := bindS hF
      refine G.op1 (op_call (sv := .one (.g (.d (.sl 3 (List.map encApi_Dep r11))))) cf11 (ct_law19_row x9.Past r11 hr11) rfl (EvL.cons (Ev.t 25 (.g (.d (.sl 3 (List.map encApi_Dep x9.Past))))) EvL.nil) rfl) rfl ⟨rfl, trivial⟩ trivial ?_
      refine G.op1 (op_fieldP (off' := 5) Try.underlying42 rfl ti24 (by decide) rfl (Ev.t 5 (.ptr 1005 0)) rfl) rfl ⟨rfl, trivial⟩ trivial ?_
      refine G.op3 (op_store1 (cs' := [bS r10, bS x9.Value, bB x9.Gone, bI .i64 x9.Stamp.N, bI .i64 x9.Stamp.Site, .g (.d (.sl 3 (List.map encApi_Dep r11)))]) (c := .g (.d (.sl 3 (List.map encApi_Dep r11)))) trivial ti24 rfl rfl (Ev.t 27 (.ptr 1005 5)) (Ev.t 26 (.g (.d (.sl 3 (List.map encApi_Dep r11)))))) rfl ⟨rfl, rfl, trivial⟩ ⟨rfl, trivial⟩ ?_
      refine G.endOps ?_
      refine G.region ?_
      refine G.op1 (op_move (Ev.t 3 (.own 2003 (List.map encApi_Version v3.2))) rfl) rfl ⟨rfl, trivial⟩ trivial ?_
      refine G.op1 (op_loadAP (ds := [.v (.string r10), .v (.string x9.Value), .v (.bool x9.Gone), .v (.int .i64 x9.Stamp.N), .v (.int .i64 x9.Stamp.Site), .sl 3 (List.map encApi_Dep r11)]) Try.underlying42 rfl ti42 rfl (Ev.t 5 (.ptr 1005 0)) rfl) rfl ⟨rfl, trivial⟩ ⟨rfl, trivial⟩ ?_
      refine G.op1 (op_buildSlice (es := List.map encApi_Version [(Api_Version.mk r10 x9.Value x9.Gone x9.Stamp r11)]) Try.underlying22 ti42 rfl rfl (EvP.cons (Ev.t 29 (.g (.agg [.v (.string r10), .v (.string x9.Value), .v (.bool x9.Gone), .v (.int .i64 x9.Stamp.N), .v (.int .i64 x9.Stamp.Site), .sl 3 (List.map encApi_Dep r11)]))) EvP.nil) rfl rfl (by simp [encApi_Version]) rfl) rfl ⟨rfl, trivial⟩ trivial ?_
      obtain ⟨l12, hl12, hF⟩ := bindS hF
      refine G.op2 (op_appendO Try.underlying22 ti42 rfl (app_map hl12 encApi_Version) (app_b1 hl12 encApi_Version) (app_b2 hl12 encApi_Version) (Ev.t 28 (.own 2003 (List.map encApi_Version v3.2))) (Ev.t 30 (.g (.d (.sl 6 (List.map encApi_Version ([(Api_Version.mk r10 x9.Value x9.Gone x9.Stamp r11)])))))) rfl) rfl ⟨rfl, rfl, trivial⟩ ⟨rfl, trivial⟩ ?_
      refine G.op1 (op_assign (Ev.t 31 (.own 2003 (List.map encApi_Version l12))) rfl) rfl ⟨rfl, trivial⟩ trivial ?_
      refine G.endOps ?_
      refine G.endBlock ?_
      refine G.region ?_
      refine G.op1 (op_move (Ev.t 4 (bI .i64 v3.1)) rfl) rfl ⟨rfl, trivial⟩ trivial ?_
      refine G.op1 (op_add (Ev.t 14 (bI .i64 v3.1)) (Ev.c _ rfl) rfl) rfl ⟨rfl, trivial⟩ trivial ?_
      refine G.op1 (op_assign (Ev.t 15 (bI .i64 (IntKind.wrap .i64 (v3.1 + 1)))) rfl) rfl ⟨rfl, trivial⟩ trivial ?_
      refine G.endOps ?_
      exact G.arr (J4 (IntKind.wrap .i64 (v3.1 + 1), l12) hF) ⟨rfl, rfl, rfl, trivial⟩ ⟨rfl, trivial⟩ rfl
    · refine G.cond rfl (fun hx => by rw [hc8] at hx; cases hx) (fun _ => ?_)
      refine G.exit ?_
      refine GX.c ?_
      refine GX.q ?_
      refine GX.bYes ?_
      exact G.arr (J2 v3.2 hF) ⟨rfl, trivial⟩ ⟨rfl, trivial⟩ rfl
  refine G.region ?_
  refine G.op1 (op_move (Ev.t 4 (bI .i64 v3.1)) rfl) rfl ⟨rfl, trivial⟩ trivial ?_
  refine G.op1 (op_move (Ev.t 0 (.g (.d (.sl 6 (List.map encApi_Version l_0))))) rfl) rfl ⟨rfl, trivial⟩ trivial ?_
  refine G.op1 (OpL.cast (op_lenD Try.underlying22 (Ev.t 7 (.g (.d (.sl 6 (List.map encApi_Version l_0))))) rfl) (by rw [List.length_map])) rfl ⟨rfl, trivial⟩ trivial ?_
  refine G.op1 (op_lss (Ev.t 6 (bI .i64 v3.1)) (Ev.t 8 (bI .i64 (l_0.length : Int))) rfl) rfl ⟨rfl, rfl, trivial⟩ trivial ?_
  refine G.op1 (op_move (Ev.t 9 (bB (decide (v3.1 < (l_0.length : Int))))) rfl) rfl ⟨rfl, trivial⟩ trivial ?_
  refine ifS hF (fun hc14 hF => ?_) (fun hc14 hF => ?_)
  · refine G.known (t := 10) hc14 rfl ?_
    refine G.opG1 (op_move (Ev.t 4 (bI .i64 v3.1)) rfl) rfl rfl rfl ⟨rfl, trivial⟩ trivial ?_
    refine G.opG1 (op_lss (Ev.t 11 (bI .i64 v3.1)) (Ev.c _ rfl) rfl) rfl rfl rfl ⟨rfl, trivial⟩ trivial ?_
    refine G.op1 (op_pickT (Ev.t 10 (bB true)) (Ev.t 12 (bB (decide (v3.1 < 6)))) rfl) rfl ⟨rfl, rfl, trivial⟩ trivial ?_
    refine G.endOps ?_
    exact G.arr (J13 (decide (v3.1 < 6)) hF) ⟨rfl, rfl, rfl, rfl, trivial⟩ ⟨rfl, trivial⟩ rfl
  · refine G.known (t := 10) hc14 rfl ?_
    refine G.opN1 rfl rfl rfl rfl rfl ?_
    refine G.opN1 rfl rfl rfl rfl rfl ?_
    refine G.op1 (op_pickF (Ev.t 10 (bB false)) (Ev.c _ rfl) rfl) rfl ⟨rfl, trivial⟩ trivial ?_
    refine G.endOps ?_
    exact G.arr (J13 false hF) ⟨rfl, rfl, rfl, rfl, trivial⟩ ⟨rfl, trivial⟩ rfl


set_option maxRecDepth 20000 in
set_option maxHeartbeats 2000000 in
theorem ct_law19_keys (l_0 : (List ByteArray)) (r : (List ByteArray)) (hF : law19_keys l_0 = some r) : Ct Try.prog 12 [.g (.d (.sl 1 (List.map encS l_0)))] (.one (.d (.sl 1 (List.map encS r)))) := by
  unfold law19_keys at hF
  refine Ct.intro Try.func12 rfl Try.ntmps12 rfl rfl fun M w => ?_
  refine G.seq ?_
  refine G.region ?_
  refine G.op1 (op_assign (Ev.n 1) rfl) rfl trivial trivial ?_
  refine G.endOps ?_
  refine G.seq ?_
  refine G.seq ?_
  refine G.region ?_
  refine G.op1 (op_move (Ev.t 0 (.g (.d (.sl 1 (List.map encS l_0))))) rfl) rfl ⟨rfl, trivial⟩ trivial ?_
  refine G.op1 (OpL.cast (op_lenD Try.underlying23 (Ev.t 3 (.g (.d (.sl 1 (List.map encS l_0))))) rfl) (by rw [List.length_map])) rfl ⟨rfl, trivial⟩ trivial ?_
  refine G.op1 (op_gtr (Ev.t 4 (bI .i64 (l_0.length : Int))) (Ev.c _ rfl) rfl) rfl ⟨rfl, trivial⟩ trivial ?_
  refine G.endOps ?_
  refine ifS hF (fun hc1 hF => ?_) (fun hc1 hF => ?_)
  · refine G.cond rfl (fun _ => ?_) (fun hx => by rw [hc1] at hx; cases hx)
    refine G.seq ?_
    refine G.region ?_
    refine G.op1 (op_move (Ev.t 0 (.g (.d (.sl 1 (List.map encS l_0))))) rfl) rfl ⟨rfl, trivial⟩ trivial ?_
    obtain ⟨l2, hl2, hF⟩ := bindS hF
    refine G.op1 (op_sliceD (lo := none) (hi := some 6) Try.underlying23 ti9 (sub_ok hl2 encS).1 (sub_ok hl2 encS).2.1 (sub_ok hl2 encS).2.2.1 (sub_ok hl2 encS).2.2.2 (Ev.t 6 (.g (.d (.sl 1 (List.map encS l_0))))) EvO.none (EvO.some (Ev.c _ rfl)) rfl) rfl ⟨rfl, trivial⟩ trivial ?_
    refine G.op1 (op_assign (Ev.t 7 (.g (.d (.sl 1 (List.map encS l2))))) rfl) rfl ⟨rfl, trivial⟩ trivial ?_
    refine G.endOps ?_
    cases hF
    exact G.ret1 Try.results12 (RVar.tmp 2 _) ⟨rfl, trivial⟩ trivial
  · refine G.cond rfl (fun hx => by rw [hc1] at hx; cases hx) (fun _ => ?_)
    refine G.skip ?_
    refine G.seq ?_
    refine G.region ?_
    refine G.op1 (op_move (Ev.t 0 (.g (.d (.sl 1 (List.map encS l_0))))) rfl) rfl ⟨rfl, trivial⟩ trivial ?_
    refine G.op1 (op_assign (Ev.t 8 (.g (.d (.sl 1 (List.map encS l_0))))) rfl) rfl ⟨rfl, trivial⟩ trivial ?_
    refine G.endOps ?_
    cases hF
    exact G.ret1 Try.results12 (RVar.tmp 2 _) ⟨rfl, trivial⟩ trivial


set_option maxRecDepth 20000 in
set_option maxHeartbeats 2000000 in
theorem ct_ref04_Get (p_0 : (List Api_Dep)) (key_1 : ByteArray) (r : Api_Stamp) (hF : ref04_Get p_0 key_1 = some r) : Ct Try.prog 26 [.g (.d (.sl 3 (List.map encApi_Dep p_0))), .g (.d (.v (.string key_1)))] (.one (.agg (encApi_Stamp r))) := by
  unfold ref04_Get at hF
  refine Ct.intro Try.func26 rfl Try.ntmps26 rfl rfl fun M w => ?_
  refine G.seq ?_
  refine G.region ?_
  refine G.op2 (op_alloc (k := 1004) (cs := [bI .i64 0, bI .i64 0]) ti35 ⟨.v _ rfl, .v _ rfl, trivial⟩ rfl) rfl trivial ⟨rfl, trivial⟩ ?_
  refine G.endOps ?_
  refine G.seq ?_
  refine G.seq ?_
  refine G.region ?_
  refine G.op1 (op_assign (Ev.c _ rfl) rfl) rfl trivial trivial ?_
  refine G.endOps ?_
  refine G.joinC (T := Unit) (fun y1 => ⟨[(4, .one (.ptr 1004 0))], [(1004, some (.blk 35 [bI .i64 0, bI .i64 0]))]⟩) (fun y1 => ref04_Get_k1 y1 = some r) (fun y1 hF => ?_) (fun J2 => ?_)
  · unfold ref04_Get_k1 at hF
    refine G.seq ?_
    refine G.region ?_
    refine G.op1 (op_build (zs := [.v (.int .i64 0), .v (.int .i64 0)]) (ds := [.v (.int .i64 0), .v (.int .i64 0)]) Try.underlying35 ti35 (pl35 _ Try.underlying35) ⟨.v _ rfl, .v _ rfl, trivial⟩ EvP.nil rfl rfl) rfl trivial trivial ?_
    refine G.op3 (op_storeA (cs' := [bI .i64 0, bI .i64 0]) ti35 rfl rfl (Ev.t 4 (.ptr 1004 0)) (Ev.t 24 (.g (.agg [.v (.int .i64 0), .v (.int .i64 0)])))) rfl ⟨rfl, rfl, trivial⟩ ⟨rfl, trivial⟩ ?_
    refine G.endOps ?_
    cases hF
    exact G.ret1 Try.results26 (RVar.cellA (ds := [.v (.int .i64 0), .v (.int .i64 0)]) Try.underlying35 rfl ti35 rfl) ⟨rfl, trivial⟩ ⟨rfl, trivial⟩
  refine G.block ?_
  refine G.keep (sl' := [(0, .one (.g (.d (.sl 3 (List.map encApi_Dep p_0))))), (1, .one (bS key_1)), (4, .one (.ptr 1004 0)), (5, .one (bI .i64 0))]) (hp' := [(1004, some (.blk 35 [bI .i64 0, bI .i64 0]))]) ⟨rfl, rfl, rfl, rfl, trivial⟩ ⟨rfl, trivial⟩ rfl ?_
  refine G.loopF (fun (v3 : Int) => ⟨[(0, .one (.g (.d (.sl 3 (List.map encApi_Dep p_0))))), (1, .one (bS key_1)), (4, .one (.ptr 1004 0)), (5, .one (bI .i64 v3))], [(1004, some (.blk 35 [bI .i64 0, bI .i64 0]))]⟩) hF rfl (fun K6 again5 v3 J4 hF => ?_)
  unfold ref04_Get_l2 at hF
  refine G.seq ?_
  refine G.seq ?_
  refine G.region ?_
  refine G.op1 (op_move (Ev.t 5 (bI .i64 v3)) rfl) rfl ⟨rfl, trivial⟩ trivial ?_
  refine G.op1 (op_move (Ev.t 0 (.g (.d (.sl 3 (List.map encApi_Dep p_0))))) rfl) rfl ⟨rfl, trivial⟩ trivial ?_
  refine G.op1 (OpL.cast (op_lenD Try.underlying24 (Ev.t 7 (.g (.d (.sl 3 (List.map encApi_Dep p_0))))) rfl) (by rw [List.length_map])) rfl ⟨rfl, trivial⟩ trivial ?_
  refine G.op1 (op_lss (Ev.t 6 (bI .i64 v3)) (Ev.t 8 (bI .i64 (p_0.length : Int))) rfl) rfl ⟨rfl, rfl, trivial⟩ trivial ?_
  refine G.endOps ?_
  refine ifS hF (fun hc7 hF => ?_) (fun hc7 hF => ?_)
  · refine G.cond rfl (fun _ => ?_) (fun hx => by rw [hc7] at hx; cases hx)
    refine G.skip ?_
    refine G.seq ?_
    refine G.block ?_
    refine G.seq ?_
    refine G.region ?_
    refine G.op1 (op_move (Ev.t 0 (.g (.d (.sl 3 (List.map encApi_Dep p_0))))) rfl) rfl ⟨rfl, trivial⟩ trivial ?_
    refine G.op1 (op_move (Ev.t 5 (bI .i64 v3)) rfl) rfl ⟨rfl, trivial⟩ trivial ?_
    obtain ⟨x8, hx8, hF⟩ := bindS hF
    refine G.op1 (op_index (cs := [.v (.string x8.Key), .v (.int .i64 x8.Stamp.N), .v (.int .i64 x8.Stamp.Site)]) Try.underlying24 ti47 (idx_ok hx8).1 (idx_get hx8 encApi_Dep) (Ev.t 12 (.g (.d (.sl 3 (List.map encApi_Dep p_0))))) (Ev.t 13 (bI .i64 v3)) rfl) rfl ⟨rfl, rfl, trivial⟩ trivial ?_
    refine G.op1 (op_fieldE (cs' := [.v (.string x8.Key), .v (.int .i64 x8.Stamp.N), .v (.int .i64 x8.Stamp.Site)]) Try.underlying47 rfl ti9 (by decide) rfl (Ev.t 14 (.ep [.v (.string x8.Key), .v (.int .i64 x8.Stamp.N), .v (.int .i64 x8.Stamp.Site)])) rfl) rfl ⟨rfl, trivial⟩ trivial ?_
    refine G.op1 (op_load1E (c := .v (.string x8.Key)) Try.underlying9 rfl rfl (Ev.t 15 (.ep [.v (.string x8.Key), .v (.int .i64 x8.Stamp.N), .v (.int .i64 x8.Stamp.Site)])) rfl) rfl ⟨rfl, trivial⟩ trivial ?_
    refine G.op1 (op_move (Ev.t 1 (bS key_1)) rfl) rfl ⟨rfl, trivial⟩ trivial ?_
    refine G.op1 (op_eqS (Ev.t 16 (bS x8.Key)) (Ev.t 17 (bS key_1)) rfl) rfl ⟨rfl, rfl, trivial⟩ trivial ?_
    refine G.endOps ?_
    refine ifS hF (fun hc9 hF => ?_) (fun hc9 hF => ?_)
    · refine G.cond rfl (fun _ => ?_) (fun hx => by rw [hc9] at hx; cases hx)
      refine G.seq ?_
      refine G.region ?_
      refine G.op1 (op_move (Ev.t 0 (.g (.d (.sl 3 (List.map encApi_Dep p_0))))) rfl) rfl ⟨rfl, trivial⟩ trivial ?_
      refine G.op1 (op_move (Ev.t 5 (bI .i64 v3)) rfl) rfl ⟨rfl, trivial⟩ trivial ?_
      obtain ⟨x10, hx10, hF⟩ := bindS hF
      refine G.op1 (op_index (cs := [.v (.string x10.Key), .v (.int .i64 x10.Stamp.N), .v (.int .i64 x10.Stamp.Site)]) Try.underlying24 ti47 (idx_ok hx10).1 (idx_get hx10 encApi_Dep) (Ev.t 19 (.g (.d (.sl 3 (List.map encApi_Dep p_0))))) (Ev.t 20 (bI .i64 v3)) rfl) rfl ⟨rfl, rfl, trivial⟩ trivial ?_
      refine G.op1 (op_fieldE (cs' := [.v (.int .i64 x10.Stamp.N), .v (.int .i64 x10.Stamp.Site)]) Try.underlying47 rfl ti35 (by decide) rfl (Ev.t 21 (.ep [.v (.string x10.Key), .v (.int .i64 x10.Stamp.N), .v (.int .i64 x10.Stamp.Site)])) rfl) rfl ⟨rfl, trivial⟩ trivial ?_
      refine G.op1 (op_loadAE (ds := [.v (.int .i64 x10.Stamp.N), .v (.int .i64 x10.Stamp.Site)]) Try.underlying35 rfl ti35 rfl (Ev.t 22 (.ep [.v (.int .i64 x10.Stamp.N), .v (.int .i64 x10.Stamp.Site)])) rfl) rfl ⟨rfl, trivial⟩ trivial ?_
      refine G.op3 (op_storeA (cs' := [bI .i64 x10.Stamp.N, bI .i64 x10.Stamp.Site]) ti35 rfl rfl (Ev.t 4 (.ptr 1004 0)) (Ev.t 23 (.g (.agg [.v (.int .i64 x10.Stamp.N), .v (.int .i64 x10.Stamp.Site)])))) rfl ⟨rfl, rfl, trivial⟩ ⟨rfl, trivial⟩ ?_
      refine G.endOps ?_
      cases hF
      exact G.ret1 Try.results26 (RVar.cellA (ds := [.v (.int .i64 x10.Stamp.N), .v (.int .i64 x10.Stamp.Site)]) Try.underlying35 rfl ti35 rfl) ⟨rfl, trivial⟩ ⟨rfl, trivial⟩
    · refine G.cond rfl (fun hx => by rw [hc9] at hx; cases hx) (fun _ => ?_)
      refine G.skip ?_
      refine G.endBlock ?_
      refine G.region ?_
      refine G.op1 (op_move (Ev.t 5 (bI .i64 v3)) rfl) rfl ⟨rfl, trivial⟩ trivial ?_
      refine G.op1 (op_add (Ev.t 10 (bI .i64 v3)) (Ev.c _ rfl) rfl) rfl ⟨rfl, trivial⟩ trivial ?_
      refine G.op1 (op_assign (Ev.t 11 (bI .i64 (IntKind.wrap .i64 (v3 + 1)))) rfl) rfl ⟨rfl, trivial⟩ trivial ?_
      refine G.endOps ?_
      exact G.arr (J4 (IntKind.wrap .i64 (v3 + 1)) hF) ⟨rfl, rfl, rfl, rfl, trivial⟩ ⟨rfl, trivial⟩ rfl
  · refine G.cond rfl (fun hx => by rw [hc7] at hx; cases hx) (fun _ => ?_)
    refine G.exit ?_
    refine GX.c ?_
    refine GX.q ?_
    refine GX.bYes ?_
    exact G.arr (J2 () hF) ⟨rfl, trivial⟩ ⟨rfl, trivial⟩ rfl


set_option maxRecDepth 20000 in
set_option maxHeartbeats 2000000 in
theorem ct_ref04_Covers (p_0 : (List Api_Dep)) (q_1 : (List Api_Dep)) (r : Bool) (hF : ref04_Covers p_0 q_1 = some r) : Ct Try.prog 27 [.g (.d (.sl 3 (List.map encApi_Dep p_0))), .g (.d (.sl 3 (List.map encApi_Dep q_1)))] (.one (.d (.v (.bool r)))) := by
  unfold ref04_Covers at hF
  refine Ct.intro Try.func27 rfl Try.ntmps27 rfl rfl fun M w => ?_
  refine G.seq ?_
  refine G.region ?_
  refine G.op1 (op_assign (Ev.c _ rfl) rfl) rfl trivial trivial ?_
  refine G.endOps ?_
  refine G.seq ?_
  refine G.seq ?_
  refine G.region ?_
  refine G.op1 (op_assign (Ev.c _ rfl) rfl) rfl trivial trivial ?_
  refine G.endOps ?_
  refine G.joinC (T := Unit) (fun y1 => ⟨[], []⟩) (fun y1 => ref04_Covers_k1 y1 = some r) (fun y1 hF => ?_) (fun J2 => ?_)
  · unfold ref04_Covers_k1 at hF
    refine G.seq ?_
    refine G.region ?_
    refine G.op1 (op_assign (Ev.c _ rfl) rfl) rfl trivial trivial ?_
    refine G.endOps ?_
    cases hF
    exact G.ret1 Try.results27 (RVar.tmp 4 _) ⟨rfl, trivial⟩ trivial
  refine G.block ?_
  refine G.keep (sl' := [(0, .one (.g (.d (.sl 3 (List.map encApi_Dep p_0))))), (1, .one (.g (.d (.sl 3 (List.map encApi_Dep q_1))))), (5, .one (bI .i64 0))]) (hp' := []) ⟨rfl, rfl, rfl, trivial⟩ trivial rfl ?_
  refine G.loopF (fun (v3 : Int) => ⟨[(0, .one (.g (.d (.sl 3 (List.map encApi_Dep p_0))))), (1, .one (.g (.d (.sl 3 (List.map encApi_Dep q_1))))), (5, .one (bI .i64 v3))], []⟩) hF rfl (fun K6 again5 v3 J4 hF => ?_)
  unfold ref04_Covers_l2 at hF
  refine G.seq ?_
  refine G.seq ?_
  refine G.region ?_
  refine G.op1 (op_move (Ev.t 5 (bI .i64 v3)) rfl) rfl ⟨rfl, trivial⟩ trivial ?_
  refine G.op1 (op_move (Ev.t 1 (.g (.d (.sl 3 (List.map encApi_Dep q_1))))) rfl) rfl ⟨rfl, trivial⟩ trivial ?_
  refine G.op1 (OpL.cast (op_lenD Try.underlying24 (Ev.t 8 (.g (.d (.sl 3 (List.map encApi_Dep q_1))))) rfl) (by rw [List.length_map])) rfl ⟨rfl, trivial⟩ trivial ?_
  refine G.op1 (op_lss (Ev.t 7 (bI .i64 v3)) (Ev.t 9 (bI .i64 (q_1.length : Int))) rfl) rfl ⟨rfl, rfl, trivial⟩ trivial ?_
  refine G.endOps ?_
  refine ifS hF (fun hc7 hF => ?_) (fun hc7 hF => ?_)
  · refine G.cond rfl (fun _ => ?_) (fun hx => by rw [hc7] at hx; cases hx)
    refine G.skip ?_
    refine G.seq ?_
    refine G.block ?_
    refine G.seq ?_
    refine G.region ?_
    refine G.op1 (op_move (Ev.t 0 (.g (.d (.sl 3 (List.map encApi_Dep p_0))))) rfl) rfl ⟨rfl, trivial⟩ trivial ?_
    refine G.op1 (op_move (Ev.t 1 (.g (.d (.sl 3 (List.map encApi_Dep q_1))))) rfl) rfl ⟨rfl, trivial⟩ trivial ?_
    refine G.op1 (op_move (Ev.t 5 (bI .i64 v3)) rfl) rfl ⟨rfl, trivial⟩ trivial ?_
    obtain ⟨x8, hx8, hF⟩ := bindS hF
    refine G.op1 (op_index (cs := [.v (.string x8.Key), .v (.int .i64 x8.Stamp.N), .v (.int .i64 x8.Stamp.Site)]) Try.underlying24 ti47 (idx_ok hx8).1 (idx_get hx8 encApi_Dep) (Ev.t 14 (.g (.d (.sl 3 (List.map encApi_Dep q_1))))) (Ev.t 15 (bI .i64 v3)) rfl) rfl ⟨rfl, rfl, trivial⟩ trivial ?_
    refine G.op1 (op_fieldE (cs' := [.v (.string x8.Key), .v (.int .i64 x8.Stamp.N), .v (.int .i64 x8.Stamp.Site)]) Try.underlying47 rfl ti9 (by decide) rfl (Ev.t 16 (.ep [.v (.string x8.Key), .v (.int .i64 x8.Stamp.N), .v (.int .i64 x8.Stamp.Site)])) rfl) rfl ⟨rfl, trivial⟩ trivial ?_
    refine G.op1 (op_load1E (c := .v (.string x8.Key)) Try.underlying9 rfl rfl (Ev.t 17 (.ep [.v (.string x8.Key), .v (.int .i64 x8.Stamp.N), .v (.int .i64 x8.Stamp.Site)])) rfl) rfl ⟨rfl, trivial⟩ trivial ?_
    obtain ⟨r9, hr9, hF⟩ := bindS hF
    refine G.op1 (op_callQ (sv := .one (.g (.agg [.v (.int .i64 r9.N), .v (.int .i64 r9.Site)]))) cf26 (ct_ref04_Get p_0 x8.Key r9 hr9) rfl rfl (EvQL.cons (EvQ.g (Ev.t 13 (.g (.d (.sl 3 (List.map encApi_Dep p_0)))))) (EvQL.cons (EvQ.g (Ev.t 18 (bS x8.Key))) EvQL.nil)) rfl) rfl ⟨rfl, rfl, trivial⟩ trivial ?_
    refine G.op2 (op_alloc (k := 1006) (cs := [bI .i64 0, bI .i64 0]) ti35 ⟨.v _ rfl, .v _ rfl, trivial⟩ rfl) rfl trivial ⟨rfl, trivial⟩ ?_
    refine G.op3 (op_storeA (cs' := [bI .i64 r9.N, bI .i64 r9.Site]) ti35 rfl rfl (Ev.t 6 (.ptr 1006 0)) (Ev.t 19 (.g (.agg [.v (.int .i64 r9.N), .v (.int .i64 r9.Site)])))) rfl ⟨rfl, rfl, trivial⟩ ⟨rfl, trivial⟩ ?_
    refine G.endOps ?_
    refine G.seq ?_
    obtain ⟨x10, hx10, hF⟩ := bindS hF
    obtain ⟨r11, hr11, hF⟩ := bindS hF
    refine G.drawn (effs := [⟨[(6, .one (.ptr 1006 0))], [(1006, some (.blk 35 [bI .i64 r9.N, bI .i64 r9.Site]))], [(20, .one (.g (.agg [.v (.int .i64 r9.N), .v (.int .i64 r9.Site)])))], []⟩, ⟨[(1, .one (.g (.d (.sl 3 (List.map encApi_Dep q_1)))))], [], [(21, .one (.g (.d (.sl 3 (List.map encApi_Dep q_1)))))], []⟩, ⟨[(5, .one (bI .i64 v3))], [], [(22, .one (bI .i64 v3))], []⟩, ⟨[(21, .one (.g (.d (.sl 3 (List.map encApi_Dep q_1))))), (22, .one (bI .i64 v3))], [], [(23, .one (.ep [.v (.string x10.Key), .v (.int .i64 x10.Stamp.N), .v (.int .i64 x10.Stamp.Site)]))], []⟩, ⟨[(23, .one (.ep [.v (.string x10.Key), .v (.int .i64 x10.Stamp.N), .v (.int .i64 x10.Stamp.Site)]))], [], [(24, .one (.ep [.v (.int .i64 x10.Stamp.N), .v (.int .i64 x10.Stamp.Site)]))], []⟩, ⟨[(24, .one (.ep [.v (.int .i64 x10.Stamp.N), .v (.int .i64 x10.Stamp.Site)]))], [], [(25, .one (.g (.agg [.v (.int .i64 x10.Stamp.N), .v (.int .i64 x10.Stamp.Site)])))], []⟩, ⟨[(20, .one (.g (.agg [.v (.int .i64 r9.N), .v (.int .i64 r9.Site)]))), (25, .one (.g (.agg [.v (.int .i64 x10.Stamp.N), .v (.int .i64 x10.Stamp.Site)])))], [], [(26, .one (bB r11))], []⟩]) (deps := [[], [], [], [1, 2], [1, 2, 3], [1, 2, 3, 4], [0, 1, 2, 3, 4, 5]]) (sl' := [(0, .one (.g (.d (.sl 3 (List.map encApi_Dep p_0))))), (1, .one (.g (.d (.sl 3 (List.map encApi_Dep q_1))))), (5, .one (bI .i64 v3)), (26, .one (bB r11))]) (hp' := []) follows rfl rfl rfl ⟨⟨rfl, trivial⟩, ⟨⟨rfl, rfl⟩, trivial⟩, ⟨rfl, trivial⟩, trivial, ⟨rfl, trivial⟩, trivial, ⟨rfl, rfl, trivial⟩, trivial, ⟨rfl, trivial⟩, trivial, ⟨rfl, trivial⟩, trivial, ⟨rfl, rfl, trivial⟩, trivial, trivial⟩ ⟨OpW.plain (op_loadAP (ds := [.v (.int .i64 r9.N), .v (.int .i64 r9.Site)]) Try.underlying35 rfl ti35 rfl (Ev.t 6 (.ptr 1006 0)) rfl) rfl rfl, OpW.plain (op_move (Ev.t 1 (.g (.d (.sl 3 (List.map encApi_Dep q_1))))) rfl) rfl rfl, OpW.plain (op_move (Ev.t 5 (bI .i64 v3)) rfl) rfl rfl, OpW.plain (op_index (cs := [.v (.string x10.Key), .v (.int .i64 x10.Stamp.N), .v (.int .i64 x10.Stamp.Site)]) Try.underlying24 ti47 (idx_ok hx10).1 (idx_get hx10 encApi_Dep) (Ev.t 21 (.g (.d (.sl 3 (List.map encApi_Dep q_1))))) (Ev.t 22 (bI .i64 v3)) rfl) rfl rfl, OpW.plain (op_fieldE (cs' := [.v (.int .i64 x10.Stamp.N), .v (.int .i64 x10.Stamp.Site)]) Try.underlying47 rfl ti35 (by decide) rfl (Ev.t 23 (.ep [.v (.string x10.Key), .v (.int .i64 x10.Stamp.N), .v (.int .i64 x10.Stamp.Site)])) rfl) rfl rfl, OpW.plain (op_loadAE (ds := [.v (.int .i64 x10.Stamp.N), .v (.int .i64 x10.Stamp.Site)]) Try.underlying35 rfl ti35 rfl (Ev.t 24 (.ep [.v (.int .i64 x10.Stamp.N), .v (.int .i64 x10.Stamp.Site)])) rfl) rfl rfl, OpW.plain (op_callQ (sv := .one (bB r11)) cf25 (ct_ref03_Less r9 x10.Stamp r11 hr11) rfl rfl (EvQL.cons (EvQ.g (Ev.t 20 (.g (.agg [.v (.int .i64 r9.N), .v (.int .i64 r9.Site)])))) (EvQL.cons (EvQ.g (Ev.t 25 (.g (.agg [.v (.int .i64 x10.Stamp.N), .v (.int .i64 x10.Stamp.Site)])))) EvQL.nil)) rfl) rfl rfl, trivial⟩ ⟨rfl, rfl, rfl, rfl, trivial⟩ trivial rfl ?_
    refine ifS hF (fun hc12 hF => ?_) (fun hc12 hF => ?_)
    · refine G.cond rfl (fun _ => ?_) (fun hx => by rw [hc12] at hx; cases hx)
      refine G.seq ?_
      refine G.region ?_
      refine G.op1 (op_assign (Ev.c _ rfl) rfl) rfl trivial trivial ?_
      refine G.endOps ?_
      cases hF
      exact G.ret1 Try.results27 (RVar.tmp 4 _) ⟨rfl, trivial⟩ trivial
    · refine G.cond rfl (fun hx => by rw [hc12] at hx; cases hx) (fun _ => ?_)
      refine G.skip ?_
      refine G.endBlock ?_
      refine G.region ?_
      refine G.op1 (op_move (Ev.t 5 (bI .i64 v3)) rfl) rfl ⟨rfl, trivial⟩ trivial ?_
      refine G.op1 (op_add (Ev.t 11 (bI .i64 v3)) (Ev.c _ rfl) rfl) rfl ⟨rfl, trivial⟩ trivial ?_
      refine G.op1 (op_assign (Ev.t 12 (bI .i64 (IntKind.wrap .i64 (v3 + 1)))) rfl) rfl ⟨rfl, trivial⟩ trivial ?_
      refine G.endOps ?_
      exact G.arr (J4 (IntKind.wrap .i64 (v3 + 1)) hF) ⟨rfl, rfl, rfl, trivial⟩ trivial rfl
  · refine G.cond rfl (fun hx => by rw [hc7] at hx; cases hx) (fun _ => ?_)
    refine G.exit ?_
    refine GX.c ?_
    refine GX.q ?_
    refine GX.bYes ?_
    exact G.arr (J2 () hF) trivial trivial rfl


set_option maxRecDepth 20000 in
set_option maxHeartbeats 2000000 in
theorem ct_law19_CutFewer (l_0 : (List Api_Version)) (k_1 : (List ByteArray)) (seen_2 : (List Api_Dep)) (r : Bool) (hF : law19_CutFewer l_0 k_1 seen_2 = some r) : Ct Try.prog 5 [.g (.d (.sl 6 (List.map encApi_Version l_0))), .g (.d (.sl 1 (List.map encS k_1))), .g (.d (.sl 3 (List.map encApi_Dep seen_2)))] (.one (.d (.v (.bool r)))) := by
  unfold law19_CutFewer at hF
  refine Ct.intro Try.func5 rfl Try.ntmps5 rfl rfl fun M w => ?_
  refine G.seq ?_
  refine G.region ?_
  refine G.op1 (op_assign (Ev.c _ rfl) rfl) rfl trivial trivial ?_
  refine G.endOps ?_
  refine G.seq ?_
  refine G.region ?_
  obtain ⟨r1, hr1, hF⟩ := bindS hF
  refine G.op1 (op_callQ (sv := .one (bB r1)) cf9 (ct_law19_awake r1 hr1) rfl rfl EvQL.nil rfl) rfl trivial trivial ?_
  refine G.op1 (op_assign (Ev.t 19 (bB r1)) rfl) rfl ⟨rfl, trivial⟩ trivial ?_
  refine G.endOps ?_
  refine G.seq ?_
  refine G.region ?_
  refine G.op1 (op_move (Ev.t 0 (.g (.d (.sl 6 (List.map encApi_Version l_0))))) rfl) rfl ⟨rfl, trivial⟩ trivial ?_
  obtain ⟨r2, hr2, hF⟩ := bindS hF
  refine G.op1 (op_call (sv := .one (.g (.d (.sl 6 (List.map encApi_Version r2))))) cf10 (ct_law19_few l_0 r2 hr2) rfl (EvL.cons (Ev.t 20 (.g (.d (.sl 6 (List.map encApi_Version l_0))))) EvL.nil) rfl) rfl ⟨rfl, trivial⟩ trivial ?_
  refine G.op1 (op_assign (Ev.t 21 (.g (.d (.sl 6 (List.map encApi_Version r2))))) rfl) rfl ⟨rfl, trivial⟩ trivial ?_
  refine G.endOps ?_
  refine G.seq ?_
  refine G.region ?_
  refine G.op1 (op_move (Ev.t 2 (.g (.d (.sl 3 (List.map encApi_Dep seen_2))))) rfl) rfl ⟨rfl, trivial⟩ trivial ?_
  obtain ⟨r3, hr3, hF⟩ := bindS hF
  refine G.op1 (op_call (sv := .one (.g (.d (.sl 3 (List.map encApi_Dep r3))))) cf11 (ct_law19_row seen_2 r3 hr3) rfl (EvL.cons (Ev.t 22 (.g (.d (.sl 3 (List.map encApi_Dep seen_2))))) EvL.nil) rfl) rfl ⟨rfl, trivial⟩ trivial ?_
  refine G.op1 (op_assign (Ev.t 23 (.g (.d (.sl 3 (List.map encApi_Dep r3))))) rfl) rfl ⟨rfl, trivial⟩ trivial ?_
  refine G.endOps ?_
  refine G.seq ?_
  refine G.region ?_
  refine G.op1 (op_move (Ev.t 1 (.g (.d (.sl 1 (List.map encS k_1))))) rfl) rfl ⟨rfl, trivial⟩ trivial ?_
  obtain ⟨r4, hr4, hF⟩ := bindS hF
  refine G.op1 (op_call (sv := .one (.g (.d (.sl 1 (List.map encS r4))))) cf12 (ct_law19_keys k_1 r4 hr4) rfl (EvL.cons (Ev.t 24 (.g (.d (.sl 1 (List.map encS k_1))))) EvL.nil) rfl) rfl ⟨rfl, trivial⟩ trivial ?_
  refine G.op1 (op_assign (Ev.t 25 (.g (.d (.sl 1 (List.map encS r4))))) rfl) rfl ⟨rfl, trivial⟩ trivial ?_
  refine G.endOps ?_
  refine G.seq ?_
  refine G.seq ?_
  refine G.region ?_
  refine G.op1 (op_move (Ev.t 1 (.g (.d (.sl 1 (List.map encS r4))))) rfl) rfl ⟨rfl, trivial⟩ trivial ?_
  refine G.op1 (op_move (Ev.t 8 (.g (.d (.sl 6 (List.map encApi_Version r2))))) rfl) rfl ⟨rfl, trivial⟩ trivial ?_
  refine G.op1 (op_move (Ev.t 9 (.g (.d (.sl 3 (List.map encApi_Dep r3))))) rfl) rfl ⟨rfl, trivial⟩ trivial ?_
  obtain ⟨r5, hr5, hF⟩ := bindS hF
  refine G.op1 (op_callQ (sv := .one (bB r5)) cf23 (ct_cut_Check r4 r2 r3 r5 hr5) rfl rfl (EvQL.cons (EvQ.g (Ev.t 26 (.g (.d (.sl 1 (List.map encS r4)))))) (EvQL.cons (EvQ.g (Ev.t 27 (.g (.d (.sl 6 (List.map encApi_Version r2)))))) (EvQL.cons (EvQ.g (Ev.t 28 (.g (.d (.sl 3 (List.map encApi_Dep r3)))))) EvQL.nil))) rfl) rfl ⟨rfl, rfl, rfl, trivial⟩ trivial ?_
  refine G.endOps ?_
  refine G.joinC (T := Unit) (fun y6 => ⟨[(7, .one (bB r1)), (8, .one (.g (.d (.sl 6 (List.map encApi_Version r2))))), (9, .one (.g (.d (.sl 3 (List.map encApi_Dep r3)))))], []⟩) (fun y6 => law19_CutFewer_k1 r1 r2 r3 y6 = some r) (fun y6 hF => ?_) (fun J35 => ?_)
  · unfold law19_CutFewer_k1 at hF
    refine G.seq ?_
    refine G.region ?_
    refine G.op1 (op_move (Ev.t 9 (.g (.d (.sl 3 (List.map encApi_Dep r3))))) rfl) rfl ⟨rfl, trivial⟩ trivial ?_
    refine G.op1 (op_move (Ev.t 8 (.g (.d (.sl 6 (List.map encApi_Version r2))))) rfl) rfl ⟨rfl, trivial⟩ trivial ?_
    obtain ⟨r7, hr7, hF⟩ := bindS hF
    refine G.op1 (op_call (sv := .one (.g (.d (.sl 3 (List.map encApi_Dep r7))))) cf19 (ct_cut_After r3 r2 r7 hr7) rfl (EvL.cons (Ev.t 56 (.g (.d (.sl 3 (List.map encApi_Dep r3))))) (EvL.cons (Ev.t 57 (.g (.d (.sl 6 (List.map encApi_Version r2))))) EvL.nil)) rfl) rfl ⟨rfl, rfl, trivial⟩ trivial ?_
    refine G.op1 (op_assign (Ev.t 58 (.g (.d (.sl 3 (List.map encApi_Dep r7))))) rfl) rfl ⟨rfl, trivial⟩ trivial ?_
    refine G.endOps ?_
    refine G.seq ?_
    refine G.region ?_
    refine G.op1 (op_move (Ev.t 12 (.g (.d (.sl 3 (List.map encApi_Dep r7))))) rfl) rfl ⟨rfl, trivial⟩ trivial ?_
    refine G.op1 (op_move (Ev.t 9 (.g (.d (.sl 3 (List.map encApi_Dep r3))))) rfl) rfl ⟨rfl, trivial⟩ trivial ?_
    obtain ⟨r8, hr8, hF⟩ := bindS hF
    refine G.op1 (op_callQ (sv := .one (bB r8)) cf27 (ct_ref04_Covers r7 r3 r8 hr8) rfl rfl (EvQL.cons (EvQ.g (Ev.t 59 (.g (.d (.sl 3 (List.map encApi_Dep r7)))))) (EvQL.cons (EvQ.g (Ev.t 60 (.g (.d (.sl 3 (List.map encApi_Dep r3)))))) EvQL.nil)) rfl) rfl ⟨rfl, rfl, trivial⟩ trivial ?_
    refine G.op1 (op_assign (Ev.t 61 (bB r8)) rfl) rfl ⟨rfl, trivial⟩ trivial ?_
    refine G.endOps ?_
    refine G.seq ?_
    refine G.seq ?_
    refine G.region ?_
    refine G.op1 (op_assign (Ev.c _ rfl) rfl) rfl trivial trivial ?_
    refine G.endOps ?_
    refine G.joinC (T := Unit) (fun y9 => ⟨[(7, .one (bB r1)), (8, .one (.g (.d (.sl 6 (List.map encApi_Version r2))))), (9, .one (.g (.d (.sl 3 (List.map encApi_Dep r3))))), (13, .one (bB r8))], []⟩) (fun y9 => law19_CutFewer_k2 r1 r2 r3 r8 y9 = some r) (fun y9 hF => ?_) (fun J15 => ?_)
    · unfold law19_CutFewer_k2 at hF
      refine G.seq ?_
      refine G.region ?_
      refine G.op1 (op_move (Ev.t 7 (bB r1)) rfl) rfl ⟨rfl, trivial⟩ trivial ?_
      refine G.op1 (op_move (Ev.t 111 (bB r1)) rfl) rfl ⟨rfl, trivial⟩ trivial ?_
      refine G.joinL (T := Bool) 2 (fun y10 => ⟨[(8, .one (.g (.d (.sl 6 (List.map encApi_Version r2))))), (9, .one (.g (.d (.sl 3 (List.map encApi_Dep r3))))), (114, .one (bB y10))], []⟩) (fun y10 => law19_CutFewer_k3 r2 r3 y10 = some r) (fun y10 hF => ?_) (fun J13 => ?_)
      · unfold law19_CutFewer_k3 at hF
        refine G.op1 (op_move (Ev.t 114 (bB y10)) rfl) rfl ⟨rfl, trivial⟩ trivial ?_
        refine ifS hF (fun hc11 hF => ?_) (fun hc11 hF => ?_)
        · refine G.known (t := 115) hc11 rfl ?_
          refine G.opG1 (op_move (Ev.t 8 (.g (.d (.sl 6 (List.map encApi_Version r2))))) rfl) rfl rfl rfl ⟨rfl, trivial⟩ trivial ?_
          refine G.opG1 (op_move (Ev.t 9 (.g (.d (.sl 3 (List.map encApi_Dep r3))))) rfl) rfl rfl rfl ⟨rfl, trivial⟩ trivial ?_
          obtain ⟨r12, hr12, hF⟩ := bindS hF
          refine G.opG1 (op_callQ (sv := .one (bB r12)) cf23 (ct_cut_Check ([] : (List ByteArray)) r2 r3 r12 hr12) rfl rfl (EvQL.cons (EvQ.g (Ev.n 1)) (EvQL.cons (EvQ.g (Ev.t 116 (.g (.d (.sl 6 (List.map encApi_Version r2)))))) (EvQL.cons (EvQ.g (Ev.t 117 (.g (.d (.sl 3 (List.map encApi_Dep r3)))))) EvQL.nil))) rfl) rfl rfl rfl ⟨rfl, rfl, trivial⟩ trivial ?_
          refine G.op1 (op_pickT (Ev.t 115 (bB true)) (Ev.t 118 (bB r12)) rfl) rfl ⟨rfl, rfl, trivial⟩ trivial ?_
          refine G.op1 (op_assign (Ev.t 119 (bB r12)) rfl) rfl ⟨rfl, trivial⟩ trivial ?_
          refine G.endOps ?_
          cases hF
          exact G.ret1 Try.results5 (RVar.tmp 6 _) ⟨rfl, trivial⟩ trivial
        · refine G.known (t := 115) hc11 rfl ?_
          refine G.opN1 rfl rfl rfl rfl rfl ?_
          refine G.opN1 rfl rfl rfl rfl rfl ?_
          refine G.opN1 rfl rfl rfl rfl rfl ?_
          refine G.op1 (op_pickF (Ev.t 115 (bB false)) (Ev.c _ rfl) rfl) rfl ⟨rfl, trivial⟩ trivial ?_
          refine G.op1 (op_assign (Ev.t 119 (bB false)) rfl) rfl ⟨rfl, trivial⟩ trivial ?_
          refine G.endOps ?_
          cases hF
          exact G.ret1 Try.results5 (RVar.tmp 6 _) ⟨rfl, trivial⟩ trivial
      refine ifS hF (fun hc14 hF => ?_) (fun hc14 hF => ?_)
      · refine G.known (t := 112) hc14 rfl ?_
        refine G.opG1 (op_move (Ev.t 13 (bB r8)) rfl) rfl rfl rfl ⟨rfl, trivial⟩ trivial ?_
        refine G.op1 (op_pickT (Ev.t 112 (bB true)) (Ev.t 113 (bB r8)) rfl) rfl ⟨rfl, rfl, trivial⟩ trivial ?_
        exact G.arr (J13 r8 hF) ⟨rfl, rfl, rfl, trivial⟩ trivial rfl
      · refine G.known (t := 112) hc14 rfl ?_
        refine G.opN1 rfl rfl rfl rfl rfl ?_
        refine G.op1 (op_pickF (Ev.t 112 (bB false)) (Ev.c _ rfl) rfl) rfl ⟨rfl, trivial⟩ trivial ?_
        exact G.arr (J13 false hF) ⟨rfl, rfl, rfl, trivial⟩ trivial rfl
    refine G.block ?_
    refine G.keep (sl' := [(7, .one (bB r1)), (8, .one (.g (.d (.sl 6 (List.map encApi_Version r2))))), (9, .one (.g (.d (.sl 3 (List.map encApi_Dep r3))))), (12, .one (.g (.d (.sl 3 (List.map encApi_Dep r7))))), (13, .one (bB r8)), (14, .one (bI .i64 0))]) (hp' := []) ⟨rfl, rfl, rfl, rfl, rfl, rfl, trivial⟩ trivial rfl ?_
    refine G.loopF (fun (v16 : Int) => ⟨[(7, .one (bB r1)), (8, .one (.g (.d (.sl 6 (List.map encApi_Version r2))))), (9, .one (.g (.d (.sl 3 (List.map encApi_Dep r3))))), (12, .one (.g (.d (.sl 3 (List.map encApi_Dep r7))))), (13, .one (bB r8)), (14, .one (bI .i64 v16))], []⟩) hF rfl (fun K19 again18 v16 J17 hF => ?_)
    unfold law19_CutFewer_l4 at hF
    refine G.seq ?_
    refine G.seq ?_
    refine G.region ?_
    refine G.op1 (op_move (Ev.t 14 (bI .i64 v16)) rfl) rfl ⟨rfl, trivial⟩ trivial ?_
    refine G.op1 (op_move (Ev.t 8 (.g (.d (.sl 6 (List.map encApi_Version r2))))) rfl) rfl ⟨rfl, trivial⟩ trivial ?_
    refine G.op1 (OpL.cast (op_lenD Try.underlying22 (Ev.t 63 (.g (.d (.sl 6 (List.map encApi_Version r2))))) rfl) (by rw [List.length_map])) rfl ⟨rfl, trivial⟩ trivial ?_
    refine G.op1 (op_lss (Ev.t 62 (bI .i64 v16)) (Ev.t 64 (bI .i64 (r2.length : Int))) rfl) rfl ⟨rfl, rfl, trivial⟩ trivial ?_
    refine G.endOps ?_
    refine ifS hF (fun hc20 hF => ?_) (fun hc20 hF => ?_)
    · refine G.cond rfl (fun _ => ?_) (fun hx => by rw [hc20] at hx; cases hx)
      refine G.skip ?_
      refine G.seq ?_
      refine G.block ?_
      refine G.seq ?_
      refine G.region ?_
      refine G.op1 (op_move (Ev.t 8 (.g (.d (.sl 6 (List.map encApi_Version r2))))) rfl) rfl ⟨rfl, trivial⟩ trivial ?_
      refine G.op1 (op_move (Ev.t 14 (bI .i64 v16)) rfl) rfl ⟨rfl, trivial⟩ trivial ?_
      obtain ⟨x21, hx21, hF⟩ := bindS hF
      refine G.op1 (op_index (cs := [.v (.string x21.Key), .v (.string x21.Value), .v (.bool x21.Gone), .v (.int .i64 x21.Stamp.N), .v (.int .i64 x21.Stamp.Site), .sl 3 (List.map encApi_Dep x21.Past)]) Try.underlying22 ti42 (idx_ok hx21).1 (idx_get hx21 encApi_Version) (Ev.t 68 (.g (.d (.sl 6 (List.map encApi_Version r2))))) (Ev.t 69 (bI .i64 v16)) rfl) rfl ⟨rfl, rfl, trivial⟩ trivial ?_
      refine G.op1 (op_fieldE (cs' := [.v (.string x21.Key), .v (.string x21.Value), .v (.bool x21.Gone), .v (.int .i64 x21.Stamp.N), .v (.int .i64 x21.Stamp.Site), .sl 3 (List.map encApi_Dep x21.Past)]) Try.underlying42 rfl ti9 (by decide) rfl (Ev.t 70 (.ep [.v (.string x21.Key), .v (.string x21.Value), .v (.bool x21.Gone), .v (.int .i64 x21.Stamp.N), .v (.int .i64 x21.Stamp.Site), .sl 3 (List.map encApi_Dep x21.Past)])) rfl) rfl ⟨rfl, trivial⟩ trivial ?_
      refine G.op1 (op_load1E (c := .v (.string x21.Key)) Try.underlying9 rfl rfl (Ev.t 71 (.ep [.v (.string x21.Key), .v (.string x21.Value), .v (.bool x21.Gone), .v (.int .i64 x21.Stamp.N), .v (.int .i64 x21.Stamp.Site), .sl 3 (List.map encApi_Dep x21.Past)])) rfl) rfl ⟨rfl, trivial⟩ trivial ?_
      obtain ⟨r22, hr22, hF⟩ := bindS hF
      refine G.op1 (op_callQ (sv := .one (bB r22)) cf28 (ct_ref02_Check x21.Key r22 hr22) rfl rfl (EvQL.cons (EvQ.g (Ev.t 72 (bS x21.Key))) EvQL.nil) rfl) rfl ⟨rfl, trivial⟩ trivial ?_
      refine G.op1 (op_assign (Ev.t 73 (bB r22)) rfl) rfl ⟨rfl, trivial⟩ trivial ?_
      refine G.endOps ?_
      refine G.seq ?_
      refine G.region ?_
      refine G.op1 (op_move (Ev.t 8 (.g (.d (.sl 6 (List.map encApi_Version r2))))) rfl) rfl ⟨rfl, trivial⟩ trivial ?_
      refine G.op1 (op_move (Ev.t 14 (bI .i64 v16)) rfl) rfl ⟨rfl, trivial⟩ trivial ?_
      obtain ⟨x23, hx23, hF⟩ := bindS hF
      refine G.op1 (op_index (cs := [.v (.string x23.Key), .v (.string x23.Value), .v (.bool x23.Gone), .v (.int .i64 x23.Stamp.N), .v (.int .i64 x23.Stamp.Site), .sl 3 (List.map encApi_Dep x23.Past)]) Try.underlying22 ti42 (idx_ok hx23).1 (idx_get hx23 encApi_Version) (Ev.t 74 (.g (.d (.sl 6 (List.map encApi_Version r2))))) (Ev.t 75 (bI .i64 v16)) rfl) rfl ⟨rfl, rfl, trivial⟩ trivial ?_
      refine G.op1 (op_fieldE (cs' := [.v (.int .i64 x23.Stamp.N), .v (.int .i64 x23.Stamp.Site), .sl 3 (List.map encApi_Dep x23.Past)]) Try.underlying42 rfl ti35 (by decide) rfl (Ev.t 76 (.ep [.v (.string x23.Key), .v (.string x23.Value), .v (.bool x23.Gone), .v (.int .i64 x23.Stamp.N), .v (.int .i64 x23.Stamp.Site), .sl 3 (List.map encApi_Dep x23.Past)])) rfl) rfl ⟨rfl, trivial⟩ trivial ?_
      refine G.op1 (op_loadAE (ds := [.v (.int .i64 x23.Stamp.N), .v (.int .i64 x23.Stamp.Site)]) Try.underlying35 rfl ti35 rfl (Ev.t 77 (.ep [.v (.int .i64 x23.Stamp.N), .v (.int .i64 x23.Stamp.Site), .sl 3 (List.map encApi_Dep x23.Past)])) rfl) rfl ⟨rfl, trivial⟩ trivial ?_
      obtain ⟨r24, hr24, hF⟩ := bindS hF
      refine G.op1 (op_callQ (sv := .one (bB r24)) cf29 (ct_ref03_Check x23.Stamp r24 hr24) rfl rfl (EvQL.cons (EvQ.g (Ev.t 78 (.g (.agg [.v (.int .i64 x23.Stamp.N), .v (.int .i64 x23.Stamp.Site)])))) EvQL.nil) rfl) rfl ⟨rfl, trivial⟩ trivial ?_
      refine G.op1 (op_assign (Ev.t 79 (bB r24)) rfl) rfl ⟨rfl, trivial⟩ trivial ?_
      refine G.endOps ?_
      refine G.seq ?_
      refine G.region ?_
      refine G.op1 (op_move (Ev.t 12 (.g (.d (.sl 3 (List.map encApi_Dep r7))))) rfl) rfl ⟨rfl, trivial⟩ trivial ?_
      refine G.op1 (op_move (Ev.t 8 (.g (.d (.sl 6 (List.map encApi_Version r2))))) rfl) rfl ⟨rfl, trivial⟩ trivial ?_
      refine G.op1 (op_move (Ev.t 14 (bI .i64 v16)) rfl) rfl ⟨rfl, trivial⟩ trivial ?_
      obtain ⟨x25, hx25, hF⟩ := bindS hF
      refine G.op1 (op_index (cs := [.v (.string x25.Key), .v (.string x25.Value), .v (.bool x25.Gone), .v (.int .i64 x25.Stamp.N), .v (.int .i64 x25.Stamp.Site), .sl 3 (List.map encApi_Dep x25.Past)]) Try.underlying22 ti42 (idx_ok hx25).1 (idx_get hx25 encApi_Version) (Ev.t 81 (.g (.d (.sl 6 (List.map encApi_Version r2))))) (Ev.t 82 (bI .i64 v16)) rfl) rfl ⟨rfl, rfl, trivial⟩ trivial ?_
      refine G.op1 (op_fieldE (cs' := [.v (.string x25.Key), .v (.string x25.Value), .v (.bool x25.Gone), .v (.int .i64 x25.Stamp.N), .v (.int .i64 x25.Stamp.Site), .sl 3 (List.map encApi_Dep x25.Past)]) Try.underlying42 rfl ti9 (by decide) rfl (Ev.t 83 (.ep [.v (.string x25.Key), .v (.string x25.Value), .v (.bool x25.Gone), .v (.int .i64 x25.Stamp.N), .v (.int .i64 x25.Stamp.Site), .sl 3 (List.map encApi_Dep x25.Past)])) rfl) rfl ⟨rfl, trivial⟩ trivial ?_
      refine G.op1 (op_load1E (c := .v (.string x25.Key)) Try.underlying9 rfl rfl (Ev.t 84 (.ep [.v (.string x25.Key), .v (.string x25.Value), .v (.bool x25.Gone), .v (.int .i64 x25.Stamp.N), .v (.int .i64 x25.Stamp.Site), .sl 3 (List.map encApi_Dep x25.Past)])) rfl) rfl ⟨rfl, trivial⟩ trivial ?_
      obtain ⟨r26, hr26, hF⟩ := bindS hF
      refine G.op1 (op_callQ (sv := .one (.g (.agg [.v (.int .i64 r26.N), .v (.int .i64 r26.Site)]))) cf26 (ct_ref04_Get r7 x25.Key r26 hr26) rfl rfl (EvQL.cons (EvQ.g (Ev.t 80 (.g (.d (.sl 3 (List.map encApi_Dep r7)))))) (EvQL.cons (EvQ.g (Ev.t 85 (bS x25.Key))) EvQL.nil)) rfl) rfl ⟨rfl, rfl, trivial⟩ trivial ?_
      refine G.op2 (op_alloc (k := 1017) (cs := [bI .i64 0, bI .i64 0]) ti35 ⟨.v _ rfl, .v _ rfl, trivial⟩ rfl) rfl trivial ⟨rfl, trivial⟩ ?_
      refine G.op3 (op_storeA (cs' := [bI .i64 r26.N, bI .i64 r26.Site]) ti35 rfl rfl (Ev.t 17 (.ptr 1017 0)) (Ev.t 86 (.g (.agg [.v (.int .i64 r26.N), .v (.int .i64 r26.Site)])))) rfl ⟨rfl, rfl, trivial⟩ ⟨rfl, trivial⟩ ?_
      refine G.endOps ?_
      refine G.seq ?_
      refine G.region ?_
      refine G.op1 (op_move (Ev.t 12 (.g (.d (.sl 3 (List.map encApi_Dep r7))))) rfl) rfl ⟨rfl, trivial⟩ trivial ?_
      refine G.op1 (op_move (Ev.t 8 (.g (.d (.sl 6 (List.map encApi_Version r2))))) rfl) rfl ⟨rfl, trivial⟩ trivial ?_
      refine G.op1 (op_move (Ev.t 14 (bI .i64 v16)) rfl) rfl ⟨rfl, trivial⟩ trivial ?_
      obtain ⟨x27, hx27, hF⟩ := bindS hF
      refine G.op1 (op_index (cs := [.v (.string x27.Key), .v (.string x27.Value), .v (.bool x27.Gone), .v (.int .i64 x27.Stamp.N), .v (.int .i64 x27.Stamp.Site), .sl 3 (List.map encApi_Dep x27.Past)]) Try.underlying22 ti42 (idx_ok hx27).1 (idx_get hx27 encApi_Version) (Ev.t 88 (.g (.d (.sl 6 (List.map encApi_Version r2))))) (Ev.t 89 (bI .i64 v16)) rfl) rfl ⟨rfl, rfl, trivial⟩ trivial ?_
      refine G.op1 (op_fieldE (cs' := [.sl 3 (List.map encApi_Dep x27.Past)]) Try.underlying42 rfl ti24 (by decide) rfl (Ev.t 90 (.ep [.v (.string x27.Key), .v (.string x27.Value), .v (.bool x27.Gone), .v (.int .i64 x27.Stamp.N), .v (.int .i64 x27.Stamp.Site), .sl 3 (List.map encApi_Dep x27.Past)])) rfl) rfl ⟨rfl, trivial⟩ trivial ?_
      refine G.op1 (op_load1E (c := .sl 3 (List.map encApi_Dep x27.Past)) Try.underlying24 rfl rfl (Ev.t 91 (.ep [.sl 3 (List.map encApi_Dep x27.Past)])) rfl) rfl ⟨rfl, trivial⟩ trivial ?_
      obtain ⟨r28, hr28, hF⟩ := bindS hF
      refine G.op1 (op_callQ (sv := .one (bB r28)) cf27 (ct_ref04_Covers r7 x27.Past r28 hr28) rfl rfl (EvQL.cons (EvQ.g (Ev.t 87 (.g (.d (.sl 3 (List.map encApi_Dep r7)))))) (EvQL.cons (EvQ.g (Ev.t 92 (.g (.d (.sl 3 (List.map encApi_Dep x27.Past)))))) EvQL.nil)) rfl) rfl ⟨rfl, rfl, trivial⟩ trivial ?_
      refine G.op1 (op_assign (Ev.t 93 (bB r28)) rfl) rfl ⟨rfl, trivial⟩ trivial ?_
      refine G.endOps ?_
      refine G.seq ?_
      refine ifS hF (fun hc29 hF => ?_) (fun hc29 hF => ?_)
      · refine G.drawn (effs := [⟨[(18, .one (bB r28))], [], [(94, .one (bB r28))], []⟩, ⟨[(94, .one (bB r28))], [], [(95, .one (bB true))], []⟩, ⟨[(95, .one (bB true))], [], [(96, .one (bB true))], []⟩, ⟨[(96, .one (bB true))], [], [(97, .one (.x Go.undef))], []⟩, ⟨[(96, .one (bB true))], [], [(98, .one (.x Go.undef))], []⟩, ⟨[(98, .one (.x Go.undef))], [], [(99, .one (.x Go.undef))], []⟩, ⟨[(96, .one (bB true))], [], [(100, .one (.x Go.undef))], []⟩, ⟨[(96, .one (bB true))], [], [(101, .one (.x Go.undef))], []⟩, ⟨[(101, .one (.x Go.undef))], [], [(102, .one (.x Go.undef))], []⟩, ⟨[(101, .one (.x Go.undef))], [], [(103, .one (.x Go.undef))], []⟩, ⟨[(101, .one (.x Go.undef))], [], [(104, .one (.x Go.undef))], []⟩, ⟨[(101, .one (.x Go.undef))], [], [(105, .one (.x Go.undef))], []⟩, ⟨[(101, .one (.x Go.undef))], [], [(106, .one (.x Go.undef))], []⟩, ⟨[(101, .one (.x Go.undef))], [], [(107, .one (.x Go.undef))], []⟩, ⟨[(101, .one (.x Go.undef))], [], [(108, .one (.x Go.undef))], []⟩, ⟨[(96, .one (bB true))], [], [(109, .one (.x Go.undef))], []⟩, ⟨[(96, .one (bB true))], [], [(110, .one (bB true))], []⟩]) (deps := [[], [0], [0, 1], [0, 1, 2], [0, 1, 2, 3], [0, 1, 2, 3, 4], [0, 1, 2, 3, 4, 5], [0, 1, 2, 3, 4, 5, 6], [0, 1, 2, 3, 4, 5, 6, 7], [0, 1, 2, 3, 4, 5, 6, 7], [0, 1, 2, 3, 4, 5, 6, 7], [0, 1, 2, 3, 4, 5, 6, 7, 9, 10], [0, 1, 2, 3, 4, 5, 6, 7, 9, 10, 11], [0, 1, 2, 3, 4, 5, 6, 7, 9, 10, 11, 12], [0, 1, 2, 3, 4, 5, 6, 7, 8, 9, 10, 11, 12, 13], [0, 1, 2, 3, 4, 5, 6, 7, 8, 9, 10, 11, 12, 13, 14], [0, 1, 2, 3, 4, 5, 6, 7, 8, 9, 10, 11, 12, 13, 14, 15]]) (sl' := [(7, .one (bB r1)), (8, .one (.g (.d (.sl 6 (List.map encApi_Version r2))))), (9, .one (.g (.d (.sl 3 (List.map encApi_Dep r3))))), (12, .one (.g (.d (.sl 3 (List.map encApi_Dep r7))))), (13, .one (bB r8)), (14, .one (bI .i64 v16)), (110, .one (bB true))]) (hp' := []) follows rfl rfl rfl ⟨⟨rfl, trivial⟩, trivial, ⟨rfl, trivial⟩, trivial, ⟨rfl, trivial⟩, trivial, ⟨rfl, trivial⟩, trivial, ⟨rfl, trivial⟩, trivial, ⟨rfl, trivial⟩, trivial, ⟨rfl, trivial⟩, trivial, ⟨rfl, trivial⟩, trivial, ⟨rfl, trivial⟩, trivial, ⟨rfl, trivial⟩, trivial, ⟨rfl, trivial⟩, trivial, ⟨rfl, trivial⟩, trivial, ⟨rfl, trivial⟩, trivial, ⟨rfl, trivial⟩, trivial, ⟨rfl, trivial⟩, trivial, ⟨rfl, trivial⟩, trivial, ⟨rfl, trivial⟩, trivial, trivial⟩ ⟨OpW.plain (op_move (Ev.t 18 (bB r28)) rfl) rfl rfl, OpW.plain (OpL.cast (op_not (Ev.t 94 (bB r28)) rfl) (congrArg (fun b => bB b) hc29)) rfl rfl, OpW.plain (op_move (Ev.t 95 (bB true)) rfl) rfl rfl, OpW.no rfl rfl rfl rfl rfl, OpW.no rfl rfl rfl rfl rfl, OpW.un rfl rfl rfl rfl, OpW.no rfl rfl rfl rfl rfl, OpW.no rfl rfl rfl rfl rfl, OpW.un rfl rfl rfl rfl, OpW.un rfl rfl rfl rfl, OpW.un rfl rfl rfl rfl, OpW.un rfl rfl rfl rfl, OpW.un rfl rfl rfl rfl, OpW.un rfl rfl rfl rfl, OpW.un rfl rfl rfl rfl, OpW.no rfl rfl rfl rfl rfl, OpW.plain (op_pickT (Ev.t 96 (bB true)) (Ev.c _ rfl) rfl) rfl rfl, trivial⟩ ⟨rfl, rfl, rfl, rfl, rfl, rfl, rfl, trivial⟩ trivial rfl ?_
        refine G.condT rfl ?_
        refine G.seq ?_
        refine G.region ?_
        refine G.op1 (op_assign (Ev.c _ rfl) rfl) rfl trivial trivial ?_
        refine G.endOps ?_
        cases hF
        exact G.ret1 Try.results5 (RVar.tmp 6 _) ⟨rfl, trivial⟩ trivial
      · refine ifS hF (fun hc30 hF => ?_) (fun hc30 hF => ?_)
        · refine G.known (t := 15) (c := true) hc30 rfl ?_
          refine G.known (t := 73) (c := true) hc30 rfl ?_
          refine ifS hF (fun hc31 hF => ?_) (fun hc31 hF => ?_)
          · refine G.known (t := 16) (c := true) hc31 rfl ?_
            refine G.known (t := 79) (c := true) hc31 rfl ?_
            obtain ⟨x32, hx32, hF⟩ := bindS hF
            obtain ⟨r33, hr33, hF⟩ := bindS hF
            refine G.drawn (effs := [⟨[(18, .one (bB r28))], [], [(94, .one (bB r28))], []⟩, ⟨[(94, .one (bB r28))], [], [(95, .one (bB false))], []⟩, ⟨[(95, .one (bB false))], [], [(96, .one (bB false))], []⟩, ⟨[(96, .one (bB false)), (15, .one (bB true))], [], [(97, .one (bB true))], []⟩, ⟨[(96, .one (bB false)), (97, .one (bB true))], [], [(98, .one (bB true))], []⟩, ⟨[(98, .one (bB true)), (16, .one (bB true))], [], [(99, .one (bB true))], []⟩, ⟨[(96, .one (bB false)), (98, .one (bB true)), (99, .one (bB true))], [], [(100, .one (bB true))], []⟩, ⟨[(96, .one (bB false)), (100, .one (bB true))], [], [(101, .one (bB true))], []⟩, ⟨[(101, .one (bB true)), (17, .one (.ptr 1017 0))], [(1017, some (.blk 35 [bI .i64 r26.N, bI .i64 r26.Site]))], [(102, .one (.g (.agg [.v (.int .i64 r26.N), .v (.int .i64 r26.Site)])))], []⟩, ⟨[(101, .one (bB true)), (8, .one (.g (.d (.sl 6 (List.map encApi_Version r2)))))], [], [(103, .one (.g (.d (.sl 6 (List.map encApi_Version r2)))))], []⟩, ⟨[(101, .one (bB true)), (14, .one (bI .i64 v16))], [], [(104, .one (bI .i64 v16))], []⟩, ⟨[(101, .one (bB true)), (103, .one (.g (.d (.sl 6 (List.map encApi_Version r2))))), (104, .one (bI .i64 v16))], [], [(105, .one (.ep [.v (.string x32.Key), .v (.string x32.Value), .v (.bool x32.Gone), .v (.int .i64 x32.Stamp.N), .v (.int .i64 x32.Stamp.Site), .sl 3 (List.map encApi_Dep x32.Past)]))], []⟩, ⟨[(101, .one (bB true)), (105, .one (.ep [.v (.string x32.Key), .v (.string x32.Value), .v (.bool x32.Gone), .v (.int .i64 x32.Stamp.N), .v (.int .i64 x32.Stamp.Site), .sl 3 (List.map encApi_Dep x32.Past)]))], [], [(106, .one (.ep [.v (.int .i64 x32.Stamp.N), .v (.int .i64 x32.Stamp.Site), .sl 3 (List.map encApi_Dep x32.Past)]))], []⟩, ⟨[(101, .one (bB true)), (106, .one (.ep [.v (.int .i64 x32.Stamp.N), .v (.int .i64 x32.Stamp.Site), .sl 3 (List.map encApi_Dep x32.Past)]))], [], [(107, .one (.g (.agg [.v (.int .i64 x32.Stamp.N), .v (.int .i64 x32.Stamp.Site)])))], []⟩, ⟨[(101, .one (bB true)), (102, .one (.g (.agg [.v (.int .i64 r26.N), .v (.int .i64 r26.Site)]))), (107, .one (.g (.agg [.v (.int .i64 x32.Stamp.N), .v (.int .i64 x32.Stamp.Site)])))], [], [(108, .one (bB r33))], []⟩, ⟨[(96, .one (bB false)), (101, .one (bB true)), (108, .one (bB r33))], [], [(109, .one (bB r33))], []⟩, ⟨[(96, .one (bB false)), (109, .one (bB r33))], [], [(110, .one (bB r33))], []⟩]) (deps := [[], [0], [0, 1], [0, 1, 2], [0, 1, 2, 3], [0, 1, 2, 3, 4], [0, 1, 2, 3, 4, 5], [0, 1, 2, 3, 4, 5, 6], [0, 1, 2, 3, 4, 5, 6, 7], [0, 1, 2, 3, 4, 5, 6, 7], [0, 1, 2, 3, 4, 5, 6, 7], [0, 1, 2, 3, 4, 5, 6, 7, 9, 10], [0, 1, 2, 3, 4, 5, 6, 7, 9, 10, 11], [0, 1, 2, 3, 4, 5, 6, 7, 9, 10, 11, 12], [0, 1, 2, 3, 4, 5, 6, 7, 8, 9, 10, 11, 12, 13], [0, 1, 2, 3, 4, 5, 6, 7, 8, 9, 10, 11, 12, 13, 14], [0, 1, 2, 3, 4, 5, 6, 7, 8, 9, 10, 11, 12, 13, 14, 15]]) (sl' := [(7, .one (bB r1)), (8, .one (.g (.d (.sl 6 (List.map encApi_Version r2))))), (9, .one (.g (.d (.sl 3 (List.map encApi_Dep r3))))), (12, .one (.g (.d (.sl 3 (List.map encApi_Dep r7))))), (13, .one (bB r8)), (14, .one (bI .i64 v16)), (110, .one (bB r33))]) (hp' := []) follows rfl rfl rfl ⟨⟨rfl, trivial⟩, trivial, ⟨rfl, trivial⟩, trivial, ⟨rfl, trivial⟩, trivial, ⟨rfl, rfl, trivial⟩, trivial, ⟨rfl, rfl, trivial⟩, trivial, ⟨rfl, rfl, trivial⟩, trivial, ⟨rfl, rfl, rfl, trivial⟩, trivial, ⟨rfl, rfl, trivial⟩, trivial, ⟨rfl, rfl, trivial⟩, ⟨⟨rfl, rfl⟩, trivial⟩, ⟨rfl, rfl, trivial⟩, trivial, ⟨rfl, rfl, trivial⟩, trivial, ⟨rfl, rfl, rfl, trivial⟩, trivial, ⟨rfl, rfl, trivial⟩, trivial, ⟨rfl, rfl, trivial⟩, trivial, ⟨rfl, rfl, rfl, trivial⟩, trivial, ⟨rfl, rfl, rfl, trivial⟩, trivial, ⟨rfl, rfl, trivial⟩, trivial, trivial⟩ ⟨OpW.plain (op_move (Ev.t 18 (bB r28)) rfl) rfl rfl, OpW.plain (OpL.cast (op_not (Ev.t 94 (bB r28)) rfl) (congrArg (fun b => bB b) hc29)) rfl rfl, OpW.plain (op_move (Ev.t 95 (bB false)) rfl) rfl rfl, OpW.yes (op_move (Ev.t 15 (bB true)) rfl) rfl rfl rfl, OpW.yes (op_move (Ev.t 97 (bB true)) rfl) rfl rfl rfl, OpW.yes (op_move (Ev.t 16 (bB true)) rfl) rfl rfl rfl, OpW.yes (op_pickT (Ev.t 98 (bB true)) (Ev.t 99 (bB true)) rfl) rfl rfl rfl, OpW.yes (op_move (Ev.t 100 (bB true)) rfl) rfl rfl rfl, OpW.yes (op_loadAP (ds := [.v (.int .i64 r26.N), .v (.int .i64 r26.Site)]) Try.underlying35 rfl ti35 rfl (Ev.t 17 (.ptr 1017 0)) rfl) rfl rfl rfl, OpW.yes (op_move (Ev.t 8 (.g (.d (.sl 6 (List.map encApi_Version r2))))) rfl) rfl rfl rfl, OpW.yes (op_move (Ev.t 14 (bI .i64 v16)) rfl) rfl rfl rfl, OpW.yes (op_index (cs := [.v (.string x32.Key), .v (.string x32.Value), .v (.bool x32.Gone), .v (.int .i64 x32.Stamp.N), .v (.int .i64 x32.Stamp.Site), .sl 3 (List.map encApi_Dep x32.Past)]) Try.underlying22 ti42 (idx_ok hx32).1 (idx_get hx32 encApi_Version) (Ev.t 103 (.g (.d (.sl 6 (List.map encApi_Version r2))))) (Ev.t 104 (bI .i64 v16)) rfl) rfl rfl rfl, OpW.yes (op_fieldE (cs' := [.v (.int .i64 x32.Stamp.N), .v (.int .i64 x32.Stamp.Site), .sl 3 (List.map encApi_Dep x32.Past)]) Try.underlying42 rfl ti35 (by decide) rfl (Ev.t 105 (.ep [.v (.string x32.Key), .v (.string x32.Value), .v (.bool x32.Gone), .v (.int .i64 x32.Stamp.N), .v (.int .i64 x32.Stamp.Site), .sl 3 (List.map encApi_Dep x32.Past)])) rfl) rfl rfl rfl, OpW.yes (op_loadAE (ds := [.v (.int .i64 x32.Stamp.N), .v (.int .i64 x32.Stamp.Site)]) Try.underlying35 rfl ti35 rfl (Ev.t 106 (.ep [.v (.int .i64 x32.Stamp.N), .v (.int .i64 x32.Stamp.Site), .sl 3 (List.map encApi_Dep x32.Past)])) rfl) rfl rfl rfl, OpW.yes (op_callQ (sv := .one (bB r33)) cf25 (ct_ref03_Less r26 x32.Stamp r33 hr33) rfl rfl (EvQL.cons (EvQ.g (Ev.t 102 (.g (.agg [.v (.int .i64 r26.N), .v (.int .i64 r26.Site)])))) (EvQL.cons (EvQ.g (Ev.t 107 (.g (.agg [.v (.int .i64 x32.Stamp.N), .v (.int .i64 x32.Stamp.Site)])))) EvQL.nil)) rfl) rfl rfl rfl, OpW.yes (op_pickT (Ev.t 101 (bB true)) (Ev.t 108 (bB r33)) rfl) rfl rfl rfl, OpW.plain (op_pickF (Ev.t 96 (bB false)) (Ev.t 109 (bB r33)) rfl) rfl rfl, trivial⟩ ⟨rfl, rfl, rfl, rfl, rfl, rfl, rfl, trivial⟩ trivial rfl ?_
            refine ifS hF (fun hc34 hF => ?_) (fun hc34 hF => ?_)
            · refine G.cond rfl (fun _ => ?_) (fun hx => by rw [hc34] at hx; cases hx)
              refine G.seq ?_
              refine G.region ?_
              refine G.op1 (op_assign (Ev.c _ rfl) rfl) rfl trivial trivial ?_
              refine G.endOps ?_
              cases hF
              exact G.ret1 Try.results5 (RVar.tmp 6 _) ⟨rfl, trivial⟩ trivial
            · refine G.cond rfl (fun hx => by rw [hc34] at hx; cases hx) (fun _ => ?_)
              refine G.skip ?_
              refine G.endBlock ?_
              refine G.region ?_
              refine G.op1 (op_move (Ev.t 14 (bI .i64 v16)) rfl) rfl ⟨rfl, trivial⟩ trivial ?_
              refine G.op1 (op_add (Ev.t 66 (bI .i64 v16)) (Ev.c _ rfl) rfl) rfl ⟨rfl, trivial⟩ trivial ?_
              refine G.op1 (op_assign (Ev.t 67 (bI .i64 (IntKind.wrap .i64 (v16 + 1)))) rfl) rfl ⟨rfl, trivial⟩ trivial ?_
              refine G.endOps ?_
              exact G.arr (J17 (IntKind.wrap .i64 (v16 + 1)) hF) ⟨rfl, rfl, rfl, rfl, rfl, rfl, trivial⟩ trivial rfl
          · refine G.known (t := 16) (c := false) hc31 rfl ?_
            refine G.known (t := 79) (c := false) hc31 rfl ?_
            refine G.drawn (effs := [⟨[(18, .one (bB r28))], [], [(94, .one (bB r28))], []⟩, ⟨[(94, .one (bB r28))], [], [(95, .one (bB false))], []⟩, ⟨[(95, .one (bB false))], [], [(96, .one (bB false))], []⟩, ⟨[(96, .one (bB false)), (15, .one (bB true))], [], [(97, .one (bB true))], []⟩, ⟨[(96, .one (bB false)), (97, .one (bB true))], [], [(98, .one (bB true))], []⟩, ⟨[(98, .one (bB true)), (16, .one (bB false))], [], [(99, .one (bB false))], []⟩, ⟨[(96, .one (bB false)), (98, .one (bB true)), (99, .one (bB false))], [], [(100, .one (bB false))], []⟩, ⟨[(96, .one (bB false)), (100, .one (bB false))], [], [(101, .one (bB false))], []⟩, ⟨[(101, .one (bB false))], [], [(102, .one (.x Go.undef))], []⟩, ⟨[(101, .one (bB false))], [], [(103, .one (.x Go.undef))], []⟩, ⟨[(101, .one (bB false))], [], [(104, .one (.x Go.undef))], []⟩, ⟨[(101, .one (bB false))], [], [(105, .one (.x Go.undef))], []⟩, ⟨[(101, .one (bB false))], [], [(106, .one (.x Go.undef))], []⟩, ⟨[(101, .one (bB false))], [], [(107, .one (.x Go.undef))], []⟩, ⟨[(101, .one (bB false))], [], [(108, .one (.x Go.undef))], []⟩, ⟨[(96, .one (bB false)), (101, .one (bB false))], [], [(109, .one (bB false))], []⟩, ⟨[(96, .one (bB false)), (109, .one (bB false))], [], [(110, .one (bB false))], []⟩]) (deps := [[], [0], [0, 1], [0, 1, 2], [0, 1, 2, 3], [0, 1, 2, 3, 4], [0, 1, 2, 3, 4, 5], [0, 1, 2, 3, 4, 5, 6], [0, 1, 2, 3, 4, 5, 6, 7], [0, 1, 2, 3, 4, 5, 6, 7], [0, 1, 2, 3, 4, 5, 6, 7], [0, 1, 2, 3, 4, 5, 6, 7, 9, 10], [0, 1, 2, 3, 4, 5, 6, 7, 9, 10, 11], [0, 1, 2, 3, 4, 5, 6, 7, 9, 10, 11, 12], [0, 1, 2, 3, 4, 5, 6, 7, 8, 9, 10, 11, 12, 13], [0, 1, 2, 3, 4, 5, 6, 7, 8, 9, 10, 11, 12, 13, 14], [0, 1, 2, 3, 4, 5, 6, 7, 8, 9, 10, 11, 12, 13, 14, 15]]) (sl' := [(7, .one (bB r1)), (8, .one (.g (.d (.sl 6 (List.map encApi_Version r2))))), (9, .one (.g (.d (.sl 3 (List.map encApi_Dep r3))))), (12, .one (.g (.d (.sl 3 (List.map encApi_Dep r7))))), (13, .one (bB r8)), (14, .one (bI .i64 v16)), (110, .one (bB false))]) (hp' := []) follows rfl rfl rfl ⟨⟨rfl, trivial⟩, trivial, ⟨rfl, trivial⟩, trivial, ⟨rfl, trivial⟩, trivial, ⟨rfl, rfl, trivial⟩, trivial, ⟨rfl, rfl, trivial⟩, trivial, ⟨rfl, rfl, trivial⟩, trivial, ⟨rfl, rfl, rfl, trivial⟩, trivial, ⟨rfl, rfl, trivial⟩, trivial, ⟨rfl, trivial⟩, trivial, ⟨rfl, trivial⟩, trivial, ⟨rfl, trivial⟩, trivial, ⟨rfl, trivial⟩, trivial, ⟨rfl, trivial⟩, trivial, ⟨rfl, trivial⟩, trivial, ⟨rfl, trivial⟩, trivial, ⟨rfl, rfl, trivial⟩, trivial, ⟨rfl, rfl, trivial⟩, trivial, trivial⟩ ⟨OpW.plain (op_move (Ev.t 18 (bB r28)) rfl) rfl rfl, OpW.plain (OpL.cast (op_not (Ev.t 94 (bB r28)) rfl) (congrArg (fun b => bB b) hc29)) rfl rfl, OpW.plain (op_move (Ev.t 95 (bB false)) rfl) rfl rfl, OpW.yes (op_move (Ev.t 15 (bB true)) rfl) rfl rfl rfl, OpW.yes (op_move (Ev.t 97 (bB true)) rfl) rfl rfl rfl, OpW.yes (op_move (Ev.t 16 (bB false)) rfl) rfl rfl rfl, OpW.yes (op_pickT (Ev.t 98 (bB true)) (Ev.t 99 (bB false)) rfl) rfl rfl rfl, OpW.yes (op_move (Ev.t 100 (bB false)) rfl) rfl rfl rfl, OpW.no rfl rfl rfl rfl rfl, OpW.no rfl rfl rfl rfl rfl, OpW.no rfl rfl rfl rfl rfl, OpW.no rfl rfl rfl rfl rfl, OpW.no rfl rfl rfl rfl rfl, OpW.no rfl rfl rfl rfl rfl, OpW.no rfl rfl rfl rfl rfl, OpW.yes (op_pickF (Ev.t 101 (bB false)) (Ev.c _ rfl) rfl) rfl rfl rfl, OpW.plain (op_pickF (Ev.t 96 (bB false)) (Ev.t 109 (bB false)) rfl) rfl rfl, trivial⟩ ⟨rfl, rfl, rfl, rfl, rfl, rfl, rfl, trivial⟩ trivial rfl ?_
            refine G.condF rfl ?_
            refine G.skip ?_
            refine G.endBlock ?_
            refine G.region ?_
            refine G.op1 (op_move (Ev.t 14 (bI .i64 v16)) rfl) rfl ⟨rfl, trivial⟩ trivial ?_
            refine G.op1 (op_add (Ev.t 66 (bI .i64 v16)) (Ev.c _ rfl) rfl) rfl ⟨rfl, trivial⟩ trivial ?_
            refine G.op1 (op_assign (Ev.t 67 (bI .i64 (IntKind.wrap .i64 (v16 + 1)))) rfl) rfl ⟨rfl, trivial⟩ trivial ?_
            refine G.endOps ?_
            exact G.arr (J17 (IntKind.wrap .i64 (v16 + 1)) hF) ⟨rfl, rfl, rfl, rfl, rfl, rfl, trivial⟩ trivial rfl
        · refine G.known (t := 15) (c := false) hc30 rfl ?_
          refine G.known (t := 73) (c := false) hc30 rfl ?_
          refine G.drawn (effs := [⟨[(18, .one (bB r28))], [], [(94, .one (bB r28))], []⟩, ⟨[(94, .one (bB r28))], [], [(95, .one (bB false))], []⟩, ⟨[(95, .one (bB false))], [], [(96, .one (bB false))], []⟩, ⟨[(96, .one (bB false)), (15, .one (bB false))], [], [(97, .one (bB false))], []⟩, ⟨[(96, .one (bB false)), (97, .one (bB false))], [], [(98, .one (bB false))], []⟩, ⟨[(98, .one (bB false))], [], [(99, .one (.x Go.undef))], []⟩, ⟨[(96, .one (bB false)), (98, .one (bB false))], [], [(100, .one (bB false))], []⟩, ⟨[(96, .one (bB false)), (100, .one (bB false))], [], [(101, .one (bB false))], []⟩, ⟨[(101, .one (bB false))], [], [(102, .one (.x Go.undef))], []⟩, ⟨[(101, .one (bB false))], [], [(103, .one (.x Go.undef))], []⟩, ⟨[(101, .one (bB false))], [], [(104, .one (.x Go.undef))], []⟩, ⟨[(101, .one (bB false))], [], [(105, .one (.x Go.undef))], []⟩, ⟨[(101, .one (bB false))], [], [(106, .one (.x Go.undef))], []⟩, ⟨[(101, .one (bB false))], [], [(107, .one (.x Go.undef))], []⟩, ⟨[(101, .one (bB false))], [], [(108, .one (.x Go.undef))], []⟩, ⟨[(96, .one (bB false)), (101, .one (bB false))], [], [(109, .one (bB false))], []⟩, ⟨[(96, .one (bB false)), (109, .one (bB false))], [], [(110, .one (bB false))], []⟩]) (deps := [[], [0], [0, 1], [0, 1, 2], [0, 1, 2, 3], [0, 1, 2, 3, 4], [0, 1, 2, 3, 4, 5], [0, 1, 2, 3, 4, 5, 6], [0, 1, 2, 3, 4, 5, 6, 7], [0, 1, 2, 3, 4, 5, 6, 7], [0, 1, 2, 3, 4, 5, 6, 7], [0, 1, 2, 3, 4, 5, 6, 7, 9, 10], [0, 1, 2, 3, 4, 5, 6, 7, 9, 10, 11], [0, 1, 2, 3, 4, 5, 6, 7, 9, 10, 11, 12], [0, 1, 2, 3, 4, 5, 6, 7, 8, 9, 10, 11, 12, 13], [0, 1, 2, 3, 4, 5, 6, 7, 8, 9, 10, 11, 12, 13, 14], [0, 1, 2, 3, 4, 5, 6, 7, 8, 9, 10, 11, 12, 13, 14, 15]]) (sl' := [(7, .one (bB r1)), (8, .one (.g (.d (.sl 6 (List.map encApi_Version r2))))), (9, .one (.g (.d (.sl 3 (List.map encApi_Dep r3))))), (12, .one (.g (.d (.sl 3 (List.map encApi_Dep r7))))), (13, .one (bB r8)), (14, .one (bI .i64 v16)), (110, .one (bB false))]) (hp' := []) follows rfl rfl rfl ⟨⟨rfl, trivial⟩, trivial, ⟨rfl, trivial⟩, trivial, ⟨rfl, trivial⟩, trivial, ⟨rfl, rfl, trivial⟩, trivial, ⟨rfl, rfl, trivial⟩, trivial, ⟨rfl, trivial⟩, trivial, ⟨rfl, rfl, trivial⟩, trivial, ⟨rfl, rfl, trivial⟩, trivial, ⟨rfl, trivial⟩, trivial, ⟨rfl, trivial⟩, trivial, ⟨rfl, trivial⟩, trivial, ⟨rfl, trivial⟩, trivial, ⟨rfl, trivial⟩, trivial, ⟨rfl, trivial⟩, trivial, ⟨rfl, trivial⟩, trivial, ⟨rfl, rfl, trivial⟩, trivial, ⟨rfl, rfl, trivial⟩, trivial, trivial⟩ ⟨OpW.plain (op_move (Ev.t 18 (bB r28)) rfl) rfl rfl, OpW.plain (OpL.cast (op_not (Ev.t 94 (bB r28)) rfl) (congrArg (fun b => bB b) hc29)) rfl rfl, OpW.plain (op_move (Ev.t 95 (bB false)) rfl) rfl rfl, OpW.yes (op_move (Ev.t 15 (bB false)) rfl) rfl rfl rfl, OpW.yes (op_move (Ev.t 97 (bB false)) rfl) rfl rfl rfl, OpW.no rfl rfl rfl rfl rfl, OpW.yes (op_pickF (Ev.t 98 (bB false)) (Ev.c _ rfl) rfl) rfl rfl rfl, OpW.yes (op_move (Ev.t 100 (bB false)) rfl) rfl rfl rfl, OpW.no rfl rfl rfl rfl rfl, OpW.no rfl rfl rfl rfl rfl, OpW.no rfl rfl rfl rfl rfl, OpW.no rfl rfl rfl rfl rfl, OpW.no rfl rfl rfl rfl rfl, OpW.no rfl rfl rfl rfl rfl, OpW.no rfl rfl rfl rfl rfl, OpW.yes (op_pickF (Ev.t 101 (bB false)) (Ev.c _ rfl) rfl) rfl rfl rfl, OpW.plain (op_pickF (Ev.t 96 (bB false)) (Ev.t 109 (bB false)) rfl) rfl rfl, trivial⟩ ⟨rfl, rfl, rfl, rfl, rfl, rfl, rfl, trivial⟩ trivial rfl ?_
          refine G.condF rfl ?_
          refine G.skip ?_
          refine G.endBlock ?_
          refine G.region ?_
          refine G.op1 (op_move (Ev.t 14 (bI .i64 v16)) rfl) rfl ⟨rfl, trivial⟩ trivial ?_
          refine G.op1 (op_add (Ev.t 66 (bI .i64 v16)) (Ev.c _ rfl) rfl) rfl ⟨rfl, trivial⟩ trivial ?_
          refine G.op1 (op_assign (Ev.t 67 (bI .i64 (IntKind.wrap .i64 (v16 + 1)))) rfl) rfl ⟨rfl, trivial⟩ trivial ?_
          refine G.endOps ?_
          exact G.arr (J17 (IntKind.wrap .i64 (v16 + 1)) hF) ⟨rfl, rfl, rfl, rfl, rfl, rfl, trivial⟩ trivial rfl
    · refine G.cond rfl (fun hx => by rw [hc20] at hx; cases hx) (fun _ => ?_)
      refine G.exit ?_
      refine GX.c ?_
      refine GX.q ?_
      refine GX.bYes ?_
      exact G.arr (J15 () hF) ⟨rfl, rfl, rfl, rfl, trivial⟩ trivial rfl
  refine ifS hF (fun hc36 hF => ?_) (fun hc36 hF => ?_)
  · refine G.cond rfl (fun _ => ?_) (fun hx => by rw [hc36] at hx; cases hx)
    refine G.seq ?_
    refine G.seq ?_
    refine G.region ?_
    refine G.op1 (op_assign (Ev.c _ rfl) rfl) rfl trivial trivial ?_
    refine G.endOps ?_
    refine G.joinC (T := Unit) (fun y37 => ⟨[(1, .one (.g (.d (.sl 1 (List.map encS r4))))), (7, .one (bB r1)), (8, .one (.g (.d (.sl 6 (List.map encApi_Version r2))))), (9, .one (.g (.d (.sl 3 (List.map encApi_Dep r3)))))], []⟩) (fun y37 => law19_CutFewer_k5 r1 r2 r3 r4 y37 = some r) (fun y37 hF => ?_) (fun J40 => ?_)
    · unfold law19_CutFewer_k5 at hF
      refine G.seq ?_
      refine G.region ?_
      refine G.op1 (op_move (Ev.t 1 (.g (.d (.sl 1 (List.map encS r4))))) rfl) rfl ⟨rfl, trivial⟩ trivial ?_
      refine G.op1 (op_move (Ev.t 8 (.g (.d (.sl 6 (List.map encApi_Version r2))))) rfl) rfl ⟨rfl, trivial⟩ trivial ?_
      obtain ⟨r38, hr38, hF⟩ := bindS hF
      refine G.op1 (op_callQ (sv := .one (bB r38)) cf23 (ct_cut_Check r4 r2 ([] : (List Api_Dep)) r38 hr38) rfl rfl (EvQL.cons (EvQ.g (Ev.t 52 (.g (.d (.sl 1 (List.map encS r4)))))) (EvQL.cons (EvQ.g (Ev.t 53 (.g (.d (.sl 6 (List.map encApi_Version r2)))))) (EvQL.cons (EvQ.g (Ev.n 3)) EvQL.nil))) rfl) rfl ⟨rfl, rfl, trivial⟩ trivial ?_
      refine G.op1 (op_not (Ev.t 54 (bB r38)) rfl) rfl ⟨rfl, trivial⟩ trivial ?_
      refine G.endOps ?_
      refine ifS hF (fun hc39 hF => ?_) (fun hc39 hF => ?_)
      · refine G.cond rfl (fun _ => ?_) (fun hx => by rw [hc39] at hx; cases hx)
        refine G.seq ?_
        refine G.region ?_
        refine G.op1 (op_assign (Ev.c _ rfl) rfl) rfl trivial trivial ?_
        refine G.endOps ?_
        cases hF
        exact G.ret1 Try.results5 (RVar.tmp 6 _) ⟨rfl, trivial⟩ trivial
      · refine G.cond rfl (fun hx => by rw [hc39] at hx; cases hx) (fun _ => ?_)
        refine G.skip ?_
        exact G.arr (J35 () hF) ⟨rfl, rfl, rfl, trivial⟩ trivial rfl
    refine G.block ?_
    refine G.keep (sl' := [(1, .one (.g (.d (.sl 1 (List.map encS r4))))), (7, .one (bB r1)), (8, .one (.g (.d (.sl 6 (List.map encApi_Version r2))))), (9, .one (.g (.d (.sl 3 (List.map encApi_Dep r3))))), (10, .one (bI .i64 0))]) (hp' := []) ⟨rfl, rfl, rfl, rfl, rfl, trivial⟩ trivial rfl ?_
    refine G.loopF (fun (v41 : Int) => ⟨[(1, .one (.g (.d (.sl 1 (List.map encS r4))))), (7, .one (bB r1)), (8, .one (.g (.d (.sl 6 (List.map encApi_Version r2))))), (9, .one (.g (.d (.sl 3 (List.map encApi_Dep r3))))), (10, .one (bI .i64 v41))], []⟩) hF rfl (fun K44 again43 v41 J42 hF => ?_)
    unfold law19_CutFewer_l6 at hF
    refine G.seq ?_
    refine G.seq ?_
    refine G.region ?_
    refine G.op1 (op_move (Ev.t 10 (bI .i64 v41)) rfl) rfl ⟨rfl, trivial⟩ trivial ?_
    refine G.op1 (op_move (Ev.t 1 (.g (.d (.sl 1 (List.map encS r4))))) rfl) rfl ⟨rfl, trivial⟩ trivial ?_
    refine G.op1 (OpL.cast (op_lenD Try.underlying23 (Ev.t 31 (.g (.d (.sl 1 (List.map encS r4))))) rfl) (by rw [List.length_map])) rfl ⟨rfl, trivial⟩ trivial ?_
    refine G.op1 (op_lss (Ev.t 30 (bI .i64 v41)) (Ev.t 32 (bI .i64 (r4.length : Int))) rfl) rfl ⟨rfl, rfl, trivial⟩ trivial ?_
    refine G.endOps ?_
    refine ifS hF (fun hc45 hF => ?_) (fun hc45 hF => ?_)
    · refine G.cond rfl (fun _ => ?_) (fun hx => by rw [hc45] at hx; cases hx)
      refine G.skip ?_
      refine G.seq ?_
      refine G.block ?_
      refine G.seq ?_
      refine G.region ?_
      refine G.op2 (op_buildRow (kk := 2036) Try.underlying23 ti9 rfl rfl) rfl trivial ⟨rfl, trivial⟩ ?_
      refine G.keep (sl' := [(1, .one (.g (.d (.sl 1 (List.map encS r4))))), (7, .one (bB r1)), (8, .one (.g (.d (.sl 6 (List.map encApi_Version r2))))), (9, .one (.g (.d (.sl 3 (List.map encApi_Dep r3))))), (10, .one (bI .i64 v41)), (30, .one (bI .i64 v41)), (31, .one (.g (.d (.sl 1 (List.map encS r4))))), (32, .one (bI .i64 (r4.length : Int))), (33, .one (bB (decide (v41 < (r4.length : Int))))), (36, .one (.own 2036 (List.map encS ([] : List ByteArray))))]) (hp' := [(2036, some (.row 9 1 (List.map encS ([] : List ByteArray)) true))]) ⟨rfl, rfl, rfl, rfl, rfl, rfl, rfl, rfl, rfl, rfl, trivial⟩ ⟨rfl, trivial⟩ rfl ?_
      refine G.op1 (op_move (Ev.t 1 (.g (.d (.sl 1 (List.map encS r4))))) rfl) rfl ⟨rfl, trivial⟩ trivial ?_
      refine G.op1 (op_move (Ev.t 10 (bI .i64 v41)) rfl) rfl ⟨rfl, trivial⟩ trivial ?_
      obtain ⟨l46, hl46, hF⟩ := bindS hF
      refine G.op1 (op_sliceD (lo := none) (hi := some v41) Try.underlying23 ti9 (sub_ok hl46 encS).1 (sub_ok hl46 encS).2.1 (sub_ok hl46 encS).2.2.1 (sub_ok hl46 encS).2.2.2 (Ev.t 37 (.g (.d (.sl 1 (List.map encS r4))))) EvO.none (EvO.some (Ev.t 38 (bI .i64 v41))) rfl) rfl ⟨rfl, rfl, trivial⟩ trivial ?_
      obtain ⟨l47, hl47, hF⟩ := bindS hF
      refine G.op2 (op_appendO Try.underlying23 ti9 rfl (app_map hl47 encS) (app_b1 hl47 encS) (app_b2 hl47 encS) (Ev.t 36 (.own 2036 (List.map encS ([] : List ByteArray)))) (Ev.t 39 (.g (.d (.sl 1 (List.map encS l46))))) rfl) rfl ⟨rfl, rfl, trivial⟩ ⟨rfl, trivial⟩ ?_
      refine G.op1 (op_assign (Ev.t 40 (.own 2036 (List.map encS l47))) rfl) rfl ⟨rfl, trivial⟩ trivial ?_
      refine G.endOps ?_
      refine G.seq ?_
      refine G.region ?_
      refine G.op1 (op_move (Ev.t 11 (.own 2036 (List.map encS l47))) rfl) rfl ⟨rfl, trivial⟩ trivial ?_
      refine G.op1 (op_move (Ev.t 1 (.g (.d (.sl 1 (List.map encS r4))))) rfl) rfl ⟨rfl, trivial⟩ trivial ?_
      refine G.op1 (op_move (Ev.t 10 (bI .i64 v41)) rfl) rfl ⟨rfl, trivial⟩ trivial ?_
      refine G.op1 (op_add (Ev.t 43 (bI .i64 v41)) (Ev.c _ rfl) rfl) rfl ⟨rfl, trivial⟩ trivial ?_
      obtain ⟨l48, hl48, hF⟩ := bindS hF
      refine G.op1 (op_sliceD (lo := some (IntKind.wrap .i64 (v41 + 1))) (hi := none) Try.underlying23 ti9 (sub_okE hl48 encS).1 (sub_okE hl48 encS).2.1 (Int.le_refl _) (sub_okE hl48 encS).2.2 (Ev.t 42 (.g (.d (.sl 1 (List.map encS r4))))) (EvO.some (Ev.t 44 (bI .i64 (IntKind.wrap .i64 (v41 + 1))))) EvO.none rfl) rfl ⟨rfl, rfl, trivial⟩ trivial ?_
      obtain ⟨l49, hl49, hF⟩ := bindS hF
      refine G.op2 (op_appendO Try.underlying23 ti9 rfl (app_map hl49 encS) (app_b1 hl49 encS) (app_b2 hl49 encS) (Ev.t 41 (.own 2036 (List.map encS l47))) (Ev.t 45 (.g (.d (.sl 1 (List.map encS l48))))) rfl) rfl ⟨rfl, rfl, trivial⟩ ⟨rfl, trivial⟩ ?_
      refine G.op1 (op_assign (Ev.t 46 (.own 2036 (List.map encS l49))) rfl) rfl ⟨rfl, trivial⟩ trivial ?_
      refine G.endOps ?_
      refine G.seq ?_
      refine G.region ?_
      refine G.op1 (op_move (Ev.t 11 (.own 2036 (List.map encS l49))) rfl) rfl ⟨rfl, trivial⟩ trivial ?_
      refine G.op1 (op_move (Ev.t 8 (.g (.d (.sl 6 (List.map encApi_Version r2))))) rfl) rfl ⟨rfl, trivial⟩ trivial ?_
      refine G.op1 (op_move (Ev.t 9 (.g (.d (.sl 3 (List.map encApi_Dep r3))))) rfl) rfl ⟨rfl, trivial⟩ trivial ?_
      obtain ⟨r50, hr50, hF⟩ := bindS hF
      refine G.op1 (op_callQ (sv := .one (bB r50)) cf23 (ct_cut_Check l49 r2 r3 r50 hr50) rfl rfl (EvQL.cons (EvQ.own (Ev.t 47 (.own 2036 (List.map encS l49)))) (EvQL.cons (EvQ.g (Ev.t 48 (.g (.d (.sl 6 (List.map encApi_Version r2)))))) (EvQL.cons (EvQ.g (Ev.t 49 (.g (.d (.sl 3 (List.map encApi_Dep r3)))))) EvQL.nil))) rfl) rfl ⟨rfl, rfl, rfl, trivial⟩ ⟨rfl, trivial⟩ ?_
      refine G.op1 (op_not (Ev.t 50 (bB r50)) rfl) rfl ⟨rfl, trivial⟩ trivial ?_
      refine G.endOps ?_
      refine ifS hF (fun hc51 hF => ?_) (fun hc51 hF => ?_)
      · refine G.cond rfl (fun _ => ?_) (fun hx => by rw [hc51] at hx; cases hx)
        refine G.seq ?_
        refine G.region ?_
        refine G.op1 (op_assign (Ev.c _ rfl) rfl) rfl trivial trivial ?_
        refine G.endOps ?_
        cases hF
        exact G.ret1 Try.results5 (RVar.tmp 6 _) ⟨rfl, trivial⟩ trivial
      · refine G.cond rfl (fun hx => by rw [hc51] at hx; cases hx) (fun _ => ?_)
        refine G.skip ?_
        refine G.endBlock ?_
        refine G.region ?_
        refine G.op1 (op_move (Ev.t 10 (bI .i64 v41)) rfl) rfl ⟨rfl, trivial⟩ trivial ?_
        refine G.op1 (op_add (Ev.t 34 (bI .i64 v41)) (Ev.c _ rfl) rfl) rfl ⟨rfl, trivial⟩ trivial ?_
        refine G.op1 (op_assign (Ev.t 35 (bI .i64 (IntKind.wrap .i64 (v41 + 1)))) rfl) rfl ⟨rfl, trivial⟩ trivial ?_
        refine G.endOps ?_
        exact G.arr (J42 (IntKind.wrap .i64 (v41 + 1)) hF) ⟨rfl, rfl, rfl, rfl, rfl, trivial⟩ trivial rfl
    · refine G.cond rfl (fun hx => by rw [hc45] at hx; cases hx) (fun _ => ?_)
      refine G.exit ?_
      refine GX.c ?_
      refine GX.q ?_
      refine GX.bYes ?_
      exact G.arr (J40 () hF) ⟨rfl, rfl, rfl, rfl, trivial⟩ trivial rfl
  · refine G.cond rfl (fun hx => by rw [hc36] at hx; cases hx) (fun _ => ?_)
    refine G.skip ?_
    exact G.arr (J35 () hF) ⟨rfl, rfl, rfl, trivial⟩ trivial rfl


end Go.Ark
