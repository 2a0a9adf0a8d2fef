/- Walks, printed by a program of mine: each function of the program computes the typed function of its name. Conditions: none. -/
import Derived.Test.YtimklpfnpmjdcaaWCutTells1
namespace Go.Ark
open Go Go.Ab Go.RowKit Go.Lib Go.Proofs

set_option maxRecDepth 20000 in
set_option maxHeartbeats 2000000 in
theorem ct_law19_row (l_0 : (List Api_Dep)) (r : (List Api_Dep)) (hF : law19_row l_0 = some r) : Ct Try.prog 11 [.g (.d (.sl 3 (List.map encApi_Dep l_0)))] (.one (.d (.sl 3 (List.map encApi_Dep r)))) := by
  unfold law19_row at hF
  refine Ct.intro Try.func11 rfl Try.ntmps11 rfl rfl fun M w => ?_
  refine G.seq ?_
  refine G.region ?_
  refine G.op1 (op_assign (Ev.n 3) rfl) rfl trivial trivial ?_
  refine G.endOps ?_
  refine G.seq ?_
  refine G.region ?_
  refine G.op1 (op_assign (Ev.n 3) rfl) rfl trivial trivial ?_
  refine G.endOps ?_
  refine G.seq ?_
  refine G.seq ?_
  refine G.region ?_
  refine G.op1 (op_assign (Ev.c _ rfl) rfl) rfl trivial trivial ?_
  refine G.endOps ?_
  refine G.joinC (T := (List Api_Dep)) (fun y1 => ⟨[(3, .one (.g (.d (.sl 3 (List.map encApi_Dep y1)))))], []⟩) (fun y1 => law19_row_k1 y1 = some r) (fun y1 hF => ?_) (fun J2 => ?_)
  · unfold law19_row_k1 at hF
    refine G.seq ?_
    refine G.region ?_
    refine G.op1 (op_move (Ev.t 3 (.g (.d (.sl 3 (List.map encApi_Dep y1))))) rfl) rfl ⟨rfl, trivial⟩ trivial ?_
    refine G.op1 (op_assign (Ev.t 29 (.g (.d (.sl 3 (List.map encApi_Dep y1))))) rfl) rfl ⟨rfl, trivial⟩ trivial ?_
    refine G.endOps ?_
    cases hF
    exact G.ret1 Try.results11 (RVar.tmp 2 _) ⟨rfl, trivial⟩ trivial
  refine G.block ?_
  refine G.keep (sl' := [(0, .one (.g (.d (.sl 3 (List.map encApi_Dep l_0))))), (3, .one (.g (.d (.sl 3 (List.map encApi_Dep ([] : (List Api_Dep))))))), (4, .one (bI .i64 0))]) (hp' := []) ⟨rfl, rfl, rfl, trivial⟩ trivial rfl ?_
  refine G.loopF (fun (v3 : (List Api_Dep) × Int) => ⟨[(0, .one (.g (.d (.sl 3 (List.map encApi_Dep l_0))))), (3, .one (.g (.d (.sl 3 (List.map encApi_Dep v3.1))))), (4, .one (bI .i64 v3.2))], []⟩) hF rfl (fun K6 again5 v3 J4 hF => ?_)
  unfold law19_row_l2 at hF
  refine G.seq ?_
  refine G.seq ?_
  refine G.joinC (T := Bool) (fun y7 => ⟨[(0, .one (.g (.d (.sl 3 (List.map encApi_Dep l_0))))), (3, .one (.g (.d (.sl 3 (List.map encApi_Dep v3.1))))), (4, .one (bI .i64 v3.2)), (12, .one (bB y7))], []⟩) (fun y7 => law19_row_k3 l_0 again5 v3 y7 = some r) (fun y7 hF => ?_) (fun J13 => ?_)
  · unfold law19_row_k3 at hF
    refine ifS hF (fun hc8 hF => ?_) (fun hc8 hF => ?_)
    · refine G.cond rfl (fun _ => ?_) (fun hx => by rw [hc8] at hx; cases hx)
      refine G.skip ?_
      refine G.seq ?_
      refine G.block ?_
      obtain ⟨x9, hx9, hF⟩ := bindS hF
      obtain ⟨r10, hr10, hF⟩ := bindS hF
      obtain ⟨x11, hx11, hF⟩ := bindS hF
      obtain ⟨r12, hr12, hF⟩ := bindS hF
      refine G.drawn (effs := [⟨[(3, .one (.g (.d (.sl 3 (List.map encApi_Dep v3.1)))))], [], [(15, .one (.g (.d (.sl 3 (List.map encApi_Dep v3.1)))))], []⟩, ⟨[(0, .one (.g (.d (.sl 3 (List.map encApi_Dep l_0)))))], [], [(16, .one (.g (.d (.sl 3 (List.map encApi_Dep l_0)))))], []⟩, ⟨[(4, .one (bI .i64 v3.2))], [], [(17, .one (bI .i64 v3.2))], []⟩, ⟨[(16, .one (.g (.d (.sl 3 (List.map encApi_Dep l_0))))), (17, .one (bI .i64 v3.2))], [], [(18, .one (.ep [.v (.string x9.Key), .v (.int .i64 x9.Stamp.N), .v (.int .i64 x9.Stamp.Site)]))], []⟩, ⟨[(18, .one (.ep [.v (.string x9.Key), .v (.int .i64 x9.Stamp.N), .v (.int .i64 x9.Stamp.Site)]))], [], [(19, .one (.ep [.v (.string x9.Key), .v (.int .i64 x9.Stamp.N), .v (.int .i64 x9.Stamp.Site)]))], []⟩, ⟨[(19, .one (.ep [.v (.string x9.Key), .v (.int .i64 x9.Stamp.N), .v (.int .i64 x9.Stamp.Site)]))], [], [(20, .one (bS x9.Key))], []⟩, ⟨[(20, .one (bS x9.Key))], [], [(21, .one (bS r10))], []⟩, ⟨[(0, .one (.g (.d (.sl 3 (List.map encApi_Dep l_0)))))], [], [(22, .one (.g (.d (.sl 3 (List.map encApi_Dep l_0)))))], []⟩, ⟨[(4, .one (bI .i64 v3.2))], [], [(23, .one (bI .i64 v3.2))], []⟩, ⟨[(22, .one (.g (.d (.sl 3 (List.map encApi_Dep l_0))))), (23, .one (bI .i64 v3.2))], [], [(24, .one (.ep [.v (.string x11.Key), .v (.int .i64 x11.Stamp.N), .v (.int .i64 x11.Stamp.Site)]))], []⟩, ⟨[(24, .one (.ep [.v (.string x11.Key), .v (.int .i64 x11.Stamp.N), .v (.int .i64 x11.Stamp.Site)]))], [], [(25, .one (.ep [.v (.int .i64 x11.Stamp.N), .v (.int .i64 x11.Stamp.Site)]))], []⟩, ⟨[(25, .one (.ep [.v (.int .i64 x11.Stamp.N), .v (.int .i64 x11.Stamp.Site)]))], [], [(26, .one (.g (.agg [.v (.int .i64 x11.Stamp.N), .v (.int .i64 x11.Stamp.Site)])))], []⟩, ⟨[(21, .one (bS r10)), (26, .one (.g (.agg [.v (.int .i64 x11.Stamp.N), .v (.int .i64 x11.Stamp.Site)])))], [], [(27, .one (.g (.agg [.v (.string r10), .v (.int .i64 x11.Stamp.N), .v (.int .i64 x11.Stamp.Site)])))], []⟩, ⟨[(15, .one (.g (.d (.sl 3 (List.map encApi_Dep v3.1))))), (27, .one (.g (.agg [.v (.string r10), .v (.int .i64 x11.Stamp.N), .v (.int .i64 x11.Stamp.Site)])))], [], [(28, .one (.g (.d (.sl 3 (List.map encApi_Dep r12)))))], []⟩, ⟨[(28, .one (.g (.d (.sl 3 (List.map encApi_Dep r12)))))], [], [(3, .one (.g (.d (.sl 3 (List.map encApi_Dep r12)))))], []⟩]) (deps := [[], [], [], [1, 2], [1, 2, 3], [1, 2, 3, 4], [1, 2, 3, 4, 5], [], [], [7, 8], [7, 8, 9], [7, 8, 9, 10], [1, 2, 3, 4, 5, 6, 7, 8, 9, 10, 11], [0, 1, 2, 3, 4, 5, 6, 7, 8, 9, 10, 11, 12], [0, 1, 2, 3, 4, 5, 6, 7, 8, 9, 10, 11, 12, 13]]) (sl' := [(0, .one (.g (.d (.sl 3 (List.map encApi_Dep l_0))))), (3, .one (.g (.d (.sl 3 (List.map encApi_Dep r12))))), (4, .one (bI .i64 v3.2))]) (hp' := []) follows rfl rfl rfl ⟨⟨⟨rfl, rfl⟩, trivial⟩, trivial, ⟨rfl, trivial⟩, trivial, ⟨rfl, trivial⟩, trivial, ⟨rfl, rfl, trivial⟩, trivial, ⟨rfl, trivial⟩, trivial, ⟨rfl, trivial⟩, trivial, ⟨rfl, trivial⟩, trivial, ⟨rfl, trivial⟩, trivial, ⟨rfl, trivial⟩, trivial, ⟨rfl, rfl, trivial⟩, trivial, ⟨rfl, trivial⟩, trivial, ⟨rfl, trivial⟩, trivial, ⟨rfl, rfl, trivial⟩, trivial, ⟨rfl, rfl, trivial⟩, trivial, ⟨rfl, trivial⟩, trivial, trivial⟩ ⟨OpW.plain (op_move (Ev.t 3 (.g (.d (.sl 3 (List.map encApi_Dep v3.1))))) rfl) rfl rfl, OpW.plain (op_move (Ev.t 0 (.g (.d (.sl 3 (List.map encApi_Dep l_0))))) rfl) rfl rfl, OpW.plain (op_move (Ev.t 4 (bI .i64 v3.2)) rfl) rfl rfl, OpW.plain (op_index (cs := [.v (.string x9.Key), .v (.int .i64 x9.Stamp.N), .v (.int .i64 x9.Stamp.Site)]) Try.underlying24 ti47 (idx_ok hx9).1 (idx_get hx9 encApi_Dep) (Ev.t 16 (.g (.d (.sl 3 (List.map encApi_Dep l_0))))) (Ev.t 17 (bI .i64 v3.2)) rfl) rfl rfl, OpW.plain (op_fieldE (cs' := [.v (.string x9.Key), .v (.int .i64 x9.Stamp.N), .v (.int .i64 x9.Stamp.Site)]) Try.underlying47 rfl ti9 (by decide) rfl (Ev.t 18 (.ep [.v (.string x9.Key), .v (.int .i64 x9.Stamp.N), .v (.int .i64 x9.Stamp.Site)])) rfl) rfl rfl, OpW.plain (op_load1E (c := .v (.string x9.Key)) Try.underlying9 rfl rfl (Ev.t 19 (.ep [.v (.string x9.Key), .v (.int .i64 x9.Stamp.N), .v (.int .i64 x9.Stamp.Site)])) rfl) rfl rfl, OpW.plain (op_callQ (sv := .one (bS r10)) cf30 (ct_law19_short x9.Key r10 hr10) rfl rfl (EvQL.cons (EvQ.g (Ev.t 20 (bS x9.Key))) EvQL.nil) rfl) rfl rfl, OpW.plain (op_move (Ev.t 0 (.g (.d (.sl 3 (List.map encApi_Dep l_0))))) rfl) rfl rfl, OpW.plain (op_move (Ev.t 4 (bI .i64 v3.2)) rfl) rfl rfl, OpW.plain (op_index (cs := [.v (.string x11.Key), .v (.int .i64 x11.Stamp.N), .v (.int .i64 x11.Stamp.Site)]) Try.underlying24 ti47 (idx_ok hx11).1 (idx_get hx11 encApi_Dep) (Ev.t 22 (.g (.d (.sl 3 (List.map encApi_Dep l_0))))) (Ev.t 23 (bI .i64 v3.2)) rfl) rfl rfl, OpW.plain (op_fieldE (cs' := [.v (.int .i64 x11.Stamp.N), .v (.int .i64 x11.Stamp.Site)]) Try.underlying47 rfl ti35 (by decide) rfl (Ev.t 24 (.ep [.v (.string x11.Key), .v (.int .i64 x11.Stamp.N), .v (.int .i64 x11.Stamp.Site)])) rfl) rfl rfl, OpW.plain (op_loadAE (ds := [.v (.int .i64 x11.Stamp.N), .v (.int .i64 x11.Stamp.Site)]) Try.underlying35 rfl ti35 rfl (Ev.t 25 (.ep [.v (.int .i64 x11.Stamp.N), .v (.int .i64 x11.Stamp.Site)])) rfl) rfl rfl, OpW.plain (op_build (zs := [.v (.string ByteArray.empty), .v (.int .i64 0), .v (.int .i64 0)]) (ds := [.v (.string r10), .v (.int .i64 x11.Stamp.N), .v (.int .i64 x11.Stamp.Site)]) Try.underlying47 ti47 (pl47 _ Try.underlying47) ⟨.v _ rfl, .v _ rfl, .v _ rfl, trivial⟩ (EvP.cons (Ev.t 21 (bS r10)) (EvP.cons (Ev.t 26 (.g (.agg [.v (.int .i64 x11.Stamp.N), .v (.int .i64 x11.Stamp.Site)]))) EvP.nil)) rfl rfl) rfl rfl, OpW.plain (op_call (sv := .one (.g (.d (.sl 3 (List.map encApi_Dep r12))))) cf31 (ct_ref04_Add v3.1 (Api_Dep.mk r10 x11.Stamp) r12 hr12) rfl (EvL.cons (Ev.t 15 (.g (.d (.sl 3 (List.map encApi_Dep v3.1))))) (EvL.cons (Ev.t 27 (.g (.agg [.v (.string r10), .v (.int .i64 x11.Stamp.N), .v (.int .i64 x11.Stamp.Site)]))) EvL.nil)) rfl) rfl rfl, OpW.plain (op_assign (Ev.t 28 (.g (.d (.sl 3 (List.map encApi_Dep r12))))) rfl) rfl rfl, trivial⟩ ⟨rfl, rfl, rfl, trivial⟩ trivial rfl ?_
      refine G.endBlock ?_
      refine G.region ?_
      refine G.op1 (op_move (Ev.t 4 (bI .i64 v3.2)) rfl) rfl ⟨rfl, trivial⟩ trivial ?_
      refine G.op1 (op_add (Ev.t 13 (bI .i64 v3.2)) (Ev.c _ rfl) rfl) rfl ⟨rfl, trivial⟩ trivial ?_
      refine G.op1 (op_assign (Ev.t 14 (bI .i64 (IntKind.wrap .i64 (v3.2 + 1)))) rfl) rfl ⟨rfl, trivial⟩ trivial ?_
      refine G.endOps ?_
      exact G.arr (J4 (r12, IntKind.wrap .i64 (v3.2 + 1)) hF) ⟨rfl, rfl, rfl, trivial⟩ trivial rfl
    · refine G.cond rfl (fun hx => by rw [hc8] at hx; cases hx) (fun _ => ?_)
      refine G.exit ?_
      refine GX.c ?_
      refine GX.q ?_
      refine GX.bYes ?_
      exact G.arr (J2 v3.1 hF) ⟨rfl, trivial⟩ trivial rfl
  refine G.region ?_
  refine G.op1 (op_move (Ev.t 4 (bI .i64 v3.2)) rfl) rfl ⟨rfl, trivial⟩ trivial ?_
  refine G.op1 (op_move (Ev.t 0 (.g (.d (.sl 3 (List.map encApi_Dep l_0))))) rfl) rfl ⟨rfl, trivial⟩ trivial ?_
  refine G.op1 (OpL.cast (op_lenD Try.underlying24 (Ev.t 6 (.g (.d (.sl 3 (List.map encApi_Dep l_0))))) rfl) (by rw [List.length_map])) rfl ⟨rfl, trivial⟩ trivial ?_
  refine G.op1 (op_lss (Ev.t 5 (bI .i64 v3.2)) (Ev.t 7 (bI .i64 (l_0.length : Int))) rfl) rfl ⟨rfl, rfl, trivial⟩ trivial ?_
  refine G.op1 (op_move (Ev.t 8 (bB (decide (v3.2 < (l_0.length : Int))))) rfl) rfl ⟨rfl, trivial⟩ trivial ?_
  refine ifS hF (fun hc14 hF => ?_) (fun hc14 hF => ?_)
  · refine G.known (t := 9) hc14 rfl ?_
    refine G.opG1 (op_move (Ev.t 4 (bI .i64 v3.2)) rfl) rfl rfl rfl ⟨rfl, trivial⟩ trivial ?_
    refine G.opG1 (op_lss (Ev.t 10 (bI .i64 v3.2)) (Ev.c _ rfl) rfl) rfl rfl rfl ⟨rfl, trivial⟩ trivial ?_
    refine G.op1 (op_pickT (Ev.t 9 (bB true)) (Ev.t 11 (bB (decide (v3.2 < 6)))) rfl) rfl ⟨rfl, rfl, trivial⟩ trivial ?_
    refine G.endOps ?_
    exact G.arr (J13 (decide (v3.2 < 6)) hF) ⟨rfl, rfl, rfl, rfl, trivial⟩ trivial rfl
  · refine G.known (t := 9) hc14 rfl ?_
    refine G.opN1 rfl rfl rfl rfl rfl ?_
    refine G.opN1 rfl rfl rfl rfl rfl ?_
    refine G.op1 (op_pickF (Ev.t 9 (bB false)) (Ev.c _ rfl) rfl) rfl ⟨rfl, trivial⟩ trivial ?_
    refine G.endOps ?_
    exact G.arr (J13 false hF) ⟨rfl, rfl, rfl, rfl, trivial⟩ trivial rfl


set_option maxRecDepth 20000 in
set_option maxHeartbeats 2000000 in
theorem ct_law19_few (l_0 : (List Api_Version)) (r : (List Api_Version)) (hF : law19_few l_0 = some r) : Ct Try.prog 10 [.g (.d (.sl 6 (List.map encApi_Version l_0)))] (.one (.d (.sl 6 (List.map encApi_Version r)))) := by
  unfold law19_few at hF
  refine Ct.intro Try.func10 rfl Try.ntmps10 rfl rfl fun M w => ?_
  refine G.seq ?_
  refine G.region ?_
  refine G.op1 (op_assign (Ev.n 6) rfl) rfl trivial trivial ?_
  refine G.endOps ?_
  refine G.seq ?_
  refine G.region ?_
  refine G.op2 (op_assignRow (E := 42) (size := 6) (k := 2003) (ex := false) rfl rfl) rfl trivial ⟨rfl, trivial⟩ ?_
  refine G.endOps ?_
  refine G.seq ?_
  refine G.seq ?_
  refine G.region ?_
  refine G.op1 (op_assign (Ev.c _ rfl) rfl) rfl trivial trivial ?_
  refine G.endOps ?_
  refine G.joinC (T := (List Api_Version)) (fun y1 => ⟨[(3, .one (.own 2003 (List.map encApi_Version y1)))], [(2003, some (.row 42 6 (List.map encApi_Version y1) false))]⟩) (fun y1 => law19_few_k1 y1 = some r) (fun y1 hF => ?_) (fun J2 => ?_)
  · unfold law19_few_k1 at hF
    refine G.seq ?_
    refine G.region ?_
    refine G.op1 (op_move (Ev.t 3 (.own 2003 (List.map encApi_Version y1))) rfl) rfl ⟨rfl, trivial⟩ trivial ?_
    refine G.op1 (op_assign (Ev.t 32 (.own 2003 (List.map encApi_Version y1))) rfl) rfl ⟨rfl, trivial⟩ trivial ?_
    refine G.endOps ?_
    refine G.view (t := 2) rfl rfl ?_
    cases hF
    exact G.ret1 Try.results10 (RVar.tmp 2 _) ⟨rfl, trivial⟩ trivial
  refine G.block ?_
  refine G.keep (sl' := [(0, .one (.g (.d (.sl 6 (List.map encApi_Version l_0))))), (3, .one (.own 2003 (List.map encApi_Version ([] : (List Api_Version))))), (4, .one (bI .i64 0))]) (hp' := [(2003, some (.row 42 6 (List.map encApi_Version ([] : (List Api_Version))) false))]) ⟨rfl, rfl, rfl, trivial⟩ ⟨rfl, trivial⟩ rfl ?_
  refine G.loopF (fun (v3 : Int × (List Api_Version)) => ⟨[(0, .one (.g (.d (.sl 6 (List.map encApi_Version l_0))))), (3, .one (.own 2003 (List.map encApi_Version v3.2))), (4, .one (bI .i64 v3.1))], [(2003, some (.row 42 6 (List.map encApi_Version v3.2) false))]⟩) hF rfl (fun K6 again5 v3 J4 hF => ?_)
  unfold law19_few_l2 at hF
  refine G.seq ?_
  refine G.seq ?_
  refine G.joinC (T := Bool) (fun y7 => ⟨[(0, .one (.g (.d (.sl 6 (List.map encApi_Version l_0))))), (3, .one (.own 2003 (List.map encApi_Version v3.2))), (4, .one (bI .i64 v3.1)), (13, .one (bB y7))], [(2003, some (.row 42 6 (List.map encApi_Version v3.2) false))]⟩) (fun y7 => law19_few_k3 l_0 again5 v3 y7 = some r) (fun y7 hF => ?_) (fun J13 => ?_)
  · unfold law19_few_k3 at hF
    refine ifS hF (fun hc8 hF => ?_) (fun hc8 hF => ?_)
    · refine G.cond rfl (fun _ => ?_) (fun hx => by rw [hc8] at hx; cases hx)
      refine G.skip ?_
      refine G.seq ?_
      refine G.block ?_
      refine G.seq ?_
      refine G.region ?_
      refine G.op1 (op_move (Ev.t 0 (.g (.d (.sl 6 (List.map encApi_Version l_0))))) rfl) rfl ⟨rfl, trivial⟩ trivial ?_
      refine G.op1 (op_move (Ev.t 4 (bI .i64 v3.1)) rfl) rfl ⟨rfl, trivial⟩ trivial ?_
      obtain ⟨x9, hx9, hF⟩ := bindS hF
      refine G.op1 (op_index (cs := [.v (.string x9.Key), .v (.string x9.Value), .v (.bool x9.Gone), .v (.int .i64 x9.Stamp.N), .v (.int .i64 x9.Stamp.Site), .sl 3 (List.map encApi_Dep x9.Past)]) Try.underlying22 ti42 (idx_ok hx9).1 (idx_get hx9 encApi_Version) (Ev.t 16 (.g (.d (.sl 6 (List.map encApi_Version l_0))))) (Ev.t 17 (bI .i64 v3.1)) rfl) rfl ⟨rfl, rfl, trivial⟩ trivial ?_
      refine G.op1 (op_loadAE (ds := [.v (.string x9.Key), .v (.string x9.Value), .v (.bool x9.Gone), .v (.int .i64 x9.Stamp.N), .v (.int .i64 x9.Stamp.Site), .sl 3 (List.map encApi_Dep x9.Past)]) Try.underlying42 rfl ti42 rfl (Ev.t 18 (.ep [.v (.string x9.Key), .v (.string x9.Value), .v (.bool x9.Gone), .v (.int .i64 x9.Stamp.N), .v (.int .i64 x9.Stamp.Site), .sl 3 (List.map encApi_Dep x9.Past)])) rfl) rfl ⟨rfl, trivial⟩ trivial ?_
      refine G.op2 (op_alloc (k := 1005) (cs := [bS ByteArray.empty, bS ByteArray.empty, bB false, bI .i64 0, bI .i64 0, .g (.d (.sl 3 (List.map encApi_Dep ([] : (List Api_Dep)))))]) ti42 ⟨.v _ rfl, .v _ rfl, .v _ rfl, .v _ rfl, .v _ rfl, .n 3, trivial⟩ rfl) rfl trivial ⟨rfl, trivial⟩ ?_
      refine G.op3 (op_storeA (cs' := [bS x9.Key, bS x9.Value, bB x9.Gone, bI .i64 x9.Stamp.N, bI .i64 x9.Stamp.Site, .g (.d (.sl 3 (List.map encApi_Dep x9.Past)))]) ti42 rfl rfl (Ev.t 5 (.ptr 1005 0)) (Ev.t 19 (.g (.agg [.v (.string x9.Key), .v (.string x9.Value), .v (.bool x9.Gone), .v (.int .i64 x9.Stamp.N), .v (.int .i64 x9.Stamp.Site), .sl 3 (List.map encApi_Dep x9.Past)])))) rfl ⟨rfl, rfl, trivial⟩ ⟨rfl, trivial⟩ ?_
      refine G.endOps ?_
      refine G.seq ?_
      refine G.region ?_
      refine G.op1 (op_fieldP (off' := 0) Try.underlying42 rfl ti9 (by decide) rfl (Ev.t 5 (.ptr 1005 0)) rfl) rfl ⟨rfl, trivial⟩ trivial ?_
      refine G.op1 (op_load1P (c := bS x9.Key) Try.underlying9 rfl rfl (Ev.t 20 (.ptr 1005 0)) rfl) rfl ⟨rfl, trivial⟩ ⟨rfl, trivial⟩ ?_
      obtain ⟨r10, hr10, hF⟩ := bindS hF
      refine G.op1 (op_callQ (sv := .one (bS r10)) cf30 (ct_law19_short x9.Key r10 hr10) rfl rfl (EvQL.cons (EvQ.g (Ev.t 21 (bS x9.Key))) EvQL.nil) rfl) rfl ⟨rfl, trivial⟩ trivial ?_
      refine G.op1 (op_fieldP (off' := 0) Try.underlying42 rfl ti9 (by decide) rfl (Ev.t 5 (.ptr 1005 0)) rfl) rfl ⟨rfl, trivial⟩ trivial ?_
      refine G.op3 (op_store1 (cs' := [bS r10, bS x9.Value, bB x9.Gone, bI .i64 x9.Stamp.N, bI .i64 x9.Stamp.Site, .g (.d (.sl 3 (List.map encApi_Dep x9.Past)))]) (c := bS r10) trivial ti9 rfl rfl (Ev.t 23 (.ptr 1005 0)) (Ev.t 22 (bS r10))) rfl ⟨rfl, rfl, trivial⟩ ⟨rfl, trivial⟩ ?_
      refine G.endOps ?_
      refine G.seq ?_
      refine G.region ?_
      refine G.op1 (op_fieldP (off' := 5) Try.underlying42 rfl ti24 (by decide) rfl (Ev.t 5 (.ptr 1005 0)) rfl) rfl ⟨rfl, trivial⟩ trivial ?_
      refine G.op1 (op_load1P (c := .g (.d (.sl 3 (List.map encApi_Dep x9.Past)))) Try.underlying24 rfl rfl (Ev.t 24 (.ptr 1005 5)) rfl) rfl ⟨rfl, trivial⟩ ⟨rfl, trivial⟩ ?_
      obtain ⟨r11, hr11, hF⟩ := bindS hF
      refine G.op1 (op_call (sv := .one (.g (.d (.sl 3 (List.map encApi_Dep r11))))) cf11 (ct_law19_row x9.Past r11 hr11) rfl (EvL.cons (Ev.t 25 (.g (.d (.sl 3 (List.map encApi_Dep x9.Past))))) EvL.nil) rfl) rfl ⟨rfl, trivial⟩ trivial ?_
      refine G.op1 (op_fieldP (off' := 5) Try.underlying42 rfl ti24 (by decide) rfl (Ev.t 5 (.ptr 1005 0)) rfl) rfl ⟨rfl, trivial⟩ trivial ?_
      refine G.op3 (op_store1 (cs' := [bS r10, bS x9.Value, bB x9.Gone, bI .i64 x9.Stamp.N, bI .i64 x9.Stamp.Site, .g (.d (.sl 3 (List.map encApi_Dep r11)))]) (c := .g (.d (.sl 3 (List.map encApi_Dep r11)))) trivial ti24 rfl rfl (Ev.t 27 (.ptr 1005 5)) (Ev.t 26 (.g (.d (.sl 3 (List.map encApi_Dep r11)))))) rfl ⟨rfl, rfl, trivial⟩ ⟨rfl, trivial⟩ ?_
      refine G.endOps ?_
      refine G.region ?_
      refine G.op1 (op_move (Ev.t 3 (.own 2003 (List.map encApi_Version v3.2))) rfl) rfl ⟨rfl, trivial⟩ trivial ?_
      refine G.op1 (op_loadAP (ds := [.v (.string r10), .v (.string x9.Value), .v (.bool x9.Gone), .v (.int .i64 x9.Stamp.N), .v (.int .i64 x9.Stamp.Site), .sl 3 (List.map encApi_Dep r11)]) Try.underlying42 rfl ti42 rfl (Ev.t 5 (.ptr 1005 0)) rfl) rfl ⟨rfl, trivial⟩ ⟨rfl, trivial⟩ ?_
      refine G.op1 (op_buildSlice (es := List.map encApi_Version [(Api_Version.mk r10 x9.Value x9.Gone x9.Stamp r11)]) Try.underlying22 ti42 rfl rfl (EvP.cons (Ev.t 29 (.g (.agg [.v (.string r10), .v (.string x9.Value), .v (.bool x9.Gone), .v (.int .i64 x9.Stamp.N), .v (.int .i64 x9.Stamp.Site), .sl 3 (List.map encApi_Dep r11)]))) EvP.nil) rfl rfl (by simp [encApi_Version]) rfl) rfl ⟨rfl, trivial⟩ trivial ?_
      obtain ⟨l12, hl12, hF⟩ := bindS hF
      refine G.op2 (op_appendO Try.underlying22 ti42 rfl (app_map hl12 encApi_Version) (app_b1 hl12 encApi_Version) (app_b2 hl12 encApi_Version) (Ev.t 28 (.own 2003 (List.map encApi_Version v3.2))) (Ev.t 30 (.g (.d (.sl 6 (List.map encApi_Version ([(Api_Version.mk r10 x9.Value x9.Gone x9.Stamp r11)])))))) rfl) rfl ⟨rfl, rfl, trivial⟩ ⟨rfl, trivial⟩ ?_
      refine G.op1 (op_assign (Ev.t 31 (.own 2003 (List.map encApi_Version l12))) rfl) rfl ⟨rfl, trivial⟩ trivial ?_
      refine G.endOps ?_
      refine G.endBlock ?_
      refine G.region ?_
      refine G.op1 (op_move (Ev.t 4 (bI .i64 v3.1)) rfl) rfl ⟨rfl, trivial⟩ trivial ?_
      refine G.op1 (op_add (Ev.t 14 (bI .i64 v3.1)) (Ev.c _ rfl) rfl) rfl ⟨rfl, trivial⟩ trivial ?_
      refine G.op1 (op_assign (Ev.t 15 (bI .i64 (IntKind.wrap .i64 (v3.1 + 1)))) rfl) rfl ⟨rfl, trivial⟩ trivial ?_
      refine G.endOps ?_
      exact G.arr (J4 (IntKind.wrap .i64 (v3.1 + 1), l12) hF) ⟨rfl, rfl, rfl, trivial⟩ ⟨rfl, trivial⟩ rfl
    · refine G.cond rfl (fun hx => by rw [hc8] at hx; cases hx) (fun _ => ?_)
      refine G.exit ?_
      refine GX.c ?_
      refine GX.q ?_
      refine GX.bYes ?_
      exact G.arr (J2 v3.2 hF) ⟨rfl, trivial⟩ ⟨rfl, trivial⟩ rfl
  refine G.region ?_
  refine G.op1 (op_move (Ev.t 4 (bI .i64 v3.1)) rfl) rfl ⟨rfl, trivial⟩ trivial ?_
  refine G.op1 (op_move (Ev.t 0 (.g (.d (.sl 6 (List.map encApi_Version l_0))))) rfl) rfl ⟨rfl, trivial⟩ trivial ?_
  refine G.op1 (OpL.cast (op_lenD Try.underlying22 (Ev.t 7 (.g (.d (.sl 6 (List.map encApi_Version l_0))))) rfl) (by rw [List.length_map])) rfl ⟨rfl, trivial⟩ trivial ?_
  refine G.op1 (op_lss (Ev.t 6 (bI .i64 v3.1)) (Ev.t 8 (bI .i64 (l_0.length : Int))) rfl) rfl ⟨rfl, rfl, trivial⟩ trivial ?_
  refine G.op1 (op_move (Ev.t 9 (bB (decide (v3.1 < (l_0.length : Int))))) rfl) rfl ⟨rfl, trivial⟩ trivial ?_
  refine ifS hF (fun hc14 hF => ?_) (fun hc14 hF => ?_)
  · refine G.known (t := 10) hc14 rfl ?_
    refine G.opG1 (op_move (Ev.t 4 (bI .i64 v3.1)) rfl) rfl rfl rfl ⟨rfl, trivial⟩ trivial ?_
    refine G.opG1 (op_lss (Ev.t 11 (bI .i64 v3.1)) (Ev.c _ rfl) rfl) rfl rfl rfl ⟨rfl, trivial⟩ trivial ?_
    refine G.op1 (op_pickT (Ev.t 10 (bB true)) (Ev.t 12 (bB (decide (v3.1 < 6)))) rfl) rfl ⟨rfl, rfl, trivial⟩ trivial ?_
    refine G.endOps ?_
    exact G.arr (J13 (decide (v3.1 < 6)) hF) ⟨rfl, rfl, rfl, rfl, trivial⟩ ⟨rfl, trivial⟩ rfl
  · refine G.known (t := 10) hc14 rfl ?_
    refine G.opN1 rfl rfl rfl rfl rfl ?_
    refine G.opN1 rfl rfl rfl rfl rfl ?_
    refine G.op1 (op_pickF (Ev.t 10 (bB false)) (Ev.c _ rfl) rfl) rfl ⟨rfl, trivial⟩ trivial ?_
    refine G.endOps ?_
    exact G.arr (J13 false hF) ⟨rfl, rfl, rfl, rfl, trivial⟩ ⟨rfl, trivial⟩ rfl


set_option maxRecDepth 20000 in
set_option maxHeartbeats 2000000 in
theorem ct_law19_keys (l_0 : (List ByteArray)) (r : (List ByteArray)) (hF : law19_keys l_0 = some r) : Ct Try.prog 12 [.g (.d (.sl 1 (List.map encS l_0)))] (.one (.d (.sl 1 (List.map encS r)))) := by
  unfold law19_keys at hF
  refine Ct.intro Try.func12 rfl Try.ntmps12 rfl rfl fun M w => ?_
  refine G.seq ?_
  refine G.region ?_
  refine G.op1 (op_assign (Ev.n 1) rfl) rfl trivial trivial ?_
  refine G.endOps ?_
  refine G.seq ?_
  refine G.seq ?_
  refine G.region ?_
  refine G.op1 (op_move (Ev.t 0 (.g (.d (.sl 1 (List.map encS l_0))))) rfl) rfl ⟨rfl, trivial⟩ trivial ?_
  refine G.op1 (OpL.cast (op_lenD Try.underlying23 (Ev.t 3 (.g (.d (.sl 1 (List.map encS l_0))))) rfl) (by rw [List.length_map])) rfl ⟨rfl, trivial⟩ trivial ?_
  refine G.op1 (op_gtr (Ev.t 4 (bI .i64 (l_0.length : Int))) (Ev.c _ rfl) rfl) rfl ⟨rfl, trivial⟩ trivial ?_
  refine G.endOps ?_
  refine ifS hF (fun hc1 hF => ?_) (fun hc1 hF => ?_)
  · refine G.cond rfl (fun _ => ?_) (fun hx => by rw [hc1] at hx; cases hx)
    refine G.seq ?_
    refine G.region ?_
    refine G.op1 (op_move (Ev.t 0 (.g (.d (.sl 1 (List.map encS l_0))))) rfl) rfl ⟨rfl, trivial⟩ trivial ?_
    obtain ⟨l2, hl2, hF⟩ := bindS hF
    refine G.op1 (op_sliceD (lo := none) (hi := some 6) Try.underlying23 ti9 (sub_ok hl2 encS).1 (sub_ok hl2 encS).2.1 (sub_ok hl2 encS).2.2.1 (sub_ok hl2 encS).2.2.2 (Ev.t 6 (.g (.d (.sl 1 (List.map encS l_0))))) EvO.none (EvO.some (Ev.c _ rfl)) rfl) rfl ⟨rfl, trivial⟩ trivial ?_
    refine G.op1 (op_assign (Ev.t 7 (.g (.d (.sl 1 (List.map encS l2))))) rfl) rfl ⟨rfl, trivial⟩ trivial ?_
    refine G.endOps ?_
    cases hF
    exact G.ret1 Try.results12 (RVar.tmp 2 _) ⟨rfl, trivial⟩ trivial
  · refine G.cond rfl (fun hx => by rw [hc1] at hx; cases hx) (fun _ => ?_)
    refine G.skip ?_
    refine G.seq ?_
    refine G.region ?_
    refine G.op1 (op_move (Ev.t 0 (.g (.d (.sl 1 (List.map encS l_0))))) rfl) rfl ⟨rfl, trivial⟩ trivial ?_
    refine G.op1 (op_assign (Ev.t 8 (.g (.d (.sl 1 (List.map encS l_0))))) rfl) rfl ⟨rfl, trivial⟩ trivial ?_
    refine G.endOps ?_
    cases hF
    exact G.ret1 Try.results12 (RVar.tmp 2 _) ⟨rfl, trivial⟩ trivial


set_option maxRecDepth 20000 in
set_option maxHeartbeats 2000000 in
theorem ct_ref04_Merge (l_0 : (List (List Api_Dep))) (r : (List Api_Dep)) (hF : ref04_Merge l_0 = some r) : Ct Try.prog 33 [.g (.d (.sl 1 (List.map encL_encApi_Dep l_0)))] (.one (.d (.sl 3 (List.map encApi_Dep r)))) := by
  unfold ref04_Merge at hF
  refine Ct.intro Try.func33 rfl Try.ntmps33 rfl rfl fun M w => ?_
  refine G.seq ?_
  refine G.region ?_
  refine G.op1 (op_assign (Ev.n 3) rfl) rfl trivial trivial ?_
  refine G.endOps ?_
  refine G.seq ?_
  refine G.region ?_
  refine G.op1 (op_assign (Ev.n 3) rfl) rfl trivial trivial ?_
  refine G.endOps ?_
  refine G.seq ?_
  refine G.seq ?_
  refine G.region ?_
  refine G.op1 (op_assign (Ev.c _ rfl) rfl) rfl trivial trivial ?_
  refine G.endOps ?_
  refine G.joinC (T := (List Api_Dep)) (fun y1 => ⟨[(3, .one (.g (.d (.sl 3 (List.map encApi_Dep y1)))))], []⟩) (fun y1 => ref04_Merge_k1 y1 = some r) (fun y1 hF => ?_) (fun J2 => ?_)
  · unfold ref04_Merge_k1 at hF
    refine G.seq ?_
    refine G.region ?_
    refine G.op1 (op_move (Ev.t 3 (.g (.d (.sl 3 (List.map encApi_Dep y1))))) rfl) rfl ⟨rfl, trivial⟩ trivial ?_
    refine G.op1 (op_assign (Ev.t 30 (.g (.d (.sl 3 (List.map encApi_Dep y1))))) rfl) rfl ⟨rfl, trivial⟩ trivial ?_
    refine G.endOps ?_
    cases hF
    exact G.ret1 Try.results33 (RVar.tmp 2 _) ⟨rfl, trivial⟩ trivial
  refine G.block ?_
  refine G.keep (sl' := [(0, .one (.g (.d (.sl 1 (List.map encL_encApi_Dep l_0))))), (3, .one (.g (.d (.sl 3 (List.map encApi_Dep ([] : (List Api_Dep))))))), (4, .one (bI .i64 0))]) (hp' := []) ⟨rfl, rfl, rfl, trivial⟩ trivial rfl ?_
  refine G.loopF (fun (v3 : (List Api_Dep) × Int) => ⟨[(0, .one (.g (.d (.sl 1 (List.map encL_encApi_Dep l_0))))), (3, .one (.g (.d (.sl 3 (List.map encApi_Dep v3.1))))), (4, .one (bI .i64 v3.2))], []⟩) hF rfl (fun K6 again5 v3 J4 hF => ?_)
  unfold ref04_Merge_l2 at hF
  refine G.seq ?_
  refine G.seq ?_
  refine G.region ?_
  refine G.op1 (op_move (Ev.t 4 (bI .i64 v3.2)) rfl) rfl ⟨rfl, trivial⟩ trivial ?_
  refine G.op1 (op_move (Ev.t 0 (.g (.d (.sl 1 (List.map encL_encApi_Dep l_0))))) rfl) rfl ⟨rfl, trivial⟩ trivial ?_
  refine G.op1 (OpL.cast (op_lenD Try.underlying51 (Ev.t 7 (.g (.d (.sl 1 (List.map encL_encApi_Dep l_0))))) rfl) (by rw [List.length_map])) rfl ⟨rfl, trivial⟩ trivial ?_
  refine G.op1 (op_lss (Ev.t 6 (bI .i64 v3.2)) (Ev.t 8 (bI .i64 (l_0.length : Int))) rfl) rfl ⟨rfl, rfl, trivial⟩ trivial ?_
  refine G.endOps ?_
  refine ifS hF (fun hc7 hF => ?_) (fun hc7 hF => ?_)
  · refine G.cond rfl (fun _ => ?_) (fun hx => by rw [hc7] at hx; cases hx)
    refine G.skip ?_
    refine G.seq ?_
    refine G.joinC (T := (List Api_Dep)) (fun y8 => ⟨[(0, .one (.g (.d (.sl 1 (List.map encL_encApi_Dep l_0))))), (3, .one (.g (.d (.sl 3 (List.map encApi_Dep y8))))), (4, .one (bI .i64 v3.2))], []⟩) (fun y8 => ref04_Merge_k3 again5 v3 y8 = some r) (fun y8 hF => ?_) (fun J9 => ?_)
    · unfold ref04_Merge_k3 at hF
      refine G.region ?_
      refine G.op1 (op_move (Ev.t 4 (bI .i64 v3.2)) rfl) rfl ⟨rfl, trivial⟩ trivial ?_
      refine G.op1 (op_add (Ev.t 10 (bI .i64 v3.2)) (Ev.c _ rfl) rfl) rfl ⟨rfl, trivial⟩ trivial ?_
      refine G.op1 (op_assign (Ev.t 11 (bI .i64 (IntKind.wrap .i64 (v3.2 + 1)))) rfl) rfl ⟨rfl, trivial⟩ trivial ?_
      refine G.endOps ?_
      exact G.arr (J4 (y8, IntKind.wrap .i64 (v3.2 + 1)) hF) ⟨rfl, rfl, rfl, trivial⟩ trivial rfl
    refine G.block ?_
    refine G.seq ?_
    refine G.region ?_
    refine G.op1 (op_assign (Ev.c _ rfl) rfl) rfl trivial trivial ?_
    refine G.endOps ?_
    refine G.joinC (T := (List Api_Dep)) (fun y10 => ⟨[(0, .one (.g (.d (.sl 1 (List.map encL_encApi_Dep l_0))))), (3, .one (.g (.d (.sl 3 (List.map encApi_Dep y10))))), (4, .one (bI .i64 v3.2))], []⟩) (fun y10 => ref04_Merge_k4 again5 v3 y10 = some r) (fun y10 hF => ?_) (fun J11 => ?_)
    · unfold ref04_Merge_k4 at hF
      refine G.endBlock ?_
      exact G.arr (J9 y10 hF) ⟨rfl, rfl, rfl, trivial⟩ trivial rfl
    refine G.block ?_
    refine G.keep (sl' := [(0, .one (.g (.d (.sl 1 (List.map encL_encApi_Dep l_0))))), (3, .one (.g (.d (.sl 3 (List.map encApi_Dep v3.1))))), (4, .one (bI .i64 v3.2)), (5, .one (bI .i64 0))]) (hp' := []) ⟨rfl, rfl, rfl, rfl, trivial⟩ trivial rfl ?_
    refine G.loopF (fun (v12 : (List Api_Dep) × Int) => ⟨[(0, .one (.g (.d (.sl 1 (List.map encL_encApi_Dep l_0))))), (3, .one (.g (.d (.sl 3 (List.map encApi_Dep v12.1))))), (4, .one (bI .i64 v3.2)), (5, .one (bI .i64 v12.2))], []⟩) hF rfl (fun K15 again14 v12 J13 hF => ?_)
    unfold ref04_Merge_l5 at hF
    refine G.seq ?_
    refine G.seq ?_
    refine G.region ?_
    refine G.op1 (op_move (Ev.t 5 (bI .i64 v12.2)) rfl) rfl ⟨rfl, trivial⟩ trivial ?_
    refine G.op1 (op_move (Ev.t 0 (.g (.d (.sl 1 (List.map encL_encApi_Dep l_0))))) rfl) rfl ⟨rfl, trivial⟩ trivial ?_
    refine G.op1 (op_move (Ev.t 4 (bI .i64 v3.2)) rfl) rfl ⟨rfl, trivial⟩ trivial ?_
    obtain ⟨x16, hx16, hF⟩ := bindS hF
    refine G.op1 (op_index (cs := [.sl 3 (List.map encApi_Dep x16)]) Try.underlying51 ti24 (idx_ok hx16).1 (idx_get hx16 encL_encApi_Dep) (Ev.t 13 (.g (.d (.sl 1 (List.map encL_encApi_Dep l_0))))) (Ev.t 14 (bI .i64 v3.2)) rfl) rfl ⟨rfl, rfl, trivial⟩ trivial ?_
    refine G.op1 (op_load1E (c := .sl 3 (List.map encApi_Dep x16)) Try.underlying24 rfl rfl (Ev.t 15 (.ep [.sl 3 (List.map encApi_Dep x16)])) rfl) rfl ⟨rfl, trivial⟩ trivial ?_
    refine G.op1 (OpL.cast (op_lenD Try.underlying24 (Ev.t 16 (.g (.d (.sl 3 (List.map encApi_Dep x16))))) rfl) (by rw [List.length_map])) rfl ⟨rfl, trivial⟩ trivial ?_
    refine G.op1 (op_lss (Ev.t 12 (bI .i64 v12.2)) (Ev.t 17 (bI .i64 (x16.length : Int))) rfl) rfl ⟨rfl, rfl, trivial⟩ trivial ?_
    refine G.endOps ?_
    refine ifS hF (fun hc17 hF => ?_) (fun hc17 hF => ?_)
    · refine G.cond rfl (fun _ => ?_) (fun hx => by rw [hc17] at hx; cases hx)
      refine G.skip ?_
      refine G.seq ?_
      refine G.block ?_
      refine G.region ?_
      refine G.op1 (op_move (Ev.t 3 (.g (.d (.sl 3 (List.map encApi_Dep v12.1))))) rfl) rfl ⟨rfl, trivial⟩ trivial ?_
      refine G.op1 (op_move (Ev.t 0 (.g (.d (.sl 1 (List.map encL_encApi_Dep l_0))))) rfl) rfl ⟨rfl, trivial⟩ trivial ?_
      refine G.op1 (op_move (Ev.t 4 (bI .i64 v3.2)) rfl) rfl ⟨rfl, trivial⟩ trivial ?_
      obtain ⟨x18, hx18, hF⟩ := bindS hF
      refine G.op1 (op_index (cs := [.sl 3 (List.map encApi_Dep x18)]) Try.underlying51 ti24 (idx_ok hx18).1 (idx_get hx18 encL_encApi_Dep) (Ev.t 22 (.g (.d (.sl 1 (List.map encL_encApi_Dep l_0))))) (Ev.t 23 (bI .i64 v3.2)) rfl) rfl ⟨rfl, rfl, trivial⟩ trivial ?_
      refine G.op1 (op_load1E (c := .sl 3 (List.map encApi_Dep x18)) Try.underlying24 rfl rfl (Ev.t 24 (.ep [.sl 3 (List.map encApi_Dep x18)])) rfl) rfl ⟨rfl, trivial⟩ trivial ?_
      refine G.op1 (op_move (Ev.t 5 (bI .i64 v12.2)) rfl) rfl ⟨rfl, trivial⟩ trivial ?_
      obtain ⟨x19, hx19, hF⟩ := bindS hF
      refine G.op1 (op_index (cs := [.v (.string x19.Key), .v (.int .i64 x19.Stamp.N), .v (.int .i64 x19.Stamp.Site)]) Try.underlying24 ti47 (idx_ok hx19).1 (idx_get hx19 encApi_Dep) (Ev.t 25 (.g (.d (.sl 3 (List.map encApi_Dep x18))))) (Ev.t 26 (bI .i64 v12.2)) rfl) rfl ⟨rfl, rfl, trivial⟩ trivial ?_
      refine G.op1 (op_loadAE (ds := [.v (.string x19.Key), .v (.int .i64 x19.Stamp.N), .v (.int .i64 x19.Stamp.Site)]) Try.underlying47 rfl ti47 rfl (Ev.t 27 (.ep [.v (.string x19.Key), .v (.int .i64 x19.Stamp.N), .v (.int .i64 x19.Stamp.Site)])) rfl) rfl ⟨rfl, trivial⟩ trivial ?_
      obtain ⟨r20, hr20, hF⟩ := bindS hF
      refine G.op1 (op_call (sv := .one (.g (.d (.sl 3 (List.map encApi_Dep r20))))) cf31 (ct_ref04_Add v12.1 x19 r20 hr20) rfl (EvL.cons (Ev.t 21 (.g (.d (.sl 3 (List.map encApi_Dep v12.1))))) (EvL.cons (Ev.t 28 (.g (.agg [.v (.string x19.Key), .v (.int .i64 x19.Stamp.N), .v (.int .i64 x19.Stamp.Site)]))) EvL.nil)) rfl) rfl ⟨rfl, rfl, trivial⟩ trivial ?_
      refine G.op1 (op_assign (Ev.t 29 (.g (.d (.sl 3 (List.map encApi_Dep r20))))) rfl) rfl ⟨rfl, trivial⟩ trivial ?_
      refine G.endOps ?_
      refine G.endBlock ?_
      refine G.region ?_
      refine G.op1 (op_move (Ev.t 5 (bI .i64 v12.2)) rfl) rfl ⟨rfl, trivial⟩ trivial ?_
      refine G.op1 (op_add (Ev.t 19 (bI .i64 v12.2)) (Ev.c _ rfl) rfl) rfl ⟨rfl, trivial⟩ trivial ?_
      refine G.op1 (op_assign (Ev.t 20 (bI .i64 (IntKind.wrap .i64 (v12.2 + 1)))) rfl) rfl ⟨rfl, trivial⟩ trivial ?_
      refine G.endOps ?_
      exact G.arr (J13 (r20, IntKind.wrap .i64 (v12.2 + 1)) hF) ⟨rfl, rfl, rfl, rfl, trivial⟩ trivial rfl
    · refine G.cond rfl (fun hx => by rw [hc17] at hx; cases hx) (fun _ => ?_)
      refine G.exit ?_
      refine GX.c ?_
      refine GX.q ?_
      refine GX.bYes ?_
      exact G.arr (J11 v12.1 hF) ⟨rfl, rfl, rfl, trivial⟩ trivial rfl
  · refine G.cond rfl (fun hx => by rw [hc7] at hx; cases hx) (fun _ => ?_)
    refine G.exit ?_
    refine GX.c ?_
    refine GX.q ?_
    refine GX.bYes ?_
    exact G.arr (J2 v3.1 hF) ⟨rfl, trivial⟩ trivial rfl


set_option maxRecDepth 20000 in
set_option maxHeartbeats 2000000 in
theorem ct_ref19_Low (l_0 : (List Api_Version)) (seen_1 : (List Api_Dep)) (r : (List Api_Dep)) (hF : ref19_Low l_0 seen_1 = some r) : Ct Try.prog 15 [.g (.d (.sl 6 (List.map encApi_Version l_0))), .g (.d (.sl 3 (List.map encApi_Dep seen_1)))] (.one (.d (.sl 3 (List.map encApi_Dep r)))) := by
  unfold ref19_Low at hF
  refine Ct.intro Try.func15 rfl Try.ntmps15 rfl rfl fun M w => ?_
  refine G.seq ?_
  refine G.region ?_
  refine G.op1 (op_assign (Ev.n 3) rfl) rfl trivial trivial ?_
  refine G.endOps ?_
  refine G.seq ?_
  refine G.region ?_
  refine G.op1 (op_move (Ev.t 1 (.g (.d (.sl 3 (List.map encApi_Dep seen_1))))) rfl) rfl ⟨rfl, trivial⟩ trivial ?_
  refine G.op1 (op_buildSlice (es := List.map encL_encApi_Dep [seen_1]) Try.underlying51 ti24 rfl rfl (EvP.cons (Ev.t 7 (.g (.d (.sl 3 (List.map encApi_Dep seen_1))))) EvP.nil) rfl rfl (by simp [encL_encApi_Dep]) rfl) rfl ⟨rfl, trivial⟩ trivial ?_
  obtain ⟨r1, hr1, hF⟩ := bindS hF
  refine G.op1 (op_call (sv := .one (.g (.d (.sl 3 (List.map encApi_Dep r1))))) cf33 (ct_ref04_Merge ([seen_1]) r1 hr1) rfl (EvL.cons (Ev.t 8 (.g (.d (.sl 1 (List.map encL_encApi_Dep ([seen_1])))))) EvL.nil) rfl) rfl ⟨rfl, trivial⟩ trivial ?_
  refine G.op1 (op_assign (Ev.t 9 (.g (.d (.sl 3 (List.map encApi_Dep r1))))) rfl) rfl ⟨rfl, trivial⟩ trivial ?_
  refine G.endOps ?_
  refine G.seq ?_
  refine G.seq ?_
  refine G.region ?_
  refine G.op1 (op_assign (Ev.c _ rfl) rfl) rfl trivial trivial ?_
  refine G.endOps ?_
  refine G.joinC (T := (List Api_Dep)) (fun y2 => ⟨[(5, .one (.g (.d (.sl 3 (List.map encApi_Dep y2)))))], []⟩) (fun y2 => ref19_Low_k1 y2 = some r) (fun y2 hF => ?_) (fun J3 => ?_)
  · unfold ref19_Low_k1 at hF
    refine G.seq ?_
    refine G.region ?_
    refine G.op1 (op_move (Ev.t 5 (.g (.d (.sl 3 (List.map encApi_Dep y2))))) rfl) rfl ⟨rfl, trivial⟩ trivial ?_
    refine G.op1 (op_assign (Ev.t 24 (.g (.d (.sl 3 (List.map encApi_Dep y2))))) rfl) rfl ⟨rfl, trivial⟩ trivial ?_
    refine G.endOps ?_
    cases hF
    exact G.ret1 Try.results15 (RVar.tmp 4 _) ⟨rfl, trivial⟩ trivial
  refine G.block ?_
  refine G.keep (sl' := [(0, .one (.g (.d (.sl 6 (List.map encApi_Version l_0))))), (5, .one (.g (.d (.sl 3 (List.map encApi_Dep r1))))), (6, .one (bI .i64 0))]) (hp' := []) ⟨rfl, rfl, rfl, trivial⟩ trivial rfl ?_
  refine G.loopF (fun (v4 : (List Api_Dep) × Int) => ⟨[(0, .one (.g (.d (.sl 6 (List.map encApi_Version l_0))))), (5, .one (.g (.d (.sl 3 (List.map encApi_Dep v4.1))))), (6, .one (bI .i64 v4.2))], []⟩) hF rfl (fun K7 again6 v4 J5 hF => ?_)
  unfold ref19_Low_l2 at hF
  refine G.seq ?_
  refine G.seq ?_
  refine G.region ?_
  refine G.op1 (op_move (Ev.t 6 (bI .i64 v4.2)) rfl) rfl ⟨rfl, trivial⟩ trivial ?_
  refine G.op1 (op_move (Ev.t 0 (.g (.d (.sl 6 (List.map encApi_Version l_0))))) rfl) rfl ⟨rfl, trivial⟩ trivial ?_
  refine G.op1 (OpL.cast (op_lenD Try.underlying22 (Ev.t 11 (.g (.d (.sl 6 (List.map encApi_Version l_0))))) rfl) (by rw [List.length_map])) rfl ⟨rfl, trivial⟩ trivial ?_
  refine G.op1 (op_lss (Ev.t 10 (bI .i64 v4.2)) (Ev.t 12 (bI .i64 (l_0.length : Int))) rfl) rfl ⟨rfl, rfl, trivial⟩ trivial ?_
  refine G.endOps ?_
  refine ifS hF (fun hc8 hF => ?_) (fun hc8 hF => ?_)
  · refine G.cond rfl (fun _ => ?_) (fun hx => by rw [hc8] at hx; cases hx)
    refine G.skip ?_
    refine G.seq ?_
    refine G.block ?_
    refine G.region ?_
    refine G.op1 (op_move (Ev.t 5 (.g (.d (.sl 3 (List.map encApi_Dep v4.1))))) rfl) rfl ⟨rfl, trivial⟩ trivial ?_
    refine G.op1 (op_move (Ev.t 0 (.g (.d (.sl 6 (List.map encApi_Version l_0))))) rfl) rfl ⟨rfl, trivial⟩ trivial ?_
    refine G.op1 (op_move (Ev.t 6 (bI .i64 v4.2)) rfl) rfl ⟨rfl, trivial⟩ trivial ?_
    obtain ⟨x9, hx9, hF⟩ := bindS hF
    refine G.op1 (op_index (cs := [.v (.string x9.Key), .v (.string x9.Value), .v (.bool x9.Gone), .v (.int .i64 x9.Stamp.N), .v (.int .i64 x9.Stamp.Site), .sl 3 (List.map encApi_Dep x9.Past)]) Try.underlying22 ti42 (idx_ok hx9).1 (idx_get hx9 encApi_Version) (Ev.t 17 (.g (.d (.sl 6 (List.map encApi_Version l_0))))) (Ev.t 18 (bI .i64 v4.2)) rfl) rfl ⟨rfl, rfl, trivial⟩ trivial ?_
    refine G.op1 (op_fieldE (cs' := [.sl 3 (List.map encApi_Dep x9.Past)]) Try.underlying42 rfl ti24 (by decide) rfl (Ev.t 19 (.ep [.v (.string x9.Key), .v (.string x9.Value), .v (.bool x9.Gone), .v (.int .i64 x9.Stamp.N), .v (.int .i64 x9.Stamp.Site), .sl 3 (List.map encApi_Dep x9.Past)])) rfl) rfl ⟨rfl, trivial⟩ trivial ?_
    refine G.op1 (op_load1E (c := .sl 3 (List.map encApi_Dep x9.Past)) Try.underlying24 rfl rfl (Ev.t 20 (.ep [.sl 3 (List.map encApi_Dep x9.Past)])) rfl) rfl ⟨rfl, trivial⟩ trivial ?_
    refine G.op1 (op_buildSlice (es := List.map encL_encApi_Dep [v4.1, x9.Past]) Try.underlying51 ti24 rfl rfl (EvP.cons (Ev.t 16 (.g (.d (.sl 3 (List.map encApi_Dep v4.1))))) (EvP.cons (Ev.t 21 (.g (.d (.sl 3 (List.map encApi_Dep x9.Past))))) EvP.nil)) rfl rfl (by simp [encL_encApi_Dep]) rfl) rfl ⟨rfl, rfl, trivial⟩ trivial ?_
    obtain ⟨r10, hr10, hF⟩ := bindS hF
    refine G.op1 (op_call (sv := .one (.g (.d (.sl 3 (List.map encApi_Dep r10))))) cf33 (ct_ref04_Merge ([v4.1, x9.Past]) r10 hr10) rfl (EvL.cons (Ev.t 22 (.g (.d (.sl 1 (List.map encL_encApi_Dep ([v4.1, x9.Past])))))) EvL.nil) rfl) rfl ⟨rfl, trivial⟩ trivial ?_
    refine G.op1 (op_assign (Ev.t 23 (.g (.d (.sl 3 (List.map encApi_Dep r10))))) rfl) rfl ⟨rfl, trivial⟩ trivial ?_
    refine G.endOps ?_
    refine G.endBlock ?_
    refine G.region ?_
    refine G.op1 (op_move (Ev.t 6 (bI .i64 v4.2)) rfl) rfl ⟨rfl, trivial⟩ trivial ?_
    refine G.op1 (op_add (Ev.t 14 (bI .i64 v4.2)) (Ev.c _ rfl) rfl) rfl ⟨rfl, trivial⟩ trivial ?_
    refine G.op1 (op_assign (Ev.t 15 (bI .i64 (IntKind.wrap .i64 (v4.2 + 1)))) rfl) rfl ⟨rfl, trivial⟩ trivial ?_
    refine G.endOps ?_
    exact G.arr (J5 (r10, IntKind.wrap .i64 (v4.2 + 1)) hF) ⟨rfl, rfl, rfl, trivial⟩ trivial rfl
  · refine G.cond rfl (fun hx => by rw [hc8] at hx; cases hx) (fun _ => ?_)
    refine G.exit ?_
    refine GX.c ?_
    refine GX.q ?_
    refine GX.bYes ?_
    exact G.arr (J3 v4.1 hF) ⟨rfl, trivial⟩ trivial rfl


set_option maxRecDepth 20000 in
set_option maxHeartbeats 2000000 in
theorem ct_ref04_Same (p_0 : (List Api_Dep)) (q_1 : (List Api_Dep)) (r : Bool) (hF : ref04_Same p_0 q_1 = some r) : Ct Try.prog 13 [.g (.d (.sl 3 (List.map encApi_Dep p_0))), .g (.d (.sl 3 (List.map encApi_Dep q_1)))] (.one (.d (.v (.bool r)))) := by
  unfold ref04_Same at hF
  refine Ct.intro Try.func13 rfl Try.ntmps13 rfl rfl fun M w => ?_
  refine G.seq ?_
  refine G.region ?_
  refine G.op1 (op_assign (Ev.c _ rfl) rfl) rfl trivial trivial ?_
  refine G.endOps ?_
  refine G.seq ?_
  refine G.seq ?_
  refine G.region ?_
  refine G.op1 (op_move (Ev.t 0 (.g (.d (.sl 3 (List.map encApi_Dep p_0))))) rfl) rfl ⟨rfl, trivial⟩ trivial ?_
  refine G.op1 (OpL.cast (op_lenD Try.underlying24 (Ev.t 6 (.g (.d (.sl 3 (List.map encApi_Dep p_0))))) rfl) (by rw [List.length_map])) rfl ⟨rfl, trivial⟩ trivial ?_
  refine G.op1 (op_move (Ev.t 1 (.g (.d (.sl 3 (List.map encApi_Dep q_1))))) rfl) rfl ⟨rfl, trivial⟩ trivial ?_
  refine G.op1 (OpL.cast (op_lenD Try.underlying24 (Ev.t 8 (.g (.d (.sl 3 (List.map encApi_Dep q_1))))) rfl) (by rw [List.length_map])) rfl ⟨rfl, trivial⟩ trivial ?_
  refine G.op1 (op_neI (Ev.t 7 (bI .i64 (p_0.length : Int))) (Ev.t 9 (bI .i64 (q_1.length : Int))) rfl) rfl ⟨rfl, rfl, trivial⟩ trivial ?_
  refine G.endOps ?_
  refine ifS hF (fun hc1 hF => ?_) (fun hc1 hF => ?_)
  · refine G.cond rfl (fun _ => ?_) (fun hx => by rw [hc1] at hx; cases hx)
    refine G.seq ?_
    refine G.region ?_
    refine G.op1 (op_assign (Ev.c _ rfl) rfl) rfl trivial trivial ?_
    refine G.endOps ?_
    cases hF
    exact G.ret1 Try.results13 (RVar.tmp 4 _) ⟨rfl, trivial⟩ trivial
  · refine G.cond rfl (fun hx => by rw [hc1] at hx; cases hx) (fun _ => ?_)
    refine G.skip ?_
    refine G.seq ?_
    refine G.seq ?_
    refine G.region ?_
    refine G.op1 (op_assign (Ev.c _ rfl) rfl) rfl trivial trivial ?_
    refine G.endOps ?_
    refine G.joinC (T := Unit) (fun y2 => ⟨[], []⟩) (fun y2 => ref04_Same_k1 y2 = some r) (fun y2 hF => ?_) (fun J3 => ?_)
    · unfold ref04_Same_k1 at hF
      refine G.seq ?_
      refine G.region ?_
      refine G.op1 (op_assign (Ev.c _ rfl) rfl) rfl trivial trivial ?_
      refine G.endOps ?_
      cases hF
      exact G.ret1 Try.results13 (RVar.tmp 4 _) ⟨rfl, trivial⟩ trivial
    refine G.block ?_
    refine G.keep (sl' := [(0, .one (.g (.d (.sl 3 (List.map encApi_Dep p_0))))), (1, .one (.g (.d (.sl 3 (List.map encApi_Dep q_1))))), (5, .one (bI .i64 0))]) (hp' := []) ⟨rfl, rfl, rfl, trivial⟩ trivial rfl ?_
    refine G.loopF (fun (v4 : Int) => ⟨[(0, .one (.g (.d (.sl 3 (List.map encApi_Dep p_0))))), (1, .one (.g (.d (.sl 3 (List.map encApi_Dep q_1))))), (5, .one (bI .i64 v4))], []⟩) hF rfl (fun K7 again6 v4 J5 hF => ?_)
    unfold ref04_Same_l2 at hF
    refine G.seq ?_
    refine G.seq ?_
    refine G.region ?_
    refine G.op1 (op_move (Ev.t 5 (bI .i64 v4)) rfl) rfl ⟨rfl, trivial⟩ trivial ?_
    refine G.op1 (op_move (Ev.t 0 (.g (.d (.sl 3 (List.map encApi_Dep p_0))))) rfl) rfl ⟨rfl, trivial⟩ trivial ?_
    refine G.op1 (OpL.cast (op_lenD Try.underlying24 (Ev.t 12 (.g (.d (.sl 3 (List.map encApi_Dep p_0))))) rfl) (by rw [List.length_map])) rfl ⟨rfl, trivial⟩ trivial ?_
    refine G.op1 (op_lss (Ev.t 11 (bI .i64 v4)) (Ev.t 13 (bI .i64 (p_0.length : Int))) rfl) rfl ⟨rfl, rfl, trivial⟩ trivial ?_
    refine G.endOps ?_
    refine ifS hF (fun hc8 hF => ?_) (fun hc8 hF => ?_)
    · refine G.cond rfl (fun _ => ?_) (fun hx => by rw [hc8] at hx; cases hx)
      refine G.skip ?_
      refine G.seq ?_
      refine G.block ?_
      refine G.seq ?_
      obtain ⟨x9, hx9, hF⟩ := bindS hF
      obtain ⟨x10, hx10, hF⟩ := bindS hF
      refine G.drawn (effs := [⟨[(0, .one (.g (.d (.sl 3 (List.map encApi_Dep p_0)))))], [], [(17, .one (.g (.d (.sl 3 (List.map encApi_Dep p_0)))))], []⟩, ⟨[(5, .one (bI .i64 v4))], [], [(18, .one (bI .i64 v4))], []⟩, ⟨[(17, .one (.g (.d (.sl 3 (List.map encApi_Dep p_0))))), (18, .one (bI .i64 v4))], [], [(19, .one (.ep [.v (.string x9.Key), .v (.int .i64 x9.Stamp.N), .v (.int .i64 x9.Stamp.Site)]))], []⟩, ⟨[(19, .one (.ep [.v (.string x9.Key), .v (.int .i64 x9.Stamp.N), .v (.int .i64 x9.Stamp.Site)]))], [], [(20, .one (.g (.agg [.v (.string x9.Key), .v (.int .i64 x9.Stamp.N), .v (.int .i64 x9.Stamp.Site)])))], []⟩, ⟨[(1, .one (.g (.d (.sl 3 (List.map encApi_Dep q_1)))))], [], [(21, .one (.g (.d (.sl 3 (List.map encApi_Dep q_1)))))], []⟩, ⟨[(5, .one (bI .i64 v4))], [], [(22, .one (bI .i64 v4))], []⟩, ⟨[(21, .one (.g (.d (.sl 3 (List.map encApi_Dep q_1))))), (22, .one (bI .i64 v4))], [], [(23, .one (.ep [.v (.string x10.Key), .v (.int .i64 x10.Stamp.N), .v (.int .i64 x10.Stamp.Site)]))], []⟩, ⟨[(23, .one (.ep [.v (.string x10.Key), .v (.int .i64 x10.Stamp.N), .v (.int .i64 x10.Stamp.Site)]))], [], [(24, .one (.g (.agg [.v (.string x10.Key), .v (.int .i64 x10.Stamp.N), .v (.int .i64 x10.Stamp.Site)])))], []⟩, ⟨[(20, .one (.g (.agg [.v (.string x9.Key), .v (.int .i64 x9.Stamp.N), .v (.int .i64 x9.Stamp.Site)]))), (24, .one (.g (.agg [.v (.string x10.Key), .v (.int .i64 x10.Stamp.N), .v (.int .i64 x10.Stamp.Site)])))], [], [(25, .one (bB (!(decide (x9.Key = x10.Key) && decide (x9.Stamp.N = x10.Stamp.N) && decide (x9.Stamp.Site = x10.Stamp.Site)))))], []⟩]) (deps := [[], [], [0, 1], [0, 1, 2], [], [], [4, 5], [4, 5, 6], [0, 1, 2, 3, 4, 5, 6, 7]]) (sl' := [(0, .one (.g (.d (.sl 3 (List.map encApi_Dep p_0))))), (1, .one (.g (.d (.sl 3 (List.map encApi_Dep q_1))))), (5, .one (bI .i64 v4)), (25, .one (bB (!(decide (x9.Key = x10.Key) && decide (x9.Stamp.N = x10.Stamp.N) && decide (x9.Stamp.Site = x10.Stamp.Site)))))]) (hp' := []) follows rfl rfl rfl ⟨⟨rfl, trivial⟩, trivial, ⟨rfl, trivial⟩, trivial, ⟨rfl, rfl, trivial⟩, trivial, ⟨rfl, trivial⟩, trivial, ⟨rfl, trivial⟩, trivial, ⟨rfl, trivial⟩, trivial, ⟨rfl, rfl, trivial⟩, trivial, ⟨rfl, trivial⟩, trivial, ⟨rfl, rfl, trivial⟩, trivial, trivial⟩ ⟨OpW.plain (op_move (Ev.t 0 (.g (.d (.sl 3 (List.map encApi_Dep p_0))))) rfl) rfl rfl, OpW.plain (op_move (Ev.t 5 (bI .i64 v4)) rfl) rfl rfl, OpW.plain (op_index (cs := [.v (.string x9.Key), .v (.int .i64 x9.Stamp.N), .v (.int .i64 x9.Stamp.Site)]) Try.underlying24 ti47 (idx_ok hx9).1 (idx_get hx9 encApi_Dep) (Ev.t 17 (.g (.d (.sl 3 (List.map encApi_Dep p_0))))) (Ev.t 18 (bI .i64 v4)) rfl) rfl rfl, OpW.plain (op_loadAE (ds := [.v (.string x9.Key), .v (.int .i64 x9.Stamp.N), .v (.int .i64 x9.Stamp.Site)]) Try.underlying47 rfl ti47 rfl (Ev.t 19 (.ep [.v (.string x9.Key), .v (.int .i64 x9.Stamp.N), .v (.int .i64 x9.Stamp.Site)])) rfl) rfl rfl, OpW.plain (op_move (Ev.t 1 (.g (.d (.sl 3 (List.map encApi_Dep q_1))))) rfl) rfl rfl, OpW.plain (op_move (Ev.t 5 (bI .i64 v4)) rfl) rfl rfl, OpW.plain (op_index (cs := [.v (.string x10.Key), .v (.int .i64 x10.Stamp.N), .v (.int .i64 x10.Stamp.Site)]) Try.underlying24 ti47 (idx_ok hx10).1 (idx_get hx10 encApi_Dep) (Ev.t 21 (.g (.d (.sl 3 (List.map encApi_Dep q_1))))) (Ev.t 22 (bI .i64 v4)) rfl) rfl rfl, OpW.plain (op_loadAE (ds := [.v (.string x10.Key), .v (.int .i64 x10.Stamp.N), .v (.int .i64 x10.Stamp.Site)]) Try.underlying47 rfl ti47 rfl (Ev.t 23 (.ep [.v (.string x10.Key), .v (.int .i64 x10.Stamp.N), .v (.int .i64 x10.Stamp.Site)])) rfl) rfl rfl, OpW.plain (op_eqA (us := [.string x9.Key, .int .i64 x9.Stamp.N, .int .i64 x9.Stamp.Site]) (vs := [.string x10.Key, .int .i64 x10.Stamp.N, .int .i64 x10.Stamp.Site]) rfl rfl Try.eqGuardType47 (fun w => ne47 x9.Key x9.Stamp.N x9.Stamp.Site x10.Key x10.Stamp.N x10.Stamp.Site w) (Ev.t 20 (.g (.agg [.v (.string x9.Key), .v (.int .i64 x9.Stamp.N), .v (.int .i64 x9.Stamp.Site)]))) (Ev.t 24 (.g (.agg [.v (.string x10.Key), .v (.int .i64 x10.Stamp.N), .v (.int .i64 x10.Stamp.Site)]))) rfl) rfl rfl, trivial⟩ ⟨rfl, rfl, rfl, rfl, trivial⟩ trivial rfl ?_
      refine ifS hF (fun hc11 hF => ?_) (fun hc11 hF => ?_)
      · refine G.cond rfl (fun _ => ?_) (fun hx => by rw [hc11] at hx; cases hx)
        refine G.seq ?_
        refine G.region ?_
        refine G.op1 (op_assign (Ev.c _ rfl) rfl) rfl trivial trivial ?_
        refine G.endOps ?_
        cases hF
        exact G.ret1 Try.results13 (RVar.tmp 4 _) ⟨rfl, trivial⟩ trivial
      · refine G.cond rfl (fun hx => by rw [hc11] at hx; cases hx) (fun _ => ?_)
        refine G.skip ?_
        refine G.endBlock ?_
        refine G.region ?_
        refine G.op1 (op_move (Ev.t 5 (bI .i64 v4)) rfl) rfl ⟨rfl, trivial⟩ trivial ?_
        refine G.op1 (op_add (Ev.t 15 (bI .i64 v4)) (Ev.c _ rfl) rfl) rfl ⟨rfl, trivial⟩ trivial ?_
        refine G.op1 (op_assign (Ev.t 16 (bI .i64 (IntKind.wrap .i64 (v4 + 1)))) rfl) rfl ⟨rfl, trivial⟩ trivial ?_
        refine G.endOps ?_
        exact G.arr (J5 (IntKind.wrap .i64 (v4 + 1)) hF) ⟨rfl, rfl, rfl, trivial⟩ trivial rfl
    · refine G.cond rfl (fun hx => by rw [hc8] at hx; cases hx) (fun _ => ?_)
      refine G.exit ?_
      refine GX.c ?_
      refine GX.q ?_
      refine GX.bYes ?_
      exact G.arr (J3 () hF) trivial trivial rfl


set_option maxRecDepth 20000 in
set_option maxHeartbeats 2000000 in
theorem ct_ref04_Get (p_0 : (List Api_Dep)) (key_1 : ByteArray) (r : Api_Stamp) (hF : ref04_Get p_0 key_1 = some r) : Ct Try.prog 26 [.g (.d (.sl 3 (List.map encApi_Dep p_0))), .g (.d (.v (.string key_1)))] (.one (.agg (encApi_Stamp r))) := by
  unfold ref04_Get at hF
  refine Ct.intro Try.func26 rfl Try.ntmps26 rfl rfl fun M w => ?_
  refine G.seq ?_
  refine G.region ?_
  refine G.op2 (op_alloc (k := 1004) (cs := [bI .i64 0, bI .i64 0]) ti35 ⟨.v _ rfl, .v _ rfl, trivial⟩ rfl) rfl trivial ⟨rfl, trivial⟩ ?_
  refine G.endOps ?_
  refine G.seq ?_
  refine G.seq ?_
  refine G.region ?_
  refine G.op1 (op_assign (Ev.c _ rfl) rfl) rfl trivial trivial ?_
  refine G.endOps ?_
  refine G.joinC (T := Unit) (fun y1 => ⟨[(4, .one (.ptr 1004 0))], [(1004, some (.blk 35 [bI .i64 0, bI .i64 0]))]⟩) (fun y1 => ref04_Get_k1 y1 = some r) (fun y1 hF => ?_) (fun J2 => ?_)
  · unfold ref04_Get_k1 at hF
    refine G.seq ?_
    refine G.region ?_
    refine G.op1 (op_build (zs := [.v (.int .i64 0), .v (.int .i64 0)]) (ds := [.v (.int .i64 0), .v (.int .i64 0)]) Try.underlying35 ti35 (pl35 _ Try.underlying35) ⟨.v _ rfl, .v _ rfl, trivial⟩ EvP.nil rfl rfl) rfl trivial trivial ?_
    refine G.op3 (op_storeA (cs' := [bI .i64 0, bI .i64 0]) ti35 rfl rfl (Ev.t 4 (.ptr 1004 0)) (Ev.t 24 (.g (.agg [.v (.int .i64 0), .v (.int .i64 0)])))) rfl ⟨rfl, rfl, trivial⟩ ⟨rfl, trivial⟩ ?_
    refine G.endOps ?_
    cases hF
    exact G.ret1 Try.results26 (RVar.cellA (ds := [.v (.int .i64 0), .v (.int .i64 0)]) Try.underlying35 rfl ti35 rfl) ⟨rfl, trivial⟩ ⟨rfl, trivial⟩
  refine G.block ?_
  refine G.keep (sl' := [(0, .one (.g (.d (.sl 3 (List.map encApi_Dep p_0))))), (1, .one (bS key_1)), (4, .one (.ptr 1004 0)), (5, .one (bI .i64 0))]) (hp' := [(1004, some (.blk 35 [bI .i64 0, bI .i64 0]))]) ⟨rfl, rfl, rfl, rfl, trivial⟩ ⟨rfl, trivial⟩ rfl ?_
  refine G.loopF (fun (v3 : Int) => ⟨[(0, .one (.g (.d (.sl 3 (List.map encApi_Dep p_0))))), (1, .one (bS key_1)), (4, .one (.ptr 1004 0)), (5, .one (bI .i64 v3))], [(1004, some (.blk 35 [bI .i64 0, bI .i64 0]))]⟩) hF rfl (fun K6 again5 v3 J4 hF => ?_)
  unfold ref04_Get_l2 at hF
  refine G.seq ?_
  refine G.seq ?_
  refine G.region ?_
  refine G.op1 (op_move (Ev.t 5 (bI .i64 v3)) rfl) rfl ⟨rfl, trivial⟩ trivial ?_
  refine G.op1 (op_move (Ev.t 0 (.g (.d (.sl 3 (List.map encApi_Dep p_0))))) rfl) rfl ⟨rfl, trivial⟩ trivial ?_
  refine G.op1 (OpL.cast (op_lenD Try.underlying24 (Ev.t 7 (.g (.d (.sl 3 (List.map encApi_Dep p_0))))) rfl) (by rw [List.length_map])) rfl ⟨rfl, trivial⟩ trivial ?_
  refine G.op1 (op_lss (Ev.t 6 (bI .i64 v3)) (Ev.t 8 (bI .i64 (p_0.length : Int))) rfl) rfl ⟨rfl, rfl, trivial⟩ trivial ?_
  refine G.endOps ?_
  refine ifS hF (fun hc7 hF => ?_) (fun hc7 hF => ?_)
  · refine G.cond rfl (fun _ => ?_) (fun hx => by rw [hc7] at hx; cases hx)
    refine G.skip ?_
    refine G.seq ?_
    refine G.block ?_
    refine G.seq ?_
    refine G.region ?_
    refine G.op1 (op_move (Ev.t 0 (.g (.d (.sl 3 (List.map encApi_Dep p_0))))) rfl) rfl ⟨rfl, trivial⟩ trivial ?_
    refine G.op1 (op_move (Ev.t 5 (bI .i64 v3)) rfl) rfl ⟨rfl, trivial⟩ trivial ?_
    obtain ⟨x8, hx8, hF⟩ := bindS hF
    refine G.op1 (op_index (cs := [.v (.string x8.Key), .v (.int .i64 x8.Stamp.N), .v (.int .i64 x8.Stamp.Site)]) Try.underlying24 ti47 (idx_ok hx8).1 (idx_get hx8 encApi_Dep) (Ev.t 12 (.g (.d (.sl 3 (List.map encApi_Dep p_0))))) (Ev.t 13 (bI .i64 v3)) rfl) rfl ⟨rfl, rfl, trivial⟩ trivial ?_
    refine G.op1 (op_fieldE (cs' := [.v (.string x8.Key), .v (.int .i64 x8.Stamp.N), .v (.int .i64 x8.Stamp.Site)]) Try.underlying47 rfl ti9 (by decide) rfl (Ev.t 14 (.ep [.v (.string x8.Key), .v (.int .i64 x8.Stamp.N), .v (.int .i64 x8.Stamp.Site)])) rfl) rfl ⟨rfl, trivial⟩ trivial ?_
    refine G.op1 (op_load1E (c := .v (.string x8.Key)) Try.underlying9 rfl rfl (Ev.t 15 (.ep [.v (.string x8.Key), .v (.int .i64 x8.Stamp.N), .v (.int .i64 x8.Stamp.Site)])) rfl) rfl ⟨rfl, trivial⟩ trivial ?_
    refine G.op1 (op_move (Ev.t 1 (bS key_1)) rfl) rfl ⟨rfl, trivial⟩ trivial ?_
    refine G.op1 (op_eqS (Ev.t 16 (bS x8.Key)) (Ev.t 17 (bS key_1)) rfl) rfl ⟨rfl, rfl, trivial⟩ trivial ?_
    refine G.endOps ?_
    refine ifS hF (fun hc9 hF => ?_) (fun hc9 hF => ?_)
    · refine G.cond rfl (fun _ => ?_) (fun hx => by rw [hc9] at hx; cases hx)
      refine G.seq ?_
      refine G.region ?_
      refine G.op1 (op_move (Ev.t 0 (.g (.d (.sl 3 (List.map encApi_Dep p_0))))) rfl) rfl ⟨rfl, trivial⟩ trivial ?_
      refine G.op1 (op_move (Ev.t 5 (bI .i64 v3)) rfl) rfl ⟨rfl, trivial⟩ trivial ?_
      obtain ⟨x10, hx10, hF⟩ := bindS hF
      refine G.op1 (op_index (cs := [.v (.string x10.Key), .v (.int .i64 x10.Stamp.N), .v (.int .i64 x10.Stamp.Site)]) Try.underlying24 ti47 (idx_ok hx10).1 (idx_get hx10 encApi_Dep) (Ev.t 19 (.g (.d (.sl 3 (List.map encApi_Dep p_0))))) (Ev.t 20 (bI .i64 v3)) rfl) rfl ⟨rfl, rfl, trivial⟩ trivial ?_
      refine G.op1 (op_fieldE (cs' := [.v (.int .i64 x10.Stamp.N), .v (.int .i64 x10.Stamp.Site)]) Try.underlying47 rfl ti35 (by decide) rfl (Ev.t 21 (.ep [.v (.string x10.Key), .v (.int .i64 x10.Stamp.N), .v (.int .i64 x10.Stamp.Site)])) rfl) rfl ⟨rfl, trivial⟩ trivial ?_
      refine G.op1 (op_loadAE (ds := [.v (.int .i64 x10.Stamp.N), .v (.int .i64 x10.Stamp.Site)]) Try.underlying35 rfl ti35 rfl (Ev.t 22 (.ep [.v (.int .i64 x10.Stamp.N), .v (.int .i64 x10.Stamp.Site)])) rfl) rfl ⟨rfl, trivial⟩ trivial ?_
      refine G.op3 (op_storeA (cs' := [bI .i64 x10.Stamp.N, bI .i64 x10.Stamp.Site]) ti35 rfl rfl (Ev.t 4 (.ptr 1004 0)) (Ev.t 23 (.g (.agg [.v (.int .i64 x10.Stamp.N), .v (.int .i64 x10.Stamp.Site)])))) rfl ⟨rfl, rfl, trivial⟩ ⟨rfl, trivial⟩ ?_
      refine G.endOps ?_
      cases hF
      exact G.ret1 Try.results26 (RVar.cellA (ds := [.v (.int .i64 x10.Stamp.N), .v (.int .i64 x10.Stamp.Site)]) Try.underlying35 rfl ti35 rfl) ⟨rfl, trivial⟩ ⟨rfl, trivial⟩
    · refine G.cond rfl (fun hx => by rw [hc9] at hx; cases hx) (fun _ => ?_)
      refine G.skip ?_
      refine G.endBlock ?_
      refine G.region ?_
      refine G.op1 (op_move (Ev.t 5 (bI .i64 v3)) rfl) rfl ⟨rfl, trivial⟩ trivial ?_
      refine G.op1 (op_add (Ev.t 10 (bI .i64 v3)) (Ev.c _ rfl) rfl) rfl ⟨rfl, trivial⟩ trivial ?_
      refine G.op1 (op_assign (Ev.t 11 (bI .i64 (IntKind.wrap .i64 (v3 + 1)))) rfl) rfl ⟨rfl, trivial⟩ trivial ?_
      refine G.endOps ?_
      exact G.arr (J4 (IntKind.wrap .i64 (v3 + 1)) hF) ⟨rfl, rfl, rfl, rfl, trivial⟩ ⟨rfl, trivial⟩ rfl
  · refine G.cond rfl (fun hx => by rw [hc7] at hx; cases hx) (fun _ => ?_)
    refine G.exit ?_
    refine GX.c ?_
    refine GX.q ?_
    refine GX.bYes ?_
    exact G.arr (J2 () hF) ⟨rfl, trivial⟩ ⟨rfl, trivial⟩ rfl


set_option maxRecDepth 20000 in
set_option maxHeartbeats 2000000 in
theorem ct_ref19_Of (l_0 : (List Api_Version)) (key_1 : ByteArray) (r : Api_Stamp) (hF : ref19_Of l_0 key_1 = some r) : Ct Try.prog 22 [.g (.d (.sl 6 (List.map encApi_Version l_0))), .g (.d (.v (.string key_1)))] (.one (.agg (encApi_Stamp r))) := by
  unfold ref19_Of at hF
  refine Ct.intro Try.func22 rfl Try.ntmps22 rfl rfl fun M w => ?_
  refine G.seq ?_
  refine G.region ?_
  refine G.op2 (op_alloc (k := 1004) (cs := [bI .i64 0, bI .i64 0]) ti35 ⟨.v _ rfl, .v _ rfl, trivial⟩ rfl) rfl trivial ⟨rfl, trivial⟩ ?_
  refine G.endOps ?_
  refine G.seq ?_
  refine G.region ?_
  refine G.op1 (op_build (zs := [.v (.int .i64 0), .v (.int .i64 0)]) (ds := [.v (.int .i64 0), .v (.int .i64 0)]) Try.underlying35 ti35 (pl35 _ Try.underlying35) ⟨.v _ rfl, .v _ rfl, trivial⟩ EvP.nil rfl rfl) rfl trivial trivial ?_
  refine G.op2 (op_alloc (k := 1005) (cs := [bI .i64 0, bI .i64 0]) ti35 ⟨.v _ rfl, .v _ rfl, trivial⟩ rfl) rfl trivial ⟨rfl, trivial⟩ ?_
  refine G.op3 (op_storeA (cs' := [bI .i64 0, bI .i64 0]) ti35 rfl rfl (Ev.t 5 (.ptr 1005 0)) (Ev.t 7 (.g (.agg [.v (.int .i64 0), .v (.int .i64 0)])))) rfl ⟨rfl, rfl, trivial⟩ ⟨rfl, trivial⟩ ?_
  refine G.endOps ?_
  refine G.seq ?_
  refine G.seq ?_
  refine G.region ?_
  refine G.op1 (op_assign (Ev.c _ rfl) rfl) rfl trivial trivial ?_
  refine G.endOps ?_
  refine G.joinC (T := Int × Int) (fun y1 => ⟨[(4, .one (.ptr 1004 0)), (5, .one (.ptr 1005 0))], [(1004, some (.blk 35 [bI .i64 0, bI .i64 0])), (1005, some (.blk 35 [bI .i64 y1.1, bI .i64 y1.2]))]⟩) (fun y1 => ref19_Of_k1 y1 = some r) (fun y1 hF => ?_) (fun J2 => ?_)
  · unfold ref19_Of_k1 at hF
    refine G.seq ?_
    refine G.region ?_
    refine G.op1 (op_loadAP (ds := [.v (.int .i64 y1.1), .v (.int .i64 y1.2)]) Try.underlying35 rfl ti35 rfl (Ev.t 5 (.ptr 1005 0)) rfl) rfl ⟨rfl, trivial⟩ ⟨rfl, trivial⟩ ?_
    refine G.op3 (op_storeA (cs' := [bI .i64 y1.1, bI .i64 y1.2]) ti35 rfl rfl (Ev.t 4 (.ptr 1004 0)) (Ev.t 35 (.g (.agg [.v (.int .i64 y1.1), .v (.int .i64 y1.2)])))) rfl ⟨rfl, rfl, trivial⟩ ⟨rfl, trivial⟩ ?_
    refine G.endOps ?_
    cases hF
    exact G.ret1 Try.results22 (RVar.cellA (ds := [.v (.int .i64 y1.1), .v (.int .i64 y1.2)]) Try.underlying35 rfl ti35 rfl) ⟨rfl, trivial⟩ ⟨rfl, trivial⟩
  refine G.block ?_
  refine G.keep (sl' := [(0, .one (.g (.d (.sl 6 (List.map encApi_Version l_0))))), (1, .one (bS key_1)), (4, .one (.ptr 1004 0)), (5, .one (.ptr 1005 0)), (6, .one (bI .i64 0))]) (hp' := [(1004, some (.blk 35 [bI .i64 0, bI .i64 0])), (1005, some (.blk 35 [bI .i64 0, bI .i64 0]))]) ⟨rfl, rfl, rfl, rfl, rfl, trivial⟩ ⟨rfl, rfl, trivial⟩ rfl ?_
  refine G.loopF (fun (v3 : Int × Int × Int) => ⟨[(0, .one (.g (.d (.sl 6 (List.map encApi_Version l_0))))), (1, .one (bS key_1)), (4, .one (.ptr 1004 0)), (5, .one (.ptr 1005 0)), (6, .one (bI .i64 v3.1))], [(1004, some (.blk 35 [bI .i64 0, bI .i64 0])), (1005, some (.blk 35 [bI .i64 v3.2.1, bI .i64 v3.2.2]))]⟩) hF rfl (fun K6 again5 v3 J4 hF => ?_)
  unfold ref19_Of_l2 at hF
  refine G.seq ?_
  refine G.seq ?_
  refine G.region ?_
  refine G.op1 (op_move (Ev.t 6 (bI .i64 v3.1)) rfl) rfl ⟨rfl, trivial⟩ trivial ?_
  refine G.op1 (op_move (Ev.t 0 (.g (.d (.sl 6 (List.map encApi_Version l_0))))) rfl) rfl ⟨rfl, trivial⟩ trivial ?_
  refine G.op1 (OpL.cast (op_lenD Try.underlying22 (Ev.t 9 (.g (.d (.sl 6 (List.map encApi_Version l_0))))) rfl) (by rw [List.length_map])) rfl ⟨rfl, trivial⟩ trivial ?_
  refine G.op1 (op_lss (Ev.t 8 (bI .i64 v3.1)) (Ev.t 10 (bI .i64 (l_0.length : Int))) rfl) rfl ⟨rfl, rfl, trivial⟩ trivial ?_
  refine G.endOps ?_
  refine ifS hF (fun hc7 hF => ?_) (fun hc7 hF => ?_)
  · refine G.cond rfl (fun _ => ?_) (fun hx => by rw [hc7] at hx; cases hx)
    refine G.skip ?_
    refine G.seq ?_
    refine G.block ?_
    refine G.seq ?_
    refine G.joinC (T := Bool) (fun y8 => ⟨[(0, .one (.g (.d (.sl 6 (List.map encApi_Version l_0))))), (1, .one (bS key_1)), (4, .one (.ptr 1004 0)), (5, .one (.ptr 1005 0)), (6, .one (bI .i64 v3.1)), (29, .one (bB y8))], [(1004, some (.blk 35 [bI .i64 0, bI .i64 0])), (1005, some (.blk 35 [bI .i64 v3.2.1, bI .i64 v3.2.2]))]⟩) (fun y8 => ref19_Of_k3 l_0 again5 v3 y8 = some r) (fun y8 hF => ?_) (fun J11 => ?_)
    · unfold ref19_Of_k3 at hF
      refine ifS hF (fun hc9 hF => ?_) (fun hc9 hF => ?_)
      · refine G.cond rfl (fun _ => ?_) (fun hx => by rw [hc9] at hx; cases hx)
        refine G.region ?_
        refine G.op1 (op_move (Ev.t 0 (.g (.d (.sl 6 (List.map encApi_Version l_0))))) rfl) rfl ⟨rfl, trivial⟩ trivial ?_
        refine G.op1 (op_move (Ev.t 6 (bI .i64 v3.1)) rfl) rfl ⟨rfl, trivial⟩ trivial ?_
        obtain ⟨x10, hx10, hF⟩ := bindS hF
        refine G.op1 (op_index (cs := [.v (.string x10.Key), .v (.string x10.Value), .v (.bool x10.Gone), .v (.int .i64 x10.Stamp.N), .v (.int .i64 x10.Stamp.Site), .sl 3 (List.map encApi_Dep x10.Past)]) Try.underlying22 ti42 (idx_ok hx10).1 (idx_get hx10 encApi_Version) (Ev.t 30 (.g (.d (.sl 6 (List.map encApi_Version l_0))))) (Ev.t 31 (bI .i64 v3.1)) rfl) rfl ⟨rfl, rfl, trivial⟩ trivial ?_
        refine G.op1 (op_fieldE (cs' := [.v (.int .i64 x10.Stamp.N), .v (.int .i64 x10.Stamp.Site), .sl 3 (List.map encApi_Dep x10.Past)]) Try.underlying42 rfl ti35 (by decide) rfl (Ev.t 32 (.ep [.v (.string x10.Key), .v (.string x10.Value), .v (.bool x10.Gone), .v (.int .i64 x10.Stamp.N), .v (.int .i64 x10.Stamp.Site), .sl 3 (List.map encApi_Dep x10.Past)])) rfl) rfl ⟨rfl, trivial⟩ trivial ?_
        refine G.op1 (op_loadAE (ds := [.v (.int .i64 x10.Stamp.N), .v (.int .i64 x10.Stamp.Site)]) Try.underlying35 rfl ti35 rfl (Ev.t 33 (.ep [.v (.int .i64 x10.Stamp.N), .v (.int .i64 x10.Stamp.Site), .sl 3 (List.map encApi_Dep x10.Past)])) rfl) rfl ⟨rfl, trivial⟩ trivial ?_
        refine G.op3 (op_storeA (cs' := [bI .i64 x10.Stamp.N, bI .i64 x10.Stamp.Site]) ti35 rfl rfl (Ev.t 5 (.ptr 1005 0)) (Ev.t 34 (.g (.agg [.v (.int .i64 x10.Stamp.N), .v (.int .i64 x10.Stamp.Site)])))) rfl ⟨rfl, rfl, trivial⟩ ⟨rfl, trivial⟩ ?_
        refine G.endOps ?_
        refine G.endBlock ?_
        refine G.region ?_
        refine G.op1 (op_move (Ev.t 6 (bI .i64 v3.1)) rfl) rfl ⟨rfl, trivial⟩ trivial ?_
        refine G.op1 (op_add (Ev.t 12 (bI .i64 v3.1)) (Ev.c _ rfl) rfl) rfl ⟨rfl, trivial⟩ trivial ?_
        refine G.op1 (op_assign (Ev.t 13 (bI .i64 (IntKind.wrap .i64 (v3.1 + 1)))) rfl) rfl ⟨rfl, trivial⟩ trivial ?_
        refine G.endOps ?_
        exact G.arr (J4 (IntKind.wrap .i64 (v3.1 + 1), x10.Stamp.N, x10.Stamp.Site) hF) ⟨rfl, rfl, rfl, rfl, rfl, trivial⟩ ⟨rfl, rfl, trivial⟩ rfl
      · refine G.cond rfl (fun hx => by rw [hc9] at hx; cases hx) (fun _ => ?_)
        refine G.skip ?_
        refine G.endBlock ?_
        refine G.region ?_
        refine G.op1 (op_move (Ev.t 6 (bI .i64 v3.1)) rfl) rfl ⟨rfl, trivial⟩ trivial ?_
        refine G.op1 (op_add (Ev.t 12 (bI .i64 v3.1)) (Ev.c _ rfl) rfl) rfl ⟨rfl, trivial⟩ trivial ?_
        refine G.op1 (op_assign (Ev.t 13 (bI .i64 (IntKind.wrap .i64 (v3.1 + 1)))) rfl) rfl ⟨rfl, trivial⟩ trivial ?_
        refine G.endOps ?_
        exact G.arr (J4 (IntKind.wrap .i64 (v3.1 + 1), v3.2.1, v3.2.2) hF) ⟨rfl, rfl, rfl, rfl, rfl, trivial⟩ ⟨rfl, rfl, trivial⟩ rfl
    obtain ⟨x12, hx12, hF⟩ := bindS hF
    refine ifS hF (fun hc13 hF => ?_) (fun hc13 hF => ?_)
    · obtain ⟨x14, hx14, hF⟩ := bindS hF
      obtain ⟨r15, hr15, hF⟩ := bindS hF
      refine G.drawn (effs := [⟨[(0, .one (.g (.d (.sl 6 (List.map encApi_Version l_0)))))], [], [(14, .one (.g (.d (.sl 6 (List.map encApi_Version l_0)))))], []⟩, ⟨[(6, .one (bI .i64 v3.1))], [], [(15, .one (bI .i64 v3.1))], []⟩, ⟨[(14, .one (.g (.d (.sl 6 (List.map encApi_Version l_0))))), (15, .one (bI .i64 v3.1))], [], [(16, .one (.ep [.v (.string x12.Key), .v (.string x12.Value), .v (.bool x12.Gone), .v (.int .i64 x12.Stamp.N), .v (.int .i64 x12.Stamp.Site), .sl 3 (List.map encApi_Dep x12.Past)]))], []⟩, ⟨[(16, .one (.ep [.v (.string x12.Key), .v (.string x12.Value), .v (.bool x12.Gone), .v (.int .i64 x12.Stamp.N), .v (.int .i64 x12.Stamp.Site), .sl 3 (List.map encApi_Dep x12.Past)]))], [], [(17, .one (.ep [.v (.string x12.Key), .v (.string x12.Value), .v (.bool x12.Gone), .v (.int .i64 x12.Stamp.N), .v (.int .i64 x12.Stamp.Site), .sl 3 (List.map encApi_Dep x12.Past)]))], []⟩, ⟨[(17, .one (.ep [.v (.string x12.Key), .v (.string x12.Value), .v (.bool x12.Gone), .v (.int .i64 x12.Stamp.N), .v (.int .i64 x12.Stamp.Site), .sl 3 (List.map encApi_Dep x12.Past)]))], [], [(18, .one (bS x12.Key))], []⟩, ⟨[(1, .one (bS key_1))], [], [(19, .one (bS key_1))], []⟩, ⟨[(18, .one (bS x12.Key)), (19, .one (bS key_1))], [], [(20, .one (bB true))], []⟩, ⟨[(20, .one (bB true))], [], [(21, .one (bB true))], []⟩, ⟨[(21, .one (bB true)), (5, .one (.ptr 1005 0))], [(1005, some (.blk 35 [bI .i64 v3.2.1, bI .i64 v3.2.2]))], [(22, .one (.g (.agg [.v (.int .i64 v3.2.1), .v (.int .i64 v3.2.2)])))], []⟩, ⟨[(21, .one (bB true)), (0, .one (.g (.d (.sl 6 (List.map encApi_Version l_0)))))], [], [(23, .one (.g (.d (.sl 6 (List.map encApi_Version l_0)))))], []⟩, ⟨[(21, .one (bB true)), (6, .one (bI .i64 v3.1))], [], [(24, .one (bI .i64 v3.1))], []⟩, ⟨[(21, .one (bB true)), (23, .one (.g (.d (.sl 6 (List.map encApi_Version l_0))))), (24, .one (bI .i64 v3.1))], [], [(25, .one (.ep [.v (.string x14.Key), .v (.string x14.Value), .v (.bool x14.Gone), .v (.int .i64 x14.Stamp.N), .v (.int .i64 x14.Stamp.Site), .sl 3 (List.map encApi_Dep x14.Past)]))], []⟩, ⟨[(21, .one (bB true)), (25, .one (.ep [.v (.string x14.Key), .v (.string x14.Value), .v (.bool x14.Gone), .v (.int .i64 x14.Stamp.N), .v (.int .i64 x14.Stamp.Site), .sl 3 (List.map encApi_Dep x14.Past)]))], [], [(26, .one (.ep [.v (.int .i64 x14.Stamp.N), .v (.int .i64 x14.Stamp.Site), .sl 3 (List.map encApi_Dep x14.Past)]))], []⟩, ⟨[(21, .one (bB true)), (26, .one (.ep [.v (.int .i64 x14.Stamp.N), .v (.int .i64 x14.Stamp.Site), .sl 3 (List.map encApi_Dep x14.Past)]))], [], [(27, .one (.g (.agg [.v (.int .i64 x14.Stamp.N), .v (.int .i64 x14.Stamp.Site)])))], []⟩, ⟨[(21, .one (bB true)), (22, .one (.g (.agg [.v (.int .i64 v3.2.1), .v (.int .i64 v3.2.2)]))), (27, .one (.g (.agg [.v (.int .i64 x14.Stamp.N), .v (.int .i64 x14.Stamp.Site)])))], [], [(28, .one (bB r15))], []⟩, ⟨[(21, .one (bB true)), (28, .one (bB r15))], [], [(29, .one (bB r15))], []⟩]) (deps := [[], [], [0, 1], [0, 1, 2], [0, 1, 2, 3], [], [0, 1, 2, 3, 4, 5], [0, 1, 2, 3, 4, 5, 6], [0, 1, 2, 3, 4, 5, 6, 7], [0, 1, 2, 3, 4, 5, 6, 7], [0, 1, 2, 3, 4, 5, 6, 7], [0, 1, 2, 3, 4, 5, 6, 7, 9, 10], [0, 1, 2, 3, 4, 5, 6, 7, 9, 10, 11], [0, 1, 2, 3, 4, 5, 6, 7, 9, 10, 11, 12], [0, 1, 2, 3, 4, 5, 6, 7, 8, 9, 10, 11, 12, 13], [0, 1, 2, 3, 4, 5, 6, 7, 8, 9, 10, 11, 12, 13, 14]]) (sl' := [(0, .one (.g (.d (.sl 6 (List.map encApi_Version l_0))))), (1, .one (bS key_1)), (4, .one (.ptr 1004 0)), (5, .one (.ptr 1005 0)), (6, .one (bI .i64 v3.1)), (29, .one (bB r15))]) (hp' := [(1004, some (.blk 35 [bI .i64 0, bI .i64 0])), (1005, some (.blk 35 [bI .i64 v3.2.1, bI .i64 v3.2.2]))]) follows rfl rfl rfl ⟨⟨rfl, trivial⟩, trivial, ⟨rfl, trivial⟩, trivial, ⟨rfl, rfl, trivial⟩, trivial, ⟨rfl, trivial⟩, trivial, ⟨rfl, trivial⟩, trivial, ⟨rfl, trivial⟩, trivial, ⟨rfl, rfl, trivial⟩, trivial, ⟨rfl, trivial⟩, trivial, ⟨rfl, rfl, trivial⟩, ⟨⟨rfl, rfl⟩, trivial⟩, ⟨rfl, rfl, trivial⟩, trivial, ⟨rfl, rfl, trivial⟩, trivial, ⟨rfl, rfl, rfl, trivial⟩, trivial, ⟨rfl, rfl, trivial⟩, trivial, ⟨rfl, rfl, trivial⟩, trivial, ⟨rfl, rfl, rfl, trivial⟩, trivial, ⟨rfl, rfl, trivial⟩, trivial, trivial⟩ ⟨OpW.plain (op_move (Ev.t 0 (.g (.d (.sl 6 (List.map encApi_Version l_0))))) rfl) rfl rfl, OpW.plain (op_move (Ev.t 6 (bI .i64 v3.1)) rfl) rfl rfl, OpW.plain (op_index (cs := [.v (.string x12.Key), .v (.string x12.Value), .v (.bool x12.Gone), .v (.int .i64 x12.Stamp.N), .v (.int .i64 x12.Stamp.Site), .sl 3 (List.map encApi_Dep x12.Past)]) Try.underlying22 ti42 (idx_ok hx12).1 (idx_get hx12 encApi_Version) (Ev.t 14 (.g (.d (.sl 6 (List.map encApi_Version l_0))))) (Ev.t 15 (bI .i64 v3.1)) rfl) rfl rfl, OpW.plain (op_fieldE (cs' := [.v (.string x12.Key), .v (.string x12.Value), .v (.bool x12.Gone), .v (.int .i64 x12.Stamp.N), .v (.int .i64 x12.Stamp.Site), .sl 3 (List.map encApi_Dep x12.Past)]) Try.underlying42 rfl ti9 (by decide) rfl (Ev.t 16 (.ep [.v (.string x12.Key), .v (.string x12.Value), .v (.bool x12.Gone), .v (.int .i64 x12.Stamp.N), .v (.int .i64 x12.Stamp.Site), .sl 3 (List.map encApi_Dep x12.Past)])) rfl) rfl rfl, OpW.plain (op_load1E (c := .v (.string x12.Key)) Try.underlying9 rfl rfl (Ev.t 17 (.ep [.v (.string x12.Key), .v (.string x12.Value), .v (.bool x12.Gone), .v (.int .i64 x12.Stamp.N), .v (.int .i64 x12.Stamp.Site), .sl 3 (List.map encApi_Dep x12.Past)])) rfl) rfl rfl, OpW.plain (op_move (Ev.t 1 (bS key_1)) rfl) rfl rfl, OpW.plain (OpL.cast (op_eqS (Ev.t 18 (bS x12.Key)) (Ev.t 19 (bS key_1)) rfl) (congrArg (fun b => bB b) hc13)) rfl rfl, OpW.plain (op_move (Ev.t 20 (bB true)) rfl) rfl rfl, OpW.yes (op_loadAP (ds := [.v (.int .i64 v3.2.1), .v (.int .i64 v3.2.2)]) Try.underlying35 rfl ti35 rfl (Ev.t 5 (.ptr 1005 0)) rfl) rfl rfl rfl, OpW.yes (op_move (Ev.t 0 (.g (.d (.sl 6 (List.map encApi_Version l_0))))) rfl) rfl rfl rfl, OpW.yes (op_move (Ev.t 6 (bI .i64 v3.1)) rfl) rfl rfl rfl, OpW.yes (op_index (cs := [.v (.string x14.Key), .v (.string x14.Value), .v (.bool x14.Gone), .v (.int .i64 x14.Stamp.N), .v (.int .i64 x14.Stamp.Site), .sl 3 (List.map encApi_Dep x14.Past)]) Try.underlying22 ti42 (idx_ok hx14).1 (idx_get hx14 encApi_Version) (Ev.t 23 (.g (.d (.sl 6 (List.map encApi_Version l_0))))) (Ev.t 24 (bI .i64 v3.1)) rfl) rfl rfl rfl, OpW.yes (op_fieldE (cs' := [.v (.int .i64 x14.Stamp.N), .v (.int .i64 x14.Stamp.Site), .sl 3 (List.map encApi_Dep x14.Past)]) Try.underlying42 rfl ti35 (by decide) rfl (Ev.t 25 (.ep [.v (.string x14.Key), .v (.string x14.Value), .v (.bool x14.Gone), .v (.int .i64 x14.Stamp.N), .v (.int .i64 x14.Stamp.Site), .sl 3 (List.map encApi_Dep x14.Past)])) rfl) rfl rfl rfl, OpW.yes (op_loadAE (ds := [.v (.int .i64 x14.Stamp.N), .v (.int .i64 x14.Stamp.Site)]) Try.underlying35 rfl ti35 rfl (Ev.t 26 (.ep [.v (.int .i64 x14.Stamp.N), .v (.int .i64 x14.Stamp.Site), .sl 3 (List.map encApi_Dep x14.Past)])) rfl) rfl rfl rfl, OpW.yes (op_callQ (sv := .one (bB r15)) cf25 (ct_ref03_Less (Api_Stamp.mk v3.2.1 v3.2.2) x14.Stamp r15 hr15) rfl rfl (EvQL.cons (EvQ.g (Ev.t 22 (.g (.agg [.v (.int .i64 v3.2.1), .v (.int .i64 v3.2.2)])))) (EvQL.cons (EvQ.g (Ev.t 27 (.g (.agg [.v (.int .i64 x14.Stamp.N), .v (.int .i64 x14.Stamp.Site)])))) EvQL.nil)) rfl) rfl rfl rfl, OpW.plain (op_pickT (Ev.t 21 (bB true)) (Ev.t 28 (bB r15)) rfl) rfl rfl, trivial⟩ ⟨rfl, rfl, rfl, rfl, rfl, rfl, trivial⟩ ⟨rfl, rfl, trivial⟩ rfl ?_
      exact G.arr (J11 r15 hF) ⟨rfl, rfl, rfl, rfl, rfl, rfl, trivial⟩ ⟨rfl, rfl, trivial⟩ rfl
    · refine G.drawn (effs := [⟨[(0, .one (.g (.d (.sl 6 (List.map encApi_Version l_0)))))], [], [(14, .one (.g (.d (.sl 6 (List.map encApi_Version l_0)))))], []⟩, ⟨[(6, .one (bI .i64 v3.1))], [], [(15, .one (bI .i64 v3.1))], []⟩, ⟨[(14, .one (.g (.d (.sl 6 (List.map encApi_Version l_0))))), (15, .one (bI .i64 v3.1))], [], [(16, .one (.ep [.v (.string x12.Key), .v (.string x12.Value), .v (.bool x12.Gone), .v (.int .i64 x12.Stamp.N), .v (.int .i64 x12.Stamp.Site), .sl 3 (List.map encApi_Dep x12.Past)]))], []⟩, ⟨[(16, .one (.ep [.v (.string x12.Key), .v (.string x12.Value), .v (.bool x12.Gone), .v (.int .i64 x12.Stamp.N), .v (.int .i64 x12.Stamp.Site), .sl 3 (List.map encApi_Dep x12.Past)]))], [], [(17, .one (.ep [.v (.string x12.Key), .v (.string x12.Value), .v (.bool x12.Gone), .v (.int .i64 x12.Stamp.N), .v (.int .i64 x12.Stamp.Site), .sl 3 (List.map encApi_Dep x12.Past)]))], []⟩, ⟨[(17, .one (.ep [.v (.string x12.Key), .v (.string x12.Value), .v (.bool x12.Gone), .v (.int .i64 x12.Stamp.N), .v (.int .i64 x12.Stamp.Site), .sl 3 (List.map encApi_Dep x12.Past)]))], [], [(18, .one (bS x12.Key))], []⟩, ⟨[(1, .one (bS key_1))], [], [(19, .one (bS key_1))], []⟩, ⟨[(18, .one (bS x12.Key)), (19, .one (bS key_1))], [], [(20, .one (bB false))], []⟩, ⟨[(20, .one (bB false))], [], [(21, .one (bB false))], []⟩, ⟨[(21, .one (bB false))], [], [(22, .one (.x Go.undef))], []⟩, ⟨[(21, .one (bB false))], [], [(23, .one (.x Go.undef))], []⟩, ⟨[(21, .one (bB false))], [], [(24, .one (.x Go.undef))], []⟩, ⟨[(21, .one (bB false))], [], [(25, .one (.x Go.undef))], []⟩, ⟨[(21, .one (bB false))], [], [(26, .one (.x Go.undef))], []⟩, ⟨[(21, .one (bB false))], [], [(27, .one (.x Go.undef))], []⟩, ⟨[(21, .one (bB false))], [], [(28, .one (.x Go.undef))], []⟩, ⟨[(21, .one (bB false))], [], [(29, .one (bB false))], []⟩]) (deps := [[], [], [0, 1], [0, 1, 2], [0, 1, 2, 3], [], [0, 1, 2, 3, 4, 5], [0, 1, 2, 3, 4, 5, 6], [0, 1, 2, 3, 4, 5, 6, 7], [0, 1, 2, 3, 4, 5, 6, 7], [0, 1, 2, 3, 4, 5, 6, 7], [0, 1, 2, 3, 4, 5, 6, 7, 9, 10], [0, 1, 2, 3, 4, 5, 6, 7, 9, 10, 11], [0, 1, 2, 3, 4, 5, 6, 7, 9, 10, 11, 12], [0, 1, 2, 3, 4, 5, 6, 7, 8, 9, 10, 11, 12, 13], [0, 1, 2, 3, 4, 5, 6, 7, 8, 9, 10, 11, 12, 13, 14]]) (sl' := [(0, .one (.g (.d (.sl 6 (List.map encApi_Version l_0))))), (1, .one (bS key_1)), (4, .one (.ptr 1004 0)), (5, .one (.ptr 1005 0)), (6, .one (bI .i64 v3.1)), (29, .one (bB false))]) (hp' := [(1004, some (.blk 35 [bI .i64 0, bI .i64 0])), (1005, some (.blk 35 [bI .i64 v3.2.1, bI .i64 v3.2.2]))]) follows rfl rfl rfl ⟨⟨rfl, trivial⟩, trivial, ⟨rfl, trivial⟩, trivial, ⟨rfl, rfl, trivial⟩, trivial, ⟨rfl, trivial⟩, trivial, ⟨rfl, trivial⟩, trivial, ⟨rfl, trivial⟩, trivial, ⟨rfl, rfl, trivial⟩, trivial, ⟨rfl, trivial⟩, trivial, ⟨rfl, trivial⟩, trivial, ⟨rfl, trivial⟩, trivial, ⟨rfl, trivial⟩, trivial, ⟨rfl, trivial⟩, trivial, ⟨rfl, trivial⟩, trivial, ⟨rfl, trivial⟩, trivial, ⟨rfl, trivial⟩, trivial, ⟨rfl, trivial⟩, trivial, trivial⟩ ⟨OpW.plain (op_move (Ev.t 0 (.g (.d (.sl 6 (List.map encApi_Version l_0))))) rfl) rfl rfl, OpW.plain (op_move (Ev.t 6 (bI .i64 v3.1)) rfl) rfl rfl, OpW.plain (op_index (cs := [.v (.string x12.Key), .v (.string x12.Value), .v (.bool x12.Gone), .v (.int .i64 x12.Stamp.N), .v (.int .i64 x12.Stamp.Site), .sl 3 (List.map encApi_Dep x12.Past)]) Try.underlying22 ti42 (idx_ok hx12).1 (idx_get hx12 encApi_Version) (Ev.t 14 (.g (.d (.sl 6 (List.map encApi_Version l_0))))) (Ev.t 15 (bI .i64 v3.1)) rfl) rfl rfl, OpW.plain (op_fieldE (cs' := [.v (.string x12.Key), .v (.string x12.Value), .v (.bool x12.Gone), .v (.int .i64 x12.Stamp.N), .v (.int .i64 x12.Stamp.Site), .sl 3 (List.map encApi_Dep x12.Past)]) Try.underlying42 rfl ti9 (by decide) rfl (Ev.t 16 (.ep [.v (.string x12.Key), .v (.string x12.Value), .v (.bool x12.Gone), .v (.int .i64 x12.Stamp.N), .v (.int .i64 x12.Stamp.Site), .sl 3 (List.map encApi_Dep x12.Past)])) rfl) rfl rfl, OpW.plain (op_load1E (c := .v (.string x12.Key)) Try.underlying9 rfl rfl (Ev.t 17 (.ep [.v (.string x12.Key), .v (.string x12.Value), .v (.bool x12.Gone), .v (.int .i64 x12.Stamp.N), .v (.int .i64 x12.Stamp.Site), .sl 3 (List.map encApi_Dep x12.Past)])) rfl) rfl rfl, OpW.plain (op_move (Ev.t 1 (bS key_1)) rfl) rfl rfl, OpW.plain (OpL.cast (op_eqS (Ev.t 18 (bS x12.Key)) (Ev.t 19 (bS key_1)) rfl) (congrArg (fun b => bB b) hc13)) rfl rfl, OpW.plain (op_move (Ev.t 20 (bB false)) rfl) rfl rfl, OpW.no rfl rfl rfl rfl rfl, OpW.no rfl rfl rfl rfl rfl, OpW.no rfl rfl rfl rfl rfl, OpW.no rfl rfl rfl rfl rfl, OpW.no rfl rfl rfl rfl rfl, OpW.no rfl rfl rfl rfl rfl, OpW.no rfl rfl rfl rfl rfl, OpW.plain (op_pickF (Ev.t 21 (bB false)) (Ev.c _ rfl) rfl) rfl rfl, trivial⟩ ⟨rfl, rfl, rfl, rfl, rfl, rfl, trivial⟩ ⟨rfl, rfl, trivial⟩ rfl ?_
      exact G.arr (J11 false hF) ⟨rfl, rfl, rfl, rfl, rfl, rfl, trivial⟩ ⟨rfl, rfl, trivial⟩ rfl
  · refine G.cond rfl (fun hx => by rw [hc7] at hx; cases hx) (fun _ => ?_)
    refine G.exit ?_
    refine GX.c ?_
    refine GX.q ?_
    refine GX.bYes ?_
    exact G.arr (J2 (v3.2.1, v3.2.2) hF) ⟨rfl, rfl, trivial⟩ ⟨rfl, rfl, trivial⟩ rfl


set_option maxRecDepth 20000 in
set_option maxHeartbeats 2000000 in
theorem ct_ref19_Late (keys_0 : (List ByteArray)) (l_1 : (List Api_Version)) (seen_2 : (List Api_Dep)) (r : (List ByteArray)) (hF : ref19_Late keys_0 l_1 seen_2 = some r) : Ct Try.prog 18 [.g (.d (.sl 1 (List.map encS keys_0))), .g (.d (.sl 6 (List.map encApi_Version l_1))), .g (.d (.sl 3 (List.map encApi_Dep seen_2)))] (.one (.d (.sl 1 (List.map encS r)))) := by
  unfold ref19_Late at hF
  refine Ct.intro Try.func18 rfl Try.ntmps18 rfl rfl fun M w => ?_
  refine G.seq ?_
  refine G.region ?_
  refine G.op1 (op_assign (Ev.n 1) rfl) rfl trivial trivial ?_
  refine G.endOps ?_
  refine G.seq ?_
  refine G.region ?_
  refine G.op2 (op_assignRow (E := 9) (size := 1) (k := 2007) (ex := false) rfl rfl) rfl trivial ⟨rfl, trivial⟩ ?_
  refine G.endOps ?_
  refine G.seq ?_
  refine G.region ?_
  refine G.op1 (op_move (Ev.t 1 (.g (.d (.sl 6 (List.map encApi_Version l_1))))) rfl) rfl ⟨rfl, trivial⟩ trivial ?_
  refine G.op1 (op_move (Ev.t 2 (.g (.d (.sl 3 (List.map encApi_Dep seen_2))))) rfl) rfl ⟨rfl, trivial⟩ trivial ?_
  obtain ⟨r1, hr1, hF⟩ := bindS hF
  refine G.op1 (op_call (sv := .one (.g (.d (.sl 3 (List.map encApi_Dep r1))))) cf15 (ct_ref19_Low l_1 seen_2 r1 hr1) rfl (EvL.cons (Ev.t 11 (.g (.d (.sl 6 (List.map encApi_Version l_1))))) (EvL.cons (Ev.t 12 (.g (.d (.sl 3 (List.map encApi_Dep seen_2))))) EvL.nil)) rfl) rfl ⟨rfl, rfl, trivial⟩ trivial ?_
  refine G.op1 (op_assign (Ev.t 13 (.g (.d (.sl 3 (List.map encApi_Dep r1))))) rfl) rfl ⟨rfl, trivial⟩ trivial ?_
  refine G.endOps ?_
  refine G.seq ?_
  refine G.seq ?_
  refine G.region ?_
  refine G.op1 (op_assign (Ev.c _ rfl) rfl) rfl trivial trivial ?_
  refine G.endOps ?_
  refine G.joinC (T := (List ByteArray)) (fun y2 => ⟨[(7, .one (.own 2007 (List.map encS y2)))], [(2007, some (.row 9 1 (List.map encS y2) false))]⟩) (fun y2 => ref19_Late_k1 y2 = some r) (fun y2 hF => ?_) (fun J3 => ?_)
  · unfold ref19_Late_k1 at hF
    refine G.seq ?_
    refine G.region ?_
    refine G.op1 (op_move (Ev.t 7 (.own 2007 (List.map encS y2))) rfl) rfl ⟨rfl, trivial⟩ trivial ?_
    refine G.op1 (op_assign (Ev.t 41 (.own 2007 (List.map encS y2))) rfl) rfl ⟨rfl, trivial⟩ trivial ?_
    refine G.endOps ?_
    refine G.view (t := 6) rfl rfl ?_
    cases hF
    exact G.ret1 Try.results18 (RVar.tmp 6 _) ⟨rfl, trivial⟩ trivial
  refine G.block ?_
  refine G.keep (sl' := [(0, .one (.g (.d (.sl 1 (List.map encS keys_0))))), (1, .one (.g (.d (.sl 6 (List.map encApi_Version l_1))))), (7, .one (.own 2007 (List.map encS ([] : (List ByteArray))))), (8, .one (.g (.d (.sl 3 (List.map encApi_Dep r1))))), (9, .one (bI .i64 0))]) (hp' := [(2007, some (.row 9 1 (List.map encS ([] : (List ByteArray))) false))]) ⟨rfl, rfl, rfl, rfl, rfl, trivial⟩ ⟨rfl, trivial⟩ rfl ?_
  refine G.loopF (fun (v4 : Int × (List ByteArray)) => ⟨[(0, .one (.g (.d (.sl 1 (List.map encS keys_0))))), (1, .one (.g (.d (.sl 6 (List.map encApi_Version l_1))))), (7, .one (.own 2007 (List.map encS v4.2))), (8, .one (.g (.d (.sl 3 (List.map encApi_Dep r1))))), (9, .one (bI .i64 v4.1))], [(2007, some (.row 9 1 (List.map encS v4.2) false))]⟩) hF rfl (fun K7 again6 v4 J5 hF => ?_)
  unfold ref19_Late_l2 at hF
  refine G.seq ?_
  refine G.seq ?_
  refine G.region ?_
  refine G.op1 (op_move (Ev.t 9 (bI .i64 v4.1)) rfl) rfl ⟨rfl, trivial⟩ trivial ?_
  refine G.op1 (op_move (Ev.t 0 (.g (.d (.sl 1 (List.map encS keys_0))))) rfl) rfl ⟨rfl, trivial⟩ trivial ?_
  refine G.op1 (OpL.cast (op_lenD Try.underlying23 (Ev.t 15 (.g (.d (.sl 1 (List.map encS keys_0))))) rfl) (by rw [List.length_map])) rfl ⟨rfl, trivial⟩ trivial ?_
  refine G.op1 (op_lss (Ev.t 14 (bI .i64 v4.1)) (Ev.t 16 (bI .i64 (keys_0.length : Int))) rfl) rfl ⟨rfl, rfl, trivial⟩ trivial ?_
  refine G.endOps ?_
  refine ifS hF (fun hc8 hF => ?_) (fun hc8 hF => ?_)
  · refine G.cond rfl (fun _ => ?_) (fun hx => by rw [hc8] at hx; cases hx)
    refine G.skip ?_
    refine G.seq ?_
    refine G.block ?_
    refine G.seq ?_
    refine G.region ?_
    refine G.op1 (op_move (Ev.t 8 (.g (.d (.sl 3 (List.map encApi_Dep r1))))) rfl) rfl ⟨rfl, trivial⟩ trivial ?_
    refine G.op1 (op_move (Ev.t 0 (.g (.d (.sl 1 (List.map encS keys_0))))) rfl) rfl ⟨rfl, trivial⟩ trivial ?_
    refine G.op1 (op_move (Ev.t 9 (bI .i64 v4.1)) rfl) rfl ⟨rfl, trivial⟩ trivial ?_
    obtain ⟨x9, hx9, hF⟩ := bindS hF
    refine G.op1 (op_index (cs := [.v (.string x9)]) Try.underlying23 ti9 (idx_ok hx9).1 (idx_get hx9 encS) (Ev.t 21 (.g (.d (.sl 1 (List.map encS keys_0))))) (Ev.t 22 (bI .i64 v4.1)) rfl) rfl ⟨rfl, rfl, trivial⟩ trivial ?_
    refine G.op1 (op_load1E (c := .v (.string x9)) Try.underlying9 rfl rfl (Ev.t 23 (.ep [.v (.string x9)])) rfl) rfl ⟨rfl, trivial⟩ trivial ?_
    obtain ⟨r10, hr10, hF⟩ := bindS hF
    refine G.op1 (op_callQ (sv := .one (.g (.agg [.v (.int .i64 r10.N), .v (.int .i64 r10.Site)]))) cf26 (ct_ref04_Get r1 x9 r10 hr10) rfl rfl (EvQL.cons (EvQ.g (Ev.t 20 (.g (.d (.sl 3 (List.map encApi_Dep r1)))))) (EvQL.cons (EvQ.g (Ev.t 24 (bS x9))) EvQL.nil)) rfl) rfl ⟨rfl, rfl, trivial⟩ trivial ?_
    refine G.op2 (op_alloc (k := 1010) (cs := [bI .i64 0, bI .i64 0]) ti35 ⟨.v _ rfl, .v _ rfl, trivial⟩ rfl) rfl trivial ⟨rfl, trivial⟩ ?_
    refine G.op3 (op_storeA (cs' := [bI .i64 r10.N, bI .i64 r10.Site]) ti35 rfl rfl (Ev.t 10 (.ptr 1010 0)) (Ev.t 25 (.g (.agg [.v (.int .i64 r10.N), .v (.int .i64 r10.Site)])))) rfl ⟨rfl, rfl, trivial⟩ ⟨rfl, trivial⟩ ?_
    refine G.endOps ?_
    refine G.seq ?_
    obtain ⟨x11, hx11, hF⟩ := bindS hF
    obtain ⟨r12, hr12, hF⟩ := bindS hF
    obtain ⟨r13, hr13, hF⟩ := bindS hF
    refine G.drawn (effs := [⟨[(1, .one (.g (.d (.sl 6 (List.map encApi_Version l_1)))))], [], [(26, .one (.g (.d (.sl 6 (List.map encApi_Version l_1)))))], []⟩, ⟨[(0, .one (.g (.d (.sl 1 (List.map encS keys_0)))))], [], [(27, .one (.g (.d (.sl 1 (List.map encS keys_0)))))], []⟩, ⟨[(9, .one (bI .i64 v4.1))], [], [(28, .one (bI .i64 v4.1))], []⟩, ⟨[(27, .one (.g (.d (.sl 1 (List.map encS keys_0))))), (28, .one (bI .i64 v4.1))], [], [(29, .one (.ep [.v (.string x11)]))], []⟩, ⟨[(29, .one (.ep [.v (.string x11)]))], [], [(30, .one (bS x11))], []⟩, ⟨[(26, .one (.g (.d (.sl 6 (List.map encApi_Version l_1))))), (30, .one (bS x11))], [], [(31, .one (.g (.agg [.v (.int .i64 r12.N), .v (.int .i64 r12.Site)])))], []⟩, ⟨[(10, .one (.ptr 1010 0))], [(1010, some (.blk 35 [bI .i64 r10.N, bI .i64 r10.Site]))], [(32, .one (.g (.agg [.v (.int .i64 r10.N), .v (.int .i64 r10.Site)])))], []⟩, ⟨[(31, .one (.g (.agg [.v (.int .i64 r12.N), .v (.int .i64 r12.Site)]))), (32, .one (.g (.agg [.v (.int .i64 r10.N), .v (.int .i64 r10.Site)])))], [], [(33, .one (bB r13))], []⟩]) (deps := [[], [], [], [1, 2], [1, 2, 3], [0, 1, 2, 3, 4], [], [0, 1, 2, 3, 4, 5, 6]]) (sl' := [(0, .one (.g (.d (.sl 1 (List.map encS keys_0))))), (1, .one (.g (.d (.sl 6 (List.map encApi_Version l_1))))), (7, .one (.own 2007 (List.map encS v4.2))), (8, .one (.g (.d (.sl 3 (List.map encApi_Dep r1))))), (9, .one (bI .i64 v4.1)), (33, .one (bB r13))]) (hp' := [(2007, some (.row 9 1 (List.map encS v4.2) false))]) follows rfl rfl rfl ⟨⟨rfl, trivial⟩, trivial, ⟨rfl, trivial⟩, trivial, ⟨rfl, trivial⟩, trivial, ⟨rfl, rfl, trivial⟩, trivial, ⟨rfl, trivial⟩, trivial, ⟨rfl, rfl, trivial⟩, trivial, ⟨rfl, trivial⟩, ⟨⟨rfl, rfl⟩, trivial⟩, ⟨rfl, rfl, trivial⟩, trivial, trivial⟩ ⟨OpW.plain (op_move (Ev.t 1 (.g (.d (.sl 6 (List.map encApi_Version l_1))))) rfl) rfl rfl, OpW.plain (op_move (Ev.t 0 (.g (.d (.sl 1 (List.map encS keys_0))))) rfl) rfl rfl, OpW.plain (op_move (Ev.t 9 (bI .i64 v4.1)) rfl) rfl rfl, OpW.plain (op_index (cs := [.v (.string x11)]) Try.underlying23 ti9 (idx_ok hx11).1 (idx_get hx11 encS) (Ev.t 27 (.g (.d (.sl 1 (List.map encS keys_0))))) (Ev.t 28 (bI .i64 v4.1)) rfl) rfl rfl, OpW.plain (op_load1E (c := .v (.string x11)) Try.underlying9 rfl rfl (Ev.t 29 (.ep [.v (.string x11)])) rfl) rfl rfl, OpW.plain (op_callQ (sv := .one (.g (.agg [.v (.int .i64 r12.N), .v (.int .i64 r12.Site)]))) cf22 (ct_ref19_Of l_1 x11 r12 hr12) rfl rfl (EvQL.cons (EvQ.g (Ev.t 26 (.g (.d (.sl 6 (List.map encApi_Version l_1)))))) (EvQL.cons (EvQ.g (Ev.t 30 (bS x11))) EvQL.nil)) rfl) rfl rfl, OpW.plain (op_loadAP (ds := [.v (.int .i64 r10.N), .v (.int .i64 r10.Site)]) Try.underlying35 rfl ti35 rfl (Ev.t 10 (.ptr 1010 0)) rfl) rfl rfl, OpW.plain (op_callQ (sv := .one (bB r13)) cf25 (ct_ref03_Less r12 r10 r13 hr13) rfl rfl (EvQL.cons (EvQ.g (Ev.t 31 (.g (.agg [.v (.int .i64 r12.N), .v (.int .i64 r12.Site)])))) (EvQL.cons (EvQ.g (Ev.t 32 (.g (.agg [.v (.int .i64 r10.N), .v (.int .i64 r10.Site)])))) EvQL.nil)) rfl) rfl rfl, trivial⟩ ⟨rfl, rfl, rfl, rfl, rfl, rfl, trivial⟩ ⟨rfl, trivial⟩ rfl ?_
    refine ifS hF (fun hc14 hF => ?_) (fun hc14 hF => ?_)
    · refine G.cond rfl (fun _ => ?_) (fun hx => by rw [hc14] at hx; cases hx)
      refine G.region ?_
      refine G.op1 (op_move (Ev.t 7 (.own 2007 (List.map encS v4.2))) rfl) rfl ⟨rfl, trivial⟩ trivial ?_
      refine G.op1 (op_move (Ev.t 0 (.g (.d (.sl 1 (List.map encS keys_0))))) rfl) rfl ⟨rfl, trivial⟩ trivial ?_
      refine G.op1 (op_move (Ev.t 9 (bI .i64 v4.1)) rfl) rfl ⟨rfl, trivial⟩ trivial ?_
      obtain ⟨x15, hx15, hF⟩ := bindS hF
      refine G.op1 (op_index (cs := [.v (.string x15)]) Try.underlying23 ti9 (idx_ok hx15).1 (idx_get hx15 encS) (Ev.t 35 (.g (.d (.sl 1 (List.map encS keys_0))))) (Ev.t 36 (bI .i64 v4.1)) rfl) rfl ⟨rfl, rfl, trivial⟩ trivial ?_
      refine G.op1 (op_load1E (c := .v (.string x15)) Try.underlying9 rfl rfl (Ev.t 37 (.ep [.v (.string x15)])) rfl) rfl ⟨rfl, trivial⟩ trivial ?_
      refine G.op1 (op_buildSlice (es := List.map encS [x15]) Try.underlying23 ti9 rfl rfl (EvP.cons (Ev.t 38 (bS x15)) EvP.nil) rfl rfl (by simp [encS]) rfl) rfl ⟨rfl, trivial⟩ trivial ?_
      obtain ⟨l16, hl16, hF⟩ := bindS hF
      refine G.op2 (op_appendO Try.underlying23 ti9 rfl (app_map hl16 encS) (app_b1 hl16 encS) (app_b2 hl16 encS) (Ev.t 34 (.own 2007 (List.map encS v4.2))) (Ev.t 39 (.g (.d (.sl 1 (List.map encS ([x15])))))) rfl) rfl ⟨rfl, rfl, trivial⟩ ⟨rfl, trivial⟩ ?_
      refine G.op1 (op_assign (Ev.t 40 (.own 2007 (List.map encS l16))) rfl) rfl ⟨rfl, trivial⟩ trivial ?_
      refine G.endOps ?_
      refine G.endBlock ?_
      refine G.region ?_
      refine G.op1 (op_move (Ev.t 9 (bI .i64 v4.1)) rfl) rfl ⟨rfl, trivial⟩ trivial ?_
      refine G.op1 (op_add (Ev.t 18 (bI .i64 v4.1)) (Ev.c _ rfl) rfl) rfl ⟨rfl, trivial⟩ trivial ?_
      refine G.op1 (op_assign (Ev.t 19 (bI .i64 (IntKind.wrap .i64 (v4.1 + 1)))) rfl) rfl ⟨rfl, trivial⟩ trivial ?_
      refine G.endOps ?_
      exact G.arr (J5 (IntKind.wrap .i64 (v4.1 + 1), l16) hF) ⟨rfl, rfl, rfl, rfl, rfl, trivial⟩ ⟨rfl, trivial⟩ rfl
    · refine G.cond rfl (fun hx => by rw [hc14] at hx; cases hx) (fun _ => ?_)
      refine G.skip ?_
      refine G.endBlock ?_
      refine G.region ?_
      refine G.op1 (op_move (Ev.t 9 (bI .i64 v4.1)) rfl) rfl ⟨rfl, trivial⟩ trivial ?_
      refine G.op1 (op_add (Ev.t 18 (bI .i64 v4.1)) (Ev.c _ rfl) rfl) rfl ⟨rfl, trivial⟩ trivial ?_
      refine G.op1 (op_assign (Ev.t 19 (bI .i64 (IntKind.wrap .i64 (v4.1 + 1)))) rfl) rfl ⟨rfl, trivial⟩ trivial ?_
      refine G.endOps ?_
      exact G.arr (J5 (IntKind.wrap .i64 (v4.1 + 1), v4.2) hF) ⟨rfl, rfl, rfl, rfl, rfl, trivial⟩ ⟨rfl, trivial⟩ rfl
  · refine G.cond rfl (fun hx => by rw [hc8] at hx; cases hx) (fun _ => ?_)
    refine G.exit ?_
    refine GX.c ?_
    refine GX.q ?_
    refine GX.bYes ?_
    exact G.arr (J3 v4.2 hF) ⟨rfl, trivial⟩ ⟨rfl, trivial⟩ rfl


set_option maxRecDepth 20000 in
set_option maxHeartbeats 2000000 in
theorem ct_ref02_Same (a_0 : (List ByteArray)) (b_1 : (List ByteArray)) (r : Bool) (hF : ref02_Same a_0 b_1 = some r) : Ct Try.prog 16 [.g (.d (.sl 1 (List.map encS a_0))), .g (.d (.sl 1 (List.map encS b_1)))] (.one (.d (.v (.bool r)))) := by
  unfold ref02_Same at hF
  refine Ct.intro Try.func16 rfl Try.ntmps16 rfl rfl fun M w => ?_
  refine G.seq ?_
  refine G.region ?_
  refine G.op1 (op_assign (Ev.c _ rfl) rfl) rfl trivial trivial ?_
  refine G.endOps ?_
  refine G.seq ?_
  refine G.seq ?_
  refine G.region ?_
  refine G.op1 (op_move (Ev.t 0 (.g (.d (.sl 1 (List.map encS a_0))))) rfl) rfl ⟨rfl, trivial⟩ trivial ?_
  refine G.op1 (OpL.cast (op_lenD Try.underlying23 (Ev.t 6 (.g (.d (.sl 1 (List.map encS a_0))))) rfl) (by rw [List.length_map])) rfl ⟨rfl, trivial⟩ trivial ?_
  refine G.op1 (op_move (Ev.t 1 (.g (.d (.sl 1 (List.map encS b_1))))) rfl) rfl ⟨rfl, trivial⟩ trivial ?_
  refine G.op1 (OpL.cast (op_lenD Try.underlying23 (Ev.t 8 (.g (.d (.sl 1 (List.map encS b_1))))) rfl) (by rw [List.length_map])) rfl ⟨rfl, trivial⟩ trivial ?_
  refine G.op1 (op_neI (Ev.t 7 (bI .i64 (a_0.length : Int))) (Ev.t 9 (bI .i64 (b_1.length : Int))) rfl) rfl ⟨rfl, rfl, trivial⟩ trivial ?_
  refine G.endOps ?_
  refine ifS hF (fun hc1 hF => ?_) (fun hc1 hF => ?_)
  · refine G.cond rfl (fun _ => ?_) (fun hx => by rw [hc1] at hx; cases hx)
    refine G.seq ?_
    refine G.region ?_
    refine G.op1 (op_assign (Ev.c _ rfl) rfl) rfl trivial trivial ?_
    refine G.endOps ?_
    cases hF
    exact G.ret1 Try.results16 (RVar.tmp 4 _) ⟨rfl, trivial⟩ trivial
  · refine G.cond rfl (fun hx => by rw [hc1] at hx; cases hx) (fun _ => ?_)
    refine G.skip ?_
    refine G.seq ?_
    refine G.seq ?_
    refine G.region ?_
    refine G.op1 (op_assign (Ev.c _ rfl) rfl) rfl trivial trivial ?_
    refine G.endOps ?_
    refine G.joinC (T := Unit) (fun y2 => ⟨[], []⟩) (fun y2 => ref02_Same_k1 y2 = some r) (fun y2 hF => ?_) (fun J3 => ?_)
    · unfold ref02_Same_k1 at hF
      refine G.seq ?_
      refine G.region ?_
      refine G.op1 (op_assign (Ev.c _ rfl) rfl) rfl trivial trivial ?_
      refine G.endOps ?_
      cases hF
      exact G.ret1 Try.results16 (RVar.tmp 4 _) ⟨rfl, trivial⟩ trivial
    refine G.block ?_
    refine G.keep (sl' := [(0, .one (.g (.d (.sl 1 (List.map encS a_0))))), (1, .one (.g (.d (.sl 1 (List.map encS b_1))))), (5, .one (bI .i64 0))]) (hp' := []) ⟨rfl, rfl, rfl, trivial⟩ trivial rfl ?_
    refine G.loopF (fun (v4 : Int) => ⟨[(0, .one (.g (.d (.sl 1 (List.map encS a_0))))), (1, .one (.g (.d (.sl 1 (List.map encS b_1))))), (5, .one (bI .i64 v4))], []⟩) hF rfl (fun K7 again6 v4 J5 hF => ?_)
    unfold ref02_Same_l2 at hF
    refine G.seq ?_
    refine G.seq ?_
    refine G.region ?_
    refine G.op1 (op_move (Ev.t 5 (bI .i64 v4)) rfl) rfl ⟨rfl, trivial⟩ trivial ?_
    refine G.op1 (op_move (Ev.t 0 (.g (.d (.sl 1 (List.map encS a_0))))) rfl) rfl ⟨rfl, trivial⟩ trivial ?_
    refine G.op1 (OpL.cast (op_lenD Try.underlying23 (Ev.t 12 (.g (.d (.sl 1 (List.map encS a_0))))) rfl) (by rw [List.length_map])) rfl ⟨rfl, trivial⟩ trivial ?_
    refine G.op1 (op_lss (Ev.t 11 (bI .i64 v4)) (Ev.t 13 (bI .i64 (a_0.length : Int))) rfl) rfl ⟨rfl, rfl, trivial⟩ trivial ?_
    refine G.endOps ?_
    refine ifS hF (fun hc8 hF => ?_) (fun hc8 hF => ?_)
    · refine G.cond rfl (fun _ => ?_) (fun hx => by rw [hc8] at hx; cases hx)
      refine G.skip ?_
      refine G.seq ?_
      refine G.block ?_
      refine G.seq ?_
      obtain ⟨x9, hx9, hF⟩ := bindS hF
      obtain ⟨x10, hx10, hF⟩ := bindS hF
      refine G.drawn (effs := [⟨[(0, .one (.g (.d (.sl 1 (List.map encS a_0)))))], [], [(17, .one (.g (.d (.sl 1 (List.map encS a_0)))))], []⟩, ⟨[(5, .one (bI .i64 v4))], [], [(18, .one (bI .i64 v4))], []⟩, ⟨[(17, .one (.g (.d (.sl 1 (List.map encS a_0))))), (18, .one (bI .i64 v4))], [], [(19, .one (.ep [.v (.string x9)]))], []⟩, ⟨[(19, .one (.ep [.v (.string x9)]))], [], [(20, .one (bS x9))], []⟩, ⟨[(1, .one (.g (.d (.sl 1 (List.map encS b_1)))))], [], [(21, .one (.g (.d (.sl 1 (List.map encS b_1)))))], []⟩, ⟨[(5, .one (bI .i64 v4))], [], [(22, .one (bI .i64 v4))], []⟩, ⟨[(21, .one (.g (.d (.sl 1 (List.map encS b_1))))), (22, .one (bI .i64 v4))], [], [(23, .one (.ep [.v (.string x10)]))], []⟩, ⟨[(23, .one (.ep [.v (.string x10)]))], [], [(24, .one (bS x10))], []⟩, ⟨[(20, .one (bS x9)), (24, .one (bS x10))], [], [(25, .one (bB (!seq x9 x10)))], []⟩]) (deps := [[], [], [0, 1], [0, 1, 2], [], [], [4, 5], [4, 5, 6], [0, 1, 2, 3, 4, 5, 6, 7]]) (sl' := [(0, .one (.g (.d (.sl 1 (List.map encS a_0))))), (1, .one (.g (.d (.sl 1 (List.map encS b_1))))), (5, .one (bI .i64 v4)), (25, .one (bB (!seq x9 x10)))]) (hp' := []) follows rfl rfl rfl ⟨⟨rfl, trivial⟩, trivial, ⟨rfl, trivial⟩, trivial, ⟨rfl, rfl, trivial⟩, trivial, ⟨rfl, trivial⟩, trivial, ⟨rfl, trivial⟩, trivial, ⟨rfl, trivial⟩, trivial, ⟨rfl, rfl, trivial⟩, trivial, ⟨rfl, trivial⟩, trivial, ⟨rfl, rfl, trivial⟩, trivial, trivial⟩ ⟨OpW.plain (op_move (Ev.t 0 (.g (.d (.sl 1 (List.map encS a_0))))) rfl) rfl rfl, OpW.plain (op_move (Ev.t 5 (bI .i64 v4)) rfl) rfl rfl, OpW.plain (op_index (cs := [.v (.string x9)]) Try.underlying23 ti9 (idx_ok hx9).1 (idx_get hx9 encS) (Ev.t 17 (.g (.d (.sl 1 (List.map encS a_0))))) (Ev.t 18 (bI .i64 v4)) rfl) rfl rfl, OpW.plain (op_load1E (c := .v (.string x9)) Try.underlying9 rfl rfl (Ev.t 19 (.ep [.v (.string x9)])) rfl) rfl rfl, OpW.plain (op_move (Ev.t 1 (.g (.d (.sl 1 (List.map encS b_1))))) rfl) rfl rfl, OpW.plain (op_move (Ev.t 5 (bI .i64 v4)) rfl) rfl rfl, OpW.plain (op_index (cs := [.v (.string x10)]) Try.underlying23 ti9 (idx_ok hx10).1 (idx_get hx10 encS) (Ev.t 21 (.g (.d (.sl 1 (List.map encS b_1))))) (Ev.t 22 (bI .i64 v4)) rfl) rfl rfl, OpW.plain (op_load1E (c := .v (.string x10)) Try.underlying9 rfl rfl (Ev.t 23 (.ep [.v (.string x10)])) rfl) rfl rfl, OpW.plain (op_neS (Ev.t 20 (bS x9)) (Ev.t 24 (bS x10)) rfl) rfl rfl, trivial⟩ ⟨rfl, rfl, rfl, rfl, trivial⟩ trivial rfl ?_
      refine ifS hF (fun hc11 hF => ?_) (fun hc11 hF => ?_)
      · refine G.cond rfl (fun _ => ?_) (fun hx => by rw [hc11] at hx; cases hx)
        refine G.seq ?_
        refine G.region ?_
        refine G.op1 (op_assign (Ev.c _ rfl) rfl) rfl trivial trivial ?_
        refine G.endOps ?_
        cases hF
        exact G.ret1 Try.results16 (RVar.tmp 4 _) ⟨rfl, trivial⟩ trivial
      · refine G.cond rfl (fun hx => by rw [hc11] at hx; cases hx) (fun _ => ?_)
        refine G.skip ?_
        refine G.endBlock ?_
        refine G.region ?_
        refine G.op1 (op_move (Ev.t 5 (bI .i64 v4)) rfl) rfl ⟨rfl, trivial⟩ trivial ?_
        refine G.op1 (op_add (Ev.t 15 (bI .i64 v4)) (Ev.c _ rfl) rfl) rfl ⟨rfl, trivial⟩ trivial ?_
        refine G.op1 (op_assign (Ev.t 16 (bI .i64 (IntKind.wrap .i64 (v4 + 1)))) rfl) rfl ⟨rfl, trivial⟩ trivial ?_
        refine G.endOps ?_
        exact G.arr (J5 (IntKind.wrap .i64 (v4 + 1)) hF) ⟨rfl, rfl, rfl, trivial⟩ trivial rfl
    · refine G.cond rfl (fun hx => by rw [hc8] at hx; cases hx) (fun _ => ?_)
      refine G.exit ?_
      refine GX.c ?_
      refine GX.q ?_
      refine GX.bYes ?_
      exact G.arr (J3 () hF) trivial trivial rfl


set_option maxRecDepth 20000 in
set_option maxHeartbeats 2000000 in
theorem ct_ref19_After (seen_0 : (List Api_Dep)) (l_1 : (List Api_Version)) (r : (List Api_Dep)) (hF : ref19_After seen_0 l_1 = some r) : Ct Try.prog 20 [.g (.d (.sl 3 (List.map encApi_Dep seen_0))), .g (.d (.sl 6 (List.map encApi_Version l_1)))] (.one (.d (.sl 3 (List.map encApi_Dep r)))) := by
  unfold ref19_After at hF
  refine Ct.intro Try.func20 rfl Try.ntmps20 rfl rfl fun M w => ?_
  refine G.seq ?_
  refine G.region ?_
  refine G.op1 (op_assign (Ev.n 3) rfl) rfl trivial trivial ?_
  refine G.endOps ?_
  refine G.seq ?_
  refine G.region ?_
  refine G.op1 (op_move (Ev.t 1 (.g (.d (.sl 6 (List.map encApi_Version l_1))))) rfl) rfl ⟨rfl, trivial⟩ trivial ?_
  refine G.op1 (op_move (Ev.t 0 (.g (.d (.sl 3 (List.map encApi_Dep seen_0))))) rfl) rfl ⟨rfl, trivial⟩ trivial ?_
  obtain ⟨r1, hr1, hF⟩ := bindS hF
  refine G.op1 (op_call (sv := .one (.g (.d (.sl 3 (List.map encApi_Dep r1))))) cf15 (ct_ref19_Low l_1 seen_0 r1 hr1) rfl (EvL.cons (Ev.t 7 (.g (.d (.sl 6 (List.map encApi_Version l_1))))) (EvL.cons (Ev.t 8 (.g (.d (.sl 3 (List.map encApi_Dep seen_0))))) EvL.nil)) rfl) rfl ⟨rfl, rfl, trivial⟩ trivial ?_
  refine G.op1 (op_assign (Ev.t 9 (.g (.d (.sl 3 (List.map encApi_Dep r1))))) rfl) rfl ⟨rfl, trivial⟩ trivial ?_
  refine G.endOps ?_
  refine G.seq ?_
  refine G.seq ?_
  refine G.region ?_
  refine G.op1 (op_assign (Ev.c _ rfl) rfl) rfl trivial trivial ?_
  refine G.endOps ?_
  refine G.joinC (T := (List Api_Dep)) (fun y2 => ⟨[(5, .one (.g (.d (.sl 3 (List.map encApi_Dep y2)))))], []⟩) (fun y2 => ref19_After_k1 y2 = some r) (fun y2 hF => ?_) (fun J3 => ?_)
  · unfold ref19_After_k1 at hF
    refine G.seq ?_
    refine G.region ?_
    refine G.op1 (op_move (Ev.t 5 (.g (.d (.sl 3 (List.map encApi_Dep y2))))) rfl) rfl ⟨rfl, trivial⟩ trivial ?_
    refine G.op1 (op_assign (Ev.t 29 (.g (.d (.sl 3 (List.map encApi_Dep y2))))) rfl) rfl ⟨rfl, trivial⟩ trivial ?_
    refine G.endOps ?_
    cases hF
    exact G.ret1 Try.results20 (RVar.tmp 4 _) ⟨rfl, trivial⟩ trivial
  refine G.block ?_
  refine G.keep (sl' := [(1, .one (.g (.d (.sl 6 (List.map encApi_Version l_1))))), (5, .one (.g (.d (.sl 3 (List.map encApi_Dep r1))))), (6, .one (bI .i64 0))]) (hp' := []) ⟨rfl, rfl, rfl, trivial⟩ trivial rfl ?_
  refine G.loopF (fun (v4 : (List Api_Dep) × Int) => ⟨[(1, .one (.g (.d (.sl 6 (List.map encApi_Version l_1))))), (5, .one (.g (.d (.sl 3 (List.map encApi_Dep v4.1))))), (6, .one (bI .i64 v4.2))], []⟩) hF rfl (fun K7 again6 v4 J5 hF => ?_)
  unfold ref19_After_l2 at hF
  refine G.seq ?_
  refine G.seq ?_
  refine G.region ?_
  refine G.op1 (op_move (Ev.t 6 (bI .i64 v4.2)) rfl) rfl ⟨rfl, trivial⟩ trivial ?_
  refine G.op1 (op_move (Ev.t 1 (.g (.d (.sl 6 (List.map encApi_Version l_1))))) rfl) rfl ⟨rfl, trivial⟩ trivial ?_
  refine G.op1 (OpL.cast (op_lenD Try.underlying22 (Ev.t 11 (.g (.d (.sl 6 (List.map encApi_Version l_1))))) rfl) (by rw [List.length_map])) rfl ⟨rfl, trivial⟩ trivial ?_
  refine G.op1 (op_lss (Ev.t 10 (bI .i64 v4.2)) (Ev.t 12 (bI .i64 (l_1.length : Int))) rfl) rfl ⟨rfl, rfl, trivial⟩ trivial ?_
  refine G.endOps ?_
  refine ifS hF (fun hc8 hF => ?_) (fun hc8 hF => ?_)
  · refine G.cond rfl (fun _ => ?_) (fun hx => by rw [hc8] at hx; cases hx)
    refine G.skip ?_
    refine G.seq ?_
    refine G.block ?_
    obtain ⟨x9, hx9, hF⟩ := bindS hF
    obtain ⟨x10, hx10, hF⟩ := bindS hF
    obtain ⟨r11, hr11, hF⟩ := bindS hF
    refine G.drawn (effs := [⟨[(5, .one (.g (.d (.sl 3 (List.map encApi_Dep v4.1)))))], [], [(16, .one (.g (.d (.sl 3 (List.map encApi_Dep v4.1)))))], []⟩, ⟨[(1, .one (.g (.d (.sl 6 (List.map encApi_Version l_1)))))], [], [(17, .one (.g (.d (.sl 6 (List.map encApi_Version l_1)))))], []⟩, ⟨[(6, .one (bI .i64 v4.2))], [], [(18, .one (bI .i64 v4.2))], []⟩, ⟨[(17, .one (.g (.d (.sl 6 (List.map encApi_Version l_1))))), (18, .one (bI .i64 v4.2))], [], [(19, .one (.ep [.v (.string x9.Key), .v (.string x9.Value), .v (.bool x9.Gone), .v (.int .i64 x9.Stamp.N), .v (.int .i64 x9.Stamp.Site), .sl 3 (List.map encApi_Dep x9.Past)]))], []⟩, ⟨[(19, .one (.ep [.v (.string x9.Key), .v (.string x9.Value), .v (.bool x9.Gone), .v (.int .i64 x9.Stamp.N), .v (.int .i64 x9.Stamp.Site), .sl 3 (List.map encApi_Dep x9.Past)]))], [], [(20, .one (.ep [.v (.string x9.Key), .v (.string x9.Value), .v (.bool x9.Gone), .v (.int .i64 x9.Stamp.N), .v (.int .i64 x9.Stamp.Site), .sl 3 (List.map encApi_Dep x9.Past)]))], []⟩, ⟨[(20, .one (.ep [.v (.string x9.Key), .v (.string x9.Value), .v (.bool x9.Gone), .v (.int .i64 x9.Stamp.N), .v (.int .i64 x9.Stamp.Site), .sl 3 (List.map encApi_Dep x9.Past)]))], [], [(21, .one (bS x9.Key))], []⟩, ⟨[(1, .one (.g (.d (.sl 6 (List.map encApi_Version l_1)))))], [], [(22, .one (.g (.d (.sl 6 (List.map encApi_Version l_1)))))], []⟩, ⟨[(6, .one (bI .i64 v4.2))], [], [(23, .one (bI .i64 v4.2))], []⟩, ⟨[(22, .one (.g (.d (.sl 6 (List.map encApi_Version l_1))))), (23, .one (bI .i64 v4.2))], [], [(24, .one (.ep [.v (.string x10.Key), .v (.string x10.Value), .v (.bool x10.Gone), .v (.int .i64 x10.Stamp.N), .v (.int .i64 x10.Stamp.Site), .sl 3 (List.map encApi_Dep x10.Past)]))], []⟩, ⟨[(24, .one (.ep [.v (.string x10.Key), .v (.string x10.Value), .v (.bool x10.Gone), .v (.int .i64 x10.Stamp.N), .v (.int .i64 x10.Stamp.Site), .sl 3 (List.map encApi_Dep x10.Past)]))], [], [(25, .one (.ep [.v (.int .i64 x10.Stamp.N), .v (.int .i64 x10.Stamp.Site), .sl 3 (List.map encApi_Dep x10.Past)]))], []⟩, ⟨[(25, .one (.ep [.v (.int .i64 x10.Stamp.N), .v (.int .i64 x10.Stamp.Site), .sl 3 (List.map encApi_Dep x10.Past)]))], [], [(26, .one (.g (.agg [.v (.int .i64 x10.Stamp.N), .v (.int .i64 x10.Stamp.Site)])))], []⟩, ⟨[(21, .one (bS x9.Key)), (26, .one (.g (.agg [.v (.int .i64 x10.Stamp.N), .v (.int .i64 x10.Stamp.Site)])))], [], [(27, .one (.g (.agg [.v (.string x9.Key), .v (.int .i64 x10.Stamp.N), .v (.int .i64 x10.Stamp.Site)])))], []⟩, ⟨[(16, .one (.g (.d (.sl 3 (List.map encApi_Dep v4.1))))), (27, .one (.g (.agg [.v (.string x9.Key), .v (.int .i64 x10.Stamp.N), .v (.int .i64 x10.Stamp.Site)])))], [], [(28, .one (.g (.d (.sl 3 (List.map encApi_Dep r11)))))], []⟩, ⟨[(28, .one (.g (.d (.sl 3 (List.map encApi_Dep r11)))))], [], [(5, .one (.g (.d (.sl 3 (List.map encApi_Dep r11)))))], []⟩]) (deps := [[], [], [], [1, 2], [1, 2, 3], [1, 2, 3, 4], [], [], [6, 7], [6, 7, 8], [6, 7, 8, 9], [1, 2, 3, 4, 5, 6, 7, 8, 9, 10], [0, 1, 2, 3, 4, 5, 6, 7, 8, 9, 10, 11], [0, 1, 2, 3, 4, 5, 6, 7, 8, 9, 10, 11, 12]]) (sl' := [(1, .one (.g (.d (.sl 6 (List.map encApi_Version l_1))))), (5, .one (.g (.d (.sl 3 (List.map encApi_Dep r11))))), (6, .one (bI .i64 v4.2))]) (hp' := []) follows rfl rfl rfl ⟨⟨⟨rfl, rfl⟩, trivial⟩, trivial, ⟨rfl, trivial⟩, trivial, ⟨rfl, trivial⟩, trivial, ⟨rfl, rfl, trivial⟩, trivial, ⟨rfl, trivial⟩, trivial, ⟨rfl, trivial⟩, trivial, ⟨rfl, trivial⟩, trivial, ⟨rfl, trivial⟩, trivial, ⟨rfl, rfl, trivial⟩, trivial, ⟨rfl, trivial⟩, trivial, ⟨rfl, trivial⟩, trivial, ⟨rfl, rfl, trivial⟩, trivial, ⟨rfl, rfl, trivial⟩, trivial, ⟨rfl, trivial⟩, trivial, trivial⟩ ⟨OpW.plain (op_move (Ev.t 5 (.g (.d (.sl 3 (List.map encApi_Dep v4.1))))) rfl) rfl rfl, OpW.plain (op_move (Ev.t 1 (.g (.d (.sl 6 (List.map encApi_Version l_1))))) rfl) rfl rfl, OpW.plain (op_move (Ev.t 6 (bI .i64 v4.2)) rfl) rfl rfl, OpW.plain (op_index (cs := [.v (.string x9.Key), .v (.string x9.Value), .v (.bool x9.Gone), .v (.int .i64 x9.Stamp.N), .v (.int .i64 x9.Stamp.Site), .sl 3 (List.map encApi_Dep x9.Past)]) Try.underlying22 ti42 (idx_ok hx9).1 (idx_get hx9 encApi_Version) (Ev.t 17 (.g (.d (.sl 6 (List.map encApi_Version l_1))))) (Ev.t 18 (bI .i64 v4.2)) rfl) rfl rfl, OpW.plain (op_fieldE (cs' := [.v (.string x9.Key), .v (.string x9.Value), .v (.bool x9.Gone), .v (.int .i64 x9.Stamp.N), .v (.int .i64 x9.Stamp.Site), .sl 3 (List.map encApi_Dep x9.Past)]) Try.underlying42 rfl ti9 (by decide) rfl (Ev.t 19 (.ep [.v (.string x9.Key), .v (.string x9.Value), .v (.bool x9.Gone), .v (.int .i64 x9.Stamp.N), .v (.int .i64 x9.Stamp.Site), .sl 3 (List.map encApi_Dep x9.Past)])) rfl) rfl rfl, OpW.plain (op_load1E (c := .v (.string x9.Key)) Try.underlying9 rfl rfl (Ev.t 20 (.ep [.v (.string x9.Key), .v (.string x9.Value), .v (.bool x9.Gone), .v (.int .i64 x9.Stamp.N), .v (.int .i64 x9.Stamp.Site), .sl 3 (List.map encApi_Dep x9.Past)])) rfl) rfl rfl, OpW.plain (op_move (Ev.t 1 (.g (.d (.sl 6 (List.map encApi_Version l_1))))) rfl) rfl rfl, OpW.plain (op_move (Ev.t 6 (bI .i64 v4.2)) rfl) rfl rfl, OpW.plain (op_index (cs := [.v (.string x10.Key), .v (.string x10.Value), .v (.bool x10.Gone), .v (.int .i64 x10.Stamp.N), .v (.int .i64 x10.Stamp.Site), .sl 3 (List.map encApi_Dep x10.Past)]) Try.underlying22 ti42 (idx_ok hx10).1 (idx_get hx10 encApi_Version) (Ev.t 22 (.g (.d (.sl 6 (List.map encApi_Version l_1))))) (Ev.t 23 (bI .i64 v4.2)) rfl) rfl rfl, OpW.plain (op_fieldE (cs' := [.v (.int .i64 x10.Stamp.N), .v (.int .i64 x10.Stamp.Site), .sl 3 (List.map encApi_Dep x10.Past)]) Try.underlying42 rfl ti35 (by decide) rfl (Ev.t 24 (.ep [.v (.string x10.Key), .v (.string x10.Value), .v (.bool x10.Gone), .v (.int .i64 x10.Stamp.N), .v (.int .i64 x10.Stamp.Site), .sl 3 (List.map encApi_Dep x10.Past)])) rfl) rfl rfl, OpW.plain (op_loadAE (ds := [.v (.int .i64 x10.Stamp.N), .v (.int .i64 x10.Stamp.Site)]) Try.underlying35 rfl ti35 rfl (Ev.t 25 (.ep [.v (.int .i64 x10.Stamp.N), .v (.int .i64 x10.Stamp.Site), .sl 3 (List.map encApi_Dep x10.Past)])) rfl) rfl rfl, OpW.plain (op_build (zs := [.v (.string ByteArray.empty), .v (.int .i64 0), .v (.int .i64 0)]) (ds := [.v (.string x9.Key), .v (.int .i64 x10.Stamp.N), .v (.int .i64 x10.Stamp.Site)]) Try.underlying47 ti47 (pl47 _ Try.underlying47) ⟨.v _ rfl, .v _ rfl, .v _ rfl, trivial⟩ (EvP.cons (Ev.t 21 (bS x9.Key)) (EvP.cons (Ev.t 26 (.g (.agg [.v (.int .i64 x10.Stamp.N), .v (.int .i64 x10.Stamp.Site)]))) EvP.nil)) rfl rfl) rfl rfl, OpW.plain (op_call (sv := .one (.g (.d (.sl 3 (List.map encApi_Dep r11))))) cf31 (ct_ref04_Add v4.1 (Api_Dep.mk x9.Key x10.Stamp) r11 hr11) rfl (EvL.cons (Ev.t 16 (.g (.d (.sl 3 (List.map encApi_Dep v4.1))))) (EvL.cons (Ev.t 27 (.g (.agg [.v (.string x9.Key), .v (.int .i64 x10.Stamp.N), .v (.int .i64 x10.Stamp.Site)]))) EvL.nil)) rfl) rfl rfl, OpW.plain (op_assign (Ev.t 28 (.g (.d (.sl 3 (List.map encApi_Dep r11))))) rfl) rfl rfl, trivial⟩ ⟨rfl, rfl, rfl, trivial⟩ trivial rfl ?_
    refine G.endBlock ?_
    refine G.region ?_
    refine G.op1 (op_move (Ev.t 6 (bI .i64 v4.2)) rfl) rfl ⟨rfl, trivial⟩ trivial ?_
    refine G.op1 (op_add (Ev.t 14 (bI .i64 v4.2)) (Ev.c _ rfl) rfl) rfl ⟨rfl, trivial⟩ trivial ?_
    refine G.op1 (op_assign (Ev.t 15 (bI .i64 (IntKind.wrap .i64 (v4.2 + 1)))) rfl) rfl ⟨rfl, trivial⟩ trivial ?_
    refine G.endOps ?_
    exact G.arr (J5 (r11, IntKind.wrap .i64 (v4.2 + 1)) hF) ⟨rfl, rfl, rfl, trivial⟩ trivial rfl
  · refine G.cond rfl (fun hx => by rw [hc8] at hx; cases hx) (fun _ => ?_)
    refine G.exit ?_
    refine GX.c ?_
    refine GX.q ?_
    refine GX.bYes ?_
    exact G.arr (J3 v4.1 hF) ⟨rfl, trivial⟩ trivial rfl


set_option maxRecDepth 20000 in
set_option maxHeartbeats 2000000 in
theorem ct_ref19_Check (keys_0 : (List ByteArray)) (l_1 : (List Api_Version)) (seen_2 : (List Api_Dep)) (r : Bool) (hF : ref19_Check keys_0 l_1 seen_2 = some r) : Ct Try.prog 24 [.g (.d (.sl 1 (List.map encS keys_0))), .g (.d (.sl 6 (List.map encApi_Version l_1))), .g (.d (.sl 3 (List.map encApi_Dep seen_2)))] (.one (.d (.v (.bool r)))) := by
  unfold ref19_Check at hF
  refine Ct.intro Try.func24 rfl Try.ntmps24 rfl rfl fun M w => ?_
  refine G.seq ?_
  refine G.region ?_
  refine G.op1 (op_assign (Ev.c _ rfl) rfl) rfl trivial trivial ?_
  refine G.endOps ?_
  refine G.seq ?_
  refine G.region ?_
  refine G.op1 (op_move (Ev.t 0 (.g (.d (.sl 1 (List.map encS keys_0))))) rfl) rfl ⟨rfl, trivial⟩ trivial ?_
  refine G.op1 (op_move (Ev.t 1 (.g (.d (.sl 6 (List.map encApi_Version l_1))))) rfl) rfl ⟨rfl, trivial⟩ trivial ?_
  refine G.op1 (op_move (Ev.t 2 (.g (.d (.sl 3 (List.map encApi_Dep seen_2))))) rfl) rfl ⟨rfl, trivial⟩ trivial ?_
  obtain ⟨r1, hr1, hF⟩ := bindS hF
  refine G.op1 (op_call (sv := .one (.g (.d (.sl 1 (List.map encS r1))))) cf18 (ct_ref19_Late keys_0 l_1 seen_2 r1 hr1) rfl (EvL.cons (Ev.t 8 (.g (.d (.sl 1 (List.map encS keys_0))))) (EvL.cons (Ev.t 9 (.g (.d (.sl 6 (List.map encApi_Version l_1))))) (EvL.cons (Ev.t 10 (.g (.d (.sl 3 (List.map encApi_Dep seen_2))))) EvL.nil))) rfl) rfl ⟨rfl, rfl, rfl, trivial⟩ trivial ?_
  refine G.op1 (op_assign (Ev.t 11 (.g (.d (.sl 1 (List.map encS r1))))) rfl) rfl ⟨rfl, trivial⟩ trivial ?_
  refine G.endOps ?_
  refine G.seq ?_
  refine G.region ?_
  refine G.op1 (op_move (Ev.t 7 (.g (.d (.sl 1 (List.map encS r1))))) rfl) rfl ⟨rfl, trivial⟩ trivial ?_
  refine G.op1 (OpL.cast (op_lenD Try.underlying23 (Ev.t 12 (.g (.d (.sl 1 (List.map encS r1))))) rfl) (by rw [List.length_map])) rfl ⟨rfl, trivial⟩ trivial ?_
  refine G.op1 (op_eqI (Ev.t 13 (bI .i64 (r1.length : Int))) (Ev.c _ rfl) rfl) rfl ⟨rfl, trivial⟩ trivial ?_
  refine G.op1 (op_assign (Ev.t 14 (bB (decide ((r1.length : Int) = 0)))) rfl) rfl ⟨rfl, trivial⟩ trivial ?_
  refine G.endOps ?_
  cases hF
  exact G.ret1 Try.results24 (RVar.tmp 6 _) ⟨rfl, trivial⟩ trivial


set_option maxRecDepth 20000 in
set_option maxHeartbeats 2000000 in
theorem ct_law19_CutTells (l_0 : (List Api_Version)) (k_1 : (List ByteArray)) (seen_2 : (List Api_Dep)) (r : Bool) (hF : law19_CutTells l_0 k_1 seen_2 = some r) : Ct Try.prog 3 [.g (.d (.sl 6 (List.map encApi_Version l_0))), .g (.d (.sl 1 (List.map encS k_1))), .g (.d (.sl 3 (List.map encApi_Dep seen_2)))] (.one (.d (.v (.bool r)))) := by
  unfold law19_CutTells at hF
  refine Ct.intro Try.func3 rfl Try.ntmps3 rfl rfl fun M w => ?_
  refine G.seq ?_
  refine G.region ?_
  refine G.op1 (op_assign (Ev.c _ rfl) rfl) rfl trivial trivial ?_
  refine G.endOps ?_
  refine G.seq ?_
  refine G.region ?_
  obtain ⟨r1, hr1, hF⟩ := bindS hF
  refine G.op1 (op_callQ (sv := .one (bB r1)) cf9 (ct_law19_awake r1 hr1) rfl rfl EvQL.nil rfl) rfl trivial trivial ?_
  refine G.op1 (op_assign (Ev.t 14 (bB r1)) rfl) rfl ⟨rfl, trivial⟩ trivial ?_
  refine G.endOps ?_
  refine G.seq ?_
  refine G.region ?_
  refine G.op1 (op_move (Ev.t 0 (.g (.d (.sl 6 (List.map encApi_Version l_0))))) rfl) rfl ⟨rfl, trivial⟩ trivial ?_
  obtain ⟨r2, hr2, hF⟩ := bindS hF
  refine G.op1 (op_call (sv := .one (.g (.d (.sl 6 (List.map encApi_Version r2))))) cf10 (ct_law19_few l_0 r2 hr2) rfl (EvL.cons (Ev.t 15 (.g (.d (.sl 6 (List.map encApi_Version l_0))))) EvL.nil) rfl) rfl ⟨rfl, trivial⟩ trivial ?_
  refine G.op1 (op_assign (Ev.t 16 (.g (.d (.sl 6 (List.map encApi_Version r2))))) rfl) rfl ⟨rfl, trivial⟩ trivial ?_
  refine G.endOps ?_
  refine G.seq ?_
  refine G.region ?_
  refine G.op1 (op_move (Ev.t 2 (.g (.d (.sl 3 (List.map encApi_Dep seen_2))))) rfl) rfl ⟨rfl, trivial⟩ trivial ?_
  obtain ⟨r3, hr3, hF⟩ := bindS hF
  refine G.op1 (op_call (sv := .one (.g (.d (.sl 3 (List.map encApi_Dep r3))))) cf11 (ct_law19_row seen_2 r3 hr3) rfl (EvL.cons (Ev.t 17 (.g (.d (.sl 3 (List.map encApi_Dep seen_2))))) EvL.nil) rfl) rfl ⟨rfl, trivial⟩ trivial ?_
  refine G.op1 (op_assign (Ev.t 18 (.g (.d (.sl 3 (List.map encApi_Dep r3))))) rfl) rfl ⟨rfl, trivial⟩ trivial ?_
  refine G.endOps ?_
  refine G.seq ?_
  refine G.region ?_
  refine G.op1 (op_move (Ev.t 1 (.g (.d (.sl 1 (List.map encS k_1))))) rfl) rfl ⟨rfl, trivial⟩ trivial ?_
  obtain ⟨r4, hr4, hF⟩ := bindS hF
  refine G.op1 (op_call (sv := .one (.g (.d (.sl 1 (List.map encS r4))))) cf12 (ct_law19_keys k_1 r4 hr4) rfl (EvL.cons (Ev.t 19 (.g (.d (.sl 1 (List.map encS k_1))))) EvL.nil) rfl) rfl ⟨rfl, trivial⟩ trivial ?_
  refine G.op1 (op_assign (Ev.t 20 (.g (.d (.sl 1 (List.map encS r4))))) rfl) rfl ⟨rfl, trivial⟩ trivial ?_
  refine G.endOps ?_
  refine G.seq ?_
  refine G.region ?_
  refine G.op1 (op_move (Ev.t 8 (.g (.d (.sl 6 (List.map encApi_Version r2))))) rfl) rfl ⟨rfl, trivial⟩ trivial ?_
  refine G.op1 (op_move (Ev.t 9 (.g (.d (.sl 3 (List.map encApi_Dep r3))))) rfl) rfl ⟨rfl, trivial⟩ trivial ?_
  obtain ⟨r5, hr5, hF⟩ := bindS hF
  refine G.op1 (op_call (sv := .one (.g (.d (.sl 3 (List.map encApi_Dep r5))))) cf14 (ct_cut_Low r2 r3 r5 hr5) rfl (EvL.cons (Ev.t 21 (.g (.d (.sl 6 (List.map encApi_Version r2))))) (EvL.cons (Ev.t 22 (.g (.d (.sl 3 (List.map encApi_Dep r3))))) EvL.nil)) rfl) rfl ⟨rfl, rfl, trivial⟩ trivial ?_
  refine G.op1 (op_move (Ev.t 8 (.g (.d (.sl 6 (List.map encApi_Version r2))))) rfl) rfl ⟨rfl, trivial⟩ trivial ?_
  refine G.op1 (op_move (Ev.t 9 (.g (.d (.sl 3 (List.map encApi_Dep r3))))) rfl) rfl ⟨rfl, trivial⟩ trivial ?_
  obtain ⟨r6, hr6, hF⟩ := bindS hF
  refine G.op1 (op_call (sv := .one (.g (.d (.sl 3 (List.map encApi_Dep r6))))) cf15 (ct_ref19_Low r2 r3 r6 hr6) rfl (EvL.cons (Ev.t 24 (.g (.d (.sl 6 (List.map encApi_Version r2))))) (EvL.cons (Ev.t 25 (.g (.d (.sl 3 (List.map encApi_Dep r3))))) EvL.nil)) rfl) rfl ⟨rfl, rfl, trivial⟩ trivial ?_
  obtain ⟨r7, hr7, hF⟩ := bindS hF
  refine G.op1 (op_callQ (sv := .one (bB r7)) cf13 (ct_ref04_Same r5 r6 r7 hr7) rfl rfl (EvQL.cons (EvQ.g (Ev.t 23 (.g (.d (.sl 3 (List.map encApi_Dep r5)))))) (EvQL.cons (EvQ.g (Ev.t 26 (.g (.d (.sl 3 (List.map encApi_Dep r6)))))) EvQL.nil)) rfl) rfl ⟨rfl, rfl, trivial⟩ trivial ?_
  refine G.op1 (op_assign (Ev.t 27 (bB r7)) rfl) rfl ⟨rfl, trivial⟩ trivial ?_
  refine G.endOps ?_
  refine G.seq ?_
  refine G.region ?_
  refine G.op1 (op_move (Ev.t 1 (.g (.d (.sl 1 (List.map encS r4))))) rfl) rfl ⟨rfl, trivial⟩ trivial ?_
  refine G.op1 (op_move (Ev.t 8 (.g (.d (.sl 6 (List.map encApi_Version r2))))) rfl) rfl ⟨rfl, trivial⟩ trivial ?_
  refine G.op1 (op_move (Ev.t 9 (.g (.d (.sl 3 (List.map encApi_Dep r3))))) rfl) rfl ⟨rfl, trivial⟩ trivial ?_
  obtain ⟨r8, hr8, hF⟩ := bindS hF
  refine G.op1 (op_call (sv := .one (.g (.d (.sl 1 (List.map encS r8))))) cf17 (ct_cut_Late r4 r2 r3 r8 hr8) rfl (EvL.cons (Ev.t 28 (.g (.d (.sl 1 (List.map encS r4))))) (EvL.cons (Ev.t 29 (.g (.d (.sl 6 (List.map encApi_Version r2))))) (EvL.cons (Ev.t 30 (.g (.d (.sl 3 (List.map encApi_Dep r3))))) EvL.nil))) rfl) rfl ⟨rfl, rfl, rfl, trivial⟩ trivial ?_
  refine G.op1 (op_move (Ev.t 1 (.g (.d (.sl 1 (List.map encS r4))))) rfl) rfl ⟨rfl, trivial⟩ trivial ?_
  refine G.op1 (op_move (Ev.t 8 (.g (.d (.sl 6 (List.map encApi_Version r2))))) rfl) rfl ⟨rfl, trivial⟩ trivial ?_
  refine G.op1 (op_move (Ev.t 9 (.g (.d (.sl 3 (List.map encApi_Dep r3))))) rfl) rfl ⟨rfl, trivial⟩ trivial ?_
  obtain ⟨r9, hr9, hF⟩ := bindS hF
  refine G.op1 (op_call (sv := .one (.g (.d (.sl 1 (List.map encS r9))))) cf18 (ct_ref19_Late r4 r2 r3 r9 hr9) rfl (EvL.cons (Ev.t 32 (.g (.d (.sl 1 (List.map encS r4))))) (EvL.cons (Ev.t 33 (.g (.d (.sl 6 (List.map encApi_Version r2))))) (EvL.cons (Ev.t 34 (.g (.d (.sl 3 (List.map encApi_Dep r3))))) EvL.nil))) rfl) rfl ⟨rfl, rfl, rfl, trivial⟩ trivial ?_
  obtain ⟨r10, hr10, hF⟩ := bindS hF
  refine G.op1 (op_callQ (sv := .one (bB r10)) cf16 (ct_ref02_Same r8 r9 r10 hr10) rfl rfl (EvQL.cons (EvQ.g (Ev.t 31 (.g (.d (.sl 1 (List.map encS r8)))))) (EvQL.cons (EvQ.g (Ev.t 35 (.g (.d (.sl 1 (List.map encS r9)))))) EvQL.nil)) rfl) rfl ⟨rfl, rfl, trivial⟩ trivial ?_
  refine G.op1 (op_assign (Ev.t 36 (bB r10)) rfl) rfl ⟨rfl, trivial⟩ trivial ?_
  refine G.endOps ?_
  refine G.seq ?_
  refine G.region ?_
  refine G.op1 (op_move (Ev.t 9 (.g (.d (.sl 3 (List.map encApi_Dep r3))))) rfl) rfl ⟨rfl, trivial⟩ trivial ?_
  refine G.op1 (op_move (Ev.t 8 (.g (.d (.sl 6 (List.map encApi_Version r2))))) rfl) rfl ⟨rfl, trivial⟩ trivial ?_
  obtain ⟨r11, hr11, hF⟩ := bindS hF
  refine G.op1 (op_call (sv := .one (.g (.d (.sl 3 (List.map encApi_Dep r11))))) cf19 (ct_cut_After r3 r2 r11 hr11) rfl (EvL.cons (Ev.t 37 (.g (.d (.sl 3 (List.map encApi_Dep r3))))) (EvL.cons (Ev.t 38 (.g (.d (.sl 6 (List.map encApi_Version r2))))) EvL.nil)) rfl) rfl ⟨rfl, rfl, trivial⟩ trivial ?_
  refine G.op1 (op_move (Ev.t 9 (.g (.d (.sl 3 (List.map encApi_Dep r3))))) rfl) rfl ⟨rfl, trivial⟩ trivial ?_
  refine G.op1 (op_move (Ev.t 8 (.g (.d (.sl 6 (List.map encApi_Version r2))))) rfl) rfl ⟨rfl, trivial⟩ trivial ?_
  obtain ⟨r12, hr12, hF⟩ := bindS hF
  refine G.op1 (op_call (sv := .one (.g (.d (.sl 3 (List.map encApi_Dep r12))))) cf20 (ct_ref19_After r3 r2 r12 hr12) rfl (EvL.cons (Ev.t 40 (.g (.d (.sl 3 (List.map encApi_Dep r3))))) (EvL.cons (Ev.t 41 (.g (.d (.sl 6 (List.map encApi_Version r2))))) EvL.nil)) rfl) rfl ⟨rfl, rfl, trivial⟩ trivial ?_
  obtain ⟨r13, hr13, hF⟩ := bindS hF
  refine G.op1 (op_callQ (sv := .one (bB r13)) cf13 (ct_ref04_Same r11 r12 r13 hr13) rfl rfl (EvQL.cons (EvQ.g (Ev.t 39 (.g (.d (.sl 3 (List.map encApi_Dep r11)))))) (EvQL.cons (EvQ.g (Ev.t 42 (.g (.d (.sl 3 (List.map encApi_Dep r12)))))) EvQL.nil)) rfl) rfl ⟨rfl, rfl, trivial⟩ trivial ?_
  refine G.op1 (op_assign (Ev.t 43 (bB r13)) rfl) rfl ⟨rfl, trivial⟩ trivial ?_
  refine G.endOps ?_
  refine G.seq ?_
  refine G.seq ?_
  refine G.region ?_
  refine G.op1 (op_assign (Ev.c _ rfl) rfl) rfl trivial trivial ?_
  refine G.endOps ?_
  refine G.joinC (T := Unit) (fun y14 => ⟨[(1, .one (.g (.d (.sl 1 (List.map encS r4))))), (7, .one (bB r1)), (8, .one (.g (.d (.sl 6 (List.map encApi_Version r2))))), (9, .one (.g (.d (.sl 3 (List.map encApi_Dep r3))))), (10, .one (bB r7)), (11, .one (bB r10)), (12, .one (bB r13))], []⟩) (fun y14 => law19_CutTells_k1 r1 r2 r3 r4 r7 r10 r13 y14 = some r) (fun y14 hF => ?_) (fun J27 => ?_)
  · unfold law19_CutTells_k1 at hF
    refine G.seq ?_
    refine G.region ?_
    refine G.op1 (op_move (Ev.t 7 (bB r1)) rfl) rfl ⟨rfl, trivial⟩ trivial ?_
    refine G.op1 (op_move (Ev.t 63 (bB r1)) rfl) rfl ⟨rfl, trivial⟩ trivial ?_
    refine G.joinL (T := Bool) 2 (fun y15 => ⟨[(1, .one (.g (.d (.sl 1 (List.map encS r4))))), (8, .one (.g (.d (.sl 6 (List.map encApi_Version r2))))), (9, .one (.g (.d (.sl 3 (List.map encApi_Dep r3))))), (11, .one (bB r10)), (12, .one (bB r13)), (66, .one (bB y15))], []⟩) (fun y15 => law19_CutTells_k2 r2 r3 r4 r10 r13 y15 = some r) (fun y15 hF => ?_) (fun J25 => ?_)
    · unfold law19_CutTells_k2 at hF
      refine G.op1 (op_move (Ev.t 66 (bB y15)) rfl) rfl ⟨rfl, trivial⟩ trivial ?_
      refine G.joinL (T := Bool) 2 (fun y16 => ⟨[(1, .one (.g (.d (.sl 1 (List.map encS r4))))), (8, .one (.g (.d (.sl 6 (List.map encApi_Version r2))))), (9, .one (.g (.d (.sl 3 (List.map encApi_Dep r3))))), (12, .one (bB r13)), (69, .one (bB y16))], []⟩) (fun y16 => law19_CutTells_k3 r2 r3 r4 r13 y16 = some r) (fun y16 hF => ?_) (fun J23 => ?_)
      · unfold law19_CutTells_k3 at hF
        refine G.op1 (op_move (Ev.t 69 (bB y16)) rfl) rfl ⟨rfl, trivial⟩ trivial ?_
        refine G.joinL (T := Bool) 2 (fun y17 => ⟨[(1, .one (.g (.d (.sl 1 (List.map encS r4))))), (8, .one (.g (.d (.sl 6 (List.map encApi_Version r2))))), (9, .one (.g (.d (.sl 3 (List.map encApi_Dep r3))))), (72, .one (bB y17))], []⟩) (fun y17 => law19_CutTells_k4 r2 r3 r4 y17 = some r) (fun y17 hF => ?_) (fun J21 => ?_)
        · unfold law19_CutTells_k4 at hF
          refine G.op1 (op_move (Ev.t 72 (bB y17)) rfl) rfl ⟨rfl, trivial⟩ trivial ?_
          refine ifS hF (fun hc18 hF => ?_) (fun hc18 hF => ?_)
          · refine G.known (t := 73) hc18 rfl ?_
            refine G.opG1 (op_move (Ev.t 1 (.g (.d (.sl 1 (List.map encS r4))))) rfl) rfl rfl rfl ⟨rfl, trivial⟩ trivial ?_
            refine G.opG1 (op_move (Ev.t 8 (.g (.d (.sl 6 (List.map encApi_Version r2))))) rfl) rfl rfl rfl ⟨rfl, trivial⟩ trivial ?_
            refine G.opG1 (op_move (Ev.t 9 (.g (.d (.sl 3 (List.map encApi_Dep r3))))) rfl) rfl rfl rfl ⟨rfl, trivial⟩ trivial ?_
            obtain ⟨r19, hr19, hF⟩ := bindS hF
            refine G.opG1 (op_callQ (sv := .one (bB r19)) cf23 (ct_cut_Check r4 r2 r3 r19 hr19) rfl rfl (EvQL.cons (EvQ.g (Ev.t 74 (.g (.d (.sl 1 (List.map encS r4)))))) (EvQL.cons (EvQ.g (Ev.t 75 (.g (.d (.sl 6 (List.map encApi_Version r2)))))) (EvQL.cons (EvQ.g (Ev.t 76 (.g (.d (.sl 3 (List.map encApi_Dep r3)))))) EvQL.nil))) rfl) rfl rfl rfl ⟨rfl, rfl, rfl, trivial⟩ trivial ?_
            refine G.opG1 (op_move (Ev.t 1 (.g (.d (.sl 1 (List.map encS r4))))) rfl) rfl rfl rfl ⟨rfl, trivial⟩ trivial ?_
            refine G.opG1 (op_move (Ev.t 8 (.g (.d (.sl 6 (List.map encApi_Version r2))))) rfl) rfl rfl rfl ⟨rfl, trivial⟩ trivial ?_
            refine G.opG1 (op_move (Ev.t 9 (.g (.d (.sl 3 (List.map encApi_Dep r3))))) rfl) rfl rfl rfl ⟨rfl, trivial⟩ trivial ?_
            obtain ⟨r20, hr20, hF⟩ := bindS hF
            refine G.opG1 (op_callQ (sv := .one (bB r20)) cf24 (ct_ref19_Check r4 r2 r3 r20 hr20) rfl rfl (EvQL.cons (EvQ.g (Ev.t 78 (.g (.d (.sl 1 (List.map encS r4)))))) (EvQL.cons (EvQ.g (Ev.t 79 (.g (.d (.sl 6 (List.map encApi_Version r2)))))) (EvQL.cons (EvQ.g (Ev.t 80 (.g (.d (.sl 3 (List.map encApi_Dep r3)))))) EvQL.nil))) rfl) rfl rfl rfl ⟨rfl, rfl, rfl, trivial⟩ trivial ?_
            refine G.opG1 (op_eqB Try.underlying4 (Ev.t 77 (bB r19)) (Ev.t 81 (bB r20)) rfl) rfl rfl rfl ⟨rfl, rfl, trivial⟩ trivial ?_
            refine G.op1 (op_pickT (Ev.t 73 (bB true)) (Ev.t 82 (bB (r19 == r20))) rfl) rfl ⟨rfl, rfl, trivial⟩ trivial ?_
            refine G.op1 (op_assign (Ev.t 83 (bB (r19 == r20))) rfl) rfl ⟨rfl, trivial⟩ trivial ?_
            refine G.endOps ?_
            cases hF
            exact G.ret1 Try.results3 (RVar.tmp 6 _) ⟨rfl, trivial⟩ trivial
          · refine G.known (t := 73) hc18 rfl ?_
            refine G.opN1 rfl rfl rfl rfl rfl ?_
            refine G.opN1 rfl rfl rfl rfl rfl ?_
            refine G.opN1 rfl rfl rfl rfl rfl ?_
            refine G.opN1 rfl rfl rfl rfl rfl ?_
            refine G.opN1 rfl rfl rfl rfl rfl ?_
            refine G.opN1 rfl rfl rfl rfl rfl ?_
            refine G.opN1 rfl rfl rfl rfl rfl ?_
            refine G.opN1 rfl rfl rfl rfl rfl ?_
            refine G.opN1 rfl rfl rfl rfl rfl ?_
            refine G.op1 (op_pickF (Ev.t 73 (bB false)) (Ev.c _ rfl) rfl) rfl ⟨rfl, trivial⟩ trivial ?_
            refine G.op1 (op_assign (Ev.t 83 (bB false)) rfl) rfl ⟨rfl, trivial⟩ trivial ?_
            refine G.endOps ?_
            cases hF
            exact G.ret1 Try.results3 (RVar.tmp 6 _) ⟨rfl, trivial⟩ trivial
        refine ifS hF (fun hc22 hF => ?_) (fun hc22 hF => ?_)
        · refine G.known (t := 70) hc22 rfl ?_
          refine G.opG1 (op_move (Ev.t 12 (bB r13)) rfl) rfl rfl rfl ⟨rfl, trivial⟩ trivial ?_
          refine G.op1 (op_pickT (Ev.t 70 (bB true)) (Ev.t 71 (bB r13)) rfl) rfl ⟨rfl, rfl, trivial⟩ trivial ?_
          exact G.arr (J21 r13 hF) ⟨rfl, rfl, rfl, rfl, trivial⟩ trivial rfl
        · refine G.known (t := 70) hc22 rfl ?_
          refine G.opN1 rfl rfl rfl rfl rfl ?_
          refine G.op1 (op_pickF (Ev.t 70 (bB false)) (Ev.c _ rfl) rfl) rfl ⟨rfl, trivial⟩ trivial ?_
          exact G.arr (J21 false hF) ⟨rfl, rfl, rfl, rfl, trivial⟩ trivial rfl
      refine ifS hF (fun hc24 hF => ?_) (fun hc24 hF => ?_)
      · refine G.known (t := 67) hc24 rfl ?_
        refine G.opG1 (op_move (Ev.t 11 (bB r10)) rfl) rfl rfl rfl ⟨rfl, trivial⟩ trivial ?_
        refine G.op1 (op_pickT (Ev.t 67 (bB true)) (Ev.t 68 (bB r10)) rfl) rfl ⟨rfl, rfl, trivial⟩ trivial ?_
        exact G.arr (J23 r10 hF) ⟨rfl, rfl, rfl, rfl, rfl, trivial⟩ trivial rfl
      · refine G.known (t := 67) hc24 rfl ?_
        refine G.opN1 rfl rfl rfl rfl rfl ?_
        refine G.op1 (op_pickF (Ev.t 67 (bB false)) (Ev.c _ rfl) rfl) rfl ⟨rfl, trivial⟩ trivial ?_
        exact G.arr (J23 false hF) ⟨rfl, rfl, rfl, rfl, rfl, trivial⟩ trivial rfl
    refine ifS hF (fun hc26 hF => ?_) (fun hc26 hF => ?_)
    · refine G.known (t := 64) hc26 rfl ?_
      refine G.opG1 (op_move (Ev.t 10 (bB r7)) rfl) rfl rfl rfl ⟨rfl, trivial⟩ trivial ?_
      refine G.op1 (op_pickT (Ev.t 64 (bB true)) (Ev.t 65 (bB r7)) rfl) rfl ⟨rfl, rfl, trivial⟩ trivial ?_
      exact G.arr (J25 r7 hF) ⟨rfl, rfl, rfl, rfl, rfl, rfl, trivial⟩ trivial rfl
    · refine G.known (t := 64) hc26 rfl ?_
      refine G.opN1 rfl rfl rfl rfl rfl ?_
      refine G.op1 (op_pickF (Ev.t 64 (bB false)) (Ev.c _ rfl) rfl) rfl ⟨rfl, trivial⟩ trivial ?_
      exact G.arr (J25 false hF) ⟨rfl, rfl, rfl, rfl, rfl, rfl, trivial⟩ trivial rfl
  refine G.block ?_
  refine G.keep (sl' := [(1, .one (.g (.d (.sl 1 (List.map encS r4))))), (7, .one (bB r1)), (8, .one (.g (.d (.sl 6 (List.map encApi_Version r2))))), (9, .one (.g (.d (.sl 3 (List.map encApi_Dep r3))))), (10, .one (bB r7)), (11, .one (bB r10)), (12, .one (bB r13)), (13, .one (bI .i64 0))]) (hp' := []) ⟨rfl, rfl, rfl, rfl, rfl, rfl, rfl, rfl, trivial⟩ trivial rfl ?_
  refine G.loopF (fun (v28 : Int) => ⟨[(1, .one (.g (.d (.sl 1 (List.map encS r4))))), (7, .one (bB r1)), (8, .one (.g (.d (.sl 6 (List.map encApi_Version r2))))), (9, .one (.g (.d (.sl 3 (List.map encApi_Dep r3))))), (10, .one (bB r7)), (11, .one (bB r10)), (12, .one (bB r13)), (13, .one (bI .i64 v28))], []⟩) hF rfl (fun K31 again30 v28 J29 hF => ?_)
  unfold law19_CutTells_l5 at hF
  refine G.seq ?_
  refine G.seq ?_
  refine G.region ?_
  refine G.op1 (op_move (Ev.t 13 (bI .i64 v28)) rfl) rfl ⟨rfl, trivial⟩ trivial ?_
  refine G.op1 (op_move (Ev.t 1 (.g (.d (.sl 1 (List.map encS r4))))) rfl) rfl ⟨rfl, trivial⟩ trivial ?_
  refine G.op1 (OpL.cast (op_lenD Try.underlying23 (Ev.t 45 (.g (.d (.sl 1 (List.map encS r4))))) rfl) (by rw [List.length_map])) rfl ⟨rfl, trivial⟩ trivial ?_
  refine G.op1 (op_lss (Ev.t 44 (bI .i64 v28)) (Ev.t 46 (bI .i64 (r4.length : Int))) rfl) rfl ⟨rfl, rfl, trivial⟩ trivial ?_
  refine G.endOps ?_
  refine ifS hF (fun hc32 hF => ?_) (fun hc32 hF => ?_)
  · refine G.cond rfl (fun _ => ?_) (fun hx => by rw [hc32] at hx; cases hx)
    refine G.skip ?_
    refine G.seq ?_
    refine G.block ?_
    refine G.seq ?_
    obtain ⟨x33, hx33, hF⟩ := bindS hF
    obtain ⟨r34, hr34, hF⟩ := bindS hF
    obtain ⟨x35, hx35, hF⟩ := bindS hF
    obtain ⟨r36, hr36, hF⟩ := bindS hF
    refine G.drawn (effs := [⟨[(8, .one (.g (.d (.sl 6 (List.map encApi_Version r2)))))], [], [(50, .one (.g (.d (.sl 6 (List.map encApi_Version r2)))))], []⟩, ⟨[(1, .one (.g (.d (.sl 1 (List.map encS r4)))))], [], [(51, .one (.g (.d (.sl 1 (List.map encS r4)))))], []⟩, ⟨[(13, .one (bI .i64 v28))], [], [(52, .one (bI .i64 v28))], []⟩, ⟨[(51, .one (.g (.d (.sl 1 (List.map encS r4))))), (52, .one (bI .i64 v28))], [], [(53, .one (.ep [.v (.string x33)]))], []⟩, ⟨[(53, .one (.ep [.v (.string x33)]))], [], [(54, .one (bS x33))], []⟩, ⟨[(50, .one (.g (.d (.sl 6 (List.map encApi_Version r2))))), (54, .one (bS x33))], [], [(55, .one (.g (.agg [.v (.int .i64 r34.N), .v (.int .i64 r34.Site)])))], []⟩, ⟨[(8, .one (.g (.d (.sl 6 (List.map encApi_Version r2)))))], [], [(56, .one (.g (.d (.sl 6 (List.map encApi_Version r2)))))], []⟩, ⟨[(1, .one (.g (.d (.sl 1 (List.map encS r4)))))], [], [(57, .one (.g (.d (.sl 1 (List.map encS r4)))))], []⟩, ⟨[(13, .one (bI .i64 v28))], [], [(58, .one (bI .i64 v28))], []⟩, ⟨[(57, .one (.g (.d (.sl 1 (List.map encS r4))))), (58, .one (bI .i64 v28))], [], [(59, .one (.ep [.v (.string x35)]))], []⟩, ⟨[(59, .one (.ep [.v (.string x35)]))], [], [(60, .one (bS x35))], []⟩, ⟨[(56, .one (.g (.d (.sl 6 (List.map encApi_Version r2))))), (60, .one (bS x35))], [], [(61, .one (.g (.agg [.v (.int .i64 r36.N), .v (.int .i64 r36.Site)])))], []⟩, ⟨[(55, .one (.g (.agg [.v (.int .i64 r34.N), .v (.int .i64 r34.Site)]))), (61, .one (.g (.agg [.v (.int .i64 r36.N), .v (.int .i64 r36.Site)])))], [], [(62, .one (bB (!(decide (r34.N = r36.N) && decide (r34.Site = r36.Site)))))], []⟩]) (deps := [[], [], [], [1, 2], [1, 2, 3], [0, 1, 2, 3, 4], [], [], [], [7, 8], [7, 8, 9], [0, 1, 2, 3, 4, 5, 6, 7, 8, 9, 10], [0, 1, 2, 3, 4, 5, 6, 7, 8, 9, 10, 11]]) (sl' := [(1, .one (.g (.d (.sl 1 (List.map encS r4))))), (7, .one (bB r1)), (8, .one (.g (.d (.sl 6 (List.map encApi_Version r2))))), (9, .one (.g (.d (.sl 3 (List.map encApi_Dep r3))))), (10, .one (bB r7)), (11, .one (bB r10)), (12, .one (bB r13)), (13, .one (bI .i64 v28)), (62, .one (bB (!(decide (r34.N = r36.N) && decide (r34.Site = r36.Site)))))]) (hp' := []) follows rfl rfl rfl ⟨⟨rfl, trivial⟩, trivial, ⟨rfl, trivial⟩, trivial, ⟨rfl, trivial⟩, trivial, ⟨rfl, rfl, trivial⟩, trivial, ⟨rfl, trivial⟩, trivial, ⟨rfl, rfl, trivial⟩, trivial, ⟨rfl, trivial⟩, trivial, ⟨rfl, trivial⟩, trivial, ⟨rfl, trivial⟩, trivial, ⟨rfl, rfl, trivial⟩, trivial, ⟨rfl, trivial⟩, trivial, ⟨rfl, rfl, trivial⟩, trivial, ⟨rfl, rfl, trivial⟩, trivial, trivial⟩ ⟨OpW.plain (op_move (Ev.t 8 (.g (.d (.sl 6 (List.map encApi_Version r2))))) rfl) rfl rfl, OpW.plain (op_move (Ev.t 1 (.g (.d (.sl 1 (List.map encS r4))))) rfl) rfl rfl, OpW.plain (op_move (Ev.t 13 (bI .i64 v28)) rfl) rfl rfl, OpW.plain (op_index (cs := [.v (.string x33)]) Try.underlying23 ti9 (idx_ok hx33).1 (idx_get hx33 encS) (Ev.t 51 (.g (.d (.sl 1 (List.map encS r4))))) (Ev.t 52 (bI .i64 v28)) rfl) rfl rfl, OpW.plain (op_load1E (c := .v (.string x33)) Try.underlying9 rfl rfl (Ev.t 53 (.ep [.v (.string x33)])) rfl) rfl rfl, OpW.plain (op_callQ (sv := .one (.g (.agg [.v (.int .i64 r34.N), .v (.int .i64 r34.Site)]))) cf21 (ct_cut_Of r2 x33 r34 hr34) rfl rfl (EvQL.cons (EvQ.g (Ev.t 50 (.g (.d (.sl 6 (List.map encApi_Version r2)))))) (EvQL.cons (EvQ.g (Ev.t 54 (bS x33))) EvQL.nil)) rfl) rfl rfl, OpW.plain (op_move (Ev.t 8 (.g (.d (.sl 6 (List.map encApi_Version r2))))) rfl) rfl rfl, OpW.plain (op_move (Ev.t 1 (.g (.d (.sl 1 (List.map encS r4))))) rfl) rfl rfl, OpW.plain (op_move (Ev.t 13 (bI .i64 v28)) rfl) rfl rfl, OpW.plain (op_index (cs := [.v (.string x35)]) Try.underlying23 ti9 (idx_ok hx35).1 (idx_get hx35 encS) (Ev.t 57 (.g (.d (.sl 1 (List.map encS r4))))) (Ev.t 58 (bI .i64 v28)) rfl) rfl rfl, OpW.plain (op_load1E (c := .v (.string x35)) Try.underlying9 rfl rfl (Ev.t 59 (.ep [.v (.string x35)])) rfl) rfl rfl, OpW.plain (op_callQ (sv := .one (.g (.agg [.v (.int .i64 r36.N), .v (.int .i64 r36.Site)]))) cf22 (ct_ref19_Of r2 x35 r36 hr36) rfl rfl (EvQL.cons (EvQ.g (Ev.t 56 (.g (.d (.sl 6 (List.map encApi_Version r2)))))) (EvQL.cons (EvQ.g (Ev.t 60 (bS x35))) EvQL.nil)) rfl) rfl rfl, OpW.plain (op_eqA (us := [.int .i64 r34.N, .int .i64 r34.Site]) (vs := [.int .i64 r36.N, .int .i64 r36.Site]) rfl rfl Try.eqGuardType35 (fun w => ne35 r34.N r34.Site r36.N r36.Site w) (Ev.t 55 (.g (.agg [.v (.int .i64 r34.N), .v (.int .i64 r34.Site)]))) (Ev.t 61 (.g (.agg [.v (.int .i64 r36.N), .v (.int .i64 r36.Site)]))) rfl) rfl rfl, trivial⟩ ⟨rfl, rfl, rfl, rfl, rfl, rfl, rfl, rfl, rfl, trivial⟩ trivial rfl ?_
    refine ifS hF (fun hc37 hF => ?_) (fun hc37 hF => ?_)
    · refine G.cond rfl (fun _ => ?_) (fun hx => by rw [hc37] at hx; cases hx)
      refine G.seq ?_
      refine G.region ?_
      refine G.op1 (op_assign (Ev.c _ rfl) rfl) rfl trivial trivial ?_
      refine G.endOps ?_
      cases hF
      exact G.ret1 Try.results3 (RVar.tmp 6 _) ⟨rfl, trivial⟩ trivial
    · refine G.cond rfl (fun hx => by rw [hc37] at hx; cases hx) (fun _ => ?_)
      refine G.skip ?_
      refine G.endBlock ?_
      refine G.region ?_
      refine G.op1 (op_move (Ev.t 13 (bI .i64 v28)) rfl) rfl ⟨rfl, trivial⟩ trivial ?_
      refine G.op1 (op_add (Ev.t 48 (bI .i64 v28)) (Ev.c _ rfl) rfl) rfl ⟨rfl, trivial⟩ trivial ?_
      refine G.op1 (op_assign (Ev.t 49 (bI .i64 (IntKind.wrap .i64 (v28 + 1)))) rfl) rfl ⟨rfl, trivial⟩ trivial ?_
      refine G.endOps ?_
      exact G.arr (J29 (IntKind.wrap .i64 (v28 + 1)) hF) ⟨rfl, rfl, rfl, rfl, rfl, rfl, rfl, rfl, trivial⟩ trivial rfl
  · refine G.cond rfl (fun hx => by rw [hc32] at hx; cases hx) (fun _ => ?_)
    refine G.exit ?_
    refine GX.c ?_
    refine GX.q ?_
    refine GX.bYes ?_
    exact G.arr (J27 () hF) ⟨rfl, rfl, rfl, rfl, rfl, rfl, rfl, trivial⟩ trivial rfl


end Go.Ark
