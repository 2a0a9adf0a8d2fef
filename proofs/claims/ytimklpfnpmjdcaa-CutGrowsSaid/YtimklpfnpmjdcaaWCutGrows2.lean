/- Walks, printed by a program of mine: each function of the program computes the typed function of its name. Conditions: none. -/
import Derived.Test.YtimklpfnpmjdcaaWCutGrows1
namespace Go.Ark
open Go Go.Ab Go.RowKit Go.Lib Go.Proofs

set_option maxRecDepth 20000 in
set_option maxHeartbeats 2000000 in
theorem ct_law19_row (l_0 : (List Api_Dep)) (r : (List Api_Dep)) (hF : law19_row l_0 = some r) : Ct Try.prog 11 [.g (.d (.sl 3 (List.map encApi_Dep l_0)))] (.one (.d (.sl 3 (List.map encApi_Dep r)))) := by
  unfold law19_row at hF
  refine Ct.intro Try.func11 rfl Try.ntmps11 rfl rfl fun M w => ?_
  refine G.seq ?_
  refine G.region ?_
  refine G.op1 (op_assign (Ev.n 3) rfl) rfl trivial trivial ?_
  refine G.endOps ?_
  refine G.seq ?_
  refine G.region ?_
  refine G.op1 (op_assign (Ev.n 3) rfl) rfl trivial trivial ?_
  refine G.endOps ?_
  refine G.seq ?_
  refine G.seq ?_
  refine G.region ?_
  refine G.op1 (op_assign (Ev.c _ rfl) rfl) rfl trivial trivial ?_
  refine G.endOps ?_
  refine G.joinC (T := (List Api_Dep)) (fun y1 => ⟨[(3, .one (.g (.d (.sl 3 (List.map encApi_Dep y1)))))], []⟩) (fun y1 => law19_row_k1 y1 = some r) (fun y1 hF => ?_) (fun J2 => ?_)
  · unfold law19_row_k1 at hF
    refine G.seq ?_
    refine G.region ?_
    refine G.op1 (op_move (Ev.t 3 (.g (.d (.sl 3 (List.map encApi_Dep y1))))) rfl) rfl ⟨rfl, trivial⟩ trivial ?_
    refine G.op1 (op_assign (Ev.t 29 (.g (.d (.sl 3 (List.map encApi_Dep y1))))) rfl) rfl ⟨rfl, trivial⟩ trivial ?_
    refine G.endOps ?_
    cases hF
    exact G.ret1 Try.results11 (RVar.tmp 2 _) ⟨rfl, trivial⟩ trivial
  refine G.block ?_
  refine G.keep (sl' := [(0, .one (.g (.d (.sl 3 (List.map encApi_Dep l_0))))), (3, .one (.g (.d (.sl 3 (List.map encApi_Dep ([] : (List Api_Dep))))))), (4, .one (bI .i64 0))]) (hp' := []) ⟨rfl, rfl, rfl, trivial⟩ trivial rfl ?_
  refine G.loopF (fun (v3 : (List Api_Dep) × Int) => ⟨[(0, .one (.g (.d (.sl 3 (List.map encApi_Dep l_0))))), (3, .one (.g (.d (.sl 3 (List.map encApi_Dep v3.1))))), (4, .one (bI .i64 v3.2))], []⟩) hF rfl (fun K6 again5 v3 J4 hF => ?_)
  unfold law19_row_l2 at hF
  refine G.seq ?_
  refine G.seq ?_
  refine G.joinC (T := Bool) (fun y7 => ⟨[(0, .one (.g (.d (.sl 3 (List.map encApi_Dep l_0))))), (3, .one (.g (.d (.sl 3 (List.map encApi_Dep v3.1))))), (4, .one (bI .i64 v3.2)), (12, .one (bB y7))], []⟩) (fun y7 => law19_row_k3 l_0 again5 v3 y7 = some r) (fun y7 hF => ?_) (fun J13 => ?_)
  · unfold law19_row_k3 at hF
    refine ifS hF (fun hc8 hF => ?_) (fun hc8 hF => ?_)
    · refine G.cond rfl (fun _ => ?_) (fun hx => by rw [hc8] at hx; cases hx)
      refine G.skip ?_
      refine G.seq ?_
      refine G.block ?_
      obtain ⟨x9, hx9, hF⟩ := bindS hF
      obtain ⟨r10, hr10, hF⟩ := bindS hF
      obtain ⟨x11, hx11, hF⟩ := bindS hF
      obtain ⟨r12, hr12, hF⟩ := bindS hF
      refine G.drawn (effs := [⟨[(3, .one (.g (.d (.sl 3 (List.map encApi_Dep v3.1)))))], [], [(15, .one (.g (.d (.sl 3 (List.map encApi_Dep v3.1)))))], []⟩, ⟨[(0, .one (.g (.d (.sl 3 (List.map encApi_Dep l_0)))))], [], [(16, .one (.g (.d (.sl 3 (List.map encApi_Dep l_0)))))], []⟩, ⟨[(4, .one (bI .i64 v3.2))], [], [(17, .one (bI .i64 v3.2))], []⟩, ⟨[(16, .one (.g (.d (.sl 3 (List.map encApi_Dep l_0))))), (17, .one (bI .i64 v3.2))], [], [(18, .one (.ep [.v (.string x9.Key), .v (.int .i64 x9.Stamp.N), .v (.int .i64 x9.Stamp.Site)]))], []⟩, ⟨[(18, .one (.ep [.v (.string x9.Key), .v (.int .i64 x9.Stamp.N), .v (.int .i64 x9.Stamp.Site)]))], [], [(19, .one (.ep [.v (.string x9.Key), .v (.int .i64 x9.Stamp.N), .v (.int .i64 x9.Stamp.Site)]))], []⟩, ⟨[(19, .one (.ep [.v (.string x9.Key), .v (.int .i64 x9.Stamp.N), .v (.int .i64 x9.Stamp.Site)]))], [], [(20, .one (bS x9.Key))], []⟩, ⟨[(20, .one (bS x9.Key))], [], [(21, .one (bS r10))], []⟩, ⟨[(0, .one (.g (.d (.sl 3 (List.map encApi_Dep l_0)))))], [], [(22, .one (.g (.d (.sl 3 (List.map encApi_Dep l_0)))))], []⟩, ⟨[(4, .one (bI .i64 v3.2))], [], [(23, .one (bI .i64 v3.2))], []⟩, ⟨[(22, .one (.g (.d (.sl 3 (List.map encApi_Dep l_0))))), (23, .one (bI .i64 v3.2))], [], [(24, .one (.ep [.v (.string x11.Key), .v (.int .i64 x11.Stamp.N), .v (.int .i64 x11.Stamp.Site)]))], []⟩, ⟨[(24, .one (.ep [.v (.string x11.Key), .v (.int .i64 x11.Stamp.N), .v (.int .i64 x11.Stamp.Site)]))], [], [(25, .one (.ep [.v (.int .i64 x11.Stamp.N), .v (.int .i64 x11.Stamp.Site)]))], []⟩, ⟨[(25, .one (.ep [.v (.int .i64 x11.Stamp.N), .v (.int .i64 x11.Stamp.Site)]))], [], [(26, .one (.g (.agg [.v (.int .i64 x11.Stamp.N), .v (.int .i64 x11.Stamp.Site)])))], []⟩, ⟨[(21, .one (bS r10)), (26, .one (.g (.agg [.v (.int .i64 x11.Stamp.N), .v (.int .i64 x11.Stamp.Site)])))], [], [(27, .one (.g (.agg [.v (.string r10), .v (.int .i64 x11.Stamp.N), .v (.int .i64 x11.Stamp.Site)])))], []⟩, ⟨[(15, .one (.g (.d (.sl 3 (List.map encApi_Dep v3.1))))), (27, .one (.g (.agg [.v (.string r10), .v (.int .i64 x11.Stamp.N), .v (.int .i64 x11.Stamp.Site)])))], [], [(28, .one (.g (.d (.sl 3 (List.map encApi_Dep r12)))))], []⟩, ⟨[(28, .one (.g (.d (.sl 3 (List.map encApi_Dep r12)))))], [], [(3, .one (.g (.d (.sl 3 (List.map encApi_Dep r12)))))], []⟩]) (deps := [[], [], [], [1, 2], [1, 2, 3], [1, 2, 3, 4], [1, 2, 3, 4, 5], [], [], [7, 8], [7, 8, 9], [7, 8, 9, 10], [1, 2, 3, 4, 5, 6, 7, 8, 9, 10, 11], [0, 1, 2, 3, 4, 5, 6, 7, 8, 9, 10, 11, 12], [0, 1, 2, 3, 4, 5, 6, 7, 8, 9, 10, 11, 12, 13]]) (sl' := [(0, .one (.g (.d (.sl 3 (List.map encApi_Dep l_0))))), (3, .one (.g (.d (.sl 3 (List.map encApi_Dep r12))))), (4, .one (bI .i64 v3.2))]) (hp' := []) follows rfl rfl rfl ⟨⟨⟨rfl, rfl⟩, trivial⟩, trivial, ⟨rfl, trivial⟩, trivial, ⟨rfl, trivial⟩, trivial, ⟨rfl, rfl, trivial⟩, trivial, ⟨rfl, trivial⟩, trivial, ⟨rfl, trivial⟩, trivial, ⟨rfl, trivial⟩, trivial, ⟨rfl, trivial⟩, trivial, ⟨rfl, trivial⟩, trivial, ⟨rfl, rfl, trivial⟩, trivial, ⟨rfl, trivial⟩, trivial, ⟨rfl, trivial⟩, trivial, ⟨rfl, rfl, trivial⟩, trivial, ⟨rfl, rfl, trivial⟩, trivial, ⟨rfl, trivial⟩, trivial, trivial⟩ ⟨OpW.plain (op_move (Ev.t 3 (.g (.d (.sl 3 (List.map encApi_Dep v3.1))))) rfl) rfl rfl, OpW.plain (op_move (Ev.t 0 (.g (.d (.sl 3 (List.map encApi_Dep l_0))))) rfl) rfl rfl, OpW.plain (op_move (Ev.t 4 (bI .i64 v3.2)) rfl) rfl rfl, OpW.plain (op_index (cs := [.v (.string x9.Key), .v (.int .i64 x9.Stamp.N), .v (.int .i64 x9.Stamp.Site)]) Try.underlying24 ti47 (idx_ok hx9).1 (idx_get hx9 encApi_Dep) (Ev.t 16 (.g (.d (.sl 3 (List.map encApi_Dep l_0))))) (Ev.t 17 (bI .i64 v3.2)) rfl) rfl rfl, OpW.plain (op_fieldE (cs' := [.v (.string x9.Key), .v (.int .i64 x9.Stamp.N), .v (.int .i64 x9.Stamp.Site)]) Try.underlying47 rfl ti9 (by decide) rfl (Ev.t 18 (.ep [.v (.string x9.Key), .v (.int .i64 x9.Stamp.N), .v (.int .i64 x9.Stamp.Site)])) rfl) rfl rfl, OpW.plain (op_load1E (c := .v (.string x9.Key)) Try.underlying9 rfl rfl (Ev.t 19 (.ep [.v (.string x9.Key), .v (.int .i64 x9.Stamp.N), .v (.int .i64 x9.Stamp.Site)])) rfl) rfl rfl, OpW.plain (op_callQ (sv := .one (bS r10)) cf30 (ct_law19_short x9.Key r10 hr10) rfl rfl (EvQL.cons (EvQ.g (Ev.t 20 (bS x9.Key))) EvQL.nil) rfl) rfl rfl, OpW.plain (op_move (Ev.t 0 (.g (.d (.sl 3 (List.map encApi_Dep l_0))))) rfl) rfl rfl, OpW.plain (op_move (Ev.t 4 (bI .i64 v3.2)) rfl) rfl rfl, OpW.plain (op_index (cs := [.v (.string x11.Key), .v (.int .i64 x11.Stamp.N), .v (.int .i64 x11.Stamp.Site)]) Try.underlying24 ti47 (idx_ok hx11).1 (idx_get hx11 encApi_Dep) (Ev.t 22 (.g (.d (.sl 3 (List.map encApi_Dep l_0))))) (Ev.t 23 (bI .i64 v3.2)) rfl) rfl rfl, OpW.plain (op_fieldE (cs' := [.v (.int .i64 x11.Stamp.N), .v (.int .i64 x11.Stamp.Site)]) Try.underlying47 rfl ti35 (by decide) rfl (Ev.t 24 (.ep [.v (.string x11.Key), .v (.int .i64 x11.Stamp.N), .v (.int .i64 x11.Stamp.Site)])) rfl) rfl rfl, OpW.plain (op_loadAE (ds := [.v (.int .i64 x11.Stamp.N), .v (.int .i64 x11.Stamp.Site)]) Try.underlying35 rfl ti35 rfl (Ev.t 25 (.ep [.v (.int .i64 x11.Stamp.N), .v (.int .i64 x11.Stamp.Site)])) rfl) rfl rfl, OpW.plain (op_build (zs := [.v (.string ByteArray.empty), .v (.int .i64 0), .v (.int .i64 0)]) (ds := [.v (.string r10), .v (.int .i64 x11.Stamp.N), .v (.int .i64 x11.Stamp.Site)]) Try.underlying47 ti47 (pl47 _ Try.underlying47) ⟨.v _ rfl, .v _ rfl, .v _ rfl, trivial⟩ (EvP.cons (Ev.t 21 (bS r10)) (EvP.cons (Ev.t 26 (.g (.agg [.v (.int .i64 x11.Stamp.N), .v (.int .i64 x11.Stamp.Site)]))) EvP.nil)) rfl rfl) rfl rfl, OpW.plain (op_call (sv := .one (.g (.d (.sl 3 (List.map encApi_Dep r12))))) cf31 (ct_ref04_Add v3.1 (Api_Dep.mk r10 x11.Stamp) r12 hr12) rfl (EvL.cons (Ev.t 15 (.g (.d (.sl 3 (List.map encApi_Dep v3.1))))) (EvL.cons (Ev.t 27 (.g (.agg [.v (.string r10), .v (.int .i64 x11.Stamp.N), .v (.int .i64 x11.Stamp.Site)]))) EvL.nil)) rfl) rfl rfl, OpW.plain (op_assign (Ev.t 28 (.g (.d (.sl 3 (List.map encApi_Dep r12))))) rfl) rfl rfl, trivial⟩ ⟨rfl, rfl, rfl, trivial⟩ trivial rfl ?_
      refine G.endBlock ?_
      refine G.region ?_
      refine G.op1 (op_move (Ev.t 4 (bI .i64 v3.2)) rfl) rfl ⟨rfl, trivial⟩ trivial ?_
      refine G.op1 (op_add (Ev.t 13 (bI .i64 v3.2)) (Ev.c _ rfl) rfl) rfl ⟨rfl, trivial⟩ trivial ?_
      refine G.op1 (op_assign (Ev.t 14 (bI .i64 (IntKind.wrap .i64 (v3.2 + 1)))) rfl) rfl ⟨rfl, trivial⟩ trivial ?_
      refine G.endOps ?_
      exact G.arr (J4 (r12, IntKind.wrap .i64 (v3.2 + 1)) hF) ⟨rfl, rfl, rfl, trivial⟩ trivial rfl
    · refine G.cond rfl (fun hx => by rw [hc8] at hx; cases hx) (fun _ => ?_)
      refine G.exit ?_
      refine GX.c ?_
      refine GX.q ?_
      refine GX.bYes ?_
      exact G.arr (J2 v3.1 hF) ⟨rfl, trivial⟩ trivial rfl
  refine G.region ?_
  refine G.op1 (op_move (Ev.t 4 (bI .i64 v3.2)) rfl) rfl ⟨rfl, trivial⟩ trivial ?_
  refine G.op1 (op_move (Ev.t 0 (.g (.d (.sl 3 (List.map encApi_Dep l_0))))) rfl) rfl ⟨rfl, trivial⟩ trivial ?_
  refine G.op1 (OpL.cast (op_lenD Try.underlying24 (Ev.t 6 (.g (.d (.sl 3 (List.map encApi_Dep l_0))))) rfl) (by rw [List.length_map])) rfl ⟨rfl, trivial⟩ trivial ?_
  refine G.op1 (op_lss (Ev.t 5 (bI .i64 v3.2)) (Ev.t 7 (bI .i64 (l_0.length : Int))) rfl) rfl ⟨rfl, rfl, trivial⟩ trivial ?_
  refine G.op1 (op_move (Ev.t 8 (bB (decide (v3.2 < (l_0.length : Int))))) rfl) rfl ⟨rfl, trivial⟩ trivial ?_
  refine ifS hF (fun hc14 hF => ?_) (fun hc14 hF => ?_)
  · refine G.known (t := 9) hc14 rfl ?_
    refine G.opG1 (op_move (Ev.t 4 (bI .i64 v3.2)) rfl) rfl rfl rfl ⟨rfl, trivial⟩ trivial ?_
    refine G.opG1 (op_lss (Ev.t 10 (bI .i64 v3.2)) (Ev.c _ rfl) rfl) rfl rfl rfl ⟨rfl, trivial⟩ trivial ?_
    refine G.op1 (op_pickT (Ev.t 9 (bB true)) (Ev.t 11 (bB (decide (v3.2 < 6)))) rfl) rfl ⟨rfl, rfl, trivial⟩ trivial ?_
    refine G.endOps ?_
    exact G.arr (J13 (decide (v3.2 < 6)) hF) ⟨rfl, rfl, rfl, rfl, trivial⟩ trivial rfl
  · refine G.known (t := 9) hc14 rfl ?_
    refine G.opN1 rfl rfl rfl rfl rfl ?_
    refine G.opN1 rfl rfl rfl rfl rfl ?_
    refine G.op1 (op_pickF (Ev.t 9 (bB false)) (Ev.c _ rfl) rfl) rfl ⟨rfl, trivial⟩ trivial ?_
    refine G.endOps ?_
    exact G.arr (J13 false hF) ⟨rfl, rfl, rfl, rfl, trivial⟩ trivial rfl


set_option maxRecDepth 20000 in
set_option maxHeartbeats 2000000 in
theorem ct_law19_few (l_0 : (List Api_Version)) (r : (List Api_Version)) (hF : law19_few l_0 = some r) : Ct Try.prog 10 [.g (.d (.sl 6 (List.map encApi_Version l_0)))] (.one (.d (.sl 6 (List.map encApi_Version r)))) := by
  unfold law19_few at hF
  refine Ct.intro Try.func10 rfl Try.ntmps10 rfl rfl fun M w => ?_
  refine G.seq ?_
  refine G.region ?_
  refine G.op1 (op_assign (Ev.n 6) rfl) rfl trivial trivial ?_
  refine G.endOps ?_
  refine G.seq ?_
  refine G.region ?_
  refine G.op2 (op_assignRow (E := 42) (size := 6) (k := 2003) (ex := false) rfl rfl) rfl trivial ⟨rfl, trivial⟩ ?_
  refine G.endOps ?_
  refine G.seq ?_
  refine G.seq ?_
  refine G.region ?_
  refine G.op1 (op_assign (Ev.c _ rfl) rfl) rfl trivial trivial ?_
  refine G.endOps ?_
  refine G.joinC (T := (List Api_Version)) (fun y1 => ⟨[(3, .one (.own 2003 (List.map encApi_Version y1)))], [(2003, some (.row 42 6 (List.map encApi_Version y1) false))]⟩) (fun y1 => law19_few_k1 y1 = some r) (fun y1 hF => ?_) (fun J2 => ?_)
  · unfold law19_few_k1 at hF
    refine G.seq ?_
    refine G.region ?_
    refine G.op1 (op_move (Ev.t 3 (.own 2003 (List.map encApi_Version y1))) rfl) rfl ⟨rfl, trivial⟩ trivial ?_
    refine G.op1 (op_assign (Ev.t 32 (.own 2003 (List.map encApi_Version y1))) rfl) rfl ⟨rfl, trivial⟩ trivial ?_
    refine G.endOps ?_
    refine G.view (t := 2) rfl rfl ?_
    cases hF
    exact G.ret1 Try.results10 (RVar.tmp 2 _) ⟨rfl, trivial⟩ trivial
  refine G.block ?_
  refine G.keep (sl' := [(0, .one (.g (.d (.sl 6 (List.map encApi_Version l_0))))), (3, .one (.own 2003 (List.map encApi_Version ([] : (List Api_Version))))), (4, .one (bI .i64 0))]) (hp' := [(2003, some (.row 42 6 (List.map encApi_Version ([] : (List Api_Version))) false))]) ⟨rfl, rfl, rfl, trivial⟩ ⟨rfl, trivial⟩ rfl ?_
  refine G.loopF (fun (v3 : Int × (List Api_Version)) => ⟨[(0, .one (.g (.d (.sl 6 (List.map encApi_Version l_0))))), (3, .one (.own 2003 (List.map encApi_Version v3.2))), (4, .one (bI .i64 v3.1))], [(2003, some (.row 42 6 (List.map encApi_Version v3.2) false))]⟩) hF rfl (fun K6 again5 v3 J4 hF => ?_)
  unfold law19_few_l2 at hF
  refine G.seq ?_
  refine G.seq ?_
  refine G.joinC (T := Bool) (fun y7 => ⟨[(0, .one (.g (.d (.sl 6 (List.map encApi_Version l_0))))), (3, .one (.own 2003 (List.map encApi_Version v3.2))), (4, .one (bI .i64 v3.1)), (13, .one (bB y7))], [(2003, some (.row 42 6 (List.map encApi_Version v3.2) false))]⟩) (fun y7 => law19_few_k3 l_0 again5 v3 y7 = some r) (fun y7 hF => ?_) (fun J13 => ?_)
  · unfold law19_few_k3 at hF
    refine ifS hF (fun hc8 hF => ?_) (fun hc8 hF => ?_)
    · refine G.cond rfl (fun _ => ?_) (fun hx => by rw [hc8] at hx; cases hx)
      refine G.skip ?_
      refine G.seq ?_
      refine G.block ?_
      refine G.seq ?_
      refine G.region ?_
      refine G.op1 (op_move (Ev.t 0 (.g (.d (.sl 6 (List.map encApi_Version l_0))))) rfl) rfl ⟨rfl, trivial⟩ trivial ?_
      refine G.op1 (op_move (Ev.t 4 (bI .i64 v3.1)) rfl) rfl ⟨rfl, trivial⟩ trivial ?_
      obtain ⟨x9, hx9, hF⟩ := bindS hF
      refine G.op1 (op_index (cs := [.v (.string x9.Key), .v (.string x9.Value), .v (.bool x9.Gone), .v (.int .i64 x9.Stamp.N), .v (.int .i64 x9.Stamp.Site), .sl 3 (List.map encApi_Dep x9.Past)]) Try.underlying22 ti42 (idx_ok hx9).1 (idx_get hx9 encApi_Version) (Ev.t 16 (.g (.d (.sl 6 (List.map encApi_Version l_0))))) (Ev.t 17 (bI .i64 v3.1)) rfl) rfl ⟨rfl, rfl, trivial⟩ trivial ?_
      refine G.op1 (op_loadAE (ds := [.v (.string x9.Key), .v (.string x9.Value), .v (.bool x9.Gone), .v (.int .i64 x9.Stamp.N), .v (.int .i64 x9.Stamp.Site), .sl 3 (List.map encApi_Dep x9.Past)]) Try.underlying42 rfl ti42 rfl (Ev.t 18 (.ep [.v (.string x9.Key), .v (.string x9.Value), .v (.bool x9.Gone), .v (.int .i64 x9.Stamp.N), .v (.int .i64 x9.Stamp.Site), .sl 3 (List.map encApi_Dep x9.Past)])) rfl) rfl ⟨rfl, trivial⟩ trivial ?_
      refine G.op2 (op_alloc (k := 1005) (cs := [bS ByteArray.empty, bS ByteArray.empty, bB false, bI .i64 0, bI .i64 0, .g (.d (.sl 3 (List.map encApi_Dep ([] : (List Api_Dep)))))]) ti42 ⟨.v _ rfl, .v _ rfl, .v _ rfl, .v _ rfl, .v _ rfl, .n 3, trivial⟩ rfl) rfl trivial ⟨rfl, trivial⟩ ?_
      refine G.op3 (op_storeA (cs' := [bS x9.Key, bS x9.Value, bB x9.Gone, bI .i64 x9.Stamp.N, bI .i64 x9.Stamp.Site, .g (.d (.sl 3 (List.map encApi_Dep x9.Past)))]) ti42 rfl rfl (Ev.t 5 (.ptr 1005 0)) (Ev.t 19 (.g (.agg [.v (.string x9.Key), .v (.string x9.Value), .v (.bool x9.Gone), .v (.int .i64 x9.Stamp.N), .v (.int .i64 x9.Stamp.Site), .sl 3 (List.map encApi_Dep x9.Past)])))) rfl ⟨rfl, rfl, trivial⟩ ⟨rfl, trivial⟩ ?_
      refine G.endOps ?_
      refine G.seq ?_
      refine G.region ?_
      refine G.op1 (op_fieldP (off' := 0) Try.underlying42 rfl ti9 (by decide) rfl (Ev.t 5 (.ptr 1005 0)) rfl) rfl ⟨rfl, trivial⟩ trivial ?_
      refine G.op1 (op_load1P (c := bS x9.Key) Try.underlying9 rfl rfl (Ev.t 20 (.ptr 1005 0)) rfl) rfl ⟨rfl, trivial⟩ ⟨rfl, trivial⟩ ?_
      obtain ⟨r10, hr10, hF⟩ := bindS hF
      refine G.op1 (op_callQ (sv := .one (bS r10)) cf30 (ct_law19_short x9.Key r10 hr10) rfl rfl (EvQL.cons (EvQ.g (Ev.t 21 (bS x9.Key))) EvQL.nil) rfl) rfl ⟨rfl, trivial⟩ trivial ?_
      refine G.op1 (op_fieldP (off' := 0) Try.underlying42 rfl ti9 (by decide) rfl (Ev.t 5 (.ptr 1005 0)) rfl) rfl ⟨rfl, trivial⟩ trivial ?_
      refine G.op3 (op_store1 (cs' := [bS r10, bS x9.Value, bB x9.Gone, bI .i64 x9.Stamp.N, bI .i64 x9.Stamp.Site, .g (.d (.sl 3 (List.map encApi_Dep x9.Past)))]) (c := bS r10) trivial ti9 rfl rfl (Ev.t 23 (.ptr 1005 0)) (Ev.t 22 (bS r10))) rfl ⟨rfl, rfl, trivial⟩ ⟨rfl, trivial⟩ ?_
      refine G.endOps ?_
      refine G.seq ?_
      refine G.region ?_
      refine G.op1 (op_fieldP (off' := 5) Try.underlying42 rfl ti24 (by decide) rfl (Ev.t 5 (.ptr 1005 0)) rfl) rfl ⟨rfl, trivial⟩ trivial ?_
      refine G.op1 (op_load1P (c := .g (.d (.sl 3 (List.map encApi_Dep x9.Past)))) Try.underlying24 rfl rfl (Ev.t 24 (.ptr 1005 5)) rfl) rfl ⟨rfl, trivial⟩ ⟨rfl, trivial⟩ ?_
      obtain ⟨r11, hr11, hF⟩ := bindS hF
      refine G.op1 (op_call (sv := .one (.g (.d (.sl 3 (List.map encApi_Dep r11))))) cf11 (ct_law19_row x9.Past r11 hr11) rfl (EvL.cons (Ev.t 25 (.g (.d (.sl 3 (List.map encApi_Dep x9.Past))))) EvL.nil) rfl) rfl ⟨rfl, trivial⟩ trivial ?_
      refine G.op1 (op_fieldP (off' := 5) Try.underlying42 rfl ti24 (by decide) rfl (Ev.t 5 (.ptr 1005 0)) rfl) rfl ⟨rfl, trivial⟩ trivial ?_
      refine G.op3 (op_store1 (cs' := [bS r10, bS x9.Value, bB x9.Gone, bI .i64 x9.Stamp.N, bI .i64 x9.Stamp.Site, .g (.d (.sl 3 (List.map encApi_Dep r11)))]) (c := .g (.d (.sl 3 (List.map encApi_Dep r11)))) trivial ti24 rfl rfl (Ev.t 27 (.ptr 1005 5)) (Ev.t 26 (.g (.d (.sl 3 (List.map encApi_Dep r11)))))) rfl ⟨rfl, rfl, trivial⟩ ⟨rfl, trivial⟩ ?_
      refine G.endOps ?_
      refine G.region ?_
      refine G.op1 (op_move (Ev.t 3 (.own 2003 (List.map encApi_Version v3.2))) rfl) rfl ⟨rfl, trivial⟩ trivial ?_
      refine G.op1 (op_loadAP (ds := [.v (.string r10), .v (.string x9.Value), .v (.bool x9.Gone), .v (.int .i64 x9.Stamp.N), .v (.int .i64 x9.Stamp.Site), .sl 3 (List.map encApi_Dep r11)]) Try.underlying42 rfl ti42 rfl (Ev.t 5 (.ptr 1005 0)) rfl) rfl ⟨rfl, trivial⟩ ⟨rfl, trivial⟩ ?_
      refine G.op1 (op_buildSlice (es := List.map encApi_Version [(Api_Version.mk r10 x9.Value x9.Gone x9.Stamp r11)]) Try.underlying22 ti42 rfl rfl (EvP.cons (Ev.t 29 (.g (.agg [.v (.string r10), .v (.string x9.Value), .v (.bool x9.Gone), .v (.int .i64 x9.Stamp.N), .v (.int .i64 x9.Stamp.Site), .sl 3 (List.map encApi_Dep r11)]))) EvP.nil) rfl rfl (by simp [encApi_Version]) rfl) rfl ⟨rfl, trivial⟩ trivial ?_
      obtain ⟨l12, hl12, hF⟩ := bindS hF
      refine G.op2 (op_appendO Try.underlying22 ti42 rfl (app_map hl12 encApi_Version) (app_b1 hl12 encApi_Version) (app_b2 hl12 encApi_Version) (Ev.t 28 (.own 2003 (List.map encApi_Version v3.2))) (Ev.t 30 (.g (.d (.sl 6 (List.map encApi_Version ([(Api_Version.mk r10 x9.Value x9.Gone x9.Stamp r11)])))))) rfl) rfl ⟨rfl, rfl, trivial⟩ ⟨rfl, trivial⟩ ?_
      refine G.op1 (op_assign (Ev.t 31 (.own 2003 (List.map encApi_Version l12))) rfl) rfl ⟨rfl, trivial⟩ trivial ?_
      refine G.endOps ?_
      refine G.endBlock ?_
      refine G.region ?_
      refine G.op1 (op_move (Ev.t 4 (bI .i64 v3.1)) rfl) rfl ⟨rfl, trivial⟩ trivial ?_
      refine G.op1 (op_add (Ev.t 14 (bI .i64 v3.1)) (Ev.c _ rfl) rfl) rfl ⟨rfl, trivial⟩ trivial ?_
      refine G.op1 (op_assign (Ev.t 15 (bI .i64 (IntKind.wrap .i64 (v3.1 + 1)))) rfl) rfl ⟨rfl, trivial⟩ trivial ?_
      refine G.endOps ?_
      exact G.arr (J4 (IntKind.wrap .i64 (v3.1 + 1), l12) hF) ⟨rfl, rfl, rfl, trivial⟩ ⟨rfl, trivial⟩ rfl
    · refine G.cond rfl (fun hx => by rw [hc8] at hx; cases hx) (fun _ => ?_)
      refine G.exit ?_
      refine GX.c ?_
      refine GX.q ?_
      refine GX.bYes ?_
      exact G.arr (J2 v3.2 hF) ⟨rfl, trivial⟩ ⟨rfl, trivial⟩ rfl
  refine G.region ?_
  refine G.op1 (op_move (Ev.t 4 (bI .i64 v3.1)) rfl) rfl ⟨rfl, trivial⟩ trivial ?_
  refine G.op1 (op_move (Ev.t 0 (.g (.d (.sl 6 (List.map encApi_Version l_0))))) rfl) rfl ⟨rfl, trivial⟩ trivial ?_
  refine G.op1 (OpL.cast (op_lenD Try.underlying22 (Ev.t 7 (.g (.d (.sl 6 (List.map encApi_Version l_0))))) rfl) (by rw [List.length_map])) rfl ⟨rfl, trivial⟩ trivial ?_
  refine G.op1 (op_lss (Ev.t 6 (bI .i64 v3.1)) (Ev.t 8 (bI .i64 (l_0.length : Int))) rfl) rfl ⟨rfl, rfl, trivial⟩ trivial ?_
  refine G.op1 (op_move (Ev.t 9 (bB (decide (v3.1 < (l_0.length : Int))))) rfl) rfl ⟨rfl, trivial⟩ trivial ?_
  refine ifS hF (fun hc14 hF => ?_) (fun hc14 hF => ?_)
  · refine G.known (t := 10) hc14 rfl ?_
    refine G.opG1 (op_move (Ev.t 4 (bI .i64 v3.1)) rfl) rfl rfl rfl ⟨rfl, trivial⟩ trivial ?_
    refine G.opG1 (op_lss (Ev.t 11 (bI .i64 v3.1)) (Ev.c _ rfl) rfl) rfl rfl rfl ⟨rfl, trivial⟩ trivial ?_
    refine G.op1 (op_pickT (Ev.t 10 (bB true)) (Ev.t 12 (bB (decide (v3.1 < 6)))) rfl) rfl ⟨rfl, rfl, trivial⟩ trivial ?_
    refine G.endOps ?_
    exact G.arr (J13 (decide (v3.1 < 6)) hF) ⟨rfl, rfl, rfl, rfl, trivial⟩ ⟨rfl, trivial⟩ rfl
  · refine G.known (t := 10) hc14 rfl ?_
    refine G.opN1 rfl rfl rfl rfl rfl ?_
    refine G.opN1 rfl rfl rfl rfl rfl ?_
    refine G.op1 (op_pickF (Ev.t 10 (bB false)) (Ev.c _ rfl) rfl) rfl ⟨rfl, trivial⟩ trivial ?_
    refine G.endOps ?_
    exact G.arr (J13 false hF) ⟨rfl, rfl, rfl, rfl, trivial⟩ ⟨rfl, trivial⟩ rfl


set_option maxRecDepth 20000 in
set_option maxHeartbeats 2000000 in
theorem ct_law19_keys (l_0 : (List ByteArray)) (r : (List ByteArray)) (hF : law19_keys l_0 = some r) : Ct Try.prog 12 [.g (.d (.sl 1 (List.map encS l_0)))] (.one (.d (.sl 1 (List.map encS r)))) := by
  unfold law19_keys at hF
  refine Ct.intro Try.func12 rfl Try.ntmps12 rfl rfl fun M w => ?_
  refine G.seq ?_
  refine G.region ?_
  refine G.op1 (op_assign (Ev.n 1) rfl) rfl trivial trivial ?_
  refine G.endOps ?_
  refine G.seq ?_
  refine G.seq ?_
  refine G.region ?_
  refine G.op1 (op_move (Ev.t 0 (.g (.d (.sl 1 (List.map encS l_0))))) rfl) rfl ⟨rfl, trivial⟩ trivial ?_
  refine G.op1 (OpL.cast (op_lenD Try.underlying23 (Ev.t 3 (.g (.d (.sl 1 (List.map encS l_0))))) rfl) (by rw [List.length_map])) rfl ⟨rfl, trivial⟩ trivial ?_
  refine G.op1 (op_gtr (Ev.t 4 (bI .i64 (l_0.length : Int))) (Ev.c _ rfl) rfl) rfl ⟨rfl, trivial⟩ trivial ?_
  refine G.endOps ?_
  refine ifS hF (fun hc1 hF => ?_) (fun hc1 hF => ?_)
  · refine G.cond rfl (fun _ => ?_) (fun hx => by rw [hc1] at hx; cases hx)
    refine G.seq ?_
    refine G.region ?_
    refine G.op1 (op_move (Ev.t 0 (.g (.d (.sl 1 (List.map encS l_0))))) rfl) rfl ⟨rfl, trivial⟩ trivial ?_
    obtain ⟨l2, hl2, hF⟩ := bindS hF
    refine G.op1 (op_sliceD (lo := none) (hi := some 6) Try.underlying23 ti9 (sub_ok hl2 encS).1 (sub_ok hl2 encS).2.1 (sub_ok hl2 encS).2.2.1 (sub_ok hl2 encS).2.2.2 (Ev.t 6 (.g (.d (.sl 1 (List.map encS l_0))))) EvO.none (EvO.some (Ev.c _ rfl)) rfl) rfl ⟨rfl, trivial⟩ trivial ?_
    refine G.op1 (op_assign (Ev.t 7 (.g (.d (.sl 1 (List.map encS l2))))) rfl) rfl ⟨rfl, trivial⟩ trivial ?_
    refine G.endOps ?_
    cases hF
    exact G.ret1 Try.results12 (RVar.tmp 2 _) ⟨rfl, trivial⟩ trivial
  · refine G.cond rfl (fun hx => by rw [hc1] at hx; cases hx) (fun _ => ?_)
    refine G.skip ?_
    refine G.seq ?_
    refine G.region ?_
    refine G.op1 (op_move (Ev.t 0 (.g (.d (.sl 1 (List.map encS l_0))))) rfl) rfl ⟨rfl, trivial⟩ trivial ?_
    refine G.op1 (op_assign (Ev.t 8 (.g (.d (.sl 1 (List.map encS l_0))))) rfl) rfl ⟨rfl, trivial⟩ trivial ?_
    refine G.endOps ?_
    cases hF
    exact G.ret1 Try.results12 (RVar.tmp 2 _) ⟨rfl, trivial⟩ trivial


set_option maxRecDepth 20000 in
set_option maxHeartbeats 2000000 in
theorem ct_ref04_Same (p_0 : (List Api_Dep)) (q_1 : (List Api_Dep)) (r : Bool) (hF : ref04_Same p_0 q_1 = some r) : Ct Try.prog 13 [.g (.d (.sl 3 (List.map encApi_Dep p_0))), .g (.d (.sl 3 (List.map encApi_Dep q_1)))] (.one (.d (.v (.bool r)))) := by
  unfold ref04_Same at hF
  refine Ct.intro Try.func13 rfl Try.ntmps13 rfl rfl fun M w => ?_
  refine G.seq ?_
  refine G.region ?_
  refine G.op1 (op_assign (Ev.c _ rfl) rfl) rfl trivial trivial ?_
  refine G.endOps ?_
  refine G.seq ?_
  refine G.seq ?_
  refine G.region ?_
  refine G.op1 (op_move (Ev.t 0 (.g (.d (.sl 3 (List.map encApi_Dep p_0))))) rfl) rfl ⟨rfl, trivial⟩ trivial ?_
  refine G.op1 (OpL.cast (op_lenD Try.underlying24 (Ev.t 6 (.g (.d (.sl 3 (List.map encApi_Dep p_0))))) rfl) (by rw [List.length_map])) rfl ⟨rfl, trivial⟩ trivial ?_
  refine G.op1 (op_move (Ev.t 1 (.g (.d (.sl 3 (List.map encApi_Dep q_1))))) rfl) rfl ⟨rfl, trivial⟩ trivial ?_
  refine G.op1 (OpL.cast (op_lenD Try.underlying24 (Ev.t 8 (.g (.d (.sl 3 (List.map encApi_Dep q_1))))) rfl) (by rw [List.length_map])) rfl ⟨rfl, trivial⟩ trivial ?_
  refine G.op1 (op_neI (Ev.t 7 (bI .i64 (p_0.length : Int))) (Ev.t 9 (bI .i64 (q_1.length : Int))) rfl) rfl ⟨rfl, rfl, trivial⟩ trivial ?_
  refine G.endOps ?_
  refine ifS hF (fun hc1 hF => ?_) (fun hc1 hF => ?_)
  · refine G.cond rfl (fun _ => ?_) (fun hx => by rw [hc1] at hx; cases hx)
    refine G.seq ?_
    refine G.region ?_
    refine G.op1 (op_assign (Ev.c _ rfl) rfl) rfl trivial trivial ?_
    refine G.endOps ?_
    cases hF
    exact G.ret1 Try.results13 (RVar.tmp 4 _) ⟨rfl, trivial⟩ trivial
  · refine G.cond rfl (fun hx => by rw [hc1] at hx; cases hx) (fun _ => ?_)
    refine G.skip ?_
    refine G.seq ?_
    refine G.seq ?_
    refine G.region ?_
    refine G.op1 (op_assign (Ev.c _ rfl) rfl) rfl trivial trivial ?_
    refine G.endOps ?_
    refine G.joinC (T := Unit) (fun y2 => ⟨[], []⟩) (fun y2 => ref04_Same_k1 y2 = some r) (fun y2 hF => ?_) (fun J3 => ?_)
    · unfold ref04_Same_k1 at hF
      refine G.seq ?_
      refine G.region ?_
      refine G.op1 (op_assign (Ev.c _ rfl) rfl) rfl trivial trivial ?_
      refine G.endOps ?_
      cases hF
      exact G.ret1 Try.results13 (RVar.tmp 4 _) ⟨rfl, trivial⟩ trivial
    refine G.block ?_
    refine G.keep (sl' := [(0, .one (.g (.d (.sl 3 (List.map encApi_Dep p_0))))), (1, .one (.g (.d (.sl 3 (List.map encApi_Dep q_1))))), (5, .one (bI .i64 0))]) (hp' := []) ⟨rfl, rfl, rfl, trivial⟩ trivial rfl ?_
    refine G.loopF (fun (v4 : Int) => ⟨[(0, .one (.g (.d (.sl 3 (List.map encApi_Dep p_0))))), (1, .one (.g (.d (.sl 3 (List.map encApi_Dep q_1))))), (5, .one (bI .i64 v4))], []⟩) hF rfl (fun K7 again6 v4 J5 hF => ?_)
    unfold ref04_Same_l2 at hF
    refine G.seq ?_
    refine G.seq ?_
    refine G.region ?_
    refine G.op1 (op_move (Ev.t 5 (bI .i64 v4)) rfl) rfl ⟨rfl, trivial⟩ trivial ?_
    refine G.op1 (op_move (Ev.t 0 (.g (.d (.sl 3 (List.map encApi_Dep p_0))))) rfl) rfl ⟨rfl, trivial⟩ trivial ?_
    refine G.op1 (OpL.cast (op_lenD Try.underlying24 (Ev.t 12 (.g (.d (.sl 3 (List.map encApi_Dep p_0))))) rfl) (by rw [List.length_map])) rfl ⟨rfl, trivial⟩ trivial ?_
    refine G.op1 (op_lss (Ev.t 11 (bI .i64 v4)) (Ev.t 13 (bI .i64 (p_0.length : Int))) rfl) rfl ⟨rfl, rfl, trivial⟩ trivial ?_
    refine G.endOps ?_
    refine ifS hF (fun hc8 hF => ?_) (fun hc8 hF => ?_)
    · refine G.cond rfl (fun _ => ?_) (fun hx => by rw [hc8] at hx; cases hx)
      refine G.skip ?_
      refine G.seq ?_
      refine G.block ?_
      refine G.seq ?_
      obtain ⟨x9, hx9, hF⟩ := bindS hF
      obtain ⟨x10, hx10, hF⟩ := bindS hF
      refine G.drawn (effs := [⟨[(0, .one (.g (.d (.sl 3 (List.map encApi_Dep p_0)))))], [], [(17, .one (.g (.d (.sl 3 (List.map encApi_Dep p_0)))))], []⟩, ⟨[(5, .one (bI .i64 v4))], [], [(18, .one (bI .i64 v4))], []⟩, ⟨[(17, .one (.g (.d (.sl 3 (List.map encApi_Dep p_0))))), (18, .one (bI .i64 v4))], [], [(19, .one (.ep [.v (.string x9.Key), .v (.int .i64 x9.Stamp.N), .v (.int .i64 x9.Stamp.Site)]))], []⟩, ⟨[(19, .one (.ep [.v (.string x9.Key), .v (.int .i64 x9.Stamp.N), .v (.int .i64 x9.Stamp.Site)]))], [], [(20, .one (.g (.agg [.v (.string x9.Key), .v (.int .i64 x9.Stamp.N), .v (.int .i64 x9.Stamp.Site)])))], []⟩, ⟨[(1, .one (.g (.d (.sl 3 (List.map encApi_Dep q_1)))))], [], [(21, .one (.g (.d (.sl 3 (List.map encApi_Dep q_1)))))], []⟩, ⟨[(5, .one (bI .i64 v4))], [], [(22, .one (bI .i64 v4))], []⟩, ⟨[(21, .one (.g (.d (.sl 3 (List.map encApi_Dep q_1))))), (22, .one (bI .i64 v4))], [], [(23, .one (.ep [.v (.string x10.Key), .v (.int .i64 x10.Stamp.N), .v (.int .i64 x10.Stamp.Site)]))], []⟩, ⟨[(23, .one (.ep [.v (.string x10.Key), .v (.int .i64 x10.Stamp.N), .v (.int .i64 x10.Stamp.Site)]))], [], [(24, .one (.g (.agg [.v (.string x10.Key), .v (.int .i64 x10.Stamp.N), .v (.int .i64 x10.Stamp.Site)])))], []⟩, ⟨[(20, .one (.g (.agg [.v (.string x9.Key), .v (.int .i64 x9.Stamp.N), .v (.int .i64 x9.Stamp.Site)]))), (24, .one (.g (.agg [.v (.string x10.Key), .v (.int .i64 x10.Stamp.N), .v (.int .i64 x10.Stamp.Site)])))], [], [(25, .one (bB (!(decide (x9.Key = x10.Key) && decide (x9.Stamp.N = x10.Stamp.N) && decide (x9.Stamp.Site = x10.Stamp.Site)))))], []⟩]) (deps := [[], [], [0, 1], [0, 1, 2], [], [], [4, 5], [4, 5, 6], [0, 1, 2, 3, 4, 5, 6, 7]]) (sl' := [(0, .one (.g (.d (.sl 3 (List.map encApi_Dep p_0))))), (1, .one (.g (.d (.sl 3 (List.map encApi_Dep q_1))))), (5, .one (bI .i64 v4)), (25, .one (bB (!(decide (x9.Key = x10.Key) && decide (x9.Stamp.N = x10.Stamp.N) && decide (x9.Stamp.Site = x10.Stamp.Site)))))]) (hp' := []) follows rfl rfl rfl ⟨⟨rfl, trivial⟩, trivial, ⟨rfl, trivial⟩, trivial, ⟨rfl, rfl, trivial⟩, trivial, ⟨rfl, trivial⟩, trivial, ⟨rfl, trivial⟩, trivial, ⟨rfl, trivial⟩, trivial, ⟨rfl, rfl, trivial⟩, trivial, ⟨rfl, trivial⟩, trivial, ⟨rfl, rfl, trivial⟩, trivial, trivial⟩ ⟨OpW.plain (op_move (Ev.t 0 (.g (.d (.sl 3 (List.map encApi_Dep p_0))))) rfl) rfl rfl, OpW.plain (op_move (Ev.t 5 (bI .i64 v4)) rfl) rfl rfl, OpW.plain (op_index (cs := [.v (.string x9.Key), .v (.int .i64 x9.Stamp.N), .v (.int .i64 x9.Stamp.Site)]) Try.underlying24 ti47 (idx_ok hx9).1 (idx_get hx9 encApi_Dep) (Ev.t 17 (.g (.d (.sl 3 (List.map encApi_Dep p_0))))) (Ev.t 18 (bI .i64 v4)) rfl) rfl rfl, OpW.plain (op_loadAE (ds := [.v (.string x9.Key), .v (.int .i64 x9.Stamp.N), .v (.int .i64 x9.Stamp.Site)]) Try.underlying47 rfl ti47 rfl (Ev.t 19 (.ep [.v (.string x9.Key), .v (.int .i64 x9.Stamp.N), .v (.int .i64 x9.Stamp.Site)])) rfl) rfl rfl, OpW.plain (op_move (Ev.t 1 (.g (.d (.sl 3 (List.map encApi_Dep q_1))))) rfl) rfl rfl, OpW.plain (op_move (Ev.t 5 (bI .i64 v4)) rfl) rfl rfl, OpW.plain (op_index (cs := [.v (.string x10.Key), .v (.int .i64 x10.Stamp.N), .v (.int .i64 x10.Stamp.Site)]) Try.underlying24 ti47 (idx_ok hx10).1 (idx_get hx10 encApi_Dep) (Ev.t 21 (.g (.d (.sl 3 (List.map encApi_Dep q_1))))) (Ev.t 22 (bI .i64 v4)) rfl) rfl rfl, OpW.plain (op_loadAE (ds := [.v (.string x10.Key), .v (.int .i64 x10.Stamp.N), .v (.int .i64 x10.Stamp.Site)]) Try.underlying47 rfl ti47 rfl (Ev.t 23 (.ep [.v (.string x10.Key), .v (.int .i64 x10.Stamp.N), .v (.int .i64 x10.Stamp.Site)])) rfl) rfl rfl, OpW.plain (op_eqA (us := [.string x9.Key, .int .i64 x9.Stamp.N, .int .i64 x9.Stamp.Site]) (vs := [.string x10.Key, .int .i64 x10.Stamp.N, .int .i64 x10.Stamp.Site]) rfl rfl Try.eqGuardType47 (fun w => ne47 x9.Key x9.Stamp.N x9.Stamp.Site x10.Key x10.Stamp.N x10.Stamp.Site w) (Ev.t 20 (.g (.agg [.v (.string x9.Key), .v (.int .i64 x9.Stamp.N), .v (.int .i64 x9.Stamp.Site)]))) (Ev.t 24 (.g (.agg [.v (.string x10.Key), .v (.int .i64 x10.Stamp.N), .v (.int .i64 x10.Stamp.Site)]))) rfl) rfl rfl, trivial⟩ ⟨rfl, rfl, rfl, rfl, trivial⟩ trivial rfl ?_
      refine ifS hF (fun hc11 hF => ?_) (fun hc11 hF => ?_)
      · refine G.cond rfl (fun _ => ?_) (fun hx => by rw [hc11] at hx; cases hx)
        refine G.seq ?_
        refine G.region ?_
        refine G.op1 (op_assign (Ev.c _ rfl) rfl) rfl trivial trivial ?_
        refine G.endOps ?_
        cases hF
        exact G.ret1 Try.results13 (RVar.tmp 4 _) ⟨rfl, trivial⟩ trivial
      · refine G.cond rfl (fun hx => by rw [hc11] at hx; cases hx) (fun _ => ?_)
        refine G.skip ?_
        refine G.endBlock ?_
        refine G.region ?_
        refine G.op1 (op_move (Ev.t 5 (bI .i64 v4)) rfl) rfl ⟨rfl, trivial⟩ trivial ?_
        refine G.op1 (op_add (Ev.t 15 (bI .i64 v4)) (Ev.c _ rfl) rfl) rfl ⟨rfl, trivial⟩ trivial ?_
        refine G.op1 (op_assign (Ev.t 16 (bI .i64 (IntKind.wrap .i64 (v4 + 1)))) rfl) rfl ⟨rfl, trivial⟩ trivial ?_
        refine G.endOps ?_
        exact G.arr (J5 (IntKind.wrap .i64 (v4 + 1)) hF) ⟨rfl, rfl, rfl, trivial⟩ trivial rfl
    · refine G.cond rfl (fun hx => by rw [hc8] at hx; cases hx) (fun _ => ?_)
      refine G.exit ?_
      refine GX.c ?_
      refine GX.q ?_
      refine GX.bYes ?_
      exact G.arr (J3 () hF) trivial trivial rfl


set_option maxRecDepth 20000 in
set_option maxHeartbeats 2000000 in
theorem ct_law19_CutGrows (l_0 : (List Api_Version)) (k_1 : (List ByteArray)) (seen_2 : (List Api_Dep)) (r : Bool) (hF : law19_CutGrows l_0 k_1 seen_2 = some r) : Ct Try.prog 7 [.g (.d (.sl 6 (List.map encApi_Version l_0))), .g (.d (.sl 1 (List.map encS k_1))), .g (.d (.sl 3 (List.map encApi_Dep seen_2)))] (.one (.d (.v (.bool r)))) := by
  unfold law19_CutGrows at hF
  refine Ct.intro Try.func7 rfl Try.ntmps7 rfl rfl fun M w => ?_
  refine G.seq ?_
  refine G.region ?_
  refine G.op1 (op_assign (Ev.c _ rfl) rfl) rfl trivial trivial ?_
  refine G.endOps ?_
  refine G.seq ?_
  refine G.region ?_
  obtain ⟨r1, hr1, hF⟩ := bindS hF
  refine G.op1 (op_callQ (sv := .one (bB r1)) cf9 (ct_law19_awake r1 hr1) rfl rfl EvQL.nil rfl) rfl trivial trivial ?_
  refine G.op1 (op_assign (Ev.t 13 (bB r1)) rfl) rfl ⟨rfl, trivial⟩ trivial ?_
  refine G.endOps ?_
  refine G.seq ?_
  refine G.region ?_
  refine G.op1 (op_move (Ev.t 0 (.g (.d (.sl 6 (List.map encApi_Version l_0))))) rfl) rfl ⟨rfl, trivial⟩ trivial ?_
  obtain ⟨r2, hr2, hF⟩ := bindS hF
  refine G.op1 (op_call (sv := .one (.g (.d (.sl 6 (List.map encApi_Version r2))))) cf10 (ct_law19_few l_0 r2 hr2) rfl (EvL.cons (Ev.t 14 (.g (.d (.sl 6 (List.map encApi_Version l_0))))) EvL.nil) rfl) rfl ⟨rfl, trivial⟩ trivial ?_
  refine G.op1 (op_assign (Ev.t 15 (.g (.d (.sl 6 (List.map encApi_Version r2))))) rfl) rfl ⟨rfl, trivial⟩ trivial ?_
  refine G.endOps ?_
  refine G.seq ?_
  refine G.region ?_
  refine G.op1 (op_move (Ev.t 2 (.g (.d (.sl 3 (List.map encApi_Dep seen_2))))) rfl) rfl ⟨rfl, trivial⟩ trivial ?_
  obtain ⟨r3, hr3, hF⟩ := bindS hF
  refine G.op1 (op_call (sv := .one (.g (.d (.sl 3 (List.map encApi_Dep r3))))) cf11 (ct_law19_row seen_2 r3 hr3) rfl (EvL.cons (Ev.t 16 (.g (.d (.sl 3 (List.map encApi_Dep seen_2))))) EvL.nil) rfl) rfl ⟨rfl, trivial⟩ trivial ?_
  refine G.op1 (op_assign (Ev.t 17 (.g (.d (.sl 3 (List.map encApi_Dep r3))))) rfl) rfl ⟨rfl, trivial⟩ trivial ?_
  refine G.endOps ?_
  refine G.seq ?_
  refine G.region ?_
  refine G.op1 (op_move (Ev.t 1 (.g (.d (.sl 1 (List.map encS k_1))))) rfl) rfl ⟨rfl, trivial⟩ trivial ?_
  obtain ⟨r4, hr4, hF⟩ := bindS hF
  refine G.op1 (op_call (sv := .one (.g (.d (.sl 1 (List.map encS r4))))) cf12 (ct_law19_keys k_1 r4 hr4) rfl (EvL.cons (Ev.t 18 (.g (.d (.sl 1 (List.map encS k_1))))) EvL.nil) rfl) rfl ⟨rfl, trivial⟩ trivial ?_
  refine G.op1 (op_assign (Ev.t 19 (.g (.d (.sl 1 (List.map encS r4))))) rfl) rfl ⟨rfl, trivial⟩ trivial ?_
  refine G.endOps ?_
  refine G.seq ?_
  refine G.seq ?_
  refine G.region ?_
  refine G.op1 (op_move (Ev.t 1 (.g (.d (.sl 1 (List.map encS r4))))) rfl) rfl ⟨rfl, trivial⟩ trivial ?_
  refine G.op1 (op_move (Ev.t 8 (.g (.d (.sl 6 (List.map encApi_Version r2))))) rfl) rfl ⟨rfl, trivial⟩ trivial ?_
  refine G.op1 (op_move (Ev.t 9 (.g (.d (.sl 3 (List.map encApi_Dep r3))))) rfl) rfl ⟨rfl, trivial⟩ trivial ?_
  obtain ⟨r5, hr5, hF⟩ := bindS hF
  refine G.op1 (op_callQ (sv := .one (bB r5)) cf23 (ct_cut_Check r4 r2 r3 r5 hr5) rfl rfl (EvQL.cons (EvQ.g (Ev.t 20 (.g (.d (.sl 1 (List.map encS r4)))))) (EvQL.cons (EvQ.g (Ev.t 21 (.g (.d (.sl 6 (List.map encApi_Version r2)))))) (EvQL.cons (EvQ.g (Ev.t 22 (.g (.d (.sl 3 (List.map encApi_Dep r3)))))) EvQL.nil))) rfl) rfl ⟨rfl, rfl, rfl, trivial⟩ trivial ?_
  refine G.op1 (op_not (Ev.t 23 (bB r5)) rfl) rfl ⟨rfl, trivial⟩ trivial ?_
  refine G.endOps ?_
  refine ifS hF (fun hc6 hF => ?_) (fun hc6 hF => ?_)
  · refine G.cond rfl (fun _ => ?_) (fun hx => by rw [hc6] at hx; cases hx)
    refine G.seq ?_
    refine G.joinC (T := Bool) (fun y7 => ⟨[(6, .one (bB y7))], []⟩) (fun y7 => law19_CutGrows_k1 y7 = some r) (fun y7 hF => ?_) (fun J8 => ?_)
    · unfold law19_CutGrows_k1 at hF
      cases hF
      exact G.ret1 Try.results7 (RVar.tmp 6 _) ⟨rfl, trivial⟩ trivial
    refine G.region ?_
    refine G.op1 (op_move (Ev.t 7 (bB r1)) rfl) rfl ⟨rfl, trivial⟩ trivial ?_
    refine G.op1 (op_move (Ev.t 25 (bB r1)) rfl) rfl ⟨rfl, trivial⟩ trivial ?_
    refine ifS hF (fun hc9 hF => ?_) (fun hc9 hF => ?_)
    · refine G.known (t := 26) hc9 rfl ?_
      refine G.opG1 (op_move (Ev.t 1 (.g (.d (.sl 1 (List.map encS r4))))) rfl) rfl rfl rfl ⟨rfl, trivial⟩ trivial ?_
      refine G.opG1 (op_move (Ev.t 8 (.g (.d (.sl 6 (List.map encApi_Version r2))))) rfl) rfl rfl rfl ⟨rfl, trivial⟩ trivial ?_
      refine G.opG1 (op_move (Ev.t 9 (.g (.d (.sl 3 (List.map encApi_Dep r3))))) rfl) rfl rfl rfl ⟨rfl, trivial⟩ trivial ?_
      obtain ⟨r10, hr10, hF⟩ := bindS hF
      refine G.opG1 (op_call (sv := .one (.g (.d (.sl 1 (List.map encS r10))))) cf17 (ct_cut_Late r4 r2 r3 r10 hr10) rfl (EvL.cons (Ev.t 27 (.g (.d (.sl 1 (List.map encS r4))))) (EvL.cons (Ev.t 28 (.g (.d (.sl 6 (List.map encApi_Version r2))))) (EvL.cons (Ev.t 29 (.g (.d (.sl 3 (List.map encApi_Dep r3))))) EvL.nil))) rfl) rfl rfl rfl ⟨rfl, rfl, rfl, trivial⟩ trivial ?_
      refine G.opG1 (OpL.cast (op_lenD Try.underlying23 (Ev.t 30 (.g (.d (.sl 1 (List.map encS r10))))) rfl) (by rw [List.length_map])) rfl rfl rfl ⟨rfl, trivial⟩ trivial ?_
      refine G.opG1 (op_gtr (Ev.t 31 (bI .i64 (r10.length : Int))) (Ev.c _ rfl) rfl) rfl rfl rfl ⟨rfl, trivial⟩ trivial ?_
      refine G.op1 (op_pickT (Ev.t 26 (bB true)) (Ev.t 32 (bB (decide (0 < (r10.length : Int))))) rfl) rfl ⟨rfl, rfl, trivial⟩ trivial ?_
      refine G.op1 (op_assign (Ev.t 33 (bB (decide (0 < (r10.length : Int))))) rfl) rfl ⟨rfl, trivial⟩ trivial ?_
      refine G.endOps ?_
      exact G.arr (J8 (decide (0 < (r10.length : Int))) hF) ⟨rfl, trivial⟩ trivial rfl
    · refine G.known (t := 26) hc9 rfl ?_
      refine G.opN1 rfl rfl rfl rfl rfl ?_
      refine G.opN1 rfl rfl rfl rfl rfl ?_
      refine G.opN1 rfl rfl rfl rfl rfl ?_
      refine G.opN1 rfl rfl rfl rfl rfl ?_
      refine G.opN1 rfl rfl rfl rfl rfl ?_
      refine G.opN1 rfl rfl rfl rfl rfl ?_
      refine G.op1 (op_pickF (Ev.t 26 (bB false)) (Ev.c _ rfl) rfl) rfl ⟨rfl, trivial⟩ trivial ?_
      refine G.op1 (op_assign (Ev.t 33 (bB false)) rfl) rfl ⟨rfl, trivial⟩ trivial ?_
      refine G.endOps ?_
      exact G.arr (J8 false hF) ⟨rfl, trivial⟩ trivial rfl
  · refine G.cond rfl (fun hx => by rw [hc6] at hx; cases hx) (fun _ => ?_)
    refine G.skip ?_
    refine G.seq ?_
    refine G.region ?_
    refine G.op1 (op_move (Ev.t 8 (.g (.d (.sl 6 (List.map encApi_Version r2))))) rfl) rfl ⟨rfl, trivial⟩ trivial ?_
    refine G.op1 (op_move (Ev.t 9 (.g (.d (.sl 3 (List.map encApi_Dep r3))))) rfl) rfl ⟨rfl, trivial⟩ trivial ?_
    obtain ⟨r11, hr11, hF⟩ := bindS hF
    refine G.op1 (op_call (sv := .one (.g (.d (.sl 3 (List.map encApi_Dep r11))))) cf14 (ct_cut_Low r2 r3 r11 hr11) rfl (EvL.cons (Ev.t 34 (.g (.d (.sl 6 (List.map encApi_Version r2))))) (EvL.cons (Ev.t 35 (.g (.d (.sl 3 (List.map encApi_Dep r3))))) EvL.nil)) rfl) rfl ⟨rfl, rfl, trivial⟩ trivial ?_
    refine G.op1 (op_assign (Ev.t 36 (.g (.d (.sl 3 (List.map encApi_Dep r11))))) rfl) rfl ⟨rfl, trivial⟩ trivial ?_
    refine G.endOps ?_
    refine G.seq ?_
    refine G.region ?_
    refine G.op1 (op_move (Ev.t 9 (.g (.d (.sl 3 (List.map encApi_Dep r3))))) rfl) rfl ⟨rfl, trivial⟩ trivial ?_
    refine G.op1 (op_move (Ev.t 8 (.g (.d (.sl 6 (List.map encApi_Version r2))))) rfl) rfl ⟨rfl, trivial⟩ trivial ?_
    obtain ⟨r12, hr12, hF⟩ := bindS hF
    refine G.op1 (op_call (sv := .one (.g (.d (.sl 3 (List.map encApi_Dep r12))))) cf19 (ct_cut_After r3 r2 r12 hr12) rfl (EvL.cons (Ev.t 37 (.g (.d (.sl 3 (List.map encApi_Dep r3))))) (EvL.cons (Ev.t 38 (.g (.d (.sl 6 (List.map encApi_Version r2))))) EvL.nil)) rfl) rfl ⟨rfl, rfl, trivial⟩ trivial ?_
    refine G.op1 (op_assign (Ev.t 39 (.g (.d (.sl 3 (List.map encApi_Dep r12))))) rfl) rfl ⟨rfl, trivial⟩ trivial ?_
    refine G.endOps ?_
    refine G.seq ?_
    refine G.region ?_
    refine G.op1 (op_move (Ev.t 11 (.g (.d (.sl 3 (List.map encApi_Dep r12))))) rfl) rfl ⟨rfl, trivial⟩ trivial ?_
    refine G.op1 (op_move (Ev.t 8 (.g (.d (.sl 6 (List.map encApi_Version r2))))) rfl) rfl ⟨rfl, trivial⟩ trivial ?_
    obtain ⟨r13, hr13, hF⟩ := bindS hF
    refine G.op1 (op_call (sv := .one (.g (.d (.sl 3 (List.map encApi_Dep r13))))) cf19 (ct_cut_After r12 r2 r13 hr13) rfl (EvL.cons (Ev.t 40 (.g (.d (.sl 3 (List.map encApi_Dep r12))))) (EvL.cons (Ev.t 41 (.g (.d (.sl 6 (List.map encApi_Version r2))))) EvL.nil)) rfl) rfl ⟨rfl, rfl, trivial⟩ trivial ?_
    refine G.op1 (op_move (Ev.t 11 (.g (.d (.sl 3 (List.map encApi_Dep r12))))) rfl) rfl ⟨rfl, trivial⟩ trivial ?_
    obtain ⟨r14, hr14, hF⟩ := bindS hF
    refine G.op1 (op_callQ (sv := .one (bB r14)) cf13 (ct_ref04_Same r13 r12 r14 hr14) rfl rfl (EvQL.cons (EvQ.g (Ev.t 42 (.g (.d (.sl 3 (List.map encApi_Dep r13)))))) (EvQL.cons (EvQ.g (Ev.t 43 (.g (.d (.sl 3 (List.map encApi_Dep r12)))))) EvQL.nil)) rfl) rfl ⟨rfl, rfl, trivial⟩ trivial ?_
    refine G.op1 (op_assign (Ev.t 44 (bB r14)) rfl) rfl ⟨rfl, trivial⟩ trivial ?_
    refine G.endOps ?_
    refine G.seq ?_
    refine G.region ?_
    refine G.op1 (op_move (Ev.t 7 (bB r1)) rfl) rfl ⟨rfl, trivial⟩ trivial ?_
    refine G.op1 (op_move (Ev.t 45 (bB r1)) rfl) rfl ⟨rfl, trivial⟩ trivial ?_
    refine G.joinL (T := Bool) 5 (fun y15 => ⟨[(1, .one (.g (.d (.sl 1 (List.map encS r4))))), (8, .one (.g (.d (.sl 6 (List.map encApi_Version r2))))), (11, .one (.g (.d (.sl 3 (List.map encApi_Dep r12))))), (12, .one (bB r14)), (51, .one (bB y15))], []⟩) (fun y15 => law19_CutGrows_k2 r2 r4 r12 r14 y15 = some r) (fun y15 hF => ?_) (fun J19 => ?_)
    · unfold law19_CutGrows_k2 at hF
      refine G.op1 (op_move (Ev.t 51 (bB y15)) rfl) rfl ⟨rfl, trivial⟩ trivial ?_
      refine ifS hF (fun hc16 hF => ?_) (fun hc16 hF => ?_)
      · refine G.known (t := 52) hc16 rfl ?_
        refine G.opG1 (op_move (Ev.t 1 (.g (.d (.sl 1 (List.map encS r4))))) rfl) rfl rfl rfl ⟨rfl, trivial⟩ trivial ?_
        refine G.opG1 (op_move (Ev.t 8 (.g (.d (.sl 6 (List.map encApi_Version r2))))) rfl) rfl rfl rfl ⟨rfl, trivial⟩ trivial ?_
        refine G.opG1 (op_move (Ev.t 11 (.g (.d (.sl 3 (List.map encApi_Dep r12))))) rfl) rfl rfl rfl ⟨rfl, trivial⟩ trivial ?_
        obtain ⟨r17, hr17, hF⟩ := bindS hF
        refine G.opG1 (op_callQ (sv := .one (bB r17)) cf23 (ct_cut_Check r4 r2 r12 r17 hr17) rfl rfl (EvQL.cons (EvQ.g (Ev.t 53 (.g (.d (.sl 1 (List.map encS r4)))))) (EvQL.cons (EvQ.g (Ev.t 54 (.g (.d (.sl 6 (List.map encApi_Version r2)))))) (EvQL.cons (EvQ.g (Ev.t 55 (.g (.d (.sl 3 (List.map encApi_Dep r12)))))) EvQL.nil))) rfl) rfl rfl rfl ⟨rfl, rfl, rfl, trivial⟩ trivial ?_
        refine G.op1 (op_pickT (Ev.t 52 (bB true)) (Ev.t 56 (bB r17)) rfl) rfl ⟨rfl, rfl, trivial⟩ trivial ?_
        refine G.op1 (op_move (Ev.t 57 (bB r17)) rfl) rfl ⟨rfl, trivial⟩ trivial ?_
        refine ifS hF (fun hc18 hF => ?_) (fun hc18 hF => ?_)
        · refine G.known (t := 58) hc18 rfl ?_
          refine G.opG1 (op_move (Ev.t 12 (bB r14)) rfl) rfl rfl rfl ⟨rfl, trivial⟩ trivial ?_
          refine G.op1 (op_pickT (Ev.t 58 (bB true)) (Ev.t 59 (bB r14)) rfl) rfl ⟨rfl, rfl, trivial⟩ trivial ?_
          refine G.op1 (op_assign (Ev.t 60 (bB r14)) rfl) rfl ⟨rfl, trivial⟩ trivial ?_
          refine G.endOps ?_
          cases hF
          exact G.ret1 Try.results7 (RVar.tmp 6 _) ⟨rfl, trivial⟩ trivial
        · refine G.known (t := 58) hc18 rfl ?_
          refine G.opN1 rfl rfl rfl rfl rfl ?_
          refine G.op1 (op_pickF (Ev.t 58 (bB false)) (Ev.c _ rfl) rfl) rfl ⟨rfl, trivial⟩ trivial ?_
          refine G.op1 (op_assign (Ev.t 60 (bB false)) rfl) rfl ⟨rfl, trivial⟩ trivial ?_
          refine G.endOps ?_
          cases hF
          exact G.ret1 Try.results7 (RVar.tmp 6 _) ⟨rfl, trivial⟩ trivial
      · refine G.known (t := 52) hc16 rfl ?_
        refine G.opN1 rfl rfl rfl rfl rfl ?_
        refine G.opN1 rfl rfl rfl rfl rfl ?_
        refine G.opN1 rfl rfl rfl rfl rfl ?_
        refine G.opN1 rfl rfl rfl rfl rfl ?_
        refine G.op1 (op_pickF (Ev.t 52 (bB false)) (Ev.c _ rfl) rfl) rfl ⟨rfl, trivial⟩ trivial ?_
        refine G.op1 (op_move (Ev.t 57 (bB false)) rfl) rfl ⟨rfl, trivial⟩ trivial ?_
        refine G.opN1 rfl rfl rfl rfl rfl ?_
        refine G.op1 (op_pickF (Ev.t 58 (bB false)) (Ev.c _ rfl) rfl) rfl ⟨rfl, trivial⟩ trivial ?_
        refine G.op1 (op_assign (Ev.t 60 (bB false)) rfl) rfl ⟨rfl, trivial⟩ trivial ?_
        refine G.endOps ?_
        cases hF
        exact G.ret1 Try.results7 (RVar.tmp 6 _) ⟨rfl, trivial⟩ trivial
    refine ifS hF (fun hc20 hF => ?_) (fun hc20 hF => ?_)
    · refine G.known (t := 46) hc20 rfl ?_
      refine G.opG1 (op_move (Ev.t 1 (.g (.d (.sl 1 (List.map encS r4))))) rfl) rfl rfl rfl ⟨rfl, trivial⟩ trivial ?_
      refine G.opG1 (op_move (Ev.t 8 (.g (.d (.sl 6 (List.map encApi_Version r2))))) rfl) rfl rfl rfl ⟨rfl, trivial⟩ trivial ?_
      refine G.opG1 (op_move (Ev.t 10 (.g (.d (.sl 3 (List.map encApi_Dep r11))))) rfl) rfl rfl rfl ⟨rfl, trivial⟩ trivial ?_
      obtain ⟨r21, hr21, hF⟩ := bindS hF
      refine G.opG1 (op_callQ (sv := .one (bB r21)) cf23 (ct_cut_Check r4 r2 r11 r21 hr21) rfl rfl (EvQL.cons (EvQ.g (Ev.t 47 (.g (.d (.sl 1 (List.map encS r4)))))) (EvQL.cons (EvQ.g (Ev.t 48 (.g (.d (.sl 6 (List.map encApi_Version r2)))))) (EvQL.cons (EvQ.g (Ev.t 49 (.g (.d (.sl 3 (List.map encApi_Dep r11)))))) EvQL.nil))) rfl) rfl rfl rfl ⟨rfl, rfl, rfl, trivial⟩ trivial ?_
      refine G.op1 (op_pickT (Ev.t 46 (bB true)) (Ev.t 50 (bB r21)) rfl) rfl ⟨rfl, rfl, trivial⟩ trivial ?_
      exact G.arr (J19 r21 hF) ⟨rfl, rfl, rfl, rfl, rfl, trivial⟩ trivial rfl
    · refine G.known (t := 46) hc20 rfl ?_
      refine G.opN1 rfl rfl rfl rfl rfl ?_
      refine G.opN1 rfl rfl rfl rfl rfl ?_
      refine G.opN1 rfl rfl rfl rfl rfl ?_
      refine G.opN1 rfl rfl rfl rfl rfl ?_
      refine G.op1 (op_pickF (Ev.t 46 (bB false)) (Ev.c _ rfl) rfl) rfl ⟨rfl, trivial⟩ trivial ?_
      exact G.arr (J19 false hF) ⟨rfl, rfl, rfl, rfl, rfl, trivial⟩ trivial rfl


end Go.Ark
