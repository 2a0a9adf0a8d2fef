/- Walks, printed by a program of mine: each function of the program computes the typed function of its name. Conditions: none. -/
import Derived.Test.YtedpjlinmkingaaWPastTells1
namespace Go.Ark
open Go Go.Ab Go.RowKit Go.Lib Go.Proofs

set_option maxRecDepth 20000 in
set_option maxHeartbeats 2000000 in
theorem ct_ref04_Merge (l_0 : (List (List Api_Dep))) (r : (List Api_Dep)) (hF : ref04_Merge l_0 = some r) : Ct Try.prog 19 [.g (.d (.sl 1 (List.map encL_encApi_Dep l_0)))] (.one (.d (.sl 3 (List.map encApi_Dep r)))) := by
  unfold ref04_Merge at hF
  refine Ct.intro Try.func19 rfl Try.ntmps19 rfl rfl fun M w => ?_
  refine G.seq ?_
  refine G.region ?_
  refine G.op1 (op_assign (Ev.n 3) rfl) rfl trivial trivial ?_
  refine G.endOps ?_
  refine G.seq ?_
  refine G.region ?_
  refine G.op1 (op_assign (Ev.n 3) rfl) rfl trivial trivial ?_
  refine G.endOps ?_
  refine G.seq ?_
  refine G.seq ?_
  refine G.region ?_
  refine G.op1 (op_assign (Ev.c _ rfl) rfl) rfl trivial trivial ?_
  refine G.endOps ?_
  refine G.joinC (T := (List Api_Dep)) (fun y1 => ⟨[(3, .one (.g (.d (.sl 3 (List.map encApi_Dep y1)))))], []⟩) (fun y1 => ref04_Merge_k1 y1 = some r) (fun y1 hF => ?_) (fun J2 => ?_)
  · unfold ref04_Merge_k1 at hF
    refine G.seq ?_
    refine G.region ?_
    refine G.op1 (op_move (Ev.t 3 (.g (.d (.sl 3 (List.map encApi_Dep y1))))) rfl) rfl ⟨rfl, trivial⟩ trivial ?_
    refine G.op1 (op_assign (Ev.t 30 (.g (.d (.sl 3 (List.map encApi_Dep y1))))) rfl) rfl ⟨rfl, trivial⟩ trivial ?_
    refine G.endOps ?_
    cases hF
    exact G.ret1 Try.results19 (RVar.tmp 2 _) ⟨rfl, trivial⟩ trivial
  refine G.block ?_
  refine G.keep (sl' := [(0, .one (.g (.d (.sl 1 (List.map encL_encApi_Dep l_0))))), (3, .one (.g (.d (.sl 3 (List.map encApi_Dep ([] : (List Api_Dep))))))), (4, .one (bI .i64 0))]) (hp' := []) ⟨rfl, rfl, rfl, trivial⟩ trivial rfl ?_
  refine G.loopF (fun (v3 : (List Api_Dep) × Int) => ⟨[(0, .one (.g (.d (.sl 1 (List.map encL_encApi_Dep l_0))))), (3, .one (.g (.d (.sl 3 (List.map encApi_Dep v3.1))))), (4, .one (bI .i64 v3.2))], []⟩) hF rfl (fun K6 again5 v3 J4 hF => ?_)
  unfold ref04_Merge_l2 at hF
  refine G.seq ?_
  refine G.seq ?_
  refine G.region ?_
  refine G.op1 (op_move (Ev.t 4 (bI .i64 v3.2)) rfl) rfl ⟨rfl, trivial⟩ trivial ?_
  refine G.op1 (op_move (Ev.t 0 (.g (.d (.sl 1 (List.map encL_encApi_Dep l_0))))) rfl) rfl ⟨rfl, trivial⟩ trivial ?_
  refine G.op1 (OpL.cast (op_lenD Try.underlying39 (Ev.t 7 (.g (.d (.sl 1 (List.map encL_encApi_Dep l_0))))) rfl) (by rw [List.length_map])) rfl ⟨rfl, trivial⟩ trivial ?_
  refine G.op1 (op_lss (Ev.t 6 (bI .i64 v3.2)) (Ev.t 8 (bI .i64 (l_0.length : Int))) rfl) rfl ⟨rfl, rfl, trivial⟩ trivial ?_
  refine G.endOps ?_
  refine ifS hF (fun hc7 hF => ?_) (fun hc7 hF => ?_)
  · refine G.cond rfl (fun _ => ?_) (fun hx => by rw [hc7] at hx; cases hx)
    refine G.skip ?_
    refine G.seq ?_
    refine G.joinC (T := (List Api_Dep)) (fun y8 => ⟨[(0, .one (.g (.d (.sl 1 (List.map encL_encApi_Dep l_0))))), (3, .one (.g (.d (.sl 3 (List.map encApi_Dep y8))))), (4, .one (bI .i64 v3.2))], []⟩) (fun y8 => ref04_Merge_k3 again5 v3 y8 = some r) (fun y8 hF => ?_) (fun J9 => ?_)
    · unfold ref04_Merge_k3 at hF
      refine G.region ?_
      refine G.op1 (op_move (Ev.t 4 (bI .i64 v3.2)) rfl) rfl ⟨rfl, trivial⟩ trivial ?_
      refine G.op1 (op_add (Ev.t 10 (bI .i64 v3.2)) (Ev.c _ rfl) rfl) rfl ⟨rfl, trivial⟩ trivial ?_
      refine G.op1 (op_assign (Ev.t 11 (bI .i64 (IntKind.wrap .i64 (v3.2 + 1)))) rfl) rfl ⟨rfl, trivial⟩ trivial ?_
      refine G.endOps ?_
      exact G.arr (J4 (y8, IntKind.wrap .i64 (v3.2 + 1)) hF) ⟨rfl, rfl, rfl, trivial⟩ trivial rfl
    refine G.block ?_
    refine G.seq ?_
    refine G.region ?_
    refine G.op1 (op_assign (Ev.c _ rfl) rfl) rfl trivial trivial ?_
    refine G.endOps ?_
    refine G.joinC (T := (List Api_Dep)) (fun y10 => ⟨[(0, .one (.g (.d (.sl 1 (List.map encL_encApi_Dep l_0))))), (3, .one (.g (.d (.sl 3 (List.map encApi_Dep y10))))), (4, .one (bI .i64 v3.2))], []⟩) (fun y10 => ref04_Merge_k4 again5 v3 y10 = some r) (fun y10 hF => ?_) (fun J11 => ?_)
    · unfold ref04_Merge_k4 at hF
      refine G.endBlock ?_
      exact G.arr (J9 y10 hF) ⟨rfl, rfl, rfl, trivial⟩ trivial rfl
    refine G.block ?_
    refine G.keep (sl' := [(0, .one (.g (.d (.sl 1 (List.map encL_encApi_Dep l_0))))), (3, .one (.g (.d (.sl 3 (List.map encApi_Dep v3.1))))), (4, .one (bI .i64 v3.2)), (5, .one (bI .i64 0))]) (hp' := []) ⟨rfl, rfl, rfl, rfl, trivial⟩ trivial rfl ?_
    refine G.loopF (fun (v12 : (List Api_Dep) × Int) => ⟨[(0, .one (.g (.d (.sl 1 (List.map encL_encApi_Dep l_0))))), (3, .one (.g (.d (.sl 3 (List.map encApi_Dep v12.1))))), (4, .one (bI .i64 v3.2)), (5, .one (bI .i64 v12.2))], []⟩) hF rfl (fun K15 again14 v12 J13 hF => ?_)
    unfold ref04_Merge_l5 at hF
    refine G.seq ?_
    refine G.seq ?_
    refine G.region ?_
    refine G.op1 (op_move (Ev.t 5 (bI .i64 v12.2)) rfl) rfl ⟨rfl, trivial⟩ trivial ?_
    refine G.op1 (op_move (Ev.t 0 (.g (.d (.sl 1 (List.map encL_encApi_Dep l_0))))) rfl) rfl ⟨rfl, trivial⟩ trivial ?_
    refine G.op1 (op_move (Ev.t 4 (bI .i64 v3.2)) rfl) rfl ⟨rfl, trivial⟩ trivial ?_
    obtain ⟨x16, hx16, hF⟩ := bindS hF
    refine G.op1 (op_index (cs := [.sl 3 (List.map encApi_Dep x16)]) Try.underlying39 ti22 (idx_ok hx16).1 (idx_get hx16 encL_encApi_Dep) (Ev.t 13 (.g (.d (.sl 1 (List.map encL_encApi_Dep l_0))))) (Ev.t 14 (bI .i64 v3.2)) rfl) rfl ⟨rfl, rfl, trivial⟩ trivial ?_
    refine G.op1 (op_load1E (c := .sl 3 (List.map encApi_Dep x16)) Try.underlying22 rfl rfl (Ev.t 15 (.ep [.sl 3 (List.map encApi_Dep x16)])) rfl) rfl ⟨rfl, trivial⟩ trivial ?_
    refine G.op1 (OpL.cast (op_lenD Try.underlying22 (Ev.t 16 (.g (.d (.sl 3 (List.map encApi_Dep x16))))) rfl) (by rw [List.length_map])) rfl ⟨rfl, trivial⟩ trivial ?_
    refine G.op1 (op_lss (Ev.t 12 (bI .i64 v12.2)) (Ev.t 17 (bI .i64 (x16.length : Int))) rfl) rfl ⟨rfl, rfl, trivial⟩ trivial ?_
    refine G.endOps ?_
    refine ifS hF (fun hc17 hF => ?_) (fun hc17 hF => ?_)
    · refine G.cond rfl (fun _ => ?_) (fun hx => by rw [hc17] at hx; cases hx)
      refine G.skip ?_
      refine G.seq ?_
      refine G.block ?_
      refine G.region ?_
      refine G.op1 (op_move (Ev.t 3 (.g (.d (.sl 3 (List.map encApi_Dep v12.1))))) rfl) rfl ⟨rfl, trivial⟩ trivial ?_
      refine G.op1 (op_move (Ev.t 0 (.g (.d (.sl 1 (List.map encL_encApi_Dep l_0))))) rfl) rfl ⟨rfl, trivial⟩ trivial ?_
      refine G.op1 (op_move (Ev.t 4 (bI .i64 v3.2)) rfl) rfl ⟨rfl, trivial⟩ trivial ?_
      obtain ⟨x18, hx18, hF⟩ := bindS hF
      refine G.op1 (op_index (cs := [.sl 3 (List.map encApi_Dep x18)]) Try.underlying39 ti22 (idx_ok hx18).1 (idx_get hx18 encL_encApi_Dep) (Ev.t 22 (.g (.d (.sl 1 (List.map encL_encApi_Dep l_0))))) (Ev.t 23 (bI .i64 v3.2)) rfl) rfl ⟨rfl, rfl, trivial⟩ trivial ?_
      refine G.op1 (op_load1E (c := .sl 3 (List.map encApi_Dep x18)) Try.underlying22 rfl rfl (Ev.t 24 (.ep [.sl 3 (List.map encApi_Dep x18)])) rfl) rfl ⟨rfl, trivial⟩ trivial ?_
      refine G.op1 (op_move (Ev.t 5 (bI .i64 v12.2)) rfl) rfl ⟨rfl, trivial⟩ trivial ?_
      obtain ⟨x19, hx19, hF⟩ := bindS hF
      refine G.op1 (op_index (cs := [.v (.string x19.Key), .v (.int .i64 x19.Stamp.N), .v (.int .i64 x19.Stamp.Site)]) Try.underlying22 ti26 (idx_ok hx19).1 (idx_get hx19 encApi_Dep) (Ev.t 25 (.g (.d (.sl 3 (List.map encApi_Dep x18))))) (Ev.t 26 (bI .i64 v12.2)) rfl) rfl ⟨rfl, rfl, trivial⟩ trivial ?_
      refine G.op1 (op_loadAE (ds := [.v (.string x19.Key), .v (.int .i64 x19.Stamp.N), .v (.int .i64 x19.Stamp.Site)]) Try.underlying26 rfl ti26 rfl (Ev.t 27 (.ep [.v (.string x19.Key), .v (.int .i64 x19.Stamp.N), .v (.int .i64 x19.Stamp.Site)])) rfl) rfl ⟨rfl, trivial⟩ trivial ?_
      obtain ⟨r20, hr20, hF⟩ := bindS hF
      refine G.op1 (op_call (sv := .one (.g (.d (.sl 3 (List.map encApi_Dep r20))))) cf17 (ct_ref04_Add v12.1 x19 r20 hr20) rfl (EvL.cons (Ev.t 21 (.g (.d (.sl 3 (List.map encApi_Dep v12.1))))) (EvL.cons (Ev.t 28 (.g (.agg [.v (.string x19.Key), .v (.int .i64 x19.Stamp.N), .v (.int .i64 x19.Stamp.Site)]))) EvL.nil)) rfl) rfl ⟨rfl, rfl, trivial⟩ trivial ?_
      refine G.op1 (op_assign (Ev.t 29 (.g (.d (.sl 3 (List.map encApi_Dep r20))))) rfl) rfl ⟨rfl, trivial⟩ trivial ?_
      refine G.endOps ?_
      refine G.endBlock ?_
      refine G.region ?_
      refine G.op1 (op_move (Ev.t 5 (bI .i64 v12.2)) rfl) rfl ⟨rfl, trivial⟩ trivial ?_
      refine G.op1 (op_add (Ev.t 19 (bI .i64 v12.2)) (Ev.c _ rfl) rfl) rfl ⟨rfl, trivial⟩ trivial ?_
      refine G.op1 (op_assign (Ev.t 20 (bI .i64 (IntKind.wrap .i64 (v12.2 + 1)))) rfl) rfl ⟨rfl, trivial⟩ trivial ?_
      refine G.endOps ?_
      exact G.arr (J13 (r20, IntKind.wrap .i64 (v12.2 + 1)) hF) ⟨rfl, rfl, rfl, rfl, trivial⟩ trivial rfl
    · refine G.cond rfl (fun hx => by rw [hc17] at hx; cases hx) (fun _ => ?_)
      refine G.exit ?_
      refine GX.c ?_
      refine GX.q ?_
      refine GX.bYes ?_
      exact G.arr (J11 v12.1 hF) ⟨rfl, rfl, rfl, trivial⟩ trivial rfl
  · refine G.cond rfl (fun hx => by rw [hc7] at hx; cases hx) (fun _ => ?_)
    refine G.exit ?_
    refine GX.c ?_
    refine GX.q ?_
    refine GX.bYes ?_
    exact G.arr (J2 v3.1 hF) ⟨rfl, trivial⟩ trivial rfl


set_option maxRecDepth 20000 in
set_option maxHeartbeats 2000000 in
theorem ct_keys_Has (r_0 : Api_Range) (key_1 : ByteArray) (r : Bool) (hF : keys_Has r_0 key_1 = some r) : Ct Try.prog 71 [.g (.agg (encApi_Range r_0)), .g (.d (.v (.string key_1)))] (.one (.d (.v (.bool r)))) := by
  unfold keys_Has at hF
  refine Ct.intro Try.func71 rfl Try.ntmps71 rfl rfl fun M w => ?_
  refine G.seq ?_
  refine G.region ?_
  refine G.op2 (op_boxA (k := 1002) (Ev.t 0 (.g (.agg [.v (.string r_0.From), .v (.string r_0.To)]))) rfl) rfl ⟨rfl, trivial⟩ ⟨rfl, trivial⟩ ?_
  refine G.op1 (op_assign (Ev.c _ rfl) rfl) rfl trivial trivial ?_
  refine G.endOps ?_
  refine G.seq ?_
  refine G.region ?_
  refine G.op1 (op_move (Ev.t 1 (bS key_1)) rfl) rfl ⟨rfl, trivial⟩ trivial ?_
  refine G.op1 (op_fieldP (off' := 0) Try.underlying43 rfl ti9 (by decide) rfl (Ev.t 2 (.ptr 1002 0)) rfl) rfl ⟨rfl, trivial⟩ trivial ?_
  refine G.op1 (op_load1P (c := bS r_0.From) Try.underlying9 rfl rfl (Ev.t 6 (.ptr 1002 0)) rfl) rfl ⟨rfl, trivial⟩ ⟨rfl, trivial⟩ ?_
  refine G.op1 (op_geS (Ev.t 5 (bS key_1)) (Ev.t 7 (bS r_0.From)) rfl) rfl ⟨rfl, rfl, trivial⟩ trivial ?_
  refine G.op1 (op_move (Ev.t 8 (bB (!slt key_1 r_0.From))) rfl) rfl ⟨rfl, trivial⟩ trivial ?_
  refine ifS hF (fun hc1 hF => ?_) (fun hc1 hF => ?_)
  · refine G.known (t := 9) hc1 rfl ?_
    refine G.opG1 (op_fieldP (off' := 1) Try.underlying43 rfl ti9 (by decide) rfl (Ev.t 2 (.ptr 1002 0)) rfl) rfl rfl rfl ⟨rfl, trivial⟩ trivial ?_
    refine G.opG1 (op_load1P (c := bS r_0.To) Try.underlying9 rfl rfl (Ev.t 10 (.ptr 1002 1)) rfl) rfl rfl rfl ⟨rfl, trivial⟩ ⟨rfl, trivial⟩ ?_
    refine G.opG1 (op_eqS (Ev.t 11 (bS r_0.To)) (Ev.c _ rfl) rfl) rfl rfl rfl ⟨rfl, trivial⟩ trivial ?_
    refine G.opG1 (op_move (Ev.t 12 (bB (seq r_0.To ByteArray.empty))) rfl) rfl rfl rfl ⟨rfl, trivial⟩ trivial ?_
    refine ifS hF (fun hc2 hF => ?_) (fun hc2 hF => ?_)
    · refine G.known (t := 13) hc2 rfl ?_
      refine G.opN1 rfl rfl rfl rfl rfl ?_
      refine G.opN1 rfl rfl rfl rfl rfl ?_
      refine G.opN1 rfl rfl rfl rfl rfl ?_
      refine G.opN1 rfl rfl rfl rfl rfl ?_
      refine G.opG1 (op_pickT (Ev.t 13 (bB true)) (Ev.c _ rfl) rfl) rfl rfl rfl ⟨rfl, trivial⟩ trivial ?_
      refine G.op1 (op_pickT (Ev.t 9 (bB true)) (Ev.t 18 (bB true)) rfl) rfl ⟨rfl, rfl, trivial⟩ trivial ?_
      refine G.op1 (op_assign (Ev.t 19 (bB true)) rfl) rfl ⟨rfl, trivial⟩ trivial ?_
      refine G.endOps ?_
      cases hF
      exact G.ret1 Try.results71 (RVar.tmp 4 _) ⟨rfl, trivial⟩ trivial
    · refine G.known (t := 13) hc2 rfl ?_
      refine G.opG1 (op_move (Ev.t 1 (bS key_1)) rfl) rfl rfl rfl ⟨rfl, trivial⟩ trivial ?_
      refine G.opG1 (op_fieldP (off' := 1) Try.underlying43 rfl ti9 (by decide) rfl (Ev.t 2 (.ptr 1002 0)) rfl) rfl rfl rfl ⟨rfl, trivial⟩ trivial ?_
      refine G.opG1 (op_load1P (c := bS r_0.To) Try.underlying9 rfl rfl (Ev.t 15 (.ptr 1002 1)) rfl) rfl rfl rfl ⟨rfl, trivial⟩ ⟨rfl, trivial⟩ ?_
      refine G.opG1 (op_ltS (Ev.t 14 (bS key_1)) (Ev.t 16 (bS r_0.To)) rfl) rfl rfl rfl ⟨rfl, rfl, trivial⟩ trivial ?_
      refine G.opG1 (op_pickF (Ev.t 13 (bB false)) (Ev.t 17 (bB (slt key_1 r_0.To))) rfl) rfl rfl rfl ⟨rfl, rfl, trivial⟩ trivial ?_
      refine G.op1 (op_pickT (Ev.t 9 (bB true)) (Ev.t 18 (bB (slt key_1 r_0.To))) rfl) rfl ⟨rfl, rfl, trivial⟩ trivial ?_
      refine G.op1 (op_assign (Ev.t 19 (bB (slt key_1 r_0.To))) rfl) rfl ⟨rfl, trivial⟩ trivial ?_
      refine G.endOps ?_
      cases hF
      exact G.ret1 Try.results71 (RVar.tmp 4 _) ⟨rfl, trivial⟩ trivial
  · refine G.known (t := 9) hc1 rfl ?_
    refine G.opN1 rfl rfl rfl rfl rfl ?_
    refine G.opN1 rfl rfl rfl rfl rfl ?_
    refine G.opN1 rfl rfl rfl rfl rfl ?_
    refine G.opN1 rfl rfl rfl rfl rfl ?_
    refine G.opU rfl rfl rfl rfl ?_
    refine G.opU rfl rfl rfl rfl ?_
    refine G.opU rfl rfl rfl rfl ?_
    refine G.opU rfl rfl rfl rfl ?_
    refine G.opN1 rfl rfl rfl rfl rfl ?_
    refine G.op1 (op_pickF (Ev.t 9 (bB false)) (Ev.c _ rfl) rfl) rfl ⟨rfl, trivial⟩ trivial ?_
    refine G.op1 (op_assign (Ev.t 19 (bB false)) rfl) rfl ⟨rfl, trivial⟩ trivial ?_
    refine G.endOps ?_
    cases hF
    exact G.ret1 Try.results71 (RVar.tmp 4 _) ⟨rfl, trivial⟩ trivial


set_option maxRecDepth 20000 in
set_option maxHeartbeats 2000000 in
theorem ct_keys_Find_1 (r_0 : Api_Range) (c0 : ByteArray) (r : Bool) (hF : keys_Find_1 r_0 c0 = some r) : Ct Try.prog 70 [.g (.agg (encApi_Range r_0)), .ep [.v (.string c0)]] (.one (.d (.v (.bool r)))) := by
  unfold keys_Find_1 at hF
  refine Ct.intro Try.func70 rfl Try.ntmps70 rfl rfl fun M w => ?_
  refine G.seq ?_
  refine G.region ?_
  refine G.op2 (op_boxA (k := 1002) (Ev.t 0 (.g (.agg [.v (.string r_0.From), .v (.string r_0.To)]))) rfl) rfl ⟨rfl, trivial⟩ ⟨rfl, trivial⟩ ?_
  refine G.op1 (op_assign (Ev.c _ rfl) rfl) rfl trivial trivial ?_
  refine G.endOps ?_
  refine G.seq ?_
  refine G.region ?_
  refine G.op1 (op_loadAP (ds := [.v (.string r_0.From), .v (.string r_0.To)]) Try.underlying43 rfl ti43 rfl (Ev.t 2 (.ptr 1002 0)) rfl) rfl ⟨rfl, trivial⟩ ⟨rfl, trivial⟩ ?_
  refine G.op1 (op_load1E (c := .v (.string c0)) Try.underlying9 rfl rfl (Ev.t 1 (.ep [.v (.string c0)])) rfl) rfl ⟨rfl, trivial⟩ trivial ?_
  obtain ⟨r1, hr1, hF⟩ := bindS hF
  refine G.op1 (op_callQ (sv := .one (bB r1)) cf71 (ct_keys_Has r_0 c0 r1 hr1) rfl rfl (EvQL.cons (EvQ.g (Ev.t 4 (.g (.agg [.v (.string r_0.From), .v (.string r_0.To)])))) (EvQL.cons (EvQ.g (Ev.t 5 (bS c0))) EvQL.nil)) rfl) rfl ⟨rfl, rfl, trivial⟩ trivial ?_
  refine G.op1 (op_assign (Ev.t 6 (bB r1)) rfl) rfl ⟨rfl, trivial⟩ trivial ?_
  refine G.endOps ?_
  cases hF
  exact G.ret1 Try.results70 (RVar.tmp 3 _) ⟨rfl, trivial⟩ trivial


set_option maxRecDepth 20000 in
set_option maxHeartbeats 2000000 in
theorem ct_slices_IndexFunc_Range (s_0 : (List Api_Range)) (f_1 : (Api_Range → Option Bool)) (r : Int) (hF : slices_IndexFunc_Range s_0 f_1 = some r) : Ct Try.prog 69 [.g (.d (.sl 2 (List.map encApi_Range s_0))), .sem (sem1 (fun x => .agg (encApi_Range x)) (fun y => .bool y) f_1)] (.one (.d (.v (.int .i64 r)))) := by
  unfold slices_IndexFunc_Range at hF
  refine Ct.intro Try.func69 rfl Try.ntmps69 rfl rfl fun M w => ?_
  refine G.seq ?_
  refine G.region ?_
  refine G.op1 (op_assign (Ev.c _ rfl) rfl) rfl trivial trivial ?_
  refine G.endOps ?_
  refine G.seq ?_
  refine G.seq ?_
  refine G.region ?_
  refine G.op1 (op_move (Ev.t 0 (.g (.d (.sl 2 (List.map encApi_Range s_0))))) rfl) rfl ⟨rfl, trivial⟩ trivial ?_
  refine G.op1 (OpL.cast (op_lenD Try.underlying34 (Ev.t 6 (.g (.d (.sl 2 (List.map encApi_Range s_0))))) rfl) (by rw [List.length_map])) rfl ⟨rfl, trivial⟩ trivial ?_
  refine G.op1 (op_move (Ev.c _ rfl) rfl) rfl trivial trivial ?_
  refine G.endOps ?_
  refine G.joinC (T := Unit) (fun y1 => ⟨[], []⟩) (fun y1 => slices_IndexFunc_Range_k1 y1 = some r) (fun y1 hF => ?_) (fun J2 => ?_)
  · unfold slices_IndexFunc_Range_k1 at hF
    refine G.seq ?_
    refine G.region ?_
    refine G.op1 (op_assign (Ev.c _ rfl) rfl) rfl trivial trivial ?_
    refine G.endOps ?_
    cases hF
    exact G.ret1 Try.results69 (RVar.tmp 4 _) ⟨rfl, trivial⟩ trivial
  refine G.block ?_
  refine G.keep (sl' := [(0, .one (.g (.d (.sl 2 (List.map encApi_Range s_0))))), (1, .one (.sem (sem1 (fun x => .agg (encApi_Range x)) (fun y => .bool y) f_1))), (7, .one (bI .i64 (s_0.length : Int))), (8, .one (bI .i64 0))]) (hp' := []) ⟨rfl, rfl, rfl, rfl, trivial⟩ trivial rfl ?_
  refine G.loopF (fun (v3 : Int) => ⟨[(0, .one (.g (.d (.sl 2 (List.map encApi_Range s_0))))), (1, .one (.sem (sem1 (fun x => .agg (encApi_Range x)) (fun y => .bool y) f_1))), (7, .one (bI .i64 (s_0.length : Int))), (8, .one (bI .i64 v3))], []⟩) hF rfl (fun K6 again5 v3 J4 hF => ?_)
  unfold slices_IndexFunc_Range_l2 at hF
  refine G.seq ?_
  refine G.region ?_
  refine G.op1 (op_lss (Ev.t 8 (bI .i64 v3)) (Ev.t 7 (bI .i64 (s_0.length : Int))) rfl) rfl ⟨rfl, rfl, trivial⟩ trivial ?_
  refine G.endOps ?_
  refine G.seq ?_
  refine ifS hF (fun hc7 hF => ?_) (fun hc7 hF => ?_)
  · refine G.cond rfl (fun _ => ?_) (fun hx => by rw [hc7] at hx; cases hx)
    refine G.skip ?_
    refine G.seq ?_
    refine G.block ?_
    refine G.seq ?_
    refine G.region ?_
    refine G.op1 (op_move (Ev.t 8 (bI .i64 v3)) rfl) rfl ⟨rfl, trivial⟩ trivial ?_
    refine G.op1 (op_assign (Ev.t 10 (bI .i64 v3)) rfl) rfl ⟨rfl, trivial⟩ trivial ?_
    refine G.endOps ?_
    refine G.seq ?_
    refine G.region ?_
    refine G.op1 (op_move (Ev.t 1 (.sem (sem1 (fun x => .agg (encApi_Range x)) (fun y => .bool y) f_1))) rfl) rfl ⟨rfl, trivial⟩ trivial ?_
    refine G.op1 (op_move (Ev.t 0 (.g (.d (.sl 2 (List.map encApi_Range s_0))))) rfl) rfl ⟨rfl, trivial⟩ trivial ?_
    refine G.op1 (op_move (Ev.t 5 (bI .i64 v3)) rfl) rfl ⟨rfl, trivial⟩ trivial ?_
    obtain ⟨x8, hx8, hF⟩ := bindS hF
    refine G.op1 (op_index (cs := [.v (.string x8.From), .v (.string x8.To)]) Try.underlying34 ti43 (idx_ok hx8).1 (idx_get hx8 encApi_Range) (Ev.t 12 (.g (.d (.sl 2 (List.map encApi_Range s_0))))) (Ev.t 13 (bI .i64 v3)) rfl) rfl ⟨rfl, rfl, trivial⟩ trivial ?_
    refine G.op1 (op_loadAE (ds := [.v (.string x8.From), .v (.string x8.To)]) Try.underlying43 rfl ti43 rfl (Ev.t 14 (.ep [.v (.string x8.From), .v (.string x8.To)])) rfl) rfl ⟨rfl, trivial⟩ trivial ?_
    obtain ⟨r9, hr9, hF⟩ := bindS hF
    refine G.op1 (op_callSem (t := 11) (v := .bool r9) (Φ := sem1 (fun x => .agg (encApi_Range x)) (fun y => .bool y) f_1) ⟨x8, r9, rfl, hr9, rfl⟩ rfl (EvL.cons (Ev.t 15 (.g (.agg [.v (.string x8.From), .v (.string x8.To)]))) EvL.nil) rfl) rfl ⟨rfl, rfl, trivial⟩ trivial ?_
    refine G.endOps ?_
    refine ifS hF (fun hc10 hF => ?_) (fun hc10 hF => ?_)
    · refine G.cond rfl (fun _ => ?_) (fun hx => by rw [hc10] at hx; cases hx)
      refine G.seq ?_
      refine G.region ?_
      refine G.op1 (op_move (Ev.t 5 (bI .i64 v3)) rfl) rfl ⟨rfl, trivial⟩ trivial ?_
      refine G.op1 (op_assign (Ev.t 17 (bI .i64 v3)) rfl) rfl ⟨rfl, trivial⟩ trivial ?_
      refine G.endOps ?_
      cases hF
      exact G.ret1 Try.results69 (RVar.tmp 4 _) ⟨rfl, trivial⟩ trivial
    · refine G.cond rfl (fun hx => by rw [hc10] at hx; cases hx) (fun _ => ?_)
      refine G.skip ?_
      refine G.endBlock ?_
      refine G.region ?_
      refine G.op1 (op_add (Ev.t 8 (bI .i64 v3)) (Ev.c _ rfl) rfl) rfl ⟨rfl, trivial⟩ trivial ?_
      refine G.op1 (op_move (Ev.t 18 (bI .i64 (IntKind.wrap .i64 (v3 + 1)))) rfl) rfl ⟨rfl, trivial⟩ trivial ?_
      refine G.endOps ?_
      exact G.arr (J4 (IntKind.wrap .i64 (v3 + 1)) hF) ⟨rfl, rfl, rfl, rfl, trivial⟩ trivial rfl
  · refine G.cond rfl (fun hx => by rw [hc7] at hx; cases hx) (fun _ => ?_)
    refine G.exit ?_
    refine GX.c ?_
    refine GX.q ?_
    refine GX.bYes ?_
    exact G.arr (J2 () hF) trivial trivial rfl


set_option maxRecDepth 20000 in
set_option maxHeartbeats 2000000 in
theorem ct_keys_Find (l_0 : (List Api_Range)) (key_1 : ByteArray) (r : Int) (hF : keys_Find l_0 key_1 = some r) : Ct Try.prog 44 [.g (.d (.sl 2 (List.map encApi_Range l_0))), .g (.d (.v (.string key_1)))] (.one (.d (.v (.int .i64 r)))) := by
  unfold keys_Find at hF
  refine Ct.intro Try.func44 rfl Try.ntmps44 rfl rfl fun M w => ?_
  refine G.seq ?_
  refine G.region ?_
  refine G.op2 (op_box1 (k := 1003) (c := bS key_1) trivial (Ev.t 1 (bS key_1)) rfl) rfl ⟨rfl, trivial⟩ ⟨rfl, trivial⟩ ?_
  refine G.op1 (op_assign (Ev.c _ rfl) rfl) rfl trivial trivial ?_
  refine G.endOps ?_
  refine G.seq ?_
  refine G.region ?_
  refine G.op1 (op_move (Ev.t 0 (.g (.d (.sl 2 (List.map encApi_Range l_0))))) rfl) rfl ⟨rfl, trivial⟩ trivial ?_
  refine G.op1 (op_makeFunc1 (Ev.t 3 (.ptr 1003 0)) rfl) rfl ⟨rfl, trivial⟩ trivial ?_
  obtain ⟨r1, hr1, hF⟩ := bindS hF
  refine G.op1 (op_callQ (sv := .one (bI .i64 r1)) cf69 (ct_slices_IndexFunc_Range l_0 (fun x0 => keys_Find_1 x0 key_1) r1 hr1) rfl rfl (EvQL.cons (EvQ.g (Ev.t 5 (.g (.d (.sl 2 (List.map encApi_Range l_0)))))) (EvQL.cons (EvQ.clo (Φ := sem1 (fun x => .agg (encApi_Range x)) (fun y => .bool y) (fun x0 => keys_Find_1 x0 key_1)) (Ev.t 6 (.clo 70 [1003])) (EvC.cons rfl EvC.nil) cf70 (fun args v ⟨x0, b, h1, h2, h3⟩ => by subst h1 h3; exact ct_keys_Find_1 x0 key_1 b h2)) EvQL.nil)) rfl) rfl ⟨rfl, rfl, trivial⟩ ⟨rfl, trivial⟩ ?_
  refine G.op1 (op_assign (Ev.t 7 (bI .i64 r1)) rfl) rfl ⟨rfl, trivial⟩ trivial ?_
  refine G.endOps ?_
  cases hF
  exact G.ret1 Try.results44 (RVar.tmp 4 _) ⟨rfl, trivial⟩ trivial


set_option maxRecDepth 20000 in
set_option maxHeartbeats 2000000 in
theorem ct_past_Only_1 (d_0 : Api_Dep) (c0 : (List Api_Range)) (r : Bool) (hF : past_Only_1 d_0 c0 = some r) : Ct Try.prog 43 [.g (.agg (encApi_Dep d_0)), .ep [.sl 2 (List.map encApi_Range c0)]] (.one (.d (.v (.bool r)))) := by
  unfold past_Only_1 at hF
  refine Ct.intro Try.func43 rfl Try.ntmps43 rfl rfl fun M w => ?_
  refine G.seq ?_
  refine G.region ?_
  refine G.op2 (op_boxA (k := 1002) (Ev.t 0 (.g (.agg [.v (.string d_0.Key), .v (.int .i64 d_0.Stamp.N), .v (.int .i64 d_0.Stamp.Site)]))) rfl) rfl ⟨rfl, trivial⟩ ⟨rfl, trivial⟩ ?_
  refine G.op1 (op_assign (Ev.c _ rfl) rfl) rfl trivial trivial ?_
  refine G.endOps ?_
  refine G.seq ?_
  refine G.region ?_
  refine G.op1 (op_load1E (c := .sl 2 (List.map encApi_Range c0)) Try.underlying34 rfl rfl (Ev.t 1 (.ep [.sl 2 (List.map encApi_Range c0)])) rfl) rfl ⟨rfl, trivial⟩ trivial ?_
  refine G.op1 (op_fieldP (off' := 0) Try.underlying26 rfl ti9 (by decide) rfl (Ev.t 2 (.ptr 1002 0)) rfl) rfl ⟨rfl, trivial⟩ trivial ?_
  refine G.op1 (op_load1P (c := bS d_0.Key) Try.underlying9 rfl rfl (Ev.t 5 (.ptr 1002 0)) rfl) rfl ⟨rfl, trivial⟩ ⟨rfl, trivial⟩ ?_
  obtain ⟨r1, hr1, hF⟩ := bindS hF
  refine G.op1 (op_callQ (sv := .one (bI .i64 r1)) cf44 (ct_keys_Find c0 d_0.Key r1 hr1) rfl rfl (EvQL.cons (EvQ.g (Ev.t 4 (.g (.d (.sl 2 (List.map encApi_Range c0)))))) (EvQL.cons (EvQ.g (Ev.t 6 (bS d_0.Key))) EvQL.nil)) rfl) rfl ⟨rfl, rfl, trivial⟩ trivial ?_
  refine G.op1 (op_lss (Ev.t 7 (bI .i64 r1)) (Ev.c _ rfl) rfl) rfl ⟨rfl, trivial⟩ trivial ?_
  refine G.op1 (op_assign (Ev.t 8 (bB (decide (r1 < 0)))) rfl) rfl ⟨rfl, trivial⟩ trivial ?_
  refine G.endOps ?_
  cases hF
  exact G.ret1 Try.results43 (RVar.tmp 3 _) ⟨rfl, trivial⟩ trivial


set_option maxRecDepth 20000 in
set_option maxHeartbeats 2000000 in
theorem ct_slices_DeleteFunc_Dep (s_0 : (List Api_Dep)) (del_1 : (Api_Dep → Option Bool)) (r : (List Api_Dep)) (hF : slices_DeleteFunc_Dep s_0 del_1 = some r) : Ct Try.prog 42 [.row 26 3 (List.map encApi_Dep s_0), .sem (sem1 (fun x => .agg (encApi_Dep x)) (fun y => .bool y) del_1)] (.new 26 3 (List.map encApi_Dep r)) := by
  unfold slices_DeleteFunc_Dep at hF
  refine Ct.introRow Try.func42 rfl Try.ntmps42 rfl fun M K w => ?_
  refine G.seq ?_
  refine G.region ?_
  refine G.op1 (op_assign (c := .x (.slice none 0 0)) (Ev.x _) rfl) rfl trivial trivial ?_
  refine G.endOps ?_
  refine G.seq ?_
  refine G.region ?_
  refine G.op1 (op_move (Ev.t 0 (.own 0 (List.map encApi_Dep s_0))) rfl) rfl ⟨rfl, trivial⟩ trivial ?_
  refine G.op1 (op_move (Ev.t 1 (.sem (sem1 (fun x => .agg (encApi_Dep x)) (fun y => .bool y) del_1))) rfl) rfl ⟨rfl, trivial⟩ trivial ?_
  obtain ⟨r1, hr1, hF⟩ := bindS hF
  refine G.op1 (op_callQ (sv := .one (bI .i64 r1)) cf67 (ct_slices_IndexFunc_Dep s_0 del_1 r1 hr1) rfl rfl (EvQL.cons (EvQ.own (Ev.t 8 (.own 0 (List.map encApi_Dep s_0)))) (EvQL.cons (EvQ.sem (Ev.t 9 (.sem (sem1 (fun x => .agg (encApi_Dep x)) (fun y => .bool y) del_1)))) EvQL.nil)) rfl) rfl ⟨rfl, rfl, trivial⟩ ⟨rfl, trivial⟩ ?_
  refine G.op1 (op_assign (Ev.t 10 (bI .i64 r1)) rfl) rfl ⟨rfl, trivial⟩ trivial ?_
  refine G.endOps ?_
  refine G.seq ?_
  refine G.seq ?_
  refine G.region ?_
  refine G.op1 (op_move (Ev.t 5 (bI .i64 r1)) rfl) rfl ⟨rfl, trivial⟩ trivial ?_
  refine G.op1 (op_eqI (Ev.t 11 (bI .i64 r1)) (Ev.c _ rfl) rfl) rfl ⟨rfl, trivial⟩ trivial ?_
  refine G.endOps ?_
  refine ifS hF (fun hc2 hF => ?_) (fun hc2 hF => ?_)
  · refine G.cond rfl (fun _ => ?_) (fun hx => by rw [hc2] at hx; cases hx)
    refine G.seq ?_
    refine G.region ?_
    refine G.op1 (op_move (Ev.t 0 (.own 0 (List.map encApi_Dep s_0))) rfl) rfl ⟨rfl, trivial⟩ trivial ?_
    refine G.op1 (op_assign (Ev.t 13 (.own 0 (List.map encApi_Dep s_0))) rfl) rfl ⟨rfl, trivial⟩ trivial ?_
    refine G.endOps ?_
    cases hF
    exact G.retNew Try.results42 rfl rfl
  · refine G.cond rfl (fun hx => by rw [hc2] at hx; cases hx) (fun _ => ?_)
    refine G.skip ?_
    refine G.seq ?_
    refine G.seq ?_
    refine G.region ?_
    refine G.op1 (op_move (Ev.t 5 (bI .i64 r1)) rfl) rfl ⟨rfl, trivial⟩ trivial ?_
    refine G.op1 (op_add (Ev.t 14 (bI .i64 r1)) (Ev.c _ rfl) rfl) rfl ⟨rfl, trivial⟩ trivial ?_
    refine G.op1 (op_assign (Ev.t 15 (bI .i64 (IntKind.wrap .i64 (r1 + 1)))) rfl) rfl ⟨rfl, trivial⟩ trivial ?_
    refine G.endOps ?_
    refine G.joinC (T := Int × (List Api_Dep)) (fun y3 => ⟨[(0, .one (.own 0 (List.map encApi_Dep y3.2))), (5, .one (bI .i64 y3.1))], [(0, some (.row 26 3 (List.map encApi_Dep y3.2) true))]⟩) (fun y3 => slices_DeleteFunc_Dep_k1 y3 = some r) (fun y3 hF => ?_) (fun J6 => ?_)
    · unfold slices_DeleteFunc_Dep_k1 at hF
      refine G.seq ?_
      refine G.region ?_
      refine G.op1 (op_move (Ev.t 0 (.own 0 (List.map encApi_Dep y3.2))) rfl) rfl ⟨rfl, trivial⟩ trivial ?_
      refine G.op1 (op_move (Ev.t 5 (bI .i64 y3.1)) rfl) rfl ⟨rfl, trivial⟩ trivial ?_
      obtain ⟨l4, hl4, hF⟩ := bindS hF
      refine G.clearRow (zs := [.v (.string ByteArray.empty), .v (.int .i64 0), .v (.int .i64 0)]) Try.underlying22 ti26 ⟨.v _ rfl, .v _ rfl, .v _ rfl, trivial⟩ rfl (zeroes_ok hl4 encApi_Dep).1 (zeroes_ok hl4 encApi_Dep).2.1 (zeroes_ok hl4 encApi_Dep).2.2 (Ev.t 36 (.own 0 (List.map encApi_Dep y3.2))) (Ev.t 37 (bI .i64 y3.1)) rfl ⟨rfl, rfl, trivial⟩ rfl ?_
      refine G.renew (t := 0) rfl rfl (zeroes_len hl4 encApi_Dep) ?_
      refine G.renew (t := 36) rfl rfl (zeroes_len hl4 encApi_Dep) ?_
      refine G.endOps ?_
      refine G.seq ?_
      refine G.region ?_
      refine G.op1 (op_move (Ev.t 0 (.own 0 (List.map encApi_Dep l4))) rfl) rfl ⟨rfl, trivial⟩ trivial ?_
      refine G.op1 (op_move (Ev.t 5 (bI .i64 y3.1)) rfl) rfl ⟨rfl, trivial⟩ trivial ?_
      obtain ⟨l5, hl5, hF⟩ := bindS hF
      refine G.cutRow (sl' := [(5, .one (bI .i64 y3.1)), (37, .one (bI .i64 y3.1)), (40, .one (bI .i64 y3.1))]) Try.underlying22 ti26 (sub_ok0 hl5 encApi_Dep).1 (sub_ok0 hl5 encApi_Dep).2.1 (sub_ok0 hl5 encApi_Dep).2.2 (Ev.t 39 (.own 0 (List.map encApi_Dep l4))) (Ev.t 40 (bI .i64 y3.1)) rfl ⟨rfl, rfl, trivial⟩ rfl ⟨rfl, rfl, rfl, trivial⟩ rfl ?_
      refine G.op1 (op_assign (Ev.t 41 (.own 0 (List.map encApi_Dep l5))) rfl) rfl ⟨rfl, trivial⟩ trivial ?_
      refine G.endOps ?_
      cases hF
      exact G.retNew Try.results42 rfl rfl
    refine G.block ?_
    refine G.keep (sl' := [(0, .one (.own 0 (List.map encApi_Dep s_0))), (1, .one (.sem (sem1 (fun x => .agg (encApi_Dep x)) (fun y => .bool y) del_1))), (5, .one (bI .i64 r1)), (6, .one (bI .i64 (IntKind.wrap .i64 (r1 + 1))))]) (hp' := [(0, some (.row 26 3 (List.map encApi_Dep s_0) true))]) ⟨rfl, rfl, rfl, rfl, trivial⟩ ⟨rfl, trivial⟩ rfl ?_
    refine G.loopF (fun (v7 : Int × Int × (List Api_Dep)) => ⟨[(0, .one (.own 0 (List.map encApi_Dep v7.2.2))), (1, .one (.sem (sem1 (fun x => .agg (encApi_Dep x)) (fun y => .bool y) del_1))), (5, .one (bI .i64 v7.1)), (6, .one (bI .i64 v7.2.1))], [(0, some (.row 26 3 (List.map encApi_Dep v7.2.2) true))]⟩) hF rfl (fun K10 again9 v7 J8 hF => ?_)
    unfold slices_DeleteFunc_Dep_l2 at hF
    refine G.seq ?_
    refine G.seq ?_
    refine G.region ?_
    refine G.op1 (op_move (Ev.t 6 (bI .i64 v7.2.1)) rfl) rfl ⟨rfl, trivial⟩ trivial ?_
    refine G.op1 (op_move (Ev.t 0 (.own 0 (List.map encApi_Dep v7.2.2))) rfl) rfl ⟨rfl, trivial⟩ trivial ?_
    refine G.op1 (OpL.cast (op_lenO Try.underlying22 (Ev.t 17 (.own 0 (List.map encApi_Dep v7.2.2))) rfl) (by rw [List.length_map])) rfl ⟨rfl, trivial⟩ ⟨rfl, trivial⟩ ?_
    refine G.op1 (op_lss (Ev.t 16 (bI .i64 v7.2.1)) (Ev.t 18 (bI .i64 (v7.2.2.length : Int))) rfl) rfl ⟨rfl, rfl, trivial⟩ trivial ?_
    refine G.endOps ?_
    refine ifS hF (fun hc11 hF => ?_) (fun hc11 hF => ?_)
    · refine G.cond rfl (fun _ => ?_) (fun hx => by rw [hc11] at hx; cases hx)
      refine G.skip ?_
      refine G.seq ?_
      refine G.block ?_
      refine G.seq ?_
      refine G.region ?_
      refine G.op1 (op_move (Ev.t 0 (.own 0 (List.map encApi_Dep v7.2.2))) rfl) rfl ⟨rfl, trivial⟩ trivial ?_
      refine G.op1 (op_move (Ev.t 6 (bI .i64 v7.2.1)) rfl) rfl ⟨rfl, trivial⟩ trivial ?_
      obtain ⟨x12, hx12, hF⟩ := bindS hF
      refine G.loadRow (cs := [.v (.string x12.Key), .v (.int .i64 x12.Stamp.N), .v (.int .i64 x12.Stamp.Site)]) Try.underlying22 Try.underlying26 rfl ti26 (idx_ok hx12).1 (idx_get hx12 encApi_Dep) (Ev.t 22 (.own 0 (List.map encApi_Dep v7.2.2))) (Ev.t 23 (bI .i64 v7.2.1)) rfl rfl ⟨rfl, rfl, trivial⟩ rfl ?_
      refine G.op2 (op_alloc (k := 1007) (cs := [bS ByteArray.empty, bI .i64 0, bI .i64 0]) ti26 ⟨.v _ rfl, .v _ rfl, .v _ rfl, trivial⟩ rfl) rfl trivial ⟨rfl, trivial⟩ ?_
      refine G.op3 (op_storeA (cs' := [bS x12.Key, bI .i64 x12.Stamp.N, bI .i64 x12.Stamp.Site]) ti26 rfl rfl (Ev.t 7 (.ptr 1007 0)) (Ev.t 25 (.g (.agg [.v (.string x12.Key), .v (.int .i64 x12.Stamp.N), .v (.int .i64 x12.Stamp.Site)])))) rfl ⟨rfl, rfl, trivial⟩ ⟨rfl, trivial⟩ ?_
      refine G.endOps ?_
      refine G.seq ?_
      refine G.region ?_
      refine G.op1 (op_move (Ev.t 1 (.sem (sem1 (fun x => .agg (encApi_Dep x)) (fun y => .bool y) del_1))) rfl) rfl ⟨rfl, trivial⟩ trivial ?_
      refine G.op1 (op_loadAP (ds := [.v (.string x12.Key), .v (.int .i64 x12.Stamp.N), .v (.int .i64 x12.Stamp.Site)]) Try.underlying26 rfl ti26 rfl (Ev.t 7 (.ptr 1007 0)) rfl) rfl ⟨rfl, trivial⟩ ⟨rfl, trivial⟩ ?_
      obtain ⟨r13, hr13, hF⟩ := bindS hF
      refine G.op1 (op_callSem (t := 26) (v := .bool r13) (Φ := sem1 (fun x => .agg (encApi_Dep x)) (fun y => .bool y) del_1) ⟨x12, r13, rfl, hr13, rfl⟩ rfl (EvL.cons (Ev.t 27 (.g (.agg [.v (.string x12.Key), .v (.int .i64 x12.Stamp.N), .v (.int .i64 x12.Stamp.Site)]))) EvL.nil) rfl) rfl ⟨rfl, rfl, trivial⟩ trivial ?_
      refine G.op1 (op_not (Ev.t 28 (bB r13)) rfl) rfl ⟨rfl, trivial⟩ trivial ?_
      refine G.endOps ?_
      refine ifS hF (fun hc14 hF => ?_) (fun hc14 hF => ?_)
      · refine G.cond rfl (fun _ => ?_) (fun hx => by rw [hc14] at hx; cases hx)
        refine G.seq ?_
        refine G.region ?_
        refine G.op1 (op_move (Ev.t 0 (.own 0 (List.map encApi_Dep v7.2.2))) rfl) rfl ⟨rfl, trivial⟩ trivial ?_
        refine G.op1 (op_move (Ev.t 5 (bI .i64 v7.1)) rfl) rfl ⟨rfl, trivial⟩ trivial ?_
        refine G.op1 (op_loadAP (ds := [.v (.string x12.Key), .v (.int .i64 x12.Stamp.N), .v (.int .i64 x12.Stamp.Site)]) Try.underlying26 rfl ti26 rfl (Ev.t 7 (.ptr 1007 0)) rfl) rfl ⟨rfl, trivial⟩ ⟨rfl, trivial⟩ ?_
        obtain ⟨l15, hl15, hF⟩ := bindS hF
        refine G.storeRow Try.underlying22 ti26 rfl (sets_ok hl15 encApi_Dep).1 (sets_ok hl15 encApi_Dep).2.1 (sets_ok hl15 encApi_Dep).2.2 (Ev.t 30 (.own 0 (List.map encApi_Dep v7.2.2))) (Ev.t 31 (bI .i64 v7.1)) (Ev.t 32 (.g (.agg [.v (.string x12.Key), .v (.int .i64 x12.Stamp.N), .v (.int .i64 x12.Stamp.Site)]))) (by simp) rfl ⟨rfl, rfl, rfl, trivial⟩ rfl ?_
        refine G.renew (t := 0) rfl rfl (sets_len hl15 encApi_Dep) ?_
        refine G.renew (t := 17) rfl rfl (sets_len hl15 encApi_Dep) ?_
        refine G.renew (t := 22) rfl rfl (sets_len hl15 encApi_Dep) ?_
        refine G.renew (t := 30) rfl rfl (sets_len hl15 encApi_Dep) ?_
        refine G.endOps ?_
        refine G.region ?_
        refine G.op1 (op_move (Ev.t 5 (bI .i64 v7.1)) rfl) rfl ⟨rfl, trivial⟩ trivial ?_
        refine G.op1 (op_add (Ev.t 34 (bI .i64 v7.1)) (Ev.c _ rfl) rfl) rfl ⟨rfl, trivial⟩ trivial ?_
        refine G.op1 (op_assign (Ev.t 35 (bI .i64 (IntKind.wrap .i64 (v7.1 + 1)))) rfl) rfl ⟨rfl, trivial⟩ trivial ?_
        refine G.endOps ?_
        refine G.endBlock ?_
        refine G.region ?_
        refine G.op1 (op_move (Ev.t 6 (bI .i64 v7.2.1)) rfl) rfl ⟨rfl, trivial⟩ trivial ?_
        refine G.op1 (op_add (Ev.t 20 (bI .i64 v7.2.1)) (Ev.c _ rfl) rfl) rfl ⟨rfl, trivial⟩ trivial ?_
        refine G.op1 (op_assign (Ev.t 21 (bI .i64 (IntKind.wrap .i64 (v7.2.1 + 1)))) rfl) rfl ⟨rfl, trivial⟩ trivial ?_
        refine G.endOps ?_
        exact G.arr (J8 (IntKind.wrap .i64 (v7.1 + 1), IntKind.wrap .i64 (v7.2.1 + 1), l15) hF) ⟨rfl, rfl, rfl, rfl, trivial⟩ ⟨rfl, trivial⟩ rfl
      · refine G.cond rfl (fun hx => by rw [hc14] at hx; cases hx) (fun _ => ?_)
        refine G.skip ?_
        refine G.endBlock ?_
        refine G.region ?_
        refine G.op1 (op_move (Ev.t 6 (bI .i64 v7.2.1)) rfl) rfl ⟨rfl, trivial⟩ trivial ?_
        refine G.op1 (op_add (Ev.t 20 (bI .i64 v7.2.1)) (Ev.c _ rfl) rfl) rfl ⟨rfl, trivial⟩ trivial ?_
        refine G.op1 (op_assign (Ev.t 21 (bI .i64 (IntKind.wrap .i64 (v7.2.1 + 1)))) rfl) rfl ⟨rfl, trivial⟩ trivial ?_
        refine G.endOps ?_
        exact G.arr (J8 (v7.1, IntKind.wrap .i64 (v7.2.1 + 1), v7.2.2) hF) ⟨rfl, rfl, rfl, rfl, trivial⟩ ⟨rfl, trivial⟩ rfl
    · refine G.cond rfl (fun hx => by rw [hc11] at hx; cases hx) (fun _ => ?_)
      refine G.exit ?_
      refine GX.c ?_
      refine GX.q ?_
      refine GX.bYes ?_
      exact G.arr (J6 (v7.1, v7.2.2) hF) ⟨rfl, rfl, trivial⟩ ⟨rfl, trivial⟩ rfl


set_option maxRecDepth 20000 in
set_option maxHeartbeats 2000000 in
theorem ct_past_Only (p_0 : (List Api_Dep)) (l_1 : (List Api_Range)) (r : (List Api_Dep)) (hF : past_Only p_0 l_1 = some r) : Ct Try.prog 20 [.g (.d (.sl 3 (List.map encApi_Dep p_0))), .g (.d (.sl 2 (List.map encApi_Range l_1)))] (.new 26 3 (List.map encApi_Dep r)) := by
  unfold past_Only at hF
  refine Ct.intro Try.func20 rfl Try.ntmps20 rfl rfl fun M w => ?_
  refine G.seq ?_
  refine G.region ?_
  refine G.op2 (op_box1 (k := 1003) (c := .g (.d (.sl 2 (List.map encApi_Range l_1)))) trivial (Ev.t 1 (.g (.d (.sl 2 (List.map encApi_Range l_1))))) rfl) rfl ⟨rfl, trivial⟩ ⟨rfl, trivial⟩ ?_
  refine G.op1 (op_assign (c := .x (.slice none 0 0)) (Ev.x _) rfl) rfl trivial trivial ?_
  refine G.endOps ?_
  refine G.seq ?_
  refine G.region ?_
  refine G.op1 (op_move (Ev.t 0 (.g (.d (.sl 3 (List.map encApi_Dep p_0))))) rfl) rfl ⟨rfl, trivial⟩ trivial ?_
  obtain ⟨r1, hr1, hF⟩ := bindS hF
  refine G.op2 (op_callNew (k := 2006) cf33 (ct_slices_Clone_Dep p_0 r1 hr1) (EvL.cons (Ev.t 5 (.g (.d (.sl 3 (List.map encApi_Dep p_0))))) EvL.nil) rfl) rfl ⟨rfl, trivial⟩ ⟨rfl, trivial⟩ ?_
  refine G.op1 (op_makeFunc1 (Ev.t 3 (.ptr 1003 0)) rfl) rfl ⟨rfl, trivial⟩ trivial ?_
  obtain ⟨r2, hr2, hF⟩ := bindS hF
  refine G.callRow (sl' := [(0, .one (.g (.d (.sl 3 (List.map encApi_Dep p_0))))), (1, .one (.g (.d (.sl 2 (List.map encApi_Range l_1))))), (3, .one (.ptr 1003 0)), (4, .one (.x (.slice none 0 0))), (5, .one (.g (.d (.sl 3 (List.map encApi_Dep p_0))))), (7, .one (.clo 43 [1003]))]) cf42 (ct_slices_DeleteFunc_Dep r1 (fun x0 => past_Only_1 x0 l_1) r2 hr2) (Ev.t 6 (.own 2006 (List.map encApi_Dep r1))) (EvX.clo (Φ := sem1 (fun x => .agg (encApi_Dep x)) (fun y => .bool y) (fun x0 => past_Only_1 x0 l_1)) (Ev.t 7 (.clo 43 [1003])) (EvC.cons rfl EvC.nil) cf43 (fun args v ⟨x0, b, h1, h2, h3⟩ => by subst h1 h3; exact ct_past_Only_1 x0 l_1 b h2) EvX.nil) rfl ⟨rfl, rfl, trivial⟩ ⟨rfl, rfl, trivial⟩ ⟨rfl, rfl, rfl, rfl, rfl, rfl, trivial⟩ rfl ?_
  refine G.op1 (op_assign (Ev.t 8 (.own 2006 (List.map encApi_Dep r2))) rfl) rfl ⟨rfl, trivial⟩ trivial ?_
  refine G.endOps ?_
  cases hF
  exact G.retNew Try.results20 rfl rfl


set_option maxRecDepth 20000 in
set_option maxHeartbeats 2000000 in
theorem ct_ref02_Has (r_0 : Api_Range) (key_1 : ByteArray) (r : Bool) (hF : ref02_Has r_0 key_1 = some r) : Ct Try.prog 72 [.g (.agg (encApi_Range r_0)), .g (.d (.v (.string key_1)))] (.one (.d (.v (.bool r)))) := by
  unfold ref02_Has at hF
  refine Ct.intro Try.func72 rfl Try.ntmps72 rfl rfl fun M w => ?_
  refine G.seq ?_
  refine G.region ?_
  refine G.op2 (op_boxA (k := 1002) (Ev.t 0 (.g (.agg [.v (.string r_0.From), .v (.string r_0.To)]))) rfl) rfl ⟨rfl, trivial⟩ ⟨rfl, trivial⟩ ?_
  refine G.op1 (op_assign (Ev.c _ rfl) rfl) rfl trivial trivial ?_
  refine G.endOps ?_
  refine G.seq ?_
  refine G.region ?_
  refine G.op1 (op_move (Ev.t 1 (bS key_1)) rfl) rfl ⟨rfl, trivial⟩ trivial ?_
  refine G.op1 (op_fieldP (off' := 0) Try.underlying43 rfl ti9 (by decide) rfl (Ev.t 2 (.ptr 1002 0)) rfl) rfl ⟨rfl, trivial⟩ trivial ?_
  refine G.op1 (op_load1P (c := bS r_0.From) Try.underlying9 rfl rfl (Ev.t 6 (.ptr 1002 0)) rfl) rfl ⟨rfl, trivial⟩ ⟨rfl, trivial⟩ ?_
  refine G.op1 (op_geS (Ev.t 5 (bS key_1)) (Ev.t 7 (bS r_0.From)) rfl) rfl ⟨rfl, rfl, trivial⟩ trivial ?_
  refine G.op1 (op_move (Ev.t 8 (bB (!slt key_1 r_0.From))) rfl) rfl ⟨rfl, trivial⟩ trivial ?_
  refine ifS hF (fun hc1 hF => ?_) (fun hc1 hF => ?_)
  · refine G.known (t := 9) hc1 rfl ?_
    refine G.opG1 (op_fieldP (off' := 1) Try.underlying43 rfl ti9 (by decide) rfl (Ev.t 2 (.ptr 1002 0)) rfl) rfl rfl rfl ⟨rfl, trivial⟩ trivial ?_
    refine G.opG1 (op_load1P (c := bS r_0.To) Try.underlying9 rfl rfl (Ev.t 10 (.ptr 1002 1)) rfl) rfl rfl rfl ⟨rfl, trivial⟩ ⟨rfl, trivial⟩ ?_
    refine G.opG1 (op_eqS (Ev.t 11 (bS r_0.To)) (Ev.c _ rfl) rfl) rfl rfl rfl ⟨rfl, trivial⟩ trivial ?_
    refine G.opG1 (op_move (Ev.t 12 (bB (seq r_0.To ByteArray.empty))) rfl) rfl rfl rfl ⟨rfl, trivial⟩ trivial ?_
    refine ifS hF (fun hc2 hF => ?_) (fun hc2 hF => ?_)
    · refine G.known (t := 13) hc2 rfl ?_
      refine G.opN1 rfl rfl rfl rfl rfl ?_
      refine G.opN1 rfl rfl rfl rfl rfl ?_
      refine G.opN1 rfl rfl rfl rfl rfl ?_
      refine G.opN1 rfl rfl rfl rfl rfl ?_
      refine G.opG1 (op_pickT (Ev.t 13 (bB true)) (Ev.c _ rfl) rfl) rfl rfl rfl ⟨rfl, trivial⟩ trivial ?_
      refine G.op1 (op_pickT (Ev.t 9 (bB true)) (Ev.t 18 (bB true)) rfl) rfl ⟨rfl, rfl, trivial⟩ trivial ?_
      refine G.op1 (op_assign (Ev.t 19 (bB true)) rfl) rfl ⟨rfl, trivial⟩ trivial ?_
      refine G.endOps ?_
      cases hF
      exact G.ret1 Try.results72 (RVar.tmp 4 _) ⟨rfl, trivial⟩ trivial
    · refine G.known (t := 13) hc2 rfl ?_
      refine G.opG1 (op_move (Ev.t 1 (bS key_1)) rfl) rfl rfl rfl ⟨rfl, trivial⟩ trivial ?_
      refine G.opG1 (op_fieldP (off' := 1) Try.underlying43 rfl ti9 (by decide) rfl (Ev.t 2 (.ptr 1002 0)) rfl) rfl rfl rfl ⟨rfl, trivial⟩ trivial ?_
      refine G.opG1 (op_load1P (c := bS r_0.To) Try.underlying9 rfl rfl (Ev.t 15 (.ptr 1002 1)) rfl) rfl rfl rfl ⟨rfl, trivial⟩ ⟨rfl, trivial⟩ ?_
      refine G.opG1 (op_ltS (Ev.t 14 (bS key_1)) (Ev.t 16 (bS r_0.To)) rfl) rfl rfl rfl ⟨rfl, rfl, trivial⟩ trivial ?_
      refine G.opG1 (op_pickF (Ev.t 13 (bB false)) (Ev.t 17 (bB (slt key_1 r_0.To))) rfl) rfl rfl rfl ⟨rfl, rfl, trivial⟩ trivial ?_
      refine G.op1 (op_pickT (Ev.t 9 (bB true)) (Ev.t 18 (bB (slt key_1 r_0.To))) rfl) rfl ⟨rfl, rfl, trivial⟩ trivial ?_
      refine G.op1 (op_assign (Ev.t 19 (bB (slt key_1 r_0.To))) rfl) rfl ⟨rfl, trivial⟩ trivial ?_
      refine G.endOps ?_
      cases hF
      exact G.ret1 Try.results72 (RVar.tmp 4 _) ⟨rfl, trivial⟩ trivial
  · refine G.known (t := 9) hc1 rfl ?_
    refine G.opN1 rfl rfl rfl rfl rfl ?_
    refine G.opN1 rfl rfl rfl rfl rfl ?_
    refine G.opN1 rfl rfl rfl rfl rfl ?_
    refine G.opN1 rfl rfl rfl rfl rfl ?_
    refine G.opU rfl rfl rfl rfl ?_
    refine G.opU rfl rfl rfl rfl ?_
    refine G.opU rfl rfl rfl rfl ?_
    refine G.opU rfl rfl rfl rfl ?_
    refine G.opN1 rfl rfl rfl rfl rfl ?_
    refine G.op1 (op_pickF (Ev.t 9 (bB false)) (Ev.c _ rfl) rfl) rfl ⟨rfl, trivial⟩ trivial ?_
    refine G.op1 (op_assign (Ev.t 19 (bB false)) rfl) rfl ⟨rfl, trivial⟩ trivial ?_
    refine G.endOps ?_
    cases hF
    exact G.ret1 Try.results72 (RVar.tmp 4 _) ⟨rfl, trivial⟩ trivial


set_option maxRecDepth 20000 in
set_option maxHeartbeats 2000000 in
theorem ct_ref02_Find (l_0 : (List Api_Range)) (key_1 : ByteArray) (r : Int) (hF : ref02_Find l_0 key_1 = some r) : Ct Try.prog 45 [.g (.d (.sl 2 (List.map encApi_Range l_0))), .g (.d (.v (.string key_1)))] (.one (.d (.v (.int .i64 r)))) := by
  unfold ref02_Find at hF
  refine Ct.intro Try.func45 rfl Try.ntmps45 rfl rfl fun M w => ?_
  refine G.seq ?_
  refine G.region ?_
  refine G.op1 (op_assign (Ev.c _ rfl) rfl) rfl trivial trivial ?_
  refine G.endOps ?_
  refine G.seq ?_
  refine G.seq ?_
  refine G.region ?_
  refine G.op1 (op_assign (Ev.c _ rfl) rfl) rfl trivial trivial ?_
  refine G.endOps ?_
  refine G.joinC (T := Unit) (fun y1 => ⟨[], []⟩) (fun y1 => ref02_Find_k1 y1 = some r) (fun y1 hF => ?_) (fun J2 => ?_)
  · unfold ref02_Find_k1 at hF
    refine G.seq ?_
    refine G.region ?_
    refine G.op1 (op_assign (Ev.c _ rfl) rfl) rfl trivial trivial ?_
    refine G.endOps ?_
    cases hF
    exact G.ret1 Try.results45 (RVar.tmp 4 _) ⟨rfl, trivial⟩ trivial
  refine G.block ?_
  refine G.keep (sl' := [(0, .one (.g (.d (.sl 2 (List.map encApi_Range l_0))))), (1, .one (bS key_1)), (5, .one (bI .i64 0))]) (hp' := []) ⟨rfl, rfl, rfl, trivial⟩ trivial rfl ?_
  refine G.loopF (fun (v3 : Int) => ⟨[(0, .one (.g (.d (.sl 2 (List.map encApi_Range l_0))))), (1, .one (bS key_1)), (5, .one (bI .i64 v3))], []⟩) hF rfl (fun K6 again5 v3 J4 hF => ?_)
  unfold ref02_Find_l2 at hF
  refine G.seq ?_
  refine G.seq ?_
  refine G.region ?_
  refine G.op1 (op_move (Ev.t 5 (bI .i64 v3)) rfl) rfl ⟨rfl, trivial⟩ trivial ?_
  refine G.op1 (op_move (Ev.t 0 (.g (.d (.sl 2 (List.map encApi_Range l_0))))) rfl) rfl ⟨rfl, trivial⟩ trivial ?_
  refine G.op1 (OpL.cast (op_lenD Try.underlying34 (Ev.t 8 (.g (.d (.sl 2 (List.map encApi_Range l_0))))) rfl) (by rw [List.length_map])) rfl ⟨rfl, trivial⟩ trivial ?_
  refine G.op1 (op_lss (Ev.t 7 (bI .i64 v3)) (Ev.t 9 (bI .i64 (l_0.length : Int))) rfl) rfl ⟨rfl, rfl, trivial⟩ trivial ?_
  refine G.endOps ?_
  refine ifS hF (fun hc7 hF => ?_) (fun hc7 hF => ?_)
  · refine G.cond rfl (fun _ => ?_) (fun hx => by rw [hc7] at hx; cases hx)
    refine G.skip ?_
    refine G.seq ?_
    refine G.block ?_
    refine G.seq ?_
    refine G.region ?_
    refine G.op1 (op_move (Ev.t 0 (.g (.d (.sl 2 (List.map encApi_Range l_0))))) rfl) rfl ⟨rfl, trivial⟩ trivial ?_
    refine G.op1 (op_move (Ev.t 5 (bI .i64 v3)) rfl) rfl ⟨rfl, trivial⟩ trivial ?_
    obtain ⟨x8, hx8, hF⟩ := bindS hF
    refine G.op1 (op_index (cs := [.v (.string x8.From), .v (.string x8.To)]) Try.underlying34 ti43 (idx_ok hx8).1 (idx_get hx8 encApi_Range) (Ev.t 13 (.g (.d (.sl 2 (List.map encApi_Range l_0))))) (Ev.t 14 (bI .i64 v3)) rfl) rfl ⟨rfl, rfl, trivial⟩ trivial ?_
    refine G.op1 (op_loadAE (ds := [.v (.string x8.From), .v (.string x8.To)]) Try.underlying43 rfl ti43 rfl (Ev.t 15 (.ep [.v (.string x8.From), .v (.string x8.To)])) rfl) rfl ⟨rfl, trivial⟩ trivial ?_
    refine G.op1 (op_move (Ev.t 1 (bS key_1)) rfl) rfl ⟨rfl, trivial⟩ trivial ?_
    obtain ⟨r9, hr9, hF⟩ := bindS hF
    refine G.op1 (op_callQ (sv := .one (bB r9)) cf72 (ct_ref02_Has x8 key_1 r9 hr9) rfl rfl (EvQL.cons (EvQ.g (Ev.t 16 (.g (.agg [.v (.string x8.From), .v (.string x8.To)])))) (EvQL.cons (EvQ.g (Ev.t 17 (bS key_1))) EvQL.nil)) rfl) rfl ⟨rfl, rfl, trivial⟩ trivial ?_
    refine G.op1 (op_assign (Ev.t 18 (bB r9)) rfl) rfl ⟨rfl, trivial⟩ trivial ?_
    refine G.endOps ?_
    refine G.seq ?_
    refine G.region ?_
    refine G.op1 (op_move (Ev.t 6 (bB r9)) rfl) rfl ⟨rfl, trivial⟩ trivial ?_
    refine G.endOps ?_
    refine ifS hF (fun hc10 hF => ?_) (fun hc10 hF => ?_)
    · refine G.cond rfl (fun _ => ?_) (fun hx => by rw [hc10] at hx; cases hx)
      refine G.seq ?_
      refine G.region ?_
      refine G.op1 (op_move (Ev.t 5 (bI .i64 v3)) rfl) rfl ⟨rfl, trivial⟩ trivial ?_
      refine G.op1 (op_assign (Ev.t 20 (bI .i64 v3)) rfl) rfl ⟨rfl, trivial⟩ trivial ?_
      refine G.endOps ?_
      cases hF
      exact G.ret1 Try.results45 (RVar.tmp 4 _) ⟨rfl, trivial⟩ trivial
    · refine G.cond rfl (fun hx => by rw [hc10] at hx; cases hx) (fun _ => ?_)
      refine G.skip ?_
      refine G.endBlock ?_
      refine G.region ?_
      refine G.op1 (op_move (Ev.t 5 (bI .i64 v3)) rfl) rfl ⟨rfl, trivial⟩ trivial ?_
      refine G.op1 (op_add (Ev.t 11 (bI .i64 v3)) (Ev.c _ rfl) rfl) rfl ⟨rfl, trivial⟩ trivial ?_
      refine G.op1 (op_assign (Ev.t 12 (bI .i64 (IntKind.wrap .i64 (v3 + 1)))) rfl) rfl ⟨rfl, trivial⟩ trivial ?_
      refine G.endOps ?_
      exact G.arr (J4 (IntKind.wrap .i64 (v3 + 1)) hF) ⟨rfl, rfl, rfl, trivial⟩ trivial rfl
  · refine G.cond rfl (fun hx => by rw [hc7] at hx; cases hx) (fun _ => ?_)
    refine G.exit ?_
    refine GX.c ?_
    refine GX.q ?_
    refine GX.bYes ?_
    exact G.arr (J2 () hF) trivial trivial rfl


set_option maxRecDepth 20000 in
set_option maxHeartbeats 2000000 in
theorem ct_ref04_Only (p_0 : (List Api_Dep)) (l_1 : (List Api_Range)) (r : (List Api_Dep)) (hF : ref04_Only p_0 l_1 = some r) : Ct Try.prog 21 [.g (.d (.sl 3 (List.map encApi_Dep p_0))), .g (.d (.sl 2 (List.map encApi_Range l_1)))] (.one (.d (.sl 3 (List.map encApi_Dep r)))) := by
  unfold ref04_Only at hF
  refine Ct.intro Try.func21 rfl Try.ntmps21 rfl rfl fun M w => ?_
  refine G.seq ?_
  refine G.region ?_
  refine G.op1 (op_assign (Ev.n 3) rfl) rfl trivial trivial ?_
  refine G.endOps ?_
  refine G.seq ?_
  refine G.region ?_
  refine G.op2 (op_assignRow (E := 26) (size := 3) (k := 2005) (ex := false) rfl rfl) rfl trivial ⟨rfl, trivial⟩ ?_
  refine G.endOps ?_
  refine G.seq ?_
  refine G.seq ?_
  refine G.region ?_
  refine G.op1 (op_assign (Ev.c _ rfl) rfl) rfl trivial trivial ?_
  refine G.endOps ?_
  refine G.joinC (T := (List Api_Dep)) (fun y1 => ⟨[(5, .one (.own 2005 (List.map encApi_Dep y1)))], [(2005, some (.row 26 3 (List.map encApi_Dep y1) false))]⟩) (fun y1 => ref04_Only_k1 y1 = some r) (fun y1 hF => ?_) (fun J2 => ?_)
  · unfold ref04_Only_k1 at hF
    refine G.seq ?_
    refine G.region ?_
    refine G.op1 (op_move (Ev.t 5 (.own 2005 (List.map encApi_Dep y1))) rfl) rfl ⟨rfl, trivial⟩ trivial ?_
    refine G.op1 (op_assign (Ev.t 28 (.own 2005 (List.map encApi_Dep y1))) rfl) rfl ⟨rfl, trivial⟩ trivial ?_
    refine G.endOps ?_
    refine G.view (t := 4) rfl rfl ?_
    cases hF
    exact G.ret1 Try.results21 (RVar.tmp 4 _) ⟨rfl, trivial⟩ trivial
  refine G.block ?_
  refine G.keep (sl' := [(0, .one (.g (.d (.sl 3 (List.map encApi_Dep p_0))))), (1, .one (.g (.d (.sl 2 (List.map encApi_Range l_1))))), (5, .one (.own 2005 (List.map encApi_Dep ([] : (List Api_Dep))))), (6, .one (bI .i64 0))]) (hp' := [(2005, some (.row 26 3 (List.map encApi_Dep ([] : (List Api_Dep))) false))]) ⟨rfl, rfl, rfl, rfl, trivial⟩ ⟨rfl, trivial⟩ rfl ?_
  refine G.loopF (fun (v3 : Int × (List Api_Dep)) => ⟨[(0, .one (.g (.d (.sl 3 (List.map encApi_Dep p_0))))), (1, .one (.g (.d (.sl 2 (List.map encApi_Range l_1))))), (5, .one (.own 2005 (List.map encApi_Dep v3.2))), (6, .one (bI .i64 v3.1))], [(2005, some (.row 26 3 (List.map encApi_Dep v3.2) false))]⟩) hF rfl (fun K6 again5 v3 J4 hF => ?_)
  unfold ref04_Only_l2 at hF
  refine G.seq ?_
  refine G.seq ?_
  refine G.region ?_
  refine G.op1 (op_move (Ev.t 6 (bI .i64 v3.1)) rfl) rfl ⟨rfl, trivial⟩ trivial ?_
  refine G.op1 (op_move (Ev.t 0 (.g (.d (.sl 3 (List.map encApi_Dep p_0))))) rfl) rfl ⟨rfl, trivial⟩ trivial ?_
  refine G.op1 (OpL.cast (op_lenD Try.underlying22 (Ev.t 8 (.g (.d (.sl 3 (List.map encApi_Dep p_0))))) rfl) (by rw [List.length_map])) rfl ⟨rfl, trivial⟩ trivial ?_
  refine G.op1 (op_lss (Ev.t 7 (bI .i64 v3.1)) (Ev.t 9 (bI .i64 (p_0.length : Int))) rfl) rfl ⟨rfl, rfl, trivial⟩ trivial ?_
  refine G.endOps ?_
  refine ifS hF (fun hc7 hF => ?_) (fun hc7 hF => ?_)
  · refine G.cond rfl (fun _ => ?_) (fun hx => by rw [hc7] at hx; cases hx)
    refine G.skip ?_
    refine G.seq ?_
    refine G.block ?_
    refine G.seq ?_
    refine G.region ?_
    refine G.op1 (op_move (Ev.t 1 (.g (.d (.sl 2 (List.map encApi_Range l_1))))) rfl) rfl ⟨rfl, trivial⟩ trivial ?_
    refine G.op1 (op_move (Ev.t 0 (.g (.d (.sl 3 (List.map encApi_Dep p_0))))) rfl) rfl ⟨rfl, trivial⟩ trivial ?_
    refine G.op1 (op_move (Ev.t 6 (bI .i64 v3.1)) rfl) rfl ⟨rfl, trivial⟩ trivial ?_
    obtain ⟨x8, hx8, hF⟩ := bindS hF
    refine G.op1 (op_index (cs := [.v (.string x8.Key), .v (.int .i64 x8.Stamp.N), .v (.int .i64 x8.Stamp.Site)]) Try.underlying22 ti26 (idx_ok hx8).1 (idx_get hx8 encApi_Dep) (Ev.t 14 (.g (.d (.sl 3 (List.map encApi_Dep p_0))))) (Ev.t 15 (bI .i64 v3.1)) rfl) rfl ⟨rfl, rfl, trivial⟩ trivial ?_
    refine G.op1 (op_fieldE (cs' := [.v (.string x8.Key), .v (.int .i64 x8.Stamp.N), .v (.int .i64 x8.Stamp.Site)]) Try.underlying26 rfl ti9 (by decide) rfl (Ev.t 16 (.ep [.v (.string x8.Key), .v (.int .i64 x8.Stamp.N), .v (.int .i64 x8.Stamp.Site)])) rfl) rfl ⟨rfl, trivial⟩ trivial ?_
    refine G.op1 (op_load1E (c := .v (.string x8.Key)) Try.underlying9 rfl rfl (Ev.t 17 (.ep [.v (.string x8.Key), .v (.int .i64 x8.Stamp.N), .v (.int .i64 x8.Stamp.Site)])) rfl) rfl ⟨rfl, trivial⟩ trivial ?_
    obtain ⟨r9, hr9, hF⟩ := bindS hF
    refine G.op1 (op_callQ (sv := .one (bI .i64 r9)) cf45 (ct_ref02_Find l_1 x8.Key r9 hr9) rfl rfl (EvQL.cons (EvQ.g (Ev.t 13 (.g (.d (.sl 2 (List.map encApi_Range l_1)))))) (EvQL.cons (EvQ.g (Ev.t 18 (bS x8.Key))) EvQL.nil)) rfl) rfl ⟨rfl, rfl, trivial⟩ trivial ?_
    refine G.op1 (op_geq (Ev.t 19 (bI .i64 r9)) (Ev.c _ rfl) rfl) rfl ⟨rfl, trivial⟩ trivial ?_
    refine G.endOps ?_
    refine ifS hF (fun hc10 hF => ?_) (fun hc10 hF => ?_)
    · refine G.cond rfl (fun _ => ?_) (fun hx => by rw [hc10] at hx; cases hx)
      refine G.region ?_
      refine G.op1 (op_move (Ev.t 5 (.own 2005 (List.map encApi_Dep v3.2))) rfl) rfl ⟨rfl, trivial⟩ trivial ?_
      refine G.op1 (op_move (Ev.t 0 (.g (.d (.sl 3 (List.map encApi_Dep p_0))))) rfl) rfl ⟨rfl, trivial⟩ trivial ?_
      refine G.op1 (op_move (Ev.t 6 (bI .i64 v3.1)) rfl) rfl ⟨rfl, trivial⟩ trivial ?_
      obtain ⟨x11, hx11, hF⟩ := bindS hF
      refine G.op1 (op_index (cs := [.v (.string x11.Key), .v (.int .i64 x11.Stamp.N), .v (.int .i64 x11.Stamp.Site)]) Try.underlying22 ti26 (idx_ok hx11).1 (idx_get hx11 encApi_Dep) (Ev.t 22 (.g (.d (.sl 3 (List.map encApi_Dep p_0))))) (Ev.t 23 (bI .i64 v3.1)) rfl) rfl ⟨rfl, rfl, trivial⟩ trivial ?_
      refine G.op1 (op_loadAE (ds := [.v (.string x11.Key), .v (.int .i64 x11.Stamp.N), .v (.int .i64 x11.Stamp.Site)]) Try.underlying26 rfl ti26 rfl (Ev.t 24 (.ep [.v (.string x11.Key), .v (.int .i64 x11.Stamp.N), .v (.int .i64 x11.Stamp.Site)])) rfl) rfl ⟨rfl, trivial⟩ trivial ?_
      refine G.op1 (op_buildSlice (es := List.map encApi_Dep [x11]) Try.underlying22 ti26 rfl rfl (EvP.cons (Ev.t 25 (.g (.agg [.v (.string x11.Key), .v (.int .i64 x11.Stamp.N), .v (.int .i64 x11.Stamp.Site)]))) EvP.nil) rfl rfl (by simp [encApi_Dep]) rfl) rfl ⟨rfl, trivial⟩ trivial ?_
      obtain ⟨l12, hl12, hF⟩ := bindS hF
      refine G.op2 (op_appendO Try.underlying22 ti26 rfl (app_map hl12 encApi_Dep) (app_b1 hl12 encApi_Dep) (app_b2 hl12 encApi_Dep) (Ev.t 21 (.own 2005 (List.map encApi_Dep v3.2))) (Ev.t 26 (.g (.d (.sl 3 (List.map encApi_Dep ([x11])))))) rfl) rfl ⟨rfl, rfl, trivial⟩ ⟨rfl, trivial⟩ ?_
      refine G.op1 (op_assign (Ev.t 27 (.own 2005 (List.map encApi_Dep l12))) rfl) rfl ⟨rfl, trivial⟩ trivial ?_
      refine G.endOps ?_
      refine G.endBlock ?_
      refine G.region ?_
      refine G.op1 (op_move (Ev.t 6 (bI .i64 v3.1)) rfl) rfl ⟨rfl, trivial⟩ trivial ?_
      refine G.op1 (op_add (Ev.t 11 (bI .i64 v3.1)) (Ev.c _ rfl) rfl) rfl ⟨rfl, trivial⟩ trivial ?_
      refine G.op1 (op_assign (Ev.t 12 (bI .i64 (IntKind.wrap .i64 (v3.1 + 1)))) rfl) rfl ⟨rfl, trivial⟩ trivial ?_
      refine G.endOps ?_
      exact G.arr (J4 (IntKind.wrap .i64 (v3.1 + 1), l12) hF) ⟨rfl, rfl, rfl, rfl, trivial⟩ ⟨rfl, trivial⟩ rfl
    · refine G.cond rfl (fun hx => by rw [hc10] at hx; cases hx) (fun _ => ?_)
      refine G.skip ?_
      refine G.endBlock ?_
      refine G.region ?_
      refine G.op1 (op_move (Ev.t 6 (bI .i64 v3.1)) rfl) rfl ⟨rfl, trivial⟩ trivial ?_
      refine G.op1 (op_add (Ev.t 11 (bI .i64 v3.1)) (Ev.c _ rfl) rfl) rfl ⟨rfl, trivial⟩ trivial ?_
      refine G.op1 (op_assign (Ev.t 12 (bI .i64 (IntKind.wrap .i64 (v3.1 + 1)))) rfl) rfl ⟨rfl, trivial⟩ trivial ?_
      refine G.endOps ?_
      exact G.arr (J4 (IntKind.wrap .i64 (v3.1 + 1), v3.2) hF) ⟨rfl, rfl, rfl, rfl, trivial⟩ ⟨rfl, trivial⟩ rfl
  · refine G.cond rfl (fun hx => by rw [hc7] at hx; cases hx) (fun _ => ?_)
    refine G.exit ?_
    refine GX.c ?_
    refine GX.q ?_
    refine GX.bYes ?_
    exact G.arr (J2 v3.2 hF) ⟨rfl, trivial⟩ ⟨rfl, trivial⟩ rfl


set_option maxRecDepth 20000 in
set_option maxHeartbeats 2000000 in
theorem ct_ref04_Get (p_0 : (List Api_Dep)) (key_1 : ByteArray) (r : Api_Stamp) (hF : ref04_Get p_0 key_1 = some r) : Ct Try.prog 22 [.g (.d (.sl 3 (List.map encApi_Dep p_0))), .g (.d (.v (.string key_1)))] (.one (.agg (encApi_Stamp r))) := by
  unfold ref04_Get at hF
  refine Ct.intro Try.func22 rfl Try.ntmps22 rfl rfl fun M w => ?_
  refine G.seq ?_
  refine G.region ?_
  refine G.op2 (op_alloc (k := 1004) (cs := [bI .i64 0, bI .i64 0]) ti24 ⟨.v _ rfl, .v _ rfl, trivial⟩ rfl) rfl trivial ⟨rfl, trivial⟩ ?_
  refine G.endOps ?_
  refine G.seq ?_
  refine G.seq ?_
  refine G.region ?_
  refine G.op1 (op_assign (Ev.c _ rfl) rfl) rfl trivial trivial ?_
  refine G.endOps ?_
  refine G.joinC (T := Unit) (fun y1 => ⟨[(4, .one (.ptr 1004 0))], [(1004, some (.blk 24 [bI .i64 0, bI .i64 0]))]⟩) (fun y1 => ref04_Get_k1 y1 = some r) (fun y1 hF => ?_) (fun J2 => ?_)
  · unfold ref04_Get_k1 at hF
    refine G.seq ?_
    refine G.region ?_
    refine G.op1 (op_build (zs := [.v (.int .i64 0), .v (.int .i64 0)]) (ds := [.v (.int .i64 0), .v (.int .i64 0)]) Try.underlying24 ti24 (pl24 _ Try.underlying24) ⟨.v _ rfl, .v _ rfl, trivial⟩ EvP.nil rfl rfl) rfl trivial trivial ?_
    refine G.op3 (op_storeA (cs' := [bI .i64 0, bI .i64 0]) ti24 rfl rfl (Ev.t 4 (.ptr 1004 0)) (Ev.t 24 (.g (.agg [.v (.int .i64 0), .v (.int .i64 0)])))) rfl ⟨rfl, rfl, trivial⟩ ⟨rfl, trivial⟩ ?_
    refine G.endOps ?_
    cases hF
    exact G.ret1 Try.results22 (RVar.cellA (ds := [.v (.int .i64 0), .v (.int .i64 0)]) Try.underlying24 rfl ti24 rfl) ⟨rfl, trivial⟩ ⟨rfl, trivial⟩
  refine G.block ?_
  refine G.keep (sl' := [(0, .one (.g (.d (.sl 3 (List.map encApi_Dep p_0))))), (1, .one (bS key_1)), (4, .one (.ptr 1004 0)), (5, .one (bI .i64 0))]) (hp' := [(1004, some (.blk 24 [bI .i64 0, bI .i64 0]))]) ⟨rfl, rfl, rfl, rfl, trivial⟩ ⟨rfl, trivial⟩ rfl ?_
  refine G.loopF (fun (v3 : Int) => ⟨[(0, .one (.g (.d (.sl 3 (List.map encApi_Dep p_0))))), (1, .one (bS key_1)), (4, .one (.ptr 1004 0)), (5, .one (bI .i64 v3))], [(1004, some (.blk 24 [bI .i64 0, bI .i64 0]))]⟩) hF rfl (fun K6 again5 v3 J4 hF => ?_)
  unfold ref04_Get_l2 at hF
  refine G.seq ?_
  refine G.seq ?_
  refine G.region ?_
  refine G.op1 (op_move (Ev.t 5 (bI .i64 v3)) rfl) rfl ⟨rfl, trivial⟩ trivial ?_
  refine G.op1 (op_move (Ev.t 0 (.g (.d (.sl 3 (List.map encApi_Dep p_0))))) rfl) rfl ⟨rfl, trivial⟩ trivial ?_
  refine G.op1 (OpL.cast (op_lenD Try.underlying22 (Ev.t 7 (.g (.d (.sl 3 (List.map encApi_Dep p_0))))) rfl) (by rw [List.length_map])) rfl ⟨rfl, trivial⟩ trivial ?_
  refine G.op1 (op_lss (Ev.t 6 (bI .i64 v3)) (Ev.t 8 (bI .i64 (p_0.length : Int))) rfl) rfl ⟨rfl, rfl, trivial⟩ trivial ?_
  refine G.endOps ?_
  refine ifS hF (fun hc7 hF => ?_) (fun hc7 hF => ?_)
  · refine G.cond rfl (fun _ => ?_) (fun hx => by rw [hc7] at hx; cases hx)
    refine G.skip ?_
    refine G.seq ?_
    refine G.block ?_
    refine G.seq ?_
    refine G.region ?_
    refine G.op1 (op_move (Ev.t 0 (.g (.d (.sl 3 (List.map encApi_Dep p_0))))) rfl) rfl ⟨rfl, trivial⟩ trivial ?_
    refine G.op1 (op_move (Ev.t 5 (bI .i64 v3)) rfl) rfl ⟨rfl, trivial⟩ trivial ?_
    obtain ⟨x8, hx8, hF⟩ := bindS hF
    refine G.op1 (op_index (cs := [.v (.string x8.Key), .v (.int .i64 x8.Stamp.N), .v (.int .i64 x8.Stamp.Site)]) Try.underlying22 ti26 (idx_ok hx8).1 (idx_get hx8 encApi_Dep) (Ev.t 12 (.g (.d (.sl 3 (List.map encApi_Dep p_0))))) (Ev.t 13 (bI .i64 v3)) rfl) rfl ⟨rfl, rfl, trivial⟩ trivial ?_
    refine G.op1 (op_fieldE (cs' := [.v (.string x8.Key), .v (.int .i64 x8.Stamp.N), .v (.int .i64 x8.Stamp.Site)]) Try.underlying26 rfl ti9 (by decide) rfl (Ev.t 14 (.ep [.v (.string x8.Key), .v (.int .i64 x8.Stamp.N), .v (.int .i64 x8.Stamp.Site)])) rfl) rfl ⟨rfl, trivial⟩ trivial ?_
    refine G.op1 (op_load1E (c := .v (.string x8.Key)) Try.underlying9 rfl rfl (Ev.t 15 (.ep [.v (.string x8.Key), .v (.int .i64 x8.Stamp.N), .v (.int .i64 x8.Stamp.Site)])) rfl) rfl ⟨rfl, trivial⟩ trivial ?_
    refine G.op1 (op_move (Ev.t 1 (bS key_1)) rfl) rfl ⟨rfl, trivial⟩ trivial ?_
    refine G.op1 (op_eqS (Ev.t 16 (bS x8.Key)) (Ev.t 17 (bS key_1)) rfl) rfl ⟨rfl, rfl, trivial⟩ trivial ?_
    refine G.endOps ?_
    refine ifS hF (fun hc9 hF => ?_) (fun hc9 hF => ?_)
    · refine G.cond rfl (fun _ => ?_) (fun hx => by rw [hc9] at hx; cases hx)
      refine G.seq ?_
      refine G.region ?_
      refine G.op1 (op_move (Ev.t 0 (.g (.d (.sl 3 (List.map encApi_Dep p_0))))) rfl) rfl ⟨rfl, trivial⟩ trivial ?_
      refine G.op1 (op_move (Ev.t 5 (bI .i64 v3)) rfl) rfl ⟨rfl, trivial⟩ trivial ?_
      obtain ⟨x10, hx10, hF⟩ := bindS hF
      refine G.op1 (op_index (cs := [.v (.string x10.Key), .v (.int .i64 x10.Stamp.N), .v (.int .i64 x10.Stamp.Site)]) Try.underlying22 ti26 (idx_ok hx10).1 (idx_get hx10 encApi_Dep) (Ev.t 19 (.g (.d (.sl 3 (List.map encApi_Dep p_0))))) (Ev.t 20 (bI .i64 v3)) rfl) rfl ⟨rfl, rfl, trivial⟩ trivial ?_
      refine G.op1 (op_fieldE (cs' := [.v (.int .i64 x10.Stamp.N), .v (.int .i64 x10.Stamp.Site)]) Try.underlying26 rfl ti24 (by decide) rfl (Ev.t 21 (.ep [.v (.string x10.Key), .v (.int .i64 x10.Stamp.N), .v (.int .i64 x10.Stamp.Site)])) rfl) rfl ⟨rfl, trivial⟩ trivial ?_
      refine G.op1 (op_loadAE (ds := [.v (.int .i64 x10.Stamp.N), .v (.int .i64 x10.Stamp.Site)]) Try.underlying24 rfl ti24 rfl (Ev.t 22 (.ep [.v (.int .i64 x10.Stamp.N), .v (.int .i64 x10.Stamp.Site)])) rfl) rfl ⟨rfl, trivial⟩ trivial ?_
      refine G.op3 (op_storeA (cs' := [bI .i64 x10.Stamp.N, bI .i64 x10.Stamp.Site]) ti24 rfl rfl (Ev.t 4 (.ptr 1004 0)) (Ev.t 23 (.g (.agg [.v (.int .i64 x10.Stamp.N), .v (.int .i64 x10.Stamp.Site)])))) rfl ⟨rfl, rfl, trivial⟩ ⟨rfl, trivial⟩ ?_
      refine G.endOps ?_
      cases hF
      exact G.ret1 Try.results22 (RVar.cellA (ds := [.v (.int .i64 x10.Stamp.N), .v (.int .i64 x10.Stamp.Site)]) Try.underlying24 rfl ti24 rfl) ⟨rfl, trivial⟩ ⟨rfl, trivial⟩
    · refine G.cond rfl (fun hx => by rw [hc9] at hx; cases hx) (fun _ => ?_)
      refine G.skip ?_
      refine G.endBlock ?_
      refine G.region ?_
      refine G.op1 (op_move (Ev.t 5 (bI .i64 v3)) rfl) rfl ⟨rfl, trivial⟩ trivial ?_
      refine G.op1 (op_add (Ev.t 10 (bI .i64 v3)) (Ev.c _ rfl) rfl) rfl ⟨rfl, trivial⟩ trivial ?_
      refine G.op1 (op_assign (Ev.t 11 (bI .i64 (IntKind.wrap .i64 (v3 + 1)))) rfl) rfl ⟨rfl, trivial⟩ trivial ?_
      refine G.endOps ?_
      exact G.arr (J4 (IntKind.wrap .i64 (v3 + 1)) hF) ⟨rfl, rfl, rfl, rfl, trivial⟩ ⟨rfl, trivial⟩ rfl
  · refine G.cond rfl (fun hx => by rw [hc7] at hx; cases hx) (fun _ => ?_)
    refine G.exit ?_
    refine GX.c ?_
    refine GX.q ?_
    refine GX.bYes ?_
    exact G.arr (J2 () hF) ⟨rfl, trivial⟩ ⟨rfl, trivial⟩ rfl


set_option maxRecDepth 20000 in
set_option maxHeartbeats 2000000 in
theorem ct_ref04_Covers (p_0 : (List Api_Dep)) (q_1 : (List Api_Dep)) (r : Bool) (hF : ref04_Covers p_0 q_1 = some r) : Ct Try.prog 23 [.g (.d (.sl 3 (List.map encApi_Dep p_0))), .g (.d (.sl 3 (List.map encApi_Dep q_1)))] (.one (.d (.v (.bool r)))) := by
  unfold ref04_Covers at hF
  refine Ct.intro Try.func23 rfl Try.ntmps23 rfl rfl fun M w => ?_
  refine G.seq ?_
  refine G.region ?_
  refine G.op1 (op_assign (Ev.c _ rfl) rfl) rfl trivial trivial ?_
  refine G.endOps ?_
  refine G.seq ?_
  refine G.seq ?_
  refine G.region ?_
  refine G.op1 (op_assign (Ev.c _ rfl) rfl) rfl trivial trivial ?_
  refine G.endOps ?_
  refine G.joinC (T := Unit) (fun y1 => ⟨[], []⟩) (fun y1 => ref04_Covers_k1 y1 = some r) (fun y1 hF => ?_) (fun J2 => ?_)
  · unfold ref04_Covers_k1 at hF
    refine G.seq ?_
    refine G.region ?_
    refine G.op1 (op_assign (Ev.c _ rfl) rfl) rfl trivial trivial ?_
    refine G.endOps ?_
    cases hF
    exact G.ret1 Try.results23 (RVar.tmp 4 _) ⟨rfl, trivial⟩ trivial
  refine G.block ?_
  refine G.keep (sl' := [(0, .one (.g (.d (.sl 3 (List.map encApi_Dep p_0))))), (1, .one (.g (.d (.sl 3 (List.map encApi_Dep q_1))))), (5, .one (bI .i64 0))]) (hp' := []) ⟨rfl, rfl, rfl, trivial⟩ trivial rfl ?_
  refine G.loopF (fun (v3 : Int) => ⟨[(0, .one (.g (.d (.sl 3 (List.map encApi_Dep p_0))))), (1, .one (.g (.d (.sl 3 (List.map encApi_Dep q_1))))), (5, .one (bI .i64 v3))], []⟩) hF rfl (fun K6 again5 v3 J4 hF => ?_)
  unfold ref04_Covers_l2 at hF
  refine G.seq ?_
  refine G.seq ?_
  refine G.region ?_
  refine G.op1 (op_move (Ev.t 5 (bI .i64 v3)) rfl) rfl ⟨rfl, trivial⟩ trivial ?_
  refine G.op1 (op_move (Ev.t 1 (.g (.d (.sl 3 (List.map encApi_Dep q_1))))) rfl) rfl ⟨rfl, trivial⟩ trivial ?_
  refine G.op1 (OpL.cast (op_lenD Try.underlying22 (Ev.t 8 (.g (.d (.sl 3 (List.map encApi_Dep q_1))))) rfl) (by rw [List.length_map])) rfl ⟨rfl, trivial⟩ trivial ?_
  refine G.op1 (op_lss (Ev.t 7 (bI .i64 v3)) (Ev.t 9 (bI .i64 (q_1.length : Int))) rfl) rfl ⟨rfl, rfl, trivial⟩ trivial ?_
  refine G.endOps ?_
  refine ifS hF (fun hc7 hF => ?_) (fun hc7 hF => ?_)
  · refine G.cond rfl (fun _ => ?_) (fun hx => by rw [hc7] at hx; cases hx)
    refine G.skip ?_
    refine G.seq ?_
    refine G.block ?_
    refine G.seq ?_
    refine G.region ?_
    refine G.op1 (op_move (Ev.t 0 (.g (.d (.sl 3 (List.map encApi_Dep p_0))))) rfl) rfl ⟨rfl, trivial⟩ trivial ?_
    refine G.op1 (op_move (Ev.t 1 (.g (.d (.sl 3 (List.map encApi_Dep q_1))))) rfl) rfl ⟨rfl, trivial⟩ trivial ?_
    refine G.op1 (op_move (Ev.t 5 (bI .i64 v3)) rfl) rfl ⟨rfl, trivial⟩ trivial ?_
    obtain ⟨x8, hx8, hF⟩ := bindS hF
    refine G.op1 (op_index (cs := [.v (.string x8.Key), .v (.int .i64 x8.Stamp.N), .v (.int .i64 x8.Stamp.Site)]) Try.underlying22 ti26 (idx_ok hx8).1 (idx_get hx8 encApi_Dep) (Ev.t 14 (.g (.d (.sl 3 (List.map encApi_Dep q_1))))) (Ev.t 15 (bI .i64 v3)) rfl) rfl ⟨rfl, rfl, trivial⟩ trivial ?_
    refine G.op1 (op_fieldE (cs' := [.v (.string x8.Key), .v (.int .i64 x8.Stamp.N), .v (.int .i64 x8.Stamp.Site)]) Try.underlying26 rfl ti9 (by decide) rfl (Ev.t 16 (.ep [.v (.string x8.Key), .v (.int .i64 x8.Stamp.N), .v (.int .i64 x8.Stamp.Site)])) rfl) rfl ⟨rfl, trivial⟩ trivial ?_
    refine G.op1 (op_load1E (c := .v (.string x8.Key)) Try.underlying9 rfl rfl (Ev.t 17 (.ep [.v (.string x8.Key), .v (.int .i64 x8.Stamp.N), .v (.int .i64 x8.Stamp.Site)])) rfl) rfl ⟨rfl, trivial⟩ trivial ?_
    obtain ⟨r9, hr9, hF⟩ := bindS hF
    refine G.op1 (op_callQ (sv := .one (.g (.agg [.v (.int .i64 r9.N), .v (.int .i64 r9.Site)]))) cf22 (ct_ref04_Get p_0 x8.Key r9 hr9) rfl rfl (EvQL.cons (EvQ.g (Ev.t 13 (.g (.d (.sl 3 (List.map encApi_Dep p_0)))))) (EvQL.cons (EvQ.g (Ev.t 18 (bS x8.Key))) EvQL.nil)) rfl) rfl ⟨rfl, rfl, trivial⟩ trivial ?_
    refine G.op2 (op_alloc (k := 1006) (cs := [bI .i64 0, bI .i64 0]) ti24 ⟨.v _ rfl, .v _ rfl, trivial⟩ rfl) rfl trivial ⟨rfl, trivial⟩ ?_
    refine G.op3 (op_storeA (cs' := [bI .i64 r9.N, bI .i64 r9.Site]) ti24 rfl rfl (Ev.t 6 (.ptr 1006 0)) (Ev.t 19 (.g (.agg [.v (.int .i64 r9.N), .v (.int .i64 r9.Site)])))) rfl ⟨rfl, rfl, trivial⟩ ⟨rfl, trivial⟩ ?_
    refine G.endOps ?_
    refine G.seq ?_
    obtain ⟨x10, hx10, hF⟩ := bindS hF
    obtain ⟨r11, hr11, hF⟩ := bindS hF
    refine G.drawn (effs := [⟨[(6, .one (.ptr 1006 0))], [(1006, some (.blk 24 [bI .i64 r9.N, bI .i64 r9.Site]))], [(20, .one (.g (.agg [.v (.int .i64 r9.N), .v (.int .i64 r9.Site)])))], []⟩, ⟨[(1, .one (.g (.d (.sl 3 (List.map encApi_Dep q_1)))))], [], [(21, .one (.g (.d (.sl 3 (List.map encApi_Dep q_1)))))], []⟩, ⟨[(5, .one (bI .i64 v3))], [], [(22, .one (bI .i64 v3))], []⟩, ⟨[(21, .one (.g (.d (.sl 3 (List.map encApi_Dep q_1))))), (22, .one (bI .i64 v3))], [], [(23, .one (.ep [.v (.string x10.Key), .v (.int .i64 x10.Stamp.N), .v (.int .i64 x10.Stamp.Site)]))], []⟩, ⟨[(23, .one (.ep [.v (.string x10.Key), .v (.int .i64 x10.Stamp.N), .v (.int .i64 x10.Stamp.Site)]))], [], [(24, .one (.ep [.v (.int .i64 x10.Stamp.N), .v (.int .i64 x10.Stamp.Site)]))], []⟩, ⟨[(24, .one (.ep [.v (.int .i64 x10.Stamp.N), .v (.int .i64 x10.Stamp.Site)]))], [], [(25, .one (.g (.agg [.v (.int .i64 x10.Stamp.N), .v (.int .i64 x10.Stamp.Site)])))], []⟩, ⟨[(20, .one (.g (.agg [.v (.int .i64 r9.N), .v (.int .i64 r9.Site)]))), (25, .one (.g (.agg [.v (.int .i64 x10.Stamp.N), .v (.int .i64 x10.Stamp.Site)])))], [], [(26, .one (bB r11))], []⟩]) (deps := [[], [], [], [1, 2], [1, 2, 3], [1, 2, 3, 4], [0, 1, 2, 3, 4, 5]]) (sl' := [(0, .one (.g (.d (.sl 3 (List.map encApi_Dep p_0))))), (1, .one (.g (.d (.sl 3 (List.map encApi_Dep q_1))))), (5, .one (bI .i64 v3)), (26, .one (bB r11))]) (hp' := []) follows rfl rfl rfl ⟨⟨rfl, trivial⟩, ⟨⟨rfl, rfl⟩, trivial⟩, ⟨rfl, trivial⟩, trivial, ⟨rfl, trivial⟩, trivial, ⟨rfl, rfl, trivial⟩, trivial, ⟨rfl, trivial⟩, trivial, ⟨rfl, trivial⟩, trivial, ⟨rfl, rfl, trivial⟩, trivial, trivial⟩ ⟨OpW.plain (op_loadAP (ds := [.v (.int .i64 r9.N), .v (.int .i64 r9.Site)]) Try.underlying24 rfl ti24 rfl (Ev.t 6 (.ptr 1006 0)) rfl) rfl rfl, OpW.plain (op_move (Ev.t 1 (.g (.d (.sl 3 (List.map encApi_Dep q_1))))) rfl) rfl rfl, OpW.plain (op_move (Ev.t 5 (bI .i64 v3)) rfl) rfl rfl, OpW.plain (op_index (cs := [.v (.string x10.Key), .v (.int .i64 x10.Stamp.N), .v (.int .i64 x10.Stamp.Site)]) Try.underlying22 ti26 (idx_ok hx10).1 (idx_get hx10 encApi_Dep) (Ev.t 21 (.g (.d (.sl 3 (List.map encApi_Dep q_1))))) (Ev.t 22 (bI .i64 v3)) rfl) rfl rfl, OpW.plain (op_fieldE (cs' := [.v (.int .i64 x10.Stamp.N), .v (.int .i64 x10.Stamp.Site)]) Try.underlying26 rfl ti24 (by decide) rfl (Ev.t 23 (.ep [.v (.string x10.Key), .v (.int .i64 x10.Stamp.N), .v (.int .i64 x10.Stamp.Site)])) rfl) rfl rfl, OpW.plain (op_loadAE (ds := [.v (.int .i64 x10.Stamp.N), .v (.int .i64 x10.Stamp.Site)]) Try.underlying24 rfl ti24 rfl (Ev.t 24 (.ep [.v (.int .i64 x10.Stamp.N), .v (.int .i64 x10.Stamp.Site)])) rfl) rfl rfl, OpW.plain (op_callQ (sv := .one (bB r11)) cf41 (ct_ref03_Less r9 x10.Stamp r11 hr11) rfl rfl (EvQL.cons (EvQ.g (Ev.t 20 (.g (.agg [.v (.int .i64 r9.N), .v (.int .i64 r9.Site)])))) (EvQL.cons (EvQ.g (Ev.t 25 (.g (.agg [.v (.int .i64 x10.Stamp.N), .v (.int .i64 x10.Stamp.Site)])))) EvQL.nil)) rfl) rfl rfl, trivial⟩ ⟨rfl, rfl, rfl, rfl, trivial⟩ trivial rfl ?_
    refine ifS hF (fun hc12 hF => ?_) (fun hc12 hF => ?_)
    · refine G.cond rfl (fun _ => ?_) (fun hx => by rw [hc12] at hx; cases hx)
      refine G.seq ?_
      refine G.region ?_
      refine G.op1 (op_assign (Ev.c _ rfl) rfl) rfl trivial trivial ?_
      refine G.endOps ?_
      cases hF
      exact G.ret1 Try.results23 (RVar.tmp 4 _) ⟨rfl, trivial⟩ trivial
    · refine G.cond rfl (fun hx => by rw [hc12] at hx; cases hx) (fun _ => ?_)
      refine G.skip ?_
      refine G.endBlock ?_
      refine G.region ?_
      refine G.op1 (op_move (Ev.t 5 (bI .i64 v3)) rfl) rfl ⟨rfl, trivial⟩ trivial ?_
      refine G.op1 (op_add (Ev.t 11 (bI .i64 v3)) (Ev.c _ rfl) rfl) rfl ⟨rfl, trivial⟩ trivial ?_
      refine G.op1 (op_assign (Ev.t 12 (bI .i64 (IntKind.wrap .i64 (v3 + 1)))) rfl) rfl ⟨rfl, trivial⟩ trivial ?_
      refine G.endOps ?_
      exact G.arr (J4 (IntKind.wrap .i64 (v3 + 1)) hF) ⟨rfl, rfl, rfl, trivial⟩ trivial rfl
  · refine G.cond rfl (fun hx => by rw [hc7] at hx; cases hx) (fun _ => ?_)
    refine G.exit ?_
    refine GX.c ?_
    refine GX.q ?_
    refine GX.bYes ?_
    exact G.arr (J2 () hF) trivial trivial rfl


set_option maxRecDepth 20000 in
set_option maxHeartbeats 2000000 in
theorem ct_slices_Equal_Dep (s1_0 : (List Api_Dep)) (s2_1 : (List Api_Dep)) (r : Bool) (hF : slices_Equal_Dep s1_0 s2_1 = some r) : Ct Try.prog 35 [.g (.d (.sl 3 (List.map encApi_Dep s1_0))), .g (.d (.sl 3 (List.map encApi_Dep s2_1)))] (.one (.d (.v (.bool r)))) := by
  unfold slices_Equal_Dep at hF
  refine Ct.intro Try.func35 rfl Try.ntmps35 rfl rfl fun M w => ?_
  refine G.seq ?_
  refine G.region ?_
  refine G.op1 (op_assign (Ev.c _ rfl) rfl) rfl trivial trivial ?_
  refine G.endOps ?_
  refine G.seq ?_
  refine G.seq ?_
  refine G.region ?_
  refine G.op1 (op_move (Ev.t 0 (.g (.d (.sl 3 (List.map encApi_Dep s1_0))))) rfl) rfl ⟨rfl, trivial⟩ trivial ?_
  refine G.op1 (OpL.cast (op_lenD Try.underlying22 (Ev.t 6 (.g (.d (.sl 3 (List.map encApi_Dep s1_0))))) rfl) (by rw [List.length_map])) rfl ⟨rfl, trivial⟩ trivial ?_
  refine G.op1 (op_move (Ev.t 1 (.g (.d (.sl 3 (List.map encApi_Dep s2_1))))) rfl) rfl ⟨rfl, trivial⟩ trivial ?_
  refine G.op1 (OpL.cast (op_lenD Try.underlying22 (Ev.t 8 (.g (.d (.sl 3 (List.map encApi_Dep s2_1))))) rfl) (by rw [List.length_map])) rfl ⟨rfl, trivial⟩ trivial ?_
  refine G.op1 (op_neI (Ev.t 7 (bI .i64 (s1_0.length : Int))) (Ev.t 9 (bI .i64 (s2_1.length : Int))) rfl) rfl ⟨rfl, rfl, trivial⟩ trivial ?_
  refine G.endOps ?_
  refine ifS hF (fun hc1 hF => ?_) (fun hc1 hF => ?_)
  · refine G.cond rfl (fun _ => ?_) (fun hx => by rw [hc1] at hx; cases hx)
    refine G.seq ?_
    refine G.region ?_
    refine G.op1 (op_assign (Ev.c _ rfl) rfl) rfl trivial trivial ?_
    refine G.endOps ?_
    cases hF
    exact G.ret1 Try.results35 (RVar.tmp 4 _) ⟨rfl, trivial⟩ trivial
  · refine G.cond rfl (fun hx => by rw [hc1] at hx; cases hx) (fun _ => ?_)
    refine G.skip ?_
    refine G.seq ?_
    refine G.seq ?_
    refine G.region ?_
    refine G.op1 (op_move (Ev.t 0 (.g (.d (.sl 3 (List.map encApi_Dep s1_0))))) rfl) rfl ⟨rfl, trivial⟩ trivial ?_
    refine G.op1 (OpL.cast (op_lenD Try.underlying22 (Ev.t 11 (.g (.d (.sl 3 (List.map encApi_Dep s1_0))))) rfl) (by rw [List.length_map])) rfl ⟨rfl, trivial⟩ trivial ?_
    refine G.op1 (op_move (Ev.c _ rfl) rfl) rfl trivial trivial ?_
    refine G.endOps ?_
    refine G.joinC (T := Unit) (fun y2 => ⟨[], []⟩) (fun y2 => slices_Equal_Dep_k1 y2 = some r) (fun y2 hF => ?_) (fun J3 => ?_)
    · unfold slices_Equal_Dep_k1 at hF
      refine G.seq ?_
      refine G.region ?_
      refine G.op1 (op_assign (Ev.c _ rfl) rfl) rfl trivial trivial ?_
      refine G.endOps ?_
      cases hF
      exact G.ret1 Try.results35 (RVar.tmp 4 _) ⟨rfl, trivial⟩ trivial
    refine G.block ?_
    refine G.keep (sl' := [(0, .one (.g (.d (.sl 3 (List.map encApi_Dep s1_0))))), (1, .one (.g (.d (.sl 3 (List.map encApi_Dep s2_1))))), (12, .one (bI .i64 (s1_0.length : Int))), (13, .one (bI .i64 0))]) (hp' := []) ⟨rfl, rfl, rfl, rfl, trivial⟩ trivial rfl ?_
    refine G.loopF (fun (v4 : Int) => ⟨[(0, .one (.g (.d (.sl 3 (List.map encApi_Dep s1_0))))), (1, .one (.g (.d (.sl 3 (List.map encApi_Dep s2_1))))), (12, .one (bI .i64 (s1_0.length : Int))), (13, .one (bI .i64 v4))], []⟩) hF rfl (fun K7 again6 v4 J5 hF => ?_)
    unfold slices_Equal_Dep_l2 at hF
    refine G.seq ?_
    refine G.region ?_
    refine G.op1 (op_lss (Ev.t 13 (bI .i64 v4)) (Ev.t 12 (bI .i64 (s1_0.length : Int))) rfl) rfl ⟨rfl, rfl, trivial⟩ trivial ?_
    refine G.endOps ?_
    refine G.seq ?_
    refine ifS hF (fun hc8 hF => ?_) (fun hc8 hF => ?_)
    · refine G.cond rfl (fun _ => ?_) (fun hx => by rw [hc8] at hx; cases hx)
      refine G.skip ?_
      refine G.seq ?_
      refine G.block ?_
      refine G.seq ?_
      refine G.region ?_
      refine G.op1 (op_move (Ev.t 13 (bI .i64 v4)) rfl) rfl ⟨rfl, trivial⟩ trivial ?_
      refine G.op1 (op_assign (Ev.t 15 (bI .i64 v4)) rfl) rfl ⟨rfl, trivial⟩ trivial ?_
      refine G.endOps ?_
      refine G.seq ?_
      obtain ⟨x9, hx9, hF⟩ := bindS hF
      obtain ⟨x10, hx10, hF⟩ := bindS hF
      refine G.drawn (effs := [⟨[(0, .one (.g (.d (.sl 3 (List.map encApi_Dep s1_0)))))], [], [(16, .one (.g (.d (.sl 3 (List.map encApi_Dep s1_0)))))], []⟩, ⟨[(5, .one (bI .i64 v4))], [], [(17, .one (bI .i64 v4))], []⟩, ⟨[(16, .one (.g (.d (.sl 3 (List.map encApi_Dep s1_0))))), (17, .one (bI .i64 v4))], [], [(18, .one (.ep [.v (.string x9.Key), .v (.int .i64 x9.Stamp.N), .v (.int .i64 x9.Stamp.Site)]))], []⟩, ⟨[(18, .one (.ep [.v (.string x9.Key), .v (.int .i64 x9.Stamp.N), .v (.int .i64 x9.Stamp.Site)]))], [], [(19, .one (.g (.agg [.v (.string x9.Key), .v (.int .i64 x9.Stamp.N), .v (.int .i64 x9.Stamp.Site)])))], []⟩, ⟨[(1, .one (.g (.d (.sl 3 (List.map encApi_Dep s2_1)))))], [], [(20, .one (.g (.d (.sl 3 (List.map encApi_Dep s2_1)))))], []⟩, ⟨[(5, .one (bI .i64 v4))], [], [(21, .one (bI .i64 v4))], []⟩, ⟨[(20, .one (.g (.d (.sl 3 (List.map encApi_Dep s2_1))))), (21, .one (bI .i64 v4))], [], [(22, .one (.ep [.v (.string x10.Key), .v (.int .i64 x10.Stamp.N), .v (.int .i64 x10.Stamp.Site)]))], []⟩, ⟨[(22, .one (.ep [.v (.string x10.Key), .v (.int .i64 x10.Stamp.N), .v (.int .i64 x10.Stamp.Site)]))], [], [(23, .one (.g (.agg [.v (.string x10.Key), .v (.int .i64 x10.Stamp.N), .v (.int .i64 x10.Stamp.Site)])))], []⟩, ⟨[(19, .one (.g (.agg [.v (.string x9.Key), .v (.int .i64 x9.Stamp.N), .v (.int .i64 x9.Stamp.Site)]))), (23, .one (.g (.agg [.v (.string x10.Key), .v (.int .i64 x10.Stamp.N), .v (.int .i64 x10.Stamp.Site)])))], [], [(24, .one (bB (!(decide (x9.Key = x10.Key) && decide (x9.Stamp.N = x10.Stamp.N) && decide (x9.Stamp.Site = x10.Stamp.Site)))))], []⟩]) (deps := [[], [], [0, 1], [0, 1, 2], [], [], [4, 5], [4, 5, 6], [0, 1, 2, 3, 4, 5, 6, 7]]) (sl' := [(0, .one (.g (.d (.sl 3 (List.map encApi_Dep s1_0))))), (1, .one (.g (.d (.sl 3 (List.map encApi_Dep s2_1))))), (12, .one (bI .i64 (s1_0.length : Int))), (13, .one (bI .i64 v4)), (24, .one (bB (!(decide (x9.Key = x10.Key) && decide (x9.Stamp.N = x10.Stamp.N) && decide (x9.Stamp.Site = x10.Stamp.Site)))))]) (hp' := []) follows rfl rfl rfl ⟨⟨rfl, trivial⟩, trivial, ⟨rfl, trivial⟩, trivial, ⟨rfl, rfl, trivial⟩, trivial, ⟨rfl, trivial⟩, trivial, ⟨rfl, trivial⟩, trivial, ⟨rfl, trivial⟩, trivial, ⟨rfl, rfl, trivial⟩, trivial, ⟨rfl, trivial⟩, trivial, ⟨rfl, rfl, trivial⟩, trivial, trivial⟩ ⟨OpW.plain (op_move (Ev.t 0 (.g (.d (.sl 3 (List.map encApi_Dep s1_0))))) rfl) rfl rfl, OpW.plain (op_move (Ev.t 5 (bI .i64 v4)) rfl) rfl rfl, OpW.plain (op_index (cs := [.v (.string x9.Key), .v (.int .i64 x9.Stamp.N), .v (.int .i64 x9.Stamp.Site)]) Try.underlying22 ti26 (idx_ok hx9).1 (idx_get hx9 encApi_Dep) (Ev.t 16 (.g (.d (.sl 3 (List.map encApi_Dep s1_0))))) (Ev.t 17 (bI .i64 v4)) rfl) rfl rfl, OpW.plain (op_loadAE (ds := [.v (.string x9.Key), .v (.int .i64 x9.Stamp.N), .v (.int .i64 x9.Stamp.Site)]) Try.underlying26 rfl ti26 rfl (Ev.t 18 (.ep [.v (.string x9.Key), .v (.int .i64 x9.Stamp.N), .v (.int .i64 x9.Stamp.Site)])) rfl) rfl rfl, OpW.plain (op_move (Ev.t 1 (.g (.d (.sl 3 (List.map encApi_Dep s2_1))))) rfl) rfl rfl, OpW.plain (op_move (Ev.t 5 (bI .i64 v4)) rfl) rfl rfl, OpW.plain (op_index (cs := [.v (.string x10.Key), .v (.int .i64 x10.Stamp.N), .v (.int .i64 x10.Stamp.Site)]) Try.underlying22 ti26 (idx_ok hx10).1 (idx_get hx10 encApi_Dep) (Ev.t 20 (.g (.d (.sl 3 (List.map encApi_Dep s2_1))))) (Ev.t 21 (bI .i64 v4)) rfl) rfl rfl, OpW.plain (op_loadAE (ds := [.v (.string x10.Key), .v (.int .i64 x10.Stamp.N), .v (.int .i64 x10.Stamp.Site)]) Try.underlying26 rfl ti26 rfl (Ev.t 22 (.ep [.v (.string x10.Key), .v (.int .i64 x10.Stamp.N), .v (.int .i64 x10.Stamp.Site)])) rfl) rfl rfl, OpW.plain (op_eqA (us := [.string x9.Key, .int .i64 x9.Stamp.N, .int .i64 x9.Stamp.Site]) (vs := [.string x10.Key, .int .i64 x10.Stamp.N, .int .i64 x10.Stamp.Site]) rfl rfl Try.eqGuardType26 (fun w => ne26 x9.Key x9.Stamp.N x9.Stamp.Site x10.Key x10.Stamp.N x10.Stamp.Site w) (Ev.t 19 (.g (.agg [.v (.string x9.Key), .v (.int .i64 x9.Stamp.N), .v (.int .i64 x9.Stamp.Site)]))) (Ev.t 23 (.g (.agg [.v (.string x10.Key), .v (.int .i64 x10.Stamp.N), .v (.int .i64 x10.Stamp.Site)]))) rfl) rfl rfl, trivial⟩ ⟨rfl, rfl, rfl, rfl, rfl, trivial⟩ trivial rfl ?_
      refine ifS hF (fun hc11 hF => ?_) (fun hc11 hF => ?_)
      · refine G.cond rfl (fun _ => ?_) (fun hx => by rw [hc11] at hx; cases hx)
        refine G.seq ?_
        refine G.region ?_
        refine G.op1 (op_assign (Ev.c _ rfl) rfl) rfl trivial trivial ?_
        refine G.endOps ?_
        cases hF
        exact G.ret1 Try.results35 (RVar.tmp 4 _) ⟨rfl, trivial⟩ trivial
      · refine G.cond rfl (fun hx => by rw [hc11] at hx; cases hx) (fun _ => ?_)
        refine G.skip ?_
        refine G.endBlock ?_
        refine G.region ?_
        refine G.op1 (op_add (Ev.t 13 (bI .i64 v4)) (Ev.c _ rfl) rfl) rfl ⟨rfl, trivial⟩ trivial ?_
        refine G.op1 (op_move (Ev.t 25 (bI .i64 (IntKind.wrap .i64 (v4 + 1)))) rfl) rfl ⟨rfl, trivial⟩ trivial ?_
        refine G.endOps ?_
        exact G.arr (J5 (IntKind.wrap .i64 (v4 + 1)) hF) ⟨rfl, rfl, rfl, rfl, trivial⟩ trivial rfl
    · refine G.cond rfl (fun hx => by rw [hc8] at hx; cases hx) (fun _ => ?_)
      refine G.exit ?_
      refine GX.c ?_
      refine GX.q ?_
      refine GX.bYes ?_
      exact G.arr (J3 () hF) trivial trivial rfl


set_option maxRecDepth 20000 in
set_option maxHeartbeats 2000000 in
theorem ct_past_Same (p_0 : (List Api_Dep)) (q_1 : (List Api_Dep)) (r : Bool) (hF : past_Same p_0 q_1 = some r) : Ct Try.prog 14 [.g (.d (.sl 3 (List.map encApi_Dep p_0))), .g (.d (.sl 3 (List.map encApi_Dep q_1)))] (.one (.d (.v (.bool r)))) := by
  unfold past_Same at hF
  refine Ct.intro Try.func14 rfl Try.ntmps14 rfl rfl fun M w => ?_
  refine G.seq ?_
  refine G.region ?_
  refine G.op1 (op_assign (Ev.c _ rfl) rfl) rfl trivial trivial ?_
  refine G.endOps ?_
  refine G.seq ?_
  refine G.region ?_
  refine G.op1 (op_move (Ev.t 0 (.g (.d (.sl 3 (List.map encApi_Dep p_0))))) rfl) rfl ⟨rfl, trivial⟩ trivial ?_
  refine G.op1 (op_move (Ev.t 1 (.g (.d (.sl 3 (List.map encApi_Dep q_1))))) rfl) rfl ⟨rfl, trivial⟩ trivial ?_
  obtain ⟨r1, hr1, hF⟩ := bindS hF
  refine G.op1 (op_callQ (sv := .one (bB r1)) cf35 (ct_slices_Equal_Dep p_0 q_1 r1 hr1) rfl rfl (EvQL.cons (EvQ.g (Ev.t 5 (.g (.d (.sl 3 (List.map encApi_Dep p_0)))))) (EvQL.cons (EvQ.g (Ev.t 6 (.g (.d (.sl 3 (List.map encApi_Dep q_1)))))) EvQL.nil)) rfl) rfl ⟨rfl, rfl, trivial⟩ trivial ?_
  refine G.op1 (op_assign (Ev.t 7 (bB r1)) rfl) rfl ⟨rfl, trivial⟩ trivial ?_
  refine G.endOps ?_
  cases hF
  exact G.ret1 Try.results14 (RVar.tmp 4 _) ⟨rfl, trivial⟩ trivial


set_option maxRecDepth 20000 in
set_option maxHeartbeats 2000000 in
theorem ct_law04_PastTells (l_0 : (List Api_Dep)) (m_1 : (List Api_Dep)) (q_2 : Law04_Ask) (r : Bool) (hF : law04_PastTells l_0 m_1 q_2 = some r) : Ct Try.prog 4 [.g (.d (.sl 3 (List.map encApi_Dep l_0))), .g (.d (.sl 3 (List.map encApi_Dep m_1))), .g (.agg (encLaw04_Ask q_2))] (.one (.d (.v (.bool r)))) := by
  unfold law04_PastTells at hF
  refine Ct.intro Try.func4 rfl Try.ntmps4 rfl rfl fun M w => ?_
  refine G.seq ?_
  refine G.region ?_
  refine G.op2 (op_boxA (k := 1005) (Ev.t 2 (.g (.agg [.v (.string q_2.Dep.Key), .v (.int .i64 q_2.Dep.Stamp.N), .v (.int .i64 q_2.Dep.Stamp.Site), .sl 2 (List.map encApi_Range q_2.Ranges)]))) rfl) rfl ⟨rfl, trivial⟩ ⟨rfl, trivial⟩ ?_
  refine G.op1 (op_assign (Ev.c _ rfl) rfl) rfl trivial trivial ?_
  refine G.endOps ?_
  refine G.seq ?_
  refine G.region ?_
  obtain ⟨r1, hr1, hF⟩ := bindS hF
  refine G.op1 (op_callQ (sv := .one (bB r1)) cf9 (ct_law04_awake r1 hr1) rfl rfl EvQL.nil rfl) rfl trivial trivial ?_
  refine G.op1 (op_assign (Ev.t 13 (bB r1)) rfl) rfl ⟨rfl, trivial⟩ trivial ?_
  refine G.endOps ?_
  refine G.seq ?_
  refine G.region ?_
  refine G.op1 (op_move (Ev.t 0 (.g (.d (.sl 3 (List.map encApi_Dep l_0))))) rfl) rfl ⟨rfl, trivial⟩ trivial ?_
  obtain ⟨r2, hr2, hF⟩ := bindS hF
  refine G.op1 (op_call (sv := .one (.g (.d (.sl 3 (List.map encApi_Dep r2))))) cf10 (ct_law04_made l_0 r2 hr2) rfl (EvL.cons (Ev.t 14 (.g (.d (.sl 3 (List.map encApi_Dep l_0))))) EvL.nil) rfl) rfl ⟨rfl, trivial⟩ trivial ?_
  refine G.op1 (op_assign (Ev.t 15 (.g (.d (.sl 3 (List.map encApi_Dep r2))))) rfl) rfl ⟨rfl, trivial⟩ trivial ?_
  refine G.endOps ?_
  refine G.seq ?_
  refine G.region ?_
  refine G.op1 (op_move (Ev.t 1 (.g (.d (.sl 3 (List.map encApi_Dep m_1))))) rfl) rfl ⟨rfl, trivial⟩ trivial ?_
  obtain ⟨r3, hr3, hF⟩ := bindS hF
  refine G.op1 (op_call (sv := .one (.g (.d (.sl 3 (List.map encApi_Dep r3))))) cf10 (ct_law04_made m_1 r3 hr3) rfl (EvL.cons (Ev.t 16 (.g (.d (.sl 3 (List.map encApi_Dep m_1))))) EvL.nil) rfl) rfl ⟨rfl, trivial⟩ trivial ?_
  refine G.op1 (op_assign (Ev.t 17 (.g (.d (.sl 3 (List.map encApi_Dep r3))))) rfl) rfl ⟨rfl, trivial⟩ trivial ?_
  refine G.endOps ?_
  refine G.seq ?_
  refine G.seq ?_
  refine G.region ?_
  refine G.op1 (op_fieldP (off' := 3) Try.underlying36 rfl ti34 (by decide) rfl (Ev.t 5 (.ptr 1005 0)) rfl) rfl ⟨rfl, trivial⟩ trivial ?_
  refine G.op1 (op_load1P (c := .g (.d (.sl 2 (List.map encApi_Range q_2.Ranges)))) Try.underlying34 rfl rfl (Ev.t 18 (.ptr 1005 3)) rfl) rfl ⟨rfl, trivial⟩ ⟨rfl, trivial⟩ ?_
  refine G.op1 (OpL.cast (op_lenD Try.underlying34 (Ev.t 19 (.g (.d (.sl 2 (List.map encApi_Range q_2.Ranges))))) rfl) (by rw [List.length_map])) rfl ⟨rfl, trivial⟩ trivial ?_
  refine G.op1 (op_gtr (Ev.t 20 (bI .i64 (q_2.Ranges.length : Int))) (Ev.c _ rfl) rfl) rfl ⟨rfl, trivial⟩ trivial ?_
  refine G.endOps ?_
  refine G.joinC (T := (List Api_Range)) (fun y4 => ⟨[(5, .one (.ptr 1005 0)), (7, .one (bB r1)), (8, .one (.g (.d (.sl 3 (List.map encApi_Dep r2))))), (9, .one (.g (.d (.sl 3 (List.map encApi_Dep r3)))))], [(1005, some (.blk 36 [bS q_2.Dep.Key, bI .i64 q_2.Dep.Stamp.N, bI .i64 q_2.Dep.Stamp.Site, .g (.d (.sl 2 (List.map encApi_Range y4)))]))]⟩) (fun y4 => law04_PastTells_k1 q_2 r1 r2 r3 y4 = some r) (fun y4 hF => ?_) (fun J28 => ?_)
  · unfold law04_PastTells_k1 at hF
    refine G.seq ?_
    obtain ⟨r5, hr5, hF⟩ := bindS hF
    obtain ⟨r6, hr6, hF⟩ := bindS hF
    obtain ⟨r7, hr7, hF⟩ := bindS hF
    refine G.drawn (effs := [⟨[(8, .one (.g (.d (.sl 3 (List.map encApi_Dep r2)))))], [], [(26, .one (.g (.d (.sl 3 (List.map encApi_Dep r2)))))], []⟩, ⟨[(5, .one (.ptr 1005 0))], [], [(27, .one (.ptr 1005 0))], []⟩, ⟨[(27, .one (.ptr 1005 0))], [(1005, some (.blk 36 [bS q_2.Dep.Key, bI .i64 q_2.Dep.Stamp.N, bI .i64 q_2.Dep.Stamp.Site, .g (.d (.sl 2 (List.map encApi_Range y4)))]))], [(28, .one (.g (.agg [.v (.string q_2.Dep.Key), .v (.int .i64 q_2.Dep.Stamp.N), .v (.int .i64 q_2.Dep.Stamp.Site)])))], []⟩, ⟨[(26, .one (.g (.d (.sl 3 (List.map encApi_Dep r2))))), (28, .one (.g (.agg [.v (.string q_2.Dep.Key), .v (.int .i64 q_2.Dep.Stamp.N), .v (.int .i64 q_2.Dep.Stamp.Site)])))], [], [(29, .one (.g (.d (.sl 3 (List.map encApi_Dep r5)))))], []⟩, ⟨[(8, .one (.g (.d (.sl 3 (List.map encApi_Dep r2)))))], [], [(30, .one (.g (.d (.sl 3 (List.map encApi_Dep r2)))))], []⟩, ⟨[(5, .one (.ptr 1005 0))], [], [(31, .one (.ptr 1005 0))], []⟩, ⟨[(31, .one (.ptr 1005 0))], [(1005, some (.blk 36 [bS q_2.Dep.Key, bI .i64 q_2.Dep.Stamp.N, bI .i64 q_2.Dep.Stamp.Site, .g (.d (.sl 2 (List.map encApi_Range y4)))]))], [(32, .one (.g (.agg [.v (.string q_2.Dep.Key), .v (.int .i64 q_2.Dep.Stamp.N), .v (.int .i64 q_2.Dep.Stamp.Site)])))], []⟩, ⟨[(30, .one (.g (.d (.sl 3 (List.map encApi_Dep r2))))), (32, .one (.g (.agg [.v (.string q_2.Dep.Key), .v (.int .i64 q_2.Dep.Stamp.N), .v (.int .i64 q_2.Dep.Stamp.Site)])))], [], [(33, .one (.g (.d (.sl 3 (List.map encApi_Dep r6)))))], []⟩, ⟨[(29, .one (.g (.d (.sl 3 (List.map encApi_Dep r5))))), (33, .one (.g (.d (.sl 3 (List.map encApi_Dep r6)))))], [], [(34, .one (bB r7))], []⟩, ⟨[(34, .one (bB r7))], [], [(10, .one (bB r7))], []⟩]) (deps := [[], [], [1], [0, 1, 2], [], [], [5], [0, 1, 2, 3, 4, 5, 6], [0, 1, 2, 3, 4, 5, 6, 7], [0, 1, 2, 3, 4, 5, 6, 7, 8]]) (sl' := [(5, .one (.ptr 1005 0)), (7, .one (bB r1)), (8, .one (.g (.d (.sl 3 (List.map encApi_Dep r2))))), (9, .one (.g (.d (.sl 3 (List.map encApi_Dep r3))))), (10, .one (bB r7))]) (hp' := [(1005, some (.blk 36 [bS q_2.Dep.Key, bI .i64 q_2.Dep.Stamp.N, bI .i64 q_2.Dep.Stamp.Site, .g (.d (.sl 2 (List.map encApi_Range y4)))]))]) follows rfl rfl rfl ⟨⟨rfl, trivial⟩, trivial, ⟨rfl, trivial⟩, trivial, ⟨rfl, trivial⟩, ⟨⟨rfl, rfl⟩, trivial⟩, ⟨rfl, rfl, trivial⟩, trivial, ⟨rfl, trivial⟩, trivial, ⟨rfl, trivial⟩, trivial, ⟨rfl, trivial⟩, ⟨⟨rfl, rfl⟩, trivial⟩, ⟨rfl, rfl, trivial⟩, trivial, ⟨rfl, rfl, trivial⟩, trivial, ⟨rfl, trivial⟩, trivial, trivial⟩ ⟨OpW.plain (op_move (Ev.t 8 (.g (.d (.sl 3 (List.map encApi_Dep r2))))) rfl) rfl rfl, OpW.plain (op_fieldP (off' := 0) Try.underlying36 rfl ti26 (by decide) rfl (Ev.t 5 (.ptr 1005 0)) rfl) rfl rfl, OpW.plain (op_loadAP (ds := [.v (.string q_2.Dep.Key), .v (.int .i64 q_2.Dep.Stamp.N), .v (.int .i64 q_2.Dep.Stamp.Site)]) Try.underlying26 rfl ti26 rfl (Ev.t 27 (.ptr 1005 0)) rfl) rfl rfl, OpW.plain (op_call (sv := .one (.g (.d (.sl 3 (List.map encApi_Dep r5))))) cf11 (ct_past_Add r2 q_2.Dep r5 hr5) rfl (EvL.cons (Ev.t 26 (.g (.d (.sl 3 (List.map encApi_Dep r2))))) (EvL.cons (Ev.t 28 (.g (.agg [.v (.string q_2.Dep.Key), .v (.int .i64 q_2.Dep.Stamp.N), .v (.int .i64 q_2.Dep.Stamp.Site)]))) EvL.nil)) rfl) rfl rfl, OpW.plain (op_move (Ev.t 8 (.g (.d (.sl 3 (List.map encApi_Dep r2))))) rfl) rfl rfl, OpW.plain (op_fieldP (off' := 0) Try.underlying36 rfl ti26 (by decide) rfl (Ev.t 5 (.ptr 1005 0)) rfl) rfl rfl, OpW.plain (op_loadAP (ds := [.v (.string q_2.Dep.Key), .v (.int .i64 q_2.Dep.Stamp.N), .v (.int .i64 q_2.Dep.Stamp.Site)]) Try.underlying26 rfl ti26 rfl (Ev.t 31 (.ptr 1005 0)) rfl) rfl rfl, OpW.plain (op_call (sv := .one (.g (.d (.sl 3 (List.map encApi_Dep r6))))) cf17 (ct_ref04_Add r2 q_2.Dep r6 hr6) rfl (EvL.cons (Ev.t 30 (.g (.d (.sl 3 (List.map encApi_Dep r2))))) (EvL.cons (Ev.t 32 (.g (.agg [.v (.string q_2.Dep.Key), .v (.int .i64 q_2.Dep.Stamp.N), .v (.int .i64 q_2.Dep.Stamp.Site)]))) EvL.nil)) rfl) rfl rfl, OpW.plain (op_callQ (sv := .one (bB r7)) cf16 (ct_ref04_Same r5 r6 r7 hr7) rfl rfl (EvQL.cons (EvQ.g (Ev.t 29 (.g (.d (.sl 3 (List.map encApi_Dep r5)))))) (EvQL.cons (EvQ.g (Ev.t 33 (.g (.d (.sl 3 (List.map encApi_Dep r6)))))) EvQL.nil)) rfl) rfl rfl, OpW.plain (op_assign (Ev.t 34 (bB r7)) rfl) rfl rfl, trivial⟩ ⟨rfl, rfl, rfl, rfl, rfl, trivial⟩ ⟨rfl, trivial⟩ rfl ?_
    refine G.seq ?_
    refine G.region ?_
    refine G.op1 (op_move (Ev.t 8 (.g (.d (.sl 3 (List.map encApi_Dep r2))))) rfl) rfl ⟨rfl, trivial⟩ trivial ?_
    refine G.op1 (op_move (Ev.t 9 (.g (.d (.sl 3 (List.map encApi_Dep r3))))) rfl) rfl ⟨rfl, trivial⟩ trivial ?_
    refine G.op1 (op_move (Ev.t 8 (.g (.d (.sl 3 (List.map encApi_Dep r2))))) rfl) rfl ⟨rfl, trivial⟩ trivial ?_
    refine G.op1 (op_buildSlice (es := List.map encL_encApi_Dep [r2, r3, r2]) Try.underlying39 ti22 rfl rfl (EvP.cons (Ev.t 35 (.g (.d (.sl 3 (List.map encApi_Dep r2))))) (EvP.cons (Ev.t 36 (.g (.d (.sl 3 (List.map encApi_Dep r3))))) (EvP.cons (Ev.t 37 (.g (.d (.sl 3 (List.map encApi_Dep r2))))) EvP.nil))) rfl rfl (by simp [encL_encApi_Dep]) rfl) rfl ⟨rfl, rfl, rfl, trivial⟩ trivial ?_
    obtain ⟨r8, hr8, hF⟩ := bindS hF
    refine G.op1 (op_call (sv := .one (.g (.d (.sl 3 (List.map encApi_Dep r8))))) cf18 (ct_past_Merge ([r2, r3, r2]) r8 hr8) rfl (EvL.cons (Ev.t 38 (.g (.d (.sl 1 (List.map encL_encApi_Dep ([r2, r3, r2])))))) EvL.nil) rfl) rfl ⟨rfl, trivial⟩ trivial ?_
    refine G.op1 (op_move (Ev.t 8 (.g (.d (.sl 3 (List.map encApi_Dep r2))))) rfl) rfl ⟨rfl, trivial⟩ trivial ?_
    refine G.op1 (op_move (Ev.t 9 (.g (.d (.sl 3 (List.map encApi_Dep r3))))) rfl) rfl ⟨rfl, trivial⟩ trivial ?_
    refine G.op1 (op_buildSlice (es := List.map encL_encApi_Dep [r2, r3]) Try.underlying39 ti22 rfl rfl (EvP.cons (Ev.t 40 (.g (.d (.sl 3 (List.map encApi_Dep r2))))) (EvP.cons (Ev.t 41 (.g (.d (.sl 3 (List.map encApi_Dep r3))))) EvP.nil)) rfl rfl (by simp [encL_encApi_Dep]) rfl) rfl ⟨rfl, rfl, trivial⟩ trivial ?_
    obtain ⟨r9, hr9, hF⟩ := bindS hF
    refine G.op1 (op_call (sv := .one (.g (.d (.sl 3 (List.map encApi_Dep r9))))) cf19 (ct_ref04_Merge ([r2, r3]) r9 hr9) rfl (EvL.cons (Ev.t 42 (.g (.d (.sl 1 (List.map encL_encApi_Dep ([r2, r3])))))) EvL.nil) rfl) rfl ⟨rfl, trivial⟩ trivial ?_
    obtain ⟨r10, hr10, hF⟩ := bindS hF
    refine G.op1 (op_callQ (sv := .one (bB r10)) cf16 (ct_ref04_Same r8 r9 r10 hr10) rfl rfl (EvQL.cons (EvQ.g (Ev.t 39 (.g (.d (.sl 3 (List.map encApi_Dep r8)))))) (EvQL.cons (EvQ.g (Ev.t 43 (.g (.d (.sl 3 (List.map encApi_Dep r9)))))) EvQL.nil)) rfl) rfl ⟨rfl, rfl, trivial⟩ trivial ?_
    refine G.op1 (op_assign (Ev.t 44 (bB r10)) rfl) rfl ⟨rfl, trivial⟩ trivial ?_
    refine G.endOps ?_
    refine G.seq ?_
    obtain ⟨r11, hr11, hF⟩ := bindS hF
    obtain ⟨r12, hr12, hF⟩ := bindS hF
    obtain ⟨r13, hr13, hF⟩ := bindS hF
    refine G.drawn (effs := [⟨[(8, .one (.g (.d (.sl 3 (List.map encApi_Dep r2)))))], [], [(45, .one (.g (.d (.sl 3 (List.map encApi_Dep r2)))))], []⟩, ⟨[(5, .one (.ptr 1005 0))], [], [(46, .one (.ptr 1005 3))], []⟩, ⟨[(46, .one (.ptr 1005 3))], [(1005, some (.blk 36 [bS q_2.Dep.Key, bI .i64 q_2.Dep.Stamp.N, bI .i64 q_2.Dep.Stamp.Site, .g (.d (.sl 2 (List.map encApi_Range y4)))]))], [(47, .one (.g (.d (.sl 2 (List.map encApi_Range y4)))))], []⟩, ⟨[(45, .one (.g (.d (.sl 3 (List.map encApi_Dep r2))))), (47, .one (.g (.d (.sl 2 (List.map encApi_Range y4)))))], [(2048, none)], [(48, .one (.own 2048 (List.map encApi_Dep r11)))], [(2048, some (.row 26 3 (List.map encApi_Dep r11) true))]⟩, ⟨[(8, .one (.g (.d (.sl 3 (List.map encApi_Dep r2)))))], [], [(49, .one (.g (.d (.sl 3 (List.map encApi_Dep r2)))))], []⟩, ⟨[(5, .one (.ptr 1005 0))], [], [(50, .one (.ptr 1005 3))], []⟩, ⟨[(50, .one (.ptr 1005 3))], [(1005, some (.blk 36 [bS q_2.Dep.Key, bI .i64 q_2.Dep.Stamp.N, bI .i64 q_2.Dep.Stamp.Site, .g (.d (.sl 2 (List.map encApi_Range y4)))]))], [(51, .one (.g (.d (.sl 2 (List.map encApi_Range y4)))))], []⟩, ⟨[(49, .one (.g (.d (.sl 3 (List.map encApi_Dep r2))))), (51, .one (.g (.d (.sl 2 (List.map encApi_Range y4)))))], [], [(52, .one (.g (.d (.sl 3 (List.map encApi_Dep r12)))))], []⟩, ⟨[(48, .one (.own 2048 (List.map encApi_Dep r11))), (52, .one (.g (.d (.sl 3 (List.map encApi_Dep r12)))))], [(2048, some (.row 26 3 (List.map encApi_Dep r11) true))], [(53, .one (bB r13))], []⟩, ⟨[(53, .one (bB r13))], [], [(12, .one (bB r13))], []⟩]) (deps := [[], [], [1], [0, 1, 2], [], [], [5], [0, 1, 2, 3, 4, 5, 6], [0, 1, 2, 3, 4, 5, 6, 7], [0, 1, 2, 3, 4, 5, 6, 7, 8]]) (sl' := [(5, .one (.ptr 1005 0)), (7, .one (bB r1)), (8, .one (.g (.d (.sl 3 (List.map encApi_Dep r2))))), (9, .one (.g (.d (.sl 3 (List.map encApi_Dep r3))))), (10, .one (bB r7)), (11, .one (bB r10)), (12, .one (bB r13))]) (hp' := [(1005, some (.blk 36 [bS q_2.Dep.Key, bI .i64 q_2.Dep.Stamp.N, bI .i64 q_2.Dep.Stamp.Site, .g (.d (.sl 2 (List.map encApi_Range y4)))]))]) follows rfl rfl rfl ⟨⟨rfl, trivial⟩, trivial, ⟨rfl, trivial⟩, trivial, ⟨rfl, trivial⟩, ⟨⟨rfl, rfl⟩, trivial⟩, ⟨rfl, rfl, trivial⟩, ⟨⟨rfl, rfl⟩, trivial⟩, ⟨rfl, trivial⟩, trivial, ⟨rfl, trivial⟩, trivial, ⟨rfl, trivial⟩, ⟨⟨rfl, rfl⟩, trivial⟩, ⟨rfl, rfl, trivial⟩, trivial, ⟨rfl, rfl, trivial⟩, ⟨⟨rfl, rfl⟩, trivial⟩, ⟨rfl, trivial⟩, trivial, trivial⟩ ⟨OpW.plain (op_move (Ev.t 8 (.g (.d (.sl 3 (List.map encApi_Dep r2))))) rfl) rfl rfl, OpW.plain (op_fieldP (off' := 3) Try.underlying36 rfl ti34 (by decide) rfl (Ev.t 5 (.ptr 1005 0)) rfl) rfl rfl, OpW.plain (op_load1P (c := .g (.d (.sl 2 (List.map encApi_Range y4)))) Try.underlying34 rfl rfl (Ev.t 46 (.ptr 1005 3)) rfl) rfl rfl, OpW.plain (op_callNew (k := 2048) cf20 (ct_past_Only r2 y4 r11 hr11) (EvL.cons (Ev.t 45 (.g (.d (.sl 3 (List.map encApi_Dep r2))))) (EvL.cons (Ev.t 47 (.g (.d (.sl 2 (List.map encApi_Range y4))))) EvL.nil)) rfl) rfl rfl, OpW.plain (op_move (Ev.t 8 (.g (.d (.sl 3 (List.map encApi_Dep r2))))) rfl) rfl rfl, OpW.plain (op_fieldP (off' := 3) Try.underlying36 rfl ti34 (by decide) rfl (Ev.t 5 (.ptr 1005 0)) rfl) rfl rfl, OpW.plain (op_load1P (c := .g (.d (.sl 2 (List.map encApi_Range y4)))) Try.underlying34 rfl rfl (Ev.t 50 (.ptr 1005 3)) rfl) rfl rfl, OpW.plain (op_call (sv := .one (.g (.d (.sl 3 (List.map encApi_Dep r12))))) cf21 (ct_ref04_Only r2 y4 r12 hr12) rfl (EvL.cons (Ev.t 49 (.g (.d (.sl 3 (List.map encApi_Dep r2))))) (EvL.cons (Ev.t 51 (.g (.d (.sl 2 (List.map encApi_Range y4))))) EvL.nil)) rfl) rfl rfl, OpW.plain (op_callQ (sv := .one (bB r13)) cf16 (ct_ref04_Same r11 r12 r13 hr13) rfl rfl (EvQL.cons (EvQ.own (Ev.t 48 (.own 2048 (List.map encApi_Dep r11)))) (EvQL.cons (EvQ.g (Ev.t 52 (.g (.d (.sl 3 (List.map encApi_Dep r12)))))) EvQL.nil)) rfl) rfl rfl, OpW.plain (op_assign (Ev.t 53 (bB r13)) rfl) rfl rfl, trivial⟩ ⟨rfl, rfl, rfl, rfl, rfl, rfl, rfl, trivial⟩ ⟨rfl, trivial⟩ rfl ?_
    refine G.seq ?_
    refine ifS hF (fun hc14 hF => ?_) (fun hc14 hF => ?_)
    · refine G.known (t := 7) (c := true) hc14 rfl ?_
      refine ifS hF (fun hc15 hF => ?_) (fun hc15 hF => ?_)
      · refine G.known (t := 10) (c := true) hc15 rfl ?_
        refine ifS hF (fun hc16 hF => ?_) (fun hc16 hF => ?_)
        · refine G.known (t := 11) (c := true) hc16 rfl ?_
          refine ifS hF (fun hc17 hF => ?_) (fun hc17 hF => ?_)
          · refine G.known (t := 12) (c := true) hc17 rfl ?_
            obtain ⟨r18, hr18, hF⟩ := bindS hF
            obtain ⟨r19, hr19, hF⟩ := bindS hF
            refine ifS hF (fun hc20 hF => ?_) (fun hc20 hF => ?_)
            · obtain ⟨r21, hr21, hF⟩ := bindS hF
              obtain ⟨r22, hr22, hF⟩ := bindS hF
              refine ifS hF (fun hc23 hF => ?_) (fun hc23 hF => ?_)
              · obtain ⟨r24, hr24, hF⟩ := bindS hF
                obtain ⟨r25, hr25, hF⟩ := bindS hF
                refine ifS hF (fun hc26 hF => ?_) (fun hc26 hF => ?_)
                · obtain ⟨r27, hr27, hF⟩ := bindS hF
                  refine G.drawn (effs := (⟨[(7, .one (bB true))], [], [(54, .one (bB true))], []⟩ :: ⟨[(54, .one (bB true))], [], [(55, .one (bB true))], []⟩ :: ⟨[(55, .one (bB true)), (10, .one (bB true))], [], [(56, .one (bB true))], []⟩ :: ⟨[(55, .one (bB true)), (56, .one (bB true))], [], [(57, .one (bB true))], []⟩ :: ⟨[(57, .one (bB true))], [], [(58, .one (bB true))], []⟩ :: ⟨[(58, .one (bB true)), (11, .one (bB true))], [], [(59, .one (bB true))], []⟩ :: ⟨[(58, .one (bB true)), (59, .one (bB true))], [], [(60, .one (bB true))], []⟩ :: ⟨[(60, .one (bB true))], [], [(61, .one (bB true))], []⟩ :: ⟨[(61, .one (bB true)), (12, .one (bB true))], [], [(62, .one (bB true))], []⟩ :: ⟨[(61, .one (bB true)), (62, .one (bB true))], [], [(63, .one (bB true))], []⟩ :: ⟨[(63, .one (bB true))], [], [(64, .one (bB true))], []⟩ :: ⟨[(64, .one (bB true)), (8, .one (.g (.d (.sl 3 (List.map encApi_Dep r2)))))], [], [(65, .one (.g (.d (.sl 3 (List.map encApi_Dep r2)))))], []⟩ :: ⟨[(64, .one (bB true)), (5, .one (.ptr 1005 0))], [], [(66, .one (.ptr 1005 0))], []⟩ :: ⟨[(64, .one (bB true)), (66, .one (.ptr 1005 0))], [], [(67, .one (.ptr 1005 0))], []⟩ :: ⟨[(64, .one (bB true)), (67, .one (.ptr 1005 0))], [(1005, some (.blk 36 [bS q_2.Dep.Key, bI .i64 q_2.Dep.Stamp.N, bI .i64 q_2.Dep.Stamp.Site, .g (.d (.sl 2 (List.map encApi_Range y4)))]))], [(68, .one (bS q_2.Dep.Key))], []⟩ :: ⟨[(64, .one (bB true)), (65, .one (.g (.d (.sl 3 (List.map encApi_Dep r2))))), (68, .one (bS q_2.Dep.Key))], [], [(69, .one (.g (.agg [.v (.int .i64 r18.N), .v (.int .i64 r18.Site)])))], []⟩ :: ⟨[(64, .one (bB true)), (8, .one (.g (.d (.sl 3 (List.map encApi_Dep r2)))))], [], [(70, .one (.g (.d (.sl 3 (List.map encApi_Dep r2)))))], []⟩ :: ⟨[(64, .one (bB true)), (5, .one (.ptr 1005 0))], [], [(71, .one (.ptr 1005 0))], []⟩ :: ⟨[(64, .one (bB true)), (71, .one (.ptr 1005 0))], [], [(72, .one (.ptr 1005 0))], []⟩ :: ⟨[(64, .one (bB true)), (72, .one (.ptr 1005 0))], [(1005, some (.blk 36 [bS q_2.Dep.Key, bI .i64 q_2.Dep.Stamp.N, bI .i64 q_2.Dep.Stamp.Site, .g (.d (.sl 2 (List.map encApi_Range y4)))]))], [(73, .one (bS q_2.Dep.Key))], []⟩ :: ⟨[(64, .one (bB true)), (70, .one (.g (.d (.sl 3 (List.map encApi_Dep r2))))), (73, .one (bS q_2.Dep.Key))], [], [(74, .one (.g (.agg [.v (.int .i64 r19.N), .v (.int .i64 r19.Site)])))], []⟩ :: ⟨[(64, .one (bB true)), (69, .one (.g (.agg [.v (.int .i64 r18.N), .v (.int .i64 r18.Site)]))), (74, .one (.g (.agg [.v (.int .i64 r19.N), .v (.int .i64 r19.Site)])))], [], [(75, .one (bB true))], []⟩ :: ⟨[(64, .one (bB true)), (75, .one (bB true))], [], [(76, .one (bB true))], []⟩ :: ⟨[(76, .one (bB true))], [], [(77, .one (bB true))], []⟩ :: ⟨[(77, .one (bB true)), (8, .one (.g (.d (.sl 3 (List.map encApi_Dep r2)))))], [], [(78, .one (.g (.d (.sl 3 (List.map encApi_Dep r2)))))], []⟩ :: ⟨[(77, .one (bB true)), (9, .one (.g (.d (.sl 3 (List.map encApi_Dep r3)))))], [], [(79, .one (.g (.d (.sl 3 (List.map encApi_Dep r3)))))], []⟩ :: ⟨[(77, .one (bB true)), (78, .one (.g (.d (.sl 3 (List.map encApi_Dep r2))))), (79, .one (.g (.d (.sl 3 (List.map encApi_Dep r3)))))], [], [(80, .one (bB r21))], []⟩ :: ⟨[(77, .one (bB true)), (8, .one (.g (.d (.sl 3 (List.map encApi_Dep r2)))))], [], [(81, .one (.g (.d (.sl 3 (List.map encApi_Dep r2)))))], []⟩ :: ⟨[(77, .one (bB true)), (9, .one (.g (.d (.sl 3 (List.map encApi_Dep r3)))))], [], [(82, .one (.g (.d (.sl 3 (List.map encApi_Dep r3)))))], []⟩ :: ⟨[(77, .one (bB true)), (81, .one (.g (.d (.sl 3 (List.map encApi_Dep r2))))), (82, .one (.g (.d (.sl 3 (List.map encApi_Dep r3)))))], [], [(83, .one (bB r22))], []⟩ :: ⟨[(77, .one (bB true)), (80, .one (bB r21)), (83, .one (bB r22))], [], [(84, .one (bB true))], []⟩ :: ⟨[(77, .one (bB true)), (84, .one (bB true))], [], [(85, .one (bB true))], []⟩ :: ⟨[(85, .one (bB true))], [], [(86, .one (bB true))], []⟩ :: ⟨[(86, .one (bB true)), (8, .one (.g (.d (.sl 3 (List.map encApi_Dep r2)))))], [], [(87, .one (.g (.d (.sl 3 (List.map encApi_Dep r2)))))], []⟩ :: ⟨[(86, .one (bB true)), (9, .one (.g (.d (.sl 3 (List.map encApi_Dep r3)))))], [], [(88, .one (.g (.d (.sl 3 (List.map encApi_Dep r3)))))], []⟩ :: ⟨[(86, .one (bB true)), (87, .one (.g (.d (.sl 3 (List.map encApi_Dep r2))))), (88, .one (.g (.d (.sl 3 (List.map encApi_Dep r3)))))], [], [(89, .one (bB r24))], []⟩ :: ⟨[(86, .one (bB true)), (8, .one (.g (.d (.sl 3 (List.map encApi_Dep r2)))))], [], [(90, .one (.g (.d (.sl 3 (List.map encApi_Dep r2)))))], []⟩ :: ⟨[(86, .one (bB true)), (9, .one (.g (.d (.sl 3 (List.map encApi_Dep r3)))))], [], [(91, .one (.g (.d (.sl 3 (List.map encApi_Dep r3)))))], []⟩ :: ⟨[(86, .one (bB true)), (90, .one (.g (.d (.sl 3 (List.map encApi_Dep r2))))), (91, .one (.g (.d (.sl 3 (List.map encApi_Dep r3)))))], [], [(92, .one (bB r25))], []⟩ :: ⟨[(86, .one (bB true)), (89, .one (bB r24)), (92, .one (bB r25))], [], [(93, .one (bB true))], []⟩ :: ⟨[(86, .one (bB true)), (93, .one (bB true))], [], [(94, .one (bB true))], []⟩ :: ⟨[(94, .one (bB true))], [], [(95, .one (bB true))], []⟩ :: ⟨[(95, .one (bB true)), (8, .one (.g (.d (.sl 3 (List.map encApi_Dep r2)))))], [], [(96, .one (.g (.d (.sl 3 (List.map encApi_Dep r2)))))], []⟩ :: ⟨[(95, .one (bB true)), (96, .one (.g (.d (.sl 3 (List.map encApi_Dep r2)))))], [], [(97, .one (bB r27))], []⟩ :: ⟨[(95, .one (bB true)), (97, .one (bB r27))], [], [(98, .one (bB r27))], []⟩ :: ⟨[(98, .one (bB r27))], [], [(6, .one (bB r27))], []⟩ :: [])) (deps := ([] :: [0] :: [0, 1] :: [0, 1, 2] :: [0, 1, 2, 3] :: [0, 1, 2, 3, 4] :: [0, 1, 2, 3, 4, 5] :: [0, 1, 2, 3, 4, 5, 6] :: [0, 1, 2, 3, 4, 5, 6, 7] :: [0, 1, 2, 3, 4, 5, 6, 7, 8] :: [0, 1, 2, 3, 4, 5, 6, 7, 8, 9] :: [0, 1, 2, 3, 4, 5, 6, 7, 8, 9, 10] :: [0, 1, 2, 3, 4, 5, 6, 7, 8, 9, 10] :: [0, 1, 2, 3, 4, 5, 6, 7, 8, 9, 10, 12] :: [0, 1, 2, 3, 4, 5, 6, 7, 8, 9, 10, 12, 13] :: [0, 1, 2, 3, 4, 5, 6, 7, 8, 9, 10, 11, 12, 13, 14] :: [0, 1, 2, 3, 4, 5, 6, 7, 8, 9, 10] :: [0, 1, 2, 3, 4, 5, 6, 7, 8, 9, 10] :: [0, 1, 2, 3, 4, 5, 6, 7, 8, 9, 10, 17] :: [0, 1, 2, 3, 4, 5, 6, 7, 8, 9, 10, 17, 18] :: [0, 1, 2, 3, 4, 5, 6, 7, 8, 9, 10, 11, 12, 13, 14, 15, 16, 17, 18, 19] :: (0 :: 1 :: 2 :: 3 :: 4 :: 5 :: 6 :: 7 :: 8 :: 9 :: 10 :: 11 :: 12 :: 13 :: 14 :: 15 :: 16 :: 17 :: 18 :: 19 :: 20 :: []) :: (0 :: 1 :: 2 :: 3 :: 4 :: 5 :: 6 :: 7 :: 8 :: 9 :: 10 :: 11 :: 12 :: 13 :: 14 :: 15 :: 16 :: 17 :: 18 :: 19 :: 20 :: 21 :: []) :: (0 :: 1 :: 2 :: 3 :: 4 :: 5 :: 6 :: 7 :: 8 :: 9 :: 10 :: 11 :: 12 :: 13 :: 14 :: 15 :: 16 :: 17 :: 18 :: 19 :: 20 :: 21 :: 22 :: []) :: (0 :: 1 :: 2 :: 3 :: 4 :: 5 :: 6 :: 7 :: 8 :: 9 :: 10 :: 11 :: 12 :: 13 :: 14 :: 15 :: 16 :: 17 :: 18 :: 19 :: 20 :: 21 :: 22 :: 23 :: []) :: (0 :: 1 :: 2 :: 3 :: 4 :: 5 :: 6 :: 7 :: 8 :: 9 :: 10 :: 11 :: 12 :: 13 :: 14 :: 15 :: 16 :: 17 :: 18 :: 19 :: 20 :: 21 :: 22 :: 23 :: []) :: (0 :: 1 :: 2 :: 3 :: 4 :: 5 :: 6 :: 7 :: 8 :: 9 :: 10 :: 11 :: 12 :: 13 :: 14 :: 15 :: 16 :: 17 :: 18 :: 19 :: 20 :: 21 :: 22 :: 23 :: 24 :: 25 :: []) :: (0 :: 1 :: 2 :: 3 :: 4 :: 5 :: 6 :: 7 :: 8 :: 9 :: 10 :: 11 :: 12 :: 13 :: 14 :: 15 :: 16 :: 17 :: 18 :: 19 :: 20 :: 21 :: 22 :: 23 :: []) :: (0 :: 1 :: 2 :: 3 :: 4 :: 5 :: 6 :: 7 :: 8 :: 9 :: 10 :: 11 :: 12 :: 13 :: 14 :: 15 :: 16 :: 17 :: 18 :: 19 :: 20 :: 21 :: 22 :: 23 :: []) :: (0 :: 1 :: 2 :: 3 :: 4 :: 5 :: 6 :: 7 :: 8 :: 9 :: 10 :: 11 :: 12 :: 13 :: 14 :: 15 :: 16 :: 17 :: 18 :: 19 :: 20 :: 21 :: 22 :: 23 :: 24 :: 25 :: 26 :: 27 :: 28 :: []) :: (0 :: 1 :: 2 :: 3 :: 4 :: 5 :: 6 :: 7 :: 8 :: 9 :: 10 :: 11 :: 12 :: 13 :: 14 :: 15 :: 16 :: 17 :: 18 :: 19 :: 20 :: 21 :: 22 :: 23 :: 24 :: 25 :: 26 :: 27 :: 28 :: 29 :: []) :: (0 :: 1 :: 2 :: 3 :: 4 :: 5 :: 6 :: 7 :: 8 :: 9 :: 10 :: 11 :: 12 :: 13 :: 14 :: 15 :: 16 :: 17 :: 18 :: 19 :: 20 :: 21 :: 22 :: 23 :: 24 :: 25 :: 26 :: 27 :: 28 :: 29 :: 30 :: []) :: (0 :: 1 :: 2 :: 3 :: 4 :: 5 :: 6 :: 7 :: 8 :: 9 :: 10 :: 11 :: 12 :: 13 :: 14 :: 15 :: 16 :: 17 :: 18 :: 19 :: 20 :: 21 :: 22 :: 23 :: 24 :: 25 :: 26 :: 27 :: 28 :: 29 :: 30 :: 31 :: []) :: (0 :: 1 :: 2 :: 3 :: 4 :: 5 :: 6 :: 7 :: 8 :: 9 :: 10 :: 11 :: 12 :: 13 :: 14 :: 15 :: 16 :: 17 :: 18 :: 19 :: 20 :: 21 :: 22 :: 23 :: 24 :: 25 :: 26 :: 27 :: 28 :: 29 :: 30 :: 31 :: 32 :: []) :: (0 :: 1 :: 2 :: 3 :: 4 :: 5 :: 6 :: 7 :: 8 :: 9 :: 10 :: 11 :: 12 :: 13 :: 14 :: 15 :: 16 :: 17 :: 18 :: 19 :: 20 :: 21 :: 22 :: 23 :: 24 :: 25 :: 26 :: 27 :: 28 :: 29 :: 30 :: 31 :: 32 :: []) :: (0 :: 1 :: 2 :: 3 :: 4 :: 5 :: 6 :: 7 :: 8 :: 9 :: 10 :: 11 :: 12 :: 13 :: 14 :: 15 :: 16 :: 17 :: 18 :: 19 :: 20 :: 21 :: 22 :: 23 :: 24 :: 25 :: 26 :: 27 :: 28 :: 29 :: 30 :: 31 :: 32 :: 33 :: 34 :: []) :: (0 :: 1 :: 2 :: 3 :: 4 :: 5 :: 6 :: 7 :: 8 :: 9 :: 10 :: 11 :: 12 :: 13 :: 14 :: 15 :: 16 :: 17 :: 18 :: 19 :: 20 :: 21 :: 22 :: 23 :: 24 :: 25 :: 26 :: 27 :: 28 :: 29 :: 30 :: 31 :: 32 :: []) :: (0 :: 1 :: 2 :: 3 :: 4 :: 5 :: 6 :: 7 :: 8 :: 9 :: 10 :: 11 :: 12 :: 13 :: 14 :: 15 :: 16 :: 17 :: 18 :: 19 :: 20 :: 21 :: 22 :: 23 :: 24 :: 25 :: 26 :: 27 :: 28 :: 29 :: 30 :: 31 :: 32 :: []) :: (0 :: 1 :: 2 :: 3 :: 4 :: 5 :: 6 :: 7 :: 8 :: 9 :: 10 :: 11 :: 12 :: 13 :: 14 :: 15 :: 16 :: 17 :: 18 :: 19 :: 20 :: 21 :: 22 :: 23 :: 24 :: 25 :: 26 :: 27 :: 28 :: 29 :: 30 :: 31 :: 32 :: 33 :: 34 :: 35 :: 36 :: 37 :: []) :: (0 :: 1 :: 2 :: 3 :: 4 :: 5 :: 6 :: 7 :: 8 :: 9 :: 10 :: 11 :: 12 :: 13 :: 14 :: 15 :: 16 :: 17 :: 18 :: 19 :: 20 :: 21 :: 22 :: 23 :: 24 :: 25 :: 26 :: 27 :: 28 :: 29 :: 30 :: 31 :: 32 :: 33 :: 34 :: 35 :: 36 :: 37 :: 38 :: []) :: (0 :: 1 :: 2 :: 3 :: 4 :: 5 :: 6 :: 7 :: 8 :: 9 :: 10 :: 11 :: 12 :: 13 :: 14 :: 15 :: 16 :: 17 :: 18 :: 19 :: 20 :: 21 :: 22 :: 23 :: 24 :: 25 :: 26 :: 27 :: 28 :: 29 :: 30 :: 31 :: 32 :: 33 :: 34 :: 35 :: 36 :: 37 :: 38 :: 39 :: []) :: (0 :: 1 :: 2 :: 3 :: 4 :: 5 :: 6 :: 7 :: 8 :: 9 :: 10 :: 11 :: 12 :: 13 :: 14 :: 15 :: 16 :: 17 :: 18 :: 19 :: 20 :: 21 :: 22 :: 23 :: 24 :: 25 :: 26 :: 27 :: 28 :: 29 :: 30 :: 31 :: 32 :: 33 :: 34 :: 35 :: 36 :: 37 :: 38 :: 39 :: 40 :: []) :: (0 :: 1 :: 2 :: 3 :: 4 :: 5 :: 6 :: 7 :: 8 :: 9 :: 10 :: 11 :: 12 :: 13 :: 14 :: 15 :: 16 :: 17 :: 18 :: 19 :: 20 :: 21 :: 22 :: 23 :: 24 :: 25 :: 26 :: 27 :: 28 :: 29 :: 30 :: 31 :: 32 :: 33 :: 34 :: 35 :: 36 :: 37 :: 38 :: 39 :: 40 :: 41 :: []) :: (0 :: 1 :: 2 :: 3 :: 4 :: 5 :: 6 :: 7 :: 8 :: 9 :: 10 :: 11 :: 12 :: 13 :: 14 :: 15 :: 16 :: 17 :: 18 :: 19 :: 20 :: 21 :: 22 :: 23 :: 24 :: 25 :: 26 :: 27 :: 28 :: 29 :: 30 :: 31 :: 32 :: 33 :: 34 :: 35 :: 36 :: 37 :: 38 :: 39 :: 40 :: 41 :: 42 :: []) :: (0 :: 1 :: 2 :: 3 :: 4 :: 5 :: 6 :: 7 :: 8 :: 9 :: 10 :: 11 :: 12 :: 13 :: 14 :: 15 :: 16 :: 17 :: 18 :: 19 :: 20 :: 21 :: 22 :: 23 :: 24 :: 25 :: 26 :: 27 :: 28 :: 29 :: 30 :: 31 :: 32 :: 33 :: 34 :: 35 :: 36 :: 37 :: 38 :: 39 :: 40 :: 41 :: 42 :: 43 :: []) :: (0 :: 1 :: 2 :: 3 :: 4 :: 5 :: 6 :: 7 :: 8 :: 9 :: 10 :: 11 :: 12 :: 13 :: 14 :: 15 :: 16 :: 17 :: 18 :: 19 :: 20 :: 21 :: 22 :: 23 :: 24 :: 25 :: 26 :: 27 :: 28 :: 29 :: 30 :: 31 :: 32 :: 33 :: 34 :: 35 :: 36 :: 37 :: 38 :: 39 :: 40 :: 41 :: 42 :: 43 :: 44 :: []) :: [])) (sl' := [(6, .one (bB r27))]) (hp' := []) follows rfl rfl rfl ⟨⟨rfl, trivial⟩, trivial, ⟨rfl, trivial⟩, trivial, ⟨rfl, rfl, trivial⟩, trivial, ⟨rfl, rfl, trivial⟩, trivial, ⟨rfl, trivial⟩, trivial, ⟨rfl, rfl, trivial⟩, trivial, ⟨rfl, rfl, trivial⟩, trivial, ⟨rfl, trivial⟩, trivial, ⟨rfl, rfl, trivial⟩, trivial, ⟨rfl, rfl, trivial⟩, trivial, ⟨rfl, trivial⟩, trivial, ⟨rfl, rfl, trivial⟩, trivial, ⟨rfl, rfl, trivial⟩, trivial, ⟨rfl, rfl, trivial⟩, trivial, ⟨rfl, rfl, trivial⟩, ⟨⟨rfl, rfl⟩, trivial⟩, ⟨rfl, rfl, rfl, trivial⟩, trivial, ⟨rfl, rfl, trivial⟩, trivial, ⟨rfl, rfl, trivial⟩, trivial, ⟨rfl, rfl, trivial⟩, trivial, ⟨rfl, rfl, trivial⟩, ⟨⟨rfl, rfl⟩, trivial⟩, ⟨rfl, rfl, rfl, trivial⟩, trivial, ⟨rfl, rfl, rfl, trivial⟩, trivial, ⟨rfl, rfl, trivial⟩, trivial, ⟨rfl, trivial⟩, trivial, ⟨rfl, rfl, trivial⟩, trivial, ⟨rfl, rfl, trivial⟩, trivial, ⟨rfl, rfl, rfl, trivial⟩, trivial, ⟨rfl, rfl, trivial⟩, trivial, ⟨rfl, rfl, trivial⟩, trivial, ⟨rfl, rfl, rfl, trivial⟩, trivial, ⟨rfl, rfl, rfl, trivial⟩, trivial, ⟨rfl, rfl, trivial⟩, trivial, ⟨rfl, trivial⟩, trivial, ⟨rfl, rfl, trivial⟩, trivial, ⟨rfl, rfl, trivial⟩, trivial, ⟨rfl, rfl, rfl, trivial⟩, trivial, ⟨rfl, rfl, trivial⟩, trivial, ⟨rfl, rfl, trivial⟩, trivial, ⟨rfl, rfl, rfl, trivial⟩, trivial, ⟨rfl, rfl, rfl, trivial⟩, trivial, ⟨rfl, rfl, trivial⟩, trivial, ⟨rfl, trivial⟩, trivial, ⟨rfl, rfl, trivial⟩, trivial, ⟨rfl, rfl, trivial⟩, trivial, ⟨rfl, rfl, trivial⟩, trivial, ⟨rfl, trivial⟩, trivial, trivial⟩ ⟨OpW.plain (op_move (Ev.t 7 (bB true)) rfl) rfl rfl, OpW.plain (op_move (Ev.t 54 (bB true)) rfl) rfl rfl, OpW.yes (op_move (Ev.t 10 (bB true)) rfl) rfl rfl rfl, OpW.plain (op_pickT (Ev.t 55 (bB true)) (Ev.t 56 (bB true)) rfl) rfl rfl, OpW.plain (op_move (Ev.t 57 (bB true)) rfl) rfl rfl, OpW.yes (op_move (Ev.t 11 (bB true)) rfl) rfl rfl rfl, OpW.plain (op_pickT (Ev.t 58 (bB true)) (Ev.t 59 (bB true)) rfl) rfl rfl, OpW.plain (op_move (Ev.t 60 (bB true)) rfl) rfl rfl, OpW.yes (op_move (Ev.t 12 (bB true)) rfl) rfl rfl rfl, OpW.plain (op_pickT (Ev.t 61 (bB true)) (Ev.t 62 (bB true)) rfl) rfl rfl, OpW.plain (op_move (Ev.t 63 (bB true)) rfl) rfl rfl, OpW.yes (op_move (Ev.t 8 (.g (.d (.sl 3 (List.map encApi_Dep r2))))) rfl) rfl rfl rfl, OpW.yes (op_fieldP (off' := 0) Try.underlying36 rfl ti26 (by decide) rfl (Ev.t 5 (.ptr 1005 0)) rfl) rfl rfl rfl, OpW.yes (op_fieldP (off' := 0) Try.underlying26 rfl ti9 (by decide) rfl (Ev.t 66 (.ptr 1005 0)) rfl) rfl rfl rfl, OpW.yes (op_load1P (c := bS q_2.Dep.Key) Try.underlying9 rfl rfl (Ev.t 67 (.ptr 1005 0)) rfl) rfl rfl rfl, OpW.yes (op_callQ (sv := .one (.g (.agg [.v (.int .i64 r18.N), .v (.int .i64 r18.Site)]))) cf12 (ct_past_Get r2 q_2.Dep.Key r18 hr18) rfl rfl (EvQL.cons (EvQ.g (Ev.t 65 (.g (.d (.sl 3 (List.map encApi_Dep r2)))))) (EvQL.cons (EvQ.g (Ev.t 68 (bS q_2.Dep.Key))) EvQL.nil)) rfl) rfl rfl rfl, OpW.yes (op_move (Ev.t 8 (.g (.d (.sl 3 (List.map encApi_Dep r2))))) rfl) rfl rfl rfl, OpW.yes (op_fieldP (off' := 0) Try.underlying36 rfl ti26 (by decide) rfl (Ev.t 5 (.ptr 1005 0)) rfl) rfl rfl rfl, OpW.yes (op_fieldP (off' := 0) Try.underlying26 rfl ti9 (by decide) rfl (Ev.t 71 (.ptr 1005 0)) rfl) rfl rfl rfl, OpW.yes (op_load1P (c := bS q_2.Dep.Key) Try.underlying9 rfl rfl (Ev.t 72 (.ptr 1005 0)) rfl) rfl rfl rfl, OpW.yes (op_callQ (sv := .one (.g (.agg [.v (.int .i64 r19.N), .v (.int .i64 r19.Site)]))) cf22 (ct_ref04_Get r2 q_2.Dep.Key r19 hr19) rfl rfl (EvQL.cons (EvQ.g (Ev.t 70 (.g (.d (.sl 3 (List.map encApi_Dep r2)))))) (EvQL.cons (EvQ.g (Ev.t 73 (bS q_2.Dep.Key))) EvQL.nil)) rfl) rfl rfl rfl, OpW.yes (OpL.cast (op_eqA (us := [.int .i64 r18.N, .int .i64 r18.Site]) (vs := [.int .i64 r19.N, .int .i64 r19.Site]) rfl rfl Try.eqGuardType24 (fun w => eq24 r18.N r18.Site r19.N r19.Site w) (Ev.t 69 (.g (.agg [.v (.int .i64 r18.N), .v (.int .i64 r18.Site)]))) (Ev.t 74 (.g (.agg [.v (.int .i64 r19.N), .v (.int .i64 r19.Site)]))) rfl) (congrArg (fun b => bB b) hc20)) rfl rfl rfl, OpW.plain (op_pickT (Ev.t 64 (bB true)) (Ev.t 75 (bB true)) rfl) rfl rfl, OpW.plain (op_move (Ev.t 76 (bB true)) rfl) rfl rfl, OpW.yes (op_move (Ev.t 8 (.g (.d (.sl 3 (List.map encApi_Dep r2))))) rfl) rfl rfl rfl, OpW.yes (op_move (Ev.t 9 (.g (.d (.sl 3 (List.map encApi_Dep r3))))) rfl) rfl rfl rfl, OpW.yes (op_callQ (sv := .one (bB r21)) cf15 (ct_past_Covers r2 r3 r21 hr21) rfl rfl (EvQL.cons (EvQ.g (Ev.t 78 (.g (.d (.sl 3 (List.map encApi_Dep r2)))))) (EvQL.cons (EvQ.g (Ev.t 79 (.g (.d (.sl 3 (List.map encApi_Dep r3)))))) EvQL.nil)) rfl) rfl rfl rfl, OpW.yes (op_move (Ev.t 8 (.g (.d (.sl 3 (List.map encApi_Dep r2))))) rfl) rfl rfl rfl, OpW.yes (op_move (Ev.t 9 (.g (.d (.sl 3 (List.map encApi_Dep r3))))) rfl) rfl rfl rfl, OpW.yes (op_callQ (sv := .one (bB r22)) cf23 (ct_ref04_Covers r2 r3 r22 hr22) rfl rfl (EvQL.cons (EvQ.g (Ev.t 81 (.g (.d (.sl 3 (List.map encApi_Dep r2)))))) (EvQL.cons (EvQ.g (Ev.t 82 (.g (.d (.sl 3 (List.map encApi_Dep r3)))))) EvQL.nil)) rfl) rfl rfl rfl, OpW.yes (OpL.cast (op_eqB Try.underlying4 (Ev.t 80 (bB r21)) (Ev.t 83 (bB r22)) rfl) (congrArg (fun b => bB b) hc23)) rfl rfl rfl, OpW.plain (op_pickT (Ev.t 77 (bB true)) (Ev.t 84 (bB true)) rfl) rfl rfl, OpW.plain (op_move (Ev.t 85 (bB true)) rfl) rfl rfl, OpW.yes (op_move (Ev.t 8 (.g (.d (.sl 3 (List.map encApi_Dep r2))))) rfl) rfl rfl rfl, OpW.yes (op_move (Ev.t 9 (.g (.d (.sl 3 (List.map encApi_Dep r3))))) rfl) rfl rfl rfl, OpW.yes (op_callQ (sv := .one (bB r24)) cf14 (ct_past_Same r2 r3 r24 hr24) rfl rfl (EvQL.cons (EvQ.g (Ev.t 87 (.g (.d (.sl 3 (List.map encApi_Dep r2)))))) (EvQL.cons (EvQ.g (Ev.t 88 (.g (.d (.sl 3 (List.map encApi_Dep r3)))))) EvQL.nil)) rfl) rfl rfl rfl, OpW.yes (op_move (Ev.t 8 (.g (.d (.sl 3 (List.map encApi_Dep r2))))) rfl) rfl rfl rfl, OpW.yes (op_move (Ev.t 9 (.g (.d (.sl 3 (List.map encApi_Dep r3))))) rfl) rfl rfl rfl, OpW.yes (op_callQ (sv := .one (bB r25)) cf16 (ct_ref04_Same r2 r3 r25 hr25) rfl rfl (EvQL.cons (EvQ.g (Ev.t 90 (.g (.d (.sl 3 (List.map encApi_Dep r2)))))) (EvQL.cons (EvQ.g (Ev.t 91 (.g (.d (.sl 3 (List.map encApi_Dep r3)))))) EvQL.nil)) rfl) rfl rfl rfl, OpW.yes (OpL.cast (op_eqB Try.underlying4 (Ev.t 89 (bB r24)) (Ev.t 92 (bB r25)) rfl) (congrArg (fun b => bB b) hc26)) rfl rfl rfl, OpW.plain (op_pickT (Ev.t 86 (bB true)) (Ev.t 93 (bB true)) rfl) rfl rfl, OpW.plain (op_move (Ev.t 94 (bB true)) rfl) rfl rfl, OpW.yes (op_move (Ev.t 8 (.g (.d (.sl 3 (List.map encApi_Dep r2))))) rfl) rfl rfl rfl, OpW.yes (op_callQ (sv := .one (bB r27)) cf13 (ct_past_Check r2 r27 hr27) rfl rfl (EvQL.cons (EvQ.g (Ev.t 96 (.g (.d (.sl 3 (List.map encApi_Dep r2)))))) EvQL.nil) rfl) rfl rfl rfl, OpW.plain (op_pickT (Ev.t 95 (bB true)) (Ev.t 97 (bB r27)) rfl) rfl rfl, OpW.plain (op_assign (Ev.t 98 (bB r27)) rfl) rfl rfl, trivial⟩ ⟨rfl, trivial⟩ trivial rfl ?_
                  cases hF
                  exact G.ret1 Try.results4 (RVar.tmp 6 _) ⟨rfl, trivial⟩ trivial
                · refine G.drawn (effs := (⟨[(7, .one (bB true))], [], [(54, .one (bB true))], []⟩ :: ⟨[(54, .one (bB true))], [], [(55, .one (bB true))], []⟩ :: ⟨[(55, .one (bB true)), (10, .one (bB true))], [], [(56, .one (bB true))], []⟩ :: ⟨[(55, .one (bB true)), (56, .one (bB true))], [], [(57, .one (bB true))], []⟩ :: ⟨[(57, .one (bB true))], [], [(58, .one (bB true))], []⟩ :: ⟨[(58, .one (bB true)), (11, .one (bB true))], [], [(59, .one (bB true))], []⟩ :: ⟨[(58, .one (bB true)), (59, .one (bB true))], [], [(60, .one (bB true))], []⟩ :: ⟨[(60, .one (bB true))], [], [(61, .one (bB true))], []⟩ :: ⟨[(61, .one (bB true)), (12, .one (bB true))], [], [(62, .one (bB true))], []⟩ :: ⟨[(61, .one (bB true)), (62, .one (bB true))], [], [(63, .one (bB true))], []⟩ :: ⟨[(63, .one (bB true))], [], [(64, .one (bB true))], []⟩ :: ⟨[(64, .one (bB true)), (8, .one (.g (.d (.sl 3 (List.map encApi_Dep r2)))))], [], [(65, .one (.g (.d (.sl 3 (List.map encApi_Dep r2)))))], []⟩ :: ⟨[(64, .one (bB true)), (5, .one (.ptr 1005 0))], [], [(66, .one (.ptr 1005 0))], []⟩ :: ⟨[(64, .one (bB true)), (66, .one (.ptr 1005 0))], [], [(67, .one (.ptr 1005 0))], []⟩ :: ⟨[(64, .one (bB true)), (67, .one (.ptr 1005 0))], [(1005, some (.blk 36 [bS q_2.Dep.Key, bI .i64 q_2.Dep.Stamp.N, bI .i64 q_2.Dep.Stamp.Site, .g (.d (.sl 2 (List.map encApi_Range y4)))]))], [(68, .one (bS q_2.Dep.Key))], []⟩ :: ⟨[(64, .one (bB true)), (65, .one (.g (.d (.sl 3 (List.map encApi_Dep r2))))), (68, .one (bS q_2.Dep.Key))], [], [(69, .one (.g (.agg [.v (.int .i64 r18.N), .v (.int .i64 r18.Site)])))], []⟩ :: ⟨[(64, .one (bB true)), (8, .one (.g (.d (.sl 3 (List.map encApi_Dep r2)))))], [], [(70, .one (.g (.d (.sl 3 (List.map encApi_Dep r2)))))], []⟩ :: ⟨[(64, .one (bB true)), (5, .one (.ptr 1005 0))], [], [(71, .one (.ptr 1005 0))], []⟩ :: ⟨[(64, .one (bB true)), (71, .one (.ptr 1005 0))], [], [(72, .one (.ptr 1005 0))], []⟩ :: ⟨[(64, .one (bB true)), (72, .one (.ptr 1005 0))], [(1005, some (.blk 36 [bS q_2.Dep.Key, bI .i64 q_2.Dep.Stamp.N, bI .i64 q_2.Dep.Stamp.Site, .g (.d (.sl 2 (List.map encApi_Range y4)))]))], [(73, .one (bS q_2.Dep.Key))], []⟩ :: ⟨[(64, .one (bB true)), (70, .one (.g (.d (.sl 3 (List.map encApi_Dep r2))))), (73, .one (bS q_2.Dep.Key))], [], [(74, .one (.g (.agg [.v (.int .i64 r19.N), .v (.int .i64 r19.Site)])))], []⟩ :: ⟨[(64, .one (bB true)), (69, .one (.g (.agg [.v (.int .i64 r18.N), .v (.int .i64 r18.Site)]))), (74, .one (.g (.agg [.v (.int .i64 r19.N), .v (.int .i64 r19.Site)])))], [], [(75, .one (bB true))], []⟩ :: ⟨[(64, .one (bB true)), (75, .one (bB true))], [], [(76, .one (bB true))], []⟩ :: ⟨[(76, .one (bB true))], [], [(77, .one (bB true))], []⟩ :: ⟨[(77, .one (bB true)), (8, .one (.g (.d (.sl 3 (List.map encApi_Dep r2)))))], [], [(78, .one (.g (.d (.sl 3 (List.map encApi_Dep r2)))))], []⟩ :: ⟨[(77, .one (bB true)), (9, .one (.g (.d (.sl 3 (List.map encApi_Dep r3)))))], [], [(79, .one (.g (.d (.sl 3 (List.map encApi_Dep r3)))))], []⟩ :: ⟨[(77, .one (bB true)), (78, .one (.g (.d (.sl 3 (List.map encApi_Dep r2))))), (79, .one (.g (.d (.sl 3 (List.map encApi_Dep r3)))))], [], [(80, .one (bB r21))], []⟩ :: ⟨[(77, .one (bB true)), (8, .one (.g (.d (.sl 3 (List.map encApi_Dep r2)))))], [], [(81, .one (.g (.d (.sl 3 (List.map encApi_Dep r2)))))], []⟩ :: ⟨[(77, .one (bB true)), (9, .one (.g (.d (.sl 3 (List.map encApi_Dep r3)))))], [], [(82, .one (.g (.d (.sl 3 (List.map encApi_Dep r3)))))], []⟩ :: ⟨[(77, .one (bB true)), (81, .one (.g (.d (.sl 3 (List.map encApi_Dep r2))))), (82, .one (.g (.d (.sl 3 (List.map encApi_Dep r3)))))], [], [(83, .one (bB r22))], []⟩ :: ⟨[(77, .one (bB true)), (80, .one (bB r21)), (83, .one (bB r22))], [], [(84, .one (bB true))], []⟩ :: ⟨[(77, .one (bB true)), (84, .one (bB true))], [], [(85, .one (bB true))], []⟩ :: ⟨[(85, .one (bB true))], [], [(86, .one (bB true))], []⟩ :: ⟨[(86, .one (bB true)), (8, .one (.g (.d (.sl 3 (List.map encApi_Dep r2)))))], [], [(87, .one (.g (.d (.sl 3 (List.map encApi_Dep r2)))))], []⟩ :: ⟨[(86, .one (bB true)), (9, .one (.g (.d (.sl 3 (List.map encApi_Dep r3)))))], [], [(88, .one (.g (.d (.sl 3 (List.map encApi_Dep r3)))))], []⟩ :: ⟨[(86, .one (bB true)), (87, .one (.g (.d (.sl 3 (List.map encApi_Dep r2))))), (88, .one (.g (.d (.sl 3 (List.map encApi_Dep r3)))))], [], [(89, .one (bB r24))], []⟩ :: ⟨[(86, .one (bB true)), (8, .one (.g (.d (.sl 3 (List.map encApi_Dep r2)))))], [], [(90, .one (.g (.d (.sl 3 (List.map encApi_Dep r2)))))], []⟩ :: ⟨[(86, .one (bB true)), (9, .one (.g (.d (.sl 3 (List.map encApi_Dep r3)))))], [], [(91, .one (.g (.d (.sl 3 (List.map encApi_Dep r3)))))], []⟩ :: ⟨[(86, .one (bB true)), (90, .one (.g (.d (.sl 3 (List.map encApi_Dep r2))))), (91, .one (.g (.d (.sl 3 (List.map encApi_Dep r3)))))], [], [(92, .one (bB r25))], []⟩ :: ⟨[(86, .one (bB true)), (89, .one (bB r24)), (92, .one (bB r25))], [], [(93, .one (bB false))], []⟩ :: ⟨[(86, .one (bB true)), (93, .one (bB false))], [], [(94, .one (bB false))], []⟩ :: ⟨[(94, .one (bB false))], [], [(95, .one (bB false))], []⟩ :: ⟨[(95, .one (bB false))], [], [(96, .one (.x Go.undef))], []⟩ :: ⟨[(95, .one (bB false))], [], [(97, .one (.x Go.undef))], []⟩ :: ⟨[(95, .one (bB false))], [], [(98, .one (bB false))], []⟩ :: ⟨[(98, .one (bB false))], [], [(6, .one (bB false))], []⟩ :: [])) (deps := ([] :: [0] :: [0, 1] :: [0, 1, 2] :: [0, 1, 2, 3] :: [0, 1, 2, 3, 4] :: [0, 1, 2, 3, 4, 5] :: [0, 1, 2, 3, 4, 5, 6] :: [0, 1, 2, 3, 4, 5, 6, 7] :: [0, 1, 2, 3, 4, 5, 6, 7, 8] :: [0, 1, 2, 3, 4, 5, 6, 7, 8, 9] :: [0, 1, 2, 3, 4, 5, 6, 7, 8, 9, 10] :: [0, 1, 2, 3, 4, 5, 6, 7, 8, 9, 10] :: [0, 1, 2, 3, 4, 5, 6, 7, 8, 9, 10, 12] :: [0, 1, 2, 3, 4, 5, 6, 7, 8, 9, 10, 12, 13] :: [0, 1, 2, 3, 4, 5, 6, 7, 8, 9, 10, 11, 12, 13, 14] :: [0, 1, 2, 3, 4, 5, 6, 7, 8, 9, 10] :: [0, 1, 2, 3, 4, 5, 6, 7, 8, 9, 10] :: [0, 1, 2, 3, 4, 5, 6, 7, 8, 9, 10, 17] :: [0, 1, 2, 3, 4, 5, 6, 7, 8, 9, 10, 17, 18] :: [0, 1, 2, 3, 4, 5, 6, 7, 8, 9, 10, 11, 12, 13, 14, 15, 16, 17, 18, 19] :: (0 :: 1 :: 2 :: 3 :: 4 :: 5 :: 6 :: 7 :: 8 :: 9 :: 10 :: 11 :: 12 :: 13 :: 14 :: 15 :: 16 :: 17 :: 18 :: 19 :: 20 :: []) :: (0 :: 1 :: 2 :: 3 :: 4 :: 5 :: 6 :: 7 :: 8 :: 9 :: 10 :: 11 :: 12 :: 13 :: 14 :: 15 :: 16 :: 17 :: 18 :: 19 :: 20 :: 21 :: []) :: (0 :: 1 :: 2 :: 3 :: 4 :: 5 :: 6 :: 7 :: 8 :: 9 :: 10 :: 11 :: 12 :: 13 :: 14 :: 15 :: 16 :: 17 :: 18 :: 19 :: 20 :: 21 :: 22 :: []) :: (0 :: 1 :: 2 :: 3 :: 4 :: 5 :: 6 :: 7 :: 8 :: 9 :: 10 :: 11 :: 12 :: 13 :: 14 :: 15 :: 16 :: 17 :: 18 :: 19 :: 20 :: 21 :: 22 :: 23 :: []) :: (0 :: 1 :: 2 :: 3 :: 4 :: 5 :: 6 :: 7 :: 8 :: 9 :: 10 :: 11 :: 12 :: 13 :: 14 :: 15 :: 16 :: 17 :: 18 :: 19 :: 20 :: 21 :: 22 :: 23 :: []) :: (0 :: 1 :: 2 :: 3 :: 4 :: 5 :: 6 :: 7 :: 8 :: 9 :: 10 :: 11 :: 12 :: 13 :: 14 :: 15 :: 16 :: 17 :: 18 :: 19 :: 20 :: 21 :: 22 :: 23 :: 24 :: 25 :: []) :: (0 :: 1 :: 2 :: 3 :: 4 :: 5 :: 6 :: 7 :: 8 :: 9 :: 10 :: 11 :: 12 :: 13 :: 14 :: 15 :: 16 :: 17 :: 18 :: 19 :: 20 :: 21 :: 22 :: 23 :: []) :: (0 :: 1 :: 2 :: 3 :: 4 :: 5 :: 6 :: 7 :: 8 :: 9 :: 10 :: 11 :: 12 :: 13 :: 14 :: 15 :: 16 :: 17 :: 18 :: 19 :: 20 :: 21 :: 22 :: 23 :: []) :: (0 :: 1 :: 2 :: 3 :: 4 :: 5 :: 6 :: 7 :: 8 :: 9 :: 10 :: 11 :: 12 :: 13 :: 14 :: 15 :: 16 :: 17 :: 18 :: 19 :: 20 :: 21 :: 22 :: 23 :: 24 :: 25 :: 26 :: 27 :: 28 :: []) :: (0 :: 1 :: 2 :: 3 :: 4 :: 5 :: 6 :: 7 :: 8 :: 9 :: 10 :: 11 :: 12 :: 13 :: 14 :: 15 :: 16 :: 17 :: 18 :: 19 :: 20 :: 21 :: 22 :: 23 :: 24 :: 25 :: 26 :: 27 :: 28 :: 29 :: []) :: (0 :: 1 :: 2 :: 3 :: 4 :: 5 :: 6 :: 7 :: 8 :: 9 :: 10 :: 11 :: 12 :: 13 :: 14 :: 15 :: 16 :: 17 :: 18 :: 19 :: 20 :: 21 :: 22 :: 23 :: 24 :: 25 :: 26 :: 27 :: 28 :: 29 :: 30 :: []) :: (0 :: 1 :: 2 :: 3 :: 4 :: 5 :: 6 :: 7 :: 8 :: 9 :: 10 :: 11 :: 12 :: 13 :: 14 :: 15 :: 16 :: 17 :: 18 :: 19 :: 20 :: 21 :: 22 :: 23 :: 24 :: 25 :: 26 :: 27 :: 28 :: 29 :: 30 :: 31 :: []) :: (0 :: 1 :: 2 :: 3 :: 4 :: 5 :: 6 :: 7 :: 8 :: 9 :: 10 :: 11 :: 12 :: 13 :: 14 :: 15 :: 16 :: 17 :: 18 :: 19 :: 20 :: 21 :: 22 :: 23 :: 24 :: 25 :: 26 :: 27 :: 28 :: 29 :: 30 :: 31 :: 32 :: []) :: (0 :: 1 :: 2 :: 3 :: 4 :: 5 :: 6 :: 7 :: 8 :: 9 :: 10 :: 11 :: 12 :: 13 :: 14 :: 15 :: 16 :: 17 :: 18 :: 19 :: 20 :: 21 :: 22 :: 23 :: 24 :: 25 :: 26 :: 27 :: 28 :: 29 :: 30 :: 31 :: 32 :: []) :: (0 :: 1 :: 2 :: 3 :: 4 :: 5 :: 6 :: 7 :: 8 :: 9 :: 10 :: 11 :: 12 :: 13 :: 14 :: 15 :: 16 :: 17 :: 18 :: 19 :: 20 :: 21 :: 22 :: 23 :: 24 :: 25 :: 26 :: 27 :: 28 :: 29 :: 30 :: 31 :: 32 :: 33 :: 34 :: []) :: (0 :: 1 :: 2 :: 3 :: 4 :: 5 :: 6 :: 7 :: 8 :: 9 :: 10 :: 11 :: 12 :: 13 :: 14 :: 15 :: 16 :: 17 :: 18 :: 19 :: 20 :: 21 :: 22 :: 23 :: 24 :: 25 :: 26 :: 27 :: 28 :: 29 :: 30 :: 31 :: 32 :: []) :: (0 :: 1 :: 2 :: 3 :: 4 :: 5 :: 6 :: 7 :: 8 :: 9 :: 10 :: 11 :: 12 :: 13 :: 14 :: 15 :: 16 :: 17 :: 18 :: 19 :: 20 :: 21 :: 22 :: 23 :: 24 :: 25 :: 26 :: 27 :: 28 :: 29 :: 30 :: 31 :: 32 :: []) :: (0 :: 1 :: 2 :: 3 :: 4 :: 5 :: 6 :: 7 :: 8 :: 9 :: 10 :: 11 :: 12 :: 13 :: 14 :: 15 :: 16 :: 17 :: 18 :: 19 :: 20 :: 21 :: 22 :: 23 :: 24 :: 25 :: 26 :: 27 :: 28 :: 29 :: 30 :: 31 :: 32 :: 33 :: 34 :: 35 :: 36 :: 37 :: []) :: (0 :: 1 :: 2 :: 3 :: 4 :: 5 :: 6 :: 7 :: 8 :: 9 :: 10 :: 11 :: 12 :: 13 :: 14 :: 15 :: 16 :: 17 :: 18 :: 19 :: 20 :: 21 :: 22 :: 23 :: 24 :: 25 :: 26 :: 27 :: 28 :: 29 :: 30 :: 31 :: 32 :: 33 :: 34 :: 35 :: 36 :: 37 :: 38 :: []) :: (0 :: 1 :: 2 :: 3 :: 4 :: 5 :: 6 :: 7 :: 8 :: 9 :: 10 :: 11 :: 12 :: 13 :: 14 :: 15 :: 16 :: 17 :: 18 :: 19 :: 20 :: 21 :: 22 :: 23 :: 24 :: 25 :: 26 :: 27 :: 28 :: 29 :: 30 :: 31 :: 32 :: 33 :: 34 :: 35 :: 36 :: 37 :: 38 :: 39 :: []) :: (0 :: 1 :: 2 :: 3 :: 4 :: 5 :: 6 :: 7 :: 8 :: 9 :: 10 :: 11 :: 12 :: 13 :: 14 :: 15 :: 16 :: 17 :: 18 :: 19 :: 20 :: 21 :: 22 :: 23 :: 24 :: 25 :: 26 :: 27 :: 28 :: 29 :: 30 :: 31 :: 32 :: 33 :: 34 :: 35 :: 36 :: 37 :: 38 :: 39 :: 40 :: []) :: (0 :: 1 :: 2 :: 3 :: 4 :: 5 :: 6 :: 7 :: 8 :: 9 :: 10 :: 11 :: 12 :: 13 :: 14 :: 15 :: 16 :: 17 :: 18 :: 19 :: 20 :: 21 :: 22 :: 23 :: 24 :: 25 :: 26 :: 27 :: 28 :: 29 :: 30 :: 31 :: 32 :: 33 :: 34 :: 35 :: 36 :: 37 :: 38 :: 39 :: 40 :: 41 :: []) :: (0 :: 1 :: 2 :: 3 :: 4 :: 5 :: 6 :: 7 :: 8 :: 9 :: 10 :: 11 :: 12 :: 13 :: 14 :: 15 :: 16 :: 17 :: 18 :: 19 :: 20 :: 21 :: 22 :: 23 :: 24 :: 25 :: 26 :: 27 :: 28 :: 29 :: 30 :: 31 :: 32 :: 33 :: 34 :: 35 :: 36 :: 37 :: 38 :: 39 :: 40 :: 41 :: 42 :: []) :: (0 :: 1 :: 2 :: 3 :: 4 :: 5 :: 6 :: 7 :: 8 :: 9 :: 10 :: 11 :: 12 :: 13 :: 14 :: 15 :: 16 :: 17 :: 18 :: 19 :: 20 :: 21 :: 22 :: 23 :: 24 :: 25 :: 26 :: 27 :: 28 :: 29 :: 30 :: 31 :: 32 :: 33 :: 34 :: 35 :: 36 :: 37 :: 38 :: 39 :: 40 :: 41 :: 42 :: 43 :: []) :: (0 :: 1 :: 2 :: 3 :: 4 :: 5 :: 6 :: 7 :: 8 :: 9 :: 10 :: 11 :: 12 :: 13 :: 14 :: 15 :: 16 :: 17 :: 18 :: 19 :: 20 :: 21 :: 22 :: 23 :: 24 :: 25 :: 26 :: 27 :: 28 :: 29 :: 30 :: 31 :: 32 :: 33 :: 34 :: 35 :: 36 :: 37 :: 38 :: 39 :: 40 :: 41 :: 42 :: 43 :: 44 :: []) :: [])) (sl' := [(6, .one (bB false))]) (hp' := []) follows rfl rfl rfl ⟨⟨rfl, trivial⟩, trivial, ⟨rfl, trivial⟩, trivial, ⟨rfl, rfl, trivial⟩, trivial, ⟨rfl, rfl, trivial⟩, trivial, ⟨rfl, trivial⟩, trivial, ⟨rfl, rfl, trivial⟩, trivial, ⟨rfl, rfl, trivial⟩, trivial, ⟨rfl, trivial⟩, trivial, ⟨rfl, rfl, trivial⟩, trivial, ⟨rfl, rfl, trivial⟩, trivial, ⟨rfl, trivial⟩, trivial, ⟨rfl, rfl, trivial⟩, trivial, ⟨rfl, rfl, trivial⟩, trivial, ⟨rfl, rfl, trivial⟩, trivial, ⟨rfl, rfl, trivial⟩, ⟨⟨rfl, rfl⟩, trivial⟩, ⟨rfl, rfl, rfl, trivial⟩, trivial, ⟨rfl, rfl, trivial⟩, trivial, ⟨rfl, rfl, trivial⟩, trivial, ⟨rfl, rfl, trivial⟩, trivial, ⟨rfl, rfl, trivial⟩, ⟨⟨rfl, rfl⟩, trivial⟩, ⟨rfl, rfl, rfl, trivial⟩, trivial, ⟨rfl, rfl, rfl, trivial⟩, trivial, ⟨rfl, rfl, trivial⟩, trivial, ⟨rfl, trivial⟩, trivial, ⟨rfl, rfl, trivial⟩, trivial, ⟨rfl, rfl, trivial⟩, trivial, ⟨rfl, rfl, rfl, trivial⟩, trivial, ⟨rfl, rfl, trivial⟩, trivial, ⟨rfl, rfl, trivial⟩, trivial, ⟨rfl, rfl, rfl, trivial⟩, trivial, ⟨rfl, rfl, rfl, trivial⟩, trivial, ⟨rfl, rfl, trivial⟩, trivial, ⟨rfl, trivial⟩, trivial, ⟨rfl, rfl, trivial⟩, trivial, ⟨rfl, rfl, trivial⟩, trivial, ⟨rfl, rfl, rfl, trivial⟩, trivial, ⟨rfl, rfl, trivial⟩, trivial, ⟨rfl, rfl, trivial⟩, trivial, ⟨rfl, rfl, rfl, trivial⟩, trivial, ⟨rfl, rfl, rfl, trivial⟩, trivial, ⟨rfl, rfl, trivial⟩, trivial, ⟨rfl, trivial⟩, trivial, ⟨rfl, trivial⟩, trivial, ⟨rfl, trivial⟩, trivial, ⟨rfl, trivial⟩, trivial, ⟨rfl, trivial⟩, trivial, trivial⟩ ⟨OpW.plain (op_move (Ev.t 7 (bB true)) rfl) rfl rfl, OpW.plain (op_move (Ev.t 54 (bB true)) rfl) rfl rfl, OpW.yes (op_move (Ev.t 10 (bB true)) rfl) rfl rfl rfl, OpW.plain (op_pickT (Ev.t 55 (bB true)) (Ev.t 56 (bB true)) rfl) rfl rfl, OpW.plain (op_move (Ev.t 57 (bB true)) rfl) rfl rfl, OpW.yes (op_move (Ev.t 11 (bB true)) rfl) rfl rfl rfl, OpW.plain (op_pickT (Ev.t 58 (bB true)) (Ev.t 59 (bB true)) rfl) rfl rfl, OpW.plain (op_move (Ev.t 60 (bB true)) rfl) rfl rfl, OpW.yes (op_move (Ev.t 12 (bB true)) rfl) rfl rfl rfl, OpW.plain (op_pickT (Ev.t 61 (bB true)) (Ev.t 62 (bB true)) rfl) rfl rfl, OpW.plain (op_move (Ev.t 63 (bB true)) rfl) rfl rfl, OpW.yes (op_move (Ev.t 8 (.g (.d (.sl 3 (List.map encApi_Dep r2))))) rfl) rfl rfl rfl, OpW.yes (op_fieldP (off' := 0) Try.underlying36 rfl ti26 (by decide) rfl (Ev.t 5 (.ptr 1005 0)) rfl) rfl rfl rfl, OpW.yes (op_fieldP (off' := 0) Try.underlying26 rfl ti9 (by decide) rfl (Ev.t 66 (.ptr 1005 0)) rfl) rfl rfl rfl, OpW.yes (op_load1P (c := bS q_2.Dep.Key) Try.underlying9 rfl rfl (Ev.t 67 (.ptr 1005 0)) rfl) rfl rfl rfl, OpW.yes (op_callQ (sv := .one (.g (.agg [.v (.int .i64 r18.N), .v (.int .i64 r18.Site)]))) cf12 (ct_past_Get r2 q_2.Dep.Key r18 hr18) rfl rfl (EvQL.cons (EvQ.g (Ev.t 65 (.g (.d (.sl 3 (List.map encApi_Dep r2)))))) (EvQL.cons (EvQ.g (Ev.t 68 (bS q_2.Dep.Key))) EvQL.nil)) rfl) rfl rfl rfl, OpW.yes (op_move (Ev.t 8 (.g (.d (.sl 3 (List.map encApi_Dep r2))))) rfl) rfl rfl rfl, OpW.yes (op_fieldP (off' := 0) Try.underlying36 rfl ti26 (by decide) rfl (Ev.t 5 (.ptr 1005 0)) rfl) rfl rfl rfl, OpW.yes (op_fieldP (off' := 0) Try.underlying26 rfl ti9 (by decide) rfl (Ev.t 71 (.ptr 1005 0)) rfl) rfl rfl rfl, OpW.yes (op_load1P (c := bS q_2.Dep.Key) Try.underlying9 rfl rfl (Ev.t 72 (.ptr 1005 0)) rfl) rfl rfl rfl, OpW.yes (op_callQ (sv := .one (.g (.agg [.v (.int .i64 r19.N), .v (.int .i64 r19.Site)]))) cf22 (ct_ref04_Get r2 q_2.Dep.Key r19 hr19) rfl rfl (EvQL.cons (EvQ.g (Ev.t 70 (.g (.d (.sl 3 (List.map encApi_Dep r2)))))) (EvQL.cons (EvQ.g (Ev.t 73 (bS q_2.Dep.Key))) EvQL.nil)) rfl) rfl rfl rfl, OpW.yes (OpL.cast (op_eqA (us := [.int .i64 r18.N, .int .i64 r18.Site]) (vs := [.int .i64 r19.N, .int .i64 r19.Site]) rfl rfl Try.eqGuardType24 (fun w => eq24 r18.N r18.Site r19.N r19.Site w) (Ev.t 69 (.g (.agg [.v (.int .i64 r18.N), .v (.int .i64 r18.Site)]))) (Ev.t 74 (.g (.agg [.v (.int .i64 r19.N), .v (.int .i64 r19.Site)]))) rfl) (congrArg (fun b => bB b) hc20)) rfl rfl rfl, OpW.plain (op_pickT (Ev.t 64 (bB true)) (Ev.t 75 (bB true)) rfl) rfl rfl, OpW.plain (op_move (Ev.t 76 (bB true)) rfl) rfl rfl, OpW.yes (op_move (Ev.t 8 (.g (.d (.sl 3 (List.map encApi_Dep r2))))) rfl) rfl rfl rfl, OpW.yes (op_move (Ev.t 9 (.g (.d (.sl 3 (List.map encApi_Dep r3))))) rfl) rfl rfl rfl, OpW.yes (op_callQ (sv := .one (bB r21)) cf15 (ct_past_Covers r2 r3 r21 hr21) rfl rfl (EvQL.cons (EvQ.g (Ev.t 78 (.g (.d (.sl 3 (List.map encApi_Dep r2)))))) (EvQL.cons (EvQ.g (Ev.t 79 (.g (.d (.sl 3 (List.map encApi_Dep r3)))))) EvQL.nil)) rfl) rfl rfl rfl, OpW.yes (op_move (Ev.t 8 (.g (.d (.sl 3 (List.map encApi_Dep r2))))) rfl) rfl rfl rfl, OpW.yes (op_move (Ev.t 9 (.g (.d (.sl 3 (List.map encApi_Dep r3))))) rfl) rfl rfl rfl, OpW.yes (op_callQ (sv := .one (bB r22)) cf23 (ct_ref04_Covers r2 r3 r22 hr22) rfl rfl (EvQL.cons (EvQ.g (Ev.t 81 (.g (.d (.sl 3 (List.map encApi_Dep r2)))))) (EvQL.cons (EvQ.g (Ev.t 82 (.g (.d (.sl 3 (List.map encApi_Dep r3)))))) EvQL.nil)) rfl) rfl rfl rfl, OpW.yes (OpL.cast (op_eqB Try.underlying4 (Ev.t 80 (bB r21)) (Ev.t 83 (bB r22)) rfl) (congrArg (fun b => bB b) hc23)) rfl rfl rfl, OpW.plain (op_pickT (Ev.t 77 (bB true)) (Ev.t 84 (bB true)) rfl) rfl rfl, OpW.plain (op_move (Ev.t 85 (bB true)) rfl) rfl rfl, OpW.yes (op_move (Ev.t 8 (.g (.d (.sl 3 (List.map encApi_Dep r2))))) rfl) rfl rfl rfl, OpW.yes (op_move (Ev.t 9 (.g (.d (.sl 3 (List.map encApi_Dep r3))))) rfl) rfl rfl rfl, OpW.yes (op_callQ (sv := .one (bB r24)) cf14 (ct_past_Same r2 r3 r24 hr24) rfl rfl (EvQL.cons (EvQ.g (Ev.t 87 (.g (.d (.sl 3 (List.map encApi_Dep r2)))))) (EvQL.cons (EvQ.g (Ev.t 88 (.g (.d (.sl 3 (List.map encApi_Dep r3)))))) EvQL.nil)) rfl) rfl rfl rfl, OpW.yes (op_move (Ev.t 8 (.g (.d (.sl 3 (List.map encApi_Dep r2))))) rfl) rfl rfl rfl, OpW.yes (op_move (Ev.t 9 (.g (.d (.sl 3 (List.map encApi_Dep r3))))) rfl) rfl rfl rfl, OpW.yes (op_callQ (sv := .one (bB r25)) cf16 (ct_ref04_Same r2 r3 r25 hr25) rfl rfl (EvQL.cons (EvQ.g (Ev.t 90 (.g (.d (.sl 3 (List.map encApi_Dep r2)))))) (EvQL.cons (EvQ.g (Ev.t 91 (.g (.d (.sl 3 (List.map encApi_Dep r3)))))) EvQL.nil)) rfl) rfl rfl rfl, OpW.yes (OpL.cast (op_eqB Try.underlying4 (Ev.t 89 (bB r24)) (Ev.t 92 (bB r25)) rfl) (congrArg (fun b => bB b) hc26)) rfl rfl rfl, OpW.plain (op_pickT (Ev.t 86 (bB true)) (Ev.t 93 (bB false)) rfl) rfl rfl, OpW.plain (op_move (Ev.t 94 (bB false)) rfl) rfl rfl, OpW.no rfl rfl rfl rfl rfl, OpW.no rfl rfl rfl rfl rfl, OpW.plain (op_pickF (Ev.t 95 (bB false)) (Ev.c _ rfl) rfl) rfl rfl, OpW.plain (op_assign (Ev.t 98 (bB false)) rfl) rfl rfl, trivial⟩ ⟨rfl, trivial⟩ trivial rfl ?_
                  cases hF
                  exact G.ret1 Try.results4 (RVar.tmp 6 _) ⟨rfl, trivial⟩ trivial
              · refine G.drawn (effs := (⟨[(7, .one (bB true))], [], [(54, .one (bB true))], []⟩ :: ⟨[(54, .one (bB true))], [], [(55, .one (bB true))], []⟩ :: ⟨[(55, .one (bB true)), (10, .one (bB true))], [], [(56, .one (bB true))], []⟩ :: ⟨[(55, .one (bB true)), (56, .one (bB true))], [], [(57, .one (bB true))], []⟩ :: ⟨[(57, .one (bB true))], [], [(58, .one (bB true))], []⟩ :: ⟨[(58, .one (bB true)), (11, .one (bB true))], [], [(59, .one (bB true))], []⟩ :: ⟨[(58, .one (bB true)), (59, .one (bB true))], [], [(60, .one (bB true))], []⟩ :: ⟨[(60, .one (bB true))], [], [(61, .one (bB true))], []⟩ :: ⟨[(61, .one (bB true)), (12, .one (bB true))], [], [(62, .one (bB true))], []⟩ :: ⟨[(61, .one (bB true)), (62, .one (bB true))], [], [(63, .one (bB true))], []⟩ :: ⟨[(63, .one (bB true))], [], [(64, .one (bB true))], []⟩ :: ⟨[(64, .one (bB true)), (8, .one (.g (.d (.sl 3 (List.map encApi_Dep r2)))))], [], [(65, .one (.g (.d (.sl 3 (List.map encApi_Dep r2)))))], []⟩ :: ⟨[(64, .one (bB true)), (5, .one (.ptr 1005 0))], [], [(66, .one (.ptr 1005 0))], []⟩ :: ⟨[(64, .one (bB true)), (66, .one (.ptr 1005 0))], [], [(67, .one (.ptr 1005 0))], []⟩ :: ⟨[(64, .one (bB true)), (67, .one (.ptr 1005 0))], [(1005, some (.blk 36 [bS q_2.Dep.Key, bI .i64 q_2.Dep.Stamp.N, bI .i64 q_2.Dep.Stamp.Site, .g (.d (.sl 2 (List.map encApi_Range y4)))]))], [(68, .one (bS q_2.Dep.Key))], []⟩ :: ⟨[(64, .one (bB true)), (65, .one (.g (.d (.sl 3 (List.map encApi_Dep r2))))), (68, .one (bS q_2.Dep.Key))], [], [(69, .one (.g (.agg [.v (.int .i64 r18.N), .v (.int .i64 r18.Site)])))], []⟩ :: ⟨[(64, .one (bB true)), (8, .one (.g (.d (.sl 3 (List.map encApi_Dep r2)))))], [], [(70, .one (.g (.d (.sl 3 (List.map encApi_Dep r2)))))], []⟩ :: ⟨[(64, .one (bB true)), (5, .one (.ptr 1005 0))], [], [(71, .one (.ptr 1005 0))], []⟩ :: ⟨[(64, .one (bB true)), (71, .one (.ptr 1005 0))], [], [(72, .one (.ptr 1005 0))], []⟩ :: ⟨[(64, .one (bB true)), (72, .one (.ptr 1005 0))], [(1005, some (.blk 36 [bS q_2.Dep.Key, bI .i64 q_2.Dep.Stamp.N, bI .i64 q_2.Dep.Stamp.Site, .g (.d (.sl 2 (List.map encApi_Range y4)))]))], [(73, .one (bS q_2.Dep.Key))], []⟩ :: ⟨[(64, .one (bB true)), (70, .one (.g (.d (.sl 3 (List.map encApi_Dep r2))))), (73, .one (bS q_2.Dep.Key))], [], [(74, .one (.g (.agg [.v (.int .i64 r19.N), .v (.int .i64 r19.Site)])))], []⟩ :: ⟨[(64, .one (bB true)), (69, .one (.g (.agg [.v (.int .i64 r18.N), .v (.int .i64 r18.Site)]))), (74, .one (.g (.agg [.v (.int .i64 r19.N), .v (.int .i64 r19.Site)])))], [], [(75, .one (bB true))], []⟩ :: ⟨[(64, .one (bB true)), (75, .one (bB true))], [], [(76, .one (bB true))], []⟩ :: ⟨[(76, .one (bB true))], [], [(77, .one (bB true))], []⟩ :: ⟨[(77, .one (bB true)), (8, .one (.g (.d (.sl 3 (List.map encApi_Dep r2)))))], [], [(78, .one (.g (.d (.sl 3 (List.map encApi_Dep r2)))))], []⟩ :: ⟨[(77, .one (bB true)), (9, .one (.g (.d (.sl 3 (List.map encApi_Dep r3)))))], [], [(79, .one (.g (.d (.sl 3 (List.map encApi_Dep r3)))))], []⟩ :: ⟨[(77, .one (bB true)), (78, .one (.g (.d (.sl 3 (List.map encApi_Dep r2))))), (79, .one (.g (.d (.sl 3 (List.map encApi_Dep r3)))))], [], [(80, .one (bB r21))], []⟩ :: ⟨[(77, .one (bB true)), (8, .one (.g (.d (.sl 3 (List.map encApi_Dep r2)))))], [], [(81, .one (.g (.d (.sl 3 (List.map encApi_Dep r2)))))], []⟩ :: ⟨[(77, .one (bB true)), (9, .one (.g (.d (.sl 3 (List.map encApi_Dep r3)))))], [], [(82, .one (.g (.d (.sl 3 (List.map encApi_Dep r3)))))], []⟩ :: ⟨[(77, .one (bB true)), (81, .one (.g (.d (.sl 3 (List.map encApi_Dep r2))))), (82, .one (.g (.d (.sl 3 (List.map encApi_Dep r3)))))], [], [(83, .one (bB r22))], []⟩ :: ⟨[(77, .one (bB true)), (80, .one (bB r21)), (83, .one (bB r22))], [], [(84, .one (bB false))], []⟩ :: ⟨[(77, .one (bB true)), (84, .one (bB false))], [], [(85, .one (bB false))], []⟩ :: ⟨[(85, .one (bB false))], [], [(86, .one (bB false))], []⟩ :: ⟨[(86, .one (bB false))], [], [(87, .one (.x Go.undef))], []⟩ :: ⟨[(86, .one (bB false))], [], [(88, .one (.x Go.undef))], []⟩ :: ⟨[(86, .one (bB false))], [], [(89, .one (.x Go.undef))], []⟩ :: ⟨[(86, .one (bB false))], [], [(90, .one (.x Go.undef))], []⟩ :: ⟨[(86, .one (bB false))], [], [(91, .one (.x Go.undef))], []⟩ :: ⟨[(86, .one (bB false))], [], [(92, .one (.x Go.undef))], []⟩ :: ⟨[(86, .one (bB false))], [], [(93, .one (.x Go.undef))], []⟩ :: ⟨[(86, .one (bB false))], [], [(94, .one (bB false))], []⟩ :: ⟨[(94, .one (bB false))], [], [(95, .one (bB false))], []⟩ :: ⟨[(95, .one (bB false))], [], [(96, .one (.x Go.undef))], []⟩ :: ⟨[(95, .one (bB false))], [], [(97, .one (.x Go.undef))], []⟩ :: ⟨[(95, .one (bB false))], [], [(98, .one (bB false))], []⟩ :: ⟨[(98, .one (bB false))], [], [(6, .one (bB false))], []⟩ :: [])) (deps := ([] :: [0] :: [0, 1] :: [0, 1, 2] :: [0, 1, 2, 3] :: [0, 1, 2, 3, 4] :: [0, 1, 2, 3, 4, 5] :: [0, 1, 2, 3, 4, 5, 6] :: [0, 1, 2, 3, 4, 5, 6, 7] :: [0, 1, 2, 3, 4, 5, 6, 7, 8] :: [0, 1, 2, 3, 4, 5, 6, 7, 8, 9] :: [0, 1, 2, 3, 4, 5, 6, 7, 8, 9, 10] :: [0, 1, 2, 3, 4, 5, 6, 7, 8, 9, 10] :: [0, 1, 2, 3, 4, 5, 6, 7, 8, 9, 10, 12] :: [0, 1, 2, 3, 4, 5, 6, 7, 8, 9, 10, 12, 13] :: [0, 1, 2, 3, 4, 5, 6, 7, 8, 9, 10, 11, 12, 13, 14] :: [0, 1, 2, 3, 4, 5, 6, 7, 8, 9, 10] :: [0, 1, 2, 3, 4, 5, 6, 7, 8, 9, 10] :: [0, 1, 2, 3, 4, 5, 6, 7, 8, 9, 10, 17] :: [0, 1, 2, 3, 4, 5, 6, 7, 8, 9, 10, 17, 18] :: [0, 1, 2, 3, 4, 5, 6, 7, 8, 9, 10, 11, 12, 13, 14, 15, 16, 17, 18, 19] :: (0 :: 1 :: 2 :: 3 :: 4 :: 5 :: 6 :: 7 :: 8 :: 9 :: 10 :: 11 :: 12 :: 13 :: 14 :: 15 :: 16 :: 17 :: 18 :: 19 :: 20 :: []) :: (0 :: 1 :: 2 :: 3 :: 4 :: 5 :: 6 :: 7 :: 8 :: 9 :: 10 :: 11 :: 12 :: 13 :: 14 :: 15 :: 16 :: 17 :: 18 :: 19 :: 20 :: 21 :: []) :: (0 :: 1 :: 2 :: 3 :: 4 :: 5 :: 6 :: 7 :: 8 :: 9 :: 10 :: 11 :: 12 :: 13 :: 14 :: 15 :: 16 :: 17 :: 18 :: 19 :: 20 :: 21 :: 22 :: []) :: (0 :: 1 :: 2 :: 3 :: 4 :: 5 :: 6 :: 7 :: 8 :: 9 :: 10 :: 11 :: 12 :: 13 :: 14 :: 15 :: 16 :: 17 :: 18 :: 19 :: 20 :: 21 :: 22 :: 23 :: []) :: (0 :: 1 :: 2 :: 3 :: 4 :: 5 :: 6 :: 7 :: 8 :: 9 :: 10 :: 11 :: 12 :: 13 :: 14 :: 15 :: 16 :: 17 :: 18 :: 19 :: 20 :: 21 :: 22 :: 23 :: []) :: (0 :: 1 :: 2 :: 3 :: 4 :: 5 :: 6 :: 7 :: 8 :: 9 :: 10 :: 11 :: 12 :: 13 :: 14 :: 15 :: 16 :: 17 :: 18 :: 19 :: 20 :: 21 :: 22 :: 23 :: 24 :: 25 :: []) :: (0 :: 1 :: 2 :: 3 :: 4 :: 5 :: 6 :: 7 :: 8 :: 9 :: 10 :: 11 :: 12 :: 13 :: 14 :: 15 :: 16 :: 17 :: 18 :: 19 :: 20 :: 21 :: 22 :: 23 :: []) :: (0 :: 1 :: 2 :: 3 :: 4 :: 5 :: 6 :: 7 :: 8 :: 9 :: 10 :: 11 :: 12 :: 13 :: 14 :: 15 :: 16 :: 17 :: 18 :: 19 :: 20 :: 21 :: 22 :: 23 :: []) :: (0 :: 1 :: 2 :: 3 :: 4 :: 5 :: 6 :: 7 :: 8 :: 9 :: 10 :: 11 :: 12 :: 13 :: 14 :: 15 :: 16 :: 17 :: 18 :: 19 :: 20 :: 21 :: 22 :: 23 :: 24 :: 25 :: 26 :: 27 :: 28 :: []) :: (0 :: 1 :: 2 :: 3 :: 4 :: 5 :: 6 :: 7 :: 8 :: 9 :: 10 :: 11 :: 12 :: 13 :: 14 :: 15 :: 16 :: 17 :: 18 :: 19 :: 20 :: 21 :: 22 :: 23 :: 24 :: 25 :: 26 :: 27 :: 28 :: 29 :: []) :: (0 :: 1 :: 2 :: 3 :: 4 :: 5 :: 6 :: 7 :: 8 :: 9 :: 10 :: 11 :: 12 :: 13 :: 14 :: 15 :: 16 :: 17 :: 18 :: 19 :: 20 :: 21 :: 22 :: 23 :: 24 :: 25 :: 26 :: 27 :: 28 :: 29 :: 30 :: []) :: (0 :: 1 :: 2 :: 3 :: 4 :: 5 :: 6 :: 7 :: 8 :: 9 :: 10 :: 11 :: 12 :: 13 :: 14 :: 15 :: 16 :: 17 :: 18 :: 19 :: 20 :: 21 :: 22 :: 23 :: 24 :: 25 :: 26 :: 27 :: 28 :: 29 :: 30 :: 31 :: []) :: (0 :: 1 :: 2 :: 3 :: 4 :: 5 :: 6 :: 7 :: 8 :: 9 :: 10 :: 11 :: 12 :: 13 :: 14 :: 15 :: 16 :: 17 :: 18 :: 19 :: 20 :: 21 :: 22 :: 23 :: 24 :: 25 :: 26 :: 27 :: 28 :: 29 :: 30 :: 31 :: 32 :: []) :: (0 :: 1 :: 2 :: 3 :: 4 :: 5 :: 6 :: 7 :: 8 :: 9 :: 10 :: 11 :: 12 :: 13 :: 14 :: 15 :: 16 :: 17 :: 18 :: 19 :: 20 :: 21 :: 22 :: 23 :: 24 :: 25 :: 26 :: 27 :: 28 :: 29 :: 30 :: 31 :: 32 :: []) :: (0 :: 1 :: 2 :: 3 :: 4 :: 5 :: 6 :: 7 :: 8 :: 9 :: 10 :: 11 :: 12 :: 13 :: 14 :: 15 :: 16 :: 17 :: 18 :: 19 :: 20 :: 21 :: 22 :: 23 :: 24 :: 25 :: 26 :: 27 :: 28 :: 29 :: 30 :: 31 :: 32 :: 33 :: 34 :: []) :: (0 :: 1 :: 2 :: 3 :: 4 :: 5 :: 6 :: 7 :: 8 :: 9 :: 10 :: 11 :: 12 :: 13 :: 14 :: 15 :: 16 :: 17 :: 18 :: 19 :: 20 :: 21 :: 22 :: 23 :: 24 :: 25 :: 26 :: 27 :: 28 :: 29 :: 30 :: 31 :: 32 :: []) :: (0 :: 1 :: 2 :: 3 :: 4 :: 5 :: 6 :: 7 :: 8 :: 9 :: 10 :: 11 :: 12 :: 13 :: 14 :: 15 :: 16 :: 17 :: 18 :: 19 :: 20 :: 21 :: 22 :: 23 :: 24 :: 25 :: 26 :: 27 :: 28 :: 29 :: 30 :: 31 :: 32 :: []) :: (0 :: 1 :: 2 :: 3 :: 4 :: 5 :: 6 :: 7 :: 8 :: 9 :: 10 :: 11 :: 12 :: 13 :: 14 :: 15 :: 16 :: 17 :: 18 :: 19 :: 20 :: 21 :: 22 :: 23 :: 24 :: 25 :: 26 :: 27 :: 28 :: 29 :: 30 :: 31 :: 32 :: 33 :: 34 :: 35 :: 36 :: 37 :: []) :: (0 :: 1 :: 2 :: 3 :: 4 :: 5 :: 6 :: 7 :: 8 :: 9 :: 10 :: 11 :: 12 :: 13 :: 14 :: 15 :: 16 :: 17 :: 18 :: 19 :: 20 :: 21 :: 22 :: 23 :: 24 :: 25 :: 26 :: 27 :: 28 :: 29 :: 30 :: 31 :: 32 :: 33 :: 34 :: 35 :: 36 :: 37 :: 38 :: []) :: (0 :: 1 :: 2 :: 3 :: 4 :: 5 :: 6 :: 7 :: 8 :: 9 :: 10 :: 11 :: 12 :: 13 :: 14 :: 15 :: 16 :: 17 :: 18 :: 19 :: 20 :: 21 :: 22 :: 23 :: 24 :: 25 :: 26 :: 27 :: 28 :: 29 :: 30 :: 31 :: 32 :: 33 :: 34 :: 35 :: 36 :: 37 :: 38 :: 39 :: []) :: (0 :: 1 :: 2 :: 3 :: 4 :: 5 :: 6 :: 7 :: 8 :: 9 :: 10 :: 11 :: 12 :: 13 :: 14 :: 15 :: 16 :: 17 :: 18 :: 19 :: 20 :: 21 :: 22 :: 23 :: 24 :: 25 :: 26 :: 27 :: 28 :: 29 :: 30 :: 31 :: 32 :: 33 :: 34 :: 35 :: 36 :: 37 :: 38 :: 39 :: 40 :: []) :: (0 :: 1 :: 2 :: 3 :: 4 :: 5 :: 6 :: 7 :: 8 :: 9 :: 10 :: 11 :: 12 :: 13 :: 14 :: 15 :: 16 :: 17 :: 18 :: 19 :: 20 :: 21 :: 22 :: 23 :: 24 :: 25 :: 26 :: 27 :: 28 :: 29 :: 30 :: 31 :: 32 :: 33 :: 34 :: 35 :: 36 :: 37 :: 38 :: 39 :: 40 :: 41 :: []) :: (0 :: 1 :: 2 :: 3 :: 4 :: 5 :: 6 :: 7 :: 8 :: 9 :: 10 :: 11 :: 12 :: 13 :: 14 :: 15 :: 16 :: 17 :: 18 :: 19 :: 20 :: 21 :: 22 :: 23 :: 24 :: 25 :: 26 :: 27 :: 28 :: 29 :: 30 :: 31 :: 32 :: 33 :: 34 :: 35 :: 36 :: 37 :: 38 :: 39 :: 40 :: 41 :: 42 :: []) :: (0 :: 1 :: 2 :: 3 :: 4 :: 5 :: 6 :: 7 :: 8 :: 9 :: 10 :: 11 :: 12 :: 13 :: 14 :: 15 :: 16 :: 17 :: 18 :: 19 :: 20 :: 21 :: 22 :: 23 :: 24 :: 25 :: 26 :: 27 :: 28 :: 29 :: 30 :: 31 :: 32 :: 33 :: 34 :: 35 :: 36 :: 37 :: 38 :: 39 :: 40 :: 41 :: 42 :: 43 :: []) :: (0 :: 1 :: 2 :: 3 :: 4 :: 5 :: 6 :: 7 :: 8 :: 9 :: 10 :: 11 :: 12 :: 13 :: 14 :: 15 :: 16 :: 17 :: 18 :: 19 :: 20 :: 21 :: 22 :: 23 :: 24 :: 25 :: 26 :: 27 :: 28 :: 29 :: 30 :: 31 :: 32 :: 33 :: 34 :: 35 :: 36 :: 37 :: 38 :: 39 :: 40 :: 41 :: 42 :: 43 :: 44 :: []) :: [])) (sl' := [(6, .one (bB false))]) (hp' := []) follows rfl rfl rfl ⟨⟨rfl, trivial⟩, trivial, ⟨rfl, trivial⟩, trivial, ⟨rfl, rfl, trivial⟩, trivial, ⟨rfl, rfl, trivial⟩, trivial, ⟨rfl, trivial⟩, trivial, ⟨rfl, rfl, trivial⟩, trivial, ⟨rfl, rfl, trivial⟩, trivial, ⟨rfl, trivial⟩, trivial, ⟨rfl, rfl, trivial⟩, trivial, ⟨rfl, rfl, trivial⟩, trivial, ⟨rfl, trivial⟩, trivial, ⟨rfl, rfl, trivial⟩, trivial, ⟨rfl, rfl, trivial⟩, trivial, ⟨rfl, rfl, trivial⟩, trivial, ⟨rfl, rfl, trivial⟩, ⟨⟨rfl, rfl⟩, trivial⟩, ⟨rfl, rfl, rfl, trivial⟩, trivial, ⟨rfl, rfl, trivial⟩, trivial, ⟨rfl, rfl, trivial⟩, trivial, ⟨rfl, rfl, trivial⟩, trivial, ⟨rfl, rfl, trivial⟩, ⟨⟨rfl, rfl⟩, trivial⟩, ⟨rfl, rfl, rfl, trivial⟩, trivial, ⟨rfl, rfl, rfl, trivial⟩, trivial, ⟨rfl, rfl, trivial⟩, trivial, ⟨rfl, trivial⟩, trivial, ⟨rfl, rfl, trivial⟩, trivial, ⟨rfl, rfl, trivial⟩, trivial, ⟨rfl, rfl, rfl, trivial⟩, trivial, ⟨rfl, rfl, trivial⟩, trivial, ⟨rfl, rfl, trivial⟩, trivial, ⟨rfl, rfl, rfl, trivial⟩, trivial, ⟨rfl, rfl, rfl, trivial⟩, trivial, ⟨rfl, rfl, trivial⟩, trivial, ⟨rfl, trivial⟩, trivial, ⟨rfl, trivial⟩, trivial, ⟨rfl, trivial⟩, trivial, ⟨rfl, trivial⟩, trivial, ⟨rfl, trivial⟩, trivial, ⟨rfl, trivial⟩, trivial, ⟨rfl, trivial⟩, trivial, ⟨rfl, trivial⟩, trivial, ⟨rfl, trivial⟩, trivial, ⟨rfl, trivial⟩, trivial, ⟨rfl, trivial⟩, trivial, ⟨rfl, trivial⟩, trivial, ⟨rfl, trivial⟩, trivial, ⟨rfl, trivial⟩, trivial, trivial⟩ ⟨OpW.plain (op_move (Ev.t 7 (bB true)) rfl) rfl rfl, OpW.plain (op_move (Ev.t 54 (bB true)) rfl) rfl rfl, OpW.yes (op_move (Ev.t 10 (bB true)) rfl) rfl rfl rfl, OpW.plain (op_pickT (Ev.t 55 (bB true)) (Ev.t 56 (bB true)) rfl) rfl rfl, OpW.plain (op_move (Ev.t 57 (bB true)) rfl) rfl rfl, OpW.yes (op_move (Ev.t 11 (bB true)) rfl) rfl rfl rfl, OpW.plain (op_pickT (Ev.t 58 (bB true)) (Ev.t 59 (bB true)) rfl) rfl rfl, OpW.plain (op_move (Ev.t 60 (bB true)) rfl) rfl rfl, OpW.yes (op_move (Ev.t 12 (bB true)) rfl) rfl rfl rfl, OpW.plain (op_pickT (Ev.t 61 (bB true)) (Ev.t 62 (bB true)) rfl) rfl rfl, OpW.plain (op_move (Ev.t 63 (bB true)) rfl) rfl rfl, OpW.yes (op_move (Ev.t 8 (.g (.d (.sl 3 (List.map encApi_Dep r2))))) rfl) rfl rfl rfl, OpW.yes (op_fieldP (off' := 0) Try.underlying36 rfl ti26 (by decide) rfl (Ev.t 5 (.ptr 1005 0)) rfl) rfl rfl rfl, OpW.yes (op_fieldP (off' := 0) Try.underlying26 rfl ti9 (by decide) rfl (Ev.t 66 (.ptr 1005 0)) rfl) rfl rfl rfl, OpW.yes (op_load1P (c := bS q_2.Dep.Key) Try.underlying9 rfl rfl (Ev.t 67 (.ptr 1005 0)) rfl) rfl rfl rfl, OpW.yes (op_callQ (sv := .one (.g (.agg [.v (.int .i64 r18.N), .v (.int .i64 r18.Site)]))) cf12 (ct_past_Get r2 q_2.Dep.Key r18 hr18) rfl rfl (EvQL.cons (EvQ.g (Ev.t 65 (.g (.d (.sl 3 (List.map encApi_Dep r2)))))) (EvQL.cons (EvQ.g (Ev.t 68 (bS q_2.Dep.Key))) EvQL.nil)) rfl) rfl rfl rfl, OpW.yes (op_move (Ev.t 8 (.g (.d (.sl 3 (List.map encApi_Dep r2))))) rfl) rfl rfl rfl, OpW.yes (op_fieldP (off' := 0) Try.underlying36 rfl ti26 (by decide) rfl (Ev.t 5 (.ptr 1005 0)) rfl) rfl rfl rfl, OpW.yes (op_fieldP (off' := 0) Try.underlying26 rfl ti9 (by decide) rfl (Ev.t 71 (.ptr 1005 0)) rfl) rfl rfl rfl, OpW.yes (op_load1P (c := bS q_2.Dep.Key) Try.underlying9 rfl rfl (Ev.t 72 (.ptr 1005 0)) rfl) rfl rfl rfl, OpW.yes (op_callQ (sv := .one (.g (.agg [.v (.int .i64 r19.N), .v (.int .i64 r19.Site)]))) cf22 (ct_ref04_Get r2 q_2.Dep.Key r19 hr19) rfl rfl (EvQL.cons (EvQ.g (Ev.t 70 (.g (.d (.sl 3 (List.map encApi_Dep r2)))))) (EvQL.cons (EvQ.g (Ev.t 73 (bS q_2.Dep.Key))) EvQL.nil)) rfl) rfl rfl rfl, OpW.yes (OpL.cast (op_eqA (us := [.int .i64 r18.N, .int .i64 r18.Site]) (vs := [.int .i64 r19.N, .int .i64 r19.Site]) rfl rfl Try.eqGuardType24 (fun w => eq24 r18.N r18.Site r19.N r19.Site w) (Ev.t 69 (.g (.agg [.v (.int .i64 r18.N), .v (.int .i64 r18.Site)]))) (Ev.t 74 (.g (.agg [.v (.int .i64 r19.N), .v (.int .i64 r19.Site)]))) rfl) (congrArg (fun b => bB b) hc20)) rfl rfl rfl, OpW.plain (op_pickT (Ev.t 64 (bB true)) (Ev.t 75 (bB true)) rfl) rfl rfl, OpW.plain (op_move (Ev.t 76 (bB true)) rfl) rfl rfl, OpW.yes (op_move (Ev.t 8 (.g (.d (.sl 3 (List.map encApi_Dep r2))))) rfl) rfl rfl rfl, OpW.yes (op_move (Ev.t 9 (.g (.d (.sl 3 (List.map encApi_Dep r3))))) rfl) rfl rfl rfl, OpW.yes (op_callQ (sv := .one (bB r21)) cf15 (ct_past_Covers r2 r3 r21 hr21) rfl rfl (EvQL.cons (EvQ.g (Ev.t 78 (.g (.d (.sl 3 (List.map encApi_Dep r2)))))) (EvQL.cons (EvQ.g (Ev.t 79 (.g (.d (.sl 3 (List.map encApi_Dep r3)))))) EvQL.nil)) rfl) rfl rfl rfl, OpW.yes (op_move (Ev.t 8 (.g (.d (.sl 3 (List.map encApi_Dep r2))))) rfl) rfl rfl rfl, OpW.yes (op_move (Ev.t 9 (.g (.d (.sl 3 (List.map encApi_Dep r3))))) rfl) rfl rfl rfl, OpW.yes (op_callQ (sv := .one (bB r22)) cf23 (ct_ref04_Covers r2 r3 r22 hr22) rfl rfl (EvQL.cons (EvQ.g (Ev.t 81 (.g (.d (.sl 3 (List.map encApi_Dep r2)))))) (EvQL.cons (EvQ.g (Ev.t 82 (.g (.d (.sl 3 (List.map encApi_Dep r3)))))) EvQL.nil)) rfl) rfl rfl rfl, OpW.yes (OpL.cast (op_eqB Try.underlying4 (Ev.t 80 (bB r21)) (Ev.t 83 (bB r22)) rfl) (congrArg (fun b => bB b) hc23)) rfl rfl rfl, OpW.plain (op_pickT (Ev.t 77 (bB true)) (Ev.t 84 (bB false)) rfl) rfl rfl, OpW.plain (op_move (Ev.t 85 (bB false)) rfl) rfl rfl, OpW.no rfl rfl rfl rfl rfl, OpW.no rfl rfl rfl rfl rfl, OpW.no rfl rfl rfl rfl rfl, OpW.no rfl rfl rfl rfl rfl, OpW.no rfl rfl rfl rfl rfl, OpW.no rfl rfl rfl rfl rfl, OpW.no rfl rfl rfl rfl rfl, OpW.plain (op_pickF (Ev.t 86 (bB false)) (Ev.c _ rfl) rfl) rfl rfl, OpW.plain (op_move (Ev.t 94 (bB false)) rfl) rfl rfl, OpW.no rfl rfl rfl rfl rfl, OpW.no rfl rfl rfl rfl rfl, OpW.plain (op_pickF (Ev.t 95 (bB false)) (Ev.c _ rfl) rfl) rfl rfl, OpW.plain (op_assign (Ev.t 98 (bB false)) rfl) rfl rfl, trivial⟩ ⟨rfl, trivial⟩ trivial rfl ?_
                cases hF
                exact G.ret1 Try.results4 (RVar.tmp 6 _) ⟨rfl, trivial⟩ trivial
            · refine G.drawn (effs := (⟨[(7, .one (bB true))], [], [(54, .one (bB true))], []⟩ :: ⟨[(54, .one (bB true))], [], [(55, .one (bB true))], []⟩ :: ⟨[(55, .one (bB true)), (10, .one (bB true))], [], [(56, .one (bB true))], []⟩ :: ⟨[(55, .one (bB true)), (56, .one (bB true))], [], [(57, .one (bB true))], []⟩ :: ⟨[(57, .one (bB true))], [], [(58, .one (bB true))], []⟩ :: ⟨[(58, .one (bB true)), (11, .one (bB true))], [], [(59, .one (bB true))], []⟩ :: ⟨[(58, .one (bB true)), (59, .one (bB true))], [], [(60, .one (bB true))], []⟩ :: ⟨[(60, .one (bB true))], [], [(61, .one (bB true))], []⟩ :: ⟨[(61, .one (bB true)), (12, .one (bB true))], [], [(62, .one (bB true))], []⟩ :: ⟨[(61, .one (bB true)), (62, .one (bB true))], [], [(63, .one (bB true))], []⟩ :: ⟨[(63, .one (bB true))], [], [(64, .one (bB true))], []⟩ :: ⟨[(64, .one (bB true)), (8, .one (.g (.d (.sl 3 (List.map encApi_Dep r2)))))], [], [(65, .one (.g (.d (.sl 3 (List.map encApi_Dep r2)))))], []⟩ :: ⟨[(64, .one (bB true)), (5, .one (.ptr 1005 0))], [], [(66, .one (.ptr 1005 0))], []⟩ :: ⟨[(64, .one (bB true)), (66, .one (.ptr 1005 0))], [], [(67, .one (.ptr 1005 0))], []⟩ :: ⟨[(64, .one (bB true)), (67, .one (.ptr 1005 0))], [(1005, some (.blk 36 [bS q_2.Dep.Key, bI .i64 q_2.Dep.Stamp.N, bI .i64 q_2.Dep.Stamp.Site, .g (.d (.sl 2 (List.map encApi_Range y4)))]))], [(68, .one (bS q_2.Dep.Key))], []⟩ :: ⟨[(64, .one (bB true)), (65, .one (.g (.d (.sl 3 (List.map encApi_Dep r2))))), (68, .one (bS q_2.Dep.Key))], [], [(69, .one (.g (.agg [.v (.int .i64 r18.N), .v (.int .i64 r18.Site)])))], []⟩ :: ⟨[(64, .one (bB true)), (8, .one (.g (.d (.sl 3 (List.map encApi_Dep r2)))))], [], [(70, .one (.g (.d (.sl 3 (List.map encApi_Dep r2)))))], []⟩ :: ⟨[(64, .one (bB true)), (5, .one (.ptr 1005 0))], [], [(71, .one (.ptr 1005 0))], []⟩ :: ⟨[(64, .one (bB true)), (71, .one (.ptr 1005 0))], [], [(72, .one (.ptr 1005 0))], []⟩ :: ⟨[(64, .one (bB true)), (72, .one (.ptr 1005 0))], [(1005, some (.blk 36 [bS q_2.Dep.Key, bI .i64 q_2.Dep.Stamp.N, bI .i64 q_2.Dep.Stamp.Site, .g (.d (.sl 2 (List.map encApi_Range y4)))]))], [(73, .one (bS q_2.Dep.Key))], []⟩ :: ⟨[(64, .one (bB true)), (70, .one (.g (.d (.sl 3 (List.map encApi_Dep r2))))), (73, .one (bS q_2.Dep.Key))], [], [(74, .one (.g (.agg [.v (.int .i64 r19.N), .v (.int .i64 r19.Site)])))], []⟩ :: ⟨[(64, .one (bB true)), (69, .one (.g (.agg [.v (.int .i64 r18.N), .v (.int .i64 r18.Site)]))), (74, .one (.g (.agg [.v (.int .i64 r19.N), .v (.int .i64 r19.Site)])))], [], [(75, .one (bB false))], []⟩ :: ⟨[(64, .one (bB true)), (75, .one (bB false))], [], [(76, .one (bB false))], []⟩ :: ⟨[(76, .one (bB false))], [], [(77, .one (bB false))], []⟩ :: ⟨[(77, .one (bB false))], [], [(78, .one (.x Go.undef))], []⟩ :: ⟨[(77, .one (bB false))], [], [(79, .one (.x Go.undef))], []⟩ :: ⟨[(77, .one (bB false))], [], [(80, .one (.x Go.undef))], []⟩ :: ⟨[(77, .one (bB false))], [], [(81, .one (.x Go.undef))], []⟩ :: ⟨[(77, .one (bB false))], [], [(82, .one (.x Go.undef))], []⟩ :: ⟨[(77, .one (bB false))], [], [(83, .one (.x Go.undef))], []⟩ :: ⟨[(77, .one (bB false))], [], [(84, .one (.x Go.undef))], []⟩ :: ⟨[(77, .one (bB false))], [], [(85, .one (bB false))], []⟩ :: ⟨[(85, .one (bB false))], [], [(86, .one (bB false))], []⟩ :: ⟨[(86, .one (bB false))], [], [(87, .one (.x Go.undef))], []⟩ :: ⟨[(86, .one (bB false))], [], [(88, .one (.x Go.undef))], []⟩ :: ⟨[(86, .one (bB false))], [], [(89, .one (.x Go.undef))], []⟩ :: ⟨[(86, .one (bB false))], [], [(90, .one (.x Go.undef))], []⟩ :: ⟨[(86, .one (bB false))], [], [(91, .one (.x Go.undef))], []⟩ :: ⟨[(86, .one (bB false))], [], [(92, .one (.x Go.undef))], []⟩ :: ⟨[(86, .one (bB false))], [], [(93, .one (.x Go.undef))], []⟩ :: ⟨[(86, .one (bB false))], [], [(94, .one (bB false))], []⟩ :: ⟨[(94, .one (bB false))], [], [(95, .one (bB false))], []⟩ :: ⟨[(95, .one (bB false))], [], [(96, .one (.x Go.undef))], []⟩ :: ⟨[(95, .one (bB false))], [], [(97, .one (.x Go.undef))], []⟩ :: ⟨[(95, .one (bB false))], [], [(98, .one (bB false))], []⟩ :: ⟨[(98, .one (bB false))], [], [(6, .one (bB false))], []⟩ :: [])) (deps := ([] :: [0] :: [0, 1] :: [0, 1, 2] :: [0, 1, 2, 3] :: [0, 1, 2, 3, 4] :: [0, 1, 2, 3, 4, 5] :: [0, 1, 2, 3, 4, 5, 6] :: [0, 1, 2, 3, 4, 5, 6, 7] :: [0, 1, 2, 3, 4, 5, 6, 7, 8] :: [0, 1, 2, 3, 4, 5, 6, 7, 8, 9] :: [0, 1, 2, 3, 4, 5, 6, 7, 8, 9, 10] :: [0, 1, 2, 3, 4, 5, 6, 7, 8, 9, 10] :: [0, 1, 2, 3, 4, 5, 6, 7, 8, 9, 10, 12] :: [0, 1, 2, 3, 4, 5, 6, 7, 8, 9, 10, 12, 13] :: [0, 1, 2, 3, 4, 5, 6, 7, 8, 9, 10, 11, 12, 13, 14] :: [0, 1, 2, 3, 4, 5, 6, 7, 8, 9, 10] :: [0, 1, 2, 3, 4, 5, 6, 7, 8, 9, 10] :: [0, 1, 2, 3, 4, 5, 6, 7, 8, 9, 10, 17] :: [0, 1, 2, 3, 4, 5, 6, 7, 8, 9, 10, 17, 18] :: [0, 1, 2, 3, 4, 5, 6, 7, 8, 9, 10, 11, 12, 13, 14, 15, 16, 17, 18, 19] :: (0 :: 1 :: 2 :: 3 :: 4 :: 5 :: 6 :: 7 :: 8 :: 9 :: 10 :: 11 :: 12 :: 13 :: 14 :: 15 :: 16 :: 17 :: 18 :: 19 :: 20 :: []) :: (0 :: 1 :: 2 :: 3 :: 4 :: 5 :: 6 :: 7 :: 8 :: 9 :: 10 :: 11 :: 12 :: 13 :: 14 :: 15 :: 16 :: 17 :: 18 :: 19 :: 20 :: 21 :: []) :: (0 :: 1 :: 2 :: 3 :: 4 :: 5 :: 6 :: 7 :: 8 :: 9 :: 10 :: 11 :: 12 :: 13 :: 14 :: 15 :: 16 :: 17 :: 18 :: 19 :: 20 :: 21 :: 22 :: []) :: (0 :: 1 :: 2 :: 3 :: 4 :: 5 :: 6 :: 7 :: 8 :: 9 :: 10 :: 11 :: 12 :: 13 :: 14 :: 15 :: 16 :: 17 :: 18 :: 19 :: 20 :: 21 :: 22 :: 23 :: []) :: (0 :: 1 :: 2 :: 3 :: 4 :: 5 :: 6 :: 7 :: 8 :: 9 :: 10 :: 11 :: 12 :: 13 :: 14 :: 15 :: 16 :: 17 :: 18 :: 19 :: 20 :: 21 :: 22 :: 23 :: []) :: (0 :: 1 :: 2 :: 3 :: 4 :: 5 :: 6 :: 7 :: 8 :: 9 :: 10 :: 11 :: 12 :: 13 :: 14 :: 15 :: 16 :: 17 :: 18 :: 19 :: 20 :: 21 :: 22 :: 23 :: 24 :: 25 :: []) :: (0 :: 1 :: 2 :: 3 :: 4 :: 5 :: 6 :: 7 :: 8 :: 9 :: 10 :: 11 :: 12 :: 13 :: 14 :: 15 :: 16 :: 17 :: 18 :: 19 :: 20 :: 21 :: 22 :: 23 :: []) :: (0 :: 1 :: 2 :: 3 :: 4 :: 5 :: 6 :: 7 :: 8 :: 9 :: 10 :: 11 :: 12 :: 13 :: 14 :: 15 :: 16 :: 17 :: 18 :: 19 :: 20 :: 21 :: 22 :: 23 :: []) :: (0 :: 1 :: 2 :: 3 :: 4 :: 5 :: 6 :: 7 :: 8 :: 9 :: 10 :: 11 :: 12 :: 13 :: 14 :: 15 :: 16 :: 17 :: 18 :: 19 :: 20 :: 21 :: 22 :: 23 :: 24 :: 25 :: 26 :: 27 :: 28 :: []) :: (0 :: 1 :: 2 :: 3 :: 4 :: 5 :: 6 :: 7 :: 8 :: 9 :: 10 :: 11 :: 12 :: 13 :: 14 :: 15 :: 16 :: 17 :: 18 :: 19 :: 20 :: 21 :: 22 :: 23 :: 24 :: 25 :: 26 :: 27 :: 28 :: 29 :: []) :: (0 :: 1 :: 2 :: 3 :: 4 :: 5 :: 6 :: 7 :: 8 :: 9 :: 10 :: 11 :: 12 :: 13 :: 14 :: 15 :: 16 :: 17 :: 18 :: 19 :: 20 :: 21 :: 22 :: 23 :: 24 :: 25 :: 26 :: 27 :: 28 :: 29 :: 30 :: []) :: (0 :: 1 :: 2 :: 3 :: 4 :: 5 :: 6 :: 7 :: 8 :: 9 :: 10 :: 11 :: 12 :: 13 :: 14 :: 15 :: 16 :: 17 :: 18 :: 19 :: 20 :: 21 :: 22 :: 23 :: 24 :: 25 :: 26 :: 27 :: 28 :: 29 :: 30 :: 31 :: []) :: (0 :: 1 :: 2 :: 3 :: 4 :: 5 :: 6 :: 7 :: 8 :: 9 :: 10 :: 11 :: 12 :: 13 :: 14 :: 15 :: 16 :: 17 :: 18 :: 19 :: 20 :: 21 :: 22 :: 23 :: 24 :: 25 :: 26 :: 27 :: 28 :: 29 :: 30 :: 31 :: 32 :: []) :: (0 :: 1 :: 2 :: 3 :: 4 :: 5 :: 6 :: 7 :: 8 :: 9 :: 10 :: 11 :: 12 :: 13 :: 14 :: 15 :: 16 :: 17 :: 18 :: 19 :: 20 :: 21 :: 22 :: 23 :: 24 :: 25 :: 26 :: 27 :: 28 :: 29 :: 30 :: 31 :: 32 :: []) :: (0 :: 1 :: 2 :: 3 :: 4 :: 5 :: 6 :: 7 :: 8 :: 9 :: 10 :: 11 :: 12 :: 13 :: 14 :: 15 :: 16 :: 17 :: 18 :: 19 :: 20 :: 21 :: 22 :: 23 :: 24 :: 25 :: 26 :: 27 :: 28 :: 29 :: 30 :: 31 :: 32 :: 33 :: 34 :: []) :: (0 :: 1 :: 2 :: 3 :: 4 :: 5 :: 6 :: 7 :: 8 :: 9 :: 10 :: 11 :: 12 :: 13 :: 14 :: 15 :: 16 :: 17 :: 18 :: 19 :: 20 :: 21 :: 22 :: 23 :: 24 :: 25 :: 26 :: 27 :: 28 :: 29 :: 30 :: 31 :: 32 :: []) :: (0 :: 1 :: 2 :: 3 :: 4 :: 5 :: 6 :: 7 :: 8 :: 9 :: 10 :: 11 :: 12 :: 13 :: 14 :: 15 :: 16 :: 17 :: 18 :: 19 :: 20 :: 21 :: 22 :: 23 :: 24 :: 25 :: 26 :: 27 :: 28 :: 29 :: 30 :: 31 :: 32 :: []) :: (0 :: 1 :: 2 :: 3 :: 4 :: 5 :: 6 :: 7 :: 8 :: 9 :: 10 :: 11 :: 12 :: 13 :: 14 :: 15 :: 16 :: 17 :: 18 :: 19 :: 20 :: 21 :: 22 :: 23 :: 24 :: 25 :: 26 :: 27 :: 28 :: 29 :: 30 :: 31 :: 32 :: 33 :: 34 :: 35 :: 36 :: 37 :: []) :: (0 :: 1 :: 2 :: 3 :: 4 :: 5 :: 6 :: 7 :: 8 :: 9 :: 10 :: 11 :: 12 :: 13 :: 14 :: 15 :: 16 :: 17 :: 18 :: 19 :: 20 :: 21 :: 22 :: 23 :: 24 :: 25 :: 26 :: 27 :: 28 :: 29 :: 30 :: 31 :: 32 :: 33 :: 34 :: 35 :: 36 :: 37 :: 38 :: []) :: (0 :: 1 :: 2 :: 3 :: 4 :: 5 :: 6 :: 7 :: 8 :: 9 :: 10 :: 11 :: 12 :: 13 :: 14 :: 15 :: 16 :: 17 :: 18 :: 19 :: 20 :: 21 :: 22 :: 23 :: 24 :: 25 :: 26 :: 27 :: 28 :: 29 :: 30 :: 31 :: 32 :: 33 :: 34 :: 35 :: 36 :: 37 :: 38 :: 39 :: []) :: (0 :: 1 :: 2 :: 3 :: 4 :: 5 :: 6 :: 7 :: 8 :: 9 :: 10 :: 11 :: 12 :: 13 :: 14 :: 15 :: 16 :: 17 :: 18 :: 19 :: 20 :: 21 :: 22 :: 23 :: 24 :: 25 :: 26 :: 27 :: 28 :: 29 :: 30 :: 31 :: 32 :: 33 :: 34 :: 35 :: 36 :: 37 :: 38 :: 39 :: 40 :: []) :: (0 :: 1 :: 2 :: 3 :: 4 :: 5 :: 6 :: 7 :: 8 :: 9 :: 10 :: 11 :: 12 :: 13 :: 14 :: 15 :: 16 :: 17 :: 18 :: 19 :: 20 :: 21 :: 22 :: 23 :: 24 :: 25 :: 26 :: 27 :: 28 :: 29 :: 30 :: 31 :: 32 :: 33 :: 34 :: 35 :: 36 :: 37 :: 38 :: 39 :: 40 :: 41 :: []) :: (0 :: 1 :: 2 :: 3 :: 4 :: 5 :: 6 :: 7 :: 8 :: 9 :: 10 :: 11 :: 12 :: 13 :: 14 :: 15 :: 16 :: 17 :: 18 :: 19 :: 20 :: 21 :: 22 :: 23 :: 24 :: 25 :: 26 :: 27 :: 28 :: 29 :: 30 :: 31 :: 32 :: 33 :: 34 :: 35 :: 36 :: 37 :: 38 :: 39 :: 40 :: 41 :: 42 :: []) :: (0 :: 1 :: 2 :: 3 :: 4 :: 5 :: 6 :: 7 :: 8 :: 9 :: 10 :: 11 :: 12 :: 13 :: 14 :: 15 :: 16 :: 17 :: 18 :: 19 :: 20 :: 21 :: 22 :: 23 :: 24 :: 25 :: 26 :: 27 :: 28 :: 29 :: 30 :: 31 :: 32 :: 33 :: 34 :: 35 :: 36 :: 37 :: 38 :: 39 :: 40 :: 41 :: 42 :: 43 :: []) :: (0 :: 1 :: 2 :: 3 :: 4 :: 5 :: 6 :: 7 :: 8 :: 9 :: 10 :: 11 :: 12 :: 13 :: 14 :: 15 :: 16 :: 17 :: 18 :: 19 :: 20 :: 21 :: 22 :: 23 :: 24 :: 25 :: 26 :: 27 :: 28 :: 29 :: 30 :: 31 :: 32 :: 33 :: 34 :: 35 :: 36 :: 37 :: 38 :: 39 :: 40 :: 41 :: 42 :: 43 :: 44 :: []) :: [])) (sl' := [(6, .one (bB false))]) (hp' := []) follows rfl rfl rfl ⟨⟨rfl, trivial⟩, trivial, ⟨rfl, trivial⟩, trivial, ⟨rfl, rfl, trivial⟩, trivial, ⟨rfl, rfl, trivial⟩, trivial, ⟨rfl, trivial⟩, trivial, ⟨rfl, rfl, trivial⟩, trivial, ⟨rfl, rfl, trivial⟩, trivial, ⟨rfl, trivial⟩, trivial, ⟨rfl, rfl, trivial⟩, trivial, ⟨rfl, rfl, trivial⟩, trivial, ⟨rfl, trivial⟩, trivial, ⟨rfl, rfl, trivial⟩, trivial, ⟨rfl, rfl, trivial⟩, trivial, ⟨rfl, rfl, trivial⟩, trivial, ⟨rfl, rfl, trivial⟩, ⟨⟨rfl, rfl⟩, trivial⟩, ⟨rfl, rfl, rfl, trivial⟩, trivial, ⟨rfl, rfl, trivial⟩, trivial, ⟨rfl, rfl, trivial⟩, trivial, ⟨rfl, rfl, trivial⟩, trivial, ⟨rfl, rfl, trivial⟩, ⟨⟨rfl, rfl⟩, trivial⟩, ⟨rfl, rfl, rfl, trivial⟩, trivial, ⟨rfl, rfl, rfl, trivial⟩, trivial, ⟨rfl, rfl, trivial⟩, trivial, ⟨rfl, trivial⟩, trivial, ⟨rfl, trivial⟩, trivial, ⟨rfl, trivial⟩, trivial, ⟨rfl, trivial⟩, trivial, ⟨rfl, trivial⟩, trivial, ⟨rfl, trivial⟩, trivial, ⟨rfl, trivial⟩, trivial, ⟨rfl, trivial⟩, trivial, ⟨rfl, trivial⟩, trivial, ⟨rfl, trivial⟩, trivial, ⟨rfl, trivial⟩, trivial, ⟨rfl, trivial⟩, trivial, ⟨rfl, trivial⟩, trivial, ⟨rfl, trivial⟩, trivial, ⟨rfl, trivial⟩, trivial, ⟨rfl, trivial⟩, trivial, ⟨rfl, trivial⟩, trivial, ⟨rfl, trivial⟩, trivial, ⟨rfl, trivial⟩, trivial, ⟨rfl, trivial⟩, trivial, ⟨rfl, trivial⟩, trivial, ⟨rfl, trivial⟩, trivial, ⟨rfl, trivial⟩, trivial, trivial⟩ ⟨OpW.plain (op_move (Ev.t 7 (bB true)) rfl) rfl rfl, OpW.plain (op_move (Ev.t 54 (bB true)) rfl) rfl rfl, OpW.yes (op_move (Ev.t 10 (bB true)) rfl) rfl rfl rfl, OpW.plain (op_pickT (Ev.t 55 (bB true)) (Ev.t 56 (bB true)) rfl) rfl rfl, OpW.plain (op_move (Ev.t 57 (bB true)) rfl) rfl rfl, OpW.yes (op_move (Ev.t 11 (bB true)) rfl) rfl rfl rfl, OpW.plain (op_pickT (Ev.t 58 (bB true)) (Ev.t 59 (bB true)) rfl) rfl rfl, OpW.plain (op_move (Ev.t 60 (bB true)) rfl) rfl rfl, OpW.yes (op_move (Ev.t 12 (bB true)) rfl) rfl rfl rfl, OpW.plain (op_pickT (Ev.t 61 (bB true)) (Ev.t 62 (bB true)) rfl) rfl rfl, OpW.plain (op_move (Ev.t 63 (bB true)) rfl) rfl rfl, OpW.yes (op_move (Ev.t 8 (.g (.d (.sl 3 (List.map encApi_Dep r2))))) rfl) rfl rfl rfl, OpW.yes (op_fieldP (off' := 0) Try.underlying36 rfl ti26 (by decide) rfl (Ev.t 5 (.ptr 1005 0)) rfl) rfl rfl rfl, OpW.yes (op_fieldP (off' := 0) Try.underlying26 rfl ti9 (by decide) rfl (Ev.t 66 (.ptr 1005 0)) rfl) rfl rfl rfl, OpW.yes (op_load1P (c := bS q_2.Dep.Key) Try.underlying9 rfl rfl (Ev.t 67 (.ptr 1005 0)) rfl) rfl rfl rfl, OpW.yes (op_callQ (sv := .one (.g (.agg [.v (.int .i64 r18.N), .v (.int .i64 r18.Site)]))) cf12 (ct_past_Get r2 q_2.Dep.Key r18 hr18) rfl rfl (EvQL.cons (EvQ.g (Ev.t 65 (.g (.d (.sl 3 (List.map encApi_Dep r2)))))) (EvQL.cons (EvQ.g (Ev.t 68 (bS q_2.Dep.Key))) EvQL.nil)) rfl) rfl rfl rfl, OpW.yes (op_move (Ev.t 8 (.g (.d (.sl 3 (List.map encApi_Dep r2))))) rfl) rfl rfl rfl, OpW.yes (op_fieldP (off' := 0) Try.underlying36 rfl ti26 (by decide) rfl (Ev.t 5 (.ptr 1005 0)) rfl) rfl rfl rfl, OpW.yes (op_fieldP (off' := 0) Try.underlying26 rfl ti9 (by decide) rfl (Ev.t 71 (.ptr 1005 0)) rfl) rfl rfl rfl, OpW.yes (op_load1P (c := bS q_2.Dep.Key) Try.underlying9 rfl rfl (Ev.t 72 (.ptr 1005 0)) rfl) rfl rfl rfl, OpW.yes (op_callQ (sv := .one (.g (.agg [.v (.int .i64 r19.N), .v (.int .i64 r19.Site)]))) cf22 (ct_ref04_Get r2 q_2.Dep.Key r19 hr19) rfl rfl (EvQL.cons (EvQ.g (Ev.t 70 (.g (.d (.sl 3 (List.map encApi_Dep r2)))))) (EvQL.cons (EvQ.g (Ev.t 73 (bS q_2.Dep.Key))) EvQL.nil)) rfl) rfl rfl rfl, OpW.yes (OpL.cast (op_eqA (us := [.int .i64 r18.N, .int .i64 r18.Site]) (vs := [.int .i64 r19.N, .int .i64 r19.Site]) rfl rfl Try.eqGuardType24 (fun w => eq24 r18.N r18.Site r19.N r19.Site w) (Ev.t 69 (.g (.agg [.v (.int .i64 r18.N), .v (.int .i64 r18.Site)]))) (Ev.t 74 (.g (.agg [.v (.int .i64 r19.N), .v (.int .i64 r19.Site)]))) rfl) (congrArg (fun b => bB b) hc20)) rfl rfl rfl, OpW.plain (op_pickT (Ev.t 64 (bB true)) (Ev.t 75 (bB false)) rfl) rfl rfl, OpW.plain (op_move (Ev.t 76 (bB false)) rfl) rfl rfl, OpW.no rfl rfl rfl rfl rfl, OpW.no rfl rfl rfl rfl rfl, OpW.no rfl rfl rfl rfl rfl, OpW.no rfl rfl rfl rfl rfl, OpW.no rfl rfl rfl rfl rfl, OpW.no rfl rfl rfl rfl rfl, OpW.no rfl rfl rfl rfl rfl, OpW.plain (op_pickF (Ev.t 77 (bB false)) (Ev.c _ rfl) rfl) rfl rfl, OpW.plain (op_move (Ev.t 85 (bB false)) rfl) rfl rfl, OpW.no rfl rfl rfl rfl rfl, OpW.no rfl rfl rfl rfl rfl, OpW.no rfl rfl rfl rfl rfl, OpW.no rfl rfl rfl rfl rfl, OpW.no rfl rfl rfl rfl rfl, OpW.no rfl rfl rfl rfl rfl, OpW.no rfl rfl rfl rfl rfl, OpW.plain (op_pickF (Ev.t 86 (bB false)) (Ev.c _ rfl) rfl) rfl rfl, OpW.plain (op_move (Ev.t 94 (bB false)) rfl) rfl rfl, OpW.no rfl rfl rfl rfl rfl, OpW.no rfl rfl rfl rfl rfl, OpW.plain (op_pickF (Ev.t 95 (bB false)) (Ev.c _ rfl) rfl) rfl rfl, OpW.plain (op_assign (Ev.t 98 (bB false)) rfl) rfl rfl, trivial⟩ ⟨rfl, trivial⟩ trivial rfl ?_
              cases hF
              exact G.ret1 Try.results4 (RVar.tmp 6 _) ⟨rfl, trivial⟩ trivial
          · refine G.known (t := 12) (c := false) hc17 rfl ?_
            refine G.drawn (effs := (⟨[(7, .one (bB true))], [], [(54, .one (bB true))], []⟩ :: ⟨[(54, .one (bB true))], [], [(55, .one (bB true))], []⟩ :: ⟨[(55, .one (bB true)), (10, .one (bB true))], [], [(56, .one (bB true))], []⟩ :: ⟨[(55, .one (bB true)), (56, .one (bB true))], [], [(57, .one (bB true))], []⟩ :: ⟨[(57, .one (bB true))], [], [(58, .one (bB true))], []⟩ :: ⟨[(58, .one (bB true)), (11, .one (bB true))], [], [(59, .one (bB true))], []⟩ :: ⟨[(58, .one (bB true)), (59, .one (bB true))], [], [(60, .one (bB true))], []⟩ :: ⟨[(60, .one (bB true))], [], [(61, .one (bB true))], []⟩ :: ⟨[(61, .one (bB true)), (12, .one (bB false))], [], [(62, .one (bB false))], []⟩ :: ⟨[(61, .one (bB true)), (62, .one (bB false))], [], [(63, .one (bB false))], []⟩ :: ⟨[(63, .one (bB false))], [], [(64, .one (bB false))], []⟩ :: ⟨[(64, .one (bB false))], [], [(65, .one (.x Go.undef))], []⟩ :: ⟨[(64, .one (bB false))], [], [(66, .one (.x Go.undef))], []⟩ :: ⟨[(64, .one (bB false))], [], [(67, .one (.x Go.undef))], []⟩ :: ⟨[(64, .one (bB false))], [], [(68, .one (.x Go.undef))], []⟩ :: ⟨[(64, .one (bB false))], [], [(69, .one (.x Go.undef))], []⟩ :: ⟨[(64, .one (bB false))], [], [(70, .one (.x Go.undef))], []⟩ :: ⟨[(64, .one (bB false))], [], [(71, .one (.x Go.undef))], []⟩ :: ⟨[(64, .one (bB false))], [], [(72, .one (.x Go.undef))], []⟩ :: ⟨[(64, .one (bB false))], [], [(73, .one (.x Go.undef))], []⟩ :: ⟨[(64, .one (bB false))], [], [(74, .one (.x Go.undef))], []⟩ :: ⟨[(64, .one (bB false))], [], [(75, .one (.x Go.undef))], []⟩ :: ⟨[(64, .one (bB false))], [], [(76, .one (bB false))], []⟩ :: ⟨[(76, .one (bB false))], [], [(77, .one (bB false))], []⟩ :: ⟨[(77, .one (bB false))], [], [(78, .one (.x Go.undef))], []⟩ :: ⟨[(77, .one (bB false))], [], [(79, .one (.x Go.undef))], []⟩ :: ⟨[(77, .one (bB false))], [], [(80, .one (.x Go.undef))], []⟩ :: ⟨[(77, .one (bB false))], [], [(81, .one (.x Go.undef))], []⟩ :: ⟨[(77, .one (bB false))], [], [(82, .one (.x Go.undef))], []⟩ :: ⟨[(77, .one (bB false))], [], [(83, .one (.x Go.undef))], []⟩ :: ⟨[(77, .one (bB false))], [], [(84, .one (.x Go.undef))], []⟩ :: ⟨[(77, .one (bB false))], [], [(85, .one (bB false))], []⟩ :: ⟨[(85, .one (bB false))], [], [(86, .one (bB false))], []⟩ :: ⟨[(86, .one (bB false))], [], [(87, .one (.x Go.undef))], []⟩ :: ⟨[(86, .one (bB false))], [], [(88, .one (.x Go.undef))], []⟩ :: ⟨[(86, .one (bB false))], [], [(89, .one (.x Go.undef))], []⟩ :: ⟨[(86, .one (bB false))], [], [(90, .one (.x Go.undef))], []⟩ :: ⟨[(86, .one (bB false))], [], [(91, .one (.x Go.undef))], []⟩ :: ⟨[(86, .one (bB false))], [], [(92, .one (.x Go.undef))], []⟩ :: ⟨[(86, .one (bB false))], [], [(93, .one (.x Go.undef))], []⟩ :: ⟨[(86, .one (bB false))], [], [(94, .one (bB false))], []⟩ :: ⟨[(94, .one (bB false))], [], [(95, .one (bB false))], []⟩ :: ⟨[(95, .one (bB false))], [], [(96, .one (.x Go.undef))], []⟩ :: ⟨[(95, .one (bB false))], [], [(97, .one (.x Go.undef))], []⟩ :: ⟨[(95, .one (bB false))], [], [(98, .one (bB false))], []⟩ :: ⟨[(98, .one (bB false))], [], [(6, .one (bB false))], []⟩ :: [])) (deps := ([] :: [0] :: [0, 1] :: [0, 1, 2] :: [0, 1, 2, 3] :: [0, 1, 2, 3, 4] :: [0, 1, 2, 3, 4, 5] :: [0, 1, 2, 3, 4, 5, 6] :: [0, 1, 2, 3, 4, 5, 6, 7] :: [0, 1, 2, 3, 4, 5, 6, 7, 8] :: [0, 1, 2, 3, 4, 5, 6, 7, 8, 9] :: [0, 1, 2, 3, 4, 5, 6, 7, 8, 9, 10] :: [0, 1, 2, 3, 4, 5, 6, 7, 8, 9, 10] :: [0, 1, 2, 3, 4, 5, 6, 7, 8, 9, 10, 12] :: [0, 1, 2, 3, 4, 5, 6, 7, 8, 9, 10, 12, 13] :: [0, 1, 2, 3, 4, 5, 6, 7, 8, 9, 10, 11, 12, 13, 14] :: [0, 1, 2, 3, 4, 5, 6, 7, 8, 9, 10] :: [0, 1, 2, 3, 4, 5, 6, 7, 8, 9, 10] :: [0, 1, 2, 3, 4, 5, 6, 7, 8, 9, 10, 17] :: [0, 1, 2, 3, 4, 5, 6, 7, 8, 9, 10, 17, 18] :: [0, 1, 2, 3, 4, 5, 6, 7, 8, 9, 10, 11, 12, 13, 14, 15, 16, 17, 18, 19] :: (0 :: 1 :: 2 :: 3 :: 4 :: 5 :: 6 :: 7 :: 8 :: 9 :: 10 :: 11 :: 12 :: 13 :: 14 :: 15 :: 16 :: 17 :: 18 :: 19 :: 20 :: []) :: (0 :: 1 :: 2 :: 3 :: 4 :: 5 :: 6 :: 7 :: 8 :: 9 :: 10 :: 11 :: 12 :: 13 :: 14 :: 15 :: 16 :: 17 :: 18 :: 19 :: 20 :: 21 :: []) :: (0 :: 1 :: 2 :: 3 :: 4 :: 5 :: 6 :: 7 :: 8 :: 9 :: 10 :: 11 :: 12 :: 13 :: 14 :: 15 :: 16 :: 17 :: 18 :: 19 :: 20 :: 21 :: 22 :: []) :: (0 :: 1 :: 2 :: 3 :: 4 :: 5 :: 6 :: 7 :: 8 :: 9 :: 10 :: 11 :: 12 :: 13 :: 14 :: 15 :: 16 :: 17 :: 18 :: 19 :: 20 :: 21 :: 22 :: 23 :: []) :: (0 :: 1 :: 2 :: 3 :: 4 :: 5 :: 6 :: 7 :: 8 :: 9 :: 10 :: 11 :: 12 :: 13 :: 14 :: 15 :: 16 :: 17 :: 18 :: 19 :: 20 :: 21 :: 22 :: 23 :: []) :: (0 :: 1 :: 2 :: 3 :: 4 :: 5 :: 6 :: 7 :: 8 :: 9 :: 10 :: 11 :: 12 :: 13 :: 14 :: 15 :: 16 :: 17 :: 18 :: 19 :: 20 :: 21 :: 22 :: 23 :: 24 :: 25 :: []) :: (0 :: 1 :: 2 :: 3 :: 4 :: 5 :: 6 :: 7 :: 8 :: 9 :: 10 :: 11 :: 12 :: 13 :: 14 :: 15 :: 16 :: 17 :: 18 :: 19 :: 20 :: 21 :: 22 :: 23 :: []) :: (0 :: 1 :: 2 :: 3 :: 4 :: 5 :: 6 :: 7 :: 8 :: 9 :: 10 :: 11 :: 12 :: 13 :: 14 :: 15 :: 16 :: 17 :: 18 :: 19 :: 20 :: 21 :: 22 :: 23 :: []) :: (0 :: 1 :: 2 :: 3 :: 4 :: 5 :: 6 :: 7 :: 8 :: 9 :: 10 :: 11 :: 12 :: 13 :: 14 :: 15 :: 16 :: 17 :: 18 :: 19 :: 20 :: 21 :: 22 :: 23 :: 24 :: 25 :: 26 :: 27 :: 28 :: []) :: (0 :: 1 :: 2 :: 3 :: 4 :: 5 :: 6 :: 7 :: 8 :: 9 :: 10 :: 11 :: 12 :: 13 :: 14 :: 15 :: 16 :: 17 :: 18 :: 19 :: 20 :: 21 :: 22 :: 23 :: 24 :: 25 :: 26 :: 27 :: 28 :: 29 :: []) :: (0 :: 1 :: 2 :: 3 :: 4 :: 5 :: 6 :: 7 :: 8 :: 9 :: 10 :: 11 :: 12 :: 13 :: 14 :: 15 :: 16 :: 17 :: 18 :: 19 :: 20 :: 21 :: 22 :: 23 :: 24 :: 25 :: 26 :: 27 :: 28 :: 29 :: 30 :: []) :: (0 :: 1 :: 2 :: 3 :: 4 :: 5 :: 6 :: 7 :: 8 :: 9 :: 10 :: 11 :: 12 :: 13 :: 14 :: 15 :: 16 :: 17 :: 18 :: 19 :: 20 :: 21 :: 22 :: 23 :: 24 :: 25 :: 26 :: 27 :: 28 :: 29 :: 30 :: 31 :: []) :: (0 :: 1 :: 2 :: 3 :: 4 :: 5 :: 6 :: 7 :: 8 :: 9 :: 10 :: 11 :: 12 :: 13 :: 14 :: 15 :: 16 :: 17 :: 18 :: 19 :: 20 :: 21 :: 22 :: 23 :: 24 :: 25 :: 26 :: 27 :: 28 :: 29 :: 30 :: 31 :: 32 :: []) :: (0 :: 1 :: 2 :: 3 :: 4 :: 5 :: 6 :: 7 :: 8 :: 9 :: 10 :: 11 :: 12 :: 13 :: 14 :: 15 :: 16 :: 17 :: 18 :: 19 :: 20 :: 21 :: 22 :: 23 :: 24 :: 25 :: 26 :: 27 :: 28 :: 29 :: 30 :: 31 :: 32 :: []) :: (0 :: 1 :: 2 :: 3 :: 4 :: 5 :: 6 :: 7 :: 8 :: 9 :: 10 :: 11 :: 12 :: 13 :: 14 :: 15 :: 16 :: 17 :: 18 :: 19 :: 20 :: 21 :: 22 :: 23 :: 24 :: 25 :: 26 :: 27 :: 28 :: 29 :: 30 :: 31 :: 32 :: 33 :: 34 :: []) :: (0 :: 1 :: 2 :: 3 :: 4 :: 5 :: 6 :: 7 :: 8 :: 9 :: 10 :: 11 :: 12 :: 13 :: 14 :: 15 :: 16 :: 17 :: 18 :: 19 :: 20 :: 21 :: 22 :: 23 :: 24 :: 25 :: 26 :: 27 :: 28 :: 29 :: 30 :: 31 :: 32 :: []) :: (0 :: 1 :: 2 :: 3 :: 4 :: 5 :: 6 :: 7 :: 8 :: 9 :: 10 :: 11 :: 12 :: 13 :: 14 :: 15 :: 16 :: 17 :: 18 :: 19 :: 20 :: 21 :: 22 :: 23 :: 24 :: 25 :: 26 :: 27 :: 28 :: 29 :: 30 :: 31 :: 32 :: []) :: (0 :: 1 :: 2 :: 3 :: 4 :: 5 :: 6 :: 7 :: 8 :: 9 :: 10 :: 11 :: 12 :: 13 :: 14 :: 15 :: 16 :: 17 :: 18 :: 19 :: 20 :: 21 :: 22 :: 23 :: 24 :: 25 :: 26 :: 27 :: 28 :: 29 :: 30 :: 31 :: 32 :: 33 :: 34 :: 35 :: 36 :: 37 :: []) :: (0 :: 1 :: 2 :: 3 :: 4 :: 5 :: 6 :: 7 :: 8 :: 9 :: 10 :: 11 :: 12 :: 13 :: 14 :: 15 :: 16 :: 17 :: 18 :: 19 :: 20 :: 21 :: 22 :: 23 :: 24 :: 25 :: 26 :: 27 :: 28 :: 29 :: 30 :: 31 :: 32 :: 33 :: 34 :: 35 :: 36 :: 37 :: 38 :: []) :: (0 :: 1 :: 2 :: 3 :: 4 :: 5 :: 6 :: 7 :: 8 :: 9 :: 10 :: 11 :: 12 :: 13 :: 14 :: 15 :: 16 :: 17 :: 18 :: 19 :: 20 :: 21 :: 22 :: 23 :: 24 :: 25 :: 26 :: 27 :: 28 :: 29 :: 30 :: 31 :: 32 :: 33 :: 34 :: 35 :: 36 :: 37 :: 38 :: 39 :: []) :: (0 :: 1 :: 2 :: 3 :: 4 :: 5 :: 6 :: 7 :: 8 :: 9 :: 10 :: 11 :: 12 :: 13 :: 14 :: 15 :: 16 :: 17 :: 18 :: 19 :: 20 :: 21 :: 22 :: 23 :: 24 :: 25 :: 26 :: 27 :: 28 :: 29 :: 30 :: 31 :: 32 :: 33 :: 34 :: 35 :: 36 :: 37 :: 38 :: 39 :: 40 :: []) :: (0 :: 1 :: 2 :: 3 :: 4 :: 5 :: 6 :: 7 :: 8 :: 9 :: 10 :: 11 :: 12 :: 13 :: 14 :: 15 :: 16 :: 17 :: 18 :: 19 :: 20 :: 21 :: 22 :: 23 :: 24 :: 25 :: 26 :: 27 :: 28 :: 29 :: 30 :: 31 :: 32 :: 33 :: 34 :: 35 :: 36 :: 37 :: 38 :: 39 :: 40 :: 41 :: []) :: (0 :: 1 :: 2 :: 3 :: 4 :: 5 :: 6 :: 7 :: 8 :: 9 :: 10 :: 11 :: 12 :: 13 :: 14 :: 15 :: 16 :: 17 :: 18 :: 19 :: 20 :: 21 :: 22 :: 23 :: 24 :: 25 :: 26 :: 27 :: 28 :: 29 :: 30 :: 31 :: 32 :: 33 :: 34 :: 35 :: 36 :: 37 :: 38 :: 39 :: 40 :: 41 :: 42 :: []) :: (0 :: 1 :: 2 :: 3 :: 4 :: 5 :: 6 :: 7 :: 8 :: 9 :: 10 :: 11 :: 12 :: 13 :: 14 :: 15 :: 16 :: 17 :: 18 :: 19 :: 20 :: 21 :: 22 :: 23 :: 24 :: 25 :: 26 :: 27 :: 28 :: 29 :: 30 :: 31 :: 32 :: 33 :: 34 :: 35 :: 36 :: 37 :: 38 :: 39 :: 40 :: 41 :: 42 :: 43 :: []) :: (0 :: 1 :: 2 :: 3 :: 4 :: 5 :: 6 :: 7 :: 8 :: 9 :: 10 :: 11 :: 12 :: 13 :: 14 :: 15 :: 16 :: 17 :: 18 :: 19 :: 20 :: 21 :: 22 :: 23 :: 24 :: 25 :: 26 :: 27 :: 28 :: 29 :: 30 :: 31 :: 32 :: 33 :: 34 :: 35 :: 36 :: 37 :: 38 :: 39 :: 40 :: 41 :: 42 :: 43 :: 44 :: []) :: [])) (sl' := [(6, .one (bB false))]) (hp' := []) follows rfl rfl rfl ⟨⟨rfl, trivial⟩, trivial, ⟨rfl, trivial⟩, trivial, ⟨rfl, rfl, trivial⟩, trivial, ⟨rfl, rfl, trivial⟩, trivial, ⟨rfl, trivial⟩, trivial, ⟨rfl, rfl, trivial⟩, trivial, ⟨rfl, rfl, trivial⟩, trivial, ⟨rfl, trivial⟩, trivial, ⟨rfl, rfl, trivial⟩, trivial, ⟨rfl, rfl, trivial⟩, trivial, ⟨rfl, trivial⟩, trivial, ⟨rfl, trivial⟩, trivial, ⟨rfl, trivial⟩, trivial, ⟨rfl, trivial⟩, trivial, ⟨rfl, trivial⟩, trivial, ⟨rfl, trivial⟩, trivial, ⟨rfl, trivial⟩, trivial, ⟨rfl, trivial⟩, trivial, ⟨rfl, trivial⟩, trivial, ⟨rfl, trivial⟩, trivial, ⟨rfl, trivial⟩, trivial, ⟨rfl, trivial⟩, trivial, ⟨rfl, trivial⟩, trivial, ⟨rfl, trivial⟩, trivial, ⟨rfl, trivial⟩, trivial, ⟨rfl, trivial⟩, trivial, ⟨rfl, trivial⟩, trivial, ⟨rfl, trivial⟩, trivial, ⟨rfl, trivial⟩, trivial, ⟨rfl, trivial⟩, trivial, ⟨rfl, trivial⟩, trivial, ⟨rfl, trivial⟩, trivial, ⟨rfl, trivial⟩, trivial, ⟨rfl, trivial⟩, trivial, ⟨rfl, trivial⟩, trivial, ⟨rfl, trivial⟩, trivial, ⟨rfl, trivial⟩, trivial, ⟨rfl, trivial⟩, trivial, ⟨rfl, trivial⟩, trivial, ⟨rfl, trivial⟩, trivial, ⟨rfl, trivial⟩, trivial, ⟨rfl, trivial⟩, trivial, ⟨rfl, trivial⟩, trivial, ⟨rfl, trivial⟩, trivial, ⟨rfl, trivial⟩, trivial, ⟨rfl, trivial⟩, trivial, trivial⟩ ⟨OpW.plain (op_move (Ev.t 7 (bB true)) rfl) rfl rfl, OpW.plain (op_move (Ev.t 54 (bB true)) rfl) rfl rfl, OpW.yes (op_move (Ev.t 10 (bB true)) rfl) rfl rfl rfl, OpW.plain (op_pickT (Ev.t 55 (bB true)) (Ev.t 56 (bB true)) rfl) rfl rfl, OpW.plain (op_move (Ev.t 57 (bB true)) rfl) rfl rfl, OpW.yes (op_move (Ev.t 11 (bB true)) rfl) rfl rfl rfl, OpW.plain (op_pickT (Ev.t 58 (bB true)) (Ev.t 59 (bB true)) rfl) rfl rfl, OpW.plain (op_move (Ev.t 60 (bB true)) rfl) rfl rfl, OpW.yes (op_move (Ev.t 12 (bB false)) rfl) rfl rfl rfl, OpW.plain (op_pickT (Ev.t 61 (bB true)) (Ev.t 62 (bB false)) rfl) rfl rfl, OpW.plain (op_move (Ev.t 63 (bB false)) rfl) rfl rfl, OpW.no rfl rfl rfl rfl rfl, OpW.no rfl rfl rfl rfl rfl, OpW.no rfl rfl rfl rfl rfl, OpW.no rfl rfl rfl rfl rfl, OpW.no rfl rfl rfl rfl rfl, OpW.no rfl rfl rfl rfl rfl, OpW.no rfl rfl rfl rfl rfl, OpW.no rfl rfl rfl rfl rfl, OpW.no rfl rfl rfl rfl rfl, OpW.no rfl rfl rfl rfl rfl, OpW.no rfl rfl rfl rfl rfl, OpW.plain (op_pickF (Ev.t 64 (bB false)) (Ev.c _ rfl) rfl) rfl rfl, OpW.plain (op_move (Ev.t 76 (bB false)) rfl) rfl rfl, OpW.no rfl rfl rfl rfl rfl, OpW.no rfl rfl rfl rfl rfl, OpW.no rfl rfl rfl rfl rfl, OpW.no rfl rfl rfl rfl rfl, OpW.no rfl rfl rfl rfl rfl, OpW.no rfl rfl rfl rfl rfl, OpW.no rfl rfl rfl rfl rfl, OpW.plain (op_pickF (Ev.t 77 (bB false)) (Ev.c _ rfl) rfl) rfl rfl, OpW.plain (op_move (Ev.t 85 (bB false)) rfl) rfl rfl, OpW.no rfl rfl rfl rfl rfl, OpW.no rfl rfl rfl rfl rfl, OpW.no rfl rfl rfl rfl rfl, OpW.no rfl rfl rfl rfl rfl, OpW.no rfl rfl rfl rfl rfl, OpW.no rfl rfl rfl rfl rfl, OpW.no rfl rfl rfl rfl rfl, OpW.plain (op_pickF (Ev.t 86 (bB false)) (Ev.c _ rfl) rfl) rfl rfl, OpW.plain (op_move (Ev.t 94 (bB false)) rfl) rfl rfl, OpW.no rfl rfl rfl rfl rfl, OpW.no rfl rfl rfl rfl rfl, OpW.plain (op_pickF (Ev.t 95 (bB false)) (Ev.c _ rfl) rfl) rfl rfl, OpW.plain (op_assign (Ev.t 98 (bB false)) rfl) rfl rfl, trivial⟩ ⟨rfl, trivial⟩ trivial rfl ?_
            cases hF
            exact G.ret1 Try.results4 (RVar.tmp 6 _) ⟨rfl, trivial⟩ trivial
        · refine G.known (t := 11) (c := false) hc16 rfl ?_
          refine G.drawn (effs := (⟨[(7, .one (bB true))], [], [(54, .one (bB true))], []⟩ :: ⟨[(54, .one (bB true))], [], [(55, .one (bB true))], []⟩ :: ⟨[(55, .one (bB true)), (10, .one (bB true))], [], [(56, .one (bB true))], []⟩ :: ⟨[(55, .one (bB true)), (56, .one (bB true))], [], [(57, .one (bB true))], []⟩ :: ⟨[(57, .one (bB true))], [], [(58, .one (bB true))], []⟩ :: ⟨[(58, .one (bB true)), (11, .one (bB false))], [], [(59, .one (bB false))], []⟩ :: ⟨[(58, .one (bB true)), (59, .one (bB false))], [], [(60, .one (bB false))], []⟩ :: ⟨[(60, .one (bB false))], [], [(61, .one (bB false))], []⟩ :: ⟨[(61, .one (bB false))], [], [(62, .one (.x Go.undef))], []⟩ :: ⟨[(61, .one (bB false))], [], [(63, .one (bB false))], []⟩ :: ⟨[(63, .one (bB false))], [], [(64, .one (bB false))], []⟩ :: ⟨[(64, .one (bB false))], [], [(65, .one (.x Go.undef))], []⟩ :: ⟨[(64, .one (bB false))], [], [(66, .one (.x Go.undef))], []⟩ :: ⟨[(64, .one (bB false))], [], [(67, .one (.x Go.undef))], []⟩ :: ⟨[(64, .one (bB false))], [], [(68, .one (.x Go.undef))], []⟩ :: ⟨[(64, .one (bB false))], [], [(69, .one (.x Go.undef))], []⟩ :: ⟨[(64, .one (bB false))], [], [(70, .one (.x Go.undef))], []⟩ :: ⟨[(64, .one (bB false))], [], [(71, .one (.x Go.undef))], []⟩ :: ⟨[(64, .one (bB false))], [], [(72, .one (.x Go.undef))], []⟩ :: ⟨[(64, .one (bB false))], [], [(73, .one (.x Go.undef))], []⟩ :: ⟨[(64, .one (bB false))], [], [(74, .one (.x Go.undef))], []⟩ :: ⟨[(64, .one (bB false))], [], [(75, .one (.x Go.undef))], []⟩ :: ⟨[(64, .one (bB false))], [], [(76, .one (bB false))], []⟩ :: ⟨[(76, .one (bB false))], [], [(77, .one (bB false))], []⟩ :: ⟨[(77, .one (bB false))], [], [(78, .one (.x Go.undef))], []⟩ :: ⟨[(77, .one (bB false))], [], [(79, .one (.x Go.undef))], []⟩ :: ⟨[(77, .one (bB false))], [], [(80, .one (.x Go.undef))], []⟩ :: ⟨[(77, .one (bB false))], [], [(81, .one (.x Go.undef))], []⟩ :: ⟨[(77, .one (bB false))], [], [(82, .one (.x Go.undef))], []⟩ :: ⟨[(77, .one (bB false))], [], [(83, .one (.x Go.undef))], []⟩ :: ⟨[(77, .one (bB false))], [], [(84, .one (.x Go.undef))], []⟩ :: ⟨[(77, .one (bB false))], [], [(85, .one (bB false))], []⟩ :: ⟨[(85, .one (bB false))], [], [(86, .one (bB false))], []⟩ :: ⟨[(86, .one (bB false))], [], [(87, .one (.x Go.undef))], []⟩ :: ⟨[(86, .one (bB false))], [], [(88, .one (.x Go.undef))], []⟩ :: ⟨[(86, .one (bB false))], [], [(89, .one (.x Go.undef))], []⟩ :: ⟨[(86, .one (bB false))], [], [(90, .one (.x Go.undef))], []⟩ :: ⟨[(86, .one (bB false))], [], [(91, .one (.x Go.undef))], []⟩ :: ⟨[(86, .one (bB false))], [], [(92, .one (.x Go.undef))], []⟩ :: ⟨[(86, .one (bB false))], [], [(93, .one (.x Go.undef))], []⟩ :: ⟨[(86, .one (bB false))], [], [(94, .one (bB false))], []⟩ :: ⟨[(94, .one (bB false))], [], [(95, .one (bB false))], []⟩ :: ⟨[(95, .one (bB false))], [], [(96, .one (.x Go.undef))], []⟩ :: ⟨[(95, .one (bB false))], [], [(97, .one (.x Go.undef))], []⟩ :: ⟨[(95, .one (bB false))], [], [(98, .one (bB false))], []⟩ :: ⟨[(98, .one (bB false))], [], [(6, .one (bB false))], []⟩ :: [])) (deps := ([] :: [0] :: [0, 1] :: [0, 1, 2] :: [0, 1, 2, 3] :: [0, 1, 2, 3, 4] :: [0, 1, 2, 3, 4, 5] :: [0, 1, 2, 3, 4, 5, 6] :: [0, 1, 2, 3, 4, 5, 6, 7] :: [0, 1, 2, 3, 4, 5, 6, 7, 8] :: [0, 1, 2, 3, 4, 5, 6, 7, 8, 9] :: [0, 1, 2, 3, 4, 5, 6, 7, 8, 9, 10] :: [0, 1, 2, 3, 4, 5, 6, 7, 8, 9, 10] :: [0, 1, 2, 3, 4, 5, 6, 7, 8, 9, 10, 12] :: [0, 1, 2, 3, 4, 5, 6, 7, 8, 9, 10, 12, 13] :: [0, 1, 2, 3, 4, 5, 6, 7, 8, 9, 10, 11, 12, 13, 14] :: [0, 1, 2, 3, 4, 5, 6, 7, 8, 9, 10] :: [0, 1, 2, 3, 4, 5, 6, 7, 8, 9, 10] :: [0, 1, 2, 3, 4, 5, 6, 7, 8, 9, 10, 17] :: [0, 1, 2, 3, 4, 5, 6, 7, 8, 9, 10, 17, 18] :: [0, 1, 2, 3, 4, 5, 6, 7, 8, 9, 10, 11, 12, 13, 14, 15, 16, 17, 18, 19] :: (0 :: 1 :: 2 :: 3 :: 4 :: 5 :: 6 :: 7 :: 8 :: 9 :: 10 :: 11 :: 12 :: 13 :: 14 :: 15 :: 16 :: 17 :: 18 :: 19 :: 20 :: []) :: (0 :: 1 :: 2 :: 3 :: 4 :: 5 :: 6 :: 7 :: 8 :: 9 :: 10 :: 11 :: 12 :: 13 :: 14 :: 15 :: 16 :: 17 :: 18 :: 19 :: 20 :: 21 :: []) :: (0 :: 1 :: 2 :: 3 :: 4 :: 5 :: 6 :: 7 :: 8 :: 9 :: 10 :: 11 :: 12 :: 13 :: 14 :: 15 :: 16 :: 17 :: 18 :: 19 :: 20 :: 21 :: 22 :: []) :: (0 :: 1 :: 2 :: 3 :: 4 :: 5 :: 6 :: 7 :: 8 :: 9 :: 10 :: 11 :: 12 :: 13 :: 14 :: 15 :: 16 :: 17 :: 18 :: 19 :: 20 :: 21 :: 22 :: 23 :: []) :: (0 :: 1 :: 2 :: 3 :: 4 :: 5 :: 6 :: 7 :: 8 :: 9 :: 10 :: 11 :: 12 :: 13 :: 14 :: 15 :: 16 :: 17 :: 18 :: 19 :: 20 :: 21 :: 22 :: 23 :: []) :: (0 :: 1 :: 2 :: 3 :: 4 :: 5 :: 6 :: 7 :: 8 :: 9 :: 10 :: 11 :: 12 :: 13 :: 14 :: 15 :: 16 :: 17 :: 18 :: 19 :: 20 :: 21 :: 22 :: 23 :: 24 :: 25 :: []) :: (0 :: 1 :: 2 :: 3 :: 4 :: 5 :: 6 :: 7 :: 8 :: 9 :: 10 :: 11 :: 12 :: 13 :: 14 :: 15 :: 16 :: 17 :: 18 :: 19 :: 20 :: 21 :: 22 :: 23 :: []) :: (0 :: 1 :: 2 :: 3 :: 4 :: 5 :: 6 :: 7 :: 8 :: 9 :: 10 :: 11 :: 12 :: 13 :: 14 :: 15 :: 16 :: 17 :: 18 :: 19 :: 20 :: 21 :: 22 :: 23 :: []) :: (0 :: 1 :: 2 :: 3 :: 4 :: 5 :: 6 :: 7 :: 8 :: 9 :: 10 :: 11 :: 12 :: 13 :: 14 :: 15 :: 16 :: 17 :: 18 :: 19 :: 20 :: 21 :: 22 :: 23 :: 24 :: 25 :: 26 :: 27 :: 28 :: []) :: (0 :: 1 :: 2 :: 3 :: 4 :: 5 :: 6 :: 7 :: 8 :: 9 :: 10 :: 11 :: 12 :: 13 :: 14 :: 15 :: 16 :: 17 :: 18 :: 19 :: 20 :: 21 :: 22 :: 23 :: 24 :: 25 :: 26 :: 27 :: 28 :: 29 :: []) :: (0 :: 1 :: 2 :: 3 :: 4 :: 5 :: 6 :: 7 :: 8 :: 9 :: 10 :: 11 :: 12 :: 13 :: 14 :: 15 :: 16 :: 17 :: 18 :: 19 :: 20 :: 21 :: 22 :: 23 :: 24 :: 25 :: 26 :: 27 :: 28 :: 29 :: 30 :: []) :: (0 :: 1 :: 2 :: 3 :: 4 :: 5 :: 6 :: 7 :: 8 :: 9 :: 10 :: 11 :: 12 :: 13 :: 14 :: 15 :: 16 :: 17 :: 18 :: 19 :: 20 :: 21 :: 22 :: 23 :: 24 :: 25 :: 26 :: 27 :: 28 :: 29 :: 30 :: 31 :: []) :: (0 :: 1 :: 2 :: 3 :: 4 :: 5 :: 6 :: 7 :: 8 :: 9 :: 10 :: 11 :: 12 :: 13 :: 14 :: 15 :: 16 :: 17 :: 18 :: 19 :: 20 :: 21 :: 22 :: 23 :: 24 :: 25 :: 26 :: 27 :: 28 :: 29 :: 30 :: 31 :: 32 :: []) :: (0 :: 1 :: 2 :: 3 :: 4 :: 5 :: 6 :: 7 :: 8 :: 9 :: 10 :: 11 :: 12 :: 13 :: 14 :: 15 :: 16 :: 17 :: 18 :: 19 :: 20 :: 21 :: 22 :: 23 :: 24 :: 25 :: 26 :: 27 :: 28 :: 29 :: 30 :: 31 :: 32 :: []) :: (0 :: 1 :: 2 :: 3 :: 4 :: 5 :: 6 :: 7 :: 8 :: 9 :: 10 :: 11 :: 12 :: 13 :: 14 :: 15 :: 16 :: 17 :: 18 :: 19 :: 20 :: 21 :: 22 :: 23 :: 24 :: 25 :: 26 :: 27 :: 28 :: 29 :: 30 :: 31 :: 32 :: 33 :: 34 :: []) :: (0 :: 1 :: 2 :: 3 :: 4 :: 5 :: 6 :: 7 :: 8 :: 9 :: 10 :: 11 :: 12 :: 13 :: 14 :: 15 :: 16 :: 17 :: 18 :: 19 :: 20 :: 21 :: 22 :: 23 :: 24 :: 25 :: 26 :: 27 :: 28 :: 29 :: 30 :: 31 :: 32 :: []) :: (0 :: 1 :: 2 :: 3 :: 4 :: 5 :: 6 :: 7 :: 8 :: 9 :: 10 :: 11 :: 12 :: 13 :: 14 :: 15 :: 16 :: 17 :: 18 :: 19 :: 20 :: 21 :: 22 :: 23 :: 24 :: 25 :: 26 :: 27 :: 28 :: 29 :: 30 :: 31 :: 32 :: []) :: (0 :: 1 :: 2 :: 3 :: 4 :: 5 :: 6 :: 7 :: 8 :: 9 :: 10 :: 11 :: 12 :: 13 :: 14 :: 15 :: 16 :: 17 :: 18 :: 19 :: 20 :: 21 :: 22 :: 23 :: 24 :: 25 :: 26 :: 27 :: 28 :: 29 :: 30 :: 31 :: 32 :: 33 :: 34 :: 35 :: 36 :: 37 :: []) :: (0 :: 1 :: 2 :: 3 :: 4 :: 5 :: 6 :: 7 :: 8 :: 9 :: 10 :: 11 :: 12 :: 13 :: 14 :: 15 :: 16 :: 17 :: 18 :: 19 :: 20 :: 21 :: 22 :: 23 :: 24 :: 25 :: 26 :: 27 :: 28 :: 29 :: 30 :: 31 :: 32 :: 33 :: 34 :: 35 :: 36 :: 37 :: 38 :: []) :: (0 :: 1 :: 2 :: 3 :: 4 :: 5 :: 6 :: 7 :: 8 :: 9 :: 10 :: 11 :: 12 :: 13 :: 14 :: 15 :: 16 :: 17 :: 18 :: 19 :: 20 :: 21 :: 22 :: 23 :: 24 :: 25 :: 26 :: 27 :: 28 :: 29 :: 30 :: 31 :: 32 :: 33 :: 34 :: 35 :: 36 :: 37 :: 38 :: 39 :: []) :: (0 :: 1 :: 2 :: 3 :: 4 :: 5 :: 6 :: 7 :: 8 :: 9 :: 10 :: 11 :: 12 :: 13 :: 14 :: 15 :: 16 :: 17 :: 18 :: 19 :: 20 :: 21 :: 22 :: 23 :: 24 :: 25 :: 26 :: 27 :: 28 :: 29 :: 30 :: 31 :: 32 :: 33 :: 34 :: 35 :: 36 :: 37 :: 38 :: 39 :: 40 :: []) :: (0 :: 1 :: 2 :: 3 :: 4 :: 5 :: 6 :: 7 :: 8 :: 9 :: 10 :: 11 :: 12 :: 13 :: 14 :: 15 :: 16 :: 17 :: 18 :: 19 :: 20 :: 21 :: 22 :: 23 :: 24 :: 25 :: 26 :: 27 :: 28 :: 29 :: 30 :: 31 :: 32 :: 33 :: 34 :: 35 :: 36 :: 37 :: 38 :: 39 :: 40 :: 41 :: []) :: (0 :: 1 :: 2 :: 3 :: 4 :: 5 :: 6 :: 7 :: 8 :: 9 :: 10 :: 11 :: 12 :: 13 :: 14 :: 15 :: 16 :: 17 :: 18 :: 19 :: 20 :: 21 :: 22 :: 23 :: 24 :: 25 :: 26 :: 27 :: 28 :: 29 :: 30 :: 31 :: 32 :: 33 :: 34 :: 35 :: 36 :: 37 :: 38 :: 39 :: 40 :: 41 :: 42 :: []) :: (0 :: 1 :: 2 :: 3 :: 4 :: 5 :: 6 :: 7 :: 8 :: 9 :: 10 :: 11 :: 12 :: 13 :: 14 :: 15 :: 16 :: 17 :: 18 :: 19 :: 20 :: 21 :: 22 :: 23 :: 24 :: 25 :: 26 :: 27 :: 28 :: 29 :: 30 :: 31 :: 32 :: 33 :: 34 :: 35 :: 36 :: 37 :: 38 :: 39 :: 40 :: 41 :: 42 :: 43 :: []) :: (0 :: 1 :: 2 :: 3 :: 4 :: 5 :: 6 :: 7 :: 8 :: 9 :: 10 :: 11 :: 12 :: 13 :: 14 :: 15 :: 16 :: 17 :: 18 :: 19 :: 20 :: 21 :: 22 :: 23 :: 24 :: 25 :: 26 :: 27 :: 28 :: 29 :: 30 :: 31 :: 32 :: 33 :: 34 :: 35 :: 36 :: 37 :: 38 :: 39 :: 40 :: 41 :: 42 :: 43 :: 44 :: []) :: [])) (sl' := [(6, .one (bB false))]) (hp' := []) follows rfl rfl rfl ⟨⟨rfl, trivial⟩, trivial, ⟨rfl, trivial⟩, trivial, ⟨rfl, rfl, trivial⟩, trivial, ⟨rfl, rfl, trivial⟩, trivial, ⟨rfl, trivial⟩, trivial, ⟨rfl, rfl, trivial⟩, trivial, ⟨rfl, rfl, trivial⟩, trivial, ⟨rfl, trivial⟩, trivial, ⟨rfl, trivial⟩, trivial, ⟨rfl, trivial⟩, trivial, ⟨rfl, trivial⟩, trivial, ⟨rfl, trivial⟩, trivial, ⟨rfl, trivial⟩, trivial, ⟨rfl, trivial⟩, trivial, ⟨rfl, trivial⟩, trivial, ⟨rfl, trivial⟩, trivial, ⟨rfl, trivial⟩, trivial, ⟨rfl, trivial⟩, trivial, ⟨rfl, trivial⟩, trivial, ⟨rfl, trivial⟩, trivial, ⟨rfl, trivial⟩, trivial, ⟨rfl, trivial⟩, trivial, ⟨rfl, trivial⟩, trivial, ⟨rfl, trivial⟩, trivial, ⟨rfl, trivial⟩, trivial, ⟨rfl, trivial⟩, trivial, ⟨rfl, trivial⟩, trivial, ⟨rfl, trivial⟩, trivial, ⟨rfl, trivial⟩, trivial, ⟨rfl, trivial⟩, trivial, ⟨rfl, trivial⟩, trivial, ⟨rfl, trivial⟩, trivial, ⟨rfl, trivial⟩, trivial, ⟨rfl, trivial⟩, trivial, ⟨rfl, trivial⟩, trivial, ⟨rfl, trivial⟩, trivial, ⟨rfl, trivial⟩, trivial, ⟨rfl, trivial⟩, trivial, ⟨rfl, trivial⟩, trivial, ⟨rfl, trivial⟩, trivial, ⟨rfl, trivial⟩, trivial, ⟨rfl, trivial⟩, trivial, ⟨rfl, trivial⟩, trivial, ⟨rfl, trivial⟩, trivial, ⟨rfl, trivial⟩, trivial, ⟨rfl, trivial⟩, trivial, trivial⟩ ⟨OpW.plain (op_move (Ev.t 7 (bB true)) rfl) rfl rfl, OpW.plain (op_move (Ev.t 54 (bB true)) rfl) rfl rfl, OpW.yes (op_move (Ev.t 10 (bB true)) rfl) rfl rfl rfl, OpW.plain (op_pickT (Ev.t 55 (bB true)) (Ev.t 56 (bB true)) rfl) rfl rfl, OpW.plain (op_move (Ev.t 57 (bB true)) rfl) rfl rfl, OpW.yes (op_move (Ev.t 11 (bB false)) rfl) rfl rfl rfl, OpW.plain (op_pickT (Ev.t 58 (bB true)) (Ev.t 59 (bB false)) rfl) rfl rfl, OpW.plain (op_move (Ev.t 60 (bB false)) rfl) rfl rfl, OpW.no rfl rfl rfl rfl rfl, OpW.plain (op_pickF (Ev.t 61 (bB false)) (Ev.c _ rfl) rfl) rfl rfl, OpW.plain (op_move (Ev.t 63 (bB false)) rfl) rfl rfl, OpW.no rfl rfl rfl rfl rfl, OpW.no rfl rfl rfl rfl rfl, OpW.no rfl rfl rfl rfl rfl, OpW.no rfl rfl rfl rfl rfl, OpW.no rfl rfl rfl rfl rfl, OpW.no rfl rfl rfl rfl rfl, OpW.no rfl rfl rfl rfl rfl, OpW.no rfl rfl rfl rfl rfl, OpW.no rfl rfl rfl rfl rfl, OpW.no rfl rfl rfl rfl rfl, OpW.no rfl rfl rfl rfl rfl, OpW.plain (op_pickF (Ev.t 64 (bB false)) (Ev.c _ rfl) rfl) rfl rfl, OpW.plain (op_move (Ev.t 76 (bB false)) rfl) rfl rfl, OpW.no rfl rfl rfl rfl rfl, OpW.no rfl rfl rfl rfl rfl, OpW.no rfl rfl rfl rfl rfl, OpW.no rfl rfl rfl rfl rfl, OpW.no rfl rfl rfl rfl rfl, OpW.no rfl rfl rfl rfl rfl, OpW.no rfl rfl rfl rfl rfl, OpW.plain (op_pickF (Ev.t 77 (bB false)) (Ev.c _ rfl) rfl) rfl rfl, OpW.plain (op_move (Ev.t 85 (bB false)) rfl) rfl rfl, OpW.no rfl rfl rfl rfl rfl, OpW.no rfl rfl rfl rfl rfl, OpW.no rfl rfl rfl rfl rfl, OpW.no rfl rfl rfl rfl rfl, OpW.no rfl rfl rfl rfl rfl, OpW.no rfl rfl rfl rfl rfl, OpW.no rfl rfl rfl rfl rfl, OpW.plain (op_pickF (Ev.t 86 (bB false)) (Ev.c _ rfl) rfl) rfl rfl, OpW.plain (op_move (Ev.t 94 (bB false)) rfl) rfl rfl, OpW.no rfl rfl rfl rfl rfl, OpW.no rfl rfl rfl rfl rfl, OpW.plain (op_pickF (Ev.t 95 (bB false)) (Ev.c _ rfl) rfl) rfl rfl, OpW.plain (op_assign (Ev.t 98 (bB false)) rfl) rfl rfl, trivial⟩ ⟨rfl, trivial⟩ trivial rfl ?_
          cases hF
          exact G.ret1 Try.results4 (RVar.tmp 6 _) ⟨rfl, trivial⟩ trivial
      · refine G.known (t := 10) (c := false) hc15 rfl ?_
        refine G.drawn (effs := (⟨[(7, .one (bB true))], [], [(54, .one (bB true))], []⟩ :: ⟨[(54, .one (bB true))], [], [(55, .one (bB true))], []⟩ :: ⟨[(55, .one (bB true)), (10, .one (bB false))], [], [(56, .one (bB false))], []⟩ :: ⟨[(55, .one (bB true)), (56, .one (bB false))], [], [(57, .one (bB false))], []⟩ :: ⟨[(57, .one (bB false))], [], [(58, .one (bB false))], []⟩ :: ⟨[(58, .one (bB false))], [], [(59, .one (.x Go.undef))], []⟩ :: ⟨[(58, .one (bB false))], [], [(60, .one (bB false))], []⟩ :: ⟨[(60, .one (bB false))], [], [(61, .one (bB false))], []⟩ :: ⟨[(61, .one (bB false))], [], [(62, .one (.x Go.undef))], []⟩ :: ⟨[(61, .one (bB false))], [], [(63, .one (bB false))], []⟩ :: ⟨[(63, .one (bB false))], [], [(64, .one (bB false))], []⟩ :: ⟨[(64, .one (bB false))], [], [(65, .one (.x Go.undef))], []⟩ :: ⟨[(64, .one (bB false))], [], [(66, .one (.x Go.undef))], []⟩ :: ⟨[(64, .one (bB false))], [], [(67, .one (.x Go.undef))], []⟩ :: ⟨[(64, .one (bB false))], [], [(68, .one (.x Go.undef))], []⟩ :: ⟨[(64, .one (bB false))], [], [(69, .one (.x Go.undef))], []⟩ :: ⟨[(64, .one (bB false))], [], [(70, .one (.x Go.undef))], []⟩ :: ⟨[(64, .one (bB false))], [], [(71, .one (.x Go.undef))], []⟩ :: ⟨[(64, .one (bB false))], [], [(72, .one (.x Go.undef))], []⟩ :: ⟨[(64, .one (bB false))], [], [(73, .one (.x Go.undef))], []⟩ :: ⟨[(64, .one (bB false))], [], [(74, .one (.x Go.undef))], []⟩ :: ⟨[(64, .one (bB false))], [], [(75, .one (.x Go.undef))], []⟩ :: ⟨[(64, .one (bB false))], [], [(76, .one (bB false))], []⟩ :: ⟨[(76, .one (bB false))], [], [(77, .one (bB false))], []⟩ :: ⟨[(77, .one (bB false))], [], [(78, .one (.x Go.undef))], []⟩ :: ⟨[(77, .one (bB false))], [], [(79, .one (.x Go.undef))], []⟩ :: ⟨[(77, .one (bB false))], [], [(80, .one (.x Go.undef))], []⟩ :: ⟨[(77, .one (bB false))], [], [(81, .one (.x Go.undef))], []⟩ :: ⟨[(77, .one (bB false))], [], [(82, .one (.x Go.undef))], []⟩ :: ⟨[(77, .one (bB false))], [], [(83, .one (.x Go.undef))], []⟩ :: ⟨[(77, .one (bB false))], [], [(84, .one (.x Go.undef))], []⟩ :: ⟨[(77, .one (bB false))], [], [(85, .one (bB false))], []⟩ :: ⟨[(85, .one (bB false))], [], [(86, .one (bB false))], []⟩ :: ⟨[(86, .one (bB false))], [], [(87, .one (.x Go.undef))], []⟩ :: ⟨[(86, .one (bB false))], [], [(88, .one (.x Go.undef))], []⟩ :: ⟨[(86, .one (bB false))], [], [(89, .one (.x Go.undef))], []⟩ :: ⟨[(86, .one (bB false))], [], [(90, .one (.x Go.undef))], []⟩ :: ⟨[(86, .one (bB false))], [], [(91, .one (.x Go.undef))], []⟩ :: ⟨[(86, .one (bB false))], [], [(92, .one (.x Go.undef))], []⟩ :: ⟨[(86, .one (bB false))], [], [(93, .one (.x Go.undef))], []⟩ :: ⟨[(86, .one (bB false))], [], [(94, .one (bB false))], []⟩ :: ⟨[(94, .one (bB false))], [], [(95, .one (bB false))], []⟩ :: ⟨[(95, .one (bB false))], [], [(96, .one (.x Go.undef))], []⟩ :: ⟨[(95, .one (bB false))], [], [(97, .one (.x Go.undef))], []⟩ :: ⟨[(95, .one (bB false))], [], [(98, .one (bB false))], []⟩ :: ⟨[(98, .one (bB false))], [], [(6, .one (bB false))], []⟩ :: [])) (deps := ([] :: [0] :: [0, 1] :: [0, 1, 2] :: [0, 1, 2, 3] :: [0, 1, 2, 3, 4] :: [0, 1, 2, 3, 4, 5] :: [0, 1, 2, 3, 4, 5, 6] :: [0, 1, 2, 3, 4, 5, 6, 7] :: [0, 1, 2, 3, 4, 5, 6, 7, 8] :: [0, 1, 2, 3, 4, 5, 6, 7, 8, 9] :: [0, 1, 2, 3, 4, 5, 6, 7, 8, 9, 10] :: [0, 1, 2, 3, 4, 5, 6, 7, 8, 9, 10] :: [0, 1, 2, 3, 4, 5, 6, 7, 8, 9, 10, 12] :: [0, 1, 2, 3, 4, 5, 6, 7, 8, 9, 10, 12, 13] :: [0, 1, 2, 3, 4, 5, 6, 7, 8, 9, 10, 11, 12, 13, 14] :: [0, 1, 2, 3, 4, 5, 6, 7, 8, 9, 10] :: [0, 1, 2, 3, 4, 5, 6, 7, 8, 9, 10] :: [0, 1, 2, 3, 4, 5, 6, 7, 8, 9, 10, 17] :: [0, 1, 2, 3, 4, 5, 6, 7, 8, 9, 10, 17, 18] :: [0, 1, 2, 3, 4, 5, 6, 7, 8, 9, 10, 11, 12, 13, 14, 15, 16, 17, 18, 19] :: (0 :: 1 :: 2 :: 3 :: 4 :: 5 :: 6 :: 7 :: 8 :: 9 :: 10 :: 11 :: 12 :: 13 :: 14 :: 15 :: 16 :: 17 :: 18 :: 19 :: 20 :: []) :: (0 :: 1 :: 2 :: 3 :: 4 :: 5 :: 6 :: 7 :: 8 :: 9 :: 10 :: 11 :: 12 :: 13 :: 14 :: 15 :: 16 :: 17 :: 18 :: 19 :: 20 :: 21 :: []) :: (0 :: 1 :: 2 :: 3 :: 4 :: 5 :: 6 :: 7 :: 8 :: 9 :: 10 :: 11 :: 12 :: 13 :: 14 :: 15 :: 16 :: 17 :: 18 :: 19 :: 20 :: 21 :: 22 :: []) :: (0 :: 1 :: 2 :: 3 :: 4 :: 5 :: 6 :: 7 :: 8 :: 9 :: 10 :: 11 :: 12 :: 13 :: 14 :: 15 :: 16 :: 17 :: 18 :: 19 :: 20 :: 21 :: 22 :: 23 :: []) :: (0 :: 1 :: 2 :: 3 :: 4 :: 5 :: 6 :: 7 :: 8 :: 9 :: 10 :: 11 :: 12 :: 13 :: 14 :: 15 :: 16 :: 17 :: 18 :: 19 :: 20 :: 21 :: 22 :: 23 :: []) :: (0 :: 1 :: 2 :: 3 :: 4 :: 5 :: 6 :: 7 :: 8 :: 9 :: 10 :: 11 :: 12 :: 13 :: 14 :: 15 :: 16 :: 17 :: 18 :: 19 :: 20 :: 21 :: 22 :: 23 :: 24 :: 25 :: []) :: (0 :: 1 :: 2 :: 3 :: 4 :: 5 :: 6 :: 7 :: 8 :: 9 :: 10 :: 11 :: 12 :: 13 :: 14 :: 15 :: 16 :: 17 :: 18 :: 19 :: 20 :: 21 :: 22 :: 23 :: []) :: (0 :: 1 :: 2 :: 3 :: 4 :: 5 :: 6 :: 7 :: 8 :: 9 :: 10 :: 11 :: 12 :: 13 :: 14 :: 15 :: 16 :: 17 :: 18 :: 19 :: 20 :: 21 :: 22 :: 23 :: []) :: (0 :: 1 :: 2 :: 3 :: 4 :: 5 :: 6 :: 7 :: 8 :: 9 :: 10 :: 11 :: 12 :: 13 :: 14 :: 15 :: 16 :: 17 :: 18 :: 19 :: 20 :: 21 :: 22 :: 23 :: 24 :: 25 :: 26 :: 27 :: 28 :: []) :: (0 :: 1 :: 2 :: 3 :: 4 :: 5 :: 6 :: 7 :: 8 :: 9 :: 10 :: 11 :: 12 :: 13 :: 14 :: 15 :: 16 :: 17 :: 18 :: 19 :: 20 :: 21 :: 22 :: 23 :: 24 :: 25 :: 26 :: 27 :: 28 :: 29 :: []) :: (0 :: 1 :: 2 :: 3 :: 4 :: 5 :: 6 :: 7 :: 8 :: 9 :: 10 :: 11 :: 12 :: 13 :: 14 :: 15 :: 16 :: 17 :: 18 :: 19 :: 20 :: 21 :: 22 :: 23 :: 24 :: 25 :: 26 :: 27 :: 28 :: 29 :: 30 :: []) :: (0 :: 1 :: 2 :: 3 :: 4 :: 5 :: 6 :: 7 :: 8 :: 9 :: 10 :: 11 :: 12 :: 13 :: 14 :: 15 :: 16 :: 17 :: 18 :: 19 :: 20 :: 21 :: 22 :: 23 :: 24 :: 25 :: 26 :: 27 :: 28 :: 29 :: 30 :: 31 :: []) :: (0 :: 1 :: 2 :: 3 :: 4 :: 5 :: 6 :: 7 :: 8 :: 9 :: 10 :: 11 :: 12 :: 13 :: 14 :: 15 :: 16 :: 17 :: 18 :: 19 :: 20 :: 21 :: 22 :: 23 :: 24 :: 25 :: 26 :: 27 :: 28 :: 29 :: 30 :: 31 :: 32 :: []) :: (0 :: 1 :: 2 :: 3 :: 4 :: 5 :: 6 :: 7 :: 8 :: 9 :: 10 :: 11 :: 12 :: 13 :: 14 :: 15 :: 16 :: 17 :: 18 :: 19 :: 20 :: 21 :: 22 :: 23 :: 24 :: 25 :: 26 :: 27 :: 28 :: 29 :: 30 :: 31 :: 32 :: []) :: (0 :: 1 :: 2 :: 3 :: 4 :: 5 :: 6 :: 7 :: 8 :: 9 :: 10 :: 11 :: 12 :: 13 :: 14 :: 15 :: 16 :: 17 :: 18 :: 19 :: 20 :: 21 :: 22 :: 23 :: 24 :: 25 :: 26 :: 27 :: 28 :: 29 :: 30 :: 31 :: 32 :: 33 :: 34 :: []) :: (0 :: 1 :: 2 :: 3 :: 4 :: 5 :: 6 :: 7 :: 8 :: 9 :: 10 :: 11 :: 12 :: 13 :: 14 :: 15 :: 16 :: 17 :: 18 :: 19 :: 20 :: 21 :: 22 :: 23 :: 24 :: 25 :: 26 :: 27 :: 28 :: 29 :: 30 :: 31 :: 32 :: []) :: (0 :: 1 :: 2 :: 3 :: 4 :: 5 :: 6 :: 7 :: 8 :: 9 :: 10 :: 11 :: 12 :: 13 :: 14 :: 15 :: 16 :: 17 :: 18 :: 19 :: 20 :: 21 :: 22 :: 23 :: 24 :: 25 :: 26 :: 27 :: 28 :: 29 :: 30 :: 31 :: 32 :: []) :: (0 :: 1 :: 2 :: 3 :: 4 :: 5 :: 6 :: 7 :: 8 :: 9 :: 10 :: 11 :: 12 :: 13 :: 14 :: 15 :: 16 :: 17 :: 18 :: 19 :: 20 :: 21 :: 22 :: 23 :: 24 :: 25 :: 26 :: 27 :: 28 :: 29 :: 30 :: 31 :: 32 :: 33 :: 34 :: 35 :: 36 :: 37 :: []) :: (0 :: 1 :: 2 :: 3 :: 4 :: 5 :: 6 :: 7 :: 8 :: 9 :: 10 :: 11 :: 12 :: 13 :: 14 :: 15 :: 16 :: 17 :: 18 :: 19 :: 20 :: 21 :: 22 :: 23 :: 24 :: 25 :: 26 :: 27 :: 28 :: 29 :: 30 :: 31 :: 32 :: 33 :: 34 :: 35 :: 36 :: 37 :: 38 :: []) :: (0 :: 1 :: 2 :: 3 :: 4 :: 5 :: 6 :: 7 :: 8 :: 9 :: 10 :: 11 :: 12 :: 13 :: 14 :: 15 :: 16 :: 17 :: 18 :: 19 :: 20 :: 21 :: 22 :: 23 :: 24 :: 25 :: 26 :: 27 :: 28 :: 29 :: 30 :: 31 :: 32 :: 33 :: 34 :: 35 :: 36 :: 37 :: 38 :: 39 :: []) :: (0 :: 1 :: 2 :: 3 :: 4 :: 5 :: 6 :: 7 :: 8 :: 9 :: 10 :: 11 :: 12 :: 13 :: 14 :: 15 :: 16 :: 17 :: 18 :: 19 :: 20 :: 21 :: 22 :: 23 :: 24 :: 25 :: 26 :: 27 :: 28 :: 29 :: 30 :: 31 :: 32 :: 33 :: 34 :: 35 :: 36 :: 37 :: 38 :: 39 :: 40 :: []) :: (0 :: 1 :: 2 :: 3 :: 4 :: 5 :: 6 :: 7 :: 8 :: 9 :: 10 :: 11 :: 12 :: 13 :: 14 :: 15 :: 16 :: 17 :: 18 :: 19 :: 20 :: 21 :: 22 :: 23 :: 24 :: 25 :: 26 :: 27 :: 28 :: 29 :: 30 :: 31 :: 32 :: 33 :: 34 :: 35 :: 36 :: 37 :: 38 :: 39 :: 40 :: 41 :: []) :: (0 :: 1 :: 2 :: 3 :: 4 :: 5 :: 6 :: 7 :: 8 :: 9 :: 10 :: 11 :: 12 :: 13 :: 14 :: 15 :: 16 :: 17 :: 18 :: 19 :: 20 :: 21 :: 22 :: 23 :: 24 :: 25 :: 26 :: 27 :: 28 :: 29 :: 30 :: 31 :: 32 :: 33 :: 34 :: 35 :: 36 :: 37 :: 38 :: 39 :: 40 :: 41 :: 42 :: []) :: (0 :: 1 :: 2 :: 3 :: 4 :: 5 :: 6 :: 7 :: 8 :: 9 :: 10 :: 11 :: 12 :: 13 :: 14 :: 15 :: 16 :: 17 :: 18 :: 19 :: 20 :: 21 :: 22 :: 23 :: 24 :: 25 :: 26 :: 27 :: 28 :: 29 :: 30 :: 31 :: 32 :: 33 :: 34 :: 35 :: 36 :: 37 :: 38 :: 39 :: 40 :: 41 :: 42 :: 43 :: []) :: (0 :: 1 :: 2 :: 3 :: 4 :: 5 :: 6 :: 7 :: 8 :: 9 :: 10 :: 11 :: 12 :: 13 :: 14 :: 15 :: 16 :: 17 :: 18 :: 19 :: 20 :: 21 :: 22 :: 23 :: 24 :: 25 :: 26 :: 27 :: 28 :: 29 :: 30 :: 31 :: 32 :: 33 :: 34 :: 35 :: 36 :: 37 :: 38 :: 39 :: 40 :: 41 :: 42 :: 43 :: 44 :: []) :: [])) (sl' := [(6, .one (bB false))]) (hp' := []) follows rfl rfl rfl ⟨⟨rfl, trivial⟩, trivial, ⟨rfl, trivial⟩, trivial, ⟨rfl, rfl, trivial⟩, trivial, ⟨rfl, rfl, trivial⟩, trivial, ⟨rfl, trivial⟩, trivial, ⟨rfl, trivial⟩, trivial, ⟨rfl, trivial⟩, trivial, ⟨rfl, trivial⟩, trivial, ⟨rfl, trivial⟩, trivial, ⟨rfl, trivial⟩, trivial, ⟨rfl, trivial⟩, trivial, ⟨rfl, trivial⟩, trivial, ⟨rfl, trivial⟩, trivial, ⟨rfl, trivial⟩, trivial, ⟨rfl, trivial⟩, trivial, ⟨rfl, trivial⟩, trivial, ⟨rfl, trivial⟩, trivial, ⟨rfl, trivial⟩, trivial, ⟨rfl, trivial⟩, trivial, ⟨rfl, trivial⟩, trivial, ⟨rfl, trivial⟩, trivial, ⟨rfl, trivial⟩, trivial, ⟨rfl, trivial⟩, trivial, ⟨rfl, trivial⟩, trivial, ⟨rfl, trivial⟩, trivial, ⟨rfl, trivial⟩, trivial, ⟨rfl, trivial⟩, trivial, ⟨rfl, trivial⟩, trivial, ⟨rfl, trivial⟩, trivial, ⟨rfl, trivial⟩, trivial, ⟨rfl, trivial⟩, trivial, ⟨rfl, trivial⟩, trivial, ⟨rfl, trivial⟩, trivial, ⟨rfl, trivial⟩, trivial, ⟨rfl, trivial⟩, trivial, ⟨rfl, trivial⟩, trivial, ⟨rfl, trivial⟩, trivial, ⟨rfl, trivial⟩, trivial, ⟨rfl, trivial⟩, trivial, ⟨rfl, trivial⟩, trivial, ⟨rfl, trivial⟩, trivial, ⟨rfl, trivial⟩, trivial, ⟨rfl, trivial⟩, trivial, ⟨rfl, trivial⟩, trivial, ⟨rfl, trivial⟩, trivial, ⟨rfl, trivial⟩, trivial, trivial⟩ ⟨OpW.plain (op_move (Ev.t 7 (bB true)) rfl) rfl rfl, OpW.plain (op_move (Ev.t 54 (bB true)) rfl) rfl rfl, OpW.yes (op_move (Ev.t 10 (bB false)) rfl) rfl rfl rfl, OpW.plain (op_pickT (Ev.t 55 (bB true)) (Ev.t 56 (bB false)) rfl) rfl rfl, OpW.plain (op_move (Ev.t 57 (bB false)) rfl) rfl rfl, OpW.no rfl rfl rfl rfl rfl, OpW.plain (op_pickF (Ev.t 58 (bB false)) (Ev.c _ rfl) rfl) rfl rfl, OpW.plain (op_move (Ev.t 60 (bB false)) rfl) rfl rfl, OpW.no rfl rfl rfl rfl rfl, OpW.plain (op_pickF (Ev.t 61 (bB false)) (Ev.c _ rfl) rfl) rfl rfl, OpW.plain (op_move (Ev.t 63 (bB false)) rfl) rfl rfl, OpW.no rfl rfl rfl rfl rfl, OpW.no rfl rfl rfl rfl rfl, OpW.no rfl rfl rfl rfl rfl, OpW.no rfl rfl rfl rfl rfl, OpW.no rfl rfl rfl rfl rfl, OpW.no rfl rfl rfl rfl rfl, OpW.no rfl rfl rfl rfl rfl, OpW.no rfl rfl rfl rfl rfl, OpW.no rfl rfl rfl rfl rfl, OpW.no rfl rfl rfl rfl rfl, OpW.no rfl rfl rfl rfl rfl, OpW.plain (op_pickF (Ev.t 64 (bB false)) (Ev.c _ rfl) rfl) rfl rfl, OpW.plain (op_move (Ev.t 76 (bB false)) rfl) rfl rfl, OpW.no rfl rfl rfl rfl rfl, OpW.no rfl rfl rfl rfl rfl, OpW.no rfl rfl rfl rfl rfl, OpW.no rfl rfl rfl rfl rfl, OpW.no rfl rfl rfl rfl rfl, OpW.no rfl rfl rfl rfl rfl, OpW.no rfl rfl rfl rfl rfl, OpW.plain (op_pickF (Ev.t 77 (bB false)) (Ev.c _ rfl) rfl) rfl rfl, OpW.plain (op_move (Ev.t 85 (bB false)) rfl) rfl rfl, OpW.no rfl rfl rfl rfl rfl, OpW.no rfl rfl rfl rfl rfl, OpW.no rfl rfl rfl rfl rfl, OpW.no rfl rfl rfl rfl rfl, OpW.no rfl rfl rfl rfl rfl, OpW.no rfl rfl rfl rfl rfl, OpW.no rfl rfl rfl rfl rfl, OpW.plain (op_pickF (Ev.t 86 (bB false)) (Ev.c _ rfl) rfl) rfl rfl, OpW.plain (op_move (Ev.t 94 (bB false)) rfl) rfl rfl, OpW.no rfl rfl rfl rfl rfl, OpW.no rfl rfl rfl rfl rfl, OpW.plain (op_pickF (Ev.t 95 (bB false)) (Ev.c _ rfl) rfl) rfl rfl, OpW.plain (op_assign (Ev.t 98 (bB false)) rfl) rfl rfl, trivial⟩ ⟨rfl, trivial⟩ trivial rfl ?_
        cases hF
        exact G.ret1 Try.results4 (RVar.tmp 6 _) ⟨rfl, trivial⟩ trivial
    · refine G.known (t := 7) (c := false) hc14 rfl ?_
      refine G.drawn (effs := (⟨[(7, .one (bB false))], [], [(54, .one (bB false))], []⟩ :: ⟨[(54, .one (bB false))], [], [(55, .one (bB false))], []⟩ :: ⟨[(55, .one (bB false))], [], [(56, .one (.x Go.undef))], []⟩ :: ⟨[(55, .one (bB false))], [], [(57, .one (bB false))], []⟩ :: ⟨[(57, .one (bB false))], [], [(58, .one (bB false))], []⟩ :: ⟨[(58, .one (bB false))], [], [(59, .one (.x Go.undef))], []⟩ :: ⟨[(58, .one (bB false))], [], [(60, .one (bB false))], []⟩ :: ⟨[(60, .one (bB false))], [], [(61, .one (bB false))], []⟩ :: ⟨[(61, .one (bB false))], [], [(62, .one (.x Go.undef))], []⟩ :: ⟨[(61, .one (bB false))], [], [(63, .one (bB false))], []⟩ :: ⟨[(63, .one (bB false))], [], [(64, .one (bB false))], []⟩ :: ⟨[(64, .one (bB false))], [], [(65, .one (.x Go.undef))], []⟩ :: ⟨[(64, .one (bB false))], [], [(66, .one (.x Go.undef))], []⟩ :: ⟨[(64, .one (bB false))], [], [(67, .one (.x Go.undef))], []⟩ :: ⟨[(64, .one (bB false))], [], [(68, .one (.x Go.undef))], []⟩ :: ⟨[(64, .one (bB false))], [], [(69, .one (.x Go.undef))], []⟩ :: ⟨[(64, .one (bB false))], [], [(70, .one (.x Go.undef))], []⟩ :: ⟨[(64, .one (bB false))], [], [(71, .one (.x Go.undef))], []⟩ :: ⟨[(64, .one (bB false))], [], [(72, .one (.x Go.undef))], []⟩ :: ⟨[(64, .one (bB false))], [], [(73, .one (.x Go.undef))], []⟩ :: ⟨[(64, .one (bB false))], [], [(74, .one (.x Go.undef))], []⟩ :: ⟨[(64, .one (bB false))], [], [(75, .one (.x Go.undef))], []⟩ :: ⟨[(64, .one (bB false))], [], [(76, .one (bB false))], []⟩ :: ⟨[(76, .one (bB false))], [], [(77, .one (bB false))], []⟩ :: ⟨[(77, .one (bB false))], [], [(78, .one (.x Go.undef))], []⟩ :: ⟨[(77, .one (bB false))], [], [(79, .one (.x Go.undef))], []⟩ :: ⟨[(77, .one (bB false))], [], [(80, .one (.x Go.undef))], []⟩ :: ⟨[(77, .one (bB false))], [], [(81, .one (.x Go.undef))], []⟩ :: ⟨[(77, .one (bB false))], [], [(82, .one (.x Go.undef))], []⟩ :: ⟨[(77, .one (bB false))], [], [(83, .one (.x Go.undef))], []⟩ :: ⟨[(77, .one (bB false))], [], [(84, .one (.x Go.undef))], []⟩ :: ⟨[(77, .one (bB false))], [], [(85, .one (bB false))], []⟩ :: ⟨[(85, .one (bB false))], [], [(86, .one (bB false))], []⟩ :: ⟨[(86, .one (bB false))], [], [(87, .one (.x Go.undef))], []⟩ :: ⟨[(86, .one (bB false))], [], [(88, .one (.x Go.undef))], []⟩ :: ⟨[(86, .one (bB false))], [], [(89, .one (.x Go.undef))], []⟩ :: ⟨[(86, .one (bB false))], [], [(90, .one (.x Go.undef))], []⟩ :: ⟨[(86, .one (bB false))], [], [(91, .one (.x Go.undef))], []⟩ :: ⟨[(86, .one (bB false))], [], [(92, .one (.x Go.undef))], []⟩ :: ⟨[(86, .one (bB false))], [], [(93, .one (.x Go.undef))], []⟩ :: ⟨[(86, .one (bB false))], [], [(94, .one (bB false))], []⟩ :: ⟨[(94, .one (bB false))], [], [(95, .one (bB false))], []⟩ :: ⟨[(95, .one (bB false))], [], [(96, .one (.x Go.undef))], []⟩ :: ⟨[(95, .one (bB false))], [], [(97, .one (.x Go.undef))], []⟩ :: ⟨[(95, .one (bB false))], [], [(98, .one (bB false))], []⟩ :: ⟨[(98, .one (bB false))], [], [(6, .one (bB false))], []⟩ :: [])) (deps := ([] :: [0] :: [0, 1] :: [0, 1, 2] :: [0, 1, 2, 3] :: [0, 1, 2, 3, 4] :: [0, 1, 2, 3, 4, 5] :: [0, 1, 2, 3, 4, 5, 6] :: [0, 1, 2, 3, 4, 5, 6, 7] :: [0, 1, 2, 3, 4, 5, 6, 7, 8] :: [0, 1, 2, 3, 4, 5, 6, 7, 8, 9] :: [0, 1, 2, 3, 4, 5, 6, 7, 8, 9, 10] :: [0, 1, 2, 3, 4, 5, 6, 7, 8, 9, 10] :: [0, 1, 2, 3, 4, 5, 6, 7, 8, 9, 10, 12] :: [0, 1, 2, 3, 4, 5, 6, 7, 8, 9, 10, 12, 13] :: [0, 1, 2, 3, 4, 5, 6, 7, 8, 9, 10, 11, 12, 13, 14] :: [0, 1, 2, 3, 4, 5, 6, 7, 8, 9, 10] :: [0, 1, 2, 3, 4, 5, 6, 7, 8, 9, 10] :: [0, 1, 2, 3, 4, 5, 6, 7, 8, 9, 10, 17] :: [0, 1, 2, 3, 4, 5, 6, 7, 8, 9, 10, 17, 18] :: [0, 1, 2, 3, 4, 5, 6, 7, 8, 9, 10, 11, 12, 13, 14, 15, 16, 17, 18, 19] :: (0 :: 1 :: 2 :: 3 :: 4 :: 5 :: 6 :: 7 :: 8 :: 9 :: 10 :: 11 :: 12 :: 13 :: 14 :: 15 :: 16 :: 17 :: 18 :: 19 :: 20 :: []) :: (0 :: 1 :: 2 :: 3 :: 4 :: 5 :: 6 :: 7 :: 8 :: 9 :: 10 :: 11 :: 12 :: 13 :: 14 :: 15 :: 16 :: 17 :: 18 :: 19 :: 20 :: 21 :: []) :: (0 :: 1 :: 2 :: 3 :: 4 :: 5 :: 6 :: 7 :: 8 :: 9 :: 10 :: 11 :: 12 :: 13 :: 14 :: 15 :: 16 :: 17 :: 18 :: 19 :: 20 :: 21 :: 22 :: []) :: (0 :: 1 :: 2 :: 3 :: 4 :: 5 :: 6 :: 7 :: 8 :: 9 :: 10 :: 11 :: 12 :: 13 :: 14 :: 15 :: 16 :: 17 :: 18 :: 19 :: 20 :: 21 :: 22 :: 23 :: []) :: (0 :: 1 :: 2 :: 3 :: 4 :: 5 :: 6 :: 7 :: 8 :: 9 :: 10 :: 11 :: 12 :: 13 :: 14 :: 15 :: 16 :: 17 :: 18 :: 19 :: 20 :: 21 :: 22 :: 23 :: []) :: (0 :: 1 :: 2 :: 3 :: 4 :: 5 :: 6 :: 7 :: 8 :: 9 :: 10 :: 11 :: 12 :: 13 :: 14 :: 15 :: 16 :: 17 :: 18 :: 19 :: 20 :: 21 :: 22 :: 23 :: 24 :: 25 :: []) :: (0 :: 1 :: 2 :: 3 :: 4 :: 5 :: 6 :: 7 :: 8 :: 9 :: 10 :: 11 :: 12 :: 13 :: 14 :: 15 :: 16 :: 17 :: 18 :: 19 :: 20 :: 21 :: 22 :: 23 :: []) :: (0 :: 1 :: 2 :: 3 :: 4 :: 5 :: 6 :: 7 :: 8 :: 9 :: 10 :: 11 :: 12 :: 13 :: 14 :: 15 :: 16 :: 17 :: 18 :: 19 :: 20 :: 21 :: 22 :: 23 :: []) :: (0 :: 1 :: 2 :: 3 :: 4 :: 5 :: 6 :: 7 :: 8 :: 9 :: 10 :: 11 :: 12 :: 13 :: 14 :: 15 :: 16 :: 17 :: 18 :: 19 :: 20 :: 21 :: 22 :: 23 :: 24 :: 25 :: 26 :: 27 :: 28 :: []) :: (0 :: 1 :: 2 :: 3 :: 4 :: 5 :: 6 :: 7 :: 8 :: 9 :: 10 :: 11 :: 12 :: 13 :: 14 :: 15 :: 16 :: 17 :: 18 :: 19 :: 20 :: 21 :: 22 :: 23 :: 24 :: 25 :: 26 :: 27 :: 28 :: 29 :: []) :: (0 :: 1 :: 2 :: 3 :: 4 :: 5 :: 6 :: 7 :: 8 :: 9 :: 10 :: 11 :: 12 :: 13 :: 14 :: 15 :: 16 :: 17 :: 18 :: 19 :: 20 :: 21 :: 22 :: 23 :: 24 :: 25 :: 26 :: 27 :: 28 :: 29 :: 30 :: []) :: (0 :: 1 :: 2 :: 3 :: 4 :: 5 :: 6 :: 7 :: 8 :: 9 :: 10 :: 11 :: 12 :: 13 :: 14 :: 15 :: 16 :: 17 :: 18 :: 19 :: 20 :: 21 :: 22 :: 23 :: 24 :: 25 :: 26 :: 27 :: 28 :: 29 :: 30 :: 31 :: []) :: (0 :: 1 :: 2 :: 3 :: 4 :: 5 :: 6 :: 7 :: 8 :: 9 :: 10 :: 11 :: 12 :: 13 :: 14 :: 15 :: 16 :: 17 :: 18 :: 19 :: 20 :: 21 :: 22 :: 23 :: 24 :: 25 :: 26 :: 27 :: 28 :: 29 :: 30 :: 31 :: 32 :: []) :: (0 :: 1 :: 2 :: 3 :: 4 :: 5 :: 6 :: 7 :: 8 :: 9 :: 10 :: 11 :: 12 :: 13 :: 14 :: 15 :: 16 :: 17 :: 18 :: 19 :: 20 :: 21 :: 22 :: 23 :: 24 :: 25 :: 26 :: 27 :: 28 :: 29 :: 30 :: 31 :: 32 :: []) :: (0 :: 1 :: 2 :: 3 :: 4 :: 5 :: 6 :: 7 :: 8 :: 9 :: 10 :: 11 :: 12 :: 13 :: 14 :: 15 :: 16 :: 17 :: 18 :: 19 :: 20 :: 21 :: 22 :: 23 :: 24 :: 25 :: 26 :: 27 :: 28 :: 29 :: 30 :: 31 :: 32 :: 33 :: 34 :: []) :: (0 :: 1 :: 2 :: 3 :: 4 :: 5 :: 6 :: 7 :: 8 :: 9 :: 10 :: 11 :: 12 :: 13 :: 14 :: 15 :: 16 :: 17 :: 18 :: 19 :: 20 :: 21 :: 22 :: 23 :: 24 :: 25 :: 26 :: 27 :: 28 :: 29 :: 30 :: 31 :: 32 :: []) :: (0 :: 1 :: 2 :: 3 :: 4 :: 5 :: 6 :: 7 :: 8 :: 9 :: 10 :: 11 :: 12 :: 13 :: 14 :: 15 :: 16 :: 17 :: 18 :: 19 :: 20 :: 21 :: 22 :: 23 :: 24 :: 25 :: 26 :: 27 :: 28 :: 29 :: 30 :: 31 :: 32 :: []) :: (0 :: 1 :: 2 :: 3 :: 4 :: 5 :: 6 :: 7 :: 8 :: 9 :: 10 :: 11 :: 12 :: 13 :: 14 :: 15 :: 16 :: 17 :: 18 :: 19 :: 20 :: 21 :: 22 :: 23 :: 24 :: 25 :: 26 :: 27 :: 28 :: 29 :: 30 :: 31 :: 32 :: 33 :: 34 :: 35 :: 36 :: 37 :: []) :: (0 :: 1 :: 2 :: 3 :: 4 :: 5 :: 6 :: 7 :: 8 :: 9 :: 10 :: 11 :: 12 :: 13 :: 14 :: 15 :: 16 :: 17 :: 18 :: 19 :: 20 :: 21 :: 22 :: 23 :: 24 :: 25 :: 26 :: 27 :: 28 :: 29 :: 30 :: 31 :: 32 :: 33 :: 34 :: 35 :: 36 :: 37 :: 38 :: []) :: (0 :: 1 :: 2 :: 3 :: 4 :: 5 :: 6 :: 7 :: 8 :: 9 :: 10 :: 11 :: 12 :: 13 :: 14 :: 15 :: 16 :: 17 :: 18 :: 19 :: 20 :: 21 :: 22 :: 23 :: 24 :: 25 :: 26 :: 27 :: 28 :: 29 :: 30 :: 31 :: 32 :: 33 :: 34 :: 35 :: 36 :: 37 :: 38 :: 39 :: []) :: (0 :: 1 :: 2 :: 3 :: 4 :: 5 :: 6 :: 7 :: 8 :: 9 :: 10 :: 11 :: 12 :: 13 :: 14 :: 15 :: 16 :: 17 :: 18 :: 19 :: 20 :: 21 :: 22 :: 23 :: 24 :: 25 :: 26 :: 27 :: 28 :: 29 :: 30 :: 31 :: 32 :: 33 :: 34 :: 35 :: 36 :: 37 :: 38 :: 39 :: 40 :: []) :: (0 :: 1 :: 2 :: 3 :: 4 :: 5 :: 6 :: 7 :: 8 :: 9 :: 10 :: 11 :: 12 :: 13 :: 14 :: 15 :: 16 :: 17 :: 18 :: 19 :: 20 :: 21 :: 22 :: 23 :: 24 :: 25 :: 26 :: 27 :: 28 :: 29 :: 30 :: 31 :: 32 :: 33 :: 34 :: 35 :: 36 :: 37 :: 38 :: 39 :: 40 :: 41 :: []) :: (0 :: 1 :: 2 :: 3 :: 4 :: 5 :: 6 :: 7 :: 8 :: 9 :: 10 :: 11 :: 12 :: 13 :: 14 :: 15 :: 16 :: 17 :: 18 :: 19 :: 20 :: 21 :: 22 :: 23 :: 24 :: 25 :: 26 :: 27 :: 28 :: 29 :: 30 :: 31 :: 32 :: 33 :: 34 :: 35 :: 36 :: 37 :: 38 :: 39 :: 40 :: 41 :: 42 :: []) :: (0 :: 1 :: 2 :: 3 :: 4 :: 5 :: 6 :: 7 :: 8 :: 9 :: 10 :: 11 :: 12 :: 13 :: 14 :: 15 :: 16 :: 17 :: 18 :: 19 :: 20 :: 21 :: 22 :: 23 :: 24 :: 25 :: 26 :: 27 :: 28 :: 29 :: 30 :: 31 :: 32 :: 33 :: 34 :: 35 :: 36 :: 37 :: 38 :: 39 :: 40 :: 41 :: 42 :: 43 :: []) :: (0 :: 1 :: 2 :: 3 :: 4 :: 5 :: 6 :: 7 :: 8 :: 9 :: 10 :: 11 :: 12 :: 13 :: 14 :: 15 :: 16 :: 17 :: 18 :: 19 :: 20 :: 21 :: 22 :: 23 :: 24 :: 25 :: 26 :: 27 :: 28 :: 29 :: 30 :: 31 :: 32 :: 33 :: 34 :: 35 :: 36 :: 37 :: 38 :: 39 :: 40 :: 41 :: 42 :: 43 :: 44 :: []) :: [])) (sl' := [(6, .one (bB false))]) (hp' := []) follows rfl rfl rfl ⟨⟨rfl, trivial⟩, trivial, ⟨rfl, trivial⟩, trivial, ⟨rfl, trivial⟩, trivial, ⟨rfl, trivial⟩, trivial, ⟨rfl, trivial⟩, trivial, ⟨rfl, trivial⟩, trivial, ⟨rfl, trivial⟩, trivial, ⟨rfl, trivial⟩, trivial, ⟨rfl, trivial⟩, trivial, ⟨rfl, trivial⟩, trivial, ⟨rfl, trivial⟩, trivial, ⟨rfl, trivial⟩, trivial, ⟨rfl, trivial⟩, trivial, ⟨rfl, trivial⟩, trivial, ⟨rfl, trivial⟩, trivial, ⟨rfl, trivial⟩, trivial, ⟨rfl, trivial⟩, trivial, ⟨rfl, trivial⟩, trivial, ⟨rfl, trivial⟩, trivial, ⟨rfl, trivial⟩, trivial, ⟨rfl, trivial⟩, trivial, ⟨rfl, trivial⟩, trivial, ⟨rfl, trivial⟩, trivial, ⟨rfl, trivial⟩, trivial, ⟨rfl, trivial⟩, trivial, ⟨rfl, trivial⟩, trivial, ⟨rfl, trivial⟩, trivial, ⟨rfl, trivial⟩, trivial, ⟨rfl, trivial⟩, trivial, ⟨rfl, trivial⟩, trivial, ⟨rfl, trivial⟩, trivial, ⟨rfl, trivial⟩, trivial, ⟨rfl, trivial⟩, trivial, ⟨rfl, trivial⟩, trivial, ⟨rfl, trivial⟩, trivial, ⟨rfl, trivial⟩, trivial, ⟨rfl, trivial⟩, trivial, ⟨rfl, trivial⟩, trivial, ⟨rfl, trivial⟩, trivial, ⟨rfl, trivial⟩, trivial, ⟨rfl, trivial⟩, trivial, ⟨rfl, trivial⟩, trivial, ⟨rfl, trivial⟩, trivial, ⟨rfl, trivial⟩, trivial, ⟨rfl, trivial⟩, trivial, ⟨rfl, trivial⟩, trivial, trivial⟩ ⟨OpW.plain (op_move (Ev.t 7 (bB false)) rfl) rfl rfl, OpW.plain (op_move (Ev.t 54 (bB false)) rfl) rfl rfl, OpW.no rfl rfl rfl rfl rfl, OpW.plain (op_pickF (Ev.t 55 (bB false)) (Ev.c _ rfl) rfl) rfl rfl, OpW.plain (op_move (Ev.t 57 (bB false)) rfl) rfl rfl, OpW.no rfl rfl rfl rfl rfl, OpW.plain (op_pickF (Ev.t 58 (bB false)) (Ev.c _ rfl) rfl) rfl rfl, OpW.plain (op_move (Ev.t 60 (bB false)) rfl) rfl rfl, OpW.no rfl rfl rfl rfl rfl, OpW.plain (op_pickF (Ev.t 61 (bB false)) (Ev.c _ rfl) rfl) rfl rfl, OpW.plain (op_move (Ev.t 63 (bB false)) rfl) rfl rfl, OpW.no rfl rfl rfl rfl rfl, OpW.no rfl rfl rfl rfl rfl, OpW.no rfl rfl rfl rfl rfl, OpW.no rfl rfl rfl rfl rfl, OpW.no rfl rfl rfl rfl rfl, OpW.no rfl rfl rfl rfl rfl, OpW.no rfl rfl rfl rfl rfl, OpW.no rfl rfl rfl rfl rfl, OpW.no rfl rfl rfl rfl rfl, OpW.no rfl rfl rfl rfl rfl, OpW.no rfl rfl rfl rfl rfl, OpW.plain (op_pickF (Ev.t 64 (bB false)) (Ev.c _ rfl) rfl) rfl rfl, OpW.plain (op_move (Ev.t 76 (bB false)) rfl) rfl rfl, OpW.no rfl rfl rfl rfl rfl, OpW.no rfl rfl rfl rfl rfl, OpW.no rfl rfl rfl rfl rfl, OpW.no rfl rfl rfl rfl rfl, OpW.no rfl rfl rfl rfl rfl, OpW.no rfl rfl rfl rfl rfl, OpW.no rfl rfl rfl rfl rfl, OpW.plain (op_pickF (Ev.t 77 (bB false)) (Ev.c _ rfl) rfl) rfl rfl, OpW.plain (op_move (Ev.t 85 (bB false)) rfl) rfl rfl, OpW.no rfl rfl rfl rfl rfl, OpW.no rfl rfl rfl rfl rfl, OpW.no rfl rfl rfl rfl rfl, OpW.no rfl rfl rfl rfl rfl, OpW.no rfl rfl rfl rfl rfl, OpW.no rfl rfl rfl rfl rfl, OpW.no rfl rfl rfl rfl rfl, OpW.plain (op_pickF (Ev.t 86 (bB false)) (Ev.c _ rfl) rfl) rfl rfl, OpW.plain (op_move (Ev.t 94 (bB false)) rfl) rfl rfl, OpW.no rfl rfl rfl rfl rfl, OpW.no rfl rfl rfl rfl rfl, OpW.plain (op_pickF (Ev.t 95 (bB false)) (Ev.c _ rfl) rfl) rfl rfl, OpW.plain (op_assign (Ev.t 98 (bB false)) rfl) rfl rfl, trivial⟩ ⟨rfl, trivial⟩ trivial rfl ?_
      cases hF
      exact G.ret1 Try.results4 (RVar.tmp 6 _) ⟨rfl, trivial⟩ trivial
  refine ifS hF (fun hc29 hF => ?_) (fun hc29 hF => ?_)
  · refine G.cond rfl (fun _ => ?_) (fun hx => by rw [hc29] at hx; cases hx)
    refine G.region ?_
    refine G.op1 (op_fieldP (off' := 3) Try.underlying36 rfl ti34 (by decide) rfl (Ev.t 5 (.ptr 1005 0)) rfl) rfl ⟨rfl, trivial⟩ trivial ?_
    refine G.op1 (op_load1P (c := .g (.d (.sl 2 (List.map encApi_Range q_2.Ranges)))) Try.underlying34 rfl rfl (Ev.t 22 (.ptr 1005 3)) rfl) rfl ⟨rfl, trivial⟩ ⟨rfl, trivial⟩ ?_
    obtain ⟨l30, hl30, hF⟩ := bindS hF
    refine G.op1 (op_sliceD (lo := none) (hi := some 5) Try.underlying34 ti43 (sub_ok hl30 encApi_Range).1 (sub_ok hl30 encApi_Range).2.1 (sub_ok hl30 encApi_Range).2.2.1 (sub_ok hl30 encApi_Range).2.2.2 (Ev.t 23 (.g (.d (.sl 2 (List.map encApi_Range q_2.Ranges))))) EvO.none (EvO.some (Ev.c _ rfl)) rfl) rfl ⟨rfl, trivial⟩ trivial ?_
    refine G.op1 (op_fieldP (off' := 3) Try.underlying36 rfl ti34 (by decide) rfl (Ev.t 5 (.ptr 1005 0)) rfl) rfl ⟨rfl, trivial⟩ trivial ?_
    refine G.op3 (op_store1 (cs' := [bS q_2.Dep.Key, bI .i64 q_2.Dep.Stamp.N, bI .i64 q_2.Dep.Stamp.Site, .g (.d (.sl 2 (List.map encApi_Range l30)))]) (c := .g (.d (.sl 2 (List.map encApi_Range l30)))) trivial ti34 rfl rfl (Ev.t 25 (.ptr 1005 3)) (Ev.t 24 (.g (.d (.sl 2 (List.map encApi_Range l30)))))) rfl ⟨rfl, rfl, trivial⟩ ⟨rfl, trivial⟩ ?_
    refine G.endOps ?_
    exact G.arr (J28 l30 hF) ⟨rfl, rfl, rfl, rfl, trivial⟩ ⟨rfl, trivial⟩ rfl
  · refine G.cond rfl (fun hx => by rw [hc29] at hx; cases hx) (fun _ => ?_)
    refine G.skip ?_
    exact G.arr (J28 q_2.Ranges hF) ⟨rfl, rfl, rfl, rfl, trivial⟩ ⟨rfl, trivial⟩ rfl


end Go.Ark
