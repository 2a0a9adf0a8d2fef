/- Walks, printed by a program of mine: each function of the program computes the typed function of its name. Conditions: none. -/
import Derived.Test.YtedpjlinmkingaaWPastOnly1
namespace Go.Ark
open Go Go.Ab Go.RowKit Go.Lib Go.Proofs

set_option maxRecDepth 20000 in
set_option maxHeartbeats 2000000 in
theorem ct_keys_Has (r_0 : Api_Range) (key_1 : ByteArray) (r : Bool) (hF : keys_Has r_0 key_1 = some r) : Ct Try.prog 71 [.g (.agg (encApi_Range r_0)), .g (.d (.v (.string key_1)))] (.one (.d (.v (.bool r)))) := by
  unfold keys_Has at hF
  refine Ct.intro Try.func71 rfl Try.ntmps71 rfl rfl fun M w => ?_
  refine G.seq ?_
  refine G.region ?_
  refine G.op2 (op_boxA (k := 1002) (Ev.t 0 (.g (.agg [.v (.string r_0.From), .v (.string r_0.To)]))) rfl) rfl ⟨rfl, trivial⟩ ⟨rfl, trivial⟩ ?_
  refine G.op1 (op_assign (Ev.c _ rfl) rfl) rfl trivial trivial ?_
  refine G.endOps ?_
  refine G.seq ?_
  refine G.region ?_
  refine G.op1 (op_move (Ev.t 1 (bS key_1)) rfl) rfl ⟨rfl, trivial⟩ trivial ?_
  refine G.op1 (op_fieldP (off' := 0) Try.underlying43 rfl ti9 (by decide) rfl (Ev.t 2 (.ptr 1002 0)) rfl) rfl ⟨rfl, trivial⟩ trivial ?_
  refine G.op1 (op_load1P (c := bS r_0.From) Try.underlying9 rfl rfl (Ev.t 6 (.ptr 1002 0)) rfl) rfl ⟨rfl, trivial⟩ ⟨rfl, trivial⟩ ?_
  refine G.op1 (op_geS (Ev.t 5 (bS key_1)) (Ev.t 7 (bS r_0.From)) rfl) rfl ⟨rfl, rfl, trivial⟩ trivial ?_
  refine G.op1 (op_move (Ev.t 8 (bB (!slt key_1 r_0.From))) rfl) rfl ⟨rfl, trivial⟩ trivial ?_
  refine ifS hF (fun hc1 hF => ?_) (fun hc1 hF => ?_)
  · refine G.known (t := 9) hc1 rfl ?_
    refine G.opG1 (op_fieldP (off' := 1) Try.underlying43 rfl ti9 (by decide) rfl (Ev.t 2 (.ptr 1002 0)) rfl) rfl rfl rfl ⟨rfl, trivial⟩ trivial ?_
    refine G.opG1 (op_load1P (c := bS r_0.To) Try.underlying9 rfl rfl (Ev.t 10 (.ptr 1002 1)) rfl) rfl rfl rfl ⟨rfl, trivial⟩ ⟨rfl, trivial⟩ ?_
    refine G.opG1 (op_eqS (Ev.t 11 (bS r_0.To)) (Ev.c _ rfl) rfl) rfl rfl rfl ⟨rfl, trivial⟩ trivial ?_
    refine G.opG1 (op_move (Ev.t 12 (bB (seq r_0.To ByteArray.empty))) rfl) rfl rfl rfl ⟨rfl, trivial⟩ trivial ?_
    refine ifS hF (fun hc2 hF => ?_) (fun hc2 hF => ?_)
    · refine G.known (t := 13) hc2 rfl ?_
      refine G.opN1 rfl rfl rfl rfl rfl ?_
      refine G.opN1 rfl rfl rfl rfl rfl ?_
      refine G.opN1 rfl rfl rfl rfl rfl ?_
      refine G.opN1 rfl rfl rfl rfl rfl ?_
      refine G.opG1 (op_pickT (Ev.t 13 (bB true)) (Ev.c _ rfl) rfl) rfl rfl rfl ⟨rfl, trivial⟩ trivial ?_
      refine G.op1 (op_pickT (Ev.t 9 (bB true)) (Ev.t 18 (bB true)) rfl) rfl ⟨rfl, rfl, trivial⟩ trivial ?_
      refine G.op1 (op_assign (Ev.t 19 (bB true)) rfl) rfl ⟨rfl, trivial⟩ trivial ?_
      refine G.endOps ?_
      cases hF
      exact G.ret1 Try.results71 (RVar.tmp 4 _) ⟨rfl, trivial⟩ trivial
    · refine G.known (t := 13) hc2 rfl ?_
      refine G.opG1 (op_move (Ev.t 1 (bS key_1)) rfl) rfl rfl rfl ⟨rfl, trivial⟩ trivial ?_
      refine G.opG1 (op_fieldP (off' := 1) Try.underlying43 rfl ti9 (by decide) rfl (Ev.t 2 (.ptr 1002 0)) rfl) rfl rfl rfl ⟨rfl, trivial⟩ trivial ?_
      refine G.opG1 (op_load1P (c := bS r_0.To) Try.underlying9 rfl rfl (Ev.t 15 (.ptr 1002 1)) rfl) rfl rfl rfl ⟨rfl, trivial⟩ ⟨rfl, trivial⟩ ?_
      refine G.opG1 (op_ltS (Ev.t 14 (bS key_1)) (Ev.t 16 (bS r_0.To)) rfl) rfl rfl rfl ⟨rfl, rfl, trivial⟩ trivial ?_
      refine G.opG1 (op_pickF (Ev.t 13 (bB false)) (Ev.t 17 (bB (slt key_1 r_0.To))) rfl) rfl rfl rfl ⟨rfl, rfl, trivial⟩ trivial ?_
      refine G.op1 (op_pickT (Ev.t 9 (bB true)) (Ev.t 18 (bB (slt key_1 r_0.To))) rfl) rfl ⟨rfl, rfl, trivial⟩ trivial ?_
      refine G.op1 (op_assign (Ev.t 19 (bB (slt key_1 r_0.To))) rfl) rfl ⟨rfl, trivial⟩ trivial ?_
      refine G.endOps ?_
      cases hF
      exact G.ret1 Try.results71 (RVar.tmp 4 _) ⟨rfl, trivial⟩ trivial
  · refine G.known (t := 9) hc1 rfl ?_
    refine G.opN1 rfl rfl rfl rfl rfl ?_
    refine G.opN1 rfl rfl rfl rfl rfl ?_
    refine G.opN1 rfl rfl rfl rfl rfl ?_
    refine G.opN1 rfl rfl rfl rfl rfl ?_
    refine G.opU rfl rfl rfl rfl ?_
    refine G.opU rfl rfl rfl rfl ?_
    refine G.opU rfl rfl rfl rfl ?_
    refine G.opU rfl rfl rfl rfl ?_
    refine G.opN1 rfl rfl rfl rfl rfl ?_
    refine G.op1 (op_pickF (Ev.t 9 (bB false)) (Ev.c _ rfl) rfl) rfl ⟨rfl, trivial⟩ trivial ?_
    refine G.op1 (op_assign (Ev.t 19 (bB false)) rfl) rfl ⟨rfl, trivial⟩ trivial ?_
    refine G.endOps ?_
    cases hF
    exact G.ret1 Try.results71 (RVar.tmp 4 _) ⟨rfl, trivial⟩ trivial


set_option maxRecDepth 20000 in
set_option maxHeartbeats 2000000 in
theorem ct_keys_Find_1 (r_0 : Api_Range) (c0 : ByteArray) (r : Bool) (hF : keys_Find_1 r_0 c0 = some r) : Ct Try.prog 70 [.g (.agg (encApi_Range r_0)), .ep [.v (.string c0)]] (.one (.d (.v (.bool r)))) := by
  unfold keys_Find_1 at hF
  refine Ct.intro Try.func70 rfl Try.ntmps70 rfl rfl fun M w => ?_
  refine G.seq ?_
  refine G.region ?_
  refine G.op2 (op_boxA (k := 1002) (Ev.t 0 (.g (.agg [.v (.string r_0.From), .v (.string r_0.To)]))) rfl) rfl ⟨rfl, trivial⟩ ⟨rfl, trivial⟩ ?_
  refine G.op1 (op_assign (Ev.c _ rfl) rfl) rfl trivial trivial ?_
  refine G.endOps ?_
  refine G.seq ?_
  refine G.region ?_
  refine G.op1 (op_loadAP (ds := [.v (.string r_0.From), .v (.string r_0.To)]) Try.underlying43 rfl ti43 rfl (Ev.t 2 (.ptr 1002 0)) rfl) rfl ⟨rfl, trivial⟩ ⟨rfl, trivial⟩ ?_
  refine G.op1 (op_load1E (c := .v (.string c0)) Try.underlying9 rfl rfl (Ev.t 1 (.ep [.v (.string c0)])) rfl) rfl ⟨rfl, trivial⟩ trivial ?_
  obtain ⟨r1, hr1, hF⟩ := bindS hF
  refine G.op1 (op_callQ (sv := .one (bB r1)) cf71 (ct_keys_Has r_0 c0 r1 hr1) rfl rfl (EvQL.cons (EvQ.g (Ev.t 4 (.g (.agg [.v (.string r_0.From), .v (.string r_0.To)])))) (EvQL.cons (EvQ.g (Ev.t 5 (bS c0))) EvQL.nil)) rfl) rfl ⟨rfl, rfl, trivial⟩ trivial ?_
  refine G.op1 (op_assign (Ev.t 6 (bB r1)) rfl) rfl ⟨rfl, trivial⟩ trivial ?_
  refine G.endOps ?_
  cases hF
  exact G.ret1 Try.results70 (RVar.tmp 3 _) ⟨rfl, trivial⟩ trivial


set_option maxRecDepth 20000 in
set_option maxHeartbeats 2000000 in
theorem ct_slices_IndexFunc_Range (s_0 : (List Api_Range)) (f_1 : (Api_Range → Option Bool)) (r : Int) (hF : slices_IndexFunc_Range s_0 f_1 = some r) : Ct Try.prog 69 [.g (.d (.sl 2 (List.map encApi_Range s_0))), .sem (sem1 (fun x => .agg (encApi_Range x)) (fun y => .bool y) f_1)] (.one (.d (.v (.int .i64 r)))) := by
  unfold slices_IndexFunc_Range at hF
  refine Ct.intro Try.func69 rfl Try.ntmps69 rfl rfl fun M w => ?_
  refine G.seq ?_
  refine G.region ?_
  refine G.op1 (op_assign (Ev.c _ rfl) rfl) rfl trivial trivial ?_
  refine G.endOps ?_
  refine G.seq ?_
  refine G.seq ?_
  refine G.region ?_
  refine G.op1 (op_move (Ev.t 0 (.g (.d (.sl 2 (List.map encApi_Range s_0))))) rfl) rfl ⟨rfl, trivial⟩ trivial ?_
  refine G.op1 (OpL.cast (op_lenD Try.underlying34 (Ev.t 6 (.g (.d (.sl 2 (List.map encApi_Range s_0))))) rfl) (by rw [List.length_map])) rfl ⟨rfl, trivial⟩ trivial ?_
  refine G.op1 (op_move (Ev.c _ rfl) rfl) rfl trivial trivial ?_
  refine G.endOps ?_
  refine G.joinC (T := Unit) (fun y1 => ⟨[], []⟩) (fun y1 => slices_IndexFunc_Range_k1 y1 = some r) (fun y1 hF => ?_) (fun J2 => ?_)
  · unfold slices_IndexFunc_Range_k1 at hF
    refine G.seq ?_
    refine G.region ?_
    refine G.op1 (op_assign (Ev.c _ rfl) rfl) rfl trivial trivial ?_
    refine G.endOps ?_
    cases hF
    exact G.ret1 Try.results69 (RVar.tmp 4 _) ⟨rfl, trivial⟩ trivial
  refine G.block ?_
  refine G.keep (sl' := [(0, .one (.g (.d (.sl 2 (List.map encApi_Range s_0))))), (1, .one (.sem (sem1 (fun x => .agg (encApi_Range x)) (fun y => .bool y) f_1))), (7, .one (bI .i64 (s_0.length : Int))), (8, .one (bI .i64 0))]) (hp' := []) ⟨rfl, rfl, rfl, rfl, trivial⟩ trivial rfl ?_
  refine G.loopF (fun (v3 : Int) => ⟨[(0, .one (.g (.d (.sl 2 (List.map encApi_Range s_0))))), (1, .one (.sem (sem1 (fun x => .agg (encApi_Range x)) (fun y => .bool y) f_1))), (7, .one (bI .i64 (s_0.length : Int))), (8, .one (bI .i64 v3))], []⟩) hF rfl (fun K6 again5 v3 J4 hF => ?_)
  unfold slices_IndexFunc_Range_l2 at hF
  refine G.seq ?_
  refine G.region ?_
  refine G.op1 (op_lss (Ev.t 8 (bI .i64 v3)) (Ev.t 7 (bI .i64 (s_0.length : Int))) rfl) rfl ⟨rfl, rfl, trivial⟩ trivial ?_
  refine G.endOps ?_
  refine G.seq ?_
  refine ifS hF (fun hc7 hF => ?_) (fun hc7 hF => ?_)
  · refine G.cond rfl (fun _ => ?_) (fun hx => by rw [hc7] at hx; cases hx)
    refine G.skip ?_
    refine G.seq ?_
    refine G.block ?_
    refine G.seq ?_
    refine G.region ?_
    refine G.op1 (op_move (Ev.t 8 (bI .i64 v3)) rfl) rfl ⟨rfl, trivial⟩ trivial ?_
    refine G.op1 (op_assign (Ev.t 10 (bI .i64 v3)) rfl) rfl ⟨rfl, trivial⟩ trivial ?_
    refine G.endOps ?_
    refine G.seq ?_
    refine G.region ?_
    refine G.op1 (op_move (Ev.t 1 (.sem (sem1 (fun x => .agg (encApi_Range x)) (fun y => .bool y) f_1))) rfl) rfl ⟨rfl, trivial⟩ trivial ?_
    refine G.op1 (op_move (Ev.t 0 (.g (.d (.sl 2 (List.map encApi_Range s_0))))) rfl) rfl ⟨rfl, trivial⟩ trivial ?_
    refine G.op1 (op_move (Ev.t 5 (bI .i64 v3)) rfl) rfl ⟨rfl, trivial⟩ trivial ?_
    obtain ⟨x8, hx8, hF⟩ := bindS hF
    refine G.op1 (op_index (cs := [.v (.string x8.From), .v (.string x8.To)]) Try.underlying34 ti43 (idx_ok hx8).1 (idx_get hx8 encApi_Range) (Ev.t 12 (.g (.d (.sl 2 (List.map encApi_Range s_0))))) (Ev.t 13 (bI .i64 v3)) rfl) rfl ⟨rfl, rfl, trivial⟩ trivial ?_
    refine G.op1 (op_loadAE (ds := [.v (.string x8.From), .v (.string x8.To)]) Try.underlying43 rfl ti43 rfl (Ev.t 14 (.ep [.v (.string x8.From), .v (.string x8.To)])) rfl) rfl ⟨rfl, trivial⟩ trivial ?_
    obtain ⟨r9, hr9, hF⟩ := bindS hF
    refine G.op1 (op_callSem (t := 11) (v := .bool r9) (Φ := sem1 (fun x => .agg (encApi_Range x)) (fun y => .bool y) f_1) ⟨x8, r9, rfl, hr9, rfl⟩ rfl (EvL.cons (Ev.t 15 (.g (.agg [.v (.string x8.From), .v (.string x8.To)]))) EvL.nil) rfl) rfl ⟨rfl, rfl, trivial⟩ trivial ?_
    refine G.endOps ?_
    refine ifS hF (fun hc10 hF => ?_) (fun hc10 hF => ?_)
    · refine G.cond rfl (fun _ => ?_) (fun hx => by rw [hc10] at hx; cases hx)
      refine G.seq ?_
      refine G.region ?_
      refine G.op1 (op_move (Ev.t 5 (bI .i64 v3)) rfl) rfl ⟨rfl, trivial⟩ trivial ?_
      refine G.op1 (op_assign (Ev.t 17 (bI .i64 v3)) rfl) rfl ⟨rfl, trivial⟩ trivial ?_
      refine G.endOps ?_
      cases hF
      exact G.ret1 Try.results69 (RVar.tmp 4 _) ⟨rfl, trivial⟩ trivial
    · refine G.cond rfl (fun hx => by rw [hc10] at hx; cases hx) (fun _ => ?_)
      refine G.skip ?_
      refine G.endBlock ?_
      refine G.region ?_
      refine G.op1 (op_add (Ev.t 8 (bI .i64 v3)) (Ev.c _ rfl) rfl) rfl ⟨rfl, trivial⟩ trivial ?_
      refine G.op1 (op_move (Ev.t 18 (bI .i64 (IntKind.wrap .i64 (v3 + 1)))) rfl) rfl ⟨rfl, trivial⟩ trivial ?_
      refine G.endOps ?_
      exact G.arr (J4 (IntKind.wrap .i64 (v3 + 1)) hF) ⟨rfl, rfl, rfl, rfl, trivial⟩ trivial rfl
  · refine G.cond rfl (fun hx => by rw [hc7] at hx; cases hx) (fun _ => ?_)
    refine G.exit ?_
    refine GX.c ?_
    refine GX.q ?_
    refine GX.bYes ?_
    exact G.arr (J2 () hF) trivial trivial rfl


set_option maxRecDepth 20000 in
set_option maxHeartbeats 2000000 in
theorem ct_keys_Find (l_0 : (List Api_Range)) (key_1 : ByteArray) (r : Int) (hF : keys_Find l_0 key_1 = some r) : Ct Try.prog 44 [.g (.d (.sl 2 (List.map encApi_Range l_0))), .g (.d (.v (.string key_1)))] (.one (.d (.v (.int .i64 r)))) := by
  unfold keys_Find at hF
  refine Ct.intro Try.func44 rfl Try.ntmps44 rfl rfl fun M w => ?_
  refine G.seq ?_
  refine G.region ?_
  refine G.op2 (op_box1 (k := 1003) (c := bS key_1) trivial (Ev.t 1 (bS key_1)) rfl) rfl ⟨rfl, trivial⟩ ⟨rfl, trivial⟩ ?_
  refine G.op1 (op_assign (Ev.c _ rfl) rfl) rfl trivial trivial ?_
  refine G.endOps ?_
  refine G.seq ?_
  refine G.region ?_
  refine G.op1 (op_move (Ev.t 0 (.g (.d (.sl 2 (List.map encApi_Range l_0))))) rfl) rfl ⟨rfl, trivial⟩ trivial ?_
  refine G.op1 (op_makeFunc1 (Ev.t 3 (.ptr 1003 0)) rfl) rfl ⟨rfl, trivial⟩ trivial ?_
  obtain ⟨r1, hr1, hF⟩ := bindS hF
  refine G.op1 (op_callQ (sv := .one (bI .i64 r1)) cf69 (ct_slices_IndexFunc_Range l_0 (fun x0 => keys_Find_1 x0 key_1) r1 hr1) rfl rfl (EvQL.cons (EvQ.g (Ev.t 5 (.g (.d (.sl 2 (List.map encApi_Range l_0)))))) (EvQL.cons (EvQ.clo (Φ := sem1 (fun x => .agg (encApi_Range x)) (fun y => .bool y) (fun x0 => keys_Find_1 x0 key_1)) (Ev.t 6 (.clo 70 [1003])) (EvC.cons rfl EvC.nil) cf70 (fun args v ⟨x0, b, h1, h2, h3⟩ => by subst h1 h3; exact ct_keys_Find_1 x0 key_1 b h2)) EvQL.nil)) rfl) rfl ⟨rfl, rfl, trivial⟩ ⟨rfl, trivial⟩ ?_
  refine G.op1 (op_assign (Ev.t 7 (bI .i64 r1)) rfl) rfl ⟨rfl, trivial⟩ trivial ?_
  refine G.endOps ?_
  cases hF
  exact G.ret1 Try.results44 (RVar.tmp 4 _) ⟨rfl, trivial⟩ trivial


set_option maxRecDepth 20000 in
set_option maxHeartbeats 2000000 in
theorem ct_past_Only_1 (d_0 : Api_Dep) (c0 : (List Api_Range)) (r : Bool) (hF : past_Only_1 d_0 c0 = some r) : Ct Try.prog 43 [.g (.agg (encApi_Dep d_0)), .ep [.sl 2 (List.map encApi_Range c0)]] (.one (.d (.v (.bool r)))) := by
  unfold past_Only_1 at hF
  refine Ct.intro Try.func43 rfl Try.ntmps43 rfl rfl fun M w => ?_
  refine G.seq ?_
  refine G.region ?_
  refine G.op2 (op_boxA (k := 1002) (Ev.t 0 (.g (.agg [.v (.string d_0.Key), .v (.int .i64 d_0.Stamp.N), .v (.int .i64 d_0.Stamp.Site)]))) rfl) rfl ⟨rfl, trivial⟩ ⟨rfl, trivial⟩ ?_
  refine G.op1 (op_assign (Ev.c _ rfl) rfl) rfl trivial trivial ?_
  refine G.endOps ?_
  refine G.seq ?_
  refine G.region ?_
  refine G.op1 (op_load1E (c := .sl 2 (List.map encApi_Range c0)) Try.underlying34 rfl rfl (Ev.t 1 (.ep [.sl 2 (List.map encApi_Range c0)])) rfl) rfl ⟨rfl, trivial⟩ trivial ?_
  refine G.op1 (op_fieldP (off' := 0) Try.underlying26 rfl ti9 (by decide) rfl (Ev.t 2 (.ptr 1002 0)) rfl) rfl ⟨rfl, trivial⟩ trivial ?_
  refine G.op1 (op_load1P (c := bS d_0.Key) Try.underlying9 rfl rfl (Ev.t 5 (.ptr 1002 0)) rfl) rfl ⟨rfl, trivial⟩ ⟨rfl, trivial⟩ ?_
  obtain ⟨r1, hr1, hF⟩ := bindS hF
  refine G.op1 (op_callQ (sv := .one (bI .i64 r1)) cf44 (ct_keys_Find c0 d_0.Key r1 hr1) rfl rfl (EvQL.cons (EvQ.g (Ev.t 4 (.g (.d (.sl 2 (List.map encApi_Range c0)))))) (EvQL.cons (EvQ.g (Ev.t 6 (bS d_0.Key))) EvQL.nil)) rfl) rfl ⟨rfl, rfl, trivial⟩ trivial ?_
  refine G.op1 (op_lss (Ev.t 7 (bI .i64 r1)) (Ev.c _ rfl) rfl) rfl ⟨rfl, trivial⟩ trivial ?_
  refine G.op1 (op_assign (Ev.t 8 (bB (decide (r1 < 0)))) rfl) rfl ⟨rfl, trivial⟩ trivial ?_
  refine G.endOps ?_
  cases hF
  exact G.ret1 Try.results43 (RVar.tmp 3 _) ⟨rfl, trivial⟩ trivial


set_option maxRecDepth 20000 in
set_option maxHeartbeats 2000000 in
theorem ct_slices_DeleteFunc_Dep (s_0 : (List Api_Dep)) (del_1 : (Api_Dep → Option Bool)) (r : (List Api_Dep)) (hF : slices_DeleteFunc_Dep s_0 del_1 = some r) : Ct Try.prog 42 [.row 26 3 (List.map encApi_Dep s_0), .sem (sem1 (fun x => .agg (encApi_Dep x)) (fun y => .bool y) del_1)] (.new 26 3 (List.map encApi_Dep r)) := by
  unfold slices_DeleteFunc_Dep at hF
  refine Ct.introRow Try.func42 rfl Try.ntmps42 rfl fun M K w => ?_
  refine G.seq ?_
  refine G.region ?_
  refine G.op1 (op_assign (c := .x (.slice none 0 0)) (Ev.x _) rfl) rfl trivial trivial ?_
  refine G.endOps ?_
  refine G.seq ?_
  refine G.region ?_
  refine G.op1 (op_move (Ev.t 0 (.own 0 (List.map encApi_Dep s_0))) rfl) rfl ⟨rfl, trivial⟩ trivial ?_
  refine G.op1 (op_move (Ev.t 1 (.sem (sem1 (fun x => .agg (encApi_Dep x)) (fun y => .bool y) del_1))) rfl) rfl ⟨rfl, trivial⟩ trivial ?_
  obtain ⟨r1, hr1, hF⟩ := bindS hF
  refine G.op1 (op_callQ (sv := .one (bI .i64 r1)) cf67 (ct_slices_IndexFunc_Dep s_0 del_1 r1 hr1) rfl rfl (EvQL.cons (EvQ.own (Ev.t 8 (.own 0 (List.map encApi_Dep s_0)))) (EvQL.cons (EvQ.sem (Ev.t 9 (.sem (sem1 (fun x => .agg (encApi_Dep x)) (fun y => .bool y) del_1)))) EvQL.nil)) rfl) rfl ⟨rfl, rfl, trivial⟩ ⟨rfl, trivial⟩ ?_
  refine G.op1 (op_assign (Ev.t 10 (bI .i64 r1)) rfl) rfl ⟨rfl, trivial⟩ trivial ?_
  refine G.endOps ?_
  refine G.seq ?_
  refine G.seq ?_
  refine G.region ?_
  refine G.op1 (op_move (Ev.t 5 (bI .i64 r1)) rfl) rfl ⟨rfl, trivial⟩ trivial ?_
  refine G.op1 (op_eqI (Ev.t 11 (bI .i64 r1)) (Ev.c _ rfl) rfl) rfl ⟨rfl, trivial⟩ trivial ?_
  refine G.endOps ?_
  refine ifS hF (fun hc2 hF => ?_) (fun hc2 hF => ?_)
  · refine G.cond rfl (fun _ => ?_) (fun hx => by rw [hc2] at hx; cases hx)
    refine G.seq ?_
    refine G.region ?_
    refine G.op1 (op_move (Ev.t 0 (.own 0 (List.map encApi_Dep s_0))) rfl) rfl ⟨rfl, trivial⟩ trivial ?_
    refine G.op1 (op_assign (Ev.t 13 (.own 0 (List.map encApi_Dep s_0))) rfl) rfl ⟨rfl, trivial⟩ trivial ?_
    refine G.endOps ?_
    cases hF
    exact G.retNew Try.results42 rfl rfl
  · refine G.cond rfl (fun hx => by rw [hc2] at hx; cases hx) (fun _ => ?_)
    refine G.skip ?_
    refine G.seq ?_
    refine G.seq ?_
    refine G.region ?_
    refine G.op1 (op_move (Ev.t 5 (bI .i64 r1)) rfl) rfl ⟨rfl, trivial⟩ trivial ?_
    refine G.op1 (op_add (Ev.t 14 (bI .i64 r1)) (Ev.c _ rfl) rfl) rfl ⟨rfl, trivial⟩ trivial ?_
    refine G.op1 (op_assign (Ev.t 15 (bI .i64 (IntKind.wrap .i64 (r1 + 1)))) rfl) rfl ⟨rfl, trivial⟩ trivial ?_
    refine G.endOps ?_
    refine G.joinC (T := Int × (List Api_Dep)) (fun y3 => ⟨[(0, .one (.own 0 (List.map encApi_Dep y3.2))), (5, .one (bI .i64 y3.1))], [(0, some (.row 26 3 (List.map encApi_Dep y3.2) true))]⟩) (fun y3 => slices_DeleteFunc_Dep_k1 y3 = some r) (fun y3 hF => ?_) (fun J6 => ?_)
    · unfold slices_DeleteFunc_Dep_k1 at hF
      refine G.seq ?_
      refine G.region ?_
      refine G.op1 (op_move (Ev.t 0 (.own 0 (List.map encApi_Dep y3.2))) rfl) rfl ⟨rfl, trivial⟩ trivial ?_
      refine G.op1 (op_move (Ev.t 5 (bI .i64 y3.1)) rfl) rfl ⟨rfl, trivial⟩ trivial ?_
      obtain ⟨l4, hl4, hF⟩ := bindS hF
      refine G.clearRow (zs := [.v (.string ByteArray.empty), .v (.int .i64 0), .v (.int .i64 0)]) Try.underlying22 ti26 ⟨.v _ rfl, .v _ rfl, .v _ rfl, trivial⟩ rfl (zeroes_ok hl4 encApi_Dep).1 (zeroes_ok hl4 encApi_Dep).2.1 (zeroes_ok hl4 encApi_Dep).2.2 (Ev.t 36 (.own 0 (List.map encApi_Dep y3.2))) (Ev.t 37 (bI .i64 y3.1)) rfl ⟨rfl, rfl, trivial⟩ rfl ?_
      refine G.renew (t := 0) rfl rfl (zeroes_len hl4 encApi_Dep) ?_
      refine G.renew (t := 36) rfl rfl (zeroes_len hl4 encApi_Dep) ?_
      refine G.endOps ?_
      refine G.seq ?_
      refine G.region ?_
      refine G.op1 (op_move (Ev.t 0 (.own 0 (List.map encApi_Dep l4))) rfl) rfl ⟨rfl, trivial⟩ trivial ?_
      refine G.op1 (op_move (Ev.t 5 (bI .i64 y3.1)) rfl) rfl ⟨rfl, trivial⟩ trivial ?_
      obtain ⟨l5, hl5, hF⟩ := bindS hF
      refine G.cutRow (sl' := [(5, .one (bI .i64 y3.1)), (37, .one (bI .i64 y3.1)), (40, .one (bI .i64 y3.1))]) Try.underlying22 ti26 (sub_ok0 hl5 encApi_Dep).1 (sub_ok0 hl5 encApi_Dep).2.1 (sub_ok0 hl5 encApi_Dep).2.2 (Ev.t 39 (.own 0 (List.map encApi_Dep l4))) (Ev.t 40 (bI .i64 y3.1)) rfl ⟨rfl, rfl, trivial⟩ rfl ⟨rfl, rfl, rfl, trivial⟩ rfl ?_
      refine G.op1 (op_assign (Ev.t 41 (.own 0 (List.map encApi_Dep l5))) rfl) rfl ⟨rfl, trivial⟩ trivial ?_
      refine G.endOps ?_
      cases hF
      exact G.retNew Try.results42 rfl rfl
    refine G.block ?_
    refine G.keep (sl' := [(0, .one (.own 0 (List.map encApi_Dep s_0))), (1, .one (.sem (sem1 (fun x => .agg (encApi_Dep x)) (fun y => .bool y) del_1))), (5, .one (bI .i64 r1)), (6, .one (bI .i64 (IntKind.wrap .i64 (r1 + 1))))]) (hp' := [(0, some (.row 26 3 (List.map encApi_Dep s_0) true))]) ⟨rfl, rfl, rfl, rfl, trivial⟩ ⟨rfl, trivial⟩ rfl ?_
    refine G.loopF (fun (v7 : Int × Int × (List Api_Dep)) => ⟨[(0, .one (.own 0 (List.map encApi_Dep v7.2.2))), (1, .one (.sem (sem1 (fun x => .agg (encApi_Dep x)) (fun y => .bool y) del_1))), (5, .one (bI .i64 v7.1)), (6, .one (bI .i64 v7.2.1))], [(0, some (.row 26 3 (List.map encApi_Dep v7.2.2) true))]⟩) hF rfl (fun K10 again9 v7 J8 hF => ?_)
    unfold slices_DeleteFunc_Dep_l2 at hF
    refine G.seq ?_
    refine G.seq ?_
    refine G.region ?_
    refine G.op1 (op_move (Ev.t 6 (bI .i64 v7.2.1)) rfl) rfl ⟨rfl, trivial⟩ trivial ?_
    refine G.op1 (op_move (Ev.t 0 (.own 0 (List.map encApi_Dep v7.2.2))) rfl) rfl ⟨rfl, trivial⟩ trivial ?_
    refine G.op1 (OpL.cast (op_lenO Try.underlying22 (Ev.t 17 (.own 0 (List.map encApi_Dep v7.2.2))) rfl) (by rw [List.length_map])) rfl ⟨rfl, trivial⟩ ⟨rfl, trivial⟩ ?_
    refine G.op1 (op_lss (Ev.t 16 (bI .i64 v7.2.1)) (Ev.t 18 (bI .i64 (v7.2.2.length : Int))) rfl) rfl ⟨rfl, rfl, trivial⟩ trivial ?_
    refine G.endOps ?_
    refine ifS hF (fun hc11 hF => ?_) (fun hc11 hF => ?_)
    · refine G.cond rfl (fun _ => ?_) (fun hx => by rw [hc11] at hx; cases hx)
      refine G.skip ?_
      refine G.seq ?_
      refine G.block ?_
      refine G.seq ?_
      refine G.region ?_
      refine G.op1 (op_move (Ev.t 0 (.own 0 (List.map encApi_Dep v7.2.2))) rfl) rfl ⟨rfl, trivial⟩ trivial ?_
      refine G.op1 (op_move (Ev.t 6 (bI .i64 v7.2.1)) rfl) rfl ⟨rfl, trivial⟩ trivial ?_
      obtain ⟨x12, hx12, hF⟩ := bindS hF
      refine G.loadRow (cs := [.v (.string x12.Key), .v (.int .i64 x12.Stamp.N), .v (.int .i64 x12.Stamp.Site)]) Try.underlying22 Try.underlying26 rfl ti26 (idx_ok hx12).1 (idx_get hx12 encApi_Dep) (Ev.t 22 (.own 0 (List.map encApi_Dep v7.2.2))) (Ev.t 23 (bI .i64 v7.2.1)) rfl rfl ⟨rfl, rfl, trivial⟩ rfl ?_
      refine G.op2 (op_alloc (k := 1007) (cs := [bS ByteArray.empty, bI .i64 0, bI .i64 0]) ti26 ⟨.v _ rfl, .v _ rfl, .v _ rfl, trivial⟩ rfl) rfl trivial ⟨rfl, trivial⟩ ?_
      refine G.op3 (op_storeA (cs' := [bS x12.Key, bI .i64 x12.Stamp.N, bI .i64 x12.Stamp.Site]) ti26 rfl rfl (Ev.t 7 (.ptr 1007 0)) (Ev.t 25 (.g (.agg [.v (.string x12.Key), .v (.int .i64 x12.Stamp.N), .v (.int .i64 x12.Stamp.Site)])))) rfl ⟨rfl, rfl, trivial⟩ ⟨rfl, trivial⟩ ?_
      refine G.endOps ?_
      refine G.seq ?_
      refine G.region ?_
      refine G.op1 (op_move (Ev.t 1 (.sem (sem1 (fun x => .agg (encApi_Dep x)) (fun y => .bool y) del_1))) rfl) rfl ⟨rfl, trivial⟩ trivial ?_
      refine G.op1 (op_loadAP (ds := [.v (.string x12.Key), .v (.int .i64 x12.Stamp.N), .v (.int .i64 x12.Stamp.Site)]) Try.underlying26 rfl ti26 rfl (Ev.t 7 (.ptr 1007 0)) rfl) rfl ⟨rfl, trivial⟩ ⟨rfl, trivial⟩ ?_
      obtain ⟨r13, hr13, hF⟩ := bindS hF
      refine G.op1 (op_callSem (t := 26) (v := .bool r13) (Φ := sem1 (fun x => .agg (encApi_Dep x)) (fun y => .bool y) del_1) ⟨x12, r13, rfl, hr13, rfl⟩ rfl (EvL.cons (Ev.t 27 (.g (.agg [.v (.string x12.Key), .v (.int .i64 x12.Stamp.N), .v (.int .i64 x12.Stamp.Site)]))) EvL.nil) rfl) rfl ⟨rfl, rfl, trivial⟩ trivial ?_
      refine G.op1 (op_not (Ev.t 28 (bB r13)) rfl) rfl ⟨rfl, trivial⟩ trivial ?_
      refine G.endOps ?_
      refine ifS hF (fun hc14 hF => ?_) (fun hc14 hF => ?_)
      · refine G.cond rfl (fun _ => ?_) (fun hx => by rw [hc14] at hx; cases hx)
        refine G.seq ?_
        refine G.region ?_
        refine G.op1 (op_move (Ev.t 0 (.own 0 (List.map encApi_Dep v7.2.2))) rfl) rfl ⟨rfl, trivial⟩ trivial ?_
        refine G.op1 (op_move (Ev.t 5 (bI .i64 v7.1)) rfl) rfl ⟨rfl, trivial⟩ trivial ?_
        refine G.op1 (op_loadAP (ds := [.v (.string x12.Key), .v (.int .i64 x12.Stamp.N), .v (.int .i64 x12.Stamp.Site)]) Try.underlying26 rfl ti26 rfl (Ev.t 7 (.ptr 1007 0)) rfl) rfl ⟨rfl, trivial⟩ ⟨rfl, trivial⟩ ?_
        obtain ⟨l15, hl15, hF⟩ := bindS hF
        refine G.storeRow Try.underlying22 ti26 rfl (sets_ok hl15 encApi_Dep).1 (sets_ok hl15 encApi_Dep).2.1 (sets_ok hl15 encApi_Dep).2.2 (Ev.t 30 (.own 0 (List.map encApi_Dep v7.2.2))) (Ev.t 31 (bI .i64 v7.1)) (Ev.t 32 (.g (.agg [.v (.string x12.Key), .v (.int .i64 x12.Stamp.N), .v (.int .i64 x12.Stamp.Site)]))) (by simp) rfl ⟨rfl, rfl, rfl, trivial⟩ rfl ?_
        refine G.renew (t := 0) rfl rfl (sets_len hl15 encApi_Dep) ?_
        refine G.renew (t := 17) rfl rfl (sets_len hl15 encApi_Dep) ?_
        refine G.renew (t := 22) rfl rfl (sets_len hl15 encApi_Dep) ?_
        refine G.renew (t := 30) rfl rfl (sets_len hl15 encApi_Dep) ?_
        refine G.endOps ?_
        refine G.region ?_
        refine G.op1 (op_move (Ev.t 5 (bI .i64 v7.1)) rfl) rfl ⟨rfl, trivial⟩ trivial ?_
        refine G.op1 (op_add (Ev.t 34 (bI .i64 v7.1)) (Ev.c _ rfl) rfl) rfl ⟨rfl, trivial⟩ trivial ?_
        refine G.op1 (op_assign (Ev.t 35 (bI .i64 (IntKind.wrap .i64 (v7.1 + 1)))) rfl) rfl ⟨rfl, trivial⟩ trivial ?_
        refine G.endOps ?_
        refine G.endBlock ?_
        refine G.region ?_
        refine G.op1 (op_move (Ev.t 6 (bI .i64 v7.2.1)) rfl) rfl ⟨rfl, trivial⟩ trivial ?_
        refine G.op1 (op_add (Ev.t 20 (bI .i64 v7.2.1)) (Ev.c _ rfl) rfl) rfl ⟨rfl, trivial⟩ trivial ?_
        refine G.op1 (op_assign (Ev.t 21 (bI .i64 (IntKind.wrap .i64 (v7.2.1 + 1)))) rfl) rfl ⟨rfl, trivial⟩ trivial ?_
        refine G.endOps ?_
        exact G.arr (J8 (IntKind.wrap .i64 (v7.1 + 1), IntKind.wrap .i64 (v7.2.1 + 1), l15) hF) ⟨rfl, rfl, rfl, rfl, trivial⟩ ⟨rfl, trivial⟩ rfl
      · refine G.cond rfl (fun hx => by rw [hc14] at hx; cases hx) (fun _ => ?_)
        refine G.skip ?_
        refine G.endBlock ?_
        refine G.region ?_
        refine G.op1 (op_move (Ev.t 6 (bI .i64 v7.2.1)) rfl) rfl ⟨rfl, trivial⟩ trivial ?_
        refine G.op1 (op_add (Ev.t 20 (bI .i64 v7.2.1)) (Ev.c _ rfl) rfl) rfl ⟨rfl, trivial⟩ trivial ?_
        refine G.op1 (op_assign (Ev.t 21 (bI .i64 (IntKind.wrap .i64 (v7.2.1 + 1)))) rfl) rfl ⟨rfl, trivial⟩ trivial ?_
        refine G.endOps ?_
        exact G.arr (J8 (v7.1, IntKind.wrap .i64 (v7.2.1 + 1), v7.2.2) hF) ⟨rfl, rfl, rfl, rfl, trivial⟩ ⟨rfl, trivial⟩ rfl
    · refine G.cond rfl (fun hx => by rw [hc11] at hx; cases hx) (fun _ => ?_)
      refine G.exit ?_
      refine GX.c ?_
      refine GX.q ?_
      refine GX.bYes ?_
      exact G.arr (J6 (v7.1, v7.2.2) hF) ⟨rfl, rfl, trivial⟩ ⟨rfl, trivial⟩ rfl


set_option maxRecDepth 20000 in
set_option maxHeartbeats 2000000 in
theorem ct_past_Only (p_0 : (List Api_Dep)) (l_1 : (List Api_Range)) (r : (List Api_Dep)) (hF : past_Only p_0 l_1 = some r) : Ct Try.prog 20 [.g (.d (.sl 3 (List.map encApi_Dep p_0))), .g (.d (.sl 2 (List.map encApi_Range l_1)))] (.new 26 3 (List.map encApi_Dep r)) := by
  unfold past_Only at hF
  refine Ct.intro Try.func20 rfl Try.ntmps20 rfl rfl fun M w => ?_
  refine G.seq ?_
  refine G.region ?_
  refine G.op2 (op_box1 (k := 1003) (c := .g (.d (.sl 2 (List.map encApi_Range l_1)))) trivial (Ev.t 1 (.g (.d (.sl 2 (List.map encApi_Range l_1))))) rfl) rfl ⟨rfl, trivial⟩ ⟨rfl, trivial⟩ ?_
  refine G.op1 (op_assign (c := .x (.slice none 0 0)) (Ev.x _) rfl) rfl trivial trivial ?_
  refine G.endOps ?_
  refine G.seq ?_
  refine G.region ?_
  refine G.op1 (op_move (Ev.t 0 (.g (.d (.sl 3 (List.map encApi_Dep p_0))))) rfl) rfl ⟨rfl, trivial⟩ trivial ?_
  obtain ⟨r1, hr1, hF⟩ := bindS hF
  refine G.op2 (op_callNew (k := 2006) cf33 (ct_slices_Clone_Dep p_0 r1 hr1) (EvL.cons (Ev.t 5 (.g (.d (.sl 3 (List.map encApi_Dep p_0))))) EvL.nil) rfl) rfl ⟨rfl, trivial⟩ ⟨rfl, trivial⟩ ?_
  refine G.op1 (op_makeFunc1 (Ev.t 3 (.ptr 1003 0)) rfl) rfl ⟨rfl, trivial⟩ trivial ?_
  obtain ⟨r2, hr2, hF⟩ := bindS hF
  refine G.callRow (sl' := [(0, .one (.g (.d (.sl 3 (List.map encApi_Dep p_0))))), (1, .one (.g (.d (.sl 2 (List.map encApi_Range l_1))))), (3, .one (.ptr 1003 0)), (4, .one (.x (.slice none 0 0))), (5, .one (.g (.d (.sl 3 (List.map encApi_Dep p_0))))), (7, .one (.clo 43 [1003]))]) cf42 (ct_slices_DeleteFunc_Dep r1 (fun x0 => past_Only_1 x0 l_1) r2 hr2) (Ev.t 6 (.own 2006 (List.map encApi_Dep r1))) (EvX.clo (Φ := sem1 (fun x => .agg (encApi_Dep x)) (fun y => .bool y) (fun x0 => past_Only_1 x0 l_1)) (Ev.t 7 (.clo 43 [1003])) (EvC.cons rfl EvC.nil) cf43 (fun args v ⟨x0, b, h1, h2, h3⟩ => by subst h1 h3; exact ct_past_Only_1 x0 l_1 b h2) EvX.nil) rfl ⟨rfl, rfl, trivial⟩ ⟨rfl, rfl, trivial⟩ ⟨rfl, rfl, rfl, rfl, rfl, rfl, trivial⟩ rfl ?_
  refine G.op1 (op_assign (Ev.t 8 (.own 2006 (List.map encApi_Dep r2))) rfl) rfl ⟨rfl, trivial⟩ trivial ?_
  refine G.endOps ?_
  cases hF
  exact G.retNew Try.results20 rfl rfl


set_option maxRecDepth 20000 in
set_option maxHeartbeats 2000000 in
theorem ct_slices_Equal_Dep (s1_0 : (List Api_Dep)) (s2_1 : (List Api_Dep)) (r : Bool) (hF : slices_Equal_Dep s1_0 s2_1 = some r) : Ct Try.prog 35 [.g (.d (.sl 3 (List.map encApi_Dep s1_0))), .g (.d (.sl 3 (List.map encApi_Dep s2_1)))] (.one (.d (.v (.bool r)))) := by
  unfold slices_Equal_Dep at hF
  refine Ct.intro Try.func35 rfl Try.ntmps35 rfl rfl fun M w => ?_
  refine G.seq ?_
  refine G.region ?_
  refine G.op1 (op_assign (Ev.c _ rfl) rfl) rfl trivial trivial ?_
  refine G.endOps ?_
  refine G.seq ?_
  refine G.seq ?_
  refine G.region ?_
  refine G.op1 (op_move (Ev.t 0 (.g (.d (.sl 3 (List.map encApi_Dep s1_0))))) rfl) rfl ⟨rfl, trivial⟩ trivial ?_
  refine G.op1 (OpL.cast (op_lenD Try.underlying22 (Ev.t 6 (.g (.d (.sl 3 (List.map encApi_Dep s1_0))))) rfl) (by rw [List.length_map])) rfl ⟨rfl, trivial⟩ trivial ?_
  refine G.op1 (op_move (Ev.t 1 (.g (.d (.sl 3 (List.map encApi_Dep s2_1))))) rfl) rfl ⟨rfl, trivial⟩ trivial ?_
  refine G.op1 (OpL.cast (op_lenD Try.underlying22 (Ev.t 8 (.g (.d (.sl 3 (List.map encApi_Dep s2_1))))) rfl) (by rw [List.length_map])) rfl ⟨rfl, trivial⟩ trivial ?_
  refine G.op1 (op_neI (Ev.t 7 (bI .i64 (s1_0.length : Int))) (Ev.t 9 (bI .i64 (s2_1.length : Int))) rfl) rfl ⟨rfl, rfl, trivial⟩ trivial ?_
  refine G.endOps ?_
  refine ifS hF (fun hc1 hF => ?_) (fun hc1 hF => ?_)
  · refine G.cond rfl (fun _ => ?_) (fun hx => by rw [hc1] at hx; cases hx)
    refine G.seq ?_
    refine G.region ?_
    refine G.op1 (op_assign (Ev.c _ rfl) rfl) rfl trivial trivial ?_
    refine G.endOps ?_
    cases hF
    exact G.ret1 Try.results35 (RVar.tmp 4 _) ⟨rfl, trivial⟩ trivial
  · refine G.cond rfl (fun hx => by rw [hc1] at hx; cases hx) (fun _ => ?_)
    refine G.skip ?_
    refine G.seq ?_
    refine G.seq ?_
    refine G.region ?_
    refine G.op1 (op_move (Ev.t 0 (.g (.d (.sl 3 (List.map encApi_Dep s1_0))))) rfl) rfl ⟨rfl, trivial⟩ trivial ?_
    refine G.op1 (OpL.cast (op_lenD Try.underlying22 (Ev.t 11 (.g (.d (.sl 3 (List.map encApi_Dep s1_0))))) rfl) (by rw [List.length_map])) rfl ⟨rfl, trivial⟩ trivial ?_
    refine G.op1 (op_move (Ev.c _ rfl) rfl) rfl trivial trivial ?_
    refine G.endOps ?_
    refine G.joinC (T := Unit) (fun y2 => ⟨[], []⟩) (fun y2 => slices_Equal_Dep_k1 y2 = some r) (fun y2 hF => ?_) (fun J3 => ?_)
    · unfold slices_Equal_Dep_k1 at hF
      refine G.seq ?_
      refine G.region ?_
      refine G.op1 (op_assign (Ev.c _ rfl) rfl) rfl trivial trivial ?_
      refine G.endOps ?_
      cases hF
      exact G.ret1 Try.results35 (RVar.tmp 4 _) ⟨rfl, trivial⟩ trivial
    refine G.block ?_
    refine G.keep (sl' := [(0, .one (.g (.d (.sl 3 (List.map encApi_Dep s1_0))))), (1, .one (.g (.d (.sl 3 (List.map encApi_Dep s2_1))))), (12, .one (bI .i64 (s1_0.length : Int))), (13, .one (bI .i64 0))]) (hp' := []) ⟨rfl, rfl, rfl, rfl, trivial⟩ trivial rfl ?_
    refine G.loopF (fun (v4 : Int) => ⟨[(0, .one (.g (.d (.sl 3 (List.map encApi_Dep s1_0))))), (1, .one (.g (.d (.sl 3 (List.map encApi_Dep s2_1))))), (12, .one (bI .i64 (s1_0.length : Int))), (13, .one (bI .i64 v4))], []⟩) hF rfl (fun K7 again6 v4 J5 hF => ?_)
    unfold slices_Equal_Dep_l2 at hF
    refine G.seq ?_
    refine G.region ?_
    refine G.op1 (op_lss (Ev.t 13 (bI .i64 v4)) (Ev.t 12 (bI .i64 (s1_0.length : Int))) rfl) rfl ⟨rfl, rfl, trivial⟩ trivial ?_
    refine G.endOps ?_
    refine G.seq ?_
    refine ifS hF (fun hc8 hF => ?_) (fun hc8 hF => ?_)
    · refine G.cond rfl (fun _ => ?_) (fun hx => by rw [hc8] at hx; cases hx)
      refine G.skip ?_
      refine G.seq ?_
      refine G.block ?_
      refine G.seq ?_
      refine G.region ?_
      refine G.op1 (op_move (Ev.t 13 (bI .i64 v4)) rfl) rfl ⟨rfl, trivial⟩ trivial ?_
      refine G.op1 (op_assign (Ev.t 15 (bI .i64 v4)) rfl) rfl ⟨rfl, trivial⟩ trivial ?_
      refine G.endOps ?_
      refine G.seq ?_
      obtain ⟨x9, hx9, hF⟩ := bindS hF
      obtain ⟨x10, hx10, hF⟩ := bindS hF
      refine G.drawn (effs := [⟨[(0, .one (.g (.d (.sl 3 (List.map encApi_Dep s1_0)))))], [], [(16, .one (.g (.d (.sl 3 (List.map encApi_Dep s1_0)))))], []⟩, ⟨[(5, .one (bI .i64 v4))], [], [(17, .one (bI .i64 v4))], []⟩, ⟨[(16, .one (.g (.d (.sl 3 (List.map encApi_Dep s1_0))))), (17, .one (bI .i64 v4))], [], [(18, .one (.ep [.v (.string x9.Key), .v (.int .i64 x9.Stamp.N), .v (.int .i64 x9.Stamp.Site)]))], []⟩, ⟨[(18, .one (.ep [.v (.string x9.Key), .v (.int .i64 x9.Stamp.N), .v (.int .i64 x9.Stamp.Site)]))], [], [(19, .one (.g (.agg [.v (.string x9.Key), .v (.int .i64 x9.Stamp.N), .v (.int .i64 x9.Stamp.Site)])))], []⟩, ⟨[(1, .one (.g (.d (.sl 3 (List.map encApi_Dep s2_1)))))], [], [(20, .one (.g (.d (.sl 3 (List.map encApi_Dep s2_1)))))], []⟩, ⟨[(5, .one (bI .i64 v4))], [], [(21, .one (bI .i64 v4))], []⟩, ⟨[(20, .one (.g (.d (.sl 3 (List.map encApi_Dep s2_1))))), (21, .one (bI .i64 v4))], [], [(22, .one (.ep [.v (.string x10.Key), .v (.int .i64 x10.Stamp.N), .v (.int .i64 x10.Stamp.Site)]))], []⟩, ⟨[(22, .one (.ep [.v (.string x10.Key), .v (.int .i64 x10.Stamp.N), .v (.int .i64 x10.Stamp.Site)]))], [], [(23, .one (.g (.agg [.v (.string x10.Key), .v (.int .i64 x10.Stamp.N), .v (.int .i64 x10.Stamp.Site)])))], []⟩, ⟨[(19, .one (.g (.agg [.v (.string x9.Key), .v (.int .i64 x9.Stamp.N), .v (.int .i64 x9.Stamp.Site)]))), (23, .one (.g (.agg [.v (.string x10.Key), .v (.int .i64 x10.Stamp.N), .v (.int .i64 x10.Stamp.Site)])))], [], [(24, .one (bB (!(decide (x9.Key = x10.Key) && decide (x9.Stamp.N = x10.Stamp.N) && decide (x9.Stamp.Site = x10.Stamp.Site)))))], []⟩]) (deps := [[], [], [0, 1], [0, 1, 2], [], [], [4, 5], [4, 5, 6], [0, 1, 2, 3, 4, 5, 6, 7]]) (sl' := [(0, .one (.g (.d (.sl 3 (List.map encApi_Dep s1_0))))), (1, .one (.g (.d (.sl 3 (List.map encApi_Dep s2_1))))), (12, .one (bI .i64 (s1_0.length : Int))), (13, .one (bI .i64 v4)), (24, .one (bB (!(decide (x9.Key = x10.Key) && decide (x9.Stamp.N = x10.Stamp.N) && decide (x9.Stamp.Site = x10.Stamp.Site)))))]) (hp' := []) follows rfl rfl rfl ⟨⟨rfl, trivial⟩, trivial, ⟨rfl, trivial⟩, trivial, ⟨rfl, rfl, trivial⟩, trivial, ⟨rfl, trivial⟩, trivial, ⟨rfl, trivial⟩, trivial, ⟨rfl, trivial⟩, trivial, ⟨rfl, rfl, trivial⟩, trivial, ⟨rfl, trivial⟩, trivial, ⟨rfl, rfl, trivial⟩, trivial, trivial⟩ ⟨OpW.plain (op_move (Ev.t 0 (.g (.d (.sl 3 (List.map encApi_Dep s1_0))))) rfl) rfl rfl, OpW.plain (op_move (Ev.t 5 (bI .i64 v4)) rfl) rfl rfl, OpW.plain (op_index (cs := [.v (.string x9.Key), .v (.int .i64 x9.Stamp.N), .v (.int .i64 x9.Stamp.Site)]) Try.underlying22 ti26 (idx_ok hx9).1 (idx_get hx9 encApi_Dep) (Ev.t 16 (.g (.d (.sl 3 (List.map encApi_Dep s1_0))))) (Ev.t 17 (bI .i64 v4)) rfl) rfl rfl, OpW.plain (op_loadAE (ds := [.v (.string x9.Key), .v (.int .i64 x9.Stamp.N), .v (.int .i64 x9.Stamp.Site)]) Try.underlying26 rfl ti26 rfl (Ev.t 18 (.ep [.v (.string x9.Key), .v (.int .i64 x9.Stamp.N), .v (.int .i64 x9.Stamp.Site)])) rfl) rfl rfl, OpW.plain (op_move (Ev.t 1 (.g (.d (.sl 3 (List.map encApi_Dep s2_1))))) rfl) rfl rfl, OpW.plain (op_move (Ev.t 5 (bI .i64 v4)) rfl) rfl rfl, OpW.plain (op_index (cs := [.v (.string x10.Key), .v (.int .i64 x10.Stamp.N), .v (.int .i64 x10.Stamp.Site)]) Try.underlying22 ti26 (idx_ok hx10).1 (idx_get hx10 encApi_Dep) (Ev.t 20 (.g (.d (.sl 3 (List.map encApi_Dep s2_1))))) (Ev.t 21 (bI .i64 v4)) rfl) rfl rfl, OpW.plain (op_loadAE (ds := [.v (.string x10.Key), .v (.int .i64 x10.Stamp.N), .v (.int .i64 x10.Stamp.Site)]) Try.underlying26 rfl ti26 rfl (Ev.t 22 (.ep [.v (.string x10.Key), .v (.int .i64 x10.Stamp.N), .v (.int .i64 x10.Stamp.Site)])) rfl) rfl rfl, OpW.plain (op_eqA (us := [.string x9.Key, .int .i64 x9.Stamp.N, .int .i64 x9.Stamp.Site]) (vs := [.string x10.Key, .int .i64 x10.Stamp.N, .int .i64 x10.Stamp.Site]) rfl rfl Try.eqGuardType26 (fun w => ne26 x9.Key x9.Stamp.N x9.Stamp.Site x10.Key x10.Stamp.N x10.Stamp.Site w) (Ev.t 19 (.g (.agg [.v (.string x9.Key), .v (.int .i64 x9.Stamp.N), .v (.int .i64 x9.Stamp.Site)]))) (Ev.t 23 (.g (.agg [.v (.string x10.Key), .v (.int .i64 x10.Stamp.N), .v (.int .i64 x10.Stamp.Site)]))) rfl) rfl rfl, trivial⟩ ⟨rfl, rfl, rfl, rfl, rfl, trivial⟩ trivial rfl ?_
      refine ifS hF (fun hc11 hF => ?_) (fun hc11 hF => ?_)
      · refine G.cond rfl (fun _ => ?_) (fun hx => by rw [hc11] at hx; cases hx)
        refine G.seq ?_
        refine G.region ?_
        refine G.op1 (op_assign (Ev.c _ rfl) rfl) rfl trivial trivial ?_
        refine G.endOps ?_
        cases hF
        exact G.ret1 Try.results35 (RVar.tmp 4 _) ⟨rfl, trivial⟩ trivial
      · refine G.cond rfl (fun hx => by rw [hc11] at hx; cases hx) (fun _ => ?_)
        refine G.skip ?_
        refine G.endBlock ?_
        refine G.region ?_
        refine G.op1 (op_add (Ev.t 13 (bI .i64 v4)) (Ev.c _ rfl) rfl) rfl ⟨rfl, trivial⟩ trivial ?_
        refine G.op1 (op_move (Ev.t 25 (bI .i64 (IntKind.wrap .i64 (v4 + 1)))) rfl) rfl ⟨rfl, trivial⟩ trivial ?_
        refine G.endOps ?_
        exact G.arr (J5 (IntKind.wrap .i64 (v4 + 1)) hF) ⟨rfl, rfl, rfl, rfl, trivial⟩ trivial rfl
    · refine G.cond rfl (fun hx => by rw [hc8] at hx; cases hx) (fun _ => ?_)
      refine G.exit ?_
      refine GX.c ?_
      refine GX.q ?_
      refine GX.bYes ?_
      exact G.arr (J3 () hF) trivial trivial rfl


set_option maxRecDepth 20000 in
set_option maxHeartbeats 2000000 in
theorem ct_past_Same (p_0 : (List Api_Dep)) (q_1 : (List Api_Dep)) (r : Bool) (hF : past_Same p_0 q_1 = some r) : Ct Try.prog 14 [.g (.d (.sl 3 (List.map encApi_Dep p_0))), .g (.d (.sl 3 (List.map encApi_Dep q_1)))] (.one (.d (.v (.bool r)))) := by
  unfold past_Same at hF
  refine Ct.intro Try.func14 rfl Try.ntmps14 rfl rfl fun M w => ?_
  refine G.seq ?_
  refine G.region ?_
  refine G.op1 (op_assign (Ev.c _ rfl) rfl) rfl trivial trivial ?_
  refine G.endOps ?_
  refine G.seq ?_
  refine G.region ?_
  refine G.op1 (op_move (Ev.t 0 (.g (.d (.sl 3 (List.map encApi_Dep p_0))))) rfl) rfl ⟨rfl, trivial⟩ trivial ?_
  refine G.op1 (op_move (Ev.t 1 (.g (.d (.sl 3 (List.map encApi_Dep q_1))))) rfl) rfl ⟨rfl, trivial⟩ trivial ?_
  obtain ⟨r1, hr1, hF⟩ := bindS hF
  refine G.op1 (op_callQ (sv := .one (bB r1)) cf35 (ct_slices_Equal_Dep p_0 q_1 r1 hr1) rfl rfl (EvQL.cons (EvQ.g (Ev.t 5 (.g (.d (.sl 3 (List.map encApi_Dep p_0)))))) (EvQL.cons (EvQ.g (Ev.t 6 (.g (.d (.sl 3 (List.map encApi_Dep q_1)))))) EvQL.nil)) rfl) rfl ⟨rfl, rfl, trivial⟩ trivial ?_
  refine G.op1 (op_assign (Ev.t 7 (bB r1)) rfl) rfl ⟨rfl, trivial⟩ trivial ?_
  refine G.endOps ?_
  cases hF
  exact G.ret1 Try.results14 (RVar.tmp 4 _) ⟨rfl, trivial⟩ trivial


set_option maxRecDepth 20000 in
set_option maxHeartbeats 2000000 in
theorem ct_law04_PastOnly (l_0 : (List Api_Dep)) (r_1 : Api_Range) (r : Bool) (hF : law04_PastOnly l_0 r_1 = some r) : Ct Try.prog 5 [.g (.d (.sl 3 (List.map encApi_Dep l_0))), .g (.agg (encApi_Range r_1))] (.one (.d (.v (.bool r)))) := by
  unfold law04_PastOnly at hF
  refine Ct.intro Try.func5 rfl Try.ntmps5 rfl rfl fun M w => ?_
  refine G.seq ?_
  refine G.region ?_
  refine G.op2 (op_boxA (k := 1003) (Ev.t 1 (.g (.agg [.v (.string r_1.From), .v (.string r_1.To)]))) rfl) rfl ⟨rfl, trivial⟩ ⟨rfl, trivial⟩ ?_
  refine G.op1 (op_assign (Ev.c _ rfl) rfl) rfl trivial trivial ?_
  refine G.endOps ?_
  refine G.seq ?_
  refine G.region ?_
  obtain ⟨r1, hr1, hF⟩ := bindS hF
  refine G.op1 (op_callQ (sv := .one (bB r1)) cf9 (ct_law04_awake r1 hr1) rfl rfl EvQL.nil rfl) rfl trivial trivial ?_
  refine G.op1 (op_assign (Ev.t 12 (bB r1)) rfl) rfl ⟨rfl, trivial⟩ trivial ?_
  refine G.endOps ?_
  refine G.seq ?_
  refine G.region ?_
  refine G.op1 (op_move (Ev.t 0 (.g (.d (.sl 3 (List.map encApi_Dep l_0))))) rfl) rfl ⟨rfl, trivial⟩ trivial ?_
  obtain ⟨r2, hr2, hF⟩ := bindS hF
  refine G.op1 (op_call (sv := .one (.g (.d (.sl 3 (List.map encApi_Dep r2))))) cf10 (ct_law04_made l_0 r2 hr2) rfl (EvL.cons (Ev.t 13 (.g (.d (.sl 3 (List.map encApi_Dep l_0))))) EvL.nil) rfl) rfl ⟨rfl, trivial⟩ trivial ?_
  refine G.op1 (op_assign (Ev.t 14 (.g (.d (.sl 3 (List.map encApi_Dep r2))))) rfl) rfl ⟨rfl, trivial⟩ trivial ?_
  refine G.endOps ?_
  refine G.seq ?_
  refine G.region ?_
  refine G.op1 (op_move (Ev.t 6 (.g (.d (.sl 3 (List.map encApi_Dep r2))))) rfl) rfl ⟨rfl, trivial⟩ trivial ?_
  refine G.op1 (op_loadAP (ds := [.v (.string r_1.From), .v (.string r_1.To)]) Try.underlying43 rfl ti43 rfl (Ev.t 3 (.ptr 1003 0)) rfl) rfl ⟨rfl, trivial⟩ ⟨rfl, trivial⟩ ?_
  refine G.op1 (op_buildSlice (es := List.map encApi_Range [r_1]) Try.underlying34 ti43 rfl rfl (EvP.cons (Ev.t 16 (.g (.agg [.v (.string r_1.From), .v (.string r_1.To)]))) EvP.nil) rfl rfl (by simp [encApi_Range]) rfl) rfl ⟨rfl, trivial⟩ trivial ?_
  obtain ⟨r3, hr3, hF⟩ := bindS hF
  refine G.op2 (op_callNew (k := 2018) cf20 (ct_past_Only r2 ([r_1]) r3 hr3) (EvL.cons (Ev.t 15 (.g (.d (.sl 3 (List.map encApi_Dep r2))))) (EvL.cons (Ev.t 17 (.g (.d (.sl 2 (List.map encApi_Range ([r_1])))))) EvL.nil)) rfl) rfl ⟨rfl, rfl, trivial⟩ ⟨rfl, trivial⟩ ?_
  refine G.op1 (op_assign (Ev.t 18 (.own 2018 (List.map encApi_Dep r3))) rfl) rfl ⟨rfl, trivial⟩ trivial ?_
  refine G.endOps ?_
  refine G.seq ?_
  refine G.seq ?_
  refine G.region ?_
  refine G.op1 (op_assign (Ev.c _ rfl) rfl) rfl trivial trivial ?_
  refine G.endOps ?_
  refine G.joinC (T := Unit) (fun y4 => ⟨[(5, .one (bB r1)), (6, .one (.g (.d (.sl 3 (List.map encApi_Dep r2))))), (7, .one (.own 2018 (List.map encApi_Dep r3)))], [(2018, some (.row 26 3 (List.map encApi_Dep r3) true))]⟩) (fun y4 => law04_PastOnly_k1 r1 r2 r3 y4 = some r) (fun y4 hF => ?_) (fun J19 => ?_)
  · unfold law04_PastOnly_k1 at hF
    refine G.seq ?_
    refine G.region ?_
    refine G.op1 (op_move (Ev.t 5 (bB r1)) rfl) rfl ⟨rfl, trivial⟩ trivial ?_
    refine G.op1 (op_move (Ev.t 65 (bB r1)) rfl) rfl ⟨rfl, trivial⟩ trivial ?_
    refine G.joinL (T := Bool) 4 (fun y5 => ⟨[(6, .one (.g (.d (.sl 3 (List.map encApi_Dep r2))))), (7, .one (.own 2018 (List.map encApi_Dep r3))), (70, .one (bB y5))], [(2018, some (.row 26 3 (List.map encApi_Dep r3) true))]⟩) (fun y5 => law04_PastOnly_k2 r2 r3 y5 = some r) (fun y5 hF => ?_) (fun J16 => ?_)
    · unfold law04_PastOnly_k2 at hF
      refine G.op1 (op_move (Ev.t 70 (bB y5)) rfl) rfl ⟨rfl, trivial⟩ trivial ?_
      refine G.joinL (T := Bool) 6 (fun y6 => ⟨[(6, .one (.g (.d (.sl 3 (List.map encApi_Dep r2))))), (77, .one (bB y6))], []⟩) (fun y6 => law04_PastOnly_k3 r2 y6 = some r) (fun y6 hF => ?_) (fun J14 => ?_)
      · unfold law04_PastOnly_k3 at hF
        refine G.op1 (op_move (Ev.t 77 (bB y6)) rfl) rfl ⟨rfl, trivial⟩ trivial ?_
        refine G.joinL (T := Bool) 7 (fun y7 => ⟨[(6, .one (.g (.d (.sl 3 (List.map encApi_Dep r2))))), (85, .one (bB y7))], []⟩) (fun y7 => law04_PastOnly_k4 r2 y7 = some r) (fun y7 hF => ?_) (fun J10 => ?_)
        · unfold law04_PastOnly_k4 at hF
          refine G.op1 (op_move (Ev.t 85 (bB y7)) rfl) rfl ⟨rfl, trivial⟩ trivial ?_
          refine ifS hF (fun hc8 hF => ?_) (fun hc8 hF => ?_)
          · refine G.known (t := 86) hc8 rfl ?_
            refine G.opG1 (op_move (Ev.t 6 (.g (.d (.sl 3 (List.map encApi_Dep r2))))) rfl) rfl rfl rfl ⟨rfl, trivial⟩ trivial ?_
            obtain ⟨r9, hr9, hF⟩ := bindS hF
            refine G.opG2 (op_callNew (k := 2088) cf20 (ct_past_Only r2 ([] : (List Api_Range)) r9 hr9) (EvL.cons (Ev.t 87 (.g (.d (.sl 3 (List.map encApi_Dep r2))))) (EvL.cons (Ev.n 2) EvL.nil)) rfl) rfl rfl rfl ⟨rfl, trivial⟩ ⟨rfl, trivial⟩ ?_
            refine G.opG1 (OpL.cast (op_lenO Try.underlying22 (Ev.t 88 (.own 2088 (List.map encApi_Dep r9))) rfl) (by rw [List.length_map])) rfl rfl rfl ⟨rfl, trivial⟩ ⟨rfl, trivial⟩ ?_
            refine G.opG1 (op_eqI (Ev.t 89 (bI .i64 (r9.length : Int))) (Ev.c _ rfl) rfl) rfl rfl rfl ⟨rfl, trivial⟩ trivial ?_
            refine G.op1 (op_pickT (Ev.t 86 (bB true)) (Ev.t 90 (bB (decide ((r9.length : Int) = 0)))) rfl) rfl ⟨rfl, rfl, trivial⟩ trivial ?_
            refine G.op1 (op_assign (Ev.t 91 (bB (decide ((r9.length : Int) = 0)))) rfl) rfl ⟨rfl, trivial⟩ trivial ?_
            refine G.endOps ?_
            cases hF
            exact G.ret1 Try.results5 (RVar.tmp 4 _) ⟨rfl, trivial⟩ trivial
          · refine G.known (t := 86) hc8 rfl ?_
            refine G.opN1 rfl rfl rfl rfl rfl ?_
            refine G.opN1 rfl rfl rfl rfl rfl ?_
            refine G.opN1 rfl rfl rfl rfl rfl ?_
            refine G.opN1 rfl rfl rfl rfl rfl ?_
            refine G.op1 (op_pickF (Ev.t 86 (bB false)) (Ev.c _ rfl) rfl) rfl ⟨rfl, trivial⟩ trivial ?_
            refine G.op1 (op_assign (Ev.t 91 (bB false)) rfl) rfl ⟨rfl, trivial⟩ trivial ?_
            refine G.endOps ?_
            cases hF
            exact G.ret1 Try.results5 (RVar.tmp 4 _) ⟨rfl, trivial⟩ trivial
        refine ifS hF (fun hc11 hF => ?_) (fun hc11 hF => ?_)
        · refine G.known (t := 78) hc11 rfl ?_
          refine G.opG1 (op_move (Ev.t 6 (.g (.d (.sl 3 (List.map encApi_Dep r2))))) rfl) rfl rfl rfl ⟨rfl, trivial⟩ trivial ?_
          refine G.opG1 (op_build (zs := [.v (.string ByteArray.empty), .v (.string ByteArray.empty)]) (ds := [.v (.string ByteArray.empty), .v (.string ByteArray.empty)]) Try.underlying43 ti43 (pl43 _ Try.underlying43) ⟨.v _ rfl, .v _ rfl, trivial⟩ EvP.nil rfl rfl) rfl rfl rfl trivial trivial ?_
          refine G.opG1 (op_buildSlice (es := List.map encApi_Range [(Api_Range.mk ByteArray.empty ByteArray.empty)]) Try.underlying34 ti43 rfl rfl (EvP.cons (Ev.t 80 (.g (.agg [.v (.string ByteArray.empty), .v (.string ByteArray.empty)]))) EvP.nil) rfl rfl (by simp [encApi_Range]) rfl) rfl rfl rfl ⟨rfl, trivial⟩ trivial ?_
          obtain ⟨r12, hr12, hF⟩ := bindS hF
          refine G.opG2 (op_callNew (k := 2082) cf20 (ct_past_Only r2 ([(Api_Range.mk ByteArray.empty ByteArray.empty)]) r12 hr12) (EvL.cons (Ev.t 79 (.g (.d (.sl 3 (List.map encApi_Dep r2))))) (EvL.cons (Ev.t 81 (.g (.d (.sl 2 (List.map encApi_Range ([(Api_Range.mk ByteArray.empty ByteArray.empty)])))))) EvL.nil)) rfl) rfl rfl rfl ⟨rfl, rfl, trivial⟩ ⟨rfl, trivial⟩ ?_
          refine G.opG1 (op_move (Ev.t 6 (.g (.d (.sl 3 (List.map encApi_Dep r2))))) rfl) rfl rfl rfl ⟨rfl, trivial⟩ trivial ?_
          obtain ⟨r13, hr13, hF⟩ := bindS hF
          refine G.opG1 (op_callQ (sv := .one (bB r13)) cf14 (ct_past_Same r12 r2 r13 hr13) rfl rfl (EvQL.cons (EvQ.own (Ev.t 82 (.own 2082 (List.map encApi_Dep r12)))) (EvQL.cons (EvQ.g (Ev.t 83 (.g (.d (.sl 3 (List.map encApi_Dep r2)))))) EvQL.nil)) rfl) rfl rfl rfl ⟨rfl, rfl, trivial⟩ ⟨rfl, trivial⟩ ?_
          refine G.op1 (op_pickT (Ev.t 78 (bB true)) (Ev.t 84 (bB r13)) rfl) rfl ⟨rfl, rfl, trivial⟩ trivial ?_
          exact G.arr (J10 r13 hF) ⟨rfl, rfl, trivial⟩ trivial rfl
        · refine G.known (t := 78) hc11 rfl ?_
          refine G.opN1 rfl rfl rfl rfl rfl ?_
          refine G.opN1 rfl rfl rfl rfl rfl ?_
          refine G.opN1 rfl rfl rfl rfl rfl ?_
          refine G.opN1 rfl rfl rfl rfl rfl ?_
          refine G.opN1 rfl rfl rfl rfl rfl ?_
          refine G.opN1 rfl rfl rfl rfl rfl ?_
          refine G.op1 (op_pickF (Ev.t 78 (bB false)) (Ev.c _ rfl) rfl) rfl ⟨rfl, trivial⟩ trivial ?_
          exact G.arr (J10 false hF) ⟨rfl, rfl, trivial⟩ trivial rfl
      refine ifS hF (fun hc15 hF => ?_) (fun hc15 hF => ?_)
      · refine G.known (t := 71) hc15 rfl ?_
        refine G.opG1 (op_move (Ev.t 7 (.own 2018 (List.map encApi_Dep r3))) rfl) rfl rfl rfl ⟨rfl, trivial⟩ trivial ?_
        refine G.opG1 (OpL.cast (op_lenO Try.underlying22 (Ev.t 72 (.own 2018 (List.map encApi_Dep r3))) rfl) (by rw [List.length_map])) rfl rfl rfl ⟨rfl, trivial⟩ ⟨rfl, trivial⟩ ?_
        refine G.opG1 (op_move (Ev.t 6 (.g (.d (.sl 3 (List.map encApi_Dep r2))))) rfl) rfl rfl rfl ⟨rfl, trivial⟩ trivial ?_
        refine G.opG1 (OpL.cast (op_lenD Try.underlying22 (Ev.t 74 (.g (.d (.sl 3 (List.map encApi_Dep r2))))) rfl) (by rw [List.length_map])) rfl rfl rfl ⟨rfl, trivial⟩ trivial ?_
        refine G.opG1 (op_leq (Ev.t 73 (bI .i64 (r3.length : Int))) (Ev.t 75 (bI .i64 (r2.length : Int))) rfl) rfl rfl rfl ⟨rfl, rfl, trivial⟩ trivial ?_
        refine G.op1 (op_pickT (Ev.t 71 (bB true)) (Ev.t 76 (bB (decide ((r3.length : Int) ≤ (r2.length : Int))))) rfl) rfl ⟨rfl, rfl, trivial⟩ trivial ?_
        exact G.arr (J14 (decide ((r3.length : Int) ≤ (r2.length : Int))) hF) ⟨rfl, rfl, trivial⟩ trivial rfl
      · refine G.known (t := 71) hc15 rfl ?_
        refine G.opN1 rfl rfl rfl rfl rfl ?_
        refine G.opN1 rfl rfl rfl rfl rfl ?_
        refine G.opN1 rfl rfl rfl rfl rfl ?_
        refine G.opN1 rfl rfl rfl rfl rfl ?_
        refine G.opN1 rfl rfl rfl rfl rfl ?_
        refine G.op1 (op_pickF (Ev.t 71 (bB false)) (Ev.c _ rfl) rfl) rfl ⟨rfl, trivial⟩ trivial ?_
        exact G.arr (J14 false hF) ⟨rfl, rfl, trivial⟩ trivial rfl
    refine ifS hF (fun hc17 hF => ?_) (fun hc17 hF => ?_)
    · refine G.known (t := 66) hc17 rfl ?_
      refine G.opG1 (op_move (Ev.t 6 (.g (.d (.sl 3 (List.map encApi_Dep r2))))) rfl) rfl rfl rfl ⟨rfl, trivial⟩ trivial ?_
      refine G.opG1 (op_move (Ev.t 7 (.own 2018 (List.map encApi_Dep r3))) rfl) rfl rfl rfl ⟨rfl, trivial⟩ trivial ?_
      obtain ⟨r18, hr18, hF⟩ := bindS hF
      refine G.opG1 (op_callQ (sv := .one (bB r18)) cf15 (ct_past_Covers r2 r3 r18 hr18) rfl rfl (EvQL.cons (EvQ.g (Ev.t 67 (.g (.d (.sl 3 (List.map encApi_Dep r2)))))) (EvQL.cons (EvQ.own (Ev.t 68 (.own 2018 (List.map encApi_Dep r3)))) EvQL.nil)) rfl) rfl rfl rfl ⟨rfl, rfl, trivial⟩ ⟨rfl, trivial⟩ ?_
      refine G.op1 (op_pickT (Ev.t 66 (bB true)) (Ev.t 69 (bB r18)) rfl) rfl ⟨rfl, rfl, trivial⟩ trivial ?_
      exact G.arr (J16 r18 hF) ⟨rfl, rfl, rfl, trivial⟩ ⟨rfl, trivial⟩ rfl
    · refine G.known (t := 66) hc17 rfl ?_
      refine G.opN1 rfl rfl rfl rfl rfl ?_
      refine G.opN1 rfl rfl rfl rfl rfl ?_
      refine G.opN1 rfl rfl rfl rfl rfl ?_
      refine G.op1 (op_pickF (Ev.t 66 (bB false)) (Ev.c _ rfl) rfl) rfl ⟨rfl, trivial⟩ trivial ?_
      exact G.arr (J16 false hF) ⟨rfl, rfl, rfl, trivial⟩ ⟨rfl, trivial⟩ rfl
  refine G.block ?_
  refine G.keep (sl' := [(3, .one (.ptr 1003 0)), (5, .one (bB r1)), (6, .one (.g (.d (.sl 3 (List.map encApi_Dep r2))))), (7, .one (.own 2018 (List.map encApi_Dep r3))), (8, .one (bI .i64 0))]) (hp' := [(1003, some (.blk 43 [bS r_1.From, bS r_1.To])), (2018, some (.row 26 3 (List.map encApi_Dep r3) true))]) ⟨rfl, rfl, rfl, rfl, rfl, trivial⟩ ⟨rfl, rfl, trivial⟩ rfl ?_
  refine G.loopF (fun (v20 : Int) => ⟨[(3, .one (.ptr 1003 0)), (5, .one (bB r1)), (6, .one (.g (.d (.sl 3 (List.map encApi_Dep r2))))), (7, .one (.own 2018 (List.map encApi_Dep r3))), (8, .one (bI .i64 v20))], [(1003, some (.blk 43 [bS r_1.From, bS r_1.To])), (2018, some (.row 26 3 (List.map encApi_Dep r3) true))]⟩) hF rfl (fun K23 again22 v20 J21 hF => ?_)
  unfold law04_PastOnly_l5 at hF
  refine G.seq ?_
  refine G.seq ?_
  refine G.region ?_
  refine G.op1 (op_move (Ev.t 8 (bI .i64 v20)) rfl) rfl ⟨rfl, trivial⟩ trivial ?_
  refine G.op1 (op_move (Ev.t 6 (.g (.d (.sl 3 (List.map encApi_Dep r2))))) rfl) rfl ⟨rfl, trivial⟩ trivial ?_
  refine G.op1 (OpL.cast (op_lenD Try.underlying22 (Ev.t 20 (.g (.d (.sl 3 (List.map encApi_Dep r2))))) rfl) (by rw [List.length_map])) rfl ⟨rfl, trivial⟩ trivial ?_
  refine G.op1 (op_lss (Ev.t 19 (bI .i64 v20)) (Ev.t 21 (bI .i64 (r2.length : Int))) rfl) rfl ⟨rfl, rfl, trivial⟩ trivial ?_
  refine G.endOps ?_
  refine ifS hF (fun hc24 hF => ?_) (fun hc24 hF => ?_)
  · refine G.cond rfl (fun _ => ?_) (fun hx => by rw [hc24] at hx; cases hx)
    refine G.skip ?_
    refine G.seq ?_
    refine G.block ?_
    refine G.seq ?_
    refine G.joinC (T := Bool) (fun y25 => ⟨[(3, .one (.ptr 1003 0)), (5, .one (bB r1)), (6, .one (.g (.d (.sl 3 (List.map encApi_Dep r2))))), (7, .one (.own 2018 (List.map encApi_Dep r3))), (8, .one (bI .i64 v20)), (9, .one (bB y25))], [(1003, some (.blk 43 [bS r_1.From, bS r_1.To])), (2018, some (.row 26 3 (List.map encApi_Dep r3) true))]⟩) (fun y25 => law04_PastOnly_k6 r2 r3 again22 v20 y25 = some r) (fun y25 hF => ?_) (fun J33 => ?_)
    · unfold law04_PastOnly_k6 at hF
      refine G.seq ?_
      refine G.region ?_
      refine G.op1 (op_move (Ev.t 7 (.own 2018 (List.map encApi_Dep r3))) rfl) rfl ⟨rfl, trivial⟩ trivial ?_
      refine G.op1 (op_move (Ev.t 6 (.g (.d (.sl 3 (List.map encApi_Dep r2))))) rfl) rfl ⟨rfl, trivial⟩ trivial ?_
      refine G.op1 (op_move (Ev.t 8 (bI .i64 v20)) rfl) rfl ⟨rfl, trivial⟩ trivial ?_
      obtain ⟨x26, hx26, hF⟩ := bindS hF
      refine G.op1 (op_index (cs := [.v (.string x26.Key), .v (.int .i64 x26.Stamp.N), .v (.int .i64 x26.Stamp.Site)]) Try.underlying22 ti26 (idx_ok hx26).1 (idx_get hx26 encApi_Dep) (Ev.t 49 (.g (.d (.sl 3 (List.map encApi_Dep r2))))) (Ev.t 50 (bI .i64 v20)) rfl) rfl ⟨rfl, rfl, trivial⟩ trivial ?_
      refine G.op1 (op_fieldE (cs' := [.v (.string x26.Key), .v (.int .i64 x26.Stamp.N), .v (.int .i64 x26.Stamp.Site)]) Try.underlying26 rfl ti9 (by decide) rfl (Ev.t 51 (.ep [.v (.string x26.Key), .v (.int .i64 x26.Stamp.N), .v (.int .i64 x26.Stamp.Site)])) rfl) rfl ⟨rfl, trivial⟩ trivial ?_
      refine G.op1 (op_load1E (c := .v (.string x26.Key)) Try.underlying9 rfl rfl (Ev.t 52 (.ep [.v (.string x26.Key), .v (.int .i64 x26.Stamp.N), .v (.int .i64 x26.Stamp.Site)])) rfl) rfl ⟨rfl, trivial⟩ trivial ?_
      obtain ⟨r27, hr27, hF⟩ := bindS hF
      refine G.op1 (op_callQ (sv := .one (.g (.agg [.v (.int .i64 r27.N), .v (.int .i64 r27.Site)]))) cf12 (ct_past_Get r3 x26.Key r27 hr27) rfl rfl (EvQL.cons (EvQ.own (Ev.t 48 (.own 2018 (List.map encApi_Dep r3)))) (EvQL.cons (EvQ.g (Ev.t 53 (bS x26.Key))) EvQL.nil)) rfl) rfl ⟨rfl, rfl, trivial⟩ ⟨rfl, trivial⟩ ?_
      refine G.op2 (op_alloc (k := 1010) (cs := [bI .i64 0, bI .i64 0]) ti24 ⟨.v _ rfl, .v _ rfl, trivial⟩ rfl) rfl trivial ⟨rfl, trivial⟩ ?_
      refine G.op3 (op_storeA (cs' := [bI .i64 r27.N, bI .i64 r27.Site]) ti24 rfl rfl (Ev.t 10 (.ptr 1010 0)) (Ev.t 54 (.g (.agg [.v (.int .i64 r27.N), .v (.int .i64 r27.Site)])))) rfl ⟨rfl, rfl, trivial⟩ ⟨rfl, trivial⟩ ?_
      refine G.endOps ?_
      refine G.seq ?_
      refine G.region ?_
      refine G.op1 (op_build (zs := [.v (.int .i64 0), .v (.int .i64 0)]) (ds := [.v (.int .i64 0), .v (.int .i64 0)]) Try.underlying24 ti24 (pl24 _ Try.underlying24) ⟨.v _ rfl, .v _ rfl, trivial⟩ EvP.nil rfl rfl) rfl trivial trivial ?_
      refine G.op2 (op_alloc (k := 1011) (cs := [bI .i64 0, bI .i64 0]) ti24 ⟨.v _ rfl, .v _ rfl, trivial⟩ rfl) rfl trivial ⟨rfl, trivial⟩ ?_
      refine G.op3 (op_storeA (cs' := [bI .i64 0, bI .i64 0]) ti24 rfl rfl (Ev.t 11 (.ptr 1011 0)) (Ev.t 55 (.g (.agg [.v (.int .i64 0), .v (.int .i64 0)])))) rfl ⟨rfl, rfl, trivial⟩ ⟨rfl, trivial⟩ ?_
      refine G.endOps ?_
      refine G.seq ?_
      refine G.seq ?_
      refine G.region ?_
      refine G.op1 (op_move (Ev.t 9 (bB y25)) rfl) rfl ⟨rfl, trivial⟩ trivial ?_
      refine G.endOps ?_
      refine G.joinC (T := Int × Int) (fun y28 => ⟨[(3, .one (.ptr 1003 0)), (5, .one (bB r1)), (6, .one (.g (.d (.sl 3 (List.map encApi_Dep r2))))), (7, .one (.own 2018 (List.map encApi_Dep r3))), (8, .one (bI .i64 v20)), (10, .one (.ptr 1010 0)), (11, .one (.ptr 1011 0))], [(1003, some (.blk 43 [bS r_1.From, bS r_1.To])), (1010, some (.blk 24 [bI .i64 r27.N, bI .i64 r27.Site])), (1011, some (.blk 24 [bI .i64 y28.1, bI .i64 y28.2])), (2018, some (.row 26 3 (List.map encApi_Dep r3) true))]⟩) (fun y28 => law04_PastOnly_k7 again22 v20 r27 y28 = some r) (fun y28 hF => ?_) (fun J30 => ?_)
      · unfold law04_PastOnly_k7 at hF
        refine G.seq ?_
        refine G.region ?_
        refine G.op1 (op_loadAP (ds := [.v (.int .i64 r27.N), .v (.int .i64 r27.Site)]) Try.underlying24 rfl ti24 rfl (Ev.t 10 (.ptr 1010 0)) rfl) rfl ⟨rfl, trivial⟩ ⟨rfl, trivial⟩ ?_
        refine G.op1 (op_loadAP (ds := [.v (.int .i64 y28.1), .v (.int .i64 y28.2)]) Try.underlying24 rfl ti24 rfl (Ev.t 11 (.ptr 1011 0)) rfl) rfl ⟨rfl, trivial⟩ ⟨rfl, trivial⟩ ?_
        refine G.op1 (op_eqA (us := [.int .i64 r27.N, .int .i64 r27.Site]) (vs := [.int .i64 y28.1, .int .i64 y28.2]) rfl rfl Try.eqGuardType24 (fun w => ne24 r27.N r27.Site y28.1 y28.2 w) (Ev.t 62 (.g (.agg [.v (.int .i64 r27.N), .v (.int .i64 r27.Site)]))) (Ev.t 63 (.g (.agg [.v (.int .i64 y28.1), .v (.int .i64 y28.2)]))) rfl) rfl ⟨rfl, rfl, trivial⟩ trivial ?_
        refine G.endOps ?_
        refine ifS hF (fun hc29 hF => ?_) (fun hc29 hF => ?_)
        · refine G.cond rfl (fun _ => ?_) (fun hx => by rw [hc29] at hx; cases hx)
          refine G.seq ?_
          refine G.region ?_
          refine G.op1 (op_assign (Ev.c _ rfl) rfl) rfl trivial trivial ?_
          refine G.endOps ?_
          cases hF
          exact G.ret1 Try.results5 (RVar.tmp 4 _) ⟨rfl, trivial⟩ trivial
        · refine G.cond rfl (fun hx => by rw [hc29] at hx; cases hx) (fun _ => ?_)
          refine G.skip ?_
          refine G.endBlock ?_
          refine G.region ?_
          refine G.op1 (op_move (Ev.t 8 (bI .i64 v20)) rfl) rfl ⟨rfl, trivial⟩ trivial ?_
          refine G.op1 (op_add (Ev.t 23 (bI .i64 v20)) (Ev.c _ rfl) rfl) rfl ⟨rfl, trivial⟩ trivial ?_
          refine G.op1 (op_assign (Ev.t 24 (bI .i64 (IntKind.wrap .i64 (v20 + 1)))) rfl) rfl ⟨rfl, trivial⟩ trivial ?_
          refine G.endOps ?_
          exact G.arr (J21 (IntKind.wrap .i64 (v20 + 1)) hF) ⟨rfl, rfl, rfl, rfl, rfl, trivial⟩ ⟨rfl, rfl, trivial⟩ rfl
      refine ifS hF (fun hc31 hF => ?_) (fun hc31 hF => ?_)
      · refine G.cond rfl (fun _ => ?_) (fun hx => by rw [hc31] at hx; cases hx)
        refine G.region ?_
        refine G.op1 (op_move (Ev.t 6 (.g (.d (.sl 3 (List.map encApi_Dep r2))))) rfl) rfl ⟨rfl, trivial⟩ trivial ?_
        refine G.op1 (op_move (Ev.t 8 (bI .i64 v20)) rfl) rfl ⟨rfl, trivial⟩ trivial ?_
        obtain ⟨x32, hx32, hF⟩ := bindS hF
        refine G.op1 (op_index (cs := [.v (.string x32.Key), .v (.int .i64 x32.Stamp.N), .v (.int .i64 x32.Stamp.Site)]) Try.underlying22 ti26 (idx_ok hx32).1 (idx_get hx32 encApi_Dep) (Ev.t 57 (.g (.d (.sl 3 (List.map encApi_Dep r2))))) (Ev.t 58 (bI .i64 v20)) rfl) rfl ⟨rfl, rfl, trivial⟩ trivial ?_
        refine G.op1 (op_fieldE (cs' := [.v (.int .i64 x32.Stamp.N), .v (.int .i64 x32.Stamp.Site)]) Try.underlying26 rfl ti24 (by decide) rfl (Ev.t 59 (.ep [.v (.string x32.Key), .v (.int .i64 x32.Stamp.N), .v (.int .i64 x32.Stamp.Site)])) rfl) rfl ⟨rfl, trivial⟩ trivial ?_
        refine G.op1 (op_loadAE (ds := [.v (.int .i64 x32.Stamp.N), .v (.int .i64 x32.Stamp.Site)]) Try.underlying24 rfl ti24 rfl (Ev.t 60 (.ep [.v (.int .i64 x32.Stamp.N), .v (.int .i64 x32.Stamp.Site)])) rfl) rfl ⟨rfl, trivial⟩ trivial ?_
        refine G.op3 (op_storeA (cs' := [bI .i64 x32.Stamp.N, bI .i64 x32.Stamp.Site]) ti24 rfl rfl (Ev.t 11 (.ptr 1011 0)) (Ev.t 61 (.g (.agg [.v (.int .i64 x32.Stamp.N), .v (.int .i64 x32.Stamp.Site)])))) rfl ⟨rfl, rfl, trivial⟩ ⟨rfl, trivial⟩ ?_
        refine G.endOps ?_
        exact G.arr (J30 (x32.Stamp.N, x32.Stamp.Site) hF) ⟨rfl, rfl, rfl, rfl, rfl, rfl, rfl, trivial⟩ ⟨rfl, rfl, rfl, rfl, trivial⟩ rfl
      · refine G.cond rfl (fun hx => by rw [hc31] at hx; cases hx) (fun _ => ?_)
        refine G.skip ?_
        exact G.arr (J30 (0, 0) hF) ⟨rfl, rfl, rfl, rfl, rfl, rfl, rfl, trivial⟩ ⟨rfl, rfl, rfl, rfl, trivial⟩ rfl
    obtain ⟨x34, hx34, hF⟩ := bindS hF
    refine ifS hF (fun hc35 hF => ?_) (fun hc35 hF => ?_)
    · refine ifS hF (fun hc36 hF => ?_) (fun hc36 hF => ?_)
      · refine G.drawn (effs := (⟨[(6, .one (.g (.d (.sl 3 (List.map encApi_Dep r2)))))], [], [(25, .one (.g (.d (.sl 3 (List.map encApi_Dep r2)))))], []⟩ :: ⟨[(8, .one (bI .i64 v20))], [], [(26, .one (bI .i64 v20))], []⟩ :: ⟨[(25, .one (.g (.d (.sl 3 (List.map encApi_Dep r2))))), (26, .one (bI .i64 v20))], [], [(27, .one (.ep [.v (.string x34.Key), .v (.int .i64 x34.Stamp.N), .v (.int .i64 x34.Stamp.Site)]))], []⟩ :: ⟨[(27, .one (.ep [.v (.string x34.Key), .v (.int .i64 x34.Stamp.N), .v (.int .i64 x34.Stamp.Site)]))], [], [(28, .one (.ep [.v (.string x34.Key), .v (.int .i64 x34.Stamp.N), .v (.int .i64 x34.Stamp.Site)]))], []⟩ :: ⟨[(28, .one (.ep [.v (.string x34.Key), .v (.int .i64 x34.Stamp.N), .v (.int .i64 x34.Stamp.Site)]))], [], [(29, .one (bS x34.Key))], []⟩ :: ⟨[(3, .one (.ptr 1003 0))], [], [(30, .one (.ptr 1003 0))], []⟩ :: ⟨[(30, .one (.ptr 1003 0))], [(1003, some (.blk 43 [bS r_1.From, bS r_1.To]))], [(31, .one (bS r_1.From))], []⟩ :: ⟨[(29, .one (bS x34.Key)), (31, .one (bS r_1.From))], [], [(32, .one (bB true))], []⟩ :: ⟨[(32, .one (bB true))], [], [(33, .one (bB true))], []⟩ :: ⟨[(33, .one (bB true)), (3, .one (.ptr 1003 0))], [], [(34, .one (.ptr 1003 1))], []⟩ :: ⟨[(33, .one (bB true)), (34, .one (.ptr 1003 1))], [(1003, some (.blk 43 [bS r_1.From, bS r_1.To]))], [(35, .one (bS r_1.To))], []⟩ :: ⟨[(33, .one (bB true)), (35, .one (bS r_1.To))], [], [(36, .one (bB true))], []⟩ :: ⟨[(33, .one (bB true)), (36, .one (bB true))], [], [(37, .one (bB true))], []⟩ :: ⟨[(37, .one (bB true))], [], [(38, .one (.x Go.undef))], []⟩ :: ⟨[(37, .one (bB true))], [], [(39, .one (.x Go.undef))], []⟩ :: ⟨[(37, .one (bB true))], [], [(40, .one (.x Go.undef))], []⟩ :: ⟨[(37, .one (bB true))], [], [(41, .one (.x Go.undef))], []⟩ :: ⟨[(37, .one (bB true))], [], [(42, .one (.x Go.undef))], []⟩ :: ⟨[(37, .one (bB true))], [], [(43, .one (.x Go.undef))], []⟩ :: ⟨[(37, .one (bB true))], [], [(44, .one (.x Go.undef))], []⟩ :: ⟨[(37, .one (bB true))], [], [(45, .one (.x Go.undef))], []⟩ :: ⟨[(33, .one (bB true)), (37, .one (bB true))], [], [(46, .one (bB true))], []⟩ :: ⟨[(33, .one (bB true)), (46, .one (bB true))], [], [(47, .one (bB true))], []⟩ :: ⟨[(47, .one (bB true))], [], [(9, .one (bB true))], []⟩ :: [])) (deps := ([] :: [] :: [0, 1] :: [0, 1, 2] :: [0, 1, 2, 3] :: [] :: [5] :: [0, 1, 2, 3, 4, 5, 6] :: [0, 1, 2, 3, 4, 5, 6, 7] :: [0, 1, 2, 3, 4, 5, 6, 7, 8] :: [0, 1, 2, 3, 4, 5, 6, 7, 8, 9] :: [0, 1, 2, 3, 4, 5, 6, 7, 8, 9, 10] :: [0, 1, 2, 3, 4, 5, 6, 7, 8, 9, 10, 11] :: [0, 1, 2, 3, 4, 5, 6, 7, 8, 9, 10, 11, 12] :: [0, 1, 2, 3, 4, 5, 6, 7, 8, 9, 10, 11, 12] :: [0, 1, 2, 3, 4, 5, 6, 7, 8, 9, 10, 11, 12, 13, 14] :: [0, 1, 2, 3, 4, 5, 6, 7, 8, 9, 10, 11, 12, 13, 14, 15] :: [0, 1, 2, 3, 4, 5, 6, 7, 8, 9, 10, 11, 12, 13, 14, 15, 16] :: [0, 1, 2, 3, 4, 5, 6, 7, 8, 9, 10, 11, 12] :: [0, 1, 2, 3, 4, 5, 6, 7, 8, 9, 10, 11, 12, 18] :: [0, 1, 2, 3, 4, 5, 6, 7, 8, 9, 10, 11, 12, 13, 14, 15, 16, 17, 18, 19] :: (0 :: 1 :: 2 :: 3 :: 4 :: 5 :: 6 :: 7 :: 8 :: 9 :: 10 :: 11 :: 12 :: 13 :: 14 :: 15 :: 16 :: 17 :: 18 :: 19 :: 20 :: []) :: (0 :: 1 :: 2 :: 3 :: 4 :: 5 :: 6 :: 7 :: 8 :: 9 :: 10 :: 11 :: 12 :: 13 :: 14 :: 15 :: 16 :: 17 :: 18 :: 19 :: 20 :: 21 :: []) :: (0 :: 1 :: 2 :: 3 :: 4 :: 5 :: 6 :: 7 :: 8 :: 9 :: 10 :: 11 :: 12 :: 13 :: 14 :: 15 :: 16 :: 17 :: 18 :: 19 :: 20 :: 21 :: 22 :: []) :: [])) (sl' := [(3, .one (.ptr 1003 0)), (5, .one (bB r1)), (6, .one (.g (.d (.sl 3 (List.map encApi_Dep r2))))), (7, .one (.own 2018 (List.map encApi_Dep r3))), (8, .one (bI .i64 v20)), (9, .one (bB true))]) (hp' := [(1003, some (.blk 43 [bS r_1.From, bS r_1.To])), (2018, some (.row 26 3 (List.map encApi_Dep r3) true))]) follows rfl rfl rfl ⟨⟨rfl, trivial⟩, trivial, ⟨rfl, trivial⟩, trivial, ⟨rfl, rfl, trivial⟩, trivial, ⟨rfl, trivial⟩, trivial, ⟨rfl, trivial⟩, trivial, ⟨rfl, trivial⟩, trivial, ⟨rfl, trivial⟩, ⟨⟨rfl, rfl⟩, trivial⟩, ⟨rfl, rfl, trivial⟩, trivial, ⟨rfl, trivial⟩, trivial, ⟨rfl, rfl, trivial⟩, trivial, ⟨rfl, rfl, trivial⟩, ⟨⟨rfl, rfl⟩, trivial⟩, ⟨rfl, rfl, trivial⟩, trivial, ⟨rfl, rfl, trivial⟩, trivial, ⟨rfl, trivial⟩, trivial, ⟨rfl, trivial⟩, trivial, ⟨rfl, trivial⟩, trivial, ⟨rfl, trivial⟩, trivial, ⟨rfl, trivial⟩, trivial, ⟨rfl, trivial⟩, trivial, ⟨rfl, trivial⟩, trivial, ⟨rfl, trivial⟩, trivial, ⟨rfl, rfl, trivial⟩, trivial, ⟨rfl, rfl, trivial⟩, trivial, ⟨rfl, trivial⟩, trivial, trivial⟩ ⟨OpW.plain (op_move (Ev.t 6 (.g (.d (.sl 3 (List.map encApi_Dep r2))))) rfl) rfl rfl, OpW.plain (op_move (Ev.t 8 (bI .i64 v20)) rfl) rfl rfl, OpW.plain (op_index (cs := [.v (.string x34.Key), .v (.int .i64 x34.Stamp.N), .v (.int .i64 x34.Stamp.Site)]) Try.underlying22 ti26 (idx_ok hx34).1 (idx_get hx34 encApi_Dep) (Ev.t 25 (.g (.d (.sl 3 (List.map encApi_Dep r2))))) (Ev.t 26 (bI .i64 v20)) rfl) rfl rfl, OpW.plain (op_fieldE (cs' := [.v (.string x34.Key), .v (.int .i64 x34.Stamp.N), .v (.int .i64 x34.Stamp.Site)]) Try.underlying26 rfl ti9 (by decide) rfl (Ev.t 27 (.ep [.v (.string x34.Key), .v (.int .i64 x34.Stamp.N), .v (.int .i64 x34.Stamp.Site)])) rfl) rfl rfl, OpW.plain (op_load1E (c := .v (.string x34.Key)) Try.underlying9 rfl rfl (Ev.t 28 (.ep [.v (.string x34.Key), .v (.int .i64 x34.Stamp.N), .v (.int .i64 x34.Stamp.Site)])) rfl) rfl rfl, OpW.plain (op_fieldP (off' := 0) Try.underlying43 rfl ti9 (by decide) rfl (Ev.t 3 (.ptr 1003 0)) rfl) rfl rfl, OpW.plain (op_load1P (c := bS r_1.From) Try.underlying9 rfl rfl (Ev.t 30 (.ptr 1003 0)) rfl) rfl rfl, OpW.plain (OpL.cast (op_geS (Ev.t 29 (bS x34.Key)) (Ev.t 31 (bS r_1.From)) rfl) (congrArg (fun b => bB b) hc35)) rfl rfl, OpW.plain (op_move (Ev.t 32 (bB true)) rfl) rfl rfl, OpW.yes (op_fieldP (off' := 1) Try.underlying43 rfl ti9 (by decide) rfl (Ev.t 3 (.ptr 1003 0)) rfl) rfl rfl rfl, OpW.yes (op_load1P (c := bS r_1.To) Try.underlying9 rfl rfl (Ev.t 34 (.ptr 1003 1)) rfl) rfl rfl rfl, OpW.yes (OpL.cast (op_eqS (Ev.t 35 (bS r_1.To)) (Ev.c _ rfl) rfl) (congrArg (fun b => bB b) hc36)) rfl rfl rfl, OpW.yes (op_move (Ev.t 36 (bB true)) rfl) rfl rfl rfl, OpW.no rfl rfl rfl rfl rfl, OpW.no rfl rfl rfl rfl rfl, OpW.no rfl rfl rfl rfl rfl, OpW.no rfl rfl rfl rfl rfl, OpW.no rfl rfl rfl rfl rfl, OpW.no rfl rfl rfl rfl rfl, OpW.no rfl rfl rfl rfl rfl, OpW.no rfl rfl rfl rfl rfl, OpW.yes (op_pickT (Ev.t 37 (bB true)) (Ev.c _ rfl) rfl) rfl rfl rfl, OpW.plain (op_pickT (Ev.t 33 (bB true)) (Ev.t 46 (bB true)) rfl) rfl rfl, OpW.plain (op_assign (Ev.t 47 (bB true)) rfl) rfl rfl, trivial⟩ ⟨rfl, rfl, rfl, rfl, rfl, rfl, trivial⟩ ⟨rfl, rfl, trivial⟩ rfl ?_
        exact G.arr (J33 true hF) ⟨rfl, rfl, rfl, rfl, rfl, rfl, trivial⟩ ⟨rfl, rfl, trivial⟩ rfl
      · obtain ⟨x37, hx37, hF⟩ := bindS hF
        refine G.drawn (effs := (⟨[(6, .one (.g (.d (.sl 3 (List.map encApi_Dep r2)))))], [], [(25, .one (.g (.d (.sl 3 (List.map encApi_Dep r2)))))], []⟩ :: ⟨[(8, .one (bI .i64 v20))], [], [(26, .one (bI .i64 v20))], []⟩ :: ⟨[(25, .one (.g (.d (.sl 3 (List.map encApi_Dep r2))))), (26, .one (bI .i64 v20))], [], [(27, .one (.ep [.v (.string x34.Key), .v (.int .i64 x34.Stamp.N), .v (.int .i64 x34.Stamp.Site)]))], []⟩ :: ⟨[(27, .one (.ep [.v (.string x34.Key), .v (.int .i64 x34.Stamp.N), .v (.int .i64 x34.Stamp.Site)]))], [], [(28, .one (.ep [.v (.string x34.Key), .v (.int .i64 x34.Stamp.N), .v (.int .i64 x34.Stamp.Site)]))], []⟩ :: ⟨[(28, .one (.ep [.v (.string x34.Key), .v (.int .i64 x34.Stamp.N), .v (.int .i64 x34.Stamp.Site)]))], [], [(29, .one (bS x34.Key))], []⟩ :: ⟨[(3, .one (.ptr 1003 0))], [], [(30, .one (.ptr 1003 0))], []⟩ :: ⟨[(30, .one (.ptr 1003 0))], [(1003, some (.blk 43 [bS r_1.From, bS r_1.To]))], [(31, .one (bS r_1.From))], []⟩ :: ⟨[(29, .one (bS x34.Key)), (31, .one (bS r_1.From))], [], [(32, .one (bB true))], []⟩ :: ⟨[(32, .one (bB true))], [], [(33, .one (bB true))], []⟩ :: ⟨[(33, .one (bB true)), (3, .one (.ptr 1003 0))], [], [(34, .one (.ptr 1003 1))], []⟩ :: ⟨[(33, .one (bB true)), (34, .one (.ptr 1003 1))], [(1003, some (.blk 43 [bS r_1.From, bS r_1.To]))], [(35, .one (bS r_1.To))], []⟩ :: ⟨[(33, .one (bB true)), (35, .one (bS r_1.To))], [], [(36, .one (bB false))], []⟩ :: ⟨[(33, .one (bB true)), (36, .one (bB false))], [], [(37, .one (bB false))], []⟩ :: ⟨[(37, .one (bB false)), (6, .one (.g (.d (.sl 3 (List.map encApi_Dep r2)))))], [], [(38, .one (.g (.d (.sl 3 (List.map encApi_Dep r2)))))], []⟩ :: ⟨[(37, .one (bB false)), (8, .one (bI .i64 v20))], [], [(39, .one (bI .i64 v20))], []⟩ :: ⟨[(37, .one (bB false)), (38, .one (.g (.d (.sl 3 (List.map encApi_Dep r2))))), (39, .one (bI .i64 v20))], [], [(40, .one (.ep [.v (.string x37.Key), .v (.int .i64 x37.Stamp.N), .v (.int .i64 x37.Stamp.Site)]))], []⟩ :: ⟨[(37, .one (bB false)), (40, .one (.ep [.v (.string x37.Key), .v (.int .i64 x37.Stamp.N), .v (.int .i64 x37.Stamp.Site)]))], [], [(41, .one (.ep [.v (.string x37.Key), .v (.int .i64 x37.Stamp.N), .v (.int .i64 x37.Stamp.Site)]))], []⟩ :: ⟨[(37, .one (bB false)), (41, .one (.ep [.v (.string x37.Key), .v (.int .i64 x37.Stamp.N), .v (.int .i64 x37.Stamp.Site)]))], [], [(42, .one (bS x37.Key))], []⟩ :: ⟨[(37, .one (bB false)), (3, .one (.ptr 1003 0))], [], [(43, .one (.ptr 1003 1))], []⟩ :: ⟨[(37, .one (bB false)), (43, .one (.ptr 1003 1))], [(1003, some (.blk 43 [bS r_1.From, bS r_1.To]))], [(44, .one (bS r_1.To))], []⟩ :: ⟨[(37, .one (bB false)), (42, .one (bS x37.Key)), (44, .one (bS r_1.To))], [], [(45, .one (bB (slt x37.Key r_1.To)))], []⟩ :: ⟨[(33, .one (bB true)), (37, .one (bB false)), (45, .one (bB (slt x37.Key r_1.To)))], [], [(46, .one (bB (slt x37.Key r_1.To)))], []⟩ :: ⟨[(33, .one (bB true)), (46, .one (bB (slt x37.Key r_1.To)))], [], [(47, .one (bB (slt x37.Key r_1.To)))], []⟩ :: ⟨[(47, .one (bB (slt x37.Key r_1.To)))], [], [(9, .one (bB (slt x37.Key r_1.To)))], []⟩ :: [])) (deps := ([] :: [] :: [0, 1] :: [0, 1, 2] :: [0, 1, 2, 3] :: [] :: [5] :: [0, 1, 2, 3, 4, 5, 6] :: [0, 1, 2, 3, 4, 5, 6, 7] :: [0, 1, 2, 3, 4, 5, 6, 7, 8] :: [0, 1, 2, 3, 4, 5, 6, 7, 8, 9] :: [0, 1, 2, 3, 4, 5, 6, 7, 8, 9, 10] :: [0, 1, 2, 3, 4, 5, 6, 7, 8, 9, 10, 11] :: [0, 1, 2, 3, 4, 5, 6, 7, 8, 9, 10, 11, 12] :: [0, 1, 2, 3, 4, 5, 6, 7, 8, 9, 10, 11, 12] :: [0, 1, 2, 3, 4, 5, 6, 7, 8, 9, 10, 11, 12, 13, 14] :: [0, 1, 2, 3, 4, 5, 6, 7, 8, 9, 10, 11, 12, 13, 14, 15] :: [0, 1, 2, 3, 4, 5, 6, 7, 8, 9, 10, 11, 12, 13, 14, 15, 16] :: [0, 1, 2, 3, 4, 5, 6, 7, 8, 9, 10, 11, 12] :: [0, 1, 2, 3, 4, 5, 6, 7, 8, 9, 10, 11, 12, 18] :: [0, 1, 2, 3, 4, 5, 6, 7, 8, 9, 10, 11, 12, 13, 14, 15, 16, 17, 18, 19] :: (0 :: 1 :: 2 :: 3 :: 4 :: 5 :: 6 :: 7 :: 8 :: 9 :: 10 :: 11 :: 12 :: 13 :: 14 :: 15 :: 16 :: 17 :: 18 :: 19 :: 20 :: []) :: (0 :: 1 :: 2 :: 3 :: 4 :: 5 :: 6 :: 7 :: 8 :: 9 :: 10 :: 11 :: 12 :: 13 :: 14 :: 15 :: 16 :: 17 :: 18 :: 19 :: 20 :: 21 :: []) :: (0 :: 1 :: 2 :: 3 :: 4 :: 5 :: 6 :: 7 :: 8 :: 9 :: 10 :: 11 :: 12 :: 13 :: 14 :: 15 :: 16 :: 17 :: 18 :: 19 :: 20 :: 21 :: 22 :: []) :: [])) (sl' := [(3, .one (.ptr 1003 0)), (5, .one (bB r1)), (6, .one (.g (.d (.sl 3 (List.map encApi_Dep r2))))), (7, .one (.own 2018 (List.map encApi_Dep r3))), (8, .one (bI .i64 v20)), (9, .one (bB (slt x37.Key r_1.To)))]) (hp' := [(1003, some (.blk 43 [bS r_1.From, bS r_1.To])), (2018, some (.row 26 3 (List.map encApi_Dep r3) true))]) follows rfl rfl rfl ⟨⟨rfl, trivial⟩, trivial, ⟨rfl, trivial⟩, trivial, ⟨rfl, rfl, trivial⟩, trivial, ⟨rfl, trivial⟩, trivial, ⟨rfl, trivial⟩, trivial, ⟨rfl, trivial⟩, trivial, ⟨rfl, trivial⟩, ⟨⟨rfl, rfl⟩, trivial⟩, ⟨rfl, rfl, trivial⟩, trivial, ⟨rfl, trivial⟩, trivial, ⟨rfl, rfl, trivial⟩, trivial, ⟨rfl, rfl, trivial⟩, ⟨⟨rfl, rfl⟩, trivial⟩, ⟨rfl, rfl, trivial⟩, trivial, ⟨rfl, rfl, trivial⟩, trivial, ⟨rfl, rfl, trivial⟩, trivial, ⟨rfl, rfl, trivial⟩, trivial, ⟨rfl, rfl, rfl, trivial⟩, trivial, ⟨rfl, rfl, trivial⟩, trivial, ⟨rfl, rfl, trivial⟩, trivial, ⟨rfl, rfl, trivial⟩, trivial, ⟨rfl, rfl, trivial⟩, ⟨⟨rfl, rfl⟩, trivial⟩, ⟨rfl, rfl, rfl, trivial⟩, trivial, ⟨rfl, rfl, rfl, trivial⟩, trivial, ⟨rfl, rfl, trivial⟩, trivial, ⟨rfl, trivial⟩, trivial, trivial⟩ ⟨OpW.plain (op_move (Ev.t 6 (.g (.d (.sl 3 (List.map encApi_Dep r2))))) rfl) rfl rfl, OpW.plain (op_move (Ev.t 8 (bI .i64 v20)) rfl) rfl rfl, OpW.plain (op_index (cs := [.v (.string x34.Key), .v (.int .i64 x34.Stamp.N), .v (.int .i64 x34.Stamp.Site)]) Try.underlying22 ti26 (idx_ok hx34).1 (idx_get hx34 encApi_Dep) (Ev.t 25 (.g (.d (.sl 3 (List.map encApi_Dep r2))))) (Ev.t 26 (bI .i64 v20)) rfl) rfl rfl, OpW.plain (op_fieldE (cs' := [.v (.string x34.Key), .v (.int .i64 x34.Stamp.N), .v (.int .i64 x34.Stamp.Site)]) Try.underlying26 rfl ti9 (by decide) rfl (Ev.t 27 (.ep [.v (.string x34.Key), .v (.int .i64 x34.Stamp.N), .v (.int .i64 x34.Stamp.Site)])) rfl) rfl rfl, OpW.plain (op_load1E (c := .v (.string x34.Key)) Try.underlying9 rfl rfl (Ev.t 28 (.ep [.v (.string x34.Key), .v (.int .i64 x34.Stamp.N), .v (.int .i64 x34.Stamp.Site)])) rfl) rfl rfl, OpW.plain (op_fieldP (off' := 0) Try.underlying43 rfl ti9 (by decide) rfl (Ev.t 3 (.ptr 1003 0)) rfl) rfl rfl, OpW.plain (op_load1P (c := bS r_1.From) Try.underlying9 rfl rfl (Ev.t 30 (.ptr 1003 0)) rfl) rfl rfl, OpW.plain (OpL.cast (op_geS (Ev.t 29 (bS x34.Key)) (Ev.t 31 (bS r_1.From)) rfl) (congrArg (fun b => bB b) hc35)) rfl rfl, OpW.plain (op_move (Ev.t 32 (bB true)) rfl) rfl rfl, OpW.yes (op_fieldP (off' := 1) Try.underlying43 rfl ti9 (by decide) rfl (Ev.t 3 (.ptr 1003 0)) rfl) rfl rfl rfl, OpW.yes (op_load1P (c := bS r_1.To) Try.underlying9 rfl rfl (Ev.t 34 (.ptr 1003 1)) rfl) rfl rfl rfl, OpW.yes (OpL.cast (op_eqS (Ev.t 35 (bS r_1.To)) (Ev.c _ rfl) rfl) (congrArg (fun b => bB b) hc36)) rfl rfl rfl, OpW.yes (op_move (Ev.t 36 (bB false)) rfl) rfl rfl rfl, OpW.yes (op_move (Ev.t 6 (.g (.d (.sl 3 (List.map encApi_Dep r2))))) rfl) rfl rfl rfl, OpW.yes (op_move (Ev.t 8 (bI .i64 v20)) rfl) rfl rfl rfl, OpW.yes (op_index (cs := [.v (.string x37.Key), .v (.int .i64 x37.Stamp.N), .v (.int .i64 x37.Stamp.Site)]) Try.underlying22 ti26 (idx_ok hx37).1 (idx_get hx37 encApi_Dep) (Ev.t 38 (.g (.d (.sl 3 (List.map encApi_Dep r2))))) (Ev.t 39 (bI .i64 v20)) rfl) rfl rfl rfl, OpW.yes (op_fieldE (cs' := [.v (.string x37.Key), .v (.int .i64 x37.Stamp.N), .v (.int .i64 x37.Stamp.Site)]) Try.underlying26 rfl ti9 (by decide) rfl (Ev.t 40 (.ep [.v (.string x37.Key), .v (.int .i64 x37.Stamp.N), .v (.int .i64 x37.Stamp.Site)])) rfl) rfl rfl rfl, OpW.yes (op_load1E (c := .v (.string x37.Key)) Try.underlying9 rfl rfl (Ev.t 41 (.ep [.v (.string x37.Key), .v (.int .i64 x37.Stamp.N), .v (.int .i64 x37.Stamp.Site)])) rfl) rfl rfl rfl, OpW.yes (op_fieldP (off' := 1) Try.underlying43 rfl ti9 (by decide) rfl (Ev.t 3 (.ptr 1003 0)) rfl) rfl rfl rfl, OpW.yes (op_load1P (c := bS r_1.To) Try.underlying9 rfl rfl (Ev.t 43 (.ptr 1003 1)) rfl) rfl rfl rfl, OpW.yes (op_ltS (Ev.t 42 (bS x37.Key)) (Ev.t 44 (bS r_1.To)) rfl) rfl rfl rfl, OpW.yes (op_pickF (Ev.t 37 (bB false)) (Ev.t 45 (bB (slt x37.Key r_1.To))) rfl) rfl rfl rfl, OpW.plain (op_pickT (Ev.t 33 (bB true)) (Ev.t 46 (bB (slt x37.Key r_1.To))) rfl) rfl rfl, OpW.plain (op_assign (Ev.t 47 (bB (slt x37.Key r_1.To))) rfl) rfl rfl, trivial⟩ ⟨rfl, rfl, rfl, rfl, rfl, rfl, trivial⟩ ⟨rfl, rfl, trivial⟩ rfl ?_
        exact G.arr (J33 (slt x37.Key r_1.To) hF) ⟨rfl, rfl, rfl, rfl, rfl, rfl, trivial⟩ ⟨rfl, rfl, trivial⟩ rfl
    · refine G.drawn (effs := (⟨[(6, .one (.g (.d (.sl 3 (List.map encApi_Dep r2)))))], [], [(25, .one (.g (.d (.sl 3 (List.map encApi_Dep r2)))))], []⟩ :: ⟨[(8, .one (bI .i64 v20))], [], [(26, .one (bI .i64 v20))], []⟩ :: ⟨[(25, .one (.g (.d (.sl 3 (List.map encApi_Dep r2))))), (26, .one (bI .i64 v20))], [], [(27, .one (.ep [.v (.string x34.Key), .v (.int .i64 x34.Stamp.N), .v (.int .i64 x34.Stamp.Site)]))], []⟩ :: ⟨[(27, .one (.ep [.v (.string x34.Key), .v (.int .i64 x34.Stamp.N), .v (.int .i64 x34.Stamp.Site)]))], [], [(28, .one (.ep [.v (.string x34.Key), .v (.int .i64 x34.Stamp.N), .v (.int .i64 x34.Stamp.Site)]))], []⟩ :: ⟨[(28, .one (.ep [.v (.string x34.Key), .v (.int .i64 x34.Stamp.N), .v (.int .i64 x34.Stamp.Site)]))], [], [(29, .one (bS x34.Key))], []⟩ :: ⟨[(3, .one (.ptr 1003 0))], [], [(30, .one (.ptr 1003 0))], []⟩ :: ⟨[(30, .one (.ptr 1003 0))], [(1003, some (.blk 43 [bS r_1.From, bS r_1.To]))], [(31, .one (bS r_1.From))], []⟩ :: ⟨[(29, .one (bS x34.Key)), (31, .one (bS r_1.From))], [], [(32, .one (bB false))], []⟩ :: ⟨[(32, .one (bB false))], [], [(33, .one (bB false))], []⟩ :: ⟨[(33, .one (bB false))], [], [(34, .one (.x Go.undef))], []⟩ :: ⟨[(33, .one (bB false))], [], [(35, .one (.x Go.undef))], []⟩ :: ⟨[(33, .one (bB false))], [], [(36, .one (.x Go.undef))], []⟩ :: ⟨[(33, .one (bB false))], [], [(37, .one (.x Go.undef))], []⟩ :: ⟨[(37, .one (.x Go.undef))], [], [(38, .one (.x Go.undef))], []⟩ :: ⟨[(37, .one (.x Go.undef))], [], [(39, .one (.x Go.undef))], []⟩ :: ⟨[(37, .one (.x Go.undef))], [], [(40, .one (.x Go.undef))], []⟩ :: ⟨[(37, .one (.x Go.undef))], [], [(41, .one (.x Go.undef))], []⟩ :: ⟨[(37, .one (.x Go.undef))], [], [(42, .one (.x Go.undef))], []⟩ :: ⟨[(37, .one (.x Go.undef))], [], [(43, .one (.x Go.undef))], []⟩ :: ⟨[(37, .one (.x Go.undef))], [], [(44, .one (.x Go.undef))], []⟩ :: ⟨[(37, .one (.x Go.undef))], [], [(45, .one (.x Go.undef))], []⟩ :: ⟨[(33, .one (bB false))], [], [(46, .one (.x Go.undef))], []⟩ :: ⟨[(33, .one (bB false))], [], [(47, .one (bB false))], []⟩ :: ⟨[(47, .one (bB false))], [], [(9, .one (bB false))], []⟩ :: [])) (deps := ([] :: [] :: [0, 1] :: [0, 1, 2] :: [0, 1, 2, 3] :: [] :: [5] :: [0, 1, 2, 3, 4, 5, 6] :: [0, 1, 2, 3, 4, 5, 6, 7] :: [0, 1, 2, 3, 4, 5, 6, 7, 8] :: [0, 1, 2, 3, 4, 5, 6, 7, 8, 9] :: [0, 1, 2, 3, 4, 5, 6, 7, 8, 9, 10] :: [0, 1, 2, 3, 4, 5, 6, 7, 8, 9, 10, 11] :: [0, 1, 2, 3, 4, 5, 6, 7, 8, 9, 10, 11, 12] :: [0, 1, 2, 3, 4, 5, 6, 7, 8, 9, 10, 11, 12] :: [0, 1, 2, 3, 4, 5, 6, 7, 8, 9, 10, 11, 12, 13, 14] :: [0, 1, 2, 3, 4, 5, 6, 7, 8, 9, 10, 11, 12, 13, 14, 15] :: [0, 1, 2, 3, 4, 5, 6, 7, 8, 9, 10, 11, 12, 13, 14, 15, 16] :: [0, 1, 2, 3, 4, 5, 6, 7, 8, 9, 10, 11, 12] :: [0, 1, 2, 3, 4, 5, 6, 7, 8, 9, 10, 11, 12, 18] :: [0, 1, 2, 3, 4, 5, 6, 7, 8, 9, 10, 11, 12, 13, 14, 15, 16, 17, 18, 19] :: (0 :: 1 :: 2 :: 3 :: 4 :: 5 :: 6 :: 7 :: 8 :: 9 :: 10 :: 11 :: 12 :: 13 :: 14 :: 15 :: 16 :: 17 :: 18 :: 19 :: 20 :: []) :: (0 :: 1 :: 2 :: 3 :: 4 :: 5 :: 6 :: 7 :: 8 :: 9 :: 10 :: 11 :: 12 :: 13 :: 14 :: 15 :: 16 :: 17 :: 18 :: 19 :: 20 :: 21 :: []) :: (0 :: 1 :: 2 :: 3 :: 4 :: 5 :: 6 :: 7 :: 8 :: 9 :: 10 :: 11 :: 12 :: 13 :: 14 :: 15 :: 16 :: 17 :: 18 :: 19 :: 20 :: 21 :: 22 :: []) :: [])) (sl' := [(3, .one (.ptr 1003 0)), (5, .one (bB r1)), (6, .one (.g (.d (.sl 3 (List.map encApi_Dep r2))))), (7, .one (.own 2018 (List.map encApi_Dep r3))), (8, .one (bI .i64 v20)), (9, .one (bB false))]) (hp' := [(1003, some (.blk 43 [bS r_1.From, bS r_1.To])), (2018, some (.row 26 3 (List.map encApi_Dep r3) true))]) follows rfl rfl rfl ⟨⟨rfl, trivial⟩, trivial, ⟨rfl, trivial⟩, trivial, ⟨rfl, rfl, trivial⟩, trivial, ⟨rfl, trivial⟩, trivial, ⟨rfl, trivial⟩, trivial, ⟨rfl, trivial⟩, trivial, ⟨rfl, trivial⟩, ⟨⟨rfl, rfl⟩, trivial⟩, ⟨rfl, rfl, trivial⟩, trivial, ⟨rfl, trivial⟩, trivial, ⟨rfl, trivial⟩, trivial, ⟨rfl, trivial⟩, trivial, ⟨rfl, trivial⟩, trivial, ⟨rfl, trivial⟩, trivial, ⟨rfl, trivial⟩, trivial, ⟨rfl, trivial⟩, trivial, ⟨rfl, trivial⟩, trivial, ⟨rfl, trivial⟩, trivial, ⟨rfl, trivial⟩, trivial, ⟨rfl, trivial⟩, trivial, ⟨rfl, trivial⟩, trivial, ⟨rfl, trivial⟩, trivial, ⟨rfl, trivial⟩, trivial, ⟨rfl, trivial⟩, trivial, ⟨rfl, trivial⟩, trivial, trivial⟩ ⟨OpW.plain (op_move (Ev.t 6 (.g (.d (.sl 3 (List.map encApi_Dep r2))))) rfl) rfl rfl, OpW.plain (op_move (Ev.t 8 (bI .i64 v20)) rfl) rfl rfl, OpW.plain (op_index (cs := [.v (.string x34.Key), .v (.int .i64 x34.Stamp.N), .v (.int .i64 x34.Stamp.Site)]) Try.underlying22 ti26 (idx_ok hx34).1 (idx_get hx34 encApi_Dep) (Ev.t 25 (.g (.d (.sl 3 (List.map encApi_Dep r2))))) (Ev.t 26 (bI .i64 v20)) rfl) rfl rfl, OpW.plain (op_fieldE (cs' := [.v (.string x34.Key), .v (.int .i64 x34.Stamp.N), .v (.int .i64 x34.Stamp.Site)]) Try.underlying26 rfl ti9 (by decide) rfl (Ev.t 27 (.ep [.v (.string x34.Key), .v (.int .i64 x34.Stamp.N), .v (.int .i64 x34.Stamp.Site)])) rfl) rfl rfl, OpW.plain (op_load1E (c := .v (.string x34.Key)) Try.underlying9 rfl rfl (Ev.t 28 (.ep [.v (.string x34.Key), .v (.int .i64 x34.Stamp.N), .v (.int .i64 x34.Stamp.Site)])) rfl) rfl rfl, OpW.plain (op_fieldP (off' := 0) Try.underlying43 rfl ti9 (by decide) rfl (Ev.t 3 (.ptr 1003 0)) rfl) rfl rfl, OpW.plain (op_load1P (c := bS r_1.From) Try.underlying9 rfl rfl (Ev.t 30 (.ptr 1003 0)) rfl) rfl rfl, OpW.plain (OpL.cast (op_geS (Ev.t 29 (bS x34.Key)) (Ev.t 31 (bS r_1.From)) rfl) (congrArg (fun b => bB b) hc35)) rfl rfl, OpW.plain (op_move (Ev.t 32 (bB false)) rfl) rfl rfl, OpW.no rfl rfl rfl rfl rfl, OpW.no rfl rfl rfl rfl rfl, OpW.no rfl rfl rfl rfl rfl, OpW.no rfl rfl rfl rfl rfl, OpW.un rfl rfl rfl rfl, OpW.un rfl rfl rfl rfl, OpW.un rfl rfl rfl rfl, OpW.un rfl rfl rfl rfl, OpW.un rfl rfl rfl rfl, OpW.un rfl rfl rfl rfl, OpW.un rfl rfl rfl rfl, OpW.un rfl rfl rfl rfl, OpW.no rfl rfl rfl rfl rfl, OpW.plain (op_pickF (Ev.t 33 (bB false)) (Ev.c _ rfl) rfl) rfl rfl, OpW.plain (op_assign (Ev.t 47 (bB false)) rfl) rfl rfl, trivial⟩ ⟨rfl, rfl, rfl, rfl, rfl, rfl, trivial⟩ ⟨rfl, rfl, trivial⟩ rfl ?_
      exact G.arr (J33 false hF) ⟨rfl, rfl, rfl, rfl, rfl, rfl, trivial⟩ ⟨rfl, rfl, trivial⟩ rfl
  · refine G.cond rfl (fun hx => by rw [hc24] at hx; cases hx) (fun _ => ?_)
    refine G.exit ?_
    refine GX.c ?_
    refine GX.q ?_
    refine GX.bYes ?_
    exact G.arr (J19 () hF) ⟨rfl, rfl, rfl, trivial⟩ ⟨rfl, trivial⟩ rfl


end Go.Ark
