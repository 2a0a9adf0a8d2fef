/- Walks, printed by a program of mine: each function of the program computes the typed function of its name. Conditions: none. -/
import Derived.Test.YtfckeeglbhlnmaaWQueueTells2
namespace Go.Ark
open Go Go.Ab Go.Proofs

set_option maxRecDepth 20000 in
set_option maxHeartbeats 2000000 in
theorem ct_ref06_Check (v_0 : Api_Version) (r : Bool) (hF : ref06_Check v_0 = some r) : Ct Try.prog 46 [.g (.agg (encApi_Version v_0))] (.one (.d (.v (.bool r)))) := by
  unfold ref06_Check at hF
  refine Ct.intro Try.func46 rfl Try.ntmps46 rfl rfl fun M w => ?_
  refine G.seq ?_
  refine G.region ?_
  refine G.op2 (op_boxA (k := 1001) (Ev.t 0 (.g (.agg [.v (.string v_0.Key), .v (.string v_0.Value), .v (.bool v_0.Gone), .v (.int .i64 v_0.Stamp.N), .v (.int .i64 v_0.Stamp.Site), .sl 3 (List.map encApi_Dep v_0.Past)]))) rfl) rfl ⟨rfl, trivial⟩ ⟨rfl, trivial⟩ ?_
  refine G.op1 (op_assign (Ev.c _ rfl) rfl) rfl trivial trivial ?_
  refine G.endOps ?_
  refine G.seq ?_
  refine G.region ?_
  refine G.op1 (op_fieldP (off' := 0) Try.underlying32 rfl ti9 (by decide) rfl (Ev.t 1 (.ptr 1001 0)) rfl) rfl ⟨rfl, trivial⟩ trivial ?_
  refine G.op1 (op_load1P (c := bS v_0.Key) Try.underlying9 rfl rfl (Ev.t 6 (.ptr 1001 0)) rfl) rfl ⟨rfl, trivial⟩ ⟨rfl, trivial⟩ ?_
  obtain ⟨r1, hr1, hF⟩ := bindS hF
  refine G.op1 (op_callQ (sv := .one (bB r1)) cf34 (ct_ref02_Check v_0.Key r1 hr1) rfl rfl (EvQL.cons (EvQ.g (Ev.t 7 (bS v_0.Key))) EvQL.nil) rfl) rfl ⟨rfl, trivial⟩ trivial ?_
  refine G.op1 (op_assign (Ev.t 8 (bB r1)) rfl) rfl ⟨rfl, trivial⟩ trivial ?_
  refine G.endOps ?_
  refine G.seq ?_
  refine G.region ?_
  refine G.op1 (op_fieldP (off' := 3) Try.underlying32 rfl ti29 (by decide) rfl (Ev.t 1 (.ptr 1001 0)) rfl) rfl ⟨rfl, trivial⟩ trivial ?_
  refine G.op1 (op_loadAP (ds := [.v (.int .i64 v_0.Stamp.N), .v (.int .i64 v_0.Stamp.Site)]) Try.underlying29 rfl ti29 rfl (Ev.t 9 (.ptr 1001 3)) rfl) rfl ⟨rfl, trivial⟩ ⟨rfl, trivial⟩ ?_
  obtain ⟨r2, hr2, hF⟩ := bindS hF
  refine G.op1 (op_callQ (sv := .one (bB r2)) cf35 (ct_ref03_Check v_0.Stamp r2 hr2) rfl rfl (EvQL.cons (EvQ.g (Ev.t 10 (.g (.agg [.v (.int .i64 v_0.Stamp.N), .v (.int .i64 v_0.Stamp.Site)])))) EvQL.nil) rfl) rfl ⟨rfl, trivial⟩ trivial ?_
  refine G.op1 (op_assign (Ev.t 11 (bB r2)) rfl) rfl ⟨rfl, trivial⟩ trivial ?_
  refine G.endOps ?_
  refine G.seq ?_
  refine G.region ?_
  refine G.op1 (op_fieldP (off' := 5) Try.underlying32 rfl ti30 (by decide) rfl (Ev.t 1 (.ptr 1001 0)) rfl) rfl ⟨rfl, trivial⟩ trivial ?_
  refine G.op1 (op_load1P (c := .g (.d (.sl 3 (List.map encApi_Dep v_0.Past)))) Try.underlying30 rfl rfl (Ev.t 12 (.ptr 1001 5)) rfl) rfl ⟨rfl, trivial⟩ ⟨rfl, trivial⟩ ?_
  obtain ⟨r3, hr3, hF⟩ := bindS hF
  refine G.op1 (op_callQ (sv := .one (bB r3)) cf60 (ct_ref04_Check v_0.Past r3 hr3) rfl rfl (EvQL.cons (EvQ.g (Ev.t 13 (.g (.d (.sl 3 (List.map encApi_Dep v_0.Past)))))) EvQL.nil) rfl) rfl ⟨rfl, trivial⟩ trivial ?_
  refine G.op1 (op_assign (Ev.t 14 (bB r3)) rfl) rfl ⟨rfl, trivial⟩ trivial ?_
  refine G.endOps ?_
  refine G.seq ?_
  refine G.region ?_
  refine G.op1 (op_move (Ev.t 3 (bB r1)) rfl) rfl ⟨rfl, trivial⟩ trivial ?_
  refine G.op1 (op_move (Ev.t 15 (bB r1)) rfl) rfl ⟨rfl, trivial⟩ trivial ?_
  refine G.joinL (T := Bool) 2 (fun y4 => ⟨[(1, .one (.ptr 1001 0)), (5, .one (bB r3)), (18, .one (bB y4))], [(1001, some (.blk 32 [bS v_0.Key, bS v_0.Value, bB v_0.Gone, bI .i64 v_0.Stamp.N, bI .i64 v_0.Stamp.Site, .g (.d (.sl 3 (List.map encApi_Dep v_0.Past)))]))]⟩) (fun y4 => ref06_Check_k1 v_0 r3 y4 = some r) (fun y4 hF => ?_) (fun J13 => ?_)
  · unfold ref06_Check_k1 at hF
    refine G.op1 (op_move (Ev.t 18 (bB y4)) rfl) rfl ⟨rfl, trivial⟩ trivial ?_
    refine G.joinL (T := Bool) 2 (fun y5 => ⟨[(1, .one (.ptr 1001 0)), (21, .one (bB y5))], [(1001, some (.blk 32 [bS v_0.Key, bS v_0.Value, bB v_0.Gone, bI .i64 v_0.Stamp.N, bI .i64 v_0.Stamp.Site, .g (.d (.sl 3 (List.map encApi_Dep v_0.Past)))]))]⟩) (fun y5 => ref06_Check_k2 v_0 y5 = some r) (fun y5 hF => ?_) (fun J11 => ?_)
    · unfold ref06_Check_k2 at hF
      refine G.op1 (op_move (Ev.t 21 (bB y5)) rfl) rfl ⟨rfl, trivial⟩ trivial ?_
      refine G.joinL (T := Bool) 5 (fun y6 => ⟨[(1, .one (.ptr 1001 0)), (27, .one (bB y6))], [(1001, some (.blk 32 [bS v_0.Key, bS v_0.Value, bB v_0.Gone, bI .i64 v_0.Stamp.N, bI .i64 v_0.Stamp.Site, .g (.d (.sl 3 (List.map encApi_Dep v_0.Past)))]))]⟩) (fun y6 => ref06_Check_k3 v_0 y6 = some r) (fun y6 hF => ?_) (fun J9 => ?_)
      · unfold ref06_Check_k3 at hF
        refine G.op1 (op_move (Ev.t 27 (bB y6)) rfl) rfl ⟨rfl, trivial⟩ trivial ?_
        refine ifS hF (fun hc7 hF => ?_) (fun hc7 hF => ?_)
        · refine G.known (t := 28) hc7 rfl ?_
          refine G.opG1 (op_fieldP (off' := 2) Try.underlying32 rfl ti4 (by decide) rfl (Ev.t 1 (.ptr 1001 0)) rfl) rfl rfl rfl ⟨rfl, trivial⟩ trivial ?_
          refine G.opG1 (op_load1P (c := bB v_0.Gone) Try.underlying4 rfl rfl (Ev.t 29 (.ptr 1001 2)) rfl) rfl rfl rfl ⟨rfl, trivial⟩ ⟨rfl, trivial⟩ ?_
          refine G.opG1 (op_not (Ev.t 30 (bB v_0.Gone)) rfl) rfl rfl rfl ⟨rfl, trivial⟩ trivial ?_
          refine G.opG1 (op_move (Ev.t 31 (bB (!v_0.Gone))) rfl) rfl rfl rfl ⟨rfl, trivial⟩ trivial ?_
          refine ifS hF (fun hc8 hF => ?_) (fun hc8 hF => ?_)
          · refine G.known (t := 32) hc8 rfl ?_
            refine G.opN1 rfl rfl rfl rfl rfl ?_
            refine G.opN1 rfl rfl rfl rfl rfl ?_
            refine G.opN1 rfl rfl rfl rfl rfl ?_
            refine G.opG1 (op_pickT (Ev.t 32 (bB true)) (Ev.c _ rfl) rfl) rfl rfl rfl ⟨rfl, trivial⟩ trivial ?_
            refine G.op1 (op_pickT (Ev.t 28 (bB true)) (Ev.t 36 (bB true)) rfl) rfl ⟨rfl, rfl, trivial⟩ trivial ?_
            refine G.op1 (op_assign (Ev.t 37 (bB true)) rfl) rfl ⟨rfl, trivial⟩ trivial ?_
            refine G.endOps ?_
            cases hF
            exact G.ret1 Try.results46 (RVar.tmp 2 _) ⟨rfl, trivial⟩ trivial
          · refine G.known (t := 32) hc8 rfl ?_
            refine G.opG1 (op_fieldP (off' := 1) Try.underlying32 rfl ti9 (by decide) rfl (Ev.t 1 (.ptr 1001 0)) rfl) rfl rfl rfl ⟨rfl, trivial⟩ trivial ?_
            refine G.opG1 (op_load1P (c := bS v_0.Value) Try.underlying9 rfl rfl (Ev.t 33 (.ptr 1001 1)) rfl) rfl rfl rfl ⟨rfl, trivial⟩ ⟨rfl, trivial⟩ ?_
            refine G.opG1 (op_eqS (Ev.t 34 (bS v_0.Value)) (Ev.c _ rfl) rfl) rfl rfl rfl ⟨rfl, trivial⟩ trivial ?_
            refine G.opG1 (op_pickF (Ev.t 32 (bB false)) (Ev.t 35 (bB (seq v_0.Value ByteArray.empty))) rfl) rfl rfl rfl ⟨rfl, rfl, trivial⟩ trivial ?_
            refine G.op1 (op_pickT (Ev.t 28 (bB true)) (Ev.t 36 (bB (seq v_0.Value ByteArray.empty))) rfl) rfl ⟨rfl, rfl, trivial⟩ trivial ?_
            refine G.op1 (op_assign (Ev.t 37 (bB (seq v_0.Value ByteArray.empty))) rfl) rfl ⟨rfl, trivial⟩ trivial ?_
            refine G.endOps ?_
            cases hF
            exact G.ret1 Try.results46 (RVar.tmp 2 _) ⟨rfl, trivial⟩ trivial
        · refine G.known (t := 28) hc7 rfl ?_
          refine G.opN1 rfl rfl rfl rfl rfl ?_
          refine G.opN1 rfl rfl rfl rfl rfl ?_
          refine G.opN1 rfl rfl rfl rfl rfl ?_
          refine G.opN1 rfl rfl rfl rfl rfl ?_
          refine G.opU rfl rfl rfl rfl ?_
          refine G.opU rfl rfl rfl rfl ?_
          refine G.opU rfl rfl rfl rfl ?_
          refine G.opN1 rfl rfl rfl rfl rfl ?_
          refine G.op1 (op_pickF (Ev.t 28 (bB false)) (Ev.c _ rfl) rfl) rfl ⟨rfl, trivial⟩ trivial ?_
          refine G.op1 (op_assign (Ev.t 37 (bB false)) rfl) rfl ⟨rfl, trivial⟩ trivial ?_
          refine G.endOps ?_
          cases hF
          exact G.ret1 Try.results46 (RVar.tmp 2 _) ⟨rfl, trivial⟩ trivial
      refine ifS hF (fun hc10 hF => ?_) (fun hc10 hF => ?_)
      · refine G.known (t := 22) hc10 rfl ?_
        refine G.opG1 (op_fieldP (off' := 1) Try.underlying32 rfl ti9 (by decide) rfl (Ev.t 1 (.ptr 1001 0)) rfl) rfl rfl rfl ⟨rfl, trivial⟩ trivial ?_
        refine G.opG1 (op_load1P (c := bS v_0.Value) Try.underlying9 rfl rfl (Ev.t 23 (.ptr 1001 1)) rfl) rfl rfl rfl ⟨rfl, trivial⟩ ⟨rfl, trivial⟩ ?_
        refine G.opG1 (op_lenS Try.underlying9 (Ev.t 24 (bS v_0.Value)) rfl) rfl rfl rfl ⟨rfl, trivial⟩ trivial ?_
        refine G.opG1 (op_leq (Ev.t 25 (bI .i64 (v_0.Value.size : Int))) (Ev.c _ rfl) rfl) rfl rfl rfl ⟨rfl, trivial⟩ trivial ?_
        refine G.op1 (op_pickT (Ev.t 22 (bB true)) (Ev.t 26 (bB (decide ((v_0.Value.size : Int) ≤ 32)))) rfl) rfl ⟨rfl, rfl, trivial⟩ trivial ?_
        exact G.arr (J9 (decide ((v_0.Value.size : Int) ≤ 32)) hF) ⟨rfl, rfl, trivial⟩ ⟨rfl, trivial⟩ rfl
      · refine G.known (t := 22) hc10 rfl ?_
        refine G.opN1 rfl rfl rfl rfl rfl ?_
        refine G.opN1 rfl rfl rfl rfl rfl ?_
        refine G.opN1 rfl rfl rfl rfl rfl ?_
        refine G.opN1 rfl rfl rfl rfl rfl ?_
        refine G.op1 (op_pickF (Ev.t 22 (bB false)) (Ev.c _ rfl) rfl) rfl ⟨rfl, trivial⟩ trivial ?_
        exact G.arr (J9 false hF) ⟨rfl, rfl, trivial⟩ ⟨rfl, trivial⟩ rfl
    refine ifS hF (fun hc12 hF => ?_) (fun hc12 hF => ?_)
    · refine G.known (t := 19) hc12 rfl ?_
      refine G.opG1 (op_move (Ev.t 5 (bB r3)) rfl) rfl rfl rfl ⟨rfl, trivial⟩ trivial ?_
      refine G.op1 (op_pickT (Ev.t 19 (bB true)) (Ev.t 20 (bB r3)) rfl) rfl ⟨rfl, rfl, trivial⟩ trivial ?_
      exact G.arr (J11 r3 hF) ⟨rfl, rfl, trivial⟩ ⟨rfl, trivial⟩ rfl
    · refine G.known (t := 19) hc12 rfl ?_
      refine G.opN1 rfl rfl rfl rfl rfl ?_
      refine G.op1 (op_pickF (Ev.t 19 (bB false)) (Ev.c _ rfl) rfl) rfl ⟨rfl, trivial⟩ trivial ?_
      exact G.arr (J11 false hF) ⟨rfl, rfl, trivial⟩ ⟨rfl, trivial⟩ rfl
  refine ifS hF (fun hc14 hF => ?_) (fun hc14 hF => ?_)
  · refine G.known (t := 16) hc14 rfl ?_
    refine G.opG1 (op_move (Ev.t 4 (bB r2)) rfl) rfl rfl rfl ⟨rfl, trivial⟩ trivial ?_
    refine G.op1 (op_pickT (Ev.t 16 (bB true)) (Ev.t 17 (bB r2)) rfl) rfl ⟨rfl, rfl, trivial⟩ trivial ?_
    exact G.arr (J13 r2 hF) ⟨rfl, rfl, rfl, trivial⟩ ⟨rfl, trivial⟩ rfl
  · refine G.known (t := 16) hc14 rfl ?_
    refine G.opN1 rfl rfl rfl rfl rfl ?_
    refine G.op1 (op_pickF (Ev.t 16 (bB false)) (Ev.c _ rfl) rfl) rfl ⟨rfl, trivial⟩ trivial ?_
    exact G.arr (J13 false hF) ⟨rfl, rfl, rfl, trivial⟩ ⟨rfl, trivial⟩ rfl


set_option maxRecDepth 20000 in
set_option maxHeartbeats 2000000 in
theorem ct_ref14_Push (l_0 : (List Api_Version)) (v_1 : Api_Version) (r : ((List Api_Version) × Int)) (hF : ref14_Push l_0 v_1 = some r) : Ct Try.prog 30 [.g (.d (.sl 6 (List.map encApi_Version l_0))), .g (.agg (encApi_Version v_1))] (.tup [.d (.sl 6 (List.map encApi_Version r.1)), .d (.v (.int .i64 r.2))]) := by
  unfold ref14_Push at hF
  refine Ct.intro Try.func30 rfl Try.ntmps30 rfl rfl fun M w => ?_
  refine G.seq ?_
  refine G.region ?_
  refine G.op2 (op_boxA (k := 1003) (Ev.t 1 (.g (.agg [.v (.string v_1.Key), .v (.string v_1.Value), .v (.bool v_1.Gone), .v (.int .i64 v_1.Stamp.N), .v (.int .i64 v_1.Stamp.Site), .sl 3 (List.map encApi_Dep v_1.Past)]))) rfl) rfl ⟨rfl, trivial⟩ ⟨rfl, trivial⟩ ?_
  refine G.op1 (op_assign (Ev.n 6) rfl) rfl trivial trivial ?_
  refine G.op1 (op_assign (Ev.c _ rfl) rfl) rfl trivial trivial ?_
  refine G.endOps ?_
  refine G.seq ?_
  refine G.region ?_
  refine G.op1 (op_loadAP (ds := [.v (.string v_1.Key), .v (.string v_1.Value), .v (.bool v_1.Gone), .v (.int .i64 v_1.Stamp.N), .v (.int .i64 v_1.Stamp.Site), .sl 3 (List.map encApi_Dep v_1.Past)]) Try.underlying32 rfl ti32 rfl (Ev.t 3 (.ptr 1003 0)) rfl) rfl ⟨rfl, trivial⟩ ⟨rfl, trivial⟩ ?_
  obtain ⟨r1, hr1, hF⟩ := bindS hF
  refine G.op1 (op_callQ (sv := .one (bB r1)) cf46 (ct_ref06_Check v_1 r1 hr1) rfl rfl (EvQL.cons (EvQ.g (Ev.t 8 (.g (.agg [.v (.string v_1.Key), .v (.string v_1.Value), .v (.bool v_1.Gone), .v (.int .i64 v_1.Stamp.N), .v (.int .i64 v_1.Stamp.Site), .sl 3 (List.map encApi_Dep v_1.Past)])))) EvQL.nil) rfl) rfl ⟨rfl, trivial⟩ trivial ?_
  refine G.op1 (op_assign (Ev.t 9 (bB r1)) rfl) rfl ⟨rfl, trivial⟩ trivial ?_
  refine G.endOps ?_
  refine G.seq ?_
  refine G.seq ?_
  refine G.region ?_
  refine G.op1 (op_move (Ev.t 6 (bB r1)) rfl) rfl ⟨rfl, trivial⟩ trivial ?_
  refine G.op1 (op_not (Ev.t 10 (bB r1)) rfl) rfl ⟨rfl, trivial⟩ trivial ?_
  refine G.endOps ?_
  refine ifS hF (fun hc2 hF => ?_) (fun hc2 hF => ?_)
  · refine G.cond rfl (fun _ => ?_) (fun hx => by rw [hc2] at hx; cases hx)
    refine G.seq ?_
    refine G.region ?_
    refine G.op1 (op_assign (Ev.n 6) rfl) rfl trivial trivial ?_
    refine G.op1 (op_assign (Ev.c _ rfl) rfl) rfl trivial trivial ?_
    refine G.endOps ?_
    cases hF
    exact G.ret2 Try.results30 (RVar.tmp 4 _) (RVar.tmp 5 _) ⟨rfl, rfl, trivial⟩ trivial
  · refine G.cond rfl (fun hx => by rw [hc2] at hx; cases hx) (fun _ => ?_)
    refine G.skip ?_
    refine G.seq ?_
    refine G.seq ?_
    refine G.region ?_
    refine G.op1 (op_move (Ev.t 0 (.g (.d (.sl 6 (List.map encApi_Version l_0))))) rfl) rfl ⟨rfl, trivial⟩ trivial ?_
    refine G.op1 (OpL.cast (op_lenD Try.underlying24 (Ev.t 12 (.g (.d (.sl 6 (List.map encApi_Version l_0))))) rfl) (by rw [List.length_map])) rfl ⟨rfl, trivial⟩ trivial ?_
    refine G.op1 (op_geq (Ev.t 13 (bI .i64 (l_0.length : Int))) (Ev.c _ rfl) rfl) rfl ⟨rfl, trivial⟩ trivial ?_
    refine G.endOps ?_
    refine ifS hF (fun hc3 hF => ?_) (fun hc3 hF => ?_)
    · refine G.cond rfl (fun _ => ?_) (fun hx => by rw [hc3] at hx; cases hx)
      refine G.seq ?_
      refine G.region ?_
      refine G.op1 (op_assign (Ev.n 6) rfl) rfl trivial trivial ?_
      refine G.op1 (op_assign (Ev.c _ rfl) rfl) rfl trivial trivial ?_
      refine G.endOps ?_
      cases hF
      exact G.ret2 Try.results30 (RVar.tmp 4 _) (RVar.tmp 5 _) ⟨rfl, rfl, trivial⟩ trivial
    · refine G.cond rfl (fun hx => by rw [hc3] at hx; cases hx) (fun _ => ?_)
      refine G.skip ?_
      refine G.seq ?_
      refine G.region ?_
      refine G.op2 (op_assignRow (E := 32) (size := 6) (k := 2007) (ex := false) rfl rfl) rfl trivial ⟨rfl, trivial⟩ ?_
      refine G.endOps ?_
      refine G.seq ?_
      refine G.region ?_
      refine G.op1 (op_move (Ev.t 7 (.own 2007 (List.map encApi_Version ([] : (List Api_Version))))) rfl) rfl ⟨rfl, trivial⟩ trivial ?_
      refine G.op1 (op_move (Ev.t 0 (.g (.d (.sl 6 (List.map encApi_Version l_0))))) rfl) rfl ⟨rfl, trivial⟩ trivial ?_
      obtain ⟨l4, hl4, hF⟩ := bindS hF
      refine G.op2 (op_appendO Try.underlying24 ti32 rfl (app_map hl4 encApi_Version) (app_b1 hl4 encApi_Version) (app_b2 hl4 encApi_Version) (Ev.t 15 (.own 2007 (List.map encApi_Version ([] : (List Api_Version))))) (Ev.t 16 (.g (.d (.sl 6 (List.map encApi_Version l_0))))) rfl) rfl ⟨rfl, rfl, trivial⟩ ⟨rfl, trivial⟩ ?_
      refine G.op1 (op_assign (Ev.t 17 (.own 2007 (List.map encApi_Version l4))) rfl) rfl ⟨rfl, trivial⟩ trivial ?_
      refine G.endOps ?_
      refine G.seq ?_
      refine G.region ?_
      refine G.op1 (op_move (Ev.t 7 (.own 2007 (List.map encApi_Version l4))) rfl) rfl ⟨rfl, trivial⟩ trivial ?_
      refine G.op1 (op_loadAP (ds := [.v (.string v_1.Key), .v (.string v_1.Value), .v (.bool v_1.Gone), .v (.int .i64 v_1.Stamp.N), .v (.int .i64 v_1.Stamp.Site), .sl 3 (List.map encApi_Dep v_1.Past)]) Try.underlying32 rfl ti32 rfl (Ev.t 3 (.ptr 1003 0)) rfl) rfl ⟨rfl, trivial⟩ ⟨rfl, trivial⟩ ?_
      refine G.op1 (op_buildSlice (es := List.map encApi_Version [v_1]) Try.underlying24 ti32 rfl rfl (EvP.cons (Ev.t 19 (.g (.agg [.v (.string v_1.Key), .v (.string v_1.Value), .v (.bool v_1.Gone), .v (.int .i64 v_1.Stamp.N), .v (.int .i64 v_1.Stamp.Site), .sl 3 (List.map encApi_Dep v_1.Past)]))) EvP.nil) rfl rfl (by simp [encApi_Version]) rfl) rfl ⟨rfl, trivial⟩ trivial ?_
      obtain ⟨l5, hl5, hF⟩ := bindS hF
      refine G.op2 (op_appendO Try.underlying24 ti32 rfl (app_map hl5 encApi_Version) (app_b1 hl5 encApi_Version) (app_b2 hl5 encApi_Version) (Ev.t 18 (.own 2007 (List.map encApi_Version l4))) (Ev.t 20 (.g (.d (.sl 6 (List.map encApi_Version ([v_1])))))) rfl) rfl ⟨rfl, rfl, trivial⟩ ⟨rfl, trivial⟩ ?_
      refine G.op1 (op_assign (Ev.t 21 (.own 2007 (List.map encApi_Version l5))) rfl) rfl ⟨rfl, trivial⟩ trivial ?_
      refine G.op1 (op_assign (Ev.c _ rfl) rfl) rfl trivial trivial ?_
      refine G.endOps ?_
      refine G.view (t := 4) rfl rfl ?_
      cases hF
      exact G.ret2 Try.results30 (RVar.tmp 4 _) (RVar.tmp 5 _) ⟨rfl, rfl, trivial⟩ trivial


set_option maxRecDepth 20000 in
set_option maxHeartbeats 2000000 in
theorem ct_slices_Clone_Version (s_0 : (List Api_Version)) (r : (List Api_Version)) (hF : slices_Clone_Version s_0 = some r) : Ct Try.prog 42 [.g (.d (.sl 6 (List.map encApi_Version s_0)))] (.new 32 6 (List.map encApi_Version r)) := by
  unfold slices_Clone_Version at hF
  refine Ct.intro Try.func42 rfl Try.ntmps42 rfl rfl fun M w => ?_
  refine G.seq ?_
  refine G.region ?_
  refine G.op1 (op_assign (c := .x (.slice none 0 0)) (Ev.x _) rfl) rfl trivial trivial ?_
  refine G.endOps ?_
  refine G.seq ?_
  refine G.seq ?_
  refine G.region ?_
  refine G.op1 (op_move (Ev.t 0 (.g (.d (.sl 6 (List.map encApi_Version s_0))))) rfl) rfl ⟨rfl, trivial⟩ trivial ?_
  refine G.opNil Try.underlying24 (Ev.t 3 (.g (.d (.sl 6 (List.map encApi_Version s_0))))) rfl ⟨rfl, trivial⟩ (fun nilb1 hnilb1 => ?_)
  refine G.endOps ?_
  refine G.cond rfl (fun hx => ?_) (fun hx => ?_)
  · replace hF := cloneNil (hnilb1 hx) hF
    refine G.seq ?_
    refine G.region ?_
    refine G.op1 (op_assign (c := .x (.slice none 0 0)) (Ev.x _) rfl) rfl trivial trivial ?_
    refine G.endOps ?_
    cases hF
    exact G.retNil (T := 32) Try.results42 ti32 rfl ⟨rfl, trivial⟩
  · clear hnilb1
    refine G.skip ?_
    refine G.seq ?_
    refine G.region ?_
    refine G.op2 (op_buildRow (kk := 2005) Try.underlying24 ti32 rfl rfl) rfl trivial ⟨rfl, trivial⟩ ?_
    refine G.keep (sl' := [(0, .one (.g (.d (.sl 6 (List.map encApi_Version s_0))))), (2, .one (.x (.slice none 0 0))), (3, .one (.g (.d (.sl 6 (List.map encApi_Version s_0))))), (4, .one (bB nilb1)), (5, .one (.own 2005 (List.map encApi_Version ([] : List Api_Version))))]) (hp' := [(2005, some (.row 32 6 (List.map encApi_Version ([] : List Api_Version)) true))]) ⟨rfl, rfl, rfl, rfl, rfl, trivial⟩ ⟨rfl, trivial⟩ rfl ?_
    refine G.op1 (op_move (Ev.t 0 (.g (.d (.sl 6 (List.map encApi_Version s_0))))) rfl) rfl ⟨rfl, trivial⟩ trivial ?_
    obtain ⟨l2, hl2, hF⟩ := bindS hF
    refine G.op2 (op_appendO Try.underlying24 ti32 rfl (app_map hl2 encApi_Version) (app_b1 hl2 encApi_Version) (app_b2 hl2 encApi_Version) (Ev.t 5 (.own 2005 (List.map encApi_Version ([] : List Api_Version)))) (Ev.t 6 (.g (.d (.sl 6 (List.map encApi_Version s_0))))) rfl) rfl ⟨rfl, rfl, trivial⟩ ⟨rfl, trivial⟩ ?_
    refine G.op1 (op_assign (Ev.t 7 (.own 2005 (List.map encApi_Version l2))) rfl) rfl ⟨rfl, trivial⟩ trivial ?_
    refine G.endOps ?_
    cases hF
    exact G.retNew Try.results42 rfl rfl


set_option maxRecDepth 20000 in
set_option maxHeartbeats 2000000 in
theorem ct_queue_Drop_1 (v_0 : Api_Version) (c0 : (List Api_Range)) (r : Bool) (hF : queue_Drop_1 v_0 c0 = some r) : Ct Try.prog 43 [.g (.agg (encApi_Version v_0)), .ep [.sl 2 (List.map encApi_Range c0)]] (.one (.d (.v (.bool r)))) := by
  unfold queue_Drop_1 at hF
  refine Ct.intro Try.func43 rfl Try.ntmps43 rfl rfl fun M w => ?_
  refine G.seq ?_
  refine G.region ?_
  refine G.op2 (op_boxA (k := 1002) (Ev.t 0 (.g (.agg [.v (.string v_0.Key), .v (.string v_0.Value), .v (.bool v_0.Gone), .v (.int .i64 v_0.Stamp.N), .v (.int .i64 v_0.Stamp.Site), .sl 3 (List.map encApi_Dep v_0.Past)]))) rfl) rfl ⟨rfl, trivial⟩ ⟨rfl, trivial⟩ ?_
  refine G.op1 (op_assign (Ev.c _ rfl) rfl) rfl trivial trivial ?_
  refine G.endOps ?_
  refine G.seq ?_
  refine G.region ?_
  refine G.op1 (op_load1E (c := .sl 2 (List.map encApi_Range c0)) Try.underlying26 rfl rfl (Ev.t 1 (.ep [.sl 2 (List.map encApi_Range c0)])) rfl) rfl ⟨rfl, trivial⟩ trivial ?_
  refine G.op1 (op_fieldP (off' := 0) Try.underlying32 rfl ti9 (by decide) rfl (Ev.t 2 (.ptr 1002 0)) rfl) rfl ⟨rfl, trivial⟩ trivial ?_
  refine G.op1 (op_load1P (c := bS v_0.Key) Try.underlying9 rfl rfl (Ev.t 5 (.ptr 1002 0)) rfl) rfl ⟨rfl, trivial⟩ ⟨rfl, trivial⟩ ?_
  obtain ⟨r1, hr1, hF⟩ := bindS hF
  refine G.op1 (op_callQ (sv := .one (bI .i64 r1)) cf44 (ct_keys_Find c0 v_0.Key r1 hr1) rfl rfl (EvQL.cons (EvQ.g (Ev.t 4 (.g (.d (.sl 2 (List.map encApi_Range c0)))))) (EvQL.cons (EvQ.g (Ev.t 6 (bS v_0.Key))) EvQL.nil)) rfl) rfl ⟨rfl, rfl, trivial⟩ trivial ?_
  refine G.op1 (op_lss (Ev.t 7 (bI .i64 r1)) (Ev.c _ rfl) rfl) rfl ⟨rfl, trivial⟩ trivial ?_
  refine G.op1 (op_assign (Ev.t 8 (bB (decide (r1 < 0)))) rfl) rfl ⟨rfl, trivial⟩ trivial ?_
  refine G.endOps ?_
  cases hF
  exact G.ret1 Try.results43 (RVar.tmp 3 _) ⟨rfl, trivial⟩ trivial


set_option maxRecDepth 20000 in
set_option maxHeartbeats 2000000 in
theorem ct_slices_IndexFunc_Version (s_0 : (List Api_Version)) (f_1 : (Api_Version → Option Bool)) (r : Int) (hF : slices_IndexFunc_Version s_0 f_1 = some r) : Ct Try.prog 53 [.g (.d (.sl 6 (List.map encApi_Version s_0))), .sem (sem1 (fun x => .agg (encApi_Version x)) (fun y => .bool y) f_1)] (.one (.d (.v (.int .i64 r)))) := by
  unfold slices_IndexFunc_Version at hF
  refine Ct.intro Try.func53 rfl Try.ntmps53 rfl rfl fun M w => ?_
  refine G.seq ?_
  refine G.region ?_
  refine G.op1 (op_assign (Ev.c _ rfl) rfl) rfl trivial trivial ?_
  refine G.endOps ?_
  refine G.seq ?_
  refine G.seq ?_
  refine G.region ?_
  refine G.op1 (op_move (Ev.t 0 (.g (.d (.sl 6 (List.map encApi_Version s_0))))) rfl) rfl ⟨rfl, trivial⟩ trivial ?_
  refine G.op1 (OpL.cast (op_lenD Try.underlying24 (Ev.t 6 (.g (.d (.sl 6 (List.map encApi_Version s_0))))) rfl) (by rw [List.length_map])) rfl ⟨rfl, trivial⟩ trivial ?_
  refine G.op1 (op_move (Ev.c _ rfl) rfl) rfl trivial trivial ?_
  refine G.endOps ?_
  refine G.joinC (T := Unit) (fun y1 => ⟨[], []⟩) (fun y1 => slices_IndexFunc_Version_k1 y1 = some r) (fun y1 hF => ?_) (fun J2 => ?_)
  · unfold slices_IndexFunc_Version_k1 at hF
    refine G.seq ?_
    refine G.region ?_
    refine G.op1 (op_assign (Ev.c _ rfl) rfl) rfl trivial trivial ?_
    refine G.endOps ?_
    cases hF
    exact G.ret1 Try.results53 (RVar.tmp 4 _) ⟨rfl, trivial⟩ trivial
  refine G.block ?_
  refine G.keep (sl' := [(0, .one (.g (.d (.sl 6 (List.map encApi_Version s_0))))), (1, .one (.sem (sem1 (fun x => .agg (encApi_Version x)) (fun y => .bool y) f_1))), (7, .one (bI .i64 (s_0.length : Int))), (8, .one (bI .i64 0))]) (hp' := []) ⟨rfl, rfl, rfl, rfl, trivial⟩ trivial rfl ?_
  refine G.loopF (fun (v3 : Int) => ⟨[(0, .one (.g (.d (.sl 6 (List.map encApi_Version s_0))))), (1, .one (.sem (sem1 (fun x => .agg (encApi_Version x)) (fun y => .bool y) f_1))), (7, .one (bI .i64 (s_0.length : Int))), (8, .one (bI .i64 v3))], []⟩) hF rfl (fun K6 again5 v3 J4 hF => ?_)
  unfold slices_IndexFunc_Version_l2 at hF
  refine G.seq ?_
  refine G.region ?_
  refine G.op1 (op_lss (Ev.t 8 (bI .i64 v3)) (Ev.t 7 (bI .i64 (s_0.length : Int))) rfl) rfl ⟨rfl, rfl, trivial⟩ trivial ?_
  refine G.endOps ?_
  refine G.seq ?_
  refine ifS hF (fun hc7 hF => ?_) (fun hc7 hF => ?_)
  · refine G.cond rfl (fun _ => ?_) (fun hx => by rw [hc7] at hx; cases hx)
    refine G.skip ?_
    refine G.seq ?_
    refine G.block ?_
    refine G.seq ?_
    refine G.region ?_
    refine G.op1 (op_move (Ev.t 8 (bI .i64 v3)) rfl) rfl ⟨rfl, trivial⟩ trivial ?_
    refine G.op1 (op_assign (Ev.t 10 (bI .i64 v3)) rfl) rfl ⟨rfl, trivial⟩ trivial ?_
    refine G.endOps ?_
    refine G.seq ?_
    refine G.region ?_
    refine G.op1 (op_move (Ev.t 1 (.sem (sem1 (fun x => .agg (encApi_Version x)) (fun y => .bool y) f_1))) rfl) rfl ⟨rfl, trivial⟩ trivial ?_
    refine G.op1 (op_move (Ev.t 0 (.g (.d (.sl 6 (List.map encApi_Version s_0))))) rfl) rfl ⟨rfl, trivial⟩ trivial ?_
    refine G.op1 (op_move (Ev.t 5 (bI .i64 v3)) rfl) rfl ⟨rfl, trivial⟩ trivial ?_
    obtain ⟨x8, hx8, hF⟩ := bindS hF
    refine G.op1 (op_index (cs := [.v (.string x8.Key), .v (.string x8.Value), .v (.bool x8.Gone), .v (.int .i64 x8.Stamp.N), .v (.int .i64 x8.Stamp.Site), .sl 3 (List.map encApi_Dep x8.Past)]) Try.underlying24 ti32 (idx_ok hx8).1 (idx_get hx8 encApi_Version) (Ev.t 12 (.g (.d (.sl 6 (List.map encApi_Version s_0))))) (Ev.t 13 (bI .i64 v3)) rfl) rfl ⟨rfl, rfl, trivial⟩ trivial ?_
    refine G.op1 (op_loadAE (ds := [.v (.string x8.Key), .v (.string x8.Value), .v (.bool x8.Gone), .v (.int .i64 x8.Stamp.N), .v (.int .i64 x8.Stamp.Site), .sl 3 (List.map encApi_Dep x8.Past)]) Try.underlying32 rfl ti32 rfl (Ev.t 14 (.ep [.v (.string x8.Key), .v (.string x8.Value), .v (.bool x8.Gone), .v (.int .i64 x8.Stamp.N), .v (.int .i64 x8.Stamp.Site), .sl 3 (List.map encApi_Dep x8.Past)])) rfl) rfl ⟨rfl, trivial⟩ trivial ?_
    obtain ⟨r9, hr9, hF⟩ := bindS hF
    refine G.op1 (op_callSem (t := 11) (v := .bool r9) (Φ := sem1 (fun x => .agg (encApi_Version x)) (fun y => .bool y) f_1) ⟨x8, r9, rfl, hr9, rfl⟩ rfl (EvL.cons (Ev.t 15 (.g (.agg [.v (.string x8.Key), .v (.string x8.Value), .v (.bool x8.Gone), .v (.int .i64 x8.Stamp.N), .v (.int .i64 x8.Stamp.Site), .sl 3 (List.map encApi_Dep x8.Past)]))) EvL.nil) rfl) rfl ⟨rfl, rfl, trivial⟩ trivial ?_
    refine G.endOps ?_
    refine ifS hF (fun hc10 hF => ?_) (fun hc10 hF => ?_)
    · refine G.cond rfl (fun _ => ?_) (fun hx => by rw [hc10] at hx; cases hx)
      refine G.seq ?_
      refine G.region ?_
      refine G.op1 (op_move (Ev.t 5 (bI .i64 v3)) rfl) rfl ⟨rfl, trivial⟩ trivial ?_
      refine G.op1 (op_assign (Ev.t 17 (bI .i64 v3)) rfl) rfl ⟨rfl, trivial⟩ trivial ?_
      refine G.endOps ?_
      cases hF
      exact G.ret1 Try.results53 (RVar.tmp 4 _) ⟨rfl, trivial⟩ trivial
    · refine G.cond rfl (fun hx => by rw [hc10] at hx; cases hx) (fun _ => ?_)
      refine G.skip ?_
      refine G.endBlock ?_
      refine G.region ?_
      refine G.op1 (op_add (Ev.t 8 (bI .i64 v3)) (Ev.c _ rfl) rfl) rfl ⟨rfl, trivial⟩ trivial ?_
      refine G.op1 (op_move (Ev.t 18 (bI .i64 (IntKind.wrap .i64 (v3 + 1)))) rfl) rfl ⟨rfl, trivial⟩ trivial ?_
      refine G.endOps ?_
      exact G.arr (J4 (IntKind.wrap .i64 (v3 + 1)) hF) ⟨rfl, rfl, rfl, rfl, trivial⟩ trivial rfl
  · refine G.cond rfl (fun hx => by rw [hc7] at hx; cases hx) (fun _ => ?_)
    refine G.exit ?_
    refine GX.c ?_
    refine GX.q ?_
    refine GX.bYes ?_
    exact G.arr (J2 () hF) trivial trivial rfl


set_option maxRecDepth 20000 in
set_option maxHeartbeats 2000000 in
theorem ct_slices_DeleteFunc_Version (s_0 : (List Api_Version)) (del_1 : (Api_Version → Option Bool)) (r : (List Api_Version)) (hF : slices_DeleteFunc_Version s_0 del_1 = some r) : Ct Try.prog 41 [.row 32 6 (List.map encApi_Version s_0), .sem (sem1 (fun x => .agg (encApi_Version x)) (fun y => .bool y) del_1)] (.new 32 6 (List.map encApi_Version r)) := by
  unfold slices_DeleteFunc_Version at hF
  refine Ct.introRow Try.func41 rfl Try.ntmps41 rfl fun M K w => ?_
  refine G.seq ?_
  refine G.region ?_
  refine G.op1 (op_assign (c := .x (.slice none 0 0)) (Ev.x _) rfl) rfl trivial trivial ?_
  refine G.endOps ?_
  refine G.seq ?_
  refine G.region ?_
  refine G.op1 (op_move (Ev.t 0 (.own 0 (List.map encApi_Version s_0))) rfl) rfl ⟨rfl, trivial⟩ trivial ?_
  refine G.op1 (op_move (Ev.t 1 (.sem (sem1 (fun x => .agg (encApi_Version x)) (fun y => .bool y) del_1))) rfl) rfl ⟨rfl, trivial⟩ trivial ?_
  obtain ⟨r1, hr1, hF⟩ := bindS hF
  refine G.op1 (op_callQ (sv := .one (bI .i64 r1)) cf53 (ct_slices_IndexFunc_Version s_0 del_1 r1 hr1) rfl rfl (EvQL.cons (EvQ.own (Ev.t 8 (.own 0 (List.map encApi_Version s_0)))) (EvQL.cons (EvQ.sem (Ev.t 9 (.sem (sem1 (fun x => .agg (encApi_Version x)) (fun y => .bool y) del_1)))) EvQL.nil)) rfl) rfl ⟨rfl, rfl, trivial⟩ ⟨rfl, trivial⟩ ?_
  refine G.op1 (op_assign (Ev.t 10 (bI .i64 r1)) rfl) rfl ⟨rfl, trivial⟩ trivial ?_
  refine G.endOps ?_
  refine G.seq ?_
  refine G.seq ?_
  refine G.region ?_
  refine G.op1 (op_move (Ev.t 5 (bI .i64 r1)) rfl) rfl ⟨rfl, trivial⟩ trivial ?_
  refine G.op1 (op_eqI (Ev.t 11 (bI .i64 r1)) (Ev.c _ rfl) rfl) rfl ⟨rfl, trivial⟩ trivial ?_
  refine G.endOps ?_
  refine ifS hF (fun hc2 hF => ?_) (fun hc2 hF => ?_)
  · refine G.cond rfl (fun _ => ?_) (fun hx => by rw [hc2] at hx; cases hx)
    refine G.seq ?_
    refine G.region ?_
    refine G.op1 (op_move (Ev.t 0 (.own 0 (List.map encApi_Version s_0))) rfl) rfl ⟨rfl, trivial⟩ trivial ?_
    refine G.op1 (op_assign (Ev.t 13 (.own 0 (List.map encApi_Version s_0))) rfl) rfl ⟨rfl, trivial⟩ trivial ?_
    refine G.endOps ?_
    cases hF
    exact G.retNew Try.results41 rfl rfl
  · refine G.cond rfl (fun hx => by rw [hc2] at hx; cases hx) (fun _ => ?_)
    refine G.skip ?_
    refine G.seq ?_
    refine G.seq ?_
    refine G.region ?_
    refine G.op1 (op_move (Ev.t 5 (bI .i64 r1)) rfl) rfl ⟨rfl, trivial⟩ trivial ?_
    refine G.op1 (op_add (Ev.t 14 (bI .i64 r1)) (Ev.c _ rfl) rfl) rfl ⟨rfl, trivial⟩ trivial ?_
    refine G.op1 (op_assign (Ev.t 15 (bI .i64 (IntKind.wrap .i64 (r1 + 1)))) rfl) rfl ⟨rfl, trivial⟩ trivial ?_
    refine G.endOps ?_
    refine G.joinC (T := Int × (List Api_Version)) (fun y3 => ⟨[(0, .one (.own 0 (List.map encApi_Version y3.2))), (5, .one (bI .i64 y3.1))], [(0, some (.row 32 6 (List.map encApi_Version y3.2) true))]⟩) (fun y3 => slices_DeleteFunc_Version_k1 y3 = some r) (fun y3 hF => ?_) (fun J6 => ?_)
    · unfold slices_DeleteFunc_Version_k1 at hF
      refine G.seq ?_
      refine G.region ?_
      refine G.op1 (op_move (Ev.t 0 (.own 0 (List.map encApi_Version y3.2))) rfl) rfl ⟨rfl, trivial⟩ trivial ?_
      refine G.op1 (op_move (Ev.t 5 (bI .i64 y3.1)) rfl) rfl ⟨rfl, trivial⟩ trivial ?_
      obtain ⟨l4, hl4, hF⟩ := bindS hF
      refine G.clearRow (zs := [.v (.string ByteArray.empty), .v (.string ByteArray.empty), .v (.bool false), .v (.int .i64 0), .v (.int .i64 0), .sl 3 (List.map encApi_Dep ([] : (List Api_Dep)))]) Try.underlying24 ti32 ⟨.v _ rfl, .v _ rfl, .v _ rfl, .v _ rfl, .v _ rfl, .n 3, trivial⟩ rfl (zeroes_ok hl4 encApi_Version).1 (zeroes_ok hl4 encApi_Version).2.1 (zeroes_ok hl4 encApi_Version).2.2 (Ev.t 36 (.own 0 (List.map encApi_Version y3.2))) (Ev.t 37 (bI .i64 y3.1)) rfl ⟨rfl, rfl, trivial⟩ rfl ?_
      refine G.renew (t := 0) rfl rfl (zeroes_len hl4 encApi_Version) ?_
      refine G.renew (t := 36) rfl rfl (zeroes_len hl4 encApi_Version) ?_
      refine G.endOps ?_
      refine G.seq ?_
      refine G.region ?_
      refine G.op1 (op_move (Ev.t 0 (.own 0 (List.map encApi_Version l4))) rfl) rfl ⟨rfl, trivial⟩ trivial ?_
      refine G.op1 (op_move (Ev.t 5 (bI .i64 y3.1)) rfl) rfl ⟨rfl, trivial⟩ trivial ?_
      obtain ⟨l5, hl5, hF⟩ := bindS hF
      refine G.cutRow (sl' := [(5, .one (bI .i64 y3.1)), (37, .one (bI .i64 y3.1)), (40, .one (bI .i64 y3.1))]) Try.underlying24 ti32 (sub_ok0 hl5 encApi_Version).1 (sub_ok0 hl5 encApi_Version).2.1 (sub_ok0 hl5 encApi_Version).2.2 (Ev.t 39 (.own 0 (List.map encApi_Version l4))) (Ev.t 40 (bI .i64 y3.1)) rfl ⟨rfl, rfl, trivial⟩ rfl ⟨rfl, rfl, rfl, trivial⟩ rfl ?_
      refine G.op1 (op_assign (Ev.t 41 (.own 0 (List.map encApi_Version l5))) rfl) rfl ⟨rfl, trivial⟩ trivial ?_
      refine G.endOps ?_
      cases hF
      exact G.retNew Try.results41 rfl rfl
    refine G.block ?_
    refine G.keep (sl' := [(0, .one (.own 0 (List.map encApi_Version s_0))), (1, .one (.sem (sem1 (fun x => .agg (encApi_Version x)) (fun y => .bool y) del_1))), (5, .one (bI .i64 r1)), (6, .one (bI .i64 (IntKind.wrap .i64 (r1 + 1))))]) (hp' := [(0, some (.row 32 6 (List.map encApi_Version s_0) true))]) ⟨rfl, rfl, rfl, rfl, trivial⟩ ⟨rfl, trivial⟩ rfl ?_
    refine G.loopF (fun (v7 : Int × Int × (List Api_Version)) => ⟨[(0, .one (.own 0 (List.map encApi_Version v7.2.2))), (1, .one (.sem (sem1 (fun x => .agg (encApi_Version x)) (fun y => .bool y) del_1))), (5, .one (bI .i64 v7.1)), (6, .one (bI .i64 v7.2.1))], [(0, some (.row 32 6 (List.map encApi_Version v7.2.2) true))]⟩) hF rfl (fun K10 again9 v7 J8 hF => ?_)
    unfold slices_DeleteFunc_Version_l2 at hF
    refine G.seq ?_
    refine G.seq ?_
    refine G.region ?_
    refine G.op1 (op_move (Ev.t 6 (bI .i64 v7.2.1)) rfl) rfl ⟨rfl, trivial⟩ trivial ?_
    refine G.op1 (op_move (Ev.t 0 (.own 0 (List.map encApi_Version v7.2.2))) rfl) rfl ⟨rfl, trivial⟩ trivial ?_
    refine G.op1 (OpL.cast (op_lenO Try.underlying24 (Ev.t 17 (.own 0 (List.map encApi_Version v7.2.2))) rfl) (by rw [List.length_map])) rfl ⟨rfl, trivial⟩ ⟨rfl, trivial⟩ ?_
    refine G.op1 (op_lss (Ev.t 16 (bI .i64 v7.2.1)) (Ev.t 18 (bI .i64 (v7.2.2.length : Int))) rfl) rfl ⟨rfl, rfl, trivial⟩ trivial ?_
    refine G.endOps ?_
    refine ifS hF (fun hc11 hF => ?_) (fun hc11 hF => ?_)
    · refine G.cond rfl (fun _ => ?_) (fun hx => by rw [hc11] at hx; cases hx)
      refine G.skip ?_
      refine G.seq ?_
      refine G.block ?_
      refine G.seq ?_
      refine G.region ?_
      refine G.op1 (op_move (Ev.t 0 (.own 0 (List.map encApi_Version v7.2.2))) rfl) rfl ⟨rfl, trivial⟩ trivial ?_
      refine G.op1 (op_move (Ev.t 6 (bI .i64 v7.2.1)) rfl) rfl ⟨rfl, trivial⟩ trivial ?_
      obtain ⟨x12, hx12, hF⟩ := bindS hF
      refine G.loadRow (cs := [.v (.string x12.Key), .v (.string x12.Value), .v (.bool x12.Gone), .v (.int .i64 x12.Stamp.N), .v (.int .i64 x12.Stamp.Site), .sl 3 (List.map encApi_Dep x12.Past)]) Try.underlying24 Try.underlying32 rfl ti32 (idx_ok hx12).1 (idx_get hx12 encApi_Version) (Ev.t 22 (.own 0 (List.map encApi_Version v7.2.2))) (Ev.t 23 (bI .i64 v7.2.1)) rfl rfl ⟨rfl, rfl, trivial⟩ rfl ?_
      refine G.op2 (op_alloc (k := 1007) (cs := [bS ByteArray.empty, bS ByteArray.empty, bB false, bI .i64 0, bI .i64 0, .g (.d (.sl 3 (List.map encApi_Dep ([] : (List Api_Dep)))))]) ti32 ⟨.v _ rfl, .v _ rfl, .v _ rfl, .v _ rfl, .v _ rfl, .n 3, trivial⟩ rfl) rfl trivial ⟨rfl, trivial⟩ ?_
      refine G.op3 (op_storeA (cs' := [bS x12.Key, bS x12.Value, bB x12.Gone, bI .i64 x12.Stamp.N, bI .i64 x12.Stamp.Site, .g (.d (.sl 3 (List.map encApi_Dep x12.Past)))]) ti32 rfl rfl (Ev.t 7 (.ptr 1007 0)) (Ev.t 25 (.g (.agg [.v (.string x12.Key), .v (.string x12.Value), .v (.bool x12.Gone), .v (.int .i64 x12.Stamp.N), .v (.int .i64 x12.Stamp.Site), .sl 3 (List.map encApi_Dep x12.Past)])))) rfl ⟨rfl, rfl, trivial⟩ ⟨rfl, trivial⟩ ?_
      refine G.endOps ?_
      refine G.seq ?_
      refine G.region ?_
      refine G.op1 (op_move (Ev.t 1 (.sem (sem1 (fun x => .agg (encApi_Version x)) (fun y => .bool y) del_1))) rfl) rfl ⟨rfl, trivial⟩ trivial ?_
      refine G.op1 (op_loadAP (ds := [.v (.string x12.Key), .v (.string x12.Value), .v (.bool x12.Gone), .v (.int .i64 x12.Stamp.N), .v (.int .i64 x12.Stamp.Site), .sl 3 (List.map encApi_Dep x12.Past)]) Try.underlying32 rfl ti32 rfl (Ev.t 7 (.ptr 1007 0)) rfl) rfl ⟨rfl, trivial⟩ ⟨rfl, trivial⟩ ?_
      obtain ⟨r13, hr13, hF⟩ := bindS hF
      refine G.op1 (op_callSem (t := 26) (v := .bool r13) (Φ := sem1 (fun x => .agg (encApi_Version x)) (fun y => .bool y) del_1) ⟨x12, r13, rfl, hr13, rfl⟩ rfl (EvL.cons (Ev.t 27 (.g (.agg [.v (.string x12.Key), .v (.string x12.Value), .v (.bool x12.Gone), .v (.int .i64 x12.Stamp.N), .v (.int .i64 x12.Stamp.Site), .sl 3 (List.map encApi_Dep x12.Past)]))) EvL.nil) rfl) rfl ⟨rfl, rfl, trivial⟩ trivial ?_
      refine G.op1 (op_not (Ev.t 28 (bB r13)) rfl) rfl ⟨rfl, trivial⟩ trivial ?_
      refine G.endOps ?_
      refine ifS hF (fun hc14 hF => ?_) (fun hc14 hF => ?_)
      · refine G.cond rfl (fun _ => ?_) (fun hx => by rw [hc14] at hx; cases hx)
        refine G.seq ?_
        refine G.region ?_
        refine G.op1 (op_move (Ev.t 0 (.own 0 (List.map encApi_Version v7.2.2))) rfl) rfl ⟨rfl, trivial⟩ trivial ?_
        refine G.op1 (op_move (Ev.t 5 (bI .i64 v7.1)) rfl) rfl ⟨rfl, trivial⟩ trivial ?_
        refine G.op1 (op_loadAP (ds := [.v (.string x12.Key), .v (.string x12.Value), .v (.bool x12.Gone), .v (.int .i64 x12.Stamp.N), .v (.int .i64 x12.Stamp.Site), .sl 3 (List.map encApi_Dep x12.Past)]) Try.underlying32 rfl ti32 rfl (Ev.t 7 (.ptr 1007 0)) rfl) rfl ⟨rfl, trivial⟩ ⟨rfl, trivial⟩ ?_
        obtain ⟨l15, hl15, hF⟩ := bindS hF
        refine G.storeRow Try.underlying24 ti32 rfl (sets_ok hl15 encApi_Version).1 (sets_ok hl15 encApi_Version).2.1 (sets_ok hl15 encApi_Version).2.2 (Ev.t 30 (.own 0 (List.map encApi_Version v7.2.2))) (Ev.t 31 (bI .i64 v7.1)) (Ev.t 32 (.g (.agg [.v (.string x12.Key), .v (.string x12.Value), .v (.bool x12.Gone), .v (.int .i64 x12.Stamp.N), .v (.int .i64 x12.Stamp.Site), .sl 3 (List.map encApi_Dep x12.Past)]))) (by simp) rfl ⟨rfl, rfl, rfl, trivial⟩ rfl ?_
        refine G.renew (t := 0) rfl rfl (sets_len hl15 encApi_Version) ?_
        refine G.renew (t := 17) rfl rfl (sets_len hl15 encApi_Version) ?_
        refine G.renew (t := 22) rfl rfl (sets_len hl15 encApi_Version) ?_
        refine G.renew (t := 30) rfl rfl (sets_len hl15 encApi_Version) ?_
        refine G.endOps ?_
        refine G.region ?_
        refine G.op1 (op_move (Ev.t 5 (bI .i64 v7.1)) rfl) rfl ⟨rfl, trivial⟩ trivial ?_
        refine G.op1 (op_add (Ev.t 34 (bI .i64 v7.1)) (Ev.c _ rfl) rfl) rfl ⟨rfl, trivial⟩ trivial ?_
        refine G.op1 (op_assign (Ev.t 35 (bI .i64 (IntKind.wrap .i64 (v7.1 + 1)))) rfl) rfl ⟨rfl, trivial⟩ trivial ?_
        refine G.endOps ?_
        refine G.endBlock ?_
        refine G.region ?_
        refine G.op1 (op_move (Ev.t 6 (bI .i64 v7.2.1)) rfl) rfl ⟨rfl, trivial⟩ trivial ?_
        refine G.op1 (op_add (Ev.t 20 (bI .i64 v7.2.1)) (Ev.c _ rfl) rfl) rfl ⟨rfl, trivial⟩ trivial ?_
        refine G.op1 (op_assign (Ev.t 21 (bI .i64 (IntKind.wrap .i64 (v7.2.1 + 1)))) rfl) rfl ⟨rfl, trivial⟩ trivial ?_
        refine G.endOps ?_
        exact G.arr (J8 (IntKind.wrap .i64 (v7.1 + 1), IntKind.wrap .i64 (v7.2.1 + 1), l15) hF) ⟨rfl, rfl, rfl, rfl, trivial⟩ ⟨rfl, trivial⟩ rfl
      · refine G.cond rfl (fun hx => by rw [hc14] at hx; cases hx) (fun _ => ?_)
        refine G.skip ?_
        refine G.endBlock ?_
        refine G.region ?_
        refine G.op1 (op_move (Ev.t 6 (bI .i64 v7.2.1)) rfl) rfl ⟨rfl, trivial⟩ trivial ?_
        refine G.op1 (op_add (Ev.t 20 (bI .i64 v7.2.1)) (Ev.c _ rfl) rfl) rfl ⟨rfl, trivial⟩ trivial ?_
        refine G.op1 (op_assign (Ev.t 21 (bI .i64 (IntKind.wrap .i64 (v7.2.1 + 1)))) rfl) rfl ⟨rfl, trivial⟩ trivial ?_
        refine G.endOps ?_
        exact G.arr (J8 (v7.1, IntKind.wrap .i64 (v7.2.1 + 1), v7.2.2) hF) ⟨rfl, rfl, rfl, rfl, trivial⟩ ⟨rfl, trivial⟩ rfl
    · refine G.cond rfl (fun hx => by rw [hc11] at hx; cases hx) (fun _ => ?_)
      refine G.exit ?_
      refine GX.c ?_
      refine GX.q ?_
      refine GX.bYes ?_
      exact G.arr (J6 (v7.1, v7.2.2) hF) ⟨rfl, rfl, trivial⟩ ⟨rfl, trivial⟩ rfl


set_option maxRecDepth 20000 in
set_option maxHeartbeats 2000000 in
theorem ct_queue_Drop (l_0 : (List Api_Version)) (own_1 : (List Api_Range)) (r : (List Api_Version)) (hF : queue_Drop l_0 own_1 = some r) : Ct Try.prog 21 [.g (.d (.sl 6 (List.map encApi_Version l_0))), .g (.d (.sl 2 (List.map encApi_Range own_1)))] (.one (.d (.sl 6 (List.map encApi_Version r)))) := by
  unfold queue_Drop at hF
  refine Ct.intro Try.func21 rfl Try.ntmps21 rfl rfl fun M w => ?_
  refine G.seq ?_
  refine G.region ?_
  refine G.op2 (op_box1 (k := 1003) (c := .g (.d (.sl 2 (List.map encApi_Range own_1)))) trivial (Ev.t 1 (.g (.d (.sl 2 (List.map encApi_Range own_1))))) rfl) rfl ⟨rfl, trivial⟩ ⟨rfl, trivial⟩ ?_
  refine G.op1 (op_assign (Ev.n 6) rfl) rfl trivial trivial ?_
  refine G.endOps ?_
  refine G.seq ?_
  refine G.region ?_
  refine G.op1 (op_move (Ev.t 0 (.g (.d (.sl 6 (List.map encApi_Version l_0))))) rfl) rfl ⟨rfl, trivial⟩ trivial ?_
  obtain ⟨r1, hr1, hF⟩ := bindS hF
  refine G.op2 (op_callNew (k := 2006) cf42 (ct_slices_Clone_Version l_0 r1 hr1) (EvL.cons (Ev.t 5 (.g (.d (.sl 6 (List.map encApi_Version l_0))))) EvL.nil) rfl) rfl ⟨rfl, trivial⟩ ⟨rfl, trivial⟩ ?_
  refine G.op1 (op_makeFunc1 (Ev.t 3 (.ptr 1003 0)) rfl) rfl ⟨rfl, trivial⟩ trivial ?_
  obtain ⟨r2, hr2, hF⟩ := bindS hF
  refine G.callRow (sl' := [(0, .one (.g (.d (.sl 6 (List.map encApi_Version l_0))))), (1, .one (.g (.d (.sl 2 (List.map encApi_Range own_1))))), (3, .one (.ptr 1003 0)), (4, .one (.g (.d (.sl 6 (List.map encApi_Version ([] : (List Api_Version))))))), (5, .one (.g (.d (.sl 6 (List.map encApi_Version l_0))))), (7, .one (.clo 43 [1003]))]) cf41 (ct_slices_DeleteFunc_Version r1 (fun x0 => queue_Drop_1 x0 own_1) r2 hr2) (Ev.t 6 (.own 2006 (List.map encApi_Version r1))) (EvX.clo (Φ := sem1 (fun x => .agg (encApi_Version x)) (fun y => .bool y) (fun x0 => queue_Drop_1 x0 own_1)) (Ev.t 7 (.clo 43 [1003])) (EvC.cons rfl EvC.nil) cf43 (fun args v ⟨x0, b, h1, h2, h3⟩ => by subst h1 h3; exact ct_queue_Drop_1 x0 own_1 b h2) EvX.nil) rfl ⟨rfl, rfl, trivial⟩ ⟨rfl, rfl, trivial⟩ ⟨rfl, rfl, rfl, rfl, rfl, rfl, trivial⟩ rfl ?_
  refine G.op1 (op_assign (Ev.t 8 (.own 2006 (List.map encApi_Version r2))) rfl) rfl ⟨rfl, trivial⟩ trivial ?_
  refine G.endOps ?_
  refine G.share (k' := 2006) rfl ?_
  refine G.view (t := 4) rfl rfl ?_
  cases hF
  exact G.ret1 Try.results21 (RVar.tmp 4 _) ⟨rfl, trivial⟩ trivial


set_option maxRecDepth 20000 in
set_option maxHeartbeats 2000000 in
theorem ct_ref14_Drop (l_0 : (List Api_Version)) (own_1 : (List Api_Range)) (r : (List Api_Version)) (hF : ref14_Drop l_0 own_1 = some r) : Ct Try.prog 31 [.g (.d (.sl 6 (List.map encApi_Version l_0))), .g (.d (.sl 2 (List.map encApi_Range own_1)))] (.one (.d (.sl 6 (List.map encApi_Version r)))) := by
  unfold ref14_Drop at hF
  refine Ct.intro Try.func31 rfl Try.ntmps31 rfl rfl fun M w => ?_
  refine G.seq ?_
  refine G.region ?_
  refine G.op1 (op_assign (Ev.n 6) rfl) rfl trivial trivial ?_
  refine G.endOps ?_
  refine G.seq ?_
  refine G.region ?_
  refine G.op2 (op_assignRow (E := 32) (size := 6) (k := 2005) (ex := false) rfl rfl) rfl trivial ⟨rfl, trivial⟩ ?_
  refine G.endOps ?_
  refine G.seq ?_
  refine G.seq ?_
  refine G.region ?_
  refine G.op1 (op_assign (Ev.c _ rfl) rfl) rfl trivial trivial ?_
  refine G.endOps ?_
  refine G.joinC (T := (List Api_Version)) (fun y1 => ⟨[(5, .one (.own 2005 (List.map encApi_Version y1)))], [(2005, some (.row 32 6 (List.map encApi_Version y1) false))]⟩) (fun y1 => ref14_Drop_k1 y1 = some r) (fun y1 hF => ?_) (fun J2 => ?_)
  · unfold ref14_Drop_k1 at hF
    refine G.seq ?_
    refine G.region ?_
    refine G.op1 (op_move (Ev.t 5 (.own 2005 (List.map encApi_Version y1))) rfl) rfl ⟨rfl, trivial⟩ trivial ?_
    refine G.op1 (op_assign (Ev.t 28 (.own 2005 (List.map encApi_Version y1))) rfl) rfl ⟨rfl, trivial⟩ trivial ?_
    refine G.endOps ?_
    refine G.view (t := 4) rfl rfl ?_
    cases hF
    exact G.ret1 Try.results31 (RVar.tmp 4 _) ⟨rfl, trivial⟩ trivial
  refine G.block ?_
  refine G.keep (sl' := [(0, .one (.g (.d (.sl 6 (List.map encApi_Version l_0))))), (1, .one (.g (.d (.sl 2 (List.map encApi_Range own_1))))), (5, .one (.own 2005 (List.map encApi_Version ([] : (List Api_Version))))), (6, .one (bI .i64 0))]) (hp' := [(2005, some (.row 32 6 (List.map encApi_Version ([] : (List Api_Version))) false))]) ⟨rfl, rfl, rfl, rfl, trivial⟩ ⟨rfl, trivial⟩ rfl ?_
  refine G.loopF (fun (v3 : Int × (List Api_Version)) => ⟨[(0, .one (.g (.d (.sl 6 (List.map encApi_Version l_0))))), (1, .one (.g (.d (.sl 2 (List.map encApi_Range own_1))))), (5, .one (.own 2005 (List.map encApi_Version v3.2))), (6, .one (bI .i64 v3.1))], [(2005, some (.row 32 6 (List.map encApi_Version v3.2) false))]⟩) hF rfl (fun K6 again5 v3 J4 hF => ?_)
  unfold ref14_Drop_l2 at hF
  refine G.seq ?_
  refine G.seq ?_
  refine G.region ?_
  refine G.op1 (op_move (Ev.t 6 (bI .i64 v3.1)) rfl) rfl ⟨rfl, trivial⟩ trivial ?_
  refine G.op1 (op_move (Ev.t 0 (.g (.d (.sl 6 (List.map encApi_Version l_0))))) rfl) rfl ⟨rfl, trivial⟩ trivial ?_
  refine G.op1 (OpL.cast (op_lenD Try.underlying24 (Ev.t 8 (.g (.d (.sl 6 (List.map encApi_Version l_0))))) rfl) (by rw [List.length_map])) rfl ⟨rfl, trivial⟩ trivial ?_
  refine G.op1 (op_lss (Ev.t 7 (bI .i64 v3.1)) (Ev.t 9 (bI .i64 (l_0.length : Int))) rfl) rfl ⟨rfl, rfl, trivial⟩ trivial ?_
  refine G.endOps ?_
  refine ifS hF (fun hc7 hF => ?_) (fun hc7 hF => ?_)
  · refine G.cond rfl (fun _ => ?_) (fun hx => by rw [hc7] at hx; cases hx)
    refine G.skip ?_
    refine G.seq ?_
    refine G.block ?_
    refine G.seq ?_
    refine G.region ?_
    refine G.op1 (op_move (Ev.t 1 (.g (.d (.sl 2 (List.map encApi_Range own_1))))) rfl) rfl ⟨rfl, trivial⟩ trivial ?_
    refine G.op1 (op_move (Ev.t 0 (.g (.d (.sl 6 (List.map encApi_Version l_0))))) rfl) rfl ⟨rfl, trivial⟩ trivial ?_
    refine G.op1 (op_move (Ev.t 6 (bI .i64 v3.1)) rfl) rfl ⟨rfl, trivial⟩ trivial ?_
    obtain ⟨x8, hx8, hF⟩ := bindS hF
    refine G.op1 (op_index (cs := [.v (.string x8.Key), .v (.string x8.Value), .v (.bool x8.Gone), .v (.int .i64 x8.Stamp.N), .v (.int .i64 x8.Stamp.Site), .sl 3 (List.map encApi_Dep x8.Past)]) Try.underlying24 ti32 (idx_ok hx8).1 (idx_get hx8 encApi_Version) (Ev.t 14 (.g (.d (.sl 6 (List.map encApi_Version l_0))))) (Ev.t 15 (bI .i64 v3.1)) rfl) rfl ⟨rfl, rfl, trivial⟩ trivial ?_
    refine G.op1 (op_fieldE (cs' := [.v (.string x8.Key), .v (.string x8.Value), .v (.bool x8.Gone), .v (.int .i64 x8.Stamp.N), .v (.int .i64 x8.Stamp.Site), .sl 3 (List.map encApi_Dep x8.Past)]) Try.underlying32 rfl ti9 (by decide) rfl (Ev.t 16 (.ep [.v (.string x8.Key), .v (.string x8.Value), .v (.bool x8.Gone), .v (.int .i64 x8.Stamp.N), .v (.int .i64 x8.Stamp.Site), .sl 3 (List.map encApi_Dep x8.Past)])) rfl) rfl ⟨rfl, trivial⟩ trivial ?_
    refine G.op1 (op_load1E (c := .v (.string x8.Key)) Try.underlying9 rfl rfl (Ev.t 17 (.ep [.v (.string x8.Key), .v (.string x8.Value), .v (.bool x8.Gone), .v (.int .i64 x8.Stamp.N), .v (.int .i64 x8.Stamp.Site), .sl 3 (List.map encApi_Dep x8.Past)])) rfl) rfl ⟨rfl, trivial⟩ trivial ?_
    obtain ⟨r9, hr9, hF⟩ := bindS hF
    refine G.op1 (op_callQ (sv := .one (bI .i64 r9)) cf33 (ct_ref02_Find own_1 x8.Key r9 hr9) rfl rfl (EvQL.cons (EvQ.g (Ev.t 13 (.g (.d (.sl 2 (List.map encApi_Range own_1)))))) (EvQL.cons (EvQ.g (Ev.t 18 (bS x8.Key))) EvQL.nil)) rfl) rfl ⟨rfl, rfl, trivial⟩ trivial ?_
    refine G.op1 (op_geq (Ev.t 19 (bI .i64 r9)) (Ev.c _ rfl) rfl) rfl ⟨rfl, trivial⟩ trivial ?_
    refine G.endOps ?_
    refine ifS hF (fun hc10 hF => ?_) (fun hc10 hF => ?_)
    · refine G.cond rfl (fun _ => ?_) (fun hx => by rw [hc10] at hx; cases hx)
      refine G.region ?_
      refine G.op1 (op_move (Ev.t 5 (.own 2005 (List.map encApi_Version v3.2))) rfl) rfl ⟨rfl, trivial⟩ trivial ?_
      refine G.op1 (op_move (Ev.t 0 (.g (.d (.sl 6 (List.map encApi_Version l_0))))) rfl) rfl ⟨rfl, trivial⟩ trivial ?_
      refine G.op1 (op_move (Ev.t 6 (bI .i64 v3.1)) rfl) rfl ⟨rfl, trivial⟩ trivial ?_
      obtain ⟨x11, hx11, hF⟩ := bindS hF
      refine G.op1 (op_index (cs := [.v (.string x11.Key), .v (.string x11.Value), .v (.bool x11.Gone), .v (.int .i64 x11.Stamp.N), .v (.int .i64 x11.Stamp.Site), .sl 3 (List.map encApi_Dep x11.Past)]) Try.underlying24 ti32 (idx_ok hx11).1 (idx_get hx11 encApi_Version) (Ev.t 22 (.g (.d (.sl 6 (List.map encApi_Version l_0))))) (Ev.t 23 (bI .i64 v3.1)) rfl) rfl ⟨rfl, rfl, trivial⟩ trivial ?_
      refine G.op1 (op_loadAE (ds := [.v (.string x11.Key), .v (.string x11.Value), .v (.bool x11.Gone), .v (.int .i64 x11.Stamp.N), .v (.int .i64 x11.Stamp.Site), .sl 3 (List.map encApi_Dep x11.Past)]) Try.underlying32 rfl ti32 rfl (Ev.t 24 (.ep [.v (.string x11.Key), .v (.string x11.Value), .v (.bool x11.Gone), .v (.int .i64 x11.Stamp.N), .v (.int .i64 x11.Stamp.Site), .sl 3 (List.map encApi_Dep x11.Past)])) rfl) rfl ⟨rfl, trivial⟩ trivial ?_
      refine G.op1 (op_buildSlice (es := List.map encApi_Version [x11]) Try.underlying24 ti32 rfl rfl (EvP.cons (Ev.t 25 (.g (.agg [.v (.string x11.Key), .v (.string x11.Value), .v (.bool x11.Gone), .v (.int .i64 x11.Stamp.N), .v (.int .i64 x11.Stamp.Site), .sl 3 (List.map encApi_Dep x11.Past)]))) EvP.nil) rfl rfl (by simp [encApi_Version]) rfl) rfl ⟨rfl, trivial⟩ trivial ?_
      obtain ⟨l12, hl12, hF⟩ := bindS hF
      refine G.op2 (op_appendO Try.underlying24 ti32 rfl (app_map hl12 encApi_Version) (app_b1 hl12 encApi_Version) (app_b2 hl12 encApi_Version) (Ev.t 21 (.own 2005 (List.map encApi_Version v3.2))) (Ev.t 26 (.g (.d (.sl 6 (List.map encApi_Version ([x11])))))) rfl) rfl ⟨rfl, rfl, trivial⟩ ⟨rfl, trivial⟩ ?_
      refine G.op1 (op_assign (Ev.t 27 (.own 2005 (List.map encApi_Version l12))) rfl) rfl ⟨rfl, trivial⟩ trivial ?_
      refine G.endOps ?_
      refine G.endBlock ?_
      refine G.region ?_
      refine G.op1 (op_move (Ev.t 6 (bI .i64 v3.1)) rfl) rfl ⟨rfl, trivial⟩ trivial ?_
      refine G.op1 (op_add (Ev.t 11 (bI .i64 v3.1)) (Ev.c _ rfl) rfl) rfl ⟨rfl, trivial⟩ trivial ?_
      refine G.op1 (op_assign (Ev.t 12 (bI .i64 (IntKind.wrap .i64 (v3.1 + 1)))) rfl) rfl ⟨rfl, trivial⟩ trivial ?_
      refine G.endOps ?_
      exact G.arr (J4 (IntKind.wrap .i64 (v3.1 + 1), l12) hF) ⟨rfl, rfl, rfl, rfl, trivial⟩ ⟨rfl, trivial⟩ rfl
    · refine G.cond rfl (fun hx => by rw [hc10] at hx; cases hx) (fun _ => ?_)
      refine G.skip ?_
      refine G.endBlock ?_
      refine G.region ?_
      refine G.op1 (op_move (Ev.t 6 (bI .i64 v3.1)) rfl) rfl ⟨rfl, trivial⟩ trivial ?_
      refine G.op1 (op_add (Ev.t 11 (bI .i64 v3.1)) (Ev.c _ rfl) rfl) rfl ⟨rfl, trivial⟩ trivial ?_
      refine G.op1 (op_assign (Ev.t 12 (bI .i64 (IntKind.wrap .i64 (v3.1 + 1)))) rfl) rfl ⟨rfl, trivial⟩ trivial ?_
      refine G.endOps ?_
      exact G.arr (J4 (IntKind.wrap .i64 (v3.1 + 1), v3.2) hF) ⟨rfl, rfl, rfl, rfl, trivial⟩ ⟨rfl, trivial⟩ rfl
  · refine G.cond rfl (fun hx => by rw [hc7] at hx; cases hx) (fun _ => ?_)
    refine G.exit ?_
    refine GX.c ?_
    refine GX.q ?_
    refine GX.bYes ?_
    exact G.arr (J2 v3.2 hF) ⟨rfl, trivial⟩ ⟨rfl, trivial⟩ rfl


set_option maxRecDepth 20000 in
set_option maxHeartbeats 2000000 in
theorem ct_law14_QueueTells (l_0 : (List Law14_Write)) (have_1 : (List Api_Dep)) (q_2 : Law14_Ask) (r : Bool) (hF : law14_QueueTells l_0 have_1 q_2 = some r) : Ct Try.prog 8 [.g (.d (.sl 3 (List.map encLaw14_Write l_0))), .g (.d (.sl 3 (List.map encApi_Dep have_1))), .g (.agg (encLaw14_Ask q_2))] (.one (.d (.v (.bool r)))) := by
  unfold law14_QueueTells at hF
  refine Ct.intro Try.func8 rfl Try.ntmps8 rfl rfl fun M w => ?_
  refine G.seq ?_
  refine G.region ?_
  refine G.op2 (op_boxA (k := 1005) (Ev.t 2 (.g (.agg [.v (.int .i64 q_2.Ranges), .v (.int .i64 q_2.More), .v (.string q_2.Version.Key), .v (.string q_2.Version.Value), .v (.bool q_2.Version.Gone), .v (.int .i64 q_2.Version.Stamp.N), .v (.int .i64 q_2.Version.Stamp.Site), .sl 3 (List.map encApi_Dep q_2.Version.Past)]))) rfl) rfl ⟨rfl, trivial⟩ ⟨rfl, trivial⟩ ?_
  refine G.op1 (op_assign (Ev.c _ rfl) rfl) rfl trivial trivial ?_
  refine G.endOps ?_
  refine G.seq ?_
  refine G.region ?_
  obtain ⟨r1, hr1, hF⟩ := bindS hF
  refine G.op1 (op_callQ (sv := .one (bB r1)) cf9 (ct_law14_awake r1 hr1) rfl rfl EvQL.nil rfl) rfl trivial trivial ?_
  refine G.op1 (op_assign (Ev.t 30 (bB r1)) rfl) rfl ⟨rfl, trivial⟩ trivial ?_
  refine G.endOps ?_
  refine G.seq ?_
  refine G.region ?_
  refine G.op1 (op_move (Ev.t 0 (.g (.d (.sl 3 (List.map encLaw14_Write l_0))))) rfl) rfl ⟨rfl, trivial⟩ trivial ?_
  obtain ⟨r2, hr2, hF⟩ := bindS hF
  refine G.op1 (op_call (sv := .one (.g (.d (.sl 6 (List.map encApi_Version r2))))) cf10 (ct_law14_made l_0 r2 hr2) rfl (EvL.cons (Ev.t 31 (.g (.d (.sl 3 (List.map encLaw14_Write l_0))))) EvL.nil) rfl) rfl ⟨rfl, trivial⟩ trivial ?_
  refine G.op1 (op_assign (Ev.t 32 (.g (.d (.sl 6 (List.map encApi_Version r2))))) rfl) rfl ⟨rfl, trivial⟩ trivial ?_
  refine G.endOps ?_
  refine G.seq ?_
  refine G.region ?_
  refine G.op1 (op_assign (Ev.n 3) rfl) rfl trivial trivial ?_
  refine G.endOps ?_
  refine G.seq ?_
  refine G.seq ?_
  refine G.region ?_
  refine G.op1 (op_assign (Ev.c _ rfl) rfl) rfl trivial trivial ?_
  refine G.endOps ?_
  refine G.joinC (T := (List Api_Dep)) (fun y3 => ⟨[(5, .one (.ptr 1005 0)), (7, .one (bB r1)), (8, .one (.g (.d (.sl 6 (List.map encApi_Version r2))))), (9, .one (.g (.d (.sl 3 (List.map encApi_Dep y3)))))], [(1005, some (.blk 64 [bI .i64 q_2.Ranges, bI .i64 q_2.More, bS q_2.Version.Key, bS q_2.Version.Value, bB q_2.Version.Gone, bI .i64 q_2.Version.Stamp.N, bI .i64 q_2.Version.Stamp.Site, .g (.d (.sl 3 (List.map encApi_Dep q_2.Version.Past)))]))]⟩) (fun y3 => law14_QueueTells_k1 q_2 r1 r2 y3 = some r) (fun y3 hF => ?_) (fun J64 => ?_)
  · unfold law14_QueueTells_k1 at hF
    refine G.seq ?_
    refine G.region ?_
    refine G.op1 (op_fieldP (off' := 0) Try.underlying64 rfl ti3 (by decide) rfl (Ev.t 5 (.ptr 1005 0)) rfl) rfl ⟨rfl, trivial⟩ trivial ?_
    refine G.op1 (op_load1P (c := bI .i64 q_2.Ranges) Try.underlying3 rfl rfl (Ev.t 58 (.ptr 1005 0)) rfl) rfl ⟨rfl, trivial⟩ ⟨rfl, trivial⟩ ?_
    obtain ⟨r4, hr4, hF⟩ := bindS hF
    refine G.op1 (op_call (sv := .one (.g (.d (.sl 2 (List.map encApi_Range r4))))) cf11 (ct_law14_ranges q_2.Ranges r4 hr4) rfl (EvL.cons (Ev.t 59 (bI .i64 q_2.Ranges)) EvL.nil) rfl) rfl ⟨rfl, trivial⟩ trivial ?_
    refine G.op1 (op_assign (Ev.t 60 (.g (.d (.sl 2 (List.map encApi_Range r4))))) rfl) rfl ⟨rfl, trivial⟩ trivial ?_
    refine G.endOps ?_
    refine G.seq ?_
    refine G.seq ?_
    refine G.region ?_
    refine G.op1 (op_assign (Ev.c _ rfl) rfl) rfl trivial trivial ?_
    refine G.endOps ?_
    refine G.joinC (T := Unit) (fun y5 => ⟨[(5, .one (.ptr 1005 0)), (7, .one (bB r1)), (8, .one (.g (.d (.sl 6 (List.map encApi_Version r2))))), (9, .one (.g (.d (.sl 3 (List.map encApi_Dep y3))))), (12, .one (.g (.d (.sl 2 (List.map encApi_Range r4)))))], [(1005, some (.blk 64 [bI .i64 q_2.Ranges, bI .i64 q_2.More, bS q_2.Version.Key, bS q_2.Version.Value, bB q_2.Version.Gone, bI .i64 q_2.Version.Stamp.N, bI .i64 q_2.Version.Stamp.Site, .g (.d (.sl 3 (List.map encApi_Dep q_2.Version.Past)))]))]⟩) (fun y5 => law14_QueueTells_k2 q_2 r1 r2 y3 r4 y5 = some r) (fun y5 hF => ?_) (fun J47 => ?_)
    · unfold law14_QueueTells_k2 at hF
      refine G.seq ?_
      refine G.region ?_
      refine G.op1 (op_move (Ev.t 8 (.g (.d (.sl 6 (List.map encApi_Version r2))))) rfl) rfl ⟨rfl, trivial⟩ trivial ?_
      refine G.op1 (op_move (Ev.t 9 (.g (.d (.sl 3 (List.map encApi_Dep y3))))) rfl) rfl ⟨rfl, trivial⟩ trivial ?_
      refine G.op1 (op_move (Ev.t 12 (.g (.d (.sl 2 (List.map encApi_Range r4))))) rfl) rfl ⟨rfl, trivial⟩ trivial ?_
      obtain ⟨r6, hr6, hF⟩ := bindS hF
      refine G.op1 (op_call (sv := .tup [.g (.agg [.v (.string r6.1.Key), .v (.string r6.1.Value), .v (.bool r6.1.Gone), .v (.int .i64 r6.1.Stamp.N), .v (.int .i64 r6.1.Stamp.Site), .sl 3 (List.map encApi_Dep r6.1.Past)]), .g (.d (.sl 6 (List.map encApi_Version r6.2.1))), bB r6.2.2]) cf12 (ct_queue_Next r2 y3 r4 r6 hr6) rfl (EvL.cons (Ev.t 102 (.g (.d (.sl 6 (List.map encApi_Version r2))))) (EvL.cons (Ev.t 103 (.g (.d (.sl 3 (List.map encApi_Dep y3))))) (EvL.cons (Ev.t 104 (.g (.d (.sl 2 (List.map encApi_Range r4))))) EvL.nil))) rfl) rfl ⟨rfl, rfl, rfl, trivial⟩ trivial ?_
      refine G.op1 (op_moveS (t := 105) (sv := .tup [.g (.agg [.v (.string r6.1.Key), .v (.string r6.1.Value), .v (.bool r6.1.Gone), .v (.int .i64 r6.1.Stamp.N), .v (.int .i64 r6.1.Stamp.Site), .sl 3 (List.map encApi_Dep r6.1.Past)]), .g (.d (.sl 6 (List.map encApi_Version r6.2.1))), bB r6.2.2]) rfl) rfl ⟨rfl, trivial⟩ trivial ?_
      refine G.op1 (op_extract (l := [.g (.agg [.v (.string r6.1.Key), .v (.string r6.1.Value), .v (.bool r6.1.Gone), .v (.int .i64 r6.1.Stamp.N), .v (.int .i64 r6.1.Stamp.Site), .sl 3 (List.map encApi_Dep r6.1.Past)]), .g (.d (.sl 6 (List.map encApi_Version r6.2.1))), bB r6.2.2]) (c := .g (.agg [.v (.string r6.1.Key), .v (.string r6.1.Value), .v (.bool r6.1.Gone), .v (.int .i64 r6.1.Stamp.N), .v (.int .i64 r6.1.Stamp.Site), .sl 3 (List.map encApi_Dep r6.1.Past)])) rfl rfl) rfl ⟨rfl, trivial⟩ trivial ?_
      refine G.op1 (op_extract (l := [.g (.agg [.v (.string r6.1.Key), .v (.string r6.1.Value), .v (.bool r6.1.Gone), .v (.int .i64 r6.1.Stamp.N), .v (.int .i64 r6.1.Stamp.Site), .sl 3 (List.map encApi_Dep r6.1.Past)]), .g (.d (.sl 6 (List.map encApi_Version r6.2.1))), bB r6.2.2]) (c := .g (.d (.sl 6 (List.map encApi_Version r6.2.1)))) rfl rfl) rfl ⟨rfl, trivial⟩ trivial ?_
      refine G.op1 (op_extract (l := [.g (.agg [.v (.string r6.1.Key), .v (.string r6.1.Value), .v (.bool r6.1.Gone), .v (.int .i64 r6.1.Stamp.N), .v (.int .i64 r6.1.Stamp.Site), .sl 3 (List.map encApi_Dep r6.1.Past)]), .g (.d (.sl 6 (List.map encApi_Version r6.2.1))), bB r6.2.2]) (c := bB r6.2.2) rfl rfl) rfl ⟨rfl, trivial⟩ trivial ?_
      refine G.op2 (op_alloc (k := 1015) (cs := [bS ByteArray.empty, bS ByteArray.empty, bB false, bI .i64 0, bI .i64 0, .g (.d (.sl 3 (List.map encApi_Dep ([] : (List Api_Dep)))))]) ti32 ⟨.v _ rfl, .v _ rfl, .v _ rfl, .v _ rfl, .v _ rfl, .n 3, trivial⟩ rfl) rfl trivial ⟨rfl, trivial⟩ ?_
      refine G.op3 (op_storeA (cs' := [bS r6.1.Key, bS r6.1.Value, bB r6.1.Gone, bI .i64 r6.1.Stamp.N, bI .i64 r6.1.Stamp.Site, .g (.d (.sl 3 (List.map encApi_Dep r6.1.Past)))]) ti32 rfl rfl (Ev.t 15 (.ptr 1015 0)) (Ev.t 106 (.g (.agg [.v (.string r6.1.Key), .v (.string r6.1.Value), .v (.bool r6.1.Gone), .v (.int .i64 r6.1.Stamp.N), .v (.int .i64 r6.1.Stamp.Site), .sl 3 (List.map encApi_Dep r6.1.Past)])))) rfl ⟨rfl, rfl, trivial⟩ ⟨rfl, trivial⟩ ?_
      refine G.op1 (op_assign (Ev.t 107 (.g (.d (.sl 6 (List.map encApi_Version r6.2.1))))) rfl) rfl ⟨rfl, trivial⟩ trivial ?_
      refine G.op1 (op_assign (Ev.t 108 (bB r6.2.2)) rfl) rfl ⟨rfl, trivial⟩ trivial ?_
      refine G.endOps ?_
      refine G.seq ?_
      refine G.region ?_
      refine G.op1 (op_move (Ev.t 8 (.g (.d (.sl 6 (List.map encApi_Version r2))))) rfl) rfl ⟨rfl, trivial⟩ trivial ?_
      refine G.op1 (op_move (Ev.t 9 (.g (.d (.sl 3 (List.map encApi_Dep y3))))) rfl) rfl ⟨rfl, trivial⟩ trivial ?_
      refine G.op1 (op_move (Ev.t 12 (.g (.d (.sl 2 (List.map encApi_Range r4))))) rfl) rfl ⟨rfl, trivial⟩ trivial ?_
      obtain ⟨r7, hr7, hF⟩ := bindS hF
      refine G.op1 (op_call (sv := .one (.g (.agg [.v (.string r7.V.Key), .v (.string r7.V.Value), .v (.bool r7.V.Gone), .v (.int .i64 r7.V.Stamp.N), .v (.int .i64 r7.V.Stamp.Site), .sl 3 (List.map encApi_Dep r7.V.Past), .sl 6 (List.map encApi_Version r7.L), .v (.bool r7.Is)]))) cf29 (ct_ref14_Next r2 y3 r4 r7 hr7) rfl (EvL.cons (Ev.t 109 (.g (.d (.sl 6 (List.map encApi_Version r2))))) (EvL.cons (Ev.t 110 (.g (.d (.sl 3 (List.map encApi_Dep y3))))) (EvL.cons (Ev.t 111 (.g (.d (.sl 2 (List.map encApi_Range r4))))) EvL.nil))) rfl) rfl ⟨rfl, rfl, rfl, trivial⟩ trivial ?_
      refine G.op2 (op_alloc (k := 1018) (cs := [bS ByteArray.empty, bS ByteArray.empty, bB false, bI .i64 0, bI .i64 0, .g (.d (.sl 3 (List.map encApi_Dep ([] : (List Api_Dep))))), .g (.d (.sl 6 (List.map encApi_Version ([] : (List Api_Version))))), bB false]) ti66 ⟨.v _ rfl, .v _ rfl, .v _ rfl, .v _ rfl, .v _ rfl, .n 3, .n 6, .v _ rfl, trivial⟩ rfl) rfl trivial ⟨rfl, trivial⟩ ?_
      refine G.op3 (op_storeA (cs' := [bS r7.V.Key, bS r7.V.Value, bB r7.V.Gone, bI .i64 r7.V.Stamp.N, bI .i64 r7.V.Stamp.Site, .g (.d (.sl 3 (List.map encApi_Dep r7.V.Past))), .g (.d (.sl 6 (List.map encApi_Version r7.L))), bB r7.Is]) ti66 rfl rfl (Ev.t 18 (.ptr 1018 0)) (Ev.t 112 (.g (.agg [.v (.string r7.V.Key), .v (.string r7.V.Value), .v (.bool r7.V.Gone), .v (.int .i64 r7.V.Stamp.N), .v (.int .i64 r7.V.Stamp.Site), .sl 3 (List.map encApi_Dep r7.V.Past), .sl 6 (List.map encApi_Version r7.L), .v (.bool r7.Is)])))) rfl ⟨rfl, rfl, trivial⟩ ⟨rfl, trivial⟩ ?_
      refine G.endOps ?_
      refine G.seq ?_
      refine G.region ?_
      refine G.op1 (op_loadAP (ds := [.v (.string r6.1.Key), .v (.string r6.1.Value), .v (.bool r6.1.Gone), .v (.int .i64 r6.1.Stamp.N), .v (.int .i64 r6.1.Stamp.Site), .sl 3 (List.map encApi_Dep r6.1.Past)]) Try.underlying32 rfl ti32 rfl (Ev.t 15 (.ptr 1015 0)) rfl) rfl ⟨rfl, trivial⟩ ⟨rfl, trivial⟩ ?_
      refine G.op1 (op_fieldP (off' := 0) Try.underlying66 rfl ti32 (by decide) rfl (Ev.t 18 (.ptr 1018 0)) rfl) rfl ⟨rfl, trivial⟩ trivial ?_
      refine G.op1 (op_loadAP (ds := [.v (.string r7.V.Key), .v (.string r7.V.Value), .v (.bool r7.V.Gone), .v (.int .i64 r7.V.Stamp.N), .v (.int .i64 r7.V.Stamp.Site), .sl 3 (List.map encApi_Dep r7.V.Past)]) Try.underlying32 rfl ti32 rfl (Ev.t 114 (.ptr 1018 0)) rfl) rfl ⟨rfl, trivial⟩ ⟨rfl, trivial⟩ ?_
      obtain ⟨r8, hr8, hF⟩ := bindS hF
      refine G.op1 (op_callQ (sv := .one (bB r8)) cf22 (ct_ref06_Same r6.1 r7.V r8 hr8) rfl rfl (EvQL.cons (EvQ.g (Ev.t 113 (.g (.agg [.v (.string r6.1.Key), .v (.string r6.1.Value), .v (.bool r6.1.Gone), .v (.int .i64 r6.1.Stamp.N), .v (.int .i64 r6.1.Stamp.Site), .sl 3 (List.map encApi_Dep r6.1.Past)])))) (EvQL.cons (EvQ.g (Ev.t 115 (.g (.agg [.v (.string r7.V.Key), .v (.string r7.V.Value), .v (.bool r7.V.Gone), .v (.int .i64 r7.V.Stamp.N), .v (.int .i64 r7.V.Stamp.Site), .sl 3 (List.map encApi_Dep r7.V.Past)])))) EvQL.nil)) rfl) rfl ⟨rfl, rfl, trivial⟩ trivial ?_
      refine G.op1 (op_assign (Ev.t 116 (bB r8)) rfl) rfl ⟨rfl, trivial⟩ trivial ?_
      refine G.endOps ?_
      refine G.seq ?_
      refine G.region ?_
      refine G.op1 (op_move (Ev.t 16 (.g (.d (.sl 6 (List.map encApi_Version r6.2.1))))) rfl) rfl ⟨rfl, trivial⟩ trivial ?_
      refine G.op1 (op_fieldP (off' := 6) Try.underlying66 rfl ti24 (by decide) rfl (Ev.t 18 (.ptr 1018 0)) rfl) rfl ⟨rfl, trivial⟩ trivial ?_
      refine G.op1 (op_load1P (c := .g (.d (.sl 6 (List.map encApi_Version r7.L)))) Try.underlying24 rfl rfl (Ev.t 118 (.ptr 1018 6)) rfl) rfl ⟨rfl, trivial⟩ ⟨rfl, trivial⟩ ?_
      obtain ⟨r9, hr9, hF⟩ := bindS hF
      refine G.op1 (op_callQ (sv := .one (bB r9)) cf23 (ct_ref12_Same r6.2.1 r7.L r9 hr9) rfl rfl (EvQL.cons (EvQ.g (Ev.t 117 (.g (.d (.sl 6 (List.map encApi_Version r6.2.1)))))) (EvQL.cons (EvQ.g (Ev.t 119 (.g (.d (.sl 6 (List.map encApi_Version r7.L)))))) EvQL.nil)) rfl) rfl ⟨rfl, rfl, trivial⟩ trivial ?_
      refine G.op1 (op_assign (Ev.t 120 (bB r9)) rfl) rfl ⟨rfl, trivial⟩ trivial ?_
      refine G.endOps ?_
      refine G.seq ?_
      refine G.region ?_
      refine G.op1 (op_fieldP (off' := 2) Try.underlying64 rfl ti32 (by decide) rfl (Ev.t 5 (.ptr 1005 0)) rfl) rfl ⟨rfl, trivial⟩ trivial ?_
      refine G.op1 (op_loadAP (ds := [.v (.string q_2.Version.Key), .v (.string q_2.Version.Value), .v (.bool q_2.Version.Gone), .v (.int .i64 q_2.Version.Stamp.N), .v (.int .i64 q_2.Version.Stamp.Site), .sl 3 (List.map encApi_Dep q_2.Version.Past)]) Try.underlying32 rfl ti32 rfl (Ev.t 121 (.ptr 1005 2)) rfl) rfl ⟨rfl, trivial⟩ ⟨rfl, trivial⟩ ?_
      refine G.op2 (op_alloc (k := 1021) (cs := [bS ByteArray.empty, bS ByteArray.empty, bB false, bI .i64 0, bI .i64 0, .g (.d (.sl 3 (List.map encApi_Dep ([] : (List Api_Dep)))))]) ti32 ⟨.v _ rfl, .v _ rfl, .v _ rfl, .v _ rfl, .v _ rfl, .n 3, trivial⟩ rfl) rfl trivial ⟨rfl, trivial⟩ ?_
      refine G.op3 (op_storeA (cs' := [bS q_2.Version.Key, bS q_2.Version.Value, bB q_2.Version.Gone, bI .i64 q_2.Version.Stamp.N, bI .i64 q_2.Version.Stamp.Site, .g (.d (.sl 3 (List.map encApi_Dep q_2.Version.Past)))]) ti32 rfl rfl (Ev.t 21 (.ptr 1021 0)) (Ev.t 122 (.g (.agg [.v (.string q_2.Version.Key), .v (.string q_2.Version.Value), .v (.bool q_2.Version.Gone), .v (.int .i64 q_2.Version.Stamp.N), .v (.int .i64 q_2.Version.Stamp.Site), .sl 3 (List.map encApi_Dep q_2.Version.Past)])))) rfl ⟨rfl, rfl, trivial⟩ ⟨rfl, trivial⟩ ?_
      refine G.endOps ?_
      refine G.seq ?_
      refine G.region ?_
      refine G.op1 (op_move (Ev.t 9 (.g (.d (.sl 3 (List.map encApi_Dep y3))))) rfl) rfl ⟨rfl, trivial⟩ trivial ?_
      refine G.op1 (op_fieldP (off' := 5) Try.underlying32 rfl ti30 (by decide) rfl (Ev.t 21 (.ptr 1021 0)) rfl) rfl ⟨rfl, trivial⟩ trivial ?_
      refine G.op3 (op_store1 (cs' := [bS q_2.Version.Key, bS q_2.Version.Value, bB q_2.Version.Gone, bI .i64 q_2.Version.Stamp.N, bI .i64 q_2.Version.Stamp.Site, .g (.d (.sl 3 (List.map encApi_Dep y3)))]) (c := .g (.d (.sl 3 (List.map encApi_Dep y3)))) trivial ti30 rfl rfl (Ev.t 124 (.ptr 1021 5)) (Ev.t 123 (.g (.d (.sl 3 (List.map encApi_Dep y3)))))) rfl ⟨rfl, rfl, trivial⟩ ⟨rfl, trivial⟩ ?_
      refine G.endOps ?_
      refine G.seq ?_
      refine G.seq ?_
      refine G.region ?_
      refine G.op1 (op_fieldP (off' := 1) Try.underlying32 rfl ti9 (by decide) rfl (Ev.t 21 (.ptr 1021 0)) rfl) rfl ⟨rfl, trivial⟩ trivial ?_
      refine G.op1 (op_load1P (c := bS q_2.Version.Value) Try.underlying9 rfl rfl (Ev.t 125 (.ptr 1021 1)) rfl) rfl ⟨rfl, trivial⟩ ⟨rfl, trivial⟩ ?_
      refine G.op1 (op_lenS Try.underlying9 (Ev.t 126 (bS q_2.Version.Value)) rfl) rfl ⟨rfl, trivial⟩ trivial ?_
      refine G.op1 (op_gtr (Ev.t 127 (bI .i64 (q_2.Version.Value.size : Int))) (Ev.c _ rfl) rfl) rfl ⟨rfl, trivial⟩ trivial ?_
      refine G.endOps ?_
      refine G.joinC (T := ByteArray) (fun y10 => ⟨[(5, .one (.ptr 1005 0)), (7, .one (bB r1)), (8, .one (.g (.d (.sl 6 (List.map encApi_Version r2))))), (12, .one (.g (.d (.sl 2 (List.map encApi_Range r4))))), (17, .one (bB r6.2.2)), (18, .one (.ptr 1018 0)), (19, .one (bB r8)), (20, .one (bB r9)), (21, .one (.ptr 1021 0))], [(1005, some (.blk 64 [bI .i64 q_2.Ranges, bI .i64 q_2.More, bS q_2.Version.Key, bS q_2.Version.Value, bB q_2.Version.Gone, bI .i64 q_2.Version.Stamp.N, bI .i64 q_2.Version.Stamp.Site, .g (.d (.sl 3 (List.map encApi_Dep q_2.Version.Past)))])), (1018, some (.blk 66 [bS r7.V.Key, bS r7.V.Value, bB r7.V.Gone, bI .i64 r7.V.Stamp.N, bI .i64 r7.V.Stamp.Site, .g (.d (.sl 3 (List.map encApi_Dep r7.V.Past))), .g (.d (.sl 6 (List.map encApi_Version r7.L))), bB r7.Is])), (1021, some (.blk 32 [bS q_2.Version.Key, bS y10, bB q_2.Version.Gone, bI .i64 q_2.Version.Stamp.N, bI .i64 q_2.Version.Stamp.Site, .g (.d (.sl 3 (List.map encApi_Dep y3)))]))]⟩) (fun y10 => law14_QueueTells_k3 q_2 r1 r2 y3 r4 r6 r7 r8 r9 y10 = some r) (fun y10 hF => ?_) (fun J44 => ?_)
      · unfold law14_QueueTells_k3 at hF
        refine G.seq ?_
        refine G.region ?_
        refine G.op2 (op_buildRow (kk := 2133) Try.underlying24 ti32 rfl rfl) rfl trivial ⟨rfl, trivial⟩ ?_
        refine G.keep (sl' := [(5, .one (.ptr 1005 0)), (7, .one (bB r1)), (8, .one (.g (.d (.sl 6 (List.map encApi_Version r2))))), (12, .one (.g (.d (.sl 2 (List.map encApi_Range r4))))), (17, .one (bB r6.2.2)), (18, .one (.ptr 1018 0)), (19, .one (bB r8)), (20, .one (bB r9)), (21, .one (.ptr 1021 0)), (133, .one (.own 2133 (List.map encApi_Version ([] : List Api_Version))))]) (hp' := [(1005, some (.blk 64 [bI .i64 q_2.Ranges, bI .i64 q_2.More, bS q_2.Version.Key, bS q_2.Version.Value, bB q_2.Version.Gone, bI .i64 q_2.Version.Stamp.N, bI .i64 q_2.Version.Stamp.Site, .g (.d (.sl 3 (List.map encApi_Dep q_2.Version.Past)))])), (1018, some (.blk 66 [bS r7.V.Key, bS r7.V.Value, bB r7.V.Gone, bI .i64 r7.V.Stamp.N, bI .i64 r7.V.Stamp.Site, .g (.d (.sl 3 (List.map encApi_Dep r7.V.Past))), .g (.d (.sl 6 (List.map encApi_Version r7.L))), bB r7.Is])), (1021, some (.blk 32 [bS q_2.Version.Key, bS y10, bB q_2.Version.Gone, bI .i64 q_2.Version.Stamp.N, bI .i64 q_2.Version.Stamp.Site, .g (.d (.sl 3 (List.map encApi_Dep y3)))])), (2133, some (.row 32 6 (List.map encApi_Version ([] : List Api_Version)) true))]) ⟨rfl, rfl, rfl, rfl, rfl, rfl, rfl, rfl, rfl, rfl, trivial⟩ ⟨rfl, rfl, rfl, rfl, trivial⟩ rfl ?_
        refine G.op1 (op_move (Ev.t 8 (.g (.d (.sl 6 (List.map encApi_Version r2))))) rfl) rfl ⟨rfl, trivial⟩ trivial ?_
        obtain ⟨l11, hl11, hF⟩ := bindS hF
        refine G.op2 (op_appendO Try.underlying24 ti32 rfl (app_map hl11 encApi_Version) (app_b1 hl11 encApi_Version) (app_b2 hl11 encApi_Version) (Ev.t 133 (.own 2133 (List.map encApi_Version ([] : List Api_Version)))) (Ev.t 134 (.g (.d (.sl 6 (List.map encApi_Version r2))))) rfl) rfl ⟨rfl, rfl, trivial⟩ ⟨rfl, trivial⟩ ?_
        refine G.op1 (op_assign (Ev.t 135 (.own 2133 (List.map encApi_Version l11))) rfl) rfl ⟨rfl, trivial⟩ trivial ?_
        refine G.endOps ?_
        refine G.seq ?_
        refine G.seq ?_
        refine G.region ?_
        refine G.op1 (op_assign (Ev.c _ rfl) rfl) rfl trivial trivial ?_
        refine G.endOps ?_
        refine G.joinC (T := (List Api_Version)) (fun y12 => ⟨[(7, .one (bB r1)), (8, .one (.g (.d (.sl 6 (List.map encApi_Version r2))))), (12, .one (.g (.d (.sl 2 (List.map encApi_Range r4))))), (17, .one (bB r6.2.2)), (18, .one (.ptr 1018 0)), (19, .one (bB r8)), (20, .one (bB r9)), (21, .one (.ptr 1021 0)), (22, .one (.own 2133 (List.map encApi_Version y12)))], [(1018, some (.blk 66 [bS r7.V.Key, bS r7.V.Value, bB r7.V.Gone, bI .i64 r7.V.Stamp.N, bI .i64 r7.V.Stamp.Site, .g (.d (.sl 3 (List.map encApi_Dep r7.V.Past))), .g (.d (.sl 6 (List.map encApi_Version r7.L))), bB r7.Is])), (1021, some (.blk 32 [bS q_2.Version.Key, bS y10, bB q_2.Version.Gone, bI .i64 q_2.Version.Stamp.N, bI .i64 q_2.Version.Stamp.Site, .g (.d (.sl 3 (List.map encApi_Dep y3)))])), (2133, some (.row 32 6 (List.map encApi_Version y12) true))]⟩) (fun y12 => law14_QueueTells_k4 q_2 r1 r2 y3 r4 r6 r7 r8 r9 y10 y12 = some r) (fun y12 hF => ?_) (fun J33 => ?_)
        · unfold law14_QueueTells_k4 at hF
          refine G.seq ?_
          refine G.region ?_
          refine G.op1 (op_move (Ev.t 22 (.own 2133 (List.map encApi_Version y12))) rfl) rfl ⟨rfl, trivial⟩ trivial ?_
          refine G.op1 (op_loadAP (ds := [.v (.string q_2.Version.Key), .v (.string y10), .v (.bool q_2.Version.Gone), .v (.int .i64 q_2.Version.Stamp.N), .v (.int .i64 q_2.Version.Stamp.Site), .sl 3 (List.map encApi_Dep y3)]) Try.underlying32 rfl ti32 rfl (Ev.t 21 (.ptr 1021 0)) rfl) rfl ⟨rfl, trivial⟩ ⟨rfl, trivial⟩ ?_
          refine G.share (k' := 2133) rfl ?_
          refine G.view (t := 155) rfl rfl ?_
          obtain ⟨r13, hr13, hF⟩ := bindS hF
          refine G.op1 (op_call (sv := .tup [.g (.d (.sl 6 (List.map encApi_Version r13.1))), bI .i64 r13.2]) cf24 (ct_queue_Push y12 (Api_Version.mk q_2.Version.Key y10 q_2.Version.Gone q_2.Version.Stamp y3) r13 hr13) rfl (EvL.cons (Ev.t 155 (.g (.d (.sl 6 (List.map encApi_Version y12))))) (EvL.cons (Ev.t 156 (.g (.agg [.v (.string q_2.Version.Key), .v (.string y10), .v (.bool q_2.Version.Gone), .v (.int .i64 q_2.Version.Stamp.N), .v (.int .i64 q_2.Version.Stamp.Site), .sl 3 (List.map encApi_Dep y3)]))) EvL.nil)) rfl) rfl ⟨rfl, rfl, trivial⟩ trivial ?_
          refine G.op1 (op_moveS (t := 157) (sv := .tup [.g (.d (.sl 6 (List.map encApi_Version r13.1))), bI .i64 r13.2]) rfl) rfl ⟨rfl, trivial⟩ trivial ?_
          refine G.op1 (op_extract (l := [.g (.d (.sl 6 (List.map encApi_Version r13.1))), bI .i64 r13.2]) (c := .g (.d (.sl 6 (List.map encApi_Version r13.1)))) rfl rfl) rfl ⟨rfl, trivial⟩ trivial ?_
          refine G.op1 (op_extract (l := [.g (.d (.sl 6 (List.map encApi_Version r13.1))), bI .i64 r13.2]) (c := bI .i64 r13.2) rfl rfl) rfl ⟨rfl, trivial⟩ trivial ?_
          refine G.op1 (op_assign (Ev.t 158 (.g (.d (.sl 6 (List.map encApi_Version r13.1))))) rfl) rfl ⟨rfl, trivial⟩ trivial ?_
          refine G.op1 (op_assign (Ev.t 159 (bI .i64 r13.2)) rfl) rfl ⟨rfl, trivial⟩ trivial ?_
          refine G.endOps ?_
          refine G.seq ?_
          refine G.region ?_
          refine G.op1 (op_move (Ev.t 22 (.own 2133 (List.map encApi_Version y12))) rfl) rfl ⟨rfl, trivial⟩ trivial ?_
          refine G.op1 (op_loadAP (ds := [.v (.string q_2.Version.Key), .v (.string y10), .v (.bool q_2.Version.Gone), .v (.int .i64 q_2.Version.Stamp.N), .v (.int .i64 q_2.Version.Stamp.Site), .sl 3 (List.map encApi_Dep y3)]) Try.underlying32 rfl ti32 rfl (Ev.t 21 (.ptr 1021 0)) rfl) rfl ⟨rfl, trivial⟩ ⟨rfl, trivial⟩ ?_
          refine G.view (t := 161) rfl rfl ?_
          obtain ⟨r14, hr14, hF⟩ := bindS hF
          refine G.op1 (op_call (sv := .tup [.g (.d (.sl 6 (List.map encApi_Version r14.1))), bI .i64 r14.2]) cf30 (ct_ref14_Push y12 (Api_Version.mk q_2.Version.Key y10 q_2.Version.Gone q_2.Version.Stamp y3) r14 hr14) rfl (EvL.cons (Ev.t 161 (.g (.d (.sl 6 (List.map encApi_Version y12))))) (EvL.cons (Ev.t 162 (.g (.agg [.v (.string q_2.Version.Key), .v (.string y10), .v (.bool q_2.Version.Gone), .v (.int .i64 q_2.Version.Stamp.N), .v (.int .i64 q_2.Version.Stamp.Site), .sl 3 (List.map encApi_Dep y3)]))) EvL.nil)) rfl) rfl ⟨rfl, rfl, trivial⟩ trivial ?_
          refine G.op1 (op_moveS (t := 163) (sv := .tup [.g (.d (.sl 6 (List.map encApi_Version r14.1))), bI .i64 r14.2]) rfl) rfl ⟨rfl, trivial⟩ trivial ?_
          refine G.op1 (op_extract (l := [.g (.d (.sl 6 (List.map encApi_Version r14.1))), bI .i64 r14.2]) (c := .g (.d (.sl 6 (List.map encApi_Version r14.1)))) rfl rfl) rfl ⟨rfl, trivial⟩ trivial ?_
          refine G.op1 (op_extract (l := [.g (.d (.sl 6 (List.map encApi_Version r14.1))), bI .i64 r14.2]) (c := bI .i64 r14.2) rfl rfl) rfl ⟨rfl, trivial⟩ trivial ?_
          refine G.op1 (op_assign (Ev.t 164 (.g (.d (.sl 6 (List.map encApi_Version r14.1))))) rfl) rfl ⟨rfl, trivial⟩ trivial ?_
          refine G.op1 (op_assign (Ev.t 165 (bI .i64 r14.2)) rfl) rfl ⟨rfl, trivial⟩ trivial ?_
          refine G.endOps ?_
          refine G.seq ?_
          refine G.region ?_
          refine G.op1 (op_move (Ev.t 24 (.g (.d (.sl 6 (List.map encApi_Version r13.1))))) rfl) rfl ⟨rfl, trivial⟩ trivial ?_
          refine G.op1 (op_move (Ev.t 26 (.g (.d (.sl 6 (List.map encApi_Version r14.1))))) rfl) rfl ⟨rfl, trivial⟩ trivial ?_
          obtain ⟨r15, hr15, hF⟩ := bindS hF
          refine G.op1 (op_callQ (sv := .one (bB r15)) cf23 (ct_ref12_Same r13.1 r14.1 r15 hr15) rfl rfl (EvQL.cons (EvQ.g (Ev.t 166 (.g (.d (.sl 6 (List.map encApi_Version r13.1)))))) (EvQL.cons (EvQ.g (Ev.t 167 (.g (.d (.sl 6 (List.map encApi_Version r14.1)))))) EvQL.nil)) rfl) rfl ⟨rfl, rfl, trivial⟩ trivial ?_
          refine G.op1 (op_assign (Ev.t 168 (bB r15)) rfl) rfl ⟨rfl, trivial⟩ trivial ?_
          refine G.endOps ?_
          refine G.seq ?_
          refine G.region ?_
          refine G.op1 (op_move (Ev.t 8 (.g (.d (.sl 6 (List.map encApi_Version r2))))) rfl) rfl ⟨rfl, trivial⟩ trivial ?_
          refine G.op1 (op_move (Ev.t 12 (.g (.d (.sl 2 (List.map encApi_Range r4))))) rfl) rfl ⟨rfl, trivial⟩ trivial ?_
          obtain ⟨r16, hr16, hF⟩ := bindS hF
          refine G.op1 (op_call (sv := .one (.g (.d (.sl 6 (List.map encApi_Version r16))))) cf21 (ct_queue_Drop r2 r4 r16 hr16) rfl (EvL.cons (Ev.t 169 (.g (.d (.sl 6 (List.map encApi_Version r2))))) (EvL.cons (Ev.t 170 (.g (.d (.sl 2 (List.map encApi_Range r4))))) EvL.nil)) rfl) rfl ⟨rfl, rfl, trivial⟩ trivial ?_
          refine G.op1 (op_move (Ev.t 8 (.g (.d (.sl 6 (List.map encApi_Version r2))))) rfl) rfl ⟨rfl, trivial⟩ trivial ?_
          refine G.op1 (op_move (Ev.t 12 (.g (.d (.sl 2 (List.map encApi_Range r4))))) rfl) rfl ⟨rfl, trivial⟩ trivial ?_
          obtain ⟨r17, hr17, hF⟩ := bindS hF
          refine G.op1 (op_call (sv := .one (.g (.d (.sl 6 (List.map encApi_Version r17))))) cf31 (ct_ref14_Drop r2 r4 r17 hr17) rfl (EvL.cons (Ev.t 172 (.g (.d (.sl 6 (List.map encApi_Version r2))))) (EvL.cons (Ev.t 173 (.g (.d (.sl 2 (List.map encApi_Range r4))))) EvL.nil)) rfl) rfl ⟨rfl, rfl, trivial⟩ trivial ?_
          obtain ⟨r18, hr18, hF⟩ := bindS hF
          refine G.op1 (op_callQ (sv := .one (bB r18)) cf23 (ct_ref12_Same r16 r17 r18 hr18) rfl rfl (EvQL.cons (EvQ.g (Ev.t 171 (.g (.d (.sl 6 (List.map encApi_Version r16)))))) (EvQL.cons (EvQ.g (Ev.t 174 (.g (.d (.sl 6 (List.map encApi_Version r17)))))) EvQL.nil)) rfl) rfl ⟨rfl, rfl, trivial⟩ trivial ?_
          refine G.op1 (op_assign (Ev.t 175 (bB r18)) rfl) rfl ⟨rfl, trivial⟩ trivial ?_
          refine G.endOps ?_
          refine G.seq ?_
          refine G.region ?_
          refine G.op1 (op_move (Ev.t 7 (bB r1)) rfl) rfl ⟨rfl, trivial⟩ trivial ?_
          refine G.op1 (op_move (Ev.t 176 (bB r1)) rfl) rfl ⟨rfl, trivial⟩ trivial ?_
          refine G.joinL (T := Bool) 2 (fun y19 => ⟨[(17, .one (bB r6.2.2)), (18, .one (.ptr 1018 0)), (20, .one (bB r9)), (25, .one (bI .i64 r13.2)), (27, .one (bI .i64 r14.2)), (28, .one (bB r15)), (29, .one (bB r18)), (179, .one (bB y19))], [(1018, some (.blk 66 [bS r7.V.Key, bS r7.V.Value, bB r7.V.Gone, bI .i64 r7.V.Stamp.N, bI .i64 r7.V.Stamp.Site, .g (.d (.sl 3 (List.map encApi_Dep r7.V.Past))), .g (.d (.sl 6 (List.map encApi_Version r7.L))), bB r7.Is]))]⟩) (fun y19 => law14_QueueTells_k5 r6 r7 r9 r13 r14 r15 r18 y19 = some r) (fun y19 hF => ?_) (fun J31 => ?_)
          · unfold law14_QueueTells_k5 at hF
            refine G.op1 (op_move (Ev.t 179 (bB y19)) rfl) rfl ⟨rfl, trivial⟩ trivial ?_
            refine G.joinL (T := Bool) 2 (fun y20 => ⟨[(17, .one (bB r6.2.2)), (18, .one (.ptr 1018 0)), (25, .one (bI .i64 r13.2)), (27, .one (bI .i64 r14.2)), (28, .one (bB r15)), (29, .one (bB r18)), (182, .one (bB y20))], [(1018, some (.blk 66 [bS r7.V.Key, bS r7.V.Value, bB r7.V.Gone, bI .i64 r7.V.Stamp.N, bI .i64 r7.V.Stamp.Site, .g (.d (.sl 3 (List.map encApi_Dep r7.V.Past))), .g (.d (.sl 6 (List.map encApi_Version r7.L))), bB r7.Is]))]⟩) (fun y20 => law14_QueueTells_k6 r6 r7 r13 r14 r15 r18 y20 = some r) (fun y20 hF => ?_) (fun J29 => ?_)
            · unfold law14_QueueTells_k6 at hF
              refine G.op1 (op_move (Ev.t 182 (bB y20)) rfl) rfl ⟨rfl, trivial⟩ trivial ?_
              refine G.joinL (T := Bool) 5 (fun y21 => ⟨[(25, .one (bI .i64 r13.2)), (27, .one (bI .i64 r14.2)), (28, .one (bB r15)), (29, .one (bB r18)), (188, .one (bB y21))], []⟩) (fun y21 => law14_QueueTells_k7 r13 r14 r15 r18 y21 = some r) (fun y21 hF => ?_) (fun J27 => ?_)
              · unfold law14_QueueTells_k7 at hF
                refine G.op1 (op_move (Ev.t 188 (bB y21)) rfl) rfl ⟨rfl, trivial⟩ trivial ?_
                refine G.joinL (T := Bool) 2 (fun y22 => ⟨[(25, .one (bI .i64 r13.2)), (27, .one (bI .i64 r14.2)), (29, .one (bB r18)), (191, .one (bB y22))], []⟩) (fun y22 => law14_QueueTells_k8 r13 r14 r18 y22 = some r) (fun y22 hF => ?_) (fun J25 => ?_)
                · unfold law14_QueueTells_k8 at hF
                  refine G.op1 (op_move (Ev.t 191 (bB y22)) rfl) rfl ⟨rfl, trivial⟩ trivial ?_
                  refine ifS hF (fun hc23 hF => ?_) (fun hc23 hF => ?_)
                  · refine G.known (t := 192) hc23 rfl ?_
                    refine G.opG1 (op_move (Ev.t 25 (bI .i64 r13.2)) rfl) rfl rfl rfl ⟨rfl, trivial⟩ trivial ?_
                    refine G.opG1 (op_move (Ev.t 27 (bI .i64 r14.2)) rfl) rfl rfl rfl ⟨rfl, trivial⟩ trivial ?_
                    refine G.opG1 (op_eqI (Ev.t 193 (bI .i64 r13.2)) (Ev.t 194 (bI .i64 r14.2)) rfl) rfl rfl rfl ⟨rfl, rfl, trivial⟩ trivial ?_
                    refine G.op1 (op_pickT (Ev.t 192 (bB true)) (Ev.t 195 (bB (decide (r13.2 = r14.2)))) rfl) rfl ⟨rfl, rfl, trivial⟩ trivial ?_
                    refine G.op1 (op_move (Ev.t 196 (bB (decide (r13.2 = r14.2)))) rfl) rfl ⟨rfl, trivial⟩ trivial ?_
                    refine ifS hF (fun hc24 hF => ?_) (fun hc24 hF => ?_)
                    · refine G.known (t := 197) hc24 rfl ?_
                      refine G.opG1 (op_move (Ev.t 29 (bB r18)) rfl) rfl rfl rfl ⟨rfl, trivial⟩ trivial ?_
                      refine G.op1 (op_pickT (Ev.t 197 (bB true)) (Ev.t 198 (bB r18)) rfl) rfl ⟨rfl, rfl, trivial⟩ trivial ?_
                      refine G.op1 (op_assign (Ev.t 199 (bB r18)) rfl) rfl ⟨rfl, trivial⟩ trivial ?_
                      refine G.endOps ?_
                      cases hF
                      exact G.ret1 Try.results8 (RVar.tmp 6 _) ⟨rfl, trivial⟩ trivial
                    · refine G.known (t := 197) hc24 rfl ?_
                      refine G.opN1 rfl rfl rfl rfl rfl ?_
                      refine G.op1 (op_pickF (Ev.t 197 (bB false)) (Ev.c _ rfl) rfl) rfl ⟨rfl, trivial⟩ trivial ?_
                      refine G.op1 (op_assign (Ev.t 199 (bB false)) rfl) rfl ⟨rfl, trivial⟩ trivial ?_
                      refine G.endOps ?_
                      cases hF
                      exact G.ret1 Try.results8 (RVar.tmp 6 _) ⟨rfl, trivial⟩ trivial
                  · refine G.known (t := 192) hc23 rfl ?_
                    refine G.opN1 rfl rfl rfl rfl rfl ?_
                    refine G.opN1 rfl rfl rfl rfl rfl ?_
                    refine G.opN1 rfl rfl rfl rfl rfl ?_
                    refine G.op1 (op_pickF (Ev.t 192 (bB false)) (Ev.c _ rfl) rfl) rfl ⟨rfl, trivial⟩ trivial ?_
                    refine G.op1 (op_move (Ev.t 196 (bB false)) rfl) rfl ⟨rfl, trivial⟩ trivial ?_
                    refine G.opN1 rfl rfl rfl rfl rfl ?_
                    refine G.op1 (op_pickF (Ev.t 197 (bB false)) (Ev.c _ rfl) rfl) rfl ⟨rfl, trivial⟩ trivial ?_
                    refine G.op1 (op_assign (Ev.t 199 (bB false)) rfl) rfl ⟨rfl, trivial⟩ trivial ?_
                    refine G.endOps ?_
                    cases hF
                    exact G.ret1 Try.results8 (RVar.tmp 6 _) ⟨rfl, trivial⟩ trivial
                refine ifS hF (fun hc26 hF => ?_) (fun hc26 hF => ?_)
                · refine G.known (t := 189) hc26 rfl ?_
                  refine G.opG1 (op_move (Ev.t 28 (bB r15)) rfl) rfl rfl rfl ⟨rfl, trivial⟩ trivial ?_
                  refine G.op1 (op_pickT (Ev.t 189 (bB true)) (Ev.t 190 (bB r15)) rfl) rfl ⟨rfl, rfl, trivial⟩ trivial ?_
                  exact G.arr (J25 r15 hF) ⟨rfl, rfl, rfl, rfl, trivial⟩ trivial rfl
                · refine G.known (t := 189) hc26 rfl ?_
                  refine G.opN1 rfl rfl rfl rfl rfl ?_
                  refine G.op1 (op_pickF (Ev.t 189 (bB false)) (Ev.c _ rfl) rfl) rfl ⟨rfl, trivial⟩ trivial ?_
                  exact G.arr (J25 false hF) ⟨rfl, rfl, rfl, rfl, trivial⟩ trivial rfl
              refine ifS hF (fun hc28 hF => ?_) (fun hc28 hF => ?_)
              · refine G.known (t := 183) hc28 rfl ?_
                refine G.opG1 (op_move (Ev.t 17 (bB r6.2.2)) rfl) rfl rfl rfl ⟨rfl, trivial⟩ trivial ?_
                refine G.opG1 (op_fieldP (off' := 7) Try.underlying66 rfl ti4 (by decide) rfl (Ev.t 18 (.ptr 1018 0)) rfl) rfl rfl rfl ⟨rfl, trivial⟩ trivial ?_
                refine G.opG1 (op_load1P (c := bB r7.Is) Try.underlying4 rfl rfl (Ev.t 185 (.ptr 1018 7)) rfl) rfl rfl rfl ⟨rfl, trivial⟩ ⟨rfl, trivial⟩ ?_
                refine G.opG1 (op_eqB Try.underlying4 (Ev.t 184 (bB r6.2.2)) (Ev.t 186 (bB r7.Is)) rfl) rfl rfl rfl ⟨rfl, rfl, trivial⟩ trivial ?_
                refine G.op1 (op_pickT (Ev.t 183 (bB true)) (Ev.t 187 (bB (r6.2.2 == r7.Is))) rfl) rfl ⟨rfl, rfl, trivial⟩ trivial ?_
                exact G.arr (J27 (r6.2.2 == r7.Is) hF) ⟨rfl, rfl, rfl, rfl, rfl, trivial⟩ trivial rfl
              · refine G.known (t := 183) hc28 rfl ?_
                refine G.opN1 rfl rfl rfl rfl rfl ?_
                refine G.opN1 rfl rfl rfl rfl rfl ?_
                refine G.opN1 rfl rfl rfl rfl rfl ?_
                refine G.opN1 rfl rfl rfl rfl rfl ?_
                refine G.op1 (op_pickF (Ev.t 183 (bB false)) (Ev.c _ rfl) rfl) rfl ⟨rfl, trivial⟩ trivial ?_
                exact G.arr (J27 false hF) ⟨rfl, rfl, rfl, rfl, rfl, trivial⟩ trivial rfl
            refine ifS hF (fun hc30 hF => ?_) (fun hc30 hF => ?_)
            · refine G.known (t := 180) hc30 rfl ?_
              refine G.opG1 (op_move (Ev.t 20 (bB r9)) rfl) rfl rfl rfl ⟨rfl, trivial⟩ trivial ?_
              refine G.op1 (op_pickT (Ev.t 180 (bB true)) (Ev.t 181 (bB r9)) rfl) rfl ⟨rfl, rfl, trivial⟩ trivial ?_
              exact G.arr (J29 r9 hF) ⟨rfl, rfl, rfl, rfl, rfl, rfl, rfl, trivial⟩ ⟨rfl, trivial⟩ rfl
            · refine G.known (t := 180) hc30 rfl ?_
              refine G.opN1 rfl rfl rfl rfl rfl ?_
              refine G.op1 (op_pickF (Ev.t 180 (bB false)) (Ev.c _ rfl) rfl) rfl ⟨rfl, trivial⟩ trivial ?_
              exact G.arr (J29 false hF) ⟨rfl, rfl, rfl, rfl, rfl, rfl, rfl, trivial⟩ ⟨rfl, trivial⟩ rfl
          refine ifS hF (fun hc32 hF => ?_) (fun hc32 hF => ?_)
          · refine G.known (t := 177) hc32 rfl ?_
            refine G.opG1 (op_move (Ev.t 19 (bB r8)) rfl) rfl rfl rfl ⟨rfl, trivial⟩ trivial ?_
            refine G.op1 (op_pickT (Ev.t 177 (bB true)) (Ev.t 178 (bB r8)) rfl) rfl ⟨rfl, rfl, trivial⟩ trivial ?_
            exact G.arr (J31 r8 hF) ⟨rfl, rfl, rfl, rfl, rfl, rfl, rfl, rfl, trivial⟩ ⟨rfl, trivial⟩ rfl
          · refine G.known (t := 177) hc32 rfl ?_
            refine G.opN1 rfl rfl rfl rfl rfl ?_
            refine G.op1 (op_pickF (Ev.t 177 (bB false)) (Ev.c _ rfl) rfl) rfl ⟨rfl, trivial⟩ trivial ?_
            exact G.arr (J31 false hF) ⟨rfl, rfl, rfl, rfl, rfl, rfl, rfl, rfl, trivial⟩ ⟨rfl, trivial⟩ rfl
        refine G.block ?_
        refine G.keep (sl' := [(5, .one (.ptr 1005 0)), (7, .one (bB r1)), (8, .one (.g (.d (.sl 6 (List.map encApi_Version r2))))), (12, .one (.g (.d (.sl 2 (List.map encApi_Range r4))))), (17, .one (bB r6.2.2)), (18, .one (.ptr 1018 0)), (19, .one (bB r8)), (20, .one (bB r9)), (21, .one (.ptr 1021 0)), (22, .one (.own 2133 (List.map encApi_Version l11))), (23, .one (bI .i64 0))]) (hp' := [(1005, some (.blk 64 [bI .i64 q_2.Ranges, bI .i64 q_2.More, bS q_2.Version.Key, bS q_2.Version.Value, bB q_2.Version.Gone, bI .i64 q_2.Version.Stamp.N, bI .i64 q_2.Version.Stamp.Site, .g (.d (.sl 3 (List.map encApi_Dep q_2.Version.Past)))])), (1018, some (.blk 66 [bS r7.V.Key, bS r7.V.Value, bB r7.V.Gone, bI .i64 r7.V.Stamp.N, bI .i64 r7.V.Stamp.Site, .g (.d (.sl 3 (List.map encApi_Dep r7.V.Past))), .g (.d (.sl 6 (List.map encApi_Version r7.L))), bB r7.Is])), (1021, some (.blk 32 [bS q_2.Version.Key, bS y10, bB q_2.Version.Gone, bI .i64 q_2.Version.Stamp.N, bI .i64 q_2.Version.Stamp.Site, .g (.d (.sl 3 (List.map encApi_Dep y3)))])), (2133, some (.row 32 6 (List.map encApi_Version l11) true))]) ⟨rfl, rfl, rfl, rfl, rfl, rfl, rfl, rfl, rfl, rfl, rfl, trivial⟩ ⟨rfl, rfl, rfl, rfl, trivial⟩ rfl ?_
        refine G.loopF (fun (v34 : Int × (List Api_Version)) => ⟨[(5, .one (.ptr 1005 0)), (7, .one (bB r1)), (8, .one (.g (.d (.sl 6 (List.map encApi_Version r2))))), (12, .one (.g (.d (.sl 2 (List.map encApi_Range r4))))), (17, .one (bB r6.2.2)), (18, .one (.ptr 1018 0)), (19, .one (bB r8)), (20, .one (bB r9)), (21, .one (.ptr 1021 0)), (22, .one (.own 2133 (List.map encApi_Version v34.2))), (23, .one (bI .i64 v34.1))], [(1005, some (.blk 64 [bI .i64 q_2.Ranges, bI .i64 q_2.More, bS q_2.Version.Key, bS q_2.Version.Value, bB q_2.Version.Gone, bI .i64 q_2.Version.Stamp.N, bI .i64 q_2.Version.Stamp.Site, .g (.d (.sl 3 (List.map encApi_Dep q_2.Version.Past)))])), (1018, some (.blk 66 [bS r7.V.Key, bS r7.V.Value, bB r7.V.Gone, bI .i64 r7.V.Stamp.N, bI .i64 r7.V.Stamp.Site, .g (.d (.sl 3 (List.map encApi_Dep r7.V.Past))), .g (.d (.sl 6 (List.map encApi_Version r7.L))), bB r7.Is])), (1021, some (.blk 32 [bS q_2.Version.Key, bS y10, bB q_2.Version.Gone, bI .i64 q_2.Version.Stamp.N, bI .i64 q_2.Version.Stamp.Site, .g (.d (.sl 3 (List.map encApi_Dep y3)))])), (2133, some (.row 32 6 (List.map encApi_Version v34.2) true))]⟩) hF rfl (fun K37 again36 v34 J35 hF => ?_)
        unfold law14_QueueTells_l9 at hF
        refine G.seq ?_
        refine G.seq ?_
        refine G.joinC (T := Bool) (fun y38 => ⟨[(5, .one (.ptr 1005 0)), (7, .one (bB r1)), (8, .one (.g (.d (.sl 6 (List.map encApi_Version r2))))), (12, .one (.g (.d (.sl 2 (List.map encApi_Range r4))))), (17, .one (bB r6.2.2)), (18, .one (.ptr 1018 0)), (19, .one (bB r8)), (20, .one (bB r9)), (21, .one (.ptr 1021 0)), (22, .one (.own 2133 (List.map encApi_Version v34.2))), (23, .one (bI .i64 v34.1)), (145, .one (bB y38))], [(1005, some (.blk 64 [bI .i64 q_2.Ranges, bI .i64 q_2.More, bS q_2.Version.Key, bS q_2.Version.Value, bB q_2.Version.Gone, bI .i64 q_2.Version.Stamp.N, bI .i64 q_2.Version.Stamp.Site, .g (.d (.sl 3 (List.map encApi_Dep q_2.Version.Past)))])), (1018, some (.blk 66 [bS r7.V.Key, bS r7.V.Value, bB r7.V.Gone, bI .i64 r7.V.Stamp.N, bI .i64 r7.V.Stamp.Site, .g (.d (.sl 3 (List.map encApi_Dep r7.V.Past))), .g (.d (.sl 6 (List.map encApi_Version r7.L))), bB r7.Is])), (1021, some (.blk 32 [bS q_2.Version.Key, bS y10, bB q_2.Version.Gone, bI .i64 q_2.Version.Stamp.N, bI .i64 q_2.Version.Stamp.Site, .g (.d (.sl 3 (List.map encApi_Dep y3)))])), (2133, some (.row 32 6 (List.map encApi_Version v34.2) true))]⟩) (fun y38 => law14_QueueTells_k10 q_2 r1 r2 y3 r4 r6 r7 r8 r9 y10 again36 v34 y38 = some r) (fun y38 hF => ?_) (fun J42 => ?_)
        · unfold law14_QueueTells_k10 at hF
          refine ifS hF (fun hc39 hF => ?_) (fun hc39 hF => ?_)
          · refine G.cond rfl (fun _ => ?_) (fun hx => by rw [hc39] at hx; cases hx)
            refine G.skip ?_
            refine G.seq ?_
            refine G.block ?_
            refine G.region ?_
            refine G.op1 (op_move (Ev.t 22 (.own 2133 (List.map encApi_Version v34.2))) rfl) rfl ⟨rfl, trivial⟩ trivial ?_
            refine G.op1 (op_move (Ev.t 8 (.g (.d (.sl 6 (List.map encApi_Version r2))))) rfl) rfl ⟨rfl, trivial⟩ trivial ?_
            obtain ⟨x40, hx40, hF⟩ := bindS hF
            refine G.op1 (op_index (cs := [.v (.string x40.Key), .v (.string x40.Value), .v (.bool x40.Gone), .v (.int .i64 x40.Stamp.N), .v (.int .i64 x40.Stamp.Site), .sl 3 (List.map encApi_Dep x40.Past)]) Try.underlying24 ti32 (idx_ok hx40).1 (idx_get hx40 encApi_Version) (Ev.t 149 (.g (.d (.sl 6 (List.map encApi_Version r2))))) (Ev.c _ rfl) rfl) rfl ⟨rfl, trivial⟩ trivial ?_
            refine G.op1 (op_loadAE (ds := [.v (.string x40.Key), .v (.string x40.Value), .v (.bool x40.Gone), .v (.int .i64 x40.Stamp.N), .v (.int .i64 x40.Stamp.Site), .sl 3 (List.map encApi_Dep x40.Past)]) Try.underlying32 rfl ti32 rfl (Ev.t 150 (.ep [.v (.string x40.Key), .v (.string x40.Value), .v (.bool x40.Gone), .v (.int .i64 x40.Stamp.N), .v (.int .i64 x40.Stamp.Site), .sl 3 (List.map encApi_Dep x40.Past)])) rfl) rfl ⟨rfl, trivial⟩ trivial ?_
            refine G.op1 (op_buildSlice (es := List.map encApi_Version [x40]) Try.underlying24 ti32 rfl rfl (EvP.cons (Ev.t 151 (.g (.agg [.v (.string x40.Key), .v (.string x40.Value), .v (.bool x40.Gone), .v (.int .i64 x40.Stamp.N), .v (.int .i64 x40.Stamp.Site), .sl 3 (List.map encApi_Dep x40.Past)]))) EvP.nil) rfl rfl (by simp [encApi_Version]) rfl) rfl ⟨rfl, trivial⟩ trivial ?_
            obtain ⟨l41, hl41, hF⟩ := bindS hF
            refine G.op2 (op_appendO Try.underlying24 ti32 rfl (app_map hl41 encApi_Version) (app_b1 hl41 encApi_Version) (app_b2 hl41 encApi_Version) (Ev.t 148 (.own 2133 (List.map encApi_Version v34.2))) (Ev.t 152 (.g (.d (.sl 6 (List.map encApi_Version ([x40])))))) rfl) rfl ⟨rfl, rfl, trivial⟩ ⟨rfl, trivial⟩ ?_
            refine G.op1 (op_assign (Ev.t 153 (.own 2133 (List.map encApi_Version l41))) rfl) rfl ⟨rfl, trivial⟩ trivial ?_
            refine G.endOps ?_
            refine G.endBlock ?_
            refine G.region ?_
            refine G.op1 (op_move (Ev.t 23 (bI .i64 v34.1)) rfl) rfl ⟨rfl, trivial⟩ trivial ?_
            refine G.op1 (op_add (Ev.t 146 (bI .i64 v34.1)) (Ev.c _ rfl) rfl) rfl ⟨rfl, trivial⟩ trivial ?_
            refine G.op1 (op_assign (Ev.t 147 (bI .i64 (IntKind.wrap .i64 (v34.1 + 1)))) rfl) rfl ⟨rfl, trivial⟩ trivial ?_
            refine G.endOps ?_
            exact G.arr (J35 (IntKind.wrap .i64 (v34.1 + 1), l41) hF) ⟨rfl, rfl, rfl, rfl, rfl, rfl, rfl, rfl, rfl, rfl, rfl, trivial⟩ ⟨rfl, rfl, rfl, rfl, trivial⟩ rfl
          · refine G.cond rfl (fun hx => by rw [hc39] at hx; cases hx) (fun _ => ?_)
            refine G.exit ?_
            refine GX.c ?_
            refine GX.q ?_
            refine GX.bYes ?_
            exact G.arr (J33 v34.2 hF) ⟨rfl, rfl, rfl, rfl, rfl, rfl, rfl, rfl, rfl, trivial⟩ ⟨rfl, rfl, rfl, trivial⟩ rfl
        refine G.region ?_
        refine G.op1 (op_move (Ev.t 23 (bI .i64 v34.1)) rfl) rfl ⟨rfl, trivial⟩ trivial ?_
        refine G.op1 (op_fieldP (off' := 1) Try.underlying64 rfl ti3 (by decide) rfl (Ev.t 5 (.ptr 1005 0)) rfl) rfl ⟨rfl, trivial⟩ trivial ?_
        refine G.op1 (op_load1P (c := bI .i64 q_2.More) Try.underlying3 rfl rfl (Ev.t 137 (.ptr 1005 1)) rfl) rfl ⟨rfl, trivial⟩ ⟨rfl, trivial⟩ ?_
        refine G.op1 (op_and (Ev.t 138 (bI .i64 q_2.More)) (Ev.c _ rfl) rfl) rfl ⟨rfl, trivial⟩ trivial ?_
        refine G.op1 (op_lss (Ev.t 136 (bI .i64 v34.1)) (Ev.t 139 (bI .i64 (IntKind.wrap .i64 (BitVec.ofInt (IntKind.bits .i64) q_2.More &&& BitVec.ofInt (IntKind.bits .i64) 15).toNat))) rfl) rfl ⟨rfl, rfl, trivial⟩ trivial ?_
        refine G.op1 (op_move (Ev.t 140 (bB (decide (v34.1 < (IntKind.wrap .i64 (BitVec.ofInt (IntKind.bits .i64) q_2.More &&& BitVec.ofInt (IntKind.bits .i64) 15).toNat))))) rfl) rfl ⟨rfl, trivial⟩ trivial ?_
        refine ifS hF (fun hc43 hF => ?_) (fun hc43 hF => ?_)
        · refine G.known (t := 141) hc43 rfl ?_
          refine G.opG1 (op_move (Ev.t 8 (.g (.d (.sl 6 (List.map encApi_Version r2))))) rfl) rfl rfl rfl ⟨rfl, trivial⟩ trivial ?_
          refine G.opG1 (OpL.cast (op_lenD Try.underlying24 (Ev.t 142 (.g (.d (.sl 6 (List.map encApi_Version r2))))) rfl) (by rw [List.length_map])) rfl rfl rfl ⟨rfl, trivial⟩ trivial ?_
          refine G.opG1 (op_gtr (Ev.t 143 (bI .i64 (r2.length : Int))) (Ev.c _ rfl) rfl) rfl rfl rfl ⟨rfl, trivial⟩ trivial ?_
          refine G.op1 (op_pickT (Ev.t 141 (bB true)) (Ev.t 144 (bB (decide (0 < (r2.length : Int))))) rfl) rfl ⟨rfl, rfl, trivial⟩ trivial ?_
          refine G.endOps ?_
          exact G.arr (J42 (decide (0 < (r2.length : Int))) hF) ⟨rfl, rfl, rfl, rfl, rfl, rfl, rfl, rfl, rfl, rfl, rfl, rfl, trivial⟩ ⟨rfl, rfl, rfl, rfl, trivial⟩ rfl
        · refine G.known (t := 141) hc43 rfl ?_
          refine G.opN1 rfl rfl rfl rfl rfl ?_
          refine G.opN1 rfl rfl rfl rfl rfl ?_
          refine G.opN1 rfl rfl rfl rfl rfl ?_
          refine G.op1 (op_pickF (Ev.t 141 (bB false)) (Ev.c _ rfl) rfl) rfl ⟨rfl, trivial⟩ trivial ?_
          refine G.endOps ?_
          exact G.arr (J42 false hF) ⟨rfl, rfl, rfl, rfl, rfl, rfl, rfl, rfl, rfl, rfl, rfl, rfl, trivial⟩ ⟨rfl, rfl, rfl, rfl, trivial⟩ rfl
      refine ifS hF (fun hc45 hF => ?_) (fun hc45 hF => ?_)
      · refine G.cond rfl (fun _ => ?_) (fun hx => by rw [hc45] at hx; cases hx)
        refine G.region ?_
        refine G.op1 (op_fieldP (off' := 1) Try.underlying32 rfl ti9 (by decide) rfl (Ev.t 21 (.ptr 1021 0)) rfl) rfl ⟨rfl, trivial⟩ trivial ?_
        refine G.op1 (op_load1P (c := bS q_2.Version.Value) Try.underlying9 rfl rfl (Ev.t 129 (.ptr 1021 1)) rfl) rfl ⟨rfl, trivial⟩ ⟨rfl, trivial⟩ ?_
        obtain ⟨s46, hs46, hF⟩ := bindS hF
        refine G.op1 (OpL.cast (op_sliceS (lo := none) (hi := some 40) Try.underlying9 (ssub_ok hs46).1 (ssub_ok hs46).2.1 (ssub_ok hs46).2.2.1 (Ev.t 130 (bS q_2.Version.Value)) EvO.none (EvO.some (Ev.c _ rfl)) rfl) (congrArg (fun s => bS s) (ssub_ok hs46).2.2.2)) rfl ⟨rfl, trivial⟩ trivial ?_
        refine G.op1 (op_fieldP (off' := 1) Try.underlying32 rfl ti9 (by decide) rfl (Ev.t 21 (.ptr 1021 0)) rfl) rfl ⟨rfl, trivial⟩ trivial ?_
        refine G.op3 (op_store1 (cs' := [bS q_2.Version.Key, bS s46, bB q_2.Version.Gone, bI .i64 q_2.Version.Stamp.N, bI .i64 q_2.Version.Stamp.Site, .g (.d (.sl 3 (List.map encApi_Dep y3)))]) (c := bS s46) trivial ti9 rfl rfl (Ev.t 132 (.ptr 1021 1)) (Ev.t 131 (bS s46))) rfl ⟨rfl, rfl, trivial⟩ ⟨rfl, trivial⟩ ?_
        refine G.endOps ?_
        exact G.arr (J44 s46 hF) ⟨rfl, rfl, rfl, rfl, rfl, rfl, rfl, rfl, rfl, trivial⟩ ⟨rfl, rfl, rfl, trivial⟩ rfl
      · refine G.cond rfl (fun hx => by rw [hc45] at hx; cases hx) (fun _ => ?_)
        refine G.skip ?_
        exact G.arr (J44 q_2.Version.Value hF) ⟨rfl, rfl, rfl, rfl, rfl, rfl, rfl, rfl, rfl, trivial⟩ ⟨rfl, rfl, rfl, trivial⟩ rfl
    refine G.block ?_
    refine G.keep (sl' := [(5, .one (.ptr 1005 0)), (7, .one (bB r1)), (8, .one (.g (.d (.sl 6 (List.map encApi_Version r2))))), (9, .one (.g (.d (.sl 3 (List.map encApi_Dep y3))))), (12, .one (.g (.d (.sl 2 (List.map encApi_Range r4))))), (13, .one (bI .i64 0))]) (hp' := [(1005, some (.blk 64 [bI .i64 q_2.Ranges, bI .i64 q_2.More, bS q_2.Version.Key, bS q_2.Version.Value, bB q_2.Version.Gone, bI .i64 q_2.Version.Stamp.N, bI .i64 q_2.Version.Stamp.Site, .g (.d (.sl 3 (List.map encApi_Dep q_2.Version.Past)))]))]) ⟨rfl, rfl, rfl, rfl, rfl, rfl, trivial⟩ ⟨rfl, trivial⟩ rfl ?_
    refine G.loopF (fun (v48 : Int) => ⟨[(5, .one (.ptr 1005 0)), (7, .one (bB r1)), (8, .one (.g (.d (.sl 6 (List.map encApi_Version r2))))), (9, .one (.g (.d (.sl 3 (List.map encApi_Dep y3))))), (12, .one (.g (.d (.sl 2 (List.map encApi_Range r4))))), (13, .one (bI .i64 v48))], [(1005, some (.blk 64 [bI .i64 q_2.Ranges, bI .i64 q_2.More, bS q_2.Version.Key, bS q_2.Version.Value, bB q_2.Version.Gone, bI .i64 q_2.Version.Stamp.N, bI .i64 q_2.Version.Stamp.Site, .g (.d (.sl 3 (List.map encApi_Dep q_2.Version.Past)))]))]⟩) hF rfl (fun K51 again50 v48 J49 hF => ?_)
    unfold law14_QueueTells_l11 at hF
    refine G.seq ?_
    refine G.seq ?_
    refine G.region ?_
    refine G.op1 (op_move (Ev.t 13 (bI .i64 v48)) rfl) rfl ⟨rfl, trivial⟩ trivial ?_
    refine G.op1 (op_move (Ev.t 8 (.g (.d (.sl 6 (List.map encApi_Version r2))))) rfl) rfl ⟨rfl, trivial⟩ trivial ?_
    refine G.op1 (OpL.cast (op_lenD Try.underlying24 (Ev.t 62 (.g (.d (.sl 6 (List.map encApi_Version r2))))) rfl) (by rw [List.length_map])) rfl ⟨rfl, trivial⟩ trivial ?_
    refine G.op1 (op_lss (Ev.t 61 (bI .i64 v48)) (Ev.t 63 (bI .i64 (r2.length : Int))) rfl) rfl ⟨rfl, rfl, trivial⟩ trivial ?_
    refine G.endOps ?_
    refine ifS hF (fun hc52 hF => ?_) (fun hc52 hF => ?_)
    · refine G.cond rfl (fun _ => ?_) (fun hx => by rw [hc52] at hx; cases hx)
      refine G.skip ?_
      refine G.seq ?_
      refine G.block ?_
      refine G.seq ?_
      obtain ⟨x53, hx53, hF⟩ := bindS hF
      obtain ⟨r54, hr54, hF⟩ := bindS hF
      obtain ⟨x55, hx55, hF⟩ := bindS hF
      obtain ⟨r56, hr56, hF⟩ := bindS hF
      obtain ⟨r57, hr57, hF⟩ := bindS hF
      refine G.drawn (effs := [⟨[(8, .one (.g (.d (.sl 6 (List.map encApi_Version r2)))))], [], [(67, .one (.g (.d (.sl 6 (List.map encApi_Version r2)))))], []⟩, ⟨[(13, .one (bI .i64 v48))], [], [(68, .one (bI .i64 v48))], []⟩, ⟨[(67, .one (.g (.d (.sl 6 (List.map encApi_Version r2))))), (68, .one (bI .i64 v48))], [], [(69, .one (.ep [.v (.string x53.Key), .v (.string x53.Value), .v (.bool x53.Gone), .v (.int .i64 x53.Stamp.N), .v (.int .i64 x53.Stamp.Site), .sl 3 (List.map encApi_Dep x53.Past)]))], []⟩, ⟨[(69, .one (.ep [.v (.string x53.Key), .v (.string x53.Value), .v (.bool x53.Gone), .v (.int .i64 x53.Stamp.N), .v (.int .i64 x53.Stamp.Site), .sl 3 (List.map encApi_Dep x53.Past)]))], [], [(70, .one (.g (.agg [.v (.string x53.Key), .v (.string x53.Value), .v (.bool x53.Gone), .v (.int .i64 x53.Stamp.N), .v (.int .i64 x53.Stamp.Site), .sl 3 (List.map encApi_Dep x53.Past)])))], []⟩, ⟨[(9, .one (.g (.d (.sl 3 (List.map encApi_Dep y3)))))], [], [(71, .one (.g (.d (.sl 3 (List.map encApi_Dep y3)))))], []⟩, ⟨[(12, .one (.g (.d (.sl 2 (List.map encApi_Range r4)))))], [], [(72, .one (.g (.d (.sl 2 (List.map encApi_Range r4)))))], []⟩, ⟨[(70, .one (.g (.agg [.v (.string x53.Key), .v (.string x53.Value), .v (.bool x53.Gone), .v (.int .i64 x53.Stamp.N), .v (.int .i64 x53.Stamp.Site), .sl 3 (List.map encApi_Dep x53.Past)]))), (71, .one (.g (.d (.sl 3 (List.map encApi_Dep y3))))), (72, .one (.g (.d (.sl 2 (List.map encApi_Range r4)))))], [], [(73, .one (.g (.d (.sl 3 (List.map encApi_Dep r54)))))], []⟩, ⟨[(8, .one (.g (.d (.sl 6 (List.map encApi_Version r2)))))], [], [(74, .one (.g (.d (.sl 6 (List.map encApi_Version r2)))))], []⟩, ⟨[(13, .one (bI .i64 v48))], [], [(75, .one (bI .i64 v48))], []⟩, ⟨[(74, .one (.g (.d (.sl 6 (List.map encApi_Version r2))))), (75, .one (bI .i64 v48))], [], [(76, .one (.ep [.v (.string x55.Key), .v (.string x55.Value), .v (.bool x55.Gone), .v (.int .i64 x55.Stamp.N), .v (.int .i64 x55.Stamp.Site), .sl 3 (List.map encApi_Dep x55.Past)]))], []⟩, ⟨[(76, .one (.ep [.v (.string x55.Key), .v (.string x55.Value), .v (.bool x55.Gone), .v (.int .i64 x55.Stamp.N), .v (.int .i64 x55.Stamp.Site), .sl 3 (List.map encApi_Dep x55.Past)]))], [], [(77, .one (.g (.agg [.v (.string x55.Key), .v (.string x55.Value), .v (.bool x55.Gone), .v (.int .i64 x55.Stamp.N), .v (.int .i64 x55.Stamp.Site), .sl 3 (List.map encApi_Dep x55.Past)])))], []⟩, ⟨[(9, .one (.g (.d (.sl 3 (List.map encApi_Dep y3)))))], [], [(78, .one (.g (.d (.sl 3 (List.map encApi_Dep y3)))))], []⟩, ⟨[(12, .one (.g (.d (.sl 2 (List.map encApi_Range r4)))))], [], [(79, .one (.g (.d (.sl 2 (List.map encApi_Range r4)))))], []⟩, ⟨[(77, .one (.g (.agg [.v (.string x55.Key), .v (.string x55.Value), .v (.bool x55.Gone), .v (.int .i64 x55.Stamp.N), .v (.int .i64 x55.Stamp.Site), .sl 3 (List.map encApi_Dep x55.Past)]))), (78, .one (.g (.d (.sl 3 (List.map encApi_Dep y3))))), (79, .one (.g (.d (.sl 2 (List.map encApi_Range r4)))))], [], [(80, .one (.g (.d (.sl 3 (List.map encApi_Dep r56)))))], []⟩, ⟨[(73, .one (.g (.d (.sl 3 (List.map encApi_Dep r54))))), (80, .one (.g (.d (.sl 3 (List.map encApi_Dep r56)))))], [], [(81, .one (bB r57))], []⟩, ⟨[(81, .one (bB r57))], [], [(14, .one (bB r57))], []⟩]) (deps := [[], [], [0, 1], [0, 1, 2], [], [], [0, 1, 2, 3, 4, 5], [], [], [7, 8], [7, 8, 9], [], [], [0, 1, 2, 3, 4, 5, 6, 7, 8, 9, 10, 11, 12], [0, 1, 2, 3, 4, 5, 6, 7, 8, 9, 10, 11, 12, 13], [0, 1, 2, 3, 4, 5, 6, 7, 8, 9, 10, 11, 12, 13, 14]]) (sl' := [(5, .one (.ptr 1005 0)), (7, .one (bB r1)), (8, .one (.g (.d (.sl 6 (List.map encApi_Version r2))))), (9, .one (.g (.d (.sl 3 (List.map encApi_Dep y3))))), (12, .one (.g (.d (.sl 2 (List.map encApi_Range r4))))), (13, .one (bI .i64 v48)), (14, .one (bB r57))]) (hp' := [(1005, some (.blk 64 [bI .i64 q_2.Ranges, bI .i64 q_2.More, bS q_2.Version.Key, bS q_2.Version.Value, bB q_2.Version.Gone, bI .i64 q_2.Version.Stamp.N, bI .i64 q_2.Version.Stamp.Site, .g (.d (.sl 3 (List.map encApi_Dep q_2.Version.Past)))]))]) follows rfl rfl rfl ⟨⟨rfl, trivial⟩, trivial, ⟨rfl, trivial⟩, trivial, ⟨rfl, rfl, trivial⟩, trivial, ⟨rfl, trivial⟩, trivial, ⟨rfl, trivial⟩, trivial, ⟨rfl, trivial⟩, trivial, ⟨rfl, rfl, rfl, trivial⟩, trivial, ⟨rfl, trivial⟩, trivial, ⟨rfl, trivial⟩, trivial, ⟨rfl, rfl, trivial⟩, trivial, ⟨rfl, trivial⟩, trivial, ⟨rfl, trivial⟩, trivial, ⟨rfl, trivial⟩, trivial, ⟨rfl, rfl, rfl, trivial⟩, trivial, ⟨rfl, rfl, trivial⟩, trivial, ⟨rfl, trivial⟩, trivial, trivial⟩ ⟨OpW.plain (op_move (Ev.t 8 (.g (.d (.sl 6 (List.map encApi_Version r2))))) rfl) rfl rfl, OpW.plain (op_move (Ev.t 13 (bI .i64 v48)) rfl) rfl rfl, OpW.plain (op_index (cs := [.v (.string x53.Key), .v (.string x53.Value), .v (.bool x53.Gone), .v (.int .i64 x53.Stamp.N), .v (.int .i64 x53.Stamp.Site), .sl 3 (List.map encApi_Dep x53.Past)]) Try.underlying24 ti32 (idx_ok hx53).1 (idx_get hx53 encApi_Version) (Ev.t 67 (.g (.d (.sl 6 (List.map encApi_Version r2))))) (Ev.t 68 (bI .i64 v48)) rfl) rfl rfl, OpW.plain (op_loadAE (ds := [.v (.string x53.Key), .v (.string x53.Value), .v (.bool x53.Gone), .v (.int .i64 x53.Stamp.N), .v (.int .i64 x53.Stamp.Site), .sl 3 (List.map encApi_Dep x53.Past)]) Try.underlying32 rfl ti32 rfl (Ev.t 69 (.ep [.v (.string x53.Key), .v (.string x53.Value), .v (.bool x53.Gone), .v (.int .i64 x53.Stamp.N), .v (.int .i64 x53.Stamp.Site), .sl 3 (List.map encApi_Dep x53.Past)])) rfl) rfl rfl, OpW.plain (op_move (Ev.t 9 (.g (.d (.sl 3 (List.map encApi_Dep y3))))) rfl) rfl rfl, OpW.plain (op_move (Ev.t 12 (.g (.d (.sl 2 (List.map encApi_Range r4))))) rfl) rfl rfl, OpW.plain (op_call (sv := .one (.g (.d (.sl 3 (List.map encApi_Dep r54))))) cf16 (ct_queue_Misses x53 y3 r4 r54 hr54) rfl (EvL.cons (Ev.t 70 (.g (.agg [.v (.string x53.Key), .v (.string x53.Value), .v (.bool x53.Gone), .v (.int .i64 x53.Stamp.N), .v (.int .i64 x53.Stamp.Site), .sl 3 (List.map encApi_Dep x53.Past)]))) (EvL.cons (Ev.t 71 (.g (.d (.sl 3 (List.map encApi_Dep y3))))) (EvL.cons (Ev.t 72 (.g (.d (.sl 2 (List.map encApi_Range r4))))) EvL.nil))) rfl) rfl rfl, OpW.plain (op_move (Ev.t 8 (.g (.d (.sl 6 (List.map encApi_Version r2))))) rfl) rfl rfl, OpW.plain (op_move (Ev.t 13 (bI .i64 v48)) rfl) rfl rfl, OpW.plain (op_index (cs := [.v (.string x55.Key), .v (.string x55.Value), .v (.bool x55.Gone), .v (.int .i64 x55.Stamp.N), .v (.int .i64 x55.Stamp.Site), .sl 3 (List.map encApi_Dep x55.Past)]) Try.underlying24 ti32 (idx_ok hx55).1 (idx_get hx55 encApi_Version) (Ev.t 74 (.g (.d (.sl 6 (List.map encApi_Version r2))))) (Ev.t 75 (bI .i64 v48)) rfl) rfl rfl, OpW.plain (op_loadAE (ds := [.v (.string x55.Key), .v (.string x55.Value), .v (.bool x55.Gone), .v (.int .i64 x55.Stamp.N), .v (.int .i64 x55.Stamp.Site), .sl 3 (List.map encApi_Dep x55.Past)]) Try.underlying32 rfl ti32 rfl (Ev.t 76 (.ep [.v (.string x55.Key), .v (.string x55.Value), .v (.bool x55.Gone), .v (.int .i64 x55.Stamp.N), .v (.int .i64 x55.Stamp.Site), .sl 3 (List.map encApi_Dep x55.Past)])) rfl) rfl rfl, OpW.plain (op_move (Ev.t 9 (.g (.d (.sl 3 (List.map encApi_Dep y3))))) rfl) rfl rfl, OpW.plain (op_move (Ev.t 12 (.g (.d (.sl 2 (List.map encApi_Range r4))))) rfl) rfl rfl, OpW.plain (op_call (sv := .one (.g (.d (.sl 3 (List.map encApi_Dep r56))))) cf27 (ct_ref14_Misses x55 y3 r4 r56 hr56) rfl (EvL.cons (Ev.t 77 (.g (.agg [.v (.string x55.Key), .v (.string x55.Value), .v (.bool x55.Gone), .v (.int .i64 x55.Stamp.N), .v (.int .i64 x55.Stamp.Site), .sl 3 (List.map encApi_Dep x55.Past)]))) (EvL.cons (Ev.t 78 (.g (.d (.sl 3 (List.map encApi_Dep y3))))) (EvL.cons (Ev.t 79 (.g (.d (.sl 2 (List.map encApi_Range r4))))) EvL.nil))) rfl) rfl rfl, OpW.plain (op_callQ (sv := .one (bB r57)) cf26 (ct_ref04_Same r54 r56 r57 hr57) rfl rfl (EvQL.cons (EvQ.g (Ev.t 73 (.g (.d (.sl 3 (List.map encApi_Dep r54)))))) (EvQL.cons (EvQ.g (Ev.t 80 (.g (.d (.sl 3 (List.map encApi_Dep r56)))))) EvQL.nil)) rfl) rfl rfl, OpW.plain (op_assign (Ev.t 81 (bB r57)) rfl) rfl rfl, trivial⟩ ⟨rfl, rfl, rfl, rfl, rfl, rfl, rfl, trivial⟩ ⟨rfl, trivial⟩ rfl ?_
      refine G.seq ?_
      refine ifS hF (fun hc58 hF => ?_) (fun hc58 hF => ?_)
      · refine G.drawn (effs := [⟨[(14, .one (bB r57))], [], [(82, .one (bB r57))], []⟩, ⟨[(82, .one (bB r57))], [], [(83, .one (bB true))], []⟩, ⟨[(83, .one (bB true))], [], [(84, .one (bB true))], []⟩, ⟨[(84, .one (bB true))], [], [(85, .one (.x Go.undef))], []⟩, ⟨[(84, .one (bB true))], [], [(86, .one (.x Go.undef))], []⟩, ⟨[(84, .one (bB true))], [], [(87, .one (.x Go.undef))], []⟩, ⟨[(84, .one (bB true))], [], [(88, .one (.x Go.undef))], []⟩, ⟨[(84, .one (bB true))], [], [(89, .one (.x Go.undef))], []⟩, ⟨[(84, .one (bB true))], [], [(90, .one (.x Go.undef))], []⟩, ⟨[(84, .one (bB true))], [], [(91, .one (.x Go.undef))], []⟩, ⟨[(84, .one (bB true))], [], [(92, .one (.x Go.undef))], []⟩, ⟨[(84, .one (bB true))], [], [(93, .one (.x Go.undef))], []⟩, ⟨[(84, .one (bB true))], [], [(94, .one (.x Go.undef))], []⟩, ⟨[(84, .one (bB true))], [], [(95, .one (.x Go.undef))], []⟩, ⟨[(84, .one (bB true))], [], [(96, .one (.x Go.undef))], []⟩, ⟨[(84, .one (bB true))], [], [(97, .one (.x Go.undef))], []⟩, ⟨[(84, .one (bB true))], [], [(98, .one (.x Go.undef))], []⟩, ⟨[(84, .one (bB true))], [], [(99, .one (.x Go.undef))], []⟩, ⟨[(84, .one (bB true))], [], [(100, .one (bB true))], []⟩]) (deps := [[], [0], [0, 1], [0, 1, 2], [0, 1, 2], [0, 1, 2, 3, 4], [0, 1, 2, 3, 4, 5], [0, 1, 2], [0, 1, 2], [0, 1, 2, 3, 4, 5, 6, 7, 8], [0, 1, 2], [0, 1, 2], [0, 1, 2, 10, 11], [0, 1, 2, 10, 11, 12], [0, 1, 2], [0, 1, 2], [0, 1, 2, 3, 4, 5, 6, 7, 8, 9, 10, 11, 12, 13, 14, 15], [0, 1, 2, 3, 4, 5, 6, 7, 8, 9, 10, 11, 12, 13, 14, 15, 16], [0, 1, 2, 3, 4, 5, 6, 7, 8, 9, 10, 11, 12, 13, 14, 15, 16, 17]]) (sl' := [(5, .one (.ptr 1005 0)), (7, .one (bB r1)), (8, .one (.g (.d (.sl 6 (List.map encApi_Version r2))))), (9, .one (.g (.d (.sl 3 (List.map encApi_Dep y3))))), (12, .one (.g (.d (.sl 2 (List.map encApi_Range r4))))), (13, .one (bI .i64 v48)), (100, .one (bB true))]) (hp' := [(1005, some (.blk 64 [bI .i64 q_2.Ranges, bI .i64 q_2.More, bS q_2.Version.Key, bS q_2.Version.Value, bB q_2.Version.Gone, bI .i64 q_2.Version.Stamp.N, bI .i64 q_2.Version.Stamp.Site, .g (.d (.sl 3 (List.map encApi_Dep q_2.Version.Past)))]))]) follows rfl rfl rfl ⟨⟨rfl, trivial⟩, trivial, ⟨rfl, trivial⟩, trivial, ⟨rfl, trivial⟩, trivial, ⟨rfl, trivial⟩, trivial, ⟨rfl, trivial⟩, trivial, ⟨rfl, trivial⟩, trivial, ⟨rfl, trivial⟩, trivial, ⟨rfl, trivial⟩, trivial, ⟨rfl, trivial⟩, trivial, ⟨rfl, trivial⟩, trivial, ⟨rfl, trivial⟩, trivial, ⟨rfl, trivial⟩, trivial, ⟨rfl, trivial⟩, trivial, ⟨rfl, trivial⟩, trivial, ⟨rfl, trivial⟩, trivial, ⟨rfl, trivial⟩, trivial, ⟨rfl, trivial⟩, trivial, ⟨rfl, trivial⟩, trivial, ⟨rfl, trivial⟩, trivial, trivial⟩ ⟨OpW.plain (op_move (Ev.t 14 (bB r57)) rfl) rfl rfl, OpW.plain (OpL.cast (op_not (Ev.t 82 (bB r57)) rfl) (congrArg (fun b => bB b) hc58)) rfl rfl, OpW.plain (op_move (Ev.t 83 (bB true)) rfl) rfl rfl, OpW.no rfl rfl rfl rfl rfl, OpW.no rfl rfl rfl rfl rfl, OpW.no rfl rfl rfl rfl rfl, OpW.no rfl rfl rfl rfl rfl, OpW.no rfl rfl rfl rfl rfl, OpW.no rfl rfl rfl rfl rfl, OpW.no rfl rfl rfl rfl rfl, OpW.no rfl rfl rfl rfl rfl, OpW.no rfl rfl rfl rfl rfl, OpW.no rfl rfl rfl rfl rfl, OpW.no rfl rfl rfl rfl rfl, OpW.no rfl rfl rfl rfl rfl, OpW.no rfl rfl rfl rfl rfl, OpW.no rfl rfl rfl rfl rfl, OpW.no rfl rfl rfl rfl rfl, OpW.plain (op_pickT (Ev.t 84 (bB true)) (Ev.c _ rfl) rfl) rfl rfl, trivial⟩ ⟨rfl, rfl, rfl, rfl, rfl, rfl, rfl, trivial⟩ ⟨rfl, trivial⟩ rfl ?_
        refine G.condT rfl ?_
        refine G.seq ?_
        refine G.region ?_
        refine G.op1 (op_assign (Ev.c _ rfl) rfl) rfl trivial trivial ?_
        refine G.endOps ?_
        cases hF
        exact G.ret1 Try.results8 (RVar.tmp 6 _) ⟨rfl, trivial⟩ trivial
      · obtain ⟨x59, hx59, hF⟩ := bindS hF
        obtain ⟨r60, hr60, hF⟩ := bindS hF
        obtain ⟨x61, hx61, hF⟩ := bindS hF
        obtain ⟨r62, hr62, hF⟩ := bindS hF
        refine G.drawn (effs := [⟨[(14, .one (bB r57))], [], [(82, .one (bB r57))], []⟩, ⟨[(82, .one (bB r57))], [], [(83, .one (bB false))], []⟩, ⟨[(83, .one (bB false))], [], [(84, .one (bB false))], []⟩, ⟨[(84, .one (bB false)), (8, .one (.g (.d (.sl 6 (List.map encApi_Version r2)))))], [], [(85, .one (.g (.d (.sl 6 (List.map encApi_Version r2)))))], []⟩, ⟨[(84, .one (bB false)), (13, .one (bI .i64 v48))], [], [(86, .one (bI .i64 v48))], []⟩, ⟨[(84, .one (bB false)), (85, .one (.g (.d (.sl 6 (List.map encApi_Version r2))))), (86, .one (bI .i64 v48))], [], [(87, .one (.ep [.v (.string x59.Key), .v (.string x59.Value), .v (.bool x59.Gone), .v (.int .i64 x59.Stamp.N), .v (.int .i64 x59.Stamp.Site), .sl 3 (List.map encApi_Dep x59.Past)]))], []⟩, ⟨[(84, .one (bB false)), (87, .one (.ep [.v (.string x59.Key), .v (.string x59.Value), .v (.bool x59.Gone), .v (.int .i64 x59.Stamp.N), .v (.int .i64 x59.Stamp.Site), .sl 3 (List.map encApi_Dep x59.Past)]))], [], [(88, .one (.g (.agg [.v (.string x59.Key), .v (.string x59.Value), .v (.bool x59.Gone), .v (.int .i64 x59.Stamp.N), .v (.int .i64 x59.Stamp.Site), .sl 3 (List.map encApi_Dep x59.Past)])))], []⟩, ⟨[(84, .one (bB false)), (9, .one (.g (.d (.sl 3 (List.map encApi_Dep y3)))))], [], [(89, .one (.g (.d (.sl 3 (List.map encApi_Dep y3)))))], []⟩, ⟨[(84, .one (bB false)), (12, .one (.g (.d (.sl 2 (List.map encApi_Range r4)))))], [], [(90, .one (.g (.d (.sl 2 (List.map encApi_Range r4)))))], []⟩, ⟨[(84, .one (bB false)), (88, .one (.g (.agg [.v (.string x59.Key), .v (.string x59.Value), .v (.bool x59.Gone), .v (.int .i64 x59.Stamp.N), .v (.int .i64 x59.Stamp.Site), .sl 3 (List.map encApi_Dep x59.Past)]))), (89, .one (.g (.d (.sl 3 (List.map encApi_Dep y3))))), (90, .one (.g (.d (.sl 2 (List.map encApi_Range r4)))))], [], [(91, .one (bB r60))], []⟩, ⟨[(84, .one (bB false)), (8, .one (.g (.d (.sl 6 (List.map encApi_Version r2)))))], [], [(92, .one (.g (.d (.sl 6 (List.map encApi_Version r2)))))], []⟩, ⟨[(84, .one (bB false)), (13, .one (bI .i64 v48))], [], [(93, .one (bI .i64 v48))], []⟩, ⟨[(84, .one (bB false)), (92, .one (.g (.d (.sl 6 (List.map encApi_Version r2))))), (93, .one (bI .i64 v48))], [], [(94, .one (.ep [.v (.string x61.Key), .v (.string x61.Value), .v (.bool x61.Gone), .v (.int .i64 x61.Stamp.N), .v (.int .i64 x61.Stamp.Site), .sl 3 (List.map encApi_Dep x61.Past)]))], []⟩, ⟨[(84, .one (bB false)), (94, .one (.ep [.v (.string x61.Key), .v (.string x61.Value), .v (.bool x61.Gone), .v (.int .i64 x61.Stamp.N), .v (.int .i64 x61.Stamp.Site), .sl 3 (List.map encApi_Dep x61.Past)]))], [], [(95, .one (.g (.agg [.v (.string x61.Key), .v (.string x61.Value), .v (.bool x61.Gone), .v (.int .i64 x61.Stamp.N), .v (.int .i64 x61.Stamp.Site), .sl 3 (List.map encApi_Dep x61.Past)])))], []⟩, ⟨[(84, .one (bB false)), (9, .one (.g (.d (.sl 3 (List.map encApi_Dep y3)))))], [], [(96, .one (.g (.d (.sl 3 (List.map encApi_Dep y3)))))], []⟩, ⟨[(84, .one (bB false)), (12, .one (.g (.d (.sl 2 (List.map encApi_Range r4)))))], [], [(97, .one (.g (.d (.sl 2 (List.map encApi_Range r4)))))], []⟩, ⟨[(84, .one (bB false)), (95, .one (.g (.agg [.v (.string x61.Key), .v (.string x61.Value), .v (.bool x61.Gone), .v (.int .i64 x61.Stamp.N), .v (.int .i64 x61.Stamp.Site), .sl 3 (List.map encApi_Dep x61.Past)]))), (96, .one (.g (.d (.sl 3 (List.map encApi_Dep y3))))), (97, .one (.g (.d (.sl 2 (List.map encApi_Range r4)))))], [], [(98, .one (bB r62))], []⟩, ⟨[(84, .one (bB false)), (91, .one (bB r60)), (98, .one (bB r62))], [], [(99, .one (bB (!(r60 == r62))))], []⟩, ⟨[(84, .one (bB false)), (99, .one (bB (!(r60 == r62))))], [], [(100, .one (bB (!(r60 == r62))))], []⟩]) (deps := [[], [0], [0, 1], [0, 1, 2], [0, 1, 2], [0, 1, 2, 3, 4], [0, 1, 2, 3, 4, 5], [0, 1, 2], [0, 1, 2], [0, 1, 2, 3, 4, 5, 6, 7, 8], [0, 1, 2], [0, 1, 2], [0, 1, 2, 10, 11], [0, 1, 2, 10, 11, 12], [0, 1, 2], [0, 1, 2], [0, 1, 2, 3, 4, 5, 6, 7, 8, 9, 10, 11, 12, 13, 14, 15], [0, 1, 2, 3, 4, 5, 6, 7, 8, 9, 10, 11, 12, 13, 14, 15, 16], [0, 1, 2, 3, 4, 5, 6, 7, 8, 9, 10, 11, 12, 13, 14, 15, 16, 17]]) (sl' := [(5, .one (.ptr 1005 0)), (7, .one (bB r1)), (8, .one (.g (.d (.sl 6 (List.map encApi_Version r2))))), (9, .one (.g (.d (.sl 3 (List.map encApi_Dep y3))))), (12, .one (.g (.d (.sl 2 (List.map encApi_Range r4))))), (13, .one (bI .i64 v48)), (100, .one (bB (!(r60 == r62))))]) (hp' := [(1005, some (.blk 64 [bI .i64 q_2.Ranges, bI .i64 q_2.More, bS q_2.Version.Key, bS q_2.Version.Value, bB q_2.Version.Gone, bI .i64 q_2.Version.Stamp.N, bI .i64 q_2.Version.Stamp.Site, .g (.d (.sl 3 (List.map encApi_Dep q_2.Version.Past)))]))]) follows rfl rfl rfl ⟨⟨rfl, trivial⟩, trivial, ⟨rfl, trivial⟩, trivial, ⟨rfl, trivial⟩, trivial, ⟨rfl, rfl, trivial⟩, trivial, ⟨rfl, rfl, trivial⟩, trivial, ⟨rfl, rfl, rfl, trivial⟩, trivial, ⟨rfl, rfl, trivial⟩, trivial, ⟨rfl, rfl, trivial⟩, trivial, ⟨rfl, rfl, trivial⟩, trivial, ⟨rfl, rfl, rfl, rfl, trivial⟩, trivial, ⟨rfl, rfl, trivial⟩, trivial, ⟨rfl, rfl, trivial⟩, trivial, ⟨rfl, rfl, rfl, trivial⟩, trivial, ⟨rfl, rfl, trivial⟩, trivial, ⟨rfl, rfl, trivial⟩, trivial, ⟨rfl, rfl, trivial⟩, trivial, ⟨rfl, rfl, rfl, rfl, trivial⟩, trivial, ⟨rfl, rfl, rfl, trivial⟩, trivial, ⟨rfl, rfl, trivial⟩, trivial, trivial⟩ ⟨OpW.plain (op_move (Ev.t 14 (bB r57)) rfl) rfl rfl, OpW.plain (OpL.cast (op_not (Ev.t 82 (bB r57)) rfl) (congrArg (fun b => bB b) hc58)) rfl rfl, OpW.plain (op_move (Ev.t 83 (bB false)) rfl) rfl rfl, OpW.yes (op_move (Ev.t 8 (.g (.d (.sl 6 (List.map encApi_Version r2))))) rfl) rfl rfl rfl, OpW.yes (op_move (Ev.t 13 (bI .i64 v48)) rfl) rfl rfl rfl, OpW.yes (op_index (cs := [.v (.string x59.Key), .v (.string x59.Value), .v (.bool x59.Gone), .v (.int .i64 x59.Stamp.N), .v (.int .i64 x59.Stamp.Site), .sl 3 (List.map encApi_Dep x59.Past)]) Try.underlying24 ti32 (idx_ok hx59).1 (idx_get hx59 encApi_Version) (Ev.t 85 (.g (.d (.sl 6 (List.map encApi_Version r2))))) (Ev.t 86 (bI .i64 v48)) rfl) rfl rfl rfl, OpW.yes (op_loadAE (ds := [.v (.string x59.Key), .v (.string x59.Value), .v (.bool x59.Gone), .v (.int .i64 x59.Stamp.N), .v (.int .i64 x59.Stamp.Site), .sl 3 (List.map encApi_Dep x59.Past)]) Try.underlying32 rfl ti32 rfl (Ev.t 87 (.ep [.v (.string x59.Key), .v (.string x59.Value), .v (.bool x59.Gone), .v (.int .i64 x59.Stamp.N), .v (.int .i64 x59.Stamp.Site), .sl 3 (List.map encApi_Dep x59.Past)])) rfl) rfl rfl rfl, OpW.yes (op_move (Ev.t 9 (.g (.d (.sl 3 (List.map encApi_Dep y3))))) rfl) rfl rfl rfl, OpW.yes (op_move (Ev.t 12 (.g (.d (.sl 2 (List.map encApi_Range r4))))) rfl) rfl rfl rfl, OpW.yes (op_callQ (sv := .one (bB r60)) cf20 (ct_queue_Check x59 y3 r4 r60 hr60) rfl rfl (EvQL.cons (EvQ.g (Ev.t 88 (.g (.agg [.v (.string x59.Key), .v (.string x59.Value), .v (.bool x59.Gone), .v (.int .i64 x59.Stamp.N), .v (.int .i64 x59.Stamp.Site), .sl 3 (List.map encApi_Dep x59.Past)])))) (EvQL.cons (EvQ.g (Ev.t 89 (.g (.d (.sl 3 (List.map encApi_Dep y3)))))) (EvQL.cons (EvQ.g (Ev.t 90 (.g (.d (.sl 2 (List.map encApi_Range r4)))))) EvQL.nil))) rfl) rfl rfl rfl, OpW.yes (op_move (Ev.t 8 (.g (.d (.sl 6 (List.map encApi_Version r2))))) rfl) rfl rfl rfl, OpW.yes (op_move (Ev.t 13 (bI .i64 v48)) rfl) rfl rfl rfl, OpW.yes (op_index (cs := [.v (.string x61.Key), .v (.string x61.Value), .v (.bool x61.Gone), .v (.int .i64 x61.Stamp.N), .v (.int .i64 x61.Stamp.Site), .sl 3 (List.map encApi_Dep x61.Past)]) Try.underlying24 ti32 (idx_ok hx61).1 (idx_get hx61 encApi_Version) (Ev.t 92 (.g (.d (.sl 6 (List.map encApi_Version r2))))) (Ev.t 93 (bI .i64 v48)) rfl) rfl rfl rfl, OpW.yes (op_loadAE (ds := [.v (.string x61.Key), .v (.string x61.Value), .v (.bool x61.Gone), .v (.int .i64 x61.Stamp.N), .v (.int .i64 x61.Stamp.Site), .sl 3 (List.map encApi_Dep x61.Past)]) Try.underlying32 rfl ti32 rfl (Ev.t 94 (.ep [.v (.string x61.Key), .v (.string x61.Value), .v (.bool x61.Gone), .v (.int .i64 x61.Stamp.N), .v (.int .i64 x61.Stamp.Site), .sl 3 (List.map encApi_Dep x61.Past)])) rfl) rfl rfl rfl, OpW.yes (op_move (Ev.t 9 (.g (.d (.sl 3 (List.map encApi_Dep y3))))) rfl) rfl rfl rfl, OpW.yes (op_move (Ev.t 12 (.g (.d (.sl 2 (List.map encApi_Range r4))))) rfl) rfl rfl rfl, OpW.yes (op_callQ (sv := .one (bB r62)) cf28 (ct_ref14_Check x61 y3 r4 r62 hr62) rfl rfl (EvQL.cons (EvQ.g (Ev.t 95 (.g (.agg [.v (.string x61.Key), .v (.string x61.Value), .v (.bool x61.Gone), .v (.int .i64 x61.Stamp.N), .v (.int .i64 x61.Stamp.Site), .sl 3 (List.map encApi_Dep x61.Past)])))) (EvQL.cons (EvQ.g (Ev.t 96 (.g (.d (.sl 3 (List.map encApi_Dep y3)))))) (EvQL.cons (EvQ.g (Ev.t 97 (.g (.d (.sl 2 (List.map encApi_Range r4)))))) EvQL.nil))) rfl) rfl rfl rfl, OpW.yes (op_neB Try.underlying4 (Ev.t 91 (bB r60)) (Ev.t 98 (bB r62)) rfl) rfl rfl rfl, OpW.plain (op_pickF (Ev.t 84 (bB false)) (Ev.t 99 (bB (!(r60 == r62)))) rfl) rfl rfl, trivial⟩ ⟨rfl, rfl, rfl, rfl, rfl, rfl, rfl, trivial⟩ ⟨rfl, trivial⟩ rfl ?_
        refine ifS hF (fun hc63 hF => ?_) (fun hc63 hF => ?_)
        · refine G.cond rfl (fun _ => ?_) (fun hx => by rw [hc63] at hx; cases hx)
          refine G.seq ?_
          refine G.region ?_
          refine G.op1 (op_assign (Ev.c _ rfl) rfl) rfl trivial trivial ?_
          refine G.endOps ?_
          cases hF
          exact G.ret1 Try.results8 (RVar.tmp 6 _) ⟨rfl, trivial⟩ trivial
        · refine G.cond rfl (fun hx => by rw [hc63] at hx; cases hx) (fun _ => ?_)
          refine G.skip ?_
          refine G.endBlock ?_
          refine G.region ?_
          refine G.op1 (op_move (Ev.t 13 (bI .i64 v48)) rfl) rfl ⟨rfl, trivial⟩ trivial ?_
          refine G.op1 (op_add (Ev.t 65 (bI .i64 v48)) (Ev.c _ rfl) rfl) rfl ⟨rfl, trivial⟩ trivial ?_
          refine G.op1 (op_assign (Ev.t 66 (bI .i64 (IntKind.wrap .i64 (v48 + 1)))) rfl) rfl ⟨rfl, trivial⟩ trivial ?_
          refine G.endOps ?_
          exact G.arr (J49 (IntKind.wrap .i64 (v48 + 1)) hF) ⟨rfl, rfl, rfl, rfl, rfl, rfl, trivial⟩ ⟨rfl, trivial⟩ rfl
    · refine G.cond rfl (fun hx => by rw [hc52] at hx; cases hx) (fun _ => ?_)
      refine G.exit ?_
      refine GX.c ?_
      refine GX.q ?_
      refine GX.bYes ?_
      exact G.arr (J47 () hF) ⟨rfl, rfl, rfl, rfl, rfl, trivial⟩ ⟨rfl, trivial⟩ rfl
  refine G.block ?_
  refine G.keep (sl' := [(1, .one (.g (.d (.sl 3 (List.map encApi_Dep have_1))))), (5, .one (.ptr 1005 0)), (7, .one (bB r1)), (8, .one (.g (.d (.sl 6 (List.map encApi_Version r2))))), (9, .one (.g (.d (.sl 3 (List.map encApi_Dep ([] : (List Api_Dep))))))), (10, .one (bI .i64 0))]) (hp' := [(1005, some (.blk 64 [bI .i64 q_2.Ranges, bI .i64 q_2.More, bS q_2.Version.Key, bS q_2.Version.Value, bB q_2.Version.Gone, bI .i64 q_2.Version.Stamp.N, bI .i64 q_2.Version.Stamp.Site, .g (.d (.sl 3 (List.map encApi_Dep q_2.Version.Past)))]))]) ⟨rfl, rfl, rfl, rfl, rfl, rfl, trivial⟩ ⟨rfl, trivial⟩ rfl ?_
  refine G.loopF (fun (v65 : (List Api_Dep) × Int) => ⟨[(1, .one (.g (.d (.sl 3 (List.map encApi_Dep have_1))))), (5, .one (.ptr 1005 0)), (7, .one (bB r1)), (8, .one (.g (.d (.sl 6 (List.map encApi_Version r2))))), (9, .one (.g (.d (.sl 3 (List.map encApi_Dep v65.1))))), (10, .one (bI .i64 v65.2))], [(1005, some (.blk 64 [bI .i64 q_2.Ranges, bI .i64 q_2.More, bS q_2.Version.Key, bS q_2.Version.Value, bB q_2.Version.Gone, bI .i64 q_2.Version.Stamp.N, bI .i64 q_2.Version.Stamp.Site, .g (.d (.sl 3 (List.map encApi_Dep q_2.Version.Past)))]))]⟩) hF rfl (fun K68 again67 v65 J66 hF => ?_)
  unfold law14_QueueTells_l12 at hF
  refine G.seq ?_
  refine G.seq ?_
  refine G.joinC (T := Bool) (fun y69 => ⟨[(1, .one (.g (.d (.sl 3 (List.map encApi_Dep have_1))))), (5, .one (.ptr 1005 0)), (7, .one (bB r1)), (8, .one (.g (.d (.sl 6 (List.map encApi_Version r2))))), (9, .one (.g (.d (.sl 3 (List.map encApi_Dep v65.1))))), (10, .one (bI .i64 v65.2)), (40, .one (bB y69))], [(1005, some (.blk 64 [bI .i64 q_2.Ranges, bI .i64 q_2.More, bS q_2.Version.Key, bS q_2.Version.Value, bB q_2.Version.Gone, bI .i64 q_2.Version.Stamp.N, bI .i64 q_2.Version.Stamp.Site, .g (.d (.sl 3 (List.map encApi_Dep q_2.Version.Past)))]))]⟩) (fun y69 => law14_QueueTells_k13 have_1 q_2 r1 r2 again67 v65 y69 = some r) (fun y69 hF => ?_) (fun J77 => ?_)
  · unfold law14_QueueTells_k13 at hF
    refine ifS hF (fun hc70 hF => ?_) (fun hc70 hF => ?_)
    · refine G.cond rfl (fun _ => ?_) (fun hx => by rw [hc70] at hx; cases hx)
      refine G.skip ?_
      refine G.seq ?_
      refine G.block ?_
      refine G.seq ?_
      refine G.region ?_
      refine G.op1 (op_move (Ev.t 1 (.g (.d (.sl 3 (List.map encApi_Dep have_1))))) rfl) rfl ⟨rfl, trivial⟩ trivial ?_
      refine G.op1 (op_move (Ev.t 10 (bI .i64 v65.2)) rfl) rfl ⟨rfl, trivial⟩ trivial ?_
      obtain ⟨x71, hx71, hF⟩ := bindS hF
      refine G.op1 (op_index (cs := [.v (.string x71.Key), .v (.int .i64 x71.Stamp.N), .v (.int .i64 x71.Stamp.Site)]) Try.underlying30 ti39 (idx_ok hx71).1 (idx_get hx71 encApi_Dep) (Ev.t 43 (.g (.d (.sl 3 (List.map encApi_Dep have_1))))) (Ev.t 44 (bI .i64 v65.2)) rfl) rfl ⟨rfl, rfl, trivial⟩ trivial ?_
      refine G.op1 (op_loadAE (ds := [.v (.string x71.Key), .v (.int .i64 x71.Stamp.N), .v (.int .i64 x71.Stamp.Site)]) Try.underlying39 rfl ti39 rfl (Ev.t 45 (.ep [.v (.string x71.Key), .v (.int .i64 x71.Stamp.N), .v (.int .i64 x71.Stamp.Site)])) rfl) rfl ⟨rfl, trivial⟩ trivial ?_
      refine G.op2 (op_alloc (k := 1011) (cs := [bS ByteArray.empty, bI .i64 0, bI .i64 0]) ti39 ⟨.v _ rfl, .v _ rfl, .v _ rfl, trivial⟩ rfl) rfl trivial ⟨rfl, trivial⟩ ?_
      refine G.op3 (op_storeA (cs' := [bS x71.Key, bI .i64 x71.Stamp.N, bI .i64 x71.Stamp.Site]) ti39 rfl rfl (Ev.t 11 (.ptr 1011 0)) (Ev.t 46 (.g (.agg [.v (.string x71.Key), .v (.int .i64 x71.Stamp.N), .v (.int .i64 x71.Stamp.Site)])))) rfl ⟨rfl, rfl, trivial⟩ ⟨rfl, trivial⟩ ?_
      refine G.endOps ?_
      refine G.seq ?_
      refine G.seq ?_
      refine G.region ?_
      refine G.op1 (op_fieldP (off' := 0) Try.underlying39 rfl ti9 (by decide) rfl (Ev.t 11 (.ptr 1011 0)) rfl) rfl ⟨rfl, trivial⟩ trivial ?_
      refine G.op1 (op_load1P (c := bS x71.Key) Try.underlying9 rfl rfl (Ev.t 47 (.ptr 1011 0)) rfl) rfl ⟨rfl, trivial⟩ ⟨rfl, trivial⟩ ?_
      refine G.op1 (op_lenS Try.underlying9 (Ev.t 48 (bS x71.Key)) rfl) rfl ⟨rfl, trivial⟩ trivial ?_
      refine G.op1 (op_gtr (Ev.t 49 (bI .i64 (x71.Key.size : Int))) (Ev.c _ rfl) rfl) rfl ⟨rfl, trivial⟩ trivial ?_
      refine G.endOps ?_
      refine G.joinC (T := ByteArray) (fun y72 => ⟨[(1, .one (.g (.d (.sl 3 (List.map encApi_Dep have_1))))), (5, .one (.ptr 1005 0)), (7, .one (bB r1)), (8, .one (.g (.d (.sl 6 (List.map encApi_Version r2))))), (9, .one (.g (.d (.sl 3 (List.map encApi_Dep v65.1))))), (10, .one (bI .i64 v65.2)), (11, .one (.ptr 1011 0))], [(1005, some (.blk 64 [bI .i64 q_2.Ranges, bI .i64 q_2.More, bS q_2.Version.Key, bS q_2.Version.Value, bB q_2.Version.Gone, bI .i64 q_2.Version.Stamp.N, bI .i64 q_2.Version.Stamp.Site, .g (.d (.sl 3 (List.map encApi_Dep q_2.Version.Past)))])), (1011, some (.blk 39 [bS y72, bI .i64 x71.Stamp.N, bI .i64 x71.Stamp.Site]))]⟩) (fun y72 => law14_QueueTells_k14 again67 v65 x71 y72 = some r) (fun y72 hF => ?_) (fun J74 => ?_)
      · unfold law14_QueueTells_k14 at hF
        refine G.region ?_
        refine G.op1 (op_move (Ev.t 9 (.g (.d (.sl 3 (List.map encApi_Dep v65.1))))) rfl) rfl ⟨rfl, trivial⟩ trivial ?_
        refine G.op1 (op_loadAP (ds := [.v (.string y72), .v (.int .i64 x71.Stamp.N), .v (.int .i64 x71.Stamp.Site)]) Try.underlying39 rfl ti39 rfl (Ev.t 11 (.ptr 1011 0)) rfl) rfl ⟨rfl, trivial⟩ ⟨rfl, trivial⟩ ?_
        obtain ⟨r73, hr73, hF⟩ := bindS hF
        refine G.op1 (op_call (sv := .one (.g (.d (.sl 3 (List.map encApi_Dep r73))))) cf15 (ct_ref04_Add v65.1 (Api_Dep.mk y72 x71.Stamp) r73 hr73) rfl (EvL.cons (Ev.t 55 (.g (.d (.sl 3 (List.map encApi_Dep v65.1))))) (EvL.cons (Ev.t 56 (.g (.agg [.v (.string y72), .v (.int .i64 x71.Stamp.N), .v (.int .i64 x71.Stamp.Site)]))) EvL.nil)) rfl) rfl ⟨rfl, rfl, trivial⟩ trivial ?_
        refine G.op1 (op_assign (Ev.t 57 (.g (.d (.sl 3 (List.map encApi_Dep r73))))) rfl) rfl ⟨rfl, trivial⟩ trivial ?_
        refine G.endOps ?_
        refine G.endBlock ?_
        refine G.region ?_
        refine G.op1 (op_move (Ev.t 10 (bI .i64 v65.2)) rfl) rfl ⟨rfl, trivial⟩ trivial ?_
        refine G.op1 (op_add (Ev.t 41 (bI .i64 v65.2)) (Ev.c _ rfl) rfl) rfl ⟨rfl, trivial⟩ trivial ?_
        refine G.op1 (op_assign (Ev.t 42 (bI .i64 (IntKind.wrap .i64 (v65.2 + 1)))) rfl) rfl ⟨rfl, trivial⟩ trivial ?_
        refine G.endOps ?_
        exact G.arr (J66 (r73, IntKind.wrap .i64 (v65.2 + 1)) hF) ⟨rfl, rfl, rfl, rfl, rfl, rfl, trivial⟩ ⟨rfl, trivial⟩ rfl
      refine ifS hF (fun hc75 hF => ?_) (fun hc75 hF => ?_)
      · refine G.cond rfl (fun _ => ?_) (fun hx => by rw [hc75] at hx; cases hx)
        refine G.region ?_
        refine G.op1 (op_fieldP (off' := 0) Try.underlying39 rfl ti9 (by decide) rfl (Ev.t 11 (.ptr 1011 0)) rfl) rfl ⟨rfl, trivial⟩ trivial ?_
        refine G.op1 (op_load1P (c := bS x71.Key) Try.underlying9 rfl rfl (Ev.t 51 (.ptr 1011 0)) rfl) rfl ⟨rfl, trivial⟩ ⟨rfl, trivial⟩ ?_
        obtain ⟨s76, hs76, hF⟩ := bindS hF
        refine G.op1 (OpL.cast (op_sliceS (lo := none) (hi := some 12) Try.underlying9 (ssub_ok hs76).1 (ssub_ok hs76).2.1 (ssub_ok hs76).2.2.1 (Ev.t 52 (bS x71.Key)) EvO.none (EvO.some (Ev.c _ rfl)) rfl) (congrArg (fun s => bS s) (ssub_ok hs76).2.2.2)) rfl ⟨rfl, trivial⟩ trivial ?_
        refine G.op1 (op_fieldP (off' := 0) Try.underlying39 rfl ti9 (by decide) rfl (Ev.t 11 (.ptr 1011 0)) rfl) rfl ⟨rfl, trivial⟩ trivial ?_
        refine G.op3 (op_store1 (cs' := [bS s76, bI .i64 x71.Stamp.N, bI .i64 x71.Stamp.Site]) (c := bS s76) trivial ti9 rfl rfl (Ev.t 54 (.ptr 1011 0)) (Ev.t 53 (bS s76))) rfl ⟨rfl, rfl, trivial⟩ ⟨rfl, trivial⟩ ?_
        refine G.endOps ?_
        exact G.arr (J74 s76 hF) ⟨rfl, rfl, rfl, rfl, rfl, rfl, rfl, trivial⟩ ⟨rfl, rfl, trivial⟩ rfl
      · refine G.cond rfl (fun hx => by rw [hc75] at hx; cases hx) (fun _ => ?_)
        refine G.skip ?_
        exact G.arr (J74 x71.Key hF) ⟨rfl, rfl, rfl, rfl, rfl, rfl, rfl, trivial⟩ ⟨rfl, rfl, trivial⟩ rfl
    · refine G.cond rfl (fun hx => by rw [hc70] at hx; cases hx) (fun _ => ?_)
      refine G.exit ?_
      refine GX.c ?_
      refine GX.q ?_
      refine GX.bYes ?_
      exact G.arr (J64 v65.1 hF) ⟨rfl, rfl, rfl, rfl, trivial⟩ ⟨rfl, trivial⟩ rfl
  refine G.region ?_
  refine G.op1 (op_move (Ev.t 10 (bI .i64 v65.2)) rfl) rfl ⟨rfl, trivial⟩ trivial ?_
  refine G.op1 (op_move (Ev.t 1 (.g (.d (.sl 3 (List.map encApi_Dep have_1))))) rfl) rfl ⟨rfl, trivial⟩ trivial ?_
  refine G.op1 (OpL.cast (op_lenD Try.underlying30 (Ev.t 34 (.g (.d (.sl 3 (List.map encApi_Dep have_1))))) rfl) (by rw [List.length_map])) rfl ⟨rfl, trivial⟩ trivial ?_
  refine G.op1 (op_lss (Ev.t 33 (bI .i64 v65.2)) (Ev.t 35 (bI .i64 (have_1.length : Int))) rfl) rfl ⟨rfl, rfl, trivial⟩ trivial ?_
  refine G.op1 (op_move (Ev.t 36 (bB (decide (v65.2 < (have_1.length : Int))))) rfl) rfl ⟨rfl, trivial⟩ trivial ?_
  refine ifS hF (fun hc78 hF => ?_) (fun hc78 hF => ?_)
  · refine G.known (t := 37) hc78 rfl ?_
    refine G.opG1 (op_move (Ev.t 10 (bI .i64 v65.2)) rfl) rfl rfl rfl ⟨rfl, trivial⟩ trivial ?_
    refine G.opG1 (op_lss (Ev.t 38 (bI .i64 v65.2)) (Ev.c _ rfl) rfl) rfl rfl rfl ⟨rfl, trivial⟩ trivial ?_
    refine G.op1 (op_pickT (Ev.t 37 (bB true)) (Ev.t 39 (bB (decide (v65.2 < 8)))) rfl) rfl ⟨rfl, rfl, trivial⟩ trivial ?_
    refine G.endOps ?_
    exact G.arr (J77 (decide (v65.2 < 8)) hF) ⟨rfl, rfl, rfl, rfl, rfl, rfl, rfl, trivial⟩ ⟨rfl, trivial⟩ rfl
  · refine G.known (t := 37) hc78 rfl ?_
    refine G.opN1 rfl rfl rfl rfl rfl ?_
    refine G.opN1 rfl rfl rfl rfl rfl ?_
    refine G.op1 (op_pickF (Ev.t 37 (bB false)) (Ev.c _ rfl) rfl) rfl ⟨rfl, trivial⟩ trivial ?_
    refine G.endOps ?_
    exact G.arr (J77 false hF) ⟨rfl, rfl, rfl, rfl, rfl, rfl, rfl, trivial⟩ ⟨rfl, trivial⟩ rfl


end Go.Ark
