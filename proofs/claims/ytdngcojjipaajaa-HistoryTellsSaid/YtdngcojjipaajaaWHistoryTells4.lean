/- Walks, printed by a program of mine: each function of the program computes the typed function of its name. Conditions: none. -/
import Derived.Test.YtdngcojjipaajaaWHistoryTells3
namespace Go.Ark
open Go Go.Ab Go.RowKit Go.Lib Go.Proofs

set_option maxRecDepth 20000 in
set_option maxHeartbeats 2000000 in
theorem ct_ref20_right (l_0 : (List Api_Event)) (i_1 : Int) (r : Bool) (hF : ref20_right l_0 i_1 = some r) : Ct Try.prog 51 [.g (.d (.sl 6 (List.map encApi_Event l_0))), .g (.d (.v (.int .i64 i_1)))] (.one (.d (.v (.bool r)))) := by
  unfold ref20_right at hF
  refine Ct.intro Try.func51 rfl Try.ntmps51 rfl rfl fun M w => ?_
  refine G.seq ?_
  refine G.region ?_
  refine G.op1 (op_assign (Ev.c _ rfl) rfl) rfl trivial trivial ?_
  refine G.endOps ?_
  refine G.seq ?_
  refine G.region ?_
  refine G.op1 (op_move (Ev.t 0 (.g (.d (.sl 6 (List.map encApi_Event l_0))))) rfl) rfl ⟨rfl, trivial⟩ trivial ?_
  refine G.op1 (op_move (Ev.t 1 (bI .i64 i_1)) rfl) rfl ⟨rfl, trivial⟩ trivial ?_
  obtain ⟨x1, hx1, hF⟩ := bindS hF
  refine G.op1 (op_index (cs := [.v (.int .i64 x1.Kind), .v (.int .i64 x1.Client), .v (.string x1.Key), .v (.int .i64 x1.Stamp.N), .v (.int .i64 x1.Stamp.Site), .sl 3 (List.map encApi_Dep x1.Seen)]) Try.underlying24 ti30 (idx_ok hx1).1 (idx_get hx1 encApi_Event) (Ev.t 15 (.g (.d (.sl 6 (List.map encApi_Event l_0))))) (Ev.t 16 (bI .i64 i_1)) rfl) rfl ⟨rfl, rfl, trivial⟩ trivial ?_
  refine G.op1 (op_loadAE (ds := [.v (.int .i64 x1.Kind), .v (.int .i64 x1.Client), .v (.string x1.Key), .v (.int .i64 x1.Stamp.N), .v (.int .i64 x1.Stamp.Site), .sl 3 (List.map encApi_Dep x1.Seen)]) Try.underlying30 rfl ti30 rfl (Ev.t 17 (.ep [.v (.int .i64 x1.Kind), .v (.int .i64 x1.Client), .v (.string x1.Key), .v (.int .i64 x1.Stamp.N), .v (.int .i64 x1.Stamp.Site), .sl 3 (List.map encApi_Dep x1.Seen)])) rfl) rfl ⟨rfl, trivial⟩ trivial ?_
  refine G.op2 (op_alloc (k := 1005) (cs := [bI .i64 0, bI .i64 0, bS ByteArray.empty, bI .i64 0, bI .i64 0, .g (.d (.sl 3 (List.map encApi_Dep ([] : (List Api_Dep)))))]) ti30 ⟨.v _ rfl, .v _ rfl, .v _ rfl, .v _ rfl, .v _ rfl, .n 3, trivial⟩ rfl) rfl trivial ⟨rfl, trivial⟩ ?_
  refine G.op3 (op_storeA (cs' := [bI .i64 x1.Kind, bI .i64 x1.Client, bS x1.Key, bI .i64 x1.Stamp.N, bI .i64 x1.Stamp.Site, .g (.d (.sl 3 (List.map encApi_Dep x1.Seen)))]) ti30 rfl rfl (Ev.t 5 (.ptr 1005 0)) (Ev.t 18 (.g (.agg [.v (.int .i64 x1.Kind), .v (.int .i64 x1.Client), .v (.string x1.Key), .v (.int .i64 x1.Stamp.N), .v (.int .i64 x1.Stamp.Site), .sl 3 (List.map encApi_Dep x1.Seen)])))) rfl ⟨rfl, rfl, trivial⟩ ⟨rfl, trivial⟩ ?_
  refine G.endOps ?_
  refine G.seq ?_
  refine G.region ?_
  refine G.op1 (op_fieldP (off' := 2) Try.underlying30 rfl ti9 (by decide) rfl (Ev.t 5 (.ptr 1005 0)) rfl) rfl ⟨rfl, trivial⟩ trivial ?_
  refine G.op1 (op_load1P (c := bS x1.Key) Try.underlying9 rfl rfl (Ev.t 19 (.ptr 1005 2)) rfl) rfl ⟨rfl, trivial⟩ ⟨rfl, trivial⟩ ?_
  obtain ⟨r2, hr2, hF⟩ := bindS hF
  refine G.op1 (op_callQ (sv := .one (bB r2)) cf37 (ct_ref02_Check x1.Key r2 hr2) rfl rfl (EvQL.cons (EvQ.g (Ev.t 20 (bS x1.Key))) EvQL.nil) rfl) rfl ⟨rfl, trivial⟩ trivial ?_
  refine G.op1 (op_assign (Ev.t 21 (bB r2)) rfl) rfl ⟨rfl, trivial⟩ trivial ?_
  refine G.endOps ?_
  refine G.seq ?_
  refine G.region ?_
  refine G.op1 (op_fieldP (off' := 5) Try.underlying30 rfl ti28 (by decide) rfl (Ev.t 5 (.ptr 1005 0)) rfl) rfl ⟨rfl, trivial⟩ trivial ?_
  refine G.op1 (op_load1P (c := .g (.d (.sl 3 (List.map encApi_Dep x1.Seen)))) Try.underlying28 rfl rfl (Ev.t 22 (.ptr 1005 5)) rfl) rfl ⟨rfl, trivial⟩ ⟨rfl, trivial⟩ ?_
  obtain ⟨r3, hr3, hF⟩ := bindS hF
  refine G.op1 (op_callQ (sv := .one (bB r3)) cf61 (ct_ref20_row x1.Seen r3 hr3) rfl rfl (EvQL.cons (EvQ.g (Ev.t 23 (.g (.d (.sl 3 (List.map encApi_Dep x1.Seen)))))) EvQL.nil) rfl) rfl ⟨rfl, trivial⟩ trivial ?_
  refine G.op1 (op_assign (Ev.t 24 (bB r3)) rfl) rfl ⟨rfl, trivial⟩ trivial ?_
  refine G.endOps ?_
  refine G.seq ?_
  refine G.seq ?_
  refine G.joinC (T := Bool) (fun y4 => ⟨[(0, .one (.g (.d (.sl 6 (List.map encApi_Event l_0))))), (1, .one (bI .i64 i_1)), (5, .one (.ptr 1005 0)), (30, .one (bB y4))], [(1005, some (.blk 30 [bI .i64 x1.Kind, bI .i64 x1.Client, bS x1.Key, bI .i64 x1.Stamp.N, bI .i64 x1.Stamp.Site, .g (.d (.sl 3 (List.map encApi_Dep x1.Seen)))]))]⟩) (fun y4 => ref20_right_k1 l_0 i_1 x1 y4 = some r) (fun y4 hF => ?_) (fun J52 => ?_)
  · unfold ref20_right_k1 at hF
    refine ifS hF (fun hc5 hF => ?_) (fun hc5 hF => ?_)
    · refine G.cond rfl (fun _ => ?_) (fun hx => by rw [hc5] at hx; cases hx)
      refine G.seq ?_
      refine G.region ?_
      refine G.op1 (op_assign (Ev.c _ rfl) rfl) rfl trivial trivial ?_
      refine G.endOps ?_
      cases hF
      exact G.ret1 Try.results51 (RVar.tmp 4 _) ⟨rfl, trivial⟩ trivial
    · refine G.cond rfl (fun hx => by rw [hc5] at hx; cases hx) (fun _ => ?_)
      refine G.skip ?_
      refine G.seq ?_
      refine G.region ?_
      refine G.op1 (op_assign (Ev.c _ rfl) rfl) rfl trivial trivial ?_
      refine G.endOps ?_
      refine G.seq ?_
      refine G.region ?_
      refine G.op1 (op_assign (Ev.c _ rfl) rfl) rfl trivial trivial ?_
      refine G.endOps ?_
      refine G.seq ?_
      refine G.seq ?_
      refine G.region ?_
      refine G.op1 (op_assign (Ev.c _ rfl) rfl) rfl trivial trivial ?_
      refine G.endOps ?_
      refine G.joinC (T := Bool × Int) (fun y6 => ⟨[(0, .one (.g (.d (.sl 6 (List.map encApi_Event l_0))))), (5, .one (.ptr 1005 0)), (8, .one (bB y6.1)), (9, .one (bI .i64 y6.2))], [(1005, some (.blk 30 [bI .i64 x1.Kind, bI .i64 x1.Client, bS x1.Key, bI .i64 x1.Stamp.N, bI .i64 x1.Stamp.Site, .g (.d (.sl 3 (List.map encApi_Dep x1.Seen)))]))]⟩) (fun y6 => ref20_right_k2 l_0 x1 y6 = some r) (fun y6 hF => ?_) (fun J33 => ?_)
      · unfold ref20_right_k2 at hF
        refine G.seq ?_
        obtain ⟨r7, hr7, hF⟩ := bindS hF
        obtain ⟨r8, hr8, hF⟩ := bindS hF
        refine G.drawn (effs := [⟨[(5, .one (.ptr 1005 0))], [], [(76, .one (.ptr 1005 5))], []⟩, ⟨[(76, .one (.ptr 1005 5))], [(1005, some (.blk 30 [bI .i64 x1.Kind, bI .i64 x1.Client, bS x1.Key, bI .i64 x1.Stamp.N, bI .i64 x1.Stamp.Site, .g (.d (.sl 3 (List.map encApi_Dep x1.Seen)))]))], [(77, .one (.g (.d (.sl 3 (List.map encApi_Dep x1.Seen)))))], []⟩, ⟨[(0, .one (.g (.d (.sl 6 (List.map encApi_Event l_0)))))], [], [(78, .one (.g (.d (.sl 6 (List.map encApi_Event l_0)))))], []⟩, ⟨[(9, .one (bI .i64 y6.2))], [], [(79, .one (bI .i64 y6.2))], []⟩, ⟨[(78, .one (.g (.d (.sl 6 (List.map encApi_Event l_0))))), (79, .one (bI .i64 y6.2))], [], [(80, .one (.g (.d (.sl 3 (List.map encApi_Dep r7)))))], []⟩, ⟨[(77, .one (.g (.d (.sl 3 (List.map encApi_Dep x1.Seen))))), (80, .one (.g (.d (.sl 3 (List.map encApi_Dep r7)))))], [], [(81, .one (bB r8))], []⟩, ⟨[(81, .one (bB r8))], [], [(11, .one (bB r8))], []⟩]) (deps := [[], [0], [], [], [2, 3], [0, 1, 2, 3, 4], [0, 1, 2, 3, 4, 5]]) (sl' := [(5, .one (.ptr 1005 0)), (8, .one (bB y6.1)), (11, .one (bB r8))]) (hp' := [(1005, some (.blk 30 [bI .i64 x1.Kind, bI .i64 x1.Client, bS x1.Key, bI .i64 x1.Stamp.N, bI .i64 x1.Stamp.Site, .g (.d (.sl 3 (List.map encApi_Dep x1.Seen)))]))]) follows rfl rfl rfl ⟨⟨rfl, trivial⟩, trivial, ⟨rfl, trivial⟩, ⟨⟨rfl, rfl⟩, trivial⟩, ⟨rfl, trivial⟩, trivial, ⟨rfl, trivial⟩, trivial, ⟨rfl, rfl, trivial⟩, trivial, ⟨rfl, rfl, trivial⟩, trivial, ⟨rfl, trivial⟩, trivial, trivial⟩ ⟨OpW.plain (op_fieldP (off' := 5) Try.underlying30 rfl ti28 (by decide) rfl (Ev.t 5 (.ptr 1005 0)) rfl) rfl rfl, OpW.plain (op_load1P (c := .g (.d (.sl 3 (List.map encApi_Dep x1.Seen)))) Try.underlying28 rfl rfl (Ev.t 76 (.ptr 1005 5)) rfl) rfl rfl, OpW.plain (op_move (Ev.t 0 (.g (.d (.sl 6 (List.map encApi_Event l_0))))) rfl) rfl rfl, OpW.plain (op_move (Ev.t 9 (bI .i64 y6.2)) rfl) rfl rfl, OpW.plain (op_call (sv := .one (.g (.d (.sl 3 (List.map encApi_Dep r7))))) cf25 (ct_ref20_Behind l_0 y6.2 r7 hr7) rfl (EvL.cons (Ev.t 78 (.g (.d (.sl 6 (List.map encApi_Event l_0))))) (EvL.cons (Ev.t 79 (bI .i64 y6.2)) EvL.nil)) rfl) rfl rfl, OpW.plain (op_callQ (sv := .one (bB r8)) cf18 (ct_ref04_Covers x1.Seen r7 r8 hr8) rfl rfl (EvQL.cons (EvQ.g (Ev.t 77 (.g (.d (.sl 3 (List.map encApi_Dep x1.Seen)))))) (EvQL.cons (EvQ.g (Ev.t 80 (.g (.d (.sl 3 (List.map encApi_Dep r7)))))) EvQL.nil)) rfl) rfl rfl, OpW.plain (op_assign (Ev.t 81 (bB r8)) rfl) rfl rfl, trivial⟩ ⟨rfl, rfl, rfl, trivial⟩ ⟨rfl, trivial⟩ rfl ?_
        refine G.seq ?_
        refine G.seq ?_
        refine G.region ?_
        refine G.op1 (op_move (Ev.t 11 (bB r8)) rfl) rfl ⟨rfl, trivial⟩ trivial ?_
        refine G.op1 (op_not (Ev.t 82 (bB r8)) rfl) rfl ⟨rfl, trivial⟩ trivial ?_
        refine G.endOps ?_
        refine ifS hF (fun hc9 hF => ?_) (fun hc9 hF => ?_)
        · refine G.cond rfl (fun _ => ?_) (fun hx => by rw [hc9] at hx; cases hx)
          refine G.seq ?_
          refine G.region ?_
          refine G.op1 (op_assign (Ev.c _ rfl) rfl) rfl trivial trivial ?_
          refine G.endOps ?_
          cases hF
          exact G.ret1 Try.results51 (RVar.tmp 4 _) ⟨rfl, trivial⟩ trivial
        · refine G.cond rfl (fun hx => by rw [hc9] at hx; cases hx) (fun _ => ?_)
          refine G.skip ?_
          refine G.seq ?_
          refine G.seq ?_
          refine G.region ?_
          refine G.op1 (op_fieldP (off' := 0) Try.underlying30 rfl ti3 (by decide) rfl (Ev.t 5 (.ptr 1005 0)) rfl) rfl ⟨rfl, trivial⟩ trivial ?_
          refine G.op1 (op_load1P (c := bI .i64 x1.Kind) Try.underlying3 rfl rfl (Ev.t 84 (.ptr 1005 0)) rfl) rfl ⟨rfl, trivial⟩ ⟨rfl, trivial⟩ ?_
          refine G.endOps ?_
          refine G.joinC (T := Unit) (fun y10 => ⟨[], []⟩) (fun y10 => ref20_right_k3 y10 = some r) (fun y10 hF => ?_) (fun J11 => ?_)
          · unfold ref20_right_k3 at hF
            refine G.seq ?_
            refine G.region ?_
            refine G.op1 (op_assign (Ev.c _ rfl) rfl) rfl trivial trivial ?_
            refine G.endOps ?_
            cases hF
            exact G.ret1 Try.results51 (RVar.tmp 4 _) ⟨rfl, trivial⟩ trivial
          refine G.block ?_
          refine G.seq ?_
          refine G.region ?_
          refine G.op1 (op_eqI (Ev.t 85 (bI .i64 x1.Kind)) (Ev.c _ rfl) rfl) rfl ⟨rfl, trivial⟩ trivial ?_
          refine G.op1 (op_assign (Ev.t 87 (bB (decide (x1.Kind = 1)))) rfl) rfl ⟨rfl, trivial⟩ trivial ?_
          refine G.endOps ?_
          refine ifS hF (fun hc12 hF => ?_) (fun hc12 hF => ?_)
          · refine G.cond rfl (fun _ => ?_) (fun hx => by rw [hc12] at hx; cases hx)
            refine G.seq ?_
            refine G.region ?_
            refine G.op1 (op_fieldP (off' := 3) Try.underlying30 rfl ti27 (by decide) rfl (Ev.t 5 (.ptr 1005 0)) rfl) rfl ⟨rfl, trivial⟩ trivial ?_
            refine G.op1 (op_loadAP (ds := [.v (.int .i64 x1.Stamp.N), .v (.int .i64 x1.Stamp.Site)]) Try.underlying27 rfl ti27 rfl (Ev.t 88 (.ptr 1005 3)) rfl) rfl ⟨rfl, trivial⟩ ⟨rfl, trivial⟩ ?_
            obtain ⟨r13, hr13, hF⟩ := bindS hF
            refine G.op1 (op_callQ (sv := .one (bB r13)) cf38 (ct_ref03_Check x1.Stamp r13 hr13) rfl rfl (EvQL.cons (EvQ.g (Ev.t 89 (.g (.agg [.v (.int .i64 x1.Stamp.N), .v (.int .i64 x1.Stamp.Site)])))) EvQL.nil) rfl) rfl ⟨rfl, trivial⟩ trivial ?_
            refine G.op1 (op_assign (Ev.t 90 (bB r13)) rfl) rfl ⟨rfl, trivial⟩ trivial ?_
            refine G.endOps ?_
            refine G.seq ?_
            refine G.seq ?_
            refine G.region ?_
            refine G.op1 (op_assign (Ev.c _ rfl) rfl) rfl trivial trivial ?_
            refine G.endOps ?_
            refine G.joinC (T := Unit) (fun y14 => ⟨[(8, .one (bB y6.1)), (12, .one (bB r13))], []⟩) (fun y14 => ref20_right_k4 y6 r13 y14 = some r) (fun y14 hF => ?_) (fun J16 => ?_)
            · unfold ref20_right_k4 at hF
              refine G.seq ?_
              refine G.region ?_
              refine G.op1 (op_move (Ev.t 12 (bB r13)) rfl) rfl ⟨rfl, trivial⟩ trivial ?_
              refine G.op1 (op_move (Ev.t 108 (bB r13)) rfl) rfl ⟨rfl, trivial⟩ trivial ?_
              refine ifS hF (fun hc15 hF => ?_) (fun hc15 hF => ?_)
              · refine G.known (t := 109) hc15 rfl ?_
                refine G.opG1 (op_move (Ev.t 8 (bB y6.1)) rfl) rfl rfl rfl ⟨rfl, trivial⟩ trivial ?_
                refine G.opG1 (op_not (Ev.t 110 (bB y6.1)) rfl) rfl rfl rfl ⟨rfl, trivial⟩ trivial ?_
                refine G.op1 (op_pickT (Ev.t 109 (bB true)) (Ev.t 111 (bB (!y6.1))) rfl) rfl ⟨rfl, rfl, trivial⟩ trivial ?_
                refine G.op1 (op_assign (Ev.t 112 (bB (!y6.1))) rfl) rfl ⟨rfl, trivial⟩ trivial ?_
                refine G.endOps ?_
                cases hF
                exact G.ret1 Try.results51 (RVar.tmp 4 _) ⟨rfl, trivial⟩ trivial
              · refine G.known (t := 109) hc15 rfl ?_
                refine G.opN1 rfl rfl rfl rfl rfl ?_
                refine G.opN1 rfl rfl rfl rfl rfl ?_
                refine G.op1 (op_pickF (Ev.t 109 (bB false)) (Ev.c _ rfl) rfl) rfl ⟨rfl, trivial⟩ trivial ?_
                refine G.op1 (op_assign (Ev.t 112 (bB false)) rfl) rfl ⟨rfl, trivial⟩ trivial ?_
                refine G.endOps ?_
                cases hF
                exact G.ret1 Try.results51 (RVar.tmp 4 _) ⟨rfl, trivial⟩ trivial
            refine G.block ?_
            refine G.keep (sl' := [(5, .one (.ptr 1005 0)), (8, .one (bB y6.1)), (12, .one (bB r13)), (13, .one (bI .i64 0))]) (hp' := [(1005, some (.blk 30 [bI .i64 x1.Kind, bI .i64 x1.Client, bS x1.Key, bI .i64 x1.Stamp.N, bI .i64 x1.Stamp.Site, .g (.d (.sl 3 (List.map encApi_Dep x1.Seen)))]))]) ⟨rfl, rfl, rfl, rfl, trivial⟩ ⟨rfl, trivial⟩ rfl ?_
            refine G.loopF (fun (v17 : Int) => ⟨[(5, .one (.ptr 1005 0)), (8, .one (bB y6.1)), (12, .one (bB r13)), (13, .one (bI .i64 v17))], [(1005, some (.blk 30 [bI .i64 x1.Kind, bI .i64 x1.Client, bS x1.Key, bI .i64 x1.Stamp.N, bI .i64 x1.Stamp.Site, .g (.d (.sl 3 (List.map encApi_Dep x1.Seen)))]))]⟩) hF rfl (fun K20 again19 v17 J18 hF => ?_)
            unfold ref20_right_l5 at hF
            refine G.seq ?_
            refine G.seq ?_
            refine G.region ?_
            refine G.op1 (op_move (Ev.t 13 (bI .i64 v17)) rfl) rfl ⟨rfl, trivial⟩ trivial ?_
            refine G.op1 (op_fieldP (off' := 5) Try.underlying30 rfl ti28 (by decide) rfl (Ev.t 5 (.ptr 1005 0)) rfl) rfl ⟨rfl, trivial⟩ trivial ?_
            refine G.op1 (op_load1P (c := .g (.d (.sl 3 (List.map encApi_Dep x1.Seen)))) Try.underlying28 rfl rfl (Ev.t 92 (.ptr 1005 5)) rfl) rfl ⟨rfl, trivial⟩ ⟨rfl, trivial⟩ ?_
            refine G.op1 (OpL.cast (op_lenD Try.underlying28 (Ev.t 93 (.g (.d (.sl 3 (List.map encApi_Dep x1.Seen))))) rfl) (by rw [List.length_map])) rfl ⟨rfl, trivial⟩ trivial ?_
            refine G.op1 (op_lss (Ev.t 91 (bI .i64 v17)) (Ev.t 94 (bI .i64 (x1.Seen.length : Int))) rfl) rfl ⟨rfl, rfl, trivial⟩ trivial ?_
            refine G.endOps ?_
            refine ifS hF (fun hc21 hF => ?_) (fun hc21 hF => ?_)
            · refine G.cond rfl (fun _ => ?_) (fun hx => by rw [hc21] at hx; cases hx)
              refine G.skip ?_
              refine G.seq ?_
              refine G.block ?_
              refine G.seq ?_
              obtain ⟨x22, hx22, hF⟩ := bindS hF
              obtain ⟨r23, hr23, hF⟩ := bindS hF
              refine G.drawn (effs := [⟨[(5, .one (.ptr 1005 0))], [], [(98, .one (.ptr 1005 5))], []⟩, ⟨[(98, .one (.ptr 1005 5))], [(1005, some (.blk 30 [bI .i64 x1.Kind, bI .i64 x1.Client, bS x1.Key, bI .i64 x1.Stamp.N, bI .i64 x1.Stamp.Site, .g (.d (.sl 3 (List.map encApi_Dep x1.Seen)))]))], [(99, .one (.g (.d (.sl 3 (List.map encApi_Dep x1.Seen)))))], []⟩, ⟨[(13, .one (bI .i64 v17))], [], [(100, .one (bI .i64 v17))], []⟩, ⟨[(99, .one (.g (.d (.sl 3 (List.map encApi_Dep x1.Seen))))), (100, .one (bI .i64 v17))], [], [(101, .one (.ep [.v (.string x22.Key), .v (.int .i64 x22.Stamp.N), .v (.int .i64 x22.Stamp.Site)]))], []⟩, ⟨[(101, .one (.ep [.v (.string x22.Key), .v (.int .i64 x22.Stamp.N), .v (.int .i64 x22.Stamp.Site)]))], [], [(102, .one (.ep [.v (.int .i64 x22.Stamp.N), .v (.int .i64 x22.Stamp.Site)]))], []⟩, ⟨[(102, .one (.ep [.v (.int .i64 x22.Stamp.N), .v (.int .i64 x22.Stamp.Site)]))], [], [(103, .one (.g (.agg [.v (.int .i64 x22.Stamp.N), .v (.int .i64 x22.Stamp.Site)])))], []⟩, ⟨[(5, .one (.ptr 1005 0))], [], [(104, .one (.ptr 1005 3))], []⟩, ⟨[(104, .one (.ptr 1005 3))], [(1005, some (.blk 30 [bI .i64 x1.Kind, bI .i64 x1.Client, bS x1.Key, bI .i64 x1.Stamp.N, bI .i64 x1.Stamp.Site, .g (.d (.sl 3 (List.map encApi_Dep x1.Seen)))]))], [(105, .one (.g (.agg [.v (.int .i64 x1.Stamp.N), .v (.int .i64 x1.Stamp.Site)])))], []⟩, ⟨[(103, .one (.g (.agg [.v (.int .i64 x22.Stamp.N), .v (.int .i64 x22.Stamp.Site)]))), (105, .one (.g (.agg [.v (.int .i64 x1.Stamp.N), .v (.int .i64 x1.Stamp.Site)])))], [], [(106, .one (bB r23))], []⟩, ⟨[(106, .one (bB r23))], [], [(107, .one (bB (!r23)))], []⟩]) (deps := [[], [0], [], [0, 1, 2], [0, 1, 2, 3], [0, 1, 2, 3, 4], [], [6], [0, 1, 2, 3, 4, 5, 6, 7], [0, 1, 2, 3, 4, 5, 6, 7, 8]]) (sl' := [(5, .one (.ptr 1005 0)), (8, .one (bB y6.1)), (12, .one (bB r13)), (13, .one (bI .i64 v17)), (107, .one (bB (!r23)))]) (hp' := [(1005, some (.blk 30 [bI .i64 x1.Kind, bI .i64 x1.Client, bS x1.Key, bI .i64 x1.Stamp.N, bI .i64 x1.Stamp.Site, .g (.d (.sl 3 (List.map encApi_Dep x1.Seen)))]))]) follows rfl rfl rfl ⟨⟨rfl, trivial⟩, trivial, ⟨rfl, trivial⟩, ⟨⟨rfl, rfl⟩, trivial⟩, ⟨rfl, trivial⟩, trivial, ⟨rfl, rfl, trivial⟩, trivial, ⟨rfl, trivial⟩, trivial, ⟨rfl, trivial⟩, trivial, ⟨rfl, trivial⟩, trivial, ⟨rfl, trivial⟩, ⟨⟨rfl, rfl⟩, trivial⟩, ⟨rfl, rfl, trivial⟩, trivial, ⟨rfl, trivial⟩, trivial, trivial⟩ ⟨OpW.plain (op_fieldP (off' := 5) Try.underlying30 rfl ti28 (by decide) rfl (Ev.t 5 (.ptr 1005 0)) rfl) rfl rfl, OpW.plain (op_load1P (c := .g (.d (.sl 3 (List.map encApi_Dep x1.Seen)))) Try.underlying28 rfl rfl (Ev.t 98 (.ptr 1005 5)) rfl) rfl rfl, OpW.plain (op_move (Ev.t 13 (bI .i64 v17)) rfl) rfl rfl, OpW.plain (op_index (cs := [.v (.string x22.Key), .v (.int .i64 x22.Stamp.N), .v (.int .i64 x22.Stamp.Site)]) Try.underlying28 ti52 (idx_ok hx22).1 (idx_get hx22 encApi_Dep) (Ev.t 99 (.g (.d (.sl 3 (List.map encApi_Dep x1.Seen))))) (Ev.t 100 (bI .i64 v17)) rfl) rfl rfl, OpW.plain (op_fieldE (cs' := [.v (.int .i64 x22.Stamp.N), .v (.int .i64 x22.Stamp.Site)]) Try.underlying52 rfl ti27 (by decide) rfl (Ev.t 101 (.ep [.v (.string x22.Key), .v (.int .i64 x22.Stamp.N), .v (.int .i64 x22.Stamp.Site)])) rfl) rfl rfl, OpW.plain (op_loadAE (ds := [.v (.int .i64 x22.Stamp.N), .v (.int .i64 x22.Stamp.Site)]) Try.underlying27 rfl ti27 rfl (Ev.t 102 (.ep [.v (.int .i64 x22.Stamp.N), .v (.int .i64 x22.Stamp.Site)])) rfl) rfl rfl, OpW.plain (op_fieldP (off' := 3) Try.underlying30 rfl ti27 (by decide) rfl (Ev.t 5 (.ptr 1005 0)) rfl) rfl rfl, OpW.plain (op_loadAP (ds := [.v (.int .i64 x1.Stamp.N), .v (.int .i64 x1.Stamp.Site)]) Try.underlying27 rfl ti27 rfl (Ev.t 104 (.ptr 1005 3)) rfl) rfl rfl, OpW.plain (op_callQ (sv := .one (bB r23)) cf16 (ct_ref03_Less x22.Stamp x1.Stamp r23 hr23) rfl rfl (EvQL.cons (EvQ.g (Ev.t 103 (.g (.agg [.v (.int .i64 x22.Stamp.N), .v (.int .i64 x22.Stamp.Site)])))) (EvQL.cons (EvQ.g (Ev.t 105 (.g (.agg [.v (.int .i64 x1.Stamp.N), .v (.int .i64 x1.Stamp.Site)])))) EvQL.nil)) rfl) rfl rfl, OpW.plain (op_not (Ev.t 106 (bB r23)) rfl) rfl rfl, trivial⟩ ⟨rfl, rfl, rfl, rfl, rfl, trivial⟩ ⟨rfl, trivial⟩ rfl ?_
              refine ifS hF (fun hc24 hF => ?_) (fun hc24 hF => ?_)
              · refine G.cond rfl (fun _ => ?_) (fun hx => by rw [hc24] at hx; cases hx)
                refine G.seq ?_
                refine G.region ?_
                refine G.op1 (op_assign (Ev.c _ rfl) rfl) rfl trivial trivial ?_
                refine G.endOps ?_
                cases hF
                exact G.ret1 Try.results51 (RVar.tmp 4 _) ⟨rfl, trivial⟩ trivial
              · refine G.cond rfl (fun hx => by rw [hc24] at hx; cases hx) (fun _ => ?_)
                refine G.skip ?_
                refine G.endBlock ?_
                refine G.region ?_
                refine G.op1 (op_move (Ev.t 13 (bI .i64 v17)) rfl) rfl ⟨rfl, trivial⟩ trivial ?_
                refine G.op1 (op_add (Ev.t 96 (bI .i64 v17)) (Ev.c _ rfl) rfl) rfl ⟨rfl, trivial⟩ trivial ?_
                refine G.op1 (op_assign (Ev.t 97 (bI .i64 (IntKind.wrap .i64 (v17 + 1)))) rfl) rfl ⟨rfl, trivial⟩ trivial ?_
                refine G.endOps ?_
                exact G.arr (J18 (IntKind.wrap .i64 (v17 + 1)) hF) ⟨rfl, rfl, rfl, rfl, trivial⟩ ⟨rfl, trivial⟩ rfl
            · refine G.cond rfl (fun hx => by rw [hc21] at hx; cases hx) (fun _ => ?_)
              refine G.exit ?_
              refine GX.c ?_
              refine GX.q ?_
              refine GX.bYes ?_
              exact G.arr (J16 () hF) ⟨rfl, rfl, trivial⟩ trivial rfl
          · refine G.cond rfl (fun hx => by rw [hc12] at hx; cases hx) (fun _ => ?_)
            refine G.seq ?_
            refine G.region ?_
            refine G.op1 (op_eqI (Ev.t 85 (bI .i64 x1.Kind)) (Ev.c _ rfl) rfl) rfl ⟨rfl, trivial⟩ trivial ?_
            refine G.op1 (op_assign (Ev.t 114 (bB (decide (x1.Kind = 2)))) rfl) rfl ⟨rfl, trivial⟩ trivial ?_
            refine G.endOps ?_
            refine ifS hF (fun hc25 hF => ?_) (fun hc25 hF => ?_)
            · refine G.cond rfl (fun _ => ?_) (fun hx => by rw [hc25] at hx; cases hx)
              refine G.seq ?_
              refine G.joinC (T := Bool) (fun y26 => ⟨[(5, .one (.ptr 1005 0)), (8, .one (bB y6.1)), (14, .one (bB y26))], [(1005, some (.blk 30 [bI .i64 x1.Kind, bI .i64 x1.Client, bS x1.Key, bI .i64 x1.Stamp.N, bI .i64 x1.Stamp.Site, .g (.d (.sl 3 (List.map encApi_Dep x1.Seen)))]))]⟩) (fun y26 => ref20_right_k6 x1 y6 y26 = some r) (fun y26 hF => ?_) (fun J31 => ?_)
              · unfold ref20_right_k6 at hF
                refine G.seq ?_
                obtain ⟨r27, hr27, hF⟩ := bindS hF
                obtain ⟨r28, hr28, hF⟩ := bindS hF
                refine ifS hF (fun hc29 hF => ?_) (fun hc29 hF => ?_)
                · refine ifS hF (fun hc30 hF => ?_) (fun hc30 hF => ?_)
                  · refine G.known (t := 14) (c := true) hc30 rfl ?_
                    refine G.drawn (effs := [⟨[(5, .one (.ptr 1005 0))], [], [(125, .one (.ptr 1005 3))], []⟩, ⟨[(125, .one (.ptr 1005 3))], [(1005, some (.blk 30 [bI .i64 x1.Kind, bI .i64 x1.Client, bS x1.Key, bI .i64 x1.Stamp.N, bI .i64 x1.Stamp.Site, .g (.d (.sl 3 (List.map encApi_Dep x1.Seen)))]))], [(126, .one (.g (.agg [.v (.int .i64 x1.Stamp.N), .v (.int .i64 x1.Stamp.Site)])))], []⟩, ⟨[(5, .one (.ptr 1005 0))], [], [(127, .one (.ptr 1005 5))], []⟩, ⟨[(127, .one (.ptr 1005 5))], [(1005, some (.blk 30 [bI .i64 x1.Kind, bI .i64 x1.Client, bS x1.Key, bI .i64 x1.Stamp.N, bI .i64 x1.Stamp.Site, .g (.d (.sl 3 (List.map encApi_Dep x1.Seen)))]))], [(128, .one (.g (.d (.sl 3 (List.map encApi_Dep x1.Seen)))))], []⟩, ⟨[(5, .one (.ptr 1005 0))], [], [(129, .one (.ptr 1005 2))], []⟩, ⟨[(129, .one (.ptr 1005 2))], [(1005, some (.blk 30 [bI .i64 x1.Kind, bI .i64 x1.Client, bS x1.Key, bI .i64 x1.Stamp.N, bI .i64 x1.Stamp.Site, .g (.d (.sl 3 (List.map encApi_Dep x1.Seen)))]))], [(130, .one (bS x1.Key))], []⟩, ⟨[(128, .one (.g (.d (.sl 3 (List.map encApi_Dep x1.Seen))))), (130, .one (bS x1.Key))], [], [(131, .one (.g (.agg [.v (.int .i64 r27.N), .v (.int .i64 r27.Site)])))], []⟩, ⟨[(126, .one (.g (.agg [.v (.int .i64 x1.Stamp.N), .v (.int .i64 x1.Stamp.Site)]))), (131, .one (.g (.agg [.v (.int .i64 r27.N), .v (.int .i64 r27.Site)])))], [], [(132, .one (bB r28))], []⟩, ⟨[(132, .one (bB r28))], [], [(133, .one (bB true))], []⟩, ⟨[(133, .one (bB true))], [], [(134, .one (bB true))], []⟩, ⟨[(134, .one (bB true)), (14, .one (bB true))], [], [(135, .one (bB true))], []⟩, ⟨[(134, .one (bB true)), (135, .one (bB true))], [], [(136, .one (bB true))], []⟩, ⟨[(136, .one (bB true))], [], [(137, .one (.x Go.undef))], []⟩, ⟨[(134, .one (bB true)), (136, .one (bB true))], [], [(138, .one (bB true))], []⟩, ⟨[(134, .one (bB true)), (138, .one (bB true))], [], [(139, .one (bB true))], []⟩, ⟨[(139, .one (bB true))], [], [(4, .one (bB true))], []⟩]) (deps := [[], [0], [], [2], [], [4], [2, 3, 4, 5], [0, 1, 2, 3, 4, 5, 6], [0, 1, 2, 3, 4, 5, 6, 7], [0, 1, 2, 3, 4, 5, 6, 7, 8], [0, 1, 2, 3, 4, 5, 6, 7, 8, 9], [0, 1, 2, 3, 4, 5, 6, 7, 8, 9, 10], [0, 1, 2, 3, 4, 5, 6, 7, 8, 9, 10, 11], [0, 1, 2, 3, 4, 5, 6, 7, 8, 9, 10, 11, 12], [0, 1, 2, 3, 4, 5, 6, 7, 8, 9, 10, 11, 12, 13], [0, 1, 2, 3, 4, 5, 6, 7, 8, 9, 10, 11, 12, 13, 14]]) (sl' := [(4, .one (bB true))]) (hp' := []) follows rfl rfl rfl ⟨⟨rfl, trivial⟩, trivial, ⟨rfl, trivial⟩, ⟨⟨rfl, rfl⟩, trivial⟩, ⟨rfl, trivial⟩, trivial, ⟨rfl, trivial⟩, ⟨⟨rfl, rfl⟩, trivial⟩, ⟨rfl, trivial⟩, trivial, ⟨rfl, trivial⟩, ⟨⟨rfl, rfl⟩, trivial⟩, ⟨rfl, rfl, trivial⟩, trivial, ⟨rfl, rfl, trivial⟩, trivial, ⟨rfl, trivial⟩, trivial, ⟨rfl, trivial⟩, trivial, ⟨rfl, rfl, trivial⟩, trivial, ⟨rfl, rfl, trivial⟩, trivial, ⟨rfl, trivial⟩, trivial, ⟨rfl, rfl, trivial⟩, trivial, ⟨rfl, rfl, trivial⟩, trivial, ⟨rfl, trivial⟩, trivial, trivial⟩ ⟨OpW.plain (op_fieldP (off' := 3) Try.underlying30 rfl ti27 (by decide) rfl (Ev.t 5 (.ptr 1005 0)) rfl) rfl rfl, OpW.plain (op_loadAP (ds := [.v (.int .i64 x1.Stamp.N), .v (.int .i64 x1.Stamp.Site)]) Try.underlying27 rfl ti27 rfl (Ev.t 125 (.ptr 1005 3)) rfl) rfl rfl, OpW.plain (op_fieldP (off' := 5) Try.underlying30 rfl ti28 (by decide) rfl (Ev.t 5 (.ptr 1005 0)) rfl) rfl rfl, OpW.plain (op_load1P (c := .g (.d (.sl 3 (List.map encApi_Dep x1.Seen)))) Try.underlying28 rfl rfl (Ev.t 127 (.ptr 1005 5)) rfl) rfl rfl, OpW.plain (op_fieldP (off' := 2) Try.underlying30 rfl ti9 (by decide) rfl (Ev.t 5 (.ptr 1005 0)) rfl) rfl rfl, OpW.plain (op_load1P (c := bS x1.Key) Try.underlying9 rfl rfl (Ev.t 129 (.ptr 1005 2)) rfl) rfl rfl, OpW.plain (op_callQ (sv := .one (.g (.agg [.v (.int .i64 r27.N), .v (.int .i64 r27.Site)]))) cf12 (ct_ref04_Get x1.Seen x1.Key r27 hr27) rfl rfl (EvQL.cons (EvQ.g (Ev.t 128 (.g (.d (.sl 3 (List.map encApi_Dep x1.Seen)))))) (EvQL.cons (EvQ.g (Ev.t 130 (bS x1.Key))) EvQL.nil)) rfl) rfl rfl, OpW.plain (op_callQ (sv := .one (bB r28)) cf16 (ct_ref03_Less x1.Stamp r27 r28 hr28) rfl rfl (EvQL.cons (EvQ.g (Ev.t 126 (.g (.agg [.v (.int .i64 x1.Stamp.N), .v (.int .i64 x1.Stamp.Site)])))) (EvQL.cons (EvQ.g (Ev.t 131 (.g (.agg [.v (.int .i64 r27.N), .v (.int .i64 r27.Site)])))) EvQL.nil)) rfl) rfl rfl, OpW.plain (OpL.cast (op_not (Ev.t 132 (bB r28)) rfl) (congrArg (fun b => bB b) hc29)) rfl rfl, OpW.plain (op_move (Ev.t 133 (bB true)) rfl) rfl rfl, OpW.yes (op_move (Ev.t 14 (bB true)) rfl) rfl rfl rfl, OpW.yes (op_move (Ev.t 135 (bB true)) rfl) rfl rfl rfl, OpW.no rfl rfl rfl rfl rfl, OpW.yes (op_pickT (Ev.t 136 (bB true)) (Ev.c _ rfl) rfl) rfl rfl rfl, OpW.plain (op_pickT (Ev.t 134 (bB true)) (Ev.t 138 (bB true)) rfl) rfl rfl, OpW.plain (op_assign (Ev.t 139 (bB true)) rfl) rfl rfl, trivial⟩ ⟨rfl, trivial⟩ trivial rfl ?_
                    cases hF
                    exact G.ret1 Try.results51 (RVar.tmp 4 _) ⟨rfl, trivial⟩ trivial
                  · refine G.known (t := 14) (c := false) hc30 rfl ?_
                    refine G.drawn (effs := [⟨[(5, .one (.ptr 1005 0))], [], [(125, .one (.ptr 1005 3))], []⟩, ⟨[(125, .one (.ptr 1005 3))], [(1005, some (.blk 30 [bI .i64 x1.Kind, bI .i64 x1.Client, bS x1.Key, bI .i64 x1.Stamp.N, bI .i64 x1.Stamp.Site, .g (.d (.sl 3 (List.map encApi_Dep x1.Seen)))]))], [(126, .one (.g (.agg [.v (.int .i64 x1.Stamp.N), .v (.int .i64 x1.Stamp.Site)])))], []⟩, ⟨[(5, .one (.ptr 1005 0))], [], [(127, .one (.ptr 1005 5))], []⟩, ⟨[(127, .one (.ptr 1005 5))], [(1005, some (.blk 30 [bI .i64 x1.Kind, bI .i64 x1.Client, bS x1.Key, bI .i64 x1.Stamp.N, bI .i64 x1.Stamp.Site, .g (.d (.sl 3 (List.map encApi_Dep x1.Seen)))]))], [(128, .one (.g (.d (.sl 3 (List.map encApi_Dep x1.Seen)))))], []⟩, ⟨[(5, .one (.ptr 1005 0))], [], [(129, .one (.ptr 1005 2))], []⟩, ⟨[(129, .one (.ptr 1005 2))], [(1005, some (.blk 30 [bI .i64 x1.Kind, bI .i64 x1.Client, bS x1.Key, bI .i64 x1.Stamp.N, bI .i64 x1.Stamp.Site, .g (.d (.sl 3 (List.map encApi_Dep x1.Seen)))]))], [(130, .one (bS x1.Key))], []⟩, ⟨[(128, .one (.g (.d (.sl 3 (List.map encApi_Dep x1.Seen))))), (130, .one (bS x1.Key))], [], [(131, .one (.g (.agg [.v (.int .i64 r27.N), .v (.int .i64 r27.Site)])))], []⟩, ⟨[(126, .one (.g (.agg [.v (.int .i64 x1.Stamp.N), .v (.int .i64 x1.Stamp.Site)]))), (131, .one (.g (.agg [.v (.int .i64 r27.N), .v (.int .i64 r27.Site)])))], [], [(132, .one (bB r28))], []⟩, ⟨[(132, .one (bB r28))], [], [(133, .one (bB true))], []⟩, ⟨[(133, .one (bB true))], [], [(134, .one (bB true))], []⟩, ⟨[(134, .one (bB true)), (14, .one (bB false))], [], [(135, .one (bB false))], []⟩, ⟨[(134, .one (bB true)), (135, .one (bB false))], [], [(136, .one (bB false))], []⟩, ⟨[(136, .one (bB false)), (8, .one (bB y6.1))], [], [(137, .one (bB y6.1))], []⟩, ⟨[(134, .one (bB true)), (136, .one (bB false)), (137, .one (bB y6.1))], [], [(138, .one (bB y6.1))], []⟩, ⟨[(134, .one (bB true)), (138, .one (bB y6.1))], [], [(139, .one (bB y6.1))], []⟩, ⟨[(139, .one (bB y6.1))], [], [(4, .one (bB y6.1))], []⟩]) (deps := [[], [0], [], [2], [], [4], [2, 3, 4, 5], [0, 1, 2, 3, 4, 5, 6], [0, 1, 2, 3, 4, 5, 6, 7], [0, 1, 2, 3, 4, 5, 6, 7, 8], [0, 1, 2, 3, 4, 5, 6, 7, 8, 9], [0, 1, 2, 3, 4, 5, 6, 7, 8, 9, 10], [0, 1, 2, 3, 4, 5, 6, 7, 8, 9, 10, 11], [0, 1, 2, 3, 4, 5, 6, 7, 8, 9, 10, 11, 12], [0, 1, 2, 3, 4, 5, 6, 7, 8, 9, 10, 11, 12, 13], [0, 1, 2, 3, 4, 5, 6, 7, 8, 9, 10, 11, 12, 13, 14]]) (sl' := [(4, .one (bB y6.1))]) (hp' := []) follows rfl rfl rfl ⟨⟨rfl, trivial⟩, trivial, ⟨rfl, trivial⟩, ⟨⟨rfl, rfl⟩, trivial⟩, ⟨rfl, trivial⟩, trivial, ⟨rfl, trivial⟩, ⟨⟨rfl, rfl⟩, trivial⟩, ⟨rfl, trivial⟩, trivial, ⟨rfl, trivial⟩, ⟨⟨rfl, rfl⟩, trivial⟩, ⟨rfl, rfl, trivial⟩, trivial, ⟨rfl, rfl, trivial⟩, trivial, ⟨rfl, trivial⟩, trivial, ⟨rfl, trivial⟩, trivial, ⟨rfl, rfl, trivial⟩, trivial, ⟨rfl, rfl, trivial⟩, trivial, ⟨rfl, rfl, trivial⟩, trivial, ⟨rfl, rfl, rfl, trivial⟩, trivial, ⟨rfl, rfl, trivial⟩, trivial, ⟨rfl, trivial⟩, trivial, trivial⟩ ⟨OpW.plain (op_fieldP (off' := 3) Try.underlying30 rfl ti27 (by decide) rfl (Ev.t 5 (.ptr 1005 0)) rfl) rfl rfl, OpW.plain (op_loadAP (ds := [.v (.int .i64 x1.Stamp.N), .v (.int .i64 x1.Stamp.Site)]) Try.underlying27 rfl ti27 rfl (Ev.t 125 (.ptr 1005 3)) rfl) rfl rfl, OpW.plain (op_fieldP (off' := 5) Try.underlying30 rfl ti28 (by decide) rfl (Ev.t 5 (.ptr 1005 0)) rfl) rfl rfl, OpW.plain (op_load1P (c := .g (.d (.sl 3 (List.map encApi_Dep x1.Seen)))) Try.underlying28 rfl rfl (Ev.t 127 (.ptr 1005 5)) rfl) rfl rfl, OpW.plain (op_fieldP (off' := 2) Try.underlying30 rfl ti9 (by decide) rfl (Ev.t 5 (.ptr 1005 0)) rfl) rfl rfl, OpW.plain (op_load1P (c := bS x1.Key) Try.underlying9 rfl rfl (Ev.t 129 (.ptr 1005 2)) rfl) rfl rfl, OpW.plain (op_callQ (sv := .one (.g (.agg [.v (.int .i64 r27.N), .v (.int .i64 r27.Site)]))) cf12 (ct_ref04_Get x1.Seen x1.Key r27 hr27) rfl rfl (EvQL.cons (EvQ.g (Ev.t 128 (.g (.d (.sl 3 (List.map encApi_Dep x1.Seen)))))) (EvQL.cons (EvQ.g (Ev.t 130 (bS x1.Key))) EvQL.nil)) rfl) rfl rfl, OpW.plain (op_callQ (sv := .one (bB r28)) cf16 (ct_ref03_Less x1.Stamp r27 r28 hr28) rfl rfl (EvQL.cons (EvQ.g (Ev.t 126 (.g (.agg [.v (.int .i64 x1.Stamp.N), .v (.int .i64 x1.Stamp.Site)])))) (EvQL.cons (EvQ.g (Ev.t 131 (.g (.agg [.v (.int .i64 r27.N), .v (.int .i64 r27.Site)])))) EvQL.nil)) rfl) rfl rfl, OpW.plain (OpL.cast (op_not (Ev.t 132 (bB r28)) rfl) (congrArg (fun b => bB b) hc29)) rfl rfl, OpW.plain (op_move (Ev.t 133 (bB true)) rfl) rfl rfl, OpW.yes (op_move (Ev.t 14 (bB false)) rfl) rfl rfl rfl, OpW.yes (op_move (Ev.t 135 (bB false)) rfl) rfl rfl rfl, OpW.yes (op_move (Ev.t 8 (bB y6.1)) rfl) rfl rfl rfl, OpW.yes (op_pickF (Ev.t 136 (bB false)) (Ev.t 137 (bB y6.1)) rfl) rfl rfl rfl, OpW.plain (op_pickT (Ev.t 134 (bB true)) (Ev.t 138 (bB y6.1)) rfl) rfl rfl, OpW.plain (op_assign (Ev.t 139 (bB y6.1)) rfl) rfl rfl, trivial⟩ ⟨rfl, trivial⟩ trivial rfl ?_
                    cases hF
                    exact G.ret1 Try.results51 (RVar.tmp 4 _) ⟨rfl, trivial⟩ trivial
                · refine G.drawn (effs := [⟨[(5, .one (.ptr 1005 0))], [], [(125, .one (.ptr 1005 3))], []⟩, ⟨[(125, .one (.ptr 1005 3))], [(1005, some (.blk 30 [bI .i64 x1.Kind, bI .i64 x1.Client, bS x1.Key, bI .i64 x1.Stamp.N, bI .i64 x1.Stamp.Site, .g (.d (.sl 3 (List.map encApi_Dep x1.Seen)))]))], [(126, .one (.g (.agg [.v (.int .i64 x1.Stamp.N), .v (.int .i64 x1.Stamp.Site)])))], []⟩, ⟨[(5, .one (.ptr 1005 0))], [], [(127, .one (.ptr 1005 5))], []⟩, ⟨[(127, .one (.ptr 1005 5))], [(1005, some (.blk 30 [bI .i64 x1.Kind, bI .i64 x1.Client, bS x1.Key, bI .i64 x1.Stamp.N, bI .i64 x1.Stamp.Site, .g (.d (.sl 3 (List.map encApi_Dep x1.Seen)))]))], [(128, .one (.g (.d (.sl 3 (List.map encApi_Dep x1.Seen)))))], []⟩, ⟨[(5, .one (.ptr 1005 0))], [], [(129, .one (.ptr 1005 2))], []⟩, ⟨[(129, .one (.ptr 1005 2))], [(1005, some (.blk 30 [bI .i64 x1.Kind, bI .i64 x1.Client, bS x1.Key, bI .i64 x1.Stamp.N, bI .i64 x1.Stamp.Site, .g (.d (.sl 3 (List.map encApi_Dep x1.Seen)))]))], [(130, .one (bS x1.Key))], []⟩, ⟨[(128, .one (.g (.d (.sl 3 (List.map encApi_Dep x1.Seen))))), (130, .one (bS x1.Key))], [], [(131, .one (.g (.agg [.v (.int .i64 r27.N), .v (.int .i64 r27.Site)])))], []⟩, ⟨[(126, .one (.g (.agg [.v (.int .i64 x1.Stamp.N), .v (.int .i64 x1.Stamp.Site)]))), (131, .one (.g (.agg [.v (.int .i64 r27.N), .v (.int .i64 r27.Site)])))], [], [(132, .one (bB r28))], []⟩, ⟨[(132, .one (bB r28))], [], [(133, .one (bB false))], []⟩, ⟨[(133, .one (bB false))], [], [(134, .one (bB false))], []⟩, ⟨[(134, .one (bB false))], [], [(135, .one (.x Go.undef))], []⟩, ⟨[(134, .one (bB false))], [], [(136, .one (.x Go.undef))], []⟩, ⟨[(136, .one (.x Go.undef))], [], [(137, .one (.x Go.undef))], []⟩, ⟨[(134, .one (bB false))], [], [(138, .one (.x Go.undef))], []⟩, ⟨[(134, .one (bB false))], [], [(139, .one (bB false))], []⟩, ⟨[(139, .one (bB false))], [], [(4, .one (bB false))], []⟩]) (deps := [[], [0], [], [2], [], [4], [2, 3, 4, 5], [0, 1, 2, 3, 4, 5, 6], [0, 1, 2, 3, 4, 5, 6, 7], [0, 1, 2, 3, 4, 5, 6, 7, 8], [0, 1, 2, 3, 4, 5, 6, 7, 8, 9], [0, 1, 2, 3, 4, 5, 6, 7, 8, 9, 10], [0, 1, 2, 3, 4, 5, 6, 7, 8, 9, 10, 11], [0, 1, 2, 3, 4, 5, 6, 7, 8, 9, 10, 11, 12], [0, 1, 2, 3, 4, 5, 6, 7, 8, 9, 10, 11, 12, 13], [0, 1, 2, 3, 4, 5, 6, 7, 8, 9, 10, 11, 12, 13, 14]]) (sl' := [(4, .one (bB false))]) (hp' := []) follows rfl rfl rfl ⟨⟨rfl, trivial⟩, trivial, ⟨rfl, trivial⟩, ⟨⟨rfl, rfl⟩, trivial⟩, ⟨rfl, trivial⟩, trivial, ⟨rfl, trivial⟩, ⟨⟨rfl, rfl⟩, trivial⟩, ⟨rfl, trivial⟩, trivial, ⟨rfl, trivial⟩, ⟨⟨rfl, rfl⟩, trivial⟩, ⟨rfl, rfl, trivial⟩, trivial, ⟨rfl, rfl, trivial⟩, trivial, ⟨rfl, trivial⟩, trivial, ⟨rfl, trivial⟩, trivial, ⟨rfl, trivial⟩, trivial, ⟨rfl, trivial⟩, trivial, ⟨rfl, trivial⟩, trivial, ⟨rfl, trivial⟩, trivial, ⟨rfl, trivial⟩, trivial, ⟨rfl, trivial⟩, trivial, trivial⟩ ⟨OpW.plain (op_fieldP (off' := 3) Try.underlying30 rfl ti27 (by decide) rfl (Ev.t 5 (.ptr 1005 0)) rfl) rfl rfl, OpW.plain (op_loadAP (ds := [.v (.int .i64 x1.Stamp.N), .v (.int .i64 x1.Stamp.Site)]) Try.underlying27 rfl ti27 rfl (Ev.t 125 (.ptr 1005 3)) rfl) rfl rfl, OpW.plain (op_fieldP (off' := 5) Try.underlying30 rfl ti28 (by decide) rfl (Ev.t 5 (.ptr 1005 0)) rfl) rfl rfl, OpW.plain (op_load1P (c := .g (.d (.sl 3 (List.map encApi_Dep x1.Seen)))) Try.underlying28 rfl rfl (Ev.t 127 (.ptr 1005 5)) rfl) rfl rfl, OpW.plain (op_fieldP (off' := 2) Try.underlying30 rfl ti9 (by decide) rfl (Ev.t 5 (.ptr 1005 0)) rfl) rfl rfl, OpW.plain (op_load1P (c := bS x1.Key) Try.underlying9 rfl rfl (Ev.t 129 (.ptr 1005 2)) rfl) rfl rfl, OpW.plain (op_callQ (sv := .one (.g (.agg [.v (.int .i64 r27.N), .v (.int .i64 r27.Site)]))) cf12 (ct_ref04_Get x1.Seen x1.Key r27 hr27) rfl rfl (EvQL.cons (EvQ.g (Ev.t 128 (.g (.d (.sl 3 (List.map encApi_Dep x1.Seen)))))) (EvQL.cons (EvQ.g (Ev.t 130 (bS x1.Key))) EvQL.nil)) rfl) rfl rfl, OpW.plain (op_callQ (sv := .one (bB r28)) cf16 (ct_ref03_Less x1.Stamp r27 r28 hr28) rfl rfl (EvQL.cons (EvQ.g (Ev.t 126 (.g (.agg [.v (.int .i64 x1.Stamp.N), .v (.int .i64 x1.Stamp.Site)])))) (EvQL.cons (EvQ.g (Ev.t 131 (.g (.agg [.v (.int .i64 r27.N), .v (.int .i64 r27.Site)])))) EvQL.nil)) rfl) rfl rfl, OpW.plain (OpL.cast (op_not (Ev.t 132 (bB r28)) rfl) (congrArg (fun b => bB b) hc29)) rfl rfl, OpW.plain (op_move (Ev.t 133 (bB false)) rfl) rfl rfl, OpW.no rfl rfl rfl rfl rfl, OpW.no rfl rfl rfl rfl rfl, OpW.un rfl rfl rfl rfl, OpW.no rfl rfl rfl rfl rfl, OpW.plain (op_pickF (Ev.t 134 (bB false)) (Ev.c _ rfl) rfl) rfl rfl, OpW.plain (op_assign (Ev.t 139 (bB false)) rfl) rfl rfl, trivial⟩ ⟨rfl, trivial⟩ trivial rfl ?_
                  cases hF
                  exact G.ret1 Try.results51 (RVar.tmp 4 _) ⟨rfl, trivial⟩ trivial
              refine G.region ?_
              refine G.op1 (op_fieldP (off' := 3) Try.underlying30 rfl ti27 (by decide) rfl (Ev.t 5 (.ptr 1005 0)) rfl) rfl ⟨rfl, trivial⟩ trivial ?_
              refine G.op1 (op_fieldP (off' := 3) Try.underlying27 rfl ti3 (by decide) rfl (Ev.t 115 (.ptr 1005 3)) rfl) rfl ⟨rfl, trivial⟩ trivial ?_
              refine G.op1 (op_load1P (c := bI .i64 x1.Stamp.N) Try.underlying3 rfl rfl (Ev.t 116 (.ptr 1005 3)) rfl) rfl ⟨rfl, trivial⟩ ⟨rfl, trivial⟩ ?_
              refine G.op1 (op_eqI (Ev.t 117 (bI .i64 x1.Stamp.N)) (Ev.c _ rfl) rfl) rfl ⟨rfl, trivial⟩ trivial ?_
              refine G.op1 (op_move (Ev.t 118 (bB (decide (x1.Stamp.N = 0)))) rfl) rfl ⟨rfl, trivial⟩ trivial ?_
              refine ifS hF (fun hc32 hF => ?_) (fun hc32 hF => ?_)
              · refine G.known (t := 119) hc32 rfl ?_
                refine G.opG1 (op_fieldP (off' := 3) Try.underlying30 rfl ti27 (by decide) rfl (Ev.t 5 (.ptr 1005 0)) rfl) rfl rfl rfl ⟨rfl, trivial⟩ trivial ?_
                refine G.opG1 (op_fieldP (off' := 4) Try.underlying27 rfl ti3 (by decide) rfl (Ev.t 120 (.ptr 1005 3)) rfl) rfl rfl rfl ⟨rfl, trivial⟩ trivial ?_
                refine G.opG1 (op_load1P (c := bI .i64 x1.Stamp.Site) Try.underlying3 rfl rfl (Ev.t 121 (.ptr 1005 4)) rfl) rfl rfl rfl ⟨rfl, trivial⟩ ⟨rfl, trivial⟩ ?_
                refine G.opG1 (op_eqI (Ev.t 122 (bI .i64 x1.Stamp.Site)) (Ev.c _ rfl) rfl) rfl rfl rfl ⟨rfl, trivial⟩ trivial ?_
                refine G.op1 (op_pickT (Ev.t 119 (bB true)) (Ev.t 123 (bB (decide (x1.Stamp.Site = 0)))) rfl) rfl ⟨rfl, rfl, trivial⟩ trivial ?_
                refine G.op1 (op_assign (Ev.t 124 (bB (decide (x1.Stamp.Site = 0)))) rfl) rfl ⟨rfl, trivial⟩ trivial ?_
                refine G.endOps ?_
                exact G.arr (J31 (decide (x1.Stamp.Site = 0)) hF) ⟨rfl, rfl, rfl, trivial⟩ ⟨rfl, trivial⟩ rfl
              · refine G.known (t := 119) hc32 rfl ?_
                refine G.opN1 rfl rfl rfl rfl rfl ?_
                refine G.opN1 rfl rfl rfl rfl rfl ?_
                refine G.opN1 rfl rfl rfl rfl rfl ?_
                refine G.opN1 rfl rfl rfl rfl rfl ?_
                refine G.op1 (op_pickF (Ev.t 119 (bB false)) (Ev.c _ rfl) rfl) rfl ⟨rfl, trivial⟩ trivial ?_
                refine G.op1 (op_assign (Ev.t 124 (bB false)) rfl) rfl ⟨rfl, trivial⟩ trivial ?_
                refine G.endOps ?_
                exact G.arr (J31 false hF) ⟨rfl, rfl, rfl, trivial⟩ ⟨rfl, trivial⟩ rfl
            · refine G.cond rfl (fun hx => by rw [hc25] at hx; cases hx) (fun _ => ?_)
              refine G.skip ?_
              refine G.endBlock ?_
              exact G.arr (J11 () hF) trivial trivial rfl
      refine G.block ?_
      refine G.keep (sl' := [(0, .one (.g (.d (.sl 6 (List.map encApi_Event l_0))))), (1, .one (bI .i64 i_1)), (5, .one (.ptr 1005 0)), (8, .one (bB false)), (9, .one (bI .i64 (-1))), (10, .one (bI .i64 0))]) (hp' := [(1005, some (.blk 30 [bI .i64 x1.Kind, bI .i64 x1.Client, bS x1.Key, bI .i64 x1.Stamp.N, bI .i64 x1.Stamp.Site, .g (.d (.sl 3 (List.map encApi_Dep x1.Seen)))]))]) ⟨rfl, rfl, rfl, rfl, rfl, rfl, trivial⟩ ⟨rfl, trivial⟩ rfl ?_
      refine G.loopF (fun (v34 : Bool × Int × Int) => ⟨[(0, .one (.g (.d (.sl 6 (List.map encApi_Event l_0))))), (1, .one (bI .i64 i_1)), (5, .one (.ptr 1005 0)), (8, .one (bB v34.1)), (9, .one (bI .i64 v34.2.1)), (10, .one (bI .i64 v34.2.2))], [(1005, some (.blk 30 [bI .i64 x1.Kind, bI .i64 x1.Client, bS x1.Key, bI .i64 x1.Stamp.N, bI .i64 x1.Stamp.Site, .g (.d (.sl 3 (List.map encApi_Dep x1.Seen)))]))]⟩) hF rfl (fun K37 again36 v34 J35 hF => ?_)
      unfold ref20_right_l7 at hF
      refine G.seq ?_
      refine G.seq ?_
      refine G.region ?_
      refine G.op1 (op_move (Ev.t 10 (bI .i64 v34.2.2)) rfl) rfl ⟨rfl, trivial⟩ trivial ?_
      refine G.op1 (op_move (Ev.t 1 (bI .i64 i_1)) rfl) rfl ⟨rfl, trivial⟩ trivial ?_
      refine G.op1 (op_lss (Ev.t 31 (bI .i64 v34.2.2)) (Ev.t 32 (bI .i64 i_1)) rfl) rfl ⟨rfl, rfl, trivial⟩ trivial ?_
      refine G.endOps ?_
      refine ifS hF (fun hc38 hF => ?_) (fun hc38 hF => ?_)
      · refine G.cond rfl (fun _ => ?_) (fun hx => by rw [hc38] at hx; cases hx)
        refine G.skip ?_
        refine G.seq ?_
        refine G.block ?_
        refine G.seq ?_
        refine G.seq ?_
        refine G.joinC (T := Bool) (fun y39 => ⟨[(0, .one (.g (.d (.sl 6 (List.map encApi_Event l_0))))), (1, .one (bI .i64 i_1)), (5, .one (.ptr 1005 0)), (8, .one (bB v34.1)), (9, .one (bI .i64 v34.2.1)), (10, .one (bI .i64 v34.2.2)), (66, .one (bB y39))], [(1005, some (.blk 30 [bI .i64 x1.Kind, bI .i64 x1.Client, bS x1.Key, bI .i64 x1.Stamp.N, bI .i64 x1.Stamp.Site, .g (.d (.sl 3 (List.map encApi_Dep x1.Seen)))]))]⟩) (fun y39 => ref20_right_k8 l_0 x1 again36 v34 y39 = some r) (fun y39 hF => ?_) (fun J45 => ?_)
        · unfold ref20_right_k8 at hF
          refine G.joinC (T := Bool) (fun y40 => ⟨[(0, .one (.g (.d (.sl 6 (List.map encApi_Event l_0))))), (1, .one (bI .i64 i_1)), (5, .one (.ptr 1005 0)), (8, .one (bB y40)), (9, .one (bI .i64 v34.2.1)), (10, .one (bI .i64 v34.2.2))], [(1005, some (.blk 30 [bI .i64 x1.Kind, bI .i64 x1.Client, bS x1.Key, bI .i64 x1.Stamp.N, bI .i64 x1.Stamp.Site, .g (.d (.sl 3 (List.map encApi_Dep x1.Seen)))]))]⟩) (fun y40 => ref20_right_k9 l_0 x1 again36 v34 y40 = some r) (fun y40 hF => ?_) (fun J43 => ?_)
          · unfold ref20_right_k9 at hF
            refine G.seq ?_
            obtain ⟨x41, hx41, hF⟩ := bindS hF
            refine G.drawn (effs := [⟨[(0, .one (.g (.d (.sl 6 (List.map encApi_Event l_0)))))], [], [(67, .one (.g (.d (.sl 6 (List.map encApi_Event l_0)))))], []⟩, ⟨[(10, .one (bI .i64 v34.2.2))], [], [(68, .one (bI .i64 v34.2.2))], []⟩, ⟨[(67, .one (.g (.d (.sl 6 (List.map encApi_Event l_0))))), (68, .one (bI .i64 v34.2.2))], [], [(69, .one (.ep [.v (.int .i64 x41.Kind), .v (.int .i64 x41.Client), .v (.string x41.Key), .v (.int .i64 x41.Stamp.N), .v (.int .i64 x41.Stamp.Site), .sl 3 (List.map encApi_Dep x41.Seen)]))], []⟩, ⟨[(69, .one (.ep [.v (.int .i64 x41.Kind), .v (.int .i64 x41.Client), .v (.string x41.Key), .v (.int .i64 x41.Stamp.N), .v (.int .i64 x41.Stamp.Site), .sl 3 (List.map encApi_Dep x41.Seen)]))], [], [(70, .one (.ep [.v (.int .i64 x41.Client), .v (.string x41.Key), .v (.int .i64 x41.Stamp.N), .v (.int .i64 x41.Stamp.Site), .sl 3 (List.map encApi_Dep x41.Seen)]))], []⟩, ⟨[(70, .one (.ep [.v (.int .i64 x41.Client), .v (.string x41.Key), .v (.int .i64 x41.Stamp.N), .v (.int .i64 x41.Stamp.Site), .sl 3 (List.map encApi_Dep x41.Seen)]))], [], [(71, .one (bI .i64 x41.Client))], []⟩, ⟨[(5, .one (.ptr 1005 0))], [], [(72, .one (.ptr 1005 1))], []⟩, ⟨[(72, .one (.ptr 1005 1))], [(1005, some (.blk 30 [bI .i64 x1.Kind, bI .i64 x1.Client, bS x1.Key, bI .i64 x1.Stamp.N, bI .i64 x1.Stamp.Site, .g (.d (.sl 3 (List.map encApi_Dep x1.Seen)))]))], [(73, .one (bI .i64 x1.Client))], []⟩, ⟨[(71, .one (bI .i64 x41.Client)), (73, .one (bI .i64 x1.Client))], [], [(74, .one (bB (decide (x41.Client = x1.Client))))], []⟩]) (deps := [[], [], [0, 1], [0, 1, 2], [0, 1, 2, 3], [], [5], [0, 1, 2, 3, 4, 5, 6]]) (sl' := [(0, .one (.g (.d (.sl 6 (List.map encApi_Event l_0))))), (1, .one (bI .i64 i_1)), (5, .one (.ptr 1005 0)), (8, .one (bB y40)), (9, .one (bI .i64 v34.2.1)), (10, .one (bI .i64 v34.2.2)), (74, .one (bB (decide (x41.Client = x1.Client))))]) (hp' := [(1005, some (.blk 30 [bI .i64 x1.Kind, bI .i64 x1.Client, bS x1.Key, bI .i64 x1.Stamp.N, bI .i64 x1.Stamp.Site, .g (.d (.sl 3 (List.map encApi_Dep x1.Seen)))]))]) follows rfl rfl rfl ⟨⟨rfl, trivial⟩, trivial, ⟨rfl, trivial⟩, trivial, ⟨rfl, rfl, trivial⟩, trivial, ⟨rfl, trivial⟩, trivial, ⟨rfl, trivial⟩, trivial, ⟨rfl, trivial⟩, trivial, ⟨rfl, trivial⟩, ⟨⟨rfl, rfl⟩, trivial⟩, ⟨rfl, rfl, trivial⟩, trivial, trivial⟩ ⟨OpW.plain (op_move (Ev.t 0 (.g (.d (.sl 6 (List.map encApi_Event l_0))))) rfl) rfl rfl, OpW.plain (op_move (Ev.t 10 (bI .i64 v34.2.2)) rfl) rfl rfl, OpW.plain (op_index (cs := [.v (.int .i64 x41.Kind), .v (.int .i64 x41.Client), .v (.string x41.Key), .v (.int .i64 x41.Stamp.N), .v (.int .i64 x41.Stamp.Site), .sl 3 (List.map encApi_Dep x41.Seen)]) Try.underlying24 ti30 (idx_ok hx41).1 (idx_get hx41 encApi_Event) (Ev.t 67 (.g (.d (.sl 6 (List.map encApi_Event l_0))))) (Ev.t 68 (bI .i64 v34.2.2)) rfl) rfl rfl, OpW.plain (op_fieldE (cs' := [.v (.int .i64 x41.Client), .v (.string x41.Key), .v (.int .i64 x41.Stamp.N), .v (.int .i64 x41.Stamp.Site), .sl 3 (List.map encApi_Dep x41.Seen)]) Try.underlying30 rfl ti3 (by decide) rfl (Ev.t 69 (.ep [.v (.int .i64 x41.Kind), .v (.int .i64 x41.Client), .v (.string x41.Key), .v (.int .i64 x41.Stamp.N), .v (.int .i64 x41.Stamp.Site), .sl 3 (List.map encApi_Dep x41.Seen)])) rfl) rfl rfl, OpW.plain (op_load1E (c := .v (.int .i64 x41.Client)) Try.underlying3 rfl rfl (Ev.t 70 (.ep [.v (.int .i64 x41.Client), .v (.string x41.Key), .v (.int .i64 x41.Stamp.N), .v (.int .i64 x41.Stamp.Site), .sl 3 (List.map encApi_Dep x41.Seen)])) rfl) rfl rfl, OpW.plain (op_fieldP (off' := 1) Try.underlying30 rfl ti3 (by decide) rfl (Ev.t 5 (.ptr 1005 0)) rfl) rfl rfl, OpW.plain (op_load1P (c := bI .i64 x1.Client) Try.underlying3 rfl rfl (Ev.t 72 (.ptr 1005 1)) rfl) rfl rfl, OpW.plain (op_eqI (Ev.t 71 (bI .i64 x41.Client)) (Ev.t 73 (bI .i64 x1.Client)) rfl) rfl rfl, trivial⟩ ⟨rfl, rfl, rfl, rfl, rfl, rfl, rfl, trivial⟩ ⟨rfl, trivial⟩ rfl ?_
            refine ifS hF (fun hc42 hF => ?_) (fun hc42 hF => ?_)
            · refine G.cond rfl (fun _ => ?_) (fun hx => by rw [hc42] at hx; cases hx)
              refine G.region ?_
              refine G.op1 (op_move (Ev.t 10 (bI .i64 v34.2.2)) rfl) rfl ⟨rfl, trivial⟩ trivial ?_
              refine G.op1 (op_assign (Ev.t 75 (bI .i64 v34.2.2)) rfl) rfl ⟨rfl, trivial⟩ trivial ?_
              refine G.endOps ?_
              refine G.endBlock ?_
              refine G.region ?_
              refine G.op1 (op_move (Ev.t 10 (bI .i64 v34.2.2)) rfl) rfl ⟨rfl, trivial⟩ trivial ?_
              refine G.op1 (op_add (Ev.t 34 (bI .i64 v34.2.2)) (Ev.c _ rfl) rfl) rfl ⟨rfl, trivial⟩ trivial ?_
              refine G.op1 (op_assign (Ev.t 35 (bI .i64 (IntKind.wrap .i64 (v34.2.2 + 1)))) rfl) rfl ⟨rfl, trivial⟩ trivial ?_
              refine G.endOps ?_
              exact G.arr (J35 (y40, v34.2.2, IntKind.wrap .i64 (v34.2.2 + 1)) hF) ⟨rfl, rfl, rfl, rfl, rfl, rfl, trivial⟩ ⟨rfl, trivial⟩ rfl
            · refine G.cond rfl (fun hx => by rw [hc42] at hx; cases hx) (fun _ => ?_)
              refine G.skip ?_
              refine G.endBlock ?_
              refine G.region ?_
              refine G.op1 (op_move (Ev.t 10 (bI .i64 v34.2.2)) rfl) rfl ⟨rfl, trivial⟩ trivial ?_
              refine G.op1 (op_add (Ev.t 34 (bI .i64 v34.2.2)) (Ev.c _ rfl) rfl) rfl ⟨rfl, trivial⟩ trivial ?_
              refine G.op1 (op_assign (Ev.t 35 (bI .i64 (IntKind.wrap .i64 (v34.2.2 + 1)))) rfl) rfl ⟨rfl, trivial⟩ trivial ?_
              refine G.endOps ?_
              exact G.arr (J35 (y40, v34.2.1, IntKind.wrap .i64 (v34.2.2 + 1)) hF) ⟨rfl, rfl, rfl, rfl, rfl, rfl, trivial⟩ ⟨rfl, trivial⟩ rfl
          refine ifS hF (fun hc44 hF => ?_) (fun hc44 hF => ?_)
          · refine G.cond rfl (fun _ => ?_) (fun hx => by rw [hc44] at hx; cases hx)
            refine G.region ?_
            refine G.op1 (op_assign (Ev.c _ rfl) rfl) rfl trivial trivial ?_
            refine G.endOps ?_
            exact G.arr (J43 true hF) ⟨rfl, rfl, rfl, rfl, rfl, rfl, trivial⟩ ⟨rfl, trivial⟩ rfl
          · refine G.cond rfl (fun hx => by rw [hc44] at hx; cases hx) (fun _ => ?_)
            refine G.skip ?_
            exact G.arr (J43 v34.1 hF) ⟨rfl, rfl, rfl, rfl, rfl, rfl, trivial⟩ ⟨rfl, trivial⟩ rfl
        obtain ⟨x46, hx46, hF⟩ := bindS hF
        refine ifS hF (fun hc47 hF => ?_) (fun hc47 hF => ?_)
        · obtain ⟨x48, hx48, hF⟩ := bindS hF
          refine ifS hF (fun hc49 hF => ?_) (fun hc49 hF => ?_)
          · refine ifS hF (fun hc50 hF => ?_) (fun hc50 hF => ?_)
            · refine G.drawn (effs := (⟨[(0, .one (.g (.d (.sl 6 (List.map encApi_Event l_0)))))], [], [(36, .one (.g (.d (.sl 6 (List.map encApi_Event l_0)))))], []⟩ :: ⟨[(10, .one (bI .i64 v34.2.2))], [], [(37, .one (bI .i64 v34.2.2))], []⟩ :: ⟨[(36, .one (.g (.d (.sl 6 (List.map encApi_Event l_0))))), (37, .one (bI .i64 v34.2.2))], [], [(38, .one (.ep [.v (.int .i64 x46.Kind), .v (.int .i64 x46.Client), .v (.string x46.Key), .v (.int .i64 x46.Stamp.N), .v (.int .i64 x46.Stamp.Site), .sl 3 (List.map encApi_Dep x46.Seen)]))], []⟩ :: ⟨[(38, .one (.ep [.v (.int .i64 x46.Kind), .v (.int .i64 x46.Client), .v (.string x46.Key), .v (.int .i64 x46.Stamp.N), .v (.int .i64 x46.Stamp.Site), .sl 3 (List.map encApi_Dep x46.Seen)]))], [], [(39, .one (.ep [.v (.int .i64 x46.Kind), .v (.int .i64 x46.Client), .v (.string x46.Key), .v (.int .i64 x46.Stamp.N), .v (.int .i64 x46.Stamp.Site), .sl 3 (List.map encApi_Dep x46.Seen)]))], []⟩ :: ⟨[(39, .one (.ep [.v (.int .i64 x46.Kind), .v (.int .i64 x46.Client), .v (.string x46.Key), .v (.int .i64 x46.Stamp.N), .v (.int .i64 x46.Stamp.Site), .sl 3 (List.map encApi_Dep x46.Seen)]))], [], [(40, .one (bI .i64 x46.Kind))], []⟩ :: ⟨[(40, .one (bI .i64 x46.Kind))], [], [(41, .one (bB true))], []⟩ :: ⟨[(41, .one (bB true))], [], [(42, .one (bB true))], []⟩ :: ⟨[(42, .one (bB true)), (0, .one (.g (.d (.sl 6 (List.map encApi_Event l_0)))))], [], [(43, .one (.g (.d (.sl 6 (List.map encApi_Event l_0)))))], []⟩ :: ⟨[(42, .one (bB true)), (10, .one (bI .i64 v34.2.2))], [], [(44, .one (bI .i64 v34.2.2))], []⟩ :: ⟨[(42, .one (bB true)), (43, .one (.g (.d (.sl 6 (List.map encApi_Event l_0))))), (44, .one (bI .i64 v34.2.2))], [], [(45, .one (.ep [.v (.int .i64 x48.Kind), .v (.int .i64 x48.Client), .v (.string x48.Key), .v (.int .i64 x48.Stamp.N), .v (.int .i64 x48.Stamp.Site), .sl 3 (List.map encApi_Dep x48.Seen)]))], []⟩ :: ⟨[(42, .one (bB true)), (45, .one (.ep [.v (.int .i64 x48.Kind), .v (.int .i64 x48.Client), .v (.string x48.Key), .v (.int .i64 x48.Stamp.N), .v (.int .i64 x48.Stamp.Site), .sl 3 (List.map encApi_Dep x48.Seen)]))], [], [(46, .one (.ep [.v (.int .i64 x48.Stamp.N), .v (.int .i64 x48.Stamp.Site), .sl 3 (List.map encApi_Dep x48.Seen)]))], []⟩ :: ⟨[(42, .one (bB true)), (46, .one (.ep [.v (.int .i64 x48.Stamp.N), .v (.int .i64 x48.Stamp.Site), .sl 3 (List.map encApi_Dep x48.Seen)]))], [], [(47, .one (.g (.agg [.v (.int .i64 x48.Stamp.N), .v (.int .i64 x48.Stamp.Site)])))], []⟩ :: ⟨[(42, .one (bB true)), (5, .one (.ptr 1005 0))], [], [(48, .one (.ptr 1005 3))], []⟩ :: ⟨[(42, .one (bB true)), (48, .one (.ptr 1005 3))], [(1005, some (.blk 30 [bI .i64 x1.Kind, bI .i64 x1.Client, bS x1.Key, bI .i64 x1.Stamp.N, bI .i64 x1.Stamp.Site, .g (.d (.sl 3 (List.map encApi_Dep x1.Seen)))]))], [(49, .one (.g (.agg [.v (.int .i64 x1.Stamp.N), .v (.int .i64 x1.Stamp.Site)])))], []⟩ :: ⟨[(42, .one (bB true)), (47, .one (.g (.agg [.v (.int .i64 x48.Stamp.N), .v (.int .i64 x48.Stamp.Site)]))), (49, .one (.g (.agg [.v (.int .i64 x1.Stamp.N), .v (.int .i64 x1.Stamp.Site)])))], [], [(50, .one (bB true))], []⟩ :: ⟨[(42, .one (bB true)), (50, .one (bB true))], [], [(51, .one (bB true))], []⟩ :: ⟨[(51, .one (bB true))], [], [(52, .one (bB true))], []⟩ :: ⟨[(52, .one (bB true)), (5, .one (.ptr 1005 0))], [], [(53, .one (.ptr 1005 0))], []⟩ :: ⟨[(52, .one (bB true)), (53, .one (.ptr 1005 0))], [(1005, some (.blk 30 [bI .i64 x1.Kind, bI .i64 x1.Client, bS x1.Key, bI .i64 x1.Stamp.N, bI .i64 x1.Stamp.Site, .g (.d (.sl 3 (List.map encApi_Dep x1.Seen)))]))], [(54, .one (bI .i64 x1.Kind))], []⟩ :: ⟨[(52, .one (bB true)), (54, .one (bI .i64 x1.Kind))], [], [(55, .one (bB true))], []⟩ :: ⟨[(52, .one (bB true)), (55, .one (bB true))], [], [(56, .one (bB true))], []⟩ :: ⟨[(56, .one (bB true))], [], [(57, .one (.x Go.undef))], []⟩ :: ⟨[(56, .one (bB true))], [], [(58, .one (.x Go.undef))], []⟩ :: ⟨[(56, .one (bB true))], [], [(59, .one (.x Go.undef))], []⟩ :: ⟨[(56, .one (bB true))], [], [(60, .one (.x Go.undef))], []⟩ :: ⟨[(56, .one (bB true))], [], [(61, .one (.x Go.undef))], []⟩ :: ⟨[(56, .one (bB true))], [], [(62, .one (.x Go.undef))], []⟩ :: ⟨[(56, .one (bB true))], [], [(63, .one (.x Go.undef))], []⟩ :: ⟨[(56, .one (bB true))], [], [(64, .one (.x Go.undef))], []⟩ :: ⟨[(52, .one (bB true)), (56, .one (bB true))], [], [(65, .one (bB true))], []⟩ :: ⟨[(52, .one (bB true)), (65, .one (bB true))], [], [(66, .one (bB true))], []⟩ :: [])) (deps := ([] :: [] :: [0, 1] :: [0, 1, 2] :: [0, 1, 2, 3] :: [0, 1, 2, 3, 4] :: [0, 1, 2, 3, 4, 5] :: [0, 1, 2, 3, 4, 5, 6] :: [0, 1, 2, 3, 4, 5, 6] :: [0, 1, 2, 3, 4, 5, 6, 7, 8] :: [0, 1, 2, 3, 4, 5, 6, 7, 8, 9] :: [0, 1, 2, 3, 4, 5, 6, 7, 8, 9, 10] :: [0, 1, 2, 3, 4, 5, 6] :: [0, 1, 2, 3, 4, 5, 6, 12] :: [0, 1, 2, 3, 4, 5, 6, 7, 8, 9, 10, 11, 12, 13] :: [0, 1, 2, 3, 4, 5, 6, 7, 8, 9, 10, 11, 12, 13, 14] :: [0, 1, 2, 3, 4, 5, 6, 7, 8, 9, 10, 11, 12, 13, 14, 15] :: [0, 1, 2, 3, 4, 5, 6, 7, 8, 9, 10, 11, 12, 13, 14, 15, 16] :: [0, 1, 2, 3, 4, 5, 6, 7, 8, 9, 10, 11, 12, 13, 14, 15, 16, 17] :: [0, 1, 2, 3, 4, 5, 6, 7, 8, 9, 10, 11, 12, 13, 14, 15, 16, 17, 18] :: [0, 1, 2, 3, 4, 5, 6, 7, 8, 9, 10, 11, 12, 13, 14, 15, 16, 17, 18, 19] :: (0 :: 1 :: 2 :: 3 :: 4 :: 5 :: 6 :: 7 :: 8 :: 9 :: 10 :: 11 :: 12 :: 13 :: 14 :: 15 :: 16 :: 17 :: 18 :: 19 :: 20 :: []) :: (0 :: 1 :: 2 :: 3 :: 4 :: 5 :: 6 :: 7 :: 8 :: 9 :: 10 :: 11 :: 12 :: 13 :: 14 :: 15 :: 16 :: 17 :: 18 :: 19 :: 20 :: []) :: (0 :: 1 :: 2 :: 3 :: 4 :: 5 :: 6 :: 7 :: 8 :: 9 :: 10 :: 11 :: 12 :: 13 :: 14 :: 15 :: 16 :: 17 :: 18 :: 19 :: 20 :: 21 :: 22 :: []) :: (0 :: 1 :: 2 :: 3 :: 4 :: 5 :: 6 :: 7 :: 8 :: 9 :: 10 :: 11 :: 12 :: 13 :: 14 :: 15 :: 16 :: 17 :: 18 :: 19 :: 20 :: 21 :: 22 :: 23 :: []) :: (0 :: 1 :: 2 :: 3 :: 4 :: 5 :: 6 :: 7 :: 8 :: 9 :: 10 :: 11 :: 12 :: 13 :: 14 :: 15 :: 16 :: 17 :: 18 :: 19 :: 20 :: 21 :: 22 :: 23 :: 24 :: []) :: (0 :: 1 :: 2 :: 3 :: 4 :: 5 :: 6 :: 7 :: 8 :: 9 :: 10 :: 11 :: 12 :: 13 :: 14 :: 15 :: 16 :: 17 :: 18 :: 19 :: 20 :: []) :: (0 :: 1 :: 2 :: 3 :: 4 :: 5 :: 6 :: 7 :: 8 :: 9 :: 10 :: 11 :: 12 :: 13 :: 14 :: 15 :: 16 :: 17 :: 18 :: 19 :: 20 :: 26 :: []) :: (0 :: 1 :: 2 :: 3 :: 4 :: 5 :: 6 :: 7 :: 8 :: 9 :: 10 :: 11 :: 12 :: 13 :: 14 :: 15 :: 16 :: 17 :: 18 :: 19 :: 20 :: 21 :: 22 :: 23 :: 24 :: 25 :: 26 :: 27 :: []) :: (0 :: 1 :: 2 :: 3 :: 4 :: 5 :: 6 :: 7 :: 8 :: 9 :: 10 :: 11 :: 12 :: 13 :: 14 :: 15 :: 16 :: 17 :: 18 :: 19 :: 20 :: 21 :: 22 :: 23 :: 24 :: 25 :: 26 :: 27 :: 28 :: []) :: (0 :: 1 :: 2 :: 3 :: 4 :: 5 :: 6 :: 7 :: 8 :: 9 :: 10 :: 11 :: 12 :: 13 :: 14 :: 15 :: 16 :: 17 :: 18 :: 19 :: 20 :: 21 :: 22 :: 23 :: 24 :: 25 :: 26 :: 27 :: 28 :: 29 :: []) :: [])) (sl' := [(0, .one (.g (.d (.sl 6 (List.map encApi_Event l_0))))), (1, .one (bI .i64 i_1)), (5, .one (.ptr 1005 0)), (8, .one (bB v34.1)), (9, .one (bI .i64 v34.2.1)), (10, .one (bI .i64 v34.2.2)), (66, .one (bB true))]) (hp' := [(1005, some (.blk 30 [bI .i64 x1.Kind, bI .i64 x1.Client, bS x1.Key, bI .i64 x1.Stamp.N, bI .i64 x1.Stamp.Site, .g (.d (.sl 3 (List.map encApi_Dep x1.Seen)))]))]) follows rfl rfl rfl ⟨⟨rfl, trivial⟩, trivial, ⟨rfl, trivial⟩, trivial, ⟨rfl, rfl, trivial⟩, trivial, ⟨rfl, trivial⟩, trivial, ⟨rfl, trivial⟩, trivial, ⟨rfl, trivial⟩, trivial, ⟨rfl, trivial⟩, trivial, ⟨rfl, rfl, trivial⟩, trivial, ⟨rfl, rfl, trivial⟩, trivial, ⟨rfl, rfl, rfl, trivial⟩, trivial, ⟨rfl, rfl, trivial⟩, trivial, ⟨rfl, rfl, trivial⟩, trivial, ⟨rfl, rfl, trivial⟩, trivial, ⟨rfl, rfl, trivial⟩, ⟨⟨rfl, rfl⟩, trivial⟩, ⟨rfl, rfl, rfl, trivial⟩, trivial, ⟨rfl, rfl, trivial⟩, trivial, ⟨rfl, trivial⟩, trivial, ⟨rfl, rfl, trivial⟩, trivial, ⟨rfl, rfl, trivial⟩, ⟨⟨rfl, rfl⟩, trivial⟩, ⟨rfl, rfl, trivial⟩, trivial, ⟨rfl, rfl, trivial⟩, trivial, ⟨rfl, trivial⟩, trivial, ⟨rfl, trivial⟩, trivial, ⟨rfl, trivial⟩, trivial, ⟨rfl, trivial⟩, trivial, ⟨rfl, trivial⟩, trivial, ⟨rfl, trivial⟩, trivial, ⟨rfl, trivial⟩, trivial, ⟨rfl, trivial⟩, trivial, ⟨rfl, rfl, trivial⟩, trivial, ⟨rfl, rfl, trivial⟩, trivial, trivial⟩ ⟨OpW.plain (op_move (Ev.t 0 (.g (.d (.sl 6 (List.map encApi_Event l_0))))) rfl) rfl rfl, OpW.plain (op_move (Ev.t 10 (bI .i64 v34.2.2)) rfl) rfl rfl, OpW.plain (op_index (cs := [.v (.int .i64 x46.Kind), .v (.int .i64 x46.Client), .v (.string x46.Key), .v (.int .i64 x46.Stamp.N), .v (.int .i64 x46.Stamp.Site), .sl 3 (List.map encApi_Dep x46.Seen)]) Try.underlying24 ti30 (idx_ok hx46).1 (idx_get hx46 encApi_Event) (Ev.t 36 (.g (.d (.sl 6 (List.map encApi_Event l_0))))) (Ev.t 37 (bI .i64 v34.2.2)) rfl) rfl rfl, OpW.plain (op_fieldE (cs' := [.v (.int .i64 x46.Kind), .v (.int .i64 x46.Client), .v (.string x46.Key), .v (.int .i64 x46.Stamp.N), .v (.int .i64 x46.Stamp.Site), .sl 3 (List.map encApi_Dep x46.Seen)]) Try.underlying30 rfl ti3 (by decide) rfl (Ev.t 38 (.ep [.v (.int .i64 x46.Kind), .v (.int .i64 x46.Client), .v (.string x46.Key), .v (.int .i64 x46.Stamp.N), .v (.int .i64 x46.Stamp.Site), .sl 3 (List.map encApi_Dep x46.Seen)])) rfl) rfl rfl, OpW.plain (op_load1E (c := .v (.int .i64 x46.Kind)) Try.underlying3 rfl rfl (Ev.t 39 (.ep [.v (.int .i64 x46.Kind), .v (.int .i64 x46.Client), .v (.string x46.Key), .v (.int .i64 x46.Stamp.N), .v (.int .i64 x46.Stamp.Site), .sl 3 (List.map encApi_Dep x46.Seen)])) rfl) rfl rfl, OpW.plain (OpL.cast (op_eqI (Ev.t 40 (bI .i64 x46.Kind)) (Ev.c _ rfl) rfl) (congrArg (fun b => bB b) hc47)) rfl rfl, OpW.plain (op_move (Ev.t 41 (bB true)) rfl) rfl rfl, OpW.yes (op_move (Ev.t 0 (.g (.d (.sl 6 (List.map encApi_Event l_0))))) rfl) rfl rfl rfl, OpW.yes (op_move (Ev.t 10 (bI .i64 v34.2.2)) rfl) rfl rfl rfl, OpW.yes (op_index (cs := [.v (.int .i64 x48.Kind), .v (.int .i64 x48.Client), .v (.string x48.Key), .v (.int .i64 x48.Stamp.N), .v (.int .i64 x48.Stamp.Site), .sl 3 (List.map encApi_Dep x48.Seen)]) Try.underlying24 ti30 (idx_ok hx48).1 (idx_get hx48 encApi_Event) (Ev.t 43 (.g (.d (.sl 6 (List.map encApi_Event l_0))))) (Ev.t 44 (bI .i64 v34.2.2)) rfl) rfl rfl rfl, OpW.yes (op_fieldE (cs' := [.v (.int .i64 x48.Stamp.N), .v (.int .i64 x48.Stamp.Site), .sl 3 (List.map encApi_Dep x48.Seen)]) Try.underlying30 rfl ti27 (by decide) rfl (Ev.t 45 (.ep [.v (.int .i64 x48.Kind), .v (.int .i64 x48.Client), .v (.string x48.Key), .v (.int .i64 x48.Stamp.N), .v (.int .i64 x48.Stamp.Site), .sl 3 (List.map encApi_Dep x48.Seen)])) rfl) rfl rfl rfl, OpW.yes (op_loadAE (ds := [.v (.int .i64 x48.Stamp.N), .v (.int .i64 x48.Stamp.Site)]) Try.underlying27 rfl ti27 rfl (Ev.t 46 (.ep [.v (.int .i64 x48.Stamp.N), .v (.int .i64 x48.Stamp.Site), .sl 3 (List.map encApi_Dep x48.Seen)])) rfl) rfl rfl rfl, OpW.yes (op_fieldP (off' := 3) Try.underlying30 rfl ti27 (by decide) rfl (Ev.t 5 (.ptr 1005 0)) rfl) rfl rfl rfl, OpW.yes (op_loadAP (ds := [.v (.int .i64 x1.Stamp.N), .v (.int .i64 x1.Stamp.Site)]) Try.underlying27 rfl ti27 rfl (Ev.t 48 (.ptr 1005 3)) rfl) rfl rfl rfl, OpW.yes (OpL.cast (op_eqA (us := [.int .i64 x48.Stamp.N, .int .i64 x48.Stamp.Site]) (vs := [.int .i64 x1.Stamp.N, .int .i64 x1.Stamp.Site]) rfl rfl Try.eqGuardType27 (fun w => eq27 x48.Stamp.N x48.Stamp.Site x1.Stamp.N x1.Stamp.Site w) (Ev.t 47 (.g (.agg [.v (.int .i64 x48.Stamp.N), .v (.int .i64 x48.Stamp.Site)]))) (Ev.t 49 (.g (.agg [.v (.int .i64 x1.Stamp.N), .v (.int .i64 x1.Stamp.Site)]))) rfl) (congrArg (fun b => bB b) hc49)) rfl rfl rfl, OpW.plain (op_pickT (Ev.t 42 (bB true)) (Ev.t 50 (bB true)) rfl) rfl rfl, OpW.plain (op_move (Ev.t 51 (bB true)) rfl) rfl rfl, OpW.yes (op_fieldP (off' := 0) Try.underlying30 rfl ti3 (by decide) rfl (Ev.t 5 (.ptr 1005 0)) rfl) rfl rfl rfl, OpW.yes (op_load1P (c := bI .i64 x1.Kind) Try.underlying3 rfl rfl (Ev.t 53 (.ptr 1005 0)) rfl) rfl rfl rfl, OpW.yes (OpL.cast (op_eqI (Ev.t 54 (bI .i64 x1.Kind)) (Ev.c _ rfl) rfl) (congrArg (fun b => bB b) hc50)) rfl rfl rfl, OpW.yes (op_move (Ev.t 55 (bB true)) rfl) rfl rfl rfl, OpW.no rfl rfl rfl rfl rfl, OpW.no rfl rfl rfl rfl rfl, OpW.no rfl rfl rfl rfl rfl, OpW.no rfl rfl rfl rfl rfl, OpW.no rfl rfl rfl rfl rfl, OpW.no rfl rfl rfl rfl rfl, OpW.no rfl rfl rfl rfl rfl, OpW.no rfl rfl rfl rfl rfl, OpW.yes (op_pickT (Ev.t 56 (bB true)) (Ev.c _ rfl) rfl) rfl rfl rfl, OpW.plain (op_pickT (Ev.t 52 (bB true)) (Ev.t 65 (bB true)) rfl) rfl rfl, trivial⟩ ⟨rfl, rfl, rfl, rfl, rfl, rfl, rfl, trivial⟩ ⟨rfl, trivial⟩ rfl ?_
              exact G.arr (J45 true hF) ⟨rfl, rfl, rfl, rfl, rfl, rfl, rfl, trivial⟩ ⟨rfl, trivial⟩ rfl
            · obtain ⟨x51, hx51, hF⟩ := bindS hF
              refine G.drawn (effs := (⟨[(0, .one (.g (.d (.sl 6 (List.map encApi_Event l_0)))))], [], [(36, .one (.g (.d (.sl 6 (List.map encApi_Event l_0)))))], []⟩ :: ⟨[(10, .one (bI .i64 v34.2.2))], [], [(37, .one (bI .i64 v34.2.2))], []⟩ :: ⟨[(36, .one (.g (.d (.sl 6 (List.map encApi_Event l_0))))), (37, .one (bI .i64 v34.2.2))], [], [(38, .one (.ep [.v (.int .i64 x46.Kind), .v (.int .i64 x46.Client), .v (.string x46.Key), .v (.int .i64 x46.Stamp.N), .v (.int .i64 x46.Stamp.Site), .sl 3 (List.map encApi_Dep x46.Seen)]))], []⟩ :: ⟨[(38, .one (.ep [.v (.int .i64 x46.Kind), .v (.int .i64 x46.Client), .v (.string x46.Key), .v (.int .i64 x46.Stamp.N), .v (.int .i64 x46.Stamp.Site), .sl 3 (List.map encApi_Dep x46.Seen)]))], [], [(39, .one (.ep [.v (.int .i64 x46.Kind), .v (.int .i64 x46.Client), .v (.string x46.Key), .v (.int .i64 x46.Stamp.N), .v (.int .i64 x46.Stamp.Site), .sl 3 (List.map encApi_Dep x46.Seen)]))], []⟩ :: ⟨[(39, .one (.ep [.v (.int .i64 x46.Kind), .v (.int .i64 x46.Client), .v (.string x46.Key), .v (.int .i64 x46.Stamp.N), .v (.int .i64 x46.Stamp.Site), .sl 3 (List.map encApi_Dep x46.Seen)]))], [], [(40, .one (bI .i64 x46.Kind))], []⟩ :: ⟨[(40, .one (bI .i64 x46.Kind))], [], [(41, .one (bB true))], []⟩ :: ⟨[(41, .one (bB true))], [], [(42, .one (bB true))], []⟩ :: ⟨[(42, .one (bB true)), (0, .one (.g (.d (.sl 6 (List.map encApi_Event l_0)))))], [], [(43, .one (.g (.d (.sl 6 (List.map encApi_Event l_0)))))], []⟩ :: ⟨[(42, .one (bB true)), (10, .one (bI .i64 v34.2.2))], [], [(44, .one (bI .i64 v34.2.2))], []⟩ :: ⟨[(42, .one (bB true)), (43, .one (.g (.d (.sl 6 (List.map encApi_Event l_0))))), (44, .one (bI .i64 v34.2.2))], [], [(45, .one (.ep [.v (.int .i64 x48.Kind), .v (.int .i64 x48.Client), .v (.string x48.Key), .v (.int .i64 x48.Stamp.N), .v (.int .i64 x48.Stamp.Site), .sl 3 (List.map encApi_Dep x48.Seen)]))], []⟩ :: ⟨[(42, .one (bB true)), (45, .one (.ep [.v (.int .i64 x48.Kind), .v (.int .i64 x48.Client), .v (.string x48.Key), .v (.int .i64 x48.Stamp.N), .v (.int .i64 x48.Stamp.Site), .sl 3 (List.map encApi_Dep x48.Seen)]))], [], [(46, .one (.ep [.v (.int .i64 x48.Stamp.N), .v (.int .i64 x48.Stamp.Site), .sl 3 (List.map encApi_Dep x48.Seen)]))], []⟩ :: ⟨[(42, .one (bB true)), (46, .one (.ep [.v (.int .i64 x48.Stamp.N), .v (.int .i64 x48.Stamp.Site), .sl 3 (List.map encApi_Dep x48.Seen)]))], [], [(47, .one (.g (.agg [.v (.int .i64 x48.Stamp.N), .v (.int .i64 x48.Stamp.Site)])))], []⟩ :: ⟨[(42, .one (bB true)), (5, .one (.ptr 1005 0))], [], [(48, .one (.ptr 1005 3))], []⟩ :: ⟨[(42, .one (bB true)), (48, .one (.ptr 1005 3))], [(1005, some (.blk 30 [bI .i64 x1.Kind, bI .i64 x1.Client, bS x1.Key, bI .i64 x1.Stamp.N, bI .i64 x1.Stamp.Site, .g (.d (.sl 3 (List.map encApi_Dep x1.Seen)))]))], [(49, .one (.g (.agg [.v (.int .i64 x1.Stamp.N), .v (.int .i64 x1.Stamp.Site)])))], []⟩ :: ⟨[(42, .one (bB true)), (47, .one (.g (.agg [.v (.int .i64 x48.Stamp.N), .v (.int .i64 x48.Stamp.Site)]))), (49, .one (.g (.agg [.v (.int .i64 x1.Stamp.N), .v (.int .i64 x1.Stamp.Site)])))], [], [(50, .one (bB true))], []⟩ :: ⟨[(42, .one (bB true)), (50, .one (bB true))], [], [(51, .one (bB true))], []⟩ :: ⟨[(51, .one (bB true))], [], [(52, .one (bB true))], []⟩ :: ⟨[(52, .one (bB true)), (5, .one (.ptr 1005 0))], [], [(53, .one (.ptr 1005 0))], []⟩ :: ⟨[(52, .one (bB true)), (53, .one (.ptr 1005 0))], [(1005, some (.blk 30 [bI .i64 x1.Kind, bI .i64 x1.Client, bS x1.Key, bI .i64 x1.Stamp.N, bI .i64 x1.Stamp.Site, .g (.d (.sl 3 (List.map encApi_Dep x1.Seen)))]))], [(54, .one (bI .i64 x1.Kind))], []⟩ :: ⟨[(52, .one (bB true)), (54, .one (bI .i64 x1.Kind))], [], [(55, .one (bB false))], []⟩ :: ⟨[(52, .one (bB true)), (55, .one (bB false))], [], [(56, .one (bB false))], []⟩ :: ⟨[(56, .one (bB false)), (0, .one (.g (.d (.sl 6 (List.map encApi_Event l_0)))))], [], [(57, .one (.g (.d (.sl 6 (List.map encApi_Event l_0)))))], []⟩ :: ⟨[(56, .one (bB false)), (10, .one (bI .i64 v34.2.2))], [], [(58, .one (bI .i64 v34.2.2))], []⟩ :: ⟨[(56, .one (bB false)), (57, .one (.g (.d (.sl 6 (List.map encApi_Event l_0))))), (58, .one (bI .i64 v34.2.2))], [], [(59, .one (.ep [.v (.int .i64 x51.Kind), .v (.int .i64 x51.Client), .v (.string x51.Key), .v (.int .i64 x51.Stamp.N), .v (.int .i64 x51.Stamp.Site), .sl 3 (List.map encApi_Dep x51.Seen)]))], []⟩ :: ⟨[(56, .one (bB false)), (59, .one (.ep [.v (.int .i64 x51.Kind), .v (.int .i64 x51.Client), .v (.string x51.Key), .v (.int .i64 x51.Stamp.N), .v (.int .i64 x51.Stamp.Site), .sl 3 (List.map encApi_Dep x51.Seen)]))], [], [(60, .one (.ep [.v (.string x51.Key), .v (.int .i64 x51.Stamp.N), .v (.int .i64 x51.Stamp.Site), .sl 3 (List.map encApi_Dep x51.Seen)]))], []⟩ :: ⟨[(56, .one (bB false)), (60, .one (.ep [.v (.string x51.Key), .v (.int .i64 x51.Stamp.N), .v (.int .i64 x51.Stamp.Site), .sl 3 (List.map encApi_Dep x51.Seen)]))], [], [(61, .one (bS x51.Key))], []⟩ :: ⟨[(56, .one (bB false)), (5, .one (.ptr 1005 0))], [], [(62, .one (.ptr 1005 2))], []⟩ :: ⟨[(56, .one (bB false)), (62, .one (.ptr 1005 2))], [(1005, some (.blk 30 [bI .i64 x1.Kind, bI .i64 x1.Client, bS x1.Key, bI .i64 x1.Stamp.N, bI .i64 x1.Stamp.Site, .g (.d (.sl 3 (List.map encApi_Dep x1.Seen)))]))], [(63, .one (bS x1.Key))], []⟩ :: ⟨[(56, .one (bB false)), (61, .one (bS x51.Key)), (63, .one (bS x1.Key))], [], [(64, .one (bB (seq x51.Key x1.Key)))], []⟩ :: ⟨[(52, .one (bB true)), (56, .one (bB false)), (64, .one (bB (seq x51.Key x1.Key)))], [], [(65, .one (bB (seq x51.Key x1.Key)))], []⟩ :: ⟨[(52, .one (bB true)), (65, .one (bB (seq x51.Key x1.Key)))], [], [(66, .one (bB (seq x51.Key x1.Key)))], []⟩ :: [])) (deps := ([] :: [] :: [0, 1] :: [0, 1, 2] :: [0, 1, 2, 3] :: [0, 1, 2, 3, 4] :: [0, 1, 2, 3, 4, 5] :: [0, 1, 2, 3, 4, 5, 6] :: [0, 1, 2, 3, 4, 5, 6] :: [0, 1, 2, 3, 4, 5, 6, 7, 8] :: [0, 1, 2, 3, 4, 5, 6, 7, 8, 9] :: [0, 1, 2, 3, 4, 5, 6, 7, 8, 9, 10] :: [0, 1, 2, 3, 4, 5, 6] :: [0, 1, 2, 3, 4, 5, 6, 12] :: [0, 1, 2, 3, 4, 5, 6, 7, 8, 9, 10, 11, 12, 13] :: [0, 1, 2, 3, 4, 5, 6, 7, 8, 9, 10, 11, 12, 13, 14] :: [0, 1, 2, 3, 4, 5, 6, 7, 8, 9, 10, 11, 12, 13, 14, 15] :: [0, 1, 2, 3, 4, 5, 6, 7, 8, 9, 10, 11, 12, 13, 14, 15, 16] :: [0, 1, 2, 3, 4, 5, 6, 7, 8, 9, 10, 11, 12, 13, 14, 15, 16, 17] :: [0, 1, 2, 3, 4, 5, 6, 7, 8, 9, 10, 11, 12, 13, 14, 15, 16, 17, 18] :: [0, 1, 2, 3, 4, 5, 6, 7, 8, 9, 10, 11, 12, 13, 14, 15, 16, 17, 18, 19] :: (0 :: 1 :: 2 :: 3 :: 4 :: 5 :: 6 :: 7 :: 8 :: 9 :: 10 :: 11 :: 12 :: 13 :: 14 :: 15 :: 16 :: 17 :: 18 :: 19 :: 20 :: []) :: (0 :: 1 :: 2 :: 3 :: 4 :: 5 :: 6 :: 7 :: 8 :: 9 :: 10 :: 11 :: 12 :: 13 :: 14 :: 15 :: 16 :: 17 :: 18 :: 19 :: 20 :: []) :: (0 :: 1 :: 2 :: 3 :: 4 :: 5 :: 6 :: 7 :: 8 :: 9 :: 10 :: 11 :: 12 :: 13 :: 14 :: 15 :: 16 :: 17 :: 18 :: 19 :: 20 :: 21 :: 22 :: []) :: (0 :: 1 :: 2 :: 3 :: 4 :: 5 :: 6 :: 7 :: 8 :: 9 :: 10 :: 11 :: 12 :: 13 :: 14 :: 15 :: 16 :: 17 :: 18 :: 19 :: 20 :: 21 :: 22 :: 23 :: []) :: (0 :: 1 :: 2 :: 3 :: 4 :: 5 :: 6 :: 7 :: 8 :: 9 :: 10 :: 11 :: 12 :: 13 :: 14 :: 15 :: 16 :: 17 :: 18 :: 19 :: 20 :: 21 :: 22 :: 23 :: 24 :: []) :: (0 :: 1 :: 2 :: 3 :: 4 :: 5 :: 6 :: 7 :: 8 :: 9 :: 10 :: 11 :: 12 :: 13 :: 14 :: 15 :: 16 :: 17 :: 18 :: 19 :: 20 :: []) :: (0 :: 1 :: 2 :: 3 :: 4 :: 5 :: 6 :: 7 :: 8 :: 9 :: 10 :: 11 :: 12 :: 13 :: 14 :: 15 :: 16 :: 17 :: 18 :: 19 :: 20 :: 26 :: []) :: (0 :: 1 :: 2 :: 3 :: 4 :: 5 :: 6 :: 7 :: 8 :: 9 :: 10 :: 11 :: 12 :: 13 :: 14 :: 15 :: 16 :: 17 :: 18 :: 19 :: 20 :: 21 :: 22 :: 23 :: 24 :: 25 :: 26 :: 27 :: []) :: (0 :: 1 :: 2 :: 3 :: 4 :: 5 :: 6 :: 7 :: 8 :: 9 :: 10 :: 11 :: 12 :: 13 :: 14 :: 15 :: 16 :: 17 :: 18 :: 19 :: 20 :: 21 :: 22 :: 23 :: 24 :: 25 :: 26 :: 27 :: 28 :: []) :: (0 :: 1 :: 2 :: 3 :: 4 :: 5 :: 6 :: 7 :: 8 :: 9 :: 10 :: 11 :: 12 :: 13 :: 14 :: 15 :: 16 :: 17 :: 18 :: 19 :: 20 :: 21 :: 22 :: 23 :: 24 :: 25 :: 26 :: 27 :: 28 :: 29 :: []) :: [])) (sl' := [(0, .one (.g (.d (.sl 6 (List.map encApi_Event l_0))))), (1, .one (bI .i64 i_1)), (5, .one (.ptr 1005 0)), (8, .one (bB v34.1)), (9, .one (bI .i64 v34.2.1)), (10, .one (bI .i64 v34.2.2)), (66, .one (bB (seq x51.Key x1.Key)))]) (hp' := [(1005, some (.blk 30 [bI .i64 x1.Kind, bI .i64 x1.Client, bS x1.Key, bI .i64 x1.Stamp.N, bI .i64 x1.Stamp.Site, .g (.d (.sl 3 (List.map encApi_Dep x1.Seen)))]))]) follows rfl rfl rfl ⟨⟨rfl, trivial⟩, trivial, ⟨rfl, trivial⟩, trivial, ⟨rfl, rfl, trivial⟩, trivial, ⟨rfl, trivial⟩, trivial, ⟨rfl, trivial⟩, trivial, ⟨rfl, trivial⟩, trivial, ⟨rfl, trivial⟩, trivial, ⟨rfl, rfl, trivial⟩, trivial, ⟨rfl, rfl, trivial⟩, trivial, ⟨rfl, rfl, rfl, trivial⟩, trivial, ⟨rfl, rfl, trivial⟩, trivial, ⟨rfl, rfl, trivial⟩, trivial, ⟨rfl, rfl, trivial⟩, trivial, ⟨rfl, rfl, trivial⟩, ⟨⟨rfl, rfl⟩, trivial⟩, ⟨rfl, rfl, rfl, trivial⟩, trivial, ⟨rfl, rfl, trivial⟩, trivial, ⟨rfl, trivial⟩, trivial, ⟨rfl, rfl, trivial⟩, trivial, ⟨rfl, rfl, trivial⟩, ⟨⟨rfl, rfl⟩, trivial⟩, ⟨rfl, rfl, trivial⟩, trivial, ⟨rfl, rfl, trivial⟩, trivial, ⟨rfl, rfl, trivial⟩, trivial, ⟨rfl, rfl, trivial⟩, trivial, ⟨rfl, rfl, rfl, trivial⟩, trivial, ⟨rfl, rfl, trivial⟩, trivial, ⟨rfl, rfl, trivial⟩, trivial, ⟨rfl, rfl, trivial⟩, trivial, ⟨rfl, rfl, trivial⟩, ⟨⟨rfl, rfl⟩, trivial⟩, ⟨rfl, rfl, rfl, trivial⟩, trivial, ⟨rfl, rfl, rfl, trivial⟩, trivial, ⟨rfl, rfl, trivial⟩, trivial, trivial⟩ ⟨OpW.plain (op_move (Ev.t 0 (.g (.d (.sl 6 (List.map encApi_Event l_0))))) rfl) rfl rfl, OpW.plain (op_move (Ev.t 10 (bI .i64 v34.2.2)) rfl) rfl rfl, OpW.plain (op_index (cs := [.v (.int .i64 x46.Kind), .v (.int .i64 x46.Client), .v (.string x46.Key), .v (.int .i64 x46.Stamp.N), .v (.int .i64 x46.Stamp.Site), .sl 3 (List.map encApi_Dep x46.Seen)]) Try.underlying24 ti30 (idx_ok hx46).1 (idx_get hx46 encApi_Event) (Ev.t 36 (.g (.d (.sl 6 (List.map encApi_Event l_0))))) (Ev.t 37 (bI .i64 v34.2.2)) rfl) rfl rfl, OpW.plain (op_fieldE (cs' := [.v (.int .i64 x46.Kind), .v (.int .i64 x46.Client), .v (.string x46.Key), .v (.int .i64 x46.Stamp.N), .v (.int .i64 x46.Stamp.Site), .sl 3 (List.map encApi_Dep x46.Seen)]) Try.underlying30 rfl ti3 (by decide) rfl (Ev.t 38 (.ep [.v (.int .i64 x46.Kind), .v (.int .i64 x46.Client), .v (.string x46.Key), .v (.int .i64 x46.Stamp.N), .v (.int .i64 x46.Stamp.Site), .sl 3 (List.map encApi_Dep x46.Seen)])) rfl) rfl rfl, OpW.plain (op_load1E (c := .v (.int .i64 x46.Kind)) Try.underlying3 rfl rfl (Ev.t 39 (.ep [.v (.int .i64 x46.Kind), .v (.int .i64 x46.Client), .v (.string x46.Key), .v (.int .i64 x46.Stamp.N), .v (.int .i64 x46.Stamp.Site), .sl 3 (List.map encApi_Dep x46.Seen)])) rfl) rfl rfl, OpW.plain (OpL.cast (op_eqI (Ev.t 40 (bI .i64 x46.Kind)) (Ev.c _ rfl) rfl) (congrArg (fun b => bB b) hc47)) rfl rfl, OpW.plain (op_move (Ev.t 41 (bB true)) rfl) rfl rfl, OpW.yes (op_move (Ev.t 0 (.g (.d (.sl 6 (List.map encApi_Event l_0))))) rfl) rfl rfl rfl, OpW.yes (op_move (Ev.t 10 (bI .i64 v34.2.2)) rfl) rfl rfl rfl, OpW.yes (op_index (cs := [.v (.int .i64 x48.Kind), .v (.int .i64 x48.Client), .v (.string x48.Key), .v (.int .i64 x48.Stamp.N), .v (.int .i64 x48.Stamp.Site), .sl 3 (List.map encApi_Dep x48.Seen)]) Try.underlying24 ti30 (idx_ok hx48).1 (idx_get hx48 encApi_Event) (Ev.t 43 (.g (.d (.sl 6 (List.map encApi_Event l_0))))) (Ev.t 44 (bI .i64 v34.2.2)) rfl) rfl rfl rfl, OpW.yes (op_fieldE (cs' := [.v (.int .i64 x48.Stamp.N), .v (.int .i64 x48.Stamp.Site), .sl 3 (List.map encApi_Dep x48.Seen)]) Try.underlying30 rfl ti27 (by decide) rfl (Ev.t 45 (.ep [.v (.int .i64 x48.Kind), .v (.int .i64 x48.Client), .v (.string x48.Key), .v (.int .i64 x48.Stamp.N), .v (.int .i64 x48.Stamp.Site), .sl 3 (List.map encApi_Dep x48.Seen)])) rfl) rfl rfl rfl, OpW.yes (op_loadAE (ds := [.v (.int .i64 x48.Stamp.N), .v (.int .i64 x48.Stamp.Site)]) Try.underlying27 rfl ti27 rfl (Ev.t 46 (.ep [.v (.int .i64 x48.Stamp.N), .v (.int .i64 x48.Stamp.Site), .sl 3 (List.map encApi_Dep x48.Seen)])) rfl) rfl rfl rfl, OpW.yes (op_fieldP (off' := 3) Try.underlying30 rfl ti27 (by decide) rfl (Ev.t 5 (.ptr 1005 0)) rfl) rfl rfl rfl, OpW.yes (op_loadAP (ds := [.v (.int .i64 x1.Stamp.N), .v (.int .i64 x1.Stamp.Site)]) Try.underlying27 rfl ti27 rfl (Ev.t 48 (.ptr 1005 3)) rfl) rfl rfl rfl, OpW.yes (OpL.cast (op_eqA (us := [.int .i64 x48.Stamp.N, .int .i64 x48.Stamp.Site]) (vs := [.int .i64 x1.Stamp.N, .int .i64 x1.Stamp.Site]) rfl rfl Try.eqGuardType27 (fun w => eq27 x48.Stamp.N x48.Stamp.Site x1.Stamp.N x1.Stamp.Site w) (Ev.t 47 (.g (.agg [.v (.int .i64 x48.Stamp.N), .v (.int .i64 x48.Stamp.Site)]))) (Ev.t 49 (.g (.agg [.v (.int .i64 x1.Stamp.N), .v (.int .i64 x1.Stamp.Site)]))) rfl) (congrArg (fun b => bB b) hc49)) rfl rfl rfl, OpW.plain (op_pickT (Ev.t 42 (bB true)) (Ev.t 50 (bB true)) rfl) rfl rfl, OpW.plain (op_move (Ev.t 51 (bB true)) rfl) rfl rfl, OpW.yes (op_fieldP (off' := 0) Try.underlying30 rfl ti3 (by decide) rfl (Ev.t 5 (.ptr 1005 0)) rfl) rfl rfl rfl, OpW.yes (op_load1P (c := bI .i64 x1.Kind) Try.underlying3 rfl rfl (Ev.t 53 (.ptr 1005 0)) rfl) rfl rfl rfl, OpW.yes (OpL.cast (op_eqI (Ev.t 54 (bI .i64 x1.Kind)) (Ev.c _ rfl) rfl) (congrArg (fun b => bB b) hc50)) rfl rfl rfl, OpW.yes (op_move (Ev.t 55 (bB false)) rfl) rfl rfl rfl, OpW.yes (op_move (Ev.t 0 (.g (.d (.sl 6 (List.map encApi_Event l_0))))) rfl) rfl rfl rfl, OpW.yes (op_move (Ev.t 10 (bI .i64 v34.2.2)) rfl) rfl rfl rfl, OpW.yes (op_index (cs := [.v (.int .i64 x51.Kind), .v (.int .i64 x51.Client), .v (.string x51.Key), .v (.int .i64 x51.Stamp.N), .v (.int .i64 x51.Stamp.Site), .sl 3 (List.map encApi_Dep x51.Seen)]) Try.underlying24 ti30 (idx_ok hx51).1 (idx_get hx51 encApi_Event) (Ev.t 57 (.g (.d (.sl 6 (List.map encApi_Event l_0))))) (Ev.t 58 (bI .i64 v34.2.2)) rfl) rfl rfl rfl, OpW.yes (op_fieldE (cs' := [.v (.string x51.Key), .v (.int .i64 x51.Stamp.N), .v (.int .i64 x51.Stamp.Site), .sl 3 (List.map encApi_Dep x51.Seen)]) Try.underlying30 rfl ti9 (by decide) rfl (Ev.t 59 (.ep [.v (.int .i64 x51.Kind), .v (.int .i64 x51.Client), .v (.string x51.Key), .v (.int .i64 x51.Stamp.N), .v (.int .i64 x51.Stamp.Site), .sl 3 (List.map encApi_Dep x51.Seen)])) rfl) rfl rfl rfl, OpW.yes (op_load1E (c := .v (.string x51.Key)) Try.underlying9 rfl rfl (Ev.t 60 (.ep [.v (.string x51.Key), .v (.int .i64 x51.Stamp.N), .v (.int .i64 x51.Stamp.Site), .sl 3 (List.map encApi_Dep x51.Seen)])) rfl) rfl rfl rfl, OpW.yes (op_fieldP (off' := 2) Try.underlying30 rfl ti9 (by decide) rfl (Ev.t 5 (.ptr 1005 0)) rfl) rfl rfl rfl, OpW.yes (op_load1P (c := bS x1.Key) Try.underlying9 rfl rfl (Ev.t 62 (.ptr 1005 2)) rfl) rfl rfl rfl, OpW.yes (op_eqS (Ev.t 61 (bS x51.Key)) (Ev.t 63 (bS x1.Key)) rfl) rfl rfl rfl, OpW.yes (op_pickF (Ev.t 56 (bB false)) (Ev.t 64 (bB (seq x51.Key x1.Key))) rfl) rfl rfl rfl, OpW.plain (op_pickT (Ev.t 52 (bB true)) (Ev.t 65 (bB (seq x51.Key x1.Key))) rfl) rfl rfl, trivial⟩ ⟨rfl, rfl, rfl, rfl, rfl, rfl, rfl, trivial⟩ ⟨rfl, trivial⟩ rfl ?_
              exact G.arr (J45 (seq x51.Key x1.Key) hF) ⟨rfl, rfl, rfl, rfl, rfl, rfl, rfl, trivial⟩ ⟨rfl, trivial⟩ rfl
          · refine G.drawn (effs := (⟨[(0, .one (.g (.d (.sl 6 (List.map encApi_Event l_0)))))], [], [(36, .one (.g (.d (.sl 6 (List.map encApi_Event l_0)))))], []⟩ :: ⟨[(10, .one (bI .i64 v34.2.2))], [], [(37, .one (bI .i64 v34.2.2))], []⟩ :: ⟨[(36, .one (.g (.d (.sl 6 (List.map encApi_Event l_0))))), (37, .one (bI .i64 v34.2.2))], [], [(38, .one (.ep [.v (.int .i64 x46.Kind), .v (.int .i64 x46.Client), .v (.string x46.Key), .v (.int .i64 x46.Stamp.N), .v (.int .i64 x46.Stamp.Site), .sl 3 (List.map encApi_Dep x46.Seen)]))], []⟩ :: ⟨[(38, .one (.ep [.v (.int .i64 x46.Kind), .v (.int .i64 x46.Client), .v (.string x46.Key), .v (.int .i64 x46.Stamp.N), .v (.int .i64 x46.Stamp.Site), .sl 3 (List.map encApi_Dep x46.Seen)]))], [], [(39, .one (.ep [.v (.int .i64 x46.Kind), .v (.int .i64 x46.Client), .v (.string x46.Key), .v (.int .i64 x46.Stamp.N), .v (.int .i64 x46.Stamp.Site), .sl 3 (List.map encApi_Dep x46.Seen)]))], []⟩ :: ⟨[(39, .one (.ep [.v (.int .i64 x46.Kind), .v (.int .i64 x46.Client), .v (.string x46.Key), .v (.int .i64 x46.Stamp.N), .v (.int .i64 x46.Stamp.Site), .sl 3 (List.map encApi_Dep x46.Seen)]))], [], [(40, .one (bI .i64 x46.Kind))], []⟩ :: ⟨[(40, .one (bI .i64 x46.Kind))], [], [(41, .one (bB true))], []⟩ :: ⟨[(41, .one (bB true))], [], [(42, .one (bB true))], []⟩ :: ⟨[(42, .one (bB true)), (0, .one (.g (.d (.sl 6 (List.map encApi_Event l_0)))))], [], [(43, .one (.g (.d (.sl 6 (List.map encApi_Event l_0)))))], []⟩ :: ⟨[(42, .one (bB true)), (10, .one (bI .i64 v34.2.2))], [], [(44, .one (bI .i64 v34.2.2))], []⟩ :: ⟨[(42, .one (bB true)), (43, .one (.g (.d (.sl 6 (List.map encApi_Event l_0))))), (44, .one (bI .i64 v34.2.2))], [], [(45, .one (.ep [.v (.int .i64 x48.Kind), .v (.int .i64 x48.Client), .v (.string x48.Key), .v (.int .i64 x48.Stamp.N), .v (.int .i64 x48.Stamp.Site), .sl 3 (List.map encApi_Dep x48.Seen)]))], []⟩ :: ⟨[(42, .one (bB true)), (45, .one (.ep [.v (.int .i64 x48.Kind), .v (.int .i64 x48.Client), .v (.string x48.Key), .v (.int .i64 x48.Stamp.N), .v (.int .i64 x48.Stamp.Site), .sl 3 (List.map encApi_Dep x48.Seen)]))], [], [(46, .one (.ep [.v (.int .i64 x48.Stamp.N), .v (.int .i64 x48.Stamp.Site), .sl 3 (List.map encApi_Dep x48.Seen)]))], []⟩ :: ⟨[(42, .one (bB true)), (46, .one (.ep [.v (.int .i64 x48.Stamp.N), .v (.int .i64 x48.Stamp.Site), .sl 3 (List.map encApi_Dep x48.Seen)]))], [], [(47, .one (.g (.agg [.v (.int .i64 x48.Stamp.N), .v (.int .i64 x48.Stamp.Site)])))], []⟩ :: ⟨[(42, .one (bB true)), (5, .one (.ptr 1005 0))], [], [(48, .one (.ptr 1005 3))], []⟩ :: ⟨[(42, .one (bB true)), (48, .one (.ptr 1005 3))], [(1005, some (.blk 30 [bI .i64 x1.Kind, bI .i64 x1.Client, bS x1.Key, bI .i64 x1.Stamp.N, bI .i64 x1.Stamp.Site, .g (.d (.sl 3 (List.map encApi_Dep x1.Seen)))]))], [(49, .one (.g (.agg [.v (.int .i64 x1.Stamp.N), .v (.int .i64 x1.Stamp.Site)])))], []⟩ :: ⟨[(42, .one (bB true)), (47, .one (.g (.agg [.v (.int .i64 x48.Stamp.N), .v (.int .i64 x48.Stamp.Site)]))), (49, .one (.g (.agg [.v (.int .i64 x1.Stamp.N), .v (.int .i64 x1.Stamp.Site)])))], [], [(50, .one (bB false))], []⟩ :: ⟨[(42, .one (bB true)), (50, .one (bB false))], [], [(51, .one (bB false))], []⟩ :: ⟨[(51, .one (bB false))], [], [(52, .one (bB false))], []⟩ :: ⟨[(52, .one (bB false))], [], [(53, .one (.x Go.undef))], []⟩ :: ⟨[(52, .one (bB false))], [], [(54, .one (.x Go.undef))], []⟩ :: ⟨[(52, .one (bB false))], [], [(55, .one (.x Go.undef))], []⟩ :: ⟨[(52, .one (bB false))], [], [(56, .one (.x Go.undef))], []⟩ :: ⟨[(56, .one (.x Go.undef))], [], [(57, .one (.x Go.undef))], []⟩ :: ⟨[(56, .one (.x Go.undef))], [], [(58, .one (.x Go.undef))], []⟩ :: ⟨[(56, .one (.x Go.undef))], [], [(59, .one (.x Go.undef))], []⟩ :: ⟨[(56, .one (.x Go.undef))], [], [(60, .one (.x Go.undef))], []⟩ :: ⟨[(56, .one (.x Go.undef))], [], [(61, .one (.x Go.undef))], []⟩ :: ⟨[(56, .one (.x Go.undef))], [], [(62, .one (.x Go.undef))], []⟩ :: ⟨[(56, .one (.x Go.undef))], [], [(63, .one (.x Go.undef))], []⟩ :: ⟨[(56, .one (.x Go.undef))], [], [(64, .one (.x Go.undef))], []⟩ :: ⟨[(52, .one (bB false))], [], [(65, .one (.x Go.undef))], []⟩ :: ⟨[(52, .one (bB false))], [], [(66, .one (bB false))], []⟩ :: [])) (deps := ([] :: [] :: [0, 1] :: [0, 1, 2] :: [0, 1, 2, 3] :: [0, 1, 2, 3, 4] :: [0, 1, 2, 3, 4, 5] :: [0, 1, 2, 3, 4, 5, 6] :: [0, 1, 2, 3, 4, 5, 6] :: [0, 1, 2, 3, 4, 5, 6, 7, 8] :: [0, 1, 2, 3, 4, 5, 6, 7, 8, 9] :: [0, 1, 2, 3, 4, 5, 6, 7, 8, 9, 10] :: [0, 1, 2, 3, 4, 5, 6] :: [0, 1, 2, 3, 4, 5, 6, 12] :: [0, 1, 2, 3, 4, 5, 6, 7, 8, 9, 10, 11, 12, 13] :: [0, 1, 2, 3, 4, 5, 6, 7, 8, 9, 10, 11, 12, 13, 14] :: [0, 1, 2, 3, 4, 5, 6, 7, 8, 9, 10, 11, 12, 13, 14, 15] :: [0, 1, 2, 3, 4, 5, 6, 7, 8, 9, 10, 11, 12, 13, 14, 15, 16] :: [0, 1, 2, 3, 4, 5, 6, 7, 8, 9, 10, 11, 12, 13, 14, 15, 16, 17] :: [0, 1, 2, 3, 4, 5, 6, 7, 8, 9, 10, 11, 12, 13, 14, 15, 16, 17, 18] :: [0, 1, 2, 3, 4, 5, 6, 7, 8, 9, 10, 11, 12, 13, 14, 15, 16, 17, 18, 19] :: (0 :: 1 :: 2 :: 3 :: 4 :: 5 :: 6 :: 7 :: 8 :: 9 :: 10 :: 11 :: 12 :: 13 :: 14 :: 15 :: 16 :: 17 :: 18 :: 19 :: 20 :: []) :: (0 :: 1 :: 2 :: 3 :: 4 :: 5 :: 6 :: 7 :: 8 :: 9 :: 10 :: 11 :: 12 :: 13 :: 14 :: 15 :: 16 :: 17 :: 18 :: 19 :: 20 :: []) :: (0 :: 1 :: 2 :: 3 :: 4 :: 5 :: 6 :: 7 :: 8 :: 9 :: 10 :: 11 :: 12 :: 13 :: 14 :: 15 :: 16 :: 17 :: 18 :: 19 :: 20 :: 21 :: 22 :: []) :: (0 :: 1 :: 2 :: 3 :: 4 :: 5 :: 6 :: 7 :: 8 :: 9 :: 10 :: 11 :: 12 :: 13 :: 14 :: 15 :: 16 :: 17 :: 18 :: 19 :: 20 :: 21 :: 22 :: 23 :: []) :: (0 :: 1 :: 2 :: 3 :: 4 :: 5 :: 6 :: 7 :: 8 :: 9 :: 10 :: 11 :: 12 :: 13 :: 14 :: 15 :: 16 :: 17 :: 18 :: 19 :: 20 :: 21 :: 22 :: 23 :: 24 :: []) :: (0 :: 1 :: 2 :: 3 :: 4 :: 5 :: 6 :: 7 :: 8 :: 9 :: 10 :: 11 :: 12 :: 13 :: 14 :: 15 :: 16 :: 17 :: 18 :: 19 :: 20 :: []) :: (0 :: 1 :: 2 :: 3 :: 4 :: 5 :: 6 :: 7 :: 8 :: 9 :: 10 :: 11 :: 12 :: 13 :: 14 :: 15 :: 16 :: 17 :: 18 :: 19 :: 20 :: 26 :: []) :: (0 :: 1 :: 2 :: 3 :: 4 :: 5 :: 6 :: 7 :: 8 :: 9 :: 10 :: 11 :: 12 :: 13 :: 14 :: 15 :: 16 :: 17 :: 18 :: 19 :: 20 :: 21 :: 22 :: 23 :: 24 :: 25 :: 26 :: 27 :: []) :: (0 :: 1 :: 2 :: 3 :: 4 :: 5 :: 6 :: 7 :: 8 :: 9 :: 10 :: 11 :: 12 :: 13 :: 14 :: 15 :: 16 :: 17 :: 18 :: 19 :: 20 :: 21 :: 22 :: 23 :: 24 :: 25 :: 26 :: 27 :: 28 :: []) :: (0 :: 1 :: 2 :: 3 :: 4 :: 5 :: 6 :: 7 :: 8 :: 9 :: 10 :: 11 :: 12 :: 13 :: 14 :: 15 :: 16 :: 17 :: 18 :: 19 :: 20 :: 21 :: 22 :: 23 :: 24 :: 25 :: 26 :: 27 :: 28 :: 29 :: []) :: [])) (sl' := [(0, .one (.g (.d (.sl 6 (List.map encApi_Event l_0))))), (1, .one (bI .i64 i_1)), (5, .one (.ptr 1005 0)), (8, .one (bB v34.1)), (9, .one (bI .i64 v34.2.1)), (10, .one (bI .i64 v34.2.2)), (66, .one (bB false))]) (hp' := [(1005, some (.blk 30 [bI .i64 x1.Kind, bI .i64 x1.Client, bS x1.Key, bI .i64 x1.Stamp.N, bI .i64 x1.Stamp.Site, .g (.d (.sl 3 (List.map encApi_Dep x1.Seen)))]))]) follows rfl rfl rfl ⟨⟨rfl, trivial⟩, trivial, ⟨rfl, trivial⟩, trivial, ⟨rfl, rfl, trivial⟩, trivial, ⟨rfl, trivial⟩, trivial, ⟨rfl, trivial⟩, trivial, ⟨rfl, trivial⟩, trivial, ⟨rfl, trivial⟩, trivial, ⟨rfl, rfl, trivial⟩, trivial, ⟨rfl, rfl, trivial⟩, trivial, ⟨rfl, rfl, rfl, trivial⟩, trivial, ⟨rfl, rfl, trivial⟩, trivial, ⟨rfl, rfl, trivial⟩, trivial, ⟨rfl, rfl, trivial⟩, trivial, ⟨rfl, rfl, trivial⟩, ⟨⟨rfl, rfl⟩, trivial⟩, ⟨rfl, rfl, rfl, trivial⟩, trivial, ⟨rfl, rfl, trivial⟩, trivial, ⟨rfl, trivial⟩, trivial, ⟨rfl, trivial⟩, trivial, ⟨rfl, trivial⟩, trivial, ⟨rfl, trivial⟩, trivial, ⟨rfl, trivial⟩, trivial, ⟨rfl, trivial⟩, trivial, ⟨rfl, trivial⟩, trivial, ⟨rfl, trivial⟩, trivial, ⟨rfl, trivial⟩, trivial, ⟨rfl, trivial⟩, trivial, ⟨rfl, trivial⟩, trivial, ⟨rfl, trivial⟩, trivial, ⟨rfl, trivial⟩, trivial, ⟨rfl, trivial⟩, trivial, ⟨rfl, trivial⟩, trivial, trivial⟩ ⟨OpW.plain (op_move (Ev.t 0 (.g (.d (.sl 6 (List.map encApi_Event l_0))))) rfl) rfl rfl, OpW.plain (op_move (Ev.t 10 (bI .i64 v34.2.2)) rfl) rfl rfl, OpW.plain (op_index (cs := [.v (.int .i64 x46.Kind), .v (.int .i64 x46.Client), .v (.string x46.Key), .v (.int .i64 x46.Stamp.N), .v (.int .i64 x46.Stamp.Site), .sl 3 (List.map encApi_Dep x46.Seen)]) Try.underlying24 ti30 (idx_ok hx46).1 (idx_get hx46 encApi_Event) (Ev.t 36 (.g (.d (.sl 6 (List.map encApi_Event l_0))))) (Ev.t 37 (bI .i64 v34.2.2)) rfl) rfl rfl, OpW.plain (op_fieldE (cs' := [.v (.int .i64 x46.Kind), .v (.int .i64 x46.Client), .v (.string x46.Key), .v (.int .i64 x46.Stamp.N), .v (.int .i64 x46.Stamp.Site), .sl 3 (List.map encApi_Dep x46.Seen)]) Try.underlying30 rfl ti3 (by decide) rfl (Ev.t 38 (.ep [.v (.int .i64 x46.Kind), .v (.int .i64 x46.Client), .v (.string x46.Key), .v (.int .i64 x46.Stamp.N), .v (.int .i64 x46.Stamp.Site), .sl 3 (List.map encApi_Dep x46.Seen)])) rfl) rfl rfl, OpW.plain (op_load1E (c := .v (.int .i64 x46.Kind)) Try.underlying3 rfl rfl (Ev.t 39 (.ep [.v (.int .i64 x46.Kind), .v (.int .i64 x46.Client), .v (.string x46.Key), .v (.int .i64 x46.Stamp.N), .v (.int .i64 x46.Stamp.Site), .sl 3 (List.map encApi_Dep x46.Seen)])) rfl) rfl rfl, OpW.plain (OpL.cast (op_eqI (Ev.t 40 (bI .i64 x46.Kind)) (Ev.c _ rfl) rfl) (congrArg (fun b => bB b) hc47)) rfl rfl, OpW.plain (op_move (Ev.t 41 (bB true)) rfl) rfl rfl, OpW.yes (op_move (Ev.t 0 (.g (.d (.sl 6 (List.map encApi_Event l_0))))) rfl) rfl rfl rfl, OpW.yes (op_move (Ev.t 10 (bI .i64 v34.2.2)) rfl) rfl rfl rfl, OpW.yes (op_index (cs := [.v (.int .i64 x48.Kind), .v (.int .i64 x48.Client), .v (.string x48.Key), .v (.int .i64 x48.Stamp.N), .v (.int .i64 x48.Stamp.Site), .sl 3 (List.map encApi_Dep x48.Seen)]) Try.underlying24 ti30 (idx_ok hx48).1 (idx_get hx48 encApi_Event) (Ev.t 43 (.g (.d (.sl 6 (List.map encApi_Event l_0))))) (Ev.t 44 (bI .i64 v34.2.2)) rfl) rfl rfl rfl, OpW.yes (op_fieldE (cs' := [.v (.int .i64 x48.Stamp.N), .v (.int .i64 x48.Stamp.Site), .sl 3 (List.map encApi_Dep x48.Seen)]) Try.underlying30 rfl ti27 (by decide) rfl (Ev.t 45 (.ep [.v (.int .i64 x48.Kind), .v (.int .i64 x48.Client), .v (.string x48.Key), .v (.int .i64 x48.Stamp.N), .v (.int .i64 x48.Stamp.Site), .sl 3 (List.map encApi_Dep x48.Seen)])) rfl) rfl rfl rfl, OpW.yes (op_loadAE (ds := [.v (.int .i64 x48.Stamp.N), .v (.int .i64 x48.Stamp.Site)]) Try.underlying27 rfl ti27 rfl (Ev.t 46 (.ep [.v (.int .i64 x48.Stamp.N), .v (.int .i64 x48.Stamp.Site), .sl 3 (List.map encApi_Dep x48.Seen)])) rfl) rfl rfl rfl, OpW.yes (op_fieldP (off' := 3) Try.underlying30 rfl ti27 (by decide) rfl (Ev.t 5 (.ptr 1005 0)) rfl) rfl rfl rfl, OpW.yes (op_loadAP (ds := [.v (.int .i64 x1.Stamp.N), .v (.int .i64 x1.Stamp.Site)]) Try.underlying27 rfl ti27 rfl (Ev.t 48 (.ptr 1005 3)) rfl) rfl rfl rfl, OpW.yes (OpL.cast (op_eqA (us := [.int .i64 x48.Stamp.N, .int .i64 x48.Stamp.Site]) (vs := [.int .i64 x1.Stamp.N, .int .i64 x1.Stamp.Site]) rfl rfl Try.eqGuardType27 (fun w => eq27 x48.Stamp.N x48.Stamp.Site x1.Stamp.N x1.Stamp.Site w) (Ev.t 47 (.g (.agg [.v (.int .i64 x48.Stamp.N), .v (.int .i64 x48.Stamp.Site)]))) (Ev.t 49 (.g (.agg [.v (.int .i64 x1.Stamp.N), .v (.int .i64 x1.Stamp.Site)]))) rfl) (congrArg (fun b => bB b) hc49)) rfl rfl rfl, OpW.plain (op_pickT (Ev.t 42 (bB true)) (Ev.t 50 (bB false)) rfl) rfl rfl, OpW.plain (op_move (Ev.t 51 (bB false)) rfl) rfl rfl, OpW.no rfl rfl rfl rfl rfl, OpW.no rfl rfl rfl rfl rfl, OpW.no rfl rfl rfl rfl rfl, OpW.no rfl rfl rfl rfl rfl, OpW.un rfl rfl rfl rfl, OpW.un rfl rfl rfl rfl, OpW.un rfl rfl rfl rfl, OpW.un rfl rfl rfl rfl, OpW.un rfl rfl rfl rfl, OpW.un rfl rfl rfl rfl, OpW.un rfl rfl rfl rfl, OpW.un rfl rfl rfl rfl, OpW.no rfl rfl rfl rfl rfl, OpW.plain (op_pickF (Ev.t 52 (bB false)) (Ev.c _ rfl) rfl) rfl rfl, trivial⟩ ⟨rfl, rfl, rfl, rfl, rfl, rfl, rfl, trivial⟩ ⟨rfl, trivial⟩ rfl ?_
            exact G.arr (J45 false hF) ⟨rfl, rfl, rfl, rfl, rfl, rfl, rfl, trivial⟩ ⟨rfl, trivial⟩ rfl
        · refine G.drawn (effs := (⟨[(0, .one (.g (.d (.sl 6 (List.map encApi_Event l_0)))))], [], [(36, .one (.g (.d (.sl 6 (List.map encApi_Event l_0)))))], []⟩ :: ⟨[(10, .one (bI .i64 v34.2.2))], [], [(37, .one (bI .i64 v34.2.2))], []⟩ :: ⟨[(36, .one (.g (.d (.sl 6 (List.map encApi_Event l_0))))), (37, .one (bI .i64 v34.2.2))], [], [(38, .one (.ep [.v (.int .i64 x46.Kind), .v (.int .i64 x46.Client), .v (.string x46.Key), .v (.int .i64 x46.Stamp.N), .v (.int .i64 x46.Stamp.Site), .sl 3 (List.map encApi_Dep x46.Seen)]))], []⟩ :: ⟨[(38, .one (.ep [.v (.int .i64 x46.Kind), .v (.int .i64 x46.Client), .v (.string x46.Key), .v (.int .i64 x46.Stamp.N), .v (.int .i64 x46.Stamp.Site), .sl 3 (List.map encApi_Dep x46.Seen)]))], [], [(39, .one (.ep [.v (.int .i64 x46.Kind), .v (.int .i64 x46.Client), .v (.string x46.Key), .v (.int .i64 x46.Stamp.N), .v (.int .i64 x46.Stamp.Site), .sl 3 (List.map encApi_Dep x46.Seen)]))], []⟩ :: ⟨[(39, .one (.ep [.v (.int .i64 x46.Kind), .v (.int .i64 x46.Client), .v (.string x46.Key), .v (.int .i64 x46.Stamp.N), .v (.int .i64 x46.Stamp.Site), .sl 3 (List.map encApi_Dep x46.Seen)]))], [], [(40, .one (bI .i64 x46.Kind))], []⟩ :: ⟨[(40, .one (bI .i64 x46.Kind))], [], [(41, .one (bB false))], []⟩ :: ⟨[(41, .one (bB false))], [], [(42, .one (bB false))], []⟩ :: ⟨[(42, .one (bB false))], [], [(43, .one (.x Go.undef))], []⟩ :: ⟨[(42, .one (bB false))], [], [(44, .one (.x Go.undef))], []⟩ :: ⟨[(42, .one (bB false))], [], [(45, .one (.x Go.undef))], []⟩ :: ⟨[(42, .one (bB false))], [], [(46, .one (.x Go.undef))], []⟩ :: ⟨[(42, .one (bB false))], [], [(47, .one (.x Go.undef))], []⟩ :: ⟨[(42, .one (bB false))], [], [(48, .one (.x Go.undef))], []⟩ :: ⟨[(42, .one (bB false))], [], [(49, .one (.x Go.undef))], []⟩ :: ⟨[(42, .one (bB false))], [], [(50, .one (.x Go.undef))], []⟩ :: ⟨[(42, .one (bB false))], [], [(51, .one (bB false))], []⟩ :: ⟨[(51, .one (bB false))], [], [(52, .one (bB false))], []⟩ :: ⟨[(52, .one (bB false))], [], [(53, .one (.x Go.undef))], []⟩ :: ⟨[(52, .one (bB false))], [], [(54, .one (.x Go.undef))], []⟩ :: ⟨[(52, .one (bB false))], [], [(55, .one (.x Go.undef))], []⟩ :: ⟨[(52, .one (bB false))], [], [(56, .one (.x Go.undef))], []⟩ :: ⟨[(56, .one (.x Go.undef))], [], [(57, .one (.x Go.undef))], []⟩ :: ⟨[(56, .one (.x Go.undef))], [], [(58, .one (.x Go.undef))], []⟩ :: ⟨[(56, .one (.x Go.undef))], [], [(59, .one (.x Go.undef))], []⟩ :: ⟨[(56, .one (.x Go.undef))], [], [(60, .one (.x Go.undef))], []⟩ :: ⟨[(56, .one (.x Go.undef))], [], [(61, .one (.x Go.undef))], []⟩ :: ⟨[(56, .one (.x Go.undef))], [], [(62, .one (.x Go.undef))], []⟩ :: ⟨[(56, .one (.x Go.undef))], [], [(63, .one (.x Go.undef))], []⟩ :: ⟨[(56, .one (.x Go.undef))], [], [(64, .one (.x Go.undef))], []⟩ :: ⟨[(52, .one (bB false))], [], [(65, .one (.x Go.undef))], []⟩ :: ⟨[(52, .one (bB false))], [], [(66, .one (bB false))], []⟩ :: [])) (deps := ([] :: [] :: [0, 1] :: [0, 1, 2] :: [0, 1, 2, 3] :: [0, 1, 2, 3, 4] :: [0, 1, 2, 3, 4, 5] :: [0, 1, 2, 3, 4, 5, 6] :: [0, 1, 2, 3, 4, 5, 6] :: [0, 1, 2, 3, 4, 5, 6, 7, 8] :: [0, 1, 2, 3, 4, 5, 6, 7, 8, 9] :: [0, 1, 2, 3, 4, 5, 6, 7, 8, 9, 10] :: [0, 1, 2, 3, 4, 5, 6] :: [0, 1, 2, 3, 4, 5, 6, 12] :: [0, 1, 2, 3, 4, 5, 6, 7, 8, 9, 10, 11, 12, 13] :: [0, 1, 2, 3, 4, 5, 6, 7, 8, 9, 10, 11, 12, 13, 14] :: [0, 1, 2, 3, 4, 5, 6, 7, 8, 9, 10, 11, 12, 13, 14, 15] :: [0, 1, 2, 3, 4, 5, 6, 7, 8, 9, 10, 11, 12, 13, 14, 15, 16] :: [0, 1, 2, 3, 4, 5, 6, 7, 8, 9, 10, 11, 12, 13, 14, 15, 16, 17] :: [0, 1, 2, 3, 4, 5, 6, 7, 8, 9, 10, 11, 12, 13, 14, 15, 16, 17, 18] :: [0, 1, 2, 3, 4, 5, 6, 7, 8, 9, 10, 11, 12, 13, 14, 15, 16, 17, 18, 19] :: (0 :: 1 :: 2 :: 3 :: 4 :: 5 :: 6 :: 7 :: 8 :: 9 :: 10 :: 11 :: 12 :: 13 :: 14 :: 15 :: 16 :: 17 :: 18 :: 19 :: 20 :: []) :: (0 :: 1 :: 2 :: 3 :: 4 :: 5 :: 6 :: 7 :: 8 :: 9 :: 10 :: 11 :: 12 :: 13 :: 14 :: 15 :: 16 :: 17 :: 18 :: 19 :: 20 :: []) :: (0 :: 1 :: 2 :: 3 :: 4 :: 5 :: 6 :: 7 :: 8 :: 9 :: 10 :: 11 :: 12 :: 13 :: 14 :: 15 :: 16 :: 17 :: 18 :: 19 :: 20 :: 21 :: 22 :: []) :: (0 :: 1 :: 2 :: 3 :: 4 :: 5 :: 6 :: 7 :: 8 :: 9 :: 10 :: 11 :: 12 :: 13 :: 14 :: 15 :: 16 :: 17 :: 18 :: 19 :: 20 :: 21 :: 22 :: 23 :: []) :: (0 :: 1 :: 2 :: 3 :: 4 :: 5 :: 6 :: 7 :: 8 :: 9 :: 10 :: 11 :: 12 :: 13 :: 14 :: 15 :: 16 :: 17 :: 18 :: 19 :: 20 :: 21 :: 22 :: 23 :: 24 :: []) :: (0 :: 1 :: 2 :: 3 :: 4 :: 5 :: 6 :: 7 :: 8 :: 9 :: 10 :: 11 :: 12 :: 13 :: 14 :: 15 :: 16 :: 17 :: 18 :: 19 :: 20 :: []) :: (0 :: 1 :: 2 :: 3 :: 4 :: 5 :: 6 :: 7 :: 8 :: 9 :: 10 :: 11 :: 12 :: 13 :: 14 :: 15 :: 16 :: 17 :: 18 :: 19 :: 20 :: 26 :: []) :: (0 :: 1 :: 2 :: 3 :: 4 :: 5 :: 6 :: 7 :: 8 :: 9 :: 10 :: 11 :: 12 :: 13 :: 14 :: 15 :: 16 :: 17 :: 18 :: 19 :: 20 :: 21 :: 22 :: 23 :: 24 :: 25 :: 26 :: 27 :: []) :: (0 :: 1 :: 2 :: 3 :: 4 :: 5 :: 6 :: 7 :: 8 :: 9 :: 10 :: 11 :: 12 :: 13 :: 14 :: 15 :: 16 :: 17 :: 18 :: 19 :: 20 :: 21 :: 22 :: 23 :: 24 :: 25 :: 26 :: 27 :: 28 :: []) :: (0 :: 1 :: 2 :: 3 :: 4 :: 5 :: 6 :: 7 :: 8 :: 9 :: 10 :: 11 :: 12 :: 13 :: 14 :: 15 :: 16 :: 17 :: 18 :: 19 :: 20 :: 21 :: 22 :: 23 :: 24 :: 25 :: 26 :: 27 :: 28 :: 29 :: []) :: [])) (sl' := [(0, .one (.g (.d (.sl 6 (List.map encApi_Event l_0))))), (1, .one (bI .i64 i_1)), (5, .one (.ptr 1005 0)), (8, .one (bB v34.1)), (9, .one (bI .i64 v34.2.1)), (10, .one (bI .i64 v34.2.2)), (66, .one (bB false))]) (hp' := [(1005, some (.blk 30 [bI .i64 x1.Kind, bI .i64 x1.Client, bS x1.Key, bI .i64 x1.Stamp.N, bI .i64 x1.Stamp.Site, .g (.d (.sl 3 (List.map encApi_Dep x1.Seen)))]))]) follows rfl rfl rfl ⟨⟨rfl, trivial⟩, trivial, ⟨rfl, trivial⟩, trivial, ⟨rfl, rfl, trivial⟩, trivial, ⟨rfl, trivial⟩, trivial, ⟨rfl, trivial⟩, trivial, ⟨rfl, trivial⟩, trivial, ⟨rfl, trivial⟩, trivial, ⟨rfl, trivial⟩, trivial, ⟨rfl, trivial⟩, trivial, ⟨rfl, trivial⟩, trivial, ⟨rfl, trivial⟩, trivial, ⟨rfl, trivial⟩, trivial, ⟨rfl, trivial⟩, trivial, ⟨rfl, trivial⟩, trivial, ⟨rfl, trivial⟩, trivial, ⟨rfl, trivial⟩, trivial, ⟨rfl, trivial⟩, trivial, ⟨rfl, trivial⟩, trivial, ⟨rfl, trivial⟩, trivial, ⟨rfl, trivial⟩, trivial, ⟨rfl, trivial⟩, trivial, ⟨rfl, trivial⟩, trivial, ⟨rfl, trivial⟩, trivial, ⟨rfl, trivial⟩, trivial, ⟨rfl, trivial⟩, trivial, ⟨rfl, trivial⟩, trivial, ⟨rfl, trivial⟩, trivial, ⟨rfl, trivial⟩, trivial, ⟨rfl, trivial⟩, trivial, ⟨rfl, trivial⟩, trivial, ⟨rfl, trivial⟩, trivial, trivial⟩ ⟨OpW.plain (op_move (Ev.t 0 (.g (.d (.sl 6 (List.map encApi_Event l_0))))) rfl) rfl rfl, OpW.plain (op_move (Ev.t 10 (bI .i64 v34.2.2)) rfl) rfl rfl, OpW.plain (op_index (cs := [.v (.int .i64 x46.Kind), .v (.int .i64 x46.Client), .v (.string x46.Key), .v (.int .i64 x46.Stamp.N), .v (.int .i64 x46.Stamp.Site), .sl 3 (List.map encApi_Dep x46.Seen)]) Try.underlying24 ti30 (idx_ok hx46).1 (idx_get hx46 encApi_Event) (Ev.t 36 (.g (.d (.sl 6 (List.map encApi_Event l_0))))) (Ev.t 37 (bI .i64 v34.2.2)) rfl) rfl rfl, OpW.plain (op_fieldE (cs' := [.v (.int .i64 x46.Kind), .v (.int .i64 x46.Client), .v (.string x46.Key), .v (.int .i64 x46.Stamp.N), .v (.int .i64 x46.Stamp.Site), .sl 3 (List.map encApi_Dep x46.Seen)]) Try.underlying30 rfl ti3 (by decide) rfl (Ev.t 38 (.ep [.v (.int .i64 x46.Kind), .v (.int .i64 x46.Client), .v (.string x46.Key), .v (.int .i64 x46.Stamp.N), .v (.int .i64 x46.Stamp.Site), .sl 3 (List.map encApi_Dep x46.Seen)])) rfl) rfl rfl, OpW.plain (op_load1E (c := .v (.int .i64 x46.Kind)) Try.underlying3 rfl rfl (Ev.t 39 (.ep [.v (.int .i64 x46.Kind), .v (.int .i64 x46.Client), .v (.string x46.Key), .v (.int .i64 x46.Stamp.N), .v (.int .i64 x46.Stamp.Site), .sl 3 (List.map encApi_Dep x46.Seen)])) rfl) rfl rfl, OpW.plain (OpL.cast (op_eqI (Ev.t 40 (bI .i64 x46.Kind)) (Ev.c _ rfl) rfl) (congrArg (fun b => bB b) hc47)) rfl rfl, OpW.plain (op_move (Ev.t 41 (bB false)) rfl) rfl rfl, OpW.no rfl rfl rfl rfl rfl, OpW.no rfl rfl rfl rfl rfl, OpW.no rfl rfl rfl rfl rfl, OpW.no rfl rfl rfl rfl rfl, OpW.no rfl rfl rfl rfl rfl, OpW.no rfl rfl rfl rfl rfl, OpW.no rfl rfl rfl rfl rfl, OpW.no rfl rfl rfl rfl rfl, OpW.plain (op_pickF (Ev.t 42 (bB false)) (Ev.c _ rfl) rfl) rfl rfl, OpW.plain (op_move (Ev.t 51 (bB false)) rfl) rfl rfl, OpW.no rfl rfl rfl rfl rfl, OpW.no rfl rfl rfl rfl rfl, OpW.no rfl rfl rfl rfl rfl, OpW.no rfl rfl rfl rfl rfl, OpW.un rfl rfl rfl rfl, OpW.un rfl rfl rfl rfl, OpW.un rfl rfl rfl rfl, OpW.un rfl rfl rfl rfl, OpW.un rfl rfl rfl rfl, OpW.un rfl rfl rfl rfl, OpW.un rfl rfl rfl rfl, OpW.un rfl rfl rfl rfl, OpW.no rfl rfl rfl rfl rfl, OpW.plain (op_pickF (Ev.t 52 (bB false)) (Ev.c _ rfl) rfl) rfl rfl, trivial⟩ ⟨rfl, rfl, rfl, rfl, rfl, rfl, rfl, trivial⟩ ⟨rfl, trivial⟩ rfl ?_
          exact G.arr (J45 false hF) ⟨rfl, rfl, rfl, rfl, rfl, rfl, rfl, trivial⟩ ⟨rfl, trivial⟩ rfl
      · refine G.cond rfl (fun hx => by rw [hc38] at hx; cases hx) (fun _ => ?_)
        refine G.exit ?_
        refine GX.c ?_
        refine GX.q ?_
        refine GX.bYes ?_
        exact G.arr (J33 (v34.1, v34.2.1) hF) ⟨rfl, rfl, rfl, rfl, trivial⟩ ⟨rfl, trivial⟩ rfl
  refine G.region ?_
  refine G.op1 (op_move (Ev.t 6 (bB r2)) rfl) rfl ⟨rfl, trivial⟩ trivial ?_
  refine G.op1 (op_not (Ev.t 25 (bB r2)) rfl) rfl ⟨rfl, trivial⟩ trivial ?_
  refine G.op1 (op_move (Ev.t 26 (bB (!r2))) rfl) rfl ⟨rfl, trivial⟩ trivial ?_
  refine ifS hF (fun hc53 hF => ?_) (fun hc53 hF => ?_)
  · refine G.known (t := 27) hc53 rfl ?_
    refine G.opN1 rfl rfl rfl rfl rfl ?_
    refine G.opN1 rfl rfl rfl rfl rfl ?_
    refine G.op1 (op_pickT (Ev.t 27 (bB true)) (Ev.c _ rfl) rfl) rfl ⟨rfl, trivial⟩ trivial ?_
    refine G.endOps ?_
    exact G.arr (J52 true hF) ⟨rfl, rfl, rfl, rfl, trivial⟩ ⟨rfl, trivial⟩ rfl
  · refine G.known (t := 27) hc53 rfl ?_
    refine G.opG1 (op_move (Ev.t 7 (bB r3)) rfl) rfl rfl rfl ⟨rfl, trivial⟩ trivial ?_
    refine G.opG1 (op_not (Ev.t 28 (bB r3)) rfl) rfl rfl rfl ⟨rfl, trivial⟩ trivial ?_
    refine G.op1 (op_pickF (Ev.t 27 (bB false)) (Ev.t 29 (bB (!r3))) rfl) rfl ⟨rfl, rfl, trivial⟩ trivial ?_
    refine G.endOps ?_
    exact G.arr (J52 (!r3) hF) ⟨rfl, rfl, rfl, rfl, trivial⟩ ⟨rfl, trivial⟩ rfl


set_option maxRecDepth 20000 in
set_option maxHeartbeats 2000000 in
theorem ct_ref20_Check (l_0 : (List Api_Event)) (r : Int) (hF : ref20_Check l_0 = some r) : Ct Try.prog 35 [.g (.d (.sl 6 (List.map encApi_Event l_0)))] (.one (.d (.v (.int .i64 r)))) := by
  unfold ref20_Check at hF
  refine Ct.intro Try.func35 rfl Try.ntmps35 rfl rfl fun M w => ?_
  refine G.seq ?_
  refine G.region ?_
  refine G.op1 (op_assign (Ev.c _ rfl) rfl) rfl trivial trivial ?_
  refine G.endOps ?_
  refine G.seq ?_
  refine G.seq ?_
  refine G.region ?_
  refine G.op1 (op_assign (Ev.c _ rfl) rfl) rfl trivial trivial ?_
  refine G.endOps ?_
  refine G.joinC (T := Unit) (fun y1 => ⟨[], []⟩) (fun y1 => ref20_Check_k1 y1 = some r) (fun y1 hF => ?_) (fun J2 => ?_)
  · unfold ref20_Check_k1 at hF
    refine G.seq ?_
    refine G.region ?_
    refine G.op1 (op_assign (Ev.c _ rfl) rfl) rfl trivial trivial ?_
    refine G.endOps ?_
    cases hF
    exact G.ret1 Try.results35 (RVar.tmp 2 _) ⟨rfl, trivial⟩ trivial
  refine G.block ?_
  refine G.keep (sl' := [(0, .one (.g (.d (.sl 6 (List.map encApi_Event l_0))))), (3, .one (bI .i64 0))]) (hp' := []) ⟨rfl, rfl, trivial⟩ trivial rfl ?_
  refine G.loopF (fun (v3 : Int) => ⟨[(0, .one (.g (.d (.sl 6 (List.map encApi_Event l_0))))), (3, .one (bI .i64 v3))], []⟩) hF rfl (fun K6 again5 v3 J4 hF => ?_)
  unfold ref20_Check_l2 at hF
  refine G.seq ?_
  refine G.seq ?_
  refine G.region ?_
  refine G.op1 (op_move (Ev.t 3 (bI .i64 v3)) rfl) rfl ⟨rfl, trivial⟩ trivial ?_
  refine G.op1 (op_move (Ev.t 0 (.g (.d (.sl 6 (List.map encApi_Event l_0))))) rfl) rfl ⟨rfl, trivial⟩ trivial ?_
  refine G.op1 (OpL.cast (op_lenD Try.underlying24 (Ev.t 6 (.g (.d (.sl 6 (List.map encApi_Event l_0))))) rfl) (by rw [List.length_map])) rfl ⟨rfl, trivial⟩ trivial ?_
  refine G.op1 (op_lss (Ev.t 5 (bI .i64 v3)) (Ev.t 7 (bI .i64 (l_0.length : Int))) rfl) rfl ⟨rfl, rfl, trivial⟩ trivial ?_
  refine G.endOps ?_
  refine ifS hF (fun hc7 hF => ?_) (fun hc7 hF => ?_)
  · refine G.cond rfl (fun _ => ?_) (fun hx => by rw [hc7] at hx; cases hx)
    refine G.skip ?_
    refine G.seq ?_
    refine G.block ?_
    refine G.seq ?_
    refine G.region ?_
    refine G.op1 (op_move (Ev.t 0 (.g (.d (.sl 6 (List.map encApi_Event l_0))))) rfl) rfl ⟨rfl, trivial⟩ trivial ?_
    refine G.op1 (op_move (Ev.t 3 (bI .i64 v3)) rfl) rfl ⟨rfl, trivial⟩ trivial ?_
    obtain ⟨r8, hr8, hF⟩ := bindS hF
    refine G.op1 (op_callQ (sv := .one (bB r8)) cf51 (ct_ref20_right l_0 v3 r8 hr8) rfl rfl (EvQL.cons (EvQ.g (Ev.t 11 (.g (.d (.sl 6 (List.map encApi_Event l_0)))))) (EvQL.cons (EvQ.g (Ev.t 12 (bI .i64 v3))) EvQL.nil)) rfl) rfl ⟨rfl, rfl, trivial⟩ trivial ?_
    refine G.op1 (op_assign (Ev.t 13 (bB r8)) rfl) rfl ⟨rfl, trivial⟩ trivial ?_
    refine G.endOps ?_
    refine G.seq ?_
    refine G.region ?_
    refine G.op1 (op_move (Ev.t 4 (bB r8)) rfl) rfl ⟨rfl, trivial⟩ trivial ?_
    refine G.op1 (op_not (Ev.t 14 (bB r8)) rfl) rfl ⟨rfl, trivial⟩ trivial ?_
    refine G.endOps ?_
    refine ifS hF (fun hc9 hF => ?_) (fun hc9 hF => ?_)
    · refine G.cond rfl (fun _ => ?_) (fun hx => by rw [hc9] at hx; cases hx)
      refine G.seq ?_
      refine G.region ?_
      refine G.op1 (op_move (Ev.t 3 (bI .i64 v3)) rfl) rfl ⟨rfl, trivial⟩ trivial ?_
      refine G.op1 (op_assign (Ev.t 16 (bI .i64 v3)) rfl) rfl ⟨rfl, trivial⟩ trivial ?_
      refine G.endOps ?_
      cases hF
      exact G.ret1 Try.results35 (RVar.tmp 2 _) ⟨rfl, trivial⟩ trivial
    · refine G.cond rfl (fun hx => by rw [hc9] at hx; cases hx) (fun _ => ?_)
      refine G.skip ?_
      refine G.endBlock ?_
      refine G.region ?_
      refine G.op1 (op_move (Ev.t 3 (bI .i64 v3)) rfl) rfl ⟨rfl, trivial⟩ trivial ?_
      refine G.op1 (op_add (Ev.t 9 (bI .i64 v3)) (Ev.c _ rfl) rfl) rfl ⟨rfl, trivial⟩ trivial ?_
      refine G.op1 (op_assign (Ev.t 10 (bI .i64 (IntKind.wrap .i64 (v3 + 1)))) rfl) rfl ⟨rfl, trivial⟩ trivial ?_
      refine G.endOps ?_
      exact G.arr (J4 (IntKind.wrap .i64 (v3 + 1)) hF) ⟨rfl, rfl, trivial⟩ trivial rfl
  · refine G.cond rfl (fun hx => by rw [hc7] at hx; cases hx) (fun _ => ?_)
    refine G.exit ?_
    refine GX.c ?_
    refine GX.q ?_
    refine GX.bYes ?_
    exact G.arr (J2 () hF) trivial trivial rfl


set_option maxRecDepth 20000 in
set_option maxHeartbeats 2000000 in
theorem ct_history_Greatest (l_0 : (List Api_Event)) (key_1 : ByteArray) (r : Api_Stamp) (hF : history_Greatest l_0 key_1 = some r) : Ct Try.prog 15 [.g (.d (.sl 6 (List.map encApi_Event l_0))), .g (.d (.v (.string key_1)))] (.one (.agg (encApi_Stamp r))) := by
  unfold history_Greatest at hF
  refine Ct.intro Try.func15 rfl Try.ntmps15 rfl rfl fun M w => ?_
  refine G.seq ?_
  refine G.region ?_
  refine G.op2 (op_alloc (k := 1004) (cs := [bI .i64 0, bI .i64 0]) ti27 ⟨.v _ rfl, .v _ rfl, trivial⟩ rfl) rfl trivial ⟨rfl, trivial⟩ ?_
  refine G.endOps ?_
  refine G.seq ?_
  refine G.region ?_
  refine G.op1 (op_move (Ev.t 0 (.g (.d (.sl 6 (List.map encApi_Event l_0))))) rfl) rfl ⟨rfl, trivial⟩ trivial ?_
  refine G.op1 (op_move (Ev.t 1 (bS key_1)) rfl) rfl ⟨rfl, trivial⟩ trivial ?_
  obtain ⟨r1, hr1, hF⟩ := bindS hF
  refine G.op1 (op_call (sv := .one (.g (.d (.sl 2 (List.map encApi_Stamp r1))))) cf14 (ct_history_Writes l_0 key_1 r1 hr1) rfl (EvL.cons (Ev.t 5 (.g (.d (.sl 6 (List.map encApi_Event l_0))))) (EvL.cons (Ev.t 6 (bS key_1)) EvL.nil)) rfl) rfl ⟨rfl, rfl, trivial⟩ trivial ?_
  obtain ⟨r2, hr2, hF⟩ := bindS hF
  refine G.op1 (op_callQ (sv := .one (.g (.agg [.v (.int .i64 r2.N), .v (.int .i64 r2.Site)]))) cf28 (ct_stamp_Max r1 r2 hr2) rfl rfl (EvQL.cons (EvQ.g (Ev.t 7 (.g (.d (.sl 2 (List.map encApi_Stamp r1)))))) EvQL.nil) rfl) rfl ⟨rfl, trivial⟩ trivial ?_
  refine G.op3 (op_storeA (cs' := [bI .i64 r2.N, bI .i64 r2.Site]) ti27 rfl rfl (Ev.t 4 (.ptr 1004 0)) (Ev.t 8 (.g (.agg [.v (.int .i64 r2.N), .v (.int .i64 r2.Site)])))) rfl ⟨rfl, rfl, trivial⟩ ⟨rfl, trivial⟩ ?_
  refine G.endOps ?_
  have hF := Option.some.inj hF; subst hF
  exact G.ret1 Try.results15 (RVar.cellA (ds := [.v (.int .i64 r2.N), .v (.int .i64 r2.Site)]) Try.underlying27 rfl ti27 rfl) ⟨rfl, trivial⟩ ⟨rfl, trivial⟩


set_option maxRecDepth 20000 in
set_option maxHeartbeats 2000000 in
theorem ct_ref03_Max (l_0 : (List Api_Stamp)) (r : Api_Stamp) (hF : ref03_Max l_0 = some r) : Ct Try.prog 36 [.g (.d (.sl 2 (List.map encApi_Stamp l_0)))] (.one (.agg (encApi_Stamp r))) := by
  unfold ref03_Max at hF
  refine Ct.intro Try.func36 rfl Try.ntmps36 rfl rfl fun M w => ?_
  refine G.seq ?_
  refine G.region ?_
  refine G.op2 (op_alloc (k := 1002) (cs := [bI .i64 0, bI .i64 0]) ti27 ⟨.v _ rfl, .v _ rfl, trivial⟩ rfl) rfl trivial ⟨rfl, trivial⟩ ?_
  refine G.endOps ?_
  refine G.seq ?_
  refine G.region ?_
  refine G.op1 (op_build (zs := [.v (.int .i64 0), .v (.int .i64 0)]) (ds := [.v (.int .i64 0), .v (.int .i64 0)]) Try.underlying27 ti27 (pl27 _ Try.underlying27) ⟨.v _ rfl, .v _ rfl, trivial⟩ EvP.nil rfl rfl) rfl trivial trivial ?_
  refine G.op2 (op_alloc (k := 1003) (cs := [bI .i64 0, bI .i64 0]) ti27 ⟨.v _ rfl, .v _ rfl, trivial⟩ rfl) rfl trivial ⟨rfl, trivial⟩ ?_
  refine G.op3 (op_storeA (cs' := [bI .i64 0, bI .i64 0]) ti27 rfl rfl (Ev.t 3 (.ptr 1003 0)) (Ev.t 5 (.g (.agg [.v (.int .i64 0), .v (.int .i64 0)])))) rfl ⟨rfl, rfl, trivial⟩ ⟨rfl, trivial⟩ ?_
  refine G.endOps ?_
  refine G.seq ?_
  refine G.seq ?_
  refine G.region ?_
  refine G.op1 (op_assign (Ev.c _ rfl) rfl) rfl trivial trivial ?_
  refine G.endOps ?_
  refine G.joinC (T := Int × Int) (fun y1 => ⟨[(2, .one (.ptr 1002 0)), (3, .one (.ptr 1003 0))], [(1002, some (.blk 27 [bI .i64 0, bI .i64 0])), (1003, some (.blk 27 [bI .i64 y1.1, bI .i64 y1.2]))]⟩) (fun y1 => ref03_Max_k1 y1 = some r) (fun y1 hF => ?_) (fun J2 => ?_)
  · unfold ref03_Max_k1 at hF
    refine G.seq ?_
    refine G.region ?_
    refine G.op1 (op_loadAP (ds := [.v (.int .i64 y1.1), .v (.int .i64 y1.2)]) Try.underlying27 rfl ti27 rfl (Ev.t 3 (.ptr 1003 0)) rfl) rfl ⟨rfl, trivial⟩ ⟨rfl, trivial⟩ ?_
    refine G.op3 (op_storeA (cs' := [bI .i64 y1.1, bI .i64 y1.2]) ti27 rfl rfl (Ev.t 2 (.ptr 1002 0)) (Ev.t 22 (.g (.agg [.v (.int .i64 y1.1), .v (.int .i64 y1.2)])))) rfl ⟨rfl, rfl, trivial⟩ ⟨rfl, trivial⟩ ?_
    refine G.endOps ?_
    cases hF
    exact G.ret1 Try.results36 (RVar.cellA (ds := [.v (.int .i64 y1.1), .v (.int .i64 y1.2)]) Try.underlying27 rfl ti27 rfl) ⟨rfl, trivial⟩ ⟨rfl, trivial⟩
  refine G.block ?_
  refine G.keep (sl' := [(0, .one (.g (.d (.sl 2 (List.map encApi_Stamp l_0))))), (2, .one (.ptr 1002 0)), (3, .one (.ptr 1003 0)), (4, .one (bI .i64 0))]) (hp' := [(1002, some (.blk 27 [bI .i64 0, bI .i64 0])), (1003, some (.blk 27 [bI .i64 0, bI .i64 0]))]) ⟨rfl, rfl, rfl, rfl, trivial⟩ ⟨rfl, rfl, trivial⟩ rfl ?_
  refine G.loopF (fun (v3 : Int × Int × Int) => ⟨[(0, .one (.g (.d (.sl 2 (List.map encApi_Stamp l_0))))), (2, .one (.ptr 1002 0)), (3, .one (.ptr 1003 0)), (4, .one (bI .i64 v3.1))], [(1002, some (.blk 27 [bI .i64 0, bI .i64 0])), (1003, some (.blk 27 [bI .i64 v3.2.1, bI .i64 v3.2.2]))]⟩) hF rfl (fun K6 again5 v3 J4 hF => ?_)
  unfold ref03_Max_l2 at hF
  refine G.seq ?_
  refine G.seq ?_
  refine G.region ?_
  refine G.op1 (op_move (Ev.t 4 (bI .i64 v3.1)) rfl) rfl ⟨rfl, trivial⟩ trivial ?_
  refine G.op1 (op_move (Ev.t 0 (.g (.d (.sl 2 (List.map encApi_Stamp l_0))))) rfl) rfl ⟨rfl, trivial⟩ trivial ?_
  refine G.op1 (OpL.cast (op_lenD Try.underlying36 (Ev.t 7 (.g (.d (.sl 2 (List.map encApi_Stamp l_0))))) rfl) (by rw [List.length_map])) rfl ⟨rfl, trivial⟩ trivial ?_
  refine G.op1 (op_lss (Ev.t 6 (bI .i64 v3.1)) (Ev.t 8 (bI .i64 (l_0.length : Int))) rfl) rfl ⟨rfl, rfl, trivial⟩ trivial ?_
  refine G.endOps ?_
  refine ifS hF (fun hc7 hF => ?_) (fun hc7 hF => ?_)
  · refine G.cond rfl (fun _ => ?_) (fun hx => by rw [hc7] at hx; cases hx)
    refine G.skip ?_
    refine G.seq ?_
    refine G.block ?_
    refine G.seq ?_
    obtain ⟨x8, hx8, hF⟩ := bindS hF
    obtain ⟨r9, hr9, hF⟩ := bindS hF
    refine G.drawn (effs := [⟨[(3, .one (.ptr 1003 0))], [(1003, some (.blk 27 [bI .i64 v3.2.1, bI .i64 v3.2.2]))], [(12, .one (.g (.agg [.v (.int .i64 v3.2.1), .v (.int .i64 v3.2.2)])))], []⟩, ⟨[(0, .one (.g (.d (.sl 2 (List.map encApi_Stamp l_0)))))], [], [(13, .one (.g (.d (.sl 2 (List.map encApi_Stamp l_0)))))], []⟩, ⟨[(4, .one (bI .i64 v3.1))], [], [(14, .one (bI .i64 v3.1))], []⟩, ⟨[(13, .one (.g (.d (.sl 2 (List.map encApi_Stamp l_0))))), (14, .one (bI .i64 v3.1))], [], [(15, .one (.ep [.v (.int .i64 x8.N), .v (.int .i64 x8.Site)]))], []⟩, ⟨[(15, .one (.ep [.v (.int .i64 x8.N), .v (.int .i64 x8.Site)]))], [], [(16, .one (.g (.agg [.v (.int .i64 x8.N), .v (.int .i64 x8.Site)])))], []⟩, ⟨[(12, .one (.g (.agg [.v (.int .i64 v3.2.1), .v (.int .i64 v3.2.2)]))), (16, .one (.g (.agg [.v (.int .i64 x8.N), .v (.int .i64 x8.Site)])))], [], [(17, .one (bB r9))], []⟩]) (deps := [[], [], [], [1, 2], [1, 2, 3], [0, 1, 2, 3, 4]]) (sl' := [(0, .one (.g (.d (.sl 2 (List.map encApi_Stamp l_0))))), (2, .one (.ptr 1002 0)), (3, .one (.ptr 1003 0)), (4, .one (bI .i64 v3.1)), (17, .one (bB r9))]) (hp' := [(1002, some (.blk 27 [bI .i64 0, bI .i64 0])), (1003, some (.blk 27 [bI .i64 v3.2.1, bI .i64 v3.2.2]))]) follows rfl rfl rfl ⟨⟨rfl, trivial⟩, ⟨⟨rfl, rfl⟩, trivial⟩, ⟨rfl, trivial⟩, trivial, ⟨rfl, trivial⟩, trivial, ⟨rfl, rfl, trivial⟩, trivial, ⟨rfl, trivial⟩, trivial, ⟨rfl, rfl, trivial⟩, trivial, trivial⟩ ⟨OpW.plain (op_loadAP (ds := [.v (.int .i64 v3.2.1), .v (.int .i64 v3.2.2)]) Try.underlying27 rfl ti27 rfl (Ev.t 3 (.ptr 1003 0)) rfl) rfl rfl, OpW.plain (op_move (Ev.t 0 (.g (.d (.sl 2 (List.map encApi_Stamp l_0))))) rfl) rfl rfl, OpW.plain (op_move (Ev.t 4 (bI .i64 v3.1)) rfl) rfl rfl, OpW.plain (op_index (cs := [.v (.int .i64 x8.N), .v (.int .i64 x8.Site)]) Try.underlying36 ti27 (idx_ok hx8).1 (idx_get hx8 encApi_Stamp) (Ev.t 13 (.g (.d (.sl 2 (List.map encApi_Stamp l_0))))) (Ev.t 14 (bI .i64 v3.1)) rfl) rfl rfl, OpW.plain (op_loadAE (ds := [.v (.int .i64 x8.N), .v (.int .i64 x8.Site)]) Try.underlying27 rfl ti27 rfl (Ev.t 15 (.ep [.v (.int .i64 x8.N), .v (.int .i64 x8.Site)])) rfl) rfl rfl, OpW.plain (op_callQ (sv := .one (bB r9)) cf16 (ct_ref03_Less (Api_Stamp.mk v3.2.1 v3.2.2) x8 r9 hr9) rfl rfl (EvQL.cons (EvQ.g (Ev.t 12 (.g (.agg [.v (.int .i64 v3.2.1), .v (.int .i64 v3.2.2)])))) (EvQL.cons (EvQ.g (Ev.t 16 (.g (.agg [.v (.int .i64 x8.N), .v (.int .i64 x8.Site)])))) EvQL.nil)) rfl) rfl rfl, trivial⟩ ⟨rfl, rfl, rfl, rfl, rfl, trivial⟩ ⟨rfl, rfl, trivial⟩ rfl ?_
    refine ifS hF (fun hc10 hF => ?_) (fun hc10 hF => ?_)
    · refine G.cond rfl (fun _ => ?_) (fun hx => by rw [hc10] at hx; cases hx)
      refine G.region ?_
      refine G.op1 (op_move (Ev.t 0 (.g (.d (.sl 2 (List.map encApi_Stamp l_0))))) rfl) rfl ⟨rfl, trivial⟩ trivial ?_
      refine G.op1 (op_move (Ev.t 4 (bI .i64 v3.1)) rfl) rfl ⟨rfl, trivial⟩ trivial ?_
      obtain ⟨x11, hx11, hF⟩ := bindS hF
      refine G.op1 (op_index (cs := [.v (.int .i64 x11.N), .v (.int .i64 x11.Site)]) Try.underlying36 ti27 (idx_ok hx11).1 (idx_get hx11 encApi_Stamp) (Ev.t 18 (.g (.d (.sl 2 (List.map encApi_Stamp l_0))))) (Ev.t 19 (bI .i64 v3.1)) rfl) rfl ⟨rfl, rfl, trivial⟩ trivial ?_
      refine G.op1 (op_loadAE (ds := [.v (.int .i64 x11.N), .v (.int .i64 x11.Site)]) Try.underlying27 rfl ti27 rfl (Ev.t 20 (.ep [.v (.int .i64 x11.N), .v (.int .i64 x11.Site)])) rfl) rfl ⟨rfl, trivial⟩ trivial ?_
      refine G.op3 (op_storeA (cs' := [bI .i64 x11.N, bI .i64 x11.Site]) ti27 rfl rfl (Ev.t 3 (.ptr 1003 0)) (Ev.t 21 (.g (.agg [.v (.int .i64 x11.N), .v (.int .i64 x11.Site)])))) rfl ⟨rfl, rfl, trivial⟩ ⟨rfl, trivial⟩ ?_
      refine G.endOps ?_
      refine G.endBlock ?_
      refine G.region ?_
      refine G.op1 (op_move (Ev.t 4 (bI .i64 v3.1)) rfl) rfl ⟨rfl, trivial⟩ trivial ?_
      refine G.op1 (op_add (Ev.t 10 (bI .i64 v3.1)) (Ev.c _ rfl) rfl) rfl ⟨rfl, trivial⟩ trivial ?_
      refine G.op1 (op_assign (Ev.t 11 (bI .i64 (IntKind.wrap .i64 (v3.1 + 1)))) rfl) rfl ⟨rfl, trivial⟩ trivial ?_
      refine G.endOps ?_
      exact G.arr (J4 (IntKind.wrap .i64 (v3.1 + 1), x11.N, x11.Site) hF) ⟨rfl, rfl, rfl, rfl, trivial⟩ ⟨rfl, rfl, trivial⟩ rfl
    · refine G.cond rfl (fun hx => by rw [hc10] at hx; cases hx) (fun _ => ?_)
      refine G.skip ?_
      refine G.endBlock ?_
      refine G.region ?_
      refine G.op1 (op_move (Ev.t 4 (bI .i64 v3.1)) rfl) rfl ⟨rfl, trivial⟩ trivial ?_
      refine G.op1 (op_add (Ev.t 10 (bI .i64 v3.1)) (Ev.c _ rfl) rfl) rfl ⟨rfl, trivial⟩ trivial ?_
      refine G.op1 (op_assign (Ev.t 11 (bI .i64 (IntKind.wrap .i64 (v3.1 + 1)))) rfl) rfl ⟨rfl, trivial⟩ trivial ?_
      refine G.endOps ?_
      exact G.arr (J4 (IntKind.wrap .i64 (v3.1 + 1), v3.2.1, v3.2.2) hF) ⟨rfl, rfl, rfl, rfl, trivial⟩ ⟨rfl, rfl, trivial⟩ rfl
  · refine G.cond rfl (fun hx => by rw [hc7] at hx; cases hx) (fun _ => ?_)
    refine G.exit ?_
    refine GX.c ?_
    refine GX.q ?_
    refine GX.bYes ?_
    exact G.arr (J2 (v3.2.1, v3.2.2) hF) ⟨rfl, rfl, trivial⟩ ⟨rfl, rfl, trivial⟩ rfl


set_option maxRecDepth 20000 in
set_option maxHeartbeats 2000000 in
theorem ct_law20_tells (l_0 : (List Api_Event)) (key_1 : ByteArray) (q_2 : (List Int)) (r : Bool) (hF : law20_tells l_0 key_1 q_2 = some r) : Ct Try.prog 20 [.g (.d (.sl 6 (List.map encApi_Event l_0))), .g (.d (.v (.string key_1))), .g (.agg (List.flatMap encI_i64 q_2))] (.one (.d (.v (.bool r)))) := by
  unfold law20_tells at hF
  refine Ct.intro Try.func20 rfl Try.ntmps20 rfl rfl fun M w => ?_
  refine G.seq ?_
  refine G.region ?_
  refine G.op2 (op_boxA (k := 1005) (Ev.t 2 (.g (.agg (List.flatMap encI_i64 q_2)))) rfl) rfl ⟨rfl, trivial⟩ ⟨rfl, trivial⟩ ?_
  refine G.op1 (op_assign (Ev.c _ rfl) rfl) rfl trivial trivial ?_
  refine G.endOps ?_
  refine G.seq ?_
  refine G.region ?_
  refine G.op1 (op_move (Ev.t 0 (.g (.d (.sl 6 (List.map encApi_Event l_0))))) rfl) rfl ⟨rfl, trivial⟩ trivial ?_
  refine G.op1 (op_move (Ev.t 1 (bS key_1)) rfl) rfl ⟨rfl, trivial⟩ trivial ?_
  obtain ⟨r1, hr1, hF⟩ := bindS hF
  refine G.op1 (op_call (sv := .one (.g (.d (.sl 2 (List.map encApi_Stamp r1))))) cf14 (ct_history_Writes l_0 key_1 r1 hr1) rfl (EvL.cons (Ev.t 12 (.g (.d (.sl 6 (List.map encApi_Event l_0))))) (EvL.cons (Ev.t 13 (bS key_1)) EvL.nil)) rfl) rfl ⟨rfl, rfl, trivial⟩ trivial ?_
  refine G.op1 (op_assign (Ev.t 14 (.g (.d (.sl 2 (List.map encApi_Stamp r1))))) rfl) rfl ⟨rfl, trivial⟩ trivial ?_
  refine G.endOps ?_
  refine G.seq ?_
  refine G.region ?_
  refine G.op1 (op_move (Ev.t 0 (.g (.d (.sl 6 (List.map encApi_Event l_0))))) rfl) rfl ⟨rfl, trivial⟩ trivial ?_
  refine G.op1 (op_move (Ev.t 1 (bS key_1)) rfl) rfl ⟨rfl, trivial⟩ trivial ?_
  obtain ⟨r2, hr2, hF⟩ := bindS hF
  refine G.op1 (op_call (sv := .one (.g (.d (.sl 2 (List.map encApi_Stamp r2))))) cf33 (ct_ref20_Writes l_0 key_1 r2 hr2) rfl (EvL.cons (Ev.t 15 (.g (.d (.sl 6 (List.map encApi_Event l_0))))) (EvL.cons (Ev.t 16 (bS key_1)) EvL.nil)) rfl) rfl ⟨rfl, rfl, trivial⟩ trivial ?_
  refine G.op1 (op_assign (Ev.t 17 (.g (.d (.sl 2 (List.map encApi_Stamp r2))))) rfl) rfl ⟨rfl, trivial⟩ trivial ?_
  refine G.endOps ?_
  refine G.seq ?_
  refine G.seq ?_
  refine G.region ?_
  refine G.op1 (op_move (Ev.t 7 (.g (.d (.sl 2 (List.map encApi_Stamp r1))))) rfl) rfl ⟨rfl, trivial⟩ trivial ?_
  refine G.op1 (OpL.cast (op_lenD Try.underlying36 (Ev.t 18 (.g (.d (.sl 2 (List.map encApi_Stamp r1))))) rfl) (by rw [List.length_map])) rfl ⟨rfl, trivial⟩ trivial ?_
  refine G.op1 (op_move (Ev.t 8 (.g (.d (.sl 2 (List.map encApi_Stamp r2))))) rfl) rfl ⟨rfl, trivial⟩ trivial ?_
  refine G.op1 (OpL.cast (op_lenD Try.underlying36 (Ev.t 20 (.g (.d (.sl 2 (List.map encApi_Stamp r2))))) rfl) (by rw [List.length_map])) rfl ⟨rfl, trivial⟩ trivial ?_
  refine G.op1 (op_neI (Ev.t 19 (bI .i64 (r1.length : Int))) (Ev.t 21 (bI .i64 (r2.length : Int))) rfl) rfl ⟨rfl, rfl, trivial⟩ trivial ?_
  refine G.endOps ?_
  refine ifS hF (fun hc3 hF => ?_) (fun hc3 hF => ?_)
  · refine G.cond rfl (fun _ => ?_) (fun hx => by rw [hc3] at hx; cases hx)
    refine G.seq ?_
    refine G.region ?_
    refine G.op1 (op_assign (Ev.c _ rfl) rfl) rfl trivial trivial ?_
    refine G.endOps ?_
    cases hF
    exact G.ret1 Try.results20 (RVar.tmp 6 _) ⟨rfl, trivial⟩ trivial
  · refine G.cond rfl (fun hx => by rw [hc3] at hx; cases hx) (fun _ => ?_)
    refine G.skip ?_
    refine G.seq ?_
    refine G.seq ?_
    refine G.region ?_
    refine G.op1 (op_assign (Ev.c _ rfl) rfl) rfl trivial trivial ?_
    refine G.endOps ?_
    refine G.joinC (T := Unit) (fun y4 => ⟨[(0, .one (.g (.d (.sl 6 (List.map encApi_Event l_0))))), (1, .one (bS key_1)), (5, .one (.ptr 1005 0)), (8, .one (.g (.d (.sl 2 (List.map encApi_Stamp r2)))))], [(1005, some (.blk 48 (dat (List.flatMap encI_i64 q_2))))]⟩) (fun y4 => law20_tells_k1 l_0 key_1 q_2 r2 y4 = some r) (fun y4 hF => ?_) (fun J26 => ?_)
    · unfold law20_tells_k1 at hF
      refine G.seq ?_
      obtain ⟨x5, hx5, hF⟩ := bindS hF
      obtain ⟨r6, hr6, hF⟩ := bindS hF
      obtain ⟨x7, hx7, hF⟩ := bindS hF
      obtain ⟨r8, hr8, hF⟩ := bindS hF
      obtain ⟨r9, hr9, hF⟩ := bindS hF
      refine G.drawn (effs := [⟨[(0, .one (.g (.d (.sl 6 (List.map encApi_Event l_0)))))], [], [(38, .one (.g (.d (.sl 6 (List.map encApi_Event l_0)))))], []⟩, ⟨[(5, .one (.ptr 1005 0))], [], [(39, .one (.ptr 1005 (Int.toNat 0 * 1)))], []⟩, ⟨[(39, .one (.ptr 1005 (Int.toNat 0 * 1)))], [(1005, some (.blk 48 (dat (List.flatMap encI_i64 q_2))))], [(40, .one (bI .i64 x5))], []⟩, ⟨[(38, .one (.g (.d (.sl 6 (List.map encApi_Event l_0))))), (40, .one (bI .i64 x5))], [], [(41, .one (.g (.d (.sl 6 (List.map encApi_Event r6)))))], []⟩, ⟨[(0, .one (.g (.d (.sl 6 (List.map encApi_Event l_0)))))], [], [(42, .one (.g (.d (.sl 6 (List.map encApi_Event l_0)))))], []⟩, ⟨[(5, .one (.ptr 1005 0))], [], [(43, .one (.ptr 1005 (Int.toNat 0 * 1)))], []⟩, ⟨[(43, .one (.ptr 1005 (Int.toNat 0 * 1)))], [(1005, some (.blk 48 (dat (List.flatMap encI_i64 q_2))))], [(44, .one (bI .i64 x7))], []⟩, ⟨[(42, .one (.g (.d (.sl 6 (List.map encApi_Event l_0))))), (44, .one (bI .i64 x7))], [], [(45, .one (.g (.d (.sl 6 (List.map encApi_Event r8)))))], []⟩, ⟨[(41, .one (.g (.d (.sl 6 (List.map encApi_Event r6))))), (45, .one (.g (.d (.sl 6 (List.map encApi_Event r8)))))], [], [(46, .one (bB r9))], []⟩, ⟨[(46, .one (bB r9))], [], [(10, .one (bB r9))], []⟩]) (deps := [[], [], [1], [0, 1, 2], [], [], [5], [0, 1, 2, 3, 4, 5, 6], [0, 1, 2, 3, 4, 5, 6, 7], [0, 1, 2, 3, 4, 5, 6, 7, 8]]) (sl' := [(0, .one (.g (.d (.sl 6 (List.map encApi_Event l_0))))), (1, .one (bS key_1)), (5, .one (.ptr 1005 0)), (8, .one (.g (.d (.sl 2 (List.map encApi_Stamp r2))))), (10, .one (bB r9))]) (hp' := [(1005, some (.blk 48 (dat (List.flatMap encI_i64 q_2))))]) follows rfl rfl rfl ⟨⟨rfl, trivial⟩, trivial, ⟨rfl, trivial⟩, trivial, ⟨rfl, trivial⟩, ⟨⟨rfl, rfl⟩, trivial⟩, ⟨rfl, rfl, trivial⟩, trivial, ⟨rfl, trivial⟩, trivial, ⟨rfl, trivial⟩, trivial, ⟨rfl, trivial⟩, ⟨⟨rfl, rfl⟩, trivial⟩, ⟨rfl, rfl, trivial⟩, trivial, ⟨rfl, rfl, trivial⟩, trivial, ⟨rfl, trivial⟩, trivial, trivial⟩ ⟨OpW.plain (op_move (Ev.t 0 (.g (.d (.sl 6 (List.map encApi_Event l_0))))) rfl) rfl rfl, OpW.plain (op_indexA Try.underlying48 ti3 (aidx_ok hx5).1 (aidx_ok hx5).2.1 (Ev.t 5 (.ptr 1005 0)) (Ev.c _ rfl) rfl) rfl rfl, OpW.plain (op_load1P (c := bI .i64 x5) Try.underlying3 rfl (arr_at1 hx5 (fun _ => rfl) rfl) (Ev.t 39 (.ptr 1005 (Int.toNat 0 * 1))) rfl) rfl rfl, OpW.plain (op_call (sv := .one (.g (.d (.sl 6 (List.map encApi_Event r6))))) cf17 (ct_history_Of l_0 x5 r6 hr6) rfl (EvL.cons (Ev.t 38 (.g (.d (.sl 6 (List.map encApi_Event l_0))))) (EvL.cons (Ev.t 40 (bI .i64 x5)) EvL.nil)) rfl) rfl rfl, OpW.plain (op_move (Ev.t 0 (.g (.d (.sl 6 (List.map encApi_Event l_0))))) rfl) rfl rfl, OpW.plain (op_indexA Try.underlying48 ti3 (aidx_ok hx7).1 (aidx_ok hx7).2.1 (Ev.t 5 (.ptr 1005 0)) (Ev.c _ rfl) rfl) rfl rfl, OpW.plain (op_load1P (c := bI .i64 x7) Try.underlying3 rfl (arr_at1 hx7 (fun _ => rfl) rfl) (Ev.t 43 (.ptr 1005 (Int.toNat 0 * 1))) rfl) rfl rfl, OpW.plain (op_call (sv := .one (.g (.d (.sl 6 (List.map encApi_Event r8))))) cf34 (ct_ref20_Of l_0 x7 r8 hr8) rfl (EvL.cons (Ev.t 42 (.g (.d (.sl 6 (List.map encApi_Event l_0))))) (EvL.cons (Ev.t 44 (bI .i64 x7)) EvL.nil)) rfl) rfl rfl, OpW.plain (op_callQ (sv := .one (bB r9)) cf19 (ct_ref20_Same r6 r8 r9 hr9) rfl rfl (EvQL.cons (EvQ.g (Ev.t 41 (.g (.d (.sl 6 (List.map encApi_Event r6)))))) (EvQL.cons (EvQ.g (Ev.t 45 (.g (.d (.sl 6 (List.map encApi_Event r8)))))) EvQL.nil)) rfl) rfl rfl, OpW.plain (op_assign (Ev.t 46 (bB r9)) rfl) rfl rfl, trivial⟩ ⟨rfl, rfl, rfl, rfl, rfl, trivial⟩ ⟨rfl, trivial⟩ (by simp only [wellId, List.all_cons, List.all_nil, HE.ids, ids_dat]; rfl) ?_
      refine G.seq ?_
      obtain ⟨x10, hx10, hF⟩ := bindS hF
      obtain ⟨r11, hr11, hF⟩ := bindS hF
      obtain ⟨x12, hx12, hF⟩ := bindS hF
      obtain ⟨r13, hr13, hF⟩ := bindS hF
      obtain ⟨r14, hr14, hF⟩ := bindS hF
      refine G.drawn (effs := [⟨[(0, .one (.g (.d (.sl 6 (List.map encApi_Event l_0)))))], [], [(47, .one (.g (.d (.sl 6 (List.map encApi_Event l_0)))))], []⟩, ⟨[(5, .one (.ptr 1005 0))], [], [(48, .one (.ptr 1005 (Int.toNat 1 * 1)))], []⟩, ⟨[(48, .one (.ptr 1005 (Int.toNat 1 * 1)))], [(1005, some (.blk 48 (dat (List.flatMap encI_i64 q_2))))], [(49, .one (bI .i64 x10))], []⟩, ⟨[(47, .one (.g (.d (.sl 6 (List.map encApi_Event l_0))))), (49, .one (bI .i64 x10))], [], [(50, .one (.g (.d (.sl 3 (List.map encApi_Dep r11)))))], []⟩, ⟨[(0, .one (.g (.d (.sl 6 (List.map encApi_Event l_0)))))], [], [(51, .one (.g (.d (.sl 6 (List.map encApi_Event l_0)))))], []⟩, ⟨[(5, .one (.ptr 1005 0))], [], [(52, .one (.ptr 1005 (Int.toNat 1 * 1)))], []⟩, ⟨[(52, .one (.ptr 1005 (Int.toNat 1 * 1)))], [(1005, some (.blk 48 (dat (List.flatMap encI_i64 q_2))))], [(53, .one (bI .i64 x12))], []⟩, ⟨[(51, .one (.g (.d (.sl 6 (List.map encApi_Event l_0))))), (53, .one (bI .i64 x12))], [], [(54, .one (.g (.d (.sl 3 (List.map encApi_Dep r13)))))], []⟩, ⟨[(50, .one (.g (.d (.sl 3 (List.map encApi_Dep r11))))), (54, .one (.g (.d (.sl 3 (List.map encApi_Dep r13)))))], [], [(55, .one (bB r14))], []⟩, ⟨[(55, .one (bB r14))], [], [(11, .one (bB r14))], []⟩]) (deps := [[], [], [1], [0, 1, 2], [], [], [5], [0, 1, 2, 3, 4, 5, 6], [0, 1, 2, 3, 4, 5, 6, 7], [0, 1, 2, 3, 4, 5, 6, 7, 8]]) (sl' := [(0, .one (.g (.d (.sl 6 (List.map encApi_Event l_0))))), (1, .one (bS key_1)), (8, .one (.g (.d (.sl 2 (List.map encApi_Stamp r2))))), (10, .one (bB r9)), (11, .one (bB r14))]) (hp' := []) follows rfl rfl rfl ⟨⟨rfl, trivial⟩, trivial, ⟨rfl, trivial⟩, trivial, ⟨rfl, trivial⟩, ⟨⟨rfl, rfl⟩, trivial⟩, ⟨rfl, rfl, trivial⟩, trivial, ⟨rfl, trivial⟩, trivial, ⟨rfl, trivial⟩, trivial, ⟨rfl, trivial⟩, ⟨⟨rfl, rfl⟩, trivial⟩, ⟨rfl, rfl, trivial⟩, trivial, ⟨rfl, rfl, trivial⟩, trivial, ⟨rfl, trivial⟩, trivial, trivial⟩ ⟨OpW.plain (op_move (Ev.t 0 (.g (.d (.sl 6 (List.map encApi_Event l_0))))) rfl) rfl rfl, OpW.plain (op_indexA Try.underlying48 ti3 (aidx_ok hx10).1 (aidx_ok hx10).2.1 (Ev.t 5 (.ptr 1005 0)) (Ev.c _ rfl) rfl) rfl rfl, OpW.plain (op_load1P (c := bI .i64 x10) Try.underlying3 rfl (arr_at1 hx10 (fun _ => rfl) rfl) (Ev.t 48 (.ptr 1005 (Int.toNat 1 * 1))) rfl) rfl rfl, OpW.plain (op_call (sv := .one (.g (.d (.sl 3 (List.map encApi_Dep r11))))) cf11 (ct_history_Behind l_0 x10 r11 hr11) rfl (EvL.cons (Ev.t 47 (.g (.d (.sl 6 (List.map encApi_Event l_0))))) (EvL.cons (Ev.t 49 (bI .i64 x10)) EvL.nil)) rfl) rfl rfl, OpW.plain (op_move (Ev.t 0 (.g (.d (.sl 6 (List.map encApi_Event l_0))))) rfl) rfl rfl, OpW.plain (op_indexA Try.underlying48 ti3 (aidx_ok hx12).1 (aidx_ok hx12).2.1 (Ev.t 5 (.ptr 1005 0)) (Ev.c _ rfl) rfl) rfl rfl, OpW.plain (op_load1P (c := bI .i64 x12) Try.underlying3 rfl (arr_at1 hx12 (fun _ => rfl) rfl) (Ev.t 52 (.ptr 1005 (Int.toNat 1 * 1))) rfl) rfl rfl, OpW.plain (op_call (sv := .one (.g (.d (.sl 3 (List.map encApi_Dep r13))))) cf25 (ct_ref20_Behind l_0 x12 r13 hr13) rfl (EvL.cons (Ev.t 51 (.g (.d (.sl 6 (List.map encApi_Event l_0))))) (EvL.cons (Ev.t 53 (bI .i64 x12)) EvL.nil)) rfl) rfl rfl, OpW.plain (op_callQ (sv := .one (bB r14)) cf32 (ct_ref04_Same r11 r13 r14 hr14) rfl rfl (EvQL.cons (EvQ.g (Ev.t 50 (.g (.d (.sl 3 (List.map encApi_Dep r11)))))) (EvQL.cons (EvQ.g (Ev.t 54 (.g (.d (.sl 3 (List.map encApi_Dep r13)))))) EvQL.nil)) rfl) rfl rfl, OpW.plain (op_assign (Ev.t 55 (bB r14)) rfl) rfl rfl, trivial⟩ ⟨rfl, rfl, rfl, rfl, rfl, trivial⟩ trivial rfl ?_
      refine G.seq ?_
      refine G.region ?_
      refine G.op1 (op_move (Ev.t 10 (bB r9)) rfl) rfl ⟨rfl, trivial⟩ trivial ?_
      refine G.op1 (op_move (Ev.t 56 (bB r9)) rfl) rfl ⟨rfl, trivial⟩ trivial ?_
      refine G.joinL (T := Bool) 2 (fun y15 => ⟨[(0, .one (.g (.d (.sl 6 (List.map encApi_Event l_0))))), (1, .one (bS key_1)), (8, .one (.g (.d (.sl 2 (List.map encApi_Stamp r2))))), (59, .one (bB y15))], []⟩) (fun y15 => law20_tells_k2 l_0 key_1 r2 y15 = some r) (fun y15 hF => ?_) (fun J24 => ?_)
      · unfold law20_tells_k2 at hF
        refine G.op1 (op_move (Ev.t 59 (bB y15)) rfl) rfl ⟨rfl, trivial⟩ trivial ?_
        refine G.joinL (T := Bool) 6 (fun y16 => ⟨[(0, .one (.g (.d (.sl 6 (List.map encApi_Event l_0))))), (1, .one (bS key_1)), (8, .one (.g (.d (.sl 2 (List.map encApi_Stamp r2))))), (66, .one (bB y16))], []⟩) (fun y16 => law20_tells_k3 l_0 key_1 r2 y16 = some r) (fun y16 hF => ?_) (fun J20 => ?_)
        · unfold law20_tells_k3 at hF
          refine G.op1 (op_move (Ev.t 66 (bB y16)) rfl) rfl ⟨rfl, trivial⟩ trivial ?_
          refine ifS hF (fun hc17 hF => ?_) (fun hc17 hF => ?_)
          · refine G.known (t := 67) hc17 rfl ?_
            refine G.opG1 (op_move (Ev.t 0 (.g (.d (.sl 6 (List.map encApi_Event l_0))))) rfl) rfl rfl rfl ⟨rfl, trivial⟩ trivial ?_
            refine G.opG1 (op_move (Ev.t 1 (bS key_1)) rfl) rfl rfl rfl ⟨rfl, trivial⟩ trivial ?_
            obtain ⟨r18, hr18, hF⟩ := bindS hF
            refine G.opG1 (op_callQ (sv := .one (.g (.agg [.v (.int .i64 r18.N), .v (.int .i64 r18.Site)]))) cf15 (ct_history_Greatest l_0 key_1 r18 hr18) rfl rfl (EvQL.cons (EvQ.g (Ev.t 68 (.g (.d (.sl 6 (List.map encApi_Event l_0)))))) (EvQL.cons (EvQ.g (Ev.t 69 (bS key_1))) EvQL.nil)) rfl) rfl rfl rfl ⟨rfl, rfl, trivial⟩ trivial ?_
            refine G.opG1 (op_move (Ev.t 8 (.g (.d (.sl 2 (List.map encApi_Stamp r2))))) rfl) rfl rfl rfl ⟨rfl, trivial⟩ trivial ?_
            obtain ⟨r19, hr19, hF⟩ := bindS hF
            refine G.opG1 (op_callQ (sv := .one (.g (.agg [.v (.int .i64 r19.N), .v (.int .i64 r19.Site)]))) cf36 (ct_ref03_Max r2 r19 hr19) rfl rfl (EvQL.cons (EvQ.g (Ev.t 71 (.g (.d (.sl 2 (List.map encApi_Stamp r2)))))) EvQL.nil) rfl) rfl rfl rfl ⟨rfl, trivial⟩ trivial ?_
            refine G.opG1 (op_eqA (us := [.int .i64 r18.N, .int .i64 r18.Site]) (vs := [.int .i64 r19.N, .int .i64 r19.Site]) rfl rfl Try.eqGuardType27 (fun w => eq27 r18.N r18.Site r19.N r19.Site w) (Ev.t 70 (.g (.agg [.v (.int .i64 r18.N), .v (.int .i64 r18.Site)]))) (Ev.t 72 (.g (.agg [.v (.int .i64 r19.N), .v (.int .i64 r19.Site)]))) rfl) rfl rfl rfl ⟨rfl, rfl, trivial⟩ trivial ?_
            refine G.op1 (op_pickT (Ev.t 67 (bB true)) (Ev.t 73 (bB (decide (r18.N = r19.N) && decide (r18.Site = r19.Site)))) rfl) rfl ⟨rfl, rfl, trivial⟩ trivial ?_
            refine G.op1 (op_assign (Ev.t 74 (bB (decide (r18.N = r19.N) && decide (r18.Site = r19.Site)))) rfl) rfl ⟨rfl, trivial⟩ trivial ?_
            refine G.endOps ?_
            cases hF
            exact G.ret1 Try.results20 (RVar.tmp 6 _) ⟨rfl, trivial⟩ trivial
          · refine G.known (t := 67) hc17 rfl ?_
            refine G.opN1 rfl rfl rfl rfl rfl ?_
            refine G.opN1 rfl rfl rfl rfl rfl ?_
            refine G.opN1 rfl rfl rfl rfl rfl ?_
            refine G.opN1 rfl rfl rfl rfl rfl ?_
            refine G.opN1 rfl rfl rfl rfl rfl ?_
            refine G.opN1 rfl rfl rfl rfl rfl ?_
            refine G.op1 (op_pickF (Ev.t 67 (bB false)) (Ev.c _ rfl) rfl) rfl ⟨rfl, trivial⟩ trivial ?_
            refine G.op1 (op_assign (Ev.t 74 (bB false)) rfl) rfl ⟨rfl, trivial⟩ trivial ?_
            refine G.endOps ?_
            cases hF
            exact G.ret1 Try.results20 (RVar.tmp 6 _) ⟨rfl, trivial⟩ trivial
        refine ifS hF (fun hc21 hF => ?_) (fun hc21 hF => ?_)
        · refine G.known (t := 60) hc21 rfl ?_
          refine G.opG1 (op_move (Ev.t 0 (.g (.d (.sl 6 (List.map encApi_Event l_0))))) rfl) rfl rfl rfl ⟨rfl, trivial⟩ trivial ?_
          obtain ⟨r22, hr22, hF⟩ := bindS hF
          refine G.opG1 (op_callQ (sv := .one (bI .i64 r22)) cf13 (ct_history_Check l_0 r22 hr22) rfl rfl (EvQL.cons (EvQ.g (Ev.t 61 (.g (.d (.sl 6 (List.map encApi_Event l_0)))))) EvQL.nil) rfl) rfl rfl rfl ⟨rfl, trivial⟩ trivial ?_
          refine G.opG1 (op_move (Ev.t 0 (.g (.d (.sl 6 (List.map encApi_Event l_0))))) rfl) rfl rfl rfl ⟨rfl, trivial⟩ trivial ?_
          obtain ⟨r23, hr23, hF⟩ := bindS hF
          refine G.opG1 (op_callQ (sv := .one (bI .i64 r23)) cf35 (ct_ref20_Check l_0 r23 hr23) rfl rfl (EvQL.cons (EvQ.g (Ev.t 63 (.g (.d (.sl 6 (List.map encApi_Event l_0)))))) EvQL.nil) rfl) rfl rfl rfl ⟨rfl, trivial⟩ trivial ?_
          refine G.opG1 (op_eqI (Ev.t 62 (bI .i64 r22)) (Ev.t 64 (bI .i64 r23)) rfl) rfl rfl rfl ⟨rfl, rfl, trivial⟩ trivial ?_
          refine G.op1 (op_pickT (Ev.t 60 (bB true)) (Ev.t 65 (bB (decide (r22 = r23)))) rfl) rfl ⟨rfl, rfl, trivial⟩ trivial ?_
          exact G.arr (J20 (decide (r22 = r23)) hF) ⟨rfl, rfl, rfl, rfl, trivial⟩ trivial rfl
        · refine G.known (t := 60) hc21 rfl ?_
          refine G.opN1 rfl rfl rfl rfl rfl ?_
          refine G.opN1 rfl rfl rfl rfl rfl ?_
          refine G.opN1 rfl rfl rfl rfl rfl ?_
          refine G.opN1 rfl rfl rfl rfl rfl ?_
          refine G.opN1 rfl rfl rfl rfl rfl ?_
          refine G.op1 (op_pickF (Ev.t 60 (bB false)) (Ev.c _ rfl) rfl) rfl ⟨rfl, trivial⟩ trivial ?_
          exact G.arr (J20 false hF) ⟨rfl, rfl, rfl, rfl, trivial⟩ trivial rfl
      refine ifS hF (fun hc25 hF => ?_) (fun hc25 hF => ?_)
      · refine G.known (t := 57) hc25 rfl ?_
        refine G.opG1 (op_move (Ev.t 11 (bB r14)) rfl) rfl rfl rfl ⟨rfl, trivial⟩ trivial ?_
        refine G.op1 (op_pickT (Ev.t 57 (bB true)) (Ev.t 58 (bB r14)) rfl) rfl ⟨rfl, rfl, trivial⟩ trivial ?_
        exact G.arr (J24 r14 hF) ⟨rfl, rfl, rfl, rfl, trivial⟩ trivial rfl
      · refine G.known (t := 57) hc25 rfl ?_
        refine G.opN1 rfl rfl rfl rfl rfl ?_
        refine G.op1 (op_pickF (Ev.t 57 (bB false)) (Ev.c _ rfl) rfl) rfl ⟨rfl, trivial⟩ trivial ?_
        exact G.arr (J24 false hF) ⟨rfl, rfl, rfl, rfl, trivial⟩ trivial rfl
    refine G.block ?_
    refine G.keep (sl' := [(0, .one (.g (.d (.sl 6 (List.map encApi_Event l_0))))), (1, .one (bS key_1)), (5, .one (.ptr 1005 0)), (7, .one (.g (.d (.sl 2 (List.map encApi_Stamp r1))))), (8, .one (.g (.d (.sl 2 (List.map encApi_Stamp r2))))), (9, .one (bI .i64 0))]) (hp' := [(1005, some (.blk 48 (dat (List.flatMap encI_i64 q_2))))]) ⟨rfl, rfl, rfl, rfl, rfl, rfl, trivial⟩ ⟨rfl, trivial⟩ (by simp only [wellId, List.all_cons, List.all_nil, HE.ids, ids_dat]; rfl) ?_
    refine G.loopF (fun (v27 : Int) => ⟨[(0, .one (.g (.d (.sl 6 (List.map encApi_Event l_0))))), (1, .one (bS key_1)), (5, .one (.ptr 1005 0)), (7, .one (.g (.d (.sl 2 (List.map encApi_Stamp r1))))), (8, .one (.g (.d (.sl 2 (List.map encApi_Stamp r2))))), (9, .one (bI .i64 v27))], [(1005, some (.blk 48 (dat (List.flatMap encI_i64 q_2))))]⟩) hF rfl (fun K30 again29 v27 J28 hF => ?_)
    unfold law20_tells_l4 at hF
    refine G.seq ?_
    refine G.seq ?_
    refine G.region ?_
    refine G.op1 (op_move (Ev.t 9 (bI .i64 v27)) rfl) rfl ⟨rfl, trivial⟩ trivial ?_
    refine G.op1 (op_move (Ev.t 7 (.g (.d (.sl 2 (List.map encApi_Stamp r1))))) rfl) rfl ⟨rfl, trivial⟩ trivial ?_
    refine G.op1 (OpL.cast (op_lenD Try.underlying36 (Ev.t 24 (.g (.d (.sl 2 (List.map encApi_Stamp r1))))) rfl) (by rw [List.length_map])) rfl ⟨rfl, trivial⟩ trivial ?_
    refine G.op1 (op_lss (Ev.t 23 (bI .i64 v27)) (Ev.t 25 (bI .i64 (r1.length : Int))) rfl) rfl ⟨rfl, rfl, trivial⟩ trivial ?_
    refine G.endOps ?_
    refine ifS hF (fun hc31 hF => ?_) (fun hc31 hF => ?_)
    · refine G.cond rfl (fun _ => ?_) (fun hx => by rw [hc31] at hx; cases hx)
      refine G.skip ?_
      refine G.seq ?_
      refine G.block ?_
      refine G.seq ?_
      obtain ⟨x32, hx32, hF⟩ := bindS hF
      obtain ⟨x33, hx33, hF⟩ := bindS hF
      refine G.drawn (effs := [⟨[(7, .one (.g (.d (.sl 2 (List.map encApi_Stamp r1)))))], [], [(29, .one (.g (.d (.sl 2 (List.map encApi_Stamp r1)))))], []⟩, ⟨[(9, .one (bI .i64 v27))], [], [(30, .one (bI .i64 v27))], []⟩, ⟨[(29, .one (.g (.d (.sl 2 (List.map encApi_Stamp r1))))), (30, .one (bI .i64 v27))], [], [(31, .one (.ep [.v (.int .i64 x32.N), .v (.int .i64 x32.Site)]))], []⟩, ⟨[(31, .one (.ep [.v (.int .i64 x32.N), .v (.int .i64 x32.Site)]))], [], [(32, .one (.g (.agg [.v (.int .i64 x32.N), .v (.int .i64 x32.Site)])))], []⟩, ⟨[(8, .one (.g (.d (.sl 2 (List.map encApi_Stamp r2)))))], [], [(33, .one (.g (.d (.sl 2 (List.map encApi_Stamp r2)))))], []⟩, ⟨[(9, .one (bI .i64 v27))], [], [(34, .one (bI .i64 v27))], []⟩, ⟨[(33, .one (.g (.d (.sl 2 (List.map encApi_Stamp r2))))), (34, .one (bI .i64 v27))], [], [(35, .one (.ep [.v (.int .i64 x33.N), .v (.int .i64 x33.Site)]))], []⟩, ⟨[(35, .one (.ep [.v (.int .i64 x33.N), .v (.int .i64 x33.Site)]))], [], [(36, .one (.g (.agg [.v (.int .i64 x33.N), .v (.int .i64 x33.Site)])))], []⟩, ⟨[(32, .one (.g (.agg [.v (.int .i64 x32.N), .v (.int .i64 x32.Site)]))), (36, .one (.g (.agg [.v (.int .i64 x33.N), .v (.int .i64 x33.Site)])))], [], [(37, .one (bB (!(decide (x32.N = x33.N) && decide (x32.Site = x33.Site)))))], []⟩]) (deps := [[], [], [0, 1], [0, 1, 2], [], [], [4, 5], [4, 5, 6], [0, 1, 2, 3, 4, 5, 6, 7]]) (sl' := [(0, .one (.g (.d (.sl 6 (List.map encApi_Event l_0))))), (1, .one (bS key_1)), (5, .one (.ptr 1005 0)), (7, .one (.g (.d (.sl 2 (List.map encApi_Stamp r1))))), (8, .one (.g (.d (.sl 2 (List.map encApi_Stamp r2))))), (9, .one (bI .i64 v27)), (37, .one (bB (!(decide (x32.N = x33.N) && decide (x32.Site = x33.Site)))))]) (hp' := [(1005, some (.blk 48 (dat (List.flatMap encI_i64 q_2))))]) follows rfl rfl rfl ⟨⟨rfl, trivial⟩, trivial, ⟨rfl, trivial⟩, trivial, ⟨rfl, rfl, trivial⟩, trivial, ⟨rfl, trivial⟩, trivial, ⟨rfl, trivial⟩, trivial, ⟨rfl, trivial⟩, trivial, ⟨rfl, rfl, trivial⟩, trivial, ⟨rfl, trivial⟩, trivial, ⟨rfl, rfl, trivial⟩, trivial, trivial⟩ ⟨OpW.plain (op_move (Ev.t 7 (.g (.d (.sl 2 (List.map encApi_Stamp r1))))) rfl) rfl rfl, OpW.plain (op_move (Ev.t 9 (bI .i64 v27)) rfl) rfl rfl, OpW.plain (op_index (cs := [.v (.int .i64 x32.N), .v (.int .i64 x32.Site)]) Try.underlying36 ti27 (idx_ok hx32).1 (idx_get hx32 encApi_Stamp) (Ev.t 29 (.g (.d (.sl 2 (List.map encApi_Stamp r1))))) (Ev.t 30 (bI .i64 v27)) rfl) rfl rfl, OpW.plain (op_loadAE (ds := [.v (.int .i64 x32.N), .v (.int .i64 x32.Site)]) Try.underlying27 rfl ti27 rfl (Ev.t 31 (.ep [.v (.int .i64 x32.N), .v (.int .i64 x32.Site)])) rfl) rfl rfl, OpW.plain (op_move (Ev.t 8 (.g (.d (.sl 2 (List.map encApi_Stamp r2))))) rfl) rfl rfl, OpW.plain (op_move (Ev.t 9 (bI .i64 v27)) rfl) rfl rfl, OpW.plain (op_index (cs := [.v (.int .i64 x33.N), .v (.int .i64 x33.Site)]) Try.underlying36 ti27 (idx_ok hx33).1 (idx_get hx33 encApi_Stamp) (Ev.t 33 (.g (.d (.sl 2 (List.map encApi_Stamp r2))))) (Ev.t 34 (bI .i64 v27)) rfl) rfl rfl, OpW.plain (op_loadAE (ds := [.v (.int .i64 x33.N), .v (.int .i64 x33.Site)]) Try.underlying27 rfl ti27 rfl (Ev.t 35 (.ep [.v (.int .i64 x33.N), .v (.int .i64 x33.Site)])) rfl) rfl rfl, OpW.plain (op_eqA (us := [.int .i64 x32.N, .int .i64 x32.Site]) (vs := [.int .i64 x33.N, .int .i64 x33.Site]) rfl rfl Try.eqGuardType27 (fun w => ne27 x32.N x32.Site x33.N x33.Site w) (Ev.t 32 (.g (.agg [.v (.int .i64 x32.N), .v (.int .i64 x32.Site)]))) (Ev.t 36 (.g (.agg [.v (.int .i64 x33.N), .v (.int .i64 x33.Site)]))) rfl) rfl rfl, trivial⟩ ⟨rfl, rfl, rfl, rfl, rfl, rfl, rfl, trivial⟩ ⟨rfl, trivial⟩ (by simp only [wellId, List.all_cons, List.all_nil, HE.ids, ids_dat]; rfl) ?_
      refine ifS hF (fun hc34 hF => ?_) (fun hc34 hF => ?_)
      · refine G.cond rfl (fun _ => ?_) (fun hx => by rw [hc34] at hx; cases hx)
        refine G.seq ?_
        refine G.region ?_
        refine G.op1 (op_assign (Ev.c _ rfl) rfl) rfl trivial trivial ?_
        refine G.endOps ?_
        cases hF
        exact G.ret1 Try.results20 (RVar.tmp 6 _) ⟨rfl, trivial⟩ trivial
      · refine G.cond rfl (fun hx => by rw [hc34] at hx; cases hx) (fun _ => ?_)
        refine G.skip ?_
        refine G.endBlock ?_
        refine G.region ?_
        refine G.op1 (op_move (Ev.t 9 (bI .i64 v27)) rfl) rfl ⟨rfl, trivial⟩ trivial ?_
        refine G.op1 (op_add (Ev.t 27 (bI .i64 v27)) (Ev.c _ rfl) rfl) rfl ⟨rfl, trivial⟩ trivial ?_
        refine G.op1 (op_assign (Ev.t 28 (bI .i64 (IntKind.wrap .i64 (v27 + 1)))) rfl) rfl ⟨rfl, trivial⟩ trivial ?_
        refine G.endOps ?_
        exact G.arr (J28 (IntKind.wrap .i64 (v27 + 1)) hF) ⟨rfl, rfl, rfl, rfl, rfl, rfl, trivial⟩ ⟨rfl, trivial⟩ (by simp only [wellId, List.all_cons, List.all_nil, HE.ids, ids_dat]; rfl)
    · refine G.cond rfl (fun hx => by rw [hc31] at hx; cases hx) (fun _ => ?_)
      refine G.exit ?_
      refine GX.c ?_
      refine GX.q ?_
      refine GX.bYes ?_
      exact G.arr (J26 () hF) ⟨rfl, rfl, rfl, rfl, trivial⟩ ⟨rfl, trivial⟩ (by simp only [wellId, List.all_cons, List.all_nil, HE.ids, ids_dat]; rfl)


set_option maxRecDepth 20000 in
set_option maxHeartbeats 2000000 in
theorem ct_law20_HistoryTells (l_0 : (List Api_Event)) (key_1 : ByteArray) (q_2 : (List Int)) (r : Bool) (hF : law20_HistoryTells l_0 key_1 q_2 = some r) : Ct Try.prog 7 [.g (.d (.sl 6 (List.map encApi_Event l_0))), .g (.d (.v (.string key_1))), .g (.agg (List.flatMap encI_i64 q_2))] (.one (.d (.v (.bool r)))) := by
  unfold law20_HistoryTells at hF
  refine Ct.intro Try.func7 rfl Try.ntmps7 rfl rfl fun M w => ?_
  refine G.seq ?_
  refine G.region ?_
  refine G.op2 (op_boxA (k := 1005) (Ev.t 2 (.g (.agg (List.flatMap encI_i64 q_2)))) rfl) rfl ⟨rfl, trivial⟩ ⟨rfl, trivial⟩ ?_
  refine G.op1 (op_assign (Ev.c _ rfl) rfl) rfl trivial trivial ?_
  refine G.endOps ?_
  refine G.seq ?_
  obtain ⟨r1, hr1, hF⟩ := bindS hF
  refine ifS hF (fun hc2 hF => ?_) (fun hc2 hF => ?_)
  · obtain ⟨r3, hr3, hF⟩ := bindS hF
    obtain ⟨hz4, hF⟩ := chkS hF
    obtain ⟨r5, hr5, hF⟩ := bindS hF
    refine G.drawn (effs := [⟨[], [], [(7, .one (bB true))], []⟩, ⟨[(7, .one (bB true))], [], [(8, .one (bB true))], []⟩, ⟨[(8, .one (bB true)), (0, .one (.g (.d (.sl 6 (List.map encApi_Event l_0)))))], [], [(9, .one (.g (.d (.sl 6 (List.map encApi_Event l_0)))))], []⟩, ⟨[(8, .one (bB true)), (9, .one (.g (.d (.sl 6 (List.map encApi_Event l_0)))))], [], [(10, .one (.g (.d (.sl 6 (List.map encApi_Event r3)))))], []⟩, ⟨[(8, .one (bB true)), (1, .one (bS key_1))], [], [(11, .one (bS key_1))], []⟩, ⟨[(8, .one (bB true)), (5, .one (.ptr 1005 0))], [(1005, some (.blk 48 (dat (List.flatMap encI_i64 q_2))))], [(12, .one (.g (.agg (List.flatMap encI_i64 q_2))))], []⟩, ⟨[(8, .one (bB true)), (10, .one (.g (.d (.sl 6 (List.map encApi_Event r3))))), (11, .one (bS key_1)), (12, .one (.g (.agg (List.flatMap encI_i64 q_2))))], [], [(13, .one (bB r5))], []⟩, ⟨[(8, .one (bB true)), (13, .one (bB r5))], [], [(14, .one (bB r5))], []⟩, ⟨[(14, .one (bB r5))], [], [(6, .one (bB r5))], []⟩]) (deps := [[], [0], [0, 1], [0, 1, 2], [0, 1], [0, 1], [0, 1, 2, 3, 4, 5], [0, 1, 2, 3, 4, 5, 6], [0, 1, 2, 3, 4, 5, 6, 7]]) (sl' := [(6, .one (bB r5))]) (hp' := []) follows rfl rfl rfl ⟨trivial, trivial, ⟨rfl, trivial⟩, trivial, ⟨rfl, rfl, trivial⟩, trivial, ⟨rfl, rfl, trivial⟩, trivial, ⟨rfl, rfl, trivial⟩, trivial, ⟨rfl, rfl, trivial⟩, ⟨⟨rfl, rfl⟩, trivial⟩, ⟨rfl, rfl, rfl, rfl, trivial⟩, trivial, ⟨rfl, rfl, trivial⟩, trivial, ⟨rfl, trivial⟩, trivial, trivial⟩ ⟨OpW.plain (OpL.cast (op_callQ (sv := .one (bB r1)) cf9 (ct_law20_awake r1 hr1) rfl rfl EvQL.nil rfl) (congrArg (fun b => bB b) hc2)) rfl rfl, OpW.plain (op_move (Ev.t 7 (bB true)) rfl) rfl rfl, OpW.yes (op_move (Ev.t 0 (.g (.d (.sl 6 (List.map encApi_Event l_0))))) rfl) rfl rfl rfl, OpW.yes (op_call (sv := .one (.g (.d (.sl 6 (List.map encApi_Event r3))))) cf21 (ct_law20_few l_0 r3 hr3) rfl (EvL.cons (Ev.t 9 (.g (.d (.sl 6 (List.map encApi_Event l_0))))) EvL.nil) rfl) rfl rfl rfl, OpW.yes (op_move (Ev.t 1 (bS key_1)) rfl) rfl rfl rfl, OpW.yes (op_loadAP (ds := List.flatMap encI_i64 q_2) Try.underlying48 rfl (by rw [flat_len (size := 1) (fun _ => rfl) q_2, of_decide_eq_true hz4]; exact ti48) (by rw [List.drop_zero]; exact List.take_of_length_le (by simp only [dat, List.length_map]; exact Nat.le_refl _)) (Ev.t 5 (.ptr 1005 0)) rfl) rfl rfl rfl, OpW.yes (op_callQ (sv := .one (bB r5)) cf20 (ct_law20_tells r3 key_1 q_2 r5 hr5) rfl rfl (EvQL.cons (EvQ.g (Ev.t 10 (.g (.d (.sl 6 (List.map encApi_Event r3)))))) (EvQL.cons (EvQ.g (Ev.t 11 (bS key_1))) (EvQL.cons (EvQ.g (Ev.t 12 (.g (.agg (List.flatMap encI_i64 q_2))))) EvQL.nil))) rfl) rfl rfl rfl, OpW.plain (op_pickT (Ev.t 8 (bB true)) (Ev.t 13 (bB r5)) rfl) rfl rfl, OpW.plain (op_assign (Ev.t 14 (bB r5)) rfl) rfl rfl, trivial⟩ ⟨rfl, trivial⟩ trivial rfl ?_
    cases hF
    exact G.ret1 Try.results7 (RVar.tmp 6 _) ⟨rfl, trivial⟩ trivial
  · refine G.drawn (effs := [⟨[], [], [(7, .one (bB false))], []⟩, ⟨[(7, .one (bB false))], [], [(8, .one (bB false))], []⟩, ⟨[(8, .one (bB false))], [], [(9, .one (.x Go.undef))], []⟩, ⟨[(8, .one (bB false))], [], [(10, .one (.x Go.undef))], []⟩, ⟨[(8, .one (bB false))], [], [(11, .one (.x Go.undef))], []⟩, ⟨[(8, .one (bB false))], [], [(12, .one (.x Go.undef))], []⟩, ⟨[(8, .one (bB false))], [], [(13, .one (.x Go.undef))], []⟩, ⟨[(8, .one (bB false))], [], [(14, .one (bB false))], []⟩, ⟨[(14, .one (bB false))], [], [(6, .one (bB false))], []⟩]) (deps := [[], [0], [0, 1], [0, 1, 2], [0, 1], [0, 1], [0, 1, 2, 3, 4, 5], [0, 1, 2, 3, 4, 5, 6], [0, 1, 2, 3, 4, 5, 6, 7]]) (sl' := [(6, .one (bB false))]) (hp' := []) follows rfl rfl rfl ⟨trivial, trivial, ⟨rfl, trivial⟩, trivial, ⟨rfl, trivial⟩, trivial, ⟨rfl, trivial⟩, trivial, ⟨rfl, trivial⟩, trivial, ⟨rfl, trivial⟩, trivial, ⟨rfl, trivial⟩, trivial, ⟨rfl, trivial⟩, trivial, ⟨rfl, trivial⟩, trivial, trivial⟩ ⟨OpW.plain (OpL.cast (op_callQ (sv := .one (bB r1)) cf9 (ct_law20_awake r1 hr1) rfl rfl EvQL.nil rfl) (congrArg (fun b => bB b) hc2)) rfl rfl, OpW.plain (op_move (Ev.t 7 (bB false)) rfl) rfl rfl, OpW.no rfl rfl rfl rfl rfl, OpW.no rfl rfl rfl rfl rfl, OpW.no rfl rfl rfl rfl rfl, OpW.no rfl rfl rfl rfl rfl, OpW.no rfl rfl rfl rfl rfl, OpW.plain (op_pickF (Ev.t 8 (bB false)) (Ev.c _ rfl) rfl) rfl rfl, OpW.plain (op_assign (Ev.t 14 (bB false)) rfl) rfl rfl, trivial⟩ ⟨rfl, trivial⟩ trivial rfl ?_
    cases hF
    exact G.ret1 Try.results7 (RVar.tmp 6 _) ⟨rfl, trivial⟩ trivial


end Go.Ark
