/- Walks, printed by a program of mine: each function of the program computes the typed function of its name. Conditions: none. -/
import Derived.Test.YtjidbmelmcmmhaaWWireRows2
namespace Go.Ark
open Go Go.Ab Go.RowKit Go.Lib Go.Proofs

set_option maxRecDepth 20000 in
set_option maxHeartbeats 2000000 in
theorem ct_law06_same (a_0 : Api_Row) (b_1 : Api_Row) (r : Bool) (hF : law06_same a_0 b_1 = some r) : Ct Try.prog 23 [.g (.agg (encApi_Row a_0)), .g (.agg (encApi_Row b_1))] (.one (.d (.v (.bool r)))) := by
  unfold law06_same at hF
  refine Ct.intro Try.func23 rfl Try.ntmps23 rfl rfl fun M w => ?_
  refine G.seq ?_
  refine G.region ?_
  refine G.op2 (op_boxA (k := 1002) (Ev.t 0 (.g (.agg [.sl 2 (List.map encApi_Range a_0.Ranges), .sl 1 (List.map encI_i64 a_0.Owners), .sl 1 (List.map encI_i64 a_0.Parents)]))) rfl) rfl ⟨rfl, trivial⟩ ⟨rfl, trivial⟩ ?_
  refine G.op2 (op_boxA (k := 1003) (Ev.t 1 (.g (.agg [.sl 2 (List.map encApi_Range b_1.Ranges), .sl 1 (List.map encI_i64 b_1.Owners), .sl 1 (List.map encI_i64 b_1.Parents)]))) rfl) rfl ⟨rfl, trivial⟩ ⟨rfl, trivial⟩ ?_
  refine G.op1 (op_assign (Ev.c _ rfl) rfl) rfl trivial trivial ?_
  refine G.endOps ?_
  refine G.seq ?_
  refine G.seq ?_
  refine G.joinC (T := Bool) (fun y1 => ⟨[(2, .one (.ptr 1002 0)), (3, .one (.ptr 1003 0)), (31, .one (bB y1))], [(1002, some (.blk 44 [.g (.d (.sl 2 (List.map encApi_Range a_0.Ranges))), .g (.d (.sl 1 (List.map encI_i64 a_0.Owners))), .g (.d (.sl 1 (List.map encI_i64 a_0.Parents)))])), (1003, some (.blk 44 [.g (.d (.sl 2 (List.map encApi_Range b_1.Ranges))), .g (.d (.sl 1 (List.map encI_i64 b_1.Owners))), .g (.d (.sl 1 (List.map encI_i64 b_1.Parents)))]))]⟩) (fun y1 => law06_same_k1 a_0 b_1 y1 = some r) (fun y1 hF => ?_) (fun J27 => ?_)
  · unfold law06_same_k1 at hF
    refine ifS hF (fun hc2 hF => ?_) (fun hc2 hF => ?_)
    · refine G.cond rfl (fun _ => ?_) (fun hx => by rw [hc2] at hx; cases hx)
      refine G.seq ?_
      refine G.region ?_
      refine G.op1 (op_assign (Ev.c _ rfl) rfl) rfl trivial trivial ?_
      refine G.endOps ?_
      cases hF
      exact G.ret1 Try.results23 (RVar.tmp 4 _) ⟨rfl, trivial⟩ trivial
    · refine G.cond rfl (fun hx => by rw [hc2] at hx; cases hx) (fun _ => ?_)
      refine G.skip ?_
      refine G.seq ?_
      refine G.seq ?_
      refine G.region ?_
      refine G.op1 (op_assign (Ev.c _ rfl) rfl) rfl trivial trivial ?_
      refine G.endOps ?_
      refine G.joinC (T := Unit) (fun y3 => ⟨[(2, .one (.ptr 1002 0)), (3, .one (.ptr 1003 0))], [(1002, some (.blk 44 [.g (.d (.sl 2 (List.map encApi_Range a_0.Ranges))), .g (.d (.sl 1 (List.map encI_i64 a_0.Owners))), .g (.d (.sl 1 (List.map encI_i64 a_0.Parents)))])), (1003, some (.blk 44 [.g (.d (.sl 2 (List.map encApi_Range b_1.Ranges))), .g (.d (.sl 1 (List.map encI_i64 b_1.Owners))), .g (.d (.sl 1 (List.map encI_i64 b_1.Parents)))]))]⟩) (fun y3 => law06_same_k2 a_0 b_1 y3 = some r) (fun y3 hF => ?_) (fun J14 => ?_)
      · unfold law06_same_k2 at hF
        refine G.seq ?_
        refine G.seq ?_
        refine G.region ?_
        refine G.op1 (op_assign (Ev.c _ rfl) rfl) rfl trivial trivial ?_
        refine G.endOps ?_
        refine G.joinC (T := Unit) (fun y4 => ⟨[], []⟩) (fun y4 => law06_same_k3 y4 = some r) (fun y4 hF => ?_) (fun J5 => ?_)
        · unfold law06_same_k3 at hF
          refine G.seq ?_
          refine G.region ?_
          refine G.op1 (op_assign (Ev.c _ rfl) rfl) rfl trivial trivial ?_
          refine G.endOps ?_
          cases hF
          exact G.ret1 Try.results23 (RVar.tmp 4 _) ⟨rfl, trivial⟩ trivial
        refine G.block ?_
        refine G.keep (sl' := [(2, .one (.ptr 1002 0)), (3, .one (.ptr 1003 0)), (6, .one (bI .i64 0))]) (hp' := [(1002, some (.blk 44 [.g (.d (.sl 2 (List.map encApi_Range a_0.Ranges))), .g (.d (.sl 1 (List.map encI_i64 a_0.Owners))), .g (.d (.sl 1 (List.map encI_i64 a_0.Parents)))])), (1003, some (.blk 44 [.g (.d (.sl 2 (List.map encApi_Range b_1.Ranges))), .g (.d (.sl 1 (List.map encI_i64 b_1.Owners))), .g (.d (.sl 1 (List.map encI_i64 b_1.Parents)))]))]) ⟨rfl, rfl, rfl, trivial⟩ ⟨rfl, rfl, trivial⟩ rfl ?_
        refine G.loopF (fun (v6 : Int) => ⟨[(2, .one (.ptr 1002 0)), (3, .one (.ptr 1003 0)), (6, .one (bI .i64 v6))], [(1002, some (.blk 44 [.g (.d (.sl 2 (List.map encApi_Range a_0.Ranges))), .g (.d (.sl 1 (List.map encI_i64 a_0.Owners))), .g (.d (.sl 1 (List.map encI_i64 a_0.Parents)))])), (1003, some (.blk 44 [.g (.d (.sl 2 (List.map encApi_Range b_1.Ranges))), .g (.d (.sl 1 (List.map encI_i64 b_1.Owners))), .g (.d (.sl 1 (List.map encI_i64 b_1.Parents)))]))]⟩) hF rfl (fun K9 again8 v6 J7 hF => ?_)
        unfold law06_same_l4 at hF
        refine G.seq ?_
        refine G.seq ?_
        refine G.region ?_
        refine G.op1 (op_move (Ev.t 6 (bI .i64 v6)) rfl) rfl ⟨rfl, trivial⟩ trivial ?_
        refine G.op1 (op_fieldP (off' := 2) Try.underlying44 rfl ti39 (by decide) rfl (Ev.t 2 (.ptr 1002 0)) rfl) rfl ⟨rfl, trivial⟩ trivial ?_
        refine G.op1 (op_load1P (c := .g (.d (.sl 1 (List.map encI_i64 a_0.Parents)))) Try.underlying39 rfl rfl (Ev.t 71 (.ptr 1002 2)) rfl) rfl ⟨rfl, trivial⟩ ⟨rfl, trivial⟩ ?_
        refine G.op1 (OpL.cast (op_lenD Try.underlying39 (Ev.t 72 (.g (.d (.sl 1 (List.map encI_i64 a_0.Parents))))) rfl) (by rw [List.length_map])) rfl ⟨rfl, trivial⟩ trivial ?_
        refine G.op1 (op_lss (Ev.t 70 (bI .i64 v6)) (Ev.t 73 (bI .i64 (a_0.Parents.length : Int))) rfl) rfl ⟨rfl, rfl, trivial⟩ trivial ?_
        refine G.endOps ?_
        refine ifS hF (fun hc10 hF => ?_) (fun hc10 hF => ?_)
        · refine G.cond rfl (fun _ => ?_) (fun hx => by rw [hc10] at hx; cases hx)
          refine G.skip ?_
          refine G.seq ?_
          refine G.block ?_
          refine G.seq ?_
          obtain ⟨x11, hx11, hF⟩ := bindS hF
          obtain ⟨x12, hx12, hF⟩ := bindS hF
          refine G.drawn (effs := [⟨[(2, .one (.ptr 1002 0))], [], [(77, .one (.ptr 1002 2))], []⟩, ⟨[(77, .one (.ptr 1002 2))], [(1002, some (.blk 44 [.g (.d (.sl 2 (List.map encApi_Range a_0.Ranges))), .g (.d (.sl 1 (List.map encI_i64 a_0.Owners))), .g (.d (.sl 1 (List.map encI_i64 a_0.Parents)))]))], [(78, .one (.g (.d (.sl 1 (List.map encI_i64 a_0.Parents)))))], []⟩, ⟨[(6, .one (bI .i64 v6))], [], [(79, .one (bI .i64 v6))], []⟩, ⟨[(78, .one (.g (.d (.sl 1 (List.map encI_i64 a_0.Parents))))), (79, .one (bI .i64 v6))], [], [(80, .one (.ep [.v (.int .i64 x11)]))], []⟩, ⟨[(80, .one (.ep [.v (.int .i64 x11)]))], [], [(81, .one (bI .i64 x11))], []⟩, ⟨[(3, .one (.ptr 1003 0))], [], [(82, .one (.ptr 1003 2))], []⟩, ⟨[(82, .one (.ptr 1003 2))], [(1003, some (.blk 44 [.g (.d (.sl 2 (List.map encApi_Range b_1.Ranges))), .g (.d (.sl 1 (List.map encI_i64 b_1.Owners))), .g (.d (.sl 1 (List.map encI_i64 b_1.Parents)))]))], [(83, .one (.g (.d (.sl 1 (List.map encI_i64 b_1.Parents)))))], []⟩, ⟨[(6, .one (bI .i64 v6))], [], [(84, .one (bI .i64 v6))], []⟩, ⟨[(83, .one (.g (.d (.sl 1 (List.map encI_i64 b_1.Parents))))), (84, .one (bI .i64 v6))], [], [(85, .one (.ep [.v (.int .i64 x12)]))], []⟩, ⟨[(85, .one (.ep [.v (.int .i64 x12)]))], [], [(86, .one (bI .i64 x12))], []⟩, ⟨[(81, .one (bI .i64 x11)), (86, .one (bI .i64 x12))], [], [(87, .one (bB (!decide (x11 = x12))))], []⟩]) (deps := [[], [0], [], [0, 1, 2], [0, 1, 2, 3], [], [5], [], [5, 6, 7], [5, 6, 7, 8], [0, 1, 2, 3, 4, 5, 6, 7, 8, 9]]) (sl' := [(2, .one (.ptr 1002 0)), (3, .one (.ptr 1003 0)), (6, .one (bI .i64 v6)), (87, .one (bB (!decide (x11 = x12))))]) (hp' := [(1002, some (.blk 44 [.g (.d (.sl 2 (List.map encApi_Range a_0.Ranges))), .g (.d (.sl 1 (List.map encI_i64 a_0.Owners))), .g (.d (.sl 1 (List.map encI_i64 a_0.Parents)))])), (1003, some (.blk 44 [.g (.d (.sl 2 (List.map encApi_Range b_1.Ranges))), .g (.d (.sl 1 (List.map encI_i64 b_1.Owners))), .g (.d (.sl 1 (List.map encI_i64 b_1.Parents)))]))]) follows rfl rfl rfl ⟨⟨rfl, trivial⟩, trivial, ⟨rfl, trivial⟩, ⟨⟨rfl, rfl⟩, trivial⟩, ⟨rfl, trivial⟩, trivial, ⟨rfl, rfl, trivial⟩, trivial, ⟨rfl, trivial⟩, trivial, ⟨rfl, trivial⟩, trivial, ⟨rfl, trivial⟩, ⟨⟨rfl, rfl⟩, trivial⟩, ⟨rfl, trivial⟩, trivial, ⟨rfl, rfl, trivial⟩, trivial, ⟨rfl, trivial⟩, trivial, ⟨rfl, rfl, trivial⟩, trivial, trivial⟩ ⟨OpW.plain (op_fieldP (off' := 2) Try.underlying44 rfl ti39 (by decide) rfl (Ev.t 2 (.ptr 1002 0)) rfl) rfl rfl, OpW.plain (op_load1P (c := .g (.d (.sl 1 (List.map encI_i64 a_0.Parents)))) Try.underlying39 rfl rfl (Ev.t 77 (.ptr 1002 2)) rfl) rfl rfl, OpW.plain (op_move (Ev.t 6 (bI .i64 v6)) rfl) rfl rfl, OpW.plain (op_index (cs := [.v (.int .i64 x11)]) Try.underlying39 ti3 (idx_ok hx11).1 (idx_get hx11 encI_i64) (Ev.t 78 (.g (.d (.sl 1 (List.map encI_i64 a_0.Parents))))) (Ev.t 79 (bI .i64 v6)) rfl) rfl rfl, OpW.plain (op_load1E (c := .v (.int .i64 x11)) Try.underlying3 rfl rfl (Ev.t 80 (.ep [.v (.int .i64 x11)])) rfl) rfl rfl, OpW.plain (op_fieldP (off' := 2) Try.underlying44 rfl ti39 (by decide) rfl (Ev.t 3 (.ptr 1003 0)) rfl) rfl rfl, OpW.plain (op_load1P (c := .g (.d (.sl 1 (List.map encI_i64 b_1.Parents)))) Try.underlying39 rfl rfl (Ev.t 82 (.ptr 1003 2)) rfl) rfl rfl, OpW.plain (op_move (Ev.t 6 (bI .i64 v6)) rfl) rfl rfl, OpW.plain (op_index (cs := [.v (.int .i64 x12)]) Try.underlying39 ti3 (idx_ok hx12).1 (idx_get hx12 encI_i64) (Ev.t 83 (.g (.d (.sl 1 (List.map encI_i64 b_1.Parents))))) (Ev.t 84 (bI .i64 v6)) rfl) rfl rfl, OpW.plain (op_load1E (c := .v (.int .i64 x12)) Try.underlying3 rfl rfl (Ev.t 85 (.ep [.v (.int .i64 x12)])) rfl) rfl rfl, OpW.plain (op_neI (Ev.t 81 (bI .i64 x11)) (Ev.t 86 (bI .i64 x12)) rfl) rfl rfl, trivial⟩ ⟨rfl, rfl, rfl, rfl, trivial⟩ ⟨rfl, rfl, trivial⟩ rfl ?_
          refine ifS hF (fun hc13 hF => ?_) (fun hc13 hF => ?_)
          · refine G.cond rfl (fun _ => ?_) (fun hx => by rw [hc13] at hx; cases hx)
            refine G.seq ?_
            refine G.region ?_
            refine G.op1 (op_assign (Ev.c _ rfl) rfl) rfl trivial trivial ?_
            refine G.endOps ?_
            cases hF
            exact G.ret1 Try.results23 (RVar.tmp 4 _) ⟨rfl, trivial⟩ trivial
          · refine G.cond rfl (fun hx => by rw [hc13] at hx; cases hx) (fun _ => ?_)
            refine G.skip ?_
            refine G.endBlock ?_
            refine G.region ?_
            refine G.op1 (op_move (Ev.t 6 (bI .i64 v6)) rfl) rfl ⟨rfl, trivial⟩ trivial ?_
            refine G.op1 (op_add (Ev.t 75 (bI .i64 v6)) (Ev.c _ rfl) rfl) rfl ⟨rfl, trivial⟩ trivial ?_
            refine G.op1 (op_assign (Ev.t 76 (bI .i64 (IntKind.wrap .i64 (v6 + 1)))) rfl) rfl ⟨rfl, trivial⟩ trivial ?_
            refine G.endOps ?_
            exact G.arr (J7 (IntKind.wrap .i64 (v6 + 1)) hF) ⟨rfl, rfl, rfl, trivial⟩ ⟨rfl, rfl, trivial⟩ rfl
        · refine G.cond rfl (fun hx => by rw [hc10] at hx; cases hx) (fun _ => ?_)
          refine G.exit ?_
          refine GX.c ?_
          refine GX.q ?_
          refine GX.bYes ?_
          exact G.arr (J5 () hF) trivial trivial rfl
      refine G.block ?_
      refine G.keep (sl' := [(2, .one (.ptr 1002 0)), (3, .one (.ptr 1003 0)), (5, .one (bI .i64 0))]) (hp' := [(1002, some (.blk 44 [.g (.d (.sl 2 (List.map encApi_Range a_0.Ranges))), .g (.d (.sl 1 (List.map encI_i64 a_0.Owners))), .g (.d (.sl 1 (List.map encI_i64 a_0.Parents)))])), (1003, some (.blk 44 [.g (.d (.sl 2 (List.map encApi_Range b_1.Ranges))), .g (.d (.sl 1 (List.map encI_i64 b_1.Owners))), .g (.d (.sl 1 (List.map encI_i64 b_1.Parents)))]))]) ⟨rfl, rfl, rfl, trivial⟩ ⟨rfl, rfl, trivial⟩ rfl ?_
      refine G.loopF (fun (v15 : Int) => ⟨[(2, .one (.ptr 1002 0)), (3, .one (.ptr 1003 0)), (5, .one (bI .i64 v15))], [(1002, some (.blk 44 [.g (.d (.sl 2 (List.map encApi_Range a_0.Ranges))), .g (.d (.sl 1 (List.map encI_i64 a_0.Owners))), .g (.d (.sl 1 (List.map encI_i64 a_0.Parents)))])), (1003, some (.blk 44 [.g (.d (.sl 2 (List.map encApi_Range b_1.Ranges))), .g (.d (.sl 1 (List.map encI_i64 b_1.Owners))), .g (.d (.sl 1 (List.map encI_i64 b_1.Parents)))]))]⟩) hF rfl (fun K18 again17 v15 J16 hF => ?_)
      unfold law06_same_l5 at hF
      refine G.seq ?_
      refine G.seq ?_
      refine G.region ?_
      refine G.op1 (op_move (Ev.t 5 (bI .i64 v15)) rfl) rfl ⟨rfl, trivial⟩ trivial ?_
      refine G.op1 (op_fieldP (off' := 0) Try.underlying44 rfl ti42 (by decide) rfl (Ev.t 2 (.ptr 1002 0)) rfl) rfl ⟨rfl, trivial⟩ trivial ?_
      refine G.op1 (op_load1P (c := .g (.d (.sl 2 (List.map encApi_Range a_0.Ranges)))) Try.underlying42 rfl rfl (Ev.t 33 (.ptr 1002 0)) rfl) rfl ⟨rfl, trivial⟩ ⟨rfl, trivial⟩ ?_
      refine G.op1 (OpL.cast (op_lenD Try.underlying42 (Ev.t 34 (.g (.d (.sl 2 (List.map encApi_Range a_0.Ranges))))) rfl) (by rw [List.length_map])) rfl ⟨rfl, trivial⟩ trivial ?_
      refine G.op1 (op_lss (Ev.t 32 (bI .i64 v15)) (Ev.t 35 (bI .i64 (a_0.Ranges.length : Int))) rfl) rfl ⟨rfl, rfl, trivial⟩ trivial ?_
      refine G.endOps ?_
      refine ifS hF (fun hc19 hF => ?_) (fun hc19 hF => ?_)
      · refine G.cond rfl (fun _ => ?_) (fun hx => by rw [hc19] at hx; cases hx)
        refine G.skip ?_
        refine G.seq ?_
        refine G.block ?_
        refine G.seq ?_
        obtain ⟨x20, hx20, hF⟩ := bindS hF
        obtain ⟨x21, hx21, hF⟩ := bindS hF
        refine ifS hF (fun hc22 hF => ?_) (fun hc22 hF => ?_)
        · refine G.drawn (effs := (⟨[(2, .one (.ptr 1002 0))], [], [(39, .one (.ptr 1002 0))], []⟩ :: ⟨[(39, .one (.ptr 1002 0))], [(1002, some (.blk 44 [.g (.d (.sl 2 (List.map encApi_Range a_0.Ranges))), .g (.d (.sl 1 (List.map encI_i64 a_0.Owners))), .g (.d (.sl 1 (List.map encI_i64 a_0.Parents)))]))], [(40, .one (.g (.d (.sl 2 (List.map encApi_Range a_0.Ranges)))))], []⟩ :: ⟨[(5, .one (bI .i64 v15))], [], [(41, .one (bI .i64 v15))], []⟩ :: ⟨[(40, .one (.g (.d (.sl 2 (List.map encApi_Range a_0.Ranges))))), (41, .one (bI .i64 v15))], [], [(42, .one (.ep [.v (.string x20.From), .v (.string x20.To)]))], []⟩ :: ⟨[(42, .one (.ep [.v (.string x20.From), .v (.string x20.To)]))], [], [(43, .one (.g (.agg [.v (.string x20.From), .v (.string x20.To)])))], []⟩ :: ⟨[(3, .one (.ptr 1003 0))], [], [(44, .one (.ptr 1003 0))], []⟩ :: ⟨[(44, .one (.ptr 1003 0))], [(1003, some (.blk 44 [.g (.d (.sl 2 (List.map encApi_Range b_1.Ranges))), .g (.d (.sl 1 (List.map encI_i64 b_1.Owners))), .g (.d (.sl 1 (List.map encI_i64 b_1.Parents)))]))], [(45, .one (.g (.d (.sl 2 (List.map encApi_Range b_1.Ranges)))))], []⟩ :: ⟨[(5, .one (bI .i64 v15))], [], [(46, .one (bI .i64 v15))], []⟩ :: ⟨[(45, .one (.g (.d (.sl 2 (List.map encApi_Range b_1.Ranges))))), (46, .one (bI .i64 v15))], [], [(47, .one (.ep [.v (.string x21.From), .v (.string x21.To)]))], []⟩ :: ⟨[(47, .one (.ep [.v (.string x21.From), .v (.string x21.To)]))], [], [(48, .one (.g (.agg [.v (.string x21.From), .v (.string x21.To)])))], []⟩ :: ⟨[(43, .one (.g (.agg [.v (.string x20.From), .v (.string x20.To)]))), (48, .one (.g (.agg [.v (.string x21.From), .v (.string x21.To)])))], [], [(49, .one (bB true))], []⟩ :: ⟨[(49, .one (bB true))], [], [(50, .one (bB true))], []⟩ :: ⟨[(50, .one (bB true))], [], [(51, .one (.x Go.undef))], []⟩ :: ⟨[(50, .one (bB true))], [], [(52, .one (.x Go.undef))], []⟩ :: ⟨[(50, .one (bB true))], [], [(53, .one (.x Go.undef))], []⟩ :: ⟨[(50, .one (bB true))], [], [(54, .one (.x Go.undef))], []⟩ :: ⟨[(50, .one (bB true))], [], [(55, .one (.x Go.undef))], []⟩ :: ⟨[(50, .one (bB true))], [], [(56, .one (.x Go.undef))], []⟩ :: ⟨[(56, .one (.x Go.undef))], [], [(57, .one (.x Go.undef))], []⟩ :: ⟨[(56, .one (.x Go.undef))], [], [(58, .one (.x Go.undef))], []⟩ :: ⟨[(56, .one (.x Go.undef))], [], [(59, .one (.x Go.undef))], []⟩ :: ⟨[(56, .one (.x Go.undef))], [], [(60, .one (.x Go.undef))], []⟩ :: ⟨[(56, .one (.x Go.undef))], [], [(61, .one (.x Go.undef))], []⟩ :: ⟨[(56, .one (.x Go.undef))], [], [(62, .one (.x Go.undef))], []⟩ :: ⟨[(56, .one (.x Go.undef))], [], [(63, .one (.x Go.undef))], []⟩ :: ⟨[(56, .one (.x Go.undef))], [], [(64, .one (.x Go.undef))], []⟩ :: ⟨[(56, .one (.x Go.undef))], [], [(65, .one (.x Go.undef))], []⟩ :: ⟨[(56, .one (.x Go.undef))], [], [(66, .one (.x Go.undef))], []⟩ :: ⟨[(56, .one (.x Go.undef))], [], [(67, .one (.x Go.undef))], []⟩ :: ⟨[(50, .one (bB true))], [], [(68, .one (.x Go.undef))], []⟩ :: ⟨[(50, .one (bB true))], [], [(69, .one (bB true))], []⟩ :: [])) (deps := ([] :: [0] :: [] :: [0, 1, 2] :: [0, 1, 2, 3] :: [] :: [5] :: [] :: [5, 6, 7] :: [5, 6, 7, 8] :: [0, 1, 2, 3, 4, 5, 6, 7, 8, 9] :: [0, 1, 2, 3, 4, 5, 6, 7, 8, 9, 10] :: [0, 1, 2, 3, 4, 5, 6, 7, 8, 9, 10, 11] :: [0, 1, 2, 3, 4, 5, 6, 7, 8, 9, 10, 11] :: [0, 1, 2, 3, 4, 5, 6, 7, 8, 9, 10, 11, 13] :: [0, 1, 2, 3, 4, 5, 6, 7, 8, 9, 10, 11, 13, 14] :: [0, 1, 2, 3, 4, 5, 6, 7, 8, 9, 10, 11, 12, 13, 14, 15] :: [0, 1, 2, 3, 4, 5, 6, 7, 8, 9, 10, 11, 12, 13, 14, 15, 16] :: [0, 1, 2, 3, 4, 5, 6, 7, 8, 9, 10, 11, 12, 13, 14, 15, 16, 17] :: [0, 1, 2, 3, 4, 5, 6, 7, 8, 9, 10, 11, 12, 13, 14, 15, 16, 17, 18] :: [0, 1, 2, 3, 4, 5, 6, 7, 8, 9, 10, 11, 12, 13, 14, 15, 16, 17] :: (0 :: 1 :: 2 :: 3 :: 4 :: 5 :: 6 :: 7 :: 8 :: 9 :: 10 :: 11 :: 12 :: 13 :: 14 :: 15 :: 16 :: 17 :: 18 :: 19 :: 20 :: []) :: (0 :: 1 :: 2 :: 3 :: 4 :: 5 :: 6 :: 7 :: 8 :: 9 :: 10 :: 11 :: 12 :: 13 :: 14 :: 15 :: 16 :: 17 :: 18 :: 19 :: 20 :: 21 :: []) :: [0, 1, 2, 3, 4, 5, 6, 7, 8, 9, 10, 11, 12, 13, 14, 15, 16, 17] :: [0, 1, 2, 3, 4, 5, 6, 7, 8, 9, 10, 11, 12, 13, 14, 15, 16, 17, 23] :: [0, 1, 2, 3, 4, 5, 6, 7, 8, 9, 10, 11, 12, 13, 14, 15, 16, 17] :: (0 :: 1 :: 2 :: 3 :: 4 :: 5 :: 6 :: 7 :: 8 :: 9 :: 10 :: 11 :: 12 :: 13 :: 14 :: 15 :: 16 :: 17 :: 23 :: 24 :: 25 :: []) :: (0 :: 1 :: 2 :: 3 :: 4 :: 5 :: 6 :: 7 :: 8 :: 9 :: 10 :: 11 :: 12 :: 13 :: 14 :: 15 :: 16 :: 17 :: 23 :: 24 :: 25 :: 26 :: []) :: (0 :: 1 :: 2 :: 3 :: 4 :: 5 :: 6 :: 7 :: 8 :: 9 :: 10 :: 11 :: 12 :: 13 :: 14 :: 15 :: 16 :: 17 :: 18 :: 19 :: 20 :: 21 :: 22 :: 23 :: 24 :: 25 :: 26 :: 27 :: []) :: (0 :: 1 :: 2 :: 3 :: 4 :: 5 :: 6 :: 7 :: 8 :: 9 :: 10 :: 11 :: 12 :: 13 :: 14 :: 15 :: 16 :: 17 :: 18 :: 19 :: 20 :: 21 :: 22 :: 23 :: 24 :: 25 :: 26 :: 27 :: 28 :: []) :: (0 :: 1 :: 2 :: 3 :: 4 :: 5 :: 6 :: 7 :: 8 :: 9 :: 10 :: 11 :: 12 :: 13 :: 14 :: 15 :: 16 :: 17 :: 18 :: 19 :: 20 :: 21 :: 22 :: 23 :: 24 :: 25 :: 26 :: 27 :: 28 :: 29 :: []) :: [])) (sl' := [(2, .one (.ptr 1002 0)), (3, .one (.ptr 1003 0)), (5, .one (bI .i64 v15)), (69, .one (bB true))]) (hp' := [(1002, some (.blk 44 [.g (.d (.sl 2 (List.map encApi_Range a_0.Ranges))), .g (.d (.sl 1 (List.map encI_i64 a_0.Owners))), .g (.d (.sl 1 (List.map encI_i64 a_0.Parents)))])), (1003, some (.blk 44 [.g (.d (.sl 2 (List.map encApi_Range b_1.Ranges))), .g (.d (.sl 1 (List.map encI_i64 b_1.Owners))), .g (.d (.sl 1 (List.map encI_i64 b_1.Parents)))]))]) follows rfl rfl rfl ⟨⟨rfl, trivial⟩, trivial, ⟨rfl, trivial⟩, ⟨⟨rfl, rfl⟩, trivial⟩, ⟨rfl, trivial⟩, trivial, ⟨rfl, rfl, trivial⟩, trivial, ⟨rfl, trivial⟩, trivial, ⟨rfl, trivial⟩, trivial, ⟨rfl, trivial⟩, ⟨⟨rfl, rfl⟩, trivial⟩, ⟨rfl, trivial⟩, trivial, ⟨rfl, rfl, trivial⟩, trivial, ⟨rfl, trivial⟩, trivial, ⟨rfl, rfl, trivial⟩, trivial, ⟨rfl, trivial⟩, trivial, ⟨rfl, trivial⟩, trivial, ⟨rfl, trivial⟩, trivial, ⟨rfl, trivial⟩, trivial, ⟨rfl, trivial⟩, trivial, ⟨rfl, trivial⟩, trivial, ⟨rfl, trivial⟩, trivial, ⟨rfl, trivial⟩, trivial, ⟨rfl, trivial⟩, trivial, ⟨rfl, trivial⟩, trivial, ⟨rfl, trivial⟩, trivial, ⟨rfl, trivial⟩, trivial, ⟨rfl, trivial⟩, trivial, ⟨rfl, trivial⟩, trivial, ⟨rfl, trivial⟩, trivial, ⟨rfl, trivial⟩, trivial, ⟨rfl, trivial⟩, trivial, ⟨rfl, trivial⟩, trivial, ⟨rfl, trivial⟩, trivial, ⟨rfl, trivial⟩, trivial, trivial⟩ ⟨OpW.plain (op_fieldP (off' := 0) Try.underlying44 rfl ti42 (by decide) rfl (Ev.t 2 (.ptr 1002 0)) rfl) rfl rfl, OpW.plain (op_load1P (c := .g (.d (.sl 2 (List.map encApi_Range a_0.Ranges)))) Try.underlying42 rfl rfl (Ev.t 39 (.ptr 1002 0)) rfl) rfl rfl, OpW.plain (op_move (Ev.t 5 (bI .i64 v15)) rfl) rfl rfl, OpW.plain (op_index (cs := [.v (.string x20.From), .v (.string x20.To)]) Try.underlying42 ti88 (idx_ok hx20).1 (idx_get hx20 encApi_Range) (Ev.t 40 (.g (.d (.sl 2 (List.map encApi_Range a_0.Ranges))))) (Ev.t 41 (bI .i64 v15)) rfl) rfl rfl, OpW.plain (op_loadAE (ds := [.v (.string x20.From), .v (.string x20.To)]) Try.underlying88 rfl ti88 rfl (Ev.t 42 (.ep [.v (.string x20.From), .v (.string x20.To)])) rfl) rfl rfl, OpW.plain (op_fieldP (off' := 0) Try.underlying44 rfl ti42 (by decide) rfl (Ev.t 3 (.ptr 1003 0)) rfl) rfl rfl, OpW.plain (op_load1P (c := .g (.d (.sl 2 (List.map encApi_Range b_1.Ranges)))) Try.underlying42 rfl rfl (Ev.t 44 (.ptr 1003 0)) rfl) rfl rfl, OpW.plain (op_move (Ev.t 5 (bI .i64 v15)) rfl) rfl rfl, OpW.plain (op_index (cs := [.v (.string x21.From), .v (.string x21.To)]) Try.underlying42 ti88 (idx_ok hx21).1 (idx_get hx21 encApi_Range) (Ev.t 45 (.g (.d (.sl 2 (List.map encApi_Range b_1.Ranges))))) (Ev.t 46 (bI .i64 v15)) rfl) rfl rfl, OpW.plain (op_loadAE (ds := [.v (.string x21.From), .v (.string x21.To)]) Try.underlying88 rfl ti88 rfl (Ev.t 47 (.ep [.v (.string x21.From), .v (.string x21.To)])) rfl) rfl rfl, OpW.plain (OpL.cast (op_eqA (us := [.string x20.From, .string x20.To]) (vs := [.string x21.From, .string x21.To]) rfl rfl Try.eqGuardType88 (fun w => ne88 x20.From x20.To x21.From x21.To w) (Ev.t 43 (.g (.agg [.v (.string x20.From), .v (.string x20.To)]))) (Ev.t 48 (.g (.agg [.v (.string x21.From), .v (.string x21.To)]))) rfl) (congrArg (fun b => bB b) hc22)) rfl rfl, OpW.plain (op_move (Ev.t 49 (bB true)) rfl) rfl rfl, OpW.no rfl rfl rfl rfl rfl, OpW.no rfl rfl rfl rfl rfl, OpW.no rfl rfl rfl rfl rfl, OpW.no rfl rfl rfl rfl rfl, OpW.no rfl rfl rfl rfl rfl, OpW.no rfl rfl rfl rfl rfl, OpW.un rfl rfl rfl rfl, OpW.un rfl rfl rfl rfl, OpW.un rfl rfl rfl rfl, OpW.un rfl rfl rfl rfl, OpW.un rfl rfl rfl rfl, OpW.un rfl rfl rfl rfl, OpW.un rfl rfl rfl rfl, OpW.un rfl rfl rfl rfl, OpW.un rfl rfl rfl rfl, OpW.un rfl rfl rfl rfl, OpW.un rfl rfl rfl rfl, OpW.no rfl rfl rfl rfl rfl, OpW.plain (op_pickT (Ev.t 50 (bB true)) (Ev.c _ rfl) rfl) rfl rfl, trivial⟩ ⟨rfl, rfl, rfl, rfl, trivial⟩ ⟨rfl, rfl, trivial⟩ rfl ?_
          refine G.condT rfl ?_
          refine G.seq ?_
          refine G.region ?_
          refine G.op1 (op_assign (Ev.c _ rfl) rfl) rfl trivial trivial ?_
          refine G.endOps ?_
          cases hF
          exact G.ret1 Try.results23 (RVar.tmp 4 _) ⟨rfl, trivial⟩ trivial
        · refine ifS hF (fun hc23 hF => ?_) (fun hc23 hF => ?_)
          · obtain ⟨x24, hx24, hF⟩ := bindS hF
            obtain ⟨x25, hx25, hF⟩ := bindS hF
            refine G.drawn (effs := (⟨[(2, .one (.ptr 1002 0))], [], [(39, .one (.ptr 1002 0))], []⟩ :: ⟨[(39, .one (.ptr 1002 0))], [(1002, some (.blk 44 [.g (.d (.sl 2 (List.map encApi_Range a_0.Ranges))), .g (.d (.sl 1 (List.map encI_i64 a_0.Owners))), .g (.d (.sl 1 (List.map encI_i64 a_0.Parents)))]))], [(40, .one (.g (.d (.sl 2 (List.map encApi_Range a_0.Ranges)))))], []⟩ :: ⟨[(5, .one (bI .i64 v15))], [], [(41, .one (bI .i64 v15))], []⟩ :: ⟨[(40, .one (.g (.d (.sl 2 (List.map encApi_Range a_0.Ranges))))), (41, .one (bI .i64 v15))], [], [(42, .one (.ep [.v (.string x20.From), .v (.string x20.To)]))], []⟩ :: ⟨[(42, .one (.ep [.v (.string x20.From), .v (.string x20.To)]))], [], [(43, .one (.g (.agg [.v (.string x20.From), .v (.string x20.To)])))], []⟩ :: ⟨[(3, .one (.ptr 1003 0))], [], [(44, .one (.ptr 1003 0))], []⟩ :: ⟨[(44, .one (.ptr 1003 0))], [(1003, some (.blk 44 [.g (.d (.sl 2 (List.map encApi_Range b_1.Ranges))), .g (.d (.sl 1 (List.map encI_i64 b_1.Owners))), .g (.d (.sl 1 (List.map encI_i64 b_1.Parents)))]))], [(45, .one (.g (.d (.sl 2 (List.map encApi_Range b_1.Ranges)))))], []⟩ :: ⟨[(5, .one (bI .i64 v15))], [], [(46, .one (bI .i64 v15))], []⟩ :: ⟨[(45, .one (.g (.d (.sl 2 (List.map encApi_Range b_1.Ranges))))), (46, .one (bI .i64 v15))], [], [(47, .one (.ep [.v (.string x21.From), .v (.string x21.To)]))], []⟩ :: ⟨[(47, .one (.ep [.v (.string x21.From), .v (.string x21.To)]))], [], [(48, .one (.g (.agg [.v (.string x21.From), .v (.string x21.To)])))], []⟩ :: ⟨[(43, .one (.g (.agg [.v (.string x20.From), .v (.string x20.To)]))), (48, .one (.g (.agg [.v (.string x21.From), .v (.string x21.To)])))], [], [(49, .one (bB false))], []⟩ :: ⟨[(49, .one (bB false))], [], [(50, .one (bB false))], []⟩ :: ⟨[(50, .one (bB false)), (5, .one (bI .i64 v15))], [], [(51, .one (bI .i64 v15))], []⟩ :: ⟨[(50, .one (bB false)), (2, .one (.ptr 1002 0))], [], [(52, .one (.ptr 1002 1))], []⟩ :: ⟨[(50, .one (bB false)), (52, .one (.ptr 1002 1))], [(1002, some (.blk 44 [.g (.d (.sl 2 (List.map encApi_Range a_0.Ranges))), .g (.d (.sl 1 (List.map encI_i64 a_0.Owners))), .g (.d (.sl 1 (List.map encI_i64 a_0.Parents)))]))], [(53, .one (.g (.d (.sl 1 (List.map encI_i64 a_0.Owners)))))], []⟩ :: ⟨[(50, .one (bB false)), (53, .one (.g (.d (.sl 1 (List.map encI_i64 a_0.Owners)))))], [], [(54, .one (bI .i64 (a_0.Owners.length : Int)))], []⟩ :: ⟨[(50, .one (bB false)), (51, .one (bI .i64 v15)), (54, .one (bI .i64 (a_0.Owners.length : Int)))], [], [(55, .one (bB true))], []⟩ :: ⟨[(50, .one (bB false)), (55, .one (bB true))], [], [(56, .one (bB true))], []⟩ :: ⟨[(56, .one (bB true)), (2, .one (.ptr 1002 0))], [], [(57, .one (.ptr 1002 1))], []⟩ :: ⟨[(56, .one (bB true)), (57, .one (.ptr 1002 1))], [(1002, some (.blk 44 [.g (.d (.sl 2 (List.map encApi_Range a_0.Ranges))), .g (.d (.sl 1 (List.map encI_i64 a_0.Owners))), .g (.d (.sl 1 (List.map encI_i64 a_0.Parents)))]))], [(58, .one (.g (.d (.sl 1 (List.map encI_i64 a_0.Owners)))))], []⟩ :: ⟨[(56, .one (bB true)), (5, .one (bI .i64 v15))], [], [(59, .one (bI .i64 v15))], []⟩ :: ⟨[(56, .one (bB true)), (58, .one (.g (.d (.sl 1 (List.map encI_i64 a_0.Owners))))), (59, .one (bI .i64 v15))], [], [(60, .one (.ep [.v (.int .i64 x24)]))], []⟩ :: ⟨[(56, .one (bB true)), (60, .one (.ep [.v (.int .i64 x24)]))], [], [(61, .one (bI .i64 x24))], []⟩ :: ⟨[(56, .one (bB true)), (3, .one (.ptr 1003 0))], [], [(62, .one (.ptr 1003 1))], []⟩ :: ⟨[(56, .one (bB true)), (62, .one (.ptr 1003 1))], [(1003, some (.blk 44 [.g (.d (.sl 2 (List.map encApi_Range b_1.Ranges))), .g (.d (.sl 1 (List.map encI_i64 b_1.Owners))), .g (.d (.sl 1 (List.map encI_i64 b_1.Parents)))]))], [(63, .one (.g (.d (.sl 1 (List.map encI_i64 b_1.Owners)))))], []⟩ :: ⟨[(56, .one (bB true)), (5, .one (bI .i64 v15))], [], [(64, .one (bI .i64 v15))], []⟩ :: ⟨[(56, .one (bB true)), (63, .one (.g (.d (.sl 1 (List.map encI_i64 b_1.Owners))))), (64, .one (bI .i64 v15))], [], [(65, .one (.ep [.v (.int .i64 x25)]))], []⟩ :: ⟨[(56, .one (bB true)), (65, .one (.ep [.v (.int .i64 x25)]))], [], [(66, .one (bI .i64 x25))], []⟩ :: ⟨[(56, .one (bB true)), (61, .one (bI .i64 x24)), (66, .one (bI .i64 x25))], [], [(67, .one (bB (!decide (x24 = x25))))], []⟩ :: ⟨[(50, .one (bB false)), (56, .one (bB true)), (67, .one (bB (!decide (x24 = x25))))], [], [(68, .one (bB (!decide (x24 = x25))))], []⟩ :: ⟨[(50, .one (bB false)), (68, .one (bB (!decide (x24 = x25))))], [], [(69, .one (bB (!decide (x24 = x25))))], []⟩ :: [])) (deps := ([] :: [0] :: [] :: [0, 1, 2] :: [0, 1, 2, 3] :: [] :: [5] :: [] :: [5, 6, 7] :: [5, 6, 7, 8] :: [0, 1, 2, 3, 4, 5, 6, 7, 8, 9] :: [0, 1, 2, 3, 4, 5, 6, 7, 8, 9, 10] :: [0, 1, 2, 3, 4, 5, 6, 7, 8, 9, 10, 11] :: [0, 1, 2, 3, 4, 5, 6, 7, 8, 9, 10, 11] :: [0, 1, 2, 3, 4, 5, 6, 7, 8, 9, 10, 11, 13] :: [0, 1, 2, 3, 4, 5, 6, 7, 8, 9, 10, 11, 13, 14] :: [0, 1, 2, 3, 4, 5, 6, 7, 8, 9, 10, 11, 12, 13, 14, 15] :: [0, 1, 2, 3, 4, 5, 6, 7, 8, 9, 10, 11, 12, 13, 14, 15, 16] :: [0, 1, 2, 3, 4, 5, 6, 7, 8, 9, 10, 11, 12, 13, 14, 15, 16, 17] :: [0, 1, 2, 3, 4, 5, 6, 7, 8, 9, 10, 11, 12, 13, 14, 15, 16, 17, 18] :: [0, 1, 2, 3, 4, 5, 6, 7, 8, 9, 10, 11, 12, 13, 14, 15, 16, 17] :: (0 :: 1 :: 2 :: 3 :: 4 :: 5 :: 6 :: 7 :: 8 :: 9 :: 10 :: 11 :: 12 :: 13 :: 14 :: 15 :: 16 :: 17 :: 18 :: 19 :: 20 :: []) :: (0 :: 1 :: 2 :: 3 :: 4 :: 5 :: 6 :: 7 :: 8 :: 9 :: 10 :: 11 :: 12 :: 13 :: 14 :: 15 :: 16 :: 17 :: 18 :: 19 :: 20 :: 21 :: []) :: [0, 1, 2, 3, 4, 5, 6, 7, 8, 9, 10, 11, 12, 13, 14, 15, 16, 17] :: [0, 1, 2, 3, 4, 5, 6, 7, 8, 9, 10, 11, 12, 13, 14, 15, 16, 17, 23] :: [0, 1, 2, 3, 4, 5, 6, 7, 8, 9, 10, 11, 12, 13, 14, 15, 16, 17] :: (0 :: 1 :: 2 :: 3 :: 4 :: 5 :: 6 :: 7 :: 8 :: 9 :: 10 :: 11 :: 12 :: 13 :: 14 :: 15 :: 16 :: 17 :: 23 :: 24 :: 25 :: []) :: (0 :: 1 :: 2 :: 3 :: 4 :: 5 :: 6 :: 7 :: 8 :: 9 :: 10 :: 11 :: 12 :: 13 :: 14 :: 15 :: 16 :: 17 :: 23 :: 24 :: 25 :: 26 :: []) :: (0 :: 1 :: 2 :: 3 :: 4 :: 5 :: 6 :: 7 :: 8 :: 9 :: 10 :: 11 :: 12 :: 13 :: 14 :: 15 :: 16 :: 17 :: 18 :: 19 :: 20 :: 21 :: 22 :: 23 :: 24 :: 25 :: 26 :: 27 :: []) :: (0 :: 1 :: 2 :: 3 :: 4 :: 5 :: 6 :: 7 :: 8 :: 9 :: 10 :: 11 :: 12 :: 13 :: 14 :: 15 :: 16 :: 17 :: 18 :: 19 :: 20 :: 21 :: 22 :: 23 :: 24 :: 25 :: 26 :: 27 :: 28 :: []) :: (0 :: 1 :: 2 :: 3 :: 4 :: 5 :: 6 :: 7 :: 8 :: 9 :: 10 :: 11 :: 12 :: 13 :: 14 :: 15 :: 16 :: 17 :: 18 :: 19 :: 20 :: 21 :: 22 :: 23 :: 24 :: 25 :: 26 :: 27 :: 28 :: 29 :: []) :: [])) (sl' := [(2, .one (.ptr 1002 0)), (3, .one (.ptr 1003 0)), (5, .one (bI .i64 v15)), (69, .one (bB (!decide (x24 = x25))))]) (hp' := [(1002, some (.blk 44 [.g (.d (.sl 2 (List.map encApi_Range a_0.Ranges))), .g (.d (.sl 1 (List.map encI_i64 a_0.Owners))), .g (.d (.sl 1 (List.map encI_i64 a_0.Parents)))])), (1003, some (.blk 44 [.g (.d (.sl 2 (List.map encApi_Range b_1.Ranges))), .g (.d (.sl 1 (List.map encI_i64 b_1.Owners))), .g (.d (.sl 1 (List.map encI_i64 b_1.Parents)))]))]) follows rfl rfl rfl ⟨⟨rfl, trivial⟩, trivial, ⟨rfl, trivial⟩, ⟨⟨rfl, rfl⟩, trivial⟩, ⟨rfl, trivial⟩, trivial, ⟨rfl, rfl, trivial⟩, trivial, ⟨rfl, trivial⟩, trivial, ⟨rfl, trivial⟩, trivial, ⟨rfl, trivial⟩, ⟨⟨rfl, rfl⟩, trivial⟩, ⟨rfl, trivial⟩, trivial, ⟨rfl, rfl, trivial⟩, trivial, ⟨rfl, trivial⟩, trivial, ⟨rfl, rfl, trivial⟩, trivial, ⟨rfl, trivial⟩, trivial, ⟨rfl, rfl, trivial⟩, trivial, ⟨rfl, rfl, trivial⟩, trivial, ⟨rfl, rfl, trivial⟩, ⟨⟨rfl, rfl⟩, trivial⟩, ⟨rfl, rfl, trivial⟩, trivial, ⟨rfl, rfl, rfl, trivial⟩, trivial, ⟨rfl, rfl, trivial⟩, trivial, ⟨rfl, rfl, trivial⟩, trivial, ⟨rfl, rfl, trivial⟩, ⟨⟨rfl, rfl⟩, trivial⟩, ⟨rfl, rfl, trivial⟩, trivial, ⟨rfl, rfl, rfl, trivial⟩, trivial, ⟨rfl, rfl, trivial⟩, trivial, ⟨rfl, rfl, trivial⟩, trivial, ⟨rfl, rfl, trivial⟩, ⟨⟨rfl, rfl⟩, trivial⟩, ⟨rfl, rfl, trivial⟩, trivial, ⟨rfl, rfl, rfl, trivial⟩, trivial, ⟨rfl, rfl, trivial⟩, trivial, ⟨rfl, rfl, rfl, trivial⟩, trivial, ⟨rfl, rfl, rfl, trivial⟩, trivial, ⟨rfl, rfl, trivial⟩, trivial, trivial⟩ ⟨OpW.plain (op_fieldP (off' := 0) Try.underlying44 rfl ti42 (by decide) rfl (Ev.t 2 (.ptr 1002 0)) rfl) rfl rfl, OpW.plain (op_load1P (c := .g (.d (.sl 2 (List.map encApi_Range a_0.Ranges)))) Try.underlying42 rfl rfl (Ev.t 39 (.ptr 1002 0)) rfl) rfl rfl, OpW.plain (op_move (Ev.t 5 (bI .i64 v15)) rfl) rfl rfl, OpW.plain (op_index (cs := [.v (.string x20.From), .v (.string x20.To)]) Try.underlying42 ti88 (idx_ok hx20).1 (idx_get hx20 encApi_Range) (Ev.t 40 (.g (.d (.sl 2 (List.map encApi_Range a_0.Ranges))))) (Ev.t 41 (bI .i64 v15)) rfl) rfl rfl, OpW.plain (op_loadAE (ds := [.v (.string x20.From), .v (.string x20.To)]) Try.underlying88 rfl ti88 rfl (Ev.t 42 (.ep [.v (.string x20.From), .v (.string x20.To)])) rfl) rfl rfl, OpW.plain (op_fieldP (off' := 0) Try.underlying44 rfl ti42 (by decide) rfl (Ev.t 3 (.ptr 1003 0)) rfl) rfl rfl, OpW.plain (op_load1P (c := .g (.d (.sl 2 (List.map encApi_Range b_1.Ranges)))) Try.underlying42 rfl rfl (Ev.t 44 (.ptr 1003 0)) rfl) rfl rfl, OpW.plain (op_move (Ev.t 5 (bI .i64 v15)) rfl) rfl rfl, OpW.plain (op_index (cs := [.v (.string x21.From), .v (.string x21.To)]) Try.underlying42 ti88 (idx_ok hx21).1 (idx_get hx21 encApi_Range) (Ev.t 45 (.g (.d (.sl 2 (List.map encApi_Range b_1.Ranges))))) (Ev.t 46 (bI .i64 v15)) rfl) rfl rfl, OpW.plain (op_loadAE (ds := [.v (.string x21.From), .v (.string x21.To)]) Try.underlying88 rfl ti88 rfl (Ev.t 47 (.ep [.v (.string x21.From), .v (.string x21.To)])) rfl) rfl rfl, OpW.plain (OpL.cast (op_eqA (us := [.string x20.From, .string x20.To]) (vs := [.string x21.From, .string x21.To]) rfl rfl Try.eqGuardType88 (fun w => ne88 x20.From x20.To x21.From x21.To w) (Ev.t 43 (.g (.agg [.v (.string x20.From), .v (.string x20.To)]))) (Ev.t 48 (.g (.agg [.v (.string x21.From), .v (.string x21.To)]))) rfl) (congrArg (fun b => bB b) hc22)) rfl rfl, OpW.plain (op_move (Ev.t 49 (bB false)) rfl) rfl rfl, OpW.yes (op_move (Ev.t 5 (bI .i64 v15)) rfl) rfl rfl rfl, OpW.yes (op_fieldP (off' := 1) Try.underlying44 rfl ti39 (by decide) rfl (Ev.t 2 (.ptr 1002 0)) rfl) rfl rfl rfl, OpW.yes (op_load1P (c := .g (.d (.sl 1 (List.map encI_i64 a_0.Owners)))) Try.underlying39 rfl rfl (Ev.t 52 (.ptr 1002 1)) rfl) rfl rfl rfl, OpW.yes (OpL.cast (op_lenD Try.underlying39 (Ev.t 53 (.g (.d (.sl 1 (List.map encI_i64 a_0.Owners))))) rfl) (by rw [List.length_map])) rfl rfl rfl, OpW.yes (OpL.cast (op_lss (Ev.t 51 (bI .i64 v15)) (Ev.t 54 (bI .i64 (a_0.Owners.length : Int))) rfl) (congrArg (fun b => bB b) hc23)) rfl rfl rfl, OpW.yes (op_move (Ev.t 55 (bB true)) rfl) rfl rfl rfl, OpW.yes (op_fieldP (off' := 1) Try.underlying44 rfl ti39 (by decide) rfl (Ev.t 2 (.ptr 1002 0)) rfl) rfl rfl rfl, OpW.yes (op_load1P (c := .g (.d (.sl 1 (List.map encI_i64 a_0.Owners)))) Try.underlying39 rfl rfl (Ev.t 57 (.ptr 1002 1)) rfl) rfl rfl rfl, OpW.yes (op_move (Ev.t 5 (bI .i64 v15)) rfl) rfl rfl rfl, OpW.yes (op_index (cs := [.v (.int .i64 x24)]) Try.underlying39 ti3 (idx_ok hx24).1 (idx_get hx24 encI_i64) (Ev.t 58 (.g (.d (.sl 1 (List.map encI_i64 a_0.Owners))))) (Ev.t 59 (bI .i64 v15)) rfl) rfl rfl rfl, OpW.yes (op_load1E (c := .v (.int .i64 x24)) Try.underlying3 rfl rfl (Ev.t 60 (.ep [.v (.int .i64 x24)])) rfl) rfl rfl rfl, OpW.yes (op_fieldP (off' := 1) Try.underlying44 rfl ti39 (by decide) rfl (Ev.t 3 (.ptr 1003 0)) rfl) rfl rfl rfl, OpW.yes (op_load1P (c := .g (.d (.sl 1 (List.map encI_i64 b_1.Owners)))) Try.underlying39 rfl rfl (Ev.t 62 (.ptr 1003 1)) rfl) rfl rfl rfl, OpW.yes (op_move (Ev.t 5 (bI .i64 v15)) rfl) rfl rfl rfl, OpW.yes (op_index (cs := [.v (.int .i64 x25)]) Try.underlying39 ti3 (idx_ok hx25).1 (idx_get hx25 encI_i64) (Ev.t 63 (.g (.d (.sl 1 (List.map encI_i64 b_1.Owners))))) (Ev.t 64 (bI .i64 v15)) rfl) rfl rfl rfl, OpW.yes (op_load1E (c := .v (.int .i64 x25)) Try.underlying3 rfl rfl (Ev.t 65 (.ep [.v (.int .i64 x25)])) rfl) rfl rfl rfl, OpW.yes (op_neI (Ev.t 61 (bI .i64 x24)) (Ev.t 66 (bI .i64 x25)) rfl) rfl rfl rfl, OpW.yes (op_pickT (Ev.t 56 (bB true)) (Ev.t 67 (bB (!decide (x24 = x25)))) rfl) rfl rfl rfl, OpW.plain (op_pickF (Ev.t 50 (bB false)) (Ev.t 68 (bB (!decide (x24 = x25)))) rfl) rfl rfl, trivial⟩ ⟨rfl, rfl, rfl, rfl, trivial⟩ ⟨rfl, rfl, trivial⟩ rfl ?_
            refine ifS hF (fun hc26 hF => ?_) (fun hc26 hF => ?_)
            · refine G.cond rfl (fun _ => ?_) (fun hx => by rw [hc26] at hx; cases hx)
              refine G.seq ?_
              refine G.region ?_
              refine G.op1 (op_assign (Ev.c _ rfl) rfl) rfl trivial trivial ?_
              refine G.endOps ?_
              cases hF
              exact G.ret1 Try.results23 (RVar.tmp 4 _) ⟨rfl, trivial⟩ trivial
            · refine G.cond rfl (fun hx => by rw [hc26] at hx; cases hx) (fun _ => ?_)
              refine G.skip ?_
              refine G.endBlock ?_
              refine G.region ?_
              refine G.op1 (op_move (Ev.t 5 (bI .i64 v15)) rfl) rfl ⟨rfl, trivial⟩ trivial ?_
              refine G.op1 (op_add (Ev.t 37 (bI .i64 v15)) (Ev.c _ rfl) rfl) rfl ⟨rfl, trivial⟩ trivial ?_
              refine G.op1 (op_assign (Ev.t 38 (bI .i64 (IntKind.wrap .i64 (v15 + 1)))) rfl) rfl ⟨rfl, trivial⟩ trivial ?_
              refine G.endOps ?_
              exact G.arr (J16 (IntKind.wrap .i64 (v15 + 1)) hF) ⟨rfl, rfl, rfl, trivial⟩ ⟨rfl, rfl, trivial⟩ rfl
          · refine G.drawn (effs := (⟨[(2, .one (.ptr 1002 0))], [], [(39, .one (.ptr 1002 0))], []⟩ :: ⟨[(39, .one (.ptr 1002 0))], [(1002, some (.blk 44 [.g (.d (.sl 2 (List.map encApi_Range a_0.Ranges))), .g (.d (.sl 1 (List.map encI_i64 a_0.Owners))), .g (.d (.sl 1 (List.map encI_i64 a_0.Parents)))]))], [(40, .one (.g (.d (.sl 2 (List.map encApi_Range a_0.Ranges)))))], []⟩ :: ⟨[(5, .one (bI .i64 v15))], [], [(41, .one (bI .i64 v15))], []⟩ :: ⟨[(40, .one (.g (.d (.sl 2 (List.map encApi_Range a_0.Ranges))))), (41, .one (bI .i64 v15))], [], [(42, .one (.ep [.v (.string x20.From), .v (.string x20.To)]))], []⟩ :: ⟨[(42, .one (.ep [.v (.string x20.From), .v (.string x20.To)]))], [], [(43, .one (.g (.agg [.v (.string x20.From), .v (.string x20.To)])))], []⟩ :: ⟨[(3, .one (.ptr 1003 0))], [], [(44, .one (.ptr 1003 0))], []⟩ :: ⟨[(44, .one (.ptr 1003 0))], [(1003, some (.blk 44 [.g (.d (.sl 2 (List.map encApi_Range b_1.Ranges))), .g (.d (.sl 1 (List.map encI_i64 b_1.Owners))), .g (.d (.sl 1 (List.map encI_i64 b_1.Parents)))]))], [(45, .one (.g (.d (.sl 2 (List.map encApi_Range b_1.Ranges)))))], []⟩ :: ⟨[(5, .one (bI .i64 v15))], [], [(46, .one (bI .i64 v15))], []⟩ :: ⟨[(45, .one (.g (.d (.sl 2 (List.map encApi_Range b_1.Ranges))))), (46, .one (bI .i64 v15))], [], [(47, .one (.ep [.v (.string x21.From), .v (.string x21.To)]))], []⟩ :: ⟨[(47, .one (.ep [.v (.string x21.From), .v (.string x21.To)]))], [], [(48, .one (.g (.agg [.v (.string x21.From), .v (.string x21.To)])))], []⟩ :: ⟨[(43, .one (.g (.agg [.v (.string x20.From), .v (.string x20.To)]))), (48, .one (.g (.agg [.v (.string x21.From), .v (.string x21.To)])))], [], [(49, .one (bB false))], []⟩ :: ⟨[(49, .one (bB false))], [], [(50, .one (bB false))], []⟩ :: ⟨[(50, .one (bB false)), (5, .one (bI .i64 v15))], [], [(51, .one (bI .i64 v15))], []⟩ :: ⟨[(50, .one (bB false)), (2, .one (.ptr 1002 0))], [], [(52, .one (.ptr 1002 1))], []⟩ :: ⟨[(50, .one (bB false)), (52, .one (.ptr 1002 1))], [(1002, some (.blk 44 [.g (.d (.sl 2 (List.map encApi_Range a_0.Ranges))), .g (.d (.sl 1 (List.map encI_i64 a_0.Owners))), .g (.d (.sl 1 (List.map encI_i64 a_0.Parents)))]))], [(53, .one (.g (.d (.sl 1 (List.map encI_i64 a_0.Owners)))))], []⟩ :: ⟨[(50, .one (bB false)), (53, .one (.g (.d (.sl 1 (List.map encI_i64 a_0.Owners)))))], [], [(54, .one (bI .i64 (a_0.Owners.length : Int)))], []⟩ :: ⟨[(50, .one (bB false)), (51, .one (bI .i64 v15)), (54, .one (bI .i64 (a_0.Owners.length : Int)))], [], [(55, .one (bB false))], []⟩ :: ⟨[(50, .one (bB false)), (55, .one (bB false))], [], [(56, .one (bB false))], []⟩ :: ⟨[(56, .one (bB false))], [], [(57, .one (.x Go.undef))], []⟩ :: ⟨[(56, .one (bB false))], [], [(58, .one (.x Go.undef))], []⟩ :: ⟨[(56, .one (bB false))], [], [(59, .one (.x Go.undef))], []⟩ :: ⟨[(56, .one (bB false))], [], [(60, .one (.x Go.undef))], []⟩ :: ⟨[(56, .one (bB false))], [], [(61, .one (.x Go.undef))], []⟩ :: ⟨[(56, .one (bB false))], [], [(62, .one (.x Go.undef))], []⟩ :: ⟨[(56, .one (bB false))], [], [(63, .one (.x Go.undef))], []⟩ :: ⟨[(56, .one (bB false))], [], [(64, .one (.x Go.undef))], []⟩ :: ⟨[(56, .one (bB false))], [], [(65, .one (.x Go.undef))], []⟩ :: ⟨[(56, .one (bB false))], [], [(66, .one (.x Go.undef))], []⟩ :: ⟨[(56, .one (bB false))], [], [(67, .one (.x Go.undef))], []⟩ :: ⟨[(50, .one (bB false)), (56, .one (bB false))], [], [(68, .one (bB false))], []⟩ :: ⟨[(50, .one (bB false)), (68, .one (bB false))], [], [(69, .one (bB false))], []⟩ :: [])) (deps := ([] :: [0] :: [] :: [0, 1, 2] :: [0, 1, 2, 3] :: [] :: [5] :: [] :: [5, 6, 7] :: [5, 6, 7, 8] :: [0, 1, 2, 3, 4, 5, 6, 7, 8, 9] :: [0, 1, 2, 3, 4, 5, 6, 7, 8, 9, 10] :: [0, 1, 2, 3, 4, 5, 6, 7, 8, 9, 10, 11] :: [0, 1, 2, 3, 4, 5, 6, 7, 8, 9, 10, 11] :: [0, 1, 2, 3, 4, 5, 6, 7, 8, 9, 10, 11, 13] :: [0, 1, 2, 3, 4, 5, 6, 7, 8, 9, 10, 11, 13, 14] :: [0, 1, 2, 3, 4, 5, 6, 7, 8, 9, 10, 11, 12, 13, 14, 15] :: [0, 1, 2, 3, 4, 5, 6, 7, 8, 9, 10, 11, 12, 13, 14, 15, 16] :: [0, 1, 2, 3, 4, 5, 6, 7, 8, 9, 10, 11, 12, 13, 14, 15, 16, 17] :: [0, 1, 2, 3, 4, 5, 6, 7, 8, 9, 10, 11, 12, 13, 14, 15, 16, 17, 18] :: [0, 1, 2, 3, 4, 5, 6, 7, 8, 9, 10, 11, 12, 13, 14, 15, 16, 17] :: (0 :: 1 :: 2 :: 3 :: 4 :: 5 :: 6 :: 7 :: 8 :: 9 :: 10 :: 11 :: 12 :: 13 :: 14 :: 15 :: 16 :: 17 :: 18 :: 19 :: 20 :: []) :: (0 :: 1 :: 2 :: 3 :: 4 :: 5 :: 6 :: 7 :: 8 :: 9 :: 10 :: 11 :: 12 :: 13 :: 14 :: 15 :: 16 :: 17 :: 18 :: 19 :: 20 :: 21 :: []) :: [0, 1, 2, 3, 4, 5, 6, 7, 8, 9, 10, 11, 12, 13, 14, 15, 16, 17] :: [0, 1, 2, 3, 4, 5, 6, 7, 8, 9, 10, 11, 12, 13, 14, 15, 16, 17, 23] :: [0, 1, 2, 3, 4, 5, 6, 7, 8, 9, 10, 11, 12, 13, 14, 15, 16, 17] :: (0 :: 1 :: 2 :: 3 :: 4 :: 5 :: 6 :: 7 :: 8 :: 9 :: 10 :: 11 :: 12 :: 13 :: 14 :: 15 :: 16 :: 17 :: 23 :: 24 :: 25 :: []) :: (0 :: 1 :: 2 :: 3 :: 4 :: 5 :: 6 :: 7 :: 8 :: 9 :: 10 :: 11 :: 12 :: 13 :: 14 :: 15 :: 16 :: 17 :: 23 :: 24 :: 25 :: 26 :: []) :: (0 :: 1 :: 2 :: 3 :: 4 :: 5 :: 6 :: 7 :: 8 :: 9 :: 10 :: 11 :: 12 :: 13 :: 14 :: 15 :: 16 :: 17 :: 18 :: 19 :: 20 :: 21 :: 22 :: 23 :: 24 :: 25 :: 26 :: 27 :: []) :: (0 :: 1 :: 2 :: 3 :: 4 :: 5 :: 6 :: 7 :: 8 :: 9 :: 10 :: 11 :: 12 :: 13 :: 14 :: 15 :: 16 :: 17 :: 18 :: 19 :: 20 :: 21 :: 22 :: 23 :: 24 :: 25 :: 26 :: 27 :: 28 :: []) :: (0 :: 1 :: 2 :: 3 :: 4 :: 5 :: 6 :: 7 :: 8 :: 9 :: 10 :: 11 :: 12 :: 13 :: 14 :: 15 :: 16 :: 17 :: 18 :: 19 :: 20 :: 21 :: 22 :: 23 :: 24 :: 25 :: 26 :: 27 :: 28 :: 29 :: []) :: [])) (sl' := [(2, .one (.ptr 1002 0)), (3, .one (.ptr 1003 0)), (5, .one (bI .i64 v15)), (69, .one (bB false))]) (hp' := [(1002, some (.blk 44 [.g (.d (.sl 2 (List.map encApi_Range a_0.Ranges))), .g (.d (.sl 1 (List.map encI_i64 a_0.Owners))), .g (.d (.sl 1 (List.map encI_i64 a_0.Parents)))])), (1003, some (.blk 44 [.g (.d (.sl 2 (List.map encApi_Range b_1.Ranges))), .g (.d (.sl 1 (List.map encI_i64 b_1.Owners))), .g (.d (.sl 1 (List.map encI_i64 b_1.Parents)))]))]) follows rfl rfl rfl ⟨⟨rfl, trivial⟩, trivial, ⟨rfl, trivial⟩, ⟨⟨rfl, rfl⟩, trivial⟩, ⟨rfl, trivial⟩, trivial, ⟨rfl, rfl, trivial⟩, trivial, ⟨rfl, trivial⟩, trivial, ⟨rfl, trivial⟩, trivial, ⟨rfl, trivial⟩, ⟨⟨rfl, rfl⟩, trivial⟩, ⟨rfl, trivial⟩, trivial, ⟨rfl, rfl, trivial⟩, trivial, ⟨rfl, trivial⟩, trivial, ⟨rfl, rfl, trivial⟩, trivial, ⟨rfl, trivial⟩, trivial, ⟨rfl, rfl, trivial⟩, trivial, ⟨rfl, rfl, trivial⟩, trivial, ⟨rfl, rfl, trivial⟩, ⟨⟨rfl, rfl⟩, trivial⟩, ⟨rfl, rfl, trivial⟩, trivial, ⟨rfl, rfl, rfl, trivial⟩, trivial, ⟨rfl, rfl, trivial⟩, trivial, ⟨rfl, trivial⟩, trivial, ⟨rfl, trivial⟩, trivial, ⟨rfl, trivial⟩, trivial, ⟨rfl, trivial⟩, trivial, ⟨rfl, trivial⟩, trivial, ⟨rfl, trivial⟩, trivial, ⟨rfl, trivial⟩, trivial, ⟨rfl, trivial⟩, trivial, ⟨rfl, trivial⟩, trivial, ⟨rfl, trivial⟩, trivial, ⟨rfl, trivial⟩, trivial, ⟨rfl, rfl, trivial⟩, trivial, ⟨rfl, rfl, trivial⟩, trivial, trivial⟩ ⟨OpW.plain (op_fieldP (off' := 0) Try.underlying44 rfl ti42 (by decide) rfl (Ev.t 2 (.ptr 1002 0)) rfl) rfl rfl, OpW.plain (op_load1P (c := .g (.d (.sl 2 (List.map encApi_Range a_0.Ranges)))) Try.underlying42 rfl rfl (Ev.t 39 (.ptr 1002 0)) rfl) rfl rfl, OpW.plain (op_move (Ev.t 5 (bI .i64 v15)) rfl) rfl rfl, OpW.plain (op_index (cs := [.v (.string x20.From), .v (.string x20.To)]) Try.underlying42 ti88 (idx_ok hx20).1 (idx_get hx20 encApi_Range) (Ev.t 40 (.g (.d (.sl 2 (List.map encApi_Range a_0.Ranges))))) (Ev.t 41 (bI .i64 v15)) rfl) rfl rfl, OpW.plain (op_loadAE (ds := [.v (.string x20.From), .v (.string x20.To)]) Try.underlying88 rfl ti88 rfl (Ev.t 42 (.ep [.v (.string x20.From), .v (.string x20.To)])) rfl) rfl rfl, OpW.plain (op_fieldP (off' := 0) Try.underlying44 rfl ti42 (by decide) rfl (Ev.t 3 (.ptr 1003 0)) rfl) rfl rfl, OpW.plain (op_load1P (c := .g (.d (.sl 2 (List.map encApi_Range b_1.Ranges)))) Try.underlying42 rfl rfl (Ev.t 44 (.ptr 1003 0)) rfl) rfl rfl, OpW.plain (op_move (Ev.t 5 (bI .i64 v15)) rfl) rfl rfl, OpW.plain (op_index (cs := [.v (.string x21.From), .v (.string x21.To)]) Try.underlying42 ti88 (idx_ok hx21).1 (idx_get hx21 encApi_Range) (Ev.t 45 (.g (.d (.sl 2 (List.map encApi_Range b_1.Ranges))))) (Ev.t 46 (bI .i64 v15)) rfl) rfl rfl, OpW.plain (op_loadAE (ds := [.v (.string x21.From), .v (.string x21.To)]) Try.underlying88 rfl ti88 rfl (Ev.t 47 (.ep [.v (.string x21.From), .v (.string x21.To)])) rfl) rfl rfl, OpW.plain (OpL.cast (op_eqA (us := [.string x20.From, .string x20.To]) (vs := [.string x21.From, .string x21.To]) rfl rfl Try.eqGuardType88 (fun w => ne88 x20.From x20.To x21.From x21.To w) (Ev.t 43 (.g (.agg [.v (.string x20.From), .v (.string x20.To)]))) (Ev.t 48 (.g (.agg [.v (.string x21.From), .v (.string x21.To)]))) rfl) (congrArg (fun b => bB b) hc22)) rfl rfl, OpW.plain (op_move (Ev.t 49 (bB false)) rfl) rfl rfl, OpW.yes (op_move (Ev.t 5 (bI .i64 v15)) rfl) rfl rfl rfl, OpW.yes (op_fieldP (off' := 1) Try.underlying44 rfl ti39 (by decide) rfl (Ev.t 2 (.ptr 1002 0)) rfl) rfl rfl rfl, OpW.yes (op_load1P (c := .g (.d (.sl 1 (List.map encI_i64 a_0.Owners)))) Try.underlying39 rfl rfl (Ev.t 52 (.ptr 1002 1)) rfl) rfl rfl rfl, OpW.yes (OpL.cast (op_lenD Try.underlying39 (Ev.t 53 (.g (.d (.sl 1 (List.map encI_i64 a_0.Owners))))) rfl) (by rw [List.length_map])) rfl rfl rfl, OpW.yes (OpL.cast (op_lss (Ev.t 51 (bI .i64 v15)) (Ev.t 54 (bI .i64 (a_0.Owners.length : Int))) rfl) (congrArg (fun b => bB b) hc23)) rfl rfl rfl, OpW.yes (op_move (Ev.t 55 (bB false)) rfl) rfl rfl rfl, OpW.no rfl rfl rfl rfl rfl, OpW.no rfl rfl rfl rfl rfl, OpW.no rfl rfl rfl rfl rfl, OpW.no rfl rfl rfl rfl rfl, OpW.no rfl rfl rfl rfl rfl, OpW.no rfl rfl rfl rfl rfl, OpW.no rfl rfl rfl rfl rfl, OpW.no rfl rfl rfl rfl rfl, OpW.no rfl rfl rfl rfl rfl, OpW.no rfl rfl rfl rfl rfl, OpW.no rfl rfl rfl rfl rfl, OpW.yes (op_pickF (Ev.t 56 (bB false)) (Ev.c _ rfl) rfl) rfl rfl rfl, OpW.plain (op_pickF (Ev.t 50 (bB false)) (Ev.t 68 (bB false)) rfl) rfl rfl, trivial⟩ ⟨rfl, rfl, rfl, rfl, trivial⟩ ⟨rfl, rfl, trivial⟩ rfl ?_
            refine G.condF rfl ?_
            refine G.skip ?_
            refine G.endBlock ?_
            refine G.region ?_
            refine G.op1 (op_move (Ev.t 5 (bI .i64 v15)) rfl) rfl ⟨rfl, trivial⟩ trivial ?_
            refine G.op1 (op_add (Ev.t 37 (bI .i64 v15)) (Ev.c _ rfl) rfl) rfl ⟨rfl, trivial⟩ trivial ?_
            refine G.op1 (op_assign (Ev.t 38 (bI .i64 (IntKind.wrap .i64 (v15 + 1)))) rfl) rfl ⟨rfl, trivial⟩ trivial ?_
            refine G.endOps ?_
            exact G.arr (J16 (IntKind.wrap .i64 (v15 + 1)) hF) ⟨rfl, rfl, rfl, trivial⟩ ⟨rfl, rfl, trivial⟩ rfl
      · refine G.cond rfl (fun hx => by rw [hc19] at hx; cases hx) (fun _ => ?_)
        refine G.exit ?_
        refine GX.c ?_
        refine GX.q ?_
        refine GX.bYes ?_
        exact G.arr (J14 () hF) ⟨rfl, rfl, trivial⟩ ⟨rfl, rfl, trivial⟩ rfl
  refine G.region ?_
  refine G.op1 (op_fieldP (off' := 0) Try.underlying44 rfl ti42 (by decide) rfl (Ev.t 2 (.ptr 1002 0)) rfl) rfl ⟨rfl, trivial⟩ trivial ?_
  refine G.op1 (op_load1P (c := .g (.d (.sl 2 (List.map encApi_Range a_0.Ranges)))) Try.underlying42 rfl rfl (Ev.t 7 (.ptr 1002 0)) rfl) rfl ⟨rfl, trivial⟩ ⟨rfl, trivial⟩ ?_
  refine G.op1 (OpL.cast (op_lenD Try.underlying42 (Ev.t 8 (.g (.d (.sl 2 (List.map encApi_Range a_0.Ranges))))) rfl) (by rw [List.length_map])) rfl ⟨rfl, trivial⟩ trivial ?_
  refine G.op1 (op_fieldP (off' := 0) Try.underlying44 rfl ti42 (by decide) rfl (Ev.t 3 (.ptr 1003 0)) rfl) rfl ⟨rfl, trivial⟩ trivial ?_
  refine G.op1 (op_load1P (c := .g (.d (.sl 2 (List.map encApi_Range b_1.Ranges)))) Try.underlying42 rfl rfl (Ev.t 10 (.ptr 1003 0)) rfl) rfl ⟨rfl, trivial⟩ ⟨rfl, trivial⟩ ?_
  refine G.op1 (OpL.cast (op_lenD Try.underlying42 (Ev.t 11 (.g (.d (.sl 2 (List.map encApi_Range b_1.Ranges))))) rfl) (by rw [List.length_map])) rfl ⟨rfl, trivial⟩ trivial ?_
  refine G.op1 (op_neI (Ev.t 9 (bI .i64 (a_0.Ranges.length : Int))) (Ev.t 12 (bI .i64 (b_1.Ranges.length : Int))) rfl) rfl ⟨rfl, rfl, trivial⟩ trivial ?_
  refine G.op1 (op_move (Ev.t 13 (bB (!decide ((a_0.Ranges.length : Int) = (b_1.Ranges.length : Int))))) rfl) rfl ⟨rfl, trivial⟩ trivial ?_
  refine G.joinL (T := Bool) 8 (fun y28 => ⟨[(2, .one (.ptr 1002 0)), (3, .one (.ptr 1003 0)), (22, .one (bB y28))], [(1002, some (.blk 44 [.g (.d (.sl 2 (List.map encApi_Range a_0.Ranges))), .g (.d (.sl 1 (List.map encI_i64 a_0.Owners))), .g (.d (.sl 1 (List.map encI_i64 a_0.Parents)))])), (1003, some (.blk 44 [.g (.d (.sl 2 (List.map encApi_Range b_1.Ranges))), .g (.d (.sl 1 (List.map encI_i64 b_1.Owners))), .g (.d (.sl 1 (List.map encI_i64 b_1.Parents)))]))]⟩) (fun y28 => law06_same_k6 a_0 b_1 y28 = some r) (fun y28 hF => ?_) (fun J30 => ?_)
  · unfold law06_same_k6 at hF
    refine G.op1 (op_move (Ev.t 22 (bB y28)) rfl) rfl ⟨rfl, trivial⟩ trivial ?_
    refine ifS hF (fun hc29 hF => ?_) (fun hc29 hF => ?_)
    · refine G.known (t := 23) hc29 rfl ?_
      refine G.opN1 rfl rfl rfl rfl rfl ?_
      refine G.opN1 rfl rfl rfl rfl rfl ?_
      refine G.opN1 rfl rfl rfl rfl rfl ?_
      refine G.opN1 rfl rfl rfl rfl rfl ?_
      refine G.opN1 rfl rfl rfl rfl rfl ?_
      refine G.opN1 rfl rfl rfl rfl rfl ?_
      refine G.opN1 rfl rfl rfl rfl rfl ?_
      refine G.op1 (op_pickT (Ev.t 23 (bB true)) (Ev.c _ rfl) rfl) rfl ⟨rfl, trivial⟩ trivial ?_
      refine G.endOps ?_
      exact G.arr (J27 true hF) ⟨rfl, rfl, rfl, trivial⟩ ⟨rfl, rfl, trivial⟩ rfl
    · refine G.known (t := 23) hc29 rfl ?_
      refine G.opG1 (op_fieldP (off' := 2) Try.underlying44 rfl ti39 (by decide) rfl (Ev.t 2 (.ptr 1002 0)) rfl) rfl rfl rfl ⟨rfl, trivial⟩ trivial ?_
      refine G.opG1 (op_load1P (c := .g (.d (.sl 1 (List.map encI_i64 a_0.Parents)))) Try.underlying39 rfl rfl (Ev.t 24 (.ptr 1002 2)) rfl) rfl rfl rfl ⟨rfl, trivial⟩ ⟨rfl, trivial⟩ ?_
      refine G.opG1 (OpL.cast (op_lenD Try.underlying39 (Ev.t 25 (.g (.d (.sl 1 (List.map encI_i64 a_0.Parents))))) rfl) (by rw [List.length_map])) rfl rfl rfl ⟨rfl, trivial⟩ trivial ?_
      refine G.opG1 (op_fieldP (off' := 2) Try.underlying44 rfl ti39 (by decide) rfl (Ev.t 3 (.ptr 1003 0)) rfl) rfl rfl rfl ⟨rfl, trivial⟩ trivial ?_
      refine G.opG1 (op_load1P (c := .g (.d (.sl 1 (List.map encI_i64 b_1.Parents)))) Try.underlying39 rfl rfl (Ev.t 27 (.ptr 1003 2)) rfl) rfl rfl rfl ⟨rfl, trivial⟩ ⟨rfl, trivial⟩ ?_
      refine G.opG1 (OpL.cast (op_lenD Try.underlying39 (Ev.t 28 (.g (.d (.sl 1 (List.map encI_i64 b_1.Parents))))) rfl) (by rw [List.length_map])) rfl rfl rfl ⟨rfl, trivial⟩ trivial ?_
      refine G.opG1 (op_neI (Ev.t 26 (bI .i64 (a_0.Parents.length : Int))) (Ev.t 29 (bI .i64 (b_1.Parents.length : Int))) rfl) rfl rfl rfl ⟨rfl, rfl, trivial⟩ trivial ?_
      refine G.op1 (op_pickF (Ev.t 23 (bB false)) (Ev.t 30 (bB (!decide ((a_0.Parents.length : Int) = (b_1.Parents.length : Int))))) rfl) rfl ⟨rfl, rfl, trivial⟩ trivial ?_
      refine G.endOps ?_
      exact G.arr (J27 (!decide ((a_0.Parents.length : Int) = (b_1.Parents.length : Int))) hF) ⟨rfl, rfl, rfl, trivial⟩ ⟨rfl, rfl, trivial⟩ rfl
  refine ifS hF (fun hc31 hF => ?_) (fun hc31 hF => ?_)
  · refine G.known (t := 14) hc31 rfl ?_
    refine G.opN1 rfl rfl rfl rfl rfl ?_
    refine G.opN1 rfl rfl rfl rfl rfl ?_
    refine G.opN1 rfl rfl rfl rfl rfl ?_
    refine G.opN1 rfl rfl rfl rfl rfl ?_
    refine G.opN1 rfl rfl rfl rfl rfl ?_
    refine G.opN1 rfl rfl rfl rfl rfl ?_
    refine G.opN1 rfl rfl rfl rfl rfl ?_
    refine G.op1 (op_pickT (Ev.t 14 (bB true)) (Ev.c _ rfl) rfl) rfl ⟨rfl, trivial⟩ trivial ?_
    exact G.arr (J30 true hF) ⟨rfl, rfl, rfl, trivial⟩ ⟨rfl, rfl, trivial⟩ rfl
  · refine G.known (t := 14) hc31 rfl ?_
    refine G.opG1 (op_fieldP (off' := 1) Try.underlying44 rfl ti39 (by decide) rfl (Ev.t 2 (.ptr 1002 0)) rfl) rfl rfl rfl ⟨rfl, trivial⟩ trivial ?_
    refine G.opG1 (op_load1P (c := .g (.d (.sl 1 (List.map encI_i64 a_0.Owners)))) Try.underlying39 rfl rfl (Ev.t 15 (.ptr 1002 1)) rfl) rfl rfl rfl ⟨rfl, trivial⟩ ⟨rfl, trivial⟩ ?_
    refine G.opG1 (OpL.cast (op_lenD Try.underlying39 (Ev.t 16 (.g (.d (.sl 1 (List.map encI_i64 a_0.Owners))))) rfl) (by rw [List.length_map])) rfl rfl rfl ⟨rfl, trivial⟩ trivial ?_
    refine G.opG1 (op_fieldP (off' := 1) Try.underlying44 rfl ti39 (by decide) rfl (Ev.t 3 (.ptr 1003 0)) rfl) rfl rfl rfl ⟨rfl, trivial⟩ trivial ?_
    refine G.opG1 (op_load1P (c := .g (.d (.sl 1 (List.map encI_i64 b_1.Owners)))) Try.underlying39 rfl rfl (Ev.t 18 (.ptr 1003 1)) rfl) rfl rfl rfl ⟨rfl, trivial⟩ ⟨rfl, trivial⟩ ?_
    refine G.opG1 (OpL.cast (op_lenD Try.underlying39 (Ev.t 19 (.g (.d (.sl 1 (List.map encI_i64 b_1.Owners))))) rfl) (by rw [List.length_map])) rfl rfl rfl ⟨rfl, trivial⟩ trivial ?_
    refine G.opG1 (op_neI (Ev.t 17 (bI .i64 (a_0.Owners.length : Int))) (Ev.t 20 (bI .i64 (b_1.Owners.length : Int))) rfl) rfl rfl rfl ⟨rfl, rfl, trivial⟩ trivial ?_
    refine G.op1 (op_pickF (Ev.t 14 (bB false)) (Ev.t 21 (bB (!decide ((a_0.Owners.length : Int) = (b_1.Owners.length : Int))))) rfl) rfl ⟨rfl, rfl, trivial⟩ trivial ?_
    exact G.arr (J30 (!decide ((a_0.Owners.length : Int) = (b_1.Owners.length : Int))) hF) ⟨rfl, rfl, rfl, trivial⟩ ⟨rfl, rfl, trivial⟩ rfl


set_option maxRecDepth 20000 in
set_option maxHeartbeats 2000000 in
theorem ct_law06_WireRows (q_0 : Law06_Spec) (b_1 : Int) (r : Bool) (hF : law06_WireRows q_0 b_1 = some r) : Ct Try.prog 8 [.g (.agg (encLaw06_Spec q_0)), .g (.d (.v (.int .u8 b_1)))] (.one (.d (.v (.bool r)))) := by
  unfold law06_WireRows at hF
  refine Ct.intro Try.func8 rfl Try.ntmps8 rfl rfl fun M w => ?_
  refine G.seq ?_
  refine G.region ?_
  refine G.op2 (op_boxA (k := 1002) (Ev.t 0 (.g (.agg [.sl 1 (List.map encI_i64 q_0.Ends), .sl 1 (List.map encI_i64 q_0.Owners), .sl 1 (List.map encI_i64 q_0.Parents)]))) rfl) rfl ⟨rfl, trivial⟩ ⟨rfl, trivial⟩ ?_
  refine G.op1 (op_assign (Ev.c _ rfl) rfl) rfl trivial trivial ?_
  refine G.endOps ?_
  refine G.seq ?_
  refine G.region ?_
  obtain ⟨r1, hr1, hF⟩ := bindS hF
  refine G.op1 (op_callQ (sv := .one (bB r1)) cf9 (ct_law06_awake r1 hr1) rfl rfl EvQL.nil rfl) rfl trivial trivial ?_
  refine G.op1 (op_assign (Ev.t 12 (bB r1)) rfl) rfl ⟨rfl, trivial⟩ trivial ?_
  refine G.endOps ?_
  refine G.seq ?_
  refine G.region ?_
  refine G.op1 (op_loadAP (ds := [.sl 1 (List.map encI_i64 q_0.Ends), .sl 1 (List.map encI_i64 q_0.Owners), .sl 1 (List.map encI_i64 q_0.Parents)]) Try.underlying41 rfl ti41 rfl (Ev.t 2 (.ptr 1002 0)) rfl) rfl ⟨rfl, trivial⟩ ⟨rfl, trivial⟩ ?_
  obtain ⟨r2, hr2, hF⟩ := bindS hF
  refine G.op1 (op_call (sv := .one (.g (.agg [.sl 2 (List.map encApi_Range r2.Ranges), .sl 1 (List.map encI_i64 r2.Owners), .sl 1 (List.map encI_i64 r2.Parents)]))) cf19 (ct_law06_Spec_row q_0 r2 hr2) rfl (EvL.cons (Ev.t 13 (.g (.agg [.sl 1 (List.map encI_i64 q_0.Ends), .sl 1 (List.map encI_i64 q_0.Owners), .sl 1 (List.map encI_i64 q_0.Parents)]))) EvL.nil) rfl) rfl ⟨rfl, trivial⟩ trivial ?_
  refine G.op2 (op_alloc (k := 1006) (cs := [.g (.d (.sl 2 (List.map encApi_Range ([] : (List Api_Range))))), .g (.d (.sl 1 (List.map encI_i64 ([] : (List Int))))), .g (.d (.sl 1 (List.map encI_i64 ([] : (List Int)))))]) ti44 ⟨.n 2, .n 1, .n 1, trivial⟩ rfl) rfl trivial ⟨rfl, trivial⟩ ?_
  refine G.op3 (op_storeA (cs' := [.g (.d (.sl 2 (List.map encApi_Range r2.Ranges))), .g (.d (.sl 1 (List.map encI_i64 r2.Owners))), .g (.d (.sl 1 (List.map encI_i64 r2.Parents)))]) ti44 rfl rfl (Ev.t 6 (.ptr 1006 0)) (Ev.t 14 (.g (.agg [.sl 2 (List.map encApi_Range r2.Ranges), .sl 1 (List.map encI_i64 r2.Owners), .sl 1 (List.map encI_i64 r2.Parents)])))) rfl ⟨rfl, rfl, trivial⟩ ⟨rfl, trivial⟩ ?_
  refine G.endOps ?_
  refine G.seq ?_
  refine G.region ?_
  refine G.op1 (op_loadAP (ds := [.sl 2 (List.map encApi_Range r2.Ranges), .sl 1 (List.map encI_i64 r2.Owners), .sl 1 (List.map encI_i64 r2.Parents)]) Try.underlying44 rfl ti44 rfl (Ev.t 6 (.ptr 1006 0)) rfl) rfl ⟨rfl, trivial⟩ ⟨rfl, trivial⟩ ?_
  obtain ⟨r3, hr3, hF⟩ := bindS hF
  refine G.op1 (op_callQ (sv := .one (bS r3)) cf20 (ct_wire_RowBytes r2 r3 hr3) rfl rfl (EvQL.cons (EvQ.g (Ev.t 15 (.g (.agg [.sl 2 (List.map encApi_Range r2.Ranges), .sl 1 (List.map encI_i64 r2.Owners), .sl 1 (List.map encI_i64 r2.Parents)])))) EvQL.nil) rfl) rfl ⟨rfl, trivial⟩ trivial ?_
  refine G.op1 (op_assign (Ev.t 16 (bS r3)) rfl) rfl ⟨rfl, trivial⟩ trivial ?_
  refine G.endOps ?_
  refine G.seq ?_
  refine G.region ?_
  refine G.op1 (op_move (Ev.t 7 (bS r3)) rfl) rfl ⟨rfl, trivial⟩ trivial ?_
  obtain ⟨r4, hr4, hF⟩ := bindS hF
  refine G.op1 (op_call (sv := .tup [.g (.agg [.sl 2 (List.map encApi_Range r4.1.Ranges), .sl 1 (List.map encI_i64 r4.1.Owners), .sl 1 (List.map encI_i64 r4.1.Parents)]), bB r4.2]) cf21 (ct_wire_ReadRow r3 r4 hr4) rfl (EvL.cons (Ev.t 18 (bS r3)) EvL.nil) rfl) rfl ⟨rfl, trivial⟩ trivial ?_
  refine G.op1 (op_moveS (t := 19) (sv := .tup [.g (.agg [.sl 2 (List.map encApi_Range r4.1.Ranges), .sl 1 (List.map encI_i64 r4.1.Owners), .sl 1 (List.map encI_i64 r4.1.Parents)]), bB r4.2]) rfl) rfl ⟨rfl, trivial⟩ trivial ?_
  refine G.op1 (op_extract (l := [.g (.agg [.sl 2 (List.map encApi_Range r4.1.Ranges), .sl 1 (List.map encI_i64 r4.1.Owners), .sl 1 (List.map encI_i64 r4.1.Parents)]), bB r4.2]) (c := .g (.agg [.sl 2 (List.map encApi_Range r4.1.Ranges), .sl 1 (List.map encI_i64 r4.1.Owners), .sl 1 (List.map encI_i64 r4.1.Parents)])) rfl rfl) rfl ⟨rfl, trivial⟩ trivial ?_
  refine G.op1 (op_extract (l := [.g (.agg [.sl 2 (List.map encApi_Range r4.1.Ranges), .sl 1 (List.map encI_i64 r4.1.Owners), .sl 1 (List.map encI_i64 r4.1.Parents)]), bB r4.2]) (c := bB r4.2) rfl rfl) rfl ⟨rfl, trivial⟩ trivial ?_
  refine G.op2 (op_alloc (k := 1008) (cs := [.g (.d (.sl 2 (List.map encApi_Range ([] : (List Api_Range))))), .g (.d (.sl 1 (List.map encI_i64 ([] : (List Int))))), .g (.d (.sl 1 (List.map encI_i64 ([] : (List Int)))))]) ti44 ⟨.n 2, .n 1, .n 1, trivial⟩ rfl) rfl trivial ⟨rfl, trivial⟩ ?_
  refine G.op3 (op_storeA (cs' := [.g (.d (.sl 2 (List.map encApi_Range r4.1.Ranges))), .g (.d (.sl 1 (List.map encI_i64 r4.1.Owners))), .g (.d (.sl 1 (List.map encI_i64 r4.1.Parents)))]) ti44 rfl rfl (Ev.t 8 (.ptr 1008 0)) (Ev.t 20 (.g (.agg [.sl 2 (List.map encApi_Range r4.1.Ranges), .sl 1 (List.map encI_i64 r4.1.Owners), .sl 1 (List.map encI_i64 r4.1.Parents)])))) rfl ⟨rfl, rfl, trivial⟩ ⟨rfl, trivial⟩ ?_
  refine G.op1 (op_assign (Ev.t 21 (bB r4.2)) rfl) rfl ⟨rfl, trivial⟩ trivial ?_
  refine G.endOps ?_
  refine G.seq ?_
  refine G.region ?_
  refine G.op1 (op_move (Ev.t 7 (bS r3)) rfl) rfl ⟨rfl, trivial⟩ trivial ?_
  refine G.op1 (op_move (Ev.t 1 (bI .u8 b_1)) rfl) rfl ⟨rfl, trivial⟩ trivial ?_
  refine G.op1 (op_buildSlice (es := List.map encI_u8 [b_1]) Try.underlying33 ti5 rfl rfl (EvP.cons (Ev.t 24 (bI .u8 b_1)) EvP.nil) rfl rfl (by simp [encI_u8]) rfl) rfl ⟨rfl, trivial⟩ trivial ?_
  refine G.op1 (op_toText (ns := [b_1]) Try.underlying33 Try.underlying5 Try.underlying9 rfl (Ev.t 25 (.g (.d (.sl 1 (List.map encI_u8 ([b_1])))))) rfl) rfl ⟨rfl, trivial⟩ trivial ?_
  obtain ⟨s5, hs5, hF⟩ := bindS hF
  refine G.op1 (OpL.cast (op_cat (scat_ok hs5).1 (Ev.t 23 (bS r3)) (Ev.t 26 (bS (bytesOf ([b_1])))) rfl) (by rw [(scat_ok hs5).2])) rfl ⟨rfl, rfl, trivial⟩ trivial ?_
  obtain ⟨r6, hr6, hF⟩ := bindS hF
  refine G.op1 (op_call (sv := .tup [.g (.agg [.sl 2 (List.map encApi_Range r6.1.Ranges), .sl 1 (List.map encI_i64 r6.1.Owners), .sl 1 (List.map encI_i64 r6.1.Parents)]), bB r6.2]) cf21 (ct_wire_ReadRow s5 r6 hr6) rfl (EvL.cons (Ev.t 27 (bS s5)) EvL.nil) rfl) rfl ⟨rfl, trivial⟩ trivial ?_
  refine G.op1 (op_moveS (t := 28) (sv := .tup [.g (.agg [.sl 2 (List.map encApi_Range r6.1.Ranges), .sl 1 (List.map encI_i64 r6.1.Owners), .sl 1 (List.map encI_i64 r6.1.Parents)]), bB r6.2]) rfl) rfl ⟨rfl, trivial⟩ trivial ?_
  refine G.op1 (op_extract (l := [.g (.agg [.sl 2 (List.map encApi_Range r6.1.Ranges), .sl 1 (List.map encI_i64 r6.1.Owners), .sl 1 (List.map encI_i64 r6.1.Parents)]), bB r6.2]) (c := .g (.agg [.sl 2 (List.map encApi_Range r6.1.Ranges), .sl 1 (List.map encI_i64 r6.1.Owners), .sl 1 (List.map encI_i64 r6.1.Parents)])) rfl rfl) rfl ⟨rfl, trivial⟩ trivial ?_
  refine G.op1 (op_extract (l := [.g (.agg [.sl 2 (List.map encApi_Range r6.1.Ranges), .sl 1 (List.map encI_i64 r6.1.Owners), .sl 1 (List.map encI_i64 r6.1.Parents)]), bB r6.2]) (c := bB r6.2) rfl rfl) rfl ⟨rfl, trivial⟩ trivial ?_
  refine G.op2 (op_alloc (k := 1010) (cs := [.g (.d (.sl 2 (List.map encApi_Range ([] : (List Api_Range))))), .g (.d (.sl 1 (List.map encI_i64 ([] : (List Int))))), .g (.d (.sl 1 (List.map encI_i64 ([] : (List Int)))))]) ti44 ⟨.n 2, .n 1, .n 1, trivial⟩ rfl) rfl trivial ⟨rfl, trivial⟩ ?_
  refine G.op3 (op_storeA (cs' := [.g (.d (.sl 2 (List.map encApi_Range r6.1.Ranges))), .g (.d (.sl 1 (List.map encI_i64 r6.1.Owners))), .g (.d (.sl 1 (List.map encI_i64 r6.1.Parents)))]) ti44 rfl rfl (Ev.t 10 (.ptr 1010 0)) (Ev.t 29 (.g (.agg [.sl 2 (List.map encApi_Range r6.1.Ranges), .sl 1 (List.map encI_i64 r6.1.Owners), .sl 1 (List.map encI_i64 r6.1.Parents)])))) rfl ⟨rfl, rfl, trivial⟩ ⟨rfl, trivial⟩ ?_
  refine G.op1 (op_assign (Ev.t 30 (bB r6.2)) rfl) rfl ⟨rfl, trivial⟩ trivial ?_
  refine G.endOps ?_
  refine G.seq ?_
  refine G.region ?_
  refine G.op1 (op_move (Ev.t 5 (bB r1)) rfl) rfl ⟨rfl, trivial⟩ trivial ?_
  refine G.op1 (op_move (Ev.t 31 (bB r1)) rfl) rfl ⟨rfl, trivial⟩ trivial ?_
  refine G.joinL (T := Bool) 5 (fun y7 => ⟨[(6, .one (.ptr 1006 0)), (8, .one (.ptr 1008 0)), (9, .one (bB r4.2)), (11, .one (bB r6.2)), (37, .one (bB y7))], [(1006, some (.blk 44 [.g (.d (.sl 2 (List.map encApi_Range r2.Ranges))), .g (.d (.sl 1 (List.map encI_i64 r2.Owners))), .g (.d (.sl 1 (List.map encI_i64 r2.Parents)))])), (1008, some (.blk 44 [.g (.d (.sl 2 (List.map encApi_Range r4.1.Ranges))), .g (.d (.sl 1 (List.map encI_i64 r4.1.Owners))), .g (.d (.sl 1 (List.map encI_i64 r4.1.Parents)))]))]⟩) (fun y7 => law06_WireRows_k1 r2 r4 r6 y7 = some r) (fun y7 hF => ?_) (fun J14 => ?_)
  · unfold law06_WireRows_k1 at hF
    refine G.op1 (op_move (Ev.t 37 (bB y7)) rfl) rfl ⟨rfl, trivial⟩ trivial ?_
    refine G.joinL (T := Bool) 2 (fun y8 => ⟨[(6, .one (.ptr 1006 0)), (8, .one (.ptr 1008 0)), (11, .one (bB r6.2)), (40, .one (bB y8))], [(1006, some (.blk 44 [.g (.d (.sl 2 (List.map encApi_Range r2.Ranges))), .g (.d (.sl 1 (List.map encI_i64 r2.Owners))), .g (.d (.sl 1 (List.map encI_i64 r2.Parents)))])), (1008, some (.blk 44 [.g (.d (.sl 2 (List.map encApi_Range r4.1.Ranges))), .g (.d (.sl 1 (List.map encI_i64 r4.1.Owners))), .g (.d (.sl 1 (List.map encI_i64 r4.1.Parents)))]))]⟩) (fun y8 => law06_WireRows_k2 r2 r4 r6 y8 = some r) (fun y8 hF => ?_) (fun J12 => ?_)
    · unfold law06_WireRows_k2 at hF
      refine G.op1 (op_move (Ev.t 40 (bB y8)) rfl) rfl ⟨rfl, trivial⟩ trivial ?_
      refine ifS hF (fun hc9 hF => ?_) (fun hc9 hF => ?_)
      · refine G.known (t := 41) hc9 rfl ?_
        refine G.opG1 (op_loadAP (ds := [.sl 2 (List.map encApi_Range r2.Ranges), .sl 1 (List.map encI_i64 r2.Owners), .sl 1 (List.map encI_i64 r2.Parents)]) Try.underlying44 rfl ti44 rfl (Ev.t 6 (.ptr 1006 0)) rfl) rfl rfl rfl ⟨rfl, trivial⟩ ⟨rfl, trivial⟩ ?_
        refine G.opG1 (op_loadAP (ds := [.sl 2 (List.map encApi_Range r4.1.Ranges), .sl 1 (List.map encI_i64 r4.1.Owners), .sl 1 (List.map encI_i64 r4.1.Parents)]) Try.underlying44 rfl ti44 rfl (Ev.t 8 (.ptr 1008 0)) rfl) rfl rfl rfl ⟨rfl, trivial⟩ ⟨rfl, trivial⟩ ?_
        obtain ⟨r10, hr10, hF⟩ := bindS hF
        refine G.opG1 (op_callQ (sv := .one (bB r10)) cf23 (ct_law06_same r2 r4.1 r10 hr10) rfl rfl (EvQL.cons (EvQ.g (Ev.t 42 (.g (.agg [.sl 2 (List.map encApi_Range r2.Ranges), .sl 1 (List.map encI_i64 r2.Owners), .sl 1 (List.map encI_i64 r2.Parents)])))) (EvQL.cons (EvQ.g (Ev.t 43 (.g (.agg [.sl 2 (List.map encApi_Range r4.1.Ranges), .sl 1 (List.map encI_i64 r4.1.Owners), .sl 1 (List.map encI_i64 r4.1.Parents)])))) EvQL.nil)) rfl) rfl rfl rfl ⟨rfl, rfl, trivial⟩ trivial ?_
        refine G.op1 (op_pickT (Ev.t 41 (bB true)) (Ev.t 44 (bB r10)) rfl) rfl ⟨rfl, rfl, trivial⟩ trivial ?_
        refine G.op1 (op_move (Ev.t 45 (bB r10)) rfl) rfl ⟨rfl, trivial⟩ trivial ?_
        refine ifS hF (fun hc11 hF => ?_) (fun hc11 hF => ?_)
        · refine G.known (t := 46) hc11 rfl ?_
          refine G.opG1 (op_move (Ev.t 11 (bB r6.2)) rfl) rfl rfl rfl ⟨rfl, trivial⟩ trivial ?_
          refine G.opG1 (op_not (Ev.t 47 (bB r6.2)) rfl) rfl rfl rfl ⟨rfl, trivial⟩ trivial ?_
          refine G.op1 (op_pickT (Ev.t 46 (bB true)) (Ev.t 48 (bB (!r6.2))) rfl) rfl ⟨rfl, rfl, trivial⟩ trivial ?_
          refine G.op1 (op_assign (Ev.t 49 (bB (!r6.2))) rfl) rfl ⟨rfl, trivial⟩ trivial ?_
          refine G.endOps ?_
          cases hF
          exact G.ret1 Try.results8 (RVar.tmp 4 _) ⟨rfl, trivial⟩ trivial
        · refine G.known (t := 46) hc11 rfl ?_
          refine G.opN1 rfl rfl rfl rfl rfl ?_
          refine G.opN1 rfl rfl rfl rfl rfl ?_
          refine G.op1 (op_pickF (Ev.t 46 (bB false)) (Ev.c _ rfl) rfl) rfl ⟨rfl, trivial⟩ trivial ?_
          refine G.op1 (op_assign (Ev.t 49 (bB false)) rfl) rfl ⟨rfl, trivial⟩ trivial ?_
          refine G.endOps ?_
          cases hF
          exact G.ret1 Try.results8 (RVar.tmp 4 _) ⟨rfl, trivial⟩ trivial
      · refine G.known (t := 41) hc9 rfl ?_
        refine G.opN1 rfl rfl rfl rfl rfl ?_
        refine G.opN1 rfl rfl rfl rfl rfl ?_
        refine G.opN1 rfl rfl rfl rfl rfl ?_
        refine G.op1 (op_pickF (Ev.t 41 (bB false)) (Ev.c _ rfl) rfl) rfl ⟨rfl, trivial⟩ trivial ?_
        refine G.op1 (op_move (Ev.t 45 (bB false)) rfl) rfl ⟨rfl, trivial⟩ trivial ?_
        refine G.opN1 rfl rfl rfl rfl rfl ?_
        refine G.opN1 rfl rfl rfl rfl rfl ?_
        refine G.op1 (op_pickF (Ev.t 46 (bB false)) (Ev.c _ rfl) rfl) rfl ⟨rfl, trivial⟩ trivial ?_
        refine G.op1 (op_assign (Ev.t 49 (bB false)) rfl) rfl ⟨rfl, trivial⟩ trivial ?_
        refine G.endOps ?_
        cases hF
        exact G.ret1 Try.results8 (RVar.tmp 4 _) ⟨rfl, trivial⟩ trivial
    refine ifS hF (fun hc13 hF => ?_) (fun hc13 hF => ?_)
    · refine G.known (t := 38) hc13 rfl ?_
      refine G.opG1 (op_move (Ev.t 9 (bB r4.2)) rfl) rfl rfl rfl ⟨rfl, trivial⟩ trivial ?_
      refine G.op1 (op_pickT (Ev.t 38 (bB true)) (Ev.t 39 (bB r4.2)) rfl) rfl ⟨rfl, rfl, trivial⟩ trivial ?_
      exact G.arr (J12 r4.2 hF) ⟨rfl, rfl, rfl, rfl, trivial⟩ ⟨rfl, rfl, trivial⟩ rfl
    · refine G.known (t := 38) hc13 rfl ?_
      refine G.opN1 rfl rfl rfl rfl rfl ?_
      refine G.op1 (op_pickF (Ev.t 38 (bB false)) (Ev.c _ rfl) rfl) rfl ⟨rfl, trivial⟩ trivial ?_
      exact G.arr (J12 false hF) ⟨rfl, rfl, rfl, rfl, trivial⟩ ⟨rfl, rfl, trivial⟩ rfl
  refine ifS hF (fun hc15 hF => ?_) (fun hc15 hF => ?_)
  · refine G.known (t := 32) hc15 rfl ?_
    refine G.opG1 (op_move (Ev.t 7 (bS r3)) rfl) rfl rfl rfl ⟨rfl, trivial⟩ trivial ?_
    refine G.opG1 (op_loadAP (ds := [.sl 2 (List.map encApi_Range r2.Ranges), .sl 1 (List.map encI_i64 r2.Owners), .sl 1 (List.map encI_i64 r2.Parents)]) Try.underlying44 rfl ti44 rfl (Ev.t 6 (.ptr 1006 0)) rfl) rfl rfl rfl ⟨rfl, trivial⟩ ⟨rfl, trivial⟩ ?_
    obtain ⟨r16, hr16, hF⟩ := bindS hF
    refine G.opG1 (op_callQ (sv := .one (bS r16)) cf22 (ct_ref06_RowBytes r2 r16 hr16) rfl rfl (EvQL.cons (EvQ.g (Ev.t 34 (.g (.agg [.sl 2 (List.map encApi_Range r2.Ranges), .sl 1 (List.map encI_i64 r2.Owners), .sl 1 (List.map encI_i64 r2.Parents)])))) EvQL.nil) rfl) rfl rfl rfl ⟨rfl, trivial⟩ trivial ?_
    refine G.opG1 (op_eqS (Ev.t 33 (bS r3)) (Ev.t 35 (bS r16)) rfl) rfl rfl rfl ⟨rfl, rfl, trivial⟩ trivial ?_
    refine G.op1 (op_pickT (Ev.t 32 (bB true)) (Ev.t 36 (bB (seq r3 r16))) rfl) rfl ⟨rfl, rfl, trivial⟩ trivial ?_
    exact G.arr (J14 (seq r3 r16) hF) ⟨rfl, rfl, rfl, rfl, rfl, trivial⟩ ⟨rfl, rfl, trivial⟩ rfl
  · refine G.known (t := 32) hc15 rfl ?_
    refine G.opN1 rfl rfl rfl rfl rfl ?_
    refine G.opN1 rfl rfl rfl rfl rfl ?_
    refine G.opN1 rfl rfl rfl rfl rfl ?_
    refine G.opN1 rfl rfl rfl rfl rfl ?_
    refine G.op1 (op_pickF (Ev.t 32 (bB false)) (Ev.c _ rfl) rfl) rfl ⟨rfl, trivial⟩ trivial ?_
    exact G.arr (J14 false hF) ⟨rfl, rfl, rfl, rfl, rfl, trivial⟩ ⟨rfl, rfl, trivial⟩ rfl


end Go.Ark
