/- Walks, printed by a program of mine: each function of the program computes the typed function of its name. Conditions: none. -/
import Derived.Test.YtedpjlinmkingaaWPastChecks1
namespace Go.Ark
open Go Go.Ab Go.RowKit Go.Lib Go.Proofs

set_option maxRecDepth 20000 in
set_option maxHeartbeats 2000000 in
theorem ct_ref04_Check (p_0 : (List Api_Dep)) (r : Bool) (hF : ref04_Check p_0 = some r) : Ct Try.prog 24 [.g (.d (.sl 3 (List.map encApi_Dep p_0)))] (.one (.d (.v (.bool r)))) := by
  unfold ref04_Check at hF
  refine Ct.intro Try.func24 rfl Try.ntmps24 rfl rfl fun M w => ?_
  refine G.seq ?_
  refine G.region ?_
  refine G.op1 (op_assign (Ev.c _ rfl) rfl) rfl trivial trivial ?_
  refine G.endOps ?_
  refine G.seq ?_
  refine G.seq ?_
  refine G.region ?_
  refine G.op1 (op_assign (Ev.c _ rfl) rfl) rfl trivial trivial ?_
  refine G.endOps ?_
  refine G.joinC (T := Unit) (fun y1 => ⟨[(0, .one (.g (.d (.sl 3 (List.map encApi_Dep p_0)))))], []⟩) (fun y1 => ref04_Check_k1 p_0 y1 = some r) (fun y1 hF => ?_) (fun J2 => ?_)
  · unfold ref04_Check_k1 at hF
    refine G.seq ?_
    refine G.region ?_
    refine G.op1 (op_move (Ev.t 0 (.g (.d (.sl 3 (List.map encApi_Dep p_0))))) rfl) rfl ⟨rfl, trivial⟩ trivial ?_
    refine G.op1 (OpL.cast (op_lenD Try.underlying22 (Ev.t 48 (.g (.d (.sl 3 (List.map encApi_Dep p_0))))) rfl) (by rw [List.length_map])) rfl ⟨rfl, trivial⟩ trivial ?_
    refine G.op1 (op_leq (Ev.t 49 (bI .i64 (p_0.length : Int))) (Ev.c _ rfl) rfl) rfl ⟨rfl, trivial⟩ trivial ?_
    refine G.op1 (op_assign (Ev.t 50 (bB (decide ((p_0.length : Int) ≤ 24)))) rfl) rfl ⟨rfl, trivial⟩ trivial ?_
    refine G.endOps ?_
    cases hF
    exact G.ret1 Try.results24 (RVar.tmp 2 _) ⟨rfl, trivial⟩ trivial
  refine G.block ?_
  refine G.keep (sl' := [(0, .one (.g (.d (.sl 3 (List.map encApi_Dep p_0))))), (3, .one (bI .i64 0))]) (hp' := []) ⟨rfl, rfl, trivial⟩ trivial rfl ?_
  refine G.loopF (fun (v3 : Int) => ⟨[(0, .one (.g (.d (.sl 3 (List.map encApi_Dep p_0))))), (3, .one (bI .i64 v3))], []⟩) hF rfl (fun K6 again5 v3 J4 hF => ?_)
  unfold ref04_Check_l2 at hF
  refine G.seq ?_
  refine G.seq ?_
  refine G.region ?_
  refine G.op1 (op_move (Ev.t 3 (bI .i64 v3)) rfl) rfl ⟨rfl, trivial⟩ trivial ?_
  refine G.op1 (op_move (Ev.t 0 (.g (.d (.sl 3 (List.map encApi_Dep p_0))))) rfl) rfl ⟨rfl, trivial⟩ trivial ?_
  refine G.op1 (OpL.cast (op_lenD Try.underlying22 (Ev.t 7 (.g (.d (.sl 3 (List.map encApi_Dep p_0))))) rfl) (by rw [List.length_map])) rfl ⟨rfl, trivial⟩ trivial ?_
  refine G.op1 (op_lss (Ev.t 6 (bI .i64 v3)) (Ev.t 8 (bI .i64 (p_0.length : Int))) rfl) rfl ⟨rfl, rfl, trivial⟩ trivial ?_
  refine G.endOps ?_
  refine ifS hF (fun hc7 hF => ?_) (fun hc7 hF => ?_)
  · refine G.cond rfl (fun _ => ?_) (fun hx => by rw [hc7] at hx; cases hx)
    refine G.skip ?_
    refine G.seq ?_
    refine G.block ?_
    refine G.seq ?_
    refine G.region ?_
    refine G.op1 (op_move (Ev.t 0 (.g (.d (.sl 3 (List.map encApi_Dep p_0))))) rfl) rfl ⟨rfl, trivial⟩ trivial ?_
    refine G.op1 (op_move (Ev.t 3 (bI .i64 v3)) rfl) rfl ⟨rfl, trivial⟩ trivial ?_
    obtain ⟨x8, hx8, hF⟩ := bindS hF
    refine G.op1 (op_index (cs := [.v (.string x8.Key), .v (.int .i64 x8.Stamp.N), .v (.int .i64 x8.Stamp.Site)]) Try.underlying22 ti26 (idx_ok hx8).1 (idx_get hx8 encApi_Dep) (Ev.t 12 (.g (.d (.sl 3 (List.map encApi_Dep p_0))))) (Ev.t 13 (bI .i64 v3)) rfl) rfl ⟨rfl, rfl, trivial⟩ trivial ?_
    refine G.op1 (op_fieldE (cs' := [.v (.string x8.Key), .v (.int .i64 x8.Stamp.N), .v (.int .i64 x8.Stamp.Site)]) Try.underlying26 rfl ti9 (by decide) rfl (Ev.t 14 (.ep [.v (.string x8.Key), .v (.int .i64 x8.Stamp.N), .v (.int .i64 x8.Stamp.Site)])) rfl) rfl ⟨rfl, trivial⟩ trivial ?_
    refine G.op1 (op_load1E (c := .v (.string x8.Key)) Try.underlying9 rfl rfl (Ev.t 15 (.ep [.v (.string x8.Key), .v (.int .i64 x8.Stamp.N), .v (.int .i64 x8.Stamp.Site)])) rfl) rfl ⟨rfl, trivial⟩ trivial ?_
    obtain ⟨r9, hr9, hF⟩ := bindS hF
    refine G.op1 (op_callQ (sv := .one (bB r9)) cf39 (ct_ref02_Check x8.Key r9 hr9) rfl rfl (EvQL.cons (EvQ.g (Ev.t 16 (bS x8.Key))) EvQL.nil) rfl) rfl ⟨rfl, trivial⟩ trivial ?_
    refine G.op1 (op_assign (Ev.t 17 (bB r9)) rfl) rfl ⟨rfl, trivial⟩ trivial ?_
    refine G.endOps ?_
    refine G.seq ?_
    refine G.region ?_
    refine G.op1 (op_move (Ev.t 0 (.g (.d (.sl 3 (List.map encApi_Dep p_0))))) rfl) rfl ⟨rfl, trivial⟩ trivial ?_
    refine G.op1 (op_move (Ev.t 3 (bI .i64 v3)) rfl) rfl ⟨rfl, trivial⟩ trivial ?_
    obtain ⟨x10, hx10, hF⟩ := bindS hF
    refine G.op1 (op_index (cs := [.v (.string x10.Key), .v (.int .i64 x10.Stamp.N), .v (.int .i64 x10.Stamp.Site)]) Try.underlying22 ti26 (idx_ok hx10).1 (idx_get hx10 encApi_Dep) (Ev.t 18 (.g (.d (.sl 3 (List.map encApi_Dep p_0))))) (Ev.t 19 (bI .i64 v3)) rfl) rfl ⟨rfl, rfl, trivial⟩ trivial ?_
    refine G.op1 (op_fieldE (cs' := [.v (.int .i64 x10.Stamp.N), .v (.int .i64 x10.Stamp.Site)]) Try.underlying26 rfl ti24 (by decide) rfl (Ev.t 20 (.ep [.v (.string x10.Key), .v (.int .i64 x10.Stamp.N), .v (.int .i64 x10.Stamp.Site)])) rfl) rfl ⟨rfl, trivial⟩ trivial ?_
    refine G.op1 (op_loadAE (ds := [.v (.int .i64 x10.Stamp.N), .v (.int .i64 x10.Stamp.Site)]) Try.underlying24 rfl ti24 rfl (Ev.t 21 (.ep [.v (.int .i64 x10.Stamp.N), .v (.int .i64 x10.Stamp.Site)])) rfl) rfl ⟨rfl, trivial⟩ trivial ?_
    obtain ⟨r11, hr11, hF⟩ := bindS hF
    refine G.op1 (op_callQ (sv := .one (bB r11)) cf40 (ct_ref03_Check x10.Stamp r11 hr11) rfl rfl (EvQL.cons (EvQ.g (Ev.t 22 (.g (.agg [.v (.int .i64 x10.Stamp.N), .v (.int .i64 x10.Stamp.Site)])))) EvQL.nil) rfl) rfl ⟨rfl, trivial⟩ trivial ?_
    refine G.op1 (op_assign (Ev.t 23 (bB r11)) rfl) rfl ⟨rfl, trivial⟩ trivial ?_
    refine G.endOps ?_
    refine G.seq ?_
    refine ifS hF (fun hc12 hF => ?_) (fun hc12 hF => ?_)
    · refine G.drawn (effs := (⟨[(4, .one (bB r9))], [], [(24, .one (bB r9))], []⟩ :: ⟨[(24, .one (bB r9))], [], [(25, .one (bB true))], []⟩ :: ⟨[(25, .one (bB true))], [], [(26, .one (bB true))], []⟩ :: ⟨[(26, .one (bB true))], [], [(27, .one (.x Go.undef))], []⟩ :: ⟨[(26, .one (bB true))], [], [(28, .one (.x Go.undef))], []⟩ :: ⟨[(26, .one (bB true))], [], [(29, .one (bB true))], []⟩ :: ⟨[(29, .one (bB true))], [], [(30, .one (bB true))], []⟩ :: ⟨[(30, .one (bB true))], [], [(31, .one (.x Go.undef))], []⟩ :: ⟨[(30, .one (bB true))], [], [(32, .one (.x Go.undef))], []⟩ :: ⟨[(30, .one (bB true))], [], [(33, .one (.x Go.undef))], []⟩ :: ⟨[(33, .one (.x Go.undef))], [], [(34, .one (.x Go.undef))], []⟩ :: ⟨[(33, .one (.x Go.undef))], [], [(35, .one (.x Go.undef))], []⟩ :: ⟨[(33, .one (.x Go.undef))], [], [(36, .one (.x Go.undef))], []⟩ :: ⟨[(33, .one (.x Go.undef))], [], [(37, .one (.x Go.undef))], []⟩ :: ⟨[(33, .one (.x Go.undef))], [], [(38, .one (.x Go.undef))], []⟩ :: ⟨[(33, .one (.x Go.undef))], [], [(39, .one (.x Go.undef))], []⟩ :: ⟨[(33, .one (.x Go.undef))], [], [(40, .one (.x Go.undef))], []⟩ :: ⟨[(33, .one (.x Go.undef))], [], [(41, .one (.x Go.undef))], []⟩ :: ⟨[(33, .one (.x Go.undef))], [], [(42, .one (.x Go.undef))], []⟩ :: ⟨[(33, .one (.x Go.undef))], [], [(43, .one (.x Go.undef))], []⟩ :: ⟨[(33, .one (.x Go.undef))], [], [(44, .one (.x Go.undef))], []⟩ :: ⟨[(33, .one (.x Go.undef))], [], [(45, .one (.x Go.undef))], []⟩ :: ⟨[(30, .one (bB true))], [], [(46, .one (.x Go.undef))], []⟩ :: ⟨[(30, .one (bB true))], [], [(47, .one (bB true))], []⟩ :: [])) (deps := ([] :: [0] :: [0, 1] :: [0, 1, 2] :: [0, 1, 2, 3] :: [0, 1, 2, 3, 4] :: [0, 1, 2, 3, 4, 5] :: [0, 1, 2, 3, 4, 5, 6] :: [0, 1, 2, 3, 4, 5, 6, 7] :: [0, 1, 2, 3, 4, 5, 6, 7, 8] :: [0, 1, 2, 3, 4, 5, 6, 7, 8, 9] :: [0, 1, 2, 3, 4, 5, 6, 7, 8, 9] :: [0, 1, 2, 3, 4, 5, 6, 7, 8, 9, 11] :: [0, 1, 2, 3, 4, 5, 6, 7, 8, 9, 10, 11, 12] :: [0, 1, 2, 3, 4, 5, 6, 7, 8, 9, 10, 11, 12, 13] :: [0, 1, 2, 3, 4, 5, 6, 7, 8, 9, 10, 11, 12, 13, 14] :: [0, 1, 2, 3, 4, 5, 6, 7, 8, 9] :: [0, 1, 2, 3, 4, 5, 6, 7, 8, 9] :: [0, 1, 2, 3, 4, 5, 6, 7, 8, 9, 16, 17] :: [0, 1, 2, 3, 4, 5, 6, 7, 8, 9, 16, 17, 18] :: [0, 1, 2, 3, 4, 5, 6, 7, 8, 9, 16, 17, 18, 19] :: (0 :: 1 :: 2 :: 3 :: 4 :: 5 :: 6 :: 7 :: 8 :: 9 :: 10 :: 11 :: 12 :: 13 :: 14 :: 15 :: 16 :: 17 :: 18 :: 19 :: 20 :: []) :: (0 :: 1 :: 2 :: 3 :: 4 :: 5 :: 6 :: 7 :: 8 :: 9 :: 10 :: 11 :: 12 :: 13 :: 14 :: 15 :: 16 :: 17 :: 18 :: 19 :: 20 :: 21 :: []) :: (0 :: 1 :: 2 :: 3 :: 4 :: 5 :: 6 :: 7 :: 8 :: 9 :: 10 :: 11 :: 12 :: 13 :: 14 :: 15 :: 16 :: 17 :: 18 :: 19 :: 20 :: 21 :: 22 :: []) :: [])) (sl' := [(0, .one (.g (.d (.sl 3 (List.map encApi_Dep p_0))))), (3, .one (bI .i64 v3)), (47, .one (bB true))]) (hp' := []) follows rfl rfl rfl ⟨⟨rfl, trivial⟩, trivial, ⟨rfl, trivial⟩, trivial, ⟨rfl, trivial⟩, trivial, ⟨rfl, trivial⟩, trivial, ⟨rfl, trivial⟩, trivial, ⟨rfl, trivial⟩, trivial, ⟨rfl, trivial⟩, trivial, ⟨rfl, trivial⟩, trivial, ⟨rfl, trivial⟩, trivial, ⟨rfl, trivial⟩, trivial, ⟨rfl, trivial⟩, trivial, ⟨rfl, trivial⟩, trivial, ⟨rfl, trivial⟩, trivial, ⟨rfl, trivial⟩, trivial, ⟨rfl, trivial⟩, trivial, ⟨rfl, trivial⟩, trivial, ⟨rfl, trivial⟩, trivial, ⟨rfl, trivial⟩, trivial, ⟨rfl, trivial⟩, trivial, ⟨rfl, trivial⟩, trivial, ⟨rfl, trivial⟩, trivial, ⟨rfl, trivial⟩, trivial, ⟨rfl, trivial⟩, trivial, ⟨rfl, trivial⟩, trivial, trivial⟩ ⟨OpW.plain (op_move (Ev.t 4 (bB r9)) rfl) rfl rfl, OpW.plain (OpL.cast (op_not (Ev.t 24 (bB r9)) rfl) (congrArg (fun b => bB b) hc12)) rfl rfl, OpW.plain (op_move (Ev.t 25 (bB true)) rfl) rfl rfl, OpW.no rfl rfl rfl rfl rfl, OpW.no rfl rfl rfl rfl rfl, OpW.plain (op_pickT (Ev.t 26 (bB true)) (Ev.c _ rfl) rfl) rfl rfl, OpW.plain (op_move (Ev.t 29 (bB true)) rfl) rfl rfl, OpW.no rfl rfl rfl rfl rfl, OpW.no rfl rfl rfl rfl rfl, OpW.no rfl rfl rfl rfl rfl, OpW.un rfl rfl rfl rfl, OpW.un rfl rfl rfl rfl, OpW.un rfl rfl rfl rfl, OpW.un rfl rfl rfl rfl, OpW.un rfl rfl rfl rfl, OpW.un rfl rfl rfl rfl, OpW.un rfl rfl rfl rfl, OpW.un rfl rfl rfl rfl, OpW.un rfl rfl rfl rfl, OpW.un rfl rfl rfl rfl, OpW.un rfl rfl rfl rfl, OpW.un rfl rfl rfl rfl, OpW.no rfl rfl rfl rfl rfl, OpW.plain (op_pickT (Ev.t 30 (bB true)) (Ev.c _ rfl) rfl) rfl rfl, trivial⟩ ⟨rfl, rfl, rfl, trivial⟩ trivial rfl ?_
      refine G.condT rfl ?_
      refine G.seq ?_
      refine G.region ?_
      refine G.op1 (op_assign (Ev.c _ rfl) rfl) rfl trivial trivial ?_
      refine G.endOps ?_
      cases hF
      exact G.ret1 Try.results24 (RVar.tmp 2 _) ⟨rfl, trivial⟩ trivial
    · refine ifS hF (fun hc13 hF => ?_) (fun hc13 hF => ?_)
      · refine G.drawn (effs := (⟨[(4, .one (bB r9))], [], [(24, .one (bB r9))], []⟩ :: ⟨[(24, .one (bB r9))], [], [(25, .one (bB false))], []⟩ :: ⟨[(25, .one (bB false))], [], [(26, .one (bB false))], []⟩ :: ⟨[(26, .one (bB false)), (5, .one (bB r11))], [], [(27, .one (bB r11))], []⟩ :: ⟨[(26, .one (bB false)), (27, .one (bB r11))], [], [(28, .one (bB true))], []⟩ :: ⟨[(26, .one (bB false)), (28, .one (bB true))], [], [(29, .one (bB true))], []⟩ :: ⟨[(29, .one (bB true))], [], [(30, .one (bB true))], []⟩ :: ⟨[(30, .one (bB true))], [], [(31, .one (.x Go.undef))], []⟩ :: ⟨[(30, .one (bB true))], [], [(32, .one (.x Go.undef))], []⟩ :: ⟨[(30, .one (bB true))], [], [(33, .one (.x Go.undef))], []⟩ :: ⟨[(33, .one (.x Go.undef))], [], [(34, .one (.x Go.undef))], []⟩ :: ⟨[(33, .one (.x Go.undef))], [], [(35, .one (.x Go.undef))], []⟩ :: ⟨[(33, .one (.x Go.undef))], [], [(36, .one (.x Go.undef))], []⟩ :: ⟨[(33, .one (.x Go.undef))], [], [(37, .one (.x Go.undef))], []⟩ :: ⟨[(33, .one (.x Go.undef))], [], [(38, .one (.x Go.undef))], []⟩ :: ⟨[(33, .one (.x Go.undef))], [], [(39, .one (.x Go.undef))], []⟩ :: ⟨[(33, .one (.x Go.undef))], [], [(40, .one (.x Go.undef))], []⟩ :: ⟨[(33, .one (.x Go.undef))], [], [(41, .one (.x Go.undef))], []⟩ :: ⟨[(33, .one (.x Go.undef))], [], [(42, .one (.x Go.undef))], []⟩ :: ⟨[(33, .one (.x Go.undef))], [], [(43, .one (.x Go.undef))], []⟩ :: ⟨[(33, .one (.x Go.undef))], [], [(44, .one (.x Go.undef))], []⟩ :: ⟨[(33, .one (.x Go.undef))], [], [(45, .one (.x Go.undef))], []⟩ :: ⟨[(30, .one (bB true))], [], [(46, .one (.x Go.undef))], []⟩ :: ⟨[(30, .one (bB true))], [], [(47, .one (bB true))], []⟩ :: [])) (deps := ([] :: [0] :: [0, 1] :: [0, 1, 2] :: [0, 1, 2, 3] :: [0, 1, 2, 3, 4] :: [0, 1, 2, 3, 4, 5] :: [0, 1, 2, 3, 4, 5, 6] :: [0, 1, 2, 3, 4, 5, 6, 7] :: [0, 1, 2, 3, 4, 5, 6, 7, 8] :: [0, 1, 2, 3, 4, 5, 6, 7, 8, 9] :: [0, 1, 2, 3, 4, 5, 6, 7, 8, 9] :: [0, 1, 2, 3, 4, 5, 6, 7, 8, 9, 11] :: [0, 1, 2, 3, 4, 5, 6, 7, 8, 9, 10, 11, 12] :: [0, 1, 2, 3, 4, 5, 6, 7, 8, 9, 10, 11, 12, 13] :: [0, 1, 2, 3, 4, 5, 6, 7, 8, 9, 10, 11, 12, 13, 14] :: [0, 1, 2, 3, 4, 5, 6, 7, 8, 9] :: [0, 1, 2, 3, 4, 5, 6, 7, 8, 9] :: [0, 1, 2, 3, 4, 5, 6, 7, 8, 9, 16, 17] :: [0, 1, 2, 3, 4, 5, 6, 7, 8, 9, 16, 17, 18] :: [0, 1, 2, 3, 4, 5, 6, 7, 8, 9, 16, 17, 18, 19] :: (0 :: 1 :: 2 :: 3 :: 4 :: 5 :: 6 :: 7 :: 8 :: 9 :: 10 :: 11 :: 12 :: 13 :: 14 :: 15 :: 16 :: 17 :: 18 :: 19 :: 20 :: []) :: (0 :: 1 :: 2 :: 3 :: 4 :: 5 :: 6 :: 7 :: 8 :: 9 :: 10 :: 11 :: 12 :: 13 :: 14 :: 15 :: 16 :: 17 :: 18 :: 19 :: 20 :: 21 :: []) :: (0 :: 1 :: 2 :: 3 :: 4 :: 5 :: 6 :: 7 :: 8 :: 9 :: 10 :: 11 :: 12 :: 13 :: 14 :: 15 :: 16 :: 17 :: 18 :: 19 :: 20 :: 21 :: 22 :: []) :: [])) (sl' := [(0, .one (.g (.d (.sl 3 (List.map encApi_Dep p_0))))), (3, .one (bI .i64 v3)), (47, .one (bB true))]) (hp' := []) follows rfl rfl rfl ⟨⟨rfl, trivial⟩, trivial, ⟨rfl, trivial⟩, trivial, ⟨rfl, trivial⟩, trivial, ⟨rfl, rfl, trivial⟩, trivial, ⟨rfl, rfl, trivial⟩, trivial, ⟨rfl, rfl, trivial⟩, trivial, ⟨rfl, trivial⟩, trivial, ⟨rfl, trivial⟩, trivial, ⟨rfl, trivial⟩, trivial, ⟨rfl, trivial⟩, trivial, ⟨rfl, trivial⟩, trivial, ⟨rfl, trivial⟩, trivial, ⟨rfl, trivial⟩, trivial, ⟨rfl, trivial⟩, trivial, ⟨rfl, trivial⟩, trivial, ⟨rfl, trivial⟩, trivial, ⟨rfl, trivial⟩, trivial, ⟨rfl, trivial⟩, trivial, ⟨rfl, trivial⟩, trivial, ⟨rfl, trivial⟩, trivial, ⟨rfl, trivial⟩, trivial, ⟨rfl, trivial⟩, trivial, ⟨rfl, trivial⟩, trivial, ⟨rfl, trivial⟩, trivial, trivial⟩ ⟨OpW.plain (op_move (Ev.t 4 (bB r9)) rfl) rfl rfl, OpW.plain (OpL.cast (op_not (Ev.t 24 (bB r9)) rfl) (congrArg (fun b => bB b) hc12)) rfl rfl, OpW.plain (op_move (Ev.t 25 (bB false)) rfl) rfl rfl, OpW.yes (op_move (Ev.t 5 (bB r11)) rfl) rfl rfl rfl, OpW.yes (OpL.cast (op_not (Ev.t 27 (bB r11)) rfl) (congrArg (fun b => bB b) hc13)) rfl rfl rfl, OpW.plain (op_pickF (Ev.t 26 (bB false)) (Ev.t 28 (bB true)) rfl) rfl rfl, OpW.plain (op_move (Ev.t 29 (bB true)) rfl) rfl rfl, OpW.no rfl rfl rfl rfl rfl, OpW.no rfl rfl rfl rfl rfl, OpW.no rfl rfl rfl rfl rfl, OpW.un rfl rfl rfl rfl, OpW.un rfl rfl rfl rfl, OpW.un rfl rfl rfl rfl, OpW.un rfl rfl rfl rfl, OpW.un rfl rfl rfl rfl, OpW.un rfl rfl rfl rfl, OpW.un rfl rfl rfl rfl, OpW.un rfl rfl rfl rfl, OpW.un rfl rfl rfl rfl, OpW.un rfl rfl rfl rfl, OpW.un rfl rfl rfl rfl, OpW.un rfl rfl rfl rfl, OpW.no rfl rfl rfl rfl rfl, OpW.plain (op_pickT (Ev.t 30 (bB true)) (Ev.c _ rfl) rfl) rfl rfl, trivial⟩ ⟨rfl, rfl, rfl, trivial⟩ trivial rfl ?_
        refine G.condT rfl ?_
        refine G.seq ?_
        refine G.region ?_
        refine G.op1 (op_assign (Ev.c _ rfl) rfl) rfl trivial trivial ?_
        refine G.endOps ?_
        cases hF
        exact G.ret1 Try.results24 (RVar.tmp 2 _) ⟨rfl, trivial⟩ trivial
      · refine ifS hF (fun hc14 hF => ?_) (fun hc14 hF => ?_)
        · obtain ⟨x15, hx15, hF⟩ := bindS hF
          obtain ⟨x16, hx16, hF⟩ := bindS hF
          refine G.drawn (effs := (⟨[(4, .one (bB r9))], [], [(24, .one (bB r9))], []⟩ :: ⟨[(24, .one (bB r9))], [], [(25, .one (bB false))], []⟩ :: ⟨[(25, .one (bB false))], [], [(26, .one (bB false))], []⟩ :: ⟨[(26, .one (bB false)), (5, .one (bB r11))], [], [(27, .one (bB r11))], []⟩ :: ⟨[(26, .one (bB false)), (27, .one (bB r11))], [], [(28, .one (bB false))], []⟩ :: ⟨[(26, .one (bB false)), (28, .one (bB false))], [], [(29, .one (bB false))], []⟩ :: ⟨[(29, .one (bB false))], [], [(30, .one (bB false))], []⟩ :: ⟨[(30, .one (bB false)), (3, .one (bI .i64 v3))], [], [(31, .one (bI .i64 v3))], []⟩ :: ⟨[(30, .one (bB false)), (31, .one (bI .i64 v3))], [], [(32, .one (bB true))], []⟩ :: ⟨[(30, .one (bB false)), (32, .one (bB true))], [], [(33, .one (bB true))], []⟩ :: ⟨[(33, .one (bB true)), (0, .one (.g (.d (.sl 3 (List.map encApi_Dep p_0)))))], [], [(34, .one (.g (.d (.sl 3 (List.map encApi_Dep p_0)))))], []⟩ :: ⟨[(33, .one (bB true)), (3, .one (bI .i64 v3))], [], [(35, .one (bI .i64 v3))], []⟩ :: ⟨[(33, .one (bB true)), (35, .one (bI .i64 v3))], [], [(36, .one (bI .i64 (IntKind.wrap .i64 (v3 - 1))))], []⟩ :: ⟨[(33, .one (bB true)), (34, .one (.g (.d (.sl 3 (List.map encApi_Dep p_0))))), (36, .one (bI .i64 (IntKind.wrap .i64 (v3 - 1))))], [], [(37, .one (.ep [.v (.string x15.Key), .v (.int .i64 x15.Stamp.N), .v (.int .i64 x15.Stamp.Site)]))], []⟩ :: ⟨[(33, .one (bB true)), (37, .one (.ep [.v (.string x15.Key), .v (.int .i64 x15.Stamp.N), .v (.int .i64 x15.Stamp.Site)]))], [], [(38, .one (.ep [.v (.string x15.Key), .v (.int .i64 x15.Stamp.N), .v (.int .i64 x15.Stamp.Site)]))], []⟩ :: ⟨[(33, .one (bB true)), (38, .one (.ep [.v (.string x15.Key), .v (.int .i64 x15.Stamp.N), .v (.int .i64 x15.Stamp.Site)]))], [], [(39, .one (bS x15.Key))], []⟩ :: ⟨[(33, .one (bB true)), (0, .one (.g (.d (.sl 3 (List.map encApi_Dep p_0)))))], [], [(40, .one (.g (.d (.sl 3 (List.map encApi_Dep p_0)))))], []⟩ :: ⟨[(33, .one (bB true)), (3, .one (bI .i64 v3))], [], [(41, .one (bI .i64 v3))], []⟩ :: ⟨[(33, .one (bB true)), (40, .one (.g (.d (.sl 3 (List.map encApi_Dep p_0))))), (41, .one (bI .i64 v3))], [], [(42, .one (.ep [.v (.string x16.Key), .v (.int .i64 x16.Stamp.N), .v (.int .i64 x16.Stamp.Site)]))], []⟩ :: ⟨[(33, .one (bB true)), (42, .one (.ep [.v (.string x16.Key), .v (.int .i64 x16.Stamp.N), .v (.int .i64 x16.Stamp.Site)]))], [], [(43, .one (.ep [.v (.string x16.Key), .v (.int .i64 x16.Stamp.N), .v (.int .i64 x16.Stamp.Site)]))], []⟩ :: ⟨[(33, .one (bB true)), (43, .one (.ep [.v (.string x16.Key), .v (.int .i64 x16.Stamp.N), .v (.int .i64 x16.Stamp.Site)]))], [], [(44, .one (bS x16.Key))], []⟩ :: ⟨[(33, .one (bB true)), (39, .one (bS x15.Key)), (44, .one (bS x16.Key))], [], [(45, .one (bB (!slt x15.Key x16.Key)))], []⟩ :: ⟨[(30, .one (bB false)), (33, .one (bB true)), (45, .one (bB (!slt x15.Key x16.Key)))], [], [(46, .one (bB (!slt x15.Key x16.Key)))], []⟩ :: ⟨[(30, .one (bB false)), (46, .one (bB (!slt x15.Key x16.Key)))], [], [(47, .one (bB (!slt x15.Key x16.Key)))], []⟩ :: [])) (deps := ([] :: [0] :: [0, 1] :: [0, 1, 2] :: [0, 1, 2, 3] :: [0, 1, 2, 3, 4] :: [0, 1, 2, 3, 4, 5] :: [0, 1, 2, 3, 4, 5, 6] :: [0, 1, 2, 3, 4, 5, 6, 7] :: [0, 1, 2, 3, 4, 5, 6, 7, 8] :: [0, 1, 2, 3, 4, 5, 6, 7, 8, 9] :: [0, 1, 2, 3, 4, 5, 6, 7, 8, 9] :: [0, 1, 2, 3, 4, 5, 6, 7, 8, 9, 11] :: [0, 1, 2, 3, 4, 5, 6, 7, 8, 9, 10, 11, 12] :: [0, 1, 2, 3, 4, 5, 6, 7, 8, 9, 10, 11, 12, 13] :: [0, 1, 2, 3, 4, 5, 6, 7, 8, 9, 10, 11, 12, 13, 14] :: [0, 1, 2, 3, 4, 5, 6, 7, 8, 9] :: [0, 1, 2, 3, 4, 5, 6, 7, 8, 9] :: [0, 1, 2, 3, 4, 5, 6, 7, 8, 9, 16, 17] :: [0, 1, 2, 3, 4, 5, 6, 7, 8, 9, 16, 17, 18] :: [0, 1, 2, 3, 4, 5, 6, 7, 8, 9, 16, 17, 18, 19] :: (0 :: 1 :: 2 :: 3 :: 4 :: 5 :: 6 :: 7 :: 8 :: 9 :: 10 :: 11 :: 12 :: 13 :: 14 :: 15 :: 16 :: 17 :: 18 :: 19 :: 20 :: []) :: (0 :: 1 :: 2 :: 3 :: 4 :: 5 :: 6 :: 7 :: 8 :: 9 :: 10 :: 11 :: 12 :: 13 :: 14 :: 15 :: 16 :: 17 :: 18 :: 19 :: 20 :: 21 :: []) :: (0 :: 1 :: 2 :: 3 :: 4 :: 5 :: 6 :: 7 :: 8 :: 9 :: 10 :: 11 :: 12 :: 13 :: 14 :: 15 :: 16 :: 17 :: 18 :: 19 :: 20 :: 21 :: 22 :: []) :: [])) (sl' := [(0, .one (.g (.d (.sl 3 (List.map encApi_Dep p_0))))), (3, .one (bI .i64 v3)), (47, .one (bB (!slt x15.Key x16.Key)))]) (hp' := []) follows rfl rfl rfl ⟨⟨rfl, trivial⟩, trivial, ⟨rfl, trivial⟩, trivial, ⟨rfl, trivial⟩, trivial, ⟨rfl, rfl, trivial⟩, trivial, ⟨rfl, rfl, trivial⟩, trivial, ⟨rfl, rfl, trivial⟩, trivial, ⟨rfl, trivial⟩, trivial, ⟨rfl, rfl, trivial⟩, trivial, ⟨rfl, rfl, trivial⟩, trivial, ⟨rfl, rfl, trivial⟩, trivial, ⟨rfl, rfl, trivial⟩, trivial, ⟨rfl, rfl, trivial⟩, trivial, ⟨rfl, rfl, trivial⟩, trivial, ⟨rfl, rfl, rfl, trivial⟩, trivial, ⟨rfl, rfl, trivial⟩, trivial, ⟨rfl, rfl, trivial⟩, trivial, ⟨rfl, rfl, trivial⟩, trivial, ⟨rfl, rfl, trivial⟩, trivial, ⟨rfl, rfl, rfl, trivial⟩, trivial, ⟨rfl, rfl, trivial⟩, trivial, ⟨rfl, rfl, trivial⟩, trivial, ⟨rfl, rfl, rfl, trivial⟩, trivial, ⟨rfl, rfl, rfl, trivial⟩, trivial, ⟨rfl, rfl, trivial⟩, trivial, trivial⟩ ⟨OpW.plain (op_move (Ev.t 4 (bB r9)) rfl) rfl rfl, OpW.plain (OpL.cast (op_not (Ev.t 24 (bB r9)) rfl) (congrArg (fun b => bB b) hc12)) rfl rfl, OpW.plain (op_move (Ev.t 25 (bB false)) rfl) rfl rfl, OpW.yes (op_move (Ev.t 5 (bB r11)) rfl) rfl rfl rfl, OpW.yes (OpL.cast (op_not (Ev.t 27 (bB r11)) rfl) (congrArg (fun b => bB b) hc13)) rfl rfl rfl, OpW.plain (op_pickF (Ev.t 26 (bB false)) (Ev.t 28 (bB false)) rfl) rfl rfl, OpW.plain (op_move (Ev.t 29 (bB false)) rfl) rfl rfl, OpW.yes (op_move (Ev.t 3 (bI .i64 v3)) rfl) rfl rfl rfl, OpW.yes (OpL.cast (op_gtr (Ev.t 31 (bI .i64 v3)) (Ev.c _ rfl) rfl) (congrArg (fun b => bB b) hc14)) rfl rfl rfl, OpW.yes (op_move (Ev.t 32 (bB true)) rfl) rfl rfl rfl, OpW.yes (op_move (Ev.t 0 (.g (.d (.sl 3 (List.map encApi_Dep p_0))))) rfl) rfl rfl rfl, OpW.yes (op_move (Ev.t 3 (bI .i64 v3)) rfl) rfl rfl rfl, OpW.yes (op_sub (Ev.t 35 (bI .i64 v3)) (Ev.c _ rfl) rfl) rfl rfl rfl, OpW.yes (op_index (cs := [.v (.string x15.Key), .v (.int .i64 x15.Stamp.N), .v (.int .i64 x15.Stamp.Site)]) Try.underlying22 ti26 (idx_ok hx15).1 (idx_get hx15 encApi_Dep) (Ev.t 34 (.g (.d (.sl 3 (List.map encApi_Dep p_0))))) (Ev.t 36 (bI .i64 (IntKind.wrap .i64 (v3 - 1)))) rfl) rfl rfl rfl, OpW.yes (op_fieldE (cs' := [.v (.string x15.Key), .v (.int .i64 x15.Stamp.N), .v (.int .i64 x15.Stamp.Site)]) Try.underlying26 rfl ti9 (by decide) rfl (Ev.t 37 (.ep [.v (.string x15.Key), .v (.int .i64 x15.Stamp.N), .v (.int .i64 x15.Stamp.Site)])) rfl) rfl rfl rfl, OpW.yes (op_load1E (c := .v (.string x15.Key)) Try.underlying9 rfl rfl (Ev.t 38 (.ep [.v (.string x15.Key), .v (.int .i64 x15.Stamp.N), .v (.int .i64 x15.Stamp.Site)])) rfl) rfl rfl rfl, OpW.yes (op_move (Ev.t 0 (.g (.d (.sl 3 (List.map encApi_Dep p_0))))) rfl) rfl rfl rfl, OpW.yes (op_move (Ev.t 3 (bI .i64 v3)) rfl) rfl rfl rfl, OpW.yes (op_index (cs := [.v (.string x16.Key), .v (.int .i64 x16.Stamp.N), .v (.int .i64 x16.Stamp.Site)]) Try.underlying22 ti26 (idx_ok hx16).1 (idx_get hx16 encApi_Dep) (Ev.t 40 (.g (.d (.sl 3 (List.map encApi_Dep p_0))))) (Ev.t 41 (bI .i64 v3)) rfl) rfl rfl rfl, OpW.yes (op_fieldE (cs' := [.v (.string x16.Key), .v (.int .i64 x16.Stamp.N), .v (.int .i64 x16.Stamp.Site)]) Try.underlying26 rfl ti9 (by decide) rfl (Ev.t 42 (.ep [.v (.string x16.Key), .v (.int .i64 x16.Stamp.N), .v (.int .i64 x16.Stamp.Site)])) rfl) rfl rfl rfl, OpW.yes (op_load1E (c := .v (.string x16.Key)) Try.underlying9 rfl rfl (Ev.t 43 (.ep [.v (.string x16.Key), .v (.int .i64 x16.Stamp.N), .v (.int .i64 x16.Stamp.Site)])) rfl) rfl rfl rfl, OpW.yes (op_geS (Ev.t 39 (bS x15.Key)) (Ev.t 44 (bS x16.Key)) rfl) rfl rfl rfl, OpW.yes (op_pickT (Ev.t 33 (bB true)) (Ev.t 45 (bB (!slt x15.Key x16.Key))) rfl) rfl rfl rfl, OpW.plain (op_pickF (Ev.t 30 (bB false)) (Ev.t 46 (bB (!slt x15.Key x16.Key))) rfl) rfl rfl, trivial⟩ ⟨rfl, rfl, rfl, trivial⟩ trivial rfl ?_
          refine ifS hF (fun hc17 hF => ?_) (fun hc17 hF => ?_)
          · refine G.cond rfl (fun _ => ?_) (fun hx => by rw [hc17] at hx; cases hx)
            refine G.seq ?_
            refine G.region ?_
            refine G.op1 (op_assign (Ev.c _ rfl) rfl) rfl trivial trivial ?_
            refine G.endOps ?_
            cases hF
            exact G.ret1 Try.results24 (RVar.tmp 2 _) ⟨rfl, trivial⟩ trivial
          · refine G.cond rfl (fun hx => by rw [hc17] at hx; cases hx) (fun _ => ?_)
            refine G.skip ?_
            refine G.endBlock ?_
            refine G.region ?_
            refine G.op1 (op_move (Ev.t 3 (bI .i64 v3)) rfl) rfl ⟨rfl, trivial⟩ trivial ?_
            refine G.op1 (op_add (Ev.t 10 (bI .i64 v3)) (Ev.c _ rfl) rfl) rfl ⟨rfl, trivial⟩ trivial ?_
            refine G.op1 (op_assign (Ev.t 11 (bI .i64 (IntKind.wrap .i64 (v3 + 1)))) rfl) rfl ⟨rfl, trivial⟩ trivial ?_
            refine G.endOps ?_
            exact G.arr (J4 (IntKind.wrap .i64 (v3 + 1)) hF) ⟨rfl, rfl, trivial⟩ trivial rfl
        · refine G.drawn (effs := (⟨[(4, .one (bB r9))], [], [(24, .one (bB r9))], []⟩ :: ⟨[(24, .one (bB r9))], [], [(25, .one (bB false))], []⟩ :: ⟨[(25, .one (bB false))], [], [(26, .one (bB false))], []⟩ :: ⟨[(26, .one (bB false)), (5, .one (bB r11))], [], [(27, .one (bB r11))], []⟩ :: ⟨[(26, .one (bB false)), (27, .one (bB r11))], [], [(28, .one (bB false))], []⟩ :: ⟨[(26, .one (bB false)), (28, .one (bB false))], [], [(29, .one (bB false))], []⟩ :: ⟨[(29, .one (bB false))], [], [(30, .one (bB false))], []⟩ :: ⟨[(30, .one (bB false)), (3, .one (bI .i64 v3))], [], [(31, .one (bI .i64 v3))], []⟩ :: ⟨[(30, .one (bB false)), (31, .one (bI .i64 v3))], [], [(32, .one (bB false))], []⟩ :: ⟨[(30, .one (bB false)), (32, .one (bB false))], [], [(33, .one (bB false))], []⟩ :: ⟨[(33, .one (bB false))], [], [(34, .one (.x Go.undef))], []⟩ :: ⟨[(33, .one (bB false))], [], [(35, .one (.x Go.undef))], []⟩ :: ⟨[(33, .one (bB false))], [], [(36, .one (.x Go.undef))], []⟩ :: ⟨[(33, .one (bB false))], [], [(37, .one (.x Go.undef))], []⟩ :: ⟨[(33, .one (bB false))], [], [(38, .one (.x Go.undef))], []⟩ :: ⟨[(33, .one (bB false))], [], [(39, .one (.x Go.undef))], []⟩ :: ⟨[(33, .one (bB false))], [], [(40, .one (.x Go.undef))], []⟩ :: ⟨[(33, .one (bB false))], [], [(41, .one (.x Go.undef))], []⟩ :: ⟨[(33, .one (bB false))], [], [(42, .one (.x Go.undef))], []⟩ :: ⟨[(33, .one (bB false))], [], [(43, .one (.x Go.undef))], []⟩ :: ⟨[(33, .one (bB false))], [], [(44, .one (.x Go.undef))], []⟩ :: ⟨[(33, .one (bB false))], [], [(45, .one (.x Go.undef))], []⟩ :: ⟨[(30, .one (bB false)), (33, .one (bB false))], [], [(46, .one (bB false))], []⟩ :: ⟨[(30, .one (bB false)), (46, .one (bB false))], [], [(47, .one (bB false))], []⟩ :: [])) (deps := ([] :: [0] :: [0, 1] :: [0, 1, 2] :: [0, 1, 2, 3] :: [0, 1, 2, 3, 4] :: [0, 1, 2, 3, 4, 5] :: [0, 1, 2, 3, 4, 5, 6] :: [0, 1, 2, 3, 4, 5, 6, 7] :: [0, 1, 2, 3, 4, 5, 6, 7, 8] :: [0, 1, 2, 3, 4, 5, 6, 7, 8, 9] :: [0, 1, 2, 3, 4, 5, 6, 7, 8, 9] :: [0, 1, 2, 3, 4, 5, 6, 7, 8, 9, 11] :: [0, 1, 2, 3, 4, 5, 6, 7, 8, 9, 10, 11, 12] :: [0, 1, 2, 3, 4, 5, 6, 7, 8, 9, 10, 11, 12, 13] :: [0, 1, 2, 3, 4, 5, 6, 7, 8, 9, 10, 11, 12, 13, 14] :: [0, 1, 2, 3, 4, 5, 6, 7, 8, 9] :: [0, 1, 2, 3, 4, 5, 6, 7, 8, 9] :: [0, 1, 2, 3, 4, 5, 6, 7, 8, 9, 16, 17] :: [0, 1, 2, 3, 4, 5, 6, 7, 8, 9, 16, 17, 18] :: [0, 1, 2, 3, 4, 5, 6, 7, 8, 9, 16, 17, 18, 19] :: (0 :: 1 :: 2 :: 3 :: 4 :: 5 :: 6 :: 7 :: 8 :: 9 :: 10 :: 11 :: 12 :: 13 :: 14 :: 15 :: 16 :: 17 :: 18 :: 19 :: 20 :: []) :: (0 :: 1 :: 2 :: 3 :: 4 :: 5 :: 6 :: 7 :: 8 :: 9 :: 10 :: 11 :: 12 :: 13 :: 14 :: 15 :: 16 :: 17 :: 18 :: 19 :: 20 :: 21 :: []) :: (0 :: 1 :: 2 :: 3 :: 4 :: 5 :: 6 :: 7 :: 8 :: 9 :: 10 :: 11 :: 12 :: 13 :: 14 :: 15 :: 16 :: 17 :: 18 :: 19 :: 20 :: 21 :: 22 :: []) :: [])) (sl' := [(0, .one (.g (.d (.sl 3 (List.map encApi_Dep p_0))))), (3, .one (bI .i64 v3)), (47, .one (bB false))]) (hp' := []) follows rfl rfl rfl ⟨⟨rfl, trivial⟩, trivial, ⟨rfl, trivial⟩, trivial, ⟨rfl, trivial⟩, trivial, ⟨rfl, rfl, trivial⟩, trivial, ⟨rfl, rfl, trivial⟩, trivial, ⟨rfl, rfl, trivial⟩, trivial, ⟨rfl, trivial⟩, trivial, ⟨rfl, rfl, trivial⟩, trivial, ⟨rfl, rfl, trivial⟩, trivial, ⟨rfl, rfl, trivial⟩, trivial, ⟨rfl, trivial⟩, trivial, ⟨rfl, trivial⟩, trivial, ⟨rfl, trivial⟩, trivial, ⟨rfl, trivial⟩, trivial, ⟨rfl, trivial⟩, trivial, ⟨rfl, trivial⟩, trivial, ⟨rfl, trivial⟩, trivial, ⟨rfl, trivial⟩, trivial, ⟨rfl, trivial⟩, trivial, ⟨rfl, trivial⟩, trivial, ⟨rfl, trivial⟩, trivial, ⟨rfl, trivial⟩, trivial, ⟨rfl, rfl, trivial⟩, trivial, ⟨rfl, rfl, trivial⟩, trivial, trivial⟩ ⟨OpW.plain (op_move (Ev.t 4 (bB r9)) rfl) rfl rfl, OpW.plain (OpL.cast (op_not (Ev.t 24 (bB r9)) rfl) (congrArg (fun b => bB b) hc12)) rfl rfl, OpW.plain (op_move (Ev.t 25 (bB false)) rfl) rfl rfl, OpW.yes (op_move (Ev.t 5 (bB r11)) rfl) rfl rfl rfl, OpW.yes (OpL.cast (op_not (Ev.t 27 (bB r11)) rfl) (congrArg (fun b => bB b) hc13)) rfl rfl rfl, OpW.plain (op_pickF (Ev.t 26 (bB false)) (Ev.t 28 (bB false)) rfl) rfl rfl, OpW.plain (op_move (Ev.t 29 (bB false)) rfl) rfl rfl, OpW.yes (op_move (Ev.t 3 (bI .i64 v3)) rfl) rfl rfl rfl, OpW.yes (OpL.cast (op_gtr (Ev.t 31 (bI .i64 v3)) (Ev.c _ rfl) rfl) (congrArg (fun b => bB b) hc14)) rfl rfl rfl, OpW.yes (op_move (Ev.t 32 (bB false)) rfl) rfl rfl rfl, OpW.no rfl rfl rfl rfl rfl, OpW.no rfl rfl rfl rfl rfl, OpW.no rfl rfl rfl rfl rfl, OpW.no rfl rfl rfl rfl rfl, OpW.no rfl rfl rfl rfl rfl, OpW.no rfl rfl rfl rfl rfl, OpW.no rfl rfl rfl rfl rfl, OpW.no rfl rfl rfl rfl rfl, OpW.no rfl rfl rfl rfl rfl, OpW.no rfl rfl rfl rfl rfl, OpW.no rfl rfl rfl rfl rfl, OpW.no rfl rfl rfl rfl rfl, OpW.yes (op_pickF (Ev.t 33 (bB false)) (Ev.c _ rfl) rfl) rfl rfl rfl, OpW.plain (op_pickF (Ev.t 30 (bB false)) (Ev.t 46 (bB false)) rfl) rfl rfl, trivial⟩ ⟨rfl, rfl, rfl, trivial⟩ trivial rfl ?_
          refine G.condF rfl ?_
          refine G.skip ?_
          refine G.endBlock ?_
          refine G.region ?_
          refine G.op1 (op_move (Ev.t 3 (bI .i64 v3)) rfl) rfl ⟨rfl, trivial⟩ trivial ?_
          refine G.op1 (op_add (Ev.t 10 (bI .i64 v3)) (Ev.c _ rfl) rfl) rfl ⟨rfl, trivial⟩ trivial ?_
          refine G.op1 (op_assign (Ev.t 11 (bI .i64 (IntKind.wrap .i64 (v3 + 1)))) rfl) rfl ⟨rfl, trivial⟩ trivial ?_
          refine G.endOps ?_
          exact G.arr (J4 (IntKind.wrap .i64 (v3 + 1)) hF) ⟨rfl, rfl, trivial⟩ trivial rfl
  · refine G.cond rfl (fun hx => by rw [hc7] at hx; cases hx) (fun _ => ?_)
    refine G.exit ?_
    refine GX.c ?_
    refine GX.q ?_
    refine GX.bYes ?_
    exact G.arr (J2 () hF) ⟨rfl, trivial⟩ trivial rfl


set_option maxHeartbeats 2000000 in
set_option maxRecDepth 100000 in
theorem bCC73 (b : Nat) (p v : Value) (w : World) (hp : p = .pointer none ∨ p = .pointer (some ⟨b, 0, none⟩)) (hbk : w.heap[b]? = some (.cells #[p, v] 70 (0, 0))) :
    Calls Try.prog 73 #[.pointer (some ⟨b, 0, none⟩)] w fun e w' => e = .returned (.tuple #[]) ∧ (w' = w ∨ w' = w.setCell ⟨b, 0, none⟩ (.pointer (some ⟨b, 0, none⟩))) ∧ w'.heap[b]? = some (.cells #[.pointer (some ⟨b, 0, none⟩), v] 70 (0, 0)) := by
  have hI : (Try.prog.info? 70).map (·.size) = some 2 := by kernel_rfl
  have hL : liesAt Try.prog Try.prog.depth 70 (2 / Try.prog.cellsOf 70) 0 70 1 = true := by kernel_rfl
  obtain ⟨j, hj, hjs⟩ := Option.map_eq_some_iff.1 hI
  have t70 := Try.underlying70; have a70 := Try.isAgg70; have z70 := Try.sizeOf70; have v70 := Try.zeroValue70; have u70 := run_underlying t70
  have t68 := Try.underlying68; have a68 := Try.isAgg68; have z68 := Try.sizeOf68; have v68 := Try.zeroValue68; have u68 := run_underlying t68
  have t47 := Try.underlying47; have a47 := Try.isAgg47; have z47 := Try.sizeOf47; have v47 := Try.zeroValue47; have u47 := run_underlying t47
  have t5 := Try.underlying5; have a5 := Try.isAgg5; have z5 := Try.sizeOf5; have v5 := Try.zeroValue5; have u5 := run_underlying t5
  have t9 := Try.underlying9; have a9 := Try.isAgg9; have z9 := Try.sizeOf9; have v9 := Try.zeroValue9; have u9 := run_underlying t9
  have t4 := Try.underlying4; have a4 := Try.isAgg4; have z4 := Try.sizeOf4; have v4 := Try.zeroValue4; have u4 := run_underlying t4
  have t2 := Try.underlying2; have a2 := Try.isAgg2; have z2 := Try.sizeOf2; have v2 := Try.zeroValue2; have u2 := run_underlying t2
  have t108 := Try.underlying108; have a108 := Try.isAgg108; have z108 := Try.sizeOf108; have v108 := Try.zeroValue108; have u108 := run_underlying t108
  have h0 : w.cell? ⟨b, 0, none⟩ = some p := by rw [Lib.cell_of_heap hbk]; rfl
  rcases hp with rfl | rfl
  · have hsh : w.shape? b = some (70, 2) := by simp [World.shape?, hbk]
    have hfz : w.frozen? ⟨b, 0, none⟩ = false := Lib.frozen_of_heap hbk 0
    go_enter Try.func73, Try.ntmps73
    go_wp2
    rw [Lib.run_to_unsafe w ⟨b, 0, none⟩ t68 t108 hj (by rw [hjs]; decide) hsh (Nat.zero_lt_succ 1)]
    simp only [Result.andThen]
    rw [Oper.upon_value]
    go_wp2
    rw [run_callFunc_extern Try.func79 (by kernel_rfl) (by kernel_rfl) (by kernel_rfl) (e := Extern.AbiNoEscape.same) (by kernel_rfl)]
    rw [Lib.run_noEscape]
    simp only [Result.andThen]
    rw [Oper.upon_value]
    go_wp2
    rw [Lib.run_from_unsafe w ⟨b, 0, none⟩ t108 t68 hj hsh hL]
    simp only [Result.andThen]
    rw [Oper.upon_value]
    go_wp2
    go_end0
    exact ⟨rfl, .inr rfl, by simp [World.setCell, Array.getElem?_modify, hbk]⟩
  · go_enter Try.func73, Try.ntmps73
    go_wp2
    rw [Lib.run_neq_ptr_same w _ t68 hj]
    go_wp2
    go_end0
    exact ⟨rfl, .inl rfl, hbk⟩

theorem bCC73_fresh (b : Nat) (v : Value) (w : World) (hbk : w.heap[b]? = some (.cells #[.pointer none, v] 70 (0, 0))) :
    Calls Try.prog 73 #[.pointer (some ⟨b, 0, none⟩)] w fun e w' => e = .returned (.tuple #[]) ∧ w' = w.setCell ⟨b, 0, none⟩ (.pointer (some ⟨b, 0, none⟩)) :=
  (bCC73 b _ v w (.inl rfl) hbk).mono fun e w' ⟨h1, h2, h3⟩ => ⟨h1, h2.resolve_left fun c => by subst c; rw [hbk] at h3; simp at h3⟩

/-- what copyCheck leaves -/
theorem bCC73_more {b : Nat} {p v : Value} {w w1 : World} {n : Nat} {xs : List Value} (hbk : w.heap[b]? = some (.cells #[p, v] 70 (0, 0))) (hown : w.ownsRow 0 5 1 v n xs) (hne : v.ownBlock ≠ some b) (h : w1 = w ∨ w1 = w.setCell ⟨b, 0, none⟩ (.pointer (some ⟨b, 0, none⟩))) :
    w1.ownsRow 0 5 1 v n xs ∧ KeepW (fun b' => b' = b ∨ v.ownBlock = some b') w w1 ∧ w.heap.size ≤ w1.heap.size ∧ b < w1.heap.size := by
  have hlt : b < w.heap.size := (Array.getElem?_eq_some_iff.1 hbk).1
  rcases h with rfl | rfl
  · exact ⟨hown, .refl _, Nat.le_refl _, hlt⟩
  · exact ⟨ownsRow_of_block hown fun g hg => Below.heap_setCell _ _ _ _ (fun e => hne (by rw [hg, e])), .setCell _ _ _ (.inl rfl), by simp [World.setCell], by simpa [World.setCell] using hlt⟩


set_option maxHeartbeats 2000000 in
set_option maxRecDepth 100000 in
theorem bWB83 (s : ByteArray) (c : Nat) (hc : c < 256) (hlen : s.size + 1 ≤ 140737488355328) (b : Nat) (p v : Value) (w : World) (hp : p = .pointer none ∨ p = .pointer (some ⟨b, 0, none⟩)) (hbk : w.heap[b]? = some (.cells #[p, v] 70 (0, 0))) (hown : w.ownsRow 0 5 1 v s.size (Lib.strCells s)) (hne : v.ownBlock ≠ some b) :
    Calls Try.prog 83 #[.pointer (some ⟨b, 0, none⟩), .int .u8 (c : Int)] w fun e w' => e = .returned .nilIface ∧ BPost 70 5 w b v.ownBlock (s ++ ByteArray.mk #[UInt8.ofNat c]) w' := by
  have hIB : (Try.prog.info? 5).map (fun i => (i.zero, i.size, i.bytes)) = some (some (.int .u8 0), 1, 1) := by kernel_rfl
  obtain ⟨i0, hi, hz0, hz1, hz2⟩ := info_parts hIB
  have t70 := Try.underlying70; have a70 := Try.isAgg70; have z70 := Try.sizeOf70; have v70 := Try.zeroValue70; have u70 := run_underlying t70
  have t68 := Try.underlying68; have a68 := Try.isAgg68; have z68 := Try.sizeOf68; have v68 := Try.zeroValue68; have u68 := run_underlying t68
  have t47 := Try.underlying47; have a47 := Try.isAgg47; have z47 := Try.sizeOf47; have v47 := Try.zeroValue47; have u47 := run_underlying t47
  have t5 := Try.underlying5; have a5 := Try.isAgg5; have z5 := Try.sizeOf5; have v5 := Try.zeroValue5; have u5 := run_underlying t5
  have t9 := Try.underlying9; have a9 := Try.isAgg9; have z9 := Try.sizeOf9; have v9 := Try.zeroValue9; have u9 := run_underlying t9
  have t4 := Try.underlying4; have a4 := Try.isAgg4; have z4 := Try.sizeOf4; have v4 := Try.zeroValue4; have u4 := run_underlying t4
  have t2 := Try.underlying2; have a2 := Try.isAgg2; have z2 := Try.sizeOf2; have v2 := Try.zeroValue2; have u2 := run_underlying t2
  go_enter Try.func83, Try.ntmps83
  go_wp2_with (go_at_call 73; refine (bCC73 b p v _ hp hbk).mono ?_)
  rintro e w1 ⟨rfl, h1, hbk1⟩
  obtain ⟨hown1, hk1, hs1, hlt1⟩ := bCC73_more hbk hown hne h1
  have c0 : w1.cell? ⟨b, 0, none⟩ = some (.pointer (some ⟨b, 0, none⟩)) := by rw [Lib.cell_of_heap hbk1]; rfl
  have c1 : w1.cell? ⟨b, 1, none⟩ = some v := by rw [Lib.cell_of_heap hbk1]; rfl
  go_wp2_with (at_builtin; refine wpList_append_byte _ rfl _ _ 47 rfl 5 i0 t47 hi hz0 hz1 hz2 _ _ _ rfl (hown1.alloc _) ⟨w1.heap.size, 0, none⟩ 1 (.int .u8 (c : Int)) rfl (by simp) rfl hlen ?_)
  intro v' w2 hown' hgrow hblk
  have hbA : (w1.alloc (.cells #[.int .u8 (c : Int)] 5)).heap[b]? = some (.cells #[.pointer (some ⟨b, 0, none⟩), v] 70 (0, 0)) := by rw [Lib.alloc_old w1 _ b hlt1]; exact hbk1
  have hb2 : w2.heap[b]? = some (.cells #[.pointer (some ⟨b, 0, none⟩), v] 70 (0, 0)) := by
    rw [hgrow.block b (by simp; omega) (fun e => hne e.symm)]
    exact hbA
  have d0 : w2.cell? ⟨b, 0, none⟩ = some (.pointer (some ⟨b, 0, none⟩)) := by rw [Lib.cell_of_heap hb2]; rfl
  have d1 : w2.cell? ⟨b, 1, none⟩ = some v := by rw [Lib.cell_of_heap hb2]; rfl
  have f1 : w2.frozen? ⟨b, 1, none⟩ = false := Lib.frozen_of_heap hb2 1
  obtain ⟨ao, n', cap, rfl⟩ : ∃ ao n' cap, v' = .slice ao n' cap := by
    rcases hown'.2 with ⟨hv, _⟩ | ⟨g, cap, cur, hv, _⟩
    · exact ⟨_, _, _, hv⟩
    · exact ⟨_, _, _, hv⟩
  go_wp2
  go_ret
  exact ⟨rfl, bpost_of hbA hne (hk1.trans (.below (below_alloc _ _))) (by simp; omega) (by simp; omega) hown' (by rw [ByteArray.size_append]; rfl) (by rw [strCells_one c hc, strCells_app]) hgrow (by simpa using hblk) (by decide)⟩

theorem ct_bld_WriteByte (s : ByteArray) (c : Int) (r : ByteArray) (hF : bld_WriteByte s c = some r) : CtM Try.prog 83 [.pt (.bld 70 5 s), .g (.d (.v (.int .u8 c)))] (.bld 70 5 r) (.one (.d (.v .nilIface))) := by
  unfold bld_WriteByte at hF
  split at hF
  · rename_i hl
    cases hF
    obtain ⟨n, rfl⟩ : ∃ n : Nat, c = n := ⟨c.toNat, by omega⟩
    exact CtM.write (arg := .int .u8 (n : Int)) (v := .nilIface) (fun M w' => RD.v _ rfl) (fun _ _ _ h => RD.v_inv h) (fun b p vb w h1 h2 h3 h4 => bWB83 s n (by omega) hl.2.2 b p vb w h1 h2 h3 h4)
  · cases hF


set_option maxRecDepth 20000 in
set_option maxHeartbeats 2000000 in
theorem ct_vary_put (b_0 : ByteArray) (n_1 : Int) (r : ByteArray) (hF : vary_put b_0 n_1 = some r) : CtM Try.prog 81 [.pt (.bld 70 5 b_0), .g (.d (.v (.int .u64 n_1)))] (.bld 70 5 r) (.tup []) := by
  unfold vary_put at hF
  refine CtM.intro (h := .bld 70 5 b_0) 0 Try.func81 rfl Try.ntmps81 rfl rfl rfl rfl (fun M w b go => ?_)
  refine G.seq ?_
  refine G.joinC (T := Int × ByteArray) (fun y1 => ⟨[(0, .one (.ptr 0 0)), (1, .one (bI .u64 y1.1))], [(0, some (.bld 70 5 50 y1.2)), (50, some (.hid true 0))]⟩) (fun y1 => vary_put_k1 y1 = some r) (fun y1 hF => ?_) (fun J3 => ?_)
  · unfold vary_put_k1 at hF
    refine G.region ?_
    refine G.op1 (op_move (Ev.t 0 (.ptr 0 0)) rfl) rfl ⟨rfl, trivial⟩ trivial ?_
    refine G.op1 (op_move (Ev.t 1 (bI .u64 y1.1)) rfl) rfl ⟨rfl, trivial⟩ trivial ?_
    refine G.op1 (op_convI Try.underlying76 Try.underlying5 (Ev.t 14 (bI .u64 y1.1)) rfl) rfl ⟨rfl, trivial⟩ trivial ?_
    obtain ⟨r2, hr2, hF⟩ := bindS hF
    refine G.opM (op_callM (k := 0) (h := .bld 70 5 y1.2) (h' := .bld 70 5 r2) 50 (sv := .one (.g (.d (.v .nilIface)))) cf83 (ct_bld_WriteByte y1.2 (IntKind.wrap .u8 y1.1) r2 hr2) rfl rfl (EvM.pt (Ev.t 13 (.ptr 0 0)) (EvM.g (Ev.t 15 (bI .u8 (IntKind.wrap .u8 y1.1))) EvM.nil)) rfl) rfl ⟨rfl, rfl, trivial⟩ ⟨rfl, rfl, trivial⟩ ?_
    refine G.endOps ?_
    have hF := Option.some.inj hF; subst hF
    exact G.fallM (retOK0 Try.results81) trivial trivial ⟨rfl, rfl, trivial⟩
  refine G.block ?_
  refine G.keep (sl' := [(0, .one (.ptr 0 0)), (1, .one (bI .u64 n_1))]) (hp' := [(0, some (.bld 70 5 50 b_0)), (50, some (.hid true 0))]) ⟨rfl, rfl, trivial⟩ ⟨rfl, rfl, trivial⟩ rfl ?_
  refine G.loopF (fun (v4 : Int × ByteArray) => ⟨[(0, .one (.ptr 0 0)), (1, .one (bI .u64 v4.1))], [(0, some (.bld 70 5 50 v4.2)), (50, some (.hid true 0))]⟩) hF rfl (fun K7 again6 v4 J5 hF => ?_)
  unfold vary_put_l2 at hF
  refine G.seq ?_
  refine G.seq ?_
  refine G.region ?_
  refine G.op1 (op_move (Ev.t 1 (bI .u64 v4.1)) rfl) rfl ⟨rfl, trivial⟩ trivial ?_
  refine G.op1 (op_geq (Ev.t 4 (bI .u64 v4.1)) (Ev.c _ rfl) rfl) rfl ⟨rfl, trivial⟩ trivial ?_
  refine G.endOps ?_
  refine ifS hF (fun hc8 hF => ?_) (fun hc8 hF => ?_)
  · refine G.cond rfl (fun _ => ?_) (fun hx => by rw [hc8] at hx; cases hx)
    refine G.skip ?_
    refine G.block ?_
    refine G.seq ?_
    refine G.region ?_
    refine G.op1 (op_move (Ev.t 0 (.ptr 0 0)) rfl) rfl ⟨rfl, trivial⟩ trivial ?_
    refine G.op1 (op_move (Ev.t 1 (bI .u64 v4.1)) rfl) rfl ⟨rfl, trivial⟩ trivial ?_
    refine G.op1 (op_convI Try.underlying76 Try.underlying5 (Ev.t 7 (bI .u64 v4.1)) rfl) rfl ⟨rfl, trivial⟩ trivial ?_
    refine G.op1 (op_or (Ev.t 8 (bI .u8 (IntKind.wrap .u8 v4.1))) (Ev.c _ rfl) rfl) rfl ⟨rfl, trivial⟩ trivial ?_
    obtain ⟨r9, hr9, hF⟩ := bindS hF
    refine G.opM (op_callM (k := 0) (h := .bld 70 5 v4.2) (h' := .bld 70 5 r9) 50 (sv := .one (.g (.d (.v .nilIface)))) cf83 (ct_bld_WriteByte v4.2 (IntKind.wrap .u8 (BitVec.ofInt (IntKind.bits .u8) (IntKind.wrap .u8 v4.1) ||| BitVec.ofInt (IntKind.bits .u8) 128).toNat) r9 hr9) rfl rfl (EvM.pt (Ev.t 6 (.ptr 0 0)) (EvM.g (Ev.t 9 (bI .u8 (IntKind.wrap .u8 (BitVec.ofInt (IntKind.bits .u8) (IntKind.wrap .u8 v4.1) ||| BitVec.ofInt (IntKind.bits .u8) 128).toNat))) EvM.nil)) rfl) rfl ⟨rfl, rfl, trivial⟩ ⟨rfl, rfl, trivial⟩ ?_
    refine G.endOps ?_
    refine G.region ?_
    refine G.op1 (op_move (Ev.t 1 (bI .u64 v4.1)) rfl) rfl ⟨rfl, trivial⟩ trivial ?_
    refine G.op1 (op_shr (by decide) (Ev.t 11 (bI .u64 v4.1)) (Ev.c _ rfl) rfl) rfl ⟨rfl, trivial⟩ trivial ?_
    refine G.op1 (op_assign (Ev.t 12 (bI .u64 (Int.fdiv v4.1 (2 ^ min (Int.toNat 7) (IntKind.bits .u64))))) rfl) rfl ⟨rfl, trivial⟩ trivial ?_
    refine G.endOps ?_
    refine G.endBlock ?_
    exact G.arr (J5 (Int.fdiv v4.1 (2 ^ min (Int.toNat 7) (IntKind.bits .u64)), r9) hF) ⟨rfl, rfl, trivial⟩ ⟨rfl, rfl, trivial⟩ rfl
  · refine G.cond rfl (fun hx => by rw [hc8] at hx; cases hx) (fun _ => ?_)
    refine G.exit ?_
    refine GX.c ?_
    refine GX.q ?_
    refine GX.bYes ?_
    exact G.arr (J3 (v4.1, v4.2) hF) ⟨rfl, rfl, trivial⟩ ⟨rfl, rfl, trivial⟩ rfl


set_option maxRecDepth 20000 in
set_option maxHeartbeats 2000000 in
theorem ct_vary_Join_1 (n_0 : Int) (c0 : ByteArray) (r : ByteArray) (hF : vary_Join_1 n_0 c0 = some r) : CtM Try.prog 80 [.g (.d (.v (.int .u64 n_0))), .pt (.bld 70 5 c0)] (.bld 70 5 r) (.tup []) := by
  unfold vary_Join_1 at hF
  refine CtM.intro (h := .bld 70 5 c0) 1 Try.func80 rfl Try.ntmps80 rfl rfl rfl rfl (fun M w b go => ?_)
  refine G.region ?_
  refine G.op1 (op_move (Ev.t 0 (bI .u64 n_0)) rfl) rfl ⟨rfl, trivial⟩ trivial ?_
  obtain ⟨r1, hr1, hF⟩ := bindS hF
  refine G.opM (op_callM (k := 0) (h := .bld 70 5 c0) (h' := .bld 70 5 r1) 50 (sv := .tup []) cf81 (ct_vary_put c0 n_0 r1 hr1) rfl rfl (EvM.pt (Ev.t 1 (.ptr 0 0)) (EvM.g (Ev.t 3 (bI .u64 n_0)) EvM.nil)) rfl) rfl ⟨rfl, rfl, trivial⟩ ⟨rfl, rfl, trivial⟩ ?_
  refine G.endOps ?_
  have hF := Option.some.inj hF; subst hF
  exact G.fallM (retOK0 Try.results80) trivial trivial ⟨rfl, rfl, trivial⟩


set_option maxHeartbeats 2000000 in
set_option maxRecDepth 100000 in
theorem bST50 (s : ByteArray) (hs : s.size ≠ 0) (b : Nat) (p v : Value) (w : World) (hbk : w.heap[b]? = some (.cells #[p, v] 70 (0, 0))) (hown : w.ownsRow 0 5 1 v s.size (Lib.strCells s)) :
    Calls Try.prog 50 #[.pointer (some ⟨b, 0, none⟩)] w fun e w' => e = .returned (.string s) ∧ KeepW (fun b' => v.ownBlock = some b') w w' := by
  have hCB : Try.prog.cellsOf 5 = 1 := by kernel_rfl
  have mixed : Try.prog.follows .mixedOrders = true := by kernel_rfl
  have hl0 : s.data.toList ≠ [] := fun h => hs (by have := congrArg List.length h; simpa using this)
  have hll : s.data.toList.length = s.size := by simp
  have hsb : Lib.strCells s = Lib.byteCells s.data.toList := rfl
  have hse : (⟨s.data.toList.toArray⟩ : ByteArray) = s := by cases s; simp
  rw [hsb, ← hll] at hown
  generalize s.data.toList = l at hown hl0 hll hse
  clear hll hsb
  have hown0 := hown
  obtain ⟨g, cap, cur, rfl, hg, hnc, hcm, hcs, htake⟩ : ∃ g cap cur, v = .slice (some ⟨g, 0, none⟩) l.length cap ∧ w.heap[g]? = some (.cells cur 5 (0, 0)) ∧ l.length ≤ cap ∧ cap ≤ maxLen ∧ cur.size = cap * 1 ∧ cur.toList.take (l.length * 1) = Lib.byteCells l := by
    rcases hown.2 with ⟨_, hz⟩ | ⟨g, cap, cur, hv, _, r⟩
    · exact absurd (List.eq_nil_of_length_eq_zero hz) hl0
    · exact ⟨g, cap, cur, hv, r⟩
  have c1 : w.drew.cell? ⟨b, 1, none⟩ = some (.slice (some ⟨g, 0, none⟩) l.length cap) := by
    have : w.drew.heap[b]? = some (.cells #[p, .slice (some ⟨g, 0, none⟩) l.length cap] 70 (0, 0)) := hbk
    rw [Lib.cell_of_heap this]; rfl
  have t70 := Try.underlying70; have a70 := Try.isAgg70; have z70 := Try.sizeOf70; have v70 := Try.zeroValue70; have u70 := run_underlying t70
  have t68 := Try.underlying68; have a68 := Try.isAgg68; have z68 := Try.sizeOf68; have v68 := Try.zeroValue68; have u68 := run_underlying t68
  have t47 := Try.underlying47; have a47 := Try.isAgg47; have z47 := Try.sizeOf47; have v47 := Try.zeroValue47; have u47 := run_underlying t47
  have t5 := Try.underlying5; have a5 := Try.isAgg5; have z5 := Try.sizeOf5; have v5 := Try.zeroValue5; have u5 := run_underlying t5
  have t9 := Try.underlying9; have a9 := Try.isAgg9; have z9 := Try.sizeOf9; have v9 := Try.zeroValue9; have u9 := run_underlying t9
  have t4 := Try.underlying4; have a4 := Try.isAgg4; have z4 := Try.sizeOf4; have v4 := Try.zeroValue4; have u4 := run_underlying t4
  have t3 := Try.underlying3; have a3 := Try.isAgg3; have z3 := Try.sizeOf3; have v3 := Try.zeroValue3; have u3 := run_underlying t3
  have t106 := Try.underlying106; have a106 := Try.isAgg106; have z106 := Try.sizeOf106; have v106 := Try.zeroValue106; have u106 := run_underlying t106
  have hl1 : l.length ≠ 0 := fun h => hl0 (List.eq_nil_of_length_eq_zero h)
  have hSD : (Builtin.unsafeSliceData_ #[47] 106 #[.slice (some ⟨g, 0, none⟩) l.length cap]).run Try.prog w.drew = .ok (.pointer (some ⟨g, 0, none⟩)) w.drew :=
    Lib.run_unsafeSliceData_row _ _ _ _ _ _ (by omega)
  have hUS : (Builtin.unsafeString_ #[106, 3] 9 #[.pointer (some ⟨g, 0, none⟩), .int .i64 l.length]).run Try.prog w.drew = .ok (.string s) (w.drew.freeze ⟨g, 0, none⟩ l.length) := by
    rw [← hse]
    refine Lib.run_unsafeString_row w.drew 106 3 9 5 t106 hCB g cur.size (by have hg' : w.drew.heap[g]? = some (.cells cur 5 (0, 0)) := hg; simp [World.shape?, hg']) l hl0 (by omega) (by unfold maxLen at hcm; omega) ?_
    intro j x hx
    have := hown0.cells (g := g) rfl j (.int .u8 x.toNat) (by simp [Lib.byteCells, hx])
    exact this
  go_enter Try.func50, Try.ntmps50
  go_wp2
  go_region_o
  all_goals (go_wp2; go_ret; exact ⟨rfl, keepW_freeze w g _⟩)

theorem ct_bld_String (s r : ByteArray) (hF : bld_String s = some r) : CtM Try.prog 50 [.pt (.bld 70 5 s)] .gone (.one (.d (.v (.string r)))) := by
  unfold bld_String at hF
  split at hF
  · cases hF
  · rename_i hl
    cases hF
    exact CtM.bytes fun b p vb w h1 h2 => bST50 s hl b p vb w h1 h2


set_option maxRecDepth 20000 in
set_option maxHeartbeats 2000000 in
theorem ct_vary_Join (l_0 : (List Int)) (r : ByteArray) (hF : vary_Join l_0 = some r) : Ct Try.prog 74 [.g (.d (.sl 1 (List.map encI_u64 l_0)))] (.one (.d (.v (.string r)))) := by
  unfold vary_Join at hF
  refine Ct.intro Try.func74 rfl Try.ntmps74 rfl rfl fun M w => ?_
  refine G.seq ?_
  refine G.region ?_
  refine G.op1 (op_assign (Ev.c _ rfl) rfl) rfl trivial trivial ?_
  refine G.endOps ?_
  refine G.seq ?_
  refine G.region ?_
  refine G.opM (op_allocB (T := 70) (E := 5) (k := 1003) (kk := 3003) ti70 rfl rfl rfl) rfl trivial ⟨rfl, rfl, trivial⟩ ?_
  refine G.endOps ?_
  refine G.seq ?_
  refine G.region ?_
  refine G.op1 (op_makeFunc1 (Ev.t 3 (.ptr 1003 0)) rfl) rfl ⟨rfl, trivial⟩ trivial ?_
  refine G.op1 (op_assign (Ev.t 7 (.clo 80 [1003])) rfl) rfl ⟨rfl, trivial⟩ trivial ?_
  refine G.endOps ?_
  refine G.seq ?_
  refine G.seq ?_
  refine G.region ?_
  refine G.op1 (op_move (Ev.t 0 (.g (.d (.sl 1 (List.map encI_u64 l_0))))) rfl) rfl ⟨rfl, trivial⟩ trivial ?_
  refine G.op1 (OpL.cast (op_lenD Try.underlying110 (Ev.t 8 (.g (.d (.sl 1 (List.map encI_u64 l_0))))) rfl) (by rw [List.length_map])) rfl ⟨rfl, trivial⟩ trivial ?_
  refine G.op1 (op_move (Ev.c _ rfl) rfl) rfl trivial trivial ?_
  refine G.endOps ?_
  refine G.joinC (T := ByteArray) (fun y1 => ⟨[(3, .one (.ptr 1003 0))], [(1003, some (.bld 70 5 3003 y1)), (3003, some (.hid true 1003))]⟩) (fun y1 => vary_Join_k1 y1 = some r) (fun y1 hF => ?_) (fun J3 => ?_)
  · unfold vary_Join_k1 at hF
    refine G.seq ?_
    refine G.region ?_
    obtain ⟨r2, hr2, hF⟩ := bindS hF
    refine G.opM (op_callM (k := 1003) (h := .bld 70 5 y1) (h' := .gone) 3003 (sv := .one (bS r2)) cf50 (ct_bld_String y1 r2 hr2) rfl rfl (EvM.pt (Ev.t 3 (.ptr 1003 0)) EvM.nil) rfl) rfl ⟨rfl, trivial⟩ ⟨rfl, rfl, trivial⟩ ?_
    refine G.op1 (op_assign (Ev.t 18 (bS r2)) rfl) rfl ⟨rfl, trivial⟩ trivial ?_
    refine G.endOps ?_
    cases hF
    exact G.ret1 Try.results74 (RVar.tmp 2 _) ⟨rfl, trivial⟩ trivial
  refine G.block ?_
  refine G.keep (sl' := [(3, .one (.ptr 1003 0)), (4, .one (.clo 80 [1003])), (8, .one (.g (.d (.sl 1 (List.map encI_u64 l_0))))), (9, .one (bI .i64 (l_0.length : Int))), (10, .one (bI .i64 0))]) (hp' := [(1003, some (.bld 70 5 3003 ByteArray.empty)), (3003, some (.hid true 1003))]) ⟨rfl, rfl, rfl, rfl, rfl, trivial⟩ ⟨rfl, rfl, trivial⟩ rfl ?_
  refine G.loopF (fun (v4 : Int × ByteArray) => ⟨[(3, .one (.ptr 1003 0)), (4, .one (.clo 80 [1003])), (8, .one (.g (.d (.sl 1 (List.map encI_u64 l_0))))), (9, .one (bI .i64 (l_0.length : Int))), (10, .one (bI .i64 v4.1))], [(1003, some (.bld 70 5 3003 v4.2)), (3003, some (.hid true 1003))]⟩) hF rfl (fun K7 again6 v4 J5 hF => ?_)
  unfold vary_Join_l2 at hF
  refine G.seq ?_
  refine G.region ?_
  refine G.op1 (op_lss (Ev.t 10 (bI .i64 v4.1)) (Ev.t 9 (bI .i64 (l_0.length : Int))) rfl) rfl ⟨rfl, rfl, trivial⟩ trivial ?_
  refine G.endOps ?_
  refine G.seq ?_
  refine ifS hF (fun hc8 hF => ?_) (fun hc8 hF => ?_)
  · refine G.cond rfl (fun _ => ?_) (fun hx => by rw [hc8] at hx; cases hx)
    refine G.skip ?_
    refine G.seq ?_
    refine G.block ?_
    refine G.seq ?_
    refine G.region ?_
    obtain ⟨x9, hx9, hF⟩ := bindS hF
    refine G.op1 (op_index (cs := [.v (.int .u64 x9)]) Try.underlying110 ti76 (idx_ok hx9).1 (idx_get hx9 encI_u64) (Ev.t 8 (.g (.d (.sl 1 (List.map encI_u64 l_0))))) (Ev.t 10 (bI .i64 v4.1)) rfl) rfl ⟨rfl, rfl, trivial⟩ trivial ?_
    refine G.op1 (op_load1E (c := .v (.int .u64 x9)) Try.underlying76 rfl rfl (Ev.t 12 (.ep [.v (.int .u64 x9)])) rfl) rfl ⟨rfl, trivial⟩ trivial ?_
    refine G.op1 (op_assign (Ev.t 13 (bI .u64 x9)) rfl) rfl ⟨rfl, trivial⟩ trivial ?_
    refine G.endOps ?_
    refine G.region ?_
    refine G.op1 (op_move (Ev.t 4 (.clo 80 [1003])) rfl) rfl ⟨rfl, trivial⟩ trivial ?_
    refine G.op1 (op_move (Ev.t 6 (bI .u64 x9)) rfl) rfl ⟨rfl, trivial⟩ trivial ?_
    obtain ⟨r10, hr10, hF⟩ := bindS hF
    refine G.opM (op_callCloM (k := 1003) (h := .bld 70 5 v4.2) (h' := .bld 70 5 r10) 3003 (sv := .tup []) cf80 (ct_vary_Join_1 x9 v4.2 r10 hr10) rfl rfl (EvM.g (Ev.t 15 (bI .u64 x9)) EvM.nil) rfl) rfl ⟨rfl, rfl, trivial⟩ ⟨rfl, rfl, trivial⟩ ?_
    refine G.endOps ?_
    refine G.endBlock ?_
    refine G.region ?_
    refine G.op1 (op_add (Ev.t 10 (bI .i64 v4.1)) (Ev.c _ rfl) rfl) rfl ⟨rfl, trivial⟩ trivial ?_
    refine G.op1 (op_move (Ev.t 17 (bI .i64 (IntKind.wrap .i64 (v4.1 + 1)))) rfl) rfl ⟨rfl, trivial⟩ trivial ?_
    refine G.endOps ?_
    exact G.arr (J5 (IntKind.wrap .i64 (v4.1 + 1), r10) hF) ⟨rfl, rfl, rfl, rfl, rfl, trivial⟩ ⟨rfl, rfl, trivial⟩ rfl
  · refine G.cond rfl (fun hx => by rw [hc8] at hx; cases hx) (fun _ => ?_)
    refine G.exit ?_
    refine GX.c ?_
    refine GX.q ?_
    refine GX.bYes ?_
    exact G.arr (J3 v4.2 hF) ⟨rfl, trivial⟩ ⟨rfl, rfl, trivial⟩ rfl


set_option maxRecDepth 20000 in
set_option maxHeartbeats 2000000 in
theorem ct_vary_Number (n_0 : Int) (r : ByteArray) (hF : vary_Number n_0 = some r) : Ct Try.prog 47 [.g (.d (.v (.int .u64 n_0)))] (.one (.d (.v (.string r)))) := by
  unfold vary_Number at hF
  refine Ct.intro Try.func47 rfl Try.ntmps47 rfl rfl fun M w => ?_
  refine G.seq ?_
  refine G.region ?_
  refine G.op1 (op_assign (Ev.c _ rfl) rfl) rfl trivial trivial ?_
  refine G.endOps ?_
  refine G.seq ?_
  refine G.region ?_
  refine G.op1 (op_move (Ev.t 0 (bI .u64 n_0)) rfl) rfl ⟨rfl, trivial⟩ trivial ?_
  refine G.op1 (op_buildSlice (es := List.map encI_u64 [n_0]) Try.underlying110 ti76 rfl rfl (EvP.cons (Ev.t 3 (bI .u64 n_0)) EvP.nil) rfl rfl (by simp [encI_u64]) rfl) rfl ⟨rfl, trivial⟩ trivial ?_
  obtain ⟨r1, hr1, hF⟩ := bindS hF
  refine G.op1 (op_callQ (sv := .one (bS r1)) cf74 (ct_vary_Join ([n_0]) r1 hr1) rfl rfl (EvQL.cons (EvQ.g (Ev.t 4 (.g (.d (.sl 1 (List.map encI_u64 ([n_0]))))))) EvQL.nil) rfl) rfl ⟨rfl, trivial⟩ trivial ?_
  refine G.op1 (op_assign (Ev.t 5 (bS r1)) rfl) rfl ⟨rfl, trivial⟩ trivial ?_
  refine G.endOps ?_
  cases hF
  exact G.ret1 Try.results47 (RVar.tmp 2 _) ⟨rfl, trivial⟩ trivial


set_option maxHeartbeats 2000000 in
set_option maxRecDepth 100000 in
theorem bWS46 (s t : ByteArray) (hlen : s.size + t.size ≤ 140737488355328) (b : Nat) (p v : Value) (w : World) (hp : p = .pointer none ∨ p = .pointer (some ⟨b, 0, none⟩)) (hbk : w.heap[b]? = some (.cells #[p, v] 70 (0, 0))) (hown : w.ownsRow 0 5 1 v s.size (Lib.strCells s)) (hne : v.ownBlock ≠ some b) :
    Calls Try.prog 46 #[.pointer (some ⟨b, 0, none⟩), .string t] w fun e w' => e = .returned (.tuple #[.int .i64 t.size, .nilIface]) ∧ BPost 70 5 w b v.ownBlock (s ++ t) w' := by
  have hIB : (Try.prog.info? 5).map (fun i => (i.zero, i.size, i.bytes)) = some (some (.int .u8 0), 1, 1) := by kernel_rfl
  obtain ⟨i0, hi, hz0, hz1, hz2⟩ := info_parts hIB
  have t70 := Try.underlying70; have a70 := Try.isAgg70; have z70 := Try.sizeOf70; have v70 := Try.zeroValue70; have u70 := run_underlying t70
  have t68 := Try.underlying68; have a68 := Try.isAgg68; have z68 := Try.sizeOf68; have v68 := Try.zeroValue68; have u68 := run_underlying t68
  have t47 := Try.underlying47; have a47 := Try.isAgg47; have z47 := Try.sizeOf47; have v47 := Try.zeroValue47; have u47 := run_underlying t47
  have t5 := Try.underlying5; have a5 := Try.isAgg5; have z5 := Try.sizeOf5; have v5 := Try.zeroValue5; have u5 := run_underlying t5
  have t9 := Try.underlying9; have a9 := Try.isAgg9; have z9 := Try.sizeOf9; have v9 := Try.zeroValue9; have u9 := run_underlying t9
  have t4 := Try.underlying4; have a4 := Try.isAgg4; have z4 := Try.sizeOf4; have v4 := Try.zeroValue4; have u4 := run_underlying t4
  have t3 := Try.underlying3; have a3 := Try.isAgg3; have z3 := Try.sizeOf3; have v3 := Try.zeroValue3; have u3 := run_underlying t3
  go_enter Try.func46, Try.ntmps46
  go_wp2_with (go_at_call 73; refine (bCC73 b p v _ hp hbk).mono ?_)
  rintro e w1 ⟨rfl, h1, hbk1⟩
  obtain ⟨hown1, hk1, hs1, hlt1⟩ := bCC73_more hbk hown hne h1
  have c0 : w1.cell? ⟨b, 0, none⟩ = some (.pointer (some ⟨b, 0, none⟩)) := by rw [Lib.cell_of_heap hbk1]; rfl
  have c1 : w1.cell? ⟨b, 1, none⟩ = some v := by rw [Lib.cell_of_heap hbk1]; rfl
  go_wp2_with (at_builtin; refine wpList_append_bytes _ rfl _ _ 47 9 rfl 5 i0 t47 t9 hi hz0 hz1 hz2 _ _ _ rfl hown1 t rfl hlen ?_)
  intro v' w2 hown' hgrow hblk
  have hb2 : w2.heap[b]? = some (.cells #[.pointer (some ⟨b, 0, none⟩), v] 70 (0, 0)) := by
    rw [hgrow.block b hlt1 (fun e => hne e.symm)]
    exact hbk1
  have d0 : w2.cell? ⟨b, 0, none⟩ = some (.pointer (some ⟨b, 0, none⟩)) := by rw [Lib.cell_of_heap hb2]; rfl
  have d1 : w2.cell? ⟨b, 1, none⟩ = some v := by rw [Lib.cell_of_heap hb2]; rfl
  have f1 : w2.frozen? ⟨b, 1, none⟩ = false := Lib.frozen_of_heap hb2 1
  obtain ⟨ao, n', cap, rfl⟩ : ∃ ao n' cap, v' = .slice ao n' cap := by
    rcases hown'.2 with ⟨hv, _⟩ | ⟨g, cap, cur, hv, _⟩
    · exact ⟨_, _, _, hv⟩
    · exact ⟨_, _, _, hv⟩
  go_wp2
  go_ret2
  exact ⟨rfl, bpost_of hbk1 hne hk1 hs1 hlt1 hown' (by rw [ByteArray.size_append]) (strCells_app s t) hgrow hblk (by decide)⟩

theorem ct_bld_WriteString (s t r : ByteArray) (hF : bld_WriteString s t = some r) : CtM Try.prog 46 [.pt (.bld 70 5 s), .g (.d (.v (.string t)))] (.bld 70 5 r) (.tup [.d (.v (.int .i64 (t.size : Int))), .d (.v .nilIface)]) := by
  unfold bld_WriteString at hF
  split at hF
  · rename_i hl
    cases hF
    refine CtM.write (arg := .string t) (v := .tuple #[.int .i64 t.size, .nilIface]) (fun M w' => ⟨_, rfl, rfl, fun i g hi => ?_⟩) (fun _ _ _ h => RD.v_inv h) (fun b p vb w h1 h2 h3 h4 => bWS46 s t hl b p vb w h1 h2 h3 h4)
    match i with
    | 0 => simp at hi; subst hi; exact ⟨_, rfl, RD.v _ rfl⟩
    | 1 => simp at hi; subst hi; exact ⟨_, rfl, RD.v _ rfl⟩
    | i + 2 => simp at hi
  · cases hF


set_option maxRecDepth 20000 in
set_option maxHeartbeats 2000000 in
theorem ct_vary_Text (s_0 : ByteArray) (r : ByteArray) (hF : vary_Text s_0 = some r) : Ct Try.prog 48 [.g (.d (.v (.string s_0)))] (.one (.d (.v (.string r)))) := by
  unfold vary_Text at hF
  refine Ct.intro Try.func48 rfl Try.ntmps48 rfl rfl fun M w => ?_
  refine G.seq ?_
  refine G.region ?_
  refine G.op1 (op_assign (Ev.c _ rfl) rfl) rfl trivial trivial ?_
  refine G.endOps ?_
  refine G.seq ?_
  refine G.region ?_
  refine G.op1 (op_move (Ev.t 0 (bS s_0)) rfl) rfl ⟨rfl, trivial⟩ trivial ?_
  refine G.op1 (op_lenS Try.underlying9 (Ev.t 3 (bS s_0)) rfl) rfl ⟨rfl, trivial⟩ trivial ?_
  refine G.op1 (op_convI Try.underlying3 Try.underlying76 (Ev.t 4 (bI .i64 (s_0.size : Int))) rfl) rfl ⟨rfl, trivial⟩ trivial ?_
  obtain ⟨r1, hr1, hF⟩ := bindS hF
  refine G.op1 (op_callQ (sv := .one (bS r1)) cf47 (ct_vary_Number (IntKind.wrap .u64 (s_0.size : Int)) r1 hr1) rfl rfl (EvQL.cons (EvQ.g (Ev.t 5 (bI .u64 (IntKind.wrap .u64 (s_0.size : Int))))) EvQL.nil) rfl) rfl ⟨rfl, trivial⟩ trivial ?_
  refine G.op1 (op_move (Ev.t 0 (bS s_0)) rfl) rfl ⟨rfl, trivial⟩ trivial ?_
  obtain ⟨s2, hs2, hF⟩ := bindS hF
  refine G.op1 (OpL.cast (op_cat (scat_ok hs2).1 (Ev.t 6 (bS r1)) (Ev.t 7 (bS s_0)) rfl) (by rw [(scat_ok hs2).2])) rfl ⟨rfl, rfl, trivial⟩ trivial ?_
  refine G.op1 (op_assign (Ev.t 8 (bS s2)) rfl) rfl ⟨rfl, trivial⟩ trivial ?_
  refine G.endOps ?_
  cases hF
  exact G.ret1 Try.results48 (RVar.tmp 2 _) ⟨rfl, trivial⟩ trivial


set_option maxRecDepth 20000 in
set_option maxHeartbeats 2000000 in
theorem ct_stamp_Bytes (s_0 : Api_Stamp) (r : ByteArray) (hF : stamp_Bytes s_0 = some r) : Ct Try.prog 49 [.g (.agg (encApi_Stamp s_0))] (.one (.d (.v (.string r)))) := by
  unfold stamp_Bytes at hF
  refine Ct.intro Try.func49 rfl Try.ntmps49 rfl rfl fun M w => ?_
  refine G.seq ?_
  refine G.region ?_
  refine G.op2 (op_boxA (k := 1001) (Ev.t 0 (.g (.agg [.v (.int .i64 s_0.N), .v (.int .i64 s_0.Site)]))) rfl) rfl ⟨rfl, trivial⟩ ⟨rfl, trivial⟩ ?_
  refine G.op1 (op_assign (Ev.c _ rfl) rfl) rfl trivial trivial ?_
  refine G.endOps ?_
  refine G.seq ?_
  refine G.seq ?_
  refine G.region ?_
  refine G.op1 (op_loadAP (ds := [.v (.int .i64 s_0.N), .v (.int .i64 s_0.Site)]) Try.underlying24 rfl ti24 rfl (Ev.t 1 (.ptr 1001 0)) rfl) rfl ⟨rfl, trivial⟩ ⟨rfl, trivial⟩ ?_
  obtain ⟨r1, hr1, hF⟩ := bindS hF
  refine G.op1 (op_callQ (sv := .one (bB r1)) cf64 (ct_stamp_Check s_0 r1 hr1) rfl rfl (EvQL.cons (EvQ.g (Ev.t 3 (.g (.agg [.v (.int .i64 s_0.N), .v (.int .i64 s_0.Site)])))) EvQL.nil) rfl) rfl ⟨rfl, trivial⟩ trivial ?_
  refine G.op1 (op_not (Ev.t 4 (bB r1)) rfl) rfl ⟨rfl, trivial⟩ trivial ?_
  refine G.endOps ?_
  refine ifS hF (fun hc2 hF => ?_) (fun hc2 hF => ?_)
  · refine G.cond rfl (fun _ => ?_) (fun hx => by rw [hc2] at hx; cases hx)
    refine G.seq ?_
    refine G.region ?_
    refine G.op1 (op_assign (Ev.c _ rfl) rfl) rfl trivial trivial ?_
    refine G.endOps ?_
    cases hF
    exact G.ret1 Try.results49 (RVar.tmp 2 _) ⟨rfl, trivial⟩ trivial
  · refine G.cond rfl (fun hx => by rw [hc2] at hx; cases hx) (fun _ => ?_)
    refine G.skip ?_
    refine G.seq ?_
    refine G.region ?_
    refine G.op1 (op_fieldP (off' := 0) Try.underlying24 rfl ti3 (by decide) rfl (Ev.t 1 (.ptr 1001 0)) rfl) rfl ⟨rfl, trivial⟩ trivial ?_
    refine G.op1 (op_load1P (c := bI .i64 s_0.N) Try.underlying3 rfl rfl (Ev.t 6 (.ptr 1001 0)) rfl) rfl ⟨rfl, trivial⟩ ⟨rfl, trivial⟩ ?_
    refine G.op1 (op_convI Try.underlying3 Try.underlying76 (Ev.t 7 (bI .i64 s_0.N)) rfl) rfl ⟨rfl, trivial⟩ trivial ?_
    refine G.op1 (op_fieldP (off' := 1) Try.underlying24 rfl ti3 (by decide) rfl (Ev.t 1 (.ptr 1001 0)) rfl) rfl ⟨rfl, trivial⟩ trivial ?_
    refine G.op1 (op_load1P (c := bI .i64 s_0.Site) Try.underlying3 rfl rfl (Ev.t 9 (.ptr 1001 1)) rfl) rfl ⟨rfl, trivial⟩ ⟨rfl, trivial⟩ ?_
    refine G.op1 (op_convI Try.underlying3 Try.underlying76 (Ev.t 10 (bI .i64 s_0.Site)) rfl) rfl ⟨rfl, trivial⟩ trivial ?_
    refine G.op1 (op_buildSlice (es := List.map encI_u64 [IntKind.wrap .u64 s_0.N, IntKind.wrap .u64 s_0.Site]) Try.underlying110 ti76 rfl rfl (EvP.cons (Ev.t 8 (bI .u64 (IntKind.wrap .u64 s_0.N))) (EvP.cons (Ev.t 11 (bI .u64 (IntKind.wrap .u64 s_0.Site))) EvP.nil)) rfl rfl (by simp [encI_u64]) rfl) rfl ⟨rfl, rfl, trivial⟩ trivial ?_
    obtain ⟨r3, hr3, hF⟩ := bindS hF
    refine G.op1 (op_callQ (sv := .one (bS r3)) cf74 (ct_vary_Join ([IntKind.wrap .u64 s_0.N, IntKind.wrap .u64 s_0.Site]) r3 hr3) rfl rfl (EvQL.cons (EvQ.g (Ev.t 12 (.g (.d (.sl 1 (List.map encI_u64 ([IntKind.wrap .u64 s_0.N, IntKind.wrap .u64 s_0.Site]))))))) EvQL.nil) rfl) rfl ⟨rfl, trivial⟩ trivial ?_
    refine G.op1 (op_assign (Ev.t 13 (bS r3)) rfl) rfl ⟨rfl, trivial⟩ trivial ?_
    refine G.endOps ?_
    cases hF
    exact G.ret1 Try.results49 (RVar.tmp 2 _) ⟨rfl, trivial⟩ trivial


set_option maxRecDepth 20000 in
set_option maxHeartbeats 2000000 in
theorem ct_past_Bytes (p_0 : (List Api_Dep)) (r : ByteArray) (hF : past_Bytes p_0 = some r) : Ct Try.prog 25 [.g (.d (.sl 3 (List.map encApi_Dep p_0)))] (.one (.d (.v (.string r)))) := by
  unfold past_Bytes at hF
  refine Ct.intro Try.func25 rfl Try.ntmps25 rfl rfl fun M w => ?_
  refine G.seq ?_
  refine G.region ?_
  refine G.op1 (op_assign (Ev.c _ rfl) rfl) rfl trivial trivial ?_
  refine G.endOps ?_
  refine G.seq ?_
  refine G.seq ?_
  refine G.region ?_
  refine G.op1 (op_move (Ev.t 0 (.g (.d (.sl 3 (List.map encApi_Dep p_0))))) rfl) rfl ⟨rfl, trivial⟩ trivial ?_
  obtain ⟨r1, hr1, hF⟩ := bindS hF
  refine G.op1 (op_callQ (sv := .one (bB r1)) cf13 (ct_past_Check p_0 r1 hr1) rfl rfl (EvQL.cons (EvQ.g (Ev.t 6 (.g (.d (.sl 3 (List.map encApi_Dep p_0)))))) EvQL.nil) rfl) rfl ⟨rfl, trivial⟩ trivial ?_
  refine G.op1 (op_not (Ev.t 7 (bB r1)) rfl) rfl ⟨rfl, trivial⟩ trivial ?_
  refine G.endOps ?_
  refine ifS hF (fun hc2 hF => ?_) (fun hc2 hF => ?_)
  · refine G.cond rfl (fun _ => ?_) (fun hx => by rw [hc2] at hx; cases hx)
    refine G.seq ?_
    refine G.region ?_
    refine G.op1 (op_assign (Ev.c _ rfl) rfl) rfl trivial trivial ?_
    refine G.endOps ?_
    cases hF
    exact G.ret1 Try.results25 (RVar.tmp 2 _) ⟨rfl, trivial⟩ trivial
  · refine G.cond rfl (fun hx => by rw [hc2] at hx; cases hx) (fun _ => ?_)
    refine G.skip ?_
    refine G.seq ?_
    refine G.region ?_
    refine G.opM (op_allocB (T := 70) (E := 5) (k := 1003) (kk := 3003) ti70 rfl rfl rfl) rfl trivial ⟨rfl, rfl, trivial⟩ ?_
    refine G.endOps ?_
    refine G.seq ?_
    refine G.region ?_
    refine G.op1 (op_move (Ev.t 0 (.g (.d (.sl 3 (List.map encApi_Dep p_0))))) rfl) rfl ⟨rfl, trivial⟩ trivial ?_
    refine G.op1 (OpL.cast (op_lenD Try.underlying22 (Ev.t 9 (.g (.d (.sl 3 (List.map encApi_Dep p_0))))) rfl) (by rw [List.length_map])) rfl ⟨rfl, trivial⟩ trivial ?_
    refine G.op1 (op_convI Try.underlying3 Try.underlying76 (Ev.t 10 (bI .i64 (p_0.length : Int))) rfl) rfl ⟨rfl, trivial⟩ trivial ?_
    obtain ⟨r3, hr3, hF⟩ := bindS hF
    refine G.op1 (op_callQ (sv := .one (bS r3)) cf47 (ct_vary_Number (IntKind.wrap .u64 (p_0.length : Int)) r3 hr3) rfl rfl (EvQL.cons (EvQ.g (Ev.t 11 (bI .u64 (IntKind.wrap .u64 (p_0.length : Int))))) EvQL.nil) rfl) rfl ⟨rfl, trivial⟩ trivial ?_
    obtain ⟨r4, hr4, hF⟩ := bindS hF
    refine G.opM (op_callM (k := 1003) (h := .bld 70 5 ByteArray.empty) (h' := .bld 70 5 r4) 3003 (sv := .tup [bI .i64 (r3.size : Int), .g (.d (.v .nilIface))]) cf46 (ct_bld_WriteString ByteArray.empty r3 r4 hr4) rfl rfl (EvM.pt (Ev.t 3 (.ptr 1003 0)) (EvM.g (Ev.t 12 (bS r3)) EvM.nil)) rfl) rfl ⟨rfl, rfl, trivial⟩ ⟨rfl, rfl, trivial⟩ ?_
    refine G.endOps ?_
    refine G.seq ?_
    refine G.seq ?_
    refine G.region ?_
    refine G.op1 (op_move (Ev.t 0 (.g (.d (.sl 3 (List.map encApi_Dep p_0))))) rfl) rfl ⟨rfl, trivial⟩ trivial ?_
    refine G.op1 (OpL.cast (op_lenD Try.underlying22 (Ev.t 14 (.g (.d (.sl 3 (List.map encApi_Dep p_0))))) rfl) (by rw [List.length_map])) rfl ⟨rfl, trivial⟩ trivial ?_
    refine G.op1 (op_move (Ev.c _ rfl) rfl) rfl trivial trivial ?_
    refine G.endOps ?_
    refine G.joinC (T := ByteArray) (fun y5 => ⟨[(3, .one (.ptr 1003 0))], [(1003, some (.bld 70 5 3003 y5)), (3003, some (.hid true 1003))]⟩) (fun y5 => past_Bytes_k1 y5 = some r) (fun y5 hF => ?_) (fun J7 => ?_)
    · unfold past_Bytes_k1 at hF
      refine G.seq ?_
      refine G.region ?_
      obtain ⟨r6, hr6, hF⟩ := bindS hF
      refine G.opM (op_callM (k := 1003) (h := .bld 70 5 y5) (h' := .gone) 3003 (sv := .one (bS r6)) cf50 (ct_bld_String y5 r6 hr6) rfl rfl (EvM.pt (Ev.t 3 (.ptr 1003 0)) EvM.nil) rfl) rfl ⟨rfl, trivial⟩ ⟨rfl, rfl, trivial⟩ ?_
      refine G.op1 (op_assign (Ev.t 29 (bS r6)) rfl) rfl ⟨rfl, trivial⟩ trivial ?_
      refine G.endOps ?_
      cases hF
      exact G.ret1 Try.results25 (RVar.tmp 2 _) ⟨rfl, trivial⟩ trivial
    refine G.block ?_
    refine G.keep (sl' := [(3, .one (.ptr 1003 0)), (14, .one (.g (.d (.sl 3 (List.map encApi_Dep p_0))))), (15, .one (bI .i64 (p_0.length : Int))), (16, .one (bI .i64 0))]) (hp' := [(1003, some (.bld 70 5 3003 r4)), (3003, some (.hid true 1003))]) ⟨rfl, rfl, rfl, rfl, trivial⟩ ⟨rfl, rfl, trivial⟩ rfl ?_
    refine G.loopF (fun (v8 : Int × ByteArray) => ⟨[(3, .one (.ptr 1003 0)), (14, .one (.g (.d (.sl 3 (List.map encApi_Dep p_0))))), (15, .one (bI .i64 (p_0.length : Int))), (16, .one (bI .i64 v8.1))], [(1003, some (.bld 70 5 3003 v8.2)), (3003, some (.hid true 1003))]⟩) hF rfl (fun K11 again10 v8 J9 hF => ?_)
    unfold past_Bytes_l2 at hF
    refine G.seq ?_
    refine G.region ?_
    refine G.op1 (op_lss (Ev.t 16 (bI .i64 v8.1)) (Ev.t 15 (bI .i64 (p_0.length : Int))) rfl) rfl ⟨rfl, rfl, trivial⟩ trivial ?_
    refine G.endOps ?_
    refine G.seq ?_
    refine ifS hF (fun hc12 hF => ?_) (fun hc12 hF => ?_)
    · refine G.cond rfl (fun _ => ?_) (fun hx => by rw [hc12] at hx; cases hx)
      refine G.skip ?_
      refine G.seq ?_
      refine G.block ?_
      refine G.seq ?_
      refine G.region ?_
      obtain ⟨x13, hx13, hF⟩ := bindS hF
      refine G.op1 (op_index (cs := [.v (.string x13.Key), .v (.int .i64 x13.Stamp.N), .v (.int .i64 x13.Stamp.Site)]) Try.underlying22 ti26 (idx_ok hx13).1 (idx_get hx13 encApi_Dep) (Ev.t 14 (.g (.d (.sl 3 (List.map encApi_Dep p_0))))) (Ev.t 16 (bI .i64 v8.1)) rfl) rfl ⟨rfl, rfl, trivial⟩ trivial ?_
      refine G.op1 (op_loadAE (ds := [.v (.string x13.Key), .v (.int .i64 x13.Stamp.N), .v (.int .i64 x13.Stamp.Site)]) Try.underlying26 rfl ti26 rfl (Ev.t 18 (.ep [.v (.string x13.Key), .v (.int .i64 x13.Stamp.N), .v (.int .i64 x13.Stamp.Site)])) rfl) rfl ⟨rfl, trivial⟩ trivial ?_
      refine G.op2 (op_alloc (k := 1005) (cs := [bS ByteArray.empty, bI .i64 0, bI .i64 0]) ti26 ⟨.v _ rfl, .v _ rfl, .v _ rfl, trivial⟩ rfl) rfl trivial ⟨rfl, trivial⟩ ?_
      refine G.op3 (op_storeA (cs' := [bS x13.Key, bI .i64 x13.Stamp.N, bI .i64 x13.Stamp.Site]) ti26 rfl rfl (Ev.t 5 (.ptr 1005 0)) (Ev.t 19 (.g (.agg [.v (.string x13.Key), .v (.int .i64 x13.Stamp.N), .v (.int .i64 x13.Stamp.Site)])))) rfl ⟨rfl, rfl, trivial⟩ ⟨rfl, trivial⟩ ?_
      refine G.endOps ?_
      obtain ⟨r14, hr14, hF⟩ := bindS hF
      obtain ⟨r15, hr15, hF⟩ := bindS hF
      obtain ⟨s16, hs16, hF⟩ := bindS hF
      obtain ⟨r17, hr17, hF⟩ := bindS hF
      refine G.drawn (effs := [⟨[(5, .one (.ptr 1005 0))], [], [(20, .one (.ptr 1005 0))], []⟩, ⟨[(20, .one (.ptr 1005 0))], [(1005, some (.blk 26 [bS x13.Key, bI .i64 x13.Stamp.N, bI .i64 x13.Stamp.Site]))], [(21, .one (bS x13.Key))], []⟩, ⟨[(21, .one (bS x13.Key))], [], [(22, .one (bS r14))], []⟩, ⟨[(5, .one (.ptr 1005 0))], [], [(23, .one (.ptr 1005 1))], []⟩, ⟨[(23, .one (.ptr 1005 1))], [(1005, some (.blk 26 [bS x13.Key, bI .i64 x13.Stamp.N, bI .i64 x13.Stamp.Site]))], [(24, .one (.g (.agg [.v (.int .i64 x13.Stamp.N), .v (.int .i64 x13.Stamp.Site)])))], []⟩, ⟨[(24, .one (.g (.agg [.v (.int .i64 x13.Stamp.N), .v (.int .i64 x13.Stamp.Site)])))], [], [(25, .one (bS r15))], []⟩, ⟨[(22, .one (bS r14)), (25, .one (bS r15))], [], [(26, .one (bS s16))], []⟩, ⟨[(3, .one (.ptr 1003 0)), (26, .one (bS s16))], [(1003, some (.bld 70 5 3003 v8.2)), (3003, some (.hid true 1003))], [(27, .tup [bI .i64 (s16.size : Int), .g (.d (.v .nilIface))])], [(1003, some (.bld 70 5 3003 r17)), (3003, some (.hid true 1003))]⟩]) (deps := [[], [0], [0, 1], [], [3], [0, 1, 2, 3, 4], [0, 1, 2, 3, 4, 5], [0, 1, 2, 3, 4, 5, 6]]) (sl' := [(3, .one (.ptr 1003 0)), (14, .one (.g (.d (.sl 3 (List.map encApi_Dep p_0))))), (15, .one (bI .i64 (p_0.length : Int))), (16, .one (bI .i64 v8.1))]) (hp' := [(1003, some (.bld 70 5 3003 r17)), (3003, some (.hid true 1003))]) follows rfl rfl rfl ⟨⟨rfl, trivial⟩, trivial, ⟨rfl, trivial⟩, ⟨⟨rfl, rfl⟩, trivial⟩, ⟨rfl, trivial⟩, trivial, ⟨rfl, trivial⟩, trivial, ⟨rfl, trivial⟩, ⟨⟨rfl, rfl⟩, trivial⟩, ⟨rfl, trivial⟩, trivial, ⟨rfl, rfl, trivial⟩, trivial, ⟨rfl, rfl, trivial⟩, ⟨⟨rfl, rfl⟩, ⟨rfl, rfl⟩, trivial⟩, trivial⟩ ⟨OpW.plain (op_fieldP (off' := 0) Try.underlying26 rfl ti9 (by decide) rfl (Ev.t 5 (.ptr 1005 0)) rfl) rfl rfl, OpW.plain (op_load1P (c := bS x13.Key) Try.underlying9 rfl rfl (Ev.t 20 (.ptr 1005 0)) rfl) rfl rfl, OpW.plain (op_callQ (sv := .one (bS r14)) cf48 (ct_vary_Text x13.Key r14 hr14) rfl rfl (EvQL.cons (EvQ.g (Ev.t 21 (bS x13.Key))) EvQL.nil) rfl) rfl rfl, OpW.plain (op_fieldP (off' := 1) Try.underlying26 rfl ti24 (by decide) rfl (Ev.t 5 (.ptr 1005 0)) rfl) rfl rfl, OpW.plain (op_loadAP (ds := [.v (.int .i64 x13.Stamp.N), .v (.int .i64 x13.Stamp.Site)]) Try.underlying24 rfl ti24 rfl (Ev.t 23 (.ptr 1005 1)) rfl) rfl rfl, OpW.plain (op_callQ (sv := .one (bS r15)) cf49 (ct_stamp_Bytes x13.Stamp r15 hr15) rfl rfl (EvQL.cons (EvQ.g (Ev.t 24 (.g (.agg [.v (.int .i64 x13.Stamp.N), .v (.int .i64 x13.Stamp.Site)])))) EvQL.nil) rfl) rfl rfl, OpW.plain (OpL.cast (op_cat (scat_ok hs16).1 (Ev.t 22 (bS r14)) (Ev.t 25 (bS r15)) rfl) (by rw [(scat_ok hs16).2])) rfl rfl, OpW.plain (op_callM (k := 1003) (h := .bld 70 5 v8.2) (h' := .bld 70 5 r17) 3003 (sv := .tup [bI .i64 (s16.size : Int), .g (.d (.v .nilIface))]) cf46 (ct_bld_WriteString v8.2 s16 r17 hr17) rfl rfl (EvM.pt (Ev.t 3 (.ptr 1003 0)) (EvM.g (Ev.t 26 (bS s16)) EvM.nil)) rfl) rfl rfl, trivial⟩ ⟨rfl, rfl, rfl, rfl, trivial⟩ ⟨rfl, rfl, trivial⟩ rfl ?_
      refine G.endBlock ?_
      refine G.region ?_
      refine G.op1 (op_add (Ev.t 16 (bI .i64 v8.1)) (Ev.c _ rfl) rfl) rfl ⟨rfl, trivial⟩ trivial ?_
      refine G.op1 (op_move (Ev.t 28 (bI .i64 (IntKind.wrap .i64 (v8.1 + 1)))) rfl) rfl ⟨rfl, trivial⟩ trivial ?_
      refine G.endOps ?_
      exact G.arr (J9 (IntKind.wrap .i64 (v8.1 + 1), r17) hF) ⟨rfl, rfl, rfl, rfl, trivial⟩ ⟨rfl, rfl, trivial⟩ rfl
    · refine G.cond rfl (fun hx => by rw [hc12] at hx; cases hx) (fun _ => ?_)
      refine G.exit ?_
      refine GX.c ?_
      refine GX.q ?_
      refine GX.bYes ?_
      exact G.arr (J7 v8.2 hF) ⟨rfl, trivial⟩ ⟨rfl, rfl, trivial⟩ rfl


set_option maxRecDepth 20000 in
set_option maxHeartbeats 2000000 in
theorem ct_ref01_Number_b (again0 : Int → Option ByteArray) (ih : ∀ (n_0 : Int) (r : ByteArray), again0 n_0 = some r → Ct Try.prog 51 [.g (.d (.v (.int .u64 n_0)))] (.one (.d (.v (.string r))))) (n_0 : Int) (r : ByteArray) (hF : ref01_Number_b again0 n_0 = some r) : Ct Try.prog 51 [.g (.d (.v (.int .u64 n_0)))] (.one (.d (.v (.string r)))) := by
  unfold ref01_Number_b at hF
  refine Ct.intro Try.func51 rfl Try.ntmps51 rfl rfl fun M w => ?_
  refine G.seq ?_
  refine G.region ?_
  refine G.op1 (op_assign (Ev.c _ rfl) rfl) rfl trivial trivial ?_
  refine G.endOps ?_
  refine G.seq ?_
  refine G.seq ?_
  refine G.region ?_
  refine G.op1 (op_move (Ev.t 0 (bI .u64 n_0)) rfl) rfl ⟨rfl, trivial⟩ trivial ?_
  refine G.op1 (op_lss (Ev.t 3 (bI .u64 n_0)) (Ev.c _ rfl) rfl) rfl ⟨rfl, trivial⟩ trivial ?_
  refine G.endOps ?_
  refine ifS hF (fun hc1 hF => ?_) (fun hc1 hF => ?_)
  · refine G.cond rfl (fun _ => ?_) (fun hx => by rw [hc1] at hx; cases hx)
    refine G.seq ?_
    refine G.region ?_
    refine G.op1 (op_move (Ev.t 0 (bI .u64 n_0)) rfl) rfl ⟨rfl, trivial⟩ trivial ?_
    refine G.op1 (op_convI Try.underlying76 Try.underlying5 (Ev.t 5 (bI .u64 n_0)) rfl) rfl ⟨rfl, trivial⟩ trivial ?_
    refine G.op1 (op_buildSlice (es := List.map encI_u8 [IntKind.wrap .u8 n_0]) Try.underlying47 ti5 rfl rfl (EvP.cons (Ev.t 6 (bI .u8 (IntKind.wrap .u8 n_0))) EvP.nil) rfl rfl (by simp [encI_u8]) rfl) rfl ⟨rfl, trivial⟩ trivial ?_
    refine G.op1 (op_toText (ns := [IntKind.wrap .u8 n_0]) Try.underlying47 Try.underlying5 Try.underlying9 rfl (Ev.t 7 (.g (.d (.sl 1 (List.map encI_u8 ([IntKind.wrap .u8 n_0])))))) rfl) rfl ⟨rfl, trivial⟩ trivial ?_
    refine G.op1 (op_assign (Ev.t 8 (bS (bytesOf ([IntKind.wrap .u8 n_0])))) rfl) rfl ⟨rfl, trivial⟩ trivial ?_
    refine G.endOps ?_
    cases hF
    exact G.ret1 Try.results51 (RVar.tmp 2 _) ⟨rfl, trivial⟩ trivial
  · refine G.cond rfl (fun hx => by rw [hc1] at hx; cases hx) (fun _ => ?_)
    refine G.skip ?_
    refine G.seq ?_
    obtain ⟨r2, hr2, hF⟩ := bindS hF
    obtain ⟨s3, hs3, hF⟩ := bindS hF
    refine G.drawn (effs := [⟨[(0, .one (bI .u64 n_0))], [], [(9, .one (bI .u64 n_0))], []⟩, ⟨[(9, .one (bI .u64 n_0))], [], [(10, .one (bI .u64 (Int.tmod n_0 128)))], []⟩, ⟨[(10, .one (bI .u64 (Int.tmod n_0 128)))], [], [(11, .one (bI .u64 (IntKind.wrap .u64 (128 + (Int.tmod n_0 128)))))], []⟩, ⟨[(11, .one (bI .u64 (IntKind.wrap .u64 (128 + (Int.tmod n_0 128)))))], [], [(12, .one (bI .u8 (IntKind.wrap .u8 (IntKind.wrap .u64 (128 + (Int.tmod n_0 128))))))], []⟩, ⟨[(12, .one (bI .u8 (IntKind.wrap .u8 (IntKind.wrap .u64 (128 + (Int.tmod n_0 128))))))], [], [(13, .one (.g (.d (.sl 1 (List.map encI_u8 ([IntKind.wrap .u8 (IntKind.wrap .u64 (128 + (Int.tmod n_0 128)))]))))))], []⟩, ⟨[(13, .one (.g (.d (.sl 1 (List.map encI_u8 ([IntKind.wrap .u8 (IntKind.wrap .u64 (128 + (Int.tmod n_0 128)))]))))))], [], [(14, .one (bS (bytesOf ([IntKind.wrap .u8 (IntKind.wrap .u64 (128 + (Int.tmod n_0 128)))]))))], []⟩, ⟨[(0, .one (bI .u64 n_0))], [], [(15, .one (bI .u64 n_0))], []⟩, ⟨[(15, .one (bI .u64 n_0))], [], [(16, .one (bI .u64 (IntKind.wrap .u64 (Int.tdiv n_0 128))))], []⟩, ⟨[(16, .one (bI .u64 (IntKind.wrap .u64 (Int.tdiv n_0 128))))], [], [(17, .one (bS r2))], []⟩, ⟨[(14, .one (bS (bytesOf ([IntKind.wrap .u8 (IntKind.wrap .u64 (128 + (Int.tmod n_0 128)))])))), (17, .one (bS r2))], [], [(18, .one (bS s3))], []⟩, ⟨[(18, .one (bS s3))], [], [(2, .one (bS s3))], []⟩]) (deps := [[], [0], [0, 1], [0, 1, 2], [0, 1, 2, 3], [0, 1, 2, 3, 4], [], [6], [6, 7], [0, 1, 2, 3, 4, 5, 6, 7, 8], [0, 1, 2, 3, 4, 5, 6, 7, 8, 9]]) (sl' := [(2, .one (bS s3))]) (hp' := []) follows rfl rfl rfl ⟨⟨rfl, trivial⟩, trivial, ⟨rfl, trivial⟩, trivial, ⟨rfl, trivial⟩, trivial, ⟨rfl, trivial⟩, trivial, ⟨rfl, trivial⟩, trivial, ⟨rfl, trivial⟩, trivial, ⟨rfl, trivial⟩, trivial, ⟨rfl, trivial⟩, trivial, ⟨rfl, trivial⟩, trivial, ⟨rfl, rfl, trivial⟩, trivial, ⟨rfl, trivial⟩, trivial, trivial⟩ ⟨OpW.plain (op_move (Ev.t 0 (bI .u64 n_0)) rfl) rfl rfl, OpW.plain (op_rem (by decide) (Ev.t 9 (bI .u64 n_0)) (Ev.c _ rfl) rfl) rfl rfl, OpW.plain (op_add (Ev.c _ rfl) (Ev.t 10 (bI .u64 (Int.tmod n_0 128))) rfl) rfl rfl, OpW.plain (op_convI Try.underlying76 Try.underlying5 (Ev.t 11 (bI .u64 (IntKind.wrap .u64 (128 + (Int.tmod n_0 128))))) rfl) rfl rfl, OpW.plain (op_buildSlice (es := List.map encI_u8 [IntKind.wrap .u8 (IntKind.wrap .u64 (128 + (Int.tmod n_0 128)))]) Try.underlying47 ti5 rfl rfl (EvP.cons (Ev.t 12 (bI .u8 (IntKind.wrap .u8 (IntKind.wrap .u64 (128 + (Int.tmod n_0 128)))))) EvP.nil) rfl rfl (by simp [encI_u8]) rfl) rfl rfl, OpW.plain (op_toText (ns := [IntKind.wrap .u8 (IntKind.wrap .u64 (128 + (Int.tmod n_0 128)))]) Try.underlying47 Try.underlying5 Try.underlying9 rfl (Ev.t 13 (.g (.d (.sl 1 (List.map encI_u8 ([IntKind.wrap .u8 (IntKind.wrap .u64 (128 + (Int.tmod n_0 128)))])))))) rfl) rfl rfl, OpW.plain (op_move (Ev.t 0 (bI .u64 n_0)) rfl) rfl rfl, OpW.plain (op_quo (by decide) (Ev.t 15 (bI .u64 n_0)) (Ev.c _ rfl) rfl) rfl rfl, OpW.plain (op_call (sv := .one (bS r2)) cf51 (ih (IntKind.wrap .u64 (Int.tdiv n_0 128)) r2 hr2) rfl (EvL.cons (Ev.t 16 (bI .u64 (IntKind.wrap .u64 (Int.tdiv n_0 128)))) EvL.nil) rfl) rfl rfl, OpW.plain (OpL.cast (op_cat (scat_ok hs3).1 (Ev.t 14 (bS (bytesOf ([IntKind.wrap .u8 (IntKind.wrap .u64 (128 + (Int.tmod n_0 128)))])))) (Ev.t 17 (bS r2)) rfl) (by rw [(scat_ok hs3).2])) rfl rfl, OpW.plain (op_assign (Ev.t 18 (bS s3)) rfl) rfl rfl, trivial⟩ ⟨rfl, trivial⟩ trivial rfl ?_
    cases hF
    exact G.ret1 Try.results51 (RVar.tmp 2 _) ⟨rfl, trivial⟩ trivial
theorem ct_ref01_Number_n : ∀ (n : Nat) (n_0 : Int) (r : ByteArray), loopF (fun again0 v0 => ref01_Number_b again0 v0) n n_0 = some r → Ct Try.prog 51 [.g (.d (.v (.int .u64 n_0)))] (.one (.d (.v (.string r))))
  | 0, _,  _, h => (by cases h)
  | n + 1, n_0,  r, h => ct_ref01_Number_b _ (fun n_0 r h => ct_ref01_Number_n n n_0 r h) n_0 r h
theorem ct_ref01_Number (n_0 : Int) (r : ByteArray) (hF : ref01_Number n_0 = some r) : Ct Try.prog 51 [.g (.d (.v (.int .u64 n_0)))] (.one (.d (.v (.string r)))) := ct_ref01_Number_n FU n_0 r hF


set_option maxRecDepth 20000 in
set_option maxHeartbeats 2000000 in
theorem ct_ref01_Text (s_0 : ByteArray) (r : ByteArray) (hF : ref01_Text s_0 = some r) : Ct Try.prog 52 [.g (.d (.v (.string s_0)))] (.one (.d (.v (.string r)))) := by
  unfold ref01_Text at hF
  refine Ct.intro Try.func52 rfl Try.ntmps52 rfl rfl fun M w => ?_
  refine G.seq ?_
  refine G.region ?_
  refine G.op1 (op_assign (Ev.c _ rfl) rfl) rfl trivial trivial ?_
  refine G.endOps ?_
  refine G.seq ?_
  refine G.region ?_
  refine G.op1 (op_move (Ev.t 0 (bS s_0)) rfl) rfl ⟨rfl, trivial⟩ trivial ?_
  refine G.op1 (op_lenS Try.underlying9 (Ev.t 3 (bS s_0)) rfl) rfl ⟨rfl, trivial⟩ trivial ?_
  refine G.op1 (op_convI Try.underlying3 Try.underlying76 (Ev.t 4 (bI .i64 (s_0.size : Int))) rfl) rfl ⟨rfl, trivial⟩ trivial ?_
  obtain ⟨r1, hr1, hF⟩ := bindS hF
  refine G.op1 (op_callQ (sv := .one (bS r1)) cf51 (ct_ref01_Number (IntKind.wrap .u64 (s_0.size : Int)) r1 hr1) rfl rfl (EvQL.cons (EvQ.g (Ev.t 5 (bI .u64 (IntKind.wrap .u64 (s_0.size : Int))))) EvQL.nil) rfl) rfl ⟨rfl, trivial⟩ trivial ?_
  refine G.op1 (op_move (Ev.t 0 (bS s_0)) rfl) rfl ⟨rfl, trivial⟩ trivial ?_
  obtain ⟨s2, hs2, hF⟩ := bindS hF
  refine G.op1 (OpL.cast (op_cat (scat_ok hs2).1 (Ev.t 6 (bS r1)) (Ev.t 7 (bS s_0)) rfl) (by rw [(scat_ok hs2).2])) rfl ⟨rfl, rfl, trivial⟩ trivial ?_
  refine G.op1 (op_assign (Ev.t 8 (bS s2)) rfl) rfl ⟨rfl, trivial⟩ trivial ?_
  refine G.endOps ?_
  cases hF
  exact G.ret1 Try.results52 (RVar.tmp 2 _) ⟨rfl, trivial⟩ trivial


set_option maxRecDepth 20000 in
set_option maxHeartbeats 2000000 in
theorem ct_ref03_Bytes (s_0 : Api_Stamp) (r : ByteArray) (hF : ref03_Bytes s_0 = some r) : Ct Try.prog 53 [.g (.agg (encApi_Stamp s_0))] (.one (.d (.v (.string r)))) := by
  unfold ref03_Bytes at hF
  refine Ct.intro Try.func53 rfl Try.ntmps53 rfl rfl fun M w => ?_
  refine G.seq ?_
  refine G.region ?_
  refine G.op2 (op_boxA (k := 1001) (Ev.t 0 (.g (.agg [.v (.int .i64 s_0.N), .v (.int .i64 s_0.Site)]))) rfl) rfl ⟨rfl, trivial⟩ ⟨rfl, trivial⟩ ?_
  refine G.op1 (op_assign (Ev.c _ rfl) rfl) rfl trivial trivial ?_
  refine G.endOps ?_
  refine G.seq ?_
  refine G.region ?_
  refine G.op1 (op_loadAP (ds := [.v (.int .i64 s_0.N), .v (.int .i64 s_0.Site)]) Try.underlying24 rfl ti24 rfl (Ev.t 1 (.ptr 1001 0)) rfl) rfl ⟨rfl, trivial⟩ ⟨rfl, trivial⟩ ?_
  obtain ⟨r1, hr1, hF⟩ := bindS hF
  refine G.op1 (op_callQ (sv := .one (bB r1)) cf40 (ct_ref03_Check s_0 r1 hr1) rfl rfl (EvQL.cons (EvQ.g (Ev.t 4 (.g (.agg [.v (.int .i64 s_0.N), .v (.int .i64 s_0.Site)])))) EvQL.nil) rfl) rfl ⟨rfl, trivial⟩ trivial ?_
  refine G.op1 (op_assign (Ev.t 5 (bB r1)) rfl) rfl ⟨rfl, trivial⟩ trivial ?_
  refine G.endOps ?_
  refine G.seq ?_
  refine G.seq ?_
  refine G.region ?_
  refine G.op1 (op_move (Ev.t 3 (bB r1)) rfl) rfl ⟨rfl, trivial⟩ trivial ?_
  refine G.op1 (op_not (Ev.t 6 (bB r1)) rfl) rfl ⟨rfl, trivial⟩ trivial ?_
  refine G.endOps ?_
  refine ifS hF (fun hc2 hF => ?_) (fun hc2 hF => ?_)
  · refine G.cond rfl (fun _ => ?_) (fun hx => by rw [hc2] at hx; cases hx)
    refine G.seq ?_
    refine G.region ?_
    refine G.op1 (op_assign (Ev.c _ rfl) rfl) rfl trivial trivial ?_
    refine G.endOps ?_
    cases hF
    exact G.ret1 Try.results53 (RVar.tmp 2 _) ⟨rfl, trivial⟩ trivial
  · refine G.cond rfl (fun hx => by rw [hc2] at hx; cases hx) (fun _ => ?_)
    refine G.skip ?_
    refine G.seq ?_
    obtain ⟨r3, hr3, hF⟩ := bindS hF
    obtain ⟨r4, hr4, hF⟩ := bindS hF
    obtain ⟨s5, hs5, hF⟩ := bindS hF
    refine G.drawn (effs := [⟨[(1, .one (.ptr 1001 0))], [], [(8, .one (.ptr 1001 0))], []⟩, ⟨[(8, .one (.ptr 1001 0))], [(1001, some (.blk 24 [bI .i64 s_0.N, bI .i64 s_0.Site]))], [(9, .one (bI .i64 s_0.N))], []⟩, ⟨[(9, .one (bI .i64 s_0.N))], [], [(10, .one (bI .u64 (IntKind.wrap .u64 s_0.N)))], []⟩, ⟨[(10, .one (bI .u64 (IntKind.wrap .u64 s_0.N)))], [], [(11, .one (bS r3))], []⟩, ⟨[(1, .one (.ptr 1001 0))], [], [(12, .one (.ptr 1001 1))], []⟩, ⟨[(12, .one (.ptr 1001 1))], [(1001, some (.blk 24 [bI .i64 s_0.N, bI .i64 s_0.Site]))], [(13, .one (bI .i64 s_0.Site))], []⟩, ⟨[(13, .one (bI .i64 s_0.Site))], [], [(14, .one (bI .u64 (IntKind.wrap .u64 s_0.Site)))], []⟩, ⟨[(14, .one (bI .u64 (IntKind.wrap .u64 s_0.Site)))], [], [(15, .one (bS r4))], []⟩, ⟨[(11, .one (bS r3)), (15, .one (bS r4))], [], [(16, .one (bS s5))], []⟩, ⟨[(16, .one (bS s5))], [], [(2, .one (bS s5))], []⟩]) (deps := [[], [0], [0, 1], [0, 1, 2], [], [4], [4, 5], [0, 1, 2, 3, 4, 5, 6], [0, 1, 2, 3, 4, 5, 6, 7], [0, 1, 2, 3, 4, 5, 6, 7, 8]]) (sl' := [(2, .one (bS s5))]) (hp' := []) follows rfl rfl rfl ⟨⟨rfl, trivial⟩, trivial, ⟨rfl, trivial⟩, ⟨⟨rfl, rfl⟩, trivial⟩, ⟨rfl, trivial⟩, trivial, ⟨rfl, trivial⟩, trivial, ⟨rfl, trivial⟩, trivial, ⟨rfl, trivial⟩, ⟨⟨rfl, rfl⟩, trivial⟩, ⟨rfl, trivial⟩, trivial, ⟨rfl, trivial⟩, trivial, ⟨rfl, rfl, trivial⟩, trivial, ⟨rfl, trivial⟩, trivial, trivial⟩ ⟨OpW.plain (op_fieldP (off' := 0) Try.underlying24 rfl ti3 (by decide) rfl (Ev.t 1 (.ptr 1001 0)) rfl) rfl rfl, OpW.plain (op_load1P (c := bI .i64 s_0.N) Try.underlying3 rfl rfl (Ev.t 8 (.ptr 1001 0)) rfl) rfl rfl, OpW.plain (op_convI Try.underlying3 Try.underlying76 (Ev.t 9 (bI .i64 s_0.N)) rfl) rfl rfl, OpW.plain (op_callQ (sv := .one (bS r3)) cf51 (ct_ref01_Number (IntKind.wrap .u64 s_0.N) r3 hr3) rfl rfl (EvQL.cons (EvQ.g (Ev.t 10 (bI .u64 (IntKind.wrap .u64 s_0.N)))) EvQL.nil) rfl) rfl rfl, OpW.plain (op_fieldP (off' := 1) Try.underlying24 rfl ti3 (by decide) rfl (Ev.t 1 (.ptr 1001 0)) rfl) rfl rfl, OpW.plain (op_load1P (c := bI .i64 s_0.Site) Try.underlying3 rfl rfl (Ev.t 12 (.ptr 1001 1)) rfl) rfl rfl, OpW.plain (op_convI Try.underlying3 Try.underlying76 (Ev.t 13 (bI .i64 s_0.Site)) rfl) rfl rfl, OpW.plain (op_callQ (sv := .one (bS r4)) cf51 (ct_ref01_Number (IntKind.wrap .u64 s_0.Site) r4 hr4) rfl rfl (EvQL.cons (EvQ.g (Ev.t 14 (bI .u64 (IntKind.wrap .u64 s_0.Site)))) EvQL.nil) rfl) rfl rfl, OpW.plain (OpL.cast (op_cat (scat_ok hs5).1 (Ev.t 11 (bS r3)) (Ev.t 15 (bS r4)) rfl) (by rw [(scat_ok hs5).2])) rfl rfl, OpW.plain (op_assign (Ev.t 16 (bS s5)) rfl) rfl rfl, trivial⟩ ⟨rfl, trivial⟩ trivial rfl ?_
    cases hF
    exact G.ret1 Try.results53 (RVar.tmp 2 _) ⟨rfl, trivial⟩ trivial


set_option maxRecDepth 20000 in
set_option maxHeartbeats 2000000 in
theorem ct_ref04_Bytes (p_0 : (List Api_Dep)) (r : ByteArray) (hF : ref04_Bytes p_0 = some r) : Ct Try.prog 26 [.g (.d (.sl 3 (List.map encApi_Dep p_0)))] (.one (.d (.v (.string r)))) := by
  unfold ref04_Bytes at hF
  refine Ct.intro Try.func26 rfl Try.ntmps26 rfl rfl fun M w => ?_
  refine G.seq ?_
  refine G.region ?_
  refine G.op1 (op_assign (Ev.c _ rfl) rfl) rfl trivial trivial ?_
  refine G.endOps ?_
  refine G.seq ?_
  refine G.region ?_
  refine G.op1 (op_move (Ev.t 0 (.g (.d (.sl 3 (List.map encApi_Dep p_0))))) rfl) rfl ⟨rfl, trivial⟩ trivial ?_
  obtain ⟨r1, hr1, hF⟩ := bindS hF
  refine G.op1 (op_callQ (sv := .one (bB r1)) cf24 (ct_ref04_Check p_0 r1 hr1) rfl rfl (EvQL.cons (EvQ.g (Ev.t 6 (.g (.d (.sl 3 (List.map encApi_Dep p_0)))))) EvQL.nil) rfl) rfl ⟨rfl, trivial⟩ trivial ?_
  refine G.op1 (op_assign (Ev.t 7 (bB r1)) rfl) rfl ⟨rfl, trivial⟩ trivial ?_
  refine G.endOps ?_
  refine G.seq ?_
  refine G.seq ?_
  refine G.region ?_
  refine G.op1 (op_move (Ev.t 3 (bB r1)) rfl) rfl ⟨rfl, trivial⟩ trivial ?_
  refine G.op1 (op_not (Ev.t 8 (bB r1)) rfl) rfl ⟨rfl, trivial⟩ trivial ?_
  refine G.endOps ?_
  refine ifS hF (fun hc2 hF => ?_) (fun hc2 hF => ?_)
  · refine G.cond rfl (fun _ => ?_) (fun hx => by rw [hc2] at hx; cases hx)
    refine G.seq ?_
    refine G.region ?_
    refine G.op1 (op_assign (Ev.c _ rfl) rfl) rfl trivial trivial ?_
    refine G.endOps ?_
    cases hF
    exact G.ret1 Try.results26 (RVar.tmp 2 _) ⟨rfl, trivial⟩ trivial
  · refine G.cond rfl (fun hx => by rw [hc2] at hx; cases hx) (fun _ => ?_)
    refine G.skip ?_
    refine G.seq ?_
    refine G.region ?_
    refine G.op1 (op_move (Ev.t 0 (.g (.d (.sl 3 (List.map encApi_Dep p_0))))) rfl) rfl ⟨rfl, trivial⟩ trivial ?_
    refine G.op1 (OpL.cast (op_lenD Try.underlying22 (Ev.t 10 (.g (.d (.sl 3 (List.map encApi_Dep p_0))))) rfl) (by rw [List.length_map])) rfl ⟨rfl, trivial⟩ trivial ?_
    refine G.op1 (op_convI Try.underlying3 Try.underlying76 (Ev.t 11 (bI .i64 (p_0.length : Int))) rfl) rfl ⟨rfl, trivial⟩ trivial ?_
    obtain ⟨r3, hr3, hF⟩ := bindS hF
    refine G.op1 (op_callQ (sv := .one (bS r3)) cf51 (ct_ref01_Number (IntKind.wrap .u64 (p_0.length : Int)) r3 hr3) rfl rfl (EvQL.cons (EvQ.g (Ev.t 12 (bI .u64 (IntKind.wrap .u64 (p_0.length : Int))))) EvQL.nil) rfl) rfl ⟨rfl, trivial⟩ trivial ?_
    refine G.op1 (op_assign (Ev.t 13 (bS r3)) rfl) rfl ⟨rfl, trivial⟩ trivial ?_
    refine G.endOps ?_
    refine G.seq ?_
    refine G.seq ?_
    refine G.region ?_
    refine G.op1 (op_assign (Ev.c _ rfl) rfl) rfl trivial trivial ?_
    refine G.endOps ?_
    refine G.joinC (T := ByteArray) (fun y4 => ⟨[(4, .one (bS y4))], []⟩) (fun y4 => ref04_Bytes_k1 y4 = some r) (fun y4 hF => ?_) (fun J5 => ?_)
    · unfold ref04_Bytes_k1 at hF
      refine G.seq ?_
      refine G.region ?_
      refine G.op1 (op_move (Ev.t 4 (bS y4)) rfl) rfl ⟨rfl, trivial⟩ trivial ?_
      refine G.op1 (op_assign (Ev.t 35 (bS y4)) rfl) rfl ⟨rfl, trivial⟩ trivial ?_
      refine G.endOps ?_
      cases hF
      exact G.ret1 Try.results26 (RVar.tmp 2 _) ⟨rfl, trivial⟩ trivial
    refine G.block ?_
    refine G.keep (sl' := [(0, .one (.g (.d (.sl 3 (List.map encApi_Dep p_0))))), (4, .one (bS r3)), (5, .one (bI .i64 0))]) (hp' := []) ⟨rfl, rfl, rfl, trivial⟩ trivial rfl ?_
    refine G.loopF (fun (v6 : ByteArray × Int) => ⟨[(0, .one (.g (.d (.sl 3 (List.map encApi_Dep p_0))))), (4, .one (bS v6.1)), (5, .one (bI .i64 v6.2))], []⟩) hF rfl (fun K9 again8 v6 J7 hF => ?_)
    unfold ref04_Bytes_l2 at hF
    refine G.seq ?_
    refine G.seq ?_
    refine G.region ?_
    refine G.op1 (op_move (Ev.t 5 (bI .i64 v6.2)) rfl) rfl ⟨rfl, trivial⟩ trivial ?_
    refine G.op1 (op_move (Ev.t 0 (.g (.d (.sl 3 (List.map encApi_Dep p_0))))) rfl) rfl ⟨rfl, trivial⟩ trivial ?_
    refine G.op1 (OpL.cast (op_lenD Try.underlying22 (Ev.t 15 (.g (.d (.sl 3 (List.map encApi_Dep p_0))))) rfl) (by rw [List.length_map])) rfl ⟨rfl, trivial⟩ trivial ?_
    refine G.op1 (op_lss (Ev.t 14 (bI .i64 v6.2)) (Ev.t 16 (bI .i64 (p_0.length : Int))) rfl) rfl ⟨rfl, rfl, trivial⟩ trivial ?_
    refine G.endOps ?_
    refine ifS hF (fun hc10 hF => ?_) (fun hc10 hF => ?_)
    · refine G.cond rfl (fun _ => ?_) (fun hx => by rw [hc10] at hx; cases hx)
      refine G.skip ?_
      refine G.seq ?_
      refine G.block ?_
      obtain ⟨x11, hx11, hF⟩ := bindS hF
      obtain ⟨r12, hr12, hF⟩ := bindS hF
      obtain ⟨s13, hs13, hF⟩ := bindS hF
      obtain ⟨x14, hx14, hF⟩ := bindS hF
      obtain ⟨r15, hr15, hF⟩ := bindS hF
      obtain ⟨s16, hs16, hF⟩ := bindS hF
      refine G.drawn (effs := [⟨[(4, .one (bS v6.1))], [], [(20, .one (bS v6.1))], []⟩, ⟨[(0, .one (.g (.d (.sl 3 (List.map encApi_Dep p_0)))))], [], [(21, .one (.g (.d (.sl 3 (List.map encApi_Dep p_0)))))], []⟩, ⟨[(5, .one (bI .i64 v6.2))], [], [(22, .one (bI .i64 v6.2))], []⟩, ⟨[(21, .one (.g (.d (.sl 3 (List.map encApi_Dep p_0))))), (22, .one (bI .i64 v6.2))], [], [(23, .one (.ep [.v (.string x11.Key), .v (.int .i64 x11.Stamp.N), .v (.int .i64 x11.Stamp.Site)]))], []⟩, ⟨[(23, .one (.ep [.v (.string x11.Key), .v (.int .i64 x11.Stamp.N), .v (.int .i64 x11.Stamp.Site)]))], [], [(24, .one (.ep [.v (.string x11.Key), .v (.int .i64 x11.Stamp.N), .v (.int .i64 x11.Stamp.Site)]))], []⟩, ⟨[(24, .one (.ep [.v (.string x11.Key), .v (.int .i64 x11.Stamp.N), .v (.int .i64 x11.Stamp.Site)]))], [], [(25, .one (bS x11.Key))], []⟩, ⟨[(25, .one (bS x11.Key))], [], [(26, .one (bS r12))], []⟩, ⟨[(20, .one (bS v6.1)), (26, .one (bS r12))], [], [(27, .one (bS s13))], []⟩, ⟨[(0, .one (.g (.d (.sl 3 (List.map encApi_Dep p_0)))))], [], [(28, .one (.g (.d (.sl 3 (List.map encApi_Dep p_0)))))], []⟩, ⟨[(5, .one (bI .i64 v6.2))], [], [(29, .one (bI .i64 v6.2))], []⟩, ⟨[(28, .one (.g (.d (.sl 3 (List.map encApi_Dep p_0))))), (29, .one (bI .i64 v6.2))], [], [(30, .one (.ep [.v (.string x14.Key), .v (.int .i64 x14.Stamp.N), .v (.int .i64 x14.Stamp.Site)]))], []⟩, ⟨[(30, .one (.ep [.v (.string x14.Key), .v (.int .i64 x14.Stamp.N), .v (.int .i64 x14.Stamp.Site)]))], [], [(31, .one (.ep [.v (.int .i64 x14.Stamp.N), .v (.int .i64 x14.Stamp.Site)]))], []⟩, ⟨[(31, .one (.ep [.v (.int .i64 x14.Stamp.N), .v (.int .i64 x14.Stamp.Site)]))], [], [(32, .one (.g (.agg [.v (.int .i64 x14.Stamp.N), .v (.int .i64 x14.Stamp.Site)])))], []⟩, ⟨[(32, .one (.g (.agg [.v (.int .i64 x14.Stamp.N), .v (.int .i64 x14.Stamp.Site)])))], [], [(33, .one (bS r15))], []⟩, ⟨[(27, .one (bS s13)), (33, .one (bS r15))], [], [(34, .one (bS s16))], []⟩, ⟨[(34, .one (bS s16))], [], [(4, .one (bS s16))], []⟩]) (deps := [[], [], [], [1, 2], [1, 2, 3], [1, 2, 3, 4], [1, 2, 3, 4, 5], [0, 1, 2, 3, 4, 5, 6], [], [], [8, 9], [8, 9, 10], [8, 9, 10, 11], [1, 2, 3, 4, 5, 6, 8, 9, 10, 11, 12], [0, 1, 2, 3, 4, 5, 6, 7, 8, 9, 10, 11, 12, 13], [0, 1, 2, 3, 4, 5, 6, 7, 8, 9, 10, 11, 12, 13, 14]]) (sl' := [(0, .one (.g (.d (.sl 3 (List.map encApi_Dep p_0))))), (4, .one (bS s16)), (5, .one (bI .i64 v6.2))]) (hp' := []) follows rfl rfl rfl ⟨⟨⟨rfl, rfl⟩, trivial⟩, trivial, ⟨rfl, trivial⟩, trivial, ⟨rfl, trivial⟩, trivial, ⟨rfl, rfl, trivial⟩, trivial, ⟨rfl, trivial⟩, trivial, ⟨rfl, trivial⟩, trivial, ⟨rfl, trivial⟩, trivial, ⟨rfl, rfl, trivial⟩, trivial, ⟨rfl, trivial⟩, trivial, ⟨rfl, trivial⟩, trivial, ⟨rfl, rfl, trivial⟩, trivial, ⟨rfl, trivial⟩, trivial, ⟨rfl, trivial⟩, trivial, ⟨rfl, trivial⟩, trivial, ⟨rfl, rfl, trivial⟩, trivial, ⟨rfl, trivial⟩, trivial, trivial⟩ ⟨OpW.plain (op_move (Ev.t 4 (bS v6.1)) rfl) rfl rfl, OpW.plain (op_move (Ev.t 0 (.g (.d (.sl 3 (List.map encApi_Dep p_0))))) rfl) rfl rfl, OpW.plain (op_move (Ev.t 5 (bI .i64 v6.2)) rfl) rfl rfl, OpW.plain (op_index (cs := [.v (.string x11.Key), .v (.int .i64 x11.Stamp.N), .v (.int .i64 x11.Stamp.Site)]) Try.underlying22 ti26 (idx_ok hx11).1 (idx_get hx11 encApi_Dep) (Ev.t 21 (.g (.d (.sl 3 (List.map encApi_Dep p_0))))) (Ev.t 22 (bI .i64 v6.2)) rfl) rfl rfl, OpW.plain (op_fieldE (cs' := [.v (.string x11.Key), .v (.int .i64 x11.Stamp.N), .v (.int .i64 x11.Stamp.Site)]) Try.underlying26 rfl ti9 (by decide) rfl (Ev.t 23 (.ep [.v (.string x11.Key), .v (.int .i64 x11.Stamp.N), .v (.int .i64 x11.Stamp.Site)])) rfl) rfl rfl, OpW.plain (op_load1E (c := .v (.string x11.Key)) Try.underlying9 rfl rfl (Ev.t 24 (.ep [.v (.string x11.Key), .v (.int .i64 x11.Stamp.N), .v (.int .i64 x11.Stamp.Site)])) rfl) rfl rfl, OpW.plain (op_callQ (sv := .one (bS r12)) cf52 (ct_ref01_Text x11.Key r12 hr12) rfl rfl (EvQL.cons (EvQ.g (Ev.t 25 (bS x11.Key))) EvQL.nil) rfl) rfl rfl, OpW.plain (OpL.cast (op_cat (scat_ok hs13).1 (Ev.t 20 (bS v6.1)) (Ev.t 26 (bS r12)) rfl) (by rw [(scat_ok hs13).2])) rfl rfl, OpW.plain (op_move (Ev.t 0 (.g (.d (.sl 3 (List.map encApi_Dep p_0))))) rfl) rfl rfl, OpW.plain (op_move (Ev.t 5 (bI .i64 v6.2)) rfl) rfl rfl, OpW.plain (op_index (cs := [.v (.string x14.Key), .v (.int .i64 x14.Stamp.N), .v (.int .i64 x14.Stamp.Site)]) Try.underlying22 ti26 (idx_ok hx14).1 (idx_get hx14 encApi_Dep) (Ev.t 28 (.g (.d (.sl 3 (List.map encApi_Dep p_0))))) (Ev.t 29 (bI .i64 v6.2)) rfl) rfl rfl, OpW.plain (op_fieldE (cs' := [.v (.int .i64 x14.Stamp.N), .v (.int .i64 x14.Stamp.Site)]) Try.underlying26 rfl ti24 (by decide) rfl (Ev.t 30 (.ep [.v (.string x14.Key), .v (.int .i64 x14.Stamp.N), .v (.int .i64 x14.Stamp.Site)])) rfl) rfl rfl, OpW.plain (op_loadAE (ds := [.v (.int .i64 x14.Stamp.N), .v (.int .i64 x14.Stamp.Site)]) Try.underlying24 rfl ti24 rfl (Ev.t 31 (.ep [.v (.int .i64 x14.Stamp.N), .v (.int .i64 x14.Stamp.Site)])) rfl) rfl rfl, OpW.plain (op_callQ (sv := .one (bS r15)) cf53 (ct_ref03_Bytes x14.Stamp r15 hr15) rfl rfl (EvQL.cons (EvQ.g (Ev.t 32 (.g (.agg [.v (.int .i64 x14.Stamp.N), .v (.int .i64 x14.Stamp.Site)])))) EvQL.nil) rfl) rfl rfl, OpW.plain (OpL.cast (op_cat (scat_ok hs16).1 (Ev.t 27 (bS s13)) (Ev.t 33 (bS r15)) rfl) (by rw [(scat_ok hs16).2])) rfl rfl, OpW.plain (op_assign (Ev.t 34 (bS s16)) rfl) rfl rfl, trivial⟩ ⟨rfl, rfl, rfl, trivial⟩ trivial rfl ?_
      refine G.endBlock ?_
      refine G.region ?_
      refine G.op1 (op_move (Ev.t 5 (bI .i64 v6.2)) rfl) rfl ⟨rfl, trivial⟩ trivial ?_
      refine G.op1 (op_add (Ev.t 18 (bI .i64 v6.2)) (Ev.c _ rfl) rfl) rfl ⟨rfl, trivial⟩ trivial ?_
      refine G.op1 (op_assign (Ev.t 19 (bI .i64 (IntKind.wrap .i64 (v6.2 + 1)))) rfl) rfl ⟨rfl, trivial⟩ trivial ?_
      refine G.endOps ?_
      exact G.arr (J7 (s16, IntKind.wrap .i64 (v6.2 + 1)) hF) ⟨rfl, rfl, rfl, trivial⟩ trivial rfl
    · refine G.cond rfl (fun hx => by rw [hc10] at hx; cases hx) (fun _ => ?_)
      refine G.exit ?_
      refine GX.c ?_
      refine GX.q ?_
      refine GX.bYes ?_
      exact G.arr (J5 v6.1 hF) ⟨rfl, trivial⟩ trivial rfl


set_option maxRecDepth 20000 in
set_option maxHeartbeats 2000000 in
theorem ct_law04_PastChecks (l_0 : (List Api_Dep)) (r : Bool) (hF : law04_PastChecks l_0 = some r) : Ct Try.prog 6 [.g (.d (.sl 3 (List.map encApi_Dep l_0)))] (.one (.d (.v (.bool r)))) := by
  unfold law04_PastChecks at hF
  refine Ct.intro Try.func6 rfl Try.ntmps6 rfl rfl fun M w => ?_
  refine G.seq ?_
  refine G.region ?_
  refine G.op1 (op_assign (Ev.c _ rfl) rfl) rfl trivial trivial ?_
  refine G.endOps ?_
  refine G.seq ?_
  refine G.region ?_
  obtain ⟨r1, hr1, hF⟩ := bindS hF
  refine G.op1 (op_callQ (sv := .one (bB r1)) cf9 (ct_law04_awake r1 hr1) rfl rfl EvQL.nil rfl) rfl trivial trivial ?_
  refine G.op1 (op_assign (Ev.t 7 (bB r1)) rfl) rfl ⟨rfl, trivial⟩ trivial ?_
  refine G.endOps ?_
  refine G.seq ?_
  refine G.region ?_
  refine G.op2 (op_assignRow (E := 26) (size := 3) (k := 2004) (ex := false) rfl rfl) rfl trivial ⟨rfl, trivial⟩ ?_
  refine G.endOps ?_
  refine G.seq ?_
  refine G.seq ?_
  refine G.region ?_
  refine G.op1 (op_assign (Ev.c _ rfl) rfl) rfl trivial trivial ?_
  refine G.endOps ?_
  refine G.joinC (T := (List Api_Dep)) (fun y2 => ⟨[(3, .one (bB r1)), (4, .one (.own 2004 (List.map encApi_Dep y2)))], [(2004, some (.row 26 3 (List.map encApi_Dep y2) false))]⟩) (fun y2 => law04_PastChecks_k1 r1 y2 = some r) (fun y2 hF => ?_) (fun J11 => ?_)
  · unfold law04_PastChecks_k1 at hF
    refine G.seq ?_
    refine G.region ?_
    refine G.op1 (op_move (Ev.t 3 (bB r1)) rfl) rfl ⟨rfl, trivial⟩ trivial ?_
    refine G.op1 (op_move (Ev.t 34 (bB r1)) rfl) rfl ⟨rfl, trivial⟩ trivial ?_
    refine G.joinL (T := Bool) 6 (fun y3 => ⟨[(4, .one (.own 2004 (List.map encApi_Dep y2))), (41, .one (bB y3))], [(2004, some (.row 26 3 (List.map encApi_Dep y2) false))]⟩) (fun y3 => law04_PastChecks_k2 y2 y3 = some r) (fun y3 hF => ?_) (fun J7 => ?_)
    · unfold law04_PastChecks_k2 at hF
      refine G.op1 (op_move (Ev.t 41 (bB y3)) rfl) rfl ⟨rfl, trivial⟩ trivial ?_
      refine ifS hF (fun hc4 hF => ?_) (fun hc4 hF => ?_)
      · refine G.known (t := 42) hc4 rfl ?_
        refine G.opG1 (op_move (Ev.t 4 (.own 2004 (List.map encApi_Dep y2))) rfl) rfl rfl rfl ⟨rfl, trivial⟩ trivial ?_
        obtain ⟨r5, hr5, hF⟩ := bindS hF
        refine G.opG1 (op_callQ (sv := .one (bS r5)) cf25 (ct_past_Bytes y2 r5 hr5) rfl rfl (EvQL.cons (EvQ.own (Ev.t 43 (.own 2004 (List.map encApi_Dep y2)))) EvQL.nil) rfl) rfl rfl rfl ⟨rfl, trivial⟩ ⟨rfl, trivial⟩ ?_
        refine G.opG1 (op_move (Ev.t 4 (.own 2004 (List.map encApi_Dep y2))) rfl) rfl rfl rfl ⟨rfl, trivial⟩ trivial ?_
        obtain ⟨r6, hr6, hF⟩ := bindS hF
        refine G.opG1 (op_callQ (sv := .one (bS r6)) cf26 (ct_ref04_Bytes y2 r6 hr6) rfl rfl (EvQL.cons (EvQ.own (Ev.t 45 (.own 2004 (List.map encApi_Dep y2)))) EvQL.nil) rfl) rfl rfl rfl ⟨rfl, trivial⟩ ⟨rfl, trivial⟩ ?_
        refine G.opG1 (op_eqS (Ev.t 44 (bS r5)) (Ev.t 46 (bS r6)) rfl) rfl rfl rfl ⟨rfl, rfl, trivial⟩ trivial ?_
        refine G.op1 (op_pickT (Ev.t 42 (bB true)) (Ev.t 47 (bB (seq r5 r6))) rfl) rfl ⟨rfl, rfl, trivial⟩ trivial ?_
        refine G.op1 (op_assign (Ev.t 48 (bB (seq r5 r6))) rfl) rfl ⟨rfl, trivial⟩ trivial ?_
        refine G.endOps ?_
        cases hF
        exact G.ret1 Try.results6 (RVar.tmp 2 _) ⟨rfl, trivial⟩ trivial
      · refine G.known (t := 42) hc4 rfl ?_
        refine G.opN1 rfl rfl rfl rfl rfl ?_
        refine G.opN1 rfl rfl rfl rfl rfl ?_
        refine G.opN1 rfl rfl rfl rfl rfl ?_
        refine G.opN1 rfl rfl rfl rfl rfl ?_
        refine G.opN1 rfl rfl rfl rfl rfl ?_
        refine G.op1 (op_pickF (Ev.t 42 (bB false)) (Ev.c _ rfl) rfl) rfl ⟨rfl, trivial⟩ trivial ?_
        refine G.op1 (op_assign (Ev.t 48 (bB false)) rfl) rfl ⟨rfl, trivial⟩ trivial ?_
        refine G.endOps ?_
        cases hF
        exact G.ret1 Try.results6 (RVar.tmp 2 _) ⟨rfl, trivial⟩ trivial
    refine ifS hF (fun hc8 hF => ?_) (fun hc8 hF => ?_)
    · refine G.known (t := 35) hc8 rfl ?_
      refine G.opG1 (op_move (Ev.t 4 (.own 2004 (List.map encApi_Dep y2))) rfl) rfl rfl rfl ⟨rfl, trivial⟩ trivial ?_
      obtain ⟨r9, hr9, hF⟩ := bindS hF
      refine G.opG1 (op_callQ (sv := .one (bB r9)) cf13 (ct_past_Check y2 r9 hr9) rfl rfl (EvQL.cons (EvQ.own (Ev.t 36 (.own 2004 (List.map encApi_Dep y2)))) EvQL.nil) rfl) rfl rfl rfl ⟨rfl, trivial⟩ ⟨rfl, trivial⟩ ?_
      refine G.opG1 (op_move (Ev.t 4 (.own 2004 (List.map encApi_Dep y2))) rfl) rfl rfl rfl ⟨rfl, trivial⟩ trivial ?_
      obtain ⟨r10, hr10, hF⟩ := bindS hF
      refine G.opG1 (op_callQ (sv := .one (bB r10)) cf24 (ct_ref04_Check y2 r10 hr10) rfl rfl (EvQL.cons (EvQ.own (Ev.t 38 (.own 2004 (List.map encApi_Dep y2)))) EvQL.nil) rfl) rfl rfl rfl ⟨rfl, trivial⟩ ⟨rfl, trivial⟩ ?_
      refine G.opG1 (op_eqB Try.underlying4 (Ev.t 37 (bB r9)) (Ev.t 39 (bB r10)) rfl) rfl rfl rfl ⟨rfl, rfl, trivial⟩ trivial ?_
      refine G.op1 (op_pickT (Ev.t 35 (bB true)) (Ev.t 40 (bB (r9 == r10))) rfl) rfl ⟨rfl, rfl, trivial⟩ trivial ?_
      exact G.arr (J7 (r9 == r10) hF) ⟨rfl, rfl, trivial⟩ ⟨rfl, trivial⟩ rfl
    · refine G.known (t := 35) hc8 rfl ?_
      refine G.opN1 rfl rfl rfl rfl rfl ?_
      refine G.opN1 rfl rfl rfl rfl rfl ?_
      refine G.opN1 rfl rfl rfl rfl rfl ?_
      refine G.opN1 rfl rfl rfl rfl rfl ?_
      refine G.opN1 rfl rfl rfl rfl rfl ?_
      refine G.op1 (op_pickF (Ev.t 35 (bB false)) (Ev.c _ rfl) rfl) rfl ⟨rfl, trivial⟩ trivial ?_
      exact G.arr (J7 false hF) ⟨rfl, rfl, trivial⟩ ⟨rfl, trivial⟩ rfl
  refine G.block ?_
  refine G.keep (sl' := [(0, .one (.g (.d (.sl 3 (List.map encApi_Dep l_0))))), (3, .one (bB r1)), (4, .one (.own 2004 (List.map encApi_Dep ([] : (List Api_Dep))))), (5, .one (bI .i64 0))]) (hp' := [(2004, some (.row 26 3 (List.map encApi_Dep ([] : (List Api_Dep))) false))]) ⟨rfl, rfl, rfl, rfl, trivial⟩ ⟨rfl, trivial⟩ rfl ?_
  refine G.loopF (fun (v12 : Int × (List Api_Dep)) => ⟨[(0, .one (.g (.d (.sl 3 (List.map encApi_Dep l_0))))), (3, .one (bB r1)), (4, .one (.own 2004 (List.map encApi_Dep v12.2))), (5, .one (bI .i64 v12.1))], [(2004, some (.row 26 3 (List.map encApi_Dep v12.2) false))]⟩) hF rfl (fun K15 again14 v12 J13 hF => ?_)
  unfold law04_PastChecks_l3 at hF
  refine G.seq ?_
  refine G.seq ?_
  refine G.joinC (T := Bool) (fun y16 => ⟨[(0, .one (.g (.d (.sl 3 (List.map encApi_Dep l_0))))), (3, .one (bB r1)), (4, .one (.own 2004 (List.map encApi_Dep v12.2))), (5, .one (bI .i64 v12.1)), (15, .one (bB y16))], [(2004, some (.row 26 3 (List.map encApi_Dep v12.2) false))]⟩) (fun y16 => law04_PastChecks_k4 l_0 r1 again14 v12 y16 = some r) (fun y16 hF => ?_) (fun J24 => ?_)
  · unfold law04_PastChecks_k4 at hF
    refine ifS hF (fun hc17 hF => ?_) (fun hc17 hF => ?_)
    · refine G.cond rfl (fun _ => ?_) (fun hx => by rw [hc17] at hx; cases hx)
      refine G.skip ?_
      refine G.seq ?_
      refine G.block ?_
      refine G.seq ?_
      refine G.region ?_
      refine G.op1 (op_move (Ev.t 0 (.g (.d (.sl 3 (List.map encApi_Dep l_0))))) rfl) rfl ⟨rfl, trivial⟩ trivial ?_
      refine G.op1 (op_move (Ev.t 5 (bI .i64 v12.1)) rfl) rfl ⟨rfl, trivial⟩ trivial ?_
      obtain ⟨x18, hx18, hF⟩ := bindS hF
      refine G.op1 (op_index (cs := [.v (.string x18.Key), .v (.int .i64 x18.Stamp.N), .v (.int .i64 x18.Stamp.Site)]) Try.underlying22 ti26 (idx_ok hx18).1 (idx_get hx18 encApi_Dep) (Ev.t 18 (.g (.d (.sl 3 (List.map encApi_Dep l_0))))) (Ev.t 19 (bI .i64 v12.1)) rfl) rfl ⟨rfl, rfl, trivial⟩ trivial ?_
      refine G.op1 (op_loadAE (ds := [.v (.string x18.Key), .v (.int .i64 x18.Stamp.N), .v (.int .i64 x18.Stamp.Site)]) Try.underlying26 rfl ti26 rfl (Ev.t 20 (.ep [.v (.string x18.Key), .v (.int .i64 x18.Stamp.N), .v (.int .i64 x18.Stamp.Site)])) rfl) rfl ⟨rfl, trivial⟩ trivial ?_
      refine G.op2 (op_alloc (k := 1006) (cs := [bS ByteArray.empty, bI .i64 0, bI .i64 0]) ti26 ⟨.v _ rfl, .v _ rfl, .v _ rfl, trivial⟩ rfl) rfl trivial ⟨rfl, trivial⟩ ?_
      refine G.op3 (op_storeA (cs' := [bS x18.Key, bI .i64 x18.Stamp.N, bI .i64 x18.Stamp.Site]) ti26 rfl rfl (Ev.t 6 (.ptr 1006 0)) (Ev.t 21 (.g (.agg [.v (.string x18.Key), .v (.int .i64 x18.Stamp.N), .v (.int .i64 x18.Stamp.Site)])))) rfl ⟨rfl, rfl, trivial⟩ ⟨rfl, trivial⟩ ?_
      refine G.endOps ?_
      refine G.seq ?_
      refine G.seq ?_
      refine G.region ?_
      refine G.op1 (op_fieldP (off' := 0) Try.underlying26 rfl ti9 (by decide) rfl (Ev.t 6 (.ptr 1006 0)) rfl) rfl ⟨rfl, trivial⟩ trivial ?_
      refine G.op1 (op_load1P (c := bS x18.Key) Try.underlying9 rfl rfl (Ev.t 22 (.ptr 1006 0)) rfl) rfl ⟨rfl, trivial⟩ ⟨rfl, trivial⟩ ?_
      refine G.op1 (op_lenS Try.underlying9 (Ev.t 23 (bS x18.Key)) rfl) rfl ⟨rfl, trivial⟩ trivial ?_
      refine G.op1 (op_gtr (Ev.t 24 (bI .i64 (x18.Key.size : Int))) (Ev.c _ rfl) rfl) rfl ⟨rfl, trivial⟩ trivial ?_
      refine G.endOps ?_
      refine G.joinC (T := ByteArray) (fun y19 => ⟨[(0, .one (.g (.d (.sl 3 (List.map encApi_Dep l_0))))), (3, .one (bB r1)), (4, .one (.own 2004 (List.map encApi_Dep v12.2))), (5, .one (bI .i64 v12.1)), (6, .one (.ptr 1006 0))], [(1006, some (.blk 26 [bS y19, bI .i64 x18.Stamp.N, bI .i64 x18.Stamp.Site])), (2004, some (.row 26 3 (List.map encApi_Dep v12.2) false))]⟩) (fun y19 => law04_PastChecks_k5 again14 v12 x18 y19 = some r) (fun y19 hF => ?_) (fun J21 => ?_)
      · unfold law04_PastChecks_k5 at hF
        refine G.region ?_
        refine G.op1 (op_move (Ev.t 4 (.own 2004 (List.map encApi_Dep v12.2))) rfl) rfl ⟨rfl, trivial⟩ trivial ?_
        refine G.op1 (op_loadAP (ds := [.v (.string y19), .v (.int .i64 x18.Stamp.N), .v (.int .i64 x18.Stamp.Site)]) Try.underlying26 rfl ti26 rfl (Ev.t 6 (.ptr 1006 0)) rfl) rfl ⟨rfl, trivial⟩ ⟨rfl, trivial⟩ ?_
        refine G.op1 (op_buildSlice (es := List.map encApi_Dep [(Api_Dep.mk y19 x18.Stamp)]) Try.underlying22 ti26 rfl rfl (EvP.cons (Ev.t 31 (.g (.agg [.v (.string y19), .v (.int .i64 x18.Stamp.N), .v (.int .i64 x18.Stamp.Site)]))) EvP.nil) rfl rfl (by simp [encApi_Dep]) rfl) rfl ⟨rfl, trivial⟩ trivial ?_
        obtain ⟨l20, hl20, hF⟩ := bindS hF
        refine G.op2 (op_appendO Try.underlying22 ti26 rfl (app_map hl20 encApi_Dep) (app_b1 hl20 encApi_Dep) (app_b2 hl20 encApi_Dep) (Ev.t 30 (.own 2004 (List.map encApi_Dep v12.2))) (Ev.t 32 (.g (.d (.sl 3 (List.map encApi_Dep ([(Api_Dep.mk y19 x18.Stamp)])))))) rfl) rfl ⟨rfl, rfl, trivial⟩ ⟨rfl, trivial⟩ ?_
        refine G.op1 (op_assign (Ev.t 33 (.own 2004 (List.map encApi_Dep l20))) rfl) rfl ⟨rfl, trivial⟩ trivial ?_
        refine G.endOps ?_
        refine G.endBlock ?_
        refine G.region ?_
        refine G.op1 (op_move (Ev.t 5 (bI .i64 v12.1)) rfl) rfl ⟨rfl, trivial⟩ trivial ?_
        refine G.op1 (op_add (Ev.t 16 (bI .i64 v12.1)) (Ev.c _ rfl) rfl) rfl ⟨rfl, trivial⟩ trivial ?_
        refine G.op1 (op_assign (Ev.t 17 (bI .i64 (IntKind.wrap .i64 (v12.1 + 1)))) rfl) rfl ⟨rfl, trivial⟩ trivial ?_
        refine G.endOps ?_
        exact G.arr (J13 (IntKind.wrap .i64 (v12.1 + 1), l20) hF) ⟨rfl, rfl, rfl, rfl, trivial⟩ ⟨rfl, trivial⟩ rfl
      refine ifS hF (fun hc22 hF => ?_) (fun hc22 hF => ?_)
      · refine G.cond rfl (fun _ => ?_) (fun hx => by rw [hc22] at hx; cases hx)
        refine G.region ?_
        refine G.op1 (op_fieldP (off' := 0) Try.underlying26 rfl ti9 (by decide) rfl (Ev.t 6 (.ptr 1006 0)) rfl) rfl ⟨rfl, trivial⟩ trivial ?_
        refine G.op1 (op_load1P (c := bS x18.Key) Try.underlying9 rfl rfl (Ev.t 26 (.ptr 1006 0)) rfl) rfl ⟨rfl, trivial⟩ ⟨rfl, trivial⟩ ?_
        obtain ⟨s23, hs23, hF⟩ := bindS hF
        refine G.op1 (OpL.cast (op_sliceS (lo := none) (hi := some 20) Try.underlying9 (ssub_ok hs23).1 (ssub_ok hs23).2.1 (ssub_ok hs23).2.2.1 (Ev.t 27 (bS x18.Key)) EvO.none (EvO.some (Ev.c _ rfl)) rfl) (congrArg (fun s => bS s) (ssub_ok hs23).2.2.2)) rfl ⟨rfl, trivial⟩ trivial ?_
        refine G.op1 (op_fieldP (off' := 0) Try.underlying26 rfl ti9 (by decide) rfl (Ev.t 6 (.ptr 1006 0)) rfl) rfl ⟨rfl, trivial⟩ trivial ?_
        refine G.op3 (op_store1 (cs' := [bS s23, bI .i64 x18.Stamp.N, bI .i64 x18.Stamp.Site]) (c := bS s23) trivial ti9 rfl rfl (Ev.t 29 (.ptr 1006 0)) (Ev.t 28 (bS s23))) rfl ⟨rfl, rfl, trivial⟩ ⟨rfl, trivial⟩ ?_
        refine G.endOps ?_
        exact G.arr (J21 s23 hF) ⟨rfl, rfl, rfl, rfl, rfl, trivial⟩ ⟨rfl, rfl, trivial⟩ rfl
      · refine G.cond rfl (fun hx => by rw [hc22] at hx; cases hx) (fun _ => ?_)
        refine G.skip ?_
        exact G.arr (J21 x18.Key hF) ⟨rfl, rfl, rfl, rfl, rfl, trivial⟩ ⟨rfl, rfl, trivial⟩ rfl
    · refine G.cond rfl (fun hx => by rw [hc17] at hx; cases hx) (fun _ => ?_)
      refine G.exit ?_
      refine GX.c ?_
      refine GX.q ?_
      refine GX.bYes ?_
      exact G.arr (J11 v12.2 hF) ⟨rfl, rfl, trivial⟩ ⟨rfl, trivial⟩ rfl
  refine G.region ?_
  refine G.op1 (op_move (Ev.t 5 (bI .i64 v12.1)) rfl) rfl ⟨rfl, trivial⟩ trivial ?_
  refine G.op1 (op_move (Ev.t 0 (.g (.d (.sl 3 (List.map encApi_Dep l_0))))) rfl) rfl ⟨rfl, trivial⟩ trivial ?_
  refine G.op1 (OpL.cast (op_lenD Try.underlying22 (Ev.t 9 (.g (.d (.sl 3 (List.map encApi_Dep l_0))))) rfl) (by rw [List.length_map])) rfl ⟨rfl, trivial⟩ trivial ?_
  refine G.op1 (op_lss (Ev.t 8 (bI .i64 v12.1)) (Ev.t 10 (bI .i64 (l_0.length : Int))) rfl) rfl ⟨rfl, rfl, trivial⟩ trivial ?_
  refine G.op1 (op_move (Ev.t 11 (bB (decide (v12.1 < (l_0.length : Int))))) rfl) rfl ⟨rfl, trivial⟩ trivial ?_
  refine ifS hF (fun hc25 hF => ?_) (fun hc25 hF => ?_)
  · refine G.known (t := 12) hc25 rfl ?_
    refine G.opG1 (op_move (Ev.t 5 (bI .i64 v12.1)) rfl) rfl rfl rfl ⟨rfl, trivial⟩ trivial ?_
    refine G.opG1 (op_lss (Ev.t 13 (bI .i64 v12.1)) (Ev.c _ rfl) rfl) rfl rfl rfl ⟨rfl, trivial⟩ trivial ?_
    refine G.op1 (op_pickT (Ev.t 12 (bB true)) (Ev.t 14 (bB (decide (v12.1 < 30)))) rfl) rfl ⟨rfl, rfl, trivial⟩ trivial ?_
    refine G.endOps ?_
    exact G.arr (J24 (decide (v12.1 < 30)) hF) ⟨rfl, rfl, rfl, rfl, rfl, trivial⟩ ⟨rfl, trivial⟩ rfl
  · refine G.known (t := 12) hc25 rfl ?_
    refine G.opN1 rfl rfl rfl rfl rfl ?_
    refine G.opN1 rfl rfl rfl rfl rfl ?_
    refine G.op1 (op_pickF (Ev.t 12 (bB false)) (Ev.c _ rfl) rfl) rfl ⟨rfl, trivial⟩ trivial ?_
    refine G.endOps ?_
    exact G.arr (J24 false hF) ⟨rfl, rfl, rfl, rfl, rfl, trivial⟩ ⟨rfl, trivial⟩ rfl


end Go.Ark
