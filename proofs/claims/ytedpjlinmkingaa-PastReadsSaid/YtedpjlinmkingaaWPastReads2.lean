/- Walks, printed by a program of mine: each function of the program computes the typed function of its name. Conditions: none. -/
import Derived.Test.YtedpjlinmkingaaWPastReads1
namespace Go.Ark
open Go Go.Ab Go.RowKit Go.Lib Go.Proofs

set_option maxRecDepth 20000 in
set_option maxHeartbeats 2000000 in
theorem ct_ref04_Check (p_0 : (List Api_Dep)) (r : Bool) (hF : ref04_Check p_0 = some r) : Ct Try.prog 24 [.g (.d (.sl 3 (List.map encApi_Dep p_0)))] (.one (.d (.v (.bool r)))) := by
  unfold ref04_Check at hF
  refine Ct.intro Try.func24 rfl Try.ntmps24 rfl rfl fun M w => ?_
  refine G.seq ?_
  refine G.region ?_
  refine G.op1 (op_assign (Ev.c _ rfl) rfl) rfl trivial trivial ?_
  refine G.endOps ?_
  refine G.seq ?_
  refine G.seq ?_
  refine G.region ?_
  refine G.op1 (op_assign (Ev.c _ rfl) rfl) rfl trivial trivial ?_
  refine G.endOps ?_
  refine G.joinC (T := Unit) (fun y1 => ⟨[(0, .one (.g (.d (.sl 3 (List.map encApi_Dep p_0)))))], []⟩) (fun y1 => ref04_Check_k1 p_0 y1 = some r) (fun y1 hF => ?_) (fun J2 => ?_)
  · unfold ref04_Check_k1 at hF
    refine G.seq ?_
    refine G.region ?_
    refine G.op1 (op_move (Ev.t 0 (.g (.d (.sl 3 (List.map encApi_Dep p_0))))) rfl) rfl ⟨rfl, trivial⟩ trivial ?_
    refine G.op1 (OpL.cast (op_lenD Try.underlying22 (Ev.t 48 (.g (.d (.sl 3 (List.map encApi_Dep p_0))))) rfl) (by rw [List.length_map])) rfl ⟨rfl, trivial⟩ trivial ?_
    refine G.op1 (op_leq (Ev.t 49 (bI .i64 (p_0.length : Int))) (Ev.c _ rfl) rfl) rfl ⟨rfl, trivial⟩ trivial ?_
    refine G.op1 (op_assign (Ev.t 50 (bB (decide ((p_0.length : Int) ≤ 24)))) rfl) rfl ⟨rfl, trivial⟩ trivial ?_
    refine G.endOps ?_
    cases hF
    exact G.ret1 Try.results24 (RVar.tmp 2 _) ⟨rfl, trivial⟩ trivial
  refine G.block ?_
  refine G.keep (sl' := [(0, .one (.g (.d (.sl 3 (List.map encApi_Dep p_0))))), (3, .one (bI .i64 0))]) (hp' := []) ⟨rfl, rfl, trivial⟩ trivial rfl ?_
  refine G.loopF (fun (v3 : Int) => ⟨[(0, .one (.g (.d (.sl 3 (List.map encApi_Dep p_0))))), (3, .one (bI .i64 v3))], []⟩) hF rfl (fun K6 again5 v3 J4 hF => ?_)
  unfold ref04_Check_l2 at hF
  refine G.seq ?_
  refine G.seq ?_
  refine G.region ?_
  refine G.op1 (op_move (Ev.t 3 (bI .i64 v3)) rfl) rfl ⟨rfl, trivial⟩ trivial ?_
  refine G.op1 (op_move (Ev.t 0 (.g (.d (.sl 3 (List.map encApi_Dep p_0))))) rfl) rfl ⟨rfl, trivial⟩ trivial ?_
  refine G.op1 (OpL.cast (op_lenD Try.underlying22 (Ev.t 7 (.g (.d (.sl 3 (List.map encApi_Dep p_0))))) rfl) (by rw [List.length_map])) rfl ⟨rfl, trivial⟩ trivial ?_
  refine G.op1 (op_lss (Ev.t 6 (bI .i64 v3)) (Ev.t 8 (bI .i64 (p_0.length : Int))) rfl) rfl ⟨rfl, rfl, trivial⟩ trivial ?_
  refine G.endOps ?_
  refine ifS hF (fun hc7 hF => ?_) (fun hc7 hF => ?_)
  · refine G.cond rfl (fun _ => ?_) (fun hx => by rw [hc7] at hx; cases hx)
    refine G.skip ?_
    refine G.seq ?_
    refine G.block ?_
    refine G.seq ?_
    refine G.region ?_
    refine G.op1 (op_move (Ev.t 0 (.g (.d (.sl 3 (List.map encApi_Dep p_0))))) rfl) rfl ⟨rfl, trivial⟩ trivial ?_
    refine G.op1 (op_move (Ev.t 3 (bI .i64 v3)) rfl) rfl ⟨rfl, trivial⟩ trivial ?_
    obtain ⟨x8, hx8, hF⟩ := bindS hF
    refine G.op1 (op_index (cs := [.v (.string x8.Key), .v (.int .i64 x8.Stamp.N), .v (.int .i64 x8.Stamp.Site)]) Try.underlying22 ti26 (idx_ok hx8).1 (idx_get hx8 encApi_Dep) (Ev.t 12 (.g (.d (.sl 3 (List.map encApi_Dep p_0))))) (Ev.t 13 (bI .i64 v3)) rfl) rfl ⟨rfl, rfl, trivial⟩ trivial ?_
    refine G.op1 (op_fieldE (cs' := [.v (.string x8.Key), .v (.int .i64 x8.Stamp.N), .v (.int .i64 x8.Stamp.Site)]) Try.underlying26 rfl ti9 (by decide) rfl (Ev.t 14 (.ep [.v (.string x8.Key), .v (.int .i64 x8.Stamp.N), .v (.int .i64 x8.Stamp.Site)])) rfl) rfl ⟨rfl, trivial⟩ trivial ?_
    refine G.op1 (op_load1E (c := .v (.string x8.Key)) Try.underlying9 rfl rfl (Ev.t 15 (.ep [.v (.string x8.Key), .v (.int .i64 x8.Stamp.N), .v (.int .i64 x8.Stamp.Site)])) rfl) rfl ⟨rfl, trivial⟩ trivial ?_
    obtain ⟨r9, hr9, hF⟩ := bindS hF
    refine G.op1 (op_callQ (sv := .one (bB r9)) cf39 (ct_ref02_Check x8.Key r9 hr9) rfl rfl (EvQL.cons (EvQ.g (Ev.t 16 (bS x8.Key))) EvQL.nil) rfl) rfl ⟨rfl, trivial⟩ trivial ?_
    refine G.op1 (op_assign (Ev.t 17 (bB r9)) rfl) rfl ⟨rfl, trivial⟩ trivial ?_
    refine G.endOps ?_
    refine G.seq ?_
    refine G.region ?_
    refine G.op1 (op_move (Ev.t 0 (.g (.d (.sl 3 (List.map encApi_Dep p_0))))) rfl) rfl ⟨rfl, trivial⟩ trivial ?_
    refine G.op1 (op_move (Ev.t 3 (bI .i64 v3)) rfl) rfl ⟨rfl, trivial⟩ trivial ?_
    obtain ⟨x10, hx10, hF⟩ := bindS hF
    refine G.op1 (op_index (cs := [.v (.string x10.Key), .v (.int .i64 x10.Stamp.N), .v (.int .i64 x10.Stamp.Site)]) Try.underlying22 ti26 (idx_ok hx10).1 (idx_get hx10 encApi_Dep) (Ev.t 18 (.g (.d (.sl 3 (List.map encApi_Dep p_0))))) (Ev.t 19 (bI .i64 v3)) rfl) rfl ⟨rfl, rfl, trivial⟩ trivial ?_
    refine G.op1 (op_fieldE (cs' := [.v (.int .i64 x10.Stamp.N), .v (.int .i64 x10.Stamp.Site)]) Try.underlying26 rfl ti24 (by decide) rfl (Ev.t 20 (.ep [.v (.string x10.Key), .v (.int .i64 x10.Stamp.N), .v (.int .i64 x10.Stamp.Site)])) rfl) rfl ⟨rfl, trivial⟩ trivial ?_
    refine G.op1 (op_loadAE (ds := [.v (.int .i64 x10.Stamp.N), .v (.int .i64 x10.Stamp.Site)]) Try.underlying24 rfl ti24 rfl (Ev.t 21 (.ep [.v (.int .i64 x10.Stamp.N), .v (.int .i64 x10.Stamp.Site)])) rfl) rfl ⟨rfl, trivial⟩ trivial ?_
    obtain ⟨r11, hr11, hF⟩ := bindS hF
    refine G.op1 (op_callQ (sv := .one (bB r11)) cf40 (ct_ref03_Check x10.Stamp r11 hr11) rfl rfl (EvQL.cons (EvQ.g (Ev.t 22 (.g (.agg [.v (.int .i64 x10.Stamp.N), .v (.int .i64 x10.Stamp.Site)])))) EvQL.nil) rfl) rfl ⟨rfl, trivial⟩ trivial ?_
    refine G.op1 (op_assign (Ev.t 23 (bB r11)) rfl) rfl ⟨rfl, trivial⟩ trivial ?_
    refine G.endOps ?_
    refine G.seq ?_
    refine ifS hF (fun hc12 hF => ?_) (fun hc12 hF => ?_)
    · refine G.drawn (effs := (⟨[(4, .one (bB r9))], [], [(24, .one (bB r9))], []⟩ :: ⟨[(24, .one (bB r9))], [], [(25, .one (bB true))], []⟩ :: ⟨[(25, .one (bB true))], [], [(26, .one (bB true))], []⟩ :: ⟨[(26, .one (bB true))], [], [(27, .one (.x Go.undef))], []⟩ :: ⟨[(26, .one (bB true))], [], [(28, .one (.x Go.undef))], []⟩ :: ⟨[(26, .one (bB true))], [], [(29, .one (bB true))], []⟩ :: ⟨[(29, .one (bB true))], [], [(30, .one (bB true))], []⟩ :: ⟨[(30, .one (bB true))], [], [(31, .one (.x Go.undef))], []⟩ :: ⟨[(30, .one (bB true))], [], [(32, .one (.x Go.undef))], []⟩ :: ⟨[(30, .one (bB true))], [], [(33, .one (.x Go.undef))], []⟩ :: ⟨[(33, .one (.x Go.undef))], [], [(34, .one (.x Go.undef))], []⟩ :: ⟨[(33, .one (.x Go.undef))], [], [(35, .one (.x Go.undef))], []⟩ :: ⟨[(33, .one (.x Go.undef))], [], [(36, .one (.x Go.undef))], []⟩ :: ⟨[(33, .one (.x Go.undef))], [], [(37, .one (.x Go.undef))], []⟩ :: ⟨[(33, .one (.x Go.undef))], [], [(38, .one (.x Go.undef))], []⟩ :: ⟨[(33, .one (.x Go.undef))], [], [(39, .one (.x Go.undef))], []⟩ :: ⟨[(33, .one (.x Go.undef))], [], [(40, .one (.x Go.undef))], []⟩ :: ⟨[(33, .one (.x Go.undef))], [], [(41, .one (.x Go.undef))], []⟩ :: ⟨[(33, .one (.x Go.undef))], [], [(42, .one (.x Go.undef))], []⟩ :: ⟨[(33, .one (.x Go.undef))], [], [(43, .one (.x Go.undef))], []⟩ :: ⟨[(33, .one (.x Go.undef))], [], [(44, .one (.x Go.undef))], []⟩ :: ⟨[(33, .one (.x Go.undef))], [], [(45, .one (.x Go.undef))], []⟩ :: ⟨[(30, .one (bB true))], [], [(46, .one (.x Go.undef))], []⟩ :: ⟨[(30, .one (bB true))], [], [(47, .one (bB true))], []⟩ :: [])) (deps := ([] :: [0] :: [0, 1] :: [0, 1, 2] :: [0, 1, 2, 3] :: [0, 1, 2, 3, 4] :: [0, 1, 2, 3, 4, 5] :: [0, 1, 2, 3, 4, 5, 6] :: [0, 1, 2, 3, 4, 5, 6, 7] :: [0, 1, 2, 3, 4, 5, 6, 7, 8] :: [0, 1, 2, 3, 4, 5, 6, 7, 8, 9] :: [0, 1, 2, 3, 4, 5, 6, 7, 8, 9] :: [0, 1, 2, 3, 4, 5, 6, 7, 8, 9, 11] :: [0, 1, 2, 3, 4, 5, 6, 7, 8, 9, 10, 11, 12] :: [0, 1, 2, 3, 4, 5, 6, 7, 8, 9, 10, 11, 12, 13] :: [0, 1, 2, 3, 4, 5, 6, 7, 8, 9, 10, 11, 12, 13, 14] :: [0, 1, 2, 3, 4, 5, 6, 7, 8, 9] :: [0, 1, 2, 3, 4, 5, 6, 7, 8, 9] :: [0, 1, 2, 3, 4, 5, 6, 7, 8, 9, 16, 17] :: [0, 1, 2, 3, 4, 5, 6, 7, 8, 9, 16, 17, 18] :: [0, 1, 2, 3, 4, 5, 6, 7, 8, 9, 16, 17, 18, 19] :: (0 :: 1 :: 2 :: 3 :: 4 :: 5 :: 6 :: 7 :: 8 :: 9 :: 10 :: 11 :: 12 :: 13 :: 14 :: 15 :: 16 :: 17 :: 18 :: 19 :: 20 :: []) :: (0 :: 1 :: 2 :: 3 :: 4 :: 5 :: 6 :: 7 :: 8 :: 9 :: 10 :: 11 :: 12 :: 13 :: 14 :: 15 :: 16 :: 17 :: 18 :: 19 :: 20 :: 21 :: []) :: (0 :: 1 :: 2 :: 3 :: 4 :: 5 :: 6 :: 7 :: 8 :: 9 :: 10 :: 11 :: 12 :: 13 :: 14 :: 15 :: 16 :: 17 :: 18 :: 19 :: 20 :: 21 :: 22 :: []) :: [])) (sl' := [(0, .one (.g (.d (.sl 3 (List.map encApi_Dep p_0))))), (3, .one (bI .i64 v3)), (47, .one (bB true))]) (hp' := []) follows rfl rfl rfl ⟨⟨rfl, trivial⟩, trivial, ⟨rfl, trivial⟩, trivial, ⟨rfl, trivial⟩, trivial, ⟨rfl, trivial⟩, trivial, ⟨rfl, trivial⟩, trivial, ⟨rfl, trivial⟩, trivial, ⟨rfl, trivial⟩, trivial, ⟨rfl, trivial⟩, trivial, ⟨rfl, trivial⟩, trivial, ⟨rfl, trivial⟩, trivial, ⟨rfl, trivial⟩, trivial, ⟨rfl, trivial⟩, trivial, ⟨rfl, trivial⟩, trivial, ⟨rfl, trivial⟩, trivial, ⟨rfl, trivial⟩, trivial, ⟨rfl, trivial⟩, trivial, ⟨rfl, trivial⟩, trivial, ⟨rfl, trivial⟩, trivial, ⟨rfl, trivial⟩, trivial, ⟨rfl, trivial⟩, trivial, ⟨rfl, trivial⟩, trivial, ⟨rfl, trivial⟩, trivial, ⟨rfl, trivial⟩, trivial, ⟨rfl, trivial⟩, trivial, trivial⟩ ⟨OpW.plain (op_move (Ev.t 4 (bB r9)) rfl) rfl rfl, OpW.plain (OpL.cast (op_not (Ev.t 24 (bB r9)) rfl) (congrArg (fun b => bB b) hc12)) rfl rfl, OpW.plain (op_move (Ev.t 25 (bB true)) rfl) rfl rfl, OpW.no rfl rfl rfl rfl rfl, OpW.no rfl rfl rfl rfl rfl, OpW.plain (op_pickT (Ev.t 26 (bB true)) (Ev.c _ rfl) rfl) rfl rfl, OpW.plain (op_move (Ev.t 29 (bB true)) rfl) rfl rfl, OpW.no rfl rfl rfl rfl rfl, OpW.no rfl rfl rfl rfl rfl, OpW.no rfl rfl rfl rfl rfl, OpW.un rfl rfl rfl rfl, OpW.un rfl rfl rfl rfl, OpW.un rfl rfl rfl rfl, OpW.un rfl rfl rfl rfl, OpW.un rfl rfl rfl rfl, OpW.un rfl rfl rfl rfl, OpW.un rfl rfl rfl rfl, OpW.un rfl rfl rfl rfl, OpW.un rfl rfl rfl rfl, OpW.un rfl rfl rfl rfl, OpW.un rfl rfl rfl rfl, OpW.un rfl rfl rfl rfl, OpW.no rfl rfl rfl rfl rfl, OpW.plain (op_pickT (Ev.t 30 (bB true)) (Ev.c _ rfl) rfl) rfl rfl, trivial⟩ ⟨rfl, rfl, rfl, trivial⟩ trivial rfl ?_
      refine G.condT rfl ?_
      refine G.seq ?_
      refine G.region ?_
      refine G.op1 (op_assign (Ev.c _ rfl) rfl) rfl trivial trivial ?_
      refine G.endOps ?_
      cases hF
      exact G.ret1 Try.results24 (RVar.tmp 2 _) ⟨rfl, trivial⟩ trivial
    · refine ifS hF (fun hc13 hF => ?_) (fun hc13 hF => ?_)
      · refine G.drawn (effs := (⟨[(4, .one (bB r9))], [], [(24, .one (bB r9))], []⟩ :: ⟨[(24, .one (bB r9))], [], [(25, .one (bB false))], []⟩ :: ⟨[(25, .one (bB false))], [], [(26, .one (bB false))], []⟩ :: ⟨[(26, .one (bB false)), (5, .one (bB r11))], [], [(27, .one (bB r11))], []⟩ :: ⟨[(26, .one (bB false)), (27, .one (bB r11))], [], [(28, .one (bB true))], []⟩ :: ⟨[(26, .one (bB false)), (28, .one (bB true))], [], [(29, .one (bB true))], []⟩ :: ⟨[(29, .one (bB true))], [], [(30, .one (bB true))], []⟩ :: ⟨[(30, .one (bB true))], [], [(31, .one (.x Go.undef))], []⟩ :: ⟨[(30, .one (bB true))], [], [(32, .one (.x Go.undef))], []⟩ :: ⟨[(30, .one (bB true))], [], [(33, .one (.x Go.undef))], []⟩ :: ⟨[(33, .one (.x Go.undef))], [], [(34, .one (.x Go.undef))], []⟩ :: ⟨[(33, .one (.x Go.undef))], [], [(35, .one (.x Go.undef))], []⟩ :: ⟨[(33, .one (.x Go.undef))], [], [(36, .one (.x Go.undef))], []⟩ :: ⟨[(33, .one (.x Go.undef))], [], [(37, .one (.x Go.undef))], []⟩ :: ⟨[(33, .one (.x Go.undef))], [], [(38, .one (.x Go.undef))], []⟩ :: ⟨[(33, .one (.x Go.undef))], [], [(39, .one (.x Go.undef))], []⟩ :: ⟨[(33, .one (.x Go.undef))], [], [(40, .one (.x Go.undef))], []⟩ :: ⟨[(33, .one (.x Go.undef))], [], [(41, .one (.x Go.undef))], []⟩ :: ⟨[(33, .one (.x Go.undef))], [], [(42, .one (.x Go.undef))], []⟩ :: ⟨[(33, .one (.x Go.undef))], [], [(43, .one (.x Go.undef))], []⟩ :: ⟨[(33, .one (.x Go.undef))], [], [(44, .one (.x Go.undef))], []⟩ :: ⟨[(33, .one (.x Go.undef))], [], [(45, .one (.x Go.undef))], []⟩ :: ⟨[(30, .one (bB true))], [], [(46, .one (.x Go.undef))], []⟩ :: ⟨[(30, .one (bB true))], [], [(47, .one (bB true))], []⟩ :: [])) (deps := ([] :: [0] :: [0, 1] :: [0, 1, 2] :: [0, 1, 2, 3] :: [0, 1, 2, 3, 4] :: [0, 1, 2, 3, 4, 5] :: [0, 1, 2, 3, 4, 5, 6] :: [0, 1, 2, 3, 4, 5, 6, 7] :: [0, 1, 2, 3, 4, 5, 6, 7, 8] :: [0, 1, 2, 3, 4, 5, 6, 7, 8, 9] :: [0, 1, 2, 3, 4, 5, 6, 7, 8, 9] :: [0, 1, 2, 3, 4, 5, 6, 7, 8, 9, 11] :: [0, 1, 2, 3, 4, 5, 6, 7, 8, 9, 10, 11, 12] :: [0, 1, 2, 3, 4, 5, 6, 7, 8, 9, 10, 11, 12, 13] :: [0, 1, 2, 3, 4, 5, 6, 7, 8, 9, 10, 11, 12, 13, 14] :: [0, 1, 2, 3, 4, 5, 6, 7, 8, 9] :: [0, 1, 2, 3, 4, 5, 6, 7, 8, 9] :: [0, 1, 2, 3, 4, 5, 6, 7, 8, 9, 16, 17] :: [0, 1, 2, 3, 4, 5, 6, 7, 8, 9, 16, 17, 18] :: [0, 1, 2, 3, 4, 5, 6, 7, 8, 9, 16, 17, 18, 19] :: (0 :: 1 :: 2 :: 3 :: 4 :: 5 :: 6 :: 7 :: 8 :: 9 :: 10 :: 11 :: 12 :: 13 :: 14 :: 15 :: 16 :: 17 :: 18 :: 19 :: 20 :: []) :: (0 :: 1 :: 2 :: 3 :: 4 :: 5 :: 6 :: 7 :: 8 :: 9 :: 10 :: 11 :: 12 :: 13 :: 14 :: 15 :: 16 :: 17 :: 18 :: 19 :: 20 :: 21 :: []) :: (0 :: 1 :: 2 :: 3 :: 4 :: 5 :: 6 :: 7 :: 8 :: 9 :: 10 :: 11 :: 12 :: 13 :: 14 :: 15 :: 16 :: 17 :: 18 :: 19 :: 20 :: 21 :: 22 :: []) :: [])) (sl' := [(0, .one (.g (.d (.sl 3 (List.map encApi_Dep p_0))))), (3, .one (bI .i64 v3)), (47, .one (bB true))]) (hp' := []) follows rfl rfl rfl ⟨⟨rfl, trivial⟩, trivial, ⟨rfl, trivial⟩, trivial, ⟨rfl, trivial⟩, trivial, ⟨rfl, rfl, trivial⟩, trivial, ⟨rfl, rfl, trivial⟩, trivial, ⟨rfl, rfl, trivial⟩, trivial, ⟨rfl, trivial⟩, trivial, ⟨rfl, trivial⟩, trivial, ⟨rfl, trivial⟩, trivial, ⟨rfl, trivial⟩, trivial, ⟨rfl, trivial⟩, trivial, ⟨rfl, trivial⟩, trivial, ⟨rfl, trivial⟩, trivial, ⟨rfl, trivial⟩, trivial, ⟨rfl, trivial⟩, trivial, ⟨rfl, trivial⟩, trivial, ⟨rfl, trivial⟩, trivial, ⟨rfl, trivial⟩, trivial, ⟨rfl, trivial⟩, trivial, ⟨rfl, trivial⟩, trivial, ⟨rfl, trivial⟩, trivial, ⟨rfl, trivial⟩, trivial, ⟨rfl, trivial⟩, trivial, ⟨rfl, trivial⟩, trivial, trivial⟩ ⟨OpW.plain (op_move (Ev.t 4 (bB r9)) rfl) rfl rfl, OpW.plain (OpL.cast (op_not (Ev.t 24 (bB r9)) rfl) (congrArg (fun b => bB b) hc12)) rfl rfl, OpW.plain (op_move (Ev.t 25 (bB false)) rfl) rfl rfl, OpW.yes (op_move (Ev.t 5 (bB r11)) rfl) rfl rfl rfl, OpW.yes (OpL.cast (op_not (Ev.t 27 (bB r11)) rfl) (congrArg (fun b => bB b) hc13)) rfl rfl rfl, OpW.plain (op_pickF (Ev.t 26 (bB false)) (Ev.t 28 (bB true)) rfl) rfl rfl, OpW.plain (op_move (Ev.t 29 (bB true)) rfl) rfl rfl, OpW.no rfl rfl rfl rfl rfl, OpW.no rfl rfl rfl rfl rfl, OpW.no rfl rfl rfl rfl rfl, OpW.un rfl rfl rfl rfl, OpW.un rfl rfl rfl rfl, OpW.un rfl rfl rfl rfl, OpW.un rfl rfl rfl rfl, OpW.un rfl rfl rfl rfl, OpW.un rfl rfl rfl rfl, OpW.un rfl rfl rfl rfl, OpW.un rfl rfl rfl rfl, OpW.un rfl rfl rfl rfl, OpW.un rfl rfl rfl rfl, OpW.un rfl rfl rfl rfl, OpW.un rfl rfl rfl rfl, OpW.no rfl rfl rfl rfl rfl, OpW.plain (op_pickT (Ev.t 30 (bB true)) (Ev.c _ rfl) rfl) rfl rfl, trivial⟩ ⟨rfl, rfl, rfl, trivial⟩ trivial rfl ?_
        refine G.condT rfl ?_
        refine G.seq ?_
        refine G.region ?_
        refine G.op1 (op_assign (Ev.c _ rfl) rfl) rfl trivial trivial ?_
        refine G.endOps ?_
        cases hF
        exact G.ret1 Try.results24 (RVar.tmp 2 _) ⟨rfl, trivial⟩ trivial
      · refine ifS hF (fun hc14 hF => ?_) (fun hc14 hF => ?_)
        · obtain ⟨x15, hx15, hF⟩ := bindS hF
          obtain ⟨x16, hx16, hF⟩ := bindS hF
          refine G.drawn (effs := (⟨[(4, .one (bB r9))], [], [(24, .one (bB r9))], []⟩ :: ⟨[(24, .one (bB r9))], [], [(25, .one (bB false))], []⟩ :: ⟨[(25, .one (bB false))], [], [(26, .one (bB false))], []⟩ :: ⟨[(26, .one (bB false)), (5, .one (bB r11))], [], [(27, .one (bB r11))], []⟩ :: ⟨[(26, .one (bB false)), (27, .one (bB r11))], [], [(28, .one (bB false))], []⟩ :: ⟨[(26, .one (bB false)), (28, .one (bB false))], [], [(29, .one (bB false))], []⟩ :: ⟨[(29, .one (bB false))], [], [(30, .one (bB false))], []⟩ :: ⟨[(30, .one (bB false)), (3, .one (bI .i64 v3))], [], [(31, .one (bI .i64 v3))], []⟩ :: ⟨[(30, .one (bB false)), (31, .one (bI .i64 v3))], [], [(32, .one (bB true))], []⟩ :: ⟨[(30, .one (bB false)), (32, .one (bB true))], [], [(33, .one (bB true))], []⟩ :: ⟨[(33, .one (bB true)), (0, .one (.g (.d (.sl 3 (List.map encApi_Dep p_0)))))], [], [(34, .one (.g (.d (.sl 3 (List.map encApi_Dep p_0)))))], []⟩ :: ⟨[(33, .one (bB true)), (3, .one (bI .i64 v3))], [], [(35, .one (bI .i64 v3))], []⟩ :: ⟨[(33, .one (bB true)), (35, .one (bI .i64 v3))], [], [(36, .one (bI .i64 (IntKind.wrap .i64 (v3 - 1))))], []⟩ :: ⟨[(33, .one (bB true)), (34, .one (.g (.d (.sl 3 (List.map encApi_Dep p_0))))), (36, .one (bI .i64 (IntKind.wrap .i64 (v3 - 1))))], [], [(37, .one (.ep [.v (.string x15.Key), .v (.int .i64 x15.Stamp.N), .v (.int .i64 x15.Stamp.Site)]))], []⟩ :: ⟨[(33, .one (bB true)), (37, .one (.ep [.v (.string x15.Key), .v (.int .i64 x15.Stamp.N), .v (.int .i64 x15.Stamp.Site)]))], [], [(38, .one (.ep [.v (.string x15.Key), .v (.int .i64 x15.Stamp.N), .v (.int .i64 x15.Stamp.Site)]))], []⟩ :: ⟨[(33, .one (bB true)), (38, .one (.ep [.v (.string x15.Key), .v (.int .i64 x15.Stamp.N), .v (.int .i64 x15.Stamp.Site)]))], [], [(39, .one (bS x15.Key))], []⟩ :: ⟨[(33, .one (bB true)), (0, .one (.g (.d (.sl 3 (List.map encApi_Dep p_0)))))], [], [(40, .one (.g (.d (.sl 3 (List.map encApi_Dep p_0)))))], []⟩ :: ⟨[(33, .one (bB true)), (3, .one (bI .i64 v3))], [], [(41, .one (bI .i64 v3))], []⟩ :: ⟨[(33, .one (bB true)), (40, .one (.g (.d (.sl 3 (List.map encApi_Dep p_0))))), (41, .one (bI .i64 v3))], [], [(42, .one (.ep [.v (.string x16.Key), .v (.int .i64 x16.Stamp.N), .v (.int .i64 x16.Stamp.Site)]))], []⟩ :: ⟨[(33, .one (bB true)), (42, .one (.ep [.v (.string x16.Key), .v (.int .i64 x16.Stamp.N), .v (.int .i64 x16.Stamp.Site)]))], [], [(43, .one (.ep [.v (.string x16.Key), .v (.int .i64 x16.Stamp.N), .v (.int .i64 x16.Stamp.Site)]))], []⟩ :: ⟨[(33, .one (bB true)), (43, .one (.ep [.v (.string x16.Key), .v (.int .i64 x16.Stamp.N), .v (.int .i64 x16.Stamp.Site)]))], [], [(44, .one (bS x16.Key))], []⟩ :: ⟨[(33, .one (bB true)), (39, .one (bS x15.Key)), (44, .one (bS x16.Key))], [], [(45, .one (bB (!slt x15.Key x16.Key)))], []⟩ :: ⟨[(30, .one (bB false)), (33, .one (bB true)), (45, .one (bB (!slt x15.Key x16.Key)))], [], [(46, .one (bB (!slt x15.Key x16.Key)))], []⟩ :: ⟨[(30, .one (bB false)), (46, .one (bB (!slt x15.Key x16.Key)))], [], [(47, .one (bB (!slt x15.Key x16.Key)))], []⟩ :: [])) (deps := ([] :: [0] :: [0, 1] :: [0, 1, 2] :: [0, 1, 2, 3] :: [0, 1, 2, 3, 4] :: [0, 1, 2, 3, 4, 5] :: [0, 1, 2, 3, 4, 5, 6] :: [0, 1, 2, 3, 4, 5, 6, 7] :: [0, 1, 2, 3, 4, 5, 6, 7, 8] :: [0, 1, 2, 3, 4, 5, 6, 7, 8, 9] :: [0, 1, 2, 3, 4, 5, 6, 7, 8, 9] :: [0, 1, 2, 3, 4, 5, 6, 7, 8, 9, 11] :: [0, 1, 2, 3, 4, 5, 6, 7, 8, 9, 10, 11, 12] :: [0, 1, 2, 3, 4, 5, 6, 7, 8, 9, 10, 11, 12, 13] :: [0, 1, 2, 3, 4, 5, 6, 7, 8, 9, 10, 11, 12, 13, 14] :: [0, 1, 2, 3, 4, 5, 6, 7, 8, 9] :: [0, 1, 2, 3, 4, 5, 6, 7, 8, 9] :: [0, 1, 2, 3, 4, 5, 6, 7, 8, 9, 16, 17] :: [0, 1, 2, 3, 4, 5, 6, 7, 8, 9, 16, 17, 18] :: [0, 1, 2, 3, 4, 5, 6, 7, 8, 9, 16, 17, 18, 19] :: (0 :: 1 :: 2 :: 3 :: 4 :: 5 :: 6 :: 7 :: 8 :: 9 :: 10 :: 11 :: 12 :: 13 :: 14 :: 15 :: 16 :: 17 :: 18 :: 19 :: 20 :: []) :: (0 :: 1 :: 2 :: 3 :: 4 :: 5 :: 6 :: 7 :: 8 :: 9 :: 10 :: 11 :: 12 :: 13 :: 14 :: 15 :: 16 :: 17 :: 18 :: 19 :: 20 :: 21 :: []) :: (0 :: 1 :: 2 :: 3 :: 4 :: 5 :: 6 :: 7 :: 8 :: 9 :: 10 :: 11 :: 12 :: 13 :: 14 :: 15 :: 16 :: 17 :: 18 :: 19 :: 20 :: 21 :: 22 :: []) :: [])) (sl' := [(0, .one (.g (.d (.sl 3 (List.map encApi_Dep p_0))))), (3, .one (bI .i64 v3)), (47, .one (bB (!slt x15.Key x16.Key)))]) (hp' := []) follows rfl rfl rfl ⟨⟨rfl, trivial⟩, trivial, ⟨rfl, trivial⟩, trivial, ⟨rfl, trivial⟩, trivial, ⟨rfl, rfl, trivial⟩, trivial, ⟨rfl, rfl, trivial⟩, trivial, ⟨rfl, rfl, trivial⟩, trivial, ⟨rfl, trivial⟩, trivial, ⟨rfl, rfl, trivial⟩, trivial, ⟨rfl, rfl, trivial⟩, trivial, ⟨rfl, rfl, trivial⟩, trivial, ⟨rfl, rfl, trivial⟩, trivial, ⟨rfl, rfl, trivial⟩, trivial, ⟨rfl, rfl, trivial⟩, trivial, ⟨rfl, rfl, rfl, trivial⟩, trivial, ⟨rfl, rfl, trivial⟩, trivial, ⟨rfl, rfl, trivial⟩, trivial, ⟨rfl, rfl, trivial⟩, trivial, ⟨rfl, rfl, trivial⟩, trivial, ⟨rfl, rfl, rfl, trivial⟩, trivial, ⟨rfl, rfl, trivial⟩, trivial, ⟨rfl, rfl, trivial⟩, trivial, ⟨rfl, rfl, rfl, trivial⟩, trivial, ⟨rfl, rfl, rfl, trivial⟩, trivial, ⟨rfl, rfl, trivial⟩, trivial, trivial⟩ ⟨OpW.plain (op_move (Ev.t 4 (bB r9)) rfl) rfl rfl, OpW.plain (OpL.cast (op_not (Ev.t 24 (bB r9)) rfl) (congrArg (fun b => bB b) hc12)) rfl rfl, OpW.plain (op_move (Ev.t 25 (bB false)) rfl) rfl rfl, OpW.yes (op_move (Ev.t 5 (bB r11)) rfl) rfl rfl rfl, OpW.yes (OpL.cast (op_not (Ev.t 27 (bB r11)) rfl) (congrArg (fun b => bB b) hc13)) rfl rfl rfl, OpW.plain (op_pickF (Ev.t 26 (bB false)) (Ev.t 28 (bB false)) rfl) rfl rfl, OpW.plain (op_move (Ev.t 29 (bB false)) rfl) rfl rfl, OpW.yes (op_move (Ev.t 3 (bI .i64 v3)) rfl) rfl rfl rfl, OpW.yes (OpL.cast (op_gtr (Ev.t 31 (bI .i64 v3)) (Ev.c _ rfl) rfl) (congrArg (fun b => bB b) hc14)) rfl rfl rfl, OpW.yes (op_move (Ev.t 32 (bB true)) rfl) rfl rfl rfl, OpW.yes (op_move (Ev.t 0 (.g (.d (.sl 3 (List.map encApi_Dep p_0))))) rfl) rfl rfl rfl, OpW.yes (op_move (Ev.t 3 (bI .i64 v3)) rfl) rfl rfl rfl, OpW.yes (op_sub (Ev.t 35 (bI .i64 v3)) (Ev.c _ rfl) rfl) rfl rfl rfl, OpW.yes (op_index (cs := [.v (.string x15.Key), .v (.int .i64 x15.Stamp.N), .v (.int .i64 x15.Stamp.Site)]) Try.underlying22 ti26 (idx_ok hx15).1 (idx_get hx15 encApi_Dep) (Ev.t 34 (.g (.d (.sl 3 (List.map encApi_Dep p_0))))) (Ev.t 36 (bI .i64 (IntKind.wrap .i64 (v3 - 1)))) rfl) rfl rfl rfl, OpW.yes (op_fieldE (cs' := [.v (.string x15.Key), .v (.int .i64 x15.Stamp.N), .v (.int .i64 x15.Stamp.Site)]) Try.underlying26 rfl ti9 (by decide) rfl (Ev.t 37 (.ep [.v (.string x15.Key), .v (.int .i64 x15.Stamp.N), .v (.int .i64 x15.Stamp.Site)])) rfl) rfl rfl rfl, OpW.yes (op_load1E (c := .v (.string x15.Key)) Try.underlying9 rfl rfl (Ev.t 38 (.ep [.v (.string x15.Key), .v (.int .i64 x15.Stamp.N), .v (.int .i64 x15.Stamp.Site)])) rfl) rfl rfl rfl, OpW.yes (op_move (Ev.t 0 (.g (.d (.sl 3 (List.map encApi_Dep p_0))))) rfl) rfl rfl rfl, OpW.yes (op_move (Ev.t 3 (bI .i64 v3)) rfl) rfl rfl rfl, OpW.yes (op_index (cs := [.v (.string x16.Key), .v (.int .i64 x16.Stamp.N), .v (.int .i64 x16.Stamp.Site)]) Try.underlying22 ti26 (idx_ok hx16).1 (idx_get hx16 encApi_Dep) (Ev.t 40 (.g (.d (.sl 3 (List.map encApi_Dep p_0))))) (Ev.t 41 (bI .i64 v3)) rfl) rfl rfl rfl, OpW.yes (op_fieldE (cs' := [.v (.string x16.Key), .v (.int .i64 x16.Stamp.N), .v (.int .i64 x16.Stamp.Site)]) Try.underlying26 rfl ti9 (by decide) rfl (Ev.t 42 (.ep [.v (.string x16.Key), .v (.int .i64 x16.Stamp.N), .v (.int .i64 x16.Stamp.Site)])) rfl) rfl rfl rfl, OpW.yes (op_load1E (c := .v (.string x16.Key)) Try.underlying9 rfl rfl (Ev.t 43 (.ep [.v (.string x16.Key), .v (.int .i64 x16.Stamp.N), .v (.int .i64 x16.Stamp.Site)])) rfl) rfl rfl rfl, OpW.yes (op_geS (Ev.t 39 (bS x15.Key)) (Ev.t 44 (bS x16.Key)) rfl) rfl rfl rfl, OpW.yes (op_pickT (Ev.t 33 (bB true)) (Ev.t 45 (bB (!slt x15.Key x16.Key))) rfl) rfl rfl rfl, OpW.plain (op_pickF (Ev.t 30 (bB false)) (Ev.t 46 (bB (!slt x15.Key x16.Key))) rfl) rfl rfl, trivial⟩ ⟨rfl, rfl, rfl, trivial⟩ trivial rfl ?_
          refine ifS hF (fun hc17 hF => ?_) (fun hc17 hF => ?_)
          · refine G.cond rfl (fun _ => ?_) (fun hx => by rw [hc17] at hx; cases hx)
            refine G.seq ?_
            refine G.region ?_
            refine G.op1 (op_assign (Ev.c _ rfl) rfl) rfl trivial trivial ?_
            refine G.endOps ?_
            cases hF
            exact G.ret1 Try.results24 (RVar.tmp 2 _) ⟨rfl, trivial⟩ trivial
          · refine G.cond rfl (fun hx => by rw [hc17] at hx; cases hx) (fun _ => ?_)
            refine G.skip ?_
            refine G.endBlock ?_
            refine G.region ?_
            refine G.op1 (op_move (Ev.t 3 (bI .i64 v3)) rfl) rfl ⟨rfl, trivial⟩ trivial ?_
            refine G.op1 (op_add (Ev.t 10 (bI .i64 v3)) (Ev.c _ rfl) rfl) rfl ⟨rfl, trivial⟩ trivial ?_
            refine G.op1 (op_assign (Ev.t 11 (bI .i64 (IntKind.wrap .i64 (v3 + 1)))) rfl) rfl ⟨rfl, trivial⟩ trivial ?_
            refine G.endOps ?_
            exact G.arr (J4 (IntKind.wrap .i64 (v3 + 1)) hF) ⟨rfl, rfl, trivial⟩ trivial rfl
        · refine G.drawn (effs := (⟨[(4, .one (bB r9))], [], [(24, .one (bB r9))], []⟩ :: ⟨[(24, .one (bB r9))], [], [(25, .one (bB false))], []⟩ :: ⟨[(25, .one (bB false))], [], [(26, .one (bB false))], []⟩ :: ⟨[(26, .one (bB false)), (5, .one (bB r11))], [], [(27, .one (bB r11))], []⟩ :: ⟨[(26, .one (bB false)), (27, .one (bB r11))], [], [(28, .one (bB false))], []⟩ :: ⟨[(26, .one (bB false)), (28, .one (bB false))], [], [(29, .one (bB false))], []⟩ :: ⟨[(29, .one (bB false))], [], [(30, .one (bB false))], []⟩ :: ⟨[(30, .one (bB false)), (3, .one (bI .i64 v3))], [], [(31, .one (bI .i64 v3))], []⟩ :: ⟨[(30, .one (bB false)), (31, .one (bI .i64 v3))], [], [(32, .one (bB false))], []⟩ :: ⟨[(30, .one (bB false)), (32, .one (bB false))], [], [(33, .one (bB false))], []⟩ :: ⟨[(33, .one (bB false))], [], [(34, .one (.x Go.undef))], []⟩ :: ⟨[(33, .one (bB false))], [], [(35, .one (.x Go.undef))], []⟩ :: ⟨[(33, .one (bB false))], [], [(36, .one (.x Go.undef))], []⟩ :: ⟨[(33, .one (bB false))], [], [(37, .one (.x Go.undef))], []⟩ :: ⟨[(33, .one (bB false))], [], [(38, .one (.x Go.undef))], []⟩ :: ⟨[(33, .one (bB false))], [], [(39, .one (.x Go.undef))], []⟩ :: ⟨[(33, .one (bB false))], [], [(40, .one (.x Go.undef))], []⟩ :: ⟨[(33, .one (bB false))], [], [(41, .one (.x Go.undef))], []⟩ :: ⟨[(33, .one (bB false))], [], [(42, .one (.x Go.undef))], []⟩ :: ⟨[(33, .one (bB false))], [], [(43, .one (.x Go.undef))], []⟩ :: ⟨[(33, .one (bB false))], [], [(44, .one (.x Go.undef))], []⟩ :: ⟨[(33, .one (bB false))], [], [(45, .one (.x Go.undef))], []⟩ :: ⟨[(30, .one (bB false)), (33, .one (bB false))], [], [(46, .one (bB false))], []⟩ :: ⟨[(30, .one (bB false)), (46, .one (bB false))], [], [(47, .one (bB false))], []⟩ :: [])) (deps := ([] :: [0] :: [0, 1] :: [0, 1, 2] :: [0, 1, 2, 3] :: [0, 1, 2, 3, 4] :: [0, 1, 2, 3, 4, 5] :: [0, 1, 2, 3, 4, 5, 6] :: [0, 1, 2, 3, 4, 5, 6, 7] :: [0, 1, 2, 3, 4, 5, 6, 7, 8] :: [0, 1, 2, 3, 4, 5, 6, 7, 8, 9] :: [0, 1, 2, 3, 4, 5, 6, 7, 8, 9] :: [0, 1, 2, 3, 4, 5, 6, 7, 8, 9, 11] :: [0, 1, 2, 3, 4, 5, 6, 7, 8, 9, 10, 11, 12] :: [0, 1, 2, 3, 4, 5, 6, 7, 8, 9, 10, 11, 12, 13] :: [0, 1, 2, 3, 4, 5, 6, 7, 8, 9, 10, 11, 12, 13, 14] :: [0, 1, 2, 3, 4, 5, 6, 7, 8, 9] :: [0, 1, 2, 3, 4, 5, 6, 7, 8, 9] :: [0, 1, 2, 3, 4, 5, 6, 7, 8, 9, 16, 17] :: [0, 1, 2, 3, 4, 5, 6, 7, 8, 9, 16, 17, 18] :: [0, 1, 2, 3, 4, 5, 6, 7, 8, 9, 16, 17, 18, 19] :: (0 :: 1 :: 2 :: 3 :: 4 :: 5 :: 6 :: 7 :: 8 :: 9 :: 10 :: 11 :: 12 :: 13 :: 14 :: 15 :: 16 :: 17 :: 18 :: 19 :: 20 :: []) :: (0 :: 1 :: 2 :: 3 :: 4 :: 5 :: 6 :: 7 :: 8 :: 9 :: 10 :: 11 :: 12 :: 13 :: 14 :: 15 :: 16 :: 17 :: 18 :: 19 :: 20 :: 21 :: []) :: (0 :: 1 :: 2 :: 3 :: 4 :: 5 :: 6 :: 7 :: 8 :: 9 :: 10 :: 11 :: 12 :: 13 :: 14 :: 15 :: 16 :: 17 :: 18 :: 19 :: 20 :: 21 :: 22 :: []) :: [])) (sl' := [(0, .one (.g (.d (.sl 3 (List.map encApi_Dep p_0))))), (3, .one (bI .i64 v3)), (47, .one (bB false))]) (hp' := []) follows rfl rfl rfl ⟨⟨rfl, trivial⟩, trivial, ⟨rfl, trivial⟩, trivial, ⟨rfl, trivial⟩, trivial, ⟨rfl, rfl, trivial⟩, trivial, ⟨rfl, rfl, trivial⟩, trivial, ⟨rfl, rfl, trivial⟩, trivial, ⟨rfl, trivial⟩, trivial, ⟨rfl, rfl, trivial⟩, trivial, ⟨rfl, rfl, trivial⟩, trivial, ⟨rfl, rfl, trivial⟩, trivial, ⟨rfl, trivial⟩, trivial, ⟨rfl, trivial⟩, trivial, ⟨rfl, trivial⟩, trivial, ⟨rfl, trivial⟩, trivial, ⟨rfl, trivial⟩, trivial, ⟨rfl, trivial⟩, trivial, ⟨rfl, trivial⟩, trivial, ⟨rfl, trivial⟩, trivial, ⟨rfl, trivial⟩, trivial, ⟨rfl, trivial⟩, trivial, ⟨rfl, trivial⟩, trivial, ⟨rfl, trivial⟩, trivial, ⟨rfl, rfl, trivial⟩, trivial, ⟨rfl, rfl, trivial⟩, trivial, trivial⟩ ⟨OpW.plain (op_move (Ev.t 4 (bB r9)) rfl) rfl rfl, OpW.plain (OpL.cast (op_not (Ev.t 24 (bB r9)) rfl) (congrArg (fun b => bB b) hc12)) rfl rfl, OpW.plain (op_move (Ev.t 25 (bB false)) rfl) rfl rfl, OpW.yes (op_move (Ev.t 5 (bB r11)) rfl) rfl rfl rfl, OpW.yes (OpL.cast (op_not (Ev.t 27 (bB r11)) rfl) (congrArg (fun b => bB b) hc13)) rfl rfl rfl, OpW.plain (op_pickF (Ev.t 26 (bB false)) (Ev.t 28 (bB false)) rfl) rfl rfl, OpW.plain (op_move (Ev.t 29 (bB false)) rfl) rfl rfl, OpW.yes (op_move (Ev.t 3 (bI .i64 v3)) rfl) rfl rfl rfl, OpW.yes (OpL.cast (op_gtr (Ev.t 31 (bI .i64 v3)) (Ev.c _ rfl) rfl) (congrArg (fun b => bB b) hc14)) rfl rfl rfl, OpW.yes (op_move (Ev.t 32 (bB false)) rfl) rfl rfl rfl, OpW.no rfl rfl rfl rfl rfl, OpW.no rfl rfl rfl rfl rfl, OpW.no rfl rfl rfl rfl rfl, OpW.no rfl rfl rfl rfl rfl, OpW.no rfl rfl rfl rfl rfl, OpW.no rfl rfl rfl rfl rfl, OpW.no rfl rfl rfl rfl rfl, OpW.no rfl rfl rfl rfl rfl, OpW.no rfl rfl rfl rfl rfl, OpW.no rfl rfl rfl rfl rfl, OpW.no rfl rfl rfl rfl rfl, OpW.no rfl rfl rfl rfl rfl, OpW.yes (op_pickF (Ev.t 33 (bB false)) (Ev.c _ rfl) rfl) rfl rfl rfl, OpW.plain (op_pickF (Ev.t 30 (bB false)) (Ev.t 46 (bB false)) rfl) rfl rfl, trivial⟩ ⟨rfl, rfl, rfl, trivial⟩ trivial rfl ?_
          refine G.condF rfl ?_
          refine G.skip ?_
          refine G.endBlock ?_
          refine G.region ?_
          refine G.op1 (op_move (Ev.t 3 (bI .i64 v3)) rfl) rfl ⟨rfl, trivial⟩ trivial ?_
          refine G.op1 (op_add (Ev.t 10 (bI .i64 v3)) (Ev.c _ rfl) rfl) rfl ⟨rfl, trivial⟩ trivial ?_
          refine G.op1 (op_assign (Ev.t 11 (bI .i64 (IntKind.wrap .i64 (v3 + 1)))) rfl) rfl ⟨rfl, trivial⟩ trivial ?_
          refine G.endOps ?_
          exact G.arr (J4 (IntKind.wrap .i64 (v3 + 1)) hF) ⟨rfl, rfl, trivial⟩ trivial rfl
  · refine G.cond rfl (fun hx => by rw [hc7] at hx; cases hx) (fun _ => ?_)
    refine G.exit ?_
    refine GX.c ?_
    refine GX.q ?_
    refine GX.bYes ?_
    exact G.arr (J2 () hF) ⟨rfl, trivial⟩ trivial rfl


set_option maxRecDepth 20000 in
set_option maxHeartbeats 2000000 in
theorem ct_ref01_Number_b (again0 : Int → Option ByteArray) (ih : ∀ (n_0 : Int) (r : ByteArray), again0 n_0 = some r → Ct Try.prog 51 [.g (.d (.v (.int .u64 n_0)))] (.one (.d (.v (.string r))))) (n_0 : Int) (r : ByteArray) (hF : ref01_Number_b again0 n_0 = some r) : Ct Try.prog 51 [.g (.d (.v (.int .u64 n_0)))] (.one (.d (.v (.string r)))) := by
  unfold ref01_Number_b at hF
  refine Ct.intro Try.func51 rfl Try.ntmps51 rfl rfl fun M w => ?_
  refine G.seq ?_
  refine G.region ?_
  refine G.op1 (op_assign (Ev.c _ rfl) rfl) rfl trivial trivial ?_
  refine G.endOps ?_
  refine G.seq ?_
  refine G.seq ?_
  refine G.region ?_
  refine G.op1 (op_move (Ev.t 0 (bI .u64 n_0)) rfl) rfl ⟨rfl, trivial⟩ trivial ?_
  refine G.op1 (op_lss (Ev.t 3 (bI .u64 n_0)) (Ev.c _ rfl) rfl) rfl ⟨rfl, trivial⟩ trivial ?_
  refine G.endOps ?_
  refine ifS hF (fun hc1 hF => ?_) (fun hc1 hF => ?_)
  · refine G.cond rfl (fun _ => ?_) (fun hx => by rw [hc1] at hx; cases hx)
    refine G.seq ?_
    refine G.region ?_
    refine G.op1 (op_move (Ev.t 0 (bI .u64 n_0)) rfl) rfl ⟨rfl, trivial⟩ trivial ?_
    refine G.op1 (op_convI Try.underlying76 Try.underlying5 (Ev.t 5 (bI .u64 n_0)) rfl) rfl ⟨rfl, trivial⟩ trivial ?_
    refine G.op1 (op_buildSlice (es := List.map encI_u8 [IntKind.wrap .u8 n_0]) Try.underlying47 ti5 rfl rfl (EvP.cons (Ev.t 6 (bI .u8 (IntKind.wrap .u8 n_0))) EvP.nil) rfl rfl (by simp [encI_u8]) rfl) rfl ⟨rfl, trivial⟩ trivial ?_
    refine G.op1 (op_toText (ns := [IntKind.wrap .u8 n_0]) Try.underlying47 Try.underlying5 Try.underlying9 rfl (Ev.t 7 (.g (.d (.sl 1 (List.map encI_u8 ([IntKind.wrap .u8 n_0])))))) rfl) rfl ⟨rfl, trivial⟩ trivial ?_
    refine G.op1 (op_assign (Ev.t 8 (bS (bytesOf ([IntKind.wrap .u8 n_0])))) rfl) rfl ⟨rfl, trivial⟩ trivial ?_
    refine G.endOps ?_
    cases hF
    exact G.ret1 Try.results51 (RVar.tmp 2 _) ⟨rfl, trivial⟩ trivial
  · refine G.cond rfl (fun hx => by rw [hc1] at hx; cases hx) (fun _ => ?_)
    refine G.skip ?_
    refine G.seq ?_
    obtain ⟨r2, hr2, hF⟩ := bindS hF
    obtain ⟨s3, hs3, hF⟩ := bindS hF
    refine G.drawn (effs := [⟨[(0, .one (bI .u64 n_0))], [], [(9, .one (bI .u64 n_0))], []⟩, ⟨[(9, .one (bI .u64 n_0))], [], [(10, .one (bI .u64 (Int.tmod n_0 128)))], []⟩, ⟨[(10, .one (bI .u64 (Int.tmod n_0 128)))], [], [(11, .one (bI .u64 (IntKind.wrap .u64 (128 + (Int.tmod n_0 128)))))], []⟩, ⟨[(11, .one (bI .u64 (IntKind.wrap .u64 (128 + (Int.tmod n_0 128)))))], [], [(12, .one (bI .u8 (IntKind.wrap .u8 (IntKind.wrap .u64 (128 + (Int.tmod n_0 128))))))], []⟩, ⟨[(12, .one (bI .u8 (IntKind.wrap .u8 (IntKind.wrap .u64 (128 + (Int.tmod n_0 128))))))], [], [(13, .one (.g (.d (.sl 1 (List.map encI_u8 ([IntKind.wrap .u8 (IntKind.wrap .u64 (128 + (Int.tmod n_0 128)))]))))))], []⟩, ⟨[(13, .one (.g (.d (.sl 1 (List.map encI_u8 ([IntKind.wrap .u8 (IntKind.wrap .u64 (128 + (Int.tmod n_0 128)))]))))))], [], [(14, .one (bS (bytesOf ([IntKind.wrap .u8 (IntKind.wrap .u64 (128 + (Int.tmod n_0 128)))]))))], []⟩, ⟨[(0, .one (bI .u64 n_0))], [], [(15, .one (bI .u64 n_0))], []⟩, ⟨[(15, .one (bI .u64 n_0))], [], [(16, .one (bI .u64 (IntKind.wrap .u64 (Int.tdiv n_0 128))))], []⟩, ⟨[(16, .one (bI .u64 (IntKind.wrap .u64 (Int.tdiv n_0 128))))], [], [(17, .one (bS r2))], []⟩, ⟨[(14, .one (bS (bytesOf ([IntKind.wrap .u8 (IntKind.wrap .u64 (128 + (Int.tmod n_0 128)))])))), (17, .one (bS r2))], [], [(18, .one (bS s3))], []⟩, ⟨[(18, .one (bS s3))], [], [(2, .one (bS s3))], []⟩]) (deps := [[], [0], [0, 1], [0, 1, 2], [0, 1, 2, 3], [0, 1, 2, 3, 4], [], [6], [6, 7], [0, 1, 2, 3, 4, 5, 6, 7, 8], [0, 1, 2, 3, 4, 5, 6, 7, 8, 9]]) (sl' := [(2, .one (bS s3))]) (hp' := []) follows rfl rfl rfl ⟨⟨rfl, trivial⟩, trivial, ⟨rfl, trivial⟩, trivial, ⟨rfl, trivial⟩, trivial, ⟨rfl, trivial⟩, trivial, ⟨rfl, trivial⟩, trivial, ⟨rfl, trivial⟩, trivial, ⟨rfl, trivial⟩, trivial, ⟨rfl, trivial⟩, trivial, ⟨rfl, trivial⟩, trivial, ⟨rfl, rfl, trivial⟩, trivial, ⟨rfl, trivial⟩, trivial, trivial⟩ ⟨OpW.plain (op_move (Ev.t 0 (bI .u64 n_0)) rfl) rfl rfl, OpW.plain (op_rem (by decide) (Ev.t 9 (bI .u64 n_0)) (Ev.c _ rfl) rfl) rfl rfl, OpW.plain (op_add (Ev.c _ rfl) (Ev.t 10 (bI .u64 (Int.tmod n_0 128))) rfl) rfl rfl, OpW.plain (op_convI Try.underlying76 Try.underlying5 (Ev.t 11 (bI .u64 (IntKind.wrap .u64 (128 + (Int.tmod n_0 128))))) rfl) rfl rfl, OpW.plain (op_buildSlice (es := List.map encI_u8 [IntKind.wrap .u8 (IntKind.wrap .u64 (128 + (Int.tmod n_0 128)))]) Try.underlying47 ti5 rfl rfl (EvP.cons (Ev.t 12 (bI .u8 (IntKind.wrap .u8 (IntKind.wrap .u64 (128 + (Int.tmod n_0 128)))))) EvP.nil) rfl rfl (by simp [encI_u8]) rfl) rfl rfl, OpW.plain (op_toText (ns := [IntKind.wrap .u8 (IntKind.wrap .u64 (128 + (Int.tmod n_0 128)))]) Try.underlying47 Try.underlying5 Try.underlying9 rfl (Ev.t 13 (.g (.d (.sl 1 (List.map encI_u8 ([IntKind.wrap .u8 (IntKind.wrap .u64 (128 + (Int.tmod n_0 128)))])))))) rfl) rfl rfl, OpW.plain (op_move (Ev.t 0 (bI .u64 n_0)) rfl) rfl rfl, OpW.plain (op_quo (by decide) (Ev.t 15 (bI .u64 n_0)) (Ev.c _ rfl) rfl) rfl rfl, OpW.plain (op_call (sv := .one (bS r2)) cf51 (ih (IntKind.wrap .u64 (Int.tdiv n_0 128)) r2 hr2) rfl (EvL.cons (Ev.t 16 (bI .u64 (IntKind.wrap .u64 (Int.tdiv n_0 128)))) EvL.nil) rfl) rfl rfl, OpW.plain (OpL.cast (op_cat (scat_ok hs3).1 (Ev.t 14 (bS (bytesOf ([IntKind.wrap .u8 (IntKind.wrap .u64 (128 + (Int.tmod n_0 128)))])))) (Ev.t 17 (bS r2)) rfl) (by rw [(scat_ok hs3).2])) rfl rfl, OpW.plain (op_assign (Ev.t 18 (bS s3)) rfl) rfl rfl, trivial⟩ ⟨rfl, trivial⟩ trivial rfl ?_
    cases hF
    exact G.ret1 Try.results51 (RVar.tmp 2 _) ⟨rfl, trivial⟩ trivial
theorem ct_ref01_Number_n : ∀ (n : Nat) (n_0 : Int) (r : ByteArray), loopF (fun again0 v0 => ref01_Number_b again0 v0) n n_0 = some r → Ct Try.prog 51 [.g (.d (.v (.int .u64 n_0)))] (.one (.d (.v (.string r))))
  | 0, _,  _, h => (by cases h)
  | n + 1, n_0,  r, h => ct_ref01_Number_b _ (fun n_0 r h => ct_ref01_Number_n n n_0 r h) n_0 r h
theorem ct_ref01_Number (n_0 : Int) (r : ByteArray) (hF : ref01_Number n_0 = some r) : Ct Try.prog 51 [.g (.d (.v (.int .u64 n_0)))] (.one (.d (.v (.string r)))) := ct_ref01_Number_n FU n_0 r hF


set_option maxRecDepth 20000 in
set_option maxHeartbeats 2000000 in
theorem ct_ref01_Text (s_0 : ByteArray) (r : ByteArray) (hF : ref01_Text s_0 = some r) : Ct Try.prog 52 [.g (.d (.v (.string s_0)))] (.one (.d (.v (.string r)))) := by
  unfold ref01_Text at hF
  refine Ct.intro Try.func52 rfl Try.ntmps52 rfl rfl fun M w => ?_
  refine G.seq ?_
  refine G.region ?_
  refine G.op1 (op_assign (Ev.c _ rfl) rfl) rfl trivial trivial ?_
  refine G.endOps ?_
  refine G.seq ?_
  refine G.region ?_
  refine G.op1 (op_move (Ev.t 0 (bS s_0)) rfl) rfl ⟨rfl, trivial⟩ trivial ?_
  refine G.op1 (op_lenS Try.underlying9 (Ev.t 3 (bS s_0)) rfl) rfl ⟨rfl, trivial⟩ trivial ?_
  refine G.op1 (op_convI Try.underlying3 Try.underlying76 (Ev.t 4 (bI .i64 (s_0.size : Int))) rfl) rfl ⟨rfl, trivial⟩ trivial ?_
  obtain ⟨r1, hr1, hF⟩ := bindS hF
  refine G.op1 (op_callQ (sv := .one (bS r1)) cf51 (ct_ref01_Number (IntKind.wrap .u64 (s_0.size : Int)) r1 hr1) rfl rfl (EvQL.cons (EvQ.g (Ev.t 5 (bI .u64 (IntKind.wrap .u64 (s_0.size : Int))))) EvQL.nil) rfl) rfl ⟨rfl, trivial⟩ trivial ?_
  refine G.op1 (op_move (Ev.t 0 (bS s_0)) rfl) rfl ⟨rfl, trivial⟩ trivial ?_
  obtain ⟨s2, hs2, hF⟩ := bindS hF
  refine G.op1 (OpL.cast (op_cat (scat_ok hs2).1 (Ev.t 6 (bS r1)) (Ev.t 7 (bS s_0)) rfl) (by rw [(scat_ok hs2).2])) rfl ⟨rfl, rfl, trivial⟩ trivial ?_
  refine G.op1 (op_assign (Ev.t 8 (bS s2)) rfl) rfl ⟨rfl, trivial⟩ trivial ?_
  refine G.endOps ?_
  cases hF
  exact G.ret1 Try.results52 (RVar.tmp 2 _) ⟨rfl, trivial⟩ trivial


set_option maxRecDepth 20000 in
set_option maxHeartbeats 2000000 in
theorem ct_ref03_Bytes (s_0 : Api_Stamp) (r : ByteArray) (hF : ref03_Bytes s_0 = some r) : Ct Try.prog 53 [.g (.agg (encApi_Stamp s_0))] (.one (.d (.v (.string r)))) := by
  unfold ref03_Bytes at hF
  refine Ct.intro Try.func53 rfl Try.ntmps53 rfl rfl fun M w => ?_
  refine G.seq ?_
  refine G.region ?_
  refine G.op2 (op_boxA (k := 1001) (Ev.t 0 (.g (.agg [.v (.int .i64 s_0.N), .v (.int .i64 s_0.Site)]))) rfl) rfl ⟨rfl, trivial⟩ ⟨rfl, trivial⟩ ?_
  refine G.op1 (op_assign (Ev.c _ rfl) rfl) rfl trivial trivial ?_
  refine G.endOps ?_
  refine G.seq ?_
  refine G.region ?_
  refine G.op1 (op_loadAP (ds := [.v (.int .i64 s_0.N), .v (.int .i64 s_0.Site)]) Try.underlying24 rfl ti24 rfl (Ev.t 1 (.ptr 1001 0)) rfl) rfl ⟨rfl, trivial⟩ ⟨rfl, trivial⟩ ?_
  obtain ⟨r1, hr1, hF⟩ := bindS hF
  refine G.op1 (op_callQ (sv := .one (bB r1)) cf40 (ct_ref03_Check s_0 r1 hr1) rfl rfl (EvQL.cons (EvQ.g (Ev.t 4 (.g (.agg [.v (.int .i64 s_0.N), .v (.int .i64 s_0.Site)])))) EvQL.nil) rfl) rfl ⟨rfl, trivial⟩ trivial ?_
  refine G.op1 (op_assign (Ev.t 5 (bB r1)) rfl) rfl ⟨rfl, trivial⟩ trivial ?_
  refine G.endOps ?_
  refine G.seq ?_
  refine G.seq ?_
  refine G.region ?_
  refine G.op1 (op_move (Ev.t 3 (bB r1)) rfl) rfl ⟨rfl, trivial⟩ trivial ?_
  refine G.op1 (op_not (Ev.t 6 (bB r1)) rfl) rfl ⟨rfl, trivial⟩ trivial ?_
  refine G.endOps ?_
  refine ifS hF (fun hc2 hF => ?_) (fun hc2 hF => ?_)
  · refine G.cond rfl (fun _ => ?_) (fun hx => by rw [hc2] at hx; cases hx)
    refine G.seq ?_
    refine G.region ?_
    refine G.op1 (op_assign (Ev.c _ rfl) rfl) rfl trivial trivial ?_
    refine G.endOps ?_
    cases hF
    exact G.ret1 Try.results53 (RVar.tmp 2 _) ⟨rfl, trivial⟩ trivial
  · refine G.cond rfl (fun hx => by rw [hc2] at hx; cases hx) (fun _ => ?_)
    refine G.skip ?_
    refine G.seq ?_
    obtain ⟨r3, hr3, hF⟩ := bindS hF
    obtain ⟨r4, hr4, hF⟩ := bindS hF
    obtain ⟨s5, hs5, hF⟩ := bindS hF
    refine G.drawn (effs := [⟨[(1, .one (.ptr 1001 0))], [], [(8, .one (.ptr 1001 0))], []⟩, ⟨[(8, .one (.ptr 1001 0))], [(1001, some (.blk 24 [bI .i64 s_0.N, bI .i64 s_0.Site]))], [(9, .one (bI .i64 s_0.N))], []⟩, ⟨[(9, .one (bI .i64 s_0.N))], [], [(10, .one (bI .u64 (IntKind.wrap .u64 s_0.N)))], []⟩, ⟨[(10, .one (bI .u64 (IntKind.wrap .u64 s_0.N)))], [], [(11, .one (bS r3))], []⟩, ⟨[(1, .one (.ptr 1001 0))], [], [(12, .one (.ptr 1001 1))], []⟩, ⟨[(12, .one (.ptr 1001 1))], [(1001, some (.blk 24 [bI .i64 s_0.N, bI .i64 s_0.Site]))], [(13, .one (bI .i64 s_0.Site))], []⟩, ⟨[(13, .one (bI .i64 s_0.Site))], [], [(14, .one (bI .u64 (IntKind.wrap .u64 s_0.Site)))], []⟩, ⟨[(14, .one (bI .u64 (IntKind.wrap .u64 s_0.Site)))], [], [(15, .one (bS r4))], []⟩, ⟨[(11, .one (bS r3)), (15, .one (bS r4))], [], [(16, .one (bS s5))], []⟩, ⟨[(16, .one (bS s5))], [], [(2, .one (bS s5))], []⟩]) (deps := [[], [0], [0, 1], [0, 1, 2], [], [4], [4, 5], [0, 1, 2, 3, 4, 5, 6], [0, 1, 2, 3, 4, 5, 6, 7], [0, 1, 2, 3, 4, 5, 6, 7, 8]]) (sl' := [(2, .one (bS s5))]) (hp' := []) follows rfl rfl rfl ⟨⟨rfl, trivial⟩, trivial, ⟨rfl, trivial⟩, ⟨⟨rfl, rfl⟩, trivial⟩, ⟨rfl, trivial⟩, trivial, ⟨rfl, trivial⟩, trivial, ⟨rfl, trivial⟩, trivial, ⟨rfl, trivial⟩, ⟨⟨rfl, rfl⟩, trivial⟩, ⟨rfl, trivial⟩, trivial, ⟨rfl, trivial⟩, trivial, ⟨rfl, rfl, trivial⟩, trivial, ⟨rfl, trivial⟩, trivial, trivial⟩ ⟨OpW.plain (op_fieldP (off' := 0) Try.underlying24 rfl ti3 (by decide) rfl (Ev.t 1 (.ptr 1001 0)) rfl) rfl rfl, OpW.plain (op_load1P (c := bI .i64 s_0.N) Try.underlying3 rfl rfl (Ev.t 8 (.ptr 1001 0)) rfl) rfl rfl, OpW.plain (op_convI Try.underlying3 Try.underlying76 (Ev.t 9 (bI .i64 s_0.N)) rfl) rfl rfl, OpW.plain (op_callQ (sv := .one (bS r3)) cf51 (ct_ref01_Number (IntKind.wrap .u64 s_0.N) r3 hr3) rfl rfl (EvQL.cons (EvQ.g (Ev.t 10 (bI .u64 (IntKind.wrap .u64 s_0.N)))) EvQL.nil) rfl) rfl rfl, OpW.plain (op_fieldP (off' := 1) Try.underlying24 rfl ti3 (by decide) rfl (Ev.t 1 (.ptr 1001 0)) rfl) rfl rfl, OpW.plain (op_load1P (c := bI .i64 s_0.Site) Try.underlying3 rfl rfl (Ev.t 12 (.ptr 1001 1)) rfl) rfl rfl, OpW.plain (op_convI Try.underlying3 Try.underlying76 (Ev.t 13 (bI .i64 s_0.Site)) rfl) rfl rfl, OpW.plain (op_callQ (sv := .one (bS r4)) cf51 (ct_ref01_Number (IntKind.wrap .u64 s_0.Site) r4 hr4) rfl rfl (EvQL.cons (EvQ.g (Ev.t 14 (bI .u64 (IntKind.wrap .u64 s_0.Site)))) EvQL.nil) rfl) rfl rfl, OpW.plain (OpL.cast (op_cat (scat_ok hs5).1 (Ev.t 11 (bS r3)) (Ev.t 15 (bS r4)) rfl) (by rw [(scat_ok hs5).2])) rfl rfl, OpW.plain (op_assign (Ev.t 16 (bS s5)) rfl) rfl rfl, trivial⟩ ⟨rfl, trivial⟩ trivial rfl ?_
    cases hF
    exact G.ret1 Try.results53 (RVar.tmp 2 _) ⟨rfl, trivial⟩ trivial


set_option maxRecDepth 20000 in
set_option maxHeartbeats 2000000 in
theorem ct_ref04_Bytes (p_0 : (List Api_Dep)) (r : ByteArray) (hF : ref04_Bytes p_0 = some r) : Ct Try.prog 26 [.g (.d (.sl 3 (List.map encApi_Dep p_0)))] (.one (.d (.v (.string r)))) := by
  unfold ref04_Bytes at hF
  refine Ct.intro Try.func26 rfl Try.ntmps26 rfl rfl fun M w => ?_
  refine G.seq ?_
  refine G.region ?_
  refine G.op1 (op_assign (Ev.c _ rfl) rfl) rfl trivial trivial ?_
  refine G.endOps ?_
  refine G.seq ?_
  refine G.region ?_
  refine G.op1 (op_move (Ev.t 0 (.g (.d (.sl 3 (List.map encApi_Dep p_0))))) rfl) rfl ⟨rfl, trivial⟩ trivial ?_
  obtain ⟨r1, hr1, hF⟩ := bindS hF
  refine G.op1 (op_callQ (sv := .one (bB r1)) cf24 (ct_ref04_Check p_0 r1 hr1) rfl rfl (EvQL.cons (EvQ.g (Ev.t 6 (.g (.d (.sl 3 (List.map encApi_Dep p_0)))))) EvQL.nil) rfl) rfl ⟨rfl, trivial⟩ trivial ?_
  refine G.op1 (op_assign (Ev.t 7 (bB r1)) rfl) rfl ⟨rfl, trivial⟩ trivial ?_
  refine G.endOps ?_
  refine G.seq ?_
  refine G.seq ?_
  refine G.region ?_
  refine G.op1 (op_move (Ev.t 3 (bB r1)) rfl) rfl ⟨rfl, trivial⟩ trivial ?_
  refine G.op1 (op_not (Ev.t 8 (bB r1)) rfl) rfl ⟨rfl, trivial⟩ trivial ?_
  refine G.endOps ?_
  refine ifS hF (fun hc2 hF => ?_) (fun hc2 hF => ?_)
  · refine G.cond rfl (fun _ => ?_) (fun hx => by rw [hc2] at hx; cases hx)
    refine G.seq ?_
    refine G.region ?_
    refine G.op1 (op_assign (Ev.c _ rfl) rfl) rfl trivial trivial ?_
    refine G.endOps ?_
    cases hF
    exact G.ret1 Try.results26 (RVar.tmp 2 _) ⟨rfl, trivial⟩ trivial
  · refine G.cond rfl (fun hx => by rw [hc2] at hx; cases hx) (fun _ => ?_)
    refine G.skip ?_
    refine G.seq ?_
    refine G.region ?_
    refine G.op1 (op_move (Ev.t 0 (.g (.d (.sl 3 (List.map encApi_Dep p_0))))) rfl) rfl ⟨rfl, trivial⟩ trivial ?_
    refine G.op1 (OpL.cast (op_lenD Try.underlying22 (Ev.t 10 (.g (.d (.sl 3 (List.map encApi_Dep p_0))))) rfl) (by rw [List.length_map])) rfl ⟨rfl, trivial⟩ trivial ?_
    refine G.op1 (op_convI Try.underlying3 Try.underlying76 (Ev.t 11 (bI .i64 (p_0.length : Int))) rfl) rfl ⟨rfl, trivial⟩ trivial ?_
    obtain ⟨r3, hr3, hF⟩ := bindS hF
    refine G.op1 (op_callQ (sv := .one (bS r3)) cf51 (ct_ref01_Number (IntKind.wrap .u64 (p_0.length : Int)) r3 hr3) rfl rfl (EvQL.cons (EvQ.g (Ev.t 12 (bI .u64 (IntKind.wrap .u64 (p_0.length : Int))))) EvQL.nil) rfl) rfl ⟨rfl, trivial⟩ trivial ?_
    refine G.op1 (op_assign (Ev.t 13 (bS r3)) rfl) rfl ⟨rfl, trivial⟩ trivial ?_
    refine G.endOps ?_
    refine G.seq ?_
    refine G.seq ?_
    refine G.region ?_
    refine G.op1 (op_assign (Ev.c _ rfl) rfl) rfl trivial trivial ?_
    refine G.endOps ?_
    refine G.joinC (T := ByteArray) (fun y4 => ⟨[(4, .one (bS y4))], []⟩) (fun y4 => ref04_Bytes_k1 y4 = some r) (fun y4 hF => ?_) (fun J5 => ?_)
    · unfold ref04_Bytes_k1 at hF
      refine G.seq ?_
      refine G.region ?_
      refine G.op1 (op_move (Ev.t 4 (bS y4)) rfl) rfl ⟨rfl, trivial⟩ trivial ?_
      refine G.op1 (op_assign (Ev.t 35 (bS y4)) rfl) rfl ⟨rfl, trivial⟩ trivial ?_
      refine G.endOps ?_
      cases hF
      exact G.ret1 Try.results26 (RVar.tmp 2 _) ⟨rfl, trivial⟩ trivial
    refine G.block ?_
    refine G.keep (sl' := [(0, .one (.g (.d (.sl 3 (List.map encApi_Dep p_0))))), (4, .one (bS r3)), (5, .one (bI .i64 0))]) (hp' := []) ⟨rfl, rfl, rfl, trivial⟩ trivial rfl ?_
    refine G.loopF (fun (v6 : ByteArray × Int) => ⟨[(0, .one (.g (.d (.sl 3 (List.map encApi_Dep p_0))))), (4, .one (bS v6.1)), (5, .one (bI .i64 v6.2))], []⟩) hF rfl (fun K9 again8 v6 J7 hF => ?_)
    unfold ref04_Bytes_l2 at hF
    refine G.seq ?_
    refine G.seq ?_
    refine G.region ?_
    refine G.op1 (op_move (Ev.t 5 (bI .i64 v6.2)) rfl) rfl ⟨rfl, trivial⟩ trivial ?_
    refine G.op1 (op_move (Ev.t 0 (.g (.d (.sl 3 (List.map encApi_Dep p_0))))) rfl) rfl ⟨rfl, trivial⟩ trivial ?_
    refine G.op1 (OpL.cast (op_lenD Try.underlying22 (Ev.t 15 (.g (.d (.sl 3 (List.map encApi_Dep p_0))))) rfl) (by rw [List.length_map])) rfl ⟨rfl, trivial⟩ trivial ?_
    refine G.op1 (op_lss (Ev.t 14 (bI .i64 v6.2)) (Ev.t 16 (bI .i64 (p_0.length : Int))) rfl) rfl ⟨rfl, rfl, trivial⟩ trivial ?_
    refine G.endOps ?_
    refine ifS hF (fun hc10 hF => ?_) (fun hc10 hF => ?_)
    · refine G.cond rfl (fun _ => ?_) (fun hx => by rw [hc10] at hx; cases hx)
      refine G.skip ?_
      refine G.seq ?_
      refine G.block ?_
      obtain ⟨x11, hx11, hF⟩ := bindS hF
      obtain ⟨r12, hr12, hF⟩ := bindS hF
      obtain ⟨s13, hs13, hF⟩ := bindS hF
      obtain ⟨x14, hx14, hF⟩ := bindS hF
      obtain ⟨r15, hr15, hF⟩ := bindS hF
      obtain ⟨s16, hs16, hF⟩ := bindS hF
      refine G.drawn (effs := [⟨[(4, .one (bS v6.1))], [], [(20, .one (bS v6.1))], []⟩, ⟨[(0, .one (.g (.d (.sl 3 (List.map encApi_Dep p_0)))))], [], [(21, .one (.g (.d (.sl 3 (List.map encApi_Dep p_0)))))], []⟩, ⟨[(5, .one (bI .i64 v6.2))], [], [(22, .one (bI .i64 v6.2))], []⟩, ⟨[(21, .one (.g (.d (.sl 3 (List.map encApi_Dep p_0))))), (22, .one (bI .i64 v6.2))], [], [(23, .one (.ep [.v (.string x11.Key), .v (.int .i64 x11.Stamp.N), .v (.int .i64 x11.Stamp.Site)]))], []⟩, ⟨[(23, .one (.ep [.v (.string x11.Key), .v (.int .i64 x11.Stamp.N), .v (.int .i64 x11.Stamp.Site)]))], [], [(24, .one (.ep [.v (.string x11.Key), .v (.int .i64 x11.Stamp.N), .v (.int .i64 x11.Stamp.Site)]))], []⟩, ⟨[(24, .one (.ep [.v (.string x11.Key), .v (.int .i64 x11.Stamp.N), .v (.int .i64 x11.Stamp.Site)]))], [], [(25, .one (bS x11.Key))], []⟩, ⟨[(25, .one (bS x11.Key))], [], [(26, .one (bS r12))], []⟩, ⟨[(20, .one (bS v6.1)), (26, .one (bS r12))], [], [(27, .one (bS s13))], []⟩, ⟨[(0, .one (.g (.d (.sl 3 (List.map encApi_Dep p_0)))))], [], [(28, .one (.g (.d (.sl 3 (List.map encApi_Dep p_0)))))], []⟩, ⟨[(5, .one (bI .i64 v6.2))], [], [(29, .one (bI .i64 v6.2))], []⟩, ⟨[(28, .one (.g (.d (.sl 3 (List.map encApi_Dep p_0))))), (29, .one (bI .i64 v6.2))], [], [(30, .one (.ep [.v (.string x14.Key), .v (.int .i64 x14.Stamp.N), .v (.int .i64 x14.Stamp.Site)]))], []⟩, ⟨[(30, .one (.ep [.v (.string x14.Key), .v (.int .i64 x14.Stamp.N), .v (.int .i64 x14.Stamp.Site)]))], [], [(31, .one (.ep [.v (.int .i64 x14.Stamp.N), .v (.int .i64 x14.Stamp.Site)]))], []⟩, ⟨[(31, .one (.ep [.v (.int .i64 x14.Stamp.N), .v (.int .i64 x14.Stamp.Site)]))], [], [(32, .one (.g (.agg [.v (.int .i64 x14.Stamp.N), .v (.int .i64 x14.Stamp.Site)])))], []⟩, ⟨[(32, .one (.g (.agg [.v (.int .i64 x14.Stamp.N), .v (.int .i64 x14.Stamp.Site)])))], [], [(33, .one (bS r15))], []⟩, ⟨[(27, .one (bS s13)), (33, .one (bS r15))], [], [(34, .one (bS s16))], []⟩, ⟨[(34, .one (bS s16))], [], [(4, .one (bS s16))], []⟩]) (deps := [[], [], [], [1, 2], [1, 2, 3], [1, 2, 3, 4], [1, 2, 3, 4, 5], [0, 1, 2, 3, 4, 5, 6], [], [], [8, 9], [8, 9, 10], [8, 9, 10, 11], [1, 2, 3, 4, 5, 6, 8, 9, 10, 11, 12], [0, 1, 2, 3, 4, 5, 6, 7, 8, 9, 10, 11, 12, 13], [0, 1, 2, 3, 4, 5, 6, 7, 8, 9, 10, 11, 12, 13, 14]]) (sl' := [(0, .one (.g (.d (.sl 3 (List.map encApi_Dep p_0))))), (4, .one (bS s16)), (5, .one (bI .i64 v6.2))]) (hp' := []) follows rfl rfl rfl ⟨⟨⟨rfl, rfl⟩, trivial⟩, trivial, ⟨rfl, trivial⟩, trivial, ⟨rfl, trivial⟩, trivial, ⟨rfl, rfl, trivial⟩, trivial, ⟨rfl, trivial⟩, trivial, ⟨rfl, trivial⟩, trivial, ⟨rfl, trivial⟩, trivial, ⟨rfl, rfl, trivial⟩, trivial, ⟨rfl, trivial⟩, trivial, ⟨rfl, trivial⟩, trivial, ⟨rfl, rfl, trivial⟩, trivial, ⟨rfl, trivial⟩, trivial, ⟨rfl, trivial⟩, trivial, ⟨rfl, trivial⟩, trivial, ⟨rfl, rfl, trivial⟩, trivial, ⟨rfl, trivial⟩, trivial, trivial⟩ ⟨OpW.plain (op_move (Ev.t 4 (bS v6.1)) rfl) rfl rfl, OpW.plain (op_move (Ev.t 0 (.g (.d (.sl 3 (List.map encApi_Dep p_0))))) rfl) rfl rfl, OpW.plain (op_move (Ev.t 5 (bI .i64 v6.2)) rfl) rfl rfl, OpW.plain (op_index (cs := [.v (.string x11.Key), .v (.int .i64 x11.Stamp.N), .v (.int .i64 x11.Stamp.Site)]) Try.underlying22 ti26 (idx_ok hx11).1 (idx_get hx11 encApi_Dep) (Ev.t 21 (.g (.d (.sl 3 (List.map encApi_Dep p_0))))) (Ev.t 22 (bI .i64 v6.2)) rfl) rfl rfl, OpW.plain (op_fieldE (cs' := [.v (.string x11.Key), .v (.int .i64 x11.Stamp.N), .v (.int .i64 x11.Stamp.Site)]) Try.underlying26 rfl ti9 (by decide) rfl (Ev.t 23 (.ep [.v (.string x11.Key), .v (.int .i64 x11.Stamp.N), .v (.int .i64 x11.Stamp.Site)])) rfl) rfl rfl, OpW.plain (op_load1E (c := .v (.string x11.Key)) Try.underlying9 rfl rfl (Ev.t 24 (.ep [.v (.string x11.Key), .v (.int .i64 x11.Stamp.N), .v (.int .i64 x11.Stamp.Site)])) rfl) rfl rfl, OpW.plain (op_callQ (sv := .one (bS r12)) cf52 (ct_ref01_Text x11.Key r12 hr12) rfl rfl (EvQL.cons (EvQ.g (Ev.t 25 (bS x11.Key))) EvQL.nil) rfl) rfl rfl, OpW.plain (OpL.cast (op_cat (scat_ok hs13).1 (Ev.t 20 (bS v6.1)) (Ev.t 26 (bS r12)) rfl) (by rw [(scat_ok hs13).2])) rfl rfl, OpW.plain (op_move (Ev.t 0 (.g (.d (.sl 3 (List.map encApi_Dep p_0))))) rfl) rfl rfl, OpW.plain (op_move (Ev.t 5 (bI .i64 v6.2)) rfl) rfl rfl, OpW.plain (op_index (cs := [.v (.string x14.Key), .v (.int .i64 x14.Stamp.N), .v (.int .i64 x14.Stamp.Site)]) Try.underlying22 ti26 (idx_ok hx14).1 (idx_get hx14 encApi_Dep) (Ev.t 28 (.g (.d (.sl 3 (List.map encApi_Dep p_0))))) (Ev.t 29 (bI .i64 v6.2)) rfl) rfl rfl, OpW.plain (op_fieldE (cs' := [.v (.int .i64 x14.Stamp.N), .v (.int .i64 x14.Stamp.Site)]) Try.underlying26 rfl ti24 (by decide) rfl (Ev.t 30 (.ep [.v (.string x14.Key), .v (.int .i64 x14.Stamp.N), .v (.int .i64 x14.Stamp.Site)])) rfl) rfl rfl, OpW.plain (op_loadAE (ds := [.v (.int .i64 x14.Stamp.N), .v (.int .i64 x14.Stamp.Site)]) Try.underlying24 rfl ti24 rfl (Ev.t 31 (.ep [.v (.int .i64 x14.Stamp.N), .v (.int .i64 x14.Stamp.Site)])) rfl) rfl rfl, OpW.plain (op_callQ (sv := .one (bS r15)) cf53 (ct_ref03_Bytes x14.Stamp r15 hr15) rfl rfl (EvQL.cons (EvQ.g (Ev.t 32 (.g (.agg [.v (.int .i64 x14.Stamp.N), .v (.int .i64 x14.Stamp.Site)])))) EvQL.nil) rfl) rfl rfl, OpW.plain (OpL.cast (op_cat (scat_ok hs16).1 (Ev.t 27 (bS s13)) (Ev.t 33 (bS r15)) rfl) (by rw [(scat_ok hs16).2])) rfl rfl, OpW.plain (op_assign (Ev.t 34 (bS s16)) rfl) rfl rfl, trivial⟩ ⟨rfl, rfl, rfl, trivial⟩ trivial rfl ?_
      refine G.endBlock ?_
      refine G.region ?_
      refine G.op1 (op_move (Ev.t 5 (bI .i64 v6.2)) rfl) rfl ⟨rfl, trivial⟩ trivial ?_
      refine G.op1 (op_add (Ev.t 18 (bI .i64 v6.2)) (Ev.c _ rfl) rfl) rfl ⟨rfl, trivial⟩ trivial ?_
      refine G.op1 (op_assign (Ev.t 19 (bI .i64 (IntKind.wrap .i64 (v6.2 + 1)))) rfl) rfl ⟨rfl, trivial⟩ trivial ?_
      refine G.endOps ?_
      exact G.arr (J7 (s16, IntKind.wrap .i64 (v6.2 + 1)) hF) ⟨rfl, rfl, rfl, trivial⟩ trivial rfl
    · refine G.cond rfl (fun hx => by rw [hc10] at hx; cases hx) (fun _ => ?_)
      refine G.exit ?_
      refine GX.c ?_
      refine GX.q ?_
      refine GX.bYes ?_
      exact G.arr (J5 v6.1 hF) ⟨rfl, trivial⟩ trivial rfl


set_option maxRecDepth 20000 in
set_option maxHeartbeats 2000000 in
theorem ct_vary_Read (s_0 : ByteArray) (at_1 : Int) (r : (Int × Int × Bool)) (hF : vary_Read s_0 at_1 = some r) : Ct Try.prog 54 [.g (.d (.v (.string s_0))), .g (.d (.v (.int .i64 at_1)))] (.tup [.d (.v (.int .u64 r.1)), .d (.v (.int .i64 r.2.1)), .d (.v (.bool r.2.2))]) := by
  unfold vary_Read at hF
  refine Ct.intro Try.func54 rfl Try.ntmps54 rfl rfl fun M w => ?_
  refine G.seq ?_
  refine G.region ?_
  refine G.op1 (op_assign (Ev.c _ rfl) rfl) rfl trivial trivial ?_
  refine G.op1 (op_assign (Ev.c _ rfl) rfl) rfl trivial trivial ?_
  refine G.op1 (op_assign (Ev.c _ rfl) rfl) rfl trivial trivial ?_
  refine G.endOps ?_
  refine G.scope ?_
  refine G.seq ?_
  refine G.seq ?_
  refine G.joinC (T := Bool) (fun y1 => ⟨[(0, .one (bS s_0)), (1, .one (bI .i64 at_1)), (4, .one (bI .u64 0)), (18, .one (bB y1))], []⟩) (fun y1 => vary_Read_k1 s_0 at_1 y1 = some r) (fun y1 hF => ?_) (fun J23 => ?_)
  · unfold vary_Read_k1 at hF
    refine ifS hF (fun hc2 hF => ?_) (fun hc2 hF => ?_)
    · refine G.cond rfl (fun _ => ?_) (fun hx => by rw [hc2] at hx; cases hx)
      refine G.seq ?_
      refine G.region ?_
      refine G.op1 (op_assign (Ev.c _ rfl) rfl) rfl trivial trivial ?_
      refine G.op1 (op_assign (Ev.c _ rfl) rfl) rfl trivial trivial ?_
      refine G.op1 (op_assign (Ev.c _ rfl) rfl) rfl trivial trivial ?_
      refine G.endOps ?_
      cases hF
      exact G.ret3 Try.results54 (RVar.tmp 4 _) (RVar.tmp 5 _) (RVar.tmp 6 _) ⟨rfl, rfl, rfl, trivial⟩ trivial
    · refine G.cond rfl (fun hx => by rw [hc2] at hx; cases hx) (fun _ => ?_)
      refine G.skip ?_
      refine G.seq ?_
      refine G.label ?_
      refine G.seq ?_
      refine G.seq ?_
      refine G.region ?_
      refine G.op1 (op_move (Ev.t 1 (bI .i64 at_1)) rfl) rfl ⟨rfl, trivial⟩ trivial ?_
      refine G.op1 (op_assign (Ev.t 19 (bI .i64 at_1)) rfl) rfl ⟨rfl, trivial⟩ trivial ?_
      refine G.endOps ?_
      refine G.joinC (T := Unit) (fun y3 => ⟨[], []⟩) (fun y3 => vary_Read_k2 y3 = some r) (fun y3 hF => ?_) (fun J4 => ?_)
      · unfold vary_Read_k2 at hF
        refine G.seq ?_
        refine G.region ?_
        refine G.op1 (op_assign (Ev.c _ rfl) rfl) rfl trivial trivial ?_
        refine G.op1 (op_assign (Ev.c _ rfl) rfl) rfl trivial trivial ?_
        refine G.op1 (op_assign (Ev.c _ rfl) rfl) rfl trivial trivial ?_
        refine G.endOps ?_
        cases hF
        exact G.ret3 Try.results54 (RVar.tmp 4 _) (RVar.tmp 5 _) (RVar.tmp 6 _) ⟨rfl, rfl, rfl, trivial⟩ trivial
      refine G.block ?_
      refine G.keep (sl' := [(0, .one (bS s_0)), (1, .one (bI .i64 at_1)), (4, .one (bI .u64 0)), (7, .one (bI .i64 at_1))]) (hp' := []) ⟨rfl, rfl, rfl, rfl, trivial⟩ trivial rfl ?_
      refine G.loopF (fun (v5 : Int × Int) => ⟨[(0, .one (bS s_0)), (1, .one (bI .i64 at_1)), (4, .one (bI .u64 v5.1)), (7, .one (bI .i64 v5.2))], []⟩) hF rfl (fun K8 again7 v5 J6 hF => ?_)
      unfold vary_Read_l3 at hF
      refine G.seq ?_
      refine G.seq ?_
      refine G.region ?_
      refine G.op1 (op_move (Ev.t 7 (bI .i64 v5.2)) rfl) rfl ⟨rfl, trivial⟩ trivial ?_
      refine G.op1 (op_move (Ev.t 0 (bS s_0)) rfl) rfl ⟨rfl, trivial⟩ trivial ?_
      refine G.op1 (op_lenS Try.underlying9 (Ev.t 21 (bS s_0)) rfl) rfl ⟨rfl, trivial⟩ trivial ?_
      refine G.op1 (op_lss (Ev.t 20 (bI .i64 v5.2)) (Ev.t 22 (bI .i64 (s_0.size : Int))) rfl) rfl ⟨rfl, rfl, trivial⟩ trivial ?_
      refine G.endOps ?_
      refine ifS hF (fun hc9 hF => ?_) (fun hc9 hF => ?_)
      · refine G.cond rfl (fun _ => ?_) (fun hx => by rw [hc9] at hx; cases hx)
        refine G.skip ?_
        refine G.seq ?_
        refine G.block ?_
        refine G.seq ?_
        refine G.region ?_
        refine G.op1 (op_move (Ev.t 0 (bS s_0)) rfl) rfl ⟨rfl, trivial⟩ trivial ?_
        refine G.op1 (op_move (Ev.t 7 (bI .i64 v5.2)) rfl) rfl ⟨rfl, trivial⟩ trivial ?_
        obtain ⟨b10, hb10, hF⟩ := bindS hF
        refine G.op1 (op_indexS Try.underlying9 (sidx_ok hb10).1 (sidx_ok hb10).2 (Ev.t 26 (bS s_0)) (Ev.t 27 (bI .i64 v5.2)) rfl) rfl ⟨rfl, rfl, trivial⟩ trivial ?_
        refine G.op1 (op_convI Try.underlying5 Try.underlying76 (Ev.t 28 (bI .u8 (b10.toNat : Int))) rfl) rfl ⟨rfl, trivial⟩ trivial ?_
        refine G.op1 (op_assign (Ev.t 29 (bI .u64 (IntKind.wrap .u64 (b10.toNat : Int)))) rfl) rfl ⟨rfl, trivial⟩ trivial ?_
        refine G.endOps ?_
        refine G.seq ?_
        refine G.region ?_
        refine G.op1 (op_move (Ev.t 7 (bI .i64 v5.2)) rfl) rfl ⟨rfl, trivial⟩ trivial ?_
        refine G.op1 (op_move (Ev.t 1 (bI .i64 at_1)) rfl) rfl ⟨rfl, trivial⟩ trivial ?_
        refine G.op1 (op_sub (Ev.t 30 (bI .i64 v5.2)) (Ev.t 31 (bI .i64 at_1)) rfl) rfl ⟨rfl, rfl, trivial⟩ trivial ?_
        refine G.op1 (op_mul (Ev.c _ rfl) (Ev.t 32 (bI .i64 (IntKind.wrap .i64 (v5.2 - at_1)))) rfl) rfl ⟨rfl, trivial⟩ trivial ?_
        refine G.op1 (op_assign (Ev.t 33 (bI .i64 (IntKind.wrap .i64 (7 * (IntKind.wrap .i64 (v5.2 - at_1)))))) rfl) rfl ⟨rfl, trivial⟩ trivial ?_
        refine G.endOps ?_
        refine G.seq ?_
        refine G.region ?_
        refine G.op1 (op_move (Ev.t 8 (bI .u64 (IntKind.wrap .u64 (b10.toNat : Int)))) rfl) rfl ⟨rfl, trivial⟩ trivial ?_
        refine G.op1 (op_andNot (Ev.t 34 (bI .u64 (IntKind.wrap .u64 (b10.toNat : Int)))) (Ev.c _ rfl) rfl) rfl ⟨rfl, trivial⟩ trivial ?_
        refine G.op1 (op_assign (Ev.t 35 (bI .u64 (IntKind.wrap .u64 (BitVec.ofInt (IntKind.bits .u64) (IntKind.wrap .u64 (b10.toNat : Int)) &&& ~~~BitVec.ofInt (IntKind.bits .u64) 128).toNat))) rfl) rfl ⟨rfl, trivial⟩ trivial ?_
        refine G.endOps ?_
        refine G.seq ?_
        refine G.seq ?_
        refine G.joinC (T := Bool) (fun y11 => ⟨[(0, .one (bS s_0)), (1, .one (bI .i64 at_1)), (4, .one (bI .u64 v5.1)), (7, .one (bI .i64 v5.2)), (8, .one (bI .u64 (IntKind.wrap .u64 (b10.toNat : Int)))), (9, .one (bI .i64 (IntKind.wrap .i64 (7 * (IntKind.wrap .i64 (v5.2 - at_1)))))), (10, .one (bI .u64 (IntKind.wrap .u64 (BitVec.ofInt (IntKind.bits .u64) (IntKind.wrap .u64 (b10.toNat : Int)) &&& ~~~BitVec.ofInt (IntKind.bits .u64) 128).toNat))), (55, .one (bB y11))], []⟩) (fun y11 => vary_Read_k4 at_1 again7 v5 b10 y11 = some r) (fun y11 hF => ?_) (fun J15 => ?_)
        · unfold vary_Read_k4 at hF
          refine ifS hF (fun hc12 hF => ?_) (fun hc12 hF => ?_)
          · refine G.cond rfl (fun _ => ?_) (fun hx => by rw [hc12] at hx; cases hx)
            refine G.exit ?_
            refine GX.c ?_
            refine GX.bNo rfl ?_
            refine GX.c ?_
            refine GX.q ?_
            refine GX.bYes ?_
            exact G.arr (J4 () hF) trivial trivial rfl
          · refine G.cond rfl (fun hx => by rw [hc12] at hx; cases hx) (fun _ => ?_)
            refine G.skip ?_
            refine G.seq ?_
            refine G.region ?_
            refine G.op1 (op_move (Ev.t 4 (bI .u64 v5.1)) rfl) rfl ⟨rfl, trivial⟩ trivial ?_
            refine G.op1 (op_move (Ev.t 10 (bI .u64 (IntKind.wrap .u64 (BitVec.ofInt (IntKind.bits .u64) (IntKind.wrap .u64 (b10.toNat : Int)) &&& ~~~BitVec.ofInt (IntKind.bits .u64) 128).toNat))) rfl) rfl ⟨rfl, trivial⟩ trivial ?_
            refine G.op1 (op_move (Ev.t 9 (bI .i64 (IntKind.wrap .i64 (7 * (IntKind.wrap .i64 (v5.2 - at_1)))))) rfl) rfl ⟨rfl, trivial⟩ trivial ?_
            obtain ⟨hz13, hF⟩ := chkS hF
            refine G.op1 (op_shl (of_decide_eq_true hz13) (Ev.t 57 (bI .u64 (IntKind.wrap .u64 (BitVec.ofInt (IntKind.bits .u64) (IntKind.wrap .u64 (b10.toNat : Int)) &&& ~~~BitVec.ofInt (IntKind.bits .u64) 128).toNat))) (Ev.t 58 (bI .i64 (IntKind.wrap .i64 (7 * (IntKind.wrap .i64 (v5.2 - at_1)))))) rfl) rfl ⟨rfl, rfl, trivial⟩ trivial ?_
            refine G.op1 (op_or (Ev.t 56 (bI .u64 v5.1)) (Ev.t 59 (bI .u64 (IntKind.wrap .u64 ((IntKind.wrap .u64 (BitVec.ofInt (IntKind.bits .u64) (IntKind.wrap .u64 (b10.toNat : Int)) &&& ~~~BitVec.ofInt (IntKind.bits .u64) 128).toNat) * 2 ^ min (Int.toNat (IntKind.wrap .i64 (7 * (IntKind.wrap .i64 (v5.2 - at_1))))) (IntKind.bits .u64))))) rfl) rfl ⟨rfl, rfl, trivial⟩ trivial ?_
            refine G.op1 (op_assign (Ev.t 60 (bI .u64 (IntKind.wrap .u64 (BitVec.ofInt (IntKind.bits .u64) v5.1 ||| BitVec.ofInt (IntKind.bits .u64) (IntKind.wrap .u64 ((IntKind.wrap .u64 (BitVec.ofInt (IntKind.bits .u64) (IntKind.wrap .u64 (b10.toNat : Int)) &&& ~~~BitVec.ofInt (IntKind.bits .u64) 128).toNat) * 2 ^ min (Int.toNat (IntKind.wrap .i64 (7 * (IntKind.wrap .i64 (v5.2 - at_1))))) (IntKind.bits .u64)))).toNat))) rfl) rfl ⟨rfl, trivial⟩ trivial ?_
            refine G.endOps ?_
            refine G.seq ?_
            refine G.region ?_
            refine G.op1 (op_move (Ev.t 8 (bI .u64 (IntKind.wrap .u64 (b10.toNat : Int)))) rfl) rfl ⟨rfl, trivial⟩ trivial ?_
            refine G.op1 (op_lss (Ev.t 61 (bI .u64 (IntKind.wrap .u64 (b10.toNat : Int)))) (Ev.c _ rfl) rfl) rfl ⟨rfl, trivial⟩ trivial ?_
            refine G.endOps ?_
            refine ifS hF (fun hc14 hF => ?_) (fun hc14 hF => ?_)
            · refine G.cond rfl (fun _ => ?_) (fun hx => by rw [hc14] at hx; cases hx)
              refine G.seq ?_
              refine G.region ?_
              refine G.op1 (op_move (Ev.t 4 (bI .u64 (IntKind.wrap .u64 (BitVec.ofInt (IntKind.bits .u64) v5.1 ||| BitVec.ofInt (IntKind.bits .u64) (IntKind.wrap .u64 ((IntKind.wrap .u64 (BitVec.ofInt (IntKind.bits .u64) (IntKind.wrap .u64 (b10.toNat : Int)) &&& ~~~BitVec.ofInt (IntKind.bits .u64) 128).toNat) * 2 ^ min (Int.toNat (IntKind.wrap .i64 (7 * (IntKind.wrap .i64 (v5.2 - at_1))))) (IntKind.bits .u64)))).toNat))) rfl) rfl ⟨rfl, trivial⟩ trivial ?_
              refine G.op1 (op_move (Ev.t 7 (bI .i64 v5.2)) rfl) rfl ⟨rfl, trivial⟩ trivial ?_
              refine G.op1 (op_add (Ev.t 64 (bI .i64 v5.2)) (Ev.c _ rfl) rfl) rfl ⟨rfl, trivial⟩ trivial ?_
              refine G.op1 (op_assign (Ev.t 63 (bI .u64 (IntKind.wrap .u64 (BitVec.ofInt (IntKind.bits .u64) v5.1 ||| BitVec.ofInt (IntKind.bits .u64) (IntKind.wrap .u64 ((IntKind.wrap .u64 (BitVec.ofInt (IntKind.bits .u64) (IntKind.wrap .u64 (b10.toNat : Int)) &&& ~~~BitVec.ofInt (IntKind.bits .u64) 128).toNat) * 2 ^ min (Int.toNat (IntKind.wrap .i64 (7 * (IntKind.wrap .i64 (v5.2 - at_1))))) (IntKind.bits .u64)))).toNat))) rfl) rfl ⟨rfl, trivial⟩ trivial ?_
              refine G.op1 (op_assign (Ev.t 65 (bI .i64 (IntKind.wrap .i64 (v5.2 + 1)))) rfl) rfl ⟨rfl, trivial⟩ trivial ?_
              refine G.op1 (op_assign (Ev.c _ rfl) rfl) rfl trivial trivial ?_
              refine G.endOps ?_
              cases hF
              exact G.ret3 Try.results54 (RVar.tmp 4 _) (RVar.tmp 5 _) (RVar.tmp 6 _) ⟨rfl, rfl, rfl, trivial⟩ trivial
            · refine G.cond rfl (fun hx => by rw [hc14] at hx; cases hx) (fun _ => ?_)
              refine G.skip ?_
              refine G.endBlock ?_
              refine G.region ?_
              refine G.op1 (op_move (Ev.t 7 (bI .i64 v5.2)) rfl) rfl ⟨rfl, trivial⟩ trivial ?_
              refine G.op1 (op_add (Ev.t 24 (bI .i64 v5.2)) (Ev.c _ rfl) rfl) rfl ⟨rfl, trivial⟩ trivial ?_
              refine G.op1 (op_assign (Ev.t 25 (bI .i64 (IntKind.wrap .i64 (v5.2 + 1)))) rfl) rfl ⟨rfl, trivial⟩ trivial ?_
              refine G.endOps ?_
              exact G.arr (J6 (IntKind.wrap .u64 (BitVec.ofInt (IntKind.bits .u64) v5.1 ||| BitVec.ofInt (IntKind.bits .u64) (IntKind.wrap .u64 ((IntKind.wrap .u64 (BitVec.ofInt (IntKind.bits .u64) (IntKind.wrap .u64 (b10.toNat : Int)) &&& ~~~BitVec.ofInt (IntKind.bits .u64) 128).toNat) * 2 ^ min (Int.toNat (IntKind.wrap .i64 (7 * (IntKind.wrap .i64 (v5.2 - at_1))))) (IntKind.bits .u64)))).toNat, IntKind.wrap .i64 (v5.2 + 1)) hF) ⟨rfl, rfl, rfl, rfl, trivial⟩ trivial rfl
        refine G.region ?_
        refine G.op1 (op_move (Ev.t 9 (bI .i64 (IntKind.wrap .i64 (7 * (IntKind.wrap .i64 (v5.2 - at_1)))))) rfl) rfl ⟨rfl, trivial⟩ trivial ?_
        refine G.op1 (op_geq (Ev.t 36 (bI .i64 (IntKind.wrap .i64 (7 * (IntKind.wrap .i64 (v5.2 - at_1)))))) (Ev.c _ rfl) rfl) rfl ⟨rfl, trivial⟩ trivial ?_
        refine G.op1 (op_move (Ev.t 37 (bB (decide (64 ≤ (IntKind.wrap .i64 (7 * (IntKind.wrap .i64 (v5.2 - at_1)))))))) rfl) rfl ⟨rfl, trivial⟩ trivial ?_
        refine G.joinL (T := Bool) 8 (fun y16 => ⟨[(0, .one (bS s_0)), (1, .one (bI .i64 at_1)), (4, .one (bI .u64 v5.1)), (7, .one (bI .i64 v5.2)), (8, .one (bI .u64 (IntKind.wrap .u64 (b10.toNat : Int)))), (9, .one (bI .i64 (IntKind.wrap .i64 (7 * (IntKind.wrap .i64 (v5.2 - at_1)))))), (10, .one (bI .u64 (IntKind.wrap .u64 (BitVec.ofInt (IntKind.bits .u64) (IntKind.wrap .u64 (b10.toNat : Int)) &&& ~~~BitVec.ofInt (IntKind.bits .u64) 128).toNat))), (46, .one (bB y16))], []⟩) (fun y16 => vary_Read_k5 at_1 again7 v5 b10 y16 = some r) (fun y16 hF => ?_) (fun J19 => ?_)
        · unfold vary_Read_k5 at hF
          refine G.op1 (op_move (Ev.t 46 (bB y16)) rfl) rfl ⟨rfl, trivial⟩ trivial ?_
          refine ifS hF (fun hc17 hF => ?_) (fun hc17 hF => ?_)
          · refine G.known (t := 47) hc17 rfl ?_
            refine G.opN1 rfl rfl rfl rfl rfl ?_
            refine G.opN1 rfl rfl rfl rfl rfl ?_
            refine G.opN1 rfl rfl rfl rfl rfl ?_
            refine G.opU rfl rfl rfl rfl ?_
            refine G.opU rfl rfl rfl rfl ?_
            refine G.opU rfl rfl rfl rfl ?_
            refine G.opN1 rfl rfl rfl rfl rfl ?_
            refine G.op1 (op_pickT (Ev.t 47 (bB true)) (Ev.c _ rfl) rfl) rfl ⟨rfl, trivial⟩ trivial ?_
            refine G.endOps ?_
            exact G.arr (J15 true hF) ⟨rfl, rfl, rfl, rfl, rfl, rfl, rfl, rfl, trivial⟩ trivial rfl
          · refine G.known (t := 47) hc17 rfl ?_
            refine G.opG1 (op_move (Ev.t 8 (bI .u64 (IntKind.wrap .u64 (b10.toNat : Int)))) rfl) rfl rfl rfl ⟨rfl, trivial⟩ trivial ?_
            refine G.opG1 (op_eqI (Ev.t 48 (bI .u64 (IntKind.wrap .u64 (b10.toNat : Int)))) (Ev.c _ rfl) rfl) rfl rfl rfl ⟨rfl, trivial⟩ trivial ?_
            refine G.opG1 (op_move (Ev.t 49 (bB (decide ((IntKind.wrap .u64 (b10.toNat : Int)) = 0)))) rfl) rfl rfl rfl ⟨rfl, trivial⟩ trivial ?_
            refine ifS hF (fun hc18 hF => ?_) (fun hc18 hF => ?_)
            · refine G.known (t := 50) hc18 rfl ?_
              refine G.opG1 (op_move (Ev.t 7 (bI .i64 v5.2)) rfl) rfl rfl rfl ⟨rfl, trivial⟩ trivial ?_
              refine G.opG1 (op_move (Ev.t 1 (bI .i64 at_1)) rfl) rfl rfl rfl ⟨rfl, trivial⟩ trivial ?_
              refine G.opG1 (op_gtr (Ev.t 51 (bI .i64 v5.2)) (Ev.t 52 (bI .i64 at_1)) rfl) rfl rfl rfl ⟨rfl, rfl, trivial⟩ trivial ?_
              refine G.opG1 (op_pickT (Ev.t 50 (bB true)) (Ev.t 53 (bB (decide (at_1 < v5.2)))) rfl) rfl rfl rfl ⟨rfl, rfl, trivial⟩ trivial ?_
              refine G.op1 (op_pickF (Ev.t 47 (bB false)) (Ev.t 54 (bB (decide (at_1 < v5.2)))) rfl) rfl ⟨rfl, rfl, trivial⟩ trivial ?_
              refine G.endOps ?_
              exact G.arr (J15 (decide (at_1 < v5.2)) hF) ⟨rfl, rfl, rfl, rfl, rfl, rfl, rfl, rfl, trivial⟩ trivial rfl
            · refine G.known (t := 50) hc18 rfl ?_
              refine G.opN1 rfl rfl rfl rfl rfl ?_
              refine G.opN1 rfl rfl rfl rfl rfl ?_
              refine G.opN1 rfl rfl rfl rfl rfl ?_
              refine G.opG1 (op_pickF (Ev.t 50 (bB false)) (Ev.c _ rfl) rfl) rfl rfl rfl ⟨rfl, trivial⟩ trivial ?_
              refine G.op1 (op_pickF (Ev.t 47 (bB false)) (Ev.t 54 (bB false)) rfl) rfl ⟨rfl, rfl, trivial⟩ trivial ?_
              refine G.endOps ?_
              exact G.arr (J15 false hF) ⟨rfl, rfl, rfl, rfl, rfl, rfl, rfl, rfl, trivial⟩ trivial rfl
        refine ifS hF (fun hc20 hF => ?_) (fun hc20 hF => ?_)
        · refine G.known (t := 38) hc20 rfl ?_
          refine G.opN1 rfl rfl rfl rfl rfl ?_
          refine G.opN1 rfl rfl rfl rfl rfl ?_
          refine G.opN1 rfl rfl rfl rfl rfl ?_
          refine G.opN1 rfl rfl rfl rfl rfl ?_
          refine G.opN1 rfl rfl rfl rfl rfl ?_
          refine G.opN1 rfl rfl rfl rfl rfl ?_
          refine G.opN1 rfl rfl rfl rfl rfl ?_
          refine G.op1 (op_pickT (Ev.t 38 (bB true)) (Ev.c _ rfl) rfl) rfl ⟨rfl, trivial⟩ trivial ?_
          exact G.arr (J19 true hF) ⟨rfl, rfl, rfl, rfl, rfl, rfl, rfl, rfl, trivial⟩ trivial rfl
        · refine G.known (t := 38) hc20 rfl ?_
          refine G.opG1 (op_move (Ev.t 10 (bI .u64 (IntKind.wrap .u64 (BitVec.ofInt (IntKind.bits .u64) (IntKind.wrap .u64 (b10.toNat : Int)) &&& ~~~BitVec.ofInt (IntKind.bits .u64) 128).toNat))) rfl) rfl rfl rfl ⟨rfl, trivial⟩ trivial ?_
          refine G.opG1 (op_move (Ev.t 9 (bI .i64 (IntKind.wrap .i64 (7 * (IntKind.wrap .i64 (v5.2 - at_1)))))) rfl) rfl rfl rfl ⟨rfl, trivial⟩ trivial ?_
          obtain ⟨hz21, hF⟩ := chkS hF
          refine G.opG1 (op_shl (of_decide_eq_true hz21) (Ev.t 39 (bI .u64 (IntKind.wrap .u64 (BitVec.ofInt (IntKind.bits .u64) (IntKind.wrap .u64 (b10.toNat : Int)) &&& ~~~BitVec.ofInt (IntKind.bits .u64) 128).toNat))) (Ev.t 40 (bI .i64 (IntKind.wrap .i64 (7 * (IntKind.wrap .i64 (v5.2 - at_1)))))) rfl) rfl rfl rfl ⟨rfl, rfl, trivial⟩ trivial ?_
          refine G.opG1 (op_move (Ev.t 9 (bI .i64 (IntKind.wrap .i64 (7 * (IntKind.wrap .i64 (v5.2 - at_1)))))) rfl) rfl rfl rfl ⟨rfl, trivial⟩ trivial ?_
          obtain ⟨hz22, hF⟩ := chkS hF
          refine G.opG1 (op_shr (of_decide_eq_true hz22) (Ev.t 41 (bI .u64 (IntKind.wrap .u64 ((IntKind.wrap .u64 (BitVec.ofInt (IntKind.bits .u64) (IntKind.wrap .u64 (b10.toNat : Int)) &&& ~~~BitVec.ofInt (IntKind.bits .u64) 128).toNat) * 2 ^ min (Int.toNat (IntKind.wrap .i64 (7 * (IntKind.wrap .i64 (v5.2 - at_1))))) (IntKind.bits .u64))))) (Ev.t 42 (bI .i64 (IntKind.wrap .i64 (7 * (IntKind.wrap .i64 (v5.2 - at_1)))))) rfl) rfl rfl rfl ⟨rfl, rfl, trivial⟩ trivial ?_
          refine G.opG1 (op_move (Ev.t 10 (bI .u64 (IntKind.wrap .u64 (BitVec.ofInt (IntKind.bits .u64) (IntKind.wrap .u64 (b10.toNat : Int)) &&& ~~~BitVec.ofInt (IntKind.bits .u64) 128).toNat))) rfl) rfl rfl rfl ⟨rfl, trivial⟩ trivial ?_
          refine G.opG1 (op_neI (Ev.t 43 (bI .u64 (Int.fdiv (IntKind.wrap .u64 ((IntKind.wrap .u64 (BitVec.ofInt (IntKind.bits .u64) (IntKind.wrap .u64 (b10.toNat : Int)) &&& ~~~BitVec.ofInt (IntKind.bits .u64) 128).toNat) * 2 ^ min (Int.toNat (IntKind.wrap .i64 (7 * (IntKind.wrap .i64 (v5.2 - at_1))))) (IntKind.bits .u64))) (2 ^ min (Int.toNat (IntKind.wrap .i64 (7 * (IntKind.wrap .i64 (v5.2 - at_1))))) (IntKind.bits .u64))))) (Ev.t 44 (bI .u64 (IntKind.wrap .u64 (BitVec.ofInt (IntKind.bits .u64) (IntKind.wrap .u64 (b10.toNat : Int)) &&& ~~~BitVec.ofInt (IntKind.bits .u64) 128).toNat))) rfl) rfl rfl rfl ⟨rfl, rfl, trivial⟩ trivial ?_
          refine G.op1 (op_pickF (Ev.t 38 (bB false)) (Ev.t 45 (bB (!decide ((Int.fdiv (IntKind.wrap .u64 ((IntKind.wrap .u64 (BitVec.ofInt (IntKind.bits .u64) (IntKind.wrap .u64 (b10.toNat : Int)) &&& ~~~BitVec.ofInt (IntKind.bits .u64) 128).toNat) * 2 ^ min (Int.toNat (IntKind.wrap .i64 (7 * (IntKind.wrap .i64 (v5.2 - at_1))))) (IntKind.bits .u64))) (2 ^ min (Int.toNat (IntKind.wrap .i64 (7 * (IntKind.wrap .i64 (v5.2 - at_1))))) (IntKind.bits .u64))) = (IntKind.wrap .u64 (BitVec.ofInt (IntKind.bits .u64) (IntKind.wrap .u64 (b10.toNat : Int)) &&& ~~~BitVec.ofInt (IntKind.bits .u64) 128).toNat))))) rfl) rfl ⟨rfl, rfl, trivial⟩ trivial ?_
          exact G.arr (J19 (!decide ((Int.fdiv (IntKind.wrap .u64 ((IntKind.wrap .u64 (BitVec.ofInt (IntKind.bits .u64) (IntKind.wrap .u64 (b10.toNat : Int)) &&& ~~~BitVec.ofInt (IntKind.bits .u64) 128).toNat) * 2 ^ min (Int.toNat (IntKind.wrap .i64 (7 * (IntKind.wrap .i64 (v5.2 - at_1))))) (IntKind.bits .u64))) (2 ^ min (Int.toNat (IntKind.wrap .i64 (7 * (IntKind.wrap .i64 (v5.2 - at_1))))) (IntKind.bits .u64))) = (IntKind.wrap .u64 (BitVec.ofInt (IntKind.bits .u64) (IntKind.wrap .u64 (b10.toNat : Int)) &&& ~~~BitVec.ofInt (IntKind.bits .u64) 128).toNat))) hF) ⟨rfl, rfl, rfl, rfl, rfl, rfl, rfl, rfl, trivial⟩ trivial rfl
      · refine G.cond rfl (fun hx => by rw [hc9] at hx; cases hx) (fun _ => ?_)
        refine G.exit ?_
        refine GX.c ?_
        refine GX.q ?_
        refine GX.bYes ?_
        exact G.arr (J4 () hF) trivial trivial rfl
  refine G.region ?_
  refine G.op1 (op_move (Ev.t 1 (bI .i64 at_1)) rfl) rfl ⟨rfl, trivial⟩ trivial ?_
  refine G.op1 (op_lss (Ev.t 11 (bI .i64 at_1)) (Ev.c _ rfl) rfl) rfl ⟨rfl, trivial⟩ trivial ?_
  refine G.op1 (op_move (Ev.t 12 (bB (decide (at_1 < 0)))) rfl) rfl ⟨rfl, trivial⟩ trivial ?_
  refine ifS hF (fun hc24 hF => ?_) (fun hc24 hF => ?_)
  · refine G.known (t := 13) hc24 rfl ?_
    refine G.opN1 rfl rfl rfl rfl rfl ?_
    refine G.opN1 rfl rfl rfl rfl rfl ?_
    refine G.opN1 rfl rfl rfl rfl rfl ?_
    refine G.opN1 rfl rfl rfl rfl rfl ?_
    refine G.op1 (op_pickT (Ev.t 13 (bB true)) (Ev.c _ rfl) rfl) rfl ⟨rfl, trivial⟩ trivial ?_
    refine G.endOps ?_
    exact G.arr (J23 true hF) ⟨rfl, rfl, rfl, rfl, trivial⟩ trivial rfl
  · refine G.known (t := 13) hc24 rfl ?_
    refine G.opG1 (op_move (Ev.t 1 (bI .i64 at_1)) rfl) rfl rfl rfl ⟨rfl, trivial⟩ trivial ?_
    refine G.opG1 (op_move (Ev.t 0 (bS s_0)) rfl) rfl rfl rfl ⟨rfl, trivial⟩ trivial ?_
    refine G.opG1 (op_lenS Try.underlying9 (Ev.t 15 (bS s_0)) rfl) rfl rfl rfl ⟨rfl, trivial⟩ trivial ?_
    refine G.opG1 (op_geq (Ev.t 14 (bI .i64 at_1)) (Ev.t 16 (bI .i64 (s_0.size : Int))) rfl) rfl rfl rfl ⟨rfl, rfl, trivial⟩ trivial ?_
    refine G.op1 (op_pickF (Ev.t 13 (bB false)) (Ev.t 17 (bB (decide ((s_0.size : Int) ≤ at_1)))) rfl) rfl ⟨rfl, rfl, trivial⟩ trivial ?_
    refine G.endOps ?_
    exact G.arr (J23 (decide ((s_0.size : Int) ≤ at_1)) hF) ⟨rfl, rfl, rfl, rfl, trivial⟩ trivial rfl


set_option maxRecDepth 20000 in
set_option maxHeartbeats 2000000 in
theorem ct_vary_ReadText (s_0 : ByteArray) (at_1 : Int) (most_2 : Int) (r : (ByteArray × Int × Bool)) (hF : vary_ReadText s_0 at_1 most_2 = some r) : Ct Try.prog 55 [.g (.d (.v (.string s_0))), .g (.d (.v (.int .i64 at_1))), .g (.d (.v (.int .i64 most_2)))] (.tup [.d (.v (.string r.1)), .d (.v (.int .i64 r.2.1)), .d (.v (.bool r.2.2))]) := by
  unfold vary_ReadText at hF
  refine Ct.intro Try.func55 rfl Try.ntmps55 rfl rfl fun M w => ?_
  refine G.seq ?_
  refine G.region ?_
  refine G.op1 (op_assign (Ev.c _ rfl) rfl) rfl trivial trivial ?_
  refine G.op1 (op_assign (Ev.c _ rfl) rfl) rfl trivial trivial ?_
  refine G.op1 (op_assign (Ev.c _ rfl) rfl) rfl trivial trivial ?_
  refine G.endOps ?_
  refine G.seq ?_
  refine G.region ?_
  refine G.op1 (op_move (Ev.t 0 (bS s_0)) rfl) rfl ⟨rfl, trivial⟩ trivial ?_
  refine G.op1 (op_move (Ev.t 1 (bI .i64 at_1)) rfl) rfl ⟨rfl, trivial⟩ trivial ?_
  obtain ⟨r1, hr1, hF⟩ := bindS hF
  refine G.op1 (op_callQ (sv := .tup [bI .u64 r1.1, bI .i64 r1.2.1, bB r1.2.2]) cf54 (ct_vary_Read s_0 at_1 r1 hr1) rfl rfl (EvQL.cons (EvQ.g (Ev.t 12 (bS s_0))) (EvQL.cons (EvQ.g (Ev.t 13 (bI .i64 at_1))) EvQL.nil)) rfl) rfl ⟨rfl, rfl, trivial⟩ trivial ?_
  refine G.op1 (op_moveS (t := 14) (sv := .tup [bI .u64 r1.1, bI .i64 r1.2.1, bB r1.2.2]) rfl) rfl ⟨rfl, trivial⟩ trivial ?_
  refine G.op1 (op_extract (l := [bI .u64 r1.1, bI .i64 r1.2.1, bB r1.2.2]) (c := bI .u64 r1.1) rfl rfl) rfl ⟨rfl, trivial⟩ trivial ?_
  refine G.op1 (op_extract (l := [bI .u64 r1.1, bI .i64 r1.2.1, bB r1.2.2]) (c := bI .i64 r1.2.1) rfl rfl) rfl ⟨rfl, trivial⟩ trivial ?_
  refine G.op1 (op_extract (l := [bI .u64 r1.1, bI .i64 r1.2.1, bB r1.2.2]) (c := bB r1.2.2) rfl rfl) rfl ⟨rfl, trivial⟩ trivial ?_
  refine G.op1 (op_assign (Ev.t 15 (bI .u64 r1.1)) rfl) rfl ⟨rfl, trivial⟩ trivial ?_
  refine G.op1 (op_assign (Ev.t 16 (bI .i64 r1.2.1)) rfl) rfl ⟨rfl, trivial⟩ trivial ?_
  refine G.op1 (op_assign (Ev.t 17 (bB r1.2.2)) rfl) rfl ⟨rfl, trivial⟩ trivial ?_
  refine G.endOps ?_
  refine G.seq ?_
  refine G.seq ?_
  refine G.joinC (T := Bool) (fun y2 => ⟨[(0, .one (bS s_0)), (9, .one (bI .u64 r1.1)), (10, .one (bI .i64 r1.2.1)), (38, .one (bB y2))], []⟩) (fun y2 => vary_ReadText_k1 s_0 r1 y2 = some r) (fun y2 hF => ?_) (fun J5 => ?_)
  · unfold vary_ReadText_k1 at hF
    refine ifS hF (fun hc3 hF => ?_) (fun hc3 hF => ?_)
    · refine G.cond rfl (fun _ => ?_) (fun hx => by rw [hc3] at hx; cases hx)
      refine G.seq ?_
      refine G.region ?_
      refine G.op1 (op_assign (Ev.c _ rfl) rfl) rfl trivial trivial ?_
      refine G.op1 (op_assign (Ev.c _ rfl) rfl) rfl trivial trivial ?_
      refine G.op1 (op_assign (Ev.c _ rfl) rfl) rfl trivial trivial ?_
      refine G.endOps ?_
      cases hF
      exact G.ret3 Try.results55 (RVar.tmp 6 _) (RVar.tmp 7 _) (RVar.tmp 8 _) ⟨rfl, rfl, rfl, trivial⟩ trivial
    · refine G.cond rfl (fun hx => by rw [hc3] at hx; cases hx) (fun _ => ?_)
      refine G.skip ?_
      refine G.seq ?_
      refine G.region ?_
      refine G.op1 (op_move (Ev.t 10 (bI .i64 r1.2.1)) rfl) rfl ⟨rfl, trivial⟩ trivial ?_
      refine G.op1 (op_move (Ev.t 9 (bI .u64 r1.1)) rfl) rfl ⟨rfl, trivial⟩ trivial ?_
      refine G.op1 (op_convI Try.underlying76 Try.underlying3 (Ev.t 40 (bI .u64 r1.1)) rfl) rfl ⟨rfl, trivial⟩ trivial ?_
      refine G.op1 (op_add (Ev.t 39 (bI .i64 r1.2.1)) (Ev.t 41 (bI .i64 (IntKind.wrap .i64 r1.1))) rfl) rfl ⟨rfl, rfl, trivial⟩ trivial ?_
      refine G.op1 (op_assign (Ev.t 42 (bI .i64 (IntKind.wrap .i64 (r1.2.1 + (IntKind.wrap .i64 r1.1))))) rfl) rfl ⟨rfl, trivial⟩ trivial ?_
      refine G.endOps ?_
      refine G.seq ?_
      refine G.region ?_
      refine G.op1 (op_move (Ev.t 0 (bS s_0)) rfl) rfl ⟨rfl, trivial⟩ trivial ?_
      refine G.op1 (op_move (Ev.t 10 (bI .i64 r1.2.1)) rfl) rfl ⟨rfl, trivial⟩ trivial ?_
      refine G.op1 (op_move (Ev.t 7 (bI .i64 (IntKind.wrap .i64 (r1.2.1 + (IntKind.wrap .i64 r1.1))))) rfl) rfl ⟨rfl, trivial⟩ trivial ?_
      obtain ⟨s4, hs4, hF⟩ := bindS hF
      refine G.op1 (OpL.cast (op_sliceS (lo := some r1.2.1) (hi := some (IntKind.wrap .i64 (r1.2.1 + (IntKind.wrap .i64 r1.1)))) Try.underlying9 (ssub_ok hs4).1 (ssub_ok hs4).2.1 (ssub_ok hs4).2.2.1 (Ev.t 43 (bS s_0)) (EvO.some (Ev.t 44 (bI .i64 r1.2.1))) (EvO.some (Ev.t 45 (bI .i64 (IntKind.wrap .i64 (r1.2.1 + (IntKind.wrap .i64 r1.1)))))) rfl) (congrArg (fun s => bS s) (ssub_ok hs4).2.2.2)) rfl ⟨rfl, rfl, rfl, trivial⟩ trivial ?_
      refine G.op1 (op_move (Ev.t 7 (bI .i64 (IntKind.wrap .i64 (r1.2.1 + (IntKind.wrap .i64 r1.1))))) rfl) rfl ⟨rfl, trivial⟩ trivial ?_
      refine G.op1 (op_assign (Ev.t 46 (bS s4)) rfl) rfl ⟨rfl, trivial⟩ trivial ?_
      refine G.op1 (op_assign (Ev.t 47 (bI .i64 (IntKind.wrap .i64 (r1.2.1 + (IntKind.wrap .i64 r1.1))))) rfl) rfl ⟨rfl, trivial⟩ trivial ?_
      refine G.op1 (op_assign (Ev.c _ rfl) rfl) rfl trivial trivial ?_
      refine G.endOps ?_
      cases hF
      exact G.ret3 Try.results55 (RVar.tmp 6 _) (RVar.tmp 7 _) (RVar.tmp 8 _) ⟨rfl, rfl, rfl, trivial⟩ trivial
  refine G.region ?_
  refine G.op1 (op_move (Ev.t 8 (bB r1.2.2)) rfl) rfl ⟨rfl, trivial⟩ trivial ?_
  refine G.op1 (op_not (Ev.t 18 (bB r1.2.2)) rfl) rfl ⟨rfl, trivial⟩ trivial ?_
  refine G.op1 (op_move (Ev.t 19 (bB (!r1.2.2))) rfl) rfl ⟨rfl, trivial⟩ trivial ?_
  refine G.joinL (T := Bool) 3 (fun y6 => ⟨[(0, .one (bS s_0)), (2, .one (bI .i64 most_2)), (9, .one (bI .u64 r1.1)), (10, .one (bI .i64 r1.2.1)), (23, .one (bB y6))], []⟩) (fun y6 => vary_ReadText_k2 s_0 most_2 r1 y6 = some r) (fun y6 hF => ?_) (fun J11 => ?_)
  · unfold vary_ReadText_k2 at hF
    refine G.op1 (op_move (Ev.t 23 (bB y6)) rfl) rfl ⟨rfl, trivial⟩ trivial ?_
    refine G.joinL (T := Bool) 5 (fun y7 => ⟨[(0, .one (bS s_0)), (9, .one (bI .u64 r1.1)), (10, .one (bI .i64 r1.2.1)), (29, .one (bB y7))], []⟩) (fun y7 => vary_ReadText_k3 s_0 r1 y7 = some r) (fun y7 hF => ?_) (fun J9 => ?_)
    · unfold vary_ReadText_k3 at hF
      refine G.op1 (op_move (Ev.t 29 (bB y7)) rfl) rfl ⟨rfl, trivial⟩ trivial ?_
      refine ifS hF (fun hc8 hF => ?_) (fun hc8 hF => ?_)
      · refine G.known (t := 30) hc8 rfl ?_
        refine G.opN1 rfl rfl rfl rfl rfl ?_
        refine G.opN1 rfl rfl rfl rfl rfl ?_
        refine G.opN1 rfl rfl rfl rfl rfl ?_
        refine G.opN1 rfl rfl rfl rfl rfl ?_
        refine G.opN1 rfl rfl rfl rfl rfl ?_
        refine G.opN1 rfl rfl rfl rfl rfl ?_
        refine G.opN1 rfl rfl rfl rfl rfl ?_
        refine G.op1 (op_pickT (Ev.t 30 (bB true)) (Ev.c _ rfl) rfl) rfl ⟨rfl, trivial⟩ trivial ?_
        refine G.endOps ?_
        exact G.arr (J5 true hF) ⟨rfl, rfl, rfl, rfl, trivial⟩ trivial rfl
      · refine G.known (t := 30) hc8 rfl ?_
        refine G.opG1 (op_move (Ev.t 9 (bI .u64 r1.1)) rfl) rfl rfl rfl ⟨rfl, trivial⟩ trivial ?_
        refine G.opG1 (op_move (Ev.t 0 (bS s_0)) rfl) rfl rfl rfl ⟨rfl, trivial⟩ trivial ?_
        refine G.opG1 (op_lenS Try.underlying9 (Ev.t 32 (bS s_0)) rfl) rfl rfl rfl ⟨rfl, trivial⟩ trivial ?_
        refine G.opG1 (op_move (Ev.t 10 (bI .i64 r1.2.1)) rfl) rfl rfl rfl ⟨rfl, trivial⟩ trivial ?_
        refine G.opG1 (op_sub (Ev.t 33 (bI .i64 (s_0.size : Int))) (Ev.t 34 (bI .i64 r1.2.1)) rfl) rfl rfl rfl ⟨rfl, rfl, trivial⟩ trivial ?_
        refine G.opG1 (op_convI Try.underlying3 Try.underlying76 (Ev.t 35 (bI .i64 (IntKind.wrap .i64 ((s_0.size : Int) - r1.2.1)))) rfl) rfl rfl rfl ⟨rfl, trivial⟩ trivial ?_
        refine G.opG1 (op_gtr (Ev.t 31 (bI .u64 r1.1)) (Ev.t 36 (bI .u64 (IntKind.wrap .u64 (IntKind.wrap .i64 ((s_0.size : Int) - r1.2.1))))) rfl) rfl rfl rfl ⟨rfl, rfl, trivial⟩ trivial ?_
        refine G.op1 (op_pickF (Ev.t 30 (bB false)) (Ev.t 37 (bB (decide ((IntKind.wrap .u64 (IntKind.wrap .i64 ((s_0.size : Int) - r1.2.1))) < r1.1)))) rfl) rfl ⟨rfl, rfl, trivial⟩ trivial ?_
        refine G.endOps ?_
        exact G.arr (J5 (decide ((IntKind.wrap .u64 (IntKind.wrap .i64 ((s_0.size : Int) - r1.2.1))) < r1.1)) hF) ⟨rfl, rfl, rfl, rfl, trivial⟩ trivial rfl
    refine ifS hF (fun hc10 hF => ?_) (fun hc10 hF => ?_)
    · refine G.known (t := 24) hc10 rfl ?_
      refine G.opN1 rfl rfl rfl rfl rfl ?_
      refine G.opN1 rfl rfl rfl rfl rfl ?_
      refine G.opN1 rfl rfl rfl rfl rfl ?_
      refine G.opN1 rfl rfl rfl rfl rfl ?_
      refine G.op1 (op_pickT (Ev.t 24 (bB true)) (Ev.c _ rfl) rfl) rfl ⟨rfl, trivial⟩ trivial ?_
      exact G.arr (J9 true hF) ⟨rfl, rfl, rfl, rfl, trivial⟩ trivial rfl
    · refine G.known (t := 24) hc10 rfl ?_
      refine G.opG1 (op_move (Ev.t 9 (bI .u64 r1.1)) rfl) rfl rfl rfl ⟨rfl, trivial⟩ trivial ?_
      refine G.opG1 (op_move (Ev.t 2 (bI .i64 most_2)) rfl) rfl rfl rfl ⟨rfl, trivial⟩ trivial ?_
      refine G.opG1 (op_convI Try.underlying3 Try.underlying76 (Ev.t 26 (bI .i64 most_2)) rfl) rfl rfl rfl ⟨rfl, trivial⟩ trivial ?_
      refine G.opG1 (op_gtr (Ev.t 25 (bI .u64 r1.1)) (Ev.t 27 (bI .u64 (IntKind.wrap .u64 most_2))) rfl) rfl rfl rfl ⟨rfl, rfl, trivial⟩ trivial ?_
      refine G.op1 (op_pickF (Ev.t 24 (bB false)) (Ev.t 28 (bB (decide ((IntKind.wrap .u64 most_2) < r1.1)))) rfl) rfl ⟨rfl, rfl, trivial⟩ trivial ?_
      exact G.arr (J9 (decide ((IntKind.wrap .u64 most_2) < r1.1)) hF) ⟨rfl, rfl, rfl, rfl, trivial⟩ trivial rfl
  refine ifS hF (fun hc12 hF => ?_) (fun hc12 hF => ?_)
  · refine G.known (t := 20) hc12 rfl ?_
    refine G.opN1 rfl rfl rfl rfl rfl ?_
    refine G.opN1 rfl rfl rfl rfl rfl ?_
    refine G.op1 (op_pickT (Ev.t 20 (bB true)) (Ev.c _ rfl) rfl) rfl ⟨rfl, trivial⟩ trivial ?_
    exact G.arr (J11 true hF) ⟨rfl, rfl, rfl, rfl, rfl, trivial⟩ trivial rfl
  · refine G.known (t := 20) hc12 rfl ?_
    refine G.opG1 (op_move (Ev.t 2 (bI .i64 most_2)) rfl) rfl rfl rfl ⟨rfl, trivial⟩ trivial ?_
    refine G.opG1 (op_lss (Ev.t 21 (bI .i64 most_2)) (Ev.c _ rfl) rfl) rfl rfl rfl ⟨rfl, trivial⟩ trivial ?_
    refine G.op1 (op_pickF (Ev.t 20 (bB false)) (Ev.t 22 (bB (decide (most_2 < 0)))) rfl) rfl ⟨rfl, rfl, trivial⟩ trivial ?_
    exact G.arr (J11 (decide (most_2 < 0)) hF) ⟨rfl, rfl, rfl, rfl, rfl, trivial⟩ trivial rfl


set_option maxRecDepth 20000 in
set_option maxHeartbeats 2000000 in
theorem ct_stamp_Read (s_0 : ByteArray) (at_1 : Int) (r : (Api_Stamp × Int × Bool)) (hF : stamp_Read s_0 at_1 = some r) : Ct Try.prog 56 [.g (.d (.v (.string s_0))), .g (.d (.v (.int .i64 at_1)))] (.tup [.agg (encApi_Stamp r.1), .d (.v (.int .i64 r.2.1)), .d (.v (.bool r.2.2))]) := by
  unfold stamp_Read at hF
  refine Ct.intro Try.func56 rfl Try.ntmps56 rfl rfl fun M w => ?_
  refine G.seq ?_
  refine G.region ?_
  refine G.op2 (op_alloc (k := 1004) (cs := [bI .i64 0, bI .i64 0]) ti24 ⟨.v _ rfl, .v _ rfl, trivial⟩ rfl) rfl trivial ⟨rfl, trivial⟩ ?_
  refine G.op1 (op_assign (Ev.c _ rfl) rfl) rfl trivial trivial ?_
  refine G.op1 (op_assign (Ev.c _ rfl) rfl) rfl trivial trivial ?_
  refine G.endOps ?_
  refine G.seq ?_
  refine G.region ?_
  refine G.op1 (op_move (Ev.t 0 (bS s_0)) rfl) rfl ⟨rfl, trivial⟩ trivial ?_
  refine G.op1 (op_move (Ev.t 1 (bI .i64 at_1)) rfl) rfl ⟨rfl, trivial⟩ trivial ?_
  obtain ⟨r1, hr1, hF⟩ := bindS hF
  refine G.op1 (op_callQ (sv := .tup [bI .u64 r1.1, bI .i64 r1.2.1, bB r1.2.2]) cf54 (ct_vary_Read s_0 at_1 r1 hr1) rfl rfl (EvQL.cons (EvQ.g (Ev.t 13 (bS s_0))) (EvQL.cons (EvQ.g (Ev.t 14 (bI .i64 at_1))) EvQL.nil)) rfl) rfl ⟨rfl, rfl, trivial⟩ trivial ?_
  refine G.op1 (op_moveS (t := 15) (sv := .tup [bI .u64 r1.1, bI .i64 r1.2.1, bB r1.2.2]) rfl) rfl ⟨rfl, trivial⟩ trivial ?_
  refine G.op1 (op_extract (l := [bI .u64 r1.1, bI .i64 r1.2.1, bB r1.2.2]) (c := bI .u64 r1.1) rfl rfl) rfl ⟨rfl, trivial⟩ trivial ?_
  refine G.op1 (op_extract (l := [bI .u64 r1.1, bI .i64 r1.2.1, bB r1.2.2]) (c := bI .i64 r1.2.1) rfl rfl) rfl ⟨rfl, trivial⟩ trivial ?_
  refine G.op1 (op_extract (l := [bI .u64 r1.1, bI .i64 r1.2.1, bB r1.2.2]) (c := bB r1.2.2) rfl rfl) rfl ⟨rfl, trivial⟩ trivial ?_
  refine G.op1 (op_assign (Ev.t 16 (bI .u64 r1.1)) rfl) rfl ⟨rfl, trivial⟩ trivial ?_
  refine G.op1 (op_assign (Ev.t 17 (bI .i64 r1.2.1)) rfl) rfl ⟨rfl, trivial⟩ trivial ?_
  refine G.op1 (op_assign (Ev.t 18 (bB r1.2.2)) rfl) rfl ⟨rfl, trivial⟩ trivial ?_
  refine G.endOps ?_
  refine G.seq ?_
  refine G.region ?_
  refine G.op1 (op_move (Ev.t 0 (bS s_0)) rfl) rfl ⟨rfl, trivial⟩ trivial ?_
  refine G.op1 (op_move (Ev.t 8 (bI .i64 r1.2.1)) rfl) rfl ⟨rfl, trivial⟩ trivial ?_
  obtain ⟨r2, hr2, hF⟩ := bindS hF
  refine G.op1 (op_callQ (sv := .tup [bI .u64 r2.1, bI .i64 r2.2.1, bB r2.2.2]) cf54 (ct_vary_Read s_0 r1.2.1 r2 hr2) rfl rfl (EvQL.cons (EvQ.g (Ev.t 20 (bS s_0))) (EvQL.cons (EvQ.g (Ev.t 21 (bI .i64 r1.2.1))) EvQL.nil)) rfl) rfl ⟨rfl, rfl, trivial⟩ trivial ?_
  refine G.op1 (op_moveS (t := 22) (sv := .tup [bI .u64 r2.1, bI .i64 r2.2.1, bB r2.2.2]) rfl) rfl ⟨rfl, trivial⟩ trivial ?_
  refine G.op1 (op_extract (l := [bI .u64 r2.1, bI .i64 r2.2.1, bB r2.2.2]) (c := bI .u64 r2.1) rfl rfl) rfl ⟨rfl, trivial⟩ trivial ?_
  refine G.op1 (op_extract (l := [bI .u64 r2.1, bI .i64 r2.2.1, bB r2.2.2]) (c := bI .i64 r2.2.1) rfl rfl) rfl ⟨rfl, trivial⟩ trivial ?_
  refine G.op1 (op_extract (l := [bI .u64 r2.1, bI .i64 r2.2.1, bB r2.2.2]) (c := bB r2.2.2) rfl rfl) rfl ⟨rfl, trivial⟩ trivial ?_
  refine G.op1 (op_assign (Ev.t 23 (bI .u64 r2.1)) rfl) rfl ⟨rfl, trivial⟩ trivial ?_
  refine G.op1 (op_assign (Ev.t 24 (bI .i64 r2.2.1)) rfl) rfl ⟨rfl, trivial⟩ trivial ?_
  refine G.op1 (op_assign (Ev.t 25 (bB r2.2.2)) rfl) rfl ⟨rfl, trivial⟩ trivial ?_
  refine G.endOps ?_
  refine G.seq ?_
  refine G.seq ?_
  refine G.joinC (T := Bool) (fun y3 => ⟨[(4, .one (.ptr 1004 0)), (5, .one (bI .i64 r2.2.1)), (7, .one (bI .u64 r1.1)), (10, .one (bI .u64 r2.1)), (39, .one (bB y3))], [(1004, some (.blk 24 [bI .i64 0, bI .i64 0]))]⟩) (fun y3 => stamp_Read_k1 r1 r2 y3 = some r) (fun y3 hF => ?_) (fun J7 => ?_)
  · unfold stamp_Read_k1 at hF
    refine ifS hF (fun hc4 hF => ?_) (fun hc4 hF => ?_)
    · refine G.cond rfl (fun _ => ?_) (fun hx => by rw [hc4] at hx; cases hx)
      refine G.seq ?_
      refine G.region ?_
      refine G.op1 (op_build (zs := [.v (.int .i64 0), .v (.int .i64 0)]) (ds := [.v (.int .i64 0), .v (.int .i64 0)]) Try.underlying24 ti24 (pl24 _ Try.underlying24) ⟨.v _ rfl, .v _ rfl, trivial⟩ EvP.nil rfl rfl) rfl trivial trivial ?_
      refine G.op3 (op_storeA (cs' := [bI .i64 0, bI .i64 0]) ti24 rfl rfl (Ev.t 4 (.ptr 1004 0)) (Ev.t 40 (.g (.agg [.v (.int .i64 0), .v (.int .i64 0)])))) rfl ⟨rfl, rfl, trivial⟩ ⟨rfl, trivial⟩ ?_
      refine G.op1 (op_assign (Ev.c _ rfl) rfl) rfl trivial trivial ?_
      refine G.op1 (op_assign (Ev.c _ rfl) rfl) rfl trivial trivial ?_
      refine G.endOps ?_
      cases hF
      exact G.ret3 Try.results56 (RVar.cellA (ds := [.v (.int .i64 0), .v (.int .i64 0)]) Try.underlying24 rfl ti24 rfl) (RVar.tmp 5 _) (RVar.tmp 6 _) ⟨rfl, rfl, rfl, trivial⟩ ⟨rfl, trivial⟩
    · refine G.cond rfl (fun hx => by rw [hc4] at hx; cases hx) (fun _ => ?_)
      refine G.skip ?_
      refine G.seq ?_
      refine G.region ?_
      refine G.op1 (op_move (Ev.t 7 (bI .u64 r1.1)) rfl) rfl ⟨rfl, trivial⟩ trivial ?_
      refine G.op1 (op_convI Try.underlying76 Try.underlying3 (Ev.t 41 (bI .u64 r1.1)) rfl) rfl ⟨rfl, trivial⟩ trivial ?_
      refine G.op1 (op_move (Ev.t 10 (bI .u64 r2.1)) rfl) rfl ⟨rfl, trivial⟩ trivial ?_
      refine G.op1 (op_convI Try.underlying76 Try.underlying3 (Ev.t 43 (bI .u64 r2.1)) rfl) rfl ⟨rfl, trivial⟩ trivial ?_
      refine G.op1 (op_build (zs := [.v (.int .i64 0), .v (.int .i64 0)]) (ds := [.v (.int .i64 (IntKind.wrap .i64 r1.1)), .v (.int .i64 (IntKind.wrap .i64 r2.1))]) Try.underlying24 ti24 (pl24 _ Try.underlying24) ⟨.v _ rfl, .v _ rfl, trivial⟩ (EvP.cons (Ev.t 42 (bI .i64 (IntKind.wrap .i64 r1.1))) (EvP.cons (Ev.t 44 (bI .i64 (IntKind.wrap .i64 r2.1))) EvP.nil)) rfl rfl) rfl ⟨rfl, rfl, trivial⟩ trivial ?_
      refine G.op3 (op_storeA (cs' := [bI .i64 (IntKind.wrap .i64 r1.1), bI .i64 (IntKind.wrap .i64 r2.1)]) ti24 rfl rfl (Ev.t 4 (.ptr 1004 0)) (Ev.t 45 (.g (.agg [.v (.int .i64 (IntKind.wrap .i64 r1.1)), .v (.int .i64 (IntKind.wrap .i64 r2.1))])))) rfl ⟨rfl, rfl, trivial⟩ ⟨rfl, trivial⟩ ?_
      refine G.endOps ?_
      refine G.seq ?_
      refine G.seq ?_
      refine G.region ?_
      refine G.op1 (op_loadAP (ds := [.v (.int .i64 (IntKind.wrap .i64 r1.1)), .v (.int .i64 (IntKind.wrap .i64 r2.1))]) Try.underlying24 rfl ti24 rfl (Ev.t 4 (.ptr 1004 0)) rfl) rfl ⟨rfl, trivial⟩ ⟨rfl, trivial⟩ ?_
      obtain ⟨r5, hr5, hF⟩ := bindS hF
      refine G.op1 (op_callQ (sv := .one (bB r5)) cf64 (ct_stamp_Check (Api_Stamp.mk (IntKind.wrap .i64 r1.1) (IntKind.wrap .i64 r2.1)) r5 hr5) rfl rfl (EvQL.cons (EvQ.g (Ev.t 46 (.g (.agg [.v (.int .i64 (IntKind.wrap .i64 r1.1)), .v (.int .i64 (IntKind.wrap .i64 r2.1))])))) EvQL.nil) rfl) rfl ⟨rfl, trivial⟩ trivial ?_
      refine G.op1 (op_not (Ev.t 47 (bB r5)) rfl) rfl ⟨rfl, trivial⟩ trivial ?_
      refine G.endOps ?_
      refine ifS hF (fun hc6 hF => ?_) (fun hc6 hF => ?_)
      · refine G.cond rfl (fun _ => ?_) (fun hx => by rw [hc6] at hx; cases hx)
        refine G.seq ?_
        refine G.region ?_
        refine G.op1 (op_build (zs := [.v (.int .i64 0), .v (.int .i64 0)]) (ds := [.v (.int .i64 0), .v (.int .i64 0)]) Try.underlying24 ti24 (pl24 _ Try.underlying24) ⟨.v _ rfl, .v _ rfl, trivial⟩ EvP.nil rfl rfl) rfl trivial trivial ?_
        refine G.op3 (op_storeA (cs' := [bI .i64 0, bI .i64 0]) ti24 rfl rfl (Ev.t 4 (.ptr 1004 0)) (Ev.t 49 (.g (.agg [.v (.int .i64 0), .v (.int .i64 0)])))) rfl ⟨rfl, rfl, trivial⟩ ⟨rfl, trivial⟩ ?_
        refine G.op1 (op_assign (Ev.c _ rfl) rfl) rfl trivial trivial ?_
        refine G.op1 (op_assign (Ev.c _ rfl) rfl) rfl trivial trivial ?_
        refine G.endOps ?_
        cases hF
        exact G.ret3 Try.results56 (RVar.cellA (ds := [.v (.int .i64 0), .v (.int .i64 0)]) Try.underlying24 rfl ti24 rfl) (RVar.tmp 5 _) (RVar.tmp 6 _) ⟨rfl, rfl, rfl, trivial⟩ ⟨rfl, trivial⟩
      · refine G.cond rfl (fun hx => by rw [hc6] at hx; cases hx) (fun _ => ?_)
        refine G.skip ?_
        refine G.seq ?_
        refine G.region ?_
        refine G.op1 (op_loadAP (ds := [.v (.int .i64 (IntKind.wrap .i64 r1.1)), .v (.int .i64 (IntKind.wrap .i64 r2.1))]) Try.underlying24 rfl ti24 rfl (Ev.t 4 (.ptr 1004 0)) rfl) rfl ⟨rfl, trivial⟩ ⟨rfl, trivial⟩ ?_
        refine G.op1 (op_move (Ev.t 5 (bI .i64 r2.2.1)) rfl) rfl ⟨rfl, trivial⟩ trivial ?_
        refine G.op3 (op_storeA (cs' := [bI .i64 (IntKind.wrap .i64 r1.1), bI .i64 (IntKind.wrap .i64 r2.1)]) ti24 rfl rfl (Ev.t 4 (.ptr 1004 0)) (Ev.t 50 (.g (.agg [.v (.int .i64 (IntKind.wrap .i64 r1.1)), .v (.int .i64 (IntKind.wrap .i64 r2.1))])))) rfl ⟨rfl, rfl, trivial⟩ ⟨rfl, trivial⟩ ?_
        refine G.op1 (op_assign (Ev.t 51 (bI .i64 r2.2.1)) rfl) rfl ⟨rfl, trivial⟩ trivial ?_
        refine G.op1 (op_assign (Ev.c _ rfl) rfl) rfl trivial trivial ?_
        refine G.endOps ?_
        cases hF
        exact G.ret3 Try.results56 (RVar.cellA (ds := [.v (.int .i64 (IntKind.wrap .i64 r1.1)), .v (.int .i64 (IntKind.wrap .i64 r2.1))]) Try.underlying24 rfl ti24 rfl) (RVar.tmp 5 _) (RVar.tmp 6 _) ⟨rfl, rfl, rfl, trivial⟩ ⟨rfl, trivial⟩
  refine G.region ?_
  refine G.op1 (op_move (Ev.t 9 (bB r1.2.2)) rfl) rfl ⟨rfl, trivial⟩ trivial ?_
  refine G.op1 (op_not (Ev.t 26 (bB r1.2.2)) rfl) rfl ⟨rfl, trivial⟩ trivial ?_
  refine G.op1 (op_move (Ev.t 27 (bB (!r1.2.2))) rfl) rfl ⟨rfl, trivial⟩ trivial ?_
  refine G.joinL (T := Bool) 3 (fun y8 => ⟨[(4, .one (.ptr 1004 0)), (5, .one (bI .i64 r2.2.1)), (7, .one (bI .u64 r1.1)), (10, .one (bI .u64 r2.1)), (31, .one (bB y8))], [(1004, some (.blk 24 [bI .i64 0, bI .i64 0]))]⟩) (fun y8 => stamp_Read_k2 r1 r2 y8 = some r) (fun y8 hF => ?_) (fun J11 => ?_)
  · unfold stamp_Read_k2 at hF
    refine G.op1 (op_move (Ev.t 31 (bB y8)) rfl) rfl ⟨rfl, trivial⟩ trivial ?_
    refine ifS hF (fun hc9 hF => ?_) (fun hc9 hF => ?_)
    · refine G.known (t := 32) hc9 rfl ?_
      refine G.opN1 rfl rfl rfl rfl rfl ?_
      refine G.opN1 rfl rfl rfl rfl rfl ?_
      refine G.op1 (op_pickT (Ev.t 32 (bB true)) (Ev.c _ rfl) rfl) rfl ⟨rfl, trivial⟩ trivial ?_
      refine G.op1 (op_move (Ev.t 35 (bB true)) rfl) rfl ⟨rfl, trivial⟩ trivial ?_
      refine G.opN1 rfl rfl rfl rfl rfl ?_
      refine G.opN1 rfl rfl rfl rfl rfl ?_
      refine G.op1 (op_pickT (Ev.t 36 (bB true)) (Ev.c _ rfl) rfl) rfl ⟨rfl, trivial⟩ trivial ?_
      refine G.endOps ?_
      exact G.arr (J7 true hF) ⟨rfl, rfl, rfl, rfl, rfl, trivial⟩ ⟨rfl, trivial⟩ rfl
    · refine G.known (t := 32) hc9 rfl ?_
      refine G.opG1 (op_move (Ev.t 7 (bI .u64 r1.1)) rfl) rfl rfl rfl ⟨rfl, trivial⟩ trivial ?_
      refine G.opG1 (op_gtr (Ev.t 33 (bI .u64 r1.1)) (Ev.c _ rfl) rfl) rfl rfl rfl ⟨rfl, trivial⟩ trivial ?_
      refine G.op1 (op_pickF (Ev.t 32 (bB false)) (Ev.t 34 (bB (decide (1099511627776 < r1.1)))) rfl) rfl ⟨rfl, rfl, trivial⟩ trivial ?_
      refine G.op1 (op_move (Ev.t 35 (bB (decide (1099511627776 < r1.1)))) rfl) rfl ⟨rfl, trivial⟩ trivial ?_
      refine ifS hF (fun hc10 hF => ?_) (fun hc10 hF => ?_)
      · refine G.known (t := 36) hc10 rfl ?_
        refine G.opN1 rfl rfl rfl rfl rfl ?_
        refine G.opN1 rfl rfl rfl rfl rfl ?_
        refine G.op1 (op_pickT (Ev.t 36 (bB true)) (Ev.c _ rfl) rfl) rfl ⟨rfl, trivial⟩ trivial ?_
        refine G.endOps ?_
        exact G.arr (J7 true hF) ⟨rfl, rfl, rfl, rfl, rfl, trivial⟩ ⟨rfl, trivial⟩ rfl
      · refine G.known (t := 36) hc10 rfl ?_
        refine G.opG1 (op_move (Ev.t 10 (bI .u64 r2.1)) rfl) rfl rfl rfl ⟨rfl, trivial⟩ trivial ?_
        refine G.opG1 (op_geq (Ev.t 37 (bI .u64 r2.1)) (Ev.c _ rfl) rfl) rfl rfl rfl ⟨rfl, trivial⟩ trivial ?_
        refine G.op1 (op_pickF (Ev.t 36 (bB false)) (Ev.t 38 (bB (decide (6 ≤ r2.1)))) rfl) rfl ⟨rfl, rfl, trivial⟩ trivial ?_
        refine G.endOps ?_
        exact G.arr (J7 (decide (6 ≤ r2.1)) hF) ⟨rfl, rfl, rfl, rfl, rfl, trivial⟩ ⟨rfl, trivial⟩ rfl
  refine ifS hF (fun hc12 hF => ?_) (fun hc12 hF => ?_)
  · refine G.known (t := 28) hc12 rfl ?_
    refine G.opN1 rfl rfl rfl rfl rfl ?_
    refine G.opN1 rfl rfl rfl rfl rfl ?_
    refine G.op1 (op_pickT (Ev.t 28 (bB true)) (Ev.c _ rfl) rfl) rfl ⟨rfl, trivial⟩ trivial ?_
    exact G.arr (J11 true hF) ⟨rfl, rfl, rfl, rfl, rfl, trivial⟩ ⟨rfl, trivial⟩ rfl
  · refine G.known (t := 28) hc12 rfl ?_
    refine G.opG1 (op_move (Ev.t 11 (bB r2.2.2)) rfl) rfl rfl rfl ⟨rfl, trivial⟩ trivial ?_
    refine G.opG1 (op_not (Ev.t 29 (bB r2.2.2)) rfl) rfl rfl rfl ⟨rfl, trivial⟩ trivial ?_
    refine G.op1 (op_pickF (Ev.t 28 (bB false)) (Ev.t 30 (bB (!r2.2.2))) rfl) rfl ⟨rfl, rfl, trivial⟩ trivial ?_
    exact G.arr (J11 (!r2.2.2) hF) ⟨rfl, rfl, rfl, rfl, rfl, trivial⟩ ⟨rfl, trivial⟩ rfl


set_option maxRecDepth 20000 in
set_option maxHeartbeats 2000000 in
theorem ct_past_Read (s_0 : ByteArray) (at_1 : Int) (r : ((List Api_Dep) × Int × Bool)) (hF : past_Read s_0 at_1 = some r) : Ct Try.prog 27 [.g (.d (.v (.string s_0))), .g (.d (.v (.int .i64 at_1)))] (.tup [.d (.sl 3 (List.map encApi_Dep r.1)), .d (.v (.int .i64 r.2.1)), .d (.v (.bool r.2.2))]) := by
  unfold past_Read at hF
  refine Ct.intro Try.func27 rfl Try.ntmps27 rfl rfl fun M w => ?_
  refine G.seq ?_
  refine G.region ?_
  refine G.op2 (op_assignRow (E := 26) (size := 3) (k := 2004) (ex := false) rfl rfl) rfl trivial ⟨rfl, trivial⟩ ?_
  refine G.op1 (op_assign (Ev.c _ rfl) rfl) rfl trivial trivial ?_
  refine G.op1 (op_assign (Ev.c _ rfl) rfl) rfl trivial trivial ?_
  refine G.endOps ?_
  refine G.scope ?_
  refine G.seq ?_
  refine G.region ?_
  refine G.op1 (op_move (Ev.t 0 (bS s_0)) rfl) rfl ⟨rfl, trivial⟩ trivial ?_
  refine G.op1 (op_move (Ev.t 1 (bI .i64 at_1)) rfl) rfl ⟨rfl, trivial⟩ trivial ?_
  obtain ⟨r1, hr1, hF⟩ := bindS hF
  refine G.op1 (op_callQ (sv := .tup [bI .u64 r1.1, bI .i64 r1.2.1, bB r1.2.2]) cf54 (ct_vary_Read s_0 at_1 r1 hr1) rfl rfl (EvQL.cons (EvQ.g (Ev.t 10 (bS s_0))) (EvQL.cons (EvQ.g (Ev.t 11 (bI .i64 at_1))) EvQL.nil)) rfl) rfl ⟨rfl, rfl, trivial⟩ trivial ?_
  refine G.op1 (op_moveS (t := 12) (sv := .tup [bI .u64 r1.1, bI .i64 r1.2.1, bB r1.2.2]) rfl) rfl ⟨rfl, trivial⟩ trivial ?_
  refine G.op1 (op_extract (l := [bI .u64 r1.1, bI .i64 r1.2.1, bB r1.2.2]) (c := bI .u64 r1.1) rfl rfl) rfl ⟨rfl, trivial⟩ trivial ?_
  refine G.op1 (op_extract (l := [bI .u64 r1.1, bI .i64 r1.2.1, bB r1.2.2]) (c := bI .i64 r1.2.1) rfl rfl) rfl ⟨rfl, trivial⟩ trivial ?_
  refine G.op1 (op_extract (l := [bI .u64 r1.1, bI .i64 r1.2.1, bB r1.2.2]) (c := bB r1.2.2) rfl rfl) rfl ⟨rfl, trivial⟩ trivial ?_
  refine G.op1 (op_assign (Ev.t 13 (bI .u64 r1.1)) rfl) rfl ⟨rfl, trivial⟩ trivial ?_
  refine G.op1 (op_assign (Ev.t 14 (bI .i64 r1.2.1)) rfl) rfl ⟨rfl, trivial⟩ trivial ?_
  refine G.op1 (op_assign (Ev.t 15 (bB r1.2.2)) rfl) rfl ⟨rfl, trivial⟩ trivial ?_
  refine G.endOps ?_
  refine G.seq ?_
  refine G.seq ?_
  refine G.joinC (T := Bool) (fun y2 => ⟨[(0, .one (bS s_0)), (4, .one (.own 2004 (List.map encApi_Dep ([] : (List Api_Dep))))), (5, .one (bI .i64 r1.2.1)), (6, .one (bB r1.2.2)), (7, .one (bI .u64 r1.1)), (21, .one (bB y2))], [(2004, some (.row 26 3 (List.map encApi_Dep ([] : (List Api_Dep))) false))]⟩) (fun y2 => past_Read_k1 s_0 r1 y2 = some r) (fun y2 hF => ?_) (fun J21 => ?_)
  · unfold past_Read_k1 at hF
    refine ifS hF (fun hc3 hF => ?_) (fun hc3 hF => ?_)
    · refine G.cond rfl (fun _ => ?_) (fun hx => by rw [hc3] at hx; cases hx)
      refine G.seq ?_
      refine G.region ?_
      refine G.op1 (op_assign (Ev.n 3) rfl) rfl trivial trivial ?_
      refine G.op1 (op_assign (Ev.c _ rfl) rfl) rfl trivial trivial ?_
      refine G.op1 (op_assign (Ev.c _ rfl) rfl) rfl trivial trivial ?_
      refine G.endOps ?_
      cases hF
      exact G.ret3 Try.results27 (RVar.tmp 4 _) (RVar.tmp 5 _) (RVar.tmp 6 _) ⟨rfl, rfl, rfl, trivial⟩ trivial
    · refine G.cond rfl (fun hx => by rw [hc3] at hx; cases hx) (fun _ => ?_)
      refine G.skip ?_
      refine G.seq ?_
      refine G.label ?_
      refine G.seq ?_
      refine G.seq ?_
      refine G.region ?_
      refine G.op1 (op_move (Ev.t 7 (bI .u64 r1.1)) rfl) rfl ⟨rfl, trivial⟩ trivial ?_
      refine G.op1 (op_move (Ev.c _ rfl) rfl) rfl trivial trivial ?_
      refine G.endOps ?_
      refine G.joinC (T := Int × Bool × (List Api_Dep)) (fun y4 => ⟨[(4, .one (.own 2004 (List.map encApi_Dep y4.2.2))), (5, .one (bI .i64 y4.1)), (6, .one (bB y4.2.1))], [(2004, some (.row 26 3 (List.map encApi_Dep y4.2.2) false))]⟩) (fun y4 => past_Read_k2 y4 = some r) (fun y4 hF => ?_) (fun J10 => ?_)
      · unfold past_Read_k2 at hF
        refine G.seq ?_
        refine G.seq ?_
        refine G.joinC (T := Bool) (fun y5 => ⟨[(4, .one (.own 2004 (List.map encApi_Dep y4.2.2))), (5, .one (bI .i64 y4.1)), (56, .one (bB y5))], [(2004, some (.row 26 3 (List.map encApi_Dep y4.2.2) false))]⟩) (fun y5 => past_Read_k3 y4 y5 = some r) (fun y5 hF => ?_) (fun J7 => ?_)
        · unfold past_Read_k3 at hF
          refine ifS hF (fun hc6 hF => ?_) (fun hc6 hF => ?_)
          · refine G.cond rfl (fun _ => ?_) (fun hx => by rw [hc6] at hx; cases hx)
            refine G.seq ?_
            refine G.region ?_
            refine G.op1 (op_assign (Ev.n 3) rfl) rfl trivial trivial ?_
            refine G.op1 (op_assign (Ev.c _ rfl) rfl) rfl trivial trivial ?_
            refine G.op1 (op_assign (Ev.c _ rfl) rfl) rfl trivial trivial ?_
            refine G.endOps ?_
            cases hF
            exact G.ret3 Try.results27 (RVar.tmp 4 _) (RVar.tmp 5 _) (RVar.tmp 6 _) ⟨rfl, rfl, rfl, trivial⟩ trivial
          · refine G.cond rfl (fun hx => by rw [hc6] at hx; cases hx) (fun _ => ?_)
            refine G.skip ?_
            refine G.seq ?_
            refine G.region ?_
            refine G.op1 (op_move (Ev.t 4 (.own 2004 (List.map encApi_Dep y4.2.2))) rfl) rfl ⟨rfl, trivial⟩ trivial ?_
            refine G.op1 (op_move (Ev.t 5 (bI .i64 y4.1)) rfl) rfl ⟨rfl, trivial⟩ trivial ?_
            refine G.op1 (op_assign (Ev.t 57 (.own 2004 (List.map encApi_Dep y4.2.2))) rfl) rfl ⟨rfl, trivial⟩ trivial ?_
            refine G.op1 (op_assign (Ev.t 58 (bI .i64 y4.1)) rfl) rfl ⟨rfl, trivial⟩ trivial ?_
            refine G.op1 (op_assign (Ev.c _ rfl) rfl) rfl trivial trivial ?_
            refine G.endOps ?_
            refine G.view (t := 4) rfl rfl ?_
            cases hF
            exact G.ret3 Try.results27 (RVar.tmp 4 _) (RVar.tmp 5 _) (RVar.tmp 6 _) ⟨rfl, rfl, rfl, trivial⟩ trivial
        refine G.region ?_
        refine G.op1 (op_move (Ev.t 6 (bB y4.2.1)) rfl) rfl ⟨rfl, trivial⟩ trivial ?_
        refine G.op1 (op_not (Ev.t 50 (bB y4.2.1)) rfl) rfl ⟨rfl, trivial⟩ trivial ?_
        refine G.op1 (op_move (Ev.t 51 (bB (!y4.2.1))) rfl) rfl ⟨rfl, trivial⟩ trivial ?_
        refine ifS hF (fun hc8 hF => ?_) (fun hc8 hF => ?_)
        · refine G.known (t := 52) hc8 rfl ?_
          refine G.opN1 rfl rfl rfl rfl rfl ?_
          refine G.opN1 rfl rfl rfl rfl rfl ?_
          refine G.opN1 rfl rfl rfl rfl rfl ?_
          refine G.op1 (op_pickT (Ev.t 52 (bB true)) (Ev.c _ rfl) rfl) rfl ⟨rfl, trivial⟩ trivial ?_
          refine G.endOps ?_
          exact G.arr (J7 true hF) ⟨rfl, rfl, rfl, trivial⟩ ⟨rfl, trivial⟩ rfl
        · refine G.known (t := 52) hc8 rfl ?_
          refine G.opG1 (op_move (Ev.t 4 (.own 2004 (List.map encApi_Dep y4.2.2))) rfl) rfl rfl rfl ⟨rfl, trivial⟩ trivial ?_
          obtain ⟨r9, hr9, hF⟩ := bindS hF
          refine G.opG1 (op_callQ (sv := .one (bB r9)) cf13 (ct_past_Check y4.2.2 r9 hr9) rfl rfl (EvQL.cons (EvQ.own (Ev.t 53 (.own 2004 (List.map encApi_Dep y4.2.2)))) EvQL.nil) rfl) rfl rfl rfl ⟨rfl, trivial⟩ ⟨rfl, trivial⟩ ?_
          refine G.opG1 (op_not (Ev.t 54 (bB r9)) rfl) rfl rfl rfl ⟨rfl, trivial⟩ trivial ?_
          refine G.op1 (op_pickF (Ev.t 52 (bB false)) (Ev.t 55 (bB (!r9))) rfl) rfl ⟨rfl, rfl, trivial⟩ trivial ?_
          refine G.endOps ?_
          exact G.arr (J7 (!r9) hF) ⟨rfl, rfl, rfl, trivial⟩ ⟨rfl, trivial⟩ rfl
      refine G.block ?_
      refine G.keep (sl' := [(0, .one (bS s_0)), (4, .one (.own 2004 (List.map encApi_Dep ([] : (List Api_Dep))))), (5, .one (bI .i64 r1.2.1)), (6, .one (bB r1.2.2)), (22, .one (bI .u64 r1.1)), (23, .one (bI .u64 0))]) (hp' := [(2004, some (.row 26 3 (List.map encApi_Dep ([] : (List Api_Dep))) false))]) ⟨rfl, rfl, rfl, rfl, rfl, rfl, trivial⟩ ⟨rfl, trivial⟩ rfl ?_
      refine G.loopF (fun (v11 : Int × Bool × Int × (List Api_Dep)) => ⟨[(0, .one (bS s_0)), (4, .one (.own 2004 (List.map encApi_Dep v11.2.2.2))), (5, .one (bI .i64 v11.1)), (6, .one (bB v11.2.1)), (22, .one (bI .u64 r1.1)), (23, .one (bI .u64 v11.2.2.1))], [(2004, some (.row 26 3 (List.map encApi_Dep v11.2.2.2) false))]⟩) hF rfl (fun K14 again13 v11 J12 hF => ?_)
      unfold past_Read_l4 at hF
      refine G.seq ?_
      refine G.region ?_
      refine G.op1 (op_lss (Ev.t 23 (bI .u64 v11.2.2.1)) (Ev.t 22 (bI .u64 r1.1)) rfl) rfl ⟨rfl, rfl, trivial⟩ trivial ?_
      refine G.endOps ?_
      refine G.seq ?_
      refine ifS hF (fun hc15 hF => ?_) (fun hc15 hF => ?_)
      · refine G.cond rfl (fun _ => ?_) (fun hx => by rw [hc15] at hx; cases hx)
        refine G.skip ?_
        refine G.seq ?_
        refine G.block ?_
        refine G.seq ?_
        refine G.region ?_
        refine G.op2 (op_alloc (k := 1008) (cs := [bS ByteArray.empty, bI .i64 0, bI .i64 0]) ti26 ⟨.v _ rfl, .v _ rfl, .v _ rfl, trivial⟩ rfl) rfl trivial ⟨rfl, trivial⟩ ?_
        refine G.endOps ?_
        refine G.seq ?_
        refine G.region ?_
        refine G.op1 (op_move (Ev.t 0 (bS s_0)) rfl) rfl ⟨rfl, trivial⟩ trivial ?_
        refine G.op1 (op_move (Ev.t 5 (bI .i64 v11.1)) rfl) rfl ⟨rfl, trivial⟩ trivial ?_
        obtain ⟨r16, hr16, hF⟩ := bindS hF
        refine G.op1 (op_callQ (sv := .tup [bS r16.1, bI .i64 r16.2.1, bB r16.2.2]) cf55 (ct_vary_ReadText s_0 v11.1 32 r16 hr16) rfl rfl (EvQL.cons (EvQ.g (Ev.t 26 (bS s_0))) (EvQL.cons (EvQ.g (Ev.t 27 (bI .i64 v11.1))) (EvQL.cons (EvQ.g (Ev.c _ rfl)) EvQL.nil))) rfl) rfl ⟨rfl, rfl, trivial⟩ trivial ?_
        refine G.op1 (op_moveS (t := 28) (sv := .tup [bS r16.1, bI .i64 r16.2.1, bB r16.2.2]) rfl) rfl ⟨rfl, trivial⟩ trivial ?_
        refine G.op1 (op_extract (l := [bS r16.1, bI .i64 r16.2.1, bB r16.2.2]) (c := bS r16.1) rfl rfl) rfl ⟨rfl, trivial⟩ trivial ?_
        refine G.op1 (op_extract (l := [bS r16.1, bI .i64 r16.2.1, bB r16.2.2]) (c := bI .i64 r16.2.1) rfl rfl) rfl ⟨rfl, trivial⟩ trivial ?_
        refine G.op1 (op_extract (l := [bS r16.1, bI .i64 r16.2.1, bB r16.2.2]) (c := bB r16.2.2) rfl rfl) rfl ⟨rfl, trivial⟩ trivial ?_
        refine G.op1 (op_fieldP (off' := 0) Try.underlying26 rfl ti9 (by decide) rfl (Ev.t 8 (.ptr 1008 0)) rfl) rfl ⟨rfl, trivial⟩ trivial ?_
        refine G.op3 (op_store1 (cs' := [bS r16.1, bI .i64 0, bI .i64 0]) (c := bS r16.1) trivial ti9 rfl rfl (Ev.t 32 (.ptr 1008 0)) (Ev.t 29 (bS r16.1))) rfl ⟨rfl, rfl, trivial⟩ ⟨rfl, trivial⟩ ?_
        refine G.op1 (op_assign (Ev.t 30 (bI .i64 r16.2.1)) rfl) rfl ⟨rfl, trivial⟩ trivial ?_
        refine G.op1 (op_assign (Ev.t 31 (bB r16.2.2)) rfl) rfl ⟨rfl, trivial⟩ trivial ?_
        refine G.endOps ?_
        refine G.seq ?_
        refine G.seq ?_
        refine G.region ?_
        refine G.op1 (op_move (Ev.t 6 (bB r16.2.2)) rfl) rfl ⟨rfl, trivial⟩ trivial ?_
        refine G.op1 (op_not (Ev.t 33 (bB r16.2.2)) rfl) rfl ⟨rfl, trivial⟩ trivial ?_
        refine G.endOps ?_
        refine ifS hF (fun hc17 hF => ?_) (fun hc17 hF => ?_)
        · refine G.cond rfl (fun _ => ?_) (fun hx => by rw [hc17] at hx; cases hx)
          refine G.exit ?_
          refine GX.c ?_
          refine GX.bNo rfl ?_
          refine GX.c ?_
          refine GX.q ?_
          refine GX.bYes ?_
          exact G.arr (J10 (r16.2.1, r16.2.2, v11.2.2.2) hF) ⟨rfl, rfl, rfl, trivial⟩ ⟨rfl, trivial⟩ rfl
        · refine G.cond rfl (fun hx => by rw [hc17] at hx; cases hx) (fun _ => ?_)
          refine G.skip ?_
          refine G.seq ?_
          refine G.region ?_
          refine G.op1 (op_move (Ev.t 0 (bS s_0)) rfl) rfl ⟨rfl, trivial⟩ trivial ?_
          refine G.op1 (op_move (Ev.t 5 (bI .i64 r16.2.1)) rfl) rfl ⟨rfl, trivial⟩ trivial ?_
          obtain ⟨r18, hr18, hF⟩ := bindS hF
          refine G.op1 (op_callQ (sv := .tup [.g (.agg [.v (.int .i64 r18.1.N), .v (.int .i64 r18.1.Site)]), bI .i64 r18.2.1, bB r18.2.2]) cf56 (ct_stamp_Read s_0 r16.2.1 r18 hr18) rfl rfl (EvQL.cons (EvQ.g (Ev.t 36 (bS s_0))) (EvQL.cons (EvQ.g (Ev.t 37 (bI .i64 r16.2.1))) EvQL.nil)) rfl) rfl ⟨rfl, rfl, trivial⟩ trivial ?_
          refine G.op1 (op_moveS (t := 38) (sv := .tup [.g (.agg [.v (.int .i64 r18.1.N), .v (.int .i64 r18.1.Site)]), bI .i64 r18.2.1, bB r18.2.2]) rfl) rfl ⟨rfl, trivial⟩ trivial ?_
          refine G.op1 (op_extract (l := [.g (.agg [.v (.int .i64 r18.1.N), .v (.int .i64 r18.1.Site)]), bI .i64 r18.2.1, bB r18.2.2]) (c := .g (.agg [.v (.int .i64 r18.1.N), .v (.int .i64 r18.1.Site)])) rfl rfl) rfl ⟨rfl, trivial⟩ trivial ?_
          refine G.op1 (op_extract (l := [.g (.agg [.v (.int .i64 r18.1.N), .v (.int .i64 r18.1.Site)]), bI .i64 r18.2.1, bB r18.2.2]) (c := bI .i64 r18.2.1) rfl rfl) rfl ⟨rfl, trivial⟩ trivial ?_
          refine G.op1 (op_extract (l := [.g (.agg [.v (.int .i64 r18.1.N), .v (.int .i64 r18.1.Site)]), bI .i64 r18.2.1, bB r18.2.2]) (c := bB r18.2.2) rfl rfl) rfl ⟨rfl, trivial⟩ trivial ?_
          refine G.op1 (op_fieldP (off' := 1) Try.underlying26 rfl ti24 (by decide) rfl (Ev.t 8 (.ptr 1008 0)) rfl) rfl ⟨rfl, trivial⟩ trivial ?_
          refine G.op3 (op_storeA (cs' := [bS r16.1, bI .i64 r18.1.N, bI .i64 r18.1.Site]) ti24 rfl rfl (Ev.t 42 (.ptr 1008 1)) (Ev.t 39 (.g (.agg [.v (.int .i64 r18.1.N), .v (.int .i64 r18.1.Site)])))) rfl ⟨rfl, rfl, trivial⟩ ⟨rfl, trivial⟩ ?_
          refine G.op1 (op_assign (Ev.t 40 (bI .i64 r18.2.1)) rfl) rfl ⟨rfl, trivial⟩ trivial ?_
          refine G.op1 (op_assign (Ev.t 41 (bB r18.2.2)) rfl) rfl ⟨rfl, trivial⟩ trivial ?_
          refine G.endOps ?_
          refine G.seq ?_
          refine G.seq ?_
          refine G.region ?_
          refine G.op1 (op_move (Ev.t 6 (bB r18.2.2)) rfl) rfl ⟨rfl, trivial⟩ trivial ?_
          refine G.op1 (op_not (Ev.t 43 (bB r18.2.2)) rfl) rfl ⟨rfl, trivial⟩ trivial ?_
          refine G.endOps ?_
          refine ifS hF (fun hc19 hF => ?_) (fun hc19 hF => ?_)
          · refine G.cond rfl (fun _ => ?_) (fun hx => by rw [hc19] at hx; cases hx)
            refine G.exit ?_
            refine GX.c ?_
            refine GX.bNo rfl ?_
            refine GX.c ?_
            refine GX.q ?_
            refine GX.bYes ?_
            exact G.arr (J10 (r18.2.1, r18.2.2, v11.2.2.2) hF) ⟨rfl, rfl, rfl, trivial⟩ ⟨rfl, trivial⟩ rfl
          · refine G.cond rfl (fun hx => by rw [hc19] at hx; cases hx) (fun _ => ?_)
            refine G.skip ?_
            refine G.region ?_
            refine G.op1 (op_move (Ev.t 4 (.own 2004 (List.map encApi_Dep v11.2.2.2))) rfl) rfl ⟨rfl, trivial⟩ trivial ?_
            refine G.op1 (op_loadAP (ds := [.v (.string r16.1), .v (.int .i64 r18.1.N), .v (.int .i64 r18.1.Site)]) Try.underlying26 rfl ti26 rfl (Ev.t 8 (.ptr 1008 0)) rfl) rfl ⟨rfl, trivial⟩ ⟨rfl, trivial⟩ ?_
            refine G.op1 (op_buildSlice (es := List.map encApi_Dep [(Api_Dep.mk r16.1 r18.1)]) Try.underlying22 ti26 rfl rfl (EvP.cons (Ev.t 46 (.g (.agg [.v (.string r16.1), .v (.int .i64 r18.1.N), .v (.int .i64 r18.1.Site)]))) EvP.nil) rfl rfl (by simp [encApi_Dep]) rfl) rfl ⟨rfl, trivial⟩ trivial ?_
            obtain ⟨l20, hl20, hF⟩ := bindS hF
            refine G.op2 (op_appendO Try.underlying22 ti26 rfl (app_map hl20 encApi_Dep) (app_b1 hl20 encApi_Dep) (app_b2 hl20 encApi_Dep) (Ev.t 45 (.own 2004 (List.map encApi_Dep v11.2.2.2))) (Ev.t 47 (.g (.d (.sl 3 (List.map encApi_Dep ([(Api_Dep.mk r16.1 r18.1)])))))) rfl) rfl ⟨rfl, rfl, trivial⟩ ⟨rfl, trivial⟩ ?_
            refine G.op1 (op_assign (Ev.t 48 (.own 2004 (List.map encApi_Dep l20))) rfl) rfl ⟨rfl, trivial⟩ trivial ?_
            refine G.endOps ?_
            refine G.endBlock ?_
            refine G.region ?_
            refine G.op1 (op_add (Ev.t 23 (bI .u64 v11.2.2.1)) (Ev.c _ rfl) rfl) rfl ⟨rfl, trivial⟩ trivial ?_
            refine G.op1 (op_move (Ev.t 49 (bI .u64 (IntKind.wrap .u64 (v11.2.2.1 + 1)))) rfl) rfl ⟨rfl, trivial⟩ trivial ?_
            refine G.endOps ?_
            exact G.arr (J12 (r18.2.1, r18.2.2, IntKind.wrap .u64 (v11.2.2.1 + 1), l20) hF) ⟨rfl, rfl, rfl, rfl, rfl, rfl, trivial⟩ ⟨rfl, trivial⟩ rfl
      · refine G.cond rfl (fun hx => by rw [hc15] at hx; cases hx) (fun _ => ?_)
        refine G.exit ?_
        refine GX.c ?_
        refine GX.q ?_
        refine GX.bYes ?_
        exact G.arr (J10 (v11.1, v11.2.1, v11.2.2.2) hF) ⟨rfl, rfl, rfl, trivial⟩ ⟨rfl, trivial⟩ rfl
  refine G.region ?_
  refine G.op1 (op_move (Ev.t 6 (bB r1.2.2)) rfl) rfl ⟨rfl, trivial⟩ trivial ?_
  refine G.op1 (op_not (Ev.t 16 (bB r1.2.2)) rfl) rfl ⟨rfl, trivial⟩ trivial ?_
  refine G.op1 (op_move (Ev.t 17 (bB (!r1.2.2))) rfl) rfl ⟨rfl, trivial⟩ trivial ?_
  refine ifS hF (fun hc22 hF => ?_) (fun hc22 hF => ?_)
  · refine G.known (t := 18) hc22 rfl ?_
    refine G.opN1 rfl rfl rfl rfl rfl ?_
    refine G.opN1 rfl rfl rfl rfl rfl ?_
    refine G.op1 (op_pickT (Ev.t 18 (bB true)) (Ev.c _ rfl) rfl) rfl ⟨rfl, trivial⟩ trivial ?_
    refine G.endOps ?_
    exact G.arr (J21 true hF) ⟨rfl, rfl, rfl, rfl, rfl, rfl, trivial⟩ ⟨rfl, trivial⟩ rfl
  · refine G.known (t := 18) hc22 rfl ?_
    refine G.opG1 (op_move (Ev.t 7 (bI .u64 r1.1)) rfl) rfl rfl rfl ⟨rfl, trivial⟩ trivial ?_
    refine G.opG1 (op_gtr (Ev.t 19 (bI .u64 r1.1)) (Ev.c _ rfl) rfl) rfl rfl rfl ⟨rfl, trivial⟩ trivial ?_
    refine G.op1 (op_pickF (Ev.t 18 (bB false)) (Ev.t 20 (bB (decide (24 < r1.1)))) rfl) rfl ⟨rfl, rfl, trivial⟩ trivial ?_
    refine G.endOps ?_
    exact G.arr (J21 (decide (24 < r1.1)) hF) ⟨rfl, rfl, rfl, rfl, rfl, rfl, trivial⟩ ⟨rfl, trivial⟩ rfl


set_option maxRecDepth 20000 in
set_option maxHeartbeats 2000000 in
theorem ct_ref01_Read (s_0 : ByteArray) (at_1 : Int) (r : Ref01_Got) (hF : ref01_Read s_0 at_1 = some r) : Ct Try.prog 57 [.g (.d (.v (.string s_0))), .g (.d (.v (.int .i64 at_1)))] (.one (.agg (encRef01_Got r))) := by
  unfold ref01_Read at hF
  refine Ct.intro Try.func57 rfl Try.ntmps57 rfl rfl fun M w => ?_
  refine G.seq ?_
  refine G.region ?_
  refine G.op2 (op_alloc (k := 1004) (cs := [bI .u64 0, bI .i64 0]) ti87 ⟨.v _ rfl, .v _ rfl, trivial⟩ rfl) rfl trivial ⟨rfl, trivial⟩ ?_
  refine G.endOps ?_
  refine G.seq ?_
  refine G.seq ?_
  refine G.region ?_
  refine G.op1 (op_move (Ev.t 1 (bI .i64 at_1)) rfl) rfl ⟨rfl, trivial⟩ trivial ?_
  refine G.op1 (op_lss (Ev.t 9 (bI .i64 at_1)) (Ev.c _ rfl) rfl) rfl ⟨rfl, trivial⟩ trivial ?_
  refine G.endOps ?_
  refine ifS hF (fun hc1 hF => ?_) (fun hc1 hF => ?_)
  · refine G.cond rfl (fun _ => ?_) (fun hx => by rw [hc1] at hx; cases hx)
    refine G.seq ?_
    refine G.region ?_
    refine G.op1 (op_build (zs := [.v (.int .u64 0), .v (.int .i64 0)]) (ds := [.v (.int .u64 0), .v (.int .i64 0)]) Try.underlying87 ti87 (pl87 _ Try.underlying87) ⟨.v _ rfl, .v _ rfl, trivial⟩ EvP.nil rfl rfl) rfl trivial trivial ?_
    refine G.op3 (op_storeA (cs' := [bI .u64 0, bI .i64 0]) ti87 rfl rfl (Ev.t 4 (.ptr 1004 0)) (Ev.t 11 (.g (.agg [.v (.int .u64 0), .v (.int .i64 0)])))) rfl ⟨rfl, rfl, trivial⟩ ⟨rfl, trivial⟩ ?_
    refine G.endOps ?_
    cases hF
    exact G.ret1 Try.results57 (RVar.cellA (ds := [.v (.int .u64 0), .v (.int .i64 0)]) Try.underlying87 rfl ti87 rfl) ⟨rfl, trivial⟩ ⟨rfl, trivial⟩
  · refine G.cond rfl (fun hx => by rw [hc1] at hx; cases hx) (fun _ => ?_)
    refine G.skip ?_
    refine G.seq ?_
    refine G.region ?_
    refine G.op1 (op_assign (Ev.c _ rfl) rfl) rfl trivial trivial ?_
    refine G.endOps ?_
    refine G.seq ?_
    refine G.region ?_
    refine G.op1 (op_assign (Ev.c _ rfl) rfl) rfl trivial trivial ?_
    refine G.endOps ?_
    refine G.seq ?_
    refine G.seq ?_
    refine G.region ?_
    refine G.op1 (op_move (Ev.t 1 (bI .i64 at_1)) rfl) rfl ⟨rfl, trivial⟩ trivial ?_
    refine G.op1 (op_assign (Ev.t 12 (bI .i64 at_1)) rfl) rfl ⟨rfl, trivial⟩ trivial ?_
    refine G.endOps ?_
    refine G.joinC (T := Unit) (fun y2 => ⟨[(4, .one (.ptr 1004 0))], [(1004, some (.blk 87 [bI .u64 0, bI .i64 0]))]⟩) (fun y2 => ref01_Read_k1 y2 = some r) (fun y2 hF => ?_) (fun J3 => ?_)
    · unfold ref01_Read_k1 at hF
      refine G.seq ?_
      refine G.region ?_
      refine G.op1 (op_build (zs := [.v (.int .u64 0), .v (.int .i64 0)]) (ds := [.v (.int .u64 0), .v (.int .i64 0)]) Try.underlying87 ti87 (pl87 _ Try.underlying87) ⟨.v _ rfl, .v _ rfl, trivial⟩ EvP.nil rfl rfl) rfl trivial trivial ?_
      refine G.op3 (op_storeA (cs' := [bI .u64 0, bI .i64 0]) ti87 rfl rfl (Ev.t 4 (.ptr 1004 0)) (Ev.t 52 (.g (.agg [.v (.int .u64 0), .v (.int .i64 0)])))) rfl ⟨rfl, rfl, trivial⟩ ⟨rfl, trivial⟩ ?_
      refine G.endOps ?_
      cases hF
      exact G.ret1 Try.results57 (RVar.cellA (ds := [.v (.int .u64 0), .v (.int .i64 0)]) Try.underlying87 rfl ti87 rfl) ⟨rfl, trivial⟩ ⟨rfl, trivial⟩
    refine G.block ?_
    refine G.keep (sl' := [(0, .one (bS s_0)), (1, .one (bI .i64 at_1)), (4, .one (.ptr 1004 0)), (5, .one (bI .u64 0)), (6, .one (bI .u64 1)), (7, .one (bI .i64 at_1))]) (hp' := [(1004, some (.blk 87 [bI .u64 0, bI .i64 0]))]) ⟨rfl, rfl, rfl, rfl, rfl, rfl, trivial⟩ ⟨rfl, trivial⟩ rfl ?_
    refine G.loopF (fun (v4 : Int × Int × Int) => ⟨[(0, .one (bS s_0)), (1, .one (bI .i64 at_1)), (4, .one (.ptr 1004 0)), (5, .one (bI .u64 v4.1)), (6, .one (bI .u64 v4.2.1)), (7, .one (bI .i64 v4.2.2))], [(1004, some (.blk 87 [bI .u64 0, bI .i64 0]))]⟩) hF rfl (fun K7 again6 v4 J5 hF => ?_)
    unfold ref01_Read_l2 at hF
    refine G.seq ?_
    refine G.seq ?_
    refine G.joinC (T := Bool) (fun y8 => ⟨[(0, .one (bS s_0)), (1, .one (bI .i64 at_1)), (4, .one (.ptr 1004 0)), (5, .one (bI .u64 v4.1)), (6, .one (bI .u64 v4.2.1)), (7, .one (bI .i64 v4.2.2)), (22, .one (bB y8))], [(1004, some (.blk 87 [bI .u64 0, bI .i64 0]))]⟩) (fun y8 => ref01_Read_k3 s_0 at_1 again6 v4 y8 = some r) (fun y8 hF => ?_) (fun J15 => ?_)
    · unfold ref01_Read_k3 at hF
      refine ifS hF (fun hc9 hF => ?_) (fun hc9 hF => ?_)
      · refine G.cond rfl (fun _ => ?_) (fun hx => by rw [hc9] at hx; cases hx)
        refine G.skip ?_
        refine G.seq ?_
        refine G.block ?_
        refine G.seq ?_
        refine G.region ?_
        refine G.op1 (op_move (Ev.t 0 (bS s_0)) rfl) rfl ⟨rfl, trivial⟩ trivial ?_
        refine G.op1 (op_move (Ev.t 7 (bI .i64 v4.2.2)) rfl) rfl ⟨rfl, trivial⟩ trivial ?_
        obtain ⟨b10, hb10, hF⟩ := bindS hF
        refine G.op1 (op_indexS Try.underlying9 (sidx_ok hb10).1 (sidx_ok hb10).2 (Ev.t 25 (bS s_0)) (Ev.t 26 (bI .i64 v4.2.2)) rfl) rfl ⟨rfl, rfl, trivial⟩ trivial ?_
        refine G.op1 (op_convI Try.underlying5 Try.underlying76 (Ev.t 27 (bI .u8 (b10.toNat : Int))) rfl) rfl ⟨rfl, trivial⟩ trivial ?_
        refine G.op1 (op_assign (Ev.t 28 (bI .u64 (IntKind.wrap .u64 (b10.toNat : Int)))) rfl) rfl ⟨rfl, trivial⟩ trivial ?_
        refine G.endOps ?_
        refine G.seq ?_
        refine G.region ?_
        refine G.op1 (op_move (Ev.t 5 (bI .u64 v4.1)) rfl) rfl ⟨rfl, trivial⟩ trivial ?_
        refine G.op1 (op_move (Ev.t 8 (bI .u64 (IntKind.wrap .u64 (b10.toNat : Int)))) rfl) rfl ⟨rfl, trivial⟩ trivial ?_
        refine G.op1 (op_rem (by decide) (Ev.t 30 (bI .u64 (IntKind.wrap .u64 (b10.toNat : Int)))) (Ev.c _ rfl) rfl) rfl ⟨rfl, trivial⟩ trivial ?_
        refine G.op1 (op_move (Ev.t 6 (bI .u64 v4.2.1)) rfl) rfl ⟨rfl, trivial⟩ trivial ?_
        refine G.op1 (op_mul (Ev.t 31 (bI .u64 (Int.tmod (IntKind.wrap .u64 (b10.toNat : Int)) 128))) (Ev.t 32 (bI .u64 v4.2.1)) rfl) rfl ⟨rfl, rfl, trivial⟩ trivial ?_
        refine G.op1 (op_add (Ev.t 29 (bI .u64 v4.1)) (Ev.t 33 (bI .u64 (IntKind.wrap .u64 ((Int.tmod (IntKind.wrap .u64 (b10.toNat : Int)) 128) * v4.2.1)))) rfl) rfl ⟨rfl, rfl, trivial⟩ trivial ?_
        refine G.op1 (op_assign (Ev.t 34 (bI .u64 (IntKind.wrap .u64 (v4.1 + (IntKind.wrap .u64 ((Int.tmod (IntKind.wrap .u64 (b10.toNat : Int)) 128) * v4.2.1)))))) rfl) rfl ⟨rfl, trivial⟩ trivial ?_
        refine G.endOps ?_
        refine G.seq ?_
        refine G.region ?_
        refine G.op1 (op_move (Ev.t 6 (bI .u64 v4.2.1)) rfl) rfl ⟨rfl, trivial⟩ trivial ?_
        refine G.op1 (op_mul (Ev.t 35 (bI .u64 v4.2.1)) (Ev.c _ rfl) rfl) rfl ⟨rfl, trivial⟩ trivial ?_
        refine G.op1 (op_assign (Ev.t 36 (bI .u64 (IntKind.wrap .u64 (v4.2.1 * 128)))) rfl) rfl ⟨rfl, trivial⟩ trivial ?_
        refine G.endOps ?_
        refine G.seq ?_
        refine G.region ?_
        refine G.op1 (op_move (Ev.t 8 (bI .u64 (IntKind.wrap .u64 (b10.toNat : Int)))) rfl) rfl ⟨rfl, trivial⟩ trivial ?_
        refine G.op1 (op_lss (Ev.t 37 (bI .u64 (IntKind.wrap .u64 (b10.toNat : Int)))) (Ev.c _ rfl) rfl) rfl ⟨rfl, trivial⟩ trivial ?_
        refine G.endOps ?_
        refine ifS hF (fun hc11 hF => ?_) (fun hc11 hF => ?_)
        · refine G.cond rfl (fun _ => ?_) (fun hx => by rw [hc11] at hx; cases hx)
          refine G.seq ?_
          refine G.seq ?_
          obtain ⟨r12, hr12, hF⟩ := bindS hF
          obtain ⟨s13, hs13, hF⟩ := bindS hF
          refine G.drawn (effs := [⟨[(5, .one (bI .u64 (IntKind.wrap .u64 (v4.1 + (IntKind.wrap .u64 ((Int.tmod (IntKind.wrap .u64 (b10.toNat : Int)) 128) * v4.2.1))))))], [], [(39, .one (bI .u64 (IntKind.wrap .u64 (v4.1 + (IntKind.wrap .u64 ((Int.tmod (IntKind.wrap .u64 (b10.toNat : Int)) 128) * v4.2.1))))))], []⟩, ⟨[(39, .one (bI .u64 (IntKind.wrap .u64 (v4.1 + (IntKind.wrap .u64 ((Int.tmod (IntKind.wrap .u64 (b10.toNat : Int)) 128) * v4.2.1))))))], [], [(40, .one (bS r12))], []⟩, ⟨[(0, .one (bS s_0))], [], [(41, .one (bS s_0))], []⟩, ⟨[(1, .one (bI .i64 at_1))], [], [(42, .one (bI .i64 at_1))], []⟩, ⟨[(7, .one (bI .i64 v4.2.2))], [], [(43, .one (bI .i64 v4.2.2))], []⟩, ⟨[(43, .one (bI .i64 v4.2.2))], [], [(44, .one (bI .i64 (IntKind.wrap .i64 (v4.2.2 + 1))))], []⟩, ⟨[(41, .one (bS s_0)), (42, .one (bI .i64 at_1)), (44, .one (bI .i64 (IntKind.wrap .i64 (v4.2.2 + 1))))], [], [(45, .one (bS s13))], []⟩, ⟨[(40, .one (bS r12)), (45, .one (bS s13))], [], [(46, .one (bB (!seq r12 s13)))], []⟩]) (deps := [[], [0], [], [], [], [4], [2, 3, 4, 5], [0, 1, 2, 3, 4, 5, 6]]) (sl' := [(4, .one (.ptr 1004 0)), (5, .one (bI .u64 (IntKind.wrap .u64 (v4.1 + (IntKind.wrap .u64 ((Int.tmod (IntKind.wrap .u64 (b10.toNat : Int)) 128) * v4.2.1)))))), (7, .one (bI .i64 v4.2.2)), (46, .one (bB (!seq r12 s13)))]) (hp' := [(1004, some (.blk 87 [bI .u64 0, bI .i64 0]))]) follows rfl rfl rfl ⟨⟨rfl, trivial⟩, trivial, ⟨rfl, trivial⟩, trivial, ⟨rfl, trivial⟩, trivial, ⟨rfl, trivial⟩, trivial, ⟨rfl, trivial⟩, trivial, ⟨rfl, trivial⟩, trivial, ⟨rfl, rfl, rfl, trivial⟩, trivial, ⟨rfl, rfl, trivial⟩, trivial, trivial⟩ ⟨OpW.plain (op_move (Ev.t 5 (bI .u64 (IntKind.wrap .u64 (v4.1 + (IntKind.wrap .u64 ((Int.tmod (IntKind.wrap .u64 (b10.toNat : Int)) 128) * v4.2.1)))))) rfl) rfl rfl, OpW.plain (op_callQ (sv := .one (bS r12)) cf51 (ct_ref01_Number (IntKind.wrap .u64 (v4.1 + (IntKind.wrap .u64 ((Int.tmod (IntKind.wrap .u64 (b10.toNat : Int)) 128) * v4.2.1)))) r12 hr12) rfl rfl (EvQL.cons (EvQ.g (Ev.t 39 (bI .u64 (IntKind.wrap .u64 (v4.1 + (IntKind.wrap .u64 ((Int.tmod (IntKind.wrap .u64 (b10.toNat : Int)) 128) * v4.2.1))))))) EvQL.nil) rfl) rfl rfl, OpW.plain (op_move (Ev.t 0 (bS s_0)) rfl) rfl rfl, OpW.plain (op_move (Ev.t 1 (bI .i64 at_1)) rfl) rfl rfl, OpW.plain (op_move (Ev.t 7 (bI .i64 v4.2.2)) rfl) rfl rfl, OpW.plain (op_add (Ev.t 43 (bI .i64 v4.2.2)) (Ev.c _ rfl) rfl) rfl rfl, OpW.plain (OpL.cast (op_sliceS (lo := some at_1) (hi := some (IntKind.wrap .i64 (v4.2.2 + 1))) Try.underlying9 (ssub_ok hs13).1 (ssub_ok hs13).2.1 (ssub_ok hs13).2.2.1 (Ev.t 41 (bS s_0)) (EvO.some (Ev.t 42 (bI .i64 at_1))) (EvO.some (Ev.t 44 (bI .i64 (IntKind.wrap .i64 (v4.2.2 + 1))))) rfl) (congrArg (fun s => bS s) (ssub_ok hs13).2.2.2)) rfl rfl, OpW.plain (op_neS (Ev.t 40 (bS r12)) (Ev.t 45 (bS s13)) rfl) rfl rfl, trivial⟩ ⟨rfl, rfl, rfl, rfl, trivial⟩ ⟨rfl, trivial⟩ rfl ?_
          refine ifS hF (fun hc14 hF => ?_) (fun hc14 hF => ?_)
          · refine G.cond rfl (fun _ => ?_) (fun hx => by rw [hc14] at hx; cases hx)
            refine G.seq ?_
            refine G.region ?_
            refine G.op1 (op_build (zs := [.v (.int .u64 0), .v (.int .i64 0)]) (ds := [.v (.int .u64 0), .v (.int .i64 0)]) Try.underlying87 ti87 (pl87 _ Try.underlying87) ⟨.v _ rfl, .v _ rfl, trivial⟩ EvP.nil rfl rfl) rfl trivial trivial ?_
            refine G.op3 (op_storeA (cs' := [bI .u64 0, bI .i64 0]) ti87 rfl rfl (Ev.t 4 (.ptr 1004 0)) (Ev.t 47 (.g (.agg [.v (.int .u64 0), .v (.int .i64 0)])))) rfl ⟨rfl, rfl, trivial⟩ ⟨rfl, trivial⟩ ?_
            refine G.endOps ?_
            cases hF
            exact G.ret1 Try.results57 (RVar.cellA (ds := [.v (.int .u64 0), .v (.int .i64 0)]) Try.underlying87 rfl ti87 rfl) ⟨rfl, trivial⟩ ⟨rfl, trivial⟩
          · refine G.cond rfl (fun hx => by rw [hc14] at hx; cases hx) (fun _ => ?_)
            refine G.skip ?_
            refine G.seq ?_
            refine G.region ?_
            refine G.op1 (op_move (Ev.t 5 (bI .u64 (IntKind.wrap .u64 (v4.1 + (IntKind.wrap .u64 ((Int.tmod (IntKind.wrap .u64 (b10.toNat : Int)) 128) * v4.2.1)))))) rfl) rfl ⟨rfl, trivial⟩ trivial ?_
            refine G.op1 (op_move (Ev.t 7 (bI .i64 v4.2.2)) rfl) rfl ⟨rfl, trivial⟩ trivial ?_
            refine G.op1 (op_add (Ev.t 49 (bI .i64 v4.2.2)) (Ev.c _ rfl) rfl) rfl ⟨rfl, trivial⟩ trivial ?_
            refine G.op1 (op_build (zs := [.v (.int .u64 0), .v (.int .i64 0)]) (ds := [.v (.int .u64 (IntKind.wrap .u64 (v4.1 + (IntKind.wrap .u64 ((Int.tmod (IntKind.wrap .u64 (b10.toNat : Int)) 128) * v4.2.1))))), .v (.int .i64 (IntKind.wrap .i64 (v4.2.2 + 1)))]) Try.underlying87 ti87 (pl87 _ Try.underlying87) ⟨.v _ rfl, .v _ rfl, trivial⟩ (EvP.cons (Ev.t 48 (bI .u64 (IntKind.wrap .u64 (v4.1 + (IntKind.wrap .u64 ((Int.tmod (IntKind.wrap .u64 (b10.toNat : Int)) 128) * v4.2.1)))))) (EvP.cons (Ev.t 50 (bI .i64 (IntKind.wrap .i64 (v4.2.2 + 1)))) EvP.nil)) rfl rfl) rfl ⟨rfl, rfl, trivial⟩ trivial ?_
            refine G.op3 (op_storeA (cs' := [bI .u64 (IntKind.wrap .u64 (v4.1 + (IntKind.wrap .u64 ((Int.tmod (IntKind.wrap .u64 (b10.toNat : Int)) 128) * v4.2.1)))), bI .i64 (IntKind.wrap .i64 (v4.2.2 + 1))]) ti87 rfl rfl (Ev.t 4 (.ptr 1004 0)) (Ev.t 51 (.g (.agg [.v (.int .u64 (IntKind.wrap .u64 (v4.1 + (IntKind.wrap .u64 ((Int.tmod (IntKind.wrap .u64 (b10.toNat : Int)) 128) * v4.2.1))))), .v (.int .i64 (IntKind.wrap .i64 (v4.2.2 + 1)))])))) rfl ⟨rfl, rfl, trivial⟩ ⟨rfl, trivial⟩ ?_
            refine G.endOps ?_
            cases hF
            exact G.ret1 Try.results57 (RVar.cellA (ds := [.v (.int .u64 (IntKind.wrap .u64 (v4.1 + (IntKind.wrap .u64 ((Int.tmod (IntKind.wrap .u64 (b10.toNat : Int)) 128) * v4.2.1))))), .v (.int .i64 (IntKind.wrap .i64 (v4.2.2 + 1)))]) Try.underlying87 rfl ti87 rfl) ⟨rfl, trivial⟩ ⟨rfl, trivial⟩
        · refine G.cond rfl (fun hx => by rw [hc11] at hx; cases hx) (fun _ => ?_)
          refine G.skip ?_
          refine G.endBlock ?_
          refine G.region ?_
          refine G.op1 (op_move (Ev.t 7 (bI .i64 v4.2.2)) rfl) rfl ⟨rfl, trivial⟩ trivial ?_
          refine G.op1 (op_add (Ev.t 23 (bI .i64 v4.2.2)) (Ev.c _ rfl) rfl) rfl ⟨rfl, trivial⟩ trivial ?_
          refine G.op1 (op_assign (Ev.t 24 (bI .i64 (IntKind.wrap .i64 (v4.2.2 + 1)))) rfl) rfl ⟨rfl, trivial⟩ trivial ?_
          refine G.endOps ?_
          exact G.arr (J5 (IntKind.wrap .u64 (v4.1 + (IntKind.wrap .u64 ((Int.tmod (IntKind.wrap .u64 (b10.toNat : Int)) 128) * v4.2.1))), IntKind.wrap .u64 (v4.2.1 * 128), IntKind.wrap .i64 (v4.2.2 + 1)) hF) ⟨rfl, rfl, rfl, rfl, rfl, rfl, trivial⟩ ⟨rfl, trivial⟩ rfl
      · refine G.cond rfl (fun hx => by rw [hc9] at hx; cases hx) (fun _ => ?_)
        refine G.exit ?_
        refine GX.c ?_
        refine GX.q ?_
        refine GX.bYes ?_
        exact G.arr (J3 () hF) ⟨rfl, trivial⟩ ⟨rfl, trivial⟩ rfl
    refine G.region ?_
    refine G.op1 (op_move (Ev.t 7 (bI .i64 v4.2.2)) rfl) rfl ⟨rfl, trivial⟩ trivial ?_
    refine G.op1 (op_move (Ev.t 0 (bS s_0)) rfl) rfl ⟨rfl, trivial⟩ trivial ?_
    refine G.op1 (op_lenS Try.underlying9 (Ev.t 14 (bS s_0)) rfl) rfl ⟨rfl, trivial⟩ trivial ?_
    refine G.op1 (op_lss (Ev.t 13 (bI .i64 v4.2.2)) (Ev.t 15 (bI .i64 (s_0.size : Int))) rfl) rfl ⟨rfl, rfl, trivial⟩ trivial ?_
    refine G.op1 (op_move (Ev.t 16 (bB (decide (v4.2.2 < (s_0.size : Int))))) rfl) rfl ⟨rfl, trivial⟩ trivial ?_
    refine ifS hF (fun hc16 hF => ?_) (fun hc16 hF => ?_)
    · refine G.known (t := 17) hc16 rfl ?_
      refine G.opG1 (op_move (Ev.t 7 (bI .i64 v4.2.2)) rfl) rfl rfl rfl ⟨rfl, trivial⟩ trivial ?_
      refine G.opG1 (op_move (Ev.t 1 (bI .i64 at_1)) rfl) rfl rfl rfl ⟨rfl, trivial⟩ trivial ?_
      refine G.opG1 (op_add (Ev.t 19 (bI .i64 at_1)) (Ev.c _ rfl) rfl) rfl rfl rfl ⟨rfl, trivial⟩ trivial ?_
      refine G.opG1 (op_lss (Ev.t 18 (bI .i64 v4.2.2)) (Ev.t 20 (bI .i64 (IntKind.wrap .i64 (at_1 + 10)))) rfl) rfl rfl rfl ⟨rfl, rfl, trivial⟩ trivial ?_
      refine G.op1 (op_pickT (Ev.t 17 (bB true)) (Ev.t 21 (bB (decide (v4.2.2 < (IntKind.wrap .i64 (at_1 + 10)))))) rfl) rfl ⟨rfl, rfl, trivial⟩ trivial ?_
      refine G.endOps ?_
      exact G.arr (J15 (decide (v4.2.2 < (IntKind.wrap .i64 (at_1 + 10)))) hF) ⟨rfl, rfl, rfl, rfl, rfl, rfl, rfl, trivial⟩ ⟨rfl, trivial⟩ rfl
    · refine G.known (t := 17) hc16 rfl ?_
      refine G.opN1 rfl rfl rfl rfl rfl ?_
      refine G.opN1 rfl rfl rfl rfl rfl ?_
      refine G.opN1 rfl rfl rfl rfl rfl ?_
      refine G.opN1 rfl rfl rfl rfl rfl ?_
      refine G.op1 (op_pickF (Ev.t 17 (bB false)) (Ev.c _ rfl) rfl) rfl ⟨rfl, trivial⟩ trivial ?_
      refine G.endOps ?_
      exact G.arr (J15 false hF) ⟨rfl, rfl, rfl, rfl, rfl, rfl, rfl, trivial⟩ ⟨rfl, trivial⟩ rfl


set_option maxRecDepth 20000 in
set_option maxHeartbeats 2000000 in
theorem ct_ref01_ReadText (s_0 : ByteArray) (at_1 : Int) (most_2 : Int) (r : Ref01_GotText) (hF : ref01_ReadText s_0 at_1 most_2 = some r) : Ct Try.prog 58 [.g (.d (.v (.string s_0))), .g (.d (.v (.int .i64 at_1))), .g (.d (.v (.int .i64 most_2)))] (.one (.agg (encRef01_GotText r))) := by
  unfold ref01_ReadText at hF
  refine Ct.intro Try.func58 rfl Try.ntmps58 rfl rfl fun M w => ?_
  refine G.seq ?_
  refine G.region ?_
  refine G.op2 (op_alloc (k := 1006) (cs := [bS ByteArray.empty, bI .i64 0]) ti90 ⟨.v _ rfl, .v _ rfl, trivial⟩ rfl) rfl trivial ⟨rfl, trivial⟩ ?_
  refine G.endOps ?_
  refine G.seq ?_
  refine G.region ?_
  refine G.op1 (op_move (Ev.t 0 (bS s_0)) rfl) rfl ⟨rfl, trivial⟩ trivial ?_
  refine G.op1 (op_move (Ev.t 1 (bI .i64 at_1)) rfl) rfl ⟨rfl, trivial⟩ trivial ?_
  obtain ⟨r1, hr1, hF⟩ := bindS hF
  refine G.op1 (op_callQ (sv := .one (.g (.agg [.v (.int .u64 r1.N), .v (.int .i64 r1.End)]))) cf57 (ct_ref01_Read s_0 at_1 r1 hr1) rfl rfl (EvQL.cons (EvQ.g (Ev.t 9 (bS s_0))) (EvQL.cons (EvQ.g (Ev.t 10 (bI .i64 at_1))) EvQL.nil)) rfl) rfl ⟨rfl, rfl, trivial⟩ trivial ?_
  refine G.op2 (op_alloc (k := 1007) (cs := [bI .u64 0, bI .i64 0]) ti87 ⟨.v _ rfl, .v _ rfl, trivial⟩ rfl) rfl trivial ⟨rfl, trivial⟩ ?_
  refine G.op3 (op_storeA (cs' := [bI .u64 r1.N, bI .i64 r1.End]) ti87 rfl rfl (Ev.t 7 (.ptr 1007 0)) (Ev.t 11 (.g (.agg [.v (.int .u64 r1.N), .v (.int .i64 r1.End)])))) rfl ⟨rfl, rfl, trivial⟩ ⟨rfl, trivial⟩ ?_
  refine G.endOps ?_
  refine G.seq ?_
  refine G.seq ?_
  refine G.joinC (T := Bool) (fun y2 => ⟨[(0, .one (bS s_0)), (6, .one (.ptr 1006 0)), (7, .one (.ptr 1007 0)), (36, .one (bB y2))], [(1006, some (.blk 90 [bS ByteArray.empty, bI .i64 0])), (1007, some (.blk 87 [bI .u64 r1.N, bI .i64 r1.End]))]⟩) (fun y2 => ref01_ReadText_k1 s_0 r1 y2 = some r) (fun y2 hF => ?_) (fun J5 => ?_)
  · unfold ref01_ReadText_k1 at hF
    refine ifS hF (fun hc3 hF => ?_) (fun hc3 hF => ?_)
    · refine G.cond rfl (fun _ => ?_) (fun hx => by rw [hc3] at hx; cases hx)
      refine G.seq ?_
      refine G.region ?_
      refine G.op1 (op_build (zs := [.v (.string ByteArray.empty), .v (.int .i64 0)]) (ds := [.v (.string ByteArray.empty), .v (.int .i64 0)]) Try.underlying90 ti90 (pl90 _ Try.underlying90) ⟨.v _ rfl, .v _ rfl, trivial⟩ EvP.nil rfl rfl) rfl trivial trivial ?_
      refine G.op3 (op_storeA (cs' := [bS ByteArray.empty, bI .i64 0]) ti90 rfl rfl (Ev.t 6 (.ptr 1006 0)) (Ev.t 37 (.g (.agg [.v (.string ByteArray.empty), .v (.int .i64 0)])))) rfl ⟨rfl, rfl, trivial⟩ ⟨rfl, trivial⟩ ?_
      refine G.endOps ?_
      cases hF
      exact G.ret1 Try.results58 (RVar.cellA (ds := [.v (.string ByteArray.empty), .v (.int .i64 0)]) Try.underlying90 rfl ti90 rfl) ⟨rfl, trivial⟩ ⟨rfl, trivial⟩
    · refine G.cond rfl (fun hx => by rw [hc3] at hx; cases hx) (fun _ => ?_)
      refine G.skip ?_
      refine G.seq ?_
      refine G.region ?_
      refine G.op1 (op_fieldP (off' := 1) Try.underlying87 rfl ti3 (by decide) rfl (Ev.t 7 (.ptr 1007 0)) rfl) rfl ⟨rfl, trivial⟩ trivial ?_
      refine G.op1 (op_load1P (c := bI .i64 r1.End) Try.underlying3 rfl rfl (Ev.t 38 (.ptr 1007 1)) rfl) rfl ⟨rfl, trivial⟩ ⟨rfl, trivial⟩ ?_
      refine G.op1 (op_fieldP (off' := 0) Try.underlying87 rfl ti76 (by decide) rfl (Ev.t 7 (.ptr 1007 0)) rfl) rfl ⟨rfl, trivial⟩ trivial ?_
      refine G.op1 (op_load1P (c := bI .u64 r1.N) Try.underlying76 rfl rfl (Ev.t 40 (.ptr 1007 0)) rfl) rfl ⟨rfl, trivial⟩ ⟨rfl, trivial⟩ ?_
      refine G.op1 (op_convI Try.underlying76 Try.underlying3 (Ev.t 41 (bI .u64 r1.N)) rfl) rfl ⟨rfl, trivial⟩ trivial ?_
      refine G.op1 (op_add (Ev.t 39 (bI .i64 r1.End)) (Ev.t 42 (bI .i64 (IntKind.wrap .i64 r1.N))) rfl) rfl ⟨rfl, rfl, trivial⟩ trivial ?_
      refine G.op1 (op_assign (Ev.t 43 (bI .i64 (IntKind.wrap .i64 (r1.End + (IntKind.wrap .i64 r1.N))))) rfl) rfl ⟨rfl, trivial⟩ trivial ?_
      refine G.endOps ?_
      refine G.seq ?_
      refine G.region ?_
      refine G.op1 (op_move (Ev.t 0 (bS s_0)) rfl) rfl ⟨rfl, trivial⟩ trivial ?_
      refine G.op1 (op_fieldP (off' := 1) Try.underlying87 rfl ti3 (by decide) rfl (Ev.t 7 (.ptr 1007 0)) rfl) rfl ⟨rfl, trivial⟩ trivial ?_
      refine G.op1 (op_load1P (c := bI .i64 r1.End) Try.underlying3 rfl rfl (Ev.t 45 (.ptr 1007 1)) rfl) rfl ⟨rfl, trivial⟩ ⟨rfl, trivial⟩ ?_
      refine G.op1 (op_move (Ev.t 8 (bI .i64 (IntKind.wrap .i64 (r1.End + (IntKind.wrap .i64 r1.N))))) rfl) rfl ⟨rfl, trivial⟩ trivial ?_
      obtain ⟨s4, hs4, hF⟩ := bindS hF
      refine G.op1 (OpL.cast (op_sliceS (lo := some r1.End) (hi := some (IntKind.wrap .i64 (r1.End + (IntKind.wrap .i64 r1.N)))) Try.underlying9 (ssub_ok hs4).1 (ssub_ok hs4).2.1 (ssub_ok hs4).2.2.1 (Ev.t 44 (bS s_0)) (EvO.some (Ev.t 46 (bI .i64 r1.End))) (EvO.some (Ev.t 47 (bI .i64 (IntKind.wrap .i64 (r1.End + (IntKind.wrap .i64 r1.N)))))) rfl) (congrArg (fun s => bS s) (ssub_ok hs4).2.2.2)) rfl ⟨rfl, rfl, rfl, trivial⟩ trivial ?_
      refine G.op1 (op_move (Ev.t 8 (bI .i64 (IntKind.wrap .i64 (r1.End + (IntKind.wrap .i64 r1.N))))) rfl) rfl ⟨rfl, trivial⟩ trivial ?_
      refine G.op1 (op_build (zs := [.v (.string ByteArray.empty), .v (.int .i64 0)]) (ds := [.v (.string s4), .v (.int .i64 (IntKind.wrap .i64 (r1.End + (IntKind.wrap .i64 r1.N))))]) Try.underlying90 ti90 (pl90 _ Try.underlying90) ⟨.v _ rfl, .v _ rfl, trivial⟩ (EvP.cons (Ev.t 48 (bS s4)) (EvP.cons (Ev.t 49 (bI .i64 (IntKind.wrap .i64 (r1.End + (IntKind.wrap .i64 r1.N))))) EvP.nil)) rfl rfl) rfl ⟨rfl, rfl, trivial⟩ trivial ?_
      refine G.op3 (op_storeA (cs' := [bS s4, bI .i64 (IntKind.wrap .i64 (r1.End + (IntKind.wrap .i64 r1.N)))]) ti90 rfl rfl (Ev.t 6 (.ptr 1006 0)) (Ev.t 50 (.g (.agg [.v (.string s4), .v (.int .i64 (IntKind.wrap .i64 (r1.End + (IntKind.wrap .i64 r1.N))))])))) rfl ⟨rfl, rfl, trivial⟩ ⟨rfl, trivial⟩ ?_
      refine G.endOps ?_
      cases hF
      exact G.ret1 Try.results58 (RVar.cellA (ds := [.v (.string s4), .v (.int .i64 (IntKind.wrap .i64 (r1.End + (IntKind.wrap .i64 r1.N))))]) Try.underlying90 rfl ti90 rfl) ⟨rfl, trivial⟩ ⟨rfl, trivial⟩
  refine G.region ?_
  refine G.op1 (op_fieldP (off' := 1) Try.underlying87 rfl ti3 (by decide) rfl (Ev.t 7 (.ptr 1007 0)) rfl) rfl ⟨rfl, trivial⟩ trivial ?_
  refine G.op1 (op_load1P (c := bI .i64 r1.End) Try.underlying3 rfl rfl (Ev.t 12 (.ptr 1007 1)) rfl) rfl ⟨rfl, trivial⟩ ⟨rfl, trivial⟩ ?_
  refine G.op1 (op_eqI (Ev.t 13 (bI .i64 r1.End)) (Ev.c _ rfl) rfl) rfl ⟨rfl, trivial⟩ trivial ?_
  refine G.op1 (op_move (Ev.t 14 (bB (decide (r1.End = 0)))) rfl) rfl ⟨rfl, trivial⟩ trivial ?_
  refine G.joinL (T := Bool) 3 (fun y6 => ⟨[(0, .one (bS s_0)), (2, .one (bI .i64 most_2)), (6, .one (.ptr 1006 0)), (7, .one (.ptr 1007 0)), (18, .one (bB y6))], [(1006, some (.blk 90 [bS ByteArray.empty, bI .i64 0])), (1007, some (.blk 87 [bI .u64 r1.N, bI .i64 r1.End]))]⟩) (fun y6 => ref01_ReadText_k2 s_0 most_2 r1 y6 = some r) (fun y6 hF => ?_) (fun J11 => ?_)
  · unfold ref01_ReadText_k2 at hF
    refine G.op1 (op_move (Ev.t 18 (bB y6)) rfl) rfl ⟨rfl, trivial⟩ trivial ?_
    refine G.joinL (T := Bool) 6 (fun y7 => ⟨[(0, .one (bS s_0)), (6, .one (.ptr 1006 0)), (7, .one (.ptr 1007 0)), (25, .one (bB y7))], [(1006, some (.blk 90 [bS ByteArray.empty, bI .i64 0])), (1007, some (.blk 87 [bI .u64 r1.N, bI .i64 r1.End]))]⟩) (fun y7 => ref01_ReadText_k3 s_0 r1 y7 = some r) (fun y7 hF => ?_) (fun J9 => ?_)
    · unfold ref01_ReadText_k3 at hF
      refine G.op1 (op_move (Ev.t 25 (bB y7)) rfl) rfl ⟨rfl, trivial⟩ trivial ?_
      refine ifS hF (fun hc8 hF => ?_) (fun hc8 hF => ?_)
      · refine G.known (t := 26) hc8 rfl ?_
        refine G.opN1 rfl rfl rfl rfl rfl ?_
        refine G.opN1 rfl rfl rfl rfl rfl ?_
        refine G.opN1 rfl rfl rfl rfl rfl ?_
        refine G.opN1 rfl rfl rfl rfl rfl ?_
        refine G.opN1 rfl rfl rfl rfl rfl ?_
        refine G.opN1 rfl rfl rfl rfl rfl ?_
        refine G.opN1 rfl rfl rfl rfl rfl ?_
        refine G.opN1 rfl rfl rfl rfl rfl ?_
        refine G.opN1 rfl rfl rfl rfl rfl ?_
        refine G.op1 (op_pickT (Ev.t 26 (bB true)) (Ev.c _ rfl) rfl) rfl ⟨rfl, trivial⟩ trivial ?_
        refine G.endOps ?_
        exact G.arr (J5 true hF) ⟨rfl, rfl, rfl, rfl, trivial⟩ ⟨rfl, rfl, trivial⟩ rfl
      · refine G.known (t := 26) hc8 rfl ?_
        refine G.opG1 (op_fieldP (off' := 0) Try.underlying87 rfl ti76 (by decide) rfl (Ev.t 7 (.ptr 1007 0)) rfl) rfl rfl rfl ⟨rfl, trivial⟩ trivial ?_
        refine G.opG1 (op_load1P (c := bI .u64 r1.N) Try.underlying76 rfl rfl (Ev.t 27 (.ptr 1007 0)) rfl) rfl rfl rfl ⟨rfl, trivial⟩ ⟨rfl, trivial⟩ ?_
        refine G.opG1 (op_move (Ev.t 0 (bS s_0)) rfl) rfl rfl rfl ⟨rfl, trivial⟩ trivial ?_
        refine G.opG1 (op_lenS Try.underlying9 (Ev.t 29 (bS s_0)) rfl) rfl rfl rfl ⟨rfl, trivial⟩ trivial ?_
        refine G.opG1 (op_fieldP (off' := 1) Try.underlying87 rfl ti3 (by decide) rfl (Ev.t 7 (.ptr 1007 0)) rfl) rfl rfl rfl ⟨rfl, trivial⟩ trivial ?_
        refine G.opG1 (op_load1P (c := bI .i64 r1.End) Try.underlying3 rfl rfl (Ev.t 31 (.ptr 1007 1)) rfl) rfl rfl rfl ⟨rfl, trivial⟩ ⟨rfl, trivial⟩ ?_
        refine G.opG1 (op_sub (Ev.t 30 (bI .i64 (s_0.size : Int))) (Ev.t 32 (bI .i64 r1.End)) rfl) rfl rfl rfl ⟨rfl, rfl, trivial⟩ trivial ?_
        refine G.opG1 (op_convI Try.underlying3 Try.underlying76 (Ev.t 33 (bI .i64 (IntKind.wrap .i64 ((s_0.size : Int) - r1.End)))) rfl) rfl rfl rfl ⟨rfl, trivial⟩ trivial ?_
        refine G.opG1 (op_gtr (Ev.t 28 (bI .u64 r1.N)) (Ev.t 34 (bI .u64 (IntKind.wrap .u64 (IntKind.wrap .i64 ((s_0.size : Int) - r1.End))))) rfl) rfl rfl rfl ⟨rfl, rfl, trivial⟩ trivial ?_
        refine G.op1 (op_pickF (Ev.t 26 (bB false)) (Ev.t 35 (bB (decide ((IntKind.wrap .u64 (IntKind.wrap .i64 ((s_0.size : Int) - r1.End))) < r1.N)))) rfl) rfl ⟨rfl, rfl, trivial⟩ trivial ?_
        refine G.endOps ?_
        exact G.arr (J5 (decide ((IntKind.wrap .u64 (IntKind.wrap .i64 ((s_0.size : Int) - r1.End))) < r1.N)) hF) ⟨rfl, rfl, rfl, rfl, trivial⟩ ⟨rfl, rfl, trivial⟩ rfl
    refine ifS hF (fun hc10 hF => ?_) (fun hc10 hF => ?_)
    · refine G.known (t := 19) hc10 rfl ?_
      refine G.opN1 rfl rfl rfl rfl rfl ?_
      refine G.opN1 rfl rfl rfl rfl rfl ?_
      refine G.opN1 rfl rfl rfl rfl rfl ?_
      refine G.opN1 rfl rfl rfl rfl rfl ?_
      refine G.opN1 rfl rfl rfl rfl rfl ?_
      refine G.op1 (op_pickT (Ev.t 19 (bB true)) (Ev.c _ rfl) rfl) rfl ⟨rfl, trivial⟩ trivial ?_
      exact G.arr (J9 true hF) ⟨rfl, rfl, rfl, rfl, trivial⟩ ⟨rfl, rfl, trivial⟩ rfl
    · refine G.known (t := 19) hc10 rfl ?_
      refine G.opG1 (op_fieldP (off' := 0) Try.underlying87 rfl ti76 (by decide) rfl (Ev.t 7 (.ptr 1007 0)) rfl) rfl rfl rfl ⟨rfl, trivial⟩ trivial ?_
      refine G.opG1 (op_load1P (c := bI .u64 r1.N) Try.underlying76 rfl rfl (Ev.t 20 (.ptr 1007 0)) rfl) rfl rfl rfl ⟨rfl, trivial⟩ ⟨rfl, trivial⟩ ?_
      refine G.opG1 (op_move (Ev.t 2 (bI .i64 most_2)) rfl) rfl rfl rfl ⟨rfl, trivial⟩ trivial ?_
      refine G.opG1 (op_convI Try.underlying3 Try.underlying76 (Ev.t 22 (bI .i64 most_2)) rfl) rfl rfl rfl ⟨rfl, trivial⟩ trivial ?_
      refine G.opG1 (op_gtr (Ev.t 21 (bI .u64 r1.N)) (Ev.t 23 (bI .u64 (IntKind.wrap .u64 most_2))) rfl) rfl rfl rfl ⟨rfl, rfl, trivial⟩ trivial ?_
      refine G.op1 (op_pickF (Ev.t 19 (bB false)) (Ev.t 24 (bB (decide ((IntKind.wrap .u64 most_2) < r1.N)))) rfl) rfl ⟨rfl, rfl, trivial⟩ trivial ?_
      exact G.arr (J9 (decide ((IntKind.wrap .u64 most_2) < r1.N)) hF) ⟨rfl, rfl, rfl, rfl, trivial⟩ ⟨rfl, rfl, trivial⟩ rfl
  refine ifS hF (fun hc12 hF => ?_) (fun hc12 hF => ?_)
  · refine G.known (t := 15) hc12 rfl ?_
    refine G.opN1 rfl rfl rfl rfl rfl ?_
    refine G.opN1 rfl rfl rfl rfl rfl ?_
    refine G.op1 (op_pickT (Ev.t 15 (bB true)) (Ev.c _ rfl) rfl) rfl ⟨rfl, trivial⟩ trivial ?_
    exact G.arr (J11 true hF) ⟨rfl, rfl, rfl, rfl, rfl, trivial⟩ ⟨rfl, rfl, trivial⟩ rfl
  · refine G.known (t := 15) hc12 rfl ?_
    refine G.opG1 (op_move (Ev.t 2 (bI .i64 most_2)) rfl) rfl rfl rfl ⟨rfl, trivial⟩ trivial ?_
    refine G.opG1 (op_lss (Ev.t 16 (bI .i64 most_2)) (Ev.c _ rfl) rfl) rfl rfl rfl ⟨rfl, trivial⟩ trivial ?_
    refine G.op1 (op_pickF (Ev.t 15 (bB false)) (Ev.t 17 (bB (decide (most_2 < 0)))) rfl) rfl ⟨rfl, rfl, trivial⟩ trivial ?_
    exact G.arr (J11 (decide (most_2 < 0)) hF) ⟨rfl, rfl, rfl, rfl, rfl, trivial⟩ ⟨rfl, rfl, trivial⟩ rfl


set_option maxRecDepth 20000 in
set_option maxHeartbeats 2000000 in
theorem ct_ref03_Read (s_0 : ByteArray) (at_1 : Int) (r : Ref03_Got) (hF : ref03_Read s_0 at_1 = some r) : Ct Try.prog 59 [.g (.d (.v (.string s_0))), .g (.d (.v (.int .i64 at_1)))] (.one (.agg (encRef03_Got r))) := by
  unfold ref03_Read at hF
  refine Ct.intro Try.func59 rfl Try.ntmps59 rfl rfl fun M w => ?_
  refine G.seq ?_
  refine G.region ?_
  refine G.op2 (op_alloc (k := 1004) (cs := [bI .i64 0, bI .i64 0, bI .i64 0]) ti93 ⟨.v _ rfl, .v _ rfl, .v _ rfl, trivial⟩ rfl) rfl trivial ⟨rfl, trivial⟩ ?_
  refine G.endOps ?_
  refine G.seq ?_
  refine G.region ?_
  refine G.op1 (op_move (Ev.t 0 (bS s_0)) rfl) rfl ⟨rfl, trivial⟩ trivial ?_
  refine G.op1 (op_move (Ev.t 1 (bI .i64 at_1)) rfl) rfl ⟨rfl, trivial⟩ trivial ?_
  obtain ⟨r1, hr1, hF⟩ := bindS hF
  refine G.op1 (op_callQ (sv := .one (.g (.agg [.v (.int .u64 r1.N), .v (.int .i64 r1.End)]))) cf57 (ct_ref01_Read s_0 at_1 r1 hr1) rfl rfl (EvQL.cons (EvQ.g (Ev.t 9 (bS s_0))) (EvQL.cons (EvQ.g (Ev.t 10 (bI .i64 at_1))) EvQL.nil)) rfl) rfl ⟨rfl, rfl, trivial⟩ trivial ?_
  refine G.op2 (op_alloc (k := 1005) (cs := [bI .u64 0, bI .i64 0]) ti87 ⟨.v _ rfl, .v _ rfl, trivial⟩ rfl) rfl trivial ⟨rfl, trivial⟩ ?_
  refine G.op3 (op_storeA (cs' := [bI .u64 r1.N, bI .i64 r1.End]) ti87 rfl rfl (Ev.t 5 (.ptr 1005 0)) (Ev.t 11 (.g (.agg [.v (.int .u64 r1.N), .v (.int .i64 r1.End)])))) rfl ⟨rfl, rfl, trivial⟩ ⟨rfl, trivial⟩ ?_
  refine G.endOps ?_
  refine G.seq ?_
  refine G.seq ?_
  refine G.region ?_
  refine G.op1 (op_fieldP (off' := 1) Try.underlying87 rfl ti3 (by decide) rfl (Ev.t 5 (.ptr 1005 0)) rfl) rfl ⟨rfl, trivial⟩ trivial ?_
  refine G.op1 (op_load1P (c := bI .i64 r1.End) Try.underlying3 rfl rfl (Ev.t 12 (.ptr 1005 1)) rfl) rfl ⟨rfl, trivial⟩ ⟨rfl, trivial⟩ ?_
  refine G.op1 (op_eqI (Ev.t 13 (bI .i64 r1.End)) (Ev.c _ rfl) rfl) rfl ⟨rfl, trivial⟩ trivial ?_
  refine G.endOps ?_
  refine ifS hF (fun hc2 hF => ?_) (fun hc2 hF => ?_)
  · refine G.cond rfl (fun _ => ?_) (fun hx => by rw [hc2] at hx; cases hx)
    refine G.seq ?_
    refine G.region ?_
    refine G.op1 (op_build (zs := [.v (.int .i64 0), .v (.int .i64 0), .v (.int .i64 0)]) (ds := [.v (.int .i64 0), .v (.int .i64 0), .v (.int .i64 0)]) Try.underlying93 ti93 (pl93 _ Try.underlying93) ⟨.v _ rfl, .v _ rfl, .v _ rfl, trivial⟩ EvP.nil rfl rfl) rfl trivial trivial ?_
    refine G.op3 (op_storeA (cs' := [bI .i64 0, bI .i64 0, bI .i64 0]) ti93 rfl rfl (Ev.t 4 (.ptr 1004 0)) (Ev.t 15 (.g (.agg [.v (.int .i64 0), .v (.int .i64 0), .v (.int .i64 0)])))) rfl ⟨rfl, rfl, trivial⟩ ⟨rfl, trivial⟩ ?_
    refine G.endOps ?_
    cases hF
    exact G.ret1 Try.results59 (RVar.cellA (ds := [.v (.int .i64 0), .v (.int .i64 0), .v (.int .i64 0)]) Try.underlying93 rfl ti93 rfl) ⟨rfl, trivial⟩ ⟨rfl, trivial⟩
  · refine G.cond rfl (fun hx => by rw [hc2] at hx; cases hx) (fun _ => ?_)
    refine G.skip ?_
    refine G.seq ?_
    refine G.region ?_
    refine G.op1 (op_move (Ev.t 0 (bS s_0)) rfl) rfl ⟨rfl, trivial⟩ trivial ?_
    refine G.op1 (op_fieldP (off' := 1) Try.underlying87 rfl ti3 (by decide) rfl (Ev.t 5 (.ptr 1005 0)) rfl) rfl ⟨rfl, trivial⟩ trivial ?_
    refine G.op1 (op_load1P (c := bI .i64 r1.End) Try.underlying3 rfl rfl (Ev.t 17 (.ptr 1005 1)) rfl) rfl ⟨rfl, trivial⟩ ⟨rfl, trivial⟩ ?_
    obtain ⟨r3, hr3, hF⟩ := bindS hF
    refine G.op1 (op_callQ (sv := .one (.g (.agg [.v (.int .u64 r3.N), .v (.int .i64 r3.End)]))) cf57 (ct_ref01_Read s_0 r1.End r3 hr3) rfl rfl (EvQL.cons (EvQ.g (Ev.t 16 (bS s_0))) (EvQL.cons (EvQ.g (Ev.t 18 (bI .i64 r1.End))) EvQL.nil)) rfl) rfl ⟨rfl, rfl, trivial⟩ trivial ?_
    refine G.op2 (op_alloc (k := 1006) (cs := [bI .u64 0, bI .i64 0]) ti87 ⟨.v _ rfl, .v _ rfl, trivial⟩ rfl) rfl trivial ⟨rfl, trivial⟩ ?_
    refine G.op3 (op_storeA (cs' := [bI .u64 r3.N, bI .i64 r3.End]) ti87 rfl rfl (Ev.t 6 (.ptr 1006 0)) (Ev.t 19 (.g (.agg [.v (.int .u64 r3.N), .v (.int .i64 r3.End)])))) rfl ⟨rfl, rfl, trivial⟩ ⟨rfl, trivial⟩ ?_
    refine G.endOps ?_
    refine G.seq ?_
    refine G.seq ?_
    refine G.joinC (T := Bool) (fun y4 => ⟨[(4, .one (.ptr 1004 0)), (5, .one (.ptr 1005 0)), (6, .one (.ptr 1006 0)), (32, .one (bB y4))], [(1004, some (.blk 93 [bI .i64 0, bI .i64 0, bI .i64 0])), (1005, some (.blk 87 [bI .u64 r1.N, bI .i64 r1.End])), (1006, some (.blk 87 [bI .u64 r3.N, bI .i64 r3.End]))]⟩) (fun y4 => ref03_Read_k1 r1 r3 y4 = some r) (fun y4 hF => ?_) (fun J8 => ?_)
    · unfold ref03_Read_k1 at hF
      refine ifS hF (fun hc5 hF => ?_) (fun hc5 hF => ?_)
      · refine G.cond rfl (fun _ => ?_) (fun hx => by rw [hc5] at hx; cases hx)
        refine G.seq ?_
        refine G.region ?_
        refine G.op1 (op_build (zs := [.v (.int .i64 0), .v (.int .i64 0), .v (.int .i64 0)]) (ds := [.v (.int .i64 0), .v (.int .i64 0), .v (.int .i64 0)]) Try.underlying93 ti93 (pl93 _ Try.underlying93) ⟨.v _ rfl, .v _ rfl, .v _ rfl, trivial⟩ EvP.nil rfl rfl) rfl trivial trivial ?_
        refine G.op3 (op_storeA (cs' := [bI .i64 0, bI .i64 0, bI .i64 0]) ti93 rfl rfl (Ev.t 4 (.ptr 1004 0)) (Ev.t 33 (.g (.agg [.v (.int .i64 0), .v (.int .i64 0), .v (.int .i64 0)])))) rfl ⟨rfl, rfl, trivial⟩ ⟨rfl, trivial⟩ ?_
        refine G.endOps ?_
        cases hF
        exact G.ret1 Try.results59 (RVar.cellA (ds := [.v (.int .i64 0), .v (.int .i64 0), .v (.int .i64 0)]) Try.underlying93 rfl ti93 rfl) ⟨rfl, trivial⟩ ⟨rfl, trivial⟩
      · refine G.cond rfl (fun hx => by rw [hc5] at hx; cases hx) (fun _ => ?_)
        refine G.skip ?_
        refine G.seq ?_
        refine G.region ?_
        refine G.op1 (op_fieldP (off' := 0) Try.underlying87 rfl ti76 (by decide) rfl (Ev.t 5 (.ptr 1005 0)) rfl) rfl ⟨rfl, trivial⟩ trivial ?_
        refine G.op1 (op_load1P (c := bI .u64 r1.N) Try.underlying76 rfl rfl (Ev.t 34 (.ptr 1005 0)) rfl) rfl ⟨rfl, trivial⟩ ⟨rfl, trivial⟩ ?_
        refine G.op1 (op_convI Try.underlying76 Try.underlying3 (Ev.t 35 (bI .u64 r1.N)) rfl) rfl ⟨rfl, trivial⟩ trivial ?_
        refine G.op1 (op_fieldP (off' := 0) Try.underlying87 rfl ti76 (by decide) rfl (Ev.t 6 (.ptr 1006 0)) rfl) rfl ⟨rfl, trivial⟩ trivial ?_
        refine G.op1 (op_load1P (c := bI .u64 r3.N) Try.underlying76 rfl rfl (Ev.t 37 (.ptr 1006 0)) rfl) rfl ⟨rfl, trivial⟩ ⟨rfl, trivial⟩ ?_
        refine G.op1 (op_convI Try.underlying76 Try.underlying3 (Ev.t 38 (bI .u64 r3.N)) rfl) rfl ⟨rfl, trivial⟩ trivial ?_
        refine G.op1 (op_build (zs := [.v (.int .i64 0), .v (.int .i64 0)]) (ds := [.v (.int .i64 (IntKind.wrap .i64 r1.N)), .v (.int .i64 (IntKind.wrap .i64 r3.N))]) Try.underlying24 ti24 (pl24 _ Try.underlying24) ⟨.v _ rfl, .v _ rfl, trivial⟩ (EvP.cons (Ev.t 36 (bI .i64 (IntKind.wrap .i64 r1.N))) (EvP.cons (Ev.t 39 (bI .i64 (IntKind.wrap .i64 r3.N))) EvP.nil)) rfl rfl) rfl ⟨rfl, rfl, trivial⟩ trivial ?_
        refine G.op2 (op_alloc (k := 1007) (cs := [bI .i64 0, bI .i64 0]) ti24 ⟨.v _ rfl, .v _ rfl, trivial⟩ rfl) rfl trivial ⟨rfl, trivial⟩ ?_
        refine G.op3 (op_storeA (cs' := [bI .i64 (IntKind.wrap .i64 r1.N), bI .i64 (IntKind.wrap .i64 r3.N)]) ti24 rfl rfl (Ev.t 7 (.ptr 1007 0)) (Ev.t 40 (.g (.agg [.v (.int .i64 (IntKind.wrap .i64 r1.N)), .v (.int .i64 (IntKind.wrap .i64 r3.N))])))) rfl ⟨rfl, rfl, trivial⟩ ⟨rfl, trivial⟩ ?_
        refine G.endOps ?_
        refine G.seq ?_
        refine G.region ?_
        refine G.op1 (op_loadAP (ds := [.v (.int .i64 (IntKind.wrap .i64 r1.N)), .v (.int .i64 (IntKind.wrap .i64 r3.N))]) Try.underlying24 rfl ti24 rfl (Ev.t 7 (.ptr 1007 0)) rfl) rfl ⟨rfl, trivial⟩ ⟨rfl, trivial⟩ ?_
        obtain ⟨r6, hr6, hF⟩ := bindS hF
        refine G.op1 (op_callQ (sv := .one (bB r6)) cf40 (ct_ref03_Check (Api_Stamp.mk (IntKind.wrap .i64 r1.N) (IntKind.wrap .i64 r3.N)) r6 hr6) rfl rfl (EvQL.cons (EvQ.g (Ev.t 41 (.g (.agg [.v (.int .i64 (IntKind.wrap .i64 r1.N)), .v (.int .i64 (IntKind.wrap .i64 r3.N))])))) EvQL.nil) rfl) rfl ⟨rfl, trivial⟩ trivial ?_
        refine G.op1 (op_assign (Ev.t 42 (bB r6)) rfl) rfl ⟨rfl, trivial⟩ trivial ?_
        refine G.endOps ?_
        refine G.seq ?_
        refine G.seq ?_
        refine G.region ?_
        refine G.op1 (op_move (Ev.t 8 (bB r6)) rfl) rfl ⟨rfl, trivial⟩ trivial ?_
        refine G.op1 (op_not (Ev.t 43 (bB r6)) rfl) rfl ⟨rfl, trivial⟩ trivial ?_
        refine G.endOps ?_
        refine ifS hF (fun hc7 hF => ?_) (fun hc7 hF => ?_)
        · refine G.cond rfl (fun _ => ?_) (fun hx => by rw [hc7] at hx; cases hx)
          refine G.seq ?_
          refine G.region ?_
          refine G.op1 (op_build (zs := [.v (.int .i64 0), .v (.int .i64 0), .v (.int .i64 0)]) (ds := [.v (.int .i64 0), .v (.int .i64 0), .v (.int .i64 0)]) Try.underlying93 ti93 (pl93 _ Try.underlying93) ⟨.v _ rfl, .v _ rfl, .v _ rfl, trivial⟩ EvP.nil rfl rfl) rfl trivial trivial ?_
          refine G.op3 (op_storeA (cs' := [bI .i64 0, bI .i64 0, bI .i64 0]) ti93 rfl rfl (Ev.t 4 (.ptr 1004 0)) (Ev.t 45 (.g (.agg [.v (.int .i64 0), .v (.int .i64 0), .v (.int .i64 0)])))) rfl ⟨rfl, rfl, trivial⟩ ⟨rfl, trivial⟩ ?_
          refine G.endOps ?_
          cases hF
          exact G.ret1 Try.results59 (RVar.cellA (ds := [.v (.int .i64 0), .v (.int .i64 0), .v (.int .i64 0)]) Try.underlying93 rfl ti93 rfl) ⟨rfl, trivial⟩ ⟨rfl, trivial⟩
        · refine G.cond rfl (fun hx => by rw [hc7] at hx; cases hx) (fun _ => ?_)
          refine G.skip ?_
          refine G.seq ?_
          refine G.region ?_
          refine G.op1 (op_loadAP (ds := [.v (.int .i64 (IntKind.wrap .i64 r1.N)), .v (.int .i64 (IntKind.wrap .i64 r3.N))]) Try.underlying24 rfl ti24 rfl (Ev.t 7 (.ptr 1007 0)) rfl) rfl ⟨rfl, trivial⟩ ⟨rfl, trivial⟩ ?_
          refine G.op1 (op_fieldP (off' := 1) Try.underlying87 rfl ti3 (by decide) rfl (Ev.t 6 (.ptr 1006 0)) rfl) rfl ⟨rfl, trivial⟩ trivial ?_
          refine G.op1 (op_load1P (c := bI .i64 r3.End) Try.underlying3 rfl rfl (Ev.t 47 (.ptr 1006 1)) rfl) rfl ⟨rfl, trivial⟩ ⟨rfl, trivial⟩ ?_
          refine G.op1 (op_build (zs := [.v (.int .i64 0), .v (.int .i64 0), .v (.int .i64 0)]) (ds := [.v (.int .i64 (IntKind.wrap .i64 r1.N)), .v (.int .i64 (IntKind.wrap .i64 r3.N)), .v (.int .i64 r3.End)]) Try.underlying93 ti93 (pl93 _ Try.underlying93) ⟨.v _ rfl, .v _ rfl, .v _ rfl, trivial⟩ (EvP.cons (Ev.t 46 (.g (.agg [.v (.int .i64 (IntKind.wrap .i64 r1.N)), .v (.int .i64 (IntKind.wrap .i64 r3.N))]))) (EvP.cons (Ev.t 48 (bI .i64 r3.End)) EvP.nil)) rfl rfl) rfl ⟨rfl, rfl, trivial⟩ trivial ?_
          refine G.op3 (op_storeA (cs' := [bI .i64 (IntKind.wrap .i64 r1.N), bI .i64 (IntKind.wrap .i64 r3.N), bI .i64 r3.End]) ti93 rfl rfl (Ev.t 4 (.ptr 1004 0)) (Ev.t 49 (.g (.agg [.v (.int .i64 (IntKind.wrap .i64 r1.N)), .v (.int .i64 (IntKind.wrap .i64 r3.N)), .v (.int .i64 r3.End)])))) rfl ⟨rfl, rfl, trivial⟩ ⟨rfl, trivial⟩ ?_
          refine G.endOps ?_
          cases hF
          exact G.ret1 Try.results59 (RVar.cellA (ds := [.v (.int .i64 (IntKind.wrap .i64 r1.N)), .v (.int .i64 (IntKind.wrap .i64 r3.N)), .v (.int .i64 r3.End)]) Try.underlying93 rfl ti93 rfl) ⟨rfl, trivial⟩ ⟨rfl, trivial⟩
    refine G.region ?_
    refine G.op1 (op_fieldP (off' := 1) Try.underlying87 rfl ti3 (by decide) rfl (Ev.t 6 (.ptr 1006 0)) rfl) rfl ⟨rfl, trivial⟩ trivial ?_
    refine G.op1 (op_load1P (c := bI .i64 r3.End) Try.underlying3 rfl rfl (Ev.t 20 (.ptr 1006 1)) rfl) rfl ⟨rfl, trivial⟩ ⟨rfl, trivial⟩ ?_
    refine G.op1 (op_eqI (Ev.t 21 (bI .i64 r3.End)) (Ev.c _ rfl) rfl) rfl ⟨rfl, trivial⟩ trivial ?_
    refine G.op1 (op_move (Ev.t 22 (bB (decide (r3.End = 0)))) rfl) rfl ⟨rfl, trivial⟩ trivial ?_
    refine G.joinL (T := Bool) 4 (fun y9 => ⟨[(4, .one (.ptr 1004 0)), (5, .one (.ptr 1005 0)), (6, .one (.ptr 1006 0)), (27, .one (bB y9))], [(1004, some (.blk 93 [bI .i64 0, bI .i64 0, bI .i64 0])), (1005, some (.blk 87 [bI .u64 r1.N, bI .i64 r1.End])), (1006, some (.blk 87 [bI .u64 r3.N, bI .i64 r3.End]))]⟩) (fun y9 => ref03_Read_k2 r1 r3 y9 = some r) (fun y9 hF => ?_) (fun J11 => ?_)
    · unfold ref03_Read_k2 at hF
      refine G.op1 (op_move (Ev.t 27 (bB y9)) rfl) rfl ⟨rfl, trivial⟩ trivial ?_
      refine ifS hF (fun hc10 hF => ?_) (fun hc10 hF => ?_)
      · refine G.known (t := 28) hc10 rfl ?_
        refine G.opN1 rfl rfl rfl rfl rfl ?_
        refine G.opN1 rfl rfl rfl rfl rfl ?_
        refine G.opN1 rfl rfl rfl rfl rfl ?_
        refine G.op1 (op_pickT (Ev.t 28 (bB true)) (Ev.c _ rfl) rfl) rfl ⟨rfl, trivial⟩ trivial ?_
        refine G.endOps ?_
        exact G.arr (J8 true hF) ⟨rfl, rfl, rfl, rfl, trivial⟩ ⟨rfl, rfl, rfl, trivial⟩ rfl
      · refine G.known (t := 28) hc10 rfl ?_
        refine G.opG1 (op_fieldP (off' := 0) Try.underlying87 rfl ti76 (by decide) rfl (Ev.t 6 (.ptr 1006 0)) rfl) rfl rfl rfl ⟨rfl, trivial⟩ trivial ?_
        refine G.opG1 (op_load1P (c := bI .u64 r3.N) Try.underlying76 rfl rfl (Ev.t 29 (.ptr 1006 0)) rfl) rfl rfl rfl ⟨rfl, trivial⟩ ⟨rfl, trivial⟩ ?_
        refine G.opG1 (op_gtr (Ev.t 30 (bI .u64 r3.N)) (Ev.c _ rfl) rfl) rfl rfl rfl ⟨rfl, trivial⟩ trivial ?_
        refine G.op1 (op_pickF (Ev.t 28 (bB false)) (Ev.t 31 (bB (decide (5 < r3.N)))) rfl) rfl ⟨rfl, rfl, trivial⟩ trivial ?_
        refine G.endOps ?_
        exact G.arr (J8 (decide (5 < r3.N)) hF) ⟨rfl, rfl, rfl, rfl, trivial⟩ ⟨rfl, rfl, rfl, trivial⟩ rfl
    refine ifS hF (fun hc12 hF => ?_) (fun hc12 hF => ?_)
    · refine G.known (t := 23) hc12 rfl ?_
      refine G.opN1 rfl rfl rfl rfl rfl ?_
      refine G.opN1 rfl rfl rfl rfl rfl ?_
      refine G.opN1 rfl rfl rfl rfl rfl ?_
      refine G.op1 (op_pickT (Ev.t 23 (bB true)) (Ev.c _ rfl) rfl) rfl ⟨rfl, trivial⟩ trivial ?_
      exact G.arr (J11 true hF) ⟨rfl, rfl, rfl, rfl, trivial⟩ ⟨rfl, rfl, rfl, trivial⟩ rfl
    · refine G.known (t := 23) hc12 rfl ?_
      refine G.opG1 (op_fieldP (off' := 0) Try.underlying87 rfl ti76 (by decide) rfl (Ev.t 5 (.ptr 1005 0)) rfl) rfl rfl rfl ⟨rfl, trivial⟩ trivial ?_
      refine G.opG1 (op_load1P (c := bI .u64 r1.N) Try.underlying76 rfl rfl (Ev.t 24 (.ptr 1005 0)) rfl) rfl rfl rfl ⟨rfl, trivial⟩ ⟨rfl, trivial⟩ ?_
      refine G.opG1 (op_gtr (Ev.t 25 (bI .u64 r1.N)) (Ev.c _ rfl) rfl) rfl rfl rfl ⟨rfl, trivial⟩ trivial ?_
      refine G.op1 (op_pickF (Ev.t 23 (bB false)) (Ev.t 26 (bB (decide (1099511627776 < r1.N)))) rfl) rfl ⟨rfl, rfl, trivial⟩ trivial ?_
      exact G.arr (J11 (decide (1099511627776 < r1.N)) hF) ⟨rfl, rfl, rfl, rfl, trivial⟩ ⟨rfl, rfl, rfl, trivial⟩ rfl


set_option maxRecDepth 20000 in
set_option maxHeartbeats 2000000 in
theorem ct_ref04_Read (s_0 : ByteArray) (at_1 : Int) (r : Ref04_Got) (hF : ref04_Read s_0 at_1 = some r) : Ct Try.prog 28 [.g (.d (.v (.string s_0))), .g (.d (.v (.int .i64 at_1)))] (.one (.agg (encRef04_Got r))) := by
  unfold ref04_Read at hF
  refine Ct.intro Try.func28 rfl Try.ntmps28 rfl rfl fun M w => ?_
  refine G.seq ?_
  refine G.region ?_
  refine G.op2 (op_alloc (k := 1004) (cs := [.g (.d (.sl 3 (List.map encApi_Dep ([] : (List Api_Dep))))), bI .i64 0]) ti52 ⟨.n 3, .v _ rfl, trivial⟩ rfl) rfl trivial ⟨rfl, trivial⟩ ?_
  refine G.endOps ?_
  refine G.seq ?_
  refine G.region ?_
  refine G.op1 (op_move (Ev.t 0 (bS s_0)) rfl) rfl ⟨rfl, trivial⟩ trivial ?_
  refine G.op1 (op_move (Ev.t 1 (bI .i64 at_1)) rfl) rfl ⟨rfl, trivial⟩ trivial ?_
  obtain ⟨r1, hr1, hF⟩ := bindS hF
  refine G.op1 (op_callQ (sv := .one (.g (.agg [.v (.int .u64 r1.N), .v (.int .i64 r1.End)]))) cf57 (ct_ref01_Read s_0 at_1 r1 hr1) rfl rfl (EvQL.cons (EvQ.g (Ev.t 11 (bS s_0))) (EvQL.cons (EvQ.g (Ev.t 12 (bI .i64 at_1))) EvQL.nil)) rfl) rfl ⟨rfl, rfl, trivial⟩ trivial ?_
  refine G.op2 (op_alloc (k := 1005) (cs := [bI .u64 0, bI .i64 0]) ti87 ⟨.v _ rfl, .v _ rfl, trivial⟩ rfl) rfl trivial ⟨rfl, trivial⟩ ?_
  refine G.op3 (op_storeA (cs' := [bI .u64 r1.N, bI .i64 r1.End]) ti87 rfl rfl (Ev.t 5 (.ptr 1005 0)) (Ev.t 13 (.g (.agg [.v (.int .u64 r1.N), .v (.int .i64 r1.End)])))) rfl ⟨rfl, rfl, trivial⟩ ⟨rfl, trivial⟩ ?_
  refine G.endOps ?_
  refine G.seq ?_
  refine G.seq ?_
  refine G.joinC (T := Bool) (fun y2 => ⟨[(0, .one (bS s_0)), (4, .one (.ptr 1004 0)), (5, .one (.ptr 1005 0)), (21, .one (bB y2))], [(1004, some (.blk 52 [.g (.d (.sl 3 (List.map encApi_Dep ([] : (List Api_Dep))))), bI .i64 0])), (1005, some (.blk 87 [bI .u64 r1.N, bI .i64 r1.End]))]⟩) (fun y2 => ref04_Read_k1 s_0 r1 y2 = some r) (fun y2 hF => ?_) (fun J18 => ?_)
  · unfold ref04_Read_k1 at hF
    refine ifS hF (fun hc3 hF => ?_) (fun hc3 hF => ?_)
    · refine G.cond rfl (fun _ => ?_) (fun hx => by rw [hc3] at hx; cases hx)
      refine G.seq ?_
      refine G.region ?_
      refine G.op1 (op_build (zs := [.sl 3 (List.map encApi_Dep ([] : (List Api_Dep))), .v (.int .i64 0)]) (ds := [.sl 3 (List.map encApi_Dep ([] : (List Api_Dep))), .v (.int .i64 0)]) Try.underlying52 ti52 (pl52 _ Try.underlying52) ⟨.n 3, .v _ rfl, trivial⟩ EvP.nil rfl rfl) rfl trivial trivial ?_
      refine G.op3 (op_storeA (cs' := [.g (.d (.sl 3 (List.map encApi_Dep ([] : (List Api_Dep))))), bI .i64 0]) ti52 rfl rfl (Ev.t 4 (.ptr 1004 0)) (Ev.t 22 (.g (.agg [.sl 3 (List.map encApi_Dep ([] : (List Api_Dep))), .v (.int .i64 0)])))) rfl ⟨rfl, rfl, trivial⟩ ⟨rfl, trivial⟩ ?_
      refine G.endOps ?_
      cases hF
      exact G.ret1 Try.results28 (RVar.cellA (ds := [.sl 3 (List.map encApi_Dep ([] : (List Api_Dep))), .v (.int .i64 0)]) Try.underlying52 rfl ti52 rfl) ⟨rfl, trivial⟩ ⟨rfl, trivial⟩
    · refine G.cond rfl (fun hx => by rw [hc3] at hx; cases hx) (fun _ => ?_)
      refine G.skip ?_
      refine G.seq ?_
      refine G.region ?_
      refine G.op1 (op_fieldP (off' := 1) Try.underlying87 rfl ti3 (by decide) rfl (Ev.t 5 (.ptr 1005 0)) rfl) rfl ⟨rfl, trivial⟩ trivial ?_
      refine G.op1 (op_load1P (c := bI .i64 r1.End) Try.underlying3 rfl rfl (Ev.t 23 (.ptr 1005 1)) rfl) rfl ⟨rfl, trivial⟩ ⟨rfl, trivial⟩ ?_
      refine G.op1 (op_build (zs := [.v (.slice none 0 0), .v (.int .i64 0)]) (ds := [.v (.slice none 0 0), .v (.int .i64 r1.End)]) Try.underlying52 ti52 (pl52 _ Try.underlying52) ⟨.v _ rfl, .v _ rfl, trivial⟩ (EvP.cons (Ev.t 24 (bI .i64 r1.End)) EvP.nil) rfl rfl) rfl ⟨rfl, trivial⟩ trivial ?_
      refine G.op2 (op_alloc (k := 1006) (cs := [.g (.d (.v (.slice none 0 0))), bI .i64 0]) ti52 ⟨.v _ rfl, .v _ rfl, trivial⟩ rfl) rfl trivial ⟨rfl, trivial⟩ ?_
      refine G.op3 (op_storeA (cs' := [.g (.d (.v (.slice none 0 0))), bI .i64 r1.End]) ti52 rfl rfl (Ev.t 6 (.ptr 1006 0)) (Ev.t 25 (.g (.agg [.v (.slice none 0 0), .v (.int .i64 r1.End)])))) rfl ⟨rfl, rfl, trivial⟩ ⟨rfl, trivial⟩ ?_
      refine G.rowCell (kb := 1006) (kk := 5096) (E := 26) (size := 3) (j := 0) (cs' := [.own 5096 (List.map encApi_Dep ([] : List Api_Dep)), bI .i64 r1.End]) rfl rfl rfl rfl rfl rfl ?_
      refine G.endOps ?_
      refine G.seq ?_
      refine G.seq ?_
      refine G.region ?_
      refine G.op1 (op_assign (Ev.c _ rfl) rfl) rfl trivial trivial ?_
      refine G.endOps ?_
      refine G.joinC (T := Int × (List Api_Dep)) (fun y4 => ⟨[(4, .one (.ptr 1004 0)), (6, .one (.ptr 1006 0))], [(1004, some (.blk 52 [.g (.d (.sl 3 (List.map encApi_Dep ([] : (List Api_Dep))))), bI .i64 0])), (1006, some (.blk 52 [.own 5096 (List.map encApi_Dep y4.2), bI .i64 y4.1])), (5096, some (.row 26 3 (List.map encApi_Dep y4.2) false))]⟩) (fun y4 => ref04_Read_k2 y4 = some r) (fun y4 hF => ?_) (fun J7 => ?_)
      · unfold ref04_Read_k2 at hF
        refine G.seq ?_
        refine G.region ?_
        refine G.op1 (op_fieldP (off' := 0) Try.underlying52 rfl ti22 (by decide) rfl (Ev.t 6 (.ptr 1006 0)) rfl) rfl ⟨rfl, trivial⟩ trivial ?_
        refine G.op1 (op_load1P (c := .own 5096 (List.map encApi_Dep y4.2)) Try.underlying22 rfl rfl (Ev.t 61 (.ptr 1006 0)) rfl) rfl ⟨rfl, trivial⟩ ⟨rfl, trivial⟩ ?_
        obtain ⟨r5, hr5, hF⟩ := bindS hF
        refine G.op1 (op_callQ (sv := .one (bB r5)) cf24 (ct_ref04_Check y4.2 r5 hr5) rfl rfl (EvQL.cons (EvQ.own (Ev.t 62 (.own 5096 (List.map encApi_Dep y4.2)))) EvQL.nil) rfl) rfl ⟨rfl, trivial⟩ ⟨rfl, trivial⟩ ?_
        refine G.op1 (op_assign (Ev.t 63 (bB r5)) rfl) rfl ⟨rfl, trivial⟩ trivial ?_
        refine G.endOps ?_
        refine G.seq ?_
        refine G.seq ?_
        refine G.region ?_
        refine G.op1 (op_move (Ev.t 10 (bB r5)) rfl) rfl ⟨rfl, trivial⟩ trivial ?_
        refine G.op1 (op_not (Ev.t 64 (bB r5)) rfl) rfl ⟨rfl, trivial⟩ trivial ?_
        refine G.endOps ?_
        refine ifS hF (fun hc6 hF => ?_) (fun hc6 hF => ?_)
        · refine G.cond rfl (fun _ => ?_) (fun hx => by rw [hc6] at hx; cases hx)
          refine G.seq ?_
          refine G.region ?_
          refine G.op1 (op_build (zs := [.sl 3 (List.map encApi_Dep ([] : (List Api_Dep))), .v (.int .i64 0)]) (ds := [.sl 3 (List.map encApi_Dep ([] : (List Api_Dep))), .v (.int .i64 0)]) Try.underlying52 ti52 (pl52 _ Try.underlying52) ⟨.n 3, .v _ rfl, trivial⟩ EvP.nil rfl rfl) rfl trivial trivial ?_
          refine G.op3 (op_storeA (cs' := [.g (.d (.sl 3 (List.map encApi_Dep ([] : (List Api_Dep))))), bI .i64 0]) ti52 rfl rfl (Ev.t 4 (.ptr 1004 0)) (Ev.t 66 (.g (.agg [.sl 3 (List.map encApi_Dep ([] : (List Api_Dep))), .v (.int .i64 0)])))) rfl ⟨rfl, rfl, trivial⟩ ⟨rfl, trivial⟩ ?_
          refine G.endOps ?_
          cases hF
          exact G.ret1 Try.results28 (RVar.cellA (ds := [.sl 3 (List.map encApi_Dep ([] : (List Api_Dep))), .v (.int .i64 0)]) Try.underlying52 rfl ti52 rfl) ⟨rfl, trivial⟩ ⟨rfl, trivial⟩
        · refine G.cond rfl (fun hx => by rw [hc6] at hx; cases hx) (fun _ => ?_)
          refine G.skip ?_
          refine G.seq ?_
          refine G.region ?_
          refine G.viewCell (kb := 1006) (j := 0) (cs' := [.g (.d (.sl 3 (List.map encApi_Dep y4.2))), bI .i64 y4.1]) rfl rfl rfl rfl ?_
          refine G.op1 (op_loadAP (ds := [.sl 3 (List.map encApi_Dep y4.2), .v (.int .i64 y4.1)]) Try.underlying52 rfl ti52 rfl (Ev.t 6 (.ptr 1006 0)) rfl) rfl ⟨rfl, trivial⟩ ⟨rfl, trivial⟩ ?_
          refine G.op3 (op_storeA (cs' := [.g (.d (.sl 3 (List.map encApi_Dep y4.2))), bI .i64 y4.1]) ti52 rfl rfl (Ev.t 4 (.ptr 1004 0)) (Ev.t 67 (.g (.agg [.sl 3 (List.map encApi_Dep y4.2), .v (.int .i64 y4.1)])))) rfl ⟨rfl, rfl, trivial⟩ ⟨rfl, trivial⟩ ?_
          refine G.endOps ?_
          cases hF
          exact G.ret1 Try.results28 (RVar.cellA (ds := [.sl 3 (List.map encApi_Dep y4.2), .v (.int .i64 y4.1)]) Try.underlying52 rfl ti52 rfl) ⟨rfl, trivial⟩ ⟨rfl, trivial⟩
      refine G.block ?_
      refine G.keep (sl' := [(0, .one (bS s_0)), (4, .one (.ptr 1004 0)), (5, .one (.ptr 1005 0)), (6, .one (.ptr 1006 0)), (7, .one (bI .u64 0))]) (hp' := [(1004, some (.blk 52 [.g (.d (.sl 3 (List.map encApi_Dep ([] : (List Api_Dep))))), bI .i64 0])), (1005, some (.blk 87 [bI .u64 r1.N, bI .i64 r1.End])), (1006, some (.blk 52 [.own 5096 (List.map encApi_Dep ([] : List Api_Dep)), bI .i64 r1.End])), (5096, some (.row 26 3 (List.map encApi_Dep ([] : List Api_Dep)) false))]) ⟨rfl, rfl, rfl, rfl, rfl, trivial⟩ ⟨rfl, rfl, rfl, rfl, trivial⟩ rfl ?_
      refine G.loopF (fun (v8 : Int × Int × (List Api_Dep)) => ⟨[(0, .one (bS s_0)), (4, .one (.ptr 1004 0)), (5, .one (.ptr 1005 0)), (6, .one (.ptr 1006 0)), (7, .one (bI .u64 v8.1))], [(1004, some (.blk 52 [.g (.d (.sl 3 (List.map encApi_Dep ([] : (List Api_Dep))))), bI .i64 0])), (1005, some (.blk 87 [bI .u64 r1.N, bI .i64 r1.End])), (1006, some (.blk 52 [.own 5096 (List.map encApi_Dep v8.2.2), bI .i64 v8.2.1])), (5096, some (.row 26 3 (List.map encApi_Dep v8.2.2) false))]⟩) hF rfl (fun K11 again10 v8 J9 hF => ?_)
      unfold ref04_Read_l3 at hF
      refine G.seq ?_
      refine G.seq ?_
      refine G.region ?_
      refine G.op1 (op_move (Ev.t 7 (bI .u64 v8.1)) rfl) rfl ⟨rfl, trivial⟩ trivial ?_
      refine G.op1 (op_fieldP (off' := 0) Try.underlying87 rfl ti76 (by decide) rfl (Ev.t 5 (.ptr 1005 0)) rfl) rfl ⟨rfl, trivial⟩ trivial ?_
      refine G.op1 (op_load1P (c := bI .u64 r1.N) Try.underlying76 rfl rfl (Ev.t 27 (.ptr 1005 0)) rfl) rfl ⟨rfl, trivial⟩ ⟨rfl, trivial⟩ ?_
      refine G.op1 (op_lss (Ev.t 26 (bI .u64 v8.1)) (Ev.t 28 (bI .u64 r1.N)) rfl) rfl ⟨rfl, rfl, trivial⟩ trivial ?_
      refine G.endOps ?_
      refine ifS hF (fun hc12 hF => ?_) (fun hc12 hF => ?_)
      · refine G.cond rfl (fun _ => ?_) (fun hx => by rw [hc12] at hx; cases hx)
        refine G.skip ?_
        refine G.seq ?_
        refine G.block ?_
        refine G.seq ?_
        refine G.region ?_
        refine G.op1 (op_move (Ev.t 0 (bS s_0)) rfl) rfl ⟨rfl, trivial⟩ trivial ?_
        refine G.op1 (op_fieldP (off' := 1) Try.underlying52 rfl ti3 (by decide) rfl (Ev.t 6 (.ptr 1006 0)) rfl) rfl ⟨rfl, trivial⟩ trivial ?_
        refine G.op1 (op_load1P (c := bI .i64 v8.2.1) Try.underlying3 rfl rfl (Ev.t 33 (.ptr 1006 1)) rfl) rfl ⟨rfl, trivial⟩ ⟨rfl, trivial⟩ ?_
        obtain ⟨r13, hr13, hF⟩ := bindS hF
        refine G.op1 (op_callQ (sv := .one (.g (.agg [.v (.string r13.S), .v (.int .i64 r13.End)]))) cf58 (ct_ref01_ReadText s_0 v8.2.1 32 r13 hr13) rfl rfl (EvQL.cons (EvQ.g (Ev.t 32 (bS s_0))) (EvQL.cons (EvQ.g (Ev.t 34 (bI .i64 v8.2.1))) (EvQL.cons (EvQ.g (Ev.c _ rfl)) EvQL.nil))) rfl) rfl ⟨rfl, rfl, trivial⟩ trivial ?_
        refine G.op2 (op_alloc (k := 1008) (cs := [bS ByteArray.empty, bI .i64 0]) ti90 ⟨.v _ rfl, .v _ rfl, trivial⟩ rfl) rfl trivial ⟨rfl, trivial⟩ ?_
        refine G.op3 (op_storeA (cs' := [bS r13.S, bI .i64 r13.End]) ti90 rfl rfl (Ev.t 8 (.ptr 1008 0)) (Ev.t 35 (.g (.agg [.v (.string r13.S), .v (.int .i64 r13.End)])))) rfl ⟨rfl, rfl, trivial⟩ ⟨rfl, trivial⟩ ?_
        refine G.endOps ?_
        refine G.seq ?_
        refine G.seq ?_
        refine G.region ?_
        refine G.op1 (op_fieldP (off' := 1) Try.underlying90 rfl ti3 (by decide) rfl (Ev.t 8 (.ptr 1008 0)) rfl) rfl ⟨rfl, trivial⟩ trivial ?_
        refine G.op1 (op_load1P (c := bI .i64 r13.End) Try.underlying3 rfl rfl (Ev.t 36 (.ptr 1008 1)) rfl) rfl ⟨rfl, trivial⟩ ⟨rfl, trivial⟩ ?_
        refine G.op1 (op_eqI (Ev.t 37 (bI .i64 r13.End)) (Ev.c _ rfl) rfl) rfl ⟨rfl, trivial⟩ trivial ?_
        refine G.endOps ?_
        refine ifS hF (fun hc14 hF => ?_) (fun hc14 hF => ?_)
        · refine G.cond rfl (fun _ => ?_) (fun hx => by rw [hc14] at hx; cases hx)
          refine G.seq ?_
          refine G.region ?_
          refine G.op1 (op_build (zs := [.sl 3 (List.map encApi_Dep ([] : (List Api_Dep))), .v (.int .i64 0)]) (ds := [.sl 3 (List.map encApi_Dep ([] : (List Api_Dep))), .v (.int .i64 0)]) Try.underlying52 ti52 (pl52 _ Try.underlying52) ⟨.n 3, .v _ rfl, trivial⟩ EvP.nil rfl rfl) rfl trivial trivial ?_
          refine G.op3 (op_storeA (cs' := [.g (.d (.sl 3 (List.map encApi_Dep ([] : (List Api_Dep))))), bI .i64 0]) ti52 rfl rfl (Ev.t 4 (.ptr 1004 0)) (Ev.t 39 (.g (.agg [.sl 3 (List.map encApi_Dep ([] : (List Api_Dep))), .v (.int .i64 0)])))) rfl ⟨rfl, rfl, trivial⟩ ⟨rfl, trivial⟩ ?_
          refine G.endOps ?_
          cases hF
          exact G.ret1 Try.results28 (RVar.cellA (ds := [.sl 3 (List.map encApi_Dep ([] : (List Api_Dep))), .v (.int .i64 0)]) Try.underlying52 rfl ti52 rfl) ⟨rfl, trivial⟩ ⟨rfl, trivial⟩
        · refine G.cond rfl (fun hx => by rw [hc14] at hx; cases hx) (fun _ => ?_)
          refine G.skip ?_
          refine G.seq ?_
          refine G.region ?_
          refine G.op1 (op_move (Ev.t 0 (bS s_0)) rfl) rfl ⟨rfl, trivial⟩ trivial ?_
          refine G.op1 (op_fieldP (off' := 1) Try.underlying90 rfl ti3 (by decide) rfl (Ev.t 8 (.ptr 1008 0)) rfl) rfl ⟨rfl, trivial⟩ trivial ?_
          refine G.op1 (op_load1P (c := bI .i64 r13.End) Try.underlying3 rfl rfl (Ev.t 41 (.ptr 1008 1)) rfl) rfl ⟨rfl, trivial⟩ ⟨rfl, trivial⟩ ?_
          obtain ⟨r15, hr15, hF⟩ := bindS hF
          refine G.op1 (op_callQ (sv := .one (.g (.agg [.v (.int .i64 r15.S.N), .v (.int .i64 r15.S.Site), .v (.int .i64 r15.End)]))) cf59 (ct_ref03_Read s_0 r13.End r15 hr15) rfl rfl (EvQL.cons (EvQ.g (Ev.t 40 (bS s_0))) (EvQL.cons (EvQ.g (Ev.t 42 (bI .i64 r13.End))) EvQL.nil)) rfl) rfl ⟨rfl, rfl, trivial⟩ trivial ?_
          refine G.op2 (op_alloc (k := 1009) (cs := [bI .i64 0, bI .i64 0, bI .i64 0]) ti93 ⟨.v _ rfl, .v _ rfl, .v _ rfl, trivial⟩ rfl) rfl trivial ⟨rfl, trivial⟩ ?_
          refine G.op3 (op_storeA (cs' := [bI .i64 r15.S.N, bI .i64 r15.S.Site, bI .i64 r15.End]) ti93 rfl rfl (Ev.t 9 (.ptr 1009 0)) (Ev.t 43 (.g (.agg [.v (.int .i64 r15.S.N), .v (.int .i64 r15.S.Site), .v (.int .i64 r15.End)])))) rfl ⟨rfl, rfl, trivial⟩ ⟨rfl, trivial⟩ ?_
          refine G.endOps ?_
          refine G.seq ?_
          refine G.seq ?_
          refine G.region ?_
          refine G.op1 (op_fieldP (off' := 2) Try.underlying93 rfl ti3 (by decide) rfl (Ev.t 9 (.ptr 1009 0)) rfl) rfl ⟨rfl, trivial⟩ trivial ?_
          refine G.op1 (op_load1P (c := bI .i64 r15.End) Try.underlying3 rfl rfl (Ev.t 44 (.ptr 1009 2)) rfl) rfl ⟨rfl, trivial⟩ ⟨rfl, trivial⟩ ?_
          refine G.op1 (op_eqI (Ev.t 45 (bI .i64 r15.End)) (Ev.c _ rfl) rfl) rfl ⟨rfl, trivial⟩ trivial ?_
          refine G.endOps ?_
          refine ifS hF (fun hc16 hF => ?_) (fun hc16 hF => ?_)
          · refine G.cond rfl (fun _ => ?_) (fun hx => by rw [hc16] at hx; cases hx)
            refine G.seq ?_
            refine G.region ?_
            refine G.op1 (op_build (zs := [.sl 3 (List.map encApi_Dep ([] : (List Api_Dep))), .v (.int .i64 0)]) (ds := [.sl 3 (List.map encApi_Dep ([] : (List Api_Dep))), .v (.int .i64 0)]) Try.underlying52 ti52 (pl52 _ Try.underlying52) ⟨.n 3, .v _ rfl, trivial⟩ EvP.nil rfl rfl) rfl trivial trivial ?_
            refine G.op3 (op_storeA (cs' := [.g (.d (.sl 3 (List.map encApi_Dep ([] : (List Api_Dep))))), bI .i64 0]) ti52 rfl rfl (Ev.t 4 (.ptr 1004 0)) (Ev.t 47 (.g (.agg [.sl 3 (List.map encApi_Dep ([] : (List Api_Dep))), .v (.int .i64 0)])))) rfl ⟨rfl, rfl, trivial⟩ ⟨rfl, trivial⟩ ?_
            refine G.endOps ?_
            cases hF
            exact G.ret1 Try.results28 (RVar.cellA (ds := [.sl 3 (List.map encApi_Dep ([] : (List Api_Dep))), .v (.int .i64 0)]) Try.underlying52 rfl ti52 rfl) ⟨rfl, trivial⟩ ⟨rfl, trivial⟩
          · refine G.cond rfl (fun hx => by rw [hc16] at hx; cases hx) (fun _ => ?_)
            refine G.skip ?_
            refine G.seq ?_
            refine G.region ?_
            refine G.op1 (op_fieldP (off' := 0) Try.underlying52 rfl ti22 (by decide) rfl (Ev.t 6 (.ptr 1006 0)) rfl) rfl ⟨rfl, trivial⟩ trivial ?_
            refine G.op1 (op_load1P (c := .own 5096 (List.map encApi_Dep v8.2.2)) Try.underlying22 rfl rfl (Ev.t 48 (.ptr 1006 0)) rfl) rfl ⟨rfl, trivial⟩ ⟨rfl, trivial⟩ ?_
            refine G.op1 (op_fieldP (off' := 0) Try.underlying90 rfl ti9 (by decide) rfl (Ev.t 8 (.ptr 1008 0)) rfl) rfl ⟨rfl, trivial⟩ trivial ?_
            refine G.op1 (op_load1P (c := bS r13.S) Try.underlying9 rfl rfl (Ev.t 50 (.ptr 1008 0)) rfl) rfl ⟨rfl, trivial⟩ ⟨rfl, trivial⟩ ?_
            refine G.op1 (op_fieldP (off' := 0) Try.underlying93 rfl ti24 (by decide) rfl (Ev.t 9 (.ptr 1009 0)) rfl) rfl ⟨rfl, trivial⟩ trivial ?_
            refine G.op1 (op_loadAP (ds := [.v (.int .i64 r15.S.N), .v (.int .i64 r15.S.Site)]) Try.underlying24 rfl ti24 rfl (Ev.t 52 (.ptr 1009 0)) rfl) rfl ⟨rfl, trivial⟩ ⟨rfl, trivial⟩ ?_
            refine G.op1 (op_build (zs := [.v (.string ByteArray.empty), .v (.int .i64 0), .v (.int .i64 0)]) (ds := [.v (.string r13.S), .v (.int .i64 r15.S.N), .v (.int .i64 r15.S.Site)]) Try.underlying26 ti26 (pl26 _ Try.underlying26) ⟨.v _ rfl, .v _ rfl, .v _ rfl, trivial⟩ (EvP.cons (Ev.t 51 (bS r13.S)) (EvP.cons (Ev.t 53 (.g (.agg [.v (.int .i64 r15.S.N), .v (.int .i64 r15.S.Site)]))) EvP.nil)) rfl rfl) rfl ⟨rfl, rfl, trivial⟩ trivial ?_
            refine G.op1 (op_buildSlice (es := List.map encApi_Dep [(Api_Dep.mk r13.S r15.S)]) Try.underlying22 ti26 rfl rfl (EvP.cons (Ev.t 54 (.g (.agg [.v (.string r13.S), .v (.int .i64 r15.S.N), .v (.int .i64 r15.S.Site)]))) EvP.nil) rfl rfl (by simp [encApi_Dep]) rfl) rfl ⟨rfl, trivial⟩ trivial ?_
            obtain ⟨l17, hl17, hF⟩ := bindS hF
            refine G.op2 (op_appendO Try.underlying22 ti26 rfl (app_map hl17 encApi_Dep) (app_b1 hl17 encApi_Dep) (app_b2 hl17 encApi_Dep) (Ev.t 49 (.own 5096 (List.map encApi_Dep v8.2.2))) (Ev.t 55 (.g (.d (.sl 3 (List.map encApi_Dep ([(Api_Dep.mk r13.S r15.S)])))))) rfl) rfl ⟨rfl, rfl, trivial⟩ ⟨rfl, trivial⟩ ?_
            refine G.op1 (op_fieldP (off' := 0) Try.underlying52 rfl ti22 (by decide) rfl (Ev.t 6 (.ptr 1006 0)) rfl) rfl ⟨rfl, trivial⟩ trivial ?_
            refine G.op3 (op_storeO (cs' := [.own 5096 (List.map encApi_Dep l17), bI .i64 v8.2.1]) ti22 rfl rfl rfl (Ev.t 57 (.ptr 1006 0)) (Ev.t 56 (.own 5096 (List.map encApi_Dep l17)))) rfl ⟨rfl, rfl, trivial⟩ ⟨rfl, rfl, trivial⟩ ?_
            refine G.endOps ?_
            refine G.region ?_
            refine G.op1 (op_fieldP (off' := 2) Try.underlying93 rfl ti3 (by decide) rfl (Ev.t 9 (.ptr 1009 0)) rfl) rfl ⟨rfl, trivial⟩ trivial ?_
            refine G.op1 (op_load1P (c := bI .i64 r15.End) Try.underlying3 rfl rfl (Ev.t 58 (.ptr 1009 2)) rfl) rfl ⟨rfl, trivial⟩ ⟨rfl, trivial⟩ ?_
            refine G.op1 (op_fieldP (off' := 1) Try.underlying52 rfl ti3 (by decide) rfl (Ev.t 6 (.ptr 1006 0)) rfl) rfl ⟨rfl, trivial⟩ trivial ?_
            refine G.op3 (op_store1 (cs' := [.own 5096 (List.map encApi_Dep l17), bI .i64 r15.End]) (c := bI .i64 r15.End) trivial ti3 rfl rfl (Ev.t 60 (.ptr 1006 1)) (Ev.t 59 (bI .i64 r15.End))) rfl ⟨rfl, rfl, trivial⟩ ⟨rfl, trivial⟩ ?_
            refine G.endOps ?_
            refine G.endBlock ?_
            refine G.region ?_
            refine G.op1 (op_move (Ev.t 7 (bI .u64 v8.1)) rfl) rfl ⟨rfl, trivial⟩ trivial ?_
            refine G.op1 (op_add (Ev.t 30 (bI .u64 v8.1)) (Ev.c _ rfl) rfl) rfl ⟨rfl, trivial⟩ trivial ?_
            refine G.op1 (op_assign (Ev.t 31 (bI .u64 (IntKind.wrap .u64 (v8.1 + 1)))) rfl) rfl ⟨rfl, trivial⟩ trivial ?_
            refine G.endOps ?_
            exact G.arr (J9 (IntKind.wrap .u64 (v8.1 + 1), r15.End, l17) hF) ⟨rfl, rfl, rfl, rfl, rfl, trivial⟩ ⟨rfl, rfl, rfl, rfl, trivial⟩ rfl
      · refine G.cond rfl (fun hx => by rw [hc12] at hx; cases hx) (fun _ => ?_)
        refine G.exit ?_
        refine GX.c ?_
        refine GX.q ?_
        refine GX.bYes ?_
        exact G.arr (J7 (v8.2.1, v8.2.2) hF) ⟨rfl, rfl, trivial⟩ ⟨rfl, rfl, rfl, trivial⟩ rfl
  refine G.region ?_
  refine G.op1 (op_fieldP (off' := 1) Try.underlying87 rfl ti3 (by decide) rfl (Ev.t 5 (.ptr 1005 0)) rfl) rfl ⟨rfl, trivial⟩ trivial ?_
  refine G.op1 (op_load1P (c := bI .i64 r1.End) Try.underlying3 rfl rfl (Ev.t 14 (.ptr 1005 1)) rfl) rfl ⟨rfl, trivial⟩ ⟨rfl, trivial⟩ ?_
  refine G.op1 (op_eqI (Ev.t 15 (bI .i64 r1.End)) (Ev.c _ rfl) rfl) rfl ⟨rfl, trivial⟩ trivial ?_
  refine G.op1 (op_move (Ev.t 16 (bB (decide (r1.End = 0)))) rfl) rfl ⟨rfl, trivial⟩ trivial ?_
  refine ifS hF (fun hc19 hF => ?_) (fun hc19 hF => ?_)
  · refine G.known (t := 17) hc19 rfl ?_
    refine G.opN1 rfl rfl rfl rfl rfl ?_
    refine G.opN1 rfl rfl rfl rfl rfl ?_
    refine G.opN1 rfl rfl rfl rfl rfl ?_
    refine G.op1 (op_pickT (Ev.t 17 (bB true)) (Ev.c _ rfl) rfl) rfl ⟨rfl, trivial⟩ trivial ?_
    refine G.endOps ?_
    exact G.arr (J18 true hF) ⟨rfl, rfl, rfl, rfl, trivial⟩ ⟨rfl, rfl, trivial⟩ rfl
  · refine G.known (t := 17) hc19 rfl ?_
    refine G.opG1 (op_fieldP (off' := 0) Try.underlying87 rfl ti76 (by decide) rfl (Ev.t 5 (.ptr 1005 0)) rfl) rfl rfl rfl ⟨rfl, trivial⟩ trivial ?_
    refine G.opG1 (op_load1P (c := bI .u64 r1.N) Try.underlying76 rfl rfl (Ev.t 18 (.ptr 1005 0)) rfl) rfl rfl rfl ⟨rfl, trivial⟩ ⟨rfl, trivial⟩ ?_
    refine G.opG1 (op_gtr (Ev.t 19 (bI .u64 r1.N)) (Ev.c _ rfl) rfl) rfl rfl rfl ⟨rfl, trivial⟩ trivial ?_
    refine G.op1 (op_pickF (Ev.t 17 (bB false)) (Ev.t 20 (bB (decide (24 < r1.N)))) rfl) rfl ⟨rfl, rfl, trivial⟩ trivial ?_
    refine G.endOps ?_
    exact G.arr (J18 (decide (24 < r1.N)) hF) ⟨rfl, rfl, rfl, rfl, trivial⟩ ⟨rfl, rfl, trivial⟩ rfl


set_option maxRecDepth 20000 in
set_option maxHeartbeats 2000000 in
theorem ct_law04_PastReads (l_0 : (List Api_Dep)) (s_1 : ByteArray) (q_2 : (List Int)) (r : Bool) (hF : law04_PastReads l_0 s_1 q_2 = some r) : Ct Try.prog 7 [.g (.d (.sl 3 (List.map encApi_Dep l_0))), .g (.d (.v (.string s_1))), .g (.agg (List.flatMap encI_i64 q_2))] (.one (.d (.v (.bool r)))) := by
  unfold law04_PastReads at hF
  refine Ct.intro Try.func7 rfl Try.ntmps7 rfl rfl fun M w => ?_
  refine G.seq ?_
  refine G.region ?_
  refine G.op2 (op_boxA (k := 1005) (Ev.t 2 (.g (.agg (List.flatMap encI_i64 q_2)))) rfl) rfl ⟨rfl, trivial⟩ ⟨rfl, trivial⟩ ?_
  refine G.op1 (op_assign (Ev.c _ rfl) rfl) rfl trivial trivial ?_
  refine G.endOps ?_
  refine G.seq ?_
  refine G.region ?_
  obtain ⟨r1, hr1, hF⟩ := bindS hF
  refine G.op1 (op_callQ (sv := .one (bB r1)) cf9 (ct_law04_awake r1 hr1) rfl rfl EvQL.nil rfl) rfl trivial trivial ?_
  refine G.op1 (op_assign (Ev.t 16 (bB r1)) rfl) rfl ⟨rfl, trivial⟩ trivial ?_
  refine G.endOps ?_
  refine G.seq ?_
  refine G.seq ?_
  refine G.region ?_
  refine G.op1 (op_move (Ev.t 1 (bS s_1)) rfl) rfl ⟨rfl, trivial⟩ trivial ?_
  refine G.op1 (op_lenS Try.underlying9 (Ev.t 17 (bS s_1)) rfl) rfl ⟨rfl, trivial⟩ trivial ?_
  refine G.op1 (op_gtr (Ev.t 18 (bI .i64 (s_1.size : Int))) (Ev.c _ rfl) rfl) rfl ⟨rfl, trivial⟩ trivial ?_
  refine G.endOps ?_
  refine G.joinC (T := ByteArray) (fun y2 => ⟨[(0, .one (.g (.d (.sl 3 (List.map encApi_Dep l_0))))), (1, .one (bS y2)), (5, .one (.ptr 1005 0)), (7, .one (bB r1))], [(1005, some (.blk 46 (dat (List.flatMap encI_i64 q_2))))]⟩) (fun y2 => law04_PastReads_k1 l_0 q_2 r1 y2 = some r) (fun y2 hF => ?_) (fun J33 => ?_)
  · unfold law04_PastReads_k1 at hF
    refine G.seq ?_
    refine G.region ?_
    obtain ⟨x3, hx3, hF⟩ := bindS hF
    refine G.op1 (op_indexA Try.underlying46 ti3 (aidx_ok hx3).1 (aidx_ok hx3).2.1 (Ev.t 5 (.ptr 1005 0)) (Ev.c _ rfl) rfl) rfl ⟨rfl, trivial⟩ trivial ?_
    refine G.op1 (op_load1P (c := bI .i64 x3) Try.underlying3 rfl (arr_at1 hx3 (fun _ => rfl) rfl) (Ev.t 22 (.ptr 1005 (Int.toNat 0 * 1))) rfl) rfl ⟨rfl, trivial⟩ ⟨rfl, trivial⟩ ?_
    refine G.op1 (op_assign (Ev.t 23 (bI .i64 x3)) rfl) rfl ⟨rfl, trivial⟩ trivial ?_
    refine G.endOps ?_
    refine G.seq ?_
    refine G.seq ?_
    refine G.region ?_
    obtain ⟨x4, hx4, hF⟩ := bindS hF
    refine G.op1 (op_indexA Try.underlying46 ti3 (aidx_ok hx4).1 (aidx_ok hx4).2.1 (Ev.t 5 (.ptr 1005 0)) (Ev.c _ rfl) rfl) rfl ⟨rfl, trivial⟩ trivial ?_
    refine G.op1 (op_load1P (c := bI .i64 x4) Try.underlying3 rfl (arr_at1 hx4 (fun _ => rfl) rfl) (Ev.t 24 (.ptr 1005 (Int.toNat 1 * 1))) rfl) rfl ⟨rfl, trivial⟩ ⟨rfl, trivial⟩ ?_
    refine G.op1 (op_and (Ev.t 25 (bI .i64 x4)) (Ev.c _ rfl) rfl) rfl ⟨rfl, trivial⟩ trivial ?_
    refine G.op1 (op_neI (Ev.t 26 (bI .i64 (IntKind.wrap .i64 (BitVec.ofInt (IntKind.bits .i64) x4 &&& BitVec.ofInt (IntKind.bits .i64) 3).toNat))) (Ev.c _ rfl) rfl) rfl ⟨rfl, trivial⟩ trivial ?_
    refine G.endOps ?_
    refine G.joinC (T := ByteArray × Int) (fun y5 => ⟨[(1, .one (bS y5.1)), (7, .one (bB r1)), (8, .one (bI .i64 y5.2))], []⟩) (fun y5 => law04_PastReads_k2 r1 y5 = some r) (fun y5 hF => ?_) (fun J16 => ?_)
    · unfold law04_PastReads_k2 at hF
      refine G.seq ?_
      refine G.region ?_
      refine G.op1 (op_move (Ev.t 1 (bS y5.1)) rfl) rfl ⟨rfl, trivial⟩ trivial ?_
      refine G.op1 (op_move (Ev.t 8 (bI .i64 y5.2)) rfl) rfl ⟨rfl, trivial⟩ trivial ?_
      obtain ⟨r6, hr6, hF⟩ := bindS hF
      refine G.op1 (op_call (sv := .tup [.g (.d (.sl 3 (List.map encApi_Dep r6.1))), bI .i64 r6.2.1, bB r6.2.2]) cf27 (ct_past_Read y5.1 y5.2 r6 hr6) rfl (EvL.cons (Ev.t 63 (bS y5.1)) (EvL.cons (Ev.t 64 (bI .i64 y5.2)) EvL.nil)) rfl) rfl ⟨rfl, rfl, trivial⟩ trivial ?_
      refine G.op1 (op_moveS (t := 65) (sv := .tup [.g (.d (.sl 3 (List.map encApi_Dep r6.1))), bI .i64 r6.2.1, bB r6.2.2]) rfl) rfl ⟨rfl, trivial⟩ trivial ?_
      refine G.op1 (op_extract (l := [.g (.d (.sl 3 (List.map encApi_Dep r6.1))), bI .i64 r6.2.1, bB r6.2.2]) (c := .g (.d (.sl 3 (List.map encApi_Dep r6.1)))) rfl rfl) rfl ⟨rfl, trivial⟩ trivial ?_
      refine G.op1 (op_extract (l := [.g (.d (.sl 3 (List.map encApi_Dep r6.1))), bI .i64 r6.2.1, bB r6.2.2]) (c := bI .i64 r6.2.1) rfl rfl) rfl ⟨rfl, trivial⟩ trivial ?_
      refine G.op1 (op_extract (l := [.g (.d (.sl 3 (List.map encApi_Dep r6.1))), bI .i64 r6.2.1, bB r6.2.2]) (c := bB r6.2.2) rfl rfl) rfl ⟨rfl, trivial⟩ trivial ?_
      refine G.op1 (op_assign (Ev.t 66 (.g (.d (.sl 3 (List.map encApi_Dep r6.1))))) rfl) rfl ⟨rfl, trivial⟩ trivial ?_
      refine G.op1 (op_assign (Ev.t 67 (bI .i64 r6.2.1)) rfl) rfl ⟨rfl, trivial⟩ trivial ?_
      refine G.op1 (op_assign (Ev.t 68 (bB r6.2.2)) rfl) rfl ⟨rfl, trivial⟩ trivial ?_
      refine G.endOps ?_
      refine G.seq ?_
      refine G.region ?_
      refine G.op1 (op_move (Ev.t 1 (bS y5.1)) rfl) rfl ⟨rfl, trivial⟩ trivial ?_
      refine G.op1 (op_move (Ev.t 8 (bI .i64 y5.2)) rfl) rfl ⟨rfl, trivial⟩ trivial ?_
      obtain ⟨r7, hr7, hF⟩ := bindS hF
      refine G.op1 (op_call (sv := .one (.g (.agg [.sl 3 (List.map encApi_Dep r7.P), .v (.int .i64 r7.End)]))) cf28 (ct_ref04_Read y5.1 y5.2 r7 hr7) rfl (EvL.cons (Ev.t 69 (bS y5.1)) (EvL.cons (Ev.t 70 (bI .i64 y5.2)) EvL.nil)) rfl) rfl ⟨rfl, rfl, trivial⟩ trivial ?_
      refine G.op2 (op_alloc (k := 1014) (cs := [.g (.d (.sl 3 (List.map encApi_Dep ([] : (List Api_Dep))))), bI .i64 0]) ti52 ⟨.n 3, .v _ rfl, trivial⟩ rfl) rfl trivial ⟨rfl, trivial⟩ ?_
      refine G.op3 (op_storeA (cs' := [.g (.d (.sl 3 (List.map encApi_Dep r7.P))), bI .i64 r7.End]) ti52 rfl rfl (Ev.t 14 (.ptr 1014 0)) (Ev.t 71 (.g (.agg [.sl 3 (List.map encApi_Dep r7.P), .v (.int .i64 r7.End)])))) rfl ⟨rfl, rfl, trivial⟩ ⟨rfl, trivial⟩ ?_
      refine G.endOps ?_
      refine G.seq ?_
      refine G.region ?_
      refine G.op1 (op_move (Ev.t 11 (.g (.d (.sl 3 (List.map encApi_Dep r6.1))))) rfl) rfl ⟨rfl, trivial⟩ trivial ?_
      refine G.op1 (op_fieldP (off' := 0) Try.underlying52 rfl ti22 (by decide) rfl (Ev.t 14 (.ptr 1014 0)) rfl) rfl ⟨rfl, trivial⟩ trivial ?_
      refine G.op1 (op_load1P (c := .g (.d (.sl 3 (List.map encApi_Dep r7.P)))) Try.underlying22 rfl rfl (Ev.t 73 (.ptr 1014 0)) rfl) rfl ⟨rfl, trivial⟩ ⟨rfl, trivial⟩ ?_
      obtain ⟨r8, hr8, hF⟩ := bindS hF
      refine G.op1 (op_callQ (sv := .one (bB r8)) cf16 (ct_ref04_Same r6.1 r7.P r8 hr8) rfl rfl (EvQL.cons (EvQ.g (Ev.t 72 (.g (.d (.sl 3 (List.map encApi_Dep r6.1)))))) (EvQL.cons (EvQ.g (Ev.t 74 (.g (.d (.sl 3 (List.map encApi_Dep r7.P)))))) EvQL.nil)) rfl) rfl ⟨rfl, rfl, trivial⟩ trivial ?_
      refine G.op1 (op_assign (Ev.t 75 (bB r8)) rfl) rfl ⟨rfl, trivial⟩ trivial ?_
      refine G.endOps ?_
      refine G.seq ?_
      refine G.region ?_
      refine G.op1 (op_move (Ev.t 7 (bB r1)) rfl) rfl ⟨rfl, trivial⟩ trivial ?_
      refine G.op1 (op_move (Ev.t 76 (bB r1)) rfl) rfl ⟨rfl, trivial⟩ trivial ?_
      refine G.joinL (T := Bool) 2 (fun y9 => ⟨[(12, .one (bI .i64 r6.2.1)), (13, .one (bB r6.2.2)), (14, .one (.ptr 1014 0)), (79, .one (bB y9))], [(1014, some (.blk 52 [.g (.d (.sl 3 (List.map encApi_Dep r7.P))), bI .i64 r7.End]))]⟩) (fun y9 => law04_PastReads_k3 r6 r7 y9 = some r) (fun y9 hF => ?_) (fun J14 => ?_)
      · unfold law04_PastReads_k3 at hF
        refine G.op1 (op_move (Ev.t 79 (bB y9)) rfl) rfl ⟨rfl, trivial⟩ trivial ?_
        refine G.joinL (T := Bool) 5 (fun y10 => ⟨[(13, .one (bB r6.2.2)), (14, .one (.ptr 1014 0)), (85, .one (bB y10))], [(1014, some (.blk 52 [.g (.d (.sl 3 (List.map encApi_Dep r7.P))), bI .i64 r7.End]))]⟩) (fun y10 => law04_PastReads_k4 r6 r7 y10 = some r) (fun y10 hF => ?_) (fun J12 => ?_)
        · unfold law04_PastReads_k4 at hF
          refine G.op1 (op_move (Ev.t 85 (bB y10)) rfl) rfl ⟨rfl, trivial⟩ trivial ?_
          refine ifS hF (fun hc11 hF => ?_) (fun hc11 hF => ?_)
          · refine G.known (t := 86) hc11 rfl ?_
            refine G.opG1 (op_move (Ev.t 13 (bB r6.2.2)) rfl) rfl rfl rfl ⟨rfl, trivial⟩ trivial ?_
            refine G.opG1 (op_fieldP (off' := 1) Try.underlying52 rfl ti3 (by decide) rfl (Ev.t 14 (.ptr 1014 0)) rfl) rfl rfl rfl ⟨rfl, trivial⟩ trivial ?_
            refine G.opG1 (op_load1P (c := bI .i64 r7.End) Try.underlying3 rfl rfl (Ev.t 88 (.ptr 1014 1)) rfl) rfl rfl rfl ⟨rfl, trivial⟩ ⟨rfl, trivial⟩ ?_
            refine G.opG1 (op_gtr (Ev.t 89 (bI .i64 r7.End)) (Ev.c _ rfl) rfl) rfl rfl rfl ⟨rfl, trivial⟩ trivial ?_
            refine G.opG1 (op_eqB Try.underlying4 (Ev.t 87 (bB r6.2.2)) (Ev.t 90 (bB (decide (0 < r7.End)))) rfl) rfl rfl rfl ⟨rfl, rfl, trivial⟩ trivial ?_
            refine G.op1 (op_pickT (Ev.t 86 (bB true)) (Ev.t 91 (bB (r6.2.2 == (decide (0 < r7.End))))) rfl) rfl ⟨rfl, rfl, trivial⟩ trivial ?_
            refine G.op1 (op_assign (Ev.t 92 (bB (r6.2.2 == (decide (0 < r7.End))))) rfl) rfl ⟨rfl, trivial⟩ trivial ?_
            refine G.endOps ?_
            cases hF
            exact G.ret1 Try.results7 (RVar.tmp 6 _) ⟨rfl, trivial⟩ trivial
          · refine G.known (t := 86) hc11 rfl ?_
            refine G.opN1 rfl rfl rfl rfl rfl ?_
            refine G.opN1 rfl rfl rfl rfl rfl ?_
            refine G.opN1 rfl rfl rfl rfl rfl ?_
            refine G.opN1 rfl rfl rfl rfl rfl ?_
            refine G.opN1 rfl rfl rfl rfl rfl ?_
            refine G.op1 (op_pickF (Ev.t 86 (bB false)) (Ev.c _ rfl) rfl) rfl ⟨rfl, trivial⟩ trivial ?_
            refine G.op1 (op_assign (Ev.t 92 (bB false)) rfl) rfl ⟨rfl, trivial⟩ trivial ?_
            refine G.endOps ?_
            cases hF
            exact G.ret1 Try.results7 (RVar.tmp 6 _) ⟨rfl, trivial⟩ trivial
        refine ifS hF (fun hc13 hF => ?_) (fun hc13 hF => ?_)
        · refine G.known (t := 80) hc13 rfl ?_
          refine G.opG1 (op_move (Ev.t 12 (bI .i64 r6.2.1)) rfl) rfl rfl rfl ⟨rfl, trivial⟩ trivial ?_
          refine G.opG1 (op_fieldP (off' := 1) Try.underlying52 rfl ti3 (by decide) rfl (Ev.t 14 (.ptr 1014 0)) rfl) rfl rfl rfl ⟨rfl, trivial⟩ trivial ?_
          refine G.opG1 (op_load1P (c := bI .i64 r7.End) Try.underlying3 rfl rfl (Ev.t 82 (.ptr 1014 1)) rfl) rfl rfl rfl ⟨rfl, trivial⟩ ⟨rfl, trivial⟩ ?_
          refine G.opG1 (op_eqI (Ev.t 81 (bI .i64 r6.2.1)) (Ev.t 83 (bI .i64 r7.End)) rfl) rfl rfl rfl ⟨rfl, rfl, trivial⟩ trivial ?_
          refine G.op1 (op_pickT (Ev.t 80 (bB true)) (Ev.t 84 (bB (decide (r6.2.1 = r7.End)))) rfl) rfl ⟨rfl, rfl, trivial⟩ trivial ?_
          exact G.arr (J12 (decide (r6.2.1 = r7.End)) hF) ⟨rfl, rfl, rfl, trivial⟩ ⟨rfl, trivial⟩ rfl
        · refine G.known (t := 80) hc13 rfl ?_
          refine G.opN1 rfl rfl rfl rfl rfl ?_
          refine G.opN1 rfl rfl rfl rfl rfl ?_
          refine G.opN1 rfl rfl rfl rfl rfl ?_
          refine G.opN1 rfl rfl rfl rfl rfl ?_
          refine G.op1 (op_pickF (Ev.t 80 (bB false)) (Ev.c _ rfl) rfl) rfl ⟨rfl, trivial⟩ trivial ?_
          exact G.arr (J12 false hF) ⟨rfl, rfl, rfl, trivial⟩ ⟨rfl, trivial⟩ rfl
      refine ifS hF (fun hc15 hF => ?_) (fun hc15 hF => ?_)
      · refine G.known (t := 77) hc15 rfl ?_
        refine G.opG1 (op_move (Ev.t 15 (bB r8)) rfl) rfl rfl rfl ⟨rfl, trivial⟩ trivial ?_
        refine G.op1 (op_pickT (Ev.t 77 (bB true)) (Ev.t 78 (bB r8)) rfl) rfl ⟨rfl, rfl, trivial⟩ trivial ?_
        exact G.arr (J14 r8 hF) ⟨rfl, rfl, rfl, rfl, trivial⟩ ⟨rfl, trivial⟩ rfl
      · refine G.known (t := 77) hc15 rfl ?_
        refine G.opN1 rfl rfl rfl rfl rfl ?_
        refine G.op1 (op_pickF (Ev.t 77 (bB false)) (Ev.c _ rfl) rfl) rfl ⟨rfl, trivial⟩ trivial ?_
        exact G.arr (J14 false hF) ⟨rfl, rfl, rfl, rfl, trivial⟩ ⟨rfl, trivial⟩ rfl
    refine ifS hF (fun hc17 hF => ?_) (fun hc17 hF => ?_)
    · refine G.cond rfl (fun _ => ?_) (fun hx => by rw [hc17] at hx; cases hx)
      refine G.seq ?_
      refine G.region ?_
      refine G.op1 (op_move (Ev.t 0 (.g (.d (.sl 3 (List.map encApi_Dep l_0))))) rfl) rfl ⟨rfl, trivial⟩ trivial ?_
      obtain ⟨r18, hr18, hF⟩ := bindS hF
      refine G.op1 (op_call (sv := .one (.g (.d (.sl 3 (List.map encApi_Dep r18))))) cf10 (ct_law04_made l_0 r18 hr18) rfl (EvL.cons (Ev.t 28 (.g (.d (.sl 3 (List.map encApi_Dep l_0))))) EvL.nil) rfl) rfl ⟨rfl, trivial⟩ trivial ?_
      obtain ⟨r19, hr19, hF⟩ := bindS hF
      refine G.op1 (op_callQ (sv := .one (bS r19)) cf26 (ct_ref04_Bytes r18 r19 hr19) rfl rfl (EvQL.cons (EvQ.g (Ev.t 29 (.g (.d (.sl 3 (List.map encApi_Dep r18)))))) EvQL.nil) rfl) rfl ⟨rfl, trivial⟩ trivial ?_
      obtain ⟨hz20, hF⟩ := chkS hF
      refine G.op2 (op_toBytes (k := 2031) Try.underlying9 Try.underlying47 Try.underlying5 (of_decide_eq_true hz20) (Ev.t 30 (bS r19)) rfl) rfl ⟨rfl, trivial⟩ ⟨rfl, trivial⟩ ?_
      refine G.op1 (op_assign (Ev.t 31 (.pv 2031 (bytV r19.size))) rfl) rfl ⟨rfl, trivial⟩ trivial ?_
      refine G.endOps ?_
      refine G.seq ?_
      refine G.seq ?_
      refine G.region ?_
      refine G.op1 (op_move (Ev.t 9 (.pv 2031 (bytV r19.size))) rfl) rfl ⟨rfl, trivial⟩ trivial ?_
      refine G.op1 (op_lenB Try.underlying47 (Ev.t 32 (.pv 2031 (bytV r19.size))) rfl) rfl ⟨rfl, trivial⟩ trivial ?_
      refine G.op1 (op_gtr (Ev.t 33 (bI .i64 (r19.size : Int))) (Ev.c _ rfl) rfl) rfl ⟨rfl, trivial⟩ trivial ?_
      refine G.endOps ?_
      refine G.joinC (T := ByteArray) (fun y21 => ⟨[(1, .one (bS y2)), (7, .one (bB r1)), (9, .one (.pv 2031 (bytV r19.size)))], [(2031, some (.pr (bytH 5 y21)))]⟩) (fun y21 => law04_PastReads_k5 r1 y2 r19 y21 = some r) (fun y21 hF => ?_) (fun J24 => ?_)
      · unfold law04_PastReads_k5 at hF
        refine G.seq ?_
        refine G.region ?_
        refine G.op1 (op_move (Ev.t 9 (.pv 2031 (bytV r19.size))) rfl) rfl ⟨rfl, trivial⟩ trivial ?_
        obtain ⟨hz22, hF⟩ := chkS hF
        refine G.op1 (op_fromBytes Try.underlying47 Try.underlying5 Try.underlying9 (of_decide_eq_true hz22) (Ev.t 58 (.pv 2031 (bytV r19.size))) rfl) rfl ⟨rfl, trivial⟩ ⟨rfl, trivial⟩ ?_
        refine G.op1 (op_move (Ev.t 1 (bS y2)) rfl) rfl ⟨rfl, trivial⟩ trivial ?_
        obtain ⟨s23, hs23, hF⟩ := bindS hF
        refine G.op1 (OpL.cast (op_cat (scat_ok hs23).1 (Ev.t 59 (bS y21)) (Ev.t 60 (bS y2)) rfl) (by rw [(scat_ok hs23).2])) rfl ⟨rfl, rfl, trivial⟩ trivial ?_
        refine G.op1 (op_assign (Ev.t 61 (bS s23)) rfl) rfl ⟨rfl, trivial⟩ trivial ?_
        refine G.endOps ?_
        refine G.region ?_
        refine G.op1 (op_assign (Ev.c _ rfl) rfl) rfl trivial trivial ?_
        refine G.endOps ?_
        exact G.arr (J16 (s23, 0) hF) ⟨rfl, rfl, rfl, trivial⟩ trivial rfl
      refine ifS hF (fun hc25 hF => ?_) (fun hc25 hF => ?_)
      · refine G.cond rfl (fun _ => ?_) (fun hx => by rw [hc25] at hx; cases hx)
        refine G.seq ?_
        refine G.region ?_
        obtain ⟨x26, hx26, hF⟩ := bindS hF
        refine G.op1 (op_indexA Try.underlying46 ti3 (aidx_ok hx26).1 (aidx_ok hx26).2.1 (Ev.t 5 (.ptr 1005 0)) (Ev.c _ rfl) rfl) rfl ⟨rfl, trivial⟩ trivial ?_
        refine G.op1 (op_load1P (c := bI .i64 x26) Try.underlying3 rfl (arr_at1 hx26 (fun _ => rfl) rfl) (Ev.t 35 (.ptr 1005 (Int.toNat 2 * 1))) rfl) rfl ⟨rfl, trivial⟩ ⟨rfl, trivial⟩ ?_
        refine G.op1 (op_move (Ev.t 9 (.pv 2031 (bytV r19.size))) rfl) rfl ⟨rfl, trivial⟩ trivial ?_
        refine G.op1 (op_lenB Try.underlying47 (Ev.t 37 (.pv 2031 (bytV r19.size))) rfl) rfl ⟨rfl, trivial⟩ trivial ?_
        obtain ⟨hz27, hF⟩ := chkS hF
        refine G.op1 (op_rem (by simpa using hz27) (Ev.t 36 (bI .i64 x26)) (Ev.t 38 (bI .i64 (r19.size : Int))) rfl) rfl ⟨rfl, rfl, trivial⟩ trivial ?_
        refine G.op1 (op_move (Ev.t 9 (.pv 2031 (bytV r19.size))) rfl) rfl ⟨rfl, trivial⟩ trivial ?_
        refine G.op1 (op_lenB Try.underlying47 (Ev.t 40 (.pv 2031 (bytV r19.size))) rfl) rfl ⟨rfl, trivial⟩ trivial ?_
        refine G.op1 (op_add (Ev.t 39 (bI .i64 (Int.tmod x26 (r19.size : Int)))) (Ev.t 41 (bI .i64 (r19.size : Int))) rfl) rfl ⟨rfl, rfl, trivial⟩ trivial ?_
        refine G.op1 (op_move (Ev.t 9 (.pv 2031 (bytV r19.size))) rfl) rfl ⟨rfl, trivial⟩ trivial ?_
        refine G.op1 (op_lenB Try.underlying47 (Ev.t 43 (.pv 2031 (bytV r19.size))) rfl) rfl ⟨rfl, trivial⟩ trivial ?_
        obtain ⟨hz28, hF⟩ := chkS hF
        refine G.op1 (op_rem (by simpa using hz28) (Ev.t 42 (bI .i64 (IntKind.wrap .i64 ((Int.tmod x26 (r19.size : Int)) + (r19.size : Int))))) (Ev.t 44 (bI .i64 (r19.size : Int))) rfl) rfl ⟨rfl, rfl, trivial⟩ trivial ?_
        refine G.op1 (op_assign (Ev.t 45 (bI .i64 (Int.tmod (IntKind.wrap .i64 ((Int.tmod x26 (r19.size : Int)) + (r19.size : Int))) (r19.size : Int)))) rfl) rfl ⟨rfl, trivial⟩ trivial ?_
        refine G.endOps ?_
        obtain ⟨hz29, hF⟩ := chkS hF
        obtain ⟨x30, hx30, hF⟩ := bindS hF
        obtain ⟨hz31, hF⟩ := chkS hF
        obtain ⟨hz32, hF⟩ := chkS hF
        refine G.drawn (effs := [⟨[(9, .one (.pv 2031 (bytV r19.size)))], [], [(46, .one (.pv 2031 (bytV r19.size)))], []⟩, ⟨[(10, .one (bI .i64 (Int.tmod (IntKind.wrap .i64 ((Int.tmod x26 (r19.size : Int)) + (r19.size : Int))) (r19.size : Int))))], [], [(47, .one (bI .i64 (Int.tmod (IntKind.wrap .i64 ((Int.tmod x26 (r19.size : Int)) + (r19.size : Int))) (r19.size : Int))))], []⟩, ⟨[(9, .one (.pv 2031 (bytV r19.size)))], [], [(48, .one (.pv 2031 (bytV r19.size)))], []⟩, ⟨[(10, .one (bI .i64 (Int.tmod (IntKind.wrap .i64 ((Int.tmod x26 (r19.size : Int)) + (r19.size : Int))) (r19.size : Int))))], [], [(49, .one (bI .i64 (Int.tmod (IntKind.wrap .i64 ((Int.tmod x26 (r19.size : Int)) + (r19.size : Int))) (r19.size : Int))))], []⟩, ⟨[(48, .one (.pv 2031 (bytV r19.size))), (49, .one (bI .i64 (Int.tmod (IntKind.wrap .i64 ((Int.tmod x26 (r19.size : Int)) + (r19.size : Int))) (r19.size : Int))))], [], [(50, .one (.ptr 2031 (Int.toNat (Int.tmod (IntKind.wrap .i64 ((Int.tmod x26 (r19.size : Int)) + (r19.size : Int))) (r19.size : Int)))))], []⟩, ⟨[(50, .one (.ptr 2031 (Int.toNat (Int.tmod (IntKind.wrap .i64 ((Int.tmod x26 (r19.size : Int)) + (r19.size : Int))) (r19.size : Int)))))], [(2031, some (.pr (bytH 5 r19)))], [(51, .one (bI .u8 (((ByteArray.data r19).getD (Int.toNat (Int.tmod (IntKind.wrap .i64 ((Int.tmod x26 (r19.size : Int)) + (r19.size : Int))) (r19.size : Int))) 0).toNat : Int)))], []⟩, ⟨[(5, .one (.ptr 1005 0))], [], [(52, .one (.ptr 1005 (Int.toNat 1 * 1)))], []⟩, ⟨[(52, .one (.ptr 1005 (Int.toNat 1 * 1)))], [(1005, some (.blk 46 (dat (List.flatMap encI_i64 q_2))))], [(53, .one (bI .i64 x30))], []⟩, ⟨[(53, .one (bI .i64 x30))], [], [(54, .one (bI .i64 (Int.fdiv x30 (2 ^ min (Int.toNat 2) (IntKind.bits .i64)))))], []⟩, ⟨[(54, .one (bI .i64 (Int.fdiv x30 (2 ^ min (Int.toNat 2) (IntKind.bits .i64)))))], [], [(55, .one (bI .u8 (IntKind.wrap .u8 (Int.fdiv x30 (2 ^ min (Int.toNat 2) (IntKind.bits .i64))))))], []⟩, ⟨[(51, .one (bI .u8 (((ByteArray.data r19).getD (Int.toNat (Int.tmod (IntKind.wrap .i64 ((Int.tmod x26 (r19.size : Int)) + (r19.size : Int))) (r19.size : Int))) 0).toNat : Int))), (55, .one (bI .u8 (IntKind.wrap .u8 (Int.fdiv x30 (2 ^ min (Int.toNat 2) (IntKind.bits .i64))))))], [], [(56, .one (bI .u8 (IntKind.wrap .u8 (BitVec.ofInt (IntKind.bits .u8) (((ByteArray.data r19).getD (Int.toNat (Int.tmod (IntKind.wrap .i64 ((Int.tmod x26 (r19.size : Int)) + (r19.size : Int))) (r19.size : Int))) 0).toNat : Int) ^^^ BitVec.ofInt (IntKind.bits .u8) (IntKind.wrap .u8 (Int.fdiv x30 (2 ^ min (Int.toNat 2) (IntKind.bits .i64))))).toNat)))], []⟩, ⟨[(46, .one (.pv 2031 (bytV r19.size))), (47, .one (bI .i64 (Int.tmod (IntKind.wrap .i64 ((Int.tmod x26 (r19.size : Int)) + (r19.size : Int))) (r19.size : Int))))], [], [(57, .one (.ptr 2031 (Int.toNat (Int.tmod (IntKind.wrap .i64 ((Int.tmod x26 (r19.size : Int)) + (r19.size : Int))) (r19.size : Int)))))], []⟩, ⟨[(57, .one (.ptr 2031 (Int.toNat (Int.tmod (IntKind.wrap .i64 ((Int.tmod x26 (r19.size : Int)) + (r19.size : Int))) (r19.size : Int))))), (56, .one (bI .u8 (IntKind.wrap .u8 (BitVec.ofInt (IntKind.bits .u8) (((ByteArray.data r19).getD (Int.toNat (Int.tmod (IntKind.wrap .i64 ((Int.tmod x26 (r19.size : Int)) + (r19.size : Int))) (r19.size : Int))) 0).toNat : Int) ^^^ BitVec.ofInt (IntKind.bits .u8) (IntKind.wrap .u8 (Int.fdiv x30 (2 ^ min (Int.toNat 2) (IntKind.bits .i64))))).toNat)))], [(2031, some (.pr (bytH 5 r19)))], [], [(2031, some (.pr (bytH 5 (bset r19 (Int.tmod (IntKind.wrap .i64 ((Int.tmod x26 (r19.size : Int)) + (r19.size : Int))) (r19.size : Int)) (IntKind.wrap .u8 (BitVec.ofInt (IntKind.bits .u8) (((ByteArray.data r19).getD (Int.toNat (Int.tmod (IntKind.wrap .i64 ((Int.tmod x26 (r19.size : Int)) + (r19.size : Int))) (r19.size : Int))) 0).toNat : Int) ^^^ BitVec.ofInt (IntKind.bits .u8) (IntKind.wrap .u8 (Int.fdiv x30 (2 ^ min (Int.toNat 2) (IntKind.bits .i64))))).toNat)))))]⟩]) (deps := [[], [], [], [], [2, 3], [2, 3, 4], [], [6], [6, 7], [6, 7, 8], [2, 3, 4, 5, 6, 7, 8, 9], [0, 1, 2, 3, 4, 5, 6, 7, 8, 9, 10], [0, 1, 2, 3, 4, 5, 6, 7, 8, 9, 10, 11]]) (sl' := [(1, .one (bS y2)), (7, .one (bB r1)), (9, .one (.pv 2031 (bytV r19.size)))]) (hp' := [(2031, some (.pr (bytH 5 (bset r19 (Int.tmod (IntKind.wrap .i64 ((Int.tmod x26 (r19.size : Int)) + (r19.size : Int))) (r19.size : Int)) (IntKind.wrap .u8 (BitVec.ofInt (IntKind.bits .u8) (((ByteArray.data r19).getD (Int.toNat (Int.tmod (IntKind.wrap .i64 ((Int.tmod x26 (r19.size : Int)) + (r19.size : Int))) (r19.size : Int))) 0).toNat : Int) ^^^ BitVec.ofInt (IntKind.bits .u8) (IntKind.wrap .u8 (Int.fdiv x30 (2 ^ min (Int.toNat 2) (IntKind.bits .i64))))).toNat)))))]) follows rfl rfl rfl ⟨⟨rfl, trivial⟩, trivial, ⟨rfl, trivial⟩, trivial, ⟨rfl, trivial⟩, trivial, ⟨rfl, trivial⟩, trivial, ⟨rfl, rfl, trivial⟩, trivial, ⟨rfl, trivial⟩, ⟨⟨rfl, rfl⟩, trivial⟩, ⟨rfl, trivial⟩, trivial, ⟨rfl, trivial⟩, ⟨⟨rfl, rfl⟩, trivial⟩, ⟨rfl, trivial⟩, trivial, ⟨rfl, trivial⟩, trivial, ⟨rfl, rfl, trivial⟩, trivial, ⟨rfl, rfl, trivial⟩, trivial, ⟨rfl, rfl, trivial⟩, ⟨⟨rfl, rfl⟩, trivial⟩, trivial⟩ ⟨OpW.plain (op_move (Ev.t 9 (.pv 2031 (bytV r19.size))) rfl) rfl rfl, OpW.plain (op_move (Ev.t 10 (bI .i64 (Int.tmod (IntKind.wrap .i64 ((Int.tmod x26 (r19.size : Int)) + (r19.size : Int))) (r19.size : Int)))) rfl) rfl rfl, OpW.plain (op_move (Ev.t 9 (.pv 2031 (bytV r19.size))) rfl) rfl rfl, OpW.plain (op_move (Ev.t 10 (bI .i64 (Int.tmod (IntKind.wrap .i64 ((Int.tmod x26 (r19.size : Int)) + (r19.size : Int))) (r19.size : Int)))) rfl) rfl rfl, OpW.plain (op_indexB Try.underlying47 ti5 (of_decide_eq_true hz29) (Ev.t 48 (.pv 2031 (bytV r19.size))) (Ev.t 49 (bI .i64 (Int.tmod (IntKind.wrap .i64 ((Int.tmod x26 (r19.size : Int)) + (r19.size : Int))) (r19.size : Int)))) rfl) rfl rfl, OpW.plain (op_loadB (i := (Int.tmod (IntKind.wrap .i64 ((Int.tmod x26 (r19.size : Int)) + (r19.size : Int))) (r19.size : Int))) Try.underlying5 rfl (bytI (of_decide_eq_true hz29) rfl) (Ev.t 50 (.ptr 2031 (Int.toNat (Int.tmod (IntKind.wrap .i64 ((Int.tmod x26 (r19.size : Int)) + (r19.size : Int))) (r19.size : Int))))) rfl) rfl rfl, OpW.plain (op_indexA Try.underlying46 ti3 (aidx_ok hx30).1 (aidx_ok hx30).2.1 (Ev.t 5 (.ptr 1005 0)) (Ev.c _ rfl) rfl) rfl rfl, OpW.plain (op_load1P (c := bI .i64 x30) Try.underlying3 rfl (arr_at1 hx30 (fun _ => rfl) rfl) (Ev.t 52 (.ptr 1005 (Int.toNat 1 * 1))) rfl) rfl rfl, OpW.plain (op_shr (by decide) (Ev.t 53 (bI .i64 x30)) (Ev.c _ rfl) rfl) rfl rfl, OpW.plain (op_convI Try.underlying3 Try.underlying5 (Ev.t 54 (bI .i64 (Int.fdiv x30 (2 ^ min (Int.toNat 2) (IntKind.bits .i64))))) rfl) rfl rfl, OpW.plain (op_xor (Ev.t 51 (bI .u8 (((ByteArray.data r19).getD (Int.toNat (Int.tmod (IntKind.wrap .i64 ((Int.tmod x26 (r19.size : Int)) + (r19.size : Int))) (r19.size : Int))) 0).toNat : Int))) (Ev.t 55 (bI .u8 (IntKind.wrap .u8 (Int.fdiv x30 (2 ^ min (Int.toNat 2) (IntKind.bits .i64)))))) rfl) rfl rfl, OpW.plain (op_indexB Try.underlying47 ti5 (of_decide_eq_true hz31) (Ev.t 46 (.pv 2031 (bytV r19.size))) (Ev.t 47 (bI .i64 (Int.tmod (IntKind.wrap .i64 ((Int.tmod x26 (r19.size : Int)) + (r19.size : Int))) (r19.size : Int)))) rfl) rfl rfl, OpW.plain (op_storeB (i := (Int.tmod (IntKind.wrap .i64 ((Int.tmod x26 (r19.size : Int)) + (r19.size : Int))) (r19.size : Int))) (v := (IntKind.wrap .u8 (BitVec.ofInt (IntKind.bits .u8) (((ByteArray.data r19).getD (Int.toNat (Int.tmod (IntKind.wrap .i64 ((Int.tmod x26 (r19.size : Int)) + (r19.size : Int))) (r19.size : Int))) 0).toNat : Int) ^^^ BitVec.ofInt (IntKind.bits .u8) (IntKind.wrap .u8 (Int.fdiv x30 (2 ^ min (Int.toNat 2) (IntKind.bits .i64))))).toNat)) ti5 (bytI (of_decide_eq_true hz31) rfl) (of_decide_eq_true hz32) (Ev.t 57 (.ptr 2031 (Int.toNat (Int.tmod (IntKind.wrap .i64 ((Int.tmod x26 (r19.size : Int)) + (r19.size : Int))) (r19.size : Int))))) (Ev.t 56 (bI .u8 (IntKind.wrap .u8 (BitVec.ofInt (IntKind.bits .u8) (((ByteArray.data r19).getD (Int.toNat (Int.tmod (IntKind.wrap .i64 ((Int.tmod x26 (r19.size : Int)) + (r19.size : Int))) (r19.size : Int))) 0).toNat : Int) ^^^ BitVec.ofInt (IntKind.bits .u8) (IntKind.wrap .u8 (Int.fdiv x30 (2 ^ min (Int.toNat 2) (IntKind.bits .i64))))).toNat)))) rfl rfl, trivial⟩ ⟨rfl, rfl, rfl, trivial⟩ ⟨rfl, trivial⟩ rfl ?_
        exact G.arr (J24 (bset r19 (Int.tmod (IntKind.wrap .i64 ((Int.tmod x26 (r19.size : Int)) + (r19.size : Int))) (r19.size : Int)) (IntKind.wrap .u8 (BitVec.ofInt (IntKind.bits .u8) (((ByteArray.data r19).getD (Int.toNat (Int.tmod (IntKind.wrap .i64 ((Int.tmod x26 (r19.size : Int)) + (r19.size : Int))) (r19.size : Int))) 0).toNat : Int) ^^^ BitVec.ofInt (IntKind.bits .u8) (IntKind.wrap .u8 (Int.fdiv x30 (2 ^ min (Int.toNat 2) (IntKind.bits .i64))))).toNat)) hF) ⟨rfl, rfl, rfl, trivial⟩ ⟨rfl, trivial⟩ rfl
      · refine G.cond rfl (fun hx => by rw [hc25] at hx; cases hx) (fun _ => ?_)
        refine G.skip ?_
        exact G.arr (J24 r19 hF) ⟨rfl, rfl, rfl, trivial⟩ ⟨rfl, trivial⟩ rfl
    · refine G.cond rfl (fun hx => by rw [hc17] at hx; cases hx) (fun _ => ?_)
      refine G.skip ?_
      exact G.arr (J16 (y2, x3) hF) ⟨rfl, rfl, rfl, trivial⟩ trivial rfl
  refine ifS hF (fun hc34 hF => ?_) (fun hc34 hF => ?_)
  · refine G.cond rfl (fun _ => ?_) (fun hx => by rw [hc34] at hx; cases hx)
    refine G.region ?_
    refine G.op1 (op_move (Ev.t 1 (bS s_1)) rfl) rfl ⟨rfl, trivial⟩ trivial ?_
    obtain ⟨s35, hs35, hF⟩ := bindS hF
    refine G.op1 (OpL.cast (op_sliceS (lo := none) (hi := some 60) Try.underlying9 (ssub_ok hs35).1 (ssub_ok hs35).2.1 (ssub_ok hs35).2.2.1 (Ev.t 20 (bS s_1)) EvO.none (EvO.some (Ev.c _ rfl)) rfl) (congrArg (fun s => bS s) (ssub_ok hs35).2.2.2)) rfl ⟨rfl, trivial⟩ trivial ?_
    refine G.op1 (op_assign (Ev.t 21 (bS s35)) rfl) rfl ⟨rfl, trivial⟩ trivial ?_
    refine G.endOps ?_
    exact G.arr (J33 s35 hF) ⟨rfl, rfl, rfl, rfl, trivial⟩ ⟨rfl, trivial⟩ (by simp only [wellId, List.all_cons, List.all_nil, HE.ids, ids_dat]; rfl)
  · refine G.cond rfl (fun hx => by rw [hc34] at hx; cases hx) (fun _ => ?_)
    refine G.skip ?_
    exact G.arr (J33 s_1 hF) ⟨rfl, rfl, rfl, rfl, trivial⟩ ⟨rfl, trivial⟩ (by simp only [wellId, List.all_cons, List.all_nil, HE.ids, ids_dat]; rfl)


end Go.Ark
