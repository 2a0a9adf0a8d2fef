/- Walks, printed by a program of mine: each function of the program computes the typed function of its name. Conditions: none. -/
import Derived.Test.YtildciopogbhcaaWNearestTells2
namespace Go.Ark
open Go Go.Ab Go.RowKit Go.Lib Go.Proofs

set_option maxRecDepth 20000 in
set_option maxHeartbeats 2000000 in
theorem ct_ref04_Check (p_0 : (List Api_Dep)) (r : Bool) (hF : ref04_Check p_0 = some r) : Ct Try.prog 39 [.g (.d (.sl 3 (List.map encApi_Dep p_0)))] (.one (.d (.v (.bool r)))) := by
  unfold ref04_Check at hF
  refine Ct.intro Try.func39 rfl Try.ntmps39 rfl rfl fun M w => ?_
  refine G.seq ?_
  refine G.region ?_
  refine G.op1 (op_assign (Ev.c _ rfl) rfl) rfl trivial trivial ?_
  refine G.endOps ?_
  refine G.seq ?_
  refine G.seq ?_
  refine G.region ?_
  refine G.op1 (op_assign (Ev.c _ rfl) rfl) rfl trivial trivial ?_
  refine G.endOps ?_
  refine G.joinC (T := Unit) (fun y1 => ⟨[(0, .one (.g (.d (.sl 3 (List.map encApi_Dep p_0)))))], []⟩) (fun y1 => ref04_Check_k1 p_0 y1 = some r) (fun y1 hF => ?_) (fun J2 => ?_)
  · unfold ref04_Check_k1 at hF
    refine G.seq ?_
    refine G.region ?_
    refine G.op1 (op_move (Ev.t 0 (.g (.d (.sl 3 (List.map encApi_Dep p_0))))) rfl) rfl ⟨rfl, trivial⟩ trivial ?_
    refine G.op1 (OpL.cast (op_lenD Try.underlying29 (Ev.t 48 (.g (.d (.sl 3 (List.map encApi_Dep p_0))))) rfl) (by rw [List.length_map])) rfl ⟨rfl, trivial⟩ trivial ?_
    refine G.op1 (op_leq (Ev.t 49 (bI .i64 (p_0.length : Int))) (Ev.c _ rfl) rfl) rfl ⟨rfl, trivial⟩ trivial ?_
    refine G.op1 (op_assign (Ev.t 50 (bB (decide ((p_0.length : Int) ≤ 24)))) rfl) rfl ⟨rfl, trivial⟩ trivial ?_
    refine G.endOps ?_
    cases hF
    exact G.ret1 Try.results39 (RVar.tmp 2 _) ⟨rfl, trivial⟩ trivial
  refine G.block ?_
  refine G.keep (sl' := [(0, .one (.g (.d (.sl 3 (List.map encApi_Dep p_0))))), (3, .one (bI .i64 0))]) (hp' := []) ⟨rfl, rfl, trivial⟩ trivial rfl ?_
  refine G.loopF (fun (v3 : Int) => ⟨[(0, .one (.g (.d (.sl 3 (List.map encApi_Dep p_0))))), (3, .one (bI .i64 v3))], []⟩) hF rfl (fun K6 again5 v3 J4 hF => ?_)
  unfold ref04_Check_l2 at hF
  refine G.seq ?_
  refine G.seq ?_
  refine G.region ?_
  refine G.op1 (op_move (Ev.t 3 (bI .i64 v3)) rfl) rfl ⟨rfl, trivial⟩ trivial ?_
  refine G.op1 (op_move (Ev.t 0 (.g (.d (.sl 3 (List.map encApi_Dep p_0))))) rfl) rfl ⟨rfl, trivial⟩ trivial ?_
  refine G.op1 (OpL.cast (op_lenD Try.underlying29 (Ev.t 7 (.g (.d (.sl 3 (List.map encApi_Dep p_0))))) rfl) (by rw [List.length_map])) rfl ⟨rfl, trivial⟩ trivial ?_
  refine G.op1 (op_lss (Ev.t 6 (bI .i64 v3)) (Ev.t 8 (bI .i64 (p_0.length : Int))) rfl) rfl ⟨rfl, rfl, trivial⟩ trivial ?_
  refine G.endOps ?_
  refine ifS hF (fun hc7 hF => ?_) (fun hc7 hF => ?_)
  · refine G.cond rfl (fun _ => ?_) (fun hx => by rw [hc7] at hx; cases hx)
    refine G.skip ?_
    refine G.seq ?_
    refine G.block ?_
    refine G.seq ?_
    refine G.region ?_
    refine G.op1 (op_move (Ev.t 0 (.g (.d (.sl 3 (List.map encApi_Dep p_0))))) rfl) rfl ⟨rfl, trivial⟩ trivial ?_
    refine G.op1 (op_move (Ev.t 3 (bI .i64 v3)) rfl) rfl ⟨rfl, trivial⟩ trivial ?_
    obtain ⟨x8, hx8, hF⟩ := bindS hF
    refine G.op1 (op_index (cs := [.v (.string x8.Key), .v (.int .i64 x8.Stamp.N), .v (.int .i64 x8.Stamp.Site)]) Try.underlying29 ti26 (idx_ok hx8).1 (idx_get hx8 encApi_Dep) (Ev.t 12 (.g (.d (.sl 3 (List.map encApi_Dep p_0))))) (Ev.t 13 (bI .i64 v3)) rfl) rfl ⟨rfl, rfl, trivial⟩ trivial ?_
    refine G.op1 (op_fieldE (cs' := [.v (.string x8.Key), .v (.int .i64 x8.Stamp.N), .v (.int .i64 x8.Stamp.Site)]) Try.underlying26 rfl ti9 (by decide) rfl (Ev.t 14 (.ep [.v (.string x8.Key), .v (.int .i64 x8.Stamp.N), .v (.int .i64 x8.Stamp.Site)])) rfl) rfl ⟨rfl, trivial⟩ trivial ?_
    refine G.op1 (op_load1E (c := .v (.string x8.Key)) Try.underlying9 rfl rfl (Ev.t 15 (.ep [.v (.string x8.Key), .v (.int .i64 x8.Stamp.N), .v (.int .i64 x8.Stamp.Site)])) rfl) rfl ⟨rfl, trivial⟩ trivial ?_
    obtain ⟨r9, hr9, hF⟩ := bindS hF
    refine G.op1 (op_callQ (sv := .one (bB r9)) cf43 (ct_ref02_Check x8.Key r9 hr9) rfl rfl (EvQL.cons (EvQ.g (Ev.t 16 (bS x8.Key))) EvQL.nil) rfl) rfl ⟨rfl, trivial⟩ trivial ?_
    refine G.op1 (op_assign (Ev.t 17 (bB r9)) rfl) rfl ⟨rfl, trivial⟩ trivial ?_
    refine G.endOps ?_
    refine G.seq ?_
    refine G.region ?_
    refine G.op1 (op_move (Ev.t 0 (.g (.d (.sl 3 (List.map encApi_Dep p_0))))) rfl) rfl ⟨rfl, trivial⟩ trivial ?_
    refine G.op1 (op_move (Ev.t 3 (bI .i64 v3)) rfl) rfl ⟨rfl, trivial⟩ trivial ?_
    obtain ⟨x10, hx10, hF⟩ := bindS hF
    refine G.op1 (op_index (cs := [.v (.string x10.Key), .v (.int .i64 x10.Stamp.N), .v (.int .i64 x10.Stamp.Site)]) Try.underlying29 ti26 (idx_ok hx10).1 (idx_get hx10 encApi_Dep) (Ev.t 18 (.g (.d (.sl 3 (List.map encApi_Dep p_0))))) (Ev.t 19 (bI .i64 v3)) rfl) rfl ⟨rfl, rfl, trivial⟩ trivial ?_
    refine G.op1 (op_fieldE (cs' := [.v (.int .i64 x10.Stamp.N), .v (.int .i64 x10.Stamp.Site)]) Try.underlying26 rfl ti24 (by decide) rfl (Ev.t 20 (.ep [.v (.string x10.Key), .v (.int .i64 x10.Stamp.N), .v (.int .i64 x10.Stamp.Site)])) rfl) rfl ⟨rfl, trivial⟩ trivial ?_
    refine G.op1 (op_loadAE (ds := [.v (.int .i64 x10.Stamp.N), .v (.int .i64 x10.Stamp.Site)]) Try.underlying24 rfl ti24 rfl (Ev.t 21 (.ep [.v (.int .i64 x10.Stamp.N), .v (.int .i64 x10.Stamp.Site)])) rfl) rfl ⟨rfl, trivial⟩ trivial ?_
    obtain ⟨r11, hr11, hF⟩ := bindS hF
    refine G.op1 (op_callQ (sv := .one (bB r11)) cf40 (ct_ref03_Check x10.Stamp r11 hr11) rfl rfl (EvQL.cons (EvQ.g (Ev.t 22 (.g (.agg [.v (.int .i64 x10.Stamp.N), .v (.int .i64 x10.Stamp.Site)])))) EvQL.nil) rfl) rfl ⟨rfl, trivial⟩ trivial ?_
    refine G.op1 (op_assign (Ev.t 23 (bB r11)) rfl) rfl ⟨rfl, trivial⟩ trivial ?_
    refine G.endOps ?_
    refine G.seq ?_
    refine ifS hF (fun hc12 hF => ?_) (fun hc12 hF => ?_)
    · refine G.drawn (effs := (⟨[(4, .one (bB r9))], [], [(24, .one (bB r9))], []⟩ :: ⟨[(24, .one (bB r9))], [], [(25, .one (bB true))], []⟩ :: ⟨[(25, .one (bB true))], [], [(26, .one (bB true))], []⟩ :: ⟨[(26, .one (bB true))], [], [(27, .one (.x Go.undef))], []⟩ :: ⟨[(26, .one (bB true))], [], [(28, .one (.x Go.undef))], []⟩ :: ⟨[(26, .one (bB true))], [], [(29, .one (bB true))], []⟩ :: ⟨[(29, .one (bB true))], [], [(30, .one (bB true))], []⟩ :: ⟨[(30, .one (bB true))], [], [(31, .one (.x Go.undef))], []⟩ :: ⟨[(30, .one (bB true))], [], [(32, .one (.x Go.undef))], []⟩ :: ⟨[(30, .one (bB true))], [], [(33, .one (.x Go.undef))], []⟩ :: ⟨[(33, .one (.x Go.undef))], [], [(34, .one (.x Go.undef))], []⟩ :: ⟨[(33, .one (.x Go.undef))], [], [(35, .one (.x Go.undef))], []⟩ :: ⟨[(33, .one (.x Go.undef))], [], [(36, .one (.x Go.undef))], []⟩ :: ⟨[(33, .one (.x Go.undef))], [], [(37, .one (.x Go.undef))], []⟩ :: ⟨[(33, .one (.x Go.undef))], [], [(38, .one (.x Go.undef))], []⟩ :: ⟨[(33, .one (.x Go.undef))], [], [(39, .one (.x Go.undef))], []⟩ :: ⟨[(33, .one (.x Go.undef))], [], [(40, .one (.x Go.undef))], []⟩ :: ⟨[(33, .one (.x Go.undef))], [], [(41, .one (.x Go.undef))], []⟩ :: ⟨[(33, .one (.x Go.undef))], [], [(42, .one (.x Go.undef))], []⟩ :: ⟨[(33, .one (.x Go.undef))], [], [(43, .one (.x Go.undef))], []⟩ :: ⟨[(33, .one (.x Go.undef))], [], [(44, .one (.x Go.undef))], []⟩ :: ⟨[(33, .one (.x Go.undef))], [], [(45, .one (.x Go.undef))], []⟩ :: ⟨[(30, .one (bB true))], [], [(46, .one (.x Go.undef))], []⟩ :: ⟨[(30, .one (bB true))], [], [(47, .one (bB true))], []⟩ :: [])) (deps := ([] :: [0] :: [0, 1] :: [0, 1, 2] :: [0, 1, 2, 3] :: [0, 1, 2, 3, 4] :: [0, 1, 2, 3, 4, 5] :: [0, 1, 2, 3, 4, 5, 6] :: [0, 1, 2, 3, 4, 5, 6, 7] :: [0, 1, 2, 3, 4, 5, 6, 7, 8] :: [0, 1, 2, 3, 4, 5, 6, 7, 8, 9] :: [0, 1, 2, 3, 4, 5, 6, 7, 8, 9] :: [0, 1, 2, 3, 4, 5, 6, 7, 8, 9, 11] :: [0, 1, 2, 3, 4, 5, 6, 7, 8, 9, 10, 11, 12] :: [0, 1, 2, 3, 4, 5, 6, 7, 8, 9, 10, 11, 12, 13] :: [0, 1, 2, 3, 4, 5, 6, 7, 8, 9, 10, 11, 12, 13, 14] :: [0, 1, 2, 3, 4, 5, 6, 7, 8, 9] :: [0, 1, 2, 3, 4, 5, 6, 7, 8, 9] :: [0, 1, 2, 3, 4, 5, 6, 7, 8, 9, 16, 17] :: [0, 1, 2, 3, 4, 5, 6, 7, 8, 9, 16, 17, 18] :: [0, 1, 2, 3, 4, 5, 6, 7, 8, 9, 16, 17, 18, 19] :: (0 :: 1 :: 2 :: 3 :: 4 :: 5 :: 6 :: 7 :: 8 :: 9 :: 10 :: 11 :: 12 :: 13 :: 14 :: 15 :: 16 :: 17 :: 18 :: 19 :: 20 :: []) :: (0 :: 1 :: 2 :: 3 :: 4 :: 5 :: 6 :: 7 :: 8 :: 9 :: 10 :: 11 :: 12 :: 13 :: 14 :: 15 :: 16 :: 17 :: 18 :: 19 :: 20 :: 21 :: []) :: (0 :: 1 :: 2 :: 3 :: 4 :: 5 :: 6 :: 7 :: 8 :: 9 :: 10 :: 11 :: 12 :: 13 :: 14 :: 15 :: 16 :: 17 :: 18 :: 19 :: 20 :: 21 :: 22 :: []) :: [])) (sl' := [(0, .one (.g (.d (.sl 3 (List.map encApi_Dep p_0))))), (3, .one (bI .i64 v3)), (47, .one (bB true))]) (hp' := []) follows rfl rfl rfl ⟨⟨rfl, trivial⟩, trivial, ⟨rfl, trivial⟩, trivial, ⟨rfl, trivial⟩, trivial, ⟨rfl, trivial⟩, trivial, ⟨rfl, trivial⟩, trivial, ⟨rfl, trivial⟩, trivial, ⟨rfl, trivial⟩, trivial, ⟨rfl, trivial⟩, trivial, ⟨rfl, trivial⟩, trivial, ⟨rfl, trivial⟩, trivial, ⟨rfl, trivial⟩, trivial, ⟨rfl, trivial⟩, trivial, ⟨rfl, trivial⟩, trivial, ⟨rfl, trivial⟩, trivial, ⟨rfl, trivial⟩, trivial, ⟨rfl, trivial⟩, trivial, ⟨rfl, trivial⟩, trivial, ⟨rfl, trivial⟩, trivial, ⟨rfl, trivial⟩, trivial, ⟨rfl, trivial⟩, trivial, ⟨rfl, trivial⟩, trivial, ⟨rfl, trivial⟩, trivial, ⟨rfl, trivial⟩, trivial, ⟨rfl, trivial⟩, trivial, trivial⟩ ⟨OpW.plain (op_move (Ev.t 4 (bB r9)) rfl) rfl rfl, OpW.plain (OpL.cast (op_not (Ev.t 24 (bB r9)) rfl) (congrArg (fun b => bB b) hc12)) rfl rfl, OpW.plain (op_move (Ev.t 25 (bB true)) rfl) rfl rfl, OpW.no rfl rfl rfl rfl rfl, OpW.no rfl rfl rfl rfl rfl, OpW.plain (op_pickT (Ev.t 26 (bB true)) (Ev.c _ rfl) rfl) rfl rfl, OpW.plain (op_move (Ev.t 29 (bB true)) rfl) rfl rfl, OpW.no rfl rfl rfl rfl rfl, OpW.no rfl rfl rfl rfl rfl, OpW.no rfl rfl rfl rfl rfl, OpW.un rfl rfl rfl rfl, OpW.un rfl rfl rfl rfl, OpW.un rfl rfl rfl rfl, OpW.un rfl rfl rfl rfl, OpW.un rfl rfl rfl rfl, OpW.un rfl rfl rfl rfl, OpW.un rfl rfl rfl rfl, OpW.un rfl rfl rfl rfl, OpW.un rfl rfl rfl rfl, OpW.un rfl rfl rfl rfl, OpW.un rfl rfl rfl rfl, OpW.un rfl rfl rfl rfl, OpW.no rfl rfl rfl rfl rfl, OpW.plain (op_pickT (Ev.t 30 (bB true)) (Ev.c _ rfl) rfl) rfl rfl, trivial⟩ ⟨rfl, rfl, rfl, trivial⟩ trivial rfl ?_
      refine G.condT rfl ?_
      refine G.seq ?_
      refine G.region ?_
      refine G.op1 (op_assign (Ev.c _ rfl) rfl) rfl trivial trivial ?_
      refine G.endOps ?_
      cases hF
      exact G.ret1 Try.results39 (RVar.tmp 2 _) ⟨rfl, trivial⟩ trivial
    · refine ifS hF (fun hc13 hF => ?_) (fun hc13 hF => ?_)
      · refine G.drawn (effs := (⟨[(4, .one (bB r9))], [], [(24, .one (bB r9))], []⟩ :: ⟨[(24, .one (bB r9))], [], [(25, .one (bB false))], []⟩ :: ⟨[(25, .one (bB false))], [], [(26, .one (bB false))], []⟩ :: ⟨[(26, .one (bB false)), (5, .one (bB r11))], [], [(27, .one (bB r11))], []⟩ :: ⟨[(26, .one (bB false)), (27, .one (bB r11))], [], [(28, .one (bB true))], []⟩ :: ⟨[(26, .one (bB false)), (28, .one (bB true))], [], [(29, .one (bB true))], []⟩ :: ⟨[(29, .one (bB true))], [], [(30, .one (bB true))], []⟩ :: ⟨[(30, .one (bB true))], [], [(31, .one (.x Go.undef))], []⟩ :: ⟨[(30, .one (bB true))], [], [(32, .one (.x Go.undef))], []⟩ :: ⟨[(30, .one (bB true))], [], [(33, .one (.x Go.undef))], []⟩ :: ⟨[(33, .one (.x Go.undef))], [], [(34, .one (.x Go.undef))], []⟩ :: ⟨[(33, .one (.x Go.undef))], [], [(35, .one (.x Go.undef))], []⟩ :: ⟨[(33, .one (.x Go.undef))], [], [(36, .one (.x Go.undef))], []⟩ :: ⟨[(33, .one (.x Go.undef))], [], [(37, .one (.x Go.undef))], []⟩ :: ⟨[(33, .one (.x Go.undef))], [], [(38, .one (.x Go.undef))], []⟩ :: ⟨[(33, .one (.x Go.undef))], [], [(39, .one (.x Go.undef))], []⟩ :: ⟨[(33, .one (.x Go.undef))], [], [(40, .one (.x Go.undef))], []⟩ :: ⟨[(33, .one (.x Go.undef))], [], [(41, .one (.x Go.undef))], []⟩ :: ⟨[(33, .one (.x Go.undef))], [], [(42, .one (.x Go.undef))], []⟩ :: ⟨[(33, .one (.x Go.undef))], [], [(43, .one (.x Go.undef))], []⟩ :: ⟨[(33, .one (.x Go.undef))], [], [(44, .one (.x Go.undef))], []⟩ :: ⟨[(33, .one (.x Go.undef))], [], [(45, .one (.x Go.undef))], []⟩ :: ⟨[(30, .one (bB true))], [], [(46, .one (.x Go.undef))], []⟩ :: ⟨[(30, .one (bB true))], [], [(47, .one (bB true))], []⟩ :: [])) (deps := ([] :: [0] :: [0, 1] :: [0, 1, 2] :: [0, 1, 2, 3] :: [0, 1, 2, 3, 4] :: [0, 1, 2, 3, 4, 5] :: [0, 1, 2, 3, 4, 5, 6] :: [0, 1, 2, 3, 4, 5, 6, 7] :: [0, 1, 2, 3, 4, 5, 6, 7, 8] :: [0, 1, 2, 3, 4, 5, 6, 7, 8, 9] :: [0, 1, 2, 3, 4, 5, 6, 7, 8, 9] :: [0, 1, 2, 3, 4, 5, 6, 7, 8, 9, 11] :: [0, 1, 2, 3, 4, 5, 6, 7, 8, 9, 10, 11, 12] :: [0, 1, 2, 3, 4, 5, 6, 7, 8, 9, 10, 11, 12, 13] :: [0, 1, 2, 3, 4, 5, 6, 7, 8, 9, 10, 11, 12, 13, 14] :: [0, 1, 2, 3, 4, 5, 6, 7, 8, 9] :: [0, 1, 2, 3, 4, 5, 6, 7, 8, 9] :: [0, 1, 2, 3, 4, 5, 6, 7, 8, 9, 16, 17] :: [0, 1, 2, 3, 4, 5, 6, 7, 8, 9, 16, 17, 18] :: [0, 1, 2, 3, 4, 5, 6, 7, 8, 9, 16, 17, 18, 19] :: (0 :: 1 :: 2 :: 3 :: 4 :: 5 :: 6 :: 7 :: 8 :: 9 :: 10 :: 11 :: 12 :: 13 :: 14 :: 15 :: 16 :: 17 :: 18 :: 19 :: 20 :: []) :: (0 :: 1 :: 2 :: 3 :: 4 :: 5 :: 6 :: 7 :: 8 :: 9 :: 10 :: 11 :: 12 :: 13 :: 14 :: 15 :: 16 :: 17 :: 18 :: 19 :: 20 :: 21 :: []) :: (0 :: 1 :: 2 :: 3 :: 4 :: 5 :: 6 :: 7 :: 8 :: 9 :: 10 :: 11 :: 12 :: 13 :: 14 :: 15 :: 16 :: 17 :: 18 :: 19 :: 20 :: 21 :: 22 :: []) :: [])) (sl' := [(0, .one (.g (.d (.sl 3 (List.map encApi_Dep p_0))))), (3, .one (bI .i64 v3)), (47, .one (bB true))]) (hp' := []) follows rfl rfl rfl ⟨⟨rfl, trivial⟩, trivial, ⟨rfl, trivial⟩, trivial, ⟨rfl, trivial⟩, trivial, ⟨rfl, rfl, trivial⟩, trivial, ⟨rfl, rfl, trivial⟩, trivial, ⟨rfl, rfl, trivial⟩, trivial, ⟨rfl, trivial⟩, trivial, ⟨rfl, trivial⟩, trivial, ⟨rfl, trivial⟩, trivial, ⟨rfl, trivial⟩, trivial, ⟨rfl, trivial⟩, trivial, ⟨rfl, trivial⟩, trivial, ⟨rfl, trivial⟩, trivial, ⟨rfl, trivial⟩, trivial, ⟨rfl, trivial⟩, trivial, ⟨rfl, trivial⟩, trivial, ⟨rfl, trivial⟩, trivial, ⟨rfl, trivial⟩, trivial, ⟨rfl, trivial⟩, trivial, ⟨rfl, trivial⟩, trivial, ⟨rfl, trivial⟩, trivial, ⟨rfl, trivial⟩, trivial, ⟨rfl, trivial⟩, trivial, ⟨rfl, trivial⟩, trivial, trivial⟩ ⟨OpW.plain (op_move (Ev.t 4 (bB r9)) rfl) rfl rfl, OpW.plain (OpL.cast (op_not (Ev.t 24 (bB r9)) rfl) (congrArg (fun b => bB b) hc12)) rfl rfl, OpW.plain (op_move (Ev.t 25 (bB false)) rfl) rfl rfl, OpW.yes (op_move (Ev.t 5 (bB r11)) rfl) rfl rfl rfl, OpW.yes (OpL.cast (op_not (Ev.t 27 (bB r11)) rfl) (congrArg (fun b => bB b) hc13)) rfl rfl rfl, OpW.plain (op_pickF (Ev.t 26 (bB false)) (Ev.t 28 (bB true)) rfl) rfl rfl, OpW.plain (op_move (Ev.t 29 (bB true)) rfl) rfl rfl, OpW.no rfl rfl rfl rfl rfl, OpW.no rfl rfl rfl rfl rfl, OpW.no rfl rfl rfl rfl rfl, OpW.un rfl rfl rfl rfl, OpW.un rfl rfl rfl rfl, OpW.un rfl rfl rfl rfl, OpW.un rfl rfl rfl rfl, OpW.un rfl rfl rfl rfl, OpW.un rfl rfl rfl rfl, OpW.un rfl rfl rfl rfl, OpW.un rfl rfl rfl rfl, OpW.un rfl rfl rfl rfl, OpW.un rfl rfl rfl rfl, OpW.un rfl rfl rfl rfl, OpW.un rfl rfl rfl rfl, OpW.no rfl rfl rfl rfl rfl, OpW.plain (op_pickT (Ev.t 30 (bB true)) (Ev.c _ rfl) rfl) rfl rfl, trivial⟩ ⟨rfl, rfl, rfl, trivial⟩ trivial rfl ?_
        refine G.condT rfl ?_
        refine G.seq ?_
        refine G.region ?_
        refine G.op1 (op_assign (Ev.c _ rfl) rfl) rfl trivial trivial ?_
        refine G.endOps ?_
        cases hF
        exact G.ret1 Try.results39 (RVar.tmp 2 _) ⟨rfl, trivial⟩ trivial
      · refine ifS hF (fun hc14 hF => ?_) (fun hc14 hF => ?_)
        · obtain ⟨x15, hx15, hF⟩ := bindS hF
          obtain ⟨x16, hx16, hF⟩ := bindS hF
          refine G.drawn (effs := (⟨[(4, .one (bB r9))], [], [(24, .one (bB r9))], []⟩ :: ⟨[(24, .one (bB r9))], [], [(25, .one (bB false))], []⟩ :: ⟨[(25, .one (bB false))], [], [(26, .one (bB false))], []⟩ :: ⟨[(26, .one (bB false)), (5, .one (bB r11))], [], [(27, .one (bB r11))], []⟩ :: ⟨[(26, .one (bB false)), (27, .one (bB r11))], [], [(28, .one (bB false))], []⟩ :: ⟨[(26, .one (bB false)), (28, .one (bB false))], [], [(29, .one (bB false))], []⟩ :: ⟨[(29, .one (bB false))], [], [(30, .one (bB false))], []⟩ :: ⟨[(30, .one (bB false)), (3, .one (bI .i64 v3))], [], [(31, .one (bI .i64 v3))], []⟩ :: ⟨[(30, .one (bB false)), (31, .one (bI .i64 v3))], [], [(32, .one (bB true))], []⟩ :: ⟨[(30, .one (bB false)), (32, .one (bB true))], [], [(33, .one (bB true))], []⟩ :: ⟨[(33, .one (bB true)), (0, .one (.g (.d (.sl 3 (List.map encApi_Dep p_0)))))], [], [(34, .one (.g (.d (.sl 3 (List.map encApi_Dep p_0)))))], []⟩ :: ⟨[(33, .one (bB true)), (3, .one (bI .i64 v3))], [], [(35, .one (bI .i64 v3))], []⟩ :: ⟨[(33, .one (bB true)), (35, .one (bI .i64 v3))], [], [(36, .one (bI .i64 (IntKind.wrap .i64 (v3 - 1))))], []⟩ :: ⟨[(33, .one (bB true)), (34, .one (.g (.d (.sl 3 (List.map encApi_Dep p_0))))), (36, .one (bI .i64 (IntKind.wrap .i64 (v3 - 1))))], [], [(37, .one (.ep [.v (.string x15.Key), .v (.int .i64 x15.Stamp.N), .v (.int .i64 x15.Stamp.Site)]))], []⟩ :: ⟨[(33, .one (bB true)), (37, .one (.ep [.v (.string x15.Key), .v (.int .i64 x15.Stamp.N), .v (.int .i64 x15.Stamp.Site)]))], [], [(38, .one (.ep [.v (.string x15.Key), .v (.int .i64 x15.Stamp.N), .v (.int .i64 x15.Stamp.Site)]))], []⟩ :: ⟨[(33, .one (bB true)), (38, .one (.ep [.v (.string x15.Key), .v (.int .i64 x15.Stamp.N), .v (.int .i64 x15.Stamp.Site)]))], [], [(39, .one (bS x15.Key))], []⟩ :: ⟨[(33, .one (bB true)), (0, .one (.g (.d (.sl 3 (List.map encApi_Dep p_0)))))], [], [(40, .one (.g (.d (.sl 3 (List.map encApi_Dep p_0)))))], []⟩ :: ⟨[(33, .one (bB true)), (3, .one (bI .i64 v3))], [], [(41, .one (bI .i64 v3))], []⟩ :: ⟨[(33, .one (bB true)), (40, .one (.g (.d (.sl 3 (List.map encApi_Dep p_0))))), (41, .one (bI .i64 v3))], [], [(42, .one (.ep [.v (.string x16.Key), .v (.int .i64 x16.Stamp.N), .v (.int .i64 x16.Stamp.Site)]))], []⟩ :: ⟨[(33, .one (bB true)), (42, .one (.ep [.v (.string x16.Key), .v (.int .i64 x16.Stamp.N), .v (.int .i64 x16.Stamp.Site)]))], [], [(43, .one (.ep [.v (.string x16.Key), .v (.int .i64 x16.Stamp.N), .v (.int .i64 x16.Stamp.Site)]))], []⟩ :: ⟨[(33, .one (bB true)), (43, .one (.ep [.v (.string x16.Key), .v (.int .i64 x16.Stamp.N), .v (.int .i64 x16.Stamp.Site)]))], [], [(44, .one (bS x16.Key))], []⟩ :: ⟨[(33, .one (bB true)), (39, .one (bS x15.Key)), (44, .one (bS x16.Key))], [], [(45, .one (bB (!slt x15.Key x16.Key)))], []⟩ :: ⟨[(30, .one (bB false)), (33, .one (bB true)), (45, .one (bB (!slt x15.Key x16.Key)))], [], [(46, .one (bB (!slt x15.Key x16.Key)))], []⟩ :: ⟨[(30, .one (bB false)), (46, .one (bB (!slt x15.Key x16.Key)))], [], [(47, .one (bB (!slt x15.Key x16.Key)))], []⟩ :: [])) (deps := ([] :: [0] :: [0, 1] :: [0, 1, 2] :: [0, 1, 2, 3] :: [0, 1, 2, 3, 4] :: [0, 1, 2, 3, 4, 5] :: [0, 1, 2, 3, 4, 5, 6] :: [0, 1, 2, 3, 4, 5, 6, 7] :: [0, 1, 2, 3, 4, 5, 6, 7, 8] :: [0, 1, 2, 3, 4, 5, 6, 7, 8, 9] :: [0, 1, 2, 3, 4, 5, 6, 7, 8, 9] :: [0, 1, 2, 3, 4, 5, 6, 7, 8, 9, 11] :: [0, 1, 2, 3, 4, 5, 6, 7, 8, 9, 10, 11, 12] :: [0, 1, 2, 3, 4, 5, 6, 7, 8, 9, 10, 11, 12, 13] :: [0, 1, 2, 3, 4, 5, 6, 7, 8, 9, 10, 11, 12, 13, 14] :: [0, 1, 2, 3, 4, 5, 6, 7, 8, 9] :: [0, 1, 2, 3, 4, 5, 6, 7, 8, 9] :: [0, 1, 2, 3, 4, 5, 6, 7, 8, 9, 16, 17] :: [0, 1, 2, 3, 4, 5, 6, 7, 8, 9, 16, 17, 18] :: [0, 1, 2, 3, 4, 5, 6, 7, 8, 9, 16, 17, 18, 19] :: (0 :: 1 :: 2 :: 3 :: 4 :: 5 :: 6 :: 7 :: 8 :: 9 :: 10 :: 11 :: 12 :: 13 :: 14 :: 15 :: 16 :: 17 :: 18 :: 19 :: 20 :: []) :: (0 :: 1 :: 2 :: 3 :: 4 :: 5 :: 6 :: 7 :: 8 :: 9 :: 10 :: 11 :: 12 :: 13 :: 14 :: 15 :: 16 :: 17 :: 18 :: 19 :: 20 :: 21 :: []) :: (0 :: 1 :: 2 :: 3 :: 4 :: 5 :: 6 :: 7 :: 8 :: 9 :: 10 :: 11 :: 12 :: 13 :: 14 :: 15 :: 16 :: 17 :: 18 :: 19 :: 20 :: 21 :: 22 :: []) :: [])) (sl' := [(0, .one (.g (.d (.sl 3 (List.map encApi_Dep p_0))))), (3, .one (bI .i64 v3)), (47, .one (bB (!slt x15.Key x16.Key)))]) (hp' := []) follows rfl rfl rfl ⟨⟨rfl, trivial⟩, trivial, ⟨rfl, trivial⟩, trivial, ⟨rfl, trivial⟩, trivial, ⟨rfl, rfl, trivial⟩, trivial, ⟨rfl, rfl, trivial⟩, trivial, ⟨rfl, rfl, trivial⟩, trivial, ⟨rfl, trivial⟩, trivial, ⟨rfl, rfl, trivial⟩, trivial, ⟨rfl, rfl, trivial⟩, trivial, ⟨rfl, rfl, trivial⟩, trivial, ⟨rfl, rfl, trivial⟩, trivial, ⟨rfl, rfl, trivial⟩, trivial, ⟨rfl, rfl, trivial⟩, trivial, ⟨rfl, rfl, rfl, trivial⟩, trivial, ⟨rfl, rfl, trivial⟩, trivial, ⟨rfl, rfl, trivial⟩, trivial, ⟨rfl, rfl, trivial⟩, trivial, ⟨rfl, rfl, trivial⟩, trivial, ⟨rfl, rfl, rfl, trivial⟩, trivial, ⟨rfl, rfl, trivial⟩, trivial, ⟨rfl, rfl, trivial⟩, trivial, ⟨rfl, rfl, rfl, trivial⟩, trivial, ⟨rfl, rfl, rfl, trivial⟩, trivial, ⟨rfl, rfl, trivial⟩, trivial, trivial⟩ ⟨OpW.plain (op_move (Ev.t 4 (bB r9)) rfl) rfl rfl, OpW.plain (OpL.cast (op_not (Ev.t 24 (bB r9)) rfl) (congrArg (fun b => bB b) hc12)) rfl rfl, OpW.plain (op_move (Ev.t 25 (bB false)) rfl) rfl rfl, OpW.yes (op_move (Ev.t 5 (bB r11)) rfl) rfl rfl rfl, OpW.yes (OpL.cast (op_not (Ev.t 27 (bB r11)) rfl) (congrArg (fun b => bB b) hc13)) rfl rfl rfl, OpW.plain (op_pickF (Ev.t 26 (bB false)) (Ev.t 28 (bB false)) rfl) rfl rfl, OpW.plain (op_move (Ev.t 29 (bB false)) rfl) rfl rfl, OpW.yes (op_move (Ev.t 3 (bI .i64 v3)) rfl) rfl rfl rfl, OpW.yes (OpL.cast (op_gtr (Ev.t 31 (bI .i64 v3)) (Ev.c _ rfl) rfl) (congrArg (fun b => bB b) hc14)) rfl rfl rfl, OpW.yes (op_move (Ev.t 32 (bB true)) rfl) rfl rfl rfl, OpW.yes (op_move (Ev.t 0 (.g (.d (.sl 3 (List.map encApi_Dep p_0))))) rfl) rfl rfl rfl, OpW.yes (op_move (Ev.t 3 (bI .i64 v3)) rfl) rfl rfl rfl, OpW.yes (op_sub (Ev.t 35 (bI .i64 v3)) (Ev.c _ rfl) rfl) rfl rfl rfl, OpW.yes (op_index (cs := [.v (.string x15.Key), .v (.int .i64 x15.Stamp.N), .v (.int .i64 x15.Stamp.Site)]) Try.underlying29 ti26 (idx_ok hx15).1 (idx_get hx15 encApi_Dep) (Ev.t 34 (.g (.d (.sl 3 (List.map encApi_Dep p_0))))) (Ev.t 36 (bI .i64 (IntKind.wrap .i64 (v3 - 1)))) rfl) rfl rfl rfl, OpW.yes (op_fieldE (cs' := [.v (.string x15.Key), .v (.int .i64 x15.Stamp.N), .v (.int .i64 x15.Stamp.Site)]) Try.underlying26 rfl ti9 (by decide) rfl (Ev.t 37 (.ep [.v (.string x15.Key), .v (.int .i64 x15.Stamp.N), .v (.int .i64 x15.Stamp.Site)])) rfl) rfl rfl rfl, OpW.yes (op_load1E (c := .v (.string x15.Key)) Try.underlying9 rfl rfl (Ev.t 38 (.ep [.v (.string x15.Key), .v (.int .i64 x15.Stamp.N), .v (.int .i64 x15.Stamp.Site)])) rfl) rfl rfl rfl, OpW.yes (op_move (Ev.t 0 (.g (.d (.sl 3 (List.map encApi_Dep p_0))))) rfl) rfl rfl rfl, OpW.yes (op_move (Ev.t 3 (bI .i64 v3)) rfl) rfl rfl rfl, OpW.yes (op_index (cs := [.v (.string x16.Key), .v (.int .i64 x16.Stamp.N), .v (.int .i64 x16.Stamp.Site)]) Try.underlying29 ti26 (idx_ok hx16).1 (idx_get hx16 encApi_Dep) (Ev.t 40 (.g (.d (.sl 3 (List.map encApi_Dep p_0))))) (Ev.t 41 (bI .i64 v3)) rfl) rfl rfl rfl, OpW.yes (op_fieldE (cs' := [.v (.string x16.Key), .v (.int .i64 x16.Stamp.N), .v (.int .i64 x16.Stamp.Site)]) Try.underlying26 rfl ti9 (by decide) rfl (Ev.t 42 (.ep [.v (.string x16.Key), .v (.int .i64 x16.Stamp.N), .v (.int .i64 x16.Stamp.Site)])) rfl) rfl rfl rfl, OpW.yes (op_load1E (c := .v (.string x16.Key)) Try.underlying9 rfl rfl (Ev.t 43 (.ep [.v (.string x16.Key), .v (.int .i64 x16.Stamp.N), .v (.int .i64 x16.Stamp.Site)])) rfl) rfl rfl rfl, OpW.yes (op_geS (Ev.t 39 (bS x15.Key)) (Ev.t 44 (bS x16.Key)) rfl) rfl rfl rfl, OpW.yes (op_pickT (Ev.t 33 (bB true)) (Ev.t 45 (bB (!slt x15.Key x16.Key))) rfl) rfl rfl rfl, OpW.plain (op_pickF (Ev.t 30 (bB false)) (Ev.t 46 (bB (!slt x15.Key x16.Key))) rfl) rfl rfl, trivial⟩ ⟨rfl, rfl, rfl, trivial⟩ trivial rfl ?_
          refine ifS hF (fun hc17 hF => ?_) (fun hc17 hF => ?_)
          · refine G.cond rfl (fun _ => ?_) (fun hx => by rw [hc17] at hx; cases hx)
            refine G.seq ?_
            refine G.region ?_
            refine G.op1 (op_assign (Ev.c _ rfl) rfl) rfl trivial trivial ?_
            refine G.endOps ?_
            cases hF
            exact G.ret1 Try.results39 (RVar.tmp 2 _) ⟨rfl, trivial⟩ trivial
          · refine G.cond rfl (fun hx => by rw [hc17] at hx; cases hx) (fun _ => ?_)
            refine G.skip ?_
            refine G.endBlock ?_
            refine G.region ?_
            refine G.op1 (op_move (Ev.t 3 (bI .i64 v3)) rfl) rfl ⟨rfl, trivial⟩ trivial ?_
            refine G.op1 (op_add (Ev.t 10 (bI .i64 v3)) (Ev.c _ rfl) rfl) rfl ⟨rfl, trivial⟩ trivial ?_
            refine G.op1 (op_assign (Ev.t 11 (bI .i64 (IntKind.wrap .i64 (v3 + 1)))) rfl) rfl ⟨rfl, trivial⟩ trivial ?_
            refine G.endOps ?_
            exact G.arr (J4 (IntKind.wrap .i64 (v3 + 1)) hF) ⟨rfl, rfl, trivial⟩ trivial rfl
        · refine G.drawn (effs := (⟨[(4, .one (bB r9))], [], [(24, .one (bB r9))], []⟩ :: ⟨[(24, .one (bB r9))], [], [(25, .one (bB false))], []⟩ :: ⟨[(25, .one (bB false))], [], [(26, .one (bB false))], []⟩ :: ⟨[(26, .one (bB false)), (5, .one (bB r11))], [], [(27, .one (bB r11))], []⟩ :: ⟨[(26, .one (bB false)), (27, .one (bB r11))], [], [(28, .one (bB false))], []⟩ :: ⟨[(26, .one (bB false)), (28, .one (bB false))], [], [(29, .one (bB false))], []⟩ :: ⟨[(29, .one (bB false))], [], [(30, .one (bB false))], []⟩ :: ⟨[(30, .one (bB false)), (3, .one (bI .i64 v3))], [], [(31, .one (bI .i64 v3))], []⟩ :: ⟨[(30, .one (bB false)), (31, .one (bI .i64 v3))], [], [(32, .one (bB false))], []⟩ :: ⟨[(30, .one (bB false)), (32, .one (bB false))], [], [(33, .one (bB false))], []⟩ :: ⟨[(33, .one (bB false))], [], [(34, .one (.x Go.undef))], []⟩ :: ⟨[(33, .one (bB false))], [], [(35, .one (.x Go.undef))], []⟩ :: ⟨[(33, .one (bB false))], [], [(36, .one (.x Go.undef))], []⟩ :: ⟨[(33, .one (bB false))], [], [(37, .one (.x Go.undef))], []⟩ :: ⟨[(33, .one (bB false))], [], [(38, .one (.x Go.undef))], []⟩ :: ⟨[(33, .one (bB false))], [], [(39, .one (.x Go.undef))], []⟩ :: ⟨[(33, .one (bB false))], [], [(40, .one (.x Go.undef))], []⟩ :: ⟨[(33, .one (bB false))], [], [(41, .one (.x Go.undef))], []⟩ :: ⟨[(33, .one (bB false))], [], [(42, .one (.x Go.undef))], []⟩ :: ⟨[(33, .one (bB false))], [], [(43, .one (.x Go.undef))], []⟩ :: ⟨[(33, .one (bB false))], [], [(44, .one (.x Go.undef))], []⟩ :: ⟨[(33, .one (bB false))], [], [(45, .one (.x Go.undef))], []⟩ :: ⟨[(30, .one (bB false)), (33, .one (bB false))], [], [(46, .one (bB false))], []⟩ :: ⟨[(30, .one (bB false)), (46, .one (bB false))], [], [(47, .one (bB false))], []⟩ :: [])) (deps := ([] :: [0] :: [0, 1] :: [0, 1, 2] :: [0, 1, 2, 3] :: [0, 1, 2, 3, 4] :: [0, 1, 2, 3, 4, 5] :: [0, 1, 2, 3, 4, 5, 6] :: [0, 1, 2, 3, 4, 5, 6, 7] :: [0, 1, 2, 3, 4, 5, 6, 7, 8] :: [0, 1, 2, 3, 4, 5, 6, 7, 8, 9] :: [0, 1, 2, 3, 4, 5, 6, 7, 8, 9] :: [0, 1, 2, 3, 4, 5, 6, 7, 8, 9, 11] :: [0, 1, 2, 3, 4, 5, 6, 7, 8, 9, 10, 11, 12] :: [0, 1, 2, 3, 4, 5, 6, 7, 8, 9, 10, 11, 12, 13] :: [0, 1, 2, 3, 4, 5, 6, 7, 8, 9, 10, 11, 12, 13, 14] :: [0, 1, 2, 3, 4, 5, 6, 7, 8, 9] :: [0, 1, 2, 3, 4, 5, 6, 7, 8, 9] :: [0, 1, 2, 3, 4, 5, 6, 7, 8, 9, 16, 17] :: [0, 1, 2, 3, 4, 5, 6, 7, 8, 9, 16, 17, 18] :: [0, 1, 2, 3, 4, 5, 6, 7, 8, 9, 16, 17, 18, 19] :: (0 :: 1 :: 2 :: 3 :: 4 :: 5 :: 6 :: 7 :: 8 :: 9 :: 10 :: 11 :: 12 :: 13 :: 14 :: 15 :: 16 :: 17 :: 18 :: 19 :: 20 :: []) :: (0 :: 1 :: 2 :: 3 :: 4 :: 5 :: 6 :: 7 :: 8 :: 9 :: 10 :: 11 :: 12 :: 13 :: 14 :: 15 :: 16 :: 17 :: 18 :: 19 :: 20 :: 21 :: []) :: (0 :: 1 :: 2 :: 3 :: 4 :: 5 :: 6 :: 7 :: 8 :: 9 :: 10 :: 11 :: 12 :: 13 :: 14 :: 15 :: 16 :: 17 :: 18 :: 19 :: 20 :: 21 :: 22 :: []) :: [])) (sl' := [(0, .one (.g (.d (.sl 3 (List.map encApi_Dep p_0))))), (3, .one (bI .i64 v3)), (47, .one (bB false))]) (hp' := []) follows rfl rfl rfl ⟨⟨rfl, trivial⟩, trivial, ⟨rfl, trivial⟩, trivial, ⟨rfl, trivial⟩, trivial, ⟨rfl, rfl, trivial⟩, trivial, ⟨rfl, rfl, trivial⟩, trivial, ⟨rfl, rfl, trivial⟩, trivial, ⟨rfl, trivial⟩, trivial, ⟨rfl, rfl, trivial⟩, trivial, ⟨rfl, rfl, trivial⟩, trivial, ⟨rfl, rfl, trivial⟩, trivial, ⟨rfl, trivial⟩, trivial, ⟨rfl, trivial⟩, trivial, ⟨rfl, trivial⟩, trivial, ⟨rfl, trivial⟩, trivial, ⟨rfl, trivial⟩, trivial, ⟨rfl, trivial⟩, trivial, ⟨rfl, trivial⟩, trivial, ⟨rfl, trivial⟩, trivial, ⟨rfl, trivial⟩, trivial, ⟨rfl, trivial⟩, trivial, ⟨rfl, trivial⟩, trivial, ⟨rfl, trivial⟩, trivial, ⟨rfl, rfl, trivial⟩, trivial, ⟨rfl, rfl, trivial⟩, trivial, trivial⟩ ⟨OpW.plain (op_move (Ev.t 4 (bB r9)) rfl) rfl rfl, OpW.plain (OpL.cast (op_not (Ev.t 24 (bB r9)) rfl) (congrArg (fun b => bB b) hc12)) rfl rfl, OpW.plain (op_move (Ev.t 25 (bB false)) rfl) rfl rfl, OpW.yes (op_move (Ev.t 5 (bB r11)) rfl) rfl rfl rfl, OpW.yes (OpL.cast (op_not (Ev.t 27 (bB r11)) rfl) (congrArg (fun b => bB b) hc13)) rfl rfl rfl, OpW.plain (op_pickF (Ev.t 26 (bB false)) (Ev.t 28 (bB false)) rfl) rfl rfl, OpW.plain (op_move (Ev.t 29 (bB false)) rfl) rfl rfl, OpW.yes (op_move (Ev.t 3 (bI .i64 v3)) rfl) rfl rfl rfl, OpW.yes (OpL.cast (op_gtr (Ev.t 31 (bI .i64 v3)) (Ev.c _ rfl) rfl) (congrArg (fun b => bB b) hc14)) rfl rfl rfl, OpW.yes (op_move (Ev.t 32 (bB false)) rfl) rfl rfl rfl, OpW.no rfl rfl rfl rfl rfl, OpW.no rfl rfl rfl rfl rfl, OpW.no rfl rfl rfl rfl rfl, OpW.no rfl rfl rfl rfl rfl, OpW.no rfl rfl rfl rfl rfl, OpW.no rfl rfl rfl rfl rfl, OpW.no rfl rfl rfl rfl rfl, OpW.no rfl rfl rfl rfl rfl, OpW.no rfl rfl rfl rfl rfl, OpW.no rfl rfl rfl rfl rfl, OpW.no rfl rfl rfl rfl rfl, OpW.no rfl rfl rfl rfl rfl, OpW.yes (op_pickF (Ev.t 33 (bB false)) (Ev.c _ rfl) rfl) rfl rfl rfl, OpW.plain (op_pickF (Ev.t 30 (bB false)) (Ev.t 46 (bB false)) rfl) rfl rfl, trivial⟩ ⟨rfl, rfl, rfl, trivial⟩ trivial rfl ?_
          refine G.condF rfl ?_
          refine G.skip ?_
          refine G.endBlock ?_
          refine G.region ?_
          refine G.op1 (op_move (Ev.t 3 (bI .i64 v3)) rfl) rfl ⟨rfl, trivial⟩ trivial ?_
          refine G.op1 (op_add (Ev.t 10 (bI .i64 v3)) (Ev.c _ rfl) rfl) rfl ⟨rfl, trivial⟩ trivial ?_
          refine G.op1 (op_assign (Ev.t 11 (bI .i64 (IntKind.wrap .i64 (v3 + 1)))) rfl) rfl ⟨rfl, trivial⟩ trivial ?_
          refine G.endOps ?_
          exact G.arr (J4 (IntKind.wrap .i64 (v3 + 1)) hF) ⟨rfl, rfl, trivial⟩ trivial rfl
  · refine G.cond rfl (fun hx => by rw [hc7] at hx; cases hx) (fun _ => ?_)
    refine G.exit ?_
    refine GX.c ?_
    refine GX.q ?_
    refine GX.bYes ?_
    exact G.arr (J2 () hF) ⟨rfl, trivial⟩ trivial rfl


set_option maxRecDepth 20000 in
set_option maxHeartbeats 2000000 in
theorem ct_ref04_Covers (p_0 : (List Api_Dep)) (q_1 : (List Api_Dep)) (r : Bool) (hF : ref04_Covers p_0 q_1 = some r) : Ct Try.prog 26 [.g (.d (.sl 3 (List.map encApi_Dep p_0))), .g (.d (.sl 3 (List.map encApi_Dep q_1)))] (.one (.d (.v (.bool r)))) := by
  unfold ref04_Covers at hF
  refine Ct.intro Try.func26 rfl Try.ntmps26 rfl rfl fun M w => ?_
  refine G.seq ?_
  refine G.region ?_
  refine G.op1 (op_assign (Ev.c _ rfl) rfl) rfl trivial trivial ?_
  refine G.endOps ?_
  refine G.seq ?_
  refine G.seq ?_
  refine G.region ?_
  refine G.op1 (op_assign (Ev.c _ rfl) rfl) rfl trivial trivial ?_
  refine G.endOps ?_
  refine G.joinC (T := Unit) (fun y1 => ⟨[], []⟩) (fun y1 => ref04_Covers_k1 y1 = some r) (fun y1 hF => ?_) (fun J2 => ?_)
  · unfold ref04_Covers_k1 at hF
    refine G.seq ?_
    refine G.region ?_
    refine G.op1 (op_assign (Ev.c _ rfl) rfl) rfl trivial trivial ?_
    refine G.endOps ?_
    cases hF
    exact G.ret1 Try.results26 (RVar.tmp 4 _) ⟨rfl, trivial⟩ trivial
  refine G.block ?_
  refine G.keep (sl' := [(0, .one (.g (.d (.sl 3 (List.map encApi_Dep p_0))))), (1, .one (.g (.d (.sl 3 (List.map encApi_Dep q_1))))), (5, .one (bI .i64 0))]) (hp' := []) ⟨rfl, rfl, rfl, trivial⟩ trivial rfl ?_
  refine G.loopF (fun (v3 : Int) => ⟨[(0, .one (.g (.d (.sl 3 (List.map encApi_Dep p_0))))), (1, .one (.g (.d (.sl 3 (List.map encApi_Dep q_1))))), (5, .one (bI .i64 v3))], []⟩) hF rfl (fun K6 again5 v3 J4 hF => ?_)
  unfold ref04_Covers_l2 at hF
  refine G.seq ?_
  refine G.seq ?_
  refine G.region ?_
  refine G.op1 (op_move (Ev.t 5 (bI .i64 v3)) rfl) rfl ⟨rfl, trivial⟩ trivial ?_
  refine G.op1 (op_move (Ev.t 1 (.g (.d (.sl 3 (List.map encApi_Dep q_1))))) rfl) rfl ⟨rfl, trivial⟩ trivial ?_
  refine G.op1 (OpL.cast (op_lenD Try.underlying29 (Ev.t 8 (.g (.d (.sl 3 (List.map encApi_Dep q_1))))) rfl) (by rw [List.length_map])) rfl ⟨rfl, trivial⟩ trivial ?_
  refine G.op1 (op_lss (Ev.t 7 (bI .i64 v3)) (Ev.t 9 (bI .i64 (q_1.length : Int))) rfl) rfl ⟨rfl, rfl, trivial⟩ trivial ?_
  refine G.endOps ?_
  refine ifS hF (fun hc7 hF => ?_) (fun hc7 hF => ?_)
  · refine G.cond rfl (fun _ => ?_) (fun hx => by rw [hc7] at hx; cases hx)
    refine G.skip ?_
    refine G.seq ?_
    refine G.block ?_
    refine G.seq ?_
    refine G.region ?_
    refine G.op1 (op_move (Ev.t 0 (.g (.d (.sl 3 (List.map encApi_Dep p_0))))) rfl) rfl ⟨rfl, trivial⟩ trivial ?_
    refine G.op1 (op_move (Ev.t 1 (.g (.d (.sl 3 (List.map encApi_Dep q_1))))) rfl) rfl ⟨rfl, trivial⟩ trivial ?_
    refine G.op1 (op_move (Ev.t 5 (bI .i64 v3)) rfl) rfl ⟨rfl, trivial⟩ trivial ?_
    obtain ⟨x8, hx8, hF⟩ := bindS hF
    refine G.op1 (op_index (cs := [.v (.string x8.Key), .v (.int .i64 x8.Stamp.N), .v (.int .i64 x8.Stamp.Site)]) Try.underlying29 ti26 (idx_ok hx8).1 (idx_get hx8 encApi_Dep) (Ev.t 14 (.g (.d (.sl 3 (List.map encApi_Dep q_1))))) (Ev.t 15 (bI .i64 v3)) rfl) rfl ⟨rfl, rfl, trivial⟩ trivial ?_
    refine G.op1 (op_fieldE (cs' := [.v (.string x8.Key), .v (.int .i64 x8.Stamp.N), .v (.int .i64 x8.Stamp.Site)]) Try.underlying26 rfl ti9 (by decide) rfl (Ev.t 16 (.ep [.v (.string x8.Key), .v (.int .i64 x8.Stamp.N), .v (.int .i64 x8.Stamp.Site)])) rfl) rfl ⟨rfl, trivial⟩ trivial ?_
    refine G.op1 (op_load1E (c := .v (.string x8.Key)) Try.underlying9 rfl rfl (Ev.t 17 (.ep [.v (.string x8.Key), .v (.int .i64 x8.Stamp.N), .v (.int .i64 x8.Stamp.Site)])) rfl) rfl ⟨rfl, trivial⟩ trivial ?_
    obtain ⟨r9, hr9, hF⟩ := bindS hF
    refine G.op1 (op_callQ (sv := .one (.g (.agg [.v (.int .i64 r9.N), .v (.int .i64 r9.Site)]))) cf24 (ct_ref04_Get p_0 x8.Key r9 hr9) rfl rfl (EvQL.cons (EvQ.g (Ev.t 13 (.g (.d (.sl 3 (List.map encApi_Dep p_0)))))) (EvQL.cons (EvQ.g (Ev.t 18 (bS x8.Key))) EvQL.nil)) rfl) rfl ⟨rfl, rfl, trivial⟩ trivial ?_
    refine G.op2 (op_alloc (k := 1006) (cs := [bI .i64 0, bI .i64 0]) ti24 ⟨.v _ rfl, .v _ rfl, trivial⟩ rfl) rfl trivial ⟨rfl, trivial⟩ ?_
    refine G.op3 (op_storeA (cs' := [bI .i64 r9.N, bI .i64 r9.Site]) ti24 rfl rfl (Ev.t 6 (.ptr 1006 0)) (Ev.t 19 (.g (.agg [.v (.int .i64 r9.N), .v (.int .i64 r9.Site)])))) rfl ⟨rfl, rfl, trivial⟩ ⟨rfl, trivial⟩ ?_
    refine G.endOps ?_
    refine G.seq ?_
    obtain ⟨x10, hx10, hF⟩ := bindS hF
    obtain ⟨r11, hr11, hF⟩ := bindS hF
    refine G.drawn (effs := [⟨[(6, .one (.ptr 1006 0))], [(1006, some (.blk 24 [bI .i64 r9.N, bI .i64 r9.Site]))], [(20, .one (.g (.agg [.v (.int .i64 r9.N), .v (.int .i64 r9.Site)])))], []⟩, ⟨[(1, .one (.g (.d (.sl 3 (List.map encApi_Dep q_1)))))], [], [(21, .one (.g (.d (.sl 3 (List.map encApi_Dep q_1)))))], []⟩, ⟨[(5, .one (bI .i64 v3))], [], [(22, .one (bI .i64 v3))], []⟩, ⟨[(21, .one (.g (.d (.sl 3 (List.map encApi_Dep q_1))))), (22, .one (bI .i64 v3))], [], [(23, .one (.ep [.v (.string x10.Key), .v (.int .i64 x10.Stamp.N), .v (.int .i64 x10.Stamp.Site)]))], []⟩, ⟨[(23, .one (.ep [.v (.string x10.Key), .v (.int .i64 x10.Stamp.N), .v (.int .i64 x10.Stamp.Site)]))], [], [(24, .one (.ep [.v (.int .i64 x10.Stamp.N), .v (.int .i64 x10.Stamp.Site)]))], []⟩, ⟨[(24, .one (.ep [.v (.int .i64 x10.Stamp.N), .v (.int .i64 x10.Stamp.Site)]))], [], [(25, .one (.g (.agg [.v (.int .i64 x10.Stamp.N), .v (.int .i64 x10.Stamp.Site)])))], []⟩, ⟨[(20, .one (.g (.agg [.v (.int .i64 r9.N), .v (.int .i64 r9.Site)]))), (25, .one (.g (.agg [.v (.int .i64 x10.Stamp.N), .v (.int .i64 x10.Stamp.Site)])))], [], [(26, .one (bB r11))], []⟩]) (deps := [[], [], [], [1, 2], [1, 2, 3], [1, 2, 3, 4], [0, 1, 2, 3, 4, 5]]) (sl' := [(0, .one (.g (.d (.sl 3 (List.map encApi_Dep p_0))))), (1, .one (.g (.d (.sl 3 (List.map encApi_Dep q_1))))), (5, .one (bI .i64 v3)), (26, .one (bB r11))]) (hp' := []) follows rfl rfl rfl ⟨⟨rfl, trivial⟩, ⟨⟨rfl, rfl⟩, trivial⟩, ⟨rfl, trivial⟩, trivial, ⟨rfl, trivial⟩, trivial, ⟨rfl, rfl, trivial⟩, trivial, ⟨rfl, trivial⟩, trivial, ⟨rfl, trivial⟩, trivial, ⟨rfl, rfl, trivial⟩, trivial, trivial⟩ ⟨OpW.plain (op_loadAP (ds := [.v (.int .i64 r9.N), .v (.int .i64 r9.Site)]) Try.underlying24 rfl ti24 rfl (Ev.t 6 (.ptr 1006 0)) rfl) rfl rfl, OpW.plain (op_move (Ev.t 1 (.g (.d (.sl 3 (List.map encApi_Dep q_1))))) rfl) rfl rfl, OpW.plain (op_move (Ev.t 5 (bI .i64 v3)) rfl) rfl rfl, OpW.plain (op_index (cs := [.v (.string x10.Key), .v (.int .i64 x10.Stamp.N), .v (.int .i64 x10.Stamp.Site)]) Try.underlying29 ti26 (idx_ok hx10).1 (idx_get hx10 encApi_Dep) (Ev.t 21 (.g (.d (.sl 3 (List.map encApi_Dep q_1))))) (Ev.t 22 (bI .i64 v3)) rfl) rfl rfl, OpW.plain (op_fieldE (cs' := [.v (.int .i64 x10.Stamp.N), .v (.int .i64 x10.Stamp.Site)]) Try.underlying26 rfl ti24 (by decide) rfl (Ev.t 23 (.ep [.v (.string x10.Key), .v (.int .i64 x10.Stamp.N), .v (.int .i64 x10.Stamp.Site)])) rfl) rfl rfl, OpW.plain (op_loadAE (ds := [.v (.int .i64 x10.Stamp.N), .v (.int .i64 x10.Stamp.Site)]) Try.underlying24 rfl ti24 rfl (Ev.t 24 (.ep [.v (.int .i64 x10.Stamp.N), .v (.int .i64 x10.Stamp.Site)])) rfl) rfl rfl, OpW.plain (op_callQ (sv := .one (bB r11)) cf25 (ct_ref03_Less r9 x10.Stamp r11 hr11) rfl rfl (EvQL.cons (EvQ.g (Ev.t 20 (.g (.agg [.v (.int .i64 r9.N), .v (.int .i64 r9.Site)])))) (EvQL.cons (EvQ.g (Ev.t 25 (.g (.agg [.v (.int .i64 x10.Stamp.N), .v (.int .i64 x10.Stamp.Site)])))) EvQL.nil)) rfl) rfl rfl, trivial⟩ ⟨rfl, rfl, rfl, rfl, trivial⟩ trivial rfl ?_
    refine ifS hF (fun hc12 hF => ?_) (fun hc12 hF => ?_)
    · refine G.cond rfl (fun _ => ?_) (fun hx => by rw [hc12] at hx; cases hx)
      refine G.seq ?_
      refine G.region ?_
      refine G.op1 (op_assign (Ev.c _ rfl) rfl) rfl trivial trivial ?_
      refine G.endOps ?_
      cases hF
      exact G.ret1 Try.results26 (RVar.tmp 4 _) ⟨rfl, trivial⟩ trivial
    · refine G.cond rfl (fun hx => by rw [hc12] at hx; cases hx) (fun _ => ?_)
      refine G.skip ?_
      refine G.endBlock ?_
      refine G.region ?_
      refine G.op1 (op_move (Ev.t 5 (bI .i64 v3)) rfl) rfl ⟨rfl, trivial⟩ trivial ?_
      refine G.op1 (op_add (Ev.t 11 (bI .i64 v3)) (Ev.c _ rfl) rfl) rfl ⟨rfl, trivial⟩ trivial ?_
      refine G.op1 (op_assign (Ev.t 12 (bI .i64 (IntKind.wrap .i64 (v3 + 1)))) rfl) rfl ⟨rfl, trivial⟩ trivial ?_
      refine G.endOps ?_
      exact G.arr (J4 (IntKind.wrap .i64 (v3 + 1)) hF) ⟨rfl, rfl, rfl, trivial⟩ trivial rfl
  · refine G.cond rfl (fun hx => by rw [hc7] at hx; cases hx) (fun _ => ?_)
    refine G.exit ?_
    refine GX.c ?_
    refine GX.q ?_
    refine GX.bYes ?_
    exact G.arr (J2 () hF) trivial trivial rfl


set_option maxRecDepth 20000 in
set_option maxHeartbeats 2000000 in
theorem ct_ref05_Closed (p_0 : (List Api_Dep)) (l_1 : (List Api_Version)) (r : Bool) (hF : ref05_Closed p_0 l_1 = some r) : Ct Try.prog 23 [.g (.d (.sl 3 (List.map encApi_Dep p_0))), .g (.d (.sl 6 (List.map encApi_Version l_1)))] (.one (.d (.v (.bool r)))) := by
  unfold ref05_Closed at hF
  refine Ct.intro Try.func23 rfl Try.ntmps23 rfl rfl fun M w => ?_
  refine G.seq ?_
  refine G.region ?_
  refine G.op1 (op_assign (Ev.c _ rfl) rfl) rfl trivial trivial ?_
  refine G.endOps ?_
  refine G.seq ?_
  refine G.seq ?_
  refine G.region ?_
  refine G.op1 (op_assign (Ev.c _ rfl) rfl) rfl trivial trivial ?_
  refine G.endOps ?_
  refine G.joinC (T := Unit) (fun y1 => ⟨[], []⟩) (fun y1 => ref05_Closed_k1 y1 = some r) (fun y1 hF => ?_) (fun J2 => ?_)
  · unfold ref05_Closed_k1 at hF
    refine G.seq ?_
    refine G.region ?_
    refine G.op1 (op_assign (Ev.c _ rfl) rfl) rfl trivial trivial ?_
    refine G.endOps ?_
    cases hF
    exact G.ret1 Try.results23 (RVar.tmp 4 _) ⟨rfl, trivial⟩ trivial
  refine G.block ?_
  refine G.keep (sl' := [(0, .one (.g (.d (.sl 3 (List.map encApi_Dep p_0))))), (1, .one (.g (.d (.sl 6 (List.map encApi_Version l_1))))), (5, .one (bI .i64 0))]) (hp' := []) ⟨rfl, rfl, rfl, trivial⟩ trivial rfl ?_
  refine G.loopF (fun (v3 : Int) => ⟨[(0, .one (.g (.d (.sl 3 (List.map encApi_Dep p_0))))), (1, .one (.g (.d (.sl 6 (List.map encApi_Version l_1))))), (5, .one (bI .i64 v3))], []⟩) hF rfl (fun K6 again5 v3 J4 hF => ?_)
  unfold ref05_Closed_l2 at hF
  refine G.seq ?_
  refine G.seq ?_
  refine G.region ?_
  refine G.op1 (op_move (Ev.t 5 (bI .i64 v3)) rfl) rfl ⟨rfl, trivial⟩ trivial ?_
  refine G.op1 (op_move (Ev.t 0 (.g (.d (.sl 3 (List.map encApi_Dep p_0))))) rfl) rfl ⟨rfl, trivial⟩ trivial ?_
  refine G.op1 (OpL.cast (op_lenD Try.underlying29 (Ev.t 10 (.g (.d (.sl 3 (List.map encApi_Dep p_0))))) rfl) (by rw [List.length_map])) rfl ⟨rfl, trivial⟩ trivial ?_
  refine G.op1 (op_lss (Ev.t 9 (bI .i64 v3)) (Ev.t 11 (bI .i64 (p_0.length : Int))) rfl) rfl ⟨rfl, rfl, trivial⟩ trivial ?_
  refine G.endOps ?_
  refine ifS hF (fun hc7 hF => ?_) (fun hc7 hF => ?_)
  · refine G.cond rfl (fun _ => ?_) (fun hx => by rw [hc7] at hx; cases hx)
    refine G.skip ?_
    refine G.seq ?_
    refine G.block ?_
    refine G.seq ?_
    refine G.region ?_
    refine G.op1 (op_move (Ev.t 1 (.g (.d (.sl 6 (List.map encApi_Version l_1))))) rfl) rfl ⟨rfl, trivial⟩ trivial ?_
    refine G.op1 (op_move (Ev.t 0 (.g (.d (.sl 3 (List.map encApi_Dep p_0))))) rfl) rfl ⟨rfl, trivial⟩ trivial ?_
    refine G.op1 (op_move (Ev.t 5 (bI .i64 v3)) rfl) rfl ⟨rfl, trivial⟩ trivial ?_
    obtain ⟨x8, hx8, hF⟩ := bindS hF
    refine G.op1 (op_index (cs := [.v (.string x8.Key), .v (.int .i64 x8.Stamp.N), .v (.int .i64 x8.Stamp.Site)]) Try.underlying29 ti26 (idx_ok hx8).1 (idx_get hx8 encApi_Dep) (Ev.t 17 (.g (.d (.sl 3 (List.map encApi_Dep p_0))))) (Ev.t 18 (bI .i64 v3)) rfl) rfl ⟨rfl, rfl, trivial⟩ trivial ?_
    refine G.op1 (op_loadAE (ds := [.v (.string x8.Key), .v (.int .i64 x8.Stamp.N), .v (.int .i64 x8.Stamp.Site)]) Try.underlying26 rfl ti26 rfl (Ev.t 19 (.ep [.v (.string x8.Key), .v (.int .i64 x8.Stamp.N), .v (.int .i64 x8.Stamp.Site)])) rfl) rfl ⟨rfl, trivial⟩ trivial ?_
    obtain ⟨r9, hr9, hF⟩ := bindS hF
    refine G.op1 (op_call (sv := .tup [.g (.agg [.v (.string r9.1.Key), .v (.string r9.1.Value), .v (.bool r9.1.Gone), .v (.int .i64 r9.1.Stamp.N), .v (.int .i64 r9.1.Stamp.Site), .sl 3 (List.map encApi_Dep r9.1.Past)]), bB r9.2]) cf19 (ct_ref05_Find l_1 x8 r9 hr9) rfl (EvL.cons (Ev.t 16 (.g (.d (.sl 6 (List.map encApi_Version l_1))))) (EvL.cons (Ev.t 20 (.g (.agg [.v (.string x8.Key), .v (.int .i64 x8.Stamp.N), .v (.int .i64 x8.Stamp.Site)]))) EvL.nil)) rfl) rfl ⟨rfl, rfl, trivial⟩ trivial ?_
    refine G.op1 (op_moveS (t := 21) (sv := .tup [.g (.agg [.v (.string r9.1.Key), .v (.string r9.1.Value), .v (.bool r9.1.Gone), .v (.int .i64 r9.1.Stamp.N), .v (.int .i64 r9.1.Stamp.Site), .sl 3 (List.map encApi_Dep r9.1.Past)]), bB r9.2]) rfl) rfl ⟨rfl, trivial⟩ trivial ?_
    refine G.op1 (op_extract (l := [.g (.agg [.v (.string r9.1.Key), .v (.string r9.1.Value), .v (.bool r9.1.Gone), .v (.int .i64 r9.1.Stamp.N), .v (.int .i64 r9.1.Stamp.Site), .sl 3 (List.map encApi_Dep r9.1.Past)]), bB r9.2]) (c := .g (.agg [.v (.string r9.1.Key), .v (.string r9.1.Value), .v (.bool r9.1.Gone), .v (.int .i64 r9.1.Stamp.N), .v (.int .i64 r9.1.Stamp.Site), .sl 3 (List.map encApi_Dep r9.1.Past)])) rfl rfl) rfl ⟨rfl, trivial⟩ trivial ?_
    refine G.op1 (op_extract (l := [.g (.agg [.v (.string r9.1.Key), .v (.string r9.1.Value), .v (.bool r9.1.Gone), .v (.int .i64 r9.1.Stamp.N), .v (.int .i64 r9.1.Stamp.Site), .sl 3 (List.map encApi_Dep r9.1.Past)]), bB r9.2]) (c := bB r9.2) rfl rfl) rfl ⟨rfl, trivial⟩ trivial ?_
    refine G.op2 (op_alloc (k := 1006) (cs := [bS ByteArray.empty, bS ByteArray.empty, bB false, bI .i64 0, bI .i64 0, .g (.d (.sl 3 (List.map encApi_Dep ([] : (List Api_Dep)))))]) ti34 ⟨.v _ rfl, .v _ rfl, .v _ rfl, .v _ rfl, .v _ rfl, .n 3, trivial⟩ rfl) rfl trivial ⟨rfl, trivial⟩ ?_
    refine G.op3 (op_storeA (cs' := [bS r9.1.Key, bS r9.1.Value, bB r9.1.Gone, bI .i64 r9.1.Stamp.N, bI .i64 r9.1.Stamp.Site, .g (.d (.sl 3 (List.map encApi_Dep r9.1.Past)))]) ti34 rfl rfl (Ev.t 6 (.ptr 1006 0)) (Ev.t 22 (.g (.agg [.v (.string r9.1.Key), .v (.string r9.1.Value), .v (.bool r9.1.Gone), .v (.int .i64 r9.1.Stamp.N), .v (.int .i64 r9.1.Stamp.Site), .sl 3 (List.map encApi_Dep r9.1.Past)])))) rfl ⟨rfl, rfl, trivial⟩ ⟨rfl, trivial⟩ ?_
    refine G.op1 (op_assign (Ev.t 23 (bB r9.2)) rfl) rfl ⟨rfl, trivial⟩ trivial ?_
    refine G.endOps ?_
    refine G.seq ?_
    refine G.region ?_
    refine G.op1 (op_move (Ev.t 0 (.g (.d (.sl 3 (List.map encApi_Dep p_0))))) rfl) rfl ⟨rfl, trivial⟩ trivial ?_
    refine G.op1 (op_fieldP (off' := 5) Try.underlying34 rfl ti29 (by decide) rfl (Ev.t 6 (.ptr 1006 0)) rfl) rfl ⟨rfl, trivial⟩ trivial ?_
    refine G.op1 (op_load1P (c := .g (.d (.sl 3 (List.map encApi_Dep r9.1.Past)))) Try.underlying29 rfl rfl (Ev.t 25 (.ptr 1006 5)) rfl) rfl ⟨rfl, trivial⟩ ⟨rfl, trivial⟩ ?_
    obtain ⟨r10, hr10, hF⟩ := bindS hF
    refine G.op1 (op_callQ (sv := .one (bB r10)) cf26 (ct_ref04_Covers p_0 r9.1.Past r10 hr10) rfl rfl (EvQL.cons (EvQ.g (Ev.t 24 (.g (.d (.sl 3 (List.map encApi_Dep p_0)))))) (EvQL.cons (EvQ.g (Ev.t 26 (.g (.d (.sl 3 (List.map encApi_Dep r9.1.Past)))))) EvQL.nil)) rfl) rfl ⟨rfl, rfl, trivial⟩ trivial ?_
    refine G.op1 (op_assign (Ev.t 27 (bB r10)) rfl) rfl ⟨rfl, trivial⟩ trivial ?_
    refine G.endOps ?_
    refine G.seq ?_
    refine G.region ?_
    refine G.op1 (op_move (Ev.t 7 (bB r9.2)) rfl) rfl ⟨rfl, trivial⟩ trivial ?_
    refine G.op1 (op_not (Ev.t 28 (bB r9.2)) rfl) rfl ⟨rfl, trivial⟩ trivial ?_
    refine G.op1 (op_move (Ev.t 29 (bB (!r9.2))) rfl) rfl ⟨rfl, trivial⟩ trivial ?_
    refine ifS hF (fun hc11 hF => ?_) (fun hc11 hF => ?_)
    · refine G.known (t := 30) hc11 rfl ?_
      refine G.opN1 rfl rfl rfl rfl rfl ?_
      refine G.opN1 rfl rfl rfl rfl rfl ?_
      refine G.op1 (op_pickT (Ev.t 30 (bB true)) (Ev.c _ rfl) rfl) rfl ⟨rfl, trivial⟩ trivial ?_
      refine G.endOps ?_
      refine G.condT rfl ?_
      refine G.seq ?_
      refine G.region ?_
      refine G.op1 (op_assign (Ev.c _ rfl) rfl) rfl trivial trivial ?_
      refine G.endOps ?_
      cases hF
      exact G.ret1 Try.results23 (RVar.tmp 4 _) ⟨rfl, trivial⟩ trivial
    · refine G.known (t := 30) hc11 rfl ?_
      refine G.opG1 (op_move (Ev.t 8 (bB r10)) rfl) rfl rfl rfl ⟨rfl, trivial⟩ trivial ?_
      refine G.opG1 (op_not (Ev.t 31 (bB r10)) rfl) rfl rfl rfl ⟨rfl, trivial⟩ trivial ?_
      refine G.op1 (op_pickF (Ev.t 30 (bB false)) (Ev.t 32 (bB (!r10))) rfl) rfl ⟨rfl, rfl, trivial⟩ trivial ?_
      refine G.endOps ?_
      refine ifS hF (fun hc12 hF => ?_) (fun hc12 hF => ?_)
      · refine G.cond rfl (fun _ => ?_) (fun hx => by rw [hc12] at hx; cases hx)
        refine G.seq ?_
        refine G.region ?_
        refine G.op1 (op_assign (Ev.c _ rfl) rfl) rfl trivial trivial ?_
        refine G.endOps ?_
        cases hF
        exact G.ret1 Try.results23 (RVar.tmp 4 _) ⟨rfl, trivial⟩ trivial
      · refine G.cond rfl (fun hx => by rw [hc12] at hx; cases hx) (fun _ => ?_)
        refine G.skip ?_
        refine G.endBlock ?_
        refine G.region ?_
        refine G.op1 (op_move (Ev.t 5 (bI .i64 v3)) rfl) rfl ⟨rfl, trivial⟩ trivial ?_
        refine G.op1 (op_add (Ev.t 13 (bI .i64 v3)) (Ev.c _ rfl) rfl) rfl ⟨rfl, trivial⟩ trivial ?_
        refine G.op1 (op_assign (Ev.t 14 (bI .i64 (IntKind.wrap .i64 (v3 + 1)))) rfl) rfl ⟨rfl, trivial⟩ trivial ?_
        refine G.endOps ?_
        exact G.arr (J4 (IntKind.wrap .i64 (v3 + 1)) hF) ⟨rfl, rfl, rfl, trivial⟩ trivial rfl
  · refine G.cond rfl (fun hx => by rw [hc7] at hx; cases hx) (fun _ => ?_)
    refine G.exit ?_
    refine GX.c ?_
    refine GX.q ?_
    refine GX.bYes ?_
    exact G.arr (J2 () hF) trivial trivial rfl


set_option maxRecDepth 20000 in
set_option maxHeartbeats 2000000 in
theorem ct_ref05_Sound (l_0 : (List Api_Version)) (r : Bool) (hF : ref05_Sound l_0 = some r) : Ct Try.prog 21 [.g (.d (.sl 6 (List.map encApi_Version l_0)))] (.one (.d (.v (.bool r)))) := by
  unfold ref05_Sound at hF
  refine Ct.intro Try.func21 rfl Try.ntmps21 rfl rfl fun M w => ?_
  refine G.seq ?_
  refine G.region ?_
  refine G.op1 (op_assign (Ev.c _ rfl) rfl) rfl trivial trivial ?_
  refine G.endOps ?_
  refine G.seq ?_
  refine G.seq ?_
  refine G.region ?_
  refine G.op1 (op_assign (Ev.c _ rfl) rfl) rfl trivial trivial ?_
  refine G.endOps ?_
  refine G.joinC (T := Unit) (fun y1 => ⟨[], []⟩) (fun y1 => ref05_Sound_k1 y1 = some r) (fun y1 hF => ?_) (fun J2 => ?_)
  · unfold ref05_Sound_k1 at hF
    refine G.seq ?_
    refine G.region ?_
    refine G.op1 (op_assign (Ev.c _ rfl) rfl) rfl trivial trivial ?_
    refine G.endOps ?_
    cases hF
    exact G.ret1 Try.results21 (RVar.tmp 2 _) ⟨rfl, trivial⟩ trivial
  refine G.block ?_
  refine G.keep (sl' := [(0, .one (.g (.d (.sl 6 (List.map encApi_Version l_0))))), (3, .one (bI .i64 0))]) (hp' := []) ⟨rfl, rfl, trivial⟩ trivial rfl ?_
  refine G.loopF (fun (v3 : Int) => ⟨[(0, .one (.g (.d (.sl 6 (List.map encApi_Version l_0))))), (3, .one (bI .i64 v3))], []⟩) hF rfl (fun K6 again5 v3 J4 hF => ?_)
  unfold ref05_Sound_l2 at hF
  refine G.seq ?_
  refine G.seq ?_
  refine G.region ?_
  refine G.op1 (op_move (Ev.t 3 (bI .i64 v3)) rfl) rfl ⟨rfl, trivial⟩ trivial ?_
  refine G.op1 (op_move (Ev.t 0 (.g (.d (.sl 6 (List.map encApi_Version l_0))))) rfl) rfl ⟨rfl, trivial⟩ trivial ?_
  refine G.op1 (OpL.cast (op_lenD Try.underlying31 (Ev.t 10 (.g (.d (.sl 6 (List.map encApi_Version l_0))))) rfl) (by rw [List.length_map])) rfl ⟨rfl, trivial⟩ trivial ?_
  refine G.op1 (op_lss (Ev.t 9 (bI .i64 v3)) (Ev.t 11 (bI .i64 (l_0.length : Int))) rfl) rfl ⟨rfl, rfl, trivial⟩ trivial ?_
  refine G.endOps ?_
  refine ifS hF (fun hc7 hF => ?_) (fun hc7 hF => ?_)
  · refine G.cond rfl (fun _ => ?_) (fun hx => by rw [hc7] at hx; cases hx)
    refine G.skip ?_
    refine G.seq ?_
    refine G.joinC (T := Unit) (fun y8 => ⟨[(0, .one (.g (.d (.sl 6 (List.map encApi_Version l_0))))), (3, .one (bI .i64 v3))], []⟩) (fun y8 => ref05_Sound_k3 again5 v3 y8 = some r) (fun y8 hF => ?_) (fun J9 => ?_)
    · unfold ref05_Sound_k3 at hF
      refine G.region ?_
      refine G.op1 (op_move (Ev.t 3 (bI .i64 v3)) rfl) rfl ⟨rfl, trivial⟩ trivial ?_
      refine G.op1 (op_add (Ev.t 13 (bI .i64 v3)) (Ev.c _ rfl) rfl) rfl ⟨rfl, trivial⟩ trivial ?_
      refine G.op1 (op_assign (Ev.t 14 (bI .i64 (IntKind.wrap .i64 (v3 + 1)))) rfl) rfl ⟨rfl, trivial⟩ trivial ?_
      refine G.endOps ?_
      exact G.arr (J4 (IntKind.wrap .i64 (v3 + 1)) hF) ⟨rfl, rfl, trivial⟩ trivial rfl
    refine G.block ?_
    refine G.seq ?_
    refine G.region ?_
    refine G.op1 (op_move (Ev.t 0 (.g (.d (.sl 6 (List.map encApi_Version l_0))))) rfl) rfl ⟨rfl, trivial⟩ trivial ?_
    refine G.op1 (op_move (Ev.t 3 (bI .i64 v3)) rfl) rfl ⟨rfl, trivial⟩ trivial ?_
    obtain ⟨x10, hx10, hF⟩ := bindS hF
    refine G.op1 (op_index (cs := [.v (.string x10.Key), .v (.string x10.Value), .v (.bool x10.Gone), .v (.int .i64 x10.Stamp.N), .v (.int .i64 x10.Stamp.Site), .sl 3 (List.map encApi_Dep x10.Past)]) Try.underlying31 ti34 (idx_ok hx10).1 (idx_get hx10 encApi_Version) (Ev.t 15 (.g (.d (.sl 6 (List.map encApi_Version l_0))))) (Ev.t 16 (bI .i64 v3)) rfl) rfl ⟨rfl, rfl, trivial⟩ trivial ?_
    refine G.op1 (op_fieldE (cs' := [.sl 3 (List.map encApi_Dep x10.Past)]) Try.underlying34 rfl ti29 (by decide) rfl (Ev.t 17 (.ep [.v (.string x10.Key), .v (.string x10.Value), .v (.bool x10.Gone), .v (.int .i64 x10.Stamp.N), .v (.int .i64 x10.Stamp.Site), .sl 3 (List.map encApi_Dep x10.Past)])) rfl) rfl ⟨rfl, trivial⟩ trivial ?_
    refine G.op1 (op_load1E (c := .sl 3 (List.map encApi_Dep x10.Past)) Try.underlying29 rfl rfl (Ev.t 18 (.ep [.sl 3 (List.map encApi_Dep x10.Past)])) rfl) rfl ⟨rfl, trivial⟩ trivial ?_
    obtain ⟨r11, hr11, hF⟩ := bindS hF
    refine G.op1 (op_callQ (sv := .one (bB r11)) cf39 (ct_ref04_Check x10.Past r11 hr11) rfl rfl (EvQL.cons (EvQ.g (Ev.t 19 (.g (.d (.sl 3 (List.map encApi_Dep x10.Past)))))) EvQL.nil) rfl) rfl ⟨rfl, trivial⟩ trivial ?_
    refine G.op1 (op_assign (Ev.t 20 (bB r11)) rfl) rfl ⟨rfl, trivial⟩ trivial ?_
    refine G.endOps ?_
    refine G.seq ?_
    refine G.region ?_
    refine G.op1 (op_move (Ev.t 0 (.g (.d (.sl 6 (List.map encApi_Version l_0))))) rfl) rfl ⟨rfl, trivial⟩ trivial ?_
    refine G.op1 (op_move (Ev.t 3 (bI .i64 v3)) rfl) rfl ⟨rfl, trivial⟩ trivial ?_
    obtain ⟨x12, hx12, hF⟩ := bindS hF
    refine G.op1 (op_index (cs := [.v (.string x12.Key), .v (.string x12.Value), .v (.bool x12.Gone), .v (.int .i64 x12.Stamp.N), .v (.int .i64 x12.Stamp.Site), .sl 3 (List.map encApi_Dep x12.Past)]) Try.underlying31 ti34 (idx_ok hx12).1 (idx_get hx12 encApi_Version) (Ev.t 21 (.g (.d (.sl 6 (List.map encApi_Version l_0))))) (Ev.t 22 (bI .i64 v3)) rfl) rfl ⟨rfl, rfl, trivial⟩ trivial ?_
    refine G.op1 (op_fieldE (cs' := [.v (.int .i64 x12.Stamp.N), .v (.int .i64 x12.Stamp.Site), .sl 3 (List.map encApi_Dep x12.Past)]) Try.underlying34 rfl ti24 (by decide) rfl (Ev.t 23 (.ep [.v (.string x12.Key), .v (.string x12.Value), .v (.bool x12.Gone), .v (.int .i64 x12.Stamp.N), .v (.int .i64 x12.Stamp.Site), .sl 3 (List.map encApi_Dep x12.Past)])) rfl) rfl ⟨rfl, trivial⟩ trivial ?_
    refine G.op1 (op_loadAE (ds := [.v (.int .i64 x12.Stamp.N), .v (.int .i64 x12.Stamp.Site)]) Try.underlying24 rfl ti24 rfl (Ev.t 24 (.ep [.v (.int .i64 x12.Stamp.N), .v (.int .i64 x12.Stamp.Site), .sl 3 (List.map encApi_Dep x12.Past)])) rfl) rfl ⟨rfl, trivial⟩ trivial ?_
    obtain ⟨r13, hr13, hF⟩ := bindS hF
    refine G.op1 (op_callQ (sv := .one (bB r13)) cf40 (ct_ref03_Check x12.Stamp r13 hr13) rfl rfl (EvQL.cons (EvQ.g (Ev.t 25 (.g (.agg [.v (.int .i64 x12.Stamp.N), .v (.int .i64 x12.Stamp.Site)])))) EvQL.nil) rfl) rfl ⟨rfl, trivial⟩ trivial ?_
    refine G.op1 (op_assign (Ev.t 26 (bB r13)) rfl) rfl ⟨rfl, trivial⟩ trivial ?_
    refine G.endOps ?_
    refine G.seq ?_
    refine G.region ?_
    refine G.op1 (op_move (Ev.t 0 (.g (.d (.sl 6 (List.map encApi_Version l_0))))) rfl) rfl ⟨rfl, trivial⟩ trivial ?_
    refine G.op1 (op_move (Ev.t 3 (bI .i64 v3)) rfl) rfl ⟨rfl, trivial⟩ trivial ?_
    obtain ⟨x14, hx14, hF⟩ := bindS hF
    refine G.op1 (op_index (cs := [.v (.string x14.Key), .v (.string x14.Value), .v (.bool x14.Gone), .v (.int .i64 x14.Stamp.N), .v (.int .i64 x14.Stamp.Site), .sl 3 (List.map encApi_Dep x14.Past)]) Try.underlying31 ti34 (idx_ok hx14).1 (idx_get hx14 encApi_Version) (Ev.t 27 (.g (.d (.sl 6 (List.map encApi_Version l_0))))) (Ev.t 28 (bI .i64 v3)) rfl) rfl ⟨rfl, rfl, trivial⟩ trivial ?_
    refine G.op1 (op_fieldE (cs' := [.sl 3 (List.map encApi_Dep x14.Past)]) Try.underlying34 rfl ti29 (by decide) rfl (Ev.t 29 (.ep [.v (.string x14.Key), .v (.string x14.Value), .v (.bool x14.Gone), .v (.int .i64 x14.Stamp.N), .v (.int .i64 x14.Stamp.Site), .sl 3 (List.map encApi_Dep x14.Past)])) rfl) rfl ⟨rfl, trivial⟩ trivial ?_
    refine G.op1 (op_load1E (c := .sl 3 (List.map encApi_Dep x14.Past)) Try.underlying29 rfl rfl (Ev.t 30 (.ep [.sl 3 (List.map encApi_Dep x14.Past)])) rfl) rfl ⟨rfl, trivial⟩ trivial ?_
    refine G.op1 (op_move (Ev.t 0 (.g (.d (.sl 6 (List.map encApi_Version l_0))))) rfl) rfl ⟨rfl, trivial⟩ trivial ?_
    obtain ⟨r15, hr15, hF⟩ := bindS hF
    refine G.op1 (op_callQ (sv := .one (bB r15)) cf23 (ct_ref05_Closed x14.Past l_0 r15 hr15) rfl rfl (EvQL.cons (EvQ.g (Ev.t 31 (.g (.d (.sl 3 (List.map encApi_Dep x14.Past)))))) (EvQL.cons (EvQ.g (Ev.t 32 (.g (.d (.sl 6 (List.map encApi_Version l_0)))))) EvQL.nil)) rfl) rfl ⟨rfl, rfl, trivial⟩ trivial ?_
    refine G.op1 (op_assign (Ev.t 33 (bB r15)) rfl) rfl ⟨rfl, trivial⟩ trivial ?_
    refine G.endOps ?_
    refine G.seq ?_
    refine G.seq ?_
    refine G.joinC (T := Bool) (fun y16 => ⟨[(0, .one (.g (.d (.sl 6 (List.map encApi_Version l_0))))), (3, .one (bI .i64 v3)), (43, .one (bB y16))], []⟩) (fun y16 => ref05_Sound_k4 l_0 again5 v3 y16 = some r) (fun y16 hF => ?_) (fun J44 => ?_)
    · unfold ref05_Sound_k4 at hF
      refine ifS hF (fun hc17 hF => ?_) (fun hc17 hF => ?_)
      · refine G.cond rfl (fun _ => ?_) (fun hx => by rw [hc17] at hx; cases hx)
        refine G.seq ?_
        refine G.region ?_
        refine G.op1 (op_assign (Ev.c _ rfl) rfl) rfl trivial trivial ?_
        refine G.endOps ?_
        cases hF
        exact G.ret1 Try.results21 (RVar.tmp 2 _) ⟨rfl, trivial⟩ trivial
      · refine G.cond rfl (fun hx => by rw [hc17] at hx; cases hx) (fun _ => ?_)
        refine G.skip ?_
        refine G.seq ?_
        refine G.seq ?_
        refine G.region ?_
        refine G.op1 (op_assign (Ev.c _ rfl) rfl) rfl trivial trivial ?_
        refine G.endOps ?_
        refine G.joinC (T := Unit) (fun y18 => ⟨[(0, .one (.g (.d (.sl 6 (List.map encApi_Version l_0))))), (3, .one (bI .i64 v3))], []⟩) (fun y18 => ref05_Sound_k5 l_0 again5 v3 y18 = some r) (fun y18 hF => ?_) (fun J32 => ?_)
        · unfold ref05_Sound_k5 at hF
          refine G.seq ?_
          refine G.region ?_
          refine G.op1 (op_assign (Ev.c _ rfl) rfl) rfl trivial trivial ?_
          refine G.endOps ?_
          refine G.joinC (T := Unit) (fun y19 => ⟨[(0, .one (.g (.d (.sl 6 (List.map encApi_Version l_0))))), (3, .one (bI .i64 v3))], []⟩) (fun y19 => ref05_Sound_k6 again5 v3 y19 = some r) (fun y19 hF => ?_) (fun J20 => ?_)
          · unfold ref05_Sound_k6 at hF
            refine G.endBlock ?_
            exact G.arr (J9 () hF) ⟨rfl, rfl, trivial⟩ trivial rfl
          refine G.block ?_
          refine G.keep (sl' := [(0, .one (.g (.d (.sl 6 (List.map encApi_Version l_0))))), (3, .one (bI .i64 v3)), (8, .one (bI .i64 0))]) (hp' := []) ⟨rfl, rfl, rfl, trivial⟩ trivial rfl ?_
          refine G.loopF (fun (v21 : Int) => ⟨[(0, .one (.g (.d (.sl 6 (List.map encApi_Version l_0))))), (3, .one (bI .i64 v3)), (8, .one (bI .i64 v21))], []⟩) hF rfl (fun K24 again23 v21 J22 hF => ?_)
          unfold ref05_Sound_l7 at hF
          refine G.seq ?_
          refine G.seq ?_
          refine G.region ?_
          refine G.op1 (op_move (Ev.t 8 (bI .i64 v21)) rfl) rfl ⟨rfl, trivial⟩ trivial ?_
          refine G.op1 (op_move (Ev.t 3 (bI .i64 v3)) rfl) rfl ⟨rfl, trivial⟩ trivial ?_
          refine G.op1 (op_lss (Ev.t 70 (bI .i64 v21)) (Ev.t 71 (bI .i64 v3)) rfl) rfl ⟨rfl, rfl, trivial⟩ trivial ?_
          refine G.endOps ?_
          refine ifS hF (fun hc25 hF => ?_) (fun hc25 hF => ?_)
          · refine G.cond rfl (fun _ => ?_) (fun hx => by rw [hc25] at hx; cases hx)
            refine G.skip ?_
            refine G.seq ?_
            refine G.block ?_
            refine G.seq ?_
            obtain ⟨x26, hx26, hF⟩ := bindS hF
            obtain ⟨x27, hx27, hF⟩ := bindS hF
            refine ifS hF (fun hc28 hF => ?_) (fun hc28 hF => ?_)
            · obtain ⟨x29, hx29, hF⟩ := bindS hF
              obtain ⟨x30, hx30, hF⟩ := bindS hF
              refine G.drawn (effs := (⟨[(0, .one (.g (.d (.sl 6 (List.map encApi_Version l_0)))))], [], [(75, .one (.g (.d (.sl 6 (List.map encApi_Version l_0)))))], []⟩ :: ⟨[(8, .one (bI .i64 v21))], [], [(76, .one (bI .i64 v21))], []⟩ :: ⟨[(75, .one (.g (.d (.sl 6 (List.map encApi_Version l_0))))), (76, .one (bI .i64 v21))], [], [(77, .one (.ep [.v (.string x26.Key), .v (.string x26.Value), .v (.bool x26.Gone), .v (.int .i64 x26.Stamp.N), .v (.int .i64 x26.Stamp.Site), .sl 3 (List.map encApi_Dep x26.Past)]))], []⟩ :: ⟨[(77, .one (.ep [.v (.string x26.Key), .v (.string x26.Value), .v (.bool x26.Gone), .v (.int .i64 x26.Stamp.N), .v (.int .i64 x26.Stamp.Site), .sl 3 (List.map encApi_Dep x26.Past)]))], [], [(78, .one (.ep [.v (.string x26.Key), .v (.string x26.Value), .v (.bool x26.Gone), .v (.int .i64 x26.Stamp.N), .v (.int .i64 x26.Stamp.Site), .sl 3 (List.map encApi_Dep x26.Past)]))], []⟩ :: ⟨[(78, .one (.ep [.v (.string x26.Key), .v (.string x26.Value), .v (.bool x26.Gone), .v (.int .i64 x26.Stamp.N), .v (.int .i64 x26.Stamp.Site), .sl 3 (List.map encApi_Dep x26.Past)]))], [], [(79, .one (bS x26.Key))], []⟩ :: ⟨[(0, .one (.g (.d (.sl 6 (List.map encApi_Version l_0)))))], [], [(80, .one (.g (.d (.sl 6 (List.map encApi_Version l_0)))))], []⟩ :: ⟨[(3, .one (bI .i64 v3))], [], [(81, .one (bI .i64 v3))], []⟩ :: ⟨[(80, .one (.g (.d (.sl 6 (List.map encApi_Version l_0))))), (81, .one (bI .i64 v3))], [], [(82, .one (.ep [.v (.string x27.Key), .v (.string x27.Value), .v (.bool x27.Gone), .v (.int .i64 x27.Stamp.N), .v (.int .i64 x27.Stamp.Site), .sl 3 (List.map encApi_Dep x27.Past)]))], []⟩ :: ⟨[(82, .one (.ep [.v (.string x27.Key), .v (.string x27.Value), .v (.bool x27.Gone), .v (.int .i64 x27.Stamp.N), .v (.int .i64 x27.Stamp.Site), .sl 3 (List.map encApi_Dep x27.Past)]))], [], [(83, .one (.ep [.v (.string x27.Key), .v (.string x27.Value), .v (.bool x27.Gone), .v (.int .i64 x27.Stamp.N), .v (.int .i64 x27.Stamp.Site), .sl 3 (List.map encApi_Dep x27.Past)]))], []⟩ :: ⟨[(83, .one (.ep [.v (.string x27.Key), .v (.string x27.Value), .v (.bool x27.Gone), .v (.int .i64 x27.Stamp.N), .v (.int .i64 x27.Stamp.Site), .sl 3 (List.map encApi_Dep x27.Past)]))], [], [(84, .one (bS x27.Key))], []⟩ :: ⟨[(79, .one (bS x26.Key)), (84, .one (bS x27.Key))], [], [(85, .one (bB true))], []⟩ :: ⟨[(85, .one (bB true))], [], [(86, .one (bB true))], []⟩ :: ⟨[(86, .one (bB true)), (0, .one (.g (.d (.sl 6 (List.map encApi_Version l_0)))))], [], [(87, .one (.g (.d (.sl 6 (List.map encApi_Version l_0)))))], []⟩ :: ⟨[(86, .one (bB true)), (8, .one (bI .i64 v21))], [], [(88, .one (bI .i64 v21))], []⟩ :: ⟨[(86, .one (bB true)), (87, .one (.g (.d (.sl 6 (List.map encApi_Version l_0))))), (88, .one (bI .i64 v21))], [], [(89, .one (.ep [.v (.string x29.Key), .v (.string x29.Value), .v (.bool x29.Gone), .v (.int .i64 x29.Stamp.N), .v (.int .i64 x29.Stamp.Site), .sl 3 (List.map encApi_Dep x29.Past)]))], []⟩ :: ⟨[(86, .one (bB true)), (89, .one (.ep [.v (.string x29.Key), .v (.string x29.Value), .v (.bool x29.Gone), .v (.int .i64 x29.Stamp.N), .v (.int .i64 x29.Stamp.Site), .sl 3 (List.map encApi_Dep x29.Past)]))], [], [(90, .one (.ep [.v (.int .i64 x29.Stamp.N), .v (.int .i64 x29.Stamp.Site), .sl 3 (List.map encApi_Dep x29.Past)]))], []⟩ :: ⟨[(86, .one (bB true)), (90, .one (.ep [.v (.int .i64 x29.Stamp.N), .v (.int .i64 x29.Stamp.Site), .sl 3 (List.map encApi_Dep x29.Past)]))], [], [(91, .one (.g (.agg [.v (.int .i64 x29.Stamp.N), .v (.int .i64 x29.Stamp.Site)])))], []⟩ :: ⟨[(86, .one (bB true)), (0, .one (.g (.d (.sl 6 (List.map encApi_Version l_0)))))], [], [(92, .one (.g (.d (.sl 6 (List.map encApi_Version l_0)))))], []⟩ :: ⟨[(86, .one (bB true)), (3, .one (bI .i64 v3))], [], [(93, .one (bI .i64 v3))], []⟩ :: ⟨[(86, .one (bB true)), (92, .one (.g (.d (.sl 6 (List.map encApi_Version l_0))))), (93, .one (bI .i64 v3))], [], [(94, .one (.ep [.v (.string x30.Key), .v (.string x30.Value), .v (.bool x30.Gone), .v (.int .i64 x30.Stamp.N), .v (.int .i64 x30.Stamp.Site), .sl 3 (List.map encApi_Dep x30.Past)]))], []⟩ :: ⟨[(86, .one (bB true)), (94, .one (.ep [.v (.string x30.Key), .v (.string x30.Value), .v (.bool x30.Gone), .v (.int .i64 x30.Stamp.N), .v (.int .i64 x30.Stamp.Site), .sl 3 (List.map encApi_Dep x30.Past)]))], [], [(95, .one (.ep [.v (.int .i64 x30.Stamp.N), .v (.int .i64 x30.Stamp.Site), .sl 3 (List.map encApi_Dep x30.Past)]))], []⟩ :: ⟨[(86, .one (bB true)), (95, .one (.ep [.v (.int .i64 x30.Stamp.N), .v (.int .i64 x30.Stamp.Site), .sl 3 (List.map encApi_Dep x30.Past)]))], [], [(96, .one (.g (.agg [.v (.int .i64 x30.Stamp.N), .v (.int .i64 x30.Stamp.Site)])))], []⟩ :: ⟨[(86, .one (bB true)), (91, .one (.g (.agg [.v (.int .i64 x29.Stamp.N), .v (.int .i64 x29.Stamp.Site)]))), (96, .one (.g (.agg [.v (.int .i64 x30.Stamp.N), .v (.int .i64 x30.Stamp.Site)])))], [], [(97, .one (bB (decide (x29.Stamp.N = x30.Stamp.N) && decide (x29.Stamp.Site = x30.Stamp.Site))))], []⟩ :: ⟨[(86, .one (bB true)), (97, .one (bB (decide (x29.Stamp.N = x30.Stamp.N) && decide (x29.Stamp.Site = x30.Stamp.Site))))], [], [(98, .one (bB (decide (x29.Stamp.N = x30.Stamp.N) && decide (x29.Stamp.Site = x30.Stamp.Site))))], []⟩ :: [])) (deps := ([] :: [] :: [0, 1] :: [0, 1, 2] :: [0, 1, 2, 3] :: [] :: [] :: [5, 6] :: [5, 6, 7] :: [5, 6, 7, 8] :: [0, 1, 2, 3, 4, 5, 6, 7, 8, 9] :: [0, 1, 2, 3, 4, 5, 6, 7, 8, 9, 10] :: [0, 1, 2, 3, 4, 5, 6, 7, 8, 9, 10, 11] :: [0, 1, 2, 3, 4, 5, 6, 7, 8, 9, 10, 11] :: [0, 1, 2, 3, 4, 5, 6, 7, 8, 9, 10, 11, 12, 13] :: [0, 1, 2, 3, 4, 5, 6, 7, 8, 9, 10, 11, 12, 13, 14] :: [0, 1, 2, 3, 4, 5, 6, 7, 8, 9, 10, 11, 12, 13, 14, 15] :: [0, 1, 2, 3, 4, 5, 6, 7, 8, 9, 10, 11] :: [0, 1, 2, 3, 4, 5, 6, 7, 8, 9, 10, 11] :: [0, 1, 2, 3, 4, 5, 6, 7, 8, 9, 10, 11, 17, 18] :: [0, 1, 2, 3, 4, 5, 6, 7, 8, 9, 10, 11, 17, 18, 19] :: [0, 1, 2, 3, 4, 5, 6, 7, 8, 9, 10, 11, 17, 18, 19, 20] :: (0 :: 1 :: 2 :: 3 :: 4 :: 5 :: 6 :: 7 :: 8 :: 9 :: 10 :: 11 :: 12 :: 13 :: 14 :: 15 :: 16 :: 17 :: 18 :: 19 :: 20 :: 21 :: []) :: (0 :: 1 :: 2 :: 3 :: 4 :: 5 :: 6 :: 7 :: 8 :: 9 :: 10 :: 11 :: 12 :: 13 :: 14 :: 15 :: 16 :: 17 :: 18 :: 19 :: 20 :: 21 :: 22 :: []) :: [])) (sl' := [(0, .one (.g (.d (.sl 6 (List.map encApi_Version l_0))))), (3, .one (bI .i64 v3)), (8, .one (bI .i64 v21)), (98, .one (bB (decide (x29.Stamp.N = x30.Stamp.N) && decide (x29.Stamp.Site = x30.Stamp.Site))))]) (hp' := []) follows rfl rfl rfl ⟨⟨rfl, trivial⟩, trivial, ⟨rfl, trivial⟩, trivial, ⟨rfl, rfl, trivial⟩, trivial, ⟨rfl, trivial⟩, trivial, ⟨rfl, trivial⟩, trivial, ⟨rfl, trivial⟩, trivial, ⟨rfl, trivial⟩, trivial, ⟨rfl, rfl, trivial⟩, trivial, ⟨rfl, trivial⟩, trivial, ⟨rfl, trivial⟩, trivial, ⟨rfl, rfl, trivial⟩, trivial, ⟨rfl, trivial⟩, trivial, ⟨rfl, rfl, trivial⟩, trivial, ⟨rfl, rfl, trivial⟩, trivial, ⟨rfl, rfl, rfl, trivial⟩, trivial, ⟨rfl, rfl, trivial⟩, trivial, ⟨rfl, rfl, trivial⟩, trivial, ⟨rfl, rfl, trivial⟩, trivial, ⟨rfl, rfl, trivial⟩, trivial, ⟨rfl, rfl, rfl, trivial⟩, trivial, ⟨rfl, rfl, trivial⟩, trivial, ⟨rfl, rfl, trivial⟩, trivial, ⟨rfl, rfl, rfl, trivial⟩, trivial, ⟨rfl, rfl, trivial⟩, trivial, trivial⟩ ⟨OpW.plain (op_move (Ev.t 0 (.g (.d (.sl 6 (List.map encApi_Version l_0))))) rfl) rfl rfl, OpW.plain (op_move (Ev.t 8 (bI .i64 v21)) rfl) rfl rfl, OpW.plain (op_index (cs := [.v (.string x26.Key), .v (.string x26.Value), .v (.bool x26.Gone), .v (.int .i64 x26.Stamp.N), .v (.int .i64 x26.Stamp.Site), .sl 3 (List.map encApi_Dep x26.Past)]) Try.underlying31 ti34 (idx_ok hx26).1 (idx_get hx26 encApi_Version) (Ev.t 75 (.g (.d (.sl 6 (List.map encApi_Version l_0))))) (Ev.t 76 (bI .i64 v21)) rfl) rfl rfl, OpW.plain (op_fieldE (cs' := [.v (.string x26.Key), .v (.string x26.Value), .v (.bool x26.Gone), .v (.int .i64 x26.Stamp.N), .v (.int .i64 x26.Stamp.Site), .sl 3 (List.map encApi_Dep x26.Past)]) Try.underlying34 rfl ti9 (by decide) rfl (Ev.t 77 (.ep [.v (.string x26.Key), .v (.string x26.Value), .v (.bool x26.Gone), .v (.int .i64 x26.Stamp.N), .v (.int .i64 x26.Stamp.Site), .sl 3 (List.map encApi_Dep x26.Past)])) rfl) rfl rfl, OpW.plain (op_load1E (c := .v (.string x26.Key)) Try.underlying9 rfl rfl (Ev.t 78 (.ep [.v (.string x26.Key), .v (.string x26.Value), .v (.bool x26.Gone), .v (.int .i64 x26.Stamp.N), .v (.int .i64 x26.Stamp.Site), .sl 3 (List.map encApi_Dep x26.Past)])) rfl) rfl rfl, OpW.plain (op_move (Ev.t 0 (.g (.d (.sl 6 (List.map encApi_Version l_0))))) rfl) rfl rfl, OpW.plain (op_move (Ev.t 3 (bI .i64 v3)) rfl) rfl rfl, OpW.plain (op_index (cs := [.v (.string x27.Key), .v (.string x27.Value), .v (.bool x27.Gone), .v (.int .i64 x27.Stamp.N), .v (.int .i64 x27.Stamp.Site), .sl 3 (List.map encApi_Dep x27.Past)]) Try.underlying31 ti34 (idx_ok hx27).1 (idx_get hx27 encApi_Version) (Ev.t 80 (.g (.d (.sl 6 (List.map encApi_Version l_0))))) (Ev.t 81 (bI .i64 v3)) rfl) rfl rfl, OpW.plain (op_fieldE (cs' := [.v (.string x27.Key), .v (.string x27.Value), .v (.bool x27.Gone), .v (.int .i64 x27.Stamp.N), .v (.int .i64 x27.Stamp.Site), .sl 3 (List.map encApi_Dep x27.Past)]) Try.underlying34 rfl ti9 (by decide) rfl (Ev.t 82 (.ep [.v (.string x27.Key), .v (.string x27.Value), .v (.bool x27.Gone), .v (.int .i64 x27.Stamp.N), .v (.int .i64 x27.Stamp.Site), .sl 3 (List.map encApi_Dep x27.Past)])) rfl) rfl rfl, OpW.plain (op_load1E (c := .v (.string x27.Key)) Try.underlying9 rfl rfl (Ev.t 83 (.ep [.v (.string x27.Key), .v (.string x27.Value), .v (.bool x27.Gone), .v (.int .i64 x27.Stamp.N), .v (.int .i64 x27.Stamp.Site), .sl 3 (List.map encApi_Dep x27.Past)])) rfl) rfl rfl, OpW.plain (OpL.cast (op_eqS (Ev.t 79 (bS x26.Key)) (Ev.t 84 (bS x27.Key)) rfl) (congrArg (fun b => bB b) hc28)) rfl rfl, OpW.plain (op_move (Ev.t 85 (bB true)) rfl) rfl rfl, OpW.yes (op_move (Ev.t 0 (.g (.d (.sl 6 (List.map encApi_Version l_0))))) rfl) rfl rfl rfl, OpW.yes (op_move (Ev.t 8 (bI .i64 v21)) rfl) rfl rfl rfl, OpW.yes (op_index (cs := [.v (.string x29.Key), .v (.string x29.Value), .v (.bool x29.Gone), .v (.int .i64 x29.Stamp.N), .v (.int .i64 x29.Stamp.Site), .sl 3 (List.map encApi_Dep x29.Past)]) Try.underlying31 ti34 (idx_ok hx29).1 (idx_get hx29 encApi_Version) (Ev.t 87 (.g (.d (.sl 6 (List.map encApi_Version l_0))))) (Ev.t 88 (bI .i64 v21)) rfl) rfl rfl rfl, OpW.yes (op_fieldE (cs' := [.v (.int .i64 x29.Stamp.N), .v (.int .i64 x29.Stamp.Site), .sl 3 (List.map encApi_Dep x29.Past)]) Try.underlying34 rfl ti24 (by decide) rfl (Ev.t 89 (.ep [.v (.string x29.Key), .v (.string x29.Value), .v (.bool x29.Gone), .v (.int .i64 x29.Stamp.N), .v (.int .i64 x29.Stamp.Site), .sl 3 (List.map encApi_Dep x29.Past)])) rfl) rfl rfl rfl, OpW.yes (op_loadAE (ds := [.v (.int .i64 x29.Stamp.N), .v (.int .i64 x29.Stamp.Site)]) Try.underlying24 rfl ti24 rfl (Ev.t 90 (.ep [.v (.int .i64 x29.Stamp.N), .v (.int .i64 x29.Stamp.Site), .sl 3 (List.map encApi_Dep x29.Past)])) rfl) rfl rfl rfl, OpW.yes (op_move (Ev.t 0 (.g (.d (.sl 6 (List.map encApi_Version l_0))))) rfl) rfl rfl rfl, OpW.yes (op_move (Ev.t 3 (bI .i64 v3)) rfl) rfl rfl rfl, OpW.yes (op_index (cs := [.v (.string x30.Key), .v (.string x30.Value), .v (.bool x30.Gone), .v (.int .i64 x30.Stamp.N), .v (.int .i64 x30.Stamp.Site), .sl 3 (List.map encApi_Dep x30.Past)]) Try.underlying31 ti34 (idx_ok hx30).1 (idx_get hx30 encApi_Version) (Ev.t 92 (.g (.d (.sl 6 (List.map encApi_Version l_0))))) (Ev.t 93 (bI .i64 v3)) rfl) rfl rfl rfl, OpW.yes (op_fieldE (cs' := [.v (.int .i64 x30.Stamp.N), .v (.int .i64 x30.Stamp.Site), .sl 3 (List.map encApi_Dep x30.Past)]) Try.underlying34 rfl ti24 (by decide) rfl (Ev.t 94 (.ep [.v (.string x30.Key), .v (.string x30.Value), .v (.bool x30.Gone), .v (.int .i64 x30.Stamp.N), .v (.int .i64 x30.Stamp.Site), .sl 3 (List.map encApi_Dep x30.Past)])) rfl) rfl rfl rfl, OpW.yes (op_loadAE (ds := [.v (.int .i64 x30.Stamp.N), .v (.int .i64 x30.Stamp.Site)]) Try.underlying24 rfl ti24 rfl (Ev.t 95 (.ep [.v (.int .i64 x30.Stamp.N), .v (.int .i64 x30.Stamp.Site), .sl 3 (List.map encApi_Dep x30.Past)])) rfl) rfl rfl rfl, OpW.yes (op_eqA (us := [.int .i64 x29.Stamp.N, .int .i64 x29.Stamp.Site]) (vs := [.int .i64 x30.Stamp.N, .int .i64 x30.Stamp.Site]) rfl rfl Try.eqGuardType24 (fun w => eq24 x29.Stamp.N x29.Stamp.Site x30.Stamp.N x30.Stamp.Site w) (Ev.t 91 (.g (.agg [.v (.int .i64 x29.Stamp.N), .v (.int .i64 x29.Stamp.Site)]))) (Ev.t 96 (.g (.agg [.v (.int .i64 x30.Stamp.N), .v (.int .i64 x30.Stamp.Site)]))) rfl) rfl rfl rfl, OpW.plain (op_pickT (Ev.t 86 (bB true)) (Ev.t 97 (bB (decide (x29.Stamp.N = x30.Stamp.N) && decide (x29.Stamp.Site = x30.Stamp.Site)))) rfl) rfl rfl, trivial⟩ ⟨rfl, rfl, rfl, rfl, trivial⟩ trivial rfl ?_
              refine ifS hF (fun hc31 hF => ?_) (fun hc31 hF => ?_)
              · refine G.cond rfl (fun _ => ?_) (fun hx => by rw [hc31] at hx; cases hx)
                refine G.seq ?_
                refine G.region ?_
                refine G.op1 (op_assign (Ev.c _ rfl) rfl) rfl trivial trivial ?_
                refine G.endOps ?_
                cases hF
                exact G.ret1 Try.results21 (RVar.tmp 2 _) ⟨rfl, trivial⟩ trivial
              · refine G.cond rfl (fun hx => by rw [hc31] at hx; cases hx) (fun _ => ?_)
                refine G.skip ?_
                refine G.endBlock ?_
                refine G.region ?_
                refine G.op1 (op_move (Ev.t 8 (bI .i64 v21)) rfl) rfl ⟨rfl, trivial⟩ trivial ?_
                refine G.op1 (op_add (Ev.t 73 (bI .i64 v21)) (Ev.c _ rfl) rfl) rfl ⟨rfl, trivial⟩ trivial ?_
                refine G.op1 (op_assign (Ev.t 74 (bI .i64 (IntKind.wrap .i64 (v21 + 1)))) rfl) rfl ⟨rfl, trivial⟩ trivial ?_
                refine G.endOps ?_
                exact G.arr (J22 (IntKind.wrap .i64 (v21 + 1)) hF) ⟨rfl, rfl, rfl, trivial⟩ trivial rfl
            · refine G.drawn (effs := (⟨[(0, .one (.g (.d (.sl 6 (List.map encApi_Version l_0)))))], [], [(75, .one (.g (.d (.sl 6 (List.map encApi_Version l_0)))))], []⟩ :: ⟨[(8, .one (bI .i64 v21))], [], [(76, .one (bI .i64 v21))], []⟩ :: ⟨[(75, .one (.g (.d (.sl 6 (List.map encApi_Version l_0))))), (76, .one (bI .i64 v21))], [], [(77, .one (.ep [.v (.string x26.Key), .v (.string x26.Value), .v (.bool x26.Gone), .v (.int .i64 x26.Stamp.N), .v (.int .i64 x26.Stamp.Site), .sl 3 (List.map encApi_Dep x26.Past)]))], []⟩ :: ⟨[(77, .one (.ep [.v (.string x26.Key), .v (.string x26.Value), .v (.bool x26.Gone), .v (.int .i64 x26.Stamp.N), .v (.int .i64 x26.Stamp.Site), .sl 3 (List.map encApi_Dep x26.Past)]))], [], [(78, .one (.ep [.v (.string x26.Key), .v (.string x26.Value), .v (.bool x26.Gone), .v (.int .i64 x26.Stamp.N), .v (.int .i64 x26.Stamp.Site), .sl 3 (List.map encApi_Dep x26.Past)]))], []⟩ :: ⟨[(78, .one (.ep [.v (.string x26.Key), .v (.string x26.Value), .v (.bool x26.Gone), .v (.int .i64 x26.Stamp.N), .v (.int .i64 x26.Stamp.Site), .sl 3 (List.map encApi_Dep x26.Past)]))], [], [(79, .one (bS x26.Key))], []⟩ :: ⟨[(0, .one (.g (.d (.sl 6 (List.map encApi_Version l_0)))))], [], [(80, .one (.g (.d (.sl 6 (List.map encApi_Version l_0)))))], []⟩ :: ⟨[(3, .one (bI .i64 v3))], [], [(81, .one (bI .i64 v3))], []⟩ :: ⟨[(80, .one (.g (.d (.sl 6 (List.map encApi_Version l_0))))), (81, .one (bI .i64 v3))], [], [(82, .one (.ep [.v (.string x27.Key), .v (.string x27.Value), .v (.bool x27.Gone), .v (.int .i64 x27.Stamp.N), .v (.int .i64 x27.Stamp.Site), .sl 3 (List.map encApi_Dep x27.Past)]))], []⟩ :: ⟨[(82, .one (.ep [.v (.string x27.Key), .v (.string x27.Value), .v (.bool x27.Gone), .v (.int .i64 x27.Stamp.N), .v (.int .i64 x27.Stamp.Site), .sl 3 (List.map encApi_Dep x27.Past)]))], [], [(83, .one (.ep [.v (.string x27.Key), .v (.string x27.Value), .v (.bool x27.Gone), .v (.int .i64 x27.Stamp.N), .v (.int .i64 x27.Stamp.Site), .sl 3 (List.map encApi_Dep x27.Past)]))], []⟩ :: ⟨[(83, .one (.ep [.v (.string x27.Key), .v (.string x27.Value), .v (.bool x27.Gone), .v (.int .i64 x27.Stamp.N), .v (.int .i64 x27.Stamp.Site), .sl 3 (List.map encApi_Dep x27.Past)]))], [], [(84, .one (bS x27.Key))], []⟩ :: ⟨[(79, .one (bS x26.Key)), (84, .one (bS x27.Key))], [], [(85, .one (bB false))], []⟩ :: ⟨[(85, .one (bB false))], [], [(86, .one (bB false))], []⟩ :: ⟨[(86, .one (bB false))], [], [(87, .one (.x Go.undef))], []⟩ :: ⟨[(86, .one (bB false))], [], [(88, .one (.x Go.undef))], []⟩ :: ⟨[(86, .one (bB false))], [], [(89, .one (.x Go.undef))], []⟩ :: ⟨[(86, .one (bB false))], [], [(90, .one (.x Go.undef))], []⟩ :: ⟨[(86, .one (bB false))], [], [(91, .one (.x Go.undef))], []⟩ :: ⟨[(86, .one (bB false))], [], [(92, .one (.x Go.undef))], []⟩ :: ⟨[(86, .one (bB false))], [], [(93, .one (.x Go.undef))], []⟩ :: ⟨[(86, .one (bB false))], [], [(94, .one (.x Go.undef))], []⟩ :: ⟨[(86, .one (bB false))], [], [(95, .one (.x Go.undef))], []⟩ :: ⟨[(86, .one (bB false))], [], [(96, .one (.x Go.undef))], []⟩ :: ⟨[(86, .one (bB false))], [], [(97, .one (.x Go.undef))], []⟩ :: ⟨[(86, .one (bB false))], [], [(98, .one (bB false))], []⟩ :: [])) (deps := ([] :: [] :: [0, 1] :: [0, 1, 2] :: [0, 1, 2, 3] :: [] :: [] :: [5, 6] :: [5, 6, 7] :: [5, 6, 7, 8] :: [0, 1, 2, 3, 4, 5, 6, 7, 8, 9] :: [0, 1, 2, 3, 4, 5, 6, 7, 8, 9, 10] :: [0, 1, 2, 3, 4, 5, 6, 7, 8, 9, 10, 11] :: [0, 1, 2, 3, 4, 5, 6, 7, 8, 9, 10, 11] :: [0, 1, 2, 3, 4, 5, 6, 7, 8, 9, 10, 11, 12, 13] :: [0, 1, 2, 3, 4, 5, 6, 7, 8, 9, 10, 11, 12, 13, 14] :: [0, 1, 2, 3, 4, 5, 6, 7, 8, 9, 10, 11, 12, 13, 14, 15] :: [0, 1, 2, 3, 4, 5, 6, 7, 8, 9, 10, 11] :: [0, 1, 2, 3, 4, 5, 6, 7, 8, 9, 10, 11] :: [0, 1, 2, 3, 4, 5, 6, 7, 8, 9, 10, 11, 17, 18] :: [0, 1, 2, 3, 4, 5, 6, 7, 8, 9, 10, 11, 17, 18, 19] :: [0, 1, 2, 3, 4, 5, 6, 7, 8, 9, 10, 11, 17, 18, 19, 20] :: (0 :: 1 :: 2 :: 3 :: 4 :: 5 :: 6 :: 7 :: 8 :: 9 :: 10 :: 11 :: 12 :: 13 :: 14 :: 15 :: 16 :: 17 :: 18 :: 19 :: 20 :: 21 :: []) :: (0 :: 1 :: 2 :: 3 :: 4 :: 5 :: 6 :: 7 :: 8 :: 9 :: 10 :: 11 :: 12 :: 13 :: 14 :: 15 :: 16 :: 17 :: 18 :: 19 :: 20 :: 21 :: 22 :: []) :: [])) (sl' := [(0, .one (.g (.d (.sl 6 (List.map encApi_Version l_0))))), (3, .one (bI .i64 v3)), (8, .one (bI .i64 v21)), (98, .one (bB false))]) (hp' := []) follows rfl rfl rfl ⟨⟨rfl, trivial⟩, trivial, ⟨rfl, trivial⟩, trivial, ⟨rfl, rfl, trivial⟩, trivial, ⟨rfl, trivial⟩, trivial, ⟨rfl, trivial⟩, trivial, ⟨rfl, trivial⟩, trivial, ⟨rfl, trivial⟩, trivial, ⟨rfl, rfl, trivial⟩, trivial, ⟨rfl, trivial⟩, trivial, ⟨rfl, trivial⟩, trivial, ⟨rfl, rfl, trivial⟩, trivial, ⟨rfl, trivial⟩, trivial, ⟨rfl, trivial⟩, trivial, ⟨rfl, trivial⟩, trivial, ⟨rfl, trivial⟩, trivial, ⟨rfl, trivial⟩, trivial, ⟨rfl, trivial⟩, trivial, ⟨rfl, trivial⟩, trivial, ⟨rfl, trivial⟩, trivial, ⟨rfl, trivial⟩, trivial, ⟨rfl, trivial⟩, trivial, ⟨rfl, trivial⟩, trivial, ⟨rfl, trivial⟩, trivial, ⟨rfl, trivial⟩, trivial, trivial⟩ ⟨OpW.plain (op_move (Ev.t 0 (.g (.d (.sl 6 (List.map encApi_Version l_0))))) rfl) rfl rfl, OpW.plain (op_move (Ev.t 8 (bI .i64 v21)) rfl) rfl rfl, OpW.plain (op_index (cs := [.v (.string x26.Key), .v (.string x26.Value), .v (.bool x26.Gone), .v (.int .i64 x26.Stamp.N), .v (.int .i64 x26.Stamp.Site), .sl 3 (List.map encApi_Dep x26.Past)]) Try.underlying31 ti34 (idx_ok hx26).1 (idx_get hx26 encApi_Version) (Ev.t 75 (.g (.d (.sl 6 (List.map encApi_Version l_0))))) (Ev.t 76 (bI .i64 v21)) rfl) rfl rfl, OpW.plain (op_fieldE (cs' := [.v (.string x26.Key), .v (.string x26.Value), .v (.bool x26.Gone), .v (.int .i64 x26.Stamp.N), .v (.int .i64 x26.Stamp.Site), .sl 3 (List.map encApi_Dep x26.Past)]) Try.underlying34 rfl ti9 (by decide) rfl (Ev.t 77 (.ep [.v (.string x26.Key), .v (.string x26.Value), .v (.bool x26.Gone), .v (.int .i64 x26.Stamp.N), .v (.int .i64 x26.Stamp.Site), .sl 3 (List.map encApi_Dep x26.Past)])) rfl) rfl rfl, OpW.plain (op_load1E (c := .v (.string x26.Key)) Try.underlying9 rfl rfl (Ev.t 78 (.ep [.v (.string x26.Key), .v (.string x26.Value), .v (.bool x26.Gone), .v (.int .i64 x26.Stamp.N), .v (.int .i64 x26.Stamp.Site), .sl 3 (List.map encApi_Dep x26.Past)])) rfl) rfl rfl, OpW.plain (op_move (Ev.t 0 (.g (.d (.sl 6 (List.map encApi_Version l_0))))) rfl) rfl rfl, OpW.plain (op_move (Ev.t 3 (bI .i64 v3)) rfl) rfl rfl, OpW.plain (op_index (cs := [.v (.string x27.Key), .v (.string x27.Value), .v (.bool x27.Gone), .v (.int .i64 x27.Stamp.N), .v (.int .i64 x27.Stamp.Site), .sl 3 (List.map encApi_Dep x27.Past)]) Try.underlying31 ti34 (idx_ok hx27).1 (idx_get hx27 encApi_Version) (Ev.t 80 (.g (.d (.sl 6 (List.map encApi_Version l_0))))) (Ev.t 81 (bI .i64 v3)) rfl) rfl rfl, OpW.plain (op_fieldE (cs' := [.v (.string x27.Key), .v (.string x27.Value), .v (.bool x27.Gone), .v (.int .i64 x27.Stamp.N), .v (.int .i64 x27.Stamp.Site), .sl 3 (List.map encApi_Dep x27.Past)]) Try.underlying34 rfl ti9 (by decide) rfl (Ev.t 82 (.ep [.v (.string x27.Key), .v (.string x27.Value), .v (.bool x27.Gone), .v (.int .i64 x27.Stamp.N), .v (.int .i64 x27.Stamp.Site), .sl 3 (List.map encApi_Dep x27.Past)])) rfl) rfl rfl, OpW.plain (op_load1E (c := .v (.string x27.Key)) Try.underlying9 rfl rfl (Ev.t 83 (.ep [.v (.string x27.Key), .v (.string x27.Value), .v (.bool x27.Gone), .v (.int .i64 x27.Stamp.N), .v (.int .i64 x27.Stamp.Site), .sl 3 (List.map encApi_Dep x27.Past)])) rfl) rfl rfl, OpW.plain (OpL.cast (op_eqS (Ev.t 79 (bS x26.Key)) (Ev.t 84 (bS x27.Key)) rfl) (congrArg (fun b => bB b) hc28)) rfl rfl, OpW.plain (op_move (Ev.t 85 (bB false)) rfl) rfl rfl, OpW.no rfl rfl rfl rfl rfl, OpW.no rfl rfl rfl rfl rfl, OpW.no rfl rfl rfl rfl rfl, OpW.no rfl rfl rfl rfl rfl, OpW.no rfl rfl rfl rfl rfl, OpW.no rfl rfl rfl rfl rfl, OpW.no rfl rfl rfl rfl rfl, OpW.no rfl rfl rfl rfl rfl, OpW.no rfl rfl rfl rfl rfl, OpW.no rfl rfl rfl rfl rfl, OpW.no rfl rfl rfl rfl rfl, OpW.plain (op_pickF (Ev.t 86 (bB false)) (Ev.c _ rfl) rfl) rfl rfl, trivial⟩ ⟨rfl, rfl, rfl, rfl, trivial⟩ trivial rfl ?_
              refine G.condF rfl ?_
              refine G.skip ?_
              refine G.endBlock ?_
              refine G.region ?_
              refine G.op1 (op_move (Ev.t 8 (bI .i64 v21)) rfl) rfl ⟨rfl, trivial⟩ trivial ?_
              refine G.op1 (op_add (Ev.t 73 (bI .i64 v21)) (Ev.c _ rfl) rfl) rfl ⟨rfl, trivial⟩ trivial ?_
              refine G.op1 (op_assign (Ev.t 74 (bI .i64 (IntKind.wrap .i64 (v21 + 1)))) rfl) rfl ⟨rfl, trivial⟩ trivial ?_
              refine G.endOps ?_
              exact G.arr (J22 (IntKind.wrap .i64 (v21 + 1)) hF) ⟨rfl, rfl, rfl, trivial⟩ trivial rfl
          · refine G.cond rfl (fun hx => by rw [hc25] at hx; cases hx) (fun _ => ?_)
            refine G.exit ?_
            refine GX.c ?_
            refine GX.q ?_
            refine GX.bYes ?_
            exact G.arr (J20 () hF) ⟨rfl, rfl, trivial⟩ trivial rfl
        refine G.block ?_
        refine G.keep (sl' := [(0, .one (.g (.d (.sl 6 (List.map encApi_Version l_0))))), (3, .one (bI .i64 v3)), (7, .one (bI .i64 0))]) (hp' := []) ⟨rfl, rfl, rfl, trivial⟩ trivial rfl ?_
        refine G.loopF (fun (v33 : Int) => ⟨[(0, .one (.g (.d (.sl 6 (List.map encApi_Version l_0))))), (3, .one (bI .i64 v3)), (7, .one (bI .i64 v33))], []⟩) hF rfl (fun K36 again35 v33 J34 hF => ?_)
        unfold ref05_Sound_l8 at hF
        refine G.seq ?_
        refine G.seq ?_
        refine G.region ?_
        refine G.op1 (op_move (Ev.t 7 (bI .i64 v33)) rfl) rfl ⟨rfl, trivial⟩ trivial ?_
        refine G.op1 (op_move (Ev.t 0 (.g (.d (.sl 6 (List.map encApi_Version l_0))))) rfl) rfl ⟨rfl, trivial⟩ trivial ?_
        refine G.op1 (op_move (Ev.t 3 (bI .i64 v3)) rfl) rfl ⟨rfl, trivial⟩ trivial ?_
        obtain ⟨x37, hx37, hF⟩ := bindS hF
        refine G.op1 (op_index (cs := [.v (.string x37.Key), .v (.string x37.Value), .v (.bool x37.Gone), .v (.int .i64 x37.Stamp.N), .v (.int .i64 x37.Stamp.Site), .sl 3 (List.map encApi_Dep x37.Past)]) Try.underlying31 ti34 (idx_ok hx37).1 (idx_get hx37 encApi_Version) (Ev.t 45 (.g (.d (.sl 6 (List.map encApi_Version l_0))))) (Ev.t 46 (bI .i64 v3)) rfl) rfl ⟨rfl, rfl, trivial⟩ trivial ?_
        refine G.op1 (op_fieldE (cs' := [.sl 3 (List.map encApi_Dep x37.Past)]) Try.underlying34 rfl ti29 (by decide) rfl (Ev.t 47 (.ep [.v (.string x37.Key), .v (.string x37.Value), .v (.bool x37.Gone), .v (.int .i64 x37.Stamp.N), .v (.int .i64 x37.Stamp.Site), .sl 3 (List.map encApi_Dep x37.Past)])) rfl) rfl ⟨rfl, trivial⟩ trivial ?_
        refine G.op1 (op_load1E (c := .sl 3 (List.map encApi_Dep x37.Past)) Try.underlying29 rfl rfl (Ev.t 48 (.ep [.sl 3 (List.map encApi_Dep x37.Past)])) rfl) rfl ⟨rfl, trivial⟩ trivial ?_
        refine G.op1 (OpL.cast (op_lenD Try.underlying29 (Ev.t 49 (.g (.d (.sl 3 (List.map encApi_Dep x37.Past))))) rfl) (by rw [List.length_map])) rfl ⟨rfl, trivial⟩ trivial ?_
        refine G.op1 (op_lss (Ev.t 44 (bI .i64 v33)) (Ev.t 50 (bI .i64 (x37.Past.length : Int))) rfl) rfl ⟨rfl, rfl, trivial⟩ trivial ?_
        refine G.endOps ?_
        refine ifS hF (fun hc38 hF => ?_) (fun hc38 hF => ?_)
        · refine G.cond rfl (fun _ => ?_) (fun hx => by rw [hc38] at hx; cases hx)
          refine G.skip ?_
          refine G.seq ?_
          refine G.block ?_
          refine G.seq ?_
          obtain ⟨x39, hx39, hF⟩ := bindS hF
          obtain ⟨x40, hx40, hF⟩ := bindS hF
          obtain ⟨x41, hx41, hF⟩ := bindS hF
          obtain ⟨r42, hr42, hF⟩ := bindS hF
          refine G.drawn (effs := [⟨[(0, .one (.g (.d (.sl 6 (List.map encApi_Version l_0)))))], [], [(54, .one (.g (.d (.sl 6 (List.map encApi_Version l_0)))))], []⟩, ⟨[(3, .one (bI .i64 v3))], [], [(55, .one (bI .i64 v3))], []⟩, ⟨[(54, .one (.g (.d (.sl 6 (List.map encApi_Version l_0))))), (55, .one (bI .i64 v3))], [], [(56, .one (.ep [.v (.string x39.Key), .v (.string x39.Value), .v (.bool x39.Gone), .v (.int .i64 x39.Stamp.N), .v (.int .i64 x39.Stamp.Site), .sl 3 (List.map encApi_Dep x39.Past)]))], []⟩, ⟨[(56, .one (.ep [.v (.string x39.Key), .v (.string x39.Value), .v (.bool x39.Gone), .v (.int .i64 x39.Stamp.N), .v (.int .i64 x39.Stamp.Site), .sl 3 (List.map encApi_Dep x39.Past)]))], [], [(57, .one (.ep [.sl 3 (List.map encApi_Dep x39.Past)]))], []⟩, ⟨[(57, .one (.ep [.sl 3 (List.map encApi_Dep x39.Past)]))], [], [(58, .one (.g (.d (.sl 3 (List.map encApi_Dep x39.Past)))))], []⟩, ⟨[(7, .one (bI .i64 v33))], [], [(59, .one (bI .i64 v33))], []⟩, ⟨[(58, .one (.g (.d (.sl 3 (List.map encApi_Dep x39.Past))))), (59, .one (bI .i64 v33))], [], [(60, .one (.ep [.v (.string x40.Key), .v (.int .i64 x40.Stamp.N), .v (.int .i64 x40.Stamp.Site)]))], []⟩, ⟨[(60, .one (.ep [.v (.string x40.Key), .v (.int .i64 x40.Stamp.N), .v (.int .i64 x40.Stamp.Site)]))], [], [(61, .one (.ep [.v (.int .i64 x40.Stamp.N), .v (.int .i64 x40.Stamp.Site)]))], []⟩, ⟨[(61, .one (.ep [.v (.int .i64 x40.Stamp.N), .v (.int .i64 x40.Stamp.Site)]))], [], [(62, .one (.g (.agg [.v (.int .i64 x40.Stamp.N), .v (.int .i64 x40.Stamp.Site)])))], []⟩, ⟨[(0, .one (.g (.d (.sl 6 (List.map encApi_Version l_0)))))], [], [(63, .one (.g (.d (.sl 6 (List.map encApi_Version l_0)))))], []⟩, ⟨[(3, .one (bI .i64 v3))], [], [(64, .one (bI .i64 v3))], []⟩, ⟨[(63, .one (.g (.d (.sl 6 (List.map encApi_Version l_0))))), (64, .one (bI .i64 v3))], [], [(65, .one (.ep [.v (.string x41.Key), .v (.string x41.Value), .v (.bool x41.Gone), .v (.int .i64 x41.Stamp.N), .v (.int .i64 x41.Stamp.Site), .sl 3 (List.map encApi_Dep x41.Past)]))], []⟩, ⟨[(65, .one (.ep [.v (.string x41.Key), .v (.string x41.Value), .v (.bool x41.Gone), .v (.int .i64 x41.Stamp.N), .v (.int .i64 x41.Stamp.Site), .sl 3 (List.map encApi_Dep x41.Past)]))], [], [(66, .one (.ep [.v (.int .i64 x41.Stamp.N), .v (.int .i64 x41.Stamp.Site), .sl 3 (List.map encApi_Dep x41.Past)]))], []⟩, ⟨[(66, .one (.ep [.v (.int .i64 x41.Stamp.N), .v (.int .i64 x41.Stamp.Site), .sl 3 (List.map encApi_Dep x41.Past)]))], [], [(67, .one (.g (.agg [.v (.int .i64 x41.Stamp.N), .v (.int .i64 x41.Stamp.Site)])))], []⟩, ⟨[(62, .one (.g (.agg [.v (.int .i64 x40.Stamp.N), .v (.int .i64 x40.Stamp.Site)]))), (67, .one (.g (.agg [.v (.int .i64 x41.Stamp.N), .v (.int .i64 x41.Stamp.Site)])))], [], [(68, .one (bB r42))], []⟩, ⟨[(68, .one (bB r42))], [], [(69, .one (bB (!r42)))], []⟩]) (deps := [[], [], [0, 1], [0, 1, 2], [0, 1, 2, 3], [], [0, 1, 2, 3, 4, 5], [0, 1, 2, 3, 4, 5, 6], [0, 1, 2, 3, 4, 5, 6, 7], [], [], [9, 10], [9, 10, 11], [9, 10, 11, 12], [0, 1, 2, 3, 4, 5, 6, 7, 8, 9, 10, 11, 12, 13], [0, 1, 2, 3, 4, 5, 6, 7, 8, 9, 10, 11, 12, 13, 14]]) (sl' := [(0, .one (.g (.d (.sl 6 (List.map encApi_Version l_0))))), (3, .one (bI .i64 v3)), (7, .one (bI .i64 v33)), (69, .one (bB (!r42)))]) (hp' := []) follows rfl rfl rfl ⟨⟨rfl, trivial⟩, trivial, ⟨rfl, trivial⟩, trivial, ⟨rfl, rfl, trivial⟩, trivial, ⟨rfl, trivial⟩, trivial, ⟨rfl, trivial⟩, trivial, ⟨rfl, trivial⟩, trivial, ⟨rfl, rfl, trivial⟩, trivial, ⟨rfl, trivial⟩, trivial, ⟨rfl, trivial⟩, trivial, ⟨rfl, trivial⟩, trivial, ⟨rfl, trivial⟩, trivial, ⟨rfl, rfl, trivial⟩, trivial, ⟨rfl, trivial⟩, trivial, ⟨rfl, trivial⟩, trivial, ⟨rfl, rfl, trivial⟩, trivial, ⟨rfl, trivial⟩, trivial, trivial⟩ ⟨OpW.plain (op_move (Ev.t 0 (.g (.d (.sl 6 (List.map encApi_Version l_0))))) rfl) rfl rfl, OpW.plain (op_move (Ev.t 3 (bI .i64 v3)) rfl) rfl rfl, OpW.plain (op_index (cs := [.v (.string x39.Key), .v (.string x39.Value), .v (.bool x39.Gone), .v (.int .i64 x39.Stamp.N), .v (.int .i64 x39.Stamp.Site), .sl 3 (List.map encApi_Dep x39.Past)]) Try.underlying31 ti34 (idx_ok hx39).1 (idx_get hx39 encApi_Version) (Ev.t 54 (.g (.d (.sl 6 (List.map encApi_Version l_0))))) (Ev.t 55 (bI .i64 v3)) rfl) rfl rfl, OpW.plain (op_fieldE (cs' := [.sl 3 (List.map encApi_Dep x39.Past)]) Try.underlying34 rfl ti29 (by decide) rfl (Ev.t 56 (.ep [.v (.string x39.Key), .v (.string x39.Value), .v (.bool x39.Gone), .v (.int .i64 x39.Stamp.N), .v (.int .i64 x39.Stamp.Site), .sl 3 (List.map encApi_Dep x39.Past)])) rfl) rfl rfl, OpW.plain (op_load1E (c := .sl 3 (List.map encApi_Dep x39.Past)) Try.underlying29 rfl rfl (Ev.t 57 (.ep [.sl 3 (List.map encApi_Dep x39.Past)])) rfl) rfl rfl, OpW.plain (op_move (Ev.t 7 (bI .i64 v33)) rfl) rfl rfl, OpW.plain (op_index (cs := [.v (.string x40.Key), .v (.int .i64 x40.Stamp.N), .v (.int .i64 x40.Stamp.Site)]) Try.underlying29 ti26 (idx_ok hx40).1 (idx_get hx40 encApi_Dep) (Ev.t 58 (.g (.d (.sl 3 (List.map encApi_Dep x39.Past))))) (Ev.t 59 (bI .i64 v33)) rfl) rfl rfl, OpW.plain (op_fieldE (cs' := [.v (.int .i64 x40.Stamp.N), .v (.int .i64 x40.Stamp.Site)]) Try.underlying26 rfl ti24 (by decide) rfl (Ev.t 60 (.ep [.v (.string x40.Key), .v (.int .i64 x40.Stamp.N), .v (.int .i64 x40.Stamp.Site)])) rfl) rfl rfl, OpW.plain (op_loadAE (ds := [.v (.int .i64 x40.Stamp.N), .v (.int .i64 x40.Stamp.Site)]) Try.underlying24 rfl ti24 rfl (Ev.t 61 (.ep [.v (.int .i64 x40.Stamp.N), .v (.int .i64 x40.Stamp.Site)])) rfl) rfl rfl, OpW.plain (op_move (Ev.t 0 (.g (.d (.sl 6 (List.map encApi_Version l_0))))) rfl) rfl rfl, OpW.plain (op_move (Ev.t 3 (bI .i64 v3)) rfl) rfl rfl, OpW.plain (op_index (cs := [.v (.string x41.Key), .v (.string x41.Value), .v (.bool x41.Gone), .v (.int .i64 x41.Stamp.N), .v (.int .i64 x41.Stamp.Site), .sl 3 (List.map encApi_Dep x41.Past)]) Try.underlying31 ti34 (idx_ok hx41).1 (idx_get hx41 encApi_Version) (Ev.t 63 (.g (.d (.sl 6 (List.map encApi_Version l_0))))) (Ev.t 64 (bI .i64 v3)) rfl) rfl rfl, OpW.plain (op_fieldE (cs' := [.v (.int .i64 x41.Stamp.N), .v (.int .i64 x41.Stamp.Site), .sl 3 (List.map encApi_Dep x41.Past)]) Try.underlying34 rfl ti24 (by decide) rfl (Ev.t 65 (.ep [.v (.string x41.Key), .v (.string x41.Value), .v (.bool x41.Gone), .v (.int .i64 x41.Stamp.N), .v (.int .i64 x41.Stamp.Site), .sl 3 (List.map encApi_Dep x41.Past)])) rfl) rfl rfl, OpW.plain (op_loadAE (ds := [.v (.int .i64 x41.Stamp.N), .v (.int .i64 x41.Stamp.Site)]) Try.underlying24 rfl ti24 rfl (Ev.t 66 (.ep [.v (.int .i64 x41.Stamp.N), .v (.int .i64 x41.Stamp.Site), .sl 3 (List.map encApi_Dep x41.Past)])) rfl) rfl rfl, OpW.plain (op_callQ (sv := .one (bB r42)) cf25 (ct_ref03_Less x40.Stamp x41.Stamp r42 hr42) rfl rfl (EvQL.cons (EvQ.g (Ev.t 62 (.g (.agg [.v (.int .i64 x40.Stamp.N), .v (.int .i64 x40.Stamp.Site)])))) (EvQL.cons (EvQ.g (Ev.t 67 (.g (.agg [.v (.int .i64 x41.Stamp.N), .v (.int .i64 x41.Stamp.Site)])))) EvQL.nil)) rfl) rfl rfl, OpW.plain (op_not (Ev.t 68 (bB r42)) rfl) rfl rfl, trivial⟩ ⟨rfl, rfl, rfl, rfl, trivial⟩ trivial rfl ?_
          refine ifS hF (fun hc43 hF => ?_) (fun hc43 hF => ?_)
          · refine G.cond rfl (fun _ => ?_) (fun hx => by rw [hc43] at hx; cases hx)
            refine G.seq ?_
            refine G.region ?_
            refine G.op1 (op_assign (Ev.c _ rfl) rfl) rfl trivial trivial ?_
            refine G.endOps ?_
            cases hF
            exact G.ret1 Try.results21 (RVar.tmp 2 _) ⟨rfl, trivial⟩ trivial
          · refine G.cond rfl (fun hx => by rw [hc43] at hx; cases hx) (fun _ => ?_)
            refine G.skip ?_
            refine G.endBlock ?_
            refine G.region ?_
            refine G.op1 (op_move (Ev.t 7 (bI .i64 v33)) rfl) rfl ⟨rfl, trivial⟩ trivial ?_
            refine G.op1 (op_add (Ev.t 52 (bI .i64 v33)) (Ev.c _ rfl) rfl) rfl ⟨rfl, trivial⟩ trivial ?_
            refine G.op1 (op_assign (Ev.t 53 (bI .i64 (IntKind.wrap .i64 (v33 + 1)))) rfl) rfl ⟨rfl, trivial⟩ trivial ?_
            refine G.endOps ?_
            exact G.arr (J34 (IntKind.wrap .i64 (v33 + 1)) hF) ⟨rfl, rfl, rfl, trivial⟩ trivial rfl
        · refine G.cond rfl (fun hx => by rw [hc38] at hx; cases hx) (fun _ => ?_)
          refine G.exit ?_
          refine GX.c ?_
          refine GX.q ?_
          refine GX.bYes ?_
          exact G.arr (J32 () hF) ⟨rfl, rfl, trivial⟩ trivial rfl
    refine G.region ?_
    refine G.op1 (op_move (Ev.t 4 (bB r11)) rfl) rfl ⟨rfl, trivial⟩ trivial ?_
    refine G.op1 (op_not (Ev.t 34 (bB r11)) rfl) rfl ⟨rfl, trivial⟩ trivial ?_
    refine G.op1 (op_move (Ev.t 35 (bB (!r11))) rfl) rfl ⟨rfl, trivial⟩ trivial ?_
    refine ifS hF (fun hc45 hF => ?_) (fun hc45 hF => ?_)
    · refine G.known (t := 36) hc45 rfl ?_
      refine G.opN1 rfl rfl rfl rfl rfl ?_
      refine G.opN1 rfl rfl rfl rfl rfl ?_
      refine G.op1 (op_pickT (Ev.t 36 (bB true)) (Ev.c _ rfl) rfl) rfl ⟨rfl, trivial⟩ trivial ?_
      refine G.op1 (op_move (Ev.t 39 (bB true)) rfl) rfl ⟨rfl, trivial⟩ trivial ?_
      refine G.opN1 rfl rfl rfl rfl rfl ?_
      refine G.opN1 rfl rfl rfl rfl rfl ?_
      refine G.op1 (op_pickT (Ev.t 40 (bB true)) (Ev.c _ rfl) rfl) rfl ⟨rfl, trivial⟩ trivial ?_
      refine G.endOps ?_
      exact G.arr (J44 true hF) ⟨rfl, rfl, rfl, trivial⟩ trivial rfl
    · refine G.known (t := 36) hc45 rfl ?_
      refine G.opG1 (op_move (Ev.t 5 (bB r13)) rfl) rfl rfl rfl ⟨rfl, trivial⟩ trivial ?_
      refine G.opG1 (op_not (Ev.t 37 (bB r13)) rfl) rfl rfl rfl ⟨rfl, trivial⟩ trivial ?_
      refine G.op1 (op_pickF (Ev.t 36 (bB false)) (Ev.t 38 (bB (!r13))) rfl) rfl ⟨rfl, rfl, trivial⟩ trivial ?_
      refine G.op1 (op_move (Ev.t 39 (bB (!r13))) rfl) rfl ⟨rfl, trivial⟩ trivial ?_
      refine ifS hF (fun hc46 hF => ?_) (fun hc46 hF => ?_)
      · refine G.known (t := 40) hc46 rfl ?_
        refine G.opN1 rfl rfl rfl rfl rfl ?_
        refine G.opN1 rfl rfl rfl rfl rfl ?_
        refine G.op1 (op_pickT (Ev.t 40 (bB true)) (Ev.c _ rfl) rfl) rfl ⟨rfl, trivial⟩ trivial ?_
        refine G.endOps ?_
        exact G.arr (J44 true hF) ⟨rfl, rfl, rfl, trivial⟩ trivial rfl
      · refine G.known (t := 40) hc46 rfl ?_
        refine G.opG1 (op_move (Ev.t 6 (bB r15)) rfl) rfl rfl rfl ⟨rfl, trivial⟩ trivial ?_
        refine G.opG1 (op_not (Ev.t 41 (bB r15)) rfl) rfl rfl rfl ⟨rfl, trivial⟩ trivial ?_
        refine G.op1 (op_pickF (Ev.t 40 (bB false)) (Ev.t 42 (bB (!r15))) rfl) rfl ⟨rfl, rfl, trivial⟩ trivial ?_
        refine G.endOps ?_
        exact G.arr (J44 (!r15) hF) ⟨rfl, rfl, rfl, trivial⟩ trivial rfl
  · refine G.cond rfl (fun hx => by rw [hc7] at hx; cases hx) (fun _ => ?_)
    refine G.exit ?_
    refine GX.c ?_
    refine GX.q ?_
    refine GX.bYes ?_
    exact G.arr (J2 () hF) trivial trivial rfl


set_option maxRecDepth 20000 in
set_option maxHeartbeats 2000000 in
theorem ct_law05_NearestTells (l_0 : (List Law05_Write)) (q_1 : Law05_Change) (m_2 : (List Api_Dep)) (r : Bool) (hF : law05_NearestTells l_0 q_1 m_2 = some r) : Ct Try.prog 3 [.g (.d (.sl 3 (List.map encLaw05_Write l_0))), .g (.agg (encLaw05_Change q_1)), .g (.d (.sl 3 (List.map encApi_Dep m_2)))] (.one (.d (.v (.bool r)))) := by
  unfold law05_NearestTells at hF
  refine Ct.intro Try.func3 rfl Try.ntmps3 rfl rfl fun M w => ?_
  refine G.seq ?_
  refine G.region ?_
  refine G.op2 (op_boxA (k := 1004) (Ev.t 1 (.g (.agg [.v (.int .i64 q_1.What), .v (.int .i64 q_1.At), .v (.bool q_1.All), .v (.string q_1.Dep.Key), .v (.int .i64 q_1.Dep.Stamp.N), .v (.int .i64 q_1.Dep.Stamp.Site)]))) rfl) rfl ⟨rfl, trivial⟩ ⟨rfl, trivial⟩ ?_
  refine G.op1 (op_assign (Ev.c _ rfl) rfl) rfl trivial trivial ?_
  refine G.endOps ?_
  refine G.seq ?_
  refine G.region ?_
  obtain ⟨r1, hr1, hF⟩ := bindS hF
  refine G.op1 (op_callQ (sv := .one (bB r1)) cf9 (ct_law05_awake r1 hr1) rfl rfl EvQL.nil rfl) rfl trivial trivial ?_
  refine G.op1 (op_assign (Ev.t 19 (bB r1)) rfl) rfl ⟨rfl, trivial⟩ trivial ?_
  refine G.endOps ?_
  refine G.seq ?_
  refine G.region ?_
  refine G.op1 (op_move (Ev.t 0 (.g (.d (.sl 3 (List.map encLaw05_Write l_0))))) rfl) rfl ⟨rfl, trivial⟩ trivial ?_
  obtain ⟨r2, hr2, hF⟩ := bindS hF
  refine G.op2 (op_callNew (k := 2021) cf10 (ct_law05_made l_0 r2 hr2) (EvL.cons (Ev.t 20 (.g (.d (.sl 3 (List.map encLaw05_Write l_0))))) EvL.nil) rfl) rfl ⟨rfl, trivial⟩ ⟨rfl, trivial⟩ ?_
  refine G.op1 (op_assign (Ev.t 21 (.own 2021 (List.map encApi_Version r2))) rfl) rfl ⟨rfl, trivial⟩ trivial ?_
  refine G.endOps ?_
  refine G.seq ?_
  refine G.seq ?_
  refine G.joinC (T := Bool) (fun y3 => ⟨[(2, .one (.g (.d (.sl 3 (List.map encApi_Dep m_2))))), (4, .one (.ptr 1004 0)), (7, .one (bB r1)), (8, .one (.own 2021 (List.map encApi_Version r2))), (30, .one (bB y3))], [(1004, some (.blk 28 [bI .i64 q_1.What, bI .i64 q_1.At, bB q_1.All, bS q_1.Dep.Key, bI .i64 q_1.Dep.Stamp.N, bI .i64 q_1.Dep.Stamp.Site])), (2021, some (.row 34 6 (List.map encApi_Version r2) true))]⟩) (fun y3 => law05_NearestTells_k1 q_1 m_2 r1 r2 y3 = some r) (fun y3 hF => ?_) (fun J53 => ?_)
  · unfold law05_NearestTells_k1 at hF
    refine G.joinC (T := (List Api_Version)) (fun y4 => ⟨[(2, .one (.g (.d (.sl 3 (List.map encApi_Dep m_2))))), (4, .one (.ptr 1004 0)), (7, .one (bB r1)), (8, .one (.own 2021 (List.map encApi_Version y4)))], [(1004, some (.blk 28 [bI .i64 q_1.What, bI .i64 q_1.At, bB q_1.All, bS q_1.Dep.Key, bI .i64 q_1.Dep.Stamp.N, bI .i64 q_1.Dep.Stamp.Site])), (2021, some (.row 34 6 (List.map encApi_Version y4) true))]⟩) (fun y4 => law05_NearestTells_k2 q_1 m_2 r1 y4 = some r) (fun y4 hF => ?_) (fun J42 => ?_)
    · unfold law05_NearestTells_k2 at hF
      refine G.seq ?_
      refine G.region ?_
      refine G.op1 (op_move (Ev.t 2 (.g (.d (.sl 3 (List.map encApi_Dep m_2))))) rfl) rfl ⟨rfl, trivial⟩ trivial ?_
      obtain ⟨r5, hr5, hF⟩ := bindS hF
      refine G.op1 (op_call (sv := .one (.g (.d (.sl 3 (List.map encApi_Dep r5))))) cf11 (ct_law05_few m_2 r5 hr5) rfl (EvL.cons (Ev.t 70 (.g (.d (.sl 3 (List.map encApi_Dep m_2))))) EvL.nil) rfl) rfl ⟨rfl, trivial⟩ trivial ?_
      refine G.op1 (op_assign (Ev.t 71 (.g (.d (.sl 3 (List.map encApi_Dep r5))))) rfl) rfl ⟨rfl, trivial⟩ trivial ?_
      refine G.endOps ?_
      refine G.seq ?_
      refine G.seq ?_
      refine G.region ?_
      refine G.op1 (op_fieldP (off' := 2) Try.underlying28 rfl ti4 (by decide) rfl (Ev.t 4 (.ptr 1004 0)) rfl) rfl ⟨rfl, trivial⟩ trivial ?_
      refine G.op1 (op_load1P (c := bB q_1.All) Try.underlying4 rfl rfl (Ev.t 72 (.ptr 1004 2)) rfl) rfl ⟨rfl, trivial⟩ ⟨rfl, trivial⟩ ?_
      refine G.endOps ?_
      refine G.joinC (T := (List Api_Dep)) (fun y6 => ⟨[(4, .one (.ptr 1004 0)), (7, .one (bB r1)), (8, .one (.own 2021 (List.map encApi_Version y4))), (11, .one (.g (.d (.sl 3 (List.map encApi_Dep y6)))))], [(1004, some (.blk 28 [bI .i64 q_1.What, bI .i64 q_1.At, bB q_1.All, bS q_1.Dep.Key, bI .i64 q_1.Dep.Stamp.N, bI .i64 q_1.Dep.Stamp.Site])), (2021, some (.row 34 6 (List.map encApi_Version y4) false))]⟩) (fun y6 => law05_NearestTells_k3 q_1 r1 y4 y6 = some r) (fun y6 hF => ?_) (fun J39 => ?_)
      · unfold law05_NearestTells_k3 at hF
        refine G.seq ?_
        refine G.region ?_
        refine G.op1 (op_move (Ev.t 11 (.g (.d (.sl 3 (List.map encApi_Dep y6))))) rfl) rfl ⟨rfl, trivial⟩ trivial ?_
        refine G.op1 (op_move (Ev.t 8 (.own 2021 (List.map encApi_Version y4))) rfl) rfl ⟨rfl, trivial⟩ trivial ?_
        refine G.view (t := 77) rfl rfl ?_
        obtain ⟨r7, hr7, hF⟩ := bindS hF
        refine G.op1 (op_call (sv := .one (.g (.d (.sl 3 (List.map encApi_Dep r7))))) cf14 (ct_nearest_Reduce y6 y4 r7 hr7) rfl (EvL.cons (Ev.t 76 (.g (.d (.sl 3 (List.map encApi_Dep y6))))) (EvL.cons (Ev.t 77 (.g (.d (.sl 6 (List.map encApi_Version y4))))) EvL.nil)) rfl) rfl ⟨rfl, rfl, trivial⟩ trivial ?_
        refine G.op1 (op_move (Ev.t 11 (.g (.d (.sl 3 (List.map encApi_Dep y6))))) rfl) rfl ⟨rfl, trivial⟩ trivial ?_
        refine G.op1 (op_move (Ev.t 8 (.own 2021 (List.map encApi_Version y4))) rfl) rfl ⟨rfl, trivial⟩ trivial ?_
        refine G.view (t := 80) rfl rfl ?_
        obtain ⟨r8, hr8, hF⟩ := bindS hF
        refine G.op1 (op_call (sv := .one (.g (.d (.sl 3 (List.map encApi_Dep r8))))) cf15 (ct_ref05_Reduce y6 y4 r8 hr8) rfl (EvL.cons (Ev.t 79 (.g (.d (.sl 3 (List.map encApi_Dep y6))))) (EvL.cons (Ev.t 80 (.g (.d (.sl 6 (List.map encApi_Version y4))))) EvL.nil)) rfl) rfl ⟨rfl, rfl, trivial⟩ trivial ?_
        obtain ⟨r9, hr9, hF⟩ := bindS hF
        refine G.op1 (op_callQ (sv := .one (bB r9)) cf13 (ct_ref04_Same r7 r8 r9 hr9) rfl rfl (EvQL.cons (EvQ.g (Ev.t 78 (.g (.d (.sl 3 (List.map encApi_Dep r7)))))) (EvQL.cons (EvQ.g (Ev.t 81 (.g (.d (.sl 3 (List.map encApi_Dep r8)))))) EvQL.nil)) rfl) rfl ⟨rfl, rfl, trivial⟩ trivial ?_
        refine G.op1 (op_assign (Ev.t 82 (bB r9)) rfl) rfl ⟨rfl, trivial⟩ trivial ?_
        refine G.endOps ?_
        refine G.seq ?_
        refine G.region ?_
        refine G.op1 (op_move (Ev.t 11 (.g (.d (.sl 3 (List.map encApi_Dep y6))))) rfl) rfl ⟨rfl, trivial⟩ trivial ?_
        refine G.op1 (op_move (Ev.t 8 (.own 2021 (List.map encApi_Version y4))) rfl) rfl ⟨rfl, trivial⟩ trivial ?_
        refine G.view (t := 84) rfl rfl ?_
        obtain ⟨r10, hr10, hF⟩ := bindS hF
        refine G.op1 (op_call (sv := .one (.g (.d (.sl 3 (List.map encApi_Dep r10))))) cf16 (ct_nearest_Expand y6 y4 r10 hr10) rfl (EvL.cons (Ev.t 83 (.g (.d (.sl 3 (List.map encApi_Dep y6))))) (EvL.cons (Ev.t 84 (.g (.d (.sl 6 (List.map encApi_Version y4))))) EvL.nil)) rfl) rfl ⟨rfl, rfl, trivial⟩ trivial ?_
        refine G.op1 (op_move (Ev.t 11 (.g (.d (.sl 3 (List.map encApi_Dep y6))))) rfl) rfl ⟨rfl, trivial⟩ trivial ?_
        refine G.op1 (op_move (Ev.t 8 (.own 2021 (List.map encApi_Version y4))) rfl) rfl ⟨rfl, trivial⟩ trivial ?_
        refine G.view (t := 87) rfl rfl ?_
        obtain ⟨r11, hr11, hF⟩ := bindS hF
        refine G.op1 (op_call (sv := .one (.g (.d (.sl 3 (List.map encApi_Dep r11))))) cf17 (ct_ref05_Expand y6 y4 r11 hr11) rfl (EvL.cons (Ev.t 86 (.g (.d (.sl 3 (List.map encApi_Dep y6))))) (EvL.cons (Ev.t 87 (.g (.d (.sl 6 (List.map encApi_Version y4))))) EvL.nil)) rfl) rfl ⟨rfl, rfl, trivial⟩ trivial ?_
        obtain ⟨r12, hr12, hF⟩ := bindS hF
        refine G.op1 (op_callQ (sv := .one (bB r12)) cf13 (ct_ref04_Same r10 r11 r12 hr12) rfl rfl (EvQL.cons (EvQ.g (Ev.t 85 (.g (.d (.sl 3 (List.map encApi_Dep r10)))))) (EvQL.cons (EvQ.g (Ev.t 88 (.g (.d (.sl 3 (List.map encApi_Dep r11)))))) EvQL.nil)) rfl) rfl ⟨rfl, rfl, trivial⟩ trivial ?_
        refine G.op1 (op_assign (Ev.t 89 (bB r12)) rfl) rfl ⟨rfl, trivial⟩ trivial ?_
        refine G.endOps ?_
        refine G.seq ?_
        refine G.region ?_
        refine G.op1 (op_move (Ev.t 8 (.own 2021 (List.map encApi_Version y4))) rfl) rfl ⟨rfl, trivial⟩ trivial ?_
        refine G.op1 (op_fieldP (off' := 3) Try.underlying28 rfl ti26 (by decide) rfl (Ev.t 4 (.ptr 1004 0)) rfl) rfl ⟨rfl, trivial⟩ trivial ?_
        refine G.op1 (op_loadAP (ds := [.v (.string q_1.Dep.Key), .v (.int .i64 q_1.Dep.Stamp.N), .v (.int .i64 q_1.Dep.Stamp.Site)]) Try.underlying26 rfl ti26 rfl (Ev.t 92 (.ptr 1004 3)) rfl) rfl ⟨rfl, trivial⟩ ⟨rfl, trivial⟩ ?_
        refine G.view (t := 91) rfl rfl ?_
        obtain ⟨r13, hr13, hF⟩ := bindS hF
        refine G.op1 (op_call (sv := .tup [.g (.agg [.v (.string r13.1.Key), .v (.string r13.1.Value), .v (.bool r13.1.Gone), .v (.int .i64 r13.1.Stamp.N), .v (.int .i64 r13.1.Stamp.Site), .sl 3 (List.map encApi_Dep r13.1.Past)]), bB r13.2]) cf18 (ct_nearest_Find y4 q_1.Dep r13 hr13) rfl (EvL.cons (Ev.t 91 (.g (.d (.sl 6 (List.map encApi_Version y4))))) (EvL.cons (Ev.t 93 (.g (.agg [.v (.string q_1.Dep.Key), .v (.int .i64 q_1.Dep.Stamp.N), .v (.int .i64 q_1.Dep.Stamp.Site)]))) EvL.nil)) rfl) rfl ⟨rfl, rfl, trivial⟩ trivial ?_
        refine G.op1 (op_moveS (t := 94) (sv := .tup [.g (.agg [.v (.string r13.1.Key), .v (.string r13.1.Value), .v (.bool r13.1.Gone), .v (.int .i64 r13.1.Stamp.N), .v (.int .i64 r13.1.Stamp.Site), .sl 3 (List.map encApi_Dep r13.1.Past)]), bB r13.2]) rfl) rfl ⟨rfl, trivial⟩ trivial ?_
        refine G.op1 (op_extract (l := [.g (.agg [.v (.string r13.1.Key), .v (.string r13.1.Value), .v (.bool r13.1.Gone), .v (.int .i64 r13.1.Stamp.N), .v (.int .i64 r13.1.Stamp.Site), .sl 3 (List.map encApi_Dep r13.1.Past)]), bB r13.2]) (c := .g (.agg [.v (.string r13.1.Key), .v (.string r13.1.Value), .v (.bool r13.1.Gone), .v (.int .i64 r13.1.Stamp.N), .v (.int .i64 r13.1.Stamp.Site), .sl 3 (List.map encApi_Dep r13.1.Past)])) rfl rfl) rfl ⟨rfl, trivial⟩ trivial ?_
        refine G.op1 (op_extract (l := [.g (.agg [.v (.string r13.1.Key), .v (.string r13.1.Value), .v (.bool r13.1.Gone), .v (.int .i64 r13.1.Stamp.N), .v (.int .i64 r13.1.Stamp.Site), .sl 3 (List.map encApi_Dep r13.1.Past)]), bB r13.2]) (c := bB r13.2) rfl rfl) rfl ⟨rfl, trivial⟩ trivial ?_
        refine G.op2 (op_alloc (k := 1014) (cs := [bS ByteArray.empty, bS ByteArray.empty, bB false, bI .i64 0, bI .i64 0, .g (.d (.sl 3 (List.map encApi_Dep ([] : (List Api_Dep)))))]) ti34 ⟨.v _ rfl, .v _ rfl, .v _ rfl, .v _ rfl, .v _ rfl, .n 3, trivial⟩ rfl) rfl trivial ⟨rfl, trivial⟩ ?_
        refine G.op3 (op_storeA (cs' := [bS r13.1.Key, bS r13.1.Value, bB r13.1.Gone, bI .i64 r13.1.Stamp.N, bI .i64 r13.1.Stamp.Site, .g (.d (.sl 3 (List.map encApi_Dep r13.1.Past)))]) ti34 rfl rfl (Ev.t 14 (.ptr 1014 0)) (Ev.t 95 (.g (.agg [.v (.string r13.1.Key), .v (.string r13.1.Value), .v (.bool r13.1.Gone), .v (.int .i64 r13.1.Stamp.N), .v (.int .i64 r13.1.Stamp.Site), .sl 3 (List.map encApi_Dep r13.1.Past)])))) rfl ⟨rfl, rfl, trivial⟩ ⟨rfl, trivial⟩ ?_
        refine G.op1 (op_assign (Ev.t 96 (bB r13.2)) rfl) rfl ⟨rfl, trivial⟩ trivial ?_
        refine G.endOps ?_
        refine G.seq ?_
        refine G.region ?_
        refine G.op1 (op_move (Ev.t 8 (.own 2021 (List.map encApi_Version y4))) rfl) rfl ⟨rfl, trivial⟩ trivial ?_
        refine G.op1 (op_fieldP (off' := 3) Try.underlying28 rfl ti26 (by decide) rfl (Ev.t 4 (.ptr 1004 0)) rfl) rfl ⟨rfl, trivial⟩ trivial ?_
        refine G.op1 (op_loadAP (ds := [.v (.string q_1.Dep.Key), .v (.int .i64 q_1.Dep.Stamp.N), .v (.int .i64 q_1.Dep.Stamp.Site)]) Try.underlying26 rfl ti26 rfl (Ev.t 99 (.ptr 1004 3)) rfl) rfl ⟨rfl, trivial⟩ ⟨rfl, trivial⟩ ?_
        refine G.view (t := 98) rfl rfl ?_
        obtain ⟨r14, hr14, hF⟩ := bindS hF
        refine G.op1 (op_call (sv := .tup [.g (.agg [.v (.string r14.1.Key), .v (.string r14.1.Value), .v (.bool r14.1.Gone), .v (.int .i64 r14.1.Stamp.N), .v (.int .i64 r14.1.Stamp.Site), .sl 3 (List.map encApi_Dep r14.1.Past)]), bB r14.2]) cf19 (ct_ref05_Find y4 q_1.Dep r14 hr14) rfl (EvL.cons (Ev.t 98 (.g (.d (.sl 6 (List.map encApi_Version y4))))) (EvL.cons (Ev.t 100 (.g (.agg [.v (.string q_1.Dep.Key), .v (.int .i64 q_1.Dep.Stamp.N), .v (.int .i64 q_1.Dep.Stamp.Site)]))) EvL.nil)) rfl) rfl ⟨rfl, rfl, trivial⟩ trivial ?_
        refine G.op1 (op_moveS (t := 101) (sv := .tup [.g (.agg [.v (.string r14.1.Key), .v (.string r14.1.Value), .v (.bool r14.1.Gone), .v (.int .i64 r14.1.Stamp.N), .v (.int .i64 r14.1.Stamp.Site), .sl 3 (List.map encApi_Dep r14.1.Past)]), bB r14.2]) rfl) rfl ⟨rfl, trivial⟩ trivial ?_
        refine G.op1 (op_extract (l := [.g (.agg [.v (.string r14.1.Key), .v (.string r14.1.Value), .v (.bool r14.1.Gone), .v (.int .i64 r14.1.Stamp.N), .v (.int .i64 r14.1.Stamp.Site), .sl 3 (List.map encApi_Dep r14.1.Past)]), bB r14.2]) (c := .g (.agg [.v (.string r14.1.Key), .v (.string r14.1.Value), .v (.bool r14.1.Gone), .v (.int .i64 r14.1.Stamp.N), .v (.int .i64 r14.1.Stamp.Site), .sl 3 (List.map encApi_Dep r14.1.Past)])) rfl rfl) rfl ⟨rfl, trivial⟩ trivial ?_
        refine G.op1 (op_extract (l := [.g (.agg [.v (.string r14.1.Key), .v (.string r14.1.Value), .v (.bool r14.1.Gone), .v (.int .i64 r14.1.Stamp.N), .v (.int .i64 r14.1.Stamp.Site), .sl 3 (List.map encApi_Dep r14.1.Past)]), bB r14.2]) (c := bB r14.2) rfl rfl) rfl ⟨rfl, trivial⟩ trivial ?_
        refine G.op2 (op_alloc (k := 1016) (cs := [bS ByteArray.empty, bS ByteArray.empty, bB false, bI .i64 0, bI .i64 0, .g (.d (.sl 3 (List.map encApi_Dep ([] : (List Api_Dep)))))]) ti34 ⟨.v _ rfl, .v _ rfl, .v _ rfl, .v _ rfl, .v _ rfl, .n 3, trivial⟩ rfl) rfl trivial ⟨rfl, trivial⟩ ?_
        refine G.op3 (op_storeA (cs' := [bS r14.1.Key, bS r14.1.Value, bB r14.1.Gone, bI .i64 r14.1.Stamp.N, bI .i64 r14.1.Stamp.Site, .g (.d (.sl 3 (List.map encApi_Dep r14.1.Past)))]) ti34 rfl rfl (Ev.t 16 (.ptr 1016 0)) (Ev.t 102 (.g (.agg [.v (.string r14.1.Key), .v (.string r14.1.Value), .v (.bool r14.1.Gone), .v (.int .i64 r14.1.Stamp.N), .v (.int .i64 r14.1.Stamp.Site), .sl 3 (List.map encApi_Dep r14.1.Past)])))) rfl ⟨rfl, rfl, trivial⟩ ⟨rfl, trivial⟩ ?_
        refine G.op1 (op_assign (Ev.t 103 (bB r14.2)) rfl) rfl ⟨rfl, trivial⟩ trivial ?_
        refine G.endOps ?_
        refine G.seq ?_
        refine G.region ?_
        refine G.op1 (op_fieldP (off' := 5) Try.underlying34 rfl ti29 (by decide) rfl (Ev.t 14 (.ptr 1014 0)) rfl) rfl ⟨rfl, trivial⟩ trivial ?_
        refine G.op1 (op_load1P (c := .g (.d (.sl 3 (List.map encApi_Dep r13.1.Past)))) Try.underlying29 rfl rfl (Ev.t 104 (.ptr 1014 5)) rfl) rfl ⟨rfl, trivial⟩ ⟨rfl, trivial⟩ ?_
        refine G.op1 (op_fieldP (off' := 5) Try.underlying34 rfl ti29 (by decide) rfl (Ev.t 16 (.ptr 1016 0)) rfl) rfl ⟨rfl, trivial⟩ trivial ?_
        refine G.op1 (op_load1P (c := .g (.d (.sl 3 (List.map encApi_Dep r14.1.Past)))) Try.underlying29 rfl rfl (Ev.t 106 (.ptr 1016 5)) rfl) rfl ⟨rfl, trivial⟩ ⟨rfl, trivial⟩ ?_
        obtain ⟨r15, hr15, hF⟩ := bindS hF
        refine G.op1 (op_callQ (sv := .one (bB r15)) cf13 (ct_ref04_Same r13.1.Past r14.1.Past r15 hr15) rfl rfl (EvQL.cons (EvQ.g (Ev.t 105 (.g (.d (.sl 3 (List.map encApi_Dep r13.1.Past)))))) (EvQL.cons (EvQ.g (Ev.t 107 (.g (.d (.sl 3 (List.map encApi_Dep r14.1.Past)))))) EvQL.nil)) rfl) rfl ⟨rfl, rfl, trivial⟩ trivial ?_
        refine G.op1 (op_assign (Ev.t 108 (bB r15)) rfl) rfl ⟨rfl, trivial⟩ trivial ?_
        refine G.endOps ?_
        refine G.seq ?_
        refine G.region ?_
        refine G.op1 (op_move (Ev.t 7 (bB r1)) rfl) rfl ⟨rfl, trivial⟩ trivial ?_
        refine G.op1 (op_move (Ev.t 109 (bB r1)) rfl) rfl ⟨rfl, trivial⟩ trivial ?_
        refine G.joinL (T := Bool) 2 (fun y16 => ⟨[(8, .one (.own 2021 (List.map encApi_Version y4))), (11, .one (.g (.d (.sl 3 (List.map encApi_Dep y6))))), (13, .one (bB r12)), (14, .one (.ptr 1014 0)), (15, .one (bB r13.2)), (16, .one (.ptr 1016 0)), (17, .one (bB r14.2)), (18, .one (bB r15)), (112, .one (bB y16))], [(1014, some (.blk 34 [bS r13.1.Key, bS r13.1.Value, bB r13.1.Gone, bI .i64 r13.1.Stamp.N, bI .i64 r13.1.Stamp.Site, .g (.d (.sl 3 (List.map encApi_Dep r13.1.Past)))])), (1016, some (.blk 34 [bS r14.1.Key, bS r14.1.Value, bB r14.1.Gone, bI .i64 r14.1.Stamp.N, bI .i64 r14.1.Stamp.Site, .g (.d (.sl 3 (List.map encApi_Dep r14.1.Past)))])), (2021, some (.row 34 6 (List.map encApi_Version y4) false))]⟩) (fun y16 => law05_NearestTells_k4 y4 y6 r12 r13 r14 r15 y16 = some r) (fun y16 hF => ?_) (fun J37 => ?_)
        · unfold law05_NearestTells_k4 at hF
          refine G.op1 (op_move (Ev.t 112 (bB y16)) rfl) rfl ⟨rfl, trivial⟩ trivial ?_
          refine G.joinL (T := Bool) 2 (fun y17 => ⟨[(8, .one (.own 2021 (List.map encApi_Version y4))), (11, .one (.g (.d (.sl 3 (List.map encApi_Dep y6))))), (14, .one (.ptr 1014 0)), (15, .one (bB r13.2)), (16, .one (.ptr 1016 0)), (17, .one (bB r14.2)), (18, .one (bB r15)), (115, .one (bB y17))], [(1014, some (.blk 34 [bS r13.1.Key, bS r13.1.Value, bB r13.1.Gone, bI .i64 r13.1.Stamp.N, bI .i64 r13.1.Stamp.Site, .g (.d (.sl 3 (List.map encApi_Dep r13.1.Past)))])), (1016, some (.blk 34 [bS r14.1.Key, bS r14.1.Value, bB r14.1.Gone, bI .i64 r14.1.Stamp.N, bI .i64 r14.1.Stamp.Site, .g (.d (.sl 3 (List.map encApi_Dep r14.1.Past)))])), (2021, some (.row 34 6 (List.map encApi_Version y4) false))]⟩) (fun y17 => law05_NearestTells_k5 y4 y6 r13 r14 r15 y17 = some r) (fun y17 hF => ?_) (fun J35 => ?_)
          · unfold law05_NearestTells_k5 at hF
            refine G.op1 (op_move (Ev.t 115 (bB y17)) rfl) rfl ⟨rfl, trivial⟩ trivial ?_
            refine G.joinL (T := Bool) 2 (fun y18 => ⟨[(8, .one (.own 2021 (List.map encApi_Version y4))), (11, .one (.g (.d (.sl 3 (List.map encApi_Dep y6))))), (14, .one (.ptr 1014 0)), (15, .one (bB r13.2)), (16, .one (.ptr 1016 0)), (17, .one (bB r14.2)), (118, .one (bB y18))], [(1014, some (.blk 34 [bS r13.1.Key, bS r13.1.Value, bB r13.1.Gone, bI .i64 r13.1.Stamp.N, bI .i64 r13.1.Stamp.Site, .g (.d (.sl 3 (List.map encApi_Dep r13.1.Past)))])), (1016, some (.blk 34 [bS r14.1.Key, bS r14.1.Value, bB r14.1.Gone, bI .i64 r14.1.Stamp.N, bI .i64 r14.1.Stamp.Site, .g (.d (.sl 3 (List.map encApi_Dep r14.1.Past)))])), (2021, some (.row 34 6 (List.map encApi_Version y4) false))]⟩) (fun y18 => law05_NearestTells_k6 y4 y6 r13 r14 y18 = some r) (fun y18 hF => ?_) (fun J33 => ?_)
            · unfold law05_NearestTells_k6 at hF
              refine G.op1 (op_move (Ev.t 118 (bB y18)) rfl) rfl ⟨rfl, trivial⟩ trivial ?_
              refine G.joinL (T := Bool) 4 (fun y19 => ⟨[(8, .one (.own 2021 (List.map encApi_Version y4))), (11, .one (.g (.d (.sl 3 (List.map encApi_Dep y6))))), (14, .one (.ptr 1014 0)), (16, .one (.ptr 1016 0)), (123, .one (bB y19))], [(1014, some (.blk 34 [bS r13.1.Key, bS r13.1.Value, bB r13.1.Gone, bI .i64 r13.1.Stamp.N, bI .i64 r13.1.Stamp.Site, .g (.d (.sl 3 (List.map encApi_Dep r13.1.Past)))])), (1016, some (.blk 34 [bS r14.1.Key, bS r14.1.Value, bB r14.1.Gone, bI .i64 r14.1.Stamp.N, bI .i64 r14.1.Stamp.Site, .g (.d (.sl 3 (List.map encApi_Dep r14.1.Past)))])), (2021, some (.row 34 6 (List.map encApi_Version y4) false))]⟩) (fun y19 => law05_NearestTells_k7 y4 y6 r13 r14 y19 = some r) (fun y19 hF => ?_) (fun J31 => ?_)
              · unfold law05_NearestTells_k7 at hF
                refine G.op1 (op_move (Ev.t 123 (bB y19)) rfl) rfl ⟨rfl, trivial⟩ trivial ?_
                refine G.joinL (T := Bool) 6 (fun y20 => ⟨[(8, .one (.own 2021 (List.map encApi_Version y4))), (11, .one (.g (.d (.sl 3 (List.map encApi_Dep y6))))), (130, .one (bB y20))], [(2021, some (.row 34 6 (List.map encApi_Version y4) false))]⟩) (fun y20 => law05_NearestTells_k8 y4 y6 y20 = some r) (fun y20 hF => ?_) (fun J29 => ?_)
                · unfold law05_NearestTells_k8 at hF
                  refine G.op1 (op_move (Ev.t 130 (bB y20)) rfl) rfl ⟨rfl, trivial⟩ trivial ?_
                  refine G.joinL (T := Bool) 6 (fun y21 => ⟨[(8, .one (.own 2021 (List.map encApi_Version y4))), (11, .one (.g (.d (.sl 3 (List.map encApi_Dep y6))))), (137, .one (bB y21))], [(2021, some (.row 34 6 (List.map encApi_Version y4) false))]⟩) (fun y21 => law05_NearestTells_k9 y4 y6 y21 = some r) (fun y21 hF => ?_) (fun J25 => ?_)
                  · unfold law05_NearestTells_k9 at hF
                    refine G.op1 (op_move (Ev.t 137 (bB y21)) rfl) rfl ⟨rfl, trivial⟩ trivial ?_
                    refine ifS hF (fun hc22 hF => ?_) (fun hc22 hF => ?_)
                    · refine G.known (t := 138) hc22 rfl ?_
                      refine G.opG1 (op_move (Ev.t 11 (.g (.d (.sl 3 (List.map encApi_Dep y6))))) rfl) rfl rfl rfl ⟨rfl, trivial⟩ trivial ?_
                      refine G.opG1 (op_move (Ev.t 8 (.own 2021 (List.map encApi_Version y4))) rfl) rfl rfl rfl ⟨rfl, trivial⟩ trivial ?_
                      obtain ⟨r23, hr23, hF⟩ := bindS hF
                      refine G.opG1 (op_callQ (sv := .one (bB r23)) cf22 (ct_nearest_Closed y6 y4 r23 hr23) rfl rfl (EvQL.cons (EvQ.g (Ev.t 139 (.g (.d (.sl 3 (List.map encApi_Dep y6)))))) (EvQL.cons (EvQ.own (Ev.t 140 (.own 2021 (List.map encApi_Version y4)))) EvQL.nil)) rfl) rfl rfl rfl ⟨rfl, rfl, trivial⟩ ⟨rfl, trivial⟩ ?_
                      refine G.opG1 (op_move (Ev.t 11 (.g (.d (.sl 3 (List.map encApi_Dep y6))))) rfl) rfl rfl rfl ⟨rfl, trivial⟩ trivial ?_
                      refine G.opG1 (op_move (Ev.t 8 (.own 2021 (List.map encApi_Version y4))) rfl) rfl rfl rfl ⟨rfl, trivial⟩ trivial ?_
                      obtain ⟨r24, hr24, hF⟩ := bindS hF
                      refine G.opG1 (op_callQ (sv := .one (bB r24)) cf23 (ct_ref05_Closed y6 y4 r24 hr24) rfl rfl (EvQL.cons (EvQ.g (Ev.t 142 (.g (.d (.sl 3 (List.map encApi_Dep y6)))))) (EvQL.cons (EvQ.own (Ev.t 143 (.own 2021 (List.map encApi_Version y4)))) EvQL.nil)) rfl) rfl rfl rfl ⟨rfl, rfl, trivial⟩ ⟨rfl, trivial⟩ ?_
                      refine G.opG1 (op_eqB Try.underlying4 (Ev.t 141 (bB r23)) (Ev.t 144 (bB r24)) rfl) rfl rfl rfl ⟨rfl, rfl, trivial⟩ trivial ?_
                      refine G.op1 (op_pickT (Ev.t 138 (bB true)) (Ev.t 145 (bB (r23 == r24))) rfl) rfl ⟨rfl, rfl, trivial⟩ trivial ?_
                      refine G.op1 (op_assign (Ev.t 146 (bB (r23 == r24))) rfl) rfl ⟨rfl, trivial⟩ trivial ?_
                      refine G.endOps ?_
                      cases hF
                      exact G.ret1 Try.results3 (RVar.tmp 6 _) ⟨rfl, trivial⟩ trivial
                    · refine G.known (t := 138) hc22 rfl ?_
                      refine G.opN1 rfl rfl rfl rfl rfl ?_
                      refine G.opN1 rfl rfl rfl rfl rfl ?_
                      refine G.opN1 rfl rfl rfl rfl rfl ?_
                      refine G.opN1 rfl rfl rfl rfl rfl ?_
                      refine G.opN1 rfl rfl rfl rfl rfl ?_
                      refine G.opN1 rfl rfl rfl rfl rfl ?_
                      refine G.opN1 rfl rfl rfl rfl rfl ?_
                      refine G.op1 (op_pickF (Ev.t 138 (bB false)) (Ev.c _ rfl) rfl) rfl ⟨rfl, trivial⟩ trivial ?_
                      refine G.op1 (op_assign (Ev.t 146 (bB false)) rfl) rfl ⟨rfl, trivial⟩ trivial ?_
                      refine G.endOps ?_
                      cases hF
                      exact G.ret1 Try.results3 (RVar.tmp 6 _) ⟨rfl, trivial⟩ trivial
                  refine ifS hF (fun hc26 hF => ?_) (fun hc26 hF => ?_)
                  · refine G.known (t := 131) hc26 rfl ?_
                    refine G.opG1 (op_move (Ev.t 8 (.own 2021 (List.map encApi_Version y4))) rfl) rfl rfl rfl ⟨rfl, trivial⟩ trivial ?_
                    obtain ⟨r27, hr27, hF⟩ := bindS hF
                    refine G.opG1 (op_callQ (sv := .one (bB r27)) cf20 (ct_nearest_Sound y4 r27 hr27) rfl rfl (EvQL.cons (EvQ.own (Ev.t 132 (.own 2021 (List.map encApi_Version y4)))) EvQL.nil) rfl) rfl rfl rfl ⟨rfl, trivial⟩ ⟨rfl, trivial⟩ ?_
                    refine G.opG1 (op_move (Ev.t 8 (.own 2021 (List.map encApi_Version y4))) rfl) rfl rfl rfl ⟨rfl, trivial⟩ trivial ?_
                    obtain ⟨r28, hr28, hF⟩ := bindS hF
                    refine G.opG1 (op_callQ (sv := .one (bB r28)) cf21 (ct_ref05_Sound y4 r28 hr28) rfl rfl (EvQL.cons (EvQ.own (Ev.t 134 (.own 2021 (List.map encApi_Version y4)))) EvQL.nil) rfl) rfl rfl rfl ⟨rfl, trivial⟩ ⟨rfl, trivial⟩ ?_
                    refine G.opG1 (op_eqB Try.underlying4 (Ev.t 133 (bB r27)) (Ev.t 135 (bB r28)) rfl) rfl rfl rfl ⟨rfl, rfl, trivial⟩ trivial ?_
                    refine G.op1 (op_pickT (Ev.t 131 (bB true)) (Ev.t 136 (bB (r27 == r28))) rfl) rfl ⟨rfl, rfl, trivial⟩ trivial ?_
                    exact G.arr (J25 (r27 == r28) hF) ⟨rfl, rfl, rfl, trivial⟩ ⟨rfl, trivial⟩ rfl
                  · refine G.known (t := 131) hc26 rfl ?_
                    refine G.opN1 rfl rfl rfl rfl rfl ?_
                    refine G.opN1 rfl rfl rfl rfl rfl ?_
                    refine G.opN1 rfl rfl rfl rfl rfl ?_
                    refine G.opN1 rfl rfl rfl rfl rfl ?_
                    refine G.opN1 rfl rfl rfl rfl rfl ?_
                    refine G.op1 (op_pickF (Ev.t 131 (bB false)) (Ev.c _ rfl) rfl) rfl ⟨rfl, trivial⟩ trivial ?_
                    exact G.arr (J25 false hF) ⟨rfl, rfl, rfl, trivial⟩ ⟨rfl, trivial⟩ rfl
                refine ifS hF (fun hc30 hF => ?_) (fun hc30 hF => ?_)
                · refine G.known (t := 124) hc30 rfl ?_
                  refine G.opG1 (op_fieldP (off' := 3) Try.underlying34 rfl ti24 (by decide) rfl (Ev.t 14 (.ptr 1014 0)) rfl) rfl rfl rfl ⟨rfl, trivial⟩ trivial ?_
                  refine G.opG1 (op_loadAP (ds := [.v (.int .i64 r13.1.Stamp.N), .v (.int .i64 r13.1.Stamp.Site)]) Try.underlying24 rfl ti24 rfl (Ev.t 125 (.ptr 1014 3)) rfl) rfl rfl rfl ⟨rfl, trivial⟩ ⟨rfl, trivial⟩ ?_
                  refine G.opG1 (op_fieldP (off' := 3) Try.underlying34 rfl ti24 (by decide) rfl (Ev.t 16 (.ptr 1016 0)) rfl) rfl rfl rfl ⟨rfl, trivial⟩ trivial ?_
                  refine G.opG1 (op_loadAP (ds := [.v (.int .i64 r14.1.Stamp.N), .v (.int .i64 r14.1.Stamp.Site)]) Try.underlying24 rfl ti24 rfl (Ev.t 127 (.ptr 1016 3)) rfl) rfl rfl rfl ⟨rfl, trivial⟩ ⟨rfl, trivial⟩ ?_
                  refine G.opG1 (op_eqA (us := [.int .i64 r13.1.Stamp.N, .int .i64 r13.1.Stamp.Site]) (vs := [.int .i64 r14.1.Stamp.N, .int .i64 r14.1.Stamp.Site]) rfl rfl Try.eqGuardType24 (fun w => eq24 r13.1.Stamp.N r13.1.Stamp.Site r14.1.Stamp.N r14.1.Stamp.Site w) (Ev.t 126 (.g (.agg [.v (.int .i64 r13.1.Stamp.N), .v (.int .i64 r13.1.Stamp.Site)]))) (Ev.t 128 (.g (.agg [.v (.int .i64 r14.1.Stamp.N), .v (.int .i64 r14.1.Stamp.Site)]))) rfl) rfl rfl rfl ⟨rfl, rfl, trivial⟩ trivial ?_
                  refine G.op1 (op_pickT (Ev.t 124 (bB true)) (Ev.t 129 (bB (decide (r13.1.Stamp.N = r14.1.Stamp.N) && decide (r13.1.Stamp.Site = r14.1.Stamp.Site)))) rfl) rfl ⟨rfl, rfl, trivial⟩ trivial ?_
                  exact G.arr (J29 (decide (r13.1.Stamp.N = r14.1.Stamp.N) && decide (r13.1.Stamp.Site = r14.1.Stamp.Site)) hF) ⟨rfl, rfl, rfl, trivial⟩ ⟨rfl, trivial⟩ rfl
                · refine G.known (t := 124) hc30 rfl ?_
                  refine G.opN1 rfl rfl rfl rfl rfl ?_
                  refine G.opN1 rfl rfl rfl rfl rfl ?_
                  refine G.opN1 rfl rfl rfl rfl rfl ?_
                  refine G.opN1 rfl rfl rfl rfl rfl ?_
                  refine G.opN1 rfl rfl rfl rfl rfl ?_
                  refine G.op1 (op_pickF (Ev.t 124 (bB false)) (Ev.c _ rfl) rfl) rfl ⟨rfl, trivial⟩ trivial ?_
                  exact G.arr (J29 false hF) ⟨rfl, rfl, rfl, trivial⟩ ⟨rfl, trivial⟩ rfl
              refine ifS hF (fun hc32 hF => ?_) (fun hc32 hF => ?_)
              · refine G.known (t := 119) hc32 rfl ?_
                refine G.opG1 (op_move (Ev.t 15 (bB r13.2)) rfl) rfl rfl rfl ⟨rfl, trivial⟩ trivial ?_
                refine G.opG1 (op_move (Ev.t 17 (bB r14.2)) rfl) rfl rfl rfl ⟨rfl, trivial⟩ trivial ?_
                refine G.opG1 (op_eqB Try.underlying4 (Ev.t 120 (bB r13.2)) (Ev.t 121 (bB r14.2)) rfl) rfl rfl rfl ⟨rfl, rfl, trivial⟩ trivial ?_
                refine G.op1 (op_pickT (Ev.t 119 (bB true)) (Ev.t 122 (bB (r13.2 == r14.2))) rfl) rfl ⟨rfl, rfl, trivial⟩ trivial ?_
                exact G.arr (J31 (r13.2 == r14.2) hF) ⟨rfl, rfl, rfl, rfl, rfl, trivial⟩ ⟨rfl, rfl, rfl, trivial⟩ rfl
              · refine G.known (t := 119) hc32 rfl ?_
                refine G.opN1 rfl rfl rfl rfl rfl ?_
                refine G.opN1 rfl rfl rfl rfl rfl ?_
                refine G.opN1 rfl rfl rfl rfl rfl ?_
                refine G.op1 (op_pickF (Ev.t 119 (bB false)) (Ev.c _ rfl) rfl) rfl ⟨rfl, trivial⟩ trivial ?_
                exact G.arr (J31 false hF) ⟨rfl, rfl, rfl, rfl, rfl, trivial⟩ ⟨rfl, rfl, rfl, trivial⟩ rfl
            refine ifS hF (fun hc34 hF => ?_) (fun hc34 hF => ?_)
            · refine G.known (t := 116) hc34 rfl ?_
              refine G.opG1 (op_move (Ev.t 18 (bB r15)) rfl) rfl rfl rfl ⟨rfl, trivial⟩ trivial ?_
              refine G.op1 (op_pickT (Ev.t 116 (bB true)) (Ev.t 117 (bB r15)) rfl) rfl ⟨rfl, rfl, trivial⟩ trivial ?_
              exact G.arr (J33 r15 hF) ⟨rfl, rfl, rfl, rfl, rfl, rfl, rfl, trivial⟩ ⟨rfl, rfl, rfl, trivial⟩ rfl
            · refine G.known (t := 116) hc34 rfl ?_
              refine G.opN1 rfl rfl rfl rfl rfl ?_
              refine G.op1 (op_pickF (Ev.t 116 (bB false)) (Ev.c _ rfl) rfl) rfl ⟨rfl, trivial⟩ trivial ?_
              exact G.arr (J33 false hF) ⟨rfl, rfl, rfl, rfl, rfl, rfl, rfl, trivial⟩ ⟨rfl, rfl, rfl, trivial⟩ rfl
          refine ifS hF (fun hc36 hF => ?_) (fun hc36 hF => ?_)
          · refine G.known (t := 113) hc36 rfl ?_
            refine G.opG1 (op_move (Ev.t 13 (bB r12)) rfl) rfl rfl rfl ⟨rfl, trivial⟩ trivial ?_
            refine G.op1 (op_pickT (Ev.t 113 (bB true)) (Ev.t 114 (bB r12)) rfl) rfl ⟨rfl, rfl, trivial⟩ trivial ?_
            exact G.arr (J35 r12 hF) ⟨rfl, rfl, rfl, rfl, rfl, rfl, rfl, rfl, trivial⟩ ⟨rfl, rfl, rfl, trivial⟩ rfl
          · refine G.known (t := 113) hc36 rfl ?_
            refine G.opN1 rfl rfl rfl rfl rfl ?_
            refine G.op1 (op_pickF (Ev.t 113 (bB false)) (Ev.c _ rfl) rfl) rfl ⟨rfl, trivial⟩ trivial ?_
            exact G.arr (J35 false hF) ⟨rfl, rfl, rfl, rfl, rfl, rfl, rfl, rfl, trivial⟩ ⟨rfl, rfl, rfl, trivial⟩ rfl
        refine ifS hF (fun hc38 hF => ?_) (fun hc38 hF => ?_)
        · refine G.known (t := 110) hc38 rfl ?_
          refine G.opG1 (op_move (Ev.t 12 (bB r9)) rfl) rfl rfl rfl ⟨rfl, trivial⟩ trivial ?_
          refine G.op1 (op_pickT (Ev.t 110 (bB true)) (Ev.t 111 (bB r9)) rfl) rfl ⟨rfl, rfl, trivial⟩ trivial ?_
          exact G.arr (J37 r9 hF) ⟨rfl, rfl, rfl, rfl, rfl, rfl, rfl, rfl, rfl, trivial⟩ ⟨rfl, rfl, rfl, trivial⟩ rfl
        · refine G.known (t := 110) hc38 rfl ?_
          refine G.opN1 rfl rfl rfl rfl rfl ?_
          refine G.op1 (op_pickF (Ev.t 110 (bB false)) (Ev.c _ rfl) rfl) rfl ⟨rfl, trivial⟩ trivial ?_
          exact G.arr (J37 false hF) ⟨rfl, rfl, rfl, rfl, rfl, rfl, rfl, rfl, rfl, trivial⟩ ⟨rfl, rfl, rfl, trivial⟩ rfl
      refine ifS hF (fun hc40 hF => ?_) (fun hc40 hF => ?_)
      · refine G.cond rfl (fun _ => ?_) (fun hx => by rw [hc40] at hx; cases hx)
        refine G.region ?_
        refine G.op1 (op_move (Ev.t 8 (.own 2021 (List.map encApi_Version y4))) rfl) rfl ⟨rfl, trivial⟩ trivial ?_
        refine G.share (k' := 2021) rfl ?_
        refine G.view (t := 74) rfl rfl ?_
        obtain ⟨r41, hr41, hF⟩ := bindS hF
        refine G.op1 (op_call (sv := .one (.g (.d (.sl 3 (List.map encApi_Dep r41))))) cf12 (ct_law05_all y4 r41 hr41) rfl (EvL.cons (Ev.t 74 (.g (.d (.sl 6 (List.map encApi_Version y4))))) EvL.nil) rfl) rfl ⟨rfl, trivial⟩ trivial ?_
        refine G.op1 (op_assign (Ev.t 75 (.g (.d (.sl 3 (List.map encApi_Dep r41))))) rfl) rfl ⟨rfl, trivial⟩ trivial ?_
        refine G.endOps ?_
        exact G.arr (J39 r41 hF) ⟨rfl, rfl, rfl, rfl, trivial⟩ ⟨rfl, rfl, trivial⟩ rfl
      · refine G.cond rfl (fun hx => by rw [hc40] at hx; cases hx) (fun _ => ?_)
        refine G.skip ?_
        refine G.share (k' := 2021) rfl ?_
        exact G.arr (J39 r5 hF) ⟨rfl, rfl, rfl, rfl, trivial⟩ ⟨rfl, rfl, trivial⟩ rfl
    refine ifS hF (fun hc43 hF => ?_) (fun hc43 hF => ?_)
    · refine G.cond rfl (fun _ => ?_) (fun hx => by rw [hc43] at hx; cases hx)
      refine G.seq ?_
      refine G.region ?_
      refine G.op1 (op_fieldP (off' := 1) Try.underlying28 rfl ti3 (by decide) rfl (Ev.t 4 (.ptr 1004 0)) rfl) rfl ⟨rfl, trivial⟩ trivial ?_
      refine G.op1 (op_load1P (c := bI .i64 q_1.At) Try.underlying3 rfl rfl (Ev.t 31 (.ptr 1004 1)) rfl) rfl ⟨rfl, trivial⟩ ⟨rfl, trivial⟩ ?_
      refine G.op1 (op_move (Ev.t 8 (.own 2021 (List.map encApi_Version r2))) rfl) rfl ⟨rfl, trivial⟩ trivial ?_
      refine G.op1 (OpL.cast (op_lenO Try.underlying31 (Ev.t 33 (.own 2021 (List.map encApi_Version r2))) rfl) (by rw [List.length_map])) rfl ⟨rfl, trivial⟩ ⟨rfl, trivial⟩ ?_
      obtain ⟨hz44, hF⟩ := chkS hF
      refine G.op1 (op_rem (by simpa using hz44) (Ev.t 32 (bI .i64 q_1.At)) (Ev.t 34 (bI .i64 (r2.length : Int))) rfl) rfl ⟨rfl, rfl, trivial⟩ trivial ?_
      refine G.op1 (op_move (Ev.t 8 (.own 2021 (List.map encApi_Version r2))) rfl) rfl ⟨rfl, trivial⟩ trivial ?_
      refine G.op1 (OpL.cast (op_lenO Try.underlying31 (Ev.t 36 (.own 2021 (List.map encApi_Version r2))) rfl) (by rw [List.length_map])) rfl ⟨rfl, trivial⟩ ⟨rfl, trivial⟩ ?_
      refine G.op1 (op_add (Ev.t 35 (bI .i64 (Int.tmod q_1.At (r2.length : Int)))) (Ev.t 37 (bI .i64 (r2.length : Int))) rfl) rfl ⟨rfl, rfl, trivial⟩ trivial ?_
      refine G.op1 (op_move (Ev.t 8 (.own 2021 (List.map encApi_Version r2))) rfl) rfl ⟨rfl, trivial⟩ trivial ?_
      refine G.op1 (OpL.cast (op_lenO Try.underlying31 (Ev.t 39 (.own 2021 (List.map encApi_Version r2))) rfl) (by rw [List.length_map])) rfl ⟨rfl, trivial⟩ ⟨rfl, trivial⟩ ?_
      obtain ⟨hz45, hF⟩ := chkS hF
      refine G.op1 (op_rem (by simpa using hz45) (Ev.t 38 (bI .i64 (IntKind.wrap .i64 ((Int.tmod q_1.At (r2.length : Int)) + (r2.length : Int))))) (Ev.t 40 (bI .i64 (r2.length : Int))) rfl) rfl ⟨rfl, rfl, trivial⟩ trivial ?_
      refine G.op1 (op_assign (Ev.t 41 (bI .i64 (Int.tmod (IntKind.wrap .i64 ((Int.tmod q_1.At (r2.length : Int)) + (r2.length : Int))) (r2.length : Int)))) rfl) rfl ⟨rfl, trivial⟩ trivial ?_
      refine G.endOps ?_
      refine G.seq ?_
      refine G.region ?_
      refine G.op1 (op_move (Ev.t 8 (.own 2021 (List.map encApi_Version r2))) rfl) rfl ⟨rfl, trivial⟩ trivial ?_
      refine G.op1 (op_move (Ev.t 9 (bI .i64 (Int.tmod (IntKind.wrap .i64 ((Int.tmod q_1.At (r2.length : Int)) + (r2.length : Int))) (r2.length : Int)))) rfl) rfl ⟨rfl, trivial⟩ trivial ?_
      obtain ⟨x46, hx46, hF⟩ := bindS hF
      refine G.loadRow (cs := [.v (.string x46.Key), .v (.string x46.Value), .v (.bool x46.Gone), .v (.int .i64 x46.Stamp.N), .v (.int .i64 x46.Stamp.Site), .sl 3 (List.map encApi_Dep x46.Past)]) Try.underlying31 Try.underlying34 rfl ti34 (idx_ok hx46).1 (idx_get hx46 encApi_Version) (Ev.t 42 (.own 2021 (List.map encApi_Version r2))) (Ev.t 43 (bI .i64 (Int.tmod (IntKind.wrap .i64 ((Int.tmod q_1.At (r2.length : Int)) + (r2.length : Int))) (r2.length : Int)))) rfl rfl ⟨rfl, rfl, trivial⟩ rfl ?_
      refine G.op2 (op_alloc (k := 1010) (cs := [bS ByteArray.empty, bS ByteArray.empty, bB false, bI .i64 0, bI .i64 0, .g (.d (.sl 3 (List.map encApi_Dep ([] : (List Api_Dep)))))]) ti34 ⟨.v _ rfl, .v _ rfl, .v _ rfl, .v _ rfl, .v _ rfl, .n 3, trivial⟩ rfl) rfl trivial ⟨rfl, trivial⟩ ?_
      refine G.op3 (op_storeA (cs' := [bS x46.Key, bS x46.Value, bB x46.Gone, bI .i64 x46.Stamp.N, bI .i64 x46.Stamp.Site, .g (.d (.sl 3 (List.map encApi_Dep x46.Past)))]) ti34 rfl rfl (Ev.t 10 (.ptr 1010 0)) (Ev.t 45 (.g (.agg [.v (.string x46.Key), .v (.string x46.Value), .v (.bool x46.Gone), .v (.int .i64 x46.Stamp.N), .v (.int .i64 x46.Stamp.Site), .sl 3 (List.map encApi_Dep x46.Past)])))) rfl ⟨rfl, rfl, trivial⟩ ⟨rfl, trivial⟩ ?_
      refine G.endOps ?_
      refine G.seq ?_
      refine G.seq ?_
      refine G.region ?_
      refine G.op1 (op_fieldP (off' := 0) Try.underlying28 rfl ti3 (by decide) rfl (Ev.t 4 (.ptr 1004 0)) rfl) rfl ⟨rfl, trivial⟩ trivial ?_
      refine G.op1 (op_load1P (c := bI .i64 q_1.What) Try.underlying3 rfl rfl (Ev.t 46 (.ptr 1004 0)) rfl) rfl ⟨rfl, trivial⟩ ⟨rfl, trivial⟩ ?_
      refine G.op1 (op_and (Ev.t 47 (bI .i64 q_1.What)) (Ev.c _ rfl) rfl) rfl ⟨rfl, trivial⟩ trivial ?_
      refine G.endOps ?_
      refine G.block ?_
      refine G.seq ?_
      refine G.region ?_
      refine G.op1 (op_eqI (Ev.t 48 (bI .i64 (IntKind.wrap .i64 (BitVec.ofInt (IntKind.bits .i64) q_1.What &&& BitVec.ofInt (IntKind.bits .i64) 3).toNat))) (Ev.c _ rfl) rfl) rfl ⟨rfl, trivial⟩ trivial ?_
      refine G.op1 (op_assign (Ev.t 54 (bB (decide ((IntKind.wrap .i64 (BitVec.ofInt (IntKind.bits .i64) q_1.What &&& BitVec.ofInt (IntKind.bits .i64) 3).toNat) = 1)))) rfl) rfl ⟨rfl, trivial⟩ trivial ?_
      refine G.endOps ?_
      refine G.joinC (T := ByteArray × Int × Int × (List Api_Dep)) (fun y47 => ⟨[(2, .one (.g (.d (.sl 3 (List.map encApi_Dep m_2))))), (4, .one (.ptr 1004 0)), (7, .one (bB r1)), (8, .one (.own 2021 (List.map encApi_Version r2))), (9, .one (bI .i64 (Int.tmod (IntKind.wrap .i64 ((Int.tmod q_1.At (r2.length : Int)) + (r2.length : Int))) (r2.length : Int)))), (10, .one (.ptr 1010 0))], [(1004, some (.blk 28 [bI .i64 q_1.What, bI .i64 q_1.At, bB q_1.All, bS q_1.Dep.Key, bI .i64 q_1.Dep.Stamp.N, bI .i64 q_1.Dep.Stamp.Site])), (1010, some (.blk 34 [bS y47.1, bS x46.Value, bB x46.Gone, bI .i64 y47.2.1, bI .i64 y47.2.2.1, .g (.d (.sl 3 (List.map encApi_Dep y47.2.2.2)))])), (2021, some (.row 34 6 (List.map encApi_Version r2) true))]⟩) (fun y47 => law05_NearestTells_k10 q_1 m_2 r1 r2 x46 y47 = some r) (fun y47 hF => ?_) (fun J49 => ?_)
      · unfold law05_NearestTells_k10 at hF
        refine G.endBlock ?_
        refine G.region ?_
        refine G.op1 (op_move (Ev.t 8 (.own 2021 (List.map encApi_Version r2))) rfl) rfl ⟨rfl, trivial⟩ trivial ?_
        refine G.op1 (op_move (Ev.t 9 (bI .i64 (Int.tmod (IntKind.wrap .i64 ((Int.tmod q_1.At (r2.length : Int)) + (r2.length : Int))) (r2.length : Int)))) rfl) rfl ⟨rfl, trivial⟩ trivial ?_
        refine G.op1 (op_loadAP (ds := [.v (.string y47.1), .v (.string x46.Value), .v (.bool x46.Gone), .v (.int .i64 y47.2.1), .v (.int .i64 y47.2.2.1), .sl 3 (List.map encApi_Dep y47.2.2.2)]) Try.underlying34 rfl ti34 rfl (Ev.t 10 (.ptr 1010 0)) rfl) rfl ⟨rfl, trivial⟩ ⟨rfl, trivial⟩ ?_
        obtain ⟨l48, hl48, hF⟩ := bindS hF
        refine G.storeRow Try.underlying31 ti34 rfl (sets_ok hl48 encApi_Version).1 (sets_ok hl48 encApi_Version).2.1 (sets_ok hl48 encApi_Version).2.2 (Ev.t 66 (.own 2021 (List.map encApi_Version r2))) (Ev.t 67 (bI .i64 (Int.tmod (IntKind.wrap .i64 ((Int.tmod q_1.At (r2.length : Int)) + (r2.length : Int))) (r2.length : Int)))) (Ev.t 68 (.g (.agg [.v (.string y47.1), .v (.string x46.Value), .v (.bool x46.Gone), .v (.int .i64 y47.2.1), .v (.int .i64 y47.2.2.1), .sl 3 (List.map encApi_Dep y47.2.2.2)]))) (by simp) rfl ⟨rfl, rfl, rfl, trivial⟩ rfl ?_
        refine G.renew (t := 8) rfl rfl (sets_len hl48 encApi_Version) ?_
        refine G.renew (t := 66) rfl rfl (sets_len hl48 encApi_Version) ?_
        refine G.endOps ?_
        exact G.arr (J42 l48 hF) ⟨rfl, rfl, rfl, rfl, trivial⟩ ⟨rfl, rfl, trivial⟩ rfl
      refine ifS hF (fun hc50 hF => ?_) (fun hc50 hF => ?_)
      · refine G.cond rfl (fun _ => ?_) (fun hx => by rw [hc50] at hx; cases hx)
        refine G.region ?_
        refine G.op1 (op_fieldP (off' := 3) Try.underlying28 rfl ti26 (by decide) rfl (Ev.t 4 (.ptr 1004 0)) rfl) rfl ⟨rfl, trivial⟩ trivial ?_
        refine G.op1 (op_fieldP (off' := 4) Try.underlying26 rfl ti24 (by decide) rfl (Ev.t 55 (.ptr 1004 3)) rfl) rfl ⟨rfl, trivial⟩ trivial ?_
        refine G.op1 (op_loadAP (ds := [.v (.int .i64 q_1.Dep.Stamp.N), .v (.int .i64 q_1.Dep.Stamp.Site)]) Try.underlying24 rfl ti24 rfl (Ev.t 56 (.ptr 1004 4)) rfl) rfl ⟨rfl, trivial⟩ ⟨rfl, trivial⟩ ?_
        refine G.op1 (op_fieldP (off' := 3) Try.underlying34 rfl ti24 (by decide) rfl (Ev.t 10 (.ptr 1010 0)) rfl) rfl ⟨rfl, trivial⟩ trivial ?_
        refine G.op3 (op_storeA (cs' := [bS x46.Key, bS x46.Value, bB x46.Gone, bI .i64 q_1.Dep.Stamp.N, bI .i64 q_1.Dep.Stamp.Site, .g (.d (.sl 3 (List.map encApi_Dep x46.Past)))]) ti24 rfl rfl (Ev.t 58 (.ptr 1010 3)) (Ev.t 57 (.g (.agg [.v (.int .i64 q_1.Dep.Stamp.N), .v (.int .i64 q_1.Dep.Stamp.Site)])))) rfl ⟨rfl, rfl, trivial⟩ ⟨rfl, trivial⟩ ?_
        refine G.endOps ?_
        exact G.arr (J49 (x46.Key, q_1.Dep.Stamp.N, q_1.Dep.Stamp.Site, x46.Past) hF) ⟨rfl, rfl, rfl, rfl, rfl, rfl, trivial⟩ ⟨rfl, rfl, rfl, trivial⟩ rfl
      · refine G.cond rfl (fun hx => by rw [hc50] at hx; cases hx) (fun _ => ?_)
        refine G.seq ?_
        refine G.region ?_
        refine G.op1 (op_eqI (Ev.t 48 (bI .i64 (IntKind.wrap .i64 (BitVec.ofInt (IntKind.bits .i64) q_1.What &&& BitVec.ofInt (IntKind.bits .i64) 3).toNat))) (Ev.c _ rfl) rfl) rfl ⟨rfl, trivial⟩ trivial ?_
        refine G.op1 (op_assign (Ev.t 60 (bB (decide ((IntKind.wrap .i64 (BitVec.ofInt (IntKind.bits .i64) q_1.What &&& BitVec.ofInt (IntKind.bits .i64) 3).toNat) = 2)))) rfl) rfl ⟨rfl, trivial⟩ trivial ?_
        refine G.endOps ?_
        refine ifS hF (fun hc51 hF => ?_) (fun hc51 hF => ?_)
        · refine G.cond rfl (fun _ => ?_) (fun hx => by rw [hc51] at hx; cases hx)
          refine G.region ?_
          refine G.op1 (op_fieldP (off' := 3) Try.underlying28 rfl ti26 (by decide) rfl (Ev.t 4 (.ptr 1004 0)) rfl) rfl ⟨rfl, trivial⟩ trivial ?_
          refine G.op1 (op_loadAP (ds := [.v (.string q_1.Dep.Key), .v (.int .i64 q_1.Dep.Stamp.N), .v (.int .i64 q_1.Dep.Stamp.Site)]) Try.underlying26 rfl ti26 rfl (Ev.t 61 (.ptr 1004 3)) rfl) rfl ⟨rfl, trivial⟩ ⟨rfl, trivial⟩ ?_
          refine G.op1 (op_buildSlice (es := List.map encApi_Dep [q_1.Dep]) Try.underlying29 ti26 rfl rfl (EvP.cons (Ev.t 62 (.g (.agg [.v (.string q_1.Dep.Key), .v (.int .i64 q_1.Dep.Stamp.N), .v (.int .i64 q_1.Dep.Stamp.Site)]))) EvP.nil) rfl rfl (by simp [encApi_Dep]) rfl) rfl ⟨rfl, trivial⟩ trivial ?_
          obtain ⟨r52, hr52, hF⟩ := bindS hF
          refine G.op1 (op_call (sv := .one (.g (.d (.sl 3 (List.map encApi_Dep r52))))) cf11 (ct_law05_few ([q_1.Dep]) r52 hr52) rfl (EvL.cons (Ev.t 63 (.g (.d (.sl 3 (List.map encApi_Dep ([q_1.Dep])))))) EvL.nil) rfl) rfl ⟨rfl, trivial⟩ trivial ?_
          refine G.op1 (op_fieldP (off' := 5) Try.underlying34 rfl ti29 (by decide) rfl (Ev.t 10 (.ptr 1010 0)) rfl) rfl ⟨rfl, trivial⟩ trivial ?_
          refine G.op3 (op_store1 (cs' := [bS x46.Key, bS x46.Value, bB x46.Gone, bI .i64 x46.Stamp.N, bI .i64 x46.Stamp.Site, .g (.d (.sl 3 (List.map encApi_Dep r52)))]) (c := .g (.d (.sl 3 (List.map encApi_Dep r52)))) trivial ti29 rfl rfl (Ev.t 65 (.ptr 1010 5)) (Ev.t 64 (.g (.d (.sl 3 (List.map encApi_Dep r52)))))) rfl ⟨rfl, rfl, trivial⟩ ⟨rfl, trivial⟩ ?_
          refine G.endOps ?_
          exact G.arr (J49 (x46.Key, x46.Stamp.N, x46.Stamp.Site, r52) hF) ⟨rfl, rfl, rfl, rfl, rfl, rfl, trivial⟩ ⟨rfl, rfl, rfl, trivial⟩ rfl
        · refine G.cond rfl (fun hx => by rw [hc51] at hx; cases hx) (fun _ => ?_)
          refine G.region ?_
          refine G.op1 (op_fieldP (off' := 3) Try.underlying28 rfl ti26 (by decide) rfl (Ev.t 4 (.ptr 1004 0)) rfl) rfl ⟨rfl, trivial⟩ trivial ?_
          refine G.op1 (op_fieldP (off' := 3) Try.underlying26 rfl ti9 (by decide) rfl (Ev.t 49 (.ptr 1004 3)) rfl) rfl ⟨rfl, trivial⟩ trivial ?_
          refine G.op1 (op_load1P (c := bS q_1.Dep.Key) Try.underlying9 rfl rfl (Ev.t 50 (.ptr 1004 3)) rfl) rfl ⟨rfl, trivial⟩ ⟨rfl, trivial⟩ ?_
          refine G.op1 (op_fieldP (off' := 0) Try.underlying34 rfl ti9 (by decide) rfl (Ev.t 10 (.ptr 1010 0)) rfl) rfl ⟨rfl, trivial⟩ trivial ?_
          refine G.op3 (op_store1 (cs' := [bS q_1.Dep.Key, bS x46.Value, bB x46.Gone, bI .i64 x46.Stamp.N, bI .i64 x46.Stamp.Site, .g (.d (.sl 3 (List.map encApi_Dep x46.Past)))]) (c := bS q_1.Dep.Key) trivial ti9 rfl rfl (Ev.t 52 (.ptr 1010 0)) (Ev.t 51 (bS q_1.Dep.Key))) rfl ⟨rfl, rfl, trivial⟩ ⟨rfl, trivial⟩ ?_
          refine G.endOps ?_
          exact G.arr (J49 (q_1.Dep.Key, x46.Stamp.N, x46.Stamp.Site, x46.Past) hF) ⟨rfl, rfl, rfl, rfl, rfl, rfl, trivial⟩ ⟨rfl, rfl, rfl, trivial⟩ rfl
    · refine G.cond rfl (fun hx => by rw [hc43] at hx; cases hx) (fun _ => ?_)
      refine G.skip ?_
      exact G.arr (J42 r2 hF) ⟨rfl, rfl, rfl, rfl, trivial⟩ ⟨rfl, rfl, trivial⟩ rfl
  refine G.region ?_
  refine G.op1 (op_move (Ev.t 8 (.own 2021 (List.map encApi_Version r2))) rfl) rfl ⟨rfl, trivial⟩ trivial ?_
  refine G.op1 (OpL.cast (op_lenO Try.underlying31 (Ev.t 22 (.own 2021 (List.map encApi_Version r2))) rfl) (by rw [List.length_map])) rfl ⟨rfl, trivial⟩ ⟨rfl, trivial⟩ ?_
  refine G.op1 (op_gtr (Ev.t 23 (bI .i64 (r2.length : Int))) (Ev.c _ rfl) rfl) rfl ⟨rfl, trivial⟩ trivial ?_
  refine G.op1 (op_move (Ev.t 24 (bB (decide (0 < (r2.length : Int))))) rfl) rfl ⟨rfl, trivial⟩ trivial ?_
  refine ifS hF (fun hc54 hF => ?_) (fun hc54 hF => ?_)
  · refine G.known (t := 25) hc54 rfl ?_
    refine G.opG1 (op_fieldP (off' := 0) Try.underlying28 rfl ti3 (by decide) rfl (Ev.t 4 (.ptr 1004 0)) rfl) rfl rfl rfl ⟨rfl, trivial⟩ trivial ?_
    refine G.opG1 (op_load1P (c := bI .i64 q_1.What) Try.underlying3 rfl rfl (Ev.t 26 (.ptr 1004 0)) rfl) rfl rfl rfl ⟨rfl, trivial⟩ ⟨rfl, trivial⟩ ?_
    refine G.opG1 (op_and (Ev.t 27 (bI .i64 q_1.What)) (Ev.c _ rfl) rfl) rfl rfl rfl ⟨rfl, trivial⟩ trivial ?_
    refine G.opG1 (op_neI (Ev.t 28 (bI .i64 (IntKind.wrap .i64 (BitVec.ofInt (IntKind.bits .i64) q_1.What &&& BitVec.ofInt (IntKind.bits .i64) 3).toNat))) (Ev.c _ rfl) rfl) rfl rfl rfl ⟨rfl, trivial⟩ trivial ?_
    refine G.op1 (op_pickT (Ev.t 25 (bB true)) (Ev.t 29 (bB (!decide ((IntKind.wrap .i64 (BitVec.ofInt (IntKind.bits .i64) q_1.What &&& BitVec.ofInt (IntKind.bits .i64) 3).toNat) = 0)))) rfl) rfl ⟨rfl, rfl, trivial⟩ trivial ?_
    refine G.endOps ?_
    exact G.arr (J53 (!decide ((IntKind.wrap .i64 (BitVec.ofInt (IntKind.bits .i64) q_1.What &&& BitVec.ofInt (IntKind.bits .i64) 3).toNat) = 0)) hF) ⟨rfl, rfl, rfl, rfl, rfl, trivial⟩ ⟨rfl, rfl, trivial⟩ rfl
  · refine G.known (t := 25) hc54 rfl ?_
    refine G.opN1 rfl rfl rfl rfl rfl ?_
    refine G.opN1 rfl rfl rfl rfl rfl ?_
    refine G.opN1 rfl rfl rfl rfl rfl ?_
    refine G.opN1 rfl rfl rfl rfl rfl ?_
    refine G.op1 (op_pickF (Ev.t 25 (bB false)) (Ev.c _ rfl) rfl) rfl ⟨rfl, trivial⟩ trivial ?_
    refine G.endOps ?_
    exact G.arr (J53 false hF) ⟨rfl, rfl, rfl, rfl, rfl, trivial⟩ ⟨rfl, rfl, trivial⟩ rfl


end Go.Ark
