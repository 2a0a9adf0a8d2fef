/- Walks, printed by a program of mine: each function of the program computes the typed function of its name. Conditions: none. -/
import Derived.Test.YtdngcojjipaajaaWHistoryTells1
namespace Go.Ark
open Go Go.Ab Go.RowKit Go.Lib Go.Proofs

set_option maxRecDepth 20000 in
set_option maxHeartbeats 2000000 in
theorem ct_history_Check (l_0 : (List Api_Event)) (r : Int) (hF : history_Check l_0 = some r) : Ct Try.prog 13 [.g (.d (.sl 6 (List.map encApi_Event l_0)))] (.one (.d (.v (.int .i64 r)))) := by
  unfold history_Check at hF
  refine Ct.intro Try.func13 rfl Try.ntmps13 rfl rfl fun M w => ?_
  refine G.seq ?_
  refine G.region ?_
  refine G.op1 (op_assign (Ev.c _ rfl) rfl) rfl trivial trivial ?_
  refine G.endOps ?_
  refine G.scope ?_
  refine G.seq ?_
  refine G.region ?_
  refine G.op2 (op_makeMap (k := 1007) rfl) rfl trivial ⟨rfl, trivial⟩ ?_
  refine G.op2 (op_makeMap (k := 1008) rfl) rfl trivial ⟨rfl, trivial⟩ ?_
  refine G.buildBox (kb := 1010) Try.underlying66 ti66 (pl66 _ Try.underlying66) (Ev.t 7 (.pv 1007 mapV)) (Ev.t 8 (.pv 1008 mapV)) rfl rfl ⟨rfl, rfl, trivial⟩ rfl rfl ?_
  refine G.op1 (op_assign (Ev.t 10 (.ptr 1010 0)) rfl) rfl ⟨rfl, trivial⟩ trivial ?_
  refine G.endOps ?_
  refine G.seq ?_
  refine G.region ?_
  refine G.op1 (op_assign (Ev.c _ rfl) rfl) rfl trivial trivial ?_
  refine G.endOps ?_
  refine G.seq ?_
  refine G.label ?_
  refine G.seq ?_
  refine G.seq ?_
  refine G.region ?_
  refine G.op1 (op_move (Ev.t 0 (.g (.d (.sl 6 (List.map encApi_Event l_0))))) rfl) rfl ⟨rfl, trivial⟩ trivial ?_
  refine G.op1 (OpL.cast (op_lenD Try.underlying24 (Ev.t 11 (.g (.d (.sl 6 (List.map encApi_Event l_0))))) rfl) (by rw [List.length_map])) rfl ⟨rfl, trivial⟩ trivial ?_
  refine G.op1 (op_move (Ev.c _ rfl) rfl) rfl trivial trivial ?_
  refine G.endOps ?_
  refine G.joinC (T := Int) (fun y1 => ⟨[(4, .one (bI .i64 y1))], []⟩) (fun y1 => history_Check_k1 y1 = some r) (fun y1 hF => ?_) (fun J2 => ?_)
  · unfold history_Check_k1 at hF
    refine G.seq ?_
    refine G.region ?_
    refine G.op1 (op_move (Ev.t 4 (bI .i64 y1)) rfl) rfl ⟨rfl, trivial⟩ trivial ?_
    refine G.op1 (op_assign (Ev.t 49 (bI .i64 y1)) rfl) rfl ⟨rfl, trivial⟩ trivial ?_
    refine G.endOps ?_
    cases hF
    exact G.ret1 Try.results13 (RVar.tmp 2 _) ⟨rfl, trivial⟩ trivial
  refine G.block ?_
  refine G.keep (sl' := [(0, .one (.g (.d (.sl 6 (List.map encApi_Event l_0))))), (3, .one (.ptr 1010 0)), (4, .one (bI .i64 (-1))), (11, .one (.g (.d (.sl 6 (List.map encApi_Event l_0))))), (12, .one (bI .i64 (l_0.length : Int))), (13, .one (bI .i64 0))]) (hp' := [(1007, some (.map (ents keyApi_Stamp agL_encS ([] : (List (Api_Stamp × (List ByteArray))))))), (1008, some (.map (ents keyI64 agL_encApi_Dep ([] : (List (Int × (List Api_Dep))))))), (1010, some (.blk 66 [.pv 1007 mapV, .pv 1008 mapV]))]) ⟨rfl, rfl, rfl, rfl, rfl, rfl, trivial⟩ ⟨rfl, rfl, rfl, trivial⟩ rfl ?_
  refine G.loopF (fun (v3 : Int × (List (Api_Stamp × (List ByteArray))) × (List (Int × (List Api_Dep)))) => ⟨[(0, .one (.g (.d (.sl 6 (List.map encApi_Event l_0))))), (3, .one (.ptr 1010 0)), (4, .one (bI .i64 (-1))), (11, .one (.g (.d (.sl 6 (List.map encApi_Event l_0))))), (12, .one (bI .i64 (l_0.length : Int))), (13, .one (bI .i64 v3.1))], [(1007, some (.map (ents keyApi_Stamp agL_encS v3.2.1))), (1008, some (.map (ents keyI64 agL_encApi_Dep v3.2.2))), (1010, some (.blk 66 [.pv 1007 mapV, .pv 1008 mapV]))]⟩) hF rfl (fun K6 again5 v3 J4 hF => ?_)
  unfold history_Check_l2 at hF
  refine G.seq ?_
  refine G.region ?_
  refine G.op1 (op_lss (Ev.t 13 (bI .i64 v3.1)) (Ev.t 12 (bI .i64 (l_0.length : Int))) rfl) rfl ⟨rfl, rfl, trivial⟩ trivial ?_
  refine G.endOps ?_
  refine G.seq ?_
  refine ifS hF (fun hc7 hF => ?_) (fun hc7 hF => ?_)
  · refine G.cond rfl (fun _ => ?_) (fun hx => by rw [hc7] at hx; cases hx)
    refine G.skip ?_
    refine G.seq ?_
    refine G.block ?_
    refine G.seq ?_
    refine G.region ?_
    refine G.op1 (op_move (Ev.t 13 (bI .i64 v3.1)) rfl) rfl ⟨rfl, trivial⟩ trivial ?_
    obtain ⟨x8, hx8, hF⟩ := bindS hF
    refine G.op1 (op_index (cs := [.v (.int .i64 x8.Kind), .v (.int .i64 x8.Client), .v (.string x8.Key), .v (.int .i64 x8.Stamp.N), .v (.int .i64 x8.Stamp.Site), .sl 3 (List.map encApi_Dep x8.Seen)]) Try.underlying24 ti30 (idx_ok hx8).1 (idx_get hx8 encApi_Event) (Ev.t 11 (.g (.d (.sl 6 (List.map encApi_Event l_0))))) (Ev.t 13 (bI .i64 v3.1)) rfl) rfl ⟨rfl, rfl, trivial⟩ trivial ?_
    refine G.op1 (op_loadAE (ds := [.v (.int .i64 x8.Kind), .v (.int .i64 x8.Client), .v (.string x8.Key), .v (.int .i64 x8.Stamp.N), .v (.int .i64 x8.Stamp.Site), .sl 3 (List.map encApi_Dep x8.Seen)]) Try.underlying30 rfl ti30 rfl (Ev.t 16 (.ep [.v (.int .i64 x8.Kind), .v (.int .i64 x8.Client), .v (.string x8.Key), .v (.int .i64 x8.Stamp.N), .v (.int .i64 x8.Stamp.Site), .sl 3 (List.map encApi_Dep x8.Seen)])) rfl) rfl ⟨rfl, trivial⟩ trivial ?_
    refine G.op2 (op_alloc (k := 1006) (cs := [bI .i64 0, bI .i64 0, bS ByteArray.empty, bI .i64 0, bI .i64 0, .g (.d (.sl 3 (List.map encApi_Dep ([] : (List Api_Dep)))))]) ti30 ⟨.v _ rfl, .v _ rfl, .v _ rfl, .v _ rfl, .v _ rfl, .n 3, trivial⟩ rfl) rfl trivial ⟨rfl, trivial⟩ ?_
    refine G.op1 (op_assign (Ev.t 15 (bI .i64 v3.1)) rfl) rfl ⟨rfl, trivial⟩ trivial ?_
    refine G.op3 (op_storeA (cs' := [bI .i64 x8.Kind, bI .i64 x8.Client, bS x8.Key, bI .i64 x8.Stamp.N, bI .i64 x8.Stamp.Site, .g (.d (.sl 3 (List.map encApi_Dep x8.Seen)))]) ti30 rfl rfl (Ev.t 6 (.ptr 1006 0)) (Ev.t 17 (.g (.agg [.v (.int .i64 x8.Kind), .v (.int .i64 x8.Client), .v (.string x8.Key), .v (.int .i64 x8.Stamp.N), .v (.int .i64 x8.Stamp.Site), .sl 3 (List.map encApi_Dep x8.Seen)])))) rfl ⟨rfl, rfl, trivial⟩ ⟨rfl, trivial⟩ ?_
    refine G.endOps ?_
    refine G.seq ?_
    refine G.seq ?_
    refine G.region ?_
    refine G.op1 (op_move (Ev.t 3 (.ptr 1010 0)) rfl) rfl ⟨rfl, trivial⟩ trivial ?_
    refine G.op1 (op_loadAP (ds := [.v (.int .i64 x8.Kind), .v (.int .i64 x8.Client), .v (.string x8.Key), .v (.int .i64 x8.Stamp.N), .v (.int .i64 x8.Stamp.Site), .sl 3 (List.map encApi_Dep x8.Seen)]) Try.underlying30 rfl ti30 rfl (Ev.t 6 (.ptr 1006 0)) rfl) rfl ⟨rfl, trivial⟩ ⟨rfl, trivial⟩ ?_
    obtain ⟨r9, hr9, hF⟩ := bindS hF
    refine G.op1 (op_callBook (sv := .one (bB r9)) cf27 (ct_history_book_right v3.2.1 v3.2.2 x8 r9 hr9) rfl rfl (Ev.t 18 (.ptr 1010 0)) (EvL.cons (Ev.t 19 (.g (.agg [.v (.int .i64 x8.Kind), .v (.int .i64 x8.Client), .v (.string x8.Key), .v (.int .i64 x8.Stamp.N), .v (.int .i64 x8.Stamp.Site), .sl 3 (List.map encApi_Dep x8.Seen)]))) EvL.nil) rfl) rfl ⟨rfl, rfl, trivial⟩ ⟨rfl, rfl, rfl, trivial⟩ ?_
    refine G.op1 (op_not (Ev.t 20 (bB r9)) rfl) rfl ⟨rfl, trivial⟩ trivial ?_
    refine G.endOps ?_
    refine ifS hF (fun hc10 hF => ?_) (fun hc10 hF => ?_)
    · refine G.cond rfl (fun _ => ?_) (fun hx => by rw [hc10] at hx; cases hx)
      refine G.seq ?_
      refine G.region ?_
      refine G.op1 (op_move (Ev.t 5 (bI .i64 v3.1)) rfl) rfl ⟨rfl, trivial⟩ trivial ?_
      refine G.op1 (op_assign (Ev.t 22 (bI .i64 v3.1)) rfl) rfl ⟨rfl, trivial⟩ trivial ?_
      refine G.endOps ?_
      refine G.exit ?_
      refine GX.c ?_
      refine GX.bNo rfl ?_
      refine GX.c ?_
      refine GX.q ?_
      refine GX.bYes ?_
      exact G.arr (J2 v3.1 hF) ⟨rfl, trivial⟩ trivial rfl
    · refine G.cond rfl (fun hx => by rw [hc10] at hx; cases hx) (fun _ => ?_)
      refine G.skip ?_
      refine G.seq ?_
      refine G.seq ?_
      refine G.region ?_
      refine G.op1 (op_fieldP (off' := 0) Try.underlying30 rfl ti3 (by decide) rfl (Ev.t 6 (.ptr 1006 0)) rfl) rfl ⟨rfl, trivial⟩ trivial ?_
      refine G.op1 (op_load1P (c := bI .i64 x8.Kind) Try.underlying3 rfl rfl (Ev.t 23 (.ptr 1006 0)) rfl) rfl ⟨rfl, trivial⟩ ⟨rfl, trivial⟩ ?_
      refine G.op1 (op_eqI (Ev.t 24 (bI .i64 x8.Kind)) (Ev.c _ rfl) rfl) rfl ⟨rfl, trivial⟩ trivial ?_
      refine G.endOps ?_
      refine G.joinC (T := (List (Api_Stamp × (List ByteArray)))) (fun y11 => ⟨[(0, .one (.g (.d (.sl 6 (List.map encApi_Event l_0))))), (3, .one (.ptr 1010 0)), (4, .one (bI .i64 (-1))), (5, .one (bI .i64 v3.1)), (6, .one (.ptr 1006 0)), (11, .one (.g (.d (.sl 6 (List.map encApi_Event l_0))))), (12, .one (bI .i64 (l_0.length : Int))), (13, .one (bI .i64 v3.1))], [(1006, some (.blk 30 [bI .i64 x8.Kind, bI .i64 x8.Client, bS x8.Key, bI .i64 x8.Stamp.N, bI .i64 x8.Stamp.Site, .g (.d (.sl 3 (List.map encApi_Dep x8.Seen)))])), (1007, some (.map (ents keyApi_Stamp agL_encS y11))), (1008, some (.map (ents keyI64 agL_encApi_Dep v3.2.2))), (1010, some (.blk 66 [.pv 1007 mapV, .pv 1008 mapV]))]⟩) (fun y11 => history_Check_k3 l_0 again5 v3 x8 y11 = some r) (fun y11 hF => ?_) (fun J13 => ?_)
      · unfold history_Check_k3 at hF
        obtain ⟨r12, hr12, hF⟩ := bindS hF
        refine G.drawn (effs := [⟨[(3, .one (.ptr 1010 0))], [], [(39, .one (.ptr 1010 0))], []⟩, ⟨[(39, .one (.ptr 1010 0))], [], [(40, .one (.ptr 1010 0))], []⟩, ⟨[(40, .one (.ptr 1010 0))], [], [(41, .one (.ptr 1010 1))], []⟩, ⟨[(41, .one (.ptr 1010 1))], [(1010, some (.blk 66 [.pv 1007 mapV, .pv 1008 mapV]))], [(42, .one (.pv 1008 mapV))], []⟩, ⟨[(6, .one (.ptr 1006 0))], [], [(43, .one (.ptr 1006 1))], []⟩, ⟨[(43, .one (.ptr 1006 1))], [(1006, some (.blk 30 [bI .i64 x8.Kind, bI .i64 x8.Client, bS x8.Key, bI .i64 x8.Stamp.N, bI .i64 x8.Stamp.Site, .g (.d (.sl 3 (List.map encApi_Dep x8.Seen)))]))], [(44, .one (bI .i64 x8.Client))], []⟩, ⟨[(0, .one (.g (.d (.sl 6 (List.map encApi_Event l_0)))))], [], [(45, .one (.g (.d (.sl 6 (List.map encApi_Event l_0)))))], []⟩, ⟨[(5, .one (bI .i64 v3.1))], [], [(46, .one (bI .i64 v3.1))], []⟩, ⟨[(45, .one (.g (.d (.sl 6 (List.map encApi_Event l_0))))), (46, .one (bI .i64 v3.1))], [], [(47, .one (.g (.d (.sl 3 (List.map encApi_Dep r12)))))], []⟩, ⟨[(42, .one (.pv 1008 mapV)), (44, .one (bI .i64 x8.Client)), (47, .one (.g (.d (.sl 3 (List.map encApi_Dep r12)))))], [(1008, some (.map (ents keyI64 agL_encApi_Dep v3.2.2)))], [], [(1008, some (.map (ents keyI64 agL_encApi_Dep (mset v3.2.2 x8.Client r12))))]⟩]) (deps := [[], [0], [0, 1], [0, 1, 2], [], [4], [], [], [6, 7], [0, 1, 2, 3, 4, 5, 6, 7, 8]]) (sl' := [(0, .one (.g (.d (.sl 6 (List.map encApi_Event l_0))))), (3, .one (.ptr 1010 0)), (4, .one (bI .i64 (-1))), (11, .one (.g (.d (.sl 6 (List.map encApi_Event l_0))))), (12, .one (bI .i64 (l_0.length : Int))), (13, .one (bI .i64 v3.1))]) (hp' := [(1007, some (.map (ents keyApi_Stamp agL_encS y11))), (1008, some (.map (ents keyI64 agL_encApi_Dep (mset v3.2.2 x8.Client r12)))), (1010, some (.blk 66 [.pv 1007 mapV, .pv 1008 mapV]))]) follows rfl rfl rfl ⟨⟨rfl, trivial⟩, trivial, ⟨rfl, trivial⟩, trivial, ⟨rfl, trivial⟩, trivial, ⟨rfl, trivial⟩, ⟨⟨rfl, rfl⟩, trivial⟩, ⟨rfl, trivial⟩, trivial, ⟨rfl, trivial⟩, ⟨⟨rfl, rfl⟩, trivial⟩, ⟨rfl, trivial⟩, trivial, ⟨rfl, trivial⟩, trivial, ⟨rfl, rfl, trivial⟩, trivial, ⟨rfl, rfl, rfl, trivial⟩, ⟨⟨rfl, rfl⟩, trivial⟩, trivial⟩ ⟨OpW.plain (op_move (Ev.t 3 (.ptr 1010 0)) rfl) rfl rfl, OpW.plain (op_nilCheckP (Ev.t 39 (.ptr 1010 0)) rfl) rfl rfl, OpW.plain (op_fieldP (off' := 1) Try.underlying66 rfl ti64 (by decide) rfl (Ev.t 40 (.ptr 1010 0)) rfl) rfl rfl, OpW.plain (op_load1P (c := .pv 1008 mapV) Try.underlying64 rfl rfl (Ev.t 41 (.ptr 1010 1)) rfl) rfl rfl, OpW.plain (op_fieldP (off' := 1) Try.underlying30 rfl ti3 (by decide) rfl (Ev.t 6 (.ptr 1006 0)) rfl) rfl rfl, OpW.plain (op_load1P (c := bI .i64 x8.Client) Try.underlying3 rfl rfl (Ev.t 43 (.ptr 1006 1)) rfl) rfl rfl, OpW.plain (op_move (Ev.t 0 (.g (.d (.sl 6 (List.map encApi_Event l_0))))) rfl) rfl rfl, OpW.plain (op_move (Ev.t 5 (bI .i64 v3.1)) rfl) rfl rfl, OpW.plain (op_call (sv := .one (.g (.d (.sl 3 (List.map encApi_Dep r12))))) cf11 (ct_history_Behind l_0 v3.1 r12 hr12) rfl (EvL.cons (Ev.t 45 (.g (.d (.sl 6 (List.map encApi_Event l_0))))) (EvL.cons (Ev.t 46 (bI .i64 v3.1)) EvL.nil)) rfl) rfl rfl, OpW.plain (op_mapUpdate (ag := agL_encApi_Dep) (k := x8.Client) (v := r12) Try.underlying64 keyOK3 (fun _ _ _ _ h => BR.v_inv h) (Ev.t 42 (.pv 1008 mapV)) (Ev.t 44 (bI .i64 x8.Client)) (Ev.t 47 (.g (.d (.sl 3 (List.map encApi_Dep r12)))))) rfl rfl, trivial⟩ ⟨rfl, rfl, rfl, rfl, rfl, rfl, trivial⟩ ⟨rfl, rfl, rfl, trivial⟩ rfl ?_
        refine G.endBlock ?_
        refine G.region ?_
        refine G.op1 (op_add (Ev.t 13 (bI .i64 v3.1)) (Ev.c _ rfl) rfl) rfl ⟨rfl, trivial⟩ trivial ?_
        refine G.op1 (op_move (Ev.t 48 (bI .i64 (IntKind.wrap .i64 (v3.1 + 1)))) rfl) rfl ⟨rfl, trivial⟩ trivial ?_
        refine G.endOps ?_
        exact G.arr (J4 (IntKind.wrap .i64 (v3.1 + 1), y11, mset v3.2.2 x8.Client r12) hF) ⟨rfl, rfl, rfl, rfl, rfl, rfl, trivial⟩ ⟨rfl, rfl, rfl, trivial⟩ rfl
      refine ifS hF (fun hc14 hF => ?_) (fun hc14 hF => ?_)
      · refine G.cond rfl (fun _ => ?_) (fun hx => by rw [hc14] at hx; cases hx)
        obtain ⟨hz15, hF⟩ := chkS hF
        obtain ⟨l16, hl16, hF⟩ := bindS hF
        refine G.drawn (effs := [⟨[(3, .one (.ptr 1010 0))], [], [(26, .one (.ptr 1010 0))], []⟩, ⟨[(26, .one (.ptr 1010 0))], [], [(27, .one (.ptr 1010 0))], []⟩, ⟨[(27, .one (.ptr 1010 0))], [], [(28, .one (.ptr 1010 0))], []⟩, ⟨[(28, .one (.ptr 1010 0))], [(1010, some (.blk 66 [.pv 1007 mapV, .pv 1008 mapV]))], [(29, .one (.pv 1007 mapV))], []⟩, ⟨[(6, .one (.ptr 1006 0))], [], [(30, .one (.ptr 1006 3))], []⟩, ⟨[(30, .one (.ptr 1006 3))], [(1006, some (.blk 30 [bI .i64 x8.Kind, bI .i64 x8.Client, bS x8.Key, bI .i64 x8.Stamp.N, bI .i64 x8.Stamp.Site, .g (.d (.sl 3 (List.map encApi_Dep x8.Seen)))]))], [(31, .one (.g (.agg [.v (.int .i64 x8.Stamp.N), .v (.int .i64 x8.Stamp.Site)])))], []⟩, ⟨[(6, .one (.ptr 1006 0))], [], [(33, .one (.ptr 1006 2))], []⟩, ⟨[(33, .one (.ptr 1006 2))], [(1006, some (.blk 30 [bI .i64 x8.Kind, bI .i64 x8.Client, bS x8.Key, bI .i64 x8.Stamp.N, bI .i64 x8.Stamp.Site, .g (.d (.sl 3 (List.map encApi_Dep x8.Seen)))]))], [(34, .one (bS x8.Key))], []⟩, ⟨[(34, .one (bS x8.Key))], [], [(35, .one (.g (.d (.sl 1 (List.map encS ([x8.Key]))))))], []⟩, ⟨[(29, .one (.pv 1007 mapV)), (31, .one (.g (.agg [.v (.int .i64 x8.Stamp.N), .v (.int .i64 x8.Stamp.Site)])))], [(1007, some (.map (ents keyApi_Stamp agL_encS v3.2.1)))], [(36, .tup [.cp 1 (List.map encS ([] : (List ByteArray))), bI .i64 (v3.2.1.length : Int)])], [(1007, some (.map (ents keyApi_Stamp agL_encS v3.2.1 ++ [((keyApi_Stamp x8.Stamp), .d (.sl 1 []))])))]⟩, ⟨[(36, .tup [.cp 1 (List.map encS ([] : (List ByteArray))), bI .i64 (v3.2.1.length : Int)])], [], [(32, .one (.cp 1 (List.map encS ([] : (List ByteArray)))))], []⟩, ⟨[(32, .one (.cp 1 (List.map encS ([] : (List ByteArray))))), (35, .one (.g (.d (.sl 1 (List.map encS ([x8.Key]))))))], [], [(37, .one (.g (.d (.sl 1 (List.map encS l16)))))], []⟩, ⟨[(36, .tup [.cp 1 (List.map encS ([] : (List ByteArray))), bI .i64 (v3.2.1.length : Int)])], [], [(38, .one (bI .i64 (v3.2.1.length : Int)))], []⟩, ⟨[(29, .one (.pv 1007 mapV)), (38, .one (bI .i64 (v3.2.1.length : Int))), (37, .one (.g (.d (.sl 1 (List.map encS l16)))))], [(1007, some (.map (ents keyApi_Stamp agL_encS v3.2.1 ++ [((keyApi_Stamp x8.Stamp), .d (.sl 1 []))])))], [], [(1007, some (.map (ents keyApi_Stamp agL_encS (v3.2.1 ++ [(x8.Stamp, l16)]))))]⟩]) (deps := [[], [0], [0, 1], [0, 1, 2], [], [4], [], [6], [6, 7], [0, 1, 2, 3, 4, 5, 6, 7, 8], [0, 1, 2, 3, 4, 5, 6, 7, 8, 9], [0, 1, 2, 3, 4, 5, 6, 7, 8, 9, 10], [0, 1, 2, 3, 4, 5, 6, 7, 8, 9], [0, 1, 2, 3, 4, 5, 6, 7, 8, 9, 10, 11, 12]]) (sl' := [(0, .one (.g (.d (.sl 6 (List.map encApi_Event l_0))))), (3, .one (.ptr 1010 0)), (4, .one (bI .i64 (-1))), (5, .one (bI .i64 v3.1)), (6, .one (.ptr 1006 0)), (11, .one (.g (.d (.sl 6 (List.map encApi_Event l_0))))), (12, .one (bI .i64 (l_0.length : Int))), (13, .one (bI .i64 v3.1))]) (hp' := [(1006, some (.blk 30 [bI .i64 x8.Kind, bI .i64 x8.Client, bS x8.Key, bI .i64 x8.Stamp.N, bI .i64 x8.Stamp.Site, .g (.d (.sl 3 (List.map encApi_Dep x8.Seen)))])), (1007, some (.map (ents keyApi_Stamp agL_encS (v3.2.1 ++ [(x8.Stamp, l16)])))), (1008, some (.map (ents keyI64 agL_encApi_Dep v3.2.2))), (1010, some (.blk 66 [.pv 1007 mapV, .pv 1008 mapV]))]) follows rfl rfl rfl ⟨⟨rfl, trivial⟩, trivial, ⟨rfl, trivial⟩, trivial, ⟨rfl, trivial⟩, trivial, ⟨rfl, trivial⟩, ⟨⟨rfl, rfl⟩, trivial⟩, ⟨rfl, trivial⟩, trivial, ⟨rfl, trivial⟩, ⟨⟨rfl, rfl⟩, trivial⟩, ⟨rfl, trivial⟩, trivial, ⟨rfl, trivial⟩, ⟨⟨rfl, rfl⟩, trivial⟩, ⟨rfl, trivial⟩, trivial, ⟨rfl, rfl, trivial⟩, ⟨⟨rfl, rfl⟩, trivial⟩, ⟨rfl, trivial⟩, trivial, ⟨rfl, rfl, trivial⟩, trivial, ⟨rfl, trivial⟩, trivial, ⟨rfl, rfl, rfl, trivial⟩, ⟨⟨rfl, rfl⟩, trivial⟩, trivial⟩ ⟨OpW.plain (op_move (Ev.t 3 (.ptr 1010 0)) rfl) rfl rfl, OpW.plain (op_nilCheckP (Ev.t 26 (.ptr 1010 0)) rfl) rfl rfl, OpW.plain (op_fieldP (off' := 0) Try.underlying66 rfl ti63 (by decide) rfl (Ev.t 27 (.ptr 1010 0)) rfl) rfl rfl, OpW.plain (op_load1P (c := .pv 1007 mapV) Try.underlying63 rfl rfl (Ev.t 28 (.ptr 1010 0)) rfl) rfl rfl, OpW.plain (op_fieldP (off' := 3) Try.underlying30 rfl ti27 (by decide) rfl (Ev.t 6 (.ptr 1006 0)) rfl) rfl rfl, OpW.plain (op_loadAP (ds := [.v (.int .i64 x8.Stamp.N), .v (.int .i64 x8.Stamp.Site)]) Try.underlying27 rfl ti27 rfl (Ev.t 30 (.ptr 1006 3)) rfl) rfl rfl, OpW.plain (op_fieldP (off' := 2) Try.underlying30 rfl ti9 (by decide) rfl (Ev.t 6 (.ptr 1006 0)) rfl) rfl rfl, OpW.plain (op_load1P (c := bS x8.Key) Try.underlying9 rfl rfl (Ev.t 33 (.ptr 1006 2)) rfl) rfl rfl, OpW.plain (op_buildSlice (es := List.map encS [x8.Key]) Try.underlying68 ti9 rfl rfl (EvP.cons (Ev.t 34 (bS x8.Key)) EvP.nil) rfl rfl (by simp [encS]) rfl) rfl rfl, OpW.plain (op_mapEntryN (ag := agL_encS) (size := 1) (k := x8.Stamp) Try.underlying63 keyOK27 ti68 (Option.isNone_iff_eq_none.1 hz15) (fun _ _ _ _ h => agg_vals (vs := [.int .i64 x8.Stamp.N, .int .i64 x8.Stamp.Site]) h) (Ev.t 29 (.pv 1007 mapV)) (Ev.t 31 (.g (.agg [.v (.int .i64 x8.Stamp.N), .v (.int .i64 x8.Stamp.Site)]))) rfl) rfl rfl, OpW.plain (op_extract (l := [.cp 1 (List.map encS ([] : (List ByteArray))), bI .i64 (v3.2.1.length : Int)]) (c := .cp 1 (List.map encS ([] : (List ByteArray)))) rfl rfl) rfl rfl, OpW.plain (op_appendC Try.underlying68 ti9 rfl rfl (app_map hl16 encS) (app_b1 hl16 encS) (app_b2 hl16 encS) (Ev.t 32 (.cp 1 (List.map encS ([] : (List ByteArray))))) (Ev.t 35 (.g (.d (.sl 1 (List.map encS ([x8.Key])))))) rfl) rfl rfl, OpW.plain (op_extract (l := [.cp 1 (List.map encS ([] : (List ByteArray))), bI .i64 (v3.2.1.length : Int)]) (c := bI .i64 (v3.2.1.length : Int)) rfl rfl) rfl rfl, OpW.plain (op_entryStoreE (ag := agL_encS) (k := x8.Stamp) (v := l16) rfl rfl (Ev.t 29 (.pv 1007 mapV)) (Ev.t 38 (bI .i64 (v3.2.1.length : Int))) (Ev.t 37 (.g (.d (.sl 1 (List.map encS l16)))))) rfl rfl, trivial⟩ ⟨rfl, rfl, rfl, rfl, rfl, rfl, rfl, rfl, trivial⟩ ⟨rfl, rfl, rfl, rfl, trivial⟩ rfl ?_
        exact G.arr (J13 (v3.2.1 ++ [(x8.Stamp, l16)]) hF) ⟨rfl, rfl, rfl, rfl, rfl, rfl, rfl, rfl, trivial⟩ ⟨rfl, rfl, rfl, rfl, trivial⟩ rfl
      · refine G.cond rfl (fun hx => by rw [hc14] at hx; cases hx) (fun _ => ?_)
        refine G.skip ?_
        exact G.arr (J13 v3.2.1 hF) ⟨rfl, rfl, rfl, rfl, rfl, rfl, rfl, rfl, trivial⟩ ⟨rfl, rfl, rfl, rfl, trivial⟩ rfl
  · refine G.cond rfl (fun hx => by rw [hc7] at hx; cases hx) (fun _ => ?_)
    refine G.exit ?_
    refine GX.c ?_
    refine GX.q ?_
    refine GX.bYes ?_
    exact G.arr (J2 (-1) hF) ⟨rfl, trivial⟩ trivial rfl


set_option maxRecDepth 20000 in
set_option maxHeartbeats 2000000 in
theorem ct_law20_awake (r : Bool) (hF : law20_awake = some r) : Ct Try.prog 9 [] (.one (.d (.v (.bool r)))) := by
  unfold law20_awake at hF
  refine Ct.intro Try.func9 rfl Try.ntmps9 rfl rfl fun M w => ?_
  refine G.seq ?_
  refine G.region ?_
  refine G.op1 (op_assign (Ev.c _ rfl) rfl) rfl trivial trivial ?_
  refine G.endOps ?_
  refine G.seq ?_
  refine G.region ?_
  refine G.op1 (op_build (zs := [.v (.int .i64 0), .v (.int .i64 0)]) (ds := [.v (.int .i64 1), .v (.int .i64 0)]) Try.underlying27 ti27 (pl27 _ Try.underlying27) ⟨.v _ rfl, .v _ rfl, trivial⟩ (EvP.cons (Ev.c _ rfl) EvP.nil) rfl rfl) rfl trivial trivial ?_
  refine G.op1 (op_build (zs := [.v (.int .i64 0), .v (.int .i64 0), .v (.string ByteArray.empty), .v (.int .i64 0), .v (.int .i64 0), .sl 3 (List.map encApi_Dep ([] : (List Api_Dep)))]) (ds := [.v (.int .i64 1), .v (.int .i64 0), .v (.string (ByteArray.mk #[97])), .v (.int .i64 1), .v (.int .i64 0), .sl 3 (List.map encApi_Dep ([] : (List Api_Dep)))]) Try.underlying30 ti30 (pl30 _ Try.underlying30) ⟨.v _ rfl, .v _ rfl, .v _ rfl, .v _ rfl, .v _ rfl, .n 3, trivial⟩ (EvP.cons (Ev.c _ rfl) (EvP.cons (Ev.c _ rfl) (EvP.cons (Ev.t 2 (.g (.agg [.v (.int .i64 1), .v (.int .i64 0)]))) EvP.nil))) rfl rfl) rfl ⟨rfl, trivial⟩ trivial ?_
  refine G.op1 (op_build (zs := [.v (.int .i64 0), .v (.int .i64 0)]) (ds := [.v (.int .i64 1), .v (.int .i64 0)]) Try.underlying27 ti27 (pl27 _ Try.underlying27) ⟨.v _ rfl, .v _ rfl, trivial⟩ (EvP.cons (Ev.c _ rfl) EvP.nil) rfl rfl) rfl trivial trivial ?_
  refine G.op1 (op_build (zs := [.v (.int .i64 0), .v (.int .i64 0)]) (ds := [.v (.int .i64 2), .v (.int .i64 0)]) Try.underlying27 ti27 (pl27 _ Try.underlying27) ⟨.v _ rfl, .v _ rfl, trivial⟩ (EvP.cons (Ev.c _ rfl) EvP.nil) rfl rfl) rfl trivial trivial ?_
  refine G.op1 (op_build (zs := [.v (.string ByteArray.empty), .v (.int .i64 0), .v (.int .i64 0)]) (ds := [.v (.string (ByteArray.mk #[97])), .v (.int .i64 2), .v (.int .i64 0)]) Try.underlying52 ti52 (pl52 _ Try.underlying52) ⟨.v _ rfl, .v _ rfl, .v _ rfl, trivial⟩ (EvP.cons (Ev.c _ rfl) (EvP.cons (Ev.t 5 (.g (.agg [.v (.int .i64 2), .v (.int .i64 0)]))) EvP.nil)) rfl rfl) rfl ⟨rfl, trivial⟩ trivial ?_
  refine G.op1 (op_buildSlice (es := List.map encApi_Dep [(Api_Dep.mk (ByteArray.mk #[97]) (Api_Stamp.mk 2 0))]) Try.underlying28 ti52 rfl rfl (EvP.cons (Ev.t 6 (.g (.agg [.v (.string (ByteArray.mk #[97])), .v (.int .i64 2), .v (.int .i64 0)]))) EvP.nil) rfl rfl (by simp [encApi_Dep]) rfl) rfl ⟨rfl, trivial⟩ trivial ?_
  refine G.op1 (op_build (zs := [.v (.int .i64 0), .v (.int .i64 0), .v (.string ByteArray.empty), .v (.int .i64 0), .v (.int .i64 0), .sl 3 (List.map encApi_Dep ([] : (List Api_Dep)))]) (ds := [.v (.int .i64 2), .v (.int .i64 1), .v (.string (ByteArray.mk #[97])), .v (.int .i64 1), .v (.int .i64 0), .sl 3 (List.map encApi_Dep ([(Api_Dep.mk (ByteArray.mk #[97]) (Api_Stamp.mk 2 0))]))]) Try.underlying30 ti30 (pl30 _ Try.underlying30) ⟨.v _ rfl, .v _ rfl, .v _ rfl, .v _ rfl, .v _ rfl, .n 3, trivial⟩ (EvP.cons (Ev.c _ rfl) (EvP.cons (Ev.c _ rfl) (EvP.cons (Ev.c _ rfl) (EvP.cons (Ev.t 4 (.g (.agg [.v (.int .i64 1), .v (.int .i64 0)]))) (EvP.cons (Ev.t 7 (.g (.d (.sl 3 (List.map encApi_Dep ([(Api_Dep.mk (ByteArray.mk #[97]) (Api_Stamp.mk 2 0))])))))) EvP.nil))))) rfl rfl) rfl ⟨rfl, rfl, trivial⟩ trivial ?_
  refine G.op1 (op_buildSlice (es := List.map encApi_Event [(Api_Event.mk 1 0 (ByteArray.mk #[97]) (Api_Stamp.mk 1 0) ([] : (List Api_Dep))), (Api_Event.mk 2 1 (ByteArray.mk #[97]) (Api_Stamp.mk 1 0) ([(Api_Dep.mk (ByteArray.mk #[97]) (Api_Stamp.mk 2 0))]))]) Try.underlying24 ti30 rfl rfl (EvP.cons (Ev.t 3 (.g (.agg [.v (.int .i64 1), .v (.int .i64 0), .v (.string (ByteArray.mk #[97])), .v (.int .i64 1), .v (.int .i64 0), .sl 3 (List.map encApi_Dep ([] : (List Api_Dep)))]))) (EvP.cons (Ev.t 8 (.g (.agg [.v (.int .i64 2), .v (.int .i64 1), .v (.string (ByteArray.mk #[97])), .v (.int .i64 1), .v (.int .i64 0), .sl 3 (List.map encApi_Dep ([(Api_Dep.mk (ByteArray.mk #[97]) (Api_Stamp.mk 2 0))]))]))) EvP.nil)) rfl rfl (by simp [encApi_Event]) rfl) rfl ⟨rfl, rfl, trivial⟩ trivial ?_
  refine G.op1 (op_assign (Ev.t 9 (.g (.d (.sl 6 (List.map encApi_Event ([(Api_Event.mk 1 0 (ByteArray.mk #[97]) (Api_Stamp.mk 1 0) ([] : (List Api_Dep))), (Api_Event.mk 2 1 (ByteArray.mk #[97]) (Api_Stamp.mk 1 0) ([(Api_Dep.mk (ByteArray.mk #[97]) (Api_Stamp.mk 2 0))]))])))))) rfl) rfl ⟨rfl, trivial⟩ trivial ?_
  refine G.endOps ?_
  refine G.seq ?_
  refine G.region ?_
  refine G.op1 (op_move (Ev.t 1 (.g (.d (.sl 6 (List.map encApi_Event ([(Api_Event.mk 1 0 (ByteArray.mk #[97]) (Api_Stamp.mk 1 0) ([] : (List Api_Dep))), (Api_Event.mk 2 1 (ByteArray.mk #[97]) (Api_Stamp.mk 1 0) ([(Api_Dep.mk (ByteArray.mk #[97]) (Api_Stamp.mk 2 0))]))])))))) rfl) rfl ⟨rfl, trivial⟩ trivial ?_
  obtain ⟨r1, hr1, hF⟩ := bindS hF
  refine G.op1 (op_callQ (sv := .one (bI .i64 r1)) cf13 (ct_history_Check ([(Api_Event.mk 1 0 (ByteArray.mk #[97]) (Api_Stamp.mk 1 0) ([] : (List Api_Dep))), (Api_Event.mk 2 1 (ByteArray.mk #[97]) (Api_Stamp.mk 1 0) ([(Api_Dep.mk (ByteArray.mk #[97]) (Api_Stamp.mk 2 0))]))]) r1 hr1) rfl rfl (EvQL.cons (EvQ.g (Ev.t 10 (.g (.d (.sl 6 (List.map encApi_Event ([(Api_Event.mk 1 0 (ByteArray.mk #[97]) (Api_Stamp.mk 1 0) ([] : (List Api_Dep))), (Api_Event.mk 2 1 (ByteArray.mk #[97]) (Api_Stamp.mk 1 0) ([(Api_Dep.mk (ByteArray.mk #[97]) (Api_Stamp.mk 2 0))]))]))))))) EvQL.nil) rfl) rfl ⟨rfl, trivial⟩ trivial ?_
  refine G.op1 (op_eqI (Ev.t 11 (bI .i64 r1)) (Ev.c _ rfl) rfl) rfl ⟨rfl, trivial⟩ trivial ?_
  refine G.op1 (op_move (Ev.t 12 (bB (decide (r1 = 1)))) rfl) rfl ⟨rfl, trivial⟩ trivial ?_
  refine ifS hF (fun hc2 hF => ?_) (fun hc2 hF => ?_)
  · refine G.known (t := 13) hc2 rfl ?_
    refine G.opG1 (op_move (Ev.t 1 (.g (.d (.sl 6 (List.map encApi_Event ([(Api_Event.mk 1 0 (ByteArray.mk #[97]) (Api_Stamp.mk 1 0) ([] : (List Api_Dep))), (Api_Event.mk 2 1 (ByteArray.mk #[97]) (Api_Stamp.mk 1 0) ([(Api_Dep.mk (ByteArray.mk #[97]) (Api_Stamp.mk 2 0))]))])))))) rfl) rfl rfl rfl ⟨rfl, trivial⟩ trivial ?_
    obtain ⟨l3, hl3, hF⟩ := bindS hF
    refine G.opG1 (op_sliceD (lo := none) (hi := some 1) Try.underlying24 ti30 (sub_ok hl3 encApi_Event).1 (sub_ok hl3 encApi_Event).2.1 (sub_ok hl3 encApi_Event).2.2.1 (sub_ok hl3 encApi_Event).2.2.2 (Ev.t 14 (.g (.d (.sl 6 (List.map encApi_Event ([(Api_Event.mk 1 0 (ByteArray.mk #[97]) (Api_Stamp.mk 1 0) ([] : (List Api_Dep))), (Api_Event.mk 2 1 (ByteArray.mk #[97]) (Api_Stamp.mk 1 0) ([(Api_Dep.mk (ByteArray.mk #[97]) (Api_Stamp.mk 2 0))]))])))))) EvO.none (EvO.some (Ev.c _ rfl)) rfl) rfl rfl rfl ⟨rfl, trivial⟩ trivial ?_
    obtain ⟨r4, hr4, hF⟩ := bindS hF
    refine G.opG1 (op_callQ (sv := .one (bI .i64 r4)) cf13 (ct_history_Check l3 r4 hr4) rfl rfl (EvQL.cons (EvQ.g (Ev.t 15 (.g (.d (.sl 6 (List.map encApi_Event l3)))))) EvQL.nil) rfl) rfl rfl rfl ⟨rfl, trivial⟩ trivial ?_
    refine G.opG1 (op_eqI (Ev.t 16 (bI .i64 r4)) (Ev.c _ rfl) rfl) rfl rfl rfl ⟨rfl, trivial⟩ trivial ?_
    refine G.op1 (op_pickT (Ev.t 13 (bB true)) (Ev.t 17 (bB (decide (r4 = (-1))))) rfl) rfl ⟨rfl, rfl, trivial⟩ trivial ?_
    refine G.op1 (op_assign (Ev.t 18 (bB (decide (r4 = (-1))))) rfl) rfl ⟨rfl, trivial⟩ trivial ?_
    refine G.endOps ?_
    cases hF
    exact G.ret1 Try.results9 (RVar.tmp 0 _) ⟨rfl, trivial⟩ trivial
  · refine G.known (t := 13) hc2 rfl ?_
    refine G.opN1 rfl rfl rfl rfl rfl ?_
    refine G.opN1 rfl rfl rfl rfl rfl ?_
    refine G.opN1 rfl rfl rfl rfl rfl ?_
    refine G.opN1 rfl rfl rfl rfl rfl ?_
    refine G.op1 (op_pickF (Ev.t 13 (bB false)) (Ev.c _ rfl) rfl) rfl ⟨rfl, trivial⟩ trivial ?_
    refine G.op1 (op_assign (Ev.t 18 (bB false)) rfl) rfl ⟨rfl, trivial⟩ trivial ?_
    refine G.endOps ?_
    cases hF
    exact G.ret1 Try.results9 (RVar.tmp 0 _) ⟨rfl, trivial⟩ trivial


set_option maxRecDepth 20000 in
set_option maxHeartbeats 2000000 in
theorem ct_law20_short (s_0 : ByteArray) (r : ByteArray) (hF : law20_short s_0 = some r) : Ct Try.prog 22 [.g (.d (.v (.string s_0)))] (.one (.d (.v (.string r)))) := by
  unfold law20_short at hF
  refine Ct.intro Try.func22 rfl Try.ntmps22 rfl rfl fun M w => ?_
  refine G.seq ?_
  refine G.region ?_
  refine G.op1 (op_assign (Ev.c _ rfl) rfl) rfl trivial trivial ?_
  refine G.endOps ?_
  refine G.seq ?_
  refine G.seq ?_
  refine G.region ?_
  refine G.op1 (op_move (Ev.t 0 (bS s_0)) rfl) rfl ⟨rfl, trivial⟩ trivial ?_
  refine G.op1 (op_lenS Try.underlying9 (Ev.t 3 (bS s_0)) rfl) rfl ⟨rfl, trivial⟩ trivial ?_
  refine G.op1 (op_gtr (Ev.t 4 (bI .i64 (s_0.size : Int))) (Ev.c _ rfl) rfl) rfl ⟨rfl, trivial⟩ trivial ?_
  refine G.endOps ?_
  refine ifS hF (fun hc1 hF => ?_) (fun hc1 hF => ?_)
  · refine G.cond rfl (fun _ => ?_) (fun hx => by rw [hc1] at hx; cases hx)
    refine G.seq ?_
    refine G.region ?_
    refine G.op1 (op_move (Ev.t 0 (bS s_0)) rfl) rfl ⟨rfl, trivial⟩ trivial ?_
    obtain ⟨s2, hs2, hF⟩ := bindS hF
    refine G.op1 (OpL.cast (op_sliceS (lo := none) (hi := some 12) Try.underlying9 (ssub_ok hs2).1 (ssub_ok hs2).2.1 (ssub_ok hs2).2.2.1 (Ev.t 6 (bS s_0)) EvO.none (EvO.some (Ev.c _ rfl)) rfl) (congrArg (fun s => bS s) (ssub_ok hs2).2.2.2)) rfl ⟨rfl, trivial⟩ trivial ?_
    refine G.op1 (op_assign (Ev.t 7 (bS s2)) rfl) rfl ⟨rfl, trivial⟩ trivial ?_
    refine G.endOps ?_
    cases hF
    exact G.ret1 Try.results22 (RVar.tmp 2 _) ⟨rfl, trivial⟩ trivial
  · refine G.cond rfl (fun hx => by rw [hc1] at hx; cases hx) (fun _ => ?_)
    refine G.skip ?_
    refine G.seq ?_
    refine G.region ?_
    refine G.op1 (op_move (Ev.t 0 (bS s_0)) rfl) rfl ⟨rfl, trivial⟩ trivial ?_
    refine G.op1 (op_assign (Ev.t 8 (bS s_0)) rfl) rfl ⟨rfl, trivial⟩ trivial ?_
    refine G.endOps ?_
    cases hF
    exact G.ret1 Try.results22 (RVar.tmp 2 _) ⟨rfl, trivial⟩ trivial


set_option maxRecDepth 20000 in
set_option maxHeartbeats 2000000 in
theorem ct_ref02_long (c_0 : Int) (r : Int) (hF : ref02_long c_0 = some r) : Ct Try.prog 62 [.g (.d (.v (.int .u8 c_0)))] (.one (.d (.v (.int .i64 r)))) := by
  unfold ref02_long at hF
  refine Ct.intro Try.func62 rfl Try.ntmps62 rfl rfl fun M w => ?_
  refine G.seq ?_
  refine G.region ?_
  refine G.op1 (op_assign (Ev.c _ rfl) rfl) rfl trivial trivial ?_
  refine G.endOps ?_
  refine G.seq ?_
  refine G.seq ?_
  refine G.region ?_
  refine G.op1 (op_move (Ev.t 0 (bI .u8 c_0)) rfl) rfl ⟨rfl, trivial⟩ trivial ?_
  refine G.op1 (op_lss (Ev.t 3 (bI .u8 c_0)) (Ev.c _ rfl) rfl) rfl ⟨rfl, trivial⟩ trivial ?_
  refine G.endOps ?_
  refine ifS hF (fun hc1 hF => ?_) (fun hc1 hF => ?_)
  · refine G.cond rfl (fun _ => ?_) (fun hx => by rw [hc1] at hx; cases hx)
    refine G.seq ?_
    refine G.region ?_
    refine G.op1 (op_assign (Ev.c _ rfl) rfl) rfl trivial trivial ?_
    refine G.endOps ?_
    cases hF
    exact G.ret1 Try.results62 (RVar.tmp 2 _) ⟨rfl, trivial⟩ trivial
  · refine G.cond rfl (fun hx => by rw [hc1] at hx; cases hx) (fun _ => ?_)
    refine G.skip ?_
    refine G.seq ?_
    refine G.seq ?_
    refine G.joinC (T := Bool) (fun y2 => ⟨[(0, .one (bI .u8 c_0)), (10, .one (bB y2))], []⟩) (fun y2 => ref02_long_k1 c_0 y2 = some r) (fun y2 hF => ?_) (fun J10 => ?_)
    · unfold ref02_long_k1 at hF
      refine ifS hF (fun hc3 hF => ?_) (fun hc3 hF => ?_)
      · refine G.cond rfl (fun _ => ?_) (fun hx => by rw [hc3] at hx; cases hx)
        refine G.seq ?_
        refine G.region ?_
        refine G.op1 (op_assign (Ev.c _ rfl) rfl) rfl trivial trivial ?_
        refine G.endOps ?_
        cases hF
        exact G.ret1 Try.results62 (RVar.tmp 2 _) ⟨rfl, trivial⟩ trivial
      · refine G.cond rfl (fun hx => by rw [hc3] at hx; cases hx) (fun _ => ?_)
        refine G.skip ?_
        refine G.seq ?_
        refine G.seq ?_
        refine G.joinC (T := Bool) (fun y4 => ⟨[(0, .one (bI .u8 c_0)), (16, .one (bB y4))], []⟩) (fun y4 => ref02_long_k2 c_0 y4 = some r) (fun y4 hF => ?_) (fun J8 => ?_)
        · unfold ref02_long_k2 at hF
          refine ifS hF (fun hc5 hF => ?_) (fun hc5 hF => ?_)
          · refine G.cond rfl (fun _ => ?_) (fun hx => by rw [hc5] at hx; cases hx)
            refine G.seq ?_
            refine G.region ?_
            refine G.op1 (op_assign (Ev.c _ rfl) rfl) rfl trivial trivial ?_
            refine G.endOps ?_
            cases hF
            exact G.ret1 Try.results62 (RVar.tmp 2 _) ⟨rfl, trivial⟩ trivial
          · refine G.cond rfl (fun hx => by rw [hc5] at hx; cases hx) (fun _ => ?_)
            refine G.skip ?_
            refine G.seq ?_
            refine G.seq ?_
            refine G.region ?_
            refine G.op1 (op_move (Ev.t 0 (bI .u8 c_0)) rfl) rfl ⟨rfl, trivial⟩ trivial ?_
            refine G.op1 (op_geq (Ev.t 17 (bI .u8 c_0)) (Ev.c _ rfl) rfl) rfl ⟨rfl, trivial⟩ trivial ?_
            refine G.op1 (op_move (Ev.t 18 (bB (decide (240 ≤ c_0)))) rfl) rfl ⟨rfl, trivial⟩ trivial ?_
            refine ifS hF (fun hc6 hF => ?_) (fun hc6 hF => ?_)
            · refine G.known (t := 19) hc6 rfl ?_
              refine G.opG1 (op_move (Ev.t 0 (bI .u8 c_0)) rfl) rfl rfl rfl ⟨rfl, trivial⟩ trivial ?_
              refine G.opG1 (op_leq (Ev.t 20 (bI .u8 c_0)) (Ev.c _ rfl) rfl) rfl rfl rfl ⟨rfl, trivial⟩ trivial ?_
              refine G.op1 (op_pickT (Ev.t 19 (bB true)) (Ev.t 21 (bB (decide (c_0 ≤ 244)))) rfl) rfl ⟨rfl, rfl, trivial⟩ trivial ?_
              refine G.endOps ?_
              refine ifS hF (fun hc7 hF => ?_) (fun hc7 hF => ?_)
              · refine G.cond rfl (fun _ => ?_) (fun hx => by rw [hc7] at hx; cases hx)
                refine G.seq ?_
                refine G.region ?_
                refine G.op1 (op_assign (Ev.c _ rfl) rfl) rfl trivial trivial ?_
                refine G.endOps ?_
                cases hF
                exact G.ret1 Try.results62 (RVar.tmp 2 _) ⟨rfl, trivial⟩ trivial
              · refine G.cond rfl (fun hx => by rw [hc7] at hx; cases hx) (fun _ => ?_)
                refine G.skip ?_
                refine G.seq ?_
                refine G.region ?_
                refine G.op1 (op_assign (Ev.c _ rfl) rfl) rfl trivial trivial ?_
                refine G.endOps ?_
                cases hF
                exact G.ret1 Try.results62 (RVar.tmp 2 _) ⟨rfl, trivial⟩ trivial
            · refine G.known (t := 19) hc6 rfl ?_
              refine G.opN1 rfl rfl rfl rfl rfl ?_
              refine G.opN1 rfl rfl rfl rfl rfl ?_
              refine G.op1 (op_pickF (Ev.t 19 (bB false)) (Ev.c _ rfl) rfl) rfl ⟨rfl, trivial⟩ trivial ?_
              refine G.endOps ?_
              refine G.condF rfl ?_
              refine G.skip ?_
              refine G.seq ?_
              refine G.region ?_
              refine G.op1 (op_assign (Ev.c _ rfl) rfl) rfl trivial trivial ?_
              refine G.endOps ?_
              cases hF
              exact G.ret1 Try.results62 (RVar.tmp 2 _) ⟨rfl, trivial⟩ trivial
        refine G.region ?_
        refine G.op1 (op_move (Ev.t 0 (bI .u8 c_0)) rfl) rfl ⟨rfl, trivial⟩ trivial ?_
        refine G.op1 (op_geq (Ev.t 11 (bI .u8 c_0)) (Ev.c _ rfl) rfl) rfl ⟨rfl, trivial⟩ trivial ?_
        refine G.op1 (op_move (Ev.t 12 (bB (decide (224 ≤ c_0)))) rfl) rfl ⟨rfl, trivial⟩ trivial ?_
        refine ifS hF (fun hc9 hF => ?_) (fun hc9 hF => ?_)
        · refine G.known (t := 13) hc9 rfl ?_
          refine G.opG1 (op_move (Ev.t 0 (bI .u8 c_0)) rfl) rfl rfl rfl ⟨rfl, trivial⟩ trivial ?_
          refine G.opG1 (op_leq (Ev.t 14 (bI .u8 c_0)) (Ev.c _ rfl) rfl) rfl rfl rfl ⟨rfl, trivial⟩ trivial ?_
          refine G.op1 (op_pickT (Ev.t 13 (bB true)) (Ev.t 15 (bB (decide (c_0 ≤ 239)))) rfl) rfl ⟨rfl, rfl, trivial⟩ trivial ?_
          refine G.endOps ?_
          exact G.arr (J8 (decide (c_0 ≤ 239)) hF) ⟨rfl, rfl, trivial⟩ trivial rfl
        · refine G.known (t := 13) hc9 rfl ?_
          refine G.opN1 rfl rfl rfl rfl rfl ?_
          refine G.opN1 rfl rfl rfl rfl rfl ?_
          refine G.op1 (op_pickF (Ev.t 13 (bB false)) (Ev.c _ rfl) rfl) rfl ⟨rfl, trivial⟩ trivial ?_
          refine G.endOps ?_
          exact G.arr (J8 false hF) ⟨rfl, rfl, trivial⟩ trivial rfl
    refine G.region ?_
    refine G.op1 (op_move (Ev.t 0 (bI .u8 c_0)) rfl) rfl ⟨rfl, trivial⟩ trivial ?_
    refine G.op1 (op_geq (Ev.t 5 (bI .u8 c_0)) (Ev.c _ rfl) rfl) rfl ⟨rfl, trivial⟩ trivial ?_
    refine G.op1 (op_move (Ev.t 6 (bB (decide (194 ≤ c_0)))) rfl) rfl ⟨rfl, trivial⟩ trivial ?_
    refine ifS hF (fun hc11 hF => ?_) (fun hc11 hF => ?_)
    · refine G.known (t := 7) hc11 rfl ?_
      refine G.opG1 (op_move (Ev.t 0 (bI .u8 c_0)) rfl) rfl rfl rfl ⟨rfl, trivial⟩ trivial ?_
      refine G.opG1 (op_leq (Ev.t 8 (bI .u8 c_0)) (Ev.c _ rfl) rfl) rfl rfl rfl ⟨rfl, trivial⟩ trivial ?_
      refine G.op1 (op_pickT (Ev.t 7 (bB true)) (Ev.t 9 (bB (decide (c_0 ≤ 223)))) rfl) rfl ⟨rfl, rfl, trivial⟩ trivial ?_
      refine G.endOps ?_
      exact G.arr (J10 (decide (c_0 ≤ 223)) hF) ⟨rfl, rfl, trivial⟩ trivial rfl
    · refine G.known (t := 7) hc11 rfl ?_
      refine G.opN1 rfl rfl rfl rfl rfl ?_
      refine G.opN1 rfl rfl rfl rfl rfl ?_
      refine G.op1 (op_pickF (Ev.t 7 (bB false)) (Ev.c _ rfl) rfl) rfl ⟨rfl, trivial⟩ trivial ?_
      refine G.endOps ?_
      exact G.arr (J10 false hF) ⟨rfl, rfl, trivial⟩ trivial rfl


set_option maxRecDepth 20000 in
set_option maxHeartbeats 2000000 in
theorem ct_ref02_Runes (s_0 : ByteArray) (r : Int) (hF : ref02_Runes s_0 = some r) : Ct Try.prog 52 [.g (.d (.v (.string s_0)))] (.one (.d (.v (.int .i64 r)))) := by
  unfold ref02_Runes at hF
  refine Ct.intro Try.func52 rfl Try.ntmps52 rfl rfl fun M w => ?_
  refine G.seq ?_
  refine G.region ?_
  refine G.op1 (op_assign (Ev.c _ rfl) rfl) rfl trivial trivial ?_
  refine G.endOps ?_
  refine G.seq ?_
  refine G.region ?_
  refine G.op1 (op_assign (Ev.c _ rfl) rfl) rfl trivial trivial ?_
  refine G.endOps ?_
  refine G.seq ?_
  refine G.seq ?_
  refine G.region ?_
  refine G.op1 (op_assign (Ev.c _ rfl) rfl) rfl trivial trivial ?_
  refine G.endOps ?_
  refine G.joinC (T := Int) (fun y1 => ⟨[(3, .one (bI .i64 y1))], []⟩) (fun y1 => ref02_Runes_k1 y1 = some r) (fun y1 hF => ?_) (fun J2 => ?_)
  · unfold ref02_Runes_k1 at hF
    refine G.seq ?_
    refine G.region ?_
    refine G.op1 (op_move (Ev.t 3 (bI .i64 y1)) rfl) rfl ⟨rfl, trivial⟩ trivial ?_
    refine G.op1 (op_assign (Ev.t 99 (bI .i64 y1)) rfl) rfl ⟨rfl, trivial⟩ trivial ?_
    refine G.endOps ?_
    cases hF
    exact G.ret1 Try.results52 (RVar.tmp 2 _) ⟨rfl, trivial⟩ trivial
  refine G.block ?_
  refine G.keep (sl' := [(0, .one (bS s_0)), (3, .one (bI .i64 0)), (4, .one (bI .i64 0))]) (hp' := []) ⟨rfl, rfl, rfl, trivial⟩ trivial rfl ?_
  refine G.loopF (fun (v3 : Int × Int) => ⟨[(0, .one (bS s_0)), (3, .one (bI .i64 v3.1)), (4, .one (bI .i64 v3.2))], []⟩) hF rfl (fun K6 again5 v3 J4 hF => ?_)
  unfold ref02_Runes_l2 at hF
  refine G.seq ?_
  refine G.seq ?_
  refine G.region ?_
  refine G.op1 (op_move (Ev.t 4 (bI .i64 v3.2)) rfl) rfl ⟨rfl, trivial⟩ trivial ?_
  refine G.op1 (op_move (Ev.t 0 (bS s_0)) rfl) rfl ⟨rfl, trivial⟩ trivial ?_
  refine G.op1 (op_lenS Try.underlying9 (Ev.t 8 (bS s_0)) rfl) rfl ⟨rfl, trivial⟩ trivial ?_
  refine G.op1 (op_lss (Ev.t 7 (bI .i64 v3.2)) (Ev.t 9 (bI .i64 (s_0.size : Int))) rfl) rfl ⟨rfl, rfl, trivial⟩ trivial ?_
  refine G.endOps ?_
  refine ifS hF (fun hc7 hF => ?_) (fun hc7 hF => ?_)
  · refine G.cond rfl (fun _ => ?_) (fun hx => by rw [hc7] at hx; cases hx)
    refine G.skip ?_
    refine G.block ?_
    refine G.seq ?_
    refine G.region ?_
    refine G.op1 (op_move (Ev.t 0 (bS s_0)) rfl) rfl ⟨rfl, trivial⟩ trivial ?_
    refine G.op1 (op_move (Ev.t 4 (bI .i64 v3.2)) rfl) rfl ⟨rfl, trivial⟩ trivial ?_
    obtain ⟨b8, hb8, hF⟩ := bindS hF
    refine G.op1 (op_indexS Try.underlying9 (sidx_ok hb8).1 (sidx_ok hb8).2 (Ev.t 11 (bS s_0)) (Ev.t 12 (bI .i64 v3.2)) rfl) rfl ⟨rfl, rfl, trivial⟩ trivial ?_
    obtain ⟨r9, hr9, hF⟩ := bindS hF
    refine G.op1 (op_callQ (sv := .one (bI .i64 r9)) cf62 (ct_ref02_long (b8.toNat : Int) r9 hr9) rfl rfl (EvQL.cons (EvQ.g (Ev.t 13 (bI .u8 (b8.toNat : Int)))) EvQL.nil) rfl) rfl ⟨rfl, trivial⟩ trivial ?_
    refine G.op1 (op_assign (Ev.t 14 (bI .i64 r9)) rfl) rfl ⟨rfl, trivial⟩ trivial ?_
    refine G.endOps ?_
    refine G.seq ?_
    refine G.seq ?_
    refine G.joinC (T := Bool) (fun y10 => ⟨[(0, .one (bS s_0)), (3, .one (bI .i64 v3.1)), (4, .one (bI .i64 v3.2)), (5, .one (bI .i64 r9)), (24, .one (bB y10))], []⟩) (fun y10 => ref02_Runes_k3 s_0 again5 v3 r9 y10 = some r) (fun y10 hF => ?_) (fun J47 => ?_)
    · unfold ref02_Runes_k3 at hF
      refine ifS hF (fun hc11 hF => ?_) (fun hc11 hF => ?_)
      · refine G.cond rfl (fun _ => ?_) (fun hx => by rw [hc11] at hx; cases hx)
        refine G.seq ?_
        refine G.region ?_
        refine G.op1 (op_assign (Ev.c _ rfl) rfl) rfl trivial trivial ?_
        refine G.endOps ?_
        cases hF
        exact G.ret1 Try.results52 (RVar.tmp 2 _) ⟨rfl, trivial⟩ trivial
      · refine G.cond rfl (fun hx => by rw [hc11] at hx; cases hx) (fun _ => ?_)
        refine G.skip ?_
        refine G.seq ?_
        refine G.seq ?_
        refine G.region ?_
        refine G.op1 (op_assign (Ev.c _ rfl) rfl) rfl trivial trivial ?_
        refine G.endOps ?_
        refine G.joinC (T := Unit) (fun y12 => ⟨[(0, .one (bS s_0)), (3, .one (bI .i64 v3.1)), (4, .one (bI .i64 v3.2)), (5, .one (bI .i64 r9))], []⟩) (fun y12 => ref02_Runes_k4 s_0 again5 v3 r9 y12 = some r) (fun y12 hF => ?_) (fun J37 => ?_)
        · unfold ref02_Runes_k4 at hF
          refine G.seq ?_
          refine G.seq ?_
          refine G.joinC (T := Bool) (fun y13 => ⟨[(0, .one (bS s_0)), (3, .one (bI .i64 v3.1)), (4, .one (bI .i64 v3.2)), (5, .one (bI .i64 r9)), (93, .one (bB y13))], []⟩) (fun y13 => ref02_Runes_k5 again5 v3 r9 y13 = some r) (fun y13 hF => ?_) (fun J15 => ?_)
          · unfold ref02_Runes_k5 at hF
            refine ifS hF (fun hc14 hF => ?_) (fun hc14 hF => ?_)
            · refine G.cond rfl (fun _ => ?_) (fun hx => by rw [hc14] at hx; cases hx)
              refine G.seq ?_
              refine G.region ?_
              refine G.op1 (op_assign (Ev.c _ rfl) rfl) rfl trivial trivial ?_
              refine G.endOps ?_
              cases hF
              exact G.ret1 Try.results52 (RVar.tmp 2 _) ⟨rfl, trivial⟩ trivial
            · refine G.cond rfl (fun hx => by rw [hc14] at hx; cases hx) (fun _ => ?_)
              refine G.skip ?_
              refine G.seq ?_
              refine G.region ?_
              refine G.op1 (op_move (Ev.t 4 (bI .i64 v3.2)) rfl) rfl ⟨rfl, trivial⟩ trivial ?_
              refine G.op1 (op_move (Ev.t 5 (bI .i64 r9)) rfl) rfl ⟨rfl, trivial⟩ trivial ?_
              refine G.op1 (op_add (Ev.t 94 (bI .i64 v3.2)) (Ev.t 95 (bI .i64 r9)) rfl) rfl ⟨rfl, rfl, trivial⟩ trivial ?_
              refine G.op1 (op_assign (Ev.t 96 (bI .i64 (IntKind.wrap .i64 (v3.2 + r9)))) rfl) rfl ⟨rfl, trivial⟩ trivial ?_
              refine G.endOps ?_
              refine G.region ?_
              refine G.op1 (op_move (Ev.t 3 (bI .i64 v3.1)) rfl) rfl ⟨rfl, trivial⟩ trivial ?_
              refine G.op1 (op_add (Ev.t 97 (bI .i64 v3.1)) (Ev.c _ rfl) rfl) rfl ⟨rfl, trivial⟩ trivial ?_
              refine G.op1 (op_assign (Ev.t 98 (bI .i64 (IntKind.wrap .i64 (v3.1 + 1)))) rfl) rfl ⟨rfl, trivial⟩ trivial ?_
              refine G.endOps ?_
              refine G.endBlock ?_
              exact G.arr (J4 (IntKind.wrap .i64 (v3.1 + 1), IntKind.wrap .i64 (v3.2 + r9)) hF) ⟨rfl, rfl, rfl, trivial⟩ trivial rfl
          refine G.region ?_
          refine G.op1 (op_move (Ev.t 0 (bS s_0)) rfl) rfl ⟨rfl, trivial⟩ trivial ?_
          refine G.op1 (op_move (Ev.t 4 (bI .i64 v3.2)) rfl) rfl ⟨rfl, trivial⟩ trivial ?_
          obtain ⟨b16, hb16, hF⟩ := bindS hF
          refine G.op1 (op_indexS Try.underlying9 (sidx_ok hb16).1 (sidx_ok hb16).2 (Ev.t 44 (bS s_0)) (Ev.t 45 (bI .i64 v3.2)) rfl) rfl ⟨rfl, rfl, trivial⟩ trivial ?_
          refine G.op1 (op_eqI (Ev.t 46 (bI .u8 (b16.toNat : Int))) (Ev.c _ rfl) rfl) rfl ⟨rfl, trivial⟩ trivial ?_
          refine G.op1 (op_move (Ev.t 47 (bB (decide ((b16.toNat : Int) = 224)))) rfl) rfl ⟨rfl, trivial⟩ trivial ?_
          refine G.joinL (T := Bool) 6 (fun y17 => ⟨[(0, .one (bS s_0)), (3, .one (bI .i64 v3.1)), (4, .one (bI .i64 v3.2)), (5, .one (bI .i64 r9)), (54, .one (bB y17))], []⟩) (fun y17 => ref02_Runes_k6 s_0 again5 v3 r9 y17 = some r) (fun y17 hF => ?_) (fun J34 => ?_)
          · unfold ref02_Runes_k6 at hF
            refine G.op1 (op_move (Ev.t 54 (bB y17)) rfl) rfl ⟨rfl, trivial⟩ trivial ?_
            refine G.joinL (T := Bool) 12 (fun y18 => ⟨[(0, .one (bS s_0)), (3, .one (bI .i64 v3.1)), (4, .one (bI .i64 v3.2)), (5, .one (bI .i64 r9)), (67, .one (bB y18))], []⟩) (fun y18 => ref02_Runes_k7 s_0 again5 v3 r9 y18 = some r) (fun y18 hF => ?_) (fun J29 => ?_)
            · unfold ref02_Runes_k7 at hF
              refine G.op1 (op_move (Ev.t 67 (bB y18)) rfl) rfl ⟨rfl, trivial⟩ trivial ?_
              refine G.joinL (T := Bool) 12 (fun y19 => ⟨[(0, .one (bS s_0)), (3, .one (bI .i64 v3.1)), (4, .one (bI .i64 v3.2)), (5, .one (bI .i64 r9)), (80, .one (bB y19))], []⟩) (fun y19 => ref02_Runes_k8 s_0 again5 v3 r9 y19 = some r) (fun y19 hF => ?_) (fun J24 => ?_)
              · unfold ref02_Runes_k8 at hF
                refine G.op1 (op_move (Ev.t 80 (bB y19)) rfl) rfl ⟨rfl, trivial⟩ trivial ?_
                refine ifS hF (fun hc20 hF => ?_) (fun hc20 hF => ?_)
                · refine G.known (t := 81) hc20 rfl ?_
                  refine G.opN1 rfl rfl rfl rfl rfl ?_
                  refine G.opN1 rfl rfl rfl rfl rfl ?_
                  refine G.opN1 rfl rfl rfl rfl rfl ?_
                  refine G.opN1 rfl rfl rfl rfl rfl ?_
                  refine G.opN1 rfl rfl rfl rfl rfl ?_
                  refine G.opU rfl rfl rfl rfl ?_
                  refine G.opU rfl rfl rfl rfl ?_
                  refine G.opU rfl rfl rfl rfl ?_
                  refine G.opU rfl rfl rfl rfl ?_
                  refine G.opU rfl rfl rfl rfl ?_
                  refine G.opN1 rfl rfl rfl rfl rfl ?_
                  refine G.op1 (op_pickT (Ev.t 81 (bB true)) (Ev.c _ rfl) rfl) rfl ⟨rfl, trivial⟩ trivial ?_
                  refine G.endOps ?_
                  exact G.arr (J15 true hF) ⟨rfl, rfl, rfl, rfl, rfl, trivial⟩ trivial rfl
                · refine G.known (t := 81) hc20 rfl ?_
                  refine G.opG1 (op_move (Ev.t 0 (bS s_0)) rfl) rfl rfl rfl ⟨rfl, trivial⟩ trivial ?_
                  refine G.opG1 (op_move (Ev.t 4 (bI .i64 v3.2)) rfl) rfl rfl rfl ⟨rfl, trivial⟩ trivial ?_
                  obtain ⟨b21, hb21, hF⟩ := bindS hF
                  refine G.opG1 (op_indexS Try.underlying9 (sidx_ok hb21).1 (sidx_ok hb21).2 (Ev.t 82 (bS s_0)) (Ev.t 83 (bI .i64 v3.2)) rfl) rfl rfl rfl ⟨rfl, rfl, trivial⟩ trivial ?_
                  refine G.opG1 (op_eqI (Ev.t 84 (bI .u8 (b21.toNat : Int))) (Ev.c _ rfl) rfl) rfl rfl rfl ⟨rfl, trivial⟩ trivial ?_
                  refine G.opG1 (op_move (Ev.t 85 (bB (decide ((b21.toNat : Int) = 244)))) rfl) rfl rfl rfl ⟨rfl, trivial⟩ trivial ?_
                  refine ifS hF (fun hc22 hF => ?_) (fun hc22 hF => ?_)
                  · refine G.known (t := 86) hc22 rfl ?_
                    refine G.opG1 (op_move (Ev.t 0 (bS s_0)) rfl) rfl rfl rfl ⟨rfl, trivial⟩ trivial ?_
                    refine G.opG1 (op_move (Ev.t 4 (bI .i64 v3.2)) rfl) rfl rfl rfl ⟨rfl, trivial⟩ trivial ?_
                    refine G.opG1 (op_add (Ev.t 88 (bI .i64 v3.2)) (Ev.c _ rfl) rfl) rfl rfl rfl ⟨rfl, trivial⟩ trivial ?_
                    obtain ⟨b23, hb23, hF⟩ := bindS hF
                    refine G.opG1 (op_indexS Try.underlying9 (sidx_ok hb23).1 (sidx_ok hb23).2 (Ev.t 87 (bS s_0)) (Ev.t 89 (bI .i64 (IntKind.wrap .i64 (v3.2 + 1)))) rfl) rfl rfl rfl ⟨rfl, rfl, trivial⟩ trivial ?_
                    refine G.opG1 (op_gtr (Ev.t 90 (bI .u8 (b23.toNat : Int))) (Ev.c _ rfl) rfl) rfl rfl rfl ⟨rfl, trivial⟩ trivial ?_
                    refine G.opG1 (op_pickT (Ev.t 86 (bB true)) (Ev.t 91 (bB (decide (143 < (b23.toNat : Int))))) rfl) rfl rfl rfl ⟨rfl, rfl, trivial⟩ trivial ?_
                    refine G.op1 (op_pickF (Ev.t 81 (bB false)) (Ev.t 92 (bB (decide (143 < (b23.toNat : Int))))) rfl) rfl ⟨rfl, rfl, trivial⟩ trivial ?_
                    refine G.endOps ?_
                    exact G.arr (J15 (decide (143 < (b23.toNat : Int))) hF) ⟨rfl, rfl, rfl, rfl, rfl, trivial⟩ trivial rfl
                  · refine G.known (t := 86) hc22 rfl ?_
                    refine G.opN1 rfl rfl rfl rfl rfl ?_
                    refine G.opN1 rfl rfl rfl rfl rfl ?_
                    refine G.opN1 rfl rfl rfl rfl rfl ?_
                    refine G.opN1 rfl rfl rfl rfl rfl ?_
                    refine G.opN1 rfl rfl rfl rfl rfl ?_
                    refine G.opG1 (op_pickF (Ev.t 86 (bB false)) (Ev.c _ rfl) rfl) rfl rfl rfl ⟨rfl, trivial⟩ trivial ?_
                    refine G.op1 (op_pickF (Ev.t 81 (bB false)) (Ev.t 92 (bB false)) rfl) rfl ⟨rfl, rfl, trivial⟩ trivial ?_
                    refine G.endOps ?_
                    exact G.arr (J15 false hF) ⟨rfl, rfl, rfl, rfl, rfl, trivial⟩ trivial rfl
              refine ifS hF (fun hc25 hF => ?_) (fun hc25 hF => ?_)
              · refine G.known (t := 68) hc25 rfl ?_
                refine G.opN1 rfl rfl rfl rfl rfl ?_
                refine G.opN1 rfl rfl rfl rfl rfl ?_
                refine G.opN1 rfl rfl rfl rfl rfl ?_
                refine G.opN1 rfl rfl rfl rfl rfl ?_
                refine G.opN1 rfl rfl rfl rfl rfl ?_
                refine G.opU rfl rfl rfl rfl ?_
                refine G.opU rfl rfl rfl rfl ?_
                refine G.opU rfl rfl rfl rfl ?_
                refine G.opU rfl rfl rfl rfl ?_
                refine G.opU rfl rfl rfl rfl ?_
                refine G.opN1 rfl rfl rfl rfl rfl ?_
                refine G.op1 (op_pickT (Ev.t 68 (bB true)) (Ev.c _ rfl) rfl) rfl ⟨rfl, trivial⟩ trivial ?_
                exact G.arr (J24 true hF) ⟨rfl, rfl, rfl, rfl, rfl, trivial⟩ trivial rfl
              · refine G.known (t := 68) hc25 rfl ?_
                refine G.opG1 (op_move (Ev.t 0 (bS s_0)) rfl) rfl rfl rfl ⟨rfl, trivial⟩ trivial ?_
                refine G.opG1 (op_move (Ev.t 4 (bI .i64 v3.2)) rfl) rfl rfl rfl ⟨rfl, trivial⟩ trivial ?_
                obtain ⟨b26, hb26, hF⟩ := bindS hF
                refine G.opG1 (op_indexS Try.underlying9 (sidx_ok hb26).1 (sidx_ok hb26).2 (Ev.t 69 (bS s_0)) (Ev.t 70 (bI .i64 v3.2)) rfl) rfl rfl rfl ⟨rfl, rfl, trivial⟩ trivial ?_
                refine G.opG1 (op_eqI (Ev.t 71 (bI .u8 (b26.toNat : Int))) (Ev.c _ rfl) rfl) rfl rfl rfl ⟨rfl, trivial⟩ trivial ?_
                refine G.opG1 (op_move (Ev.t 72 (bB (decide ((b26.toNat : Int) = 240)))) rfl) rfl rfl rfl ⟨rfl, trivial⟩ trivial ?_
                refine ifS hF (fun hc27 hF => ?_) (fun hc27 hF => ?_)
                · refine G.known (t := 73) hc27 rfl ?_
                  refine G.opG1 (op_move (Ev.t 0 (bS s_0)) rfl) rfl rfl rfl ⟨rfl, trivial⟩ trivial ?_
                  refine G.opG1 (op_move (Ev.t 4 (bI .i64 v3.2)) rfl) rfl rfl rfl ⟨rfl, trivial⟩ trivial ?_
                  refine G.opG1 (op_add (Ev.t 75 (bI .i64 v3.2)) (Ev.c _ rfl) rfl) rfl rfl rfl ⟨rfl, trivial⟩ trivial ?_
                  obtain ⟨b28, hb28, hF⟩ := bindS hF
                  refine G.opG1 (op_indexS Try.underlying9 (sidx_ok hb28).1 (sidx_ok hb28).2 (Ev.t 74 (bS s_0)) (Ev.t 76 (bI .i64 (IntKind.wrap .i64 (v3.2 + 1)))) rfl) rfl rfl rfl ⟨rfl, rfl, trivial⟩ trivial ?_
                  refine G.opG1 (op_lss (Ev.t 77 (bI .u8 (b28.toNat : Int))) (Ev.c _ rfl) rfl) rfl rfl rfl ⟨rfl, trivial⟩ trivial ?_
                  refine G.opG1 (op_pickT (Ev.t 73 (bB true)) (Ev.t 78 (bB (decide ((b28.toNat : Int) < 144)))) rfl) rfl rfl rfl ⟨rfl, rfl, trivial⟩ trivial ?_
                  refine G.op1 (op_pickF (Ev.t 68 (bB false)) (Ev.t 79 (bB (decide ((b28.toNat : Int) < 144)))) rfl) rfl ⟨rfl, rfl, trivial⟩ trivial ?_
                  exact G.arr (J24 (decide ((b28.toNat : Int) < 144)) hF) ⟨rfl, rfl, rfl, rfl, rfl, trivial⟩ trivial rfl
                · refine G.known (t := 73) hc27 rfl ?_
                  refine G.opN1 rfl rfl rfl rfl rfl ?_
                  refine G.opN1 rfl rfl rfl rfl rfl ?_
                  refine G.opN1 rfl rfl rfl rfl rfl ?_
                  refine G.opN1 rfl rfl rfl rfl rfl ?_
                  refine G.opN1 rfl rfl rfl rfl rfl ?_
                  refine G.opG1 (op_pickF (Ev.t 73 (bB false)) (Ev.c _ rfl) rfl) rfl rfl rfl ⟨rfl, trivial⟩ trivial ?_
                  refine G.op1 (op_pickF (Ev.t 68 (bB false)) (Ev.t 79 (bB false)) rfl) rfl ⟨rfl, rfl, trivial⟩ trivial ?_
                  exact G.arr (J24 false hF) ⟨rfl, rfl, rfl, rfl, rfl, trivial⟩ trivial rfl
            refine ifS hF (fun hc30 hF => ?_) (fun hc30 hF => ?_)
            · refine G.known (t := 55) hc30 rfl ?_
              refine G.opN1 rfl rfl rfl rfl rfl ?_
              refine G.opN1 rfl rfl rfl rfl rfl ?_
              refine G.opN1 rfl rfl rfl rfl rfl ?_
              refine G.opN1 rfl rfl rfl rfl rfl ?_
              refine G.opN1 rfl rfl rfl rfl rfl ?_
              refine G.opU rfl rfl rfl rfl ?_
              refine G.opU rfl rfl rfl rfl ?_
              refine G.opU rfl rfl rfl rfl ?_
              refine G.opU rfl rfl rfl rfl ?_
              refine G.opU rfl rfl rfl rfl ?_
              refine G.opN1 rfl rfl rfl rfl rfl ?_
              refine G.op1 (op_pickT (Ev.t 55 (bB true)) (Ev.c _ rfl) rfl) rfl ⟨rfl, trivial⟩ trivial ?_
              exact G.arr (J29 true hF) ⟨rfl, rfl, rfl, rfl, rfl, trivial⟩ trivial rfl
            · refine G.known (t := 55) hc30 rfl ?_
              refine G.opG1 (op_move (Ev.t 0 (bS s_0)) rfl) rfl rfl rfl ⟨rfl, trivial⟩ trivial ?_
              refine G.opG1 (op_move (Ev.t 4 (bI .i64 v3.2)) rfl) rfl rfl rfl ⟨rfl, trivial⟩ trivial ?_
              obtain ⟨b31, hb31, hF⟩ := bindS hF
              refine G.opG1 (op_indexS Try.underlying9 (sidx_ok hb31).1 (sidx_ok hb31).2 (Ev.t 56 (bS s_0)) (Ev.t 57 (bI .i64 v3.2)) rfl) rfl rfl rfl ⟨rfl, rfl, trivial⟩ trivial ?_
              refine G.opG1 (op_eqI (Ev.t 58 (bI .u8 (b31.toNat : Int))) (Ev.c _ rfl) rfl) rfl rfl rfl ⟨rfl, trivial⟩ trivial ?_
              refine G.opG1 (op_move (Ev.t 59 (bB (decide ((b31.toNat : Int) = 237)))) rfl) rfl rfl rfl ⟨rfl, trivial⟩ trivial ?_
              refine ifS hF (fun hc32 hF => ?_) (fun hc32 hF => ?_)
              · refine G.known (t := 60) hc32 rfl ?_
                refine G.opG1 (op_move (Ev.t 0 (bS s_0)) rfl) rfl rfl rfl ⟨rfl, trivial⟩ trivial ?_
                refine G.opG1 (op_move (Ev.t 4 (bI .i64 v3.2)) rfl) rfl rfl rfl ⟨rfl, trivial⟩ trivial ?_
                refine G.opG1 (op_add (Ev.t 62 (bI .i64 v3.2)) (Ev.c _ rfl) rfl) rfl rfl rfl ⟨rfl, trivial⟩ trivial ?_
                obtain ⟨b33, hb33, hF⟩ := bindS hF
                refine G.opG1 (op_indexS Try.underlying9 (sidx_ok hb33).1 (sidx_ok hb33).2 (Ev.t 61 (bS s_0)) (Ev.t 63 (bI .i64 (IntKind.wrap .i64 (v3.2 + 1)))) rfl) rfl rfl rfl ⟨rfl, rfl, trivial⟩ trivial ?_
                refine G.opG1 (op_gtr (Ev.t 64 (bI .u8 (b33.toNat : Int))) (Ev.c _ rfl) rfl) rfl rfl rfl ⟨rfl, trivial⟩ trivial ?_
                refine G.opG1 (op_pickT (Ev.t 60 (bB true)) (Ev.t 65 (bB (decide (159 < (b33.toNat : Int))))) rfl) rfl rfl rfl ⟨rfl, rfl, trivial⟩ trivial ?_
                refine G.op1 (op_pickF (Ev.t 55 (bB false)) (Ev.t 66 (bB (decide (159 < (b33.toNat : Int))))) rfl) rfl ⟨rfl, rfl, trivial⟩ trivial ?_
                exact G.arr (J29 (decide (159 < (b33.toNat : Int))) hF) ⟨rfl, rfl, rfl, rfl, rfl, trivial⟩ trivial rfl
              · refine G.known (t := 60) hc32 rfl ?_
                refine G.opN1 rfl rfl rfl rfl rfl ?_
                refine G.opN1 rfl rfl rfl rfl rfl ?_
                refine G.opN1 rfl rfl rfl rfl rfl ?_
                refine G.opN1 rfl rfl rfl rfl rfl ?_
                refine G.opN1 rfl rfl rfl rfl rfl ?_
                refine G.opG1 (op_pickF (Ev.t 60 (bB false)) (Ev.c _ rfl) rfl) rfl rfl rfl ⟨rfl, trivial⟩ trivial ?_
                refine G.op1 (op_pickF (Ev.t 55 (bB false)) (Ev.t 66 (bB false)) rfl) rfl ⟨rfl, rfl, trivial⟩ trivial ?_
                exact G.arr (J29 false hF) ⟨rfl, rfl, rfl, rfl, rfl, trivial⟩ trivial rfl
          refine ifS hF (fun hc35 hF => ?_) (fun hc35 hF => ?_)
          · refine G.known (t := 48) hc35 rfl ?_
            refine G.opG1 (op_move (Ev.t 0 (bS s_0)) rfl) rfl rfl rfl ⟨rfl, trivial⟩ trivial ?_
            refine G.opG1 (op_move (Ev.t 4 (bI .i64 v3.2)) rfl) rfl rfl rfl ⟨rfl, trivial⟩ trivial ?_
            refine G.opG1 (op_add (Ev.t 50 (bI .i64 v3.2)) (Ev.c _ rfl) rfl) rfl rfl rfl ⟨rfl, trivial⟩ trivial ?_
            obtain ⟨b36, hb36, hF⟩ := bindS hF
            refine G.opG1 (op_indexS Try.underlying9 (sidx_ok hb36).1 (sidx_ok hb36).2 (Ev.t 49 (bS s_0)) (Ev.t 51 (bI .i64 (IntKind.wrap .i64 (v3.2 + 1)))) rfl) rfl rfl rfl ⟨rfl, rfl, trivial⟩ trivial ?_
            refine G.opG1 (op_lss (Ev.t 52 (bI .u8 (b36.toNat : Int))) (Ev.c _ rfl) rfl) rfl rfl rfl ⟨rfl, trivial⟩ trivial ?_
            refine G.op1 (op_pickT (Ev.t 48 (bB true)) (Ev.t 53 (bB (decide ((b36.toNat : Int) < 160)))) rfl) rfl ⟨rfl, rfl, trivial⟩ trivial ?_
            exact G.arr (J34 (decide ((b36.toNat : Int) < 160)) hF) ⟨rfl, rfl, rfl, rfl, rfl, trivial⟩ trivial rfl
          · refine G.known (t := 48) hc35 rfl ?_
            refine G.opN1 rfl rfl rfl rfl rfl ?_
            refine G.opN1 rfl rfl rfl rfl rfl ?_
            refine G.opN1 rfl rfl rfl rfl rfl ?_
            refine G.opN1 rfl rfl rfl rfl rfl ?_
            refine G.opN1 rfl rfl rfl rfl rfl ?_
            refine G.op1 (op_pickF (Ev.t 48 (bB false)) (Ev.c _ rfl) rfl) rfl ⟨rfl, trivial⟩ trivial ?_
            exact G.arr (J34 false hF) ⟨rfl, rfl, rfl, rfl, rfl, trivial⟩ trivial rfl
        refine G.block ?_
        refine G.keep (sl' := [(0, .one (bS s_0)), (3, .one (bI .i64 v3.1)), (4, .one (bI .i64 v3.2)), (5, .one (bI .i64 r9)), (6, .one (bI .i64 1))]) (hp' := []) ⟨rfl, rfl, rfl, rfl, rfl, trivial⟩ trivial rfl ?_
        refine G.loopF (fun (v38 : Int) => ⟨[(0, .one (bS s_0)), (3, .one (bI .i64 v3.1)), (4, .one (bI .i64 v3.2)), (5, .one (bI .i64 r9)), (6, .one (bI .i64 v38))], []⟩) hF rfl (fun K41 again40 v38 J39 hF => ?_)
        unfold ref02_Runes_l9 at hF
        refine G.seq ?_
        refine G.seq ?_
        refine G.region ?_
        refine G.op1 (op_move (Ev.t 6 (bI .i64 v38)) rfl) rfl ⟨rfl, trivial⟩ trivial ?_
        refine G.op1 (op_move (Ev.t 5 (bI .i64 r9)) rfl) rfl ⟨rfl, trivial⟩ trivial ?_
        refine G.op1 (op_lss (Ev.t 25 (bI .i64 v38)) (Ev.t 26 (bI .i64 r9)) rfl) rfl ⟨rfl, rfl, trivial⟩ trivial ?_
        refine G.endOps ?_
        refine ifS hF (fun hc42 hF => ?_) (fun hc42 hF => ?_)
        · refine G.cond rfl (fun _ => ?_) (fun hx => by rw [hc42] at hx; cases hx)
          refine G.skip ?_
          refine G.seq ?_
          refine G.block ?_
          refine G.seq ?_
          refine G.region ?_
          refine G.op1 (op_move (Ev.t 0 (bS s_0)) rfl) rfl ⟨rfl, trivial⟩ trivial ?_
          refine G.op1 (op_move (Ev.t 4 (bI .i64 v3.2)) rfl) rfl ⟨rfl, trivial⟩ trivial ?_
          refine G.op1 (op_move (Ev.t 6 (bI .i64 v38)) rfl) rfl ⟨rfl, trivial⟩ trivial ?_
          refine G.op1 (op_add (Ev.t 31 (bI .i64 v3.2)) (Ev.t 32 (bI .i64 v38)) rfl) rfl ⟨rfl, rfl, trivial⟩ trivial ?_
          obtain ⟨b43, hb43, hF⟩ := bindS hF
          refine G.op1 (op_indexS Try.underlying9 (sidx_ok hb43).1 (sidx_ok hb43).2 (Ev.t 30 (bS s_0)) (Ev.t 33 (bI .i64 (IntKind.wrap .i64 (v3.2 + v38)))) rfl) rfl ⟨rfl, rfl, trivial⟩ trivial ?_
          refine G.op1 (op_lss (Ev.t 34 (bI .u8 (b43.toNat : Int))) (Ev.c _ rfl) rfl) rfl ⟨rfl, trivial⟩ trivial ?_
          refine G.op1 (op_move (Ev.t 35 (bB (decide ((b43.toNat : Int) < 128)))) rfl) rfl ⟨rfl, trivial⟩ trivial ?_
          refine ifS hF (fun hc44 hF => ?_) (fun hc44 hF => ?_)
          · refine G.known (t := 36) hc44 rfl ?_
            refine G.opN1 rfl rfl rfl rfl rfl ?_
            refine G.opN1 rfl rfl rfl rfl rfl ?_
            refine G.opN1 rfl rfl rfl rfl rfl ?_
            refine G.opN1 rfl rfl rfl rfl rfl ?_
            refine G.opN1 rfl rfl rfl rfl rfl ?_
            refine G.opN1 rfl rfl rfl rfl rfl ?_
            refine G.op1 (op_pickT (Ev.t 36 (bB true)) (Ev.c _ rfl) rfl) rfl ⟨rfl, trivial⟩ trivial ?_
            refine G.endOps ?_
            refine G.condT rfl ?_
            refine G.seq ?_
            refine G.region ?_
            refine G.op1 (op_assign (Ev.c _ rfl) rfl) rfl trivial trivial ?_
            refine G.endOps ?_
            cases hF
            exact G.ret1 Try.results52 (RVar.tmp 2 _) ⟨rfl, trivial⟩ trivial
          · refine G.known (t := 36) hc44 rfl ?_
            refine G.opG1 (op_move (Ev.t 0 (bS s_0)) rfl) rfl rfl rfl ⟨rfl, trivial⟩ trivial ?_
            refine G.opG1 (op_move (Ev.t 4 (bI .i64 v3.2)) rfl) rfl rfl rfl ⟨rfl, trivial⟩ trivial ?_
            refine G.opG1 (op_move (Ev.t 6 (bI .i64 v38)) rfl) rfl rfl rfl ⟨rfl, trivial⟩ trivial ?_
            refine G.opG1 (op_add (Ev.t 38 (bI .i64 v3.2)) (Ev.t 39 (bI .i64 v38)) rfl) rfl rfl rfl ⟨rfl, rfl, trivial⟩ trivial ?_
            obtain ⟨b45, hb45, hF⟩ := bindS hF
            refine G.opG1 (op_indexS Try.underlying9 (sidx_ok hb45).1 (sidx_ok hb45).2 (Ev.t 37 (bS s_0)) (Ev.t 40 (bI .i64 (IntKind.wrap .i64 (v3.2 + v38)))) rfl) rfl rfl rfl ⟨rfl, rfl, trivial⟩ trivial ?_
            refine G.opG1 (op_gtr (Ev.t 41 (bI .u8 (b45.toNat : Int))) (Ev.c _ rfl) rfl) rfl rfl rfl ⟨rfl, trivial⟩ trivial ?_
            refine G.op1 (op_pickF (Ev.t 36 (bB false)) (Ev.t 42 (bB (decide (191 < (b45.toNat : Int))))) rfl) rfl ⟨rfl, rfl, trivial⟩ trivial ?_
            refine G.endOps ?_
            refine ifS hF (fun hc46 hF => ?_) (fun hc46 hF => ?_)
            · refine G.cond rfl (fun _ => ?_) (fun hx => by rw [hc46] at hx; cases hx)
              refine G.seq ?_
              refine G.region ?_
              refine G.op1 (op_assign (Ev.c _ rfl) rfl) rfl trivial trivial ?_
              refine G.endOps ?_
              cases hF
              exact G.ret1 Try.results52 (RVar.tmp 2 _) ⟨rfl, trivial⟩ trivial
            · refine G.cond rfl (fun hx => by rw [hc46] at hx; cases hx) (fun _ => ?_)
              refine G.skip ?_
              refine G.endBlock ?_
              refine G.region ?_
              refine G.op1 (op_move (Ev.t 6 (bI .i64 v38)) rfl) rfl ⟨rfl, trivial⟩ trivial ?_
              refine G.op1 (op_add (Ev.t 28 (bI .i64 v38)) (Ev.c _ rfl) rfl) rfl ⟨rfl, trivial⟩ trivial ?_
              refine G.op1 (op_assign (Ev.t 29 (bI .i64 (IntKind.wrap .i64 (v38 + 1)))) rfl) rfl ⟨rfl, trivial⟩ trivial ?_
              refine G.endOps ?_
              exact G.arr (J39 (IntKind.wrap .i64 (v38 + 1)) hF) ⟨rfl, rfl, rfl, rfl, rfl, trivial⟩ trivial rfl
        · refine G.cond rfl (fun hx => by rw [hc42] at hx; cases hx) (fun _ => ?_)
          refine G.exit ?_
          refine GX.c ?_
          refine GX.q ?_
          refine GX.bYes ?_
          exact G.arr (J37 () hF) ⟨rfl, rfl, rfl, rfl, trivial⟩ trivial rfl
    refine G.region ?_
    refine G.op1 (op_move (Ev.t 5 (bI .i64 r9)) rfl) rfl ⟨rfl, trivial⟩ trivial ?_
    refine G.op1 (op_eqI (Ev.t 15 (bI .i64 r9)) (Ev.c _ rfl) rfl) rfl ⟨rfl, trivial⟩ trivial ?_
    refine G.op1 (op_move (Ev.t 16 (bB (decide (r9 = 0)))) rfl) rfl ⟨rfl, trivial⟩ trivial ?_
    refine ifS hF (fun hc48 hF => ?_) (fun hc48 hF => ?_)
    · refine G.known (t := 17) hc48 rfl ?_
      refine G.opN1 rfl rfl rfl rfl rfl ?_
      refine G.opN1 rfl rfl rfl rfl rfl ?_
      refine G.opN1 rfl rfl rfl rfl rfl ?_
      refine G.opN1 rfl rfl rfl rfl rfl ?_
      refine G.opN1 rfl rfl rfl rfl rfl ?_
      refine G.opN1 rfl rfl rfl rfl rfl ?_
      refine G.op1 (op_pickT (Ev.t 17 (bB true)) (Ev.c _ rfl) rfl) rfl ⟨rfl, trivial⟩ trivial ?_
      refine G.endOps ?_
      exact G.arr (J47 true hF) ⟨rfl, rfl, rfl, rfl, rfl, trivial⟩ trivial rfl
    · refine G.known (t := 17) hc48 rfl ?_
      refine G.opG1 (op_move (Ev.t 5 (bI .i64 r9)) rfl) rfl rfl rfl ⟨rfl, trivial⟩ trivial ?_
      refine G.opG1 (op_move (Ev.t 0 (bS s_0)) rfl) rfl rfl rfl ⟨rfl, trivial⟩ trivial ?_
      refine G.opG1 (op_lenS Try.underlying9 (Ev.t 19 (bS s_0)) rfl) rfl rfl rfl ⟨rfl, trivial⟩ trivial ?_
      refine G.opG1 (op_move (Ev.t 4 (bI .i64 v3.2)) rfl) rfl rfl rfl ⟨rfl, trivial⟩ trivial ?_
      refine G.opG1 (op_sub (Ev.t 20 (bI .i64 (s_0.size : Int))) (Ev.t 21 (bI .i64 v3.2)) rfl) rfl rfl rfl ⟨rfl, rfl, trivial⟩ trivial ?_
      refine G.opG1 (op_gtr (Ev.t 18 (bI .i64 r9)) (Ev.t 22 (bI .i64 (IntKind.wrap .i64 ((s_0.size : Int) - v3.2)))) rfl) rfl rfl rfl ⟨rfl, rfl, trivial⟩ trivial ?_
      refine G.op1 (op_pickF (Ev.t 17 (bB false)) (Ev.t 23 (bB (decide ((IntKind.wrap .i64 ((s_0.size : Int) - v3.2)) < r9)))) rfl) rfl ⟨rfl, rfl, trivial⟩ trivial ?_
      refine G.endOps ?_
      exact G.arr (J47 (decide ((IntKind.wrap .i64 ((s_0.size : Int) - v3.2)) < r9)) hF) ⟨rfl, rfl, rfl, rfl, rfl, trivial⟩ trivial rfl
  · refine G.cond rfl (fun hx => by rw [hc7] at hx; cases hx) (fun _ => ?_)
    refine G.exit ?_
    refine GX.c ?_
    refine GX.q ?_
    refine GX.bYes ?_
    exact G.arr (J2 v3.1 hF) ⟨rfl, trivial⟩ trivial rfl


set_option maxRecDepth 20000 in
set_option maxHeartbeats 2000000 in
theorem ct_ref02_Check (s_0 : ByteArray) (r : Bool) (hF : ref02_Check s_0 = some r) : Ct Try.prog 37 [.g (.d (.v (.string s_0)))] (.one (.d (.v (.bool r)))) := by
  unfold ref02_Check at hF
  refine Ct.intro Try.func37 rfl Try.ntmps37 rfl rfl fun M w => ?_
  refine G.seq ?_
  refine G.region ?_
  refine G.op1 (op_assign (Ev.c _ rfl) rfl) rfl trivial trivial ?_
  refine G.endOps ?_
  refine G.seq ?_
  refine G.region ?_
  refine G.op1 (op_move (Ev.t 0 (bS s_0)) rfl) rfl ⟨rfl, trivial⟩ trivial ?_
  obtain ⟨r1, hr1, hF⟩ := bindS hF
  refine G.op1 (op_callQ (sv := .one (bI .i64 r1)) cf52 (ct_ref02_Runes s_0 r1 hr1) rfl rfl (EvQL.cons (EvQ.g (Ev.t 5 (bS s_0))) EvQL.nil) rfl) rfl ⟨rfl, trivial⟩ trivial ?_
  refine G.op1 (op_assign (Ev.t 6 (bI .i64 r1)) rfl) rfl ⟨rfl, trivial⟩ trivial ?_
  refine G.endOps ?_
  refine G.seq ?_
  refine G.seq ?_
  refine G.region ?_
  refine G.op1 (op_assign (Ev.c _ rfl) rfl) rfl trivial trivial ?_
  refine G.endOps ?_
  refine G.joinC (T := Unit) (fun y2 => ⟨[(3, .one (bI .i64 r1))], []⟩) (fun y2 => ref02_Check_k1 r1 y2 = some r) (fun y2 hF => ?_) (fun J4 => ?_)
  · unfold ref02_Check_k1 at hF
    refine G.seq ?_
    refine G.region ?_
    refine G.op1 (op_move (Ev.t 3 (bI .i64 r1)) rfl) rfl ⟨rfl, trivial⟩ trivial ?_
    refine G.op1 (op_geq (Ev.t 17 (bI .i64 r1)) (Ev.c _ rfl) rfl) rfl ⟨rfl, trivial⟩ trivial ?_
    refine G.op1 (op_move (Ev.t 18 (bB (decide (1 ≤ r1)))) rfl) rfl ⟨rfl, trivial⟩ trivial ?_
    refine ifS hF (fun hc3 hF => ?_) (fun hc3 hF => ?_)
    · refine G.known (t := 19) hc3 rfl ?_
      refine G.opG1 (op_move (Ev.t 3 (bI .i64 r1)) rfl) rfl rfl rfl ⟨rfl, trivial⟩ trivial ?_
      refine G.opG1 (op_leq (Ev.t 20 (bI .i64 r1)) (Ev.c _ rfl) rfl) rfl rfl rfl ⟨rfl, trivial⟩ trivial ?_
      refine G.op1 (op_pickT (Ev.t 19 (bB true)) (Ev.t 21 (bB (decide (r1 ≤ 8)))) rfl) rfl ⟨rfl, rfl, trivial⟩ trivial ?_
      refine G.op1 (op_assign (Ev.t 22 (bB (decide (r1 ≤ 8)))) rfl) rfl ⟨rfl, trivial⟩ trivial ?_
      refine G.endOps ?_
      cases hF
      exact G.ret1 Try.results37 (RVar.tmp 2 _) ⟨rfl, trivial⟩ trivial
    · refine G.known (t := 19) hc3 rfl ?_
      refine G.opN1 rfl rfl rfl rfl rfl ?_
      refine G.opN1 rfl rfl rfl rfl rfl ?_
      refine G.op1 (op_pickF (Ev.t 19 (bB false)) (Ev.c _ rfl) rfl) rfl ⟨rfl, trivial⟩ trivial ?_
      refine G.op1 (op_assign (Ev.t 22 (bB false)) rfl) rfl ⟨rfl, trivial⟩ trivial ?_
      refine G.endOps ?_
      cases hF
      exact G.ret1 Try.results37 (RVar.tmp 2 _) ⟨rfl, trivial⟩ trivial
  refine G.block ?_
  refine G.keep (sl' := [(0, .one (bS s_0)), (3, .one (bI .i64 r1)), (4, .one (bI .i64 0))]) (hp' := []) ⟨rfl, rfl, rfl, trivial⟩ trivial rfl ?_
  refine G.loopF (fun (v5 : Int) => ⟨[(0, .one (bS s_0)), (3, .one (bI .i64 r1)), (4, .one (bI .i64 v5))], []⟩) hF rfl (fun K8 again7 v5 J6 hF => ?_)
  unfold ref02_Check_l2 at hF
  refine G.seq ?_
  refine G.seq ?_
  refine G.region ?_
  refine G.op1 (op_move (Ev.t 4 (bI .i64 v5)) rfl) rfl ⟨rfl, trivial⟩ trivial ?_
  refine G.op1 (op_move (Ev.t 0 (bS s_0)) rfl) rfl ⟨rfl, trivial⟩ trivial ?_
  refine G.op1 (op_lenS Try.underlying9 (Ev.t 8 (bS s_0)) rfl) rfl ⟨rfl, trivial⟩ trivial ?_
  refine G.op1 (op_lss (Ev.t 7 (bI .i64 v5)) (Ev.t 9 (bI .i64 (s_0.size : Int))) rfl) rfl ⟨rfl, rfl, trivial⟩ trivial ?_
  refine G.endOps ?_
  refine ifS hF (fun hc9 hF => ?_) (fun hc9 hF => ?_)
  · refine G.cond rfl (fun _ => ?_) (fun hx => by rw [hc9] at hx; cases hx)
    refine G.skip ?_
    refine G.seq ?_
    refine G.block ?_
    refine G.seq ?_
    refine G.region ?_
    refine G.op1 (op_move (Ev.t 0 (bS s_0)) rfl) rfl ⟨rfl, trivial⟩ trivial ?_
    refine G.op1 (op_move (Ev.t 4 (bI .i64 v5)) rfl) rfl ⟨rfl, trivial⟩ trivial ?_
    obtain ⟨b10, hb10, hF⟩ := bindS hF
    refine G.op1 (op_indexS Try.underlying9 (sidx_ok hb10).1 (sidx_ok hb10).2 (Ev.t 13 (bS s_0)) (Ev.t 14 (bI .i64 v5)) rfl) rfl ⟨rfl, rfl, trivial⟩ trivial ?_
    refine G.op1 (op_lss (Ev.t 15 (bI .u8 (b10.toNat : Int))) (Ev.c _ rfl) rfl) rfl ⟨rfl, trivial⟩ trivial ?_
    refine G.endOps ?_
    refine ifS hF (fun hc11 hF => ?_) (fun hc11 hF => ?_)
    · refine G.cond rfl (fun _ => ?_) (fun hx => by rw [hc11] at hx; cases hx)
      refine G.seq ?_
      refine G.region ?_
      refine G.op1 (op_assign (Ev.c _ rfl) rfl) rfl trivial trivial ?_
      refine G.endOps ?_
      cases hF
      exact G.ret1 Try.results37 (RVar.tmp 2 _) ⟨rfl, trivial⟩ trivial
    · refine G.cond rfl (fun hx => by rw [hc11] at hx; cases hx) (fun _ => ?_)
      refine G.skip ?_
      refine G.endBlock ?_
      refine G.region ?_
      refine G.op1 (op_move (Ev.t 4 (bI .i64 v5)) rfl) rfl ⟨rfl, trivial⟩ trivial ?_
      refine G.op1 (op_add (Ev.t 11 (bI .i64 v5)) (Ev.c _ rfl) rfl) rfl ⟨rfl, trivial⟩ trivial ?_
      refine G.op1 (op_assign (Ev.t 12 (bI .i64 (IntKind.wrap .i64 (v5 + 1)))) rfl) rfl ⟨rfl, trivial⟩ trivial ?_
      refine G.endOps ?_
      exact G.arr (J6 (IntKind.wrap .i64 (v5 + 1)) hF) ⟨rfl, rfl, rfl, trivial⟩ trivial rfl
  · refine G.cond rfl (fun hx => by rw [hc9] at hx; cases hx) (fun _ => ?_)
    refine G.exit ?_
    refine GX.c ?_
    refine GX.q ?_
    refine GX.bYes ?_
    exact G.arr (J4 () hF) ⟨rfl, trivial⟩ trivial rfl


set_option maxRecDepth 20000 in
set_option maxHeartbeats 2000000 in
theorem ct_ref03_Check (s_0 : Api_Stamp) (r : Bool) (hF : ref03_Check s_0 = some r) : Ct Try.prog 38 [.g (.agg (encApi_Stamp s_0))] (.one (.d (.v (.bool r)))) := by
  unfold ref03_Check at hF
  refine Ct.intro Try.func38 rfl Try.ntmps38 rfl rfl fun M w => ?_
  refine G.seq ?_
  refine G.region ?_
  refine G.op2 (op_boxA (k := 1001) (Ev.t 0 (.g (.agg [.v (.int .i64 s_0.N), .v (.int .i64 s_0.Site)]))) rfl) rfl ⟨rfl, trivial⟩ ⟨rfl, trivial⟩ ?_
  refine G.op1 (op_assign (Ev.c _ rfl) rfl) rfl trivial trivial ?_
  refine G.endOps ?_
  refine G.seq ?_
  refine G.region ?_
  refine G.op1 (op_fieldP (off' := 0) Try.underlying27 rfl ti3 (by decide) rfl (Ev.t 1 (.ptr 1001 0)) rfl) rfl ⟨rfl, trivial⟩ trivial ?_
  refine G.op1 (op_load1P (c := bI .i64 s_0.N) Try.underlying3 rfl rfl (Ev.t 3 (.ptr 1001 0)) rfl) rfl ⟨rfl, trivial⟩ ⟨rfl, trivial⟩ ?_
  refine G.op1 (op_geq (Ev.t 4 (bI .i64 s_0.N)) (Ev.c _ rfl) rfl) rfl ⟨rfl, trivial⟩ trivial ?_
  refine G.op1 (op_move (Ev.t 5 (bB (decide (1 ≤ s_0.N)))) rfl) rfl ⟨rfl, trivial⟩ trivial ?_
  refine G.joinL (T := Bool) 4 (fun y1 => ⟨[(1, .one (.ptr 1001 0)), (10, .one (bB y1))], [(1001, some (.blk 27 [bI .i64 s_0.N, bI .i64 s_0.Site]))]⟩) (fun y1 => ref03_Check_k1 s_0 y1 = some r) (fun y1 hF => ?_) (fun J6 => ?_)
  · unfold ref03_Check_k1 at hF
    refine G.op1 (op_move (Ev.t 10 (bB y1)) rfl) rfl ⟨rfl, trivial⟩ trivial ?_
    refine G.joinL (T := Bool) 4 (fun y2 => ⟨[(1, .one (.ptr 1001 0)), (15, .one (bB y2))], [(1001, some (.blk 27 [bI .i64 s_0.N, bI .i64 s_0.Site]))]⟩) (fun y2 => ref03_Check_k2 s_0 y2 = some r) (fun y2 hF => ?_) (fun J4 => ?_)
    · unfold ref03_Check_k2 at hF
      refine G.op1 (op_move (Ev.t 15 (bB y2)) rfl) rfl ⟨rfl, trivial⟩ trivial ?_
      refine ifS hF (fun hc3 hF => ?_) (fun hc3 hF => ?_)
      · refine G.known (t := 16) hc3 rfl ?_
        refine G.opG1 (op_fieldP (off' := 1) Try.underlying27 rfl ti3 (by decide) rfl (Ev.t 1 (.ptr 1001 0)) rfl) rfl rfl rfl ⟨rfl, trivial⟩ trivial ?_
        refine G.opG1 (op_load1P (c := bI .i64 s_0.Site) Try.underlying3 rfl rfl (Ev.t 17 (.ptr 1001 1)) rfl) rfl rfl rfl ⟨rfl, trivial⟩ ⟨rfl, trivial⟩ ?_
        refine G.opG1 (op_lss (Ev.t 18 (bI .i64 s_0.Site)) (Ev.c _ rfl) rfl) rfl rfl rfl ⟨rfl, trivial⟩ trivial ?_
        refine G.op1 (op_pickT (Ev.t 16 (bB true)) (Ev.t 19 (bB (decide (s_0.Site < 6)))) rfl) rfl ⟨rfl, rfl, trivial⟩ trivial ?_
        refine G.op1 (op_assign (Ev.t 20 (bB (decide (s_0.Site < 6)))) rfl) rfl ⟨rfl, trivial⟩ trivial ?_
        refine G.endOps ?_
        cases hF
        exact G.ret1 Try.results38 (RVar.tmp 2 _) ⟨rfl, trivial⟩ trivial
      · refine G.known (t := 16) hc3 rfl ?_
        refine G.opN1 rfl rfl rfl rfl rfl ?_
        refine G.opN1 rfl rfl rfl rfl rfl ?_
        refine G.opN1 rfl rfl rfl rfl rfl ?_
        refine G.op1 (op_pickF (Ev.t 16 (bB false)) (Ev.c _ rfl) rfl) rfl ⟨rfl, trivial⟩ trivial ?_
        refine G.op1 (op_assign (Ev.t 20 (bB false)) rfl) rfl ⟨rfl, trivial⟩ trivial ?_
        refine G.endOps ?_
        cases hF
        exact G.ret1 Try.results38 (RVar.tmp 2 _) ⟨rfl, trivial⟩ trivial
    refine ifS hF (fun hc5 hF => ?_) (fun hc5 hF => ?_)
    · refine G.known (t := 11) hc5 rfl ?_
      refine G.opG1 (op_fieldP (off' := 1) Try.underlying27 rfl ti3 (by decide) rfl (Ev.t 1 (.ptr 1001 0)) rfl) rfl rfl rfl ⟨rfl, trivial⟩ trivial ?_
      refine G.opG1 (op_load1P (c := bI .i64 s_0.Site) Try.underlying3 rfl rfl (Ev.t 12 (.ptr 1001 1)) rfl) rfl rfl rfl ⟨rfl, trivial⟩ ⟨rfl, trivial⟩ ?_
      refine G.opG1 (op_geq (Ev.t 13 (bI .i64 s_0.Site)) (Ev.c _ rfl) rfl) rfl rfl rfl ⟨rfl, trivial⟩ trivial ?_
      refine G.op1 (op_pickT (Ev.t 11 (bB true)) (Ev.t 14 (bB (decide (0 ≤ s_0.Site)))) rfl) rfl ⟨rfl, rfl, trivial⟩ trivial ?_
      exact G.arr (J4 (decide (0 ≤ s_0.Site)) hF) ⟨rfl, rfl, trivial⟩ ⟨rfl, trivial⟩ rfl
    · refine G.known (t := 11) hc5 rfl ?_
      refine G.opN1 rfl rfl rfl rfl rfl ?_
      refine G.opN1 rfl rfl rfl rfl rfl ?_
      refine G.opN1 rfl rfl rfl rfl rfl ?_
      refine G.op1 (op_pickF (Ev.t 11 (bB false)) (Ev.c _ rfl) rfl) rfl ⟨rfl, trivial⟩ trivial ?_
      exact G.arr (J4 false hF) ⟨rfl, rfl, trivial⟩ ⟨rfl, trivial⟩ rfl
  refine ifS hF (fun hc7 hF => ?_) (fun hc7 hF => ?_)
  · refine G.known (t := 6) hc7 rfl ?_
    refine G.opG1 (op_fieldP (off' := 0) Try.underlying27 rfl ti3 (by decide) rfl (Ev.t 1 (.ptr 1001 0)) rfl) rfl rfl rfl ⟨rfl, trivial⟩ trivial ?_
    refine G.opG1 (op_load1P (c := bI .i64 s_0.N) Try.underlying3 rfl rfl (Ev.t 7 (.ptr 1001 0)) rfl) rfl rfl rfl ⟨rfl, trivial⟩ ⟨rfl, trivial⟩ ?_
    refine G.opG1 (op_leq (Ev.t 8 (bI .i64 s_0.N)) (Ev.c _ rfl) rfl) rfl rfl rfl ⟨rfl, trivial⟩ trivial ?_
    refine G.op1 (op_pickT (Ev.t 6 (bB true)) (Ev.t 9 (bB (decide (s_0.N ≤ 1099511627776)))) rfl) rfl ⟨rfl, rfl, trivial⟩ trivial ?_
    exact G.arr (J6 (decide (s_0.N ≤ 1099511627776)) hF) ⟨rfl, rfl, trivial⟩ ⟨rfl, trivial⟩ rfl
  · refine G.known (t := 6) hc7 rfl ?_
    refine G.opN1 rfl rfl rfl rfl rfl ?_
    refine G.opN1 rfl rfl rfl rfl rfl ?_
    refine G.opN1 rfl rfl rfl rfl rfl ?_
    refine G.op1 (op_pickF (Ev.t 6 (bB false)) (Ev.c _ rfl) rfl) rfl ⟨rfl, trivial⟩ trivial ?_
    exact G.arr (J6 false hF) ⟨rfl, rfl, trivial⟩ ⟨rfl, trivial⟩ rfl


set_option maxRecDepth 20000 in
set_option maxHeartbeats 2000000 in
theorem ct_ref03_Less (a_0 : Api_Stamp) (b_1 : Api_Stamp) (r : Bool) (hF : ref03_Less a_0 b_1 = some r) : Ct Try.prog 16 [.g (.agg (encApi_Stamp a_0)), .g (.agg (encApi_Stamp b_1))] (.one (.d (.v (.bool r)))) := by
  unfold ref03_Less at hF
  refine Ct.intro Try.func16 rfl Try.ntmps16 rfl rfl fun M w => ?_
  refine G.seq ?_
  refine G.region ?_
  refine G.op2 (op_boxA (k := 1002) (Ev.t 0 (.g (.agg [.v (.int .i64 a_0.N), .v (.int .i64 a_0.Site)]))) rfl) rfl ⟨rfl, trivial⟩ ⟨rfl, trivial⟩ ?_
  refine G.op2 (op_boxA (k := 1003) (Ev.t 1 (.g (.agg [.v (.int .i64 b_1.N), .v (.int .i64 b_1.Site)]))) rfl) rfl ⟨rfl, trivial⟩ ⟨rfl, trivial⟩ ?_
  refine G.op1 (op_assign (Ev.c _ rfl) rfl) rfl trivial trivial ?_
  refine G.endOps ?_
  refine G.seq ?_
  refine G.seq ?_
  refine G.region ?_
  refine G.op1 (op_fieldP (off' := 0) Try.underlying27 rfl ti3 (by decide) rfl (Ev.t 2 (.ptr 1002 0)) rfl) rfl ⟨rfl, trivial⟩ trivial ?_
  refine G.op1 (op_load1P (c := bI .i64 a_0.N) Try.underlying3 rfl rfl (Ev.t 5 (.ptr 1002 0)) rfl) rfl ⟨rfl, trivial⟩ ⟨rfl, trivial⟩ ?_
  refine G.op1 (op_fieldP (off' := 0) Try.underlying27 rfl ti3 (by decide) rfl (Ev.t 3 (.ptr 1003 0)) rfl) rfl ⟨rfl, trivial⟩ trivial ?_
  refine G.op1 (op_load1P (c := bI .i64 b_1.N) Try.underlying3 rfl rfl (Ev.t 7 (.ptr 1003 0)) rfl) rfl ⟨rfl, trivial⟩ ⟨rfl, trivial⟩ ?_
  refine G.op1 (op_neI (Ev.t 6 (bI .i64 a_0.N)) (Ev.t 8 (bI .i64 b_1.N)) rfl) rfl ⟨rfl, rfl, trivial⟩ trivial ?_
  refine G.endOps ?_
  refine ifS hF (fun hc1 hF => ?_) (fun hc1 hF => ?_)
  · refine G.cond rfl (fun _ => ?_) (fun hx => by rw [hc1] at hx; cases hx)
    refine G.seq ?_
    refine G.region ?_
    refine G.op1 (op_fieldP (off' := 0) Try.underlying27 rfl ti3 (by decide) rfl (Ev.t 2 (.ptr 1002 0)) rfl) rfl ⟨rfl, trivial⟩ trivial ?_
    refine G.op1 (op_load1P (c := bI .i64 a_0.N) Try.underlying3 rfl rfl (Ev.t 10 (.ptr 1002 0)) rfl) rfl ⟨rfl, trivial⟩ ⟨rfl, trivial⟩ ?_
    refine G.op1 (op_fieldP (off' := 0) Try.underlying27 rfl ti3 (by decide) rfl (Ev.t 3 (.ptr 1003 0)) rfl) rfl ⟨rfl, trivial⟩ trivial ?_
    refine G.op1 (op_load1P (c := bI .i64 b_1.N) Try.underlying3 rfl rfl (Ev.t 12 (.ptr 1003 0)) rfl) rfl ⟨rfl, trivial⟩ ⟨rfl, trivial⟩ ?_
    refine G.op1 (op_lss (Ev.t 11 (bI .i64 a_0.N)) (Ev.t 13 (bI .i64 b_1.N)) rfl) rfl ⟨rfl, rfl, trivial⟩ trivial ?_
    refine G.op1 (op_assign (Ev.t 14 (bB (decide (a_0.N < b_1.N)))) rfl) rfl ⟨rfl, trivial⟩ trivial ?_
    refine G.endOps ?_
    cases hF
    exact G.ret1 Try.results16 (RVar.tmp 4 _) ⟨rfl, trivial⟩ trivial
  · refine G.cond rfl (fun hx => by rw [hc1] at hx; cases hx) (fun _ => ?_)
    refine G.skip ?_
    refine G.seq ?_
    refine G.region ?_
    refine G.op1 (op_fieldP (off' := 1) Try.underlying27 rfl ti3 (by decide) rfl (Ev.t 2 (.ptr 1002 0)) rfl) rfl ⟨rfl, trivial⟩ trivial ?_
    refine G.op1 (op_load1P (c := bI .i64 a_0.Site) Try.underlying3 rfl rfl (Ev.t 15 (.ptr 1002 1)) rfl) rfl ⟨rfl, trivial⟩ ⟨rfl, trivial⟩ ?_
    refine G.op1 (op_fieldP (off' := 1) Try.underlying27 rfl ti3 (by decide) rfl (Ev.t 3 (.ptr 1003 0)) rfl) rfl ⟨rfl, trivial⟩ trivial ?_
    refine G.op1 (op_load1P (c := bI .i64 b_1.Site) Try.underlying3 rfl rfl (Ev.t 17 (.ptr 1003 1)) rfl) rfl ⟨rfl, trivial⟩ ⟨rfl, trivial⟩ ?_
    refine G.op1 (op_lss (Ev.t 16 (bI .i64 a_0.Site)) (Ev.t 18 (bI .i64 b_1.Site)) rfl) rfl ⟨rfl, rfl, trivial⟩ trivial ?_
    refine G.op1 (op_assign (Ev.t 19 (bB (decide (a_0.Site < b_1.Site)))) rfl) rfl ⟨rfl, trivial⟩ trivial ?_
    refine G.endOps ?_
    cases hF
    exact G.ret1 Try.results16 (RVar.tmp 4 _) ⟨rfl, trivial⟩ trivial


set_option maxRecDepth 20000 in
set_option maxHeartbeats 2000000 in
theorem ct_ref04_Add (p_0 : (List Api_Dep)) (d_1 : Api_Dep) (r : (List Api_Dep)) (hF : ref04_Add p_0 d_1 = some r) : Ct Try.prog 23 [.g (.d (.sl 3 (List.map encApi_Dep p_0))), .g (.agg (encApi_Dep d_1))] (.one (.d (.sl 3 (List.map encApi_Dep r)))) := by
  unfold ref04_Add at hF
  refine Ct.intro Try.func23 rfl Try.ntmps23 rfl rfl fun M w => ?_
  refine G.seq ?_
  refine G.region ?_
  refine G.op2 (op_boxA (k := 1003) (Ev.t 1 (.g (.agg [.v (.string d_1.Key), .v (.int .i64 d_1.Stamp.N), .v (.int .i64 d_1.Stamp.Site)]))) rfl) rfl ⟨rfl, trivial⟩ ⟨rfl, trivial⟩ ?_
  refine G.op1 (op_assign (Ev.n 3) rfl) rfl trivial trivial ?_
  refine G.endOps ?_
  refine G.seq ?_
  refine G.region ?_
  refine G.op1 (op_fieldP (off' := 0) Try.underlying52 rfl ti9 (by decide) rfl (Ev.t 3 (.ptr 1003 0)) rfl) rfl ⟨rfl, trivial⟩ trivial ?_
  refine G.op1 (op_load1P (c := bS d_1.Key) Try.underlying9 rfl rfl (Ev.t 11 (.ptr 1003 0)) rfl) rfl ⟨rfl, trivial⟩ ⟨rfl, trivial⟩ ?_
  obtain ⟨r1, hr1, hF⟩ := bindS hF
  refine G.op1 (op_callQ (sv := .one (bB r1)) cf37 (ct_ref02_Check d_1.Key r1 hr1) rfl rfl (EvQL.cons (EvQ.g (Ev.t 12 (bS d_1.Key))) EvQL.nil) rfl) rfl ⟨rfl, trivial⟩ trivial ?_
  refine G.op1 (op_assign (Ev.t 13 (bB r1)) rfl) rfl ⟨rfl, trivial⟩ trivial ?_
  refine G.endOps ?_
  refine G.seq ?_
  refine G.region ?_
  refine G.op1 (op_fieldP (off' := 1) Try.underlying52 rfl ti27 (by decide) rfl (Ev.t 3 (.ptr 1003 0)) rfl) rfl ⟨rfl, trivial⟩ trivial ?_
  refine G.op1 (op_loadAP (ds := [.v (.int .i64 d_1.Stamp.N), .v (.int .i64 d_1.Stamp.Site)]) Try.underlying27 rfl ti27 rfl (Ev.t 14 (.ptr 1003 1)) rfl) rfl ⟨rfl, trivial⟩ ⟨rfl, trivial⟩ ?_
  obtain ⟨r2, hr2, hF⟩ := bindS hF
  refine G.op1 (op_callQ (sv := .one (bB r2)) cf38 (ct_ref03_Check d_1.Stamp r2 hr2) rfl rfl (EvQL.cons (EvQ.g (Ev.t 15 (.g (.agg [.v (.int .i64 d_1.Stamp.N), .v (.int .i64 d_1.Stamp.Site)])))) EvQL.nil) rfl) rfl ⟨rfl, trivial⟩ trivial ?_
  refine G.op1 (op_assign (Ev.t 16 (bB r2)) rfl) rfl ⟨rfl, trivial⟩ trivial ?_
  refine G.endOps ?_
  refine G.seq ?_
  refine G.seq ?_
  refine G.joinC (T := Bool) (fun y3 => ⟨[(0, .one (.g (.d (.sl 3 (List.map encApi_Dep p_0))))), (3, .one (.ptr 1003 0)), (22, .one (bB y3))], [(1003, some (.blk 52 [bS d_1.Key, bI .i64 d_1.Stamp.N, bI .i64 d_1.Stamp.Site]))]⟩) (fun y3 => ref04_Add_k1 p_0 d_1 y3 = some r) (fun y3 hF => ?_) (fun J28 => ?_)
  · unfold ref04_Add_k1 at hF
    refine ifS hF (fun hc4 hF => ?_) (fun hc4 hF => ?_)
    · refine G.cond rfl (fun _ => ?_) (fun hx => by rw [hc4] at hx; cases hx)
      refine G.seq ?_
      refine G.region ?_
      refine G.op1 (op_move (Ev.t 0 (.g (.d (.sl 3 (List.map encApi_Dep p_0))))) rfl) rfl ⟨rfl, trivial⟩ trivial ?_
      refine G.op1 (op_assign (Ev.t 23 (.g (.d (.sl 3 (List.map encApi_Dep p_0))))) rfl) rfl ⟨rfl, trivial⟩ trivial ?_
      refine G.endOps ?_
      cases hF
      exact G.ret1 Try.results23 (RVar.tmp 4 _) ⟨rfl, trivial⟩ trivial
    · refine G.cond rfl (fun hx => by rw [hc4] at hx; cases hx) (fun _ => ?_)
      refine G.skip ?_
      refine G.seq ?_
      refine G.region ?_
      refine G.op2 (op_assignRow (E := 52) (size := 3) (k := 2007) (ex := false) rfl rfl) rfl trivial ⟨rfl, trivial⟩ ?_
      refine G.endOps ?_
      refine G.seq ?_
      refine G.region ?_
      refine G.op1 (op_assign (Ev.c _ rfl) rfl) rfl trivial trivial ?_
      refine G.endOps ?_
      refine G.seq ?_
      refine G.seq ?_
      refine G.region ?_
      refine G.op1 (op_assign (Ev.c _ rfl) rfl) rfl trivial trivial ?_
      refine G.endOps ?_
      refine G.joinC (T := Bool × (List Api_Dep)) (fun y5 => ⟨[(3, .one (.ptr 1003 0)), (7, .one (.own 2007 (List.map encApi_Dep y5.2))), (8, .one (bB y5.1))], [(1003, some (.blk 52 [bS d_1.Key, bI .i64 d_1.Stamp.N, bI .i64 d_1.Stamp.Site])), (2007, some (.row 52 3 (List.map encApi_Dep y5.2) false))]⟩) (fun y5 => ref04_Add_k2 d_1 y5 = some r) (fun y5 hF => ?_) (fun J8 => ?_)
      · unfold ref04_Add_k2 at hF
        refine G.seq ?_
        refine G.seq ?_
        refine G.region ?_
        refine G.op1 (op_move (Ev.t 8 (bB y5.1)) rfl) rfl ⟨rfl, trivial⟩ trivial ?_
        refine G.op1 (op_not (Ev.t 62 (bB y5.1)) rfl) rfl ⟨rfl, trivial⟩ trivial ?_
        refine G.endOps ?_
        refine ifS hF (fun hc6 hF => ?_) (fun hc6 hF => ?_)
        · refine G.cond rfl (fun _ => ?_) (fun hx => by rw [hc6] at hx; cases hx)
          refine G.region ?_
          refine G.op1 (op_move (Ev.t 7 (.own 2007 (List.map encApi_Dep y5.2))) rfl) rfl ⟨rfl, trivial⟩ trivial ?_
          refine G.op1 (op_loadAP (ds := [.v (.string d_1.Key), .v (.int .i64 d_1.Stamp.N), .v (.int .i64 d_1.Stamp.Site)]) Try.underlying52 rfl ti52 rfl (Ev.t 3 (.ptr 1003 0)) rfl) rfl ⟨rfl, trivial⟩ ⟨rfl, trivial⟩ ?_
          refine G.op1 (op_buildSlice (es := List.map encApi_Dep [d_1]) Try.underlying28 ti52 rfl rfl (EvP.cons (Ev.t 65 (.g (.agg [.v (.string d_1.Key), .v (.int .i64 d_1.Stamp.N), .v (.int .i64 d_1.Stamp.Site)]))) EvP.nil) rfl rfl (by simp [encApi_Dep]) rfl) rfl ⟨rfl, trivial⟩ trivial ?_
          obtain ⟨l7, hl7, hF⟩ := bindS hF
          refine G.op2 (op_appendO Try.underlying28 ti52 rfl (app_map hl7 encApi_Dep) (app_b1 hl7 encApi_Dep) (app_b2 hl7 encApi_Dep) (Ev.t 64 (.own 2007 (List.map encApi_Dep y5.2))) (Ev.t 66 (.g (.d (.sl 3 (List.map encApi_Dep ([d_1])))))) rfl) rfl ⟨rfl, rfl, trivial⟩ ⟨rfl, trivial⟩ ?_
          refine G.op1 (op_assign (Ev.t 67 (.own 2007 (List.map encApi_Dep l7))) rfl) rfl ⟨rfl, trivial⟩ trivial ?_
          refine G.endOps ?_
          refine G.seq ?_
          refine G.region ?_
          refine G.op1 (op_move (Ev.t 7 (.own 2007 (List.map encApi_Dep l7))) rfl) rfl ⟨rfl, trivial⟩ trivial ?_
          refine G.op1 (op_assign (Ev.t 68 (.own 2007 (List.map encApi_Dep l7))) rfl) rfl ⟨rfl, trivial⟩ trivial ?_
          refine G.endOps ?_
          refine G.view (t := 4) rfl rfl ?_
          cases hF
          exact G.ret1 Try.results23 (RVar.tmp 4 _) ⟨rfl, trivial⟩ trivial
        · refine G.cond rfl (fun hx => by rw [hc6] at hx; cases hx) (fun _ => ?_)
          refine G.skip ?_
          refine G.seq ?_
          refine G.region ?_
          refine G.op1 (op_move (Ev.t 7 (.own 2007 (List.map encApi_Dep y5.2))) rfl) rfl ⟨rfl, trivial⟩ trivial ?_
          refine G.op1 (op_assign (Ev.t 68 (.own 2007 (List.map encApi_Dep y5.2))) rfl) rfl ⟨rfl, trivial⟩ trivial ?_
          refine G.endOps ?_
          refine G.view (t := 4) rfl rfl ?_
          cases hF
          exact G.ret1 Try.results23 (RVar.tmp 4 _) ⟨rfl, trivial⟩ trivial
      refine G.block ?_
      refine G.keep (sl' := [(0, .one (.g (.d (.sl 3 (List.map encApi_Dep p_0))))), (3, .one (.ptr 1003 0)), (7, .one (.own 2007 (List.map encApi_Dep ([] : (List Api_Dep))))), (8, .one (bB false)), (9, .one (bI .i64 0))]) (hp' := [(1003, some (.blk 52 [bS d_1.Key, bI .i64 d_1.Stamp.N, bI .i64 d_1.Stamp.Site])), (2007, some (.row 52 3 (List.map encApi_Dep ([] : (List Api_Dep))) false))]) ⟨rfl, rfl, rfl, rfl, rfl, trivial⟩ ⟨rfl, rfl, trivial⟩ rfl ?_
      refine G.loopF (fun (v9 : Bool × Int × (List Api_Dep)) => ⟨[(0, .one (.g (.d (.sl 3 (List.map encApi_Dep p_0))))), (3, .one (.ptr 1003 0)), (7, .one (.own 2007 (List.map encApi_Dep v9.2.2))), (8, .one (bB v9.1)), (9, .one (bI .i64 v9.2.1))], [(1003, some (.blk 52 [bS d_1.Key, bI .i64 d_1.Stamp.N, bI .i64 d_1.Stamp.Site])), (2007, some (.row 52 3 (List.map encApi_Dep v9.2.2) false))]⟩) hF rfl (fun K12 again11 v9 J10 hF => ?_)
      unfold ref04_Add_l3 at hF
      refine G.seq ?_
      refine G.seq ?_
      refine G.region ?_
      refine G.op1 (op_move (Ev.t 9 (bI .i64 v9.2.1)) rfl) rfl ⟨rfl, trivial⟩ trivial ?_
      refine G.op1 (op_move (Ev.t 0 (.g (.d (.sl 3 (List.map encApi_Dep p_0))))) rfl) rfl ⟨rfl, trivial⟩ trivial ?_
      refine G.op1 (OpL.cast (op_lenD Try.underlying28 (Ev.t 25 (.g (.d (.sl 3 (List.map encApi_Dep p_0))))) rfl) (by rw [List.length_map])) rfl ⟨rfl, trivial⟩ trivial ?_
      refine G.op1 (op_lss (Ev.t 24 (bI .i64 v9.2.1)) (Ev.t 26 (bI .i64 (p_0.length : Int))) rfl) rfl ⟨rfl, rfl, trivial⟩ trivial ?_
      refine G.endOps ?_
      refine ifS hF (fun hc13 hF => ?_) (fun hc13 hF => ?_)
      · refine G.cond rfl (fun _ => ?_) (fun hx => by rw [hc13] at hx; cases hx)
        refine G.skip ?_
        refine G.seq ?_
        refine G.block ?_
        refine G.seq ?_
        refine G.region ?_
        refine G.op1 (op_move (Ev.t 0 (.g (.d (.sl 3 (List.map encApi_Dep p_0))))) rfl) rfl ⟨rfl, trivial⟩ trivial ?_
        refine G.op1 (op_move (Ev.t 9 (bI .i64 v9.2.1)) rfl) rfl ⟨rfl, trivial⟩ trivial ?_
        obtain ⟨x14, hx14, hF⟩ := bindS hF
        refine G.op1 (op_index (cs := [.v (.string x14.Key), .v (.int .i64 x14.Stamp.N), .v (.int .i64 x14.Stamp.Site)]) Try.underlying28 ti52 (idx_ok hx14).1 (idx_get hx14 encApi_Dep) (Ev.t 30 (.g (.d (.sl 3 (List.map encApi_Dep p_0))))) (Ev.t 31 (bI .i64 v9.2.1)) rfl) rfl ⟨rfl, rfl, trivial⟩ trivial ?_
        refine G.op1 (op_loadAE (ds := [.v (.string x14.Key), .v (.int .i64 x14.Stamp.N), .v (.int .i64 x14.Stamp.Site)]) Try.underlying52 rfl ti52 rfl (Ev.t 32 (.ep [.v (.string x14.Key), .v (.int .i64 x14.Stamp.N), .v (.int .i64 x14.Stamp.Site)])) rfl) rfl ⟨rfl, trivial⟩ trivial ?_
        refine G.op2 (op_alloc (k := 1010) (cs := [bS ByteArray.empty, bI .i64 0, bI .i64 0]) ti52 ⟨.v _ rfl, .v _ rfl, .v _ rfl, trivial⟩ rfl) rfl trivial ⟨rfl, trivial⟩ ?_
        refine G.op3 (op_storeA (cs' := [bS x14.Key, bI .i64 x14.Stamp.N, bI .i64 x14.Stamp.Site]) ti52 rfl rfl (Ev.t 10 (.ptr 1010 0)) (Ev.t 33 (.g (.agg [.v (.string x14.Key), .v (.int .i64 x14.Stamp.N), .v (.int .i64 x14.Stamp.Site)])))) rfl ⟨rfl, rfl, trivial⟩ ⟨rfl, trivial⟩ ?_
        refine G.endOps ?_
        refine G.seq ?_
        refine G.seq ?_
        refine G.region ?_
        refine G.op1 (op_fieldP (off' := 0) Try.underlying52 rfl ti9 (by decide) rfl (Ev.t 10 (.ptr 1010 0)) rfl) rfl ⟨rfl, trivial⟩ trivial ?_
        refine G.op1 (op_load1P (c := bS x14.Key) Try.underlying9 rfl rfl (Ev.t 34 (.ptr 1010 0)) rfl) rfl ⟨rfl, trivial⟩ ⟨rfl, trivial⟩ ?_
        refine G.op1 (op_fieldP (off' := 0) Try.underlying52 rfl ti9 (by decide) rfl (Ev.t 3 (.ptr 1003 0)) rfl) rfl ⟨rfl, trivial⟩ trivial ?_
        refine G.op1 (op_load1P (c := bS d_1.Key) Try.underlying9 rfl rfl (Ev.t 36 (.ptr 1003 0)) rfl) rfl ⟨rfl, trivial⟩ ⟨rfl, trivial⟩ ?_
        refine G.op1 (op_eqS (Ev.t 35 (bS x14.Key)) (Ev.t 37 (bS d_1.Key)) rfl) rfl ⟨rfl, rfl, trivial⟩ trivial ?_
        refine G.endOps ?_
        refine G.joinC (T := Bool × ByteArray × Int × Int) (fun y15 => ⟨[(0, .one (.g (.d (.sl 3 (List.map encApi_Dep p_0))))), (3, .one (.ptr 1003 0)), (7, .one (.own 2007 (List.map encApi_Dep v9.2.2))), (8, .one (bB y15.1)), (9, .one (bI .i64 v9.2.1)), (10, .one (.ptr 1010 0))], [(1003, some (.blk 52 [bS d_1.Key, bI .i64 d_1.Stamp.N, bI .i64 d_1.Stamp.Site])), (1010, some (.blk 52 [bS y15.2.1, bI .i64 y15.2.2.1, bI .i64 y15.2.2.2])), (2007, some (.row 52 3 (List.map encApi_Dep v9.2.2) false))]⟩) (fun y15 => ref04_Add_k4 d_1 again11 v9 y15 = some r) (fun y15 hF => ?_) (fun J24 => ?_)
        · unfold ref04_Add_k4 at hF
          refine G.seq ?_
          refine G.seq ?_
          refine G.joinC (T := Bool) (fun y16 => ⟨[(0, .one (.g (.d (.sl 3 (List.map encApi_Dep p_0))))), (3, .one (.ptr 1003 0)), (7, .one (.own 2007 (List.map encApi_Dep v9.2.2))), (8, .one (bB y15.1)), (9, .one (bI .i64 v9.2.1)), (10, .one (.ptr 1010 0)), (53, .one (bB y16))], [(1003, some (.blk 52 [bS d_1.Key, bI .i64 d_1.Stamp.N, bI .i64 d_1.Stamp.Site])), (1010, some (.blk 52 [bS y15.2.1, bI .i64 y15.2.2.1, bI .i64 y15.2.2.2])), (2007, some (.row 52 3 (List.map encApi_Dep v9.2.2) false))]⟩) (fun y16 => ref04_Add_k5 d_1 again11 v9 y15 y16 = some r) (fun y16 hF => ?_) (fun J22 => ?_)
          · unfold ref04_Add_k5 at hF
            refine G.joinC (T := Bool × (List Api_Dep)) (fun y17 => ⟨[(0, .one (.g (.d (.sl 3 (List.map encApi_Dep p_0))))), (3, .one (.ptr 1003 0)), (7, .one (.own 2007 (List.map encApi_Dep y17.2))), (8, .one (bB y17.1)), (9, .one (bI .i64 v9.2.1)), (10, .one (.ptr 1010 0))], [(1003, some (.blk 52 [bS d_1.Key, bI .i64 d_1.Stamp.N, bI .i64 d_1.Stamp.Site])), (1010, some (.blk 52 [bS y15.2.1, bI .i64 y15.2.2.1, bI .i64 y15.2.2.2])), (2007, some (.row 52 3 (List.map encApi_Dep y17.2) false))]⟩) (fun y17 => ref04_Add_k6 again11 v9 y15 y17 = some r) (fun y17 hF => ?_) (fun J19 => ?_)
            · unfold ref04_Add_k6 at hF
              refine G.region ?_
              refine G.op1 (op_move (Ev.t 7 (.own 2007 (List.map encApi_Dep y17.2))) rfl) rfl ⟨rfl, trivial⟩ trivial ?_
              refine G.op1 (op_loadAP (ds := [.v (.string y15.2.1), .v (.int .i64 y15.2.2.1), .v (.int .i64 y15.2.2.2)]) Try.underlying52 rfl ti52 rfl (Ev.t 10 (.ptr 1010 0)) rfl) rfl ⟨rfl, trivial⟩ ⟨rfl, trivial⟩ ?_
              refine G.op1 (op_buildSlice (es := List.map encApi_Dep [(Api_Dep.mk y15.2.1 (Api_Stamp.mk y15.2.2.1 y15.2.2.2))]) Try.underlying28 ti52 rfl rfl (EvP.cons (Ev.t 59 (.g (.agg [.v (.string y15.2.1), .v (.int .i64 y15.2.2.1), .v (.int .i64 y15.2.2.2)]))) EvP.nil) rfl rfl (by simp [encApi_Dep]) rfl) rfl ⟨rfl, trivial⟩ trivial ?_
              obtain ⟨l18, hl18, hF⟩ := bindS hF
              refine G.op2 (op_appendO Try.underlying28 ti52 rfl (app_map hl18 encApi_Dep) (app_b1 hl18 encApi_Dep) (app_b2 hl18 encApi_Dep) (Ev.t 58 (.own 2007 (List.map encApi_Dep y17.2))) (Ev.t 60 (.g (.d (.sl 3 (List.map encApi_Dep ([(Api_Dep.mk y15.2.1 (Api_Stamp.mk y15.2.2.1 y15.2.2.2))])))))) rfl) rfl ⟨rfl, rfl, trivial⟩ ⟨rfl, trivial⟩ ?_
              refine G.op1 (op_assign (Ev.t 61 (.own 2007 (List.map encApi_Dep l18))) rfl) rfl ⟨rfl, trivial⟩ trivial ?_
              refine G.endOps ?_
              refine G.endBlock ?_
              refine G.region ?_
              refine G.op1 (op_move (Ev.t 9 (bI .i64 v9.2.1)) rfl) rfl ⟨rfl, trivial⟩ trivial ?_
              refine G.op1 (op_add (Ev.t 28 (bI .i64 v9.2.1)) (Ev.c _ rfl) rfl) rfl ⟨rfl, trivial⟩ trivial ?_
              refine G.op1 (op_assign (Ev.t 29 (bI .i64 (IntKind.wrap .i64 (v9.2.1 + 1)))) rfl) rfl ⟨rfl, trivial⟩ trivial ?_
              refine G.endOps ?_
              exact G.arr (J10 (y17.1, IntKind.wrap .i64 (v9.2.1 + 1), l18) hF) ⟨rfl, rfl, rfl, rfl, rfl, trivial⟩ ⟨rfl, rfl, trivial⟩ rfl
            refine ifS hF (fun hc20 hF => ?_) (fun hc20 hF => ?_)
            · refine G.cond rfl (fun _ => ?_) (fun hx => by rw [hc20] at hx; cases hx)
              refine G.seq ?_
              refine G.region ?_
              refine G.op1 (op_move (Ev.t 7 (.own 2007 (List.map encApi_Dep v9.2.2))) rfl) rfl ⟨rfl, trivial⟩ trivial ?_
              refine G.op1 (op_loadAP (ds := [.v (.string d_1.Key), .v (.int .i64 d_1.Stamp.N), .v (.int .i64 d_1.Stamp.Site)]) Try.underlying52 rfl ti52 rfl (Ev.t 3 (.ptr 1003 0)) rfl) rfl ⟨rfl, trivial⟩ ⟨rfl, trivial⟩ ?_
              refine G.op1 (op_buildSlice (es := List.map encApi_Dep [d_1]) Try.underlying28 ti52 rfl rfl (EvP.cons (Ev.t 55 (.g (.agg [.v (.string d_1.Key), .v (.int .i64 d_1.Stamp.N), .v (.int .i64 d_1.Stamp.Site)]))) EvP.nil) rfl rfl (by simp [encApi_Dep]) rfl) rfl ⟨rfl, trivial⟩ trivial ?_
              obtain ⟨l21, hl21, hF⟩ := bindS hF
              refine G.op2 (op_appendO Try.underlying28 ti52 rfl (app_map hl21 encApi_Dep) (app_b1 hl21 encApi_Dep) (app_b2 hl21 encApi_Dep) (Ev.t 54 (.own 2007 (List.map encApi_Dep v9.2.2))) (Ev.t 56 (.g (.d (.sl 3 (List.map encApi_Dep ([d_1])))))) rfl) rfl ⟨rfl, rfl, trivial⟩ ⟨rfl, trivial⟩ ?_
              refine G.op1 (op_assign (Ev.t 57 (.own 2007 (List.map encApi_Dep l21))) rfl) rfl ⟨rfl, trivial⟩ trivial ?_
              refine G.endOps ?_
              refine G.region ?_
              refine G.op1 (op_assign (Ev.c _ rfl) rfl) rfl trivial trivial ?_
              refine G.endOps ?_
              exact G.arr (J19 (true, l21) hF) ⟨rfl, rfl, rfl, rfl, rfl, rfl, trivial⟩ ⟨rfl, rfl, rfl, trivial⟩ rfl
            · refine G.cond rfl (fun hx => by rw [hc20] at hx; cases hx) (fun _ => ?_)
              refine G.skip ?_
              exact G.arr (J19 (y15.1, v9.2.2) hF) ⟨rfl, rfl, rfl, rfl, rfl, rfl, trivial⟩ ⟨rfl, rfl, rfl, trivial⟩ rfl
          refine G.region ?_
          refine G.op1 (op_move (Ev.t 8 (bB y15.1)) rfl) rfl ⟨rfl, trivial⟩ trivial ?_
          refine G.op1 (op_not (Ev.t 45 (bB y15.1)) rfl) rfl ⟨rfl, trivial⟩ trivial ?_
          refine G.op1 (op_move (Ev.t 46 (bB (!y15.1))) rfl) rfl ⟨rfl, trivial⟩ trivial ?_
          refine ifS hF (fun hc23 hF => ?_) (fun hc23 hF => ?_)
          · refine G.known (t := 47) hc23 rfl ?_
            refine G.opG1 (op_fieldP (off' := 0) Try.underlying52 rfl ti9 (by decide) rfl (Ev.t 10 (.ptr 1010 0)) rfl) rfl rfl rfl ⟨rfl, trivial⟩ trivial ?_
            refine G.opG1 (op_load1P (c := bS y15.2.1) Try.underlying9 rfl rfl (Ev.t 48 (.ptr 1010 0)) rfl) rfl rfl rfl ⟨rfl, trivial⟩ ⟨rfl, trivial⟩ ?_
            refine G.opG1 (op_fieldP (off' := 0) Try.underlying52 rfl ti9 (by decide) rfl (Ev.t 3 (.ptr 1003 0)) rfl) rfl rfl rfl ⟨rfl, trivial⟩ trivial ?_
            refine G.opG1 (op_load1P (c := bS d_1.Key) Try.underlying9 rfl rfl (Ev.t 50 (.ptr 1003 0)) rfl) rfl rfl rfl ⟨rfl, trivial⟩ ⟨rfl, trivial⟩ ?_
            refine G.opG1 (op_gtS (Ev.t 49 (bS y15.2.1)) (Ev.t 51 (bS d_1.Key)) rfl) rfl rfl rfl ⟨rfl, rfl, trivial⟩ trivial ?_
            refine G.op1 (op_pickT (Ev.t 47 (bB true)) (Ev.t 52 (bB (!(slt y15.2.1 d_1.Key || seq y15.2.1 d_1.Key)))) rfl) rfl ⟨rfl, rfl, trivial⟩ trivial ?_
            refine G.endOps ?_
            exact G.arr (J22 (!(slt y15.2.1 d_1.Key || seq y15.2.1 d_1.Key)) hF) ⟨rfl, rfl, rfl, rfl, rfl, rfl, rfl, trivial⟩ ⟨rfl, rfl, rfl, trivial⟩ rfl
          · refine G.known (t := 47) hc23 rfl ?_
            refine G.opN1 rfl rfl rfl rfl rfl ?_
            refine G.opN1 rfl rfl rfl rfl rfl ?_
            refine G.opN1 rfl rfl rfl rfl rfl ?_
            refine G.opN1 rfl rfl rfl rfl rfl ?_
            refine G.opN1 rfl rfl rfl rfl rfl ?_
            refine G.op1 (op_pickF (Ev.t 47 (bB false)) (Ev.c _ rfl) rfl) rfl ⟨rfl, trivial⟩ trivial ?_
            refine G.endOps ?_
            exact G.arr (J22 false hF) ⟨rfl, rfl, rfl, rfl, rfl, rfl, rfl, trivial⟩ ⟨rfl, rfl, rfl, trivial⟩ rfl
        refine ifS hF (fun hc25 hF => ?_) (fun hc25 hF => ?_)
        · refine G.cond rfl (fun _ => ?_) (fun hx => by rw [hc25] at hx; cases hx)
          refine G.seq ?_
          refine G.seq ?_
          refine G.region ?_
          refine G.op1 (op_fieldP (off' := 1) Try.underlying52 rfl ti27 (by decide) rfl (Ev.t 10 (.ptr 1010 0)) rfl) rfl ⟨rfl, trivial⟩ trivial ?_
          refine G.op1 (op_loadAP (ds := [.v (.int .i64 x14.Stamp.N), .v (.int .i64 x14.Stamp.Site)]) Try.underlying27 rfl ti27 rfl (Ev.t 39 (.ptr 1010 1)) rfl) rfl ⟨rfl, trivial⟩ ⟨rfl, trivial⟩ ?_
          refine G.op1 (op_fieldP (off' := 1) Try.underlying52 rfl ti27 (by decide) rfl (Ev.t 3 (.ptr 1003 0)) rfl) rfl ⟨rfl, trivial⟩ trivial ?_
          refine G.op1 (op_loadAP (ds := [.v (.int .i64 d_1.Stamp.N), .v (.int .i64 d_1.Stamp.Site)]) Try.underlying27 rfl ti27 rfl (Ev.t 41 (.ptr 1003 1)) rfl) rfl ⟨rfl, trivial⟩ ⟨rfl, trivial⟩ ?_
          obtain ⟨r26, hr26, hF⟩ := bindS hF
          refine G.op1 (op_callQ (sv := .one (bB r26)) cf16 (ct_ref03_Less x14.Stamp d_1.Stamp r26 hr26) rfl rfl (EvQL.cons (EvQ.g (Ev.t 40 (.g (.agg [.v (.int .i64 x14.Stamp.N), .v (.int .i64 x14.Stamp.Site)])))) (EvQL.cons (EvQ.g (Ev.t 42 (.g (.agg [.v (.int .i64 d_1.Stamp.N), .v (.int .i64 d_1.Stamp.Site)])))) EvQL.nil)) rfl) rfl ⟨rfl, rfl, trivial⟩ trivial ?_
          refine G.endOps ?_
          refine ifS hF (fun hc27 hF => ?_) (fun hc27 hF => ?_)
          · refine G.cond rfl (fun _ => ?_) (fun hx => by rw [hc27] at hx; cases hx)
            refine G.region ?_
            refine G.op1 (op_loadAP (ds := [.v (.string d_1.Key), .v (.int .i64 d_1.Stamp.N), .v (.int .i64 d_1.Stamp.Site)]) Try.underlying52 rfl ti52 rfl (Ev.t 3 (.ptr 1003 0)) rfl) rfl ⟨rfl, trivial⟩ ⟨rfl, trivial⟩ ?_
            refine G.op3 (op_storeA (cs' := [bS d_1.Key, bI .i64 d_1.Stamp.N, bI .i64 d_1.Stamp.Site]) ti52 rfl rfl (Ev.t 10 (.ptr 1010 0)) (Ev.t 44 (.g (.agg [.v (.string d_1.Key), .v (.int .i64 d_1.Stamp.N), .v (.int .i64 d_1.Stamp.Site)])))) rfl ⟨rfl, rfl, trivial⟩ ⟨rfl, trivial⟩ ?_
            refine G.endOps ?_
            refine G.region ?_
            refine G.op1 (op_assign (Ev.c _ rfl) rfl) rfl trivial trivial ?_
            refine G.endOps ?_
            exact G.arr (J24 (true, d_1.Key, d_1.Stamp.N, d_1.Stamp.Site) hF) ⟨rfl, rfl, rfl, rfl, rfl, rfl, trivial⟩ ⟨rfl, rfl, rfl, trivial⟩ rfl
          · refine G.cond rfl (fun hx => by rw [hc27] at hx; cases hx) (fun _ => ?_)
            refine G.skip ?_
            refine G.region ?_
            refine G.op1 (op_assign (Ev.c _ rfl) rfl) rfl trivial trivial ?_
            refine G.endOps ?_
            exact G.arr (J24 (true, x14.Key, x14.Stamp.N, x14.Stamp.Site) hF) ⟨rfl, rfl, rfl, rfl, rfl, rfl, trivial⟩ ⟨rfl, rfl, rfl, trivial⟩ rfl
        · refine G.cond rfl (fun hx => by rw [hc25] at hx; cases hx) (fun _ => ?_)
          refine G.skip ?_
          exact G.arr (J24 (v9.1, x14.Key, x14.Stamp.N, x14.Stamp.Site) hF) ⟨rfl, rfl, rfl, rfl, rfl, rfl, trivial⟩ ⟨rfl, rfl, rfl, trivial⟩ rfl
      · refine G.cond rfl (fun hx => by rw [hc13] at hx; cases hx) (fun _ => ?_)
        refine G.exit ?_
        refine GX.c ?_
        refine GX.q ?_
        refine GX.bYes ?_
        exact G.arr (J8 (v9.1, v9.2.2) hF) ⟨rfl, rfl, rfl, trivial⟩ ⟨rfl, rfl, trivial⟩ rfl
  refine G.region ?_
  refine G.op1 (op_move (Ev.t 5 (bB r1)) rfl) rfl ⟨rfl, trivial⟩ trivial ?_
  refine G.op1 (op_not (Ev.t 17 (bB r1)) rfl) rfl ⟨rfl, trivial⟩ trivial ?_
  refine G.op1 (op_move (Ev.t 18 (bB (!r1))) rfl) rfl ⟨rfl, trivial⟩ trivial ?_
  refine ifS hF (fun hc29 hF => ?_) (fun hc29 hF => ?_)
  · refine G.known (t := 19) hc29 rfl ?_
    refine G.opN1 rfl rfl rfl rfl rfl ?_
    refine G.opN1 rfl rfl rfl rfl rfl ?_
    refine G.op1 (op_pickT (Ev.t 19 (bB true)) (Ev.c _ rfl) rfl) rfl ⟨rfl, trivial⟩ trivial ?_
    refine G.endOps ?_
    exact G.arr (J28 true hF) ⟨rfl, rfl, rfl, trivial⟩ ⟨rfl, trivial⟩ rfl
  · refine G.known (t := 19) hc29 rfl ?_
    refine G.opG1 (op_move (Ev.t 6 (bB r2)) rfl) rfl rfl rfl ⟨rfl, trivial⟩ trivial ?_
    refine G.opG1 (op_not (Ev.t 20 (bB r2)) rfl) rfl rfl rfl ⟨rfl, trivial⟩ trivial ?_
    refine G.op1 (op_pickF (Ev.t 19 (bB false)) (Ev.t 21 (bB (!r2))) rfl) rfl ⟨rfl, rfl, trivial⟩ trivial ?_
    refine G.endOps ?_
    exact G.arr (J28 (!r2) hF) ⟨rfl, rfl, rfl, trivial⟩ ⟨rfl, trivial⟩ rfl


set_option maxRecDepth 20000 in
set_option maxHeartbeats 2000000 in
theorem ct_law20_few (l_0 : (List Api_Event)) (r : (List Api_Event)) (hF : law20_few l_0 = some r) : Ct Try.prog 21 [.g (.d (.sl 6 (List.map encApi_Event l_0)))] (.one (.d (.sl 6 (List.map encApi_Event r)))) := by
  unfold law20_few at hF
  refine Ct.intro Try.func21 rfl Try.ntmps21 rfl rfl fun M w => ?_
  refine G.seq ?_
  refine G.region ?_
  refine G.op1 (op_assign (Ev.n 6) rfl) rfl trivial trivial ?_
  refine G.endOps ?_
  refine G.seq ?_
  refine G.region ?_
  refine G.op2 (op_assignRow (E := 30) (size := 6) (k := 2003) (ex := false) rfl rfl) rfl trivial ⟨rfl, trivial⟩ ?_
  refine G.endOps ?_
  refine G.seq ?_
  refine G.seq ?_
  refine G.region ?_
  refine G.op1 (op_assign (Ev.c _ rfl) rfl) rfl trivial trivial ?_
  refine G.endOps ?_
  refine G.joinC (T := (List Api_Event)) (fun y1 => ⟨[(3, .one (.own 2003 (List.map encApi_Event y1)))], [(2003, some (.row 30 6 (List.map encApi_Event y1) false))]⟩) (fun y1 => law20_few_k1 y1 = some r) (fun y1 hF => ?_) (fun J2 => ?_)
  · unfold law20_few_k1 at hF
    refine G.seq ?_
    refine G.region ?_
    refine G.op1 (op_move (Ev.t 3 (.own 2003 (List.map encApi_Event y1))) rfl) rfl ⟨rfl, trivial⟩ trivial ?_
    refine G.op1 (op_assign (Ev.t 59 (.own 2003 (List.map encApi_Event y1))) rfl) rfl ⟨rfl, trivial⟩ trivial ?_
    refine G.endOps ?_
    refine G.view (t := 2) rfl rfl ?_
    cases hF
    exact G.ret1 Try.results21 (RVar.tmp 2 _) ⟨rfl, trivial⟩ trivial
  refine G.block ?_
  refine G.keep (sl' := [(0, .one (.g (.d (.sl 6 (List.map encApi_Event l_0))))), (3, .one (.own 2003 (List.map encApi_Event ([] : (List Api_Event))))), (4, .one (bI .i64 0))]) (hp' := [(2003, some (.row 30 6 (List.map encApi_Event ([] : (List Api_Event))) false))]) ⟨rfl, rfl, rfl, trivial⟩ ⟨rfl, trivial⟩ rfl ?_
  refine G.loopF (fun (v3 : Int × (List Api_Event)) => ⟨[(0, .one (.g (.d (.sl 6 (List.map encApi_Event l_0))))), (3, .one (.own 2003 (List.map encApi_Event v3.2))), (4, .one (bI .i64 v3.1))], [(2003, some (.row 30 6 (List.map encApi_Event v3.2) false))]⟩) hF rfl (fun K6 again5 v3 J4 hF => ?_)
  unfold law20_few_l2 at hF
  refine G.seq ?_
  refine G.seq ?_
  refine G.joinC (T := Bool) (fun y7 => ⟨[(0, .one (.g (.d (.sl 6 (List.map encApi_Event l_0))))), (3, .one (.own 2003 (List.map encApi_Event v3.2))), (4, .one (bI .i64 v3.1)), (15, .one (bB y7))], [(2003, some (.row 30 6 (List.map encApi_Event v3.2) false))]⟩) (fun y7 => law20_few_k3 l_0 again5 v3 y7 = some r) (fun y7 hF => ?_) (fun J28 => ?_)
  · unfold law20_few_k3 at hF
    refine ifS hF (fun hc8 hF => ?_) (fun hc8 hF => ?_)
    · refine G.cond rfl (fun _ => ?_) (fun hx => by rw [hc8] at hx; cases hx)
      refine G.skip ?_
      refine G.seq ?_
      refine G.joinC (T := (List Api_Event)) (fun y9 => ⟨[(0, .one (.g (.d (.sl 6 (List.map encApi_Event l_0))))), (3, .one (.own 2003 (List.map encApi_Event y9))), (4, .one (bI .i64 v3.1))], [(2003, some (.row 30 6 (List.map encApi_Event y9) false))]⟩) (fun y9 => law20_few_k4 again5 v3 y9 = some r) (fun y9 hF => ?_) (fun J10 => ?_)
      · unfold law20_few_k4 at hF
        refine G.region ?_
        refine G.op1 (op_move (Ev.t 4 (bI .i64 v3.1)) rfl) rfl ⟨rfl, trivial⟩ trivial ?_
        refine G.op1 (op_add (Ev.t 16 (bI .i64 v3.1)) (Ev.c _ rfl) rfl) rfl ⟨rfl, trivial⟩ trivial ?_
        refine G.op1 (op_assign (Ev.t 17 (bI .i64 (IntKind.wrap .i64 (v3.1 + 1)))) rfl) rfl ⟨rfl, trivial⟩ trivial ?_
        refine G.endOps ?_
        exact G.arr (J4 (IntKind.wrap .i64 (v3.1 + 1), y9) hF) ⟨rfl, rfl, rfl, trivial⟩ ⟨rfl, trivial⟩ rfl
      refine G.block ?_
      refine G.seq ?_
      refine G.region ?_
      refine G.op1 (op_move (Ev.t 0 (.g (.d (.sl 6 (List.map encApi_Event l_0))))) rfl) rfl ⟨rfl, trivial⟩ trivial ?_
      refine G.op1 (op_move (Ev.t 4 (bI .i64 v3.1)) rfl) rfl ⟨rfl, trivial⟩ trivial ?_
      obtain ⟨x11, hx11, hF⟩ := bindS hF
      refine G.op1 (op_index (cs := [.v (.int .i64 x11.Kind), .v (.int .i64 x11.Client), .v (.string x11.Key), .v (.int .i64 x11.Stamp.N), .v (.int .i64 x11.Stamp.Site), .sl 3 (List.map encApi_Dep x11.Seen)]) Try.underlying24 ti30 (idx_ok hx11).1 (idx_get hx11 encApi_Event) (Ev.t 18 (.g (.d (.sl 6 (List.map encApi_Event l_0))))) (Ev.t 19 (bI .i64 v3.1)) rfl) rfl ⟨rfl, rfl, trivial⟩ trivial ?_
      refine G.op1 (op_loadAE (ds := [.v (.int .i64 x11.Kind), .v (.int .i64 x11.Client), .v (.string x11.Key), .v (.int .i64 x11.Stamp.N), .v (.int .i64 x11.Stamp.Site), .sl 3 (List.map encApi_Dep x11.Seen)]) Try.underlying30 rfl ti30 rfl (Ev.t 20 (.ep [.v (.int .i64 x11.Kind), .v (.int .i64 x11.Client), .v (.string x11.Key), .v (.int .i64 x11.Stamp.N), .v (.int .i64 x11.Stamp.Site), .sl 3 (List.map encApi_Dep x11.Seen)])) rfl) rfl ⟨rfl, trivial⟩ trivial ?_
      refine G.op2 (op_alloc (k := 1005) (cs := [bI .i64 0, bI .i64 0, bS ByteArray.empty, bI .i64 0, bI .i64 0, .g (.d (.sl 3 (List.map encApi_Dep ([] : (List Api_Dep)))))]) ti30 ⟨.v _ rfl, .v _ rfl, .v _ rfl, .v _ rfl, .v _ rfl, .n 3, trivial⟩ rfl) rfl trivial ⟨rfl, trivial⟩ ?_
      refine G.op3 (op_storeA (cs' := [bI .i64 x11.Kind, bI .i64 x11.Client, bS x11.Key, bI .i64 x11.Stamp.N, bI .i64 x11.Stamp.Site, .g (.d (.sl 3 (List.map encApi_Dep x11.Seen)))]) ti30 rfl rfl (Ev.t 5 (.ptr 1005 0)) (Ev.t 21 (.g (.agg [.v (.int .i64 x11.Kind), .v (.int .i64 x11.Client), .v (.string x11.Key), .v (.int .i64 x11.Stamp.N), .v (.int .i64 x11.Stamp.Site), .sl 3 (List.map encApi_Dep x11.Seen)])))) rfl ⟨rfl, rfl, trivial⟩ ⟨rfl, trivial⟩ ?_
      refine G.endOps ?_
      refine G.seq ?_
      refine G.region ?_
      refine G.op1 (op_fieldP (off' := 2) Try.underlying30 rfl ti9 (by decide) rfl (Ev.t 5 (.ptr 1005 0)) rfl) rfl ⟨rfl, trivial⟩ trivial ?_
      refine G.op1 (op_load1P (c := bS x11.Key) Try.underlying9 rfl rfl (Ev.t 22 (.ptr 1005 2)) rfl) rfl ⟨rfl, trivial⟩ ⟨rfl, trivial⟩ ?_
      obtain ⟨r12, hr12, hF⟩ := bindS hF
      refine G.op1 (op_callQ (sv := .one (bS r12)) cf22 (ct_law20_short x11.Key r12 hr12) rfl rfl (EvQL.cons (EvQ.g (Ev.t 23 (bS x11.Key))) EvQL.nil) rfl) rfl ⟨rfl, trivial⟩ trivial ?_
      refine G.op1 (op_fieldP (off' := 2) Try.underlying30 rfl ti9 (by decide) rfl (Ev.t 5 (.ptr 1005 0)) rfl) rfl ⟨rfl, trivial⟩ trivial ?_
      refine G.op3 (op_store1 (cs' := [bI .i64 x11.Kind, bI .i64 x11.Client, bS r12, bI .i64 x11.Stamp.N, bI .i64 x11.Stamp.Site, .g (.d (.sl 3 (List.map encApi_Dep x11.Seen)))]) (c := bS r12) trivial ti9 rfl rfl (Ev.t 25 (.ptr 1005 2)) (Ev.t 24 (bS r12))) rfl ⟨rfl, rfl, trivial⟩ ⟨rfl, trivial⟩ ?_
      refine G.endOps ?_
      refine G.seq ?_
      refine G.region ?_
      refine G.op1 (op_assign (Ev.n 3) rfl) rfl trivial trivial ?_
      refine G.endOps ?_
      refine G.seq ?_
      refine G.seq ?_
      refine G.region ?_
      refine G.op1 (op_assign (Ev.c _ rfl) rfl) rfl trivial trivial ?_
      refine G.endOps ?_
      refine G.joinC (T := (List Api_Dep)) (fun y13 => ⟨[(0, .one (.g (.d (.sl 6 (List.map encApi_Event l_0))))), (3, .one (.own 2003 (List.map encApi_Event v3.2))), (4, .one (bI .i64 v3.1)), (5, .one (.ptr 1005 0)), (6, .one (.g (.d (.sl 3 (List.map encApi_Dep y13)))))], [(1005, some (.blk 30 [bI .i64 x11.Kind, bI .i64 x11.Client, bS r12, bI .i64 x11.Stamp.N, bI .i64 x11.Stamp.Site, .g (.d (.sl 3 (List.map encApi_Dep x11.Seen)))])), (2003, some (.row 30 6 (List.map encApi_Event v3.2) false))]⟩) (fun y13 => law20_few_k5 again5 v3 x11 r12 y13 = some r) (fun y13 hF => ?_) (fun J15 => ?_)
      · unfold law20_few_k5 at hF
        refine G.seq ?_
        refine G.region ?_
        refine G.op1 (op_move (Ev.t 6 (.g (.d (.sl 3 (List.map encApi_Dep y13))))) rfl) rfl ⟨rfl, trivial⟩ trivial ?_
        refine G.op1 (op_fieldP (off' := 5) Try.underlying30 rfl ti28 (by decide) rfl (Ev.t 5 (.ptr 1005 0)) rfl) rfl ⟨rfl, trivial⟩ trivial ?_
        refine G.op3 (op_store1 (cs' := [bI .i64 x11.Kind, bI .i64 x11.Client, bS r12, bI .i64 x11.Stamp.N, bI .i64 x11.Stamp.Site, .g (.d (.sl 3 (List.map encApi_Dep y13)))]) (c := .g (.d (.sl 3 (List.map encApi_Dep y13)))) trivial ti28 rfl rfl (Ev.t 54 (.ptr 1005 5)) (Ev.t 53 (.g (.d (.sl 3 (List.map encApi_Dep y13)))))) rfl ⟨rfl, rfl, trivial⟩ ⟨rfl, trivial⟩ ?_
        refine G.endOps ?_
        refine G.region ?_
        refine G.op1 (op_move (Ev.t 3 (.own 2003 (List.map encApi_Event v3.2))) rfl) rfl ⟨rfl, trivial⟩ trivial ?_
        refine G.op1 (op_loadAP (ds := [.v (.int .i64 x11.Kind), .v (.int .i64 x11.Client), .v (.string r12), .v (.int .i64 x11.Stamp.N), .v (.int .i64 x11.Stamp.Site), .sl 3 (List.map encApi_Dep y13)]) Try.underlying30 rfl ti30 rfl (Ev.t 5 (.ptr 1005 0)) rfl) rfl ⟨rfl, trivial⟩ ⟨rfl, trivial⟩ ?_
        refine G.op1 (op_buildSlice (es := List.map encApi_Event [(Api_Event.mk x11.Kind x11.Client r12 x11.Stamp y13)]) Try.underlying24 ti30 rfl rfl (EvP.cons (Ev.t 56 (.g (.agg [.v (.int .i64 x11.Kind), .v (.int .i64 x11.Client), .v (.string r12), .v (.int .i64 x11.Stamp.N), .v (.int .i64 x11.Stamp.Site), .sl 3 (List.map encApi_Dep y13)]))) EvP.nil) rfl rfl (by simp [encApi_Event]) rfl) rfl ⟨rfl, trivial⟩ trivial ?_
        obtain ⟨l14, hl14, hF⟩ := bindS hF
        refine G.op2 (op_appendO Try.underlying24 ti30 rfl (app_map hl14 encApi_Event) (app_b1 hl14 encApi_Event) (app_b2 hl14 encApi_Event) (Ev.t 55 (.own 2003 (List.map encApi_Event v3.2))) (Ev.t 57 (.g (.d (.sl 6 (List.map encApi_Event ([(Api_Event.mk x11.Kind x11.Client r12 x11.Stamp y13)])))))) rfl) rfl ⟨rfl, rfl, trivial⟩ ⟨rfl, trivial⟩ ?_
        refine G.op1 (op_assign (Ev.t 58 (.own 2003 (List.map encApi_Event l14))) rfl) rfl ⟨rfl, trivial⟩ trivial ?_
        refine G.endOps ?_
        refine G.endBlock ?_
        exact G.arr (J10 l14 hF) ⟨rfl, rfl, rfl, trivial⟩ ⟨rfl, trivial⟩ rfl
      refine G.block ?_
      refine G.keep (sl' := [(0, .one (.g (.d (.sl 6 (List.map encApi_Event l_0))))), (3, .one (.own 2003 (List.map encApi_Event v3.2))), (4, .one (bI .i64 v3.1)), (5, .one (.ptr 1005 0)), (6, .one (.g (.d (.sl 3 (List.map encApi_Dep ([] : (List Api_Dep))))))), (7, .one (bI .i64 0))]) (hp' := [(1005, some (.blk 30 [bI .i64 x11.Kind, bI .i64 x11.Client, bS r12, bI .i64 x11.Stamp.N, bI .i64 x11.Stamp.Site, .g (.d (.sl 3 (List.map encApi_Dep x11.Seen)))])), (2003, some (.row 30 6 (List.map encApi_Event v3.2) false))]) ⟨rfl, rfl, rfl, rfl, rfl, rfl, trivial⟩ ⟨rfl, rfl, trivial⟩ rfl ?_
      refine G.loopF (fun (v16 : (List Api_Dep) × Int) => ⟨[(0, .one (.g (.d (.sl 6 (List.map encApi_Event l_0))))), (3, .one (.own 2003 (List.map encApi_Event v3.2))), (4, .one (bI .i64 v3.1)), (5, .one (.ptr 1005 0)), (6, .one (.g (.d (.sl 3 (List.map encApi_Dep v16.1))))), (7, .one (bI .i64 v16.2))], [(1005, some (.blk 30 [bI .i64 x11.Kind, bI .i64 x11.Client, bS r12, bI .i64 x11.Stamp.N, bI .i64 x11.Stamp.Site, .g (.d (.sl 3 (List.map encApi_Dep x11.Seen)))])), (2003, some (.row 30 6 (List.map encApi_Event v3.2) false))]⟩) hF rfl (fun K19 again18 v16 J17 hF => ?_)
      unfold law20_few_l6 at hF
      refine G.seq ?_
      refine G.seq ?_
      refine G.joinC (T := Bool) (fun y20 => ⟨[(0, .one (.g (.d (.sl 6 (List.map encApi_Event l_0))))), (3, .one (.own 2003 (List.map encApi_Event v3.2))), (4, .one (bI .i64 v3.1)), (5, .one (.ptr 1005 0)), (6, .one (.g (.d (.sl 3 (List.map encApi_Dep v16.1))))), (7, .one (bI .i64 v16.2)), (34, .one (bB y20))], [(1005, some (.blk 30 [bI .i64 x11.Kind, bI .i64 x11.Client, bS r12, bI .i64 x11.Stamp.N, bI .i64 x11.Stamp.Site, .g (.d (.sl 3 (List.map encApi_Dep x11.Seen)))])), (2003, some (.row 30 6 (List.map encApi_Event v3.2) false))]⟩) (fun y20 => law20_few_k7 again5 v3 x11 r12 again18 v16 y20 = some r) (fun y20 hF => ?_) (fun J26 => ?_)
      · unfold law20_few_k7 at hF
        refine ifS hF (fun hc21 hF => ?_) (fun hc21 hF => ?_)
        · refine G.cond rfl (fun _ => ?_) (fun hx => by rw [hc21] at hx; cases hx)
          refine G.skip ?_
          refine G.seq ?_
          refine G.block ?_
          obtain ⟨x22, hx22, hF⟩ := bindS hF
          obtain ⟨r23, hr23, hF⟩ := bindS hF
          obtain ⟨x24, hx24, hF⟩ := bindS hF
          obtain ⟨r25, hr25, hF⟩ := bindS hF
          refine G.drawn (effs := [⟨[(6, .one (.g (.d (.sl 3 (List.map encApi_Dep v16.1)))))], [], [(37, .one (.g (.d (.sl 3 (List.map encApi_Dep v16.1)))))], []⟩, ⟨[(5, .one (.ptr 1005 0))], [], [(38, .one (.ptr 1005 5))], []⟩, ⟨[(38, .one (.ptr 1005 5))], [(1005, some (.blk 30 [bI .i64 x11.Kind, bI .i64 x11.Client, bS r12, bI .i64 x11.Stamp.N, bI .i64 x11.Stamp.Site, .g (.d (.sl 3 (List.map encApi_Dep x11.Seen)))]))], [(39, .one (.g (.d (.sl 3 (List.map encApi_Dep x11.Seen)))))], []⟩, ⟨[(7, .one (bI .i64 v16.2))], [], [(40, .one (bI .i64 v16.2))], []⟩, ⟨[(39, .one (.g (.d (.sl 3 (List.map encApi_Dep x11.Seen))))), (40, .one (bI .i64 v16.2))], [], [(41, .one (.ep [.v (.string x22.Key), .v (.int .i64 x22.Stamp.N), .v (.int .i64 x22.Stamp.Site)]))], []⟩, ⟨[(41, .one (.ep [.v (.string x22.Key), .v (.int .i64 x22.Stamp.N), .v (.int .i64 x22.Stamp.Site)]))], [], [(42, .one (.ep [.v (.string x22.Key), .v (.int .i64 x22.Stamp.N), .v (.int .i64 x22.Stamp.Site)]))], []⟩, ⟨[(42, .one (.ep [.v (.string x22.Key), .v (.int .i64 x22.Stamp.N), .v (.int .i64 x22.Stamp.Site)]))], [], [(43, .one (bS x22.Key))], []⟩, ⟨[(43, .one (bS x22.Key))], [], [(44, .one (bS r23))], []⟩, ⟨[(5, .one (.ptr 1005 0))], [], [(45, .one (.ptr 1005 5))], []⟩, ⟨[(45, .one (.ptr 1005 5))], [(1005, some (.blk 30 [bI .i64 x11.Kind, bI .i64 x11.Client, bS r12, bI .i64 x11.Stamp.N, bI .i64 x11.Stamp.Site, .g (.d (.sl 3 (List.map encApi_Dep x11.Seen)))]))], [(46, .one (.g (.d (.sl 3 (List.map encApi_Dep x11.Seen)))))], []⟩, ⟨[(7, .one (bI .i64 v16.2))], [], [(47, .one (bI .i64 v16.2))], []⟩, ⟨[(46, .one (.g (.d (.sl 3 (List.map encApi_Dep x11.Seen))))), (47, .one (bI .i64 v16.2))], [], [(48, .one (.ep [.v (.string x24.Key), .v (.int .i64 x24.Stamp.N), .v (.int .i64 x24.Stamp.Site)]))], []⟩, ⟨[(48, .one (.ep [.v (.string x24.Key), .v (.int .i64 x24.Stamp.N), .v (.int .i64 x24.Stamp.Site)]))], [], [(49, .one (.ep [.v (.int .i64 x24.Stamp.N), .v (.int .i64 x24.Stamp.Site)]))], []⟩, ⟨[(49, .one (.ep [.v (.int .i64 x24.Stamp.N), .v (.int .i64 x24.Stamp.Site)]))], [], [(50, .one (.g (.agg [.v (.int .i64 x24.Stamp.N), .v (.int .i64 x24.Stamp.Site)])))], []⟩, ⟨[(44, .one (bS r23)), (50, .one (.g (.agg [.v (.int .i64 x24.Stamp.N), .v (.int .i64 x24.Stamp.Site)])))], [], [(51, .one (.g (.agg [.v (.string r23), .v (.int .i64 x24.Stamp.N), .v (.int .i64 x24.Stamp.Site)])))], []⟩, ⟨[(37, .one (.g (.d (.sl 3 (List.map encApi_Dep v16.1))))), (51, .one (.g (.agg [.v (.string r23), .v (.int .i64 x24.Stamp.N), .v (.int .i64 x24.Stamp.Site)])))], [], [(52, .one (.g (.d (.sl 3 (List.map encApi_Dep r25)))))], []⟩, ⟨[(52, .one (.g (.d (.sl 3 (List.map encApi_Dep r25)))))], [], [(6, .one (.g (.d (.sl 3 (List.map encApi_Dep r25)))))], []⟩]) (deps := [[], [], [1], [], [1, 2, 3], [1, 2, 3, 4], [1, 2, 3, 4, 5], [1, 2, 3, 4, 5, 6], [], [8], [], [8, 9, 10], [8, 9, 10, 11], [8, 9, 10, 11, 12], [1, 2, 3, 4, 5, 6, 7, 8, 9, 10, 11, 12, 13], [0, 1, 2, 3, 4, 5, 6, 7, 8, 9, 10, 11, 12, 13, 14], [0, 1, 2, 3, 4, 5, 6, 7, 8, 9, 10, 11, 12, 13, 14, 15]]) (sl' := [(0, .one (.g (.d (.sl 6 (List.map encApi_Event l_0))))), (3, .one (.own 2003 (List.map encApi_Event v3.2))), (4, .one (bI .i64 v3.1)), (5, .one (.ptr 1005 0)), (6, .one (.g (.d (.sl 3 (List.map encApi_Dep r25))))), (7, .one (bI .i64 v16.2))]) (hp' := [(1005, some (.blk 30 [bI .i64 x11.Kind, bI .i64 x11.Client, bS r12, bI .i64 x11.Stamp.N, bI .i64 x11.Stamp.Site, .g (.d (.sl 3 (List.map encApi_Dep x11.Seen)))])), (2003, some (.row 30 6 (List.map encApi_Event v3.2) false))]) follows rfl rfl rfl ⟨⟨⟨rfl, rfl⟩, trivial⟩, trivial, ⟨rfl, trivial⟩, trivial, ⟨rfl, trivial⟩, ⟨⟨rfl, rfl⟩, trivial⟩, ⟨rfl, trivial⟩, trivial, ⟨rfl, rfl, trivial⟩, trivial, ⟨rfl, trivial⟩, trivial, ⟨rfl, trivial⟩, trivial, ⟨rfl, trivial⟩, trivial, ⟨rfl, trivial⟩, trivial, ⟨rfl, trivial⟩, ⟨⟨rfl, rfl⟩, trivial⟩, ⟨rfl, trivial⟩, trivial, ⟨rfl, rfl, trivial⟩, trivial, ⟨rfl, trivial⟩, trivial, ⟨rfl, trivial⟩, trivial, ⟨rfl, rfl, trivial⟩, trivial, ⟨rfl, rfl, trivial⟩, trivial, ⟨rfl, trivial⟩, trivial, trivial⟩ ⟨OpW.plain (op_move (Ev.t 6 (.g (.d (.sl 3 (List.map encApi_Dep v16.1))))) rfl) rfl rfl, OpW.plain (op_fieldP (off' := 5) Try.underlying30 rfl ti28 (by decide) rfl (Ev.t 5 (.ptr 1005 0)) rfl) rfl rfl, OpW.plain (op_load1P (c := .g (.d (.sl 3 (List.map encApi_Dep x11.Seen)))) Try.underlying28 rfl rfl (Ev.t 38 (.ptr 1005 5)) rfl) rfl rfl, OpW.plain (op_move (Ev.t 7 (bI .i64 v16.2)) rfl) rfl rfl, OpW.plain (op_index (cs := [.v (.string x22.Key), .v (.int .i64 x22.Stamp.N), .v (.int .i64 x22.Stamp.Site)]) Try.underlying28 ti52 (idx_ok hx22).1 (idx_get hx22 encApi_Dep) (Ev.t 39 (.g (.d (.sl 3 (List.map encApi_Dep x11.Seen))))) (Ev.t 40 (bI .i64 v16.2)) rfl) rfl rfl, OpW.plain (op_fieldE (cs' := [.v (.string x22.Key), .v (.int .i64 x22.Stamp.N), .v (.int .i64 x22.Stamp.Site)]) Try.underlying52 rfl ti9 (by decide) rfl (Ev.t 41 (.ep [.v (.string x22.Key), .v (.int .i64 x22.Stamp.N), .v (.int .i64 x22.Stamp.Site)])) rfl) rfl rfl, OpW.plain (op_load1E (c := .v (.string x22.Key)) Try.underlying9 rfl rfl (Ev.t 42 (.ep [.v (.string x22.Key), .v (.int .i64 x22.Stamp.N), .v (.int .i64 x22.Stamp.Site)])) rfl) rfl rfl, OpW.plain (op_callQ (sv := .one (bS r23)) cf22 (ct_law20_short x22.Key r23 hr23) rfl rfl (EvQL.cons (EvQ.g (Ev.t 43 (bS x22.Key))) EvQL.nil) rfl) rfl rfl, OpW.plain (op_fieldP (off' := 5) Try.underlying30 rfl ti28 (by decide) rfl (Ev.t 5 (.ptr 1005 0)) rfl) rfl rfl, OpW.plain (op_load1P (c := .g (.d (.sl 3 (List.map encApi_Dep x11.Seen)))) Try.underlying28 rfl rfl (Ev.t 45 (.ptr 1005 5)) rfl) rfl rfl, OpW.plain (op_move (Ev.t 7 (bI .i64 v16.2)) rfl) rfl rfl, OpW.plain (op_index (cs := [.v (.string x24.Key), .v (.int .i64 x24.Stamp.N), .v (.int .i64 x24.Stamp.Site)]) Try.underlying28 ti52 (idx_ok hx24).1 (idx_get hx24 encApi_Dep) (Ev.t 46 (.g (.d (.sl 3 (List.map encApi_Dep x11.Seen))))) (Ev.t 47 (bI .i64 v16.2)) rfl) rfl rfl, OpW.plain (op_fieldE (cs' := [.v (.int .i64 x24.Stamp.N), .v (.int .i64 x24.Stamp.Site)]) Try.underlying52 rfl ti27 (by decide) rfl (Ev.t 48 (.ep [.v (.string x24.Key), .v (.int .i64 x24.Stamp.N), .v (.int .i64 x24.Stamp.Site)])) rfl) rfl rfl, OpW.plain (op_loadAE (ds := [.v (.int .i64 x24.Stamp.N), .v (.int .i64 x24.Stamp.Site)]) Try.underlying27 rfl ti27 rfl (Ev.t 49 (.ep [.v (.int .i64 x24.Stamp.N), .v (.int .i64 x24.Stamp.Site)])) rfl) rfl rfl, OpW.plain (op_build (zs := [.v (.string ByteArray.empty), .v (.int .i64 0), .v (.int .i64 0)]) (ds := [.v (.string r23), .v (.int .i64 x24.Stamp.N), .v (.int .i64 x24.Stamp.Site)]) Try.underlying52 ti52 (pl52 _ Try.underlying52) ⟨.v _ rfl, .v _ rfl, .v _ rfl, trivial⟩ (EvP.cons (Ev.t 44 (bS r23)) (EvP.cons (Ev.t 50 (.g (.agg [.v (.int .i64 x24.Stamp.N), .v (.int .i64 x24.Stamp.Site)]))) EvP.nil)) rfl rfl) rfl rfl, OpW.plain (op_call (sv := .one (.g (.d (.sl 3 (List.map encApi_Dep r25))))) cf23 (ct_ref04_Add v16.1 (Api_Dep.mk r23 x24.Stamp) r25 hr25) rfl (EvL.cons (Ev.t 37 (.g (.d (.sl 3 (List.map encApi_Dep v16.1))))) (EvL.cons (Ev.t 51 (.g (.agg [.v (.string r23), .v (.int .i64 x24.Stamp.N), .v (.int .i64 x24.Stamp.Site)]))) EvL.nil)) rfl) rfl rfl, OpW.plain (op_assign (Ev.t 52 (.g (.d (.sl 3 (List.map encApi_Dep r25))))) rfl) rfl rfl, trivial⟩ ⟨rfl, rfl, rfl, rfl, rfl, rfl, trivial⟩ ⟨rfl, rfl, trivial⟩ rfl ?_
          refine G.endBlock ?_
          refine G.region ?_
          refine G.op1 (op_move (Ev.t 7 (bI .i64 v16.2)) rfl) rfl ⟨rfl, trivial⟩ trivial ?_
          refine G.op1 (op_add (Ev.t 35 (bI .i64 v16.2)) (Ev.c _ rfl) rfl) rfl ⟨rfl, trivial⟩ trivial ?_
          refine G.op1 (op_assign (Ev.t 36 (bI .i64 (IntKind.wrap .i64 (v16.2 + 1)))) rfl) rfl ⟨rfl, trivial⟩ trivial ?_
          refine G.endOps ?_
          exact G.arr (J17 (r25, IntKind.wrap .i64 (v16.2 + 1)) hF) ⟨rfl, rfl, rfl, rfl, rfl, rfl, trivial⟩ ⟨rfl, rfl, trivial⟩ rfl
        · refine G.cond rfl (fun hx => by rw [hc21] at hx; cases hx) (fun _ => ?_)
          refine G.exit ?_
          refine GX.c ?_
          refine GX.q ?_
          refine GX.bYes ?_
          exact G.arr (J15 v16.1 hF) ⟨rfl, rfl, rfl, rfl, rfl, trivial⟩ ⟨rfl, rfl, trivial⟩ rfl
      refine G.region ?_
      refine G.op1 (op_move (Ev.t 7 (bI .i64 v16.2)) rfl) rfl ⟨rfl, trivial⟩ trivial ?_
      refine G.op1 (op_fieldP (off' := 5) Try.underlying30 rfl ti28 (by decide) rfl (Ev.t 5 (.ptr 1005 0)) rfl) rfl ⟨rfl, trivial⟩ trivial ?_
      refine G.op1 (op_load1P (c := .g (.d (.sl 3 (List.map encApi_Dep x11.Seen)))) Try.underlying28 rfl rfl (Ev.t 27 (.ptr 1005 5)) rfl) rfl ⟨rfl, trivial⟩ ⟨rfl, trivial⟩ ?_
      refine G.op1 (OpL.cast (op_lenD Try.underlying28 (Ev.t 28 (.g (.d (.sl 3 (List.map encApi_Dep x11.Seen))))) rfl) (by rw [List.length_map])) rfl ⟨rfl, trivial⟩ trivial ?_
      refine G.op1 (op_lss (Ev.t 26 (bI .i64 v16.2)) (Ev.t 29 (bI .i64 (x11.Seen.length : Int))) rfl) rfl ⟨rfl, rfl, trivial⟩ trivial ?_
      refine G.op1 (op_move (Ev.t 30 (bB (decide (v16.2 < (x11.Seen.length : Int))))) rfl) rfl ⟨rfl, trivial⟩ trivial ?_
      refine ifS hF (fun hc27 hF => ?_) (fun hc27 hF => ?_)
      · refine G.known (t := 31) hc27 rfl ?_
        refine G.opG1 (op_move (Ev.t 7 (bI .i64 v16.2)) rfl) rfl rfl rfl ⟨rfl, trivial⟩ trivial ?_
        refine G.opG1 (op_lss (Ev.t 32 (bI .i64 v16.2)) (Ev.c _ rfl) rfl) rfl rfl rfl ⟨rfl, trivial⟩ trivial ?_
        refine G.op1 (op_pickT (Ev.t 31 (bB true)) (Ev.t 33 (bB (decide (v16.2 < 5)))) rfl) rfl ⟨rfl, rfl, trivial⟩ trivial ?_
        refine G.endOps ?_
        exact G.arr (J26 (decide (v16.2 < 5)) hF) ⟨rfl, rfl, rfl, rfl, rfl, rfl, rfl, trivial⟩ ⟨rfl, rfl, trivial⟩ rfl
      · refine G.known (t := 31) hc27 rfl ?_
        refine G.opN1 rfl rfl rfl rfl rfl ?_
        refine G.opN1 rfl rfl rfl rfl rfl ?_
        refine G.op1 (op_pickF (Ev.t 31 (bB false)) (Ev.c _ rfl) rfl) rfl ⟨rfl, trivial⟩ trivial ?_
        refine G.endOps ?_
        exact G.arr (J26 false hF) ⟨rfl, rfl, rfl, rfl, rfl, rfl, rfl, trivial⟩ ⟨rfl, rfl, trivial⟩ rfl
    · refine G.cond rfl (fun hx => by rw [hc8] at hx; cases hx) (fun _ => ?_)
      refine G.exit ?_
      refine GX.c ?_
      refine GX.q ?_
      refine GX.bYes ?_
      exact G.arr (J2 v3.2 hF) ⟨rfl, trivial⟩ ⟨rfl, trivial⟩ rfl
  refine G.region ?_
  refine G.op1 (op_move (Ev.t 4 (bI .i64 v3.1)) rfl) rfl ⟨rfl, trivial⟩ trivial ?_
  refine G.op1 (op_move (Ev.t 0 (.g (.d (.sl 6 (List.map encApi_Event l_0))))) rfl) rfl ⟨rfl, trivial⟩ trivial ?_
  refine G.op1 (OpL.cast (op_lenD Try.underlying24 (Ev.t 9 (.g (.d (.sl 6 (List.map encApi_Event l_0))))) rfl) (by rw [List.length_map])) rfl ⟨rfl, trivial⟩ trivial ?_
  refine G.op1 (op_lss (Ev.t 8 (bI .i64 v3.1)) (Ev.t 10 (bI .i64 (l_0.length : Int))) rfl) rfl ⟨rfl, rfl, trivial⟩ trivial ?_
  refine G.op1 (op_move (Ev.t 11 (bB (decide (v3.1 < (l_0.length : Int))))) rfl) rfl ⟨rfl, trivial⟩ trivial ?_
  refine ifS hF (fun hc29 hF => ?_) (fun hc29 hF => ?_)
  · refine G.known (t := 12) hc29 rfl ?_
    refine G.opG1 (op_move (Ev.t 4 (bI .i64 v3.1)) rfl) rfl rfl rfl ⟨rfl, trivial⟩ trivial ?_
    refine G.opG1 (op_lss (Ev.t 13 (bI .i64 v3.1)) (Ev.c _ rfl) rfl) rfl rfl rfl ⟨rfl, trivial⟩ trivial ?_
    refine G.op1 (op_pickT (Ev.t 12 (bB true)) (Ev.t 14 (bB (decide (v3.1 < 14)))) rfl) rfl ⟨rfl, rfl, trivial⟩ trivial ?_
    refine G.endOps ?_
    exact G.arr (J28 (decide (v3.1 < 14)) hF) ⟨rfl, rfl, rfl, rfl, trivial⟩ ⟨rfl, trivial⟩ rfl
  · refine G.known (t := 12) hc29 rfl ?_
    refine G.opN1 rfl rfl rfl rfl rfl ?_
    refine G.opN1 rfl rfl rfl rfl rfl ?_
    refine G.op1 (op_pickF (Ev.t 12 (bB false)) (Ev.c _ rfl) rfl) rfl ⟨rfl, trivial⟩ trivial ?_
    refine G.endOps ?_
    exact G.arr (J28 false hF) ⟨rfl, rfl, rfl, rfl, trivial⟩ ⟨rfl, trivial⟩ rfl


set_option maxRecDepth 20000 in
set_option maxHeartbeats 2000000 in
theorem ct_history_Writes (l_0 : (List Api_Event)) (key_1 : ByteArray) (r : (List Api_Stamp)) (hF : history_Writes l_0 key_1 = some r) : Ct Try.prog 14 [.g (.d (.sl 6 (List.map encApi_Event l_0))), .g (.d (.v (.string key_1)))] (.one (.d (.sl 2 (List.map encApi_Stamp r)))) := by
  unfold history_Writes at hF
  refine Ct.intro Try.func14 rfl Try.ntmps14 rfl rfl fun M w => ?_
  refine G.seq ?_
  refine G.region ?_
  refine G.op1 (op_assign (Ev.n 2) rfl) rfl trivial trivial ?_
  refine G.endOps ?_
  refine G.seq ?_
  refine G.region ?_
  refine G.op2 (op_assignRow (E := 27) (size := 2) (k := 2005) (ex := false) rfl rfl) rfl trivial ⟨rfl, trivial⟩ ?_
  refine G.endOps ?_
  refine G.seq ?_
  refine G.seq ?_
  refine G.region ?_
  refine G.op1 (op_move (Ev.t 0 (.g (.d (.sl 6 (List.map encApi_Event l_0))))) rfl) rfl ⟨rfl, trivial⟩ trivial ?_
  refine G.op1 (OpL.cast (op_lenD Try.underlying24 (Ev.t 8 (.g (.d (.sl 6 (List.map encApi_Event l_0))))) rfl) (by rw [List.length_map])) rfl ⟨rfl, trivial⟩ trivial ?_
  refine G.op1 (op_move (Ev.c _ rfl) rfl) rfl trivial trivial ?_
  refine G.endOps ?_
  refine G.joinC (T := (List Api_Stamp)) (fun y1 => ⟨[(5, .one (.own 2005 (List.map encApi_Stamp y1)))], [(2005, some (.row 27 2 (List.map encApi_Stamp y1) false))]⟩) (fun y1 => history_Writes_k1 y1 = some r) (fun y1 hF => ?_) (fun J2 => ?_)
  · unfold history_Writes_k1 at hF
    refine G.seq ?_
    refine G.region ?_
    refine G.op1 (op_move (Ev.t 5 (.own 2005 (List.map encApi_Stamp y1))) rfl) rfl ⟨rfl, trivial⟩ trivial ?_
    refine G.op1 (op_assign (Ev.t 29 (.own 2005 (List.map encApi_Stamp y1))) rfl) rfl ⟨rfl, trivial⟩ trivial ?_
    refine G.endOps ?_
    refine G.view (t := 4) rfl rfl ?_
    cases hF
    exact G.ret1 Try.results14 (RVar.tmp 4 _) ⟨rfl, trivial⟩ trivial
  refine G.block ?_
  refine G.keep (sl' := [(1, .one (bS key_1)), (5, .one (.own 2005 (List.map encApi_Stamp ([] : (List Api_Stamp))))), (8, .one (.g (.d (.sl 6 (List.map encApi_Event l_0))))), (9, .one (bI .i64 (l_0.length : Int))), (10, .one (bI .i64 0))]) (hp' := [(2005, some (.row 27 2 (List.map encApi_Stamp ([] : (List Api_Stamp))) false))]) ⟨rfl, rfl, rfl, rfl, rfl, trivial⟩ ⟨rfl, trivial⟩ rfl ?_
  refine G.loopF (fun (v3 : Int × (List Api_Stamp)) => ⟨[(1, .one (bS key_1)), (5, .one (.own 2005 (List.map encApi_Stamp v3.2))), (8, .one (.g (.d (.sl 6 (List.map encApi_Event l_0))))), (9, .one (bI .i64 (l_0.length : Int))), (10, .one (bI .i64 v3.1))], [(2005, some (.row 27 2 (List.map encApi_Stamp v3.2) false))]⟩) hF rfl (fun K6 again5 v3 J4 hF => ?_)
  unfold history_Writes_l2 at hF
  refine G.seq ?_
  refine G.region ?_
  refine G.op1 (op_lss (Ev.t 10 (bI .i64 v3.1)) (Ev.t 9 (bI .i64 (l_0.length : Int))) rfl) rfl ⟨rfl, rfl, trivial⟩ trivial ?_
  refine G.endOps ?_
  refine G.seq ?_
  refine ifS hF (fun hc7 hF => ?_) (fun hc7 hF => ?_)
  · refine G.cond rfl (fun _ => ?_) (fun hx => by rw [hc7] at hx; cases hx)
    refine G.skip ?_
    refine G.seq ?_
    refine G.block ?_
    refine G.seq ?_
    refine G.region ?_
    obtain ⟨x8, hx8, hF⟩ := bindS hF
    refine G.op1 (op_index (cs := [.v (.int .i64 x8.Kind), .v (.int .i64 x8.Client), .v (.string x8.Key), .v (.int .i64 x8.Stamp.N), .v (.int .i64 x8.Stamp.Site), .sl 3 (List.map encApi_Dep x8.Seen)]) Try.underlying24 ti30 (idx_ok hx8).1 (idx_get hx8 encApi_Event) (Ev.t 8 (.g (.d (.sl 6 (List.map encApi_Event l_0))))) (Ev.t 10 (bI .i64 v3.1)) rfl) rfl ⟨rfl, rfl, trivial⟩ trivial ?_
    refine G.op1 (op_loadAE (ds := [.v (.int .i64 x8.Kind), .v (.int .i64 x8.Client), .v (.string x8.Key), .v (.int .i64 x8.Stamp.N), .v (.int .i64 x8.Stamp.Site), .sl 3 (List.map encApi_Dep x8.Seen)]) Try.underlying30 rfl ti30 rfl (Ev.t 12 (.ep [.v (.int .i64 x8.Kind), .v (.int .i64 x8.Client), .v (.string x8.Key), .v (.int .i64 x8.Stamp.N), .v (.int .i64 x8.Stamp.Site), .sl 3 (List.map encApi_Dep x8.Seen)])) rfl) rfl ⟨rfl, trivial⟩ trivial ?_
    refine G.op2 (op_alloc (k := 1007) (cs := [bI .i64 0, bI .i64 0, bS ByteArray.empty, bI .i64 0, bI .i64 0, .g (.d (.sl 3 (List.map encApi_Dep ([] : (List Api_Dep)))))]) ti30 ⟨.v _ rfl, .v _ rfl, .v _ rfl, .v _ rfl, .v _ rfl, .n 3, trivial⟩ rfl) rfl trivial ⟨rfl, trivial⟩ ?_
    refine G.op3 (op_storeA (cs' := [bI .i64 x8.Kind, bI .i64 x8.Client, bS x8.Key, bI .i64 x8.Stamp.N, bI .i64 x8.Stamp.Site, .g (.d (.sl 3 (List.map encApi_Dep x8.Seen)))]) ti30 rfl rfl (Ev.t 7 (.ptr 1007 0)) (Ev.t 13 (.g (.agg [.v (.int .i64 x8.Kind), .v (.int .i64 x8.Client), .v (.string x8.Key), .v (.int .i64 x8.Stamp.N), .v (.int .i64 x8.Stamp.Site), .sl 3 (List.map encApi_Dep x8.Seen)])))) rfl ⟨rfl, rfl, trivial⟩ ⟨rfl, trivial⟩ ?_
    refine G.endOps ?_
    refine G.seq ?_
    refine G.joinC (T := Bool) (fun y9 => ⟨[(1, .one (bS key_1)), (5, .one (.own 2005 (List.map encApi_Stamp v3.2))), (7, .one (.ptr 1007 0)), (8, .one (.g (.d (.sl 6 (List.map encApi_Event l_0))))), (9, .one (bI .i64 (l_0.length : Int))), (10, .one (bI .i64 v3.1)), (22, .one (bB y9))], [(1007, some (.blk 30 [bI .i64 x8.Kind, bI .i64 x8.Client, bS x8.Key, bI .i64 x8.Stamp.N, bI .i64 x8.Stamp.Site, .g (.d (.sl 3 (List.map encApi_Dep x8.Seen)))])), (2005, some (.row 27 2 (List.map encApi_Stamp v3.2) false))]⟩) (fun y9 => history_Writes_k3 again5 v3 x8 y9 = some r) (fun y9 hF => ?_) (fun J12 => ?_)
    · unfold history_Writes_k3 at hF
      refine ifS hF (fun hc10 hF => ?_) (fun hc10 hF => ?_)
      · refine G.cond rfl (fun _ => ?_) (fun hx => by rw [hc10] at hx; cases hx)
        refine G.region ?_
        refine G.op1 (op_move (Ev.t 5 (.own 2005 (List.map encApi_Stamp v3.2))) rfl) rfl ⟨rfl, trivial⟩ trivial ?_
        refine G.op1 (op_fieldP (off' := 3) Try.underlying30 rfl ti27 (by decide) rfl (Ev.t 7 (.ptr 1007 0)) rfl) rfl ⟨rfl, trivial⟩ trivial ?_
        refine G.op1 (op_loadAP (ds := [.v (.int .i64 x8.Stamp.N), .v (.int .i64 x8.Stamp.Site)]) Try.underlying27 rfl ti27 rfl (Ev.t 24 (.ptr 1007 3)) rfl) rfl ⟨rfl, trivial⟩ ⟨rfl, trivial⟩ ?_
        refine G.op1 (op_buildSlice (es := List.map encApi_Stamp [x8.Stamp]) Try.underlying36 ti27 rfl rfl (EvP.cons (Ev.t 25 (.g (.agg [.v (.int .i64 x8.Stamp.N), .v (.int .i64 x8.Stamp.Site)]))) EvP.nil) rfl rfl (by simp [encApi_Stamp]) rfl) rfl ⟨rfl, trivial⟩ trivial ?_
        obtain ⟨l11, hl11, hF⟩ := bindS hF
        refine G.op2 (op_appendO Try.underlying36 ti27 rfl (app_map hl11 encApi_Stamp) (app_b1 hl11 encApi_Stamp) (app_b2 hl11 encApi_Stamp) (Ev.t 23 (.own 2005 (List.map encApi_Stamp v3.2))) (Ev.t 26 (.g (.d (.sl 2 (List.map encApi_Stamp ([x8.Stamp])))))) rfl) rfl ⟨rfl, rfl, trivial⟩ ⟨rfl, trivial⟩ ?_
        refine G.op1 (op_assign (Ev.t 27 (.own 2005 (List.map encApi_Stamp l11))) rfl) rfl ⟨rfl, trivial⟩ trivial ?_
        refine G.endOps ?_
        refine G.endBlock ?_
        refine G.region ?_
        refine G.op1 (op_add (Ev.t 10 (bI .i64 v3.1)) (Ev.c _ rfl) rfl) rfl ⟨rfl, trivial⟩ trivial ?_
        refine G.op1 (op_move (Ev.t 28 (bI .i64 (IntKind.wrap .i64 (v3.1 + 1)))) rfl) rfl ⟨rfl, trivial⟩ trivial ?_
        refine G.endOps ?_
        exact G.arr (J4 (IntKind.wrap .i64 (v3.1 + 1), l11) hF) ⟨rfl, rfl, rfl, rfl, rfl, trivial⟩ ⟨rfl, trivial⟩ rfl
      · refine G.cond rfl (fun hx => by rw [hc10] at hx; cases hx) (fun _ => ?_)
        refine G.skip ?_
        refine G.endBlock ?_
        refine G.region ?_
        refine G.op1 (op_add (Ev.t 10 (bI .i64 v3.1)) (Ev.c _ rfl) rfl) rfl ⟨rfl, trivial⟩ trivial ?_
        refine G.op1 (op_move (Ev.t 28 (bI .i64 (IntKind.wrap .i64 (v3.1 + 1)))) rfl) rfl ⟨rfl, trivial⟩ trivial ?_
        refine G.endOps ?_
        exact G.arr (J4 (IntKind.wrap .i64 (v3.1 + 1), v3.2) hF) ⟨rfl, rfl, rfl, rfl, rfl, trivial⟩ ⟨rfl, trivial⟩ rfl
    refine G.region ?_
    refine G.op1 (op_fieldP (off' := 0) Try.underlying30 rfl ti3 (by decide) rfl (Ev.t 7 (.ptr 1007 0)) rfl) rfl ⟨rfl, trivial⟩ trivial ?_
    refine G.op1 (op_load1P (c := bI .i64 x8.Kind) Try.underlying3 rfl rfl (Ev.t 14 (.ptr 1007 0)) rfl) rfl ⟨rfl, trivial⟩ ⟨rfl, trivial⟩ ?_
    refine G.op1 (op_eqI (Ev.t 15 (bI .i64 x8.Kind)) (Ev.c _ rfl) rfl) rfl ⟨rfl, trivial⟩ trivial ?_
    refine G.op1 (op_move (Ev.t 16 (bB (decide (x8.Kind = 1)))) rfl) rfl ⟨rfl, trivial⟩ trivial ?_
    refine ifS hF (fun hc13 hF => ?_) (fun hc13 hF => ?_)
    · refine G.known (t := 17) hc13 rfl ?_
      refine G.opG1 (op_fieldP (off' := 2) Try.underlying30 rfl ti9 (by decide) rfl (Ev.t 7 (.ptr 1007 0)) rfl) rfl rfl rfl ⟨rfl, trivial⟩ trivial ?_
      refine G.opG1 (op_load1P (c := bS x8.Key) Try.underlying9 rfl rfl (Ev.t 18 (.ptr 1007 2)) rfl) rfl rfl rfl ⟨rfl, trivial⟩ ⟨rfl, trivial⟩ ?_
      refine G.opG1 (op_move (Ev.t 1 (bS key_1)) rfl) rfl rfl rfl ⟨rfl, trivial⟩ trivial ?_
      refine G.opG1 (op_eqS (Ev.t 19 (bS x8.Key)) (Ev.t 20 (bS key_1)) rfl) rfl rfl rfl ⟨rfl, rfl, trivial⟩ trivial ?_
      refine G.op1 (op_pickT (Ev.t 17 (bB true)) (Ev.t 21 (bB (seq x8.Key key_1))) rfl) rfl ⟨rfl, rfl, trivial⟩ trivial ?_
      refine G.endOps ?_
      exact G.arr (J12 (seq x8.Key key_1) hF) ⟨rfl, rfl, rfl, rfl, rfl, rfl, rfl, trivial⟩ ⟨rfl, rfl, trivial⟩ rfl
    · refine G.known (t := 17) hc13 rfl ?_
      refine G.opN1 rfl rfl rfl rfl rfl ?_
      refine G.opN1 rfl rfl rfl rfl rfl ?_
      refine G.opN1 rfl rfl rfl rfl rfl ?_
      refine G.opN1 rfl rfl rfl rfl rfl ?_
      refine G.op1 (op_pickF (Ev.t 17 (bB false)) (Ev.c _ rfl) rfl) rfl ⟨rfl, trivial⟩ trivial ?_
      refine G.endOps ?_
      exact G.arr (J12 false hF) ⟨rfl, rfl, rfl, rfl, rfl, rfl, rfl, trivial⟩ ⟨rfl, rfl, trivial⟩ rfl
  · refine G.cond rfl (fun hx => by rw [hc7] at hx; cases hx) (fun _ => ?_)
    refine G.exit ?_
    refine GX.c ?_
    refine GX.q ?_
    refine GX.bYes ?_
    exact G.arr (J2 v3.2 hF) ⟨rfl, trivial⟩ ⟨rfl, trivial⟩ rfl


set_option maxRecDepth 20000 in
set_option maxHeartbeats 2000000 in
theorem ct_ref20_Writes (l_0 : (List Api_Event)) (key_1 : ByteArray) (r : (List Api_Stamp)) (hF : ref20_Writes l_0 key_1 = some r) : Ct Try.prog 33 [.g (.d (.sl 6 (List.map encApi_Event l_0))), .g (.d (.v (.string key_1)))] (.one (.d (.sl 2 (List.map encApi_Stamp r)))) := by
  unfold ref20_Writes at hF
  refine Ct.intro Try.func33 rfl Try.ntmps33 rfl rfl fun M w => ?_
  refine G.seq ?_
  refine G.region ?_
  refine G.op1 (op_assign (Ev.n 2) rfl) rfl trivial trivial ?_
  refine G.endOps ?_
  refine G.seq ?_
  refine G.region ?_
  refine G.op2 (op_assignRow (E := 27) (size := 2) (k := 2005) (ex := false) rfl rfl) rfl trivial ⟨rfl, trivial⟩ ?_
  refine G.endOps ?_
  refine G.seq ?_
  refine G.seq ?_
  refine G.region ?_
  refine G.op1 (op_assign (Ev.c _ rfl) rfl) rfl trivial trivial ?_
  refine G.endOps ?_
  refine G.joinC (T := (List Api_Stamp)) (fun y1 => ⟨[(5, .one (.own 2005 (List.map encApi_Stamp y1)))], [(2005, some (.row 27 2 (List.map encApi_Stamp y1) false))]⟩) (fun y1 => ref20_Writes_k1 y1 = some r) (fun y1 hF => ?_) (fun J2 => ?_)
  · unfold ref20_Writes_k1 at hF
    refine G.seq ?_
    refine G.region ?_
    refine G.op1 (op_move (Ev.t 5 (.own 2005 (List.map encApi_Stamp y1))) rfl) rfl ⟨rfl, trivial⟩ trivial ?_
    refine G.op1 (op_assign (Ev.t 36 (.own 2005 (List.map encApi_Stamp y1))) rfl) rfl ⟨rfl, trivial⟩ trivial ?_
    refine G.endOps ?_
    refine G.view (t := 4) rfl rfl ?_
    cases hF
    exact G.ret1 Try.results33 (RVar.tmp 4 _) ⟨rfl, trivial⟩ trivial
  refine G.block ?_
  refine G.keep (sl' := [(0, .one (.g (.d (.sl 6 (List.map encApi_Event l_0))))), (1, .one (bS key_1)), (5, .one (.own 2005 (List.map encApi_Stamp ([] : (List Api_Stamp))))), (6, .one (bI .i64 0))]) (hp' := [(2005, some (.row 27 2 (List.map encApi_Stamp ([] : (List Api_Stamp))) false))]) ⟨rfl, rfl, rfl, rfl, trivial⟩ ⟨rfl, trivial⟩ rfl ?_
  refine G.loopF (fun (v3 : Int × (List Api_Stamp)) => ⟨[(0, .one (.g (.d (.sl 6 (List.map encApi_Event l_0))))), (1, .one (bS key_1)), (5, .one (.own 2005 (List.map encApi_Stamp v3.2))), (6, .one (bI .i64 v3.1))], [(2005, some (.row 27 2 (List.map encApi_Stamp v3.2) false))]⟩) hF rfl (fun K6 again5 v3 J4 hF => ?_)
  unfold ref20_Writes_l2 at hF
  refine G.seq ?_
  refine G.seq ?_
  refine G.region ?_
  refine G.op1 (op_move (Ev.t 6 (bI .i64 v3.1)) rfl) rfl ⟨rfl, trivial⟩ trivial ?_
  refine G.op1 (op_move (Ev.t 0 (.g (.d (.sl 6 (List.map encApi_Event l_0))))) rfl) rfl ⟨rfl, trivial⟩ trivial ?_
  refine G.op1 (OpL.cast (op_lenD Try.underlying24 (Ev.t 8 (.g (.d (.sl 6 (List.map encApi_Event l_0))))) rfl) (by rw [List.length_map])) rfl ⟨rfl, trivial⟩ trivial ?_
  refine G.op1 (op_lss (Ev.t 7 (bI .i64 v3.1)) (Ev.t 9 (bI .i64 (l_0.length : Int))) rfl) rfl ⟨rfl, rfl, trivial⟩ trivial ?_
  refine G.endOps ?_
  refine ifS hF (fun hc7 hF => ?_) (fun hc7 hF => ?_)
  · refine G.cond rfl (fun _ => ?_) (fun hx => by rw [hc7] at hx; cases hx)
    refine G.skip ?_
    refine G.seq ?_
    refine G.block ?_
    refine G.seq ?_
    refine G.joinC (T := Bool) (fun y8 => ⟨[(0, .one (.g (.d (.sl 6 (List.map encApi_Event l_0))))), (1, .one (bS key_1)), (5, .one (.own 2005 (List.map encApi_Stamp v3.2))), (6, .one (bI .i64 v3.1)), (27, .one (bB y8))], [(2005, some (.row 27 2 (List.map encApi_Stamp v3.2) false))]⟩) (fun y8 => ref20_Writes_k3 l_0 again5 v3 y8 = some r) (fun y8 hF => ?_) (fun J12 => ?_)
    · unfold ref20_Writes_k3 at hF
      refine ifS hF (fun hc9 hF => ?_) (fun hc9 hF => ?_)
      · refine G.cond rfl (fun _ => ?_) (fun hx => by rw [hc9] at hx; cases hx)
        refine G.region ?_
        refine G.op1 (op_move (Ev.t 5 (.own 2005 (List.map encApi_Stamp v3.2))) rfl) rfl ⟨rfl, trivial⟩ trivial ?_
        refine G.op1 (op_move (Ev.t 0 (.g (.d (.sl 6 (List.map encApi_Event l_0))))) rfl) rfl ⟨rfl, trivial⟩ trivial ?_
        refine G.op1 (op_move (Ev.t 6 (bI .i64 v3.1)) rfl) rfl ⟨rfl, trivial⟩ trivial ?_
        obtain ⟨x10, hx10, hF⟩ := bindS hF
        refine G.op1 (op_index (cs := [.v (.int .i64 x10.Kind), .v (.int .i64 x10.Client), .v (.string x10.Key), .v (.int .i64 x10.Stamp.N), .v (.int .i64 x10.Stamp.Site), .sl 3 (List.map encApi_Dep x10.Seen)]) Try.underlying24 ti30 (idx_ok hx10).1 (idx_get hx10 encApi_Event) (Ev.t 29 (.g (.d (.sl 6 (List.map encApi_Event l_0))))) (Ev.t 30 (bI .i64 v3.1)) rfl) rfl ⟨rfl, rfl, trivial⟩ trivial ?_
        refine G.op1 (op_fieldE (cs' := [.v (.int .i64 x10.Stamp.N), .v (.int .i64 x10.Stamp.Site), .sl 3 (List.map encApi_Dep x10.Seen)]) Try.underlying30 rfl ti27 (by decide) rfl (Ev.t 31 (.ep [.v (.int .i64 x10.Kind), .v (.int .i64 x10.Client), .v (.string x10.Key), .v (.int .i64 x10.Stamp.N), .v (.int .i64 x10.Stamp.Site), .sl 3 (List.map encApi_Dep x10.Seen)])) rfl) rfl ⟨rfl, trivial⟩ trivial ?_
        refine G.op1 (op_loadAE (ds := [.v (.int .i64 x10.Stamp.N), .v (.int .i64 x10.Stamp.Site)]) Try.underlying27 rfl ti27 rfl (Ev.t 32 (.ep [.v (.int .i64 x10.Stamp.N), .v (.int .i64 x10.Stamp.Site), .sl 3 (List.map encApi_Dep x10.Seen)])) rfl) rfl ⟨rfl, trivial⟩ trivial ?_
        refine G.op1 (op_buildSlice (es := List.map encApi_Stamp [x10.Stamp]) Try.underlying36 ti27 rfl rfl (EvP.cons (Ev.t 33 (.g (.agg [.v (.int .i64 x10.Stamp.N), .v (.int .i64 x10.Stamp.Site)]))) EvP.nil) rfl rfl (by simp [encApi_Stamp]) rfl) rfl ⟨rfl, trivial⟩ trivial ?_
        obtain ⟨l11, hl11, hF⟩ := bindS hF
        refine G.op2 (op_appendO Try.underlying36 ti27 rfl (app_map hl11 encApi_Stamp) (app_b1 hl11 encApi_Stamp) (app_b2 hl11 encApi_Stamp) (Ev.t 28 (.own 2005 (List.map encApi_Stamp v3.2))) (Ev.t 34 (.g (.d (.sl 2 (List.map encApi_Stamp ([x10.Stamp])))))) rfl) rfl ⟨rfl, rfl, trivial⟩ ⟨rfl, trivial⟩ ?_
        refine G.op1 (op_assign (Ev.t 35 (.own 2005 (List.map encApi_Stamp l11))) rfl) rfl ⟨rfl, trivial⟩ trivial ?_
        refine G.endOps ?_
        refine G.endBlock ?_
        refine G.region ?_
        refine G.op1 (op_move (Ev.t 6 (bI .i64 v3.1)) rfl) rfl ⟨rfl, trivial⟩ trivial ?_
        refine G.op1 (op_add (Ev.t 11 (bI .i64 v3.1)) (Ev.c _ rfl) rfl) rfl ⟨rfl, trivial⟩ trivial ?_
        refine G.op1 (op_assign (Ev.t 12 (bI .i64 (IntKind.wrap .i64 (v3.1 + 1)))) rfl) rfl ⟨rfl, trivial⟩ trivial ?_
        refine G.endOps ?_
        exact G.arr (J4 (IntKind.wrap .i64 (v3.1 + 1), l11) hF) ⟨rfl, rfl, rfl, rfl, trivial⟩ ⟨rfl, trivial⟩ rfl
      · refine G.cond rfl (fun hx => by rw [hc9] at hx; cases hx) (fun _ => ?_)
        refine G.skip ?_
        refine G.endBlock ?_
        refine G.region ?_
        refine G.op1 (op_move (Ev.t 6 (bI .i64 v3.1)) rfl) rfl ⟨rfl, trivial⟩ trivial ?_
        refine G.op1 (op_add (Ev.t 11 (bI .i64 v3.1)) (Ev.c _ rfl) rfl) rfl ⟨rfl, trivial⟩ trivial ?_
        refine G.op1 (op_assign (Ev.t 12 (bI .i64 (IntKind.wrap .i64 (v3.1 + 1)))) rfl) rfl ⟨rfl, trivial⟩ trivial ?_
        refine G.endOps ?_
        exact G.arr (J4 (IntKind.wrap .i64 (v3.1 + 1), v3.2) hF) ⟨rfl, rfl, rfl, rfl, trivial⟩ ⟨rfl, trivial⟩ rfl
    refine G.region ?_
    refine G.op1 (op_move (Ev.t 0 (.g (.d (.sl 6 (List.map encApi_Event l_0))))) rfl) rfl ⟨rfl, trivial⟩ trivial ?_
    refine G.op1 (op_move (Ev.t 6 (bI .i64 v3.1)) rfl) rfl ⟨rfl, trivial⟩ trivial ?_
    obtain ⟨x13, hx13, hF⟩ := bindS hF
    refine G.op1 (op_index (cs := [.v (.int .i64 x13.Kind), .v (.int .i64 x13.Client), .v (.string x13.Key), .v (.int .i64 x13.Stamp.N), .v (.int .i64 x13.Stamp.Site), .sl 3 (List.map encApi_Dep x13.Seen)]) Try.underlying24 ti30 (idx_ok hx13).1 (idx_get hx13 encApi_Event) (Ev.t 13 (.g (.d (.sl 6 (List.map encApi_Event l_0))))) (Ev.t 14 (bI .i64 v3.1)) rfl) rfl ⟨rfl, rfl, trivial⟩ trivial ?_
    refine G.op1 (op_fieldE (cs' := [.v (.int .i64 x13.Kind), .v (.int .i64 x13.Client), .v (.string x13.Key), .v (.int .i64 x13.Stamp.N), .v (.int .i64 x13.Stamp.Site), .sl 3 (List.map encApi_Dep x13.Seen)]) Try.underlying30 rfl ti3 (by decide) rfl (Ev.t 15 (.ep [.v (.int .i64 x13.Kind), .v (.int .i64 x13.Client), .v (.string x13.Key), .v (.int .i64 x13.Stamp.N), .v (.int .i64 x13.Stamp.Site), .sl 3 (List.map encApi_Dep x13.Seen)])) rfl) rfl ⟨rfl, trivial⟩ trivial ?_
    refine G.op1 (op_load1E (c := .v (.int .i64 x13.Kind)) Try.underlying3 rfl rfl (Ev.t 16 (.ep [.v (.int .i64 x13.Kind), .v (.int .i64 x13.Client), .v (.string x13.Key), .v (.int .i64 x13.Stamp.N), .v (.int .i64 x13.Stamp.Site), .sl 3 (List.map encApi_Dep x13.Seen)])) rfl) rfl ⟨rfl, trivial⟩ trivial ?_
    refine G.op1 (op_eqI (Ev.t 17 (bI .i64 x13.Kind)) (Ev.c _ rfl) rfl) rfl ⟨rfl, trivial⟩ trivial ?_
    refine G.op1 (op_move (Ev.t 18 (bB (decide (x13.Kind = 1)))) rfl) rfl ⟨rfl, trivial⟩ trivial ?_
    refine ifS hF (fun hc14 hF => ?_) (fun hc14 hF => ?_)
    · refine G.known (t := 19) hc14 rfl ?_
      refine G.opG1 (op_move (Ev.t 0 (.g (.d (.sl 6 (List.map encApi_Event l_0))))) rfl) rfl rfl rfl ⟨rfl, trivial⟩ trivial ?_
      refine G.opG1 (op_move (Ev.t 6 (bI .i64 v3.1)) rfl) rfl rfl rfl ⟨rfl, trivial⟩ trivial ?_
      obtain ⟨x15, hx15, hF⟩ := bindS hF
      refine G.opG1 (op_index (cs := [.v (.int .i64 x15.Kind), .v (.int .i64 x15.Client), .v (.string x15.Key), .v (.int .i64 x15.Stamp.N), .v (.int .i64 x15.Stamp.Site), .sl 3 (List.map encApi_Dep x15.Seen)]) Try.underlying24 ti30 (idx_ok hx15).1 (idx_get hx15 encApi_Event) (Ev.t 20 (.g (.d (.sl 6 (List.map encApi_Event l_0))))) (Ev.t 21 (bI .i64 v3.1)) rfl) rfl rfl rfl ⟨rfl, rfl, trivial⟩ trivial ?_
      refine G.opG1 (op_fieldE (cs' := [.v (.string x15.Key), .v (.int .i64 x15.Stamp.N), .v (.int .i64 x15.Stamp.Site), .sl 3 (List.map encApi_Dep x15.Seen)]) Try.underlying30 rfl ti9 (by decide) rfl (Ev.t 22 (.ep [.v (.int .i64 x15.Kind), .v (.int .i64 x15.Client), .v (.string x15.Key), .v (.int .i64 x15.Stamp.N), .v (.int .i64 x15.Stamp.Site), .sl 3 (List.map encApi_Dep x15.Seen)])) rfl) rfl rfl rfl ⟨rfl, trivial⟩ trivial ?_
      refine G.opG1 (op_load1E (c := .v (.string x15.Key)) Try.underlying9 rfl rfl (Ev.t 23 (.ep [.v (.string x15.Key), .v (.int .i64 x15.Stamp.N), .v (.int .i64 x15.Stamp.Site), .sl 3 (List.map encApi_Dep x15.Seen)])) rfl) rfl rfl rfl ⟨rfl, trivial⟩ trivial ?_
      refine G.opG1 (op_move (Ev.t 1 (bS key_1)) rfl) rfl rfl rfl ⟨rfl, trivial⟩ trivial ?_
      refine G.opG1 (op_eqS (Ev.t 24 (bS x15.Key)) (Ev.t 25 (bS key_1)) rfl) rfl rfl rfl ⟨rfl, rfl, trivial⟩ trivial ?_
      refine G.op1 (op_pickT (Ev.t 19 (bB true)) (Ev.t 26 (bB (seq x15.Key key_1))) rfl) rfl ⟨rfl, rfl, trivial⟩ trivial ?_
      refine G.endOps ?_
      exact G.arr (J12 (seq x15.Key key_1) hF) ⟨rfl, rfl, rfl, rfl, rfl, trivial⟩ ⟨rfl, trivial⟩ rfl
    · refine G.known (t := 19) hc14 rfl ?_
      refine G.opN1 rfl rfl rfl rfl rfl ?_
      refine G.opN1 rfl rfl rfl rfl rfl ?_
      refine G.opN1 rfl rfl rfl rfl rfl ?_
      refine G.opN1 rfl rfl rfl rfl rfl ?_
      refine G.opN1 rfl rfl rfl rfl rfl ?_
      refine G.opN1 rfl rfl rfl rfl rfl ?_
      refine G.opN1 rfl rfl rfl rfl rfl ?_
      refine G.op1 (op_pickF (Ev.t 19 (bB false)) (Ev.c _ rfl) rfl) rfl ⟨rfl, trivial⟩ trivial ?_
      refine G.endOps ?_
      exact G.arr (J12 false hF) ⟨rfl, rfl, rfl, rfl, rfl, trivial⟩ ⟨rfl, trivial⟩ rfl
  · refine G.cond rfl (fun hx => by rw [hc7] at hx; cases hx) (fun _ => ?_)
    refine G.exit ?_
    refine GX.c ?_
    refine GX.q ?_
    refine GX.bYes ?_
    exact G.arr (J2 v3.2 hF) ⟨rfl, trivial⟩ ⟨rfl, trivial⟩ rfl


set_option maxRecDepth 20000 in
set_option maxHeartbeats 2000000 in
theorem ct_slices_Clone_Event (s_0 : (List Api_Event)) (r : (List Api_Event)) (hF : slices_Clone_Event s_0 = some r) : Ct Try.prog 30 [.g (.d (.sl 6 (List.map encApi_Event s_0)))] (.new 30 6 (List.map encApi_Event r)) := by
  unfold slices_Clone_Event at hF
  refine Ct.intro Try.func30 rfl Try.ntmps30 rfl rfl fun M w => ?_
  refine G.seq ?_
  refine G.region ?_
  refine G.op1 (op_assign (c := .x (.slice none 0 0)) (Ev.x _) rfl) rfl trivial trivial ?_
  refine G.endOps ?_
  refine G.seq ?_
  refine G.seq ?_
  refine G.region ?_
  refine G.op1 (op_move (Ev.t 0 (.g (.d (.sl 6 (List.map encApi_Event s_0))))) rfl) rfl ⟨rfl, trivial⟩ trivial ?_
  refine G.opNil Try.underlying24 (Ev.t 3 (.g (.d (.sl 6 (List.map encApi_Event s_0))))) rfl ⟨rfl, trivial⟩ (fun nilb1 hnilb1 => ?_)
  refine G.endOps ?_
  refine G.cond rfl (fun hx => ?_) (fun hx => ?_)
  · replace hF := cloneNil (hnilb1 hx) hF
    refine G.seq ?_
    refine G.region ?_
    refine G.op1 (op_assign (c := .x (.slice none 0 0)) (Ev.x _) rfl) rfl trivial trivial ?_
    refine G.endOps ?_
    cases hF
    exact G.retNil (T := 30) Try.results30 ti30 rfl ⟨rfl, trivial⟩
  · clear hnilb1
    refine G.skip ?_
    refine G.seq ?_
    refine G.region ?_
    refine G.op2 (op_buildRow (kk := 2005) Try.underlying24 ti30 rfl rfl) rfl trivial ⟨rfl, trivial⟩ ?_
    refine G.keep (sl' := [(0, .one (.g (.d (.sl 6 (List.map encApi_Event s_0))))), (2, .one (.x (.slice none 0 0))), (3, .one (.g (.d (.sl 6 (List.map encApi_Event s_0))))), (4, .one (bB nilb1)), (5, .one (.own 2005 (List.map encApi_Event ([] : List Api_Event))))]) (hp' := [(2005, some (.row 30 6 (List.map encApi_Event ([] : List Api_Event)) true))]) ⟨rfl, rfl, rfl, rfl, rfl, trivial⟩ ⟨rfl, trivial⟩ rfl ?_
    refine G.op1 (op_move (Ev.t 0 (.g (.d (.sl 6 (List.map encApi_Event s_0))))) rfl) rfl ⟨rfl, trivial⟩ trivial ?_
    obtain ⟨l2, hl2, hF⟩ := bindS hF
    refine G.op2 (op_appendO Try.underlying24 ti30 rfl (app_map hl2 encApi_Event) (app_b1 hl2 encApi_Event) (app_b2 hl2 encApi_Event) (Ev.t 5 (.own 2005 (List.map encApi_Event ([] : List Api_Event)))) (Ev.t 6 (.g (.d (.sl 6 (List.map encApi_Event s_0))))) rfl) rfl ⟨rfl, rfl, trivial⟩ ⟨rfl, trivial⟩ ?_
    refine G.op1 (op_assign (Ev.t 7 (.own 2005 (List.map encApi_Event l2))) rfl) rfl ⟨rfl, trivial⟩ trivial ?_
    refine G.endOps ?_
    cases hF
    exact G.retNew Try.results30 rfl rfl


set_option maxRecDepth 20000 in
set_option maxHeartbeats 2000000 in
theorem ct_history_Of_1 (e_0 : Api_Event) (c0 : Int) (r : Bool) (hF : history_Of_1 e_0 c0 = some r) : Ct Try.prog 31 [.g (.agg (encApi_Event e_0)), .ep [.v (.int .i64 c0)]] (.one (.d (.v (.bool r)))) := by
  unfold history_Of_1 at hF
  refine Ct.intro Try.func31 rfl Try.ntmps31 rfl rfl fun M w => ?_
  refine G.seq ?_
  refine G.region ?_
  refine G.op2 (op_boxA (k := 1002) (Ev.t 0 (.g (.agg [.v (.int .i64 e_0.Kind), .v (.int .i64 e_0.Client), .v (.string e_0.Key), .v (.int .i64 e_0.Stamp.N), .v (.int .i64 e_0.Stamp.Site), .sl 3 (List.map encApi_Dep e_0.Seen)]))) rfl) rfl ⟨rfl, trivial⟩ ⟨rfl, trivial⟩ ?_
  refine G.op1 (op_assign (Ev.c _ rfl) rfl) rfl trivial trivial ?_
  refine G.endOps ?_
  refine G.seq ?_
  refine G.region ?_
  refine G.op1 (op_fieldP (off' := 1) Try.underlying30 rfl ti3 (by decide) rfl (Ev.t 2 (.ptr 1002 0)) rfl) rfl ⟨rfl, trivial⟩ trivial ?_
  refine G.op1 (op_load1P (c := bI .i64 e_0.Client) Try.underlying3 rfl rfl (Ev.t 4 (.ptr 1002 1)) rfl) rfl ⟨rfl, trivial⟩ ⟨rfl, trivial⟩ ?_
  refine G.op1 (op_load1E (c := .v (.int .i64 c0)) Try.underlying3 rfl rfl (Ev.t 1 (.ep [.v (.int .i64 c0)])) rfl) rfl ⟨rfl, trivial⟩ trivial ?_
  refine G.op1 (op_neI (Ev.t 5 (bI .i64 e_0.Client)) (Ev.t 6 (bI .i64 c0)) rfl) rfl ⟨rfl, rfl, trivial⟩ trivial ?_
  refine G.op1 (op_assign (Ev.t 7 (bB (!decide (e_0.Client = c0)))) rfl) rfl ⟨rfl, trivial⟩ trivial ?_
  refine G.endOps ?_
  cases hF
  exact G.ret1 Try.results31 (RVar.tmp 3 _) ⟨rfl, trivial⟩ trivial


set_option maxRecDepth 20000 in
set_option maxHeartbeats 2000000 in
theorem ct_slices_IndexFunc_Event (s_0 : (List Api_Event)) (f_1 : (Api_Event → Option Bool)) (r : Int) (hF : slices_IndexFunc_Event s_0 f_1 = some r) : Ct Try.prog 50 [.g (.d (.sl 6 (List.map encApi_Event s_0))), .sem (sem1 (fun x => .agg (encApi_Event x)) (fun y => .bool y) f_1)] (.one (.d (.v (.int .i64 r)))) := by
  unfold slices_IndexFunc_Event at hF
  refine Ct.intro Try.func50 rfl Try.ntmps50 rfl rfl fun M w => ?_
  refine G.seq ?_
  refine G.region ?_
  refine G.op1 (op_assign (Ev.c _ rfl) rfl) rfl trivial trivial ?_
  refine G.endOps ?_
  refine G.seq ?_
  refine G.seq ?_
  refine G.region ?_
  refine G.op1 (op_move (Ev.t 0 (.g (.d (.sl 6 (List.map encApi_Event s_0))))) rfl) rfl ⟨rfl, trivial⟩ trivial ?_
  refine G.op1 (OpL.cast (op_lenD Try.underlying24 (Ev.t 6 (.g (.d (.sl 6 (List.map encApi_Event s_0))))) rfl) (by rw [List.length_map])) rfl ⟨rfl, trivial⟩ trivial ?_
  refine G.op1 (op_move (Ev.c _ rfl) rfl) rfl trivial trivial ?_
  refine G.endOps ?_
  refine G.joinC (T := Unit) (fun y1 => ⟨[], []⟩) (fun y1 => slices_IndexFunc_Event_k1 y1 = some r) (fun y1 hF => ?_) (fun J2 => ?_)
  · unfold slices_IndexFunc_Event_k1 at hF
    refine G.seq ?_
    refine G.region ?_
    refine G.op1 (op_assign (Ev.c _ rfl) rfl) rfl trivial trivial ?_
    refine G.endOps ?_
    cases hF
    exact G.ret1 Try.results50 (RVar.tmp 4 _) ⟨rfl, trivial⟩ trivial
  refine G.block ?_
  refine G.keep (sl' := [(0, .one (.g (.d (.sl 6 (List.map encApi_Event s_0))))), (1, .one (.sem (sem1 (fun x => .agg (encApi_Event x)) (fun y => .bool y) f_1))), (7, .one (bI .i64 (s_0.length : Int))), (8, .one (bI .i64 0))]) (hp' := []) ⟨rfl, rfl, rfl, rfl, trivial⟩ trivial rfl ?_
  refine G.loopF (fun (v3 : Int) => ⟨[(0, .one (.g (.d (.sl 6 (List.map encApi_Event s_0))))), (1, .one (.sem (sem1 (fun x => .agg (encApi_Event x)) (fun y => .bool y) f_1))), (7, .one (bI .i64 (s_0.length : Int))), (8, .one (bI .i64 v3))], []⟩) hF rfl (fun K6 again5 v3 J4 hF => ?_)
  unfold slices_IndexFunc_Event_l2 at hF
  refine G.seq ?_
  refine G.region ?_
  refine G.op1 (op_lss (Ev.t 8 (bI .i64 v3)) (Ev.t 7 (bI .i64 (s_0.length : Int))) rfl) rfl ⟨rfl, rfl, trivial⟩ trivial ?_
  refine G.endOps ?_
  refine G.seq ?_
  refine ifS hF (fun hc7 hF => ?_) (fun hc7 hF => ?_)
  · refine G.cond rfl (fun _ => ?_) (fun hx => by rw [hc7] at hx; cases hx)
    refine G.skip ?_
    refine G.seq ?_
    refine G.block ?_
    refine G.seq ?_
    refine G.region ?_
    refine G.op1 (op_move (Ev.t 8 (bI .i64 v3)) rfl) rfl ⟨rfl, trivial⟩ trivial ?_
    refine G.op1 (op_assign (Ev.t 10 (bI .i64 v3)) rfl) rfl ⟨rfl, trivial⟩ trivial ?_
    refine G.endOps ?_
    refine G.seq ?_
    refine G.region ?_
    refine G.op1 (op_move (Ev.t 1 (.sem (sem1 (fun x => .agg (encApi_Event x)) (fun y => .bool y) f_1))) rfl) rfl ⟨rfl, trivial⟩ trivial ?_
    refine G.op1 (op_move (Ev.t 0 (.g (.d (.sl 6 (List.map encApi_Event s_0))))) rfl) rfl ⟨rfl, trivial⟩ trivial ?_
    refine G.op1 (op_move (Ev.t 5 (bI .i64 v3)) rfl) rfl ⟨rfl, trivial⟩ trivial ?_
    obtain ⟨x8, hx8, hF⟩ := bindS hF
    refine G.op1 (op_index (cs := [.v (.int .i64 x8.Kind), .v (.int .i64 x8.Client), .v (.string x8.Key), .v (.int .i64 x8.Stamp.N), .v (.int .i64 x8.Stamp.Site), .sl 3 (List.map encApi_Dep x8.Seen)]) Try.underlying24 ti30 (idx_ok hx8).1 (idx_get hx8 encApi_Event) (Ev.t 12 (.g (.d (.sl 6 (List.map encApi_Event s_0))))) (Ev.t 13 (bI .i64 v3)) rfl) rfl ⟨rfl, rfl, trivial⟩ trivial ?_
    refine G.op1 (op_loadAE (ds := [.v (.int .i64 x8.Kind), .v (.int .i64 x8.Client), .v (.string x8.Key), .v (.int .i64 x8.Stamp.N), .v (.int .i64 x8.Stamp.Site), .sl 3 (List.map encApi_Dep x8.Seen)]) Try.underlying30 rfl ti30 rfl (Ev.t 14 (.ep [.v (.int .i64 x8.Kind), .v (.int .i64 x8.Client), .v (.string x8.Key), .v (.int .i64 x8.Stamp.N), .v (.int .i64 x8.Stamp.Site), .sl 3 (List.map encApi_Dep x8.Seen)])) rfl) rfl ⟨rfl, trivial⟩ trivial ?_
    obtain ⟨r9, hr9, hF⟩ := bindS hF
    refine G.op1 (op_callSem (t := 11) (v := .bool r9) (Φ := sem1 (fun x => .agg (encApi_Event x)) (fun y => .bool y) f_1) ⟨x8, r9, rfl, hr9, rfl⟩ rfl (EvL.cons (Ev.t 15 (.g (.agg [.v (.int .i64 x8.Kind), .v (.int .i64 x8.Client), .v (.string x8.Key), .v (.int .i64 x8.Stamp.N), .v (.int .i64 x8.Stamp.Site), .sl 3 (List.map encApi_Dep x8.Seen)]))) EvL.nil) rfl) rfl ⟨rfl, rfl, trivial⟩ trivial ?_
    refine G.endOps ?_
    refine ifS hF (fun hc10 hF => ?_) (fun hc10 hF => ?_)
    · refine G.cond rfl (fun _ => ?_) (fun hx => by rw [hc10] at hx; cases hx)
      refine G.seq ?_
      refine G.region ?_
      refine G.op1 (op_move (Ev.t 5 (bI .i64 v3)) rfl) rfl ⟨rfl, trivial⟩ trivial ?_
      refine G.op1 (op_assign (Ev.t 17 (bI .i64 v3)) rfl) rfl ⟨rfl, trivial⟩ trivial ?_
      refine G.endOps ?_
      cases hF
      exact G.ret1 Try.results50 (RVar.tmp 4 _) ⟨rfl, trivial⟩ trivial
    · refine G.cond rfl (fun hx => by rw [hc10] at hx; cases hx) (fun _ => ?_)
      refine G.skip ?_
      refine G.endBlock ?_
      refine G.region ?_
      refine G.op1 (op_add (Ev.t 8 (bI .i64 v3)) (Ev.c _ rfl) rfl) rfl ⟨rfl, trivial⟩ trivial ?_
      refine G.op1 (op_move (Ev.t 18 (bI .i64 (IntKind.wrap .i64 (v3 + 1)))) rfl) rfl ⟨rfl, trivial⟩ trivial ?_
      refine G.endOps ?_
      exact G.arr (J4 (IntKind.wrap .i64 (v3 + 1)) hF) ⟨rfl, rfl, rfl, rfl, trivial⟩ trivial rfl
  · refine G.cond rfl (fun hx => by rw [hc7] at hx; cases hx) (fun _ => ?_)
    refine G.exit ?_
    refine GX.c ?_
    refine GX.q ?_
    refine GX.bYes ?_
    exact G.arr (J2 () hF) trivial trivial rfl


set_option maxRecDepth 20000 in
set_option maxHeartbeats 2000000 in
theorem ct_slices_DeleteFunc_Event (s_0 : (List Api_Event)) (del_1 : (Api_Event → Option Bool)) (r : (List Api_Event)) (hF : slices_DeleteFunc_Event s_0 del_1 = some r) : Ct Try.prog 29 [.row 30 6 (List.map encApi_Event s_0), .sem (sem1 (fun x => .agg (encApi_Event x)) (fun y => .bool y) del_1)] (.new 30 6 (List.map encApi_Event r)) := by
  unfold slices_DeleteFunc_Event at hF
  refine Ct.introRow Try.func29 rfl Try.ntmps29 rfl fun M K w => ?_
  refine G.seq ?_
  refine G.region ?_
  refine G.op1 (op_assign (c := .x (.slice none 0 0)) (Ev.x _) rfl) rfl trivial trivial ?_
  refine G.endOps ?_
  refine G.seq ?_
  refine G.region ?_
  refine G.op1 (op_move (Ev.t 0 (.own 0 (List.map encApi_Event s_0))) rfl) rfl ⟨rfl, trivial⟩ trivial ?_
  refine G.op1 (op_move (Ev.t 1 (.sem (sem1 (fun x => .agg (encApi_Event x)) (fun y => .bool y) del_1))) rfl) rfl ⟨rfl, trivial⟩ trivial ?_
  obtain ⟨r1, hr1, hF⟩ := bindS hF
  refine G.op1 (op_callQ (sv := .one (bI .i64 r1)) cf50 (ct_slices_IndexFunc_Event s_0 del_1 r1 hr1) rfl rfl (EvQL.cons (EvQ.own (Ev.t 8 (.own 0 (List.map encApi_Event s_0)))) (EvQL.cons (EvQ.sem (Ev.t 9 (.sem (sem1 (fun x => .agg (encApi_Event x)) (fun y => .bool y) del_1)))) EvQL.nil)) rfl) rfl ⟨rfl, rfl, trivial⟩ ⟨rfl, trivial⟩ ?_
  refine G.op1 (op_assign (Ev.t 10 (bI .i64 r1)) rfl) rfl ⟨rfl, trivial⟩ trivial ?_
  refine G.endOps ?_
  refine G.seq ?_
  refine G.seq ?_
  refine G.region ?_
  refine G.op1 (op_move (Ev.t 5 (bI .i64 r1)) rfl) rfl ⟨rfl, trivial⟩ trivial ?_
  refine G.op1 (op_eqI (Ev.t 11 (bI .i64 r1)) (Ev.c _ rfl) rfl) rfl ⟨rfl, trivial⟩ trivial ?_
  refine G.endOps ?_
  refine ifS hF (fun hc2 hF => ?_) (fun hc2 hF => ?_)
  · refine G.cond rfl (fun _ => ?_) (fun hx => by rw [hc2] at hx; cases hx)
    refine G.seq ?_
    refine G.region ?_
    refine G.op1 (op_move (Ev.t 0 (.own 0 (List.map encApi_Event s_0))) rfl) rfl ⟨rfl, trivial⟩ trivial ?_
    refine G.op1 (op_assign (Ev.t 13 (.own 0 (List.map encApi_Event s_0))) rfl) rfl ⟨rfl, trivial⟩ trivial ?_
    refine G.endOps ?_
    cases hF
    exact G.retNew Try.results29 rfl rfl
  · refine G.cond rfl (fun hx => by rw [hc2] at hx; cases hx) (fun _ => ?_)
    refine G.skip ?_
    refine G.seq ?_
    refine G.seq ?_
    refine G.region ?_
    refine G.op1 (op_move (Ev.t 5 (bI .i64 r1)) rfl) rfl ⟨rfl, trivial⟩ trivial ?_
    refine G.op1 (op_add (Ev.t 14 (bI .i64 r1)) (Ev.c _ rfl) rfl) rfl ⟨rfl, trivial⟩ trivial ?_
    refine G.op1 (op_assign (Ev.t 15 (bI .i64 (IntKind.wrap .i64 (r1 + 1)))) rfl) rfl ⟨rfl, trivial⟩ trivial ?_
    refine G.endOps ?_
    refine G.joinC (T := Int × (List Api_Event)) (fun y3 => ⟨[(0, .one (.own 0 (List.map encApi_Event y3.2))), (5, .one (bI .i64 y3.1))], [(0, some (.row 30 6 (List.map encApi_Event y3.2) true))]⟩) (fun y3 => slices_DeleteFunc_Event_k1 y3 = some r) (fun y3 hF => ?_) (fun J6 => ?_)
    · unfold slices_DeleteFunc_Event_k1 at hF
      refine G.seq ?_
      refine G.region ?_
      refine G.op1 (op_move (Ev.t 0 (.own 0 (List.map encApi_Event y3.2))) rfl) rfl ⟨rfl, trivial⟩ trivial ?_
      refine G.op1 (op_move (Ev.t 5 (bI .i64 y3.1)) rfl) rfl ⟨rfl, trivial⟩ trivial ?_
      obtain ⟨l4, hl4, hF⟩ := bindS hF
      refine G.clearRow (zs := [.v (.int .i64 0), .v (.int .i64 0), .v (.string ByteArray.empty), .v (.int .i64 0), .v (.int .i64 0), .sl 3 (List.map encApi_Dep ([] : (List Api_Dep)))]) Try.underlying24 ti30 ⟨.v _ rfl, .v _ rfl, .v _ rfl, .v _ rfl, .v _ rfl, .n 3, trivial⟩ rfl (zeroes_ok hl4 encApi_Event).1 (zeroes_ok hl4 encApi_Event).2.1 (zeroes_ok hl4 encApi_Event).2.2 (Ev.t 36 (.own 0 (List.map encApi_Event y3.2))) (Ev.t 37 (bI .i64 y3.1)) rfl ⟨rfl, rfl, trivial⟩ rfl ?_
      refine G.renew (t := 0) rfl rfl (zeroes_len hl4 encApi_Event) ?_
      refine G.renew (t := 36) rfl rfl (zeroes_len hl4 encApi_Event) ?_
      refine G.endOps ?_
      refine G.seq ?_
      refine G.region ?_
      refine G.op1 (op_move (Ev.t 0 (.own 0 (List.map encApi_Event l4))) rfl) rfl ⟨rfl, trivial⟩ trivial ?_
      refine G.op1 (op_move (Ev.t 5 (bI .i64 y3.1)) rfl) rfl ⟨rfl, trivial⟩ trivial ?_
      obtain ⟨l5, hl5, hF⟩ := bindS hF
      refine G.cutRow (sl' := [(5, .one (bI .i64 y3.1)), (37, .one (bI .i64 y3.1)), (40, .one (bI .i64 y3.1))]) Try.underlying24 ti30 (sub_ok0 hl5 encApi_Event).1 (sub_ok0 hl5 encApi_Event).2.1 (sub_ok0 hl5 encApi_Event).2.2 (Ev.t 39 (.own 0 (List.map encApi_Event l4))) (Ev.t 40 (bI .i64 y3.1)) rfl ⟨rfl, rfl, trivial⟩ rfl ⟨rfl, rfl, rfl, trivial⟩ rfl ?_
      refine G.op1 (op_assign (Ev.t 41 (.own 0 (List.map encApi_Event l5))) rfl) rfl ⟨rfl, trivial⟩ trivial ?_
      refine G.endOps ?_
      cases hF
      exact G.retNew Try.results29 rfl rfl
    refine G.block ?_
    refine G.keep (sl' := [(0, .one (.own 0 (List.map encApi_Event s_0))), (1, .one (.sem (sem1 (fun x => .agg (encApi_Event x)) (fun y => .bool y) del_1))), (5, .one (bI .i64 r1)), (6, .one (bI .i64 (IntKind.wrap .i64 (r1 + 1))))]) (hp' := [(0, some (.row 30 6 (List.map encApi_Event s_0) true))]) ⟨rfl, rfl, rfl, rfl, trivial⟩ ⟨rfl, trivial⟩ rfl ?_
    refine G.loopF (fun (v7 : Int × Int × (List Api_Event)) => ⟨[(0, .one (.own 0 (List.map encApi_Event v7.2.2))), (1, .one (.sem (sem1 (fun x => .agg (encApi_Event x)) (fun y => .bool y) del_1))), (5, .one (bI .i64 v7.1)), (6, .one (bI .i64 v7.2.1))], [(0, some (.row 30 6 (List.map encApi_Event v7.2.2) true))]⟩) hF rfl (fun K10 again9 v7 J8 hF => ?_)
    unfold slices_DeleteFunc_Event_l2 at hF
    refine G.seq ?_
    refine G.seq ?_
    refine G.region ?_
    refine G.op1 (op_move (Ev.t 6 (bI .i64 v7.2.1)) rfl) rfl ⟨rfl, trivial⟩ trivial ?_
    refine G.op1 (op_move (Ev.t 0 (.own 0 (List.map encApi_Event v7.2.2))) rfl) rfl ⟨rfl, trivial⟩ trivial ?_
    refine G.op1 (OpL.cast (op_lenO Try.underlying24 (Ev.t 17 (.own 0 (List.map encApi_Event v7.2.2))) rfl) (by rw [List.length_map])) rfl ⟨rfl, trivial⟩ ⟨rfl, trivial⟩ ?_
    refine G.op1 (op_lss (Ev.t 16 (bI .i64 v7.2.1)) (Ev.t 18 (bI .i64 (v7.2.2.length : Int))) rfl) rfl ⟨rfl, rfl, trivial⟩ trivial ?_
    refine G.endOps ?_
    refine ifS hF (fun hc11 hF => ?_) (fun hc11 hF => ?_)
    · refine G.cond rfl (fun _ => ?_) (fun hx => by rw [hc11] at hx; cases hx)
      refine G.skip ?_
      refine G.seq ?_
      refine G.block ?_
      refine G.seq ?_
      refine G.region ?_
      refine G.op1 (op_move (Ev.t 0 (.own 0 (List.map encApi_Event v7.2.2))) rfl) rfl ⟨rfl, trivial⟩ trivial ?_
      refine G.op1 (op_move (Ev.t 6 (bI .i64 v7.2.1)) rfl) rfl ⟨rfl, trivial⟩ trivial ?_
      obtain ⟨x12, hx12, hF⟩ := bindS hF
      refine G.loadRow (cs := [.v (.int .i64 x12.Kind), .v (.int .i64 x12.Client), .v (.string x12.Key), .v (.int .i64 x12.Stamp.N), .v (.int .i64 x12.Stamp.Site), .sl 3 (List.map encApi_Dep x12.Seen)]) Try.underlying24 Try.underlying30 rfl ti30 (idx_ok hx12).1 (idx_get hx12 encApi_Event) (Ev.t 22 (.own 0 (List.map encApi_Event v7.2.2))) (Ev.t 23 (bI .i64 v7.2.1)) rfl rfl ⟨rfl, rfl, trivial⟩ rfl ?_
      refine G.op2 (op_alloc (k := 1007) (cs := [bI .i64 0, bI .i64 0, bS ByteArray.empty, bI .i64 0, bI .i64 0, .g (.d (.sl 3 (List.map encApi_Dep ([] : (List Api_Dep)))))]) ti30 ⟨.v _ rfl, .v _ rfl, .v _ rfl, .v _ rfl, .v _ rfl, .n 3, trivial⟩ rfl) rfl trivial ⟨rfl, trivial⟩ ?_
      refine G.op3 (op_storeA (cs' := [bI .i64 x12.Kind, bI .i64 x12.Client, bS x12.Key, bI .i64 x12.Stamp.N, bI .i64 x12.Stamp.Site, .g (.d (.sl 3 (List.map encApi_Dep x12.Seen)))]) ti30 rfl rfl (Ev.t 7 (.ptr 1007 0)) (Ev.t 25 (.g (.agg [.v (.int .i64 x12.Kind), .v (.int .i64 x12.Client), .v (.string x12.Key), .v (.int .i64 x12.Stamp.N), .v (.int .i64 x12.Stamp.Site), .sl 3 (List.map encApi_Dep x12.Seen)])))) rfl ⟨rfl, rfl, trivial⟩ ⟨rfl, trivial⟩ ?_
      refine G.endOps ?_
      refine G.seq ?_
      refine G.region ?_
      refine G.op1 (op_move (Ev.t 1 (.sem (sem1 (fun x => .agg (encApi_Event x)) (fun y => .bool y) del_1))) rfl) rfl ⟨rfl, trivial⟩ trivial ?_
      refine G.op1 (op_loadAP (ds := [.v (.int .i64 x12.Kind), .v (.int .i64 x12.Client), .v (.string x12.Key), .v (.int .i64 x12.Stamp.N), .v (.int .i64 x12.Stamp.Site), .sl 3 (List.map encApi_Dep x12.Seen)]) Try.underlying30 rfl ti30 rfl (Ev.t 7 (.ptr 1007 0)) rfl) rfl ⟨rfl, trivial⟩ ⟨rfl, trivial⟩ ?_
      obtain ⟨r13, hr13, hF⟩ := bindS hF
      refine G.op1 (op_callSem (t := 26) (v := .bool r13) (Φ := sem1 (fun x => .agg (encApi_Event x)) (fun y => .bool y) del_1) ⟨x12, r13, rfl, hr13, rfl⟩ rfl (EvL.cons (Ev.t 27 (.g (.agg [.v (.int .i64 x12.Kind), .v (.int .i64 x12.Client), .v (.string x12.Key), .v (.int .i64 x12.Stamp.N), .v (.int .i64 x12.Stamp.Site), .sl 3 (List.map encApi_Dep x12.Seen)]))) EvL.nil) rfl) rfl ⟨rfl, rfl, trivial⟩ trivial ?_
      refine G.op1 (op_not (Ev.t 28 (bB r13)) rfl) rfl ⟨rfl, trivial⟩ trivial ?_
      refine G.endOps ?_
      refine ifS hF (fun hc14 hF => ?_) (fun hc14 hF => ?_)
      · refine G.cond rfl (fun _ => ?_) (fun hx => by rw [hc14] at hx; cases hx)
        refine G.seq ?_
        refine G.region ?_
        refine G.op1 (op_move (Ev.t 0 (.own 0 (List.map encApi_Event v7.2.2))) rfl) rfl ⟨rfl, trivial⟩ trivial ?_
        refine G.op1 (op_move (Ev.t 5 (bI .i64 v7.1)) rfl) rfl ⟨rfl, trivial⟩ trivial ?_
        refine G.op1 (op_loadAP (ds := [.v (.int .i64 x12.Kind), .v (.int .i64 x12.Client), .v (.string x12.Key), .v (.int .i64 x12.Stamp.N), .v (.int .i64 x12.Stamp.Site), .sl 3 (List.map encApi_Dep x12.Seen)]) Try.underlying30 rfl ti30 rfl (Ev.t 7 (.ptr 1007 0)) rfl) rfl ⟨rfl, trivial⟩ ⟨rfl, trivial⟩ ?_
        obtain ⟨l15, hl15, hF⟩ := bindS hF
        refine G.storeRow Try.underlying24 ti30 rfl (sets_ok hl15 encApi_Event).1 (sets_ok hl15 encApi_Event).2.1 (sets_ok hl15 encApi_Event).2.2 (Ev.t 30 (.own 0 (List.map encApi_Event v7.2.2))) (Ev.t 31 (bI .i64 v7.1)) (Ev.t 32 (.g (.agg [.v (.int .i64 x12.Kind), .v (.int .i64 x12.Client), .v (.string x12.Key), .v (.int .i64 x12.Stamp.N), .v (.int .i64 x12.Stamp.Site), .sl 3 (List.map encApi_Dep x12.Seen)]))) (by simp) rfl ⟨rfl, rfl, rfl, trivial⟩ rfl ?_
        refine G.renew (t := 0) rfl rfl (sets_len hl15 encApi_Event) ?_
        refine G.renew (t := 17) rfl rfl (sets_len hl15 encApi_Event) ?_
        refine G.renew (t := 22) rfl rfl (sets_len hl15 encApi_Event) ?_
        refine G.renew (t := 30) rfl rfl (sets_len hl15 encApi_Event) ?_
        refine G.endOps ?_
        refine G.region ?_
        refine G.op1 (op_move (Ev.t 5 (bI .i64 v7.1)) rfl) rfl ⟨rfl, trivial⟩ trivial ?_
        refine G.op1 (op_add (Ev.t 34 (bI .i64 v7.1)) (Ev.c _ rfl) rfl) rfl ⟨rfl, trivial⟩ trivial ?_
        refine G.op1 (op_assign (Ev.t 35 (bI .i64 (IntKind.wrap .i64 (v7.1 + 1)))) rfl) rfl ⟨rfl, trivial⟩ trivial ?_
        refine G.endOps ?_
        refine G.endBlock ?_
        refine G.region ?_
        refine G.op1 (op_move (Ev.t 6 (bI .i64 v7.2.1)) rfl) rfl ⟨rfl, trivial⟩ trivial ?_
        refine G.op1 (op_add (Ev.t 20 (bI .i64 v7.2.1)) (Ev.c _ rfl) rfl) rfl ⟨rfl, trivial⟩ trivial ?_
        refine G.op1 (op_assign (Ev.t 21 (bI .i64 (IntKind.wrap .i64 (v7.2.1 + 1)))) rfl) rfl ⟨rfl, trivial⟩ trivial ?_
        refine G.endOps ?_
        exact G.arr (J8 (IntKind.wrap .i64 (v7.1 + 1), IntKind.wrap .i64 (v7.2.1 + 1), l15) hF) ⟨rfl, rfl, rfl, rfl, trivial⟩ ⟨rfl, trivial⟩ rfl
      · refine G.cond rfl (fun hx => by rw [hc14] at hx; cases hx) (fun _ => ?_)
        refine G.skip ?_
        refine G.endBlock ?_
        refine G.region ?_
        refine G.op1 (op_move (Ev.t 6 (bI .i64 v7.2.1)) rfl) rfl ⟨rfl, trivial⟩ trivial ?_
        refine G.op1 (op_add (Ev.t 20 (bI .i64 v7.2.1)) (Ev.c _ rfl) rfl) rfl ⟨rfl, trivial⟩ trivial ?_
        refine G.op1 (op_assign (Ev.t 21 (bI .i64 (IntKind.wrap .i64 (v7.2.1 + 1)))) rfl) rfl ⟨rfl, trivial⟩ trivial ?_
        refine G.endOps ?_
        exact G.arr (J8 (v7.1, IntKind.wrap .i64 (v7.2.1 + 1), v7.2.2) hF) ⟨rfl, rfl, rfl, rfl, trivial⟩ ⟨rfl, trivial⟩ rfl
    · refine G.cond rfl (fun hx => by rw [hc11] at hx; cases hx) (fun _ => ?_)
      refine G.exit ?_
      refine GX.c ?_
      refine GX.q ?_
      refine GX.bYes ?_
      exact G.arr (J6 (v7.1, v7.2.2) hF) ⟨rfl, rfl, trivial⟩ ⟨rfl, trivial⟩ rfl


set_option maxRecDepth 20000 in
set_option maxHeartbeats 2000000 in
theorem ct_history_Of (l_0 : (List Api_Event)) (client_1 : Int) (r : (List Api_Event)) (hF : history_Of l_0 client_1 = some r) : Ct Try.prog 17 [.g (.d (.sl 6 (List.map encApi_Event l_0))), .g (.d (.v (.int .i64 client_1)))] (.one (.d (.sl 6 (List.map encApi_Event r)))) := by
  unfold history_Of at hF
  refine Ct.intro Try.func17 rfl Try.ntmps17 rfl rfl fun M w => ?_
  refine G.seq ?_
  refine G.region ?_
  refine G.op2 (op_box1 (k := 1003) (c := bI .i64 client_1) trivial (Ev.t 1 (bI .i64 client_1)) rfl) rfl ⟨rfl, trivial⟩ ⟨rfl, trivial⟩ ?_
  refine G.op1 (op_assign (Ev.n 6) rfl) rfl trivial trivial ?_
  refine G.endOps ?_
  refine G.seq ?_
  refine G.region ?_
  refine G.op1 (op_move (Ev.t 0 (.g (.d (.sl 6 (List.map encApi_Event l_0))))) rfl) rfl ⟨rfl, trivial⟩ trivial ?_
  obtain ⟨r1, hr1, hF⟩ := bindS hF
  refine G.op2 (op_callNew (k := 2006) cf30 (ct_slices_Clone_Event l_0 r1 hr1) (EvL.cons (Ev.t 5 (.g (.d (.sl 6 (List.map encApi_Event l_0))))) EvL.nil) rfl) rfl ⟨rfl, trivial⟩ ⟨rfl, trivial⟩ ?_
  refine G.op1 (op_makeFunc1 (Ev.t 3 (.ptr 1003 0)) rfl) rfl ⟨rfl, trivial⟩ trivial ?_
  obtain ⟨r2, hr2, hF⟩ := bindS hF
  refine G.callRow (sl' := [(0, .one (.g (.d (.sl 6 (List.map encApi_Event l_0))))), (1, .one (bI .i64 client_1)), (3, .one (.ptr 1003 0)), (4, .one (.g (.d (.sl 6 (List.map encApi_Event ([] : (List Api_Event))))))), (5, .one (.g (.d (.sl 6 (List.map encApi_Event l_0))))), (7, .one (.clo 31 [1003]))]) cf29 (ct_slices_DeleteFunc_Event r1 (fun x0 => history_Of_1 x0 client_1) r2 hr2) (Ev.t 6 (.own 2006 (List.map encApi_Event r1))) (EvX.clo (Φ := sem1 (fun x => .agg (encApi_Event x)) (fun y => .bool y) (fun x0 => history_Of_1 x0 client_1)) (Ev.t 7 (.clo 31 [1003])) (EvC.cons rfl EvC.nil) cf31 (fun args v ⟨x0, b, h1, h2, h3⟩ => by subst h1 h3; exact ct_history_Of_1 x0 client_1 b h2) EvX.nil) rfl ⟨rfl, rfl, trivial⟩ ⟨rfl, rfl, trivial⟩ ⟨rfl, rfl, rfl, rfl, rfl, rfl, trivial⟩ rfl ?_
  refine G.op1 (op_assign (Ev.t 8 (.own 2006 (List.map encApi_Event r2))) rfl) rfl ⟨rfl, trivial⟩ trivial ?_
  refine G.endOps ?_
  refine G.share (k' := 2006) rfl ?_
  refine G.view (t := 4) rfl rfl ?_
  cases hF
  exact G.ret1 Try.results17 (RVar.tmp 4 _) ⟨rfl, trivial⟩ trivial


set_option maxRecDepth 20000 in
set_option maxHeartbeats 2000000 in
theorem ct_ref20_Of (l_0 : (List Api_Event)) (client_1 : Int) (r : (List Api_Event)) (hF : ref20_Of l_0 client_1 = some r) : Ct Try.prog 34 [.g (.d (.sl 6 (List.map encApi_Event l_0))), .g (.d (.v (.int .i64 client_1)))] (.one (.d (.sl 6 (List.map encApi_Event r)))) := by
  unfold ref20_Of at hF
  refine Ct.intro Try.func34 rfl Try.ntmps34 rfl rfl fun M w => ?_
  refine G.seq ?_
  refine G.region ?_
  refine G.op1 (op_assign (Ev.n 6) rfl) rfl trivial trivial ?_
  refine G.endOps ?_
  refine G.seq ?_
  refine G.region ?_
  refine G.op2 (op_assignRow (E := 30) (size := 6) (k := 2005) (ex := false) rfl rfl) rfl trivial ⟨rfl, trivial⟩ ?_
  refine G.endOps ?_
  refine G.seq ?_
  refine G.seq ?_
  refine G.region ?_
  refine G.op1 (op_assign (Ev.c _ rfl) rfl) rfl trivial trivial ?_
  refine G.endOps ?_
  refine G.joinC (T := (List Api_Event)) (fun y1 => ⟨[(5, .one (.own 2005 (List.map encApi_Event y1)))], [(2005, some (.row 30 6 (List.map encApi_Event y1) false))]⟩) (fun y1 => ref20_Of_k1 y1 = some r) (fun y1 hF => ?_) (fun J2 => ?_)
  · unfold ref20_Of_k1 at hF
    refine G.seq ?_
    refine G.region ?_
    refine G.op1 (op_move (Ev.t 5 (.own 2005 (List.map encApi_Event y1))) rfl) rfl ⟨rfl, trivial⟩ trivial ?_
    refine G.op1 (op_assign (Ev.t 27 (.own 2005 (List.map encApi_Event y1))) rfl) rfl ⟨rfl, trivial⟩ trivial ?_
    refine G.endOps ?_
    refine G.view (t := 4) rfl rfl ?_
    cases hF
    exact G.ret1 Try.results34 (RVar.tmp 4 _) ⟨rfl, trivial⟩ trivial
  refine G.block ?_
  refine G.keep (sl' := [(0, .one (.g (.d (.sl 6 (List.map encApi_Event l_0))))), (1, .one (bI .i64 client_1)), (5, .one (.own 2005 (List.map encApi_Event ([] : (List Api_Event))))), (6, .one (bI .i64 0))]) (hp' := [(2005, some (.row 30 6 (List.map encApi_Event ([] : (List Api_Event))) false))]) ⟨rfl, rfl, rfl, rfl, trivial⟩ ⟨rfl, trivial⟩ rfl ?_
  refine G.loopF (fun (v3 : Int × (List Api_Event)) => ⟨[(0, .one (.g (.d (.sl 6 (List.map encApi_Event l_0))))), (1, .one (bI .i64 client_1)), (5, .one (.own 2005 (List.map encApi_Event v3.2))), (6, .one (bI .i64 v3.1))], [(2005, some (.row 30 6 (List.map encApi_Event v3.2) false))]⟩) hF rfl (fun K6 again5 v3 J4 hF => ?_)
  unfold ref20_Of_l2 at hF
  refine G.seq ?_
  refine G.seq ?_
  refine G.region ?_
  refine G.op1 (op_move (Ev.t 6 (bI .i64 v3.1)) rfl) rfl ⟨rfl, trivial⟩ trivial ?_
  refine G.op1 (op_move (Ev.t 0 (.g (.d (.sl 6 (List.map encApi_Event l_0))))) rfl) rfl ⟨rfl, trivial⟩ trivial ?_
  refine G.op1 (OpL.cast (op_lenD Try.underlying24 (Ev.t 8 (.g (.d (.sl 6 (List.map encApi_Event l_0))))) rfl) (by rw [List.length_map])) rfl ⟨rfl, trivial⟩ trivial ?_
  refine G.op1 (op_lss (Ev.t 7 (bI .i64 v3.1)) (Ev.t 9 (bI .i64 (l_0.length : Int))) rfl) rfl ⟨rfl, rfl, trivial⟩ trivial ?_
  refine G.endOps ?_
  refine ifS hF (fun hc7 hF => ?_) (fun hc7 hF => ?_)
  · refine G.cond rfl (fun _ => ?_) (fun hx => by rw [hc7] at hx; cases hx)
    refine G.skip ?_
    refine G.seq ?_
    refine G.block ?_
    refine G.seq ?_
    refine G.region ?_
    refine G.op1 (op_move (Ev.t 0 (.g (.d (.sl 6 (List.map encApi_Event l_0))))) rfl) rfl ⟨rfl, trivial⟩ trivial ?_
    refine G.op1 (op_move (Ev.t 6 (bI .i64 v3.1)) rfl) rfl ⟨rfl, trivial⟩ trivial ?_
    obtain ⟨x8, hx8, hF⟩ := bindS hF
    refine G.op1 (op_index (cs := [.v (.int .i64 x8.Kind), .v (.int .i64 x8.Client), .v (.string x8.Key), .v (.int .i64 x8.Stamp.N), .v (.int .i64 x8.Stamp.Site), .sl 3 (List.map encApi_Dep x8.Seen)]) Try.underlying24 ti30 (idx_ok hx8).1 (idx_get hx8 encApi_Event) (Ev.t 13 (.g (.d (.sl 6 (List.map encApi_Event l_0))))) (Ev.t 14 (bI .i64 v3.1)) rfl) rfl ⟨rfl, rfl, trivial⟩ trivial ?_
    refine G.op1 (op_fieldE (cs' := [.v (.int .i64 x8.Client), .v (.string x8.Key), .v (.int .i64 x8.Stamp.N), .v (.int .i64 x8.Stamp.Site), .sl 3 (List.map encApi_Dep x8.Seen)]) Try.underlying30 rfl ti3 (by decide) rfl (Ev.t 15 (.ep [.v (.int .i64 x8.Kind), .v (.int .i64 x8.Client), .v (.string x8.Key), .v (.int .i64 x8.Stamp.N), .v (.int .i64 x8.Stamp.Site), .sl 3 (List.map encApi_Dep x8.Seen)])) rfl) rfl ⟨rfl, trivial⟩ trivial ?_
    refine G.op1 (op_load1E (c := .v (.int .i64 x8.Client)) Try.underlying3 rfl rfl (Ev.t 16 (.ep [.v (.int .i64 x8.Client), .v (.string x8.Key), .v (.int .i64 x8.Stamp.N), .v (.int .i64 x8.Stamp.Site), .sl 3 (List.map encApi_Dep x8.Seen)])) rfl) rfl ⟨rfl, trivial⟩ trivial ?_
    refine G.op1 (op_move (Ev.t 1 (bI .i64 client_1)) rfl) rfl ⟨rfl, trivial⟩ trivial ?_
    refine G.op1 (op_eqI (Ev.t 17 (bI .i64 x8.Client)) (Ev.t 18 (bI .i64 client_1)) rfl) rfl ⟨rfl, rfl, trivial⟩ trivial ?_
    refine G.endOps ?_
    refine ifS hF (fun hc9 hF => ?_) (fun hc9 hF => ?_)
    · refine G.cond rfl (fun _ => ?_) (fun hx => by rw [hc9] at hx; cases hx)
      refine G.region ?_
      refine G.op1 (op_move (Ev.t 5 (.own 2005 (List.map encApi_Event v3.2))) rfl) rfl ⟨rfl, trivial⟩ trivial ?_
      refine G.op1 (op_move (Ev.t 0 (.g (.d (.sl 6 (List.map encApi_Event l_0))))) rfl) rfl ⟨rfl, trivial⟩ trivial ?_
      refine G.op1 (op_move (Ev.t 6 (bI .i64 v3.1)) rfl) rfl ⟨rfl, trivial⟩ trivial ?_
      obtain ⟨x10, hx10, hF⟩ := bindS hF
      refine G.op1 (op_index (cs := [.v (.int .i64 x10.Kind), .v (.int .i64 x10.Client), .v (.string x10.Key), .v (.int .i64 x10.Stamp.N), .v (.int .i64 x10.Stamp.Site), .sl 3 (List.map encApi_Dep x10.Seen)]) Try.underlying24 ti30 (idx_ok hx10).1 (idx_get hx10 encApi_Event) (Ev.t 21 (.g (.d (.sl 6 (List.map encApi_Event l_0))))) (Ev.t 22 (bI .i64 v3.1)) rfl) rfl ⟨rfl, rfl, trivial⟩ trivial ?_
      refine G.op1 (op_loadAE (ds := [.v (.int .i64 x10.Kind), .v (.int .i64 x10.Client), .v (.string x10.Key), .v (.int .i64 x10.Stamp.N), .v (.int .i64 x10.Stamp.Site), .sl 3 (List.map encApi_Dep x10.Seen)]) Try.underlying30 rfl ti30 rfl (Ev.t 23 (.ep [.v (.int .i64 x10.Kind), .v (.int .i64 x10.Client), .v (.string x10.Key), .v (.int .i64 x10.Stamp.N), .v (.int .i64 x10.Stamp.Site), .sl 3 (List.map encApi_Dep x10.Seen)])) rfl) rfl ⟨rfl, trivial⟩ trivial ?_
      refine G.op1 (op_buildSlice (es := List.map encApi_Event [x10]) Try.underlying24 ti30 rfl rfl (EvP.cons (Ev.t 24 (.g (.agg [.v (.int .i64 x10.Kind), .v (.int .i64 x10.Client), .v (.string x10.Key), .v (.int .i64 x10.Stamp.N), .v (.int .i64 x10.Stamp.Site), .sl 3 (List.map encApi_Dep x10.Seen)]))) EvP.nil) rfl rfl (by simp [encApi_Event]) rfl) rfl ⟨rfl, trivial⟩ trivial ?_
      obtain ⟨l11, hl11, hF⟩ := bindS hF
      refine G.op2 (op_appendO Try.underlying24 ti30 rfl (app_map hl11 encApi_Event) (app_b1 hl11 encApi_Event) (app_b2 hl11 encApi_Event) (Ev.t 20 (.own 2005 (List.map encApi_Event v3.2))) (Ev.t 25 (.g (.d (.sl 6 (List.map encApi_Event ([x10])))))) rfl) rfl ⟨rfl, rfl, trivial⟩ ⟨rfl, trivial⟩ ?_
      refine G.op1 (op_assign (Ev.t 26 (.own 2005 (List.map encApi_Event l11))) rfl) rfl ⟨rfl, trivial⟩ trivial ?_
      refine G.endOps ?_
      refine G.endBlock ?_
      refine G.region ?_
      refine G.op1 (op_move (Ev.t 6 (bI .i64 v3.1)) rfl) rfl ⟨rfl, trivial⟩ trivial ?_
      refine G.op1 (op_add (Ev.t 11 (bI .i64 v3.1)) (Ev.c _ rfl) rfl) rfl ⟨rfl, trivial⟩ trivial ?_
      refine G.op1 (op_assign (Ev.t 12 (bI .i64 (IntKind.wrap .i64 (v3.1 + 1)))) rfl) rfl ⟨rfl, trivial⟩ trivial ?_
      refine G.endOps ?_
      exact G.arr (J4 (IntKind.wrap .i64 (v3.1 + 1), l11) hF) ⟨rfl, rfl, rfl, rfl, trivial⟩ ⟨rfl, trivial⟩ rfl
    · refine G.cond rfl (fun hx => by rw [hc9] at hx; cases hx) (fun _ => ?_)
      refine G.skip ?_
      refine G.endBlock ?_
      refine G.region ?_
      refine G.op1 (op_move (Ev.t 6 (bI .i64 v3.1)) rfl) rfl ⟨rfl, trivial⟩ trivial ?_
      refine G.op1 (op_add (Ev.t 11 (bI .i64 v3.1)) (Ev.c _ rfl) rfl) rfl ⟨rfl, trivial⟩ trivial ?_
      refine G.op1 (op_assign (Ev.t 12 (bI .i64 (IntKind.wrap .i64 (v3.1 + 1)))) rfl) rfl ⟨rfl, trivial⟩ trivial ?_
      refine G.endOps ?_
      exact G.arr (J4 (IntKind.wrap .i64 (v3.1 + 1), v3.2) hF) ⟨rfl, rfl, rfl, rfl, trivial⟩ ⟨rfl, trivial⟩ rfl
  · refine G.cond rfl (fun hx => by rw [hc7] at hx; cases hx) (fun _ => ?_)
    refine G.exit ?_
    refine GX.c ?_
    refine GX.q ?_
    refine GX.bYes ?_
    exact G.arr (J2 v3.2 hF) ⟨rfl, trivial⟩ ⟨rfl, trivial⟩ rfl


set_option maxRecDepth 20000 in
set_option maxHeartbeats 2000000 in
theorem ct_ref04_Same (p_0 : (List Api_Dep)) (q_1 : (List Api_Dep)) (r : Bool) (hF : ref04_Same p_0 q_1 = some r) : Ct Try.prog 32 [.g (.d (.sl 3 (List.map encApi_Dep p_0))), .g (.d (.sl 3 (List.map encApi_Dep q_1)))] (.one (.d (.v (.bool r)))) := by
  unfold ref04_Same at hF
  refine Ct.intro Try.func32 rfl Try.ntmps32 rfl rfl fun M w => ?_
  refine G.seq ?_
  refine G.region ?_
  refine G.op1 (op_assign (Ev.c _ rfl) rfl) rfl trivial trivial ?_
  refine G.endOps ?_
  refine G.seq ?_
  refine G.seq ?_
  refine G.region ?_
  refine G.op1 (op_move (Ev.t 0 (.g (.d (.sl 3 (List.map encApi_Dep p_0))))) rfl) rfl ⟨rfl, trivial⟩ trivial ?_
  refine G.op1 (OpL.cast (op_lenD Try.underlying28 (Ev.t 6 (.g (.d (.sl 3 (List.map encApi_Dep p_0))))) rfl) (by rw [List.length_map])) rfl ⟨rfl, trivial⟩ trivial ?_
  refine G.op1 (op_move (Ev.t 1 (.g (.d (.sl 3 (List.map encApi_Dep q_1))))) rfl) rfl ⟨rfl, trivial⟩ trivial ?_
  refine G.op1 (OpL.cast (op_lenD Try.underlying28 (Ev.t 8 (.g (.d (.sl 3 (List.map encApi_Dep q_1))))) rfl) (by rw [List.length_map])) rfl ⟨rfl, trivial⟩ trivial ?_
  refine G.op1 (op_neI (Ev.t 7 (bI .i64 (p_0.length : Int))) (Ev.t 9 (bI .i64 (q_1.length : Int))) rfl) rfl ⟨rfl, rfl, trivial⟩ trivial ?_
  refine G.endOps ?_
  refine ifS hF (fun hc1 hF => ?_) (fun hc1 hF => ?_)
  · refine G.cond rfl (fun _ => ?_) (fun hx => by rw [hc1] at hx; cases hx)
    refine G.seq ?_
    refine G.region ?_
    refine G.op1 (op_assign (Ev.c _ rfl) rfl) rfl trivial trivial ?_
    refine G.endOps ?_
    cases hF
    exact G.ret1 Try.results32 (RVar.tmp 4 _) ⟨rfl, trivial⟩ trivial
  · refine G.cond rfl (fun hx => by rw [hc1] at hx; cases hx) (fun _ => ?_)
    refine G.skip ?_
    refine G.seq ?_
    refine G.seq ?_
    refine G.region ?_
    refine G.op1 (op_assign (Ev.c _ rfl) rfl) rfl trivial trivial ?_
    refine G.endOps ?_
    refine G.joinC (T := Unit) (fun y2 => ⟨[], []⟩) (fun y2 => ref04_Same_k1 y2 = some r) (fun y2 hF => ?_) (fun J3 => ?_)
    · unfold ref04_Same_k1 at hF
      refine G.seq ?_
      refine G.region ?_
      refine G.op1 (op_assign (Ev.c _ rfl) rfl) rfl trivial trivial ?_
      refine G.endOps ?_
      cases hF
      exact G.ret1 Try.results32 (RVar.tmp 4 _) ⟨rfl, trivial⟩ trivial
    refine G.block ?_
    refine G.keep (sl' := [(0, .one (.g (.d (.sl 3 (List.map encApi_Dep p_0))))), (1, .one (.g (.d (.sl 3 (List.map encApi_Dep q_1))))), (5, .one (bI .i64 0))]) (hp' := []) ⟨rfl, rfl, rfl, trivial⟩ trivial rfl ?_
    refine G.loopF (fun (v4 : Int) => ⟨[(0, .one (.g (.d (.sl 3 (List.map encApi_Dep p_0))))), (1, .one (.g (.d (.sl 3 (List.map encApi_Dep q_1))))), (5, .one (bI .i64 v4))], []⟩) hF rfl (fun K7 again6 v4 J5 hF => ?_)
    unfold ref04_Same_l2 at hF
    refine G.seq ?_
    refine G.seq ?_
    refine G.region ?_
    refine G.op1 (op_move (Ev.t 5 (bI .i64 v4)) rfl) rfl ⟨rfl, trivial⟩ trivial ?_
    refine G.op1 (op_move (Ev.t 0 (.g (.d (.sl 3 (List.map encApi_Dep p_0))))) rfl) rfl ⟨rfl, trivial⟩ trivial ?_
    refine G.op1 (OpL.cast (op_lenD Try.underlying28 (Ev.t 12 (.g (.d (.sl 3 (List.map encApi_Dep p_0))))) rfl) (by rw [List.length_map])) rfl ⟨rfl, trivial⟩ trivial ?_
    refine G.op1 (op_lss (Ev.t 11 (bI .i64 v4)) (Ev.t 13 (bI .i64 (p_0.length : Int))) rfl) rfl ⟨rfl, rfl, trivial⟩ trivial ?_
    refine G.endOps ?_
    refine ifS hF (fun hc8 hF => ?_) (fun hc8 hF => ?_)
    · refine G.cond rfl (fun _ => ?_) (fun hx => by rw [hc8] at hx; cases hx)
      refine G.skip ?_
      refine G.seq ?_
      refine G.block ?_
      refine G.seq ?_
      obtain ⟨x9, hx9, hF⟩ := bindS hF
      obtain ⟨x10, hx10, hF⟩ := bindS hF
      refine G.drawn (effs := [⟨[(0, .one (.g (.d (.sl 3 (List.map encApi_Dep p_0)))))], [], [(17, .one (.g (.d (.sl 3 (List.map encApi_Dep p_0)))))], []⟩, ⟨[(5, .one (bI .i64 v4))], [], [(18, .one (bI .i64 v4))], []⟩, ⟨[(17, .one (.g (.d (.sl 3 (List.map encApi_Dep p_0))))), (18, .one (bI .i64 v4))], [], [(19, .one (.ep [.v (.string x9.Key), .v (.int .i64 x9.Stamp.N), .v (.int .i64 x9.Stamp.Site)]))], []⟩, ⟨[(19, .one (.ep [.v (.string x9.Key), .v (.int .i64 x9.Stamp.N), .v (.int .i64 x9.Stamp.Site)]))], [], [(20, .one (.g (.agg [.v (.string x9.Key), .v (.int .i64 x9.Stamp.N), .v (.int .i64 x9.Stamp.Site)])))], []⟩, ⟨[(1, .one (.g (.d (.sl 3 (List.map encApi_Dep q_1)))))], [], [(21, .one (.g (.d (.sl 3 (List.map encApi_Dep q_1)))))], []⟩, ⟨[(5, .one (bI .i64 v4))], [], [(22, .one (bI .i64 v4))], []⟩, ⟨[(21, .one (.g (.d (.sl 3 (List.map encApi_Dep q_1))))), (22, .one (bI .i64 v4))], [], [(23, .one (.ep [.v (.string x10.Key), .v (.int .i64 x10.Stamp.N), .v (.int .i64 x10.Stamp.Site)]))], []⟩, ⟨[(23, .one (.ep [.v (.string x10.Key), .v (.int .i64 x10.Stamp.N), .v (.int .i64 x10.Stamp.Site)]))], [], [(24, .one (.g (.agg [.v (.string x10.Key), .v (.int .i64 x10.Stamp.N), .v (.int .i64 x10.Stamp.Site)])))], []⟩, ⟨[(20, .one (.g (.agg [.v (.string x9.Key), .v (.int .i64 x9.Stamp.N), .v (.int .i64 x9.Stamp.Site)]))), (24, .one (.g (.agg [.v (.string x10.Key), .v (.int .i64 x10.Stamp.N), .v (.int .i64 x10.Stamp.Site)])))], [], [(25, .one (bB (!(decide (x9.Key = x10.Key) && decide (x9.Stamp.N = x10.Stamp.N) && decide (x9.Stamp.Site = x10.Stamp.Site)))))], []⟩]) (deps := [[], [], [0, 1], [0, 1, 2], [], [], [4, 5], [4, 5, 6], [0, 1, 2, 3, 4, 5, 6, 7]]) (sl' := [(0, .one (.g (.d (.sl 3 (List.map encApi_Dep p_0))))), (1, .one (.g (.d (.sl 3 (List.map encApi_Dep q_1))))), (5, .one (bI .i64 v4)), (25, .one (bB (!(decide (x9.Key = x10.Key) && decide (x9.Stamp.N = x10.Stamp.N) && decide (x9.Stamp.Site = x10.Stamp.Site)))))]) (hp' := []) follows rfl rfl rfl ⟨⟨rfl, trivial⟩, trivial, ⟨rfl, trivial⟩, trivial, ⟨rfl, rfl, trivial⟩, trivial, ⟨rfl, trivial⟩, trivial, ⟨rfl, trivial⟩, trivial, ⟨rfl, trivial⟩, trivial, ⟨rfl, rfl, trivial⟩, trivial, ⟨rfl, trivial⟩, trivial, ⟨rfl, rfl, trivial⟩, trivial, trivial⟩ ⟨OpW.plain (op_move (Ev.t 0 (.g (.d (.sl 3 (List.map encApi_Dep p_0))))) rfl) rfl rfl, OpW.plain (op_move (Ev.t 5 (bI .i64 v4)) rfl) rfl rfl, OpW.plain (op_index (cs := [.v (.string x9.Key), .v (.int .i64 x9.Stamp.N), .v (.int .i64 x9.Stamp.Site)]) Try.underlying28 ti52 (idx_ok hx9).1 (idx_get hx9 encApi_Dep) (Ev.t 17 (.g (.d (.sl 3 (List.map encApi_Dep p_0))))) (Ev.t 18 (bI .i64 v4)) rfl) rfl rfl, OpW.plain (op_loadAE (ds := [.v (.string x9.Key), .v (.int .i64 x9.Stamp.N), .v (.int .i64 x9.Stamp.Site)]) Try.underlying52 rfl ti52 rfl (Ev.t 19 (.ep [.v (.string x9.Key), .v (.int .i64 x9.Stamp.N), .v (.int .i64 x9.Stamp.Site)])) rfl) rfl rfl, OpW.plain (op_move (Ev.t 1 (.g (.d (.sl 3 (List.map encApi_Dep q_1))))) rfl) rfl rfl, OpW.plain (op_move (Ev.t 5 (bI .i64 v4)) rfl) rfl rfl, OpW.plain (op_index (cs := [.v (.string x10.Key), .v (.int .i64 x10.Stamp.N), .v (.int .i64 x10.Stamp.Site)]) Try.underlying28 ti52 (idx_ok hx10).1 (idx_get hx10 encApi_Dep) (Ev.t 21 (.g (.d (.sl 3 (List.map encApi_Dep q_1))))) (Ev.t 22 (bI .i64 v4)) rfl) rfl rfl, OpW.plain (op_loadAE (ds := [.v (.string x10.Key), .v (.int .i64 x10.Stamp.N), .v (.int .i64 x10.Stamp.Site)]) Try.underlying52 rfl ti52 rfl (Ev.t 23 (.ep [.v (.string x10.Key), .v (.int .i64 x10.Stamp.N), .v (.int .i64 x10.Stamp.Site)])) rfl) rfl rfl, OpW.plain (op_eqA (us := [.string x9.Key, .int .i64 x9.Stamp.N, .int .i64 x9.Stamp.Site]) (vs := [.string x10.Key, .int .i64 x10.Stamp.N, .int .i64 x10.Stamp.Site]) rfl rfl Try.eqGuardType52 (fun w => ne52 x9.Key x9.Stamp.N x9.Stamp.Site x10.Key x10.Stamp.N x10.Stamp.Site w) (Ev.t 20 (.g (.agg [.v (.string x9.Key), .v (.int .i64 x9.Stamp.N), .v (.int .i64 x9.Stamp.Site)]))) (Ev.t 24 (.g (.agg [.v (.string x10.Key), .v (.int .i64 x10.Stamp.N), .v (.int .i64 x10.Stamp.Site)]))) rfl) rfl rfl, trivial⟩ ⟨rfl, rfl, rfl, rfl, trivial⟩ trivial rfl ?_
      refine ifS hF (fun hc11 hF => ?_) (fun hc11 hF => ?_)
      · refine G.cond rfl (fun _ => ?_) (fun hx => by rw [hc11] at hx; cases hx)
        refine G.seq ?_
        refine G.region ?_
        refine G.op1 (op_assign (Ev.c _ rfl) rfl) rfl trivial trivial ?_
        refine G.endOps ?_
        cases hF
        exact G.ret1 Try.results32 (RVar.tmp 4 _) ⟨rfl, trivial⟩ trivial
      · refine G.cond rfl (fun hx => by rw [hc11] at hx; cases hx) (fun _ => ?_)
        refine G.skip ?_
        refine G.endBlock ?_
        refine G.region ?_
        refine G.op1 (op_move (Ev.t 5 (bI .i64 v4)) rfl) rfl ⟨rfl, trivial⟩ trivial ?_
        refine G.op1 (op_add (Ev.t 15 (bI .i64 v4)) (Ev.c _ rfl) rfl) rfl ⟨rfl, trivial⟩ trivial ?_
        refine G.op1 (op_assign (Ev.t 16 (bI .i64 (IntKind.wrap .i64 (v4 + 1)))) rfl) rfl ⟨rfl, trivial⟩ trivial ?_
        refine G.endOps ?_
        exact G.arr (J5 (IntKind.wrap .i64 (v4 + 1)) hF) ⟨rfl, rfl, rfl, trivial⟩ trivial rfl
    · refine G.cond rfl (fun hx => by rw [hc8] at hx; cases hx) (fun _ => ?_)
      refine G.exit ?_
      refine GX.c ?_
      refine GX.q ?_
      refine GX.bYes ?_
      exact G.arr (J3 () hF) trivial trivial rfl

end Go.Ark
