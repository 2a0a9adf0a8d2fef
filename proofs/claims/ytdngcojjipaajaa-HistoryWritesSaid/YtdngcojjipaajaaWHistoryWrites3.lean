/- Walks, printed by a program of mine: each function of the program computes the typed function of its name. Conditions: none. -/
import Derived.Test.YtdngcojjipaajaaWHistoryWrites2
namespace Go.Ark
open Go Go.Ab Go.RowKit Go.Lib Go.Proofs

set_option maxRecDepth 20000 in
set_option maxHeartbeats 2000000 in
theorem ct_law20_HistoryWrites (l_0 : (List Law20_Act)) (r : Bool) (hF : law20_HistoryWrites l_0 = some r) : Ct Try.prog 4 [.g (.d (.sl 4 (List.map encLaw20_Act l_0)))] (.one (.d (.v (.bool r)))) := by
  unfold law20_HistoryWrites at hF
  refine Ct.intro Try.func4 rfl Try.ntmps4 rfl rfl fun M w => ?_
  refine G.seq ?_
  refine G.region ?_
  refine G.op1 (op_assign (Ev.c _ rfl) rfl) rfl trivial trivial ?_
  refine G.endOps ?_
  refine G.seq ?_
  refine G.region ?_
  obtain ⟨r1, hr1, hF⟩ := bindS hF
  refine G.op1 (op_callQ (sv := .one (bB r1)) cf9 (ct_law20_awake r1 hr1) rfl rfl EvQL.nil rfl) rfl trivial trivial ?_
  refine G.op1 (op_assign (Ev.t 14 (bB r1)) rfl) rfl ⟨rfl, trivial⟩ trivial ?_
  refine G.endOps ?_
  refine G.seq ?_
  refine G.region ?_
  refine G.op1 (op_move (Ev.t 0 (.g (.d (.sl 4 (List.map encLaw20_Act l_0))))) rfl) rfl ⟨rfl, trivial⟩ trivial ?_
  obtain ⟨r2, hr2, hF⟩ := bindS hF
  refine G.op1 (op_call (sv := .one (.g (.d (.sl 6 (List.map encApi_Event r2))))) cf10 (ct_law20_made l_0 r2 hr2) rfl (EvL.cons (Ev.t 15 (.g (.d (.sl 4 (List.map encLaw20_Act l_0))))) EvL.nil) rfl) rfl ⟨rfl, trivial⟩ trivial ?_
  refine G.op1 (op_assign (Ev.t 16 (.g (.d (.sl 6 (List.map encApi_Event r2))))) rfl) rfl ⟨rfl, trivial⟩ trivial ?_
  refine G.endOps ?_
  refine G.seq ?_
  refine G.region ?_
  refine G.op1 (op_buildA (zs := [.v (.string ByteArray.empty), .v (.string ByteArray.empty), .v (.string ByteArray.empty), .v (.string ByteArray.empty)]) (ds := List.flatMap encS [(ByteArray.mk #[97]), (ByteArray.mk #[98]), (ByteArray.mk #[99]), (ByteArray.mk #[100])]) Try.underlying35 ti35 ti9 ⟨.v _ rfl, .v _ rfl, .v _ rfl, .v _ rfl, trivial⟩ (EvP.cons (Ev.c _ rfl) (EvP.cons (Ev.c _ rfl) (EvP.cons (Ev.c _ rfl) (EvP.cons (Ev.c _ rfl) EvP.nil)))) rfl rfl) rfl trivial trivial ?_
  refine G.op2 (op_alloc (k := 1005) (cs := dat (List.flatMap encS (List.replicate 4 ByteArray.empty))) ti35 ⟨.v _ rfl, .v _ rfl, .v _ rfl, .v _ rfl, trivial⟩ rfl) rfl trivial ⟨rfl, trivial⟩ ?_
  refine G.op3 (op_storeA (ds := List.flatMap encS ([(ByteArray.mk #[97]), (ByteArray.mk #[98]), (ByteArray.mk #[99]), (ByteArray.mk #[100])])) (cs' := dat (List.flatMap encS ([(ByteArray.mk #[97]), (ByteArray.mk #[98]), (ByteArray.mk #[99]), (ByteArray.mk #[100])]))) ti35 rfl rfl (Ev.t 5 (.ptr 1005 0)) (Ev.t 17 (.g (.agg (List.flatMap encS ([(ByteArray.mk #[97]), (ByteArray.mk #[98]), (ByteArray.mk #[99]), (ByteArray.mk #[100])])))))) rfl ⟨rfl, rfl, trivial⟩ ⟨rfl, trivial⟩ ?_
  refine G.endOps ?_
  refine G.seq ?_
  refine G.region ?_
  refine G.op1 (op_assign (Ev.c _ rfl) rfl) rfl trivial trivial ?_
  refine G.endOps ?_
  refine G.seq ?_
  refine G.seq ?_
  refine G.region ?_
  refine G.op1 (op_assign (Ev.c _ rfl) rfl) rfl trivial trivial ?_
  refine G.endOps ?_
  refine G.joinC (T := Int) (fun y3 => ⟨[(3, .one (bB r1)), (4, .one (.g (.d (.sl 6 (List.map encApi_Event r2))))), (6, .one (bI .i64 y3))], []⟩) (fun y3 => law20_HistoryWrites_k1 r1 r2 y3 = some r) (fun y3 hF => ?_) (fun J14 => ?_)
  · unfold law20_HistoryWrites_k1 at hF
    refine G.seq ?_
    refine G.region ?_
    refine G.op1 (op_assign (Ev.c _ rfl) rfl) rfl trivial trivial ?_
    refine G.endOps ?_
    refine G.seq ?_
    refine G.seq ?_
    refine G.region ?_
    refine G.op1 (op_assign (Ev.c _ rfl) rfl) rfl trivial trivial ?_
    refine G.endOps ?_
    refine G.joinC (T := Int) (fun y4 => ⟨[(3, .one (bB r1)), (6, .one (bI .i64 y3)), (12, .one (bI .i64 y4))], []⟩) (fun y4 => law20_HistoryWrites_k2 r1 y3 y4 = some r) (fun y4 hF => ?_) (fun J6 => ?_)
    · unfold law20_HistoryWrites_k2 at hF
      refine G.seq ?_
      refine G.region ?_
      refine G.op1 (op_move (Ev.t 3 (bB r1)) rfl) rfl ⟨rfl, trivial⟩ trivial ?_
      refine G.op1 (op_move (Ev.t 81 (bB r1)) rfl) rfl ⟨rfl, trivial⟩ trivial ?_
      refine ifS hF (fun hc5 hF => ?_) (fun hc5 hF => ?_)
      · refine G.known (t := 82) hc5 rfl ?_
        refine G.opG1 (op_move (Ev.t 6 (bI .i64 y3)) rfl) rfl rfl rfl ⟨rfl, trivial⟩ trivial ?_
        refine G.opG1 (op_move (Ev.t 12 (bI .i64 y4)) rfl) rfl rfl rfl ⟨rfl, trivial⟩ trivial ?_
        refine G.opG1 (op_eqI (Ev.t 83 (bI .i64 y3)) (Ev.t 84 (bI .i64 y4)) rfl) rfl rfl rfl ⟨rfl, rfl, trivial⟩ trivial ?_
        refine G.op1 (op_pickT (Ev.t 82 (bB true)) (Ev.t 85 (bB (decide (y3 = y4)))) rfl) rfl ⟨rfl, rfl, trivial⟩ trivial ?_
        refine G.op1 (op_assign (Ev.t 86 (bB (decide (y3 = y4)))) rfl) rfl ⟨rfl, trivial⟩ trivial ?_
        refine G.endOps ?_
        cases hF
        exact G.ret1 Try.results4 (RVar.tmp 2 _) ⟨rfl, trivial⟩ trivial
      · refine G.known (t := 82) hc5 rfl ?_
        refine G.opN1 rfl rfl rfl rfl rfl ?_
        refine G.opN1 rfl rfl rfl rfl rfl ?_
        refine G.opN1 rfl rfl rfl rfl rfl ?_
        refine G.op1 (op_pickF (Ev.t 82 (bB false)) (Ev.c _ rfl) rfl) rfl ⟨rfl, trivial⟩ trivial ?_
        refine G.op1 (op_assign (Ev.t 86 (bB false)) rfl) rfl ⟨rfl, trivial⟩ trivial ?_
        refine G.endOps ?_
        cases hF
        exact G.ret1 Try.results4 (RVar.tmp 2 _) ⟨rfl, trivial⟩ trivial
    refine G.block ?_
    refine G.keep (sl' := [(3, .one (bB r1)), (4, .one (.g (.d (.sl 6 (List.map encApi_Event r2))))), (6, .one (bI .i64 y3)), (12, .one (bI .i64 0)), (13, .one (bI .i64 0))]) (hp' := []) ⟨rfl, rfl, rfl, rfl, rfl, trivial⟩ trivial rfl ?_
    refine G.loopF (fun (v7 : Int × Int) => ⟨[(3, .one (bB r1)), (4, .one (.g (.d (.sl 6 (List.map encApi_Event r2))))), (6, .one (bI .i64 y3)), (12, .one (bI .i64 v7.1)), (13, .one (bI .i64 v7.2))], []⟩) hF rfl (fun K10 again9 v7 J8 hF => ?_)
    unfold law20_HistoryWrites_l3 at hF
    refine G.seq ?_
    refine G.seq ?_
    refine G.region ?_
    refine G.op1 (op_move (Ev.t 13 (bI .i64 v7.2)) rfl) rfl ⟨rfl, trivial⟩ trivial ?_
    refine G.op1 (op_move (Ev.t 4 (.g (.d (.sl 6 (List.map encApi_Event r2))))) rfl) rfl ⟨rfl, trivial⟩ trivial ?_
    refine G.op1 (OpL.cast (op_lenD Try.underlying24 (Ev.t 68 (.g (.d (.sl 6 (List.map encApi_Event r2))))) rfl) (by rw [List.length_map])) rfl ⟨rfl, trivial⟩ trivial ?_
    refine G.op1 (op_lss (Ev.t 67 (bI .i64 v7.2)) (Ev.t 69 (bI .i64 (r2.length : Int))) rfl) rfl ⟨rfl, rfl, trivial⟩ trivial ?_
    refine G.endOps ?_
    refine ifS hF (fun hc11 hF => ?_) (fun hc11 hF => ?_)
    · refine G.cond rfl (fun _ => ?_) (fun hx => by rw [hc11] at hx; cases hx)
      refine G.skip ?_
      refine G.seq ?_
      refine G.block ?_
      refine G.seq ?_
      refine G.region ?_
      refine G.op1 (op_move (Ev.t 4 (.g (.d (.sl 6 (List.map encApi_Event r2))))) rfl) rfl ⟨rfl, trivial⟩ trivial ?_
      refine G.op1 (op_move (Ev.t 13 (bI .i64 v7.2)) rfl) rfl ⟨rfl, trivial⟩ trivial ?_
      obtain ⟨x12, hx12, hF⟩ := bindS hF
      refine G.op1 (op_index (cs := [.v (.int .i64 x12.Kind), .v (.int .i64 x12.Client), .v (.string x12.Key), .v (.int .i64 x12.Stamp.N), .v (.int .i64 x12.Stamp.Site), .sl 3 (List.map encApi_Dep x12.Seen)]) Try.underlying24 ti30 (idx_ok hx12).1 (idx_get hx12 encApi_Event) (Ev.t 73 (.g (.d (.sl 6 (List.map encApi_Event r2))))) (Ev.t 74 (bI .i64 v7.2)) rfl) rfl ⟨rfl, rfl, trivial⟩ trivial ?_
      refine G.op1 (op_fieldE (cs' := [.v (.int .i64 x12.Kind), .v (.int .i64 x12.Client), .v (.string x12.Key), .v (.int .i64 x12.Stamp.N), .v (.int .i64 x12.Stamp.Site), .sl 3 (List.map encApi_Dep x12.Seen)]) Try.underlying30 rfl ti3 (by decide) rfl (Ev.t 75 (.ep [.v (.int .i64 x12.Kind), .v (.int .i64 x12.Client), .v (.string x12.Key), .v (.int .i64 x12.Stamp.N), .v (.int .i64 x12.Stamp.Site), .sl 3 (List.map encApi_Dep x12.Seen)])) rfl) rfl ⟨rfl, trivial⟩ trivial ?_
      refine G.op1 (op_load1E (c := .v (.int .i64 x12.Kind)) Try.underlying3 rfl rfl (Ev.t 76 (.ep [.v (.int .i64 x12.Kind), .v (.int .i64 x12.Client), .v (.string x12.Key), .v (.int .i64 x12.Stamp.N), .v (.int .i64 x12.Stamp.Site), .sl 3 (List.map encApi_Dep x12.Seen)])) rfl) rfl ⟨rfl, trivial⟩ trivial ?_
      refine G.op1 (op_eqI (Ev.t 77 (bI .i64 x12.Kind)) (Ev.c _ rfl) rfl) rfl ⟨rfl, trivial⟩ trivial ?_
      refine G.endOps ?_
      refine ifS hF (fun hc13 hF => ?_) (fun hc13 hF => ?_)
      · refine G.cond rfl (fun _ => ?_) (fun hx => by rw [hc13] at hx; cases hx)
        refine G.region ?_
        refine G.op1 (op_move (Ev.t 12 (bI .i64 v7.1)) rfl) rfl ⟨rfl, trivial⟩ trivial ?_
        refine G.op1 (op_add (Ev.t 79 (bI .i64 v7.1)) (Ev.c _ rfl) rfl) rfl ⟨rfl, trivial⟩ trivial ?_
        refine G.op1 (op_assign (Ev.t 80 (bI .i64 (IntKind.wrap .i64 (v7.1 + 1)))) rfl) rfl ⟨rfl, trivial⟩ trivial ?_
        refine G.endOps ?_
        refine G.endBlock ?_
        refine G.region ?_
        refine G.op1 (op_move (Ev.t 13 (bI .i64 v7.2)) rfl) rfl ⟨rfl, trivial⟩ trivial ?_
        refine G.op1 (op_add (Ev.t 71 (bI .i64 v7.2)) (Ev.c _ rfl) rfl) rfl ⟨rfl, trivial⟩ trivial ?_
        refine G.op1 (op_assign (Ev.t 72 (bI .i64 (IntKind.wrap .i64 (v7.2 + 1)))) rfl) rfl ⟨rfl, trivial⟩ trivial ?_
        refine G.endOps ?_
        exact G.arr (J8 (IntKind.wrap .i64 (v7.1 + 1), IntKind.wrap .i64 (v7.2 + 1)) hF) ⟨rfl, rfl, rfl, rfl, rfl, trivial⟩ trivial rfl
      · refine G.cond rfl (fun hx => by rw [hc13] at hx; cases hx) (fun _ => ?_)
        refine G.skip ?_
        refine G.endBlock ?_
        refine G.region ?_
        refine G.op1 (op_move (Ev.t 13 (bI .i64 v7.2)) rfl) rfl ⟨rfl, trivial⟩ trivial ?_
        refine G.op1 (op_add (Ev.t 71 (bI .i64 v7.2)) (Ev.c _ rfl) rfl) rfl ⟨rfl, trivial⟩ trivial ?_
        refine G.op1 (op_assign (Ev.t 72 (bI .i64 (IntKind.wrap .i64 (v7.2 + 1)))) rfl) rfl ⟨rfl, trivial⟩ trivial ?_
        refine G.endOps ?_
        exact G.arr (J8 (v7.1, IntKind.wrap .i64 (v7.2 + 1)) hF) ⟨rfl, rfl, rfl, rfl, rfl, trivial⟩ trivial rfl
    · refine G.cond rfl (fun hx => by rw [hc11] at hx; cases hx) (fun _ => ?_)
      refine G.exit ?_
      refine GX.c ?_
      refine GX.q ?_
      refine GX.bYes ?_
      exact G.arr (J6 v7.1 hF) ⟨rfl, rfl, rfl, trivial⟩ trivial rfl
  refine G.block ?_
  refine G.keep (sl' := [(3, .one (bB r1)), (4, .one (.g (.d (.sl 6 (List.map encApi_Event r2))))), (5, .one (.ptr 1005 0)), (6, .one (bI .i64 0)), (7, .one (bI .i64 0))]) (hp' := [(1005, some (.blk 35 (dat (List.flatMap encS ([(ByteArray.mk #[97]), (ByteArray.mk #[98]), (ByteArray.mk #[99]), (ByteArray.mk #[100])])))))]) ⟨rfl, rfl, rfl, rfl, rfl, trivial⟩ ⟨rfl, trivial⟩ (by simp only [wellId, List.all_cons, List.all_nil, HE.ids, ids_dat]; rfl) ?_
  refine G.loopF (fun (v15 : Int × Int) => ⟨[(3, .one (bB r1)), (4, .one (.g (.d (.sl 6 (List.map encApi_Event r2))))), (5, .one (.ptr 1005 0)), (6, .one (bI .i64 v15.1)), (7, .one (bI .i64 v15.2))], [(1005, some (.blk 35 (dat (List.flatMap encS ([(ByteArray.mk #[97]), (ByteArray.mk #[98]), (ByteArray.mk #[99]), (ByteArray.mk #[100])])))))]⟩) hF rfl (fun K18 again17 v15 J16 hF => ?_)
  unfold law20_HistoryWrites_l4 at hF
  refine G.seq ?_
  refine G.seq ?_
  refine G.region ?_
  refine G.op1 (op_move (Ev.t 7 (bI .i64 v15.2)) rfl) rfl ⟨rfl, trivial⟩ trivial ?_
  refine G.op1 (op_lss (Ev.t 18 (bI .i64 v15.2)) (Ev.c _ rfl) rfl) rfl ⟨rfl, trivial⟩ trivial ?_
  refine G.endOps ?_
  refine ifS hF (fun hc19 hF => ?_) (fun hc19 hF => ?_)
  · refine G.cond rfl (fun _ => ?_) (fun hx => by rw [hc19] at hx; cases hx)
    refine G.skip ?_
    refine G.seq ?_
    refine G.joinC (T := Int) (fun y20 => ⟨[(3, .one (bB r1)), (4, .one (.g (.d (.sl 6 (List.map encApi_Event r2))))), (5, .one (.ptr 1005 0)), (6, .one (bI .i64 y20)), (7, .one (bI .i64 v15.2))], [(1005, some (.blk 35 (dat (List.flatMap encS ([(ByteArray.mk #[97]), (ByteArray.mk #[98]), (ByteArray.mk #[99]), (ByteArray.mk #[100])])))))]⟩) (fun y20 => law20_HistoryWrites_k5 again17 v15 y20 = some r) (fun y20 hF => ?_) (fun J21 => ?_)
    · unfold law20_HistoryWrites_k5 at hF
      refine G.region ?_
      refine G.op1 (op_move (Ev.t 7 (bI .i64 v15.2)) rfl) rfl ⟨rfl, trivial⟩ trivial ?_
      refine G.op1 (op_add (Ev.t 20 (bI .i64 v15.2)) (Ev.c _ rfl) rfl) rfl ⟨rfl, trivial⟩ trivial ?_
      refine G.op1 (op_assign (Ev.t 21 (bI .i64 (IntKind.wrap .i64 (v15.2 + 1)))) rfl) rfl ⟨rfl, trivial⟩ trivial ?_
      refine G.endOps ?_
      exact G.arr (J16 (y20, IntKind.wrap .i64 (v15.2 + 1)) hF) ⟨rfl, rfl, rfl, rfl, rfl, trivial⟩ ⟨rfl, trivial⟩ (by simp only [wellId, List.all_cons, List.all_nil, HE.ids, ids_dat]; rfl)
    refine G.block ?_
    refine G.seq ?_
    refine G.region ?_
    refine G.op1 (op_move (Ev.t 4 (.g (.d (.sl 6 (List.map encApi_Event r2))))) rfl) rfl ⟨rfl, trivial⟩ trivial ?_
    refine G.op1 (op_move (Ev.t 7 (bI .i64 v15.2)) rfl) rfl ⟨rfl, trivial⟩ trivial ?_
    obtain ⟨x22, hx22, hF⟩ := bindS hF
    refine G.op1 (op_indexA Try.underlying35 ti9 (aidx_ok hx22).1 (aidx_ok hx22).2.1 (Ev.t 5 (.ptr 1005 0)) (Ev.t 23 (bI .i64 v15.2)) rfl) rfl ⟨rfl, rfl, trivial⟩ trivial ?_
    refine G.op1 (op_load1P (c := bS x22) Try.underlying9 rfl (arr_at1 hx22 (fun _ => rfl) rfl) (Ev.t 24 (.ptr 1005 (Int.toNat v15.2 * 1))) rfl) rfl ⟨rfl, trivial⟩ ⟨rfl, trivial⟩ ?_
    obtain ⟨r23, hr23, hF⟩ := bindS hF
    refine G.op1 (op_call (sv := .one (.g (.d (.sl 2 (List.map encApi_Stamp r23))))) cf14 (ct_history_Writes r2 x22 r23 hr23) rfl (EvL.cons (Ev.t 22 (.g (.d (.sl 6 (List.map encApi_Event r2))))) (EvL.cons (Ev.t 25 (bS x22)) EvL.nil)) rfl) rfl ⟨rfl, rfl, trivial⟩ trivial ?_
    refine G.op1 (op_assign (Ev.t 26 (.g (.d (.sl 2 (List.map encApi_Stamp r23))))) rfl) rfl ⟨rfl, trivial⟩ trivial ?_
    refine G.endOps ?_
    refine G.seq ?_
    refine G.region ?_
    refine G.op1 (op_move (Ev.t 4 (.g (.d (.sl 6 (List.map encApi_Event r2))))) rfl) rfl ⟨rfl, trivial⟩ trivial ?_
    refine G.op1 (op_move (Ev.t 7 (bI .i64 v15.2)) rfl) rfl ⟨rfl, trivial⟩ trivial ?_
    obtain ⟨x24, hx24, hF⟩ := bindS hF
    refine G.op1 (op_indexA Try.underlying35 ti9 (aidx_ok hx24).1 (aidx_ok hx24).2.1 (Ev.t 5 (.ptr 1005 0)) (Ev.t 28 (bI .i64 v15.2)) rfl) rfl ⟨rfl, rfl, trivial⟩ trivial ?_
    refine G.op1 (op_load1P (c := bS x24) Try.underlying9 rfl (arr_at1 hx24 (fun _ => rfl) rfl) (Ev.t 29 (.ptr 1005 (Int.toNat v15.2 * 1))) rfl) rfl ⟨rfl, trivial⟩ ⟨rfl, trivial⟩ ?_
    obtain ⟨r25, hr25, hF⟩ := bindS hF
    refine G.op1 (op_callQ (sv := .one (.g (.agg [.v (.int .i64 r25.N), .v (.int .i64 r25.Site)]))) cf15 (ct_history_Greatest r2 x24 r25 hr25) rfl rfl (EvQL.cons (EvQ.g (Ev.t 27 (.g (.d (.sl 6 (List.map encApi_Event r2)))))) (EvQL.cons (EvQ.g (Ev.t 30 (bS x24))) EvQL.nil)) rfl) rfl ⟨rfl, rfl, trivial⟩ trivial ?_
    refine G.op2 (op_alloc (k := 1009) (cs := [bI .i64 0, bI .i64 0]) ti27 ⟨.v _ rfl, .v _ rfl, trivial⟩ rfl) rfl trivial ⟨rfl, trivial⟩ ?_
    refine G.op3 (op_storeA (cs' := [bI .i64 r25.N, bI .i64 r25.Site]) ti27 rfl rfl (Ev.t 9 (.ptr 1009 0)) (Ev.t 31 (.g (.agg [.v (.int .i64 r25.N), .v (.int .i64 r25.Site)])))) rfl ⟨rfl, rfl, trivial⟩ ⟨rfl, trivial⟩ ?_
    refine G.endOps ?_
    refine G.seq ?_
    refine G.region ?_
    refine G.op1 (op_move (Ev.t 6 (bI .i64 v15.1)) rfl) rfl ⟨rfl, trivial⟩ trivial ?_
    refine G.op1 (op_move (Ev.t 8 (.g (.d (.sl 2 (List.map encApi_Stamp r23))))) rfl) rfl ⟨rfl, trivial⟩ trivial ?_
    refine G.op1 (OpL.cast (op_lenD Try.underlying36 (Ev.t 33 (.g (.d (.sl 2 (List.map encApi_Stamp r23))))) rfl) (by rw [List.length_map])) rfl ⟨rfl, trivial⟩ trivial ?_
    refine G.op1 (op_add (Ev.t 32 (bI .i64 v15.1)) (Ev.t 34 (bI .i64 (r23.length : Int))) rfl) rfl ⟨rfl, rfl, trivial⟩ trivial ?_
    refine G.op1 (op_assign (Ev.t 35 (bI .i64 (IntKind.wrap .i64 (v15.1 + (r23.length : Int))))) rfl) rfl ⟨rfl, trivial⟩ trivial ?_
    refine G.endOps ?_
    refine G.seq ?_
    refine G.joinC (T := Bool) (fun y26 => ⟨[(3, .one (bB r1)), (4, .one (.g (.d (.sl 6 (List.map encApi_Event r2))))), (5, .one (.ptr 1005 0)), (6, .one (bI .i64 (IntKind.wrap .i64 (v15.1 + (r23.length : Int))))), (7, .one (bI .i64 v15.2)), (8, .one (.g (.d (.sl 2 (List.map encApi_Stamp r23))))), (9, .one (.ptr 1009 0)), (10, .one (bB y26))], [(1005, some (.blk 35 (dat (List.flatMap encS ([(ByteArray.mk #[97]), (ByteArray.mk #[98]), (ByteArray.mk #[99]), (ByteArray.mk #[100])]))))), (1009, some (.blk 27 [bI .i64 r25.N, bI .i64 r25.Site]))]⟩) (fun y26 => law20_HistoryWrites_k6 again17 v15 r23 r25 y26 = some r) (fun y26 hF => ?_) (fun J40 => ?_)
    · unfold law20_HistoryWrites_k6 at hF
      refine G.seq ?_
      refine G.seq ?_
      refine G.region ?_
      refine G.op1 (op_assign (Ev.c _ rfl) rfl) rfl trivial trivial ?_
      refine G.endOps ?_
      refine G.joinC (T := Bool) (fun y27 => ⟨[(3, .one (bB r1)), (4, .one (.g (.d (.sl 6 (List.map encApi_Event r2))))), (5, .one (.ptr 1005 0)), (6, .one (bI .i64 (IntKind.wrap .i64 (v15.1 + (r23.length : Int))))), (7, .one (bI .i64 v15.2)), (10, .one (bB y27))], [(1005, some (.blk 35 (dat (List.flatMap encS ([(ByteArray.mk #[97]), (ByteArray.mk #[98]), (ByteArray.mk #[99]), (ByteArray.mk #[100])])))))]⟩) (fun y27 => law20_HistoryWrites_k7 again17 v15 r23 y27 = some r) (fun y27 hF => ?_) (fun J29 => ?_)
      · unfold law20_HistoryWrites_k7 at hF
        refine G.seq ?_
        refine G.region ?_
        refine G.op1 (op_move (Ev.t 10 (bB y27)) rfl) rfl ⟨rfl, trivial⟩ trivial ?_
        refine G.op1 (op_not (Ev.t 65 (bB y27)) rfl) rfl ⟨rfl, trivial⟩ trivial ?_
        refine G.endOps ?_
        refine ifS hF (fun hc28 hF => ?_) (fun hc28 hF => ?_)
        · refine G.cond rfl (fun _ => ?_) (fun hx => by rw [hc28] at hx; cases hx)
          refine G.seq ?_
          refine G.region ?_
          refine G.op1 (op_assign (Ev.c _ rfl) rfl) rfl trivial trivial ?_
          refine G.endOps ?_
          cases hF
          exact G.ret1 Try.results4 (RVar.tmp 2 _) ⟨rfl, trivial⟩ trivial
        · refine G.cond rfl (fun hx => by rw [hc28] at hx; cases hx) (fun _ => ?_)
          refine G.skip ?_
          refine G.endBlock ?_
          exact G.arr (J21 (IntKind.wrap .i64 (v15.1 + (r23.length : Int))) hF) ⟨rfl, rfl, rfl, rfl, rfl, trivial⟩ ⟨rfl, trivial⟩ (by simp only [wellId, List.all_cons, List.all_nil, HE.ids, ids_dat]; rfl)
      refine G.block ?_
      refine G.keep (sl' := [(3, .one (bB r1)), (4, .one (.g (.d (.sl 6 (List.map encApi_Event r2))))), (5, .one (.ptr 1005 0)), (6, .one (bI .i64 (IntKind.wrap .i64 (v15.1 + (r23.length : Int))))), (7, .one (bI .i64 v15.2)), (8, .one (.g (.d (.sl 2 (List.map encApi_Stamp r23))))), (9, .one (.ptr 1009 0)), (10, .one (bB y26)), (11, .one (bI .i64 0))]) (hp' := [(1005, some (.blk 35 (dat (List.flatMap encS ([(ByteArray.mk #[97]), (ByteArray.mk #[98]), (ByteArray.mk #[99]), (ByteArray.mk #[100])]))))), (1009, some (.blk 27 [bI .i64 r25.N, bI .i64 r25.Site]))]) ⟨rfl, rfl, rfl, rfl, rfl, rfl, rfl, rfl, rfl, trivial⟩ ⟨rfl, rfl, trivial⟩ (by simp only [wellId, List.all_cons, List.all_nil, HE.ids, ids_dat]; rfl) ?_
      refine G.loopF (fun (v30 : Bool × Int) => ⟨[(3, .one (bB r1)), (4, .one (.g (.d (.sl 6 (List.map encApi_Event r2))))), (5, .one (.ptr 1005 0)), (6, .one (bI .i64 (IntKind.wrap .i64 (v15.1 + (r23.length : Int))))), (7, .one (bI .i64 v15.2)), (8, .one (.g (.d (.sl 2 (List.map encApi_Stamp r23))))), (9, .one (.ptr 1009 0)), (10, .one (bB v30.1)), (11, .one (bI .i64 v30.2))], [(1005, some (.blk 35 (dat (List.flatMap encS ([(ByteArray.mk #[97]), (ByteArray.mk #[98]), (ByteArray.mk #[99]), (ByteArray.mk #[100])]))))), (1009, some (.blk 27 [bI .i64 r25.N, bI .i64 r25.Site]))]⟩) hF rfl (fun K33 again32 v30 J31 hF => ?_)
      unfold law20_HistoryWrites_l8 at hF
      refine G.seq ?_
      refine G.seq ?_
      refine G.region ?_
      refine G.op1 (op_move (Ev.t 11 (bI .i64 v30.2)) rfl) rfl ⟨rfl, trivial⟩ trivial ?_
      refine G.op1 (op_move (Ev.t 8 (.g (.d (.sl 2 (List.map encApi_Stamp r23))))) rfl) rfl ⟨rfl, trivial⟩ trivial ?_
      refine G.op1 (OpL.cast (op_lenD Try.underlying36 (Ev.t 45 (.g (.d (.sl 2 (List.map encApi_Stamp r23))))) rfl) (by rw [List.length_map])) rfl ⟨rfl, trivial⟩ trivial ?_
      refine G.op1 (op_lss (Ev.t 44 (bI .i64 v30.2)) (Ev.t 46 (bI .i64 (r23.length : Int))) rfl) rfl ⟨rfl, rfl, trivial⟩ trivial ?_
      refine G.endOps ?_
      refine ifS hF (fun hc34 hF => ?_) (fun hc34 hF => ?_)
      · refine G.cond rfl (fun _ => ?_) (fun hx => by rw [hc34] at hx; cases hx)
        refine G.skip ?_
        refine G.seq ?_
        refine G.block ?_
        refine G.seq ?_
        refine G.seq ?_
        obtain ⟨x35, hx35, hF⟩ := bindS hF
        obtain ⟨r36, hr36, hF⟩ := bindS hF
        refine G.drawn (effs := [⟨[(9, .one (.ptr 1009 0))], [(1009, some (.blk 27 [bI .i64 r25.N, bI .i64 r25.Site]))], [(50, .one (.g (.agg [.v (.int .i64 r25.N), .v (.int .i64 r25.Site)])))], []⟩, ⟨[(8, .one (.g (.d (.sl 2 (List.map encApi_Stamp r23)))))], [], [(51, .one (.g (.d (.sl 2 (List.map encApi_Stamp r23)))))], []⟩, ⟨[(11, .one (bI .i64 v30.2))], [], [(52, .one (bI .i64 v30.2))], []⟩, ⟨[(51, .one (.g (.d (.sl 2 (List.map encApi_Stamp r23))))), (52, .one (bI .i64 v30.2))], [], [(53, .one (.ep [.v (.int .i64 x35.N), .v (.int .i64 x35.Site)]))], []⟩, ⟨[(53, .one (.ep [.v (.int .i64 x35.N), .v (.int .i64 x35.Site)]))], [], [(54, .one (.g (.agg [.v (.int .i64 x35.N), .v (.int .i64 x35.Site)])))], []⟩, ⟨[(50, .one (.g (.agg [.v (.int .i64 r25.N), .v (.int .i64 r25.Site)]))), (54, .one (.g (.agg [.v (.int .i64 x35.N), .v (.int .i64 x35.Site)])))], [], [(55, .one (bB r36))], []⟩]) (deps := [[], [], [], [1, 2], [1, 2, 3], [0, 1, 2, 3, 4]]) (sl' := [(3, .one (bB r1)), (4, .one (.g (.d (.sl 6 (List.map encApi_Event r2))))), (5, .one (.ptr 1005 0)), (6, .one (bI .i64 (IntKind.wrap .i64 (v15.1 + (r23.length : Int))))), (7, .one (bI .i64 v15.2)), (8, .one (.g (.d (.sl 2 (List.map encApi_Stamp r23))))), (9, .one (.ptr 1009 0)), (10, .one (bB v30.1)), (11, .one (bI .i64 v30.2)), (55, .one (bB r36))]) (hp' := [(1005, some (.blk 35 (dat (List.flatMap encS ([(ByteArray.mk #[97]), (ByteArray.mk #[98]), (ByteArray.mk #[99]), (ByteArray.mk #[100])]))))), (1009, some (.blk 27 [bI .i64 r25.N, bI .i64 r25.Site]))]) follows rfl rfl rfl ⟨⟨rfl, trivial⟩, ⟨⟨rfl, rfl⟩, trivial⟩, ⟨rfl, trivial⟩, trivial, ⟨rfl, trivial⟩, trivial, ⟨rfl, rfl, trivial⟩, trivial, ⟨rfl, trivial⟩, trivial, ⟨rfl, rfl, trivial⟩, trivial, trivial⟩ ⟨OpW.plain (op_loadAP (ds := [.v (.int .i64 r25.N), .v (.int .i64 r25.Site)]) Try.underlying27 rfl ti27 rfl (Ev.t 9 (.ptr 1009 0)) rfl) rfl rfl, OpW.plain (op_move (Ev.t 8 (.g (.d (.sl 2 (List.map encApi_Stamp r23))))) rfl) rfl rfl, OpW.plain (op_move (Ev.t 11 (bI .i64 v30.2)) rfl) rfl rfl, OpW.plain (op_index (cs := [.v (.int .i64 x35.N), .v (.int .i64 x35.Site)]) Try.underlying36 ti27 (idx_ok hx35).1 (idx_get hx35 encApi_Stamp) (Ev.t 51 (.g (.d (.sl 2 (List.map encApi_Stamp r23))))) (Ev.t 52 (bI .i64 v30.2)) rfl) rfl rfl, OpW.plain (op_loadAE (ds := [.v (.int .i64 x35.N), .v (.int .i64 x35.Site)]) Try.underlying27 rfl ti27 rfl (Ev.t 53 (.ep [.v (.int .i64 x35.N), .v (.int .i64 x35.Site)])) rfl) rfl rfl, OpW.plain (op_callQ (sv := .one (bB r36)) cf16 (ct_ref03_Less r25 x35 r36 hr36) rfl rfl (EvQL.cons (EvQ.g (Ev.t 50 (.g (.agg [.v (.int .i64 r25.N), .v (.int .i64 r25.Site)])))) (EvQL.cons (EvQ.g (Ev.t 54 (.g (.agg [.v (.int .i64 x35.N), .v (.int .i64 x35.Site)])))) EvQL.nil)) rfl) rfl rfl, trivial⟩ ⟨rfl, rfl, rfl, rfl, rfl, rfl, rfl, rfl, rfl, rfl, trivial⟩ ⟨rfl, rfl, trivial⟩ (by simp only [wellId, List.all_cons, List.all_nil, HE.ids, ids_dat]; rfl) ?_
        refine ifS hF (fun hc37 hF => ?_) (fun hc37 hF => ?_)
        · refine G.cond rfl (fun _ => ?_) (fun hx => by rw [hc37] at hx; cases hx)
          refine G.seq ?_
          refine G.region ?_
          refine G.op1 (op_assign (Ev.c _ rfl) rfl) rfl trivial trivial ?_
          refine G.endOps ?_
          cases hF
          exact G.ret1 Try.results4 (RVar.tmp 2 _) ⟨rfl, trivial⟩ trivial
        · refine G.cond rfl (fun hx => by rw [hc37] at hx; cases hx) (fun _ => ?_)
          refine G.skip ?_
          refine ifS hF (fun hc38 hF => ?_) (fun hc38 hF => ?_)
          · refine G.known (t := 10) (c := true) hc38 rfl ?_
            refine G.drawn (effs := [⟨[(10, .one (bB true))], [], [(56, .one (bB true))], []⟩, ⟨[(56, .one (bB true))], [], [(57, .one (bB true))], []⟩, ⟨[(57, .one (bB true))], [], [(58, .one (.x Go.undef))], []⟩, ⟨[(57, .one (bB true))], [], [(59, .one (.x Go.undef))], []⟩, ⟨[(57, .one (bB true))], [], [(60, .one (.x Go.undef))], []⟩, ⟨[(57, .one (bB true))], [], [(61, .one (.x Go.undef))], []⟩, ⟨[(57, .one (bB true))], [], [(62, .one (.x Go.undef))], []⟩, ⟨[(57, .one (bB true))], [], [(63, .one (.x Go.undef))], []⟩, ⟨[(57, .one (bB true))], [], [(64, .one (bB true))], []⟩, ⟨[(64, .one (bB true))], [], [(10, .one (bB true))], []⟩]) (deps := [[], [0], [0, 1], [0, 1], [0, 1, 2, 3], [0, 1, 2, 3, 4], [0, 1], [0, 1, 2, 3, 4, 5, 6], [0, 1, 2, 3, 4, 5, 6, 7], [0, 1, 2, 3, 4, 5, 6, 7, 8]]) (sl' := [(3, .one (bB r1)), (4, .one (.g (.d (.sl 6 (List.map encApi_Event r2))))), (5, .one (.ptr 1005 0)), (6, .one (bI .i64 (IntKind.wrap .i64 (v15.1 + (r23.length : Int))))), (7, .one (bI .i64 v15.2)), (8, .one (.g (.d (.sl 2 (List.map encApi_Stamp r23))))), (9, .one (.ptr 1009 0)), (10, .one (bB true)), (11, .one (bI .i64 v30.2))]) (hp' := [(1005, some (.blk 35 (dat (List.flatMap encS ([(ByteArray.mk #[97]), (ByteArray.mk #[98]), (ByteArray.mk #[99]), (ByteArray.mk #[100])]))))), (1009, some (.blk 27 [bI .i64 r25.N, bI .i64 r25.Site]))]) follows rfl rfl rfl ⟨⟨⟨rfl, rfl⟩, trivial⟩, trivial, ⟨rfl, trivial⟩, trivial, ⟨rfl, trivial⟩, trivial, ⟨rfl, trivial⟩, trivial, ⟨rfl, trivial⟩, trivial, ⟨rfl, trivial⟩, trivial, ⟨rfl, trivial⟩, trivial, ⟨rfl, trivial⟩, trivial, ⟨rfl, trivial⟩, trivial, ⟨rfl, trivial⟩, trivial, trivial⟩ ⟨OpW.plain (op_move (Ev.t 10 (bB true)) rfl) rfl rfl, OpW.plain (op_move (Ev.t 56 (bB true)) rfl) rfl rfl, OpW.no rfl rfl rfl rfl rfl, OpW.no rfl rfl rfl rfl rfl, OpW.no rfl rfl rfl rfl rfl, OpW.no rfl rfl rfl rfl rfl, OpW.no rfl rfl rfl rfl rfl, OpW.no rfl rfl rfl rfl rfl, OpW.plain (op_pickT (Ev.t 57 (bB true)) (Ev.c _ rfl) rfl) rfl rfl, OpW.plain (op_assign (Ev.t 64 (bB true)) rfl) rfl rfl, trivial⟩ ⟨rfl, rfl, rfl, rfl, rfl, rfl, rfl, rfl, rfl, trivial⟩ ⟨rfl, rfl, trivial⟩ (by simp only [wellId, List.all_cons, List.all_nil, HE.ids, ids_dat]; rfl) ?_
            refine G.endBlock ?_
            refine G.region ?_
            refine G.op1 (op_move (Ev.t 11 (bI .i64 v30.2)) rfl) rfl ⟨rfl, trivial⟩ trivial ?_
            refine G.op1 (op_add (Ev.t 48 (bI .i64 v30.2)) (Ev.c _ rfl) rfl) rfl ⟨rfl, trivial⟩ trivial ?_
            refine G.op1 (op_assign (Ev.t 49 (bI .i64 (IntKind.wrap .i64 (v30.2 + 1)))) rfl) rfl ⟨rfl, trivial⟩ trivial ?_
            refine G.endOps ?_
            exact G.arr (J31 (true, IntKind.wrap .i64 (v30.2 + 1)) hF) ⟨rfl, rfl, rfl, rfl, rfl, rfl, rfl, rfl, rfl, trivial⟩ ⟨rfl, rfl, trivial⟩ (by simp only [wellId, List.all_cons, List.all_nil, HE.ids, ids_dat]; rfl)
          · refine G.known (t := 10) (c := false) hc38 rfl ?_
            obtain ⟨x39, hx39, hF⟩ := bindS hF
            refine G.drawn (effs := [⟨[(10, .one (bB false))], [], [(56, .one (bB false))], []⟩, ⟨[(56, .one (bB false))], [], [(57, .one (bB false))], []⟩, ⟨[(57, .one (bB false)), (8, .one (.g (.d (.sl 2 (List.map encApi_Stamp r23)))))], [], [(58, .one (.g (.d (.sl 2 (List.map encApi_Stamp r23)))))], []⟩, ⟨[(57, .one (bB false)), (11, .one (bI .i64 v30.2))], [], [(59, .one (bI .i64 v30.2))], []⟩, ⟨[(57, .one (bB false)), (58, .one (.g (.d (.sl 2 (List.map encApi_Stamp r23))))), (59, .one (bI .i64 v30.2))], [], [(60, .one (.ep [.v (.int .i64 x39.N), .v (.int .i64 x39.Site)]))], []⟩, ⟨[(57, .one (bB false)), (60, .one (.ep [.v (.int .i64 x39.N), .v (.int .i64 x39.Site)]))], [], [(61, .one (.g (.agg [.v (.int .i64 x39.N), .v (.int .i64 x39.Site)])))], []⟩, ⟨[(57, .one (bB false)), (9, .one (.ptr 1009 0))], [(1009, some (.blk 27 [bI .i64 r25.N, bI .i64 r25.Site]))], [(62, .one (.g (.agg [.v (.int .i64 r25.N), .v (.int .i64 r25.Site)])))], []⟩, ⟨[(57, .one (bB false)), (61, .one (.g (.agg [.v (.int .i64 x39.N), .v (.int .i64 x39.Site)]))), (62, .one (.g (.agg [.v (.int .i64 r25.N), .v (.int .i64 r25.Site)])))], [], [(63, .one (bB (decide (x39.N = r25.N) && decide (x39.Site = r25.Site))))], []⟩, ⟨[(57, .one (bB false)), (63, .one (bB (decide (x39.N = r25.N) && decide (x39.Site = r25.Site))))], [], [(64, .one (bB (decide (x39.N = r25.N) && decide (x39.Site = r25.Site))))], []⟩, ⟨[(64, .one (bB (decide (x39.N = r25.N) && decide (x39.Site = r25.Site))))], [], [(10, .one (bB (decide (x39.N = r25.N) && decide (x39.Site = r25.Site))))], []⟩]) (deps := [[], [0], [0, 1], [0, 1], [0, 1, 2, 3], [0, 1, 2, 3, 4], [0, 1], [0, 1, 2, 3, 4, 5, 6], [0, 1, 2, 3, 4, 5, 6, 7], [0, 1, 2, 3, 4, 5, 6, 7, 8]]) (sl' := [(3, .one (bB r1)), (4, .one (.g (.d (.sl 6 (List.map encApi_Event r2))))), (5, .one (.ptr 1005 0)), (6, .one (bI .i64 (IntKind.wrap .i64 (v15.1 + (r23.length : Int))))), (7, .one (bI .i64 v15.2)), (8, .one (.g (.d (.sl 2 (List.map encApi_Stamp r23))))), (9, .one (.ptr 1009 0)), (10, .one (bB (decide (x39.N = r25.N) && decide (x39.Site = r25.Site)))), (11, .one (bI .i64 v30.2))]) (hp' := [(1005, some (.blk 35 (dat (List.flatMap encS ([(ByteArray.mk #[97]), (ByteArray.mk #[98]), (ByteArray.mk #[99]), (ByteArray.mk #[100])]))))), (1009, some (.blk 27 [bI .i64 r25.N, bI .i64 r25.Site]))]) follows rfl rfl rfl ⟨⟨⟨rfl, rfl⟩, trivial⟩, trivial, ⟨rfl, trivial⟩, trivial, ⟨rfl, rfl, trivial⟩, trivial, ⟨rfl, rfl, trivial⟩, trivial, ⟨rfl, rfl, rfl, trivial⟩, trivial, ⟨rfl, rfl, trivial⟩, trivial, ⟨rfl, rfl, trivial⟩, ⟨⟨rfl, rfl⟩, trivial⟩, ⟨rfl, rfl, rfl, trivial⟩, trivial, ⟨rfl, rfl, trivial⟩, trivial, ⟨rfl, trivial⟩, trivial, trivial⟩ ⟨OpW.plain (op_move (Ev.t 10 (bB false)) rfl) rfl rfl, OpW.plain (op_move (Ev.t 56 (bB false)) rfl) rfl rfl, OpW.yes (op_move (Ev.t 8 (.g (.d (.sl 2 (List.map encApi_Stamp r23))))) rfl) rfl rfl rfl, OpW.yes (op_move (Ev.t 11 (bI .i64 v30.2)) rfl) rfl rfl rfl, OpW.yes (op_index (cs := [.v (.int .i64 x39.N), .v (.int .i64 x39.Site)]) Try.underlying36 ti27 (idx_ok hx39).1 (idx_get hx39 encApi_Stamp) (Ev.t 58 (.g (.d (.sl 2 (List.map encApi_Stamp r23))))) (Ev.t 59 (bI .i64 v30.2)) rfl) rfl rfl rfl, OpW.yes (op_loadAE (ds := [.v (.int .i64 x39.N), .v (.int .i64 x39.Site)]) Try.underlying27 rfl ti27 rfl (Ev.t 60 (.ep [.v (.int .i64 x39.N), .v (.int .i64 x39.Site)])) rfl) rfl rfl rfl, OpW.yes (op_loadAP (ds := [.v (.int .i64 r25.N), .v (.int .i64 r25.Site)]) Try.underlying27 rfl ti27 rfl (Ev.t 9 (.ptr 1009 0)) rfl) rfl rfl rfl, OpW.yes (op_eqA (us := [.int .i64 x39.N, .int .i64 x39.Site]) (vs := [.int .i64 r25.N, .int .i64 r25.Site]) rfl rfl Try.eqGuardType27 (fun w => eq27 x39.N x39.Site r25.N r25.Site w) (Ev.t 61 (.g (.agg [.v (.int .i64 x39.N), .v (.int .i64 x39.Site)]))) (Ev.t 62 (.g (.agg [.v (.int .i64 r25.N), .v (.int .i64 r25.Site)]))) rfl) rfl rfl rfl, OpW.plain (op_pickF (Ev.t 57 (bB false)) (Ev.t 63 (bB (decide (x39.N = r25.N) && decide (x39.Site = r25.Site)))) rfl) rfl rfl, OpW.plain (op_assign (Ev.t 64 (bB (decide (x39.N = r25.N) && decide (x39.Site = r25.Site)))) rfl) rfl rfl, trivial⟩ ⟨rfl, rfl, rfl, rfl, rfl, rfl, rfl, rfl, rfl, trivial⟩ ⟨rfl, rfl, trivial⟩ (by simp only [wellId, List.all_cons, List.all_nil, HE.ids, ids_dat]; rfl) ?_
            refine G.endBlock ?_
            refine G.region ?_
            refine G.op1 (op_move (Ev.t 11 (bI .i64 v30.2)) rfl) rfl ⟨rfl, trivial⟩ trivial ?_
            refine G.op1 (op_add (Ev.t 48 (bI .i64 v30.2)) (Ev.c _ rfl) rfl) rfl ⟨rfl, trivial⟩ trivial ?_
            refine G.op1 (op_assign (Ev.t 49 (bI .i64 (IntKind.wrap .i64 (v30.2 + 1)))) rfl) rfl ⟨rfl, trivial⟩ trivial ?_
            refine G.endOps ?_
            exact G.arr (J31 ((decide (x39.N = r25.N) && decide (x39.Site = r25.Site)), IntKind.wrap .i64 (v30.2 + 1)) hF) ⟨rfl, rfl, rfl, rfl, rfl, rfl, rfl, rfl, rfl, trivial⟩ ⟨rfl, rfl, trivial⟩ (by simp only [wellId, List.all_cons, List.all_nil, HE.ids, ids_dat]; rfl)
      · refine G.cond rfl (fun hx => by rw [hc34] at hx; cases hx) (fun _ => ?_)
        refine G.exit ?_
        refine GX.c ?_
        refine GX.q ?_
        refine GX.bYes ?_
        exact G.arr (J29 v30.1 hF) ⟨rfl, rfl, rfl, rfl, rfl, rfl, trivial⟩ ⟨rfl, trivial⟩ (by simp only [wellId, List.all_cons, List.all_nil, HE.ids, ids_dat]; rfl)
    refine G.region ?_
    refine G.op1 (op_move (Ev.t 8 (.g (.d (.sl 2 (List.map encApi_Stamp r23))))) rfl) rfl ⟨rfl, trivial⟩ trivial ?_
    refine G.op1 (OpL.cast (op_lenD Try.underlying36 (Ev.t 36 (.g (.d (.sl 2 (List.map encApi_Stamp r23))))) rfl) (by rw [List.length_map])) rfl ⟨rfl, trivial⟩ trivial ?_
    refine G.op1 (op_eqI (Ev.t 37 (bI .i64 (r23.length : Int))) (Ev.c _ rfl) rfl) rfl ⟨rfl, trivial⟩ trivial ?_
    refine G.op1 (op_move (Ev.t 38 (bB (decide ((r23.length : Int) = 0)))) rfl) rfl ⟨rfl, trivial⟩ trivial ?_
    refine ifS hF (fun hc41 hF => ?_) (fun hc41 hF => ?_)
    · refine G.known (t := 39) hc41 rfl ?_
      refine G.opG1 (op_fieldP (off' := 0) Try.underlying27 rfl ti3 (by decide) rfl (Ev.t 9 (.ptr 1009 0)) rfl) rfl rfl rfl ⟨rfl, trivial⟩ trivial ?_
      refine G.opG1 (op_load1P (c := bI .i64 r25.N) Try.underlying3 rfl rfl (Ev.t 40 (.ptr 1009 0)) rfl) rfl rfl rfl ⟨rfl, trivial⟩ ⟨rfl, trivial⟩ ?_
      refine G.opG1 (op_eqI (Ev.t 41 (bI .i64 r25.N)) (Ev.c _ rfl) rfl) rfl rfl rfl ⟨rfl, trivial⟩ trivial ?_
      refine G.op1 (op_pickT (Ev.t 39 (bB true)) (Ev.t 42 (bB (decide (r25.N = 0)))) rfl) rfl ⟨rfl, rfl, trivial⟩ trivial ?_
      refine G.op1 (op_assign (Ev.t 43 (bB (decide (r25.N = 0)))) rfl) rfl ⟨rfl, trivial⟩ trivial ?_
      refine G.endOps ?_
      exact G.arr (J40 (decide (r25.N = 0)) hF) ⟨rfl, rfl, rfl, rfl, rfl, rfl, rfl, rfl, trivial⟩ ⟨rfl, rfl, trivial⟩ (by simp only [wellId, List.all_cons, List.all_nil, HE.ids, ids_dat]; rfl)
    · refine G.known (t := 39) hc41 rfl ?_
      refine G.opN1 rfl rfl rfl rfl rfl ?_
      refine G.opN1 rfl rfl rfl rfl rfl ?_
      refine G.opN1 rfl rfl rfl rfl rfl ?_
      refine G.op1 (op_pickF (Ev.t 39 (bB false)) (Ev.c _ rfl) rfl) rfl ⟨rfl, trivial⟩ trivial ?_
      refine G.op1 (op_assign (Ev.t 43 (bB false)) rfl) rfl ⟨rfl, trivial⟩ trivial ?_
      refine G.endOps ?_
      exact G.arr (J40 false hF) ⟨rfl, rfl, rfl, rfl, rfl, rfl, rfl, rfl, trivial⟩ ⟨rfl, rfl, trivial⟩ (by simp only [wellId, List.all_cons, List.all_nil, HE.ids, ids_dat]; rfl)
  · refine G.cond rfl (fun hx => by rw [hc19] at hx; cases hx) (fun _ => ?_)
    refine G.exit ?_
    refine GX.c ?_
    refine GX.q ?_
    refine GX.bYes ?_
    exact G.arr (J14 v15.1 hF) ⟨rfl, rfl, rfl, trivial⟩ trivial rfl


end Go.Ark
