/- Walks, printed by a program of mine: each function of the program computes the typed function of its name. Conditions: none. -/
import Derived.Test.YtdngcojjipaajaaWHistoryStale2
namespace Go.Ark
open Go Go.Ab Go.RowKit Go.Lib Go.Proofs

set_option maxRecDepth 20000 in
set_option maxHeartbeats 2000000 in
theorem ct_law20_HistoryStale (l_0 : (List Law20_Act)) (at_1 : Int) (r : Bool) (hF : law20_HistoryStale l_0 at_1 = some r) : Ct Try.prog 3 [.g (.d (.sl 4 (List.map encLaw20_Act l_0))), .g (.d (.v (.int .i64 at_1)))] (.one (.d (.v (.bool r)))) := by
  unfold law20_HistoryStale at hF
  refine Ct.intro Try.func3 rfl Try.ntmps3 rfl rfl fun M w => ?_
  refine G.seq ?_
  refine G.region ?_
  refine G.op1 (op_assign (Ev.c _ rfl) rfl) rfl trivial trivial ?_
  refine G.endOps ?_
  refine G.seq ?_
  refine G.region ?_
  obtain ⟨r1, hr1, hF⟩ := bindS hF
  refine G.op1 (op_callQ (sv := .one (bB r1)) cf9 (ct_law20_awake r1 hr1) rfl rfl EvQL.nil rfl) rfl trivial trivial ?_
  refine G.op1 (op_assign (Ev.t 19 (bB r1)) rfl) rfl ⟨rfl, trivial⟩ trivial ?_
  refine G.endOps ?_
  refine G.seq ?_
  refine G.region ?_
  refine G.op1 (op_move (Ev.t 0 (.g (.d (.sl 4 (List.map encLaw20_Act l_0))))) rfl) rfl ⟨rfl, trivial⟩ trivial ?_
  obtain ⟨r2, hr2, hF⟩ := bindS hF
  refine G.op1 (op_call (sv := .one (.g (.d (.sl 6 (List.map encApi_Event r2))))) cf10 (ct_law20_made l_0 r2 hr2) rfl (EvL.cons (Ev.t 20 (.g (.d (.sl 4 (List.map encLaw20_Act l_0))))) EvL.nil) rfl) rfl ⟨rfl, trivial⟩ trivial ?_
  refine G.op1 (op_assign (Ev.t 21 (.g (.d (.sl 6 (List.map encApi_Event r2))))) rfl) rfl ⟨rfl, trivial⟩ trivial ?_
  refine G.endOps ?_
  refine G.seq ?_
  refine G.seq ?_
  refine G.region ?_
  refine G.op1 (op_move (Ev.t 6 (.g (.d (.sl 6 (List.map encApi_Event r2))))) rfl) rfl ⟨rfl, trivial⟩ trivial ?_
  refine G.op1 (OpL.cast (op_lenD Try.underlying24 (Ev.t 22 (.g (.d (.sl 6 (List.map encApi_Event r2))))) rfl) (by rw [List.length_map])) rfl ⟨rfl, trivial⟩ trivial ?_
  refine G.op1 (op_eqI (Ev.t 23 (bI .i64 (r2.length : Int))) (Ev.c _ rfl) rfl) rfl ⟨rfl, trivial⟩ trivial ?_
  refine G.endOps ?_
  refine ifS hF (fun hc3 hF => ?_) (fun hc3 hF => ?_)
  · refine G.cond rfl (fun _ => ?_) (fun hx => by rw [hc3] at hx; cases hx)
    refine G.seq ?_
    refine G.region ?_
    refine G.op1 (op_move (Ev.t 5 (bB r1)) rfl) rfl ⟨rfl, trivial⟩ trivial ?_
    refine G.op1 (op_assign (Ev.t 25 (bB r1)) rfl) rfl ⟨rfl, trivial⟩ trivial ?_
    refine G.endOps ?_
    cases hF
    exact G.ret1 Try.results3 (RVar.tmp 4 _) ⟨rfl, trivial⟩ trivial
  · refine G.cond rfl (fun hx => by rw [hc3] at hx; cases hx) (fun _ => ?_)
    refine G.skip ?_
    refine G.seq ?_
    refine G.region ?_
    refine G.op1 (op_move (Ev.t 1 (bI .i64 at_1)) rfl) rfl ⟨rfl, trivial⟩ trivial ?_
    refine G.op1 (op_move (Ev.t 6 (.g (.d (.sl 6 (List.map encApi_Event r2))))) rfl) rfl ⟨rfl, trivial⟩ trivial ?_
    refine G.op1 (OpL.cast (op_lenD Try.underlying24 (Ev.t 27 (.g (.d (.sl 6 (List.map encApi_Event r2))))) rfl) (by rw [List.length_map])) rfl ⟨rfl, trivial⟩ trivial ?_
    obtain ⟨hz4, hF⟩ := chkS hF
    refine G.op1 (op_rem (by simpa using hz4) (Ev.t 26 (bI .i64 at_1)) (Ev.t 28 (bI .i64 (r2.length : Int))) rfl) rfl ⟨rfl, rfl, trivial⟩ trivial ?_
    refine G.op1 (op_move (Ev.t 6 (.g (.d (.sl 6 (List.map encApi_Event r2))))) rfl) rfl ⟨rfl, trivial⟩ trivial ?_
    refine G.op1 (OpL.cast (op_lenD Try.underlying24 (Ev.t 30 (.g (.d (.sl 6 (List.map encApi_Event r2))))) rfl) (by rw [List.length_map])) rfl ⟨rfl, trivial⟩ trivial ?_
    refine G.op1 (op_add (Ev.t 29 (bI .i64 (Int.tmod at_1 (r2.length : Int)))) (Ev.t 31 (bI .i64 (r2.length : Int))) rfl) rfl ⟨rfl, rfl, trivial⟩ trivial ?_
    refine G.op1 (op_move (Ev.t 6 (.g (.d (.sl 6 (List.map encApi_Event r2))))) rfl) rfl ⟨rfl, trivial⟩ trivial ?_
    refine G.op1 (OpL.cast (op_lenD Try.underlying24 (Ev.t 33 (.g (.d (.sl 6 (List.map encApi_Event r2))))) rfl) (by rw [List.length_map])) rfl ⟨rfl, trivial⟩ trivial ?_
    obtain ⟨hz5, hF⟩ := chkS hF
    refine G.op1 (op_rem (by simpa using hz5) (Ev.t 32 (bI .i64 (IntKind.wrap .i64 ((Int.tmod at_1 (r2.length : Int)) + (r2.length : Int))))) (Ev.t 34 (bI .i64 (r2.length : Int))) rfl) rfl ⟨rfl, rfl, trivial⟩ trivial ?_
    refine G.op1 (op_assign (Ev.t 35 (bI .i64 (Int.tmod (IntKind.wrap .i64 ((Int.tmod at_1 (r2.length : Int)) + (r2.length : Int))) (r2.length : Int)))) rfl) rfl ⟨rfl, trivial⟩ trivial ?_
    refine G.endOps ?_
    refine G.seq ?_
    refine G.region ?_
    refine G.op1 (op_move (Ev.t 6 (.g (.d (.sl 6 (List.map encApi_Event r2))))) rfl) rfl ⟨rfl, trivial⟩ trivial ?_
    refine G.op1 (op_move (Ev.t 7 (bI .i64 (Int.tmod (IntKind.wrap .i64 ((Int.tmod at_1 (r2.length : Int)) + (r2.length : Int))) (r2.length : Int)))) rfl) rfl ⟨rfl, trivial⟩ trivial ?_
    obtain ⟨x6, hx6, hF⟩ := bindS hF
    refine G.op1 (op_index (cs := [.v (.int .i64 x6.Kind), .v (.int .i64 x6.Client), .v (.string x6.Key), .v (.int .i64 x6.Stamp.N), .v (.int .i64 x6.Stamp.Site), .sl 3 (List.map encApi_Dep x6.Seen)]) Try.underlying24 ti30 (idx_ok hx6).1 (idx_get hx6 encApi_Event) (Ev.t 36 (.g (.d (.sl 6 (List.map encApi_Event r2))))) (Ev.t 37 (bI .i64 (Int.tmod (IntKind.wrap .i64 ((Int.tmod at_1 (r2.length : Int)) + (r2.length : Int))) (r2.length : Int)))) rfl) rfl ⟨rfl, rfl, trivial⟩ trivial ?_
    refine G.op1 (op_loadAE (ds := [.v (.int .i64 x6.Kind), .v (.int .i64 x6.Client), .v (.string x6.Key), .v (.int .i64 x6.Stamp.N), .v (.int .i64 x6.Stamp.Site), .sl 3 (List.map encApi_Dep x6.Seen)]) Try.underlying30 rfl ti30 rfl (Ev.t 38 (.ep [.v (.int .i64 x6.Kind), .v (.int .i64 x6.Client), .v (.string x6.Key), .v (.int .i64 x6.Stamp.N), .v (.int .i64 x6.Stamp.Site), .sl 3 (List.map encApi_Dep x6.Seen)])) rfl) rfl ⟨rfl, trivial⟩ trivial ?_
    refine G.op2 (op_alloc (k := 1008) (cs := [bI .i64 0, bI .i64 0, bS ByteArray.empty, bI .i64 0, bI .i64 0, .g (.d (.sl 3 (List.map encApi_Dep ([] : (List Api_Dep)))))]) ti30 ⟨.v _ rfl, .v _ rfl, .v _ rfl, .v _ rfl, .v _ rfl, .n 3, trivial⟩ rfl) rfl trivial ⟨rfl, trivial⟩ ?_
    refine G.op3 (op_storeA (cs' := [bI .i64 x6.Kind, bI .i64 x6.Client, bS x6.Key, bI .i64 x6.Stamp.N, bI .i64 x6.Stamp.Site, .g (.d (.sl 3 (List.map encApi_Dep x6.Seen)))]) ti30 rfl rfl (Ev.t 8 (.ptr 1008 0)) (Ev.t 39 (.g (.agg [.v (.int .i64 x6.Kind), .v (.int .i64 x6.Client), .v (.string x6.Key), .v (.int .i64 x6.Stamp.N), .v (.int .i64 x6.Stamp.Site), .sl 3 (List.map encApi_Dep x6.Seen)])))) rfl ⟨rfl, rfl, trivial⟩ ⟨rfl, trivial⟩ ?_
    refine G.endOps ?_
    refine G.seq ?_
    refine G.region ?_
    refine G.op1 (op_move (Ev.t 6 (.g (.d (.sl 6 (List.map encApi_Event r2))))) rfl) rfl ⟨rfl, trivial⟩ trivial ?_
    refine G.op1 (op_move (Ev.t 7 (bI .i64 (Int.tmod (IntKind.wrap .i64 ((Int.tmod at_1 (r2.length : Int)) + (r2.length : Int))) (r2.length : Int)))) rfl) rfl ⟨rfl, trivial⟩ trivial ?_
    obtain ⟨r7, hr7, hF⟩ := bindS hF
    refine G.op1 (op_call (sv := .one (.g (.d (.sl 3 (List.map encApi_Dep r7))))) cf11 (ct_history_Behind r2 (Int.tmod (IntKind.wrap .i64 ((Int.tmod at_1 (r2.length : Int)) + (r2.length : Int))) (r2.length : Int)) r7 hr7) rfl (EvL.cons (Ev.t 40 (.g (.d (.sl 6 (List.map encApi_Event r2))))) (EvL.cons (Ev.t 41 (bI .i64 (Int.tmod (IntKind.wrap .i64 ((Int.tmod at_1 (r2.length : Int)) + (r2.length : Int))) (r2.length : Int)))) EvL.nil)) rfl) rfl ⟨rfl, rfl, trivial⟩ trivial ?_
    refine G.op1 (op_assign (Ev.t 42 (.g (.d (.sl 3 (List.map encApi_Dep r7))))) rfl) rfl ⟨rfl, trivial⟩ trivial ?_
    refine G.endOps ?_
    refine G.seq ?_
    refine G.region ?_
    refine G.op1 (op_move (Ev.t 9 (.g (.d (.sl 3 (List.map encApi_Dep r7))))) rfl) rfl ⟨rfl, trivial⟩ trivial ?_
    refine G.op1 (op_fieldP (off' := 2) Try.underlying30 rfl ti9 (by decide) rfl (Ev.t 8 (.ptr 1008 0)) rfl) rfl ⟨rfl, trivial⟩ trivial ?_
    refine G.op1 (op_load1P (c := bS x6.Key) Try.underlying9 rfl rfl (Ev.t 44 (.ptr 1008 2)) rfl) rfl ⟨rfl, trivial⟩ ⟨rfl, trivial⟩ ?_
    obtain ⟨r8, hr8, hF⟩ := bindS hF
    refine G.op1 (op_callQ (sv := .one (.g (.agg [.v (.int .i64 r8.N), .v (.int .i64 r8.Site)]))) cf12 (ct_ref04_Get r7 x6.Key r8 hr8) rfl rfl (EvQL.cons (EvQ.g (Ev.t 43 (.g (.d (.sl 3 (List.map encApi_Dep r7)))))) (EvQL.cons (EvQ.g (Ev.t 45 (bS x6.Key))) EvQL.nil)) rfl) rfl ⟨rfl, rfl, trivial⟩ trivial ?_
    refine G.op2 (op_alloc (k := 1010) (cs := [bI .i64 0, bI .i64 0]) ti27 ⟨.v _ rfl, .v _ rfl, trivial⟩ rfl) rfl trivial ⟨rfl, trivial⟩ ?_
    refine G.op3 (op_storeA (cs' := [bI .i64 r8.N, bI .i64 r8.Site]) ti27 rfl rfl (Ev.t 10 (.ptr 1010 0)) (Ev.t 46 (.g (.agg [.v (.int .i64 r8.N), .v (.int .i64 r8.Site)])))) rfl ⟨rfl, rfl, trivial⟩ ⟨rfl, trivial⟩ ?_
    refine G.endOps ?_
    refine G.seq ?_
    refine G.seq ?_
    refine G.region ?_
    refine G.op1 (op_fieldP (off' := 0) Try.underlying27 rfl ti3 (by decide) rfl (Ev.t 10 (.ptr 1010 0)) rfl) rfl ⟨rfl, trivial⟩ trivial ?_
    refine G.op1 (op_load1P (c := bI .i64 r8.N) Try.underlying3 rfl rfl (Ev.t 47 (.ptr 1010 0)) rfl) rfl ⟨rfl, trivial⟩ ⟨rfl, trivial⟩ ?_
    refine G.op1 (op_eqI (Ev.t 48 (bI .i64 r8.N)) (Ev.c _ rfl) rfl) rfl ⟨rfl, trivial⟩ trivial ?_
    refine G.endOps ?_
    refine ifS hF (fun hc9 hF => ?_) (fun hc9 hF => ?_)
    · refine G.cond rfl (fun _ => ?_) (fun hx => by rw [hc9] at hx; cases hx)
      refine G.seq ?_
      refine G.region ?_
      refine G.op1 (op_move (Ev.t 5 (bB r1)) rfl) rfl ⟨rfl, trivial⟩ trivial ?_
      refine G.op1 (op_assign (Ev.t 50 (bB r1)) rfl) rfl ⟨rfl, trivial⟩ trivial ?_
      refine G.endOps ?_
      cases hF
      exact G.ret1 Try.results3 (RVar.tmp 4 _) ⟨rfl, trivial⟩ trivial
    · refine G.cond rfl (fun hx => by rw [hc9] at hx; cases hx) (fun _ => ?_)
      refine G.skip ?_
      refine G.seq ?_
      refine G.region ?_
      refine G.op1 (op_move (Ev.t 6 (.g (.d (.sl 6 (List.map encApi_Event r2))))) rfl) rfl ⟨rfl, trivial⟩ trivial ?_
      refine G.op1 (op_move (Ev.t 7 (bI .i64 (Int.tmod (IntKind.wrap .i64 ((Int.tmod at_1 (r2.length : Int)) + (r2.length : Int))) (r2.length : Int)))) rfl) rfl ⟨rfl, trivial⟩ trivial ?_
      refine G.op1 (op_add (Ev.t 52 (bI .i64 (Int.tmod (IntKind.wrap .i64 ((Int.tmod at_1 (r2.length : Int)) + (r2.length : Int))) (r2.length : Int)))) (Ev.c _ rfl) rfl) rfl ⟨rfl, trivial⟩ trivial ?_
      obtain ⟨l10, hl10, hF⟩ := bindS hF
      refine G.op1 (op_sliceD (lo := none) (hi := some (IntKind.wrap .i64 ((Int.tmod (IntKind.wrap .i64 ((Int.tmod at_1 (r2.length : Int)) + (r2.length : Int))) (r2.length : Int)) + 1))) Try.underlying24 ti30 (sub_ok hl10 encApi_Event).1 (sub_ok hl10 encApi_Event).2.1 (sub_ok hl10 encApi_Event).2.2.1 (sub_ok hl10 encApi_Event).2.2.2 (Ev.t 51 (.g (.d (.sl 6 (List.map encApi_Event r2))))) EvO.none (EvO.some (Ev.t 53 (bI .i64 (IntKind.wrap .i64 ((Int.tmod (IntKind.wrap .i64 ((Int.tmod at_1 (r2.length : Int)) + (r2.length : Int))) (r2.length : Int)) + 1))))) rfl) rfl ⟨rfl, rfl, trivial⟩ trivial ?_
      refine G.op1 (op_assign (Ev.t 54 (.g (.d (.sl 6 (List.map encApi_Event l10))))) rfl) rfl ⟨rfl, trivial⟩ trivial ?_
      refine G.endOps ?_
      refine G.seq ?_
      refine G.region ?_
      refine G.op2 (op_assignRow (E := 30) (size := 6) (k := 2012) (ex := false) rfl rfl) rfl trivial ⟨rfl, trivial⟩ ?_
      refine G.endOps ?_
      refine G.seq ?_
      refine G.region ?_
      refine G.op1 (op_move (Ev.t 12 (.own 2012 (List.map encApi_Event ([] : (List Api_Event))))) rfl) rfl ⟨rfl, trivial⟩ trivial ?_
      refine G.op1 (op_move (Ev.t 11 (.g (.d (.sl 6 (List.map encApi_Event l10))))) rfl) rfl ⟨rfl, trivial⟩ trivial ?_
      obtain ⟨l11, hl11, hF⟩ := bindS hF
      refine G.op2 (op_appendO Try.underlying24 ti30 rfl (app_map hl11 encApi_Event) (app_b1 hl11 encApi_Event) (app_b2 hl11 encApi_Event) (Ev.t 55 (.own 2012 (List.map encApi_Event ([] : (List Api_Event))))) (Ev.t 56 (.g (.d (.sl 6 (List.map encApi_Event l10))))) rfl) rfl ⟨rfl, rfl, trivial⟩ ⟨rfl, trivial⟩ ?_
      refine G.op1 (op_assign (Ev.t 57 (.own 2012 (List.map encApi_Event l11))) rfl) rfl ⟨rfl, trivial⟩ trivial ?_
      refine G.endOps ?_
      refine G.seq ?_
      refine G.region ?_
      refine G.op1 (op_fieldP (off' := 1) Try.underlying30 rfl ti3 (by decide) rfl (Ev.t 8 (.ptr 1008 0)) rfl) rfl ⟨rfl, trivial⟩ trivial ?_
      refine G.op1 (op_load1P (c := bI .i64 x6.Client) Try.underlying3 rfl rfl (Ev.t 58 (.ptr 1008 1)) rfl) rfl ⟨rfl, trivial⟩ ⟨rfl, trivial⟩ ?_
      refine G.op1 (op_fieldP (off' := 2) Try.underlying30 rfl ti9 (by decide) rfl (Ev.t 8 (.ptr 1008 0)) rfl) rfl ⟨rfl, trivial⟩ trivial ?_
      refine G.op1 (op_load1P (c := bS x6.Key) Try.underlying9 rfl rfl (Ev.t 60 (.ptr 1008 2)) rfl) rfl ⟨rfl, trivial⟩ ⟨rfl, trivial⟩ ?_
      refine G.op1 (op_move (Ev.t 9 (.g (.d (.sl 3 (List.map encApi_Dep r7))))) rfl) rfl ⟨rfl, trivial⟩ trivial ?_
      refine G.op1 (op_build (zs := [.v (.int .i64 0), .v (.int .i64 0), .v (.string ByteArray.empty), .v (.int .i64 0), .v (.int .i64 0), .sl 3 (List.map encApi_Dep ([] : (List Api_Dep)))]) (ds := [.v (.int .i64 2), .v (.int .i64 x6.Client), .v (.string x6.Key), .v (.int .i64 0), .v (.int .i64 0), .sl 3 (List.map encApi_Dep r7)]) Try.underlying30 ti30 (pl30 _ Try.underlying30) ⟨.v _ rfl, .v _ rfl, .v _ rfl, .v _ rfl, .v _ rfl, .n 3, trivial⟩ (EvP.cons (Ev.c _ rfl) (EvP.cons (Ev.t 59 (bI .i64 x6.Client)) (EvP.cons (Ev.t 61 (bS x6.Key)) (EvP.cons (Ev.t 62 (.g (.d (.sl 3 (List.map encApi_Dep r7))))) EvP.nil)))) rfl rfl) rfl ⟨rfl, rfl, rfl, trivial⟩ trivial ?_
      refine G.op2 (op_alloc (k := 1013) (cs := [bI .i64 0, bI .i64 0, bS ByteArray.empty, bI .i64 0, bI .i64 0, .g (.d (.sl 3 (List.map encApi_Dep ([] : (List Api_Dep)))))]) ti30 ⟨.v _ rfl, .v _ rfl, .v _ rfl, .v _ rfl, .v _ rfl, .n 3, trivial⟩ rfl) rfl trivial ⟨rfl, trivial⟩ ?_
      refine G.op3 (op_storeA (cs' := [bI .i64 2, bI .i64 x6.Client, bS x6.Key, bI .i64 0, bI .i64 0, .g (.d (.sl 3 (List.map encApi_Dep r7)))]) ti30 rfl rfl (Ev.t 13 (.ptr 1013 0)) (Ev.t 63 (.g (.agg [.v (.int .i64 2), .v (.int .i64 x6.Client), .v (.string x6.Key), .v (.int .i64 0), .v (.int .i64 0), .sl 3 (List.map encApi_Dep r7)])))) rfl ⟨rfl, rfl, trivial⟩ ⟨rfl, trivial⟩ ?_
      refine G.endOps ?_
      refine G.seq ?_
      refine G.region ?_
      refine G.op1 (op_loadAP (ds := [.v (.int .i64 2), .v (.int .i64 x6.Client), .v (.string x6.Key), .v (.int .i64 0), .v (.int .i64 0), .sl 3 (List.map encApi_Dep r7)]) Try.underlying30 rfl ti30 rfl (Ev.t 13 (.ptr 1013 0)) rfl) rfl ⟨rfl, trivial⟩ ⟨rfl, trivial⟩ ?_
      refine G.op2 (op_alloc (k := 1014) (cs := [bI .i64 0, bI .i64 0, bS ByteArray.empty, bI .i64 0, bI .i64 0, .g (.d (.sl 3 (List.map encApi_Dep ([] : (List Api_Dep)))))]) ti30 ⟨.v _ rfl, .v _ rfl, .v _ rfl, .v _ rfl, .v _ rfl, .n 3, trivial⟩ rfl) rfl trivial ⟨rfl, trivial⟩ ?_
      refine G.op3 (op_storeA (cs' := [bI .i64 2, bI .i64 x6.Client, bS x6.Key, bI .i64 0, bI .i64 0, .g (.d (.sl 3 (List.map encApi_Dep r7)))]) ti30 rfl rfl (Ev.t 14 (.ptr 1014 0)) (Ev.t 64 (.g (.agg [.v (.int .i64 2), .v (.int .i64 x6.Client), .v (.string x6.Key), .v (.int .i64 0), .v (.int .i64 0), .sl 3 (List.map encApi_Dep r7)])))) rfl ⟨rfl, rfl, trivial⟩ ⟨rfl, trivial⟩ ?_
      refine G.endOps ?_
      refine G.seq ?_
      refine G.region ?_
      refine G.op1 (op_build (zs := [.v (.int .i64 0), .v (.int .i64 0)]) (ds := [.v (.int .i64 1099511627776), .v (.int .i64 5)]) Try.underlying27 ti27 (pl27 _ Try.underlying27) ⟨.v _ rfl, .v _ rfl, trivial⟩ (EvP.cons (Ev.c _ rfl) (EvP.cons (Ev.c _ rfl) EvP.nil)) rfl rfl) rfl trivial trivial ?_
      refine G.op1 (op_fieldP (off' := 3) Try.underlying30 rfl ti27 (by decide) rfl (Ev.t 14 (.ptr 1014 0)) rfl) rfl ⟨rfl, trivial⟩ trivial ?_
      refine G.op3 (op_storeA (cs' := [bI .i64 2, bI .i64 x6.Client, bS x6.Key, bI .i64 1099511627776, bI .i64 5, .g (.d (.sl 3 (List.map encApi_Dep r7)))]) ti27 rfl rfl (Ev.t 66 (.ptr 1014 3)) (Ev.t 65 (.g (.agg [.v (.int .i64 1099511627776), .v (.int .i64 5)])))) rfl ⟨rfl, rfl, trivial⟩ ⟨rfl, trivial⟩ ?_
      refine G.endOps ?_
      refine G.seq ?_
      refine G.region ?_
      refine G.op1 (op_loadAP (ds := [.v (.int .i64 2), .v (.int .i64 x6.Client), .v (.string x6.Key), .v (.int .i64 0), .v (.int .i64 0), .sl 3 (List.map encApi_Dep r7)]) Try.underlying30 rfl ti30 rfl (Ev.t 13 (.ptr 1013 0)) rfl) rfl ⟨rfl, trivial⟩ ⟨rfl, trivial⟩ ?_
      refine G.op2 (op_alloc (k := 1015) (cs := [bI .i64 0, bI .i64 0, bS ByteArray.empty, bI .i64 0, bI .i64 0, .g (.d (.sl 3 (List.map encApi_Dep ([] : (List Api_Dep)))))]) ti30 ⟨.v _ rfl, .v _ rfl, .v _ rfl, .v _ rfl, .v _ rfl, .n 3, trivial⟩ rfl) rfl trivial ⟨rfl, trivial⟩ ?_
      refine G.op3 (op_storeA (cs' := [bI .i64 2, bI .i64 x6.Client, bS x6.Key, bI .i64 0, bI .i64 0, .g (.d (.sl 3 (List.map encApi_Dep r7)))]) ti30 rfl rfl (Ev.t 15 (.ptr 1015 0)) (Ev.t 67 (.g (.agg [.v (.int .i64 2), .v (.int .i64 x6.Client), .v (.string x6.Key), .v (.int .i64 0), .v (.int .i64 0), .sl 3 (List.map encApi_Dep r7)])))) rfl ⟨rfl, rfl, trivial⟩ ⟨rfl, trivial⟩ ?_
      refine G.endOps ?_
      refine G.seq ?_
      refine G.region ?_
      refine G.op1 (op_loadAP (ds := [.v (.int .i64 r8.N), .v (.int .i64 r8.Site)]) Try.underlying27 rfl ti27 rfl (Ev.t 10 (.ptr 1010 0)) rfl) rfl ⟨rfl, trivial⟩ ⟨rfl, trivial⟩ ?_
      refine G.op1 (op_fieldP (off' := 3) Try.underlying30 rfl ti27 (by decide) rfl (Ev.t 15 (.ptr 1015 0)) rfl) rfl ⟨rfl, trivial⟩ trivial ?_
      refine G.op3 (op_storeA (cs' := [bI .i64 2, bI .i64 x6.Client, bS x6.Key, bI .i64 r8.N, bI .i64 r8.Site, .g (.d (.sl 3 (List.map encApi_Dep r7)))]) ti27 rfl rfl (Ev.t 69 (.ptr 1015 3)) (Ev.t 68 (.g (.agg [.v (.int .i64 r8.N), .v (.int .i64 r8.Site)])))) rfl ⟨rfl, rfl, trivial⟩ ⟨rfl, trivial⟩ ?_
      refine G.endOps ?_
      refine G.seq ?_
      obtain ⟨l12, hl12, hF⟩ := bindS hF
      obtain ⟨l13, hl13, hF⟩ := bindS hF
      refine G.drawn (effs := [⟨[], [(2070, none)], [(70, .one (.own 2070 (List.map encApi_Event ([] : (List Api_Event)))))], [(2070, some (.row 30 6 (List.map encApi_Event ([] : (List Api_Event))) true))]⟩, ⟨[(12, .one (.own 2012 (List.map encApi_Event l11)))], [(2012, some (.row 30 6 (List.map encApi_Event l11) false))], [(71, .one (.g (.d (.sl 6 (List.map encApi_Event l11)))))], []⟩, ⟨[(70, .one (.own 2070 (List.map encApi_Event ([] : (List Api_Event))))), (71, .one (.g (.d (.sl 6 (List.map encApi_Event l11)))))], [(2070, some (.row 30 6 (List.map encApi_Event ([] : (List Api_Event))) true))], [(72, .one (.own 2070 (List.map encApi_Event l12)))], [(2070, some (.row 30 6 (List.map encApi_Event l12) true))]⟩, ⟨[(13, .one (.ptr 1013 0))], [(1013, some (.blk 30 [bI .i64 2, bI .i64 x6.Client, bS x6.Key, bI .i64 0, bI .i64 0, .g (.d (.sl 3 (List.map encApi_Dep r7)))]))], [(73, .one (.g (.agg [.v (.int .i64 2), .v (.int .i64 x6.Client), .v (.string x6.Key), .v (.int .i64 0), .v (.int .i64 0), .sl 3 (List.map encApi_Dep r7)])))], []⟩, ⟨[(73, .one (.g (.agg [.v (.int .i64 2), .v (.int .i64 x6.Client), .v (.string x6.Key), .v (.int .i64 0), .v (.int .i64 0), .sl 3 (List.map encApi_Dep r7)])))], [], [(74, .one (.g (.d (.sl 6 (List.map encApi_Event ([(Api_Event.mk 2 x6.Client x6.Key (Api_Stamp.mk 0 0) r7)]))))))], []⟩, ⟨[(72, .one (.own 2070 (List.map encApi_Event l12))), (74, .one (.g (.d (.sl 6 (List.map encApi_Event ([(Api_Event.mk 2 x6.Client x6.Key (Api_Stamp.mk 0 0) r7)]))))))], [(2070, some (.row 30 6 (List.map encApi_Event l12) true))], [(75, .one (.own 2070 (List.map encApi_Event l13)))], [(2070, some (.row 30 6 (List.map encApi_Event l13) true))]⟩, ⟨[(75, .one (.own 2070 (List.map encApi_Event l13)))], [], [(16, .one (.own 2070 (List.map encApi_Event l13)))], []⟩]) (deps := [[], [], [0, 1], [], [3], [0, 1, 2, 3, 4], [0, 1, 2, 3, 4, 5]]) (sl' := [(5, .one (bB r1)), (7, .one (bI .i64 (Int.tmod (IntKind.wrap .i64 ((Int.tmod at_1 (r2.length : Int)) + (r2.length : Int))) (r2.length : Int)))), (12, .one (.own 2012 (List.map encApi_Event l11))), (14, .one (.ptr 1014 0)), (15, .one (.ptr 1015 0)), (16, .one (.own 2070 (List.map encApi_Event l13)))]) (hp' := [(1014, some (.blk 30 [bI .i64 2, bI .i64 x6.Client, bS x6.Key, bI .i64 1099511627776, bI .i64 5, .g (.d (.sl 3 (List.map encApi_Dep r7)))])), (1015, some (.blk 30 [bI .i64 2, bI .i64 x6.Client, bS x6.Key, bI .i64 r8.N, bI .i64 r8.Site, .g (.d (.sl 3 (List.map encApi_Dep r7)))])), (2012, some (.row 30 6 (List.map encApi_Event l11) false)), (2070, some (.row 30 6 (List.map encApi_Event l13) true))]) follows rfl rfl rfl ⟨trivial, ⟨⟨rfl, rfl⟩, trivial⟩, ⟨rfl, trivial⟩, ⟨⟨rfl, rfl⟩, trivial⟩, ⟨rfl, rfl, trivial⟩, ⟨⟨rfl, rfl⟩, trivial⟩, ⟨rfl, trivial⟩, ⟨⟨rfl, rfl⟩, trivial⟩, ⟨rfl, trivial⟩, trivial, ⟨rfl, rfl, trivial⟩, ⟨⟨rfl, rfl⟩, trivial⟩, ⟨rfl, trivial⟩, trivial, trivial⟩ ⟨OpW.plain (op_buildRow (kk := 2070) Try.underlying24 ti30 rfl rfl) rfl rfl, OpW.plain (op_moveView (T := 30) (size := 6) rfl) rfl rfl, OpW.plain (op_appendO Try.underlying24 ti30 rfl (app_map hl12 encApi_Event) (app_b1 hl12 encApi_Event) (app_b2 hl12 encApi_Event) (Ev.t 70 (.own 2070 (List.map encApi_Event ([] : (List Api_Event))))) (Ev.t 71 (.g (.d (.sl 6 (List.map encApi_Event l11))))) rfl) rfl rfl, OpW.plain (op_loadAP (ds := [.v (.int .i64 2), .v (.int .i64 x6.Client), .v (.string x6.Key), .v (.int .i64 0), .v (.int .i64 0), .sl 3 (List.map encApi_Dep r7)]) Try.underlying30 rfl ti30 rfl (Ev.t 13 (.ptr 1013 0)) rfl) rfl rfl, OpW.plain (op_buildSlice (es := List.map encApi_Event [(Api_Event.mk 2 x6.Client x6.Key (Api_Stamp.mk 0 0) r7)]) Try.underlying24 ti30 rfl rfl (EvP.cons (Ev.t 73 (.g (.agg [.v (.int .i64 2), .v (.int .i64 x6.Client), .v (.string x6.Key), .v (.int .i64 0), .v (.int .i64 0), .sl 3 (List.map encApi_Dep r7)]))) EvP.nil) rfl rfl (by simp [encApi_Event]) rfl) rfl rfl, OpW.plain (op_appendO Try.underlying24 ti30 rfl (app_map hl13 encApi_Event) (app_b1 hl13 encApi_Event) (app_b2 hl13 encApi_Event) (Ev.t 72 (.own 2070 (List.map encApi_Event l12))) (Ev.t 74 (.g (.d (.sl 6 (List.map encApi_Event ([(Api_Event.mk 2 x6.Client x6.Key (Api_Stamp.mk 0 0) r7)])))))) rfl) rfl rfl, OpW.plain (op_assign (Ev.t 75 (.own 2070 (List.map encApi_Event l13))) rfl) rfl rfl, trivial⟩ ⟨rfl, rfl, rfl, rfl, rfl, rfl, trivial⟩ ⟨rfl, rfl, rfl, rfl, trivial⟩ rfl ?_
      refine G.seq ?_
      obtain ⟨l14, hl14, hF⟩ := bindS hF
      obtain ⟨l15, hl15, hF⟩ := bindS hF
      refine G.drawn (effs := [⟨[], [(2076, none)], [(76, .one (.own 2076 (List.map encApi_Event ([] : (List Api_Event)))))], [(2076, some (.row 30 6 (List.map encApi_Event ([] : (List Api_Event))) true))]⟩, ⟨[(12, .one (.own 2012 (List.map encApi_Event l11)))], [(2012, some (.row 30 6 (List.map encApi_Event l11) false))], [(77, .one (.g (.d (.sl 6 (List.map encApi_Event l11)))))], []⟩, ⟨[(76, .one (.own 2076 (List.map encApi_Event ([] : (List Api_Event))))), (77, .one (.g (.d (.sl 6 (List.map encApi_Event l11)))))], [(2076, some (.row 30 6 (List.map encApi_Event ([] : (List Api_Event))) true))], [(78, .one (.own 2076 (List.map encApi_Event l14)))], [(2076, some (.row 30 6 (List.map encApi_Event l14) true))]⟩, ⟨[(14, .one (.ptr 1014 0))], [(1014, some (.blk 30 [bI .i64 2, bI .i64 x6.Client, bS x6.Key, bI .i64 1099511627776, bI .i64 5, .g (.d (.sl 3 (List.map encApi_Dep r7)))]))], [(79, .one (.g (.agg [.v (.int .i64 2), .v (.int .i64 x6.Client), .v (.string x6.Key), .v (.int .i64 1099511627776), .v (.int .i64 5), .sl 3 (List.map encApi_Dep r7)])))], []⟩, ⟨[(79, .one (.g (.agg [.v (.int .i64 2), .v (.int .i64 x6.Client), .v (.string x6.Key), .v (.int .i64 1099511627776), .v (.int .i64 5), .sl 3 (List.map encApi_Dep r7)])))], [], [(80, .one (.g (.d (.sl 6 (List.map encApi_Event ([(Api_Event.mk 2 x6.Client x6.Key (Api_Stamp.mk 1099511627776 5) r7)]))))))], []⟩, ⟨[(78, .one (.own 2076 (List.map encApi_Event l14))), (80, .one (.g (.d (.sl 6 (List.map encApi_Event ([(Api_Event.mk 2 x6.Client x6.Key (Api_Stamp.mk 1099511627776 5) r7)]))))))], [(2076, some (.row 30 6 (List.map encApi_Event l14) true))], [(81, .one (.own 2076 (List.map encApi_Event l15)))], [(2076, some (.row 30 6 (List.map encApi_Event l15) true))]⟩, ⟨[(81, .one (.own 2076 (List.map encApi_Event l15)))], [], [(17, .one (.own 2076 (List.map encApi_Event l15)))], []⟩]) (deps := [[], [], [0, 1], [], [3], [0, 1, 2, 3, 4], [0, 1, 2, 3, 4, 5]]) (sl' := [(5, .one (bB r1)), (7, .one (bI .i64 (Int.tmod (IntKind.wrap .i64 ((Int.tmod at_1 (r2.length : Int)) + (r2.length : Int))) (r2.length : Int)))), (12, .one (.own 2012 (List.map encApi_Event l11))), (15, .one (.ptr 1015 0)), (16, .one (.own 2070 (List.map encApi_Event l13))), (17, .one (.own 2076 (List.map encApi_Event l15)))]) (hp' := [(1015, some (.blk 30 [bI .i64 2, bI .i64 x6.Client, bS x6.Key, bI .i64 r8.N, bI .i64 r8.Site, .g (.d (.sl 3 (List.map encApi_Dep r7)))])), (2012, some (.row 30 6 (List.map encApi_Event l11) false)), (2070, some (.row 30 6 (List.map encApi_Event l13) true)), (2076, some (.row 30 6 (List.map encApi_Event l15) true))]) follows rfl rfl rfl ⟨trivial, ⟨⟨rfl, rfl⟩, trivial⟩, ⟨rfl, trivial⟩, ⟨⟨rfl, rfl⟩, trivial⟩, ⟨rfl, rfl, trivial⟩, ⟨⟨rfl, rfl⟩, trivial⟩, ⟨rfl, trivial⟩, ⟨⟨rfl, rfl⟩, trivial⟩, ⟨rfl, trivial⟩, trivial, ⟨rfl, rfl, trivial⟩, ⟨⟨rfl, rfl⟩, trivial⟩, ⟨rfl, trivial⟩, trivial, trivial⟩ ⟨OpW.plain (op_buildRow (kk := 2076) Try.underlying24 ti30 rfl rfl) rfl rfl, OpW.plain (op_moveView (T := 30) (size := 6) rfl) rfl rfl, OpW.plain (op_appendO Try.underlying24 ti30 rfl (app_map hl14 encApi_Event) (app_b1 hl14 encApi_Event) (app_b2 hl14 encApi_Event) (Ev.t 76 (.own 2076 (List.map encApi_Event ([] : (List Api_Event))))) (Ev.t 77 (.g (.d (.sl 6 (List.map encApi_Event l11))))) rfl) rfl rfl, OpW.plain (op_loadAP (ds := [.v (.int .i64 2), .v (.int .i64 x6.Client), .v (.string x6.Key), .v (.int .i64 1099511627776), .v (.int .i64 5), .sl 3 (List.map encApi_Dep r7)]) Try.underlying30 rfl ti30 rfl (Ev.t 14 (.ptr 1014 0)) rfl) rfl rfl, OpW.plain (op_buildSlice (es := List.map encApi_Event [(Api_Event.mk 2 x6.Client x6.Key (Api_Stamp.mk 1099511627776 5) r7)]) Try.underlying24 ti30 rfl rfl (EvP.cons (Ev.t 79 (.g (.agg [.v (.int .i64 2), .v (.int .i64 x6.Client), .v (.string x6.Key), .v (.int .i64 1099511627776), .v (.int .i64 5), .sl 3 (List.map encApi_Dep r7)]))) EvP.nil) rfl rfl (by simp [encApi_Event]) rfl) rfl rfl, OpW.plain (op_appendO Try.underlying24 ti30 rfl (app_map hl15 encApi_Event) (app_b1 hl15 encApi_Event) (app_b2 hl15 encApi_Event) (Ev.t 78 (.own 2076 (List.map encApi_Event l14))) (Ev.t 80 (.g (.d (.sl 6 (List.map encApi_Event ([(Api_Event.mk 2 x6.Client x6.Key (Api_Stamp.mk 1099511627776 5) r7)])))))) rfl) rfl rfl, OpW.plain (op_assign (Ev.t 81 (.own 2076 (List.map encApi_Event l15))) rfl) rfl rfl, trivial⟩ ⟨rfl, rfl, rfl, rfl, rfl, rfl, trivial⟩ ⟨rfl, rfl, rfl, rfl, trivial⟩ rfl ?_
      refine G.seq ?_
      obtain ⟨l16, hl16, hF⟩ := bindS hF
      obtain ⟨l17, hl17, hF⟩ := bindS hF
      refine G.drawn (effs := [⟨[], [(2082, none)], [(82, .one (.own 2082 (List.map encApi_Event ([] : (List Api_Event)))))], [(2082, some (.row 30 6 (List.map encApi_Event ([] : (List Api_Event))) true))]⟩, ⟨[(12, .one (.own 2012 (List.map encApi_Event l11)))], [(2012, some (.row 30 6 (List.map encApi_Event l11) false))], [(83, .one (.g (.d (.sl 6 (List.map encApi_Event l11)))))], []⟩, ⟨[(82, .one (.own 2082 (List.map encApi_Event ([] : (List Api_Event))))), (83, .one (.g (.d (.sl 6 (List.map encApi_Event l11)))))], [(2082, some (.row 30 6 (List.map encApi_Event ([] : (List Api_Event))) true))], [(84, .one (.own 2082 (List.map encApi_Event l16)))], [(2082, some (.row 30 6 (List.map encApi_Event l16) true))]⟩, ⟨[(15, .one (.ptr 1015 0))], [(1015, some (.blk 30 [bI .i64 2, bI .i64 x6.Client, bS x6.Key, bI .i64 r8.N, bI .i64 r8.Site, .g (.d (.sl 3 (List.map encApi_Dep r7)))]))], [(85, .one (.g (.agg [.v (.int .i64 2), .v (.int .i64 x6.Client), .v (.string x6.Key), .v (.int .i64 r8.N), .v (.int .i64 r8.Site), .sl 3 (List.map encApi_Dep r7)])))], []⟩, ⟨[(85, .one (.g (.agg [.v (.int .i64 2), .v (.int .i64 x6.Client), .v (.string x6.Key), .v (.int .i64 r8.N), .v (.int .i64 r8.Site), .sl 3 (List.map encApi_Dep r7)])))], [], [(86, .one (.g (.d (.sl 6 (List.map encApi_Event ([(Api_Event.mk 2 x6.Client x6.Key r8 r7)]))))))], []⟩, ⟨[(84, .one (.own 2082 (List.map encApi_Event l16))), (86, .one (.g (.d (.sl 6 (List.map encApi_Event ([(Api_Event.mk 2 x6.Client x6.Key r8 r7)]))))))], [(2082, some (.row 30 6 (List.map encApi_Event l16) true))], [(87, .one (.own 2082 (List.map encApi_Event l17)))], [(2082, some (.row 30 6 (List.map encApi_Event l17) true))]⟩, ⟨[(87, .one (.own 2082 (List.map encApi_Event l17)))], [], [(18, .one (.own 2082 (List.map encApi_Event l17)))], []⟩]) (deps := [[], [], [0, 1], [], [3], [0, 1, 2, 3, 4], [0, 1, 2, 3, 4, 5]]) (sl' := [(5, .one (bB r1)), (7, .one (bI .i64 (Int.tmod (IntKind.wrap .i64 ((Int.tmod at_1 (r2.length : Int)) + (r2.length : Int))) (r2.length : Int)))), (16, .one (.own 2070 (List.map encApi_Event l13))), (17, .one (.own 2076 (List.map encApi_Event l15))), (18, .one (.own 2082 (List.map encApi_Event l17)))]) (hp' := [(2070, some (.row 30 6 (List.map encApi_Event l13) true)), (2076, some (.row 30 6 (List.map encApi_Event l15) true)), (2082, some (.row 30 6 (List.map encApi_Event l17) true))]) follows rfl rfl rfl ⟨trivial, ⟨⟨rfl, rfl⟩, trivial⟩, ⟨rfl, trivial⟩, ⟨⟨rfl, rfl⟩, trivial⟩, ⟨rfl, rfl, trivial⟩, ⟨⟨rfl, rfl⟩, trivial⟩, ⟨rfl, trivial⟩, ⟨⟨rfl, rfl⟩, trivial⟩, ⟨rfl, trivial⟩, trivial, ⟨rfl, rfl, trivial⟩, ⟨⟨rfl, rfl⟩, trivial⟩, ⟨rfl, trivial⟩, trivial, trivial⟩ ⟨OpW.plain (op_buildRow (kk := 2082) Try.underlying24 ti30 rfl rfl) rfl rfl, OpW.plain (op_moveView (T := 30) (size := 6) rfl) rfl rfl, OpW.plain (op_appendO Try.underlying24 ti30 rfl (app_map hl16 encApi_Event) (app_b1 hl16 encApi_Event) (app_b2 hl16 encApi_Event) (Ev.t 82 (.own 2082 (List.map encApi_Event ([] : (List Api_Event))))) (Ev.t 83 (.g (.d (.sl 6 (List.map encApi_Event l11))))) rfl) rfl rfl, OpW.plain (op_loadAP (ds := [.v (.int .i64 2), .v (.int .i64 x6.Client), .v (.string x6.Key), .v (.int .i64 r8.N), .v (.int .i64 r8.Site), .sl 3 (List.map encApi_Dep r7)]) Try.underlying30 rfl ti30 rfl (Ev.t 15 (.ptr 1015 0)) rfl) rfl rfl, OpW.plain (op_buildSlice (es := List.map encApi_Event [(Api_Event.mk 2 x6.Client x6.Key r8 r7)]) Try.underlying24 ti30 rfl rfl (EvP.cons (Ev.t 85 (.g (.agg [.v (.int .i64 2), .v (.int .i64 x6.Client), .v (.string x6.Key), .v (.int .i64 r8.N), .v (.int .i64 r8.Site), .sl 3 (List.map encApi_Dep r7)]))) EvP.nil) rfl rfl (by simp [encApi_Event]) rfl) rfl rfl, OpW.plain (op_appendO Try.underlying24 ti30 rfl (app_map hl17 encApi_Event) (app_b1 hl17 encApi_Event) (app_b2 hl17 encApi_Event) (Ev.t 84 (.own 2082 (List.map encApi_Event l16))) (Ev.t 86 (.g (.d (.sl 6 (List.map encApi_Event ([(Api_Event.mk 2 x6.Client x6.Key r8 r7)])))))) rfl) rfl rfl, OpW.plain (op_assign (Ev.t 87 (.own 2082 (List.map encApi_Event l17))) rfl) rfl rfl, trivial⟩ ⟨rfl, rfl, rfl, rfl, rfl, trivial⟩ ⟨rfl, rfl, rfl, trivial⟩ rfl ?_
      refine G.seq ?_
      refine G.region ?_
      refine G.op1 (op_move (Ev.t 5 (bB r1)) rfl) rfl ⟨rfl, trivial⟩ trivial ?_
      refine G.op1 (op_move (Ev.t 88 (bB r1)) rfl) rfl ⟨rfl, trivial⟩ trivial ?_
      refine G.joinL (T := Bool) 6 (fun y18 => ⟨[(7, .one (bI .i64 (Int.tmod (IntKind.wrap .i64 ((Int.tmod at_1 (r2.length : Int)) + (r2.length : Int))) (r2.length : Int)))), (17, .one (.own 2076 (List.map encApi_Event l15))), (18, .one (.own 2082 (List.map encApi_Event l17))), (95, .one (bB y18))], [(2076, some (.row 30 6 (List.map encApi_Event l15) true)), (2082, some (.row 30 6 (List.map encApi_Event l17) true))]⟩) (fun y18 => law20_HistoryStale_k1 at_1 r2 l15 l17 y18 = some r) (fun y18 hF => ?_) (fun J25 => ?_)
      · unfold law20_HistoryStale_k1 at hF
        refine G.op1 (op_move (Ev.t 95 (bB y18)) rfl) rfl ⟨rfl, trivial⟩ trivial ?_
        refine G.joinL (T := Bool) 6 (fun y19 => ⟨[(18, .one (.own 2082 (List.map encApi_Event l17))), (102, .one (bB y19))], [(2082, some (.row 30 6 (List.map encApi_Event l17) true))]⟩) (fun y19 => law20_HistoryStale_k2 l17 y19 = some r) (fun y19 hF => ?_) (fun J22 => ?_)
        · unfold law20_HistoryStale_k2 at hF
          refine G.op1 (op_move (Ev.t 102 (bB y19)) rfl) rfl ⟨rfl, trivial⟩ trivial ?_
          refine ifS hF (fun hc20 hF => ?_) (fun hc20 hF => ?_)
          · refine G.known (t := 103) hc20 rfl ?_
            refine G.opG1 (op_move (Ev.t 18 (.own 2082 (List.map encApi_Event l17))) rfl) rfl rfl rfl ⟨rfl, trivial⟩ trivial ?_
            obtain ⟨r21, hr21, hF⟩ := bindS hF
            refine G.opG1 (op_callQ (sv := .one (bI .i64 r21)) cf13 (ct_history_Check l17 r21 hr21) rfl rfl (EvQL.cons (EvQ.own (Ev.t 104 (.own 2082 (List.map encApi_Event l17)))) EvQL.nil) rfl) rfl rfl rfl ⟨rfl, trivial⟩ ⟨rfl, trivial⟩ ?_
            refine G.opG1 (op_eqI (Ev.t 105 (bI .i64 r21)) (Ev.c _ rfl) rfl) rfl rfl rfl ⟨rfl, trivial⟩ trivial ?_
            refine G.op1 (op_pickT (Ev.t 103 (bB true)) (Ev.t 106 (bB (decide (r21 = (-1))))) rfl) rfl ⟨rfl, rfl, trivial⟩ trivial ?_
            refine G.op1 (op_assign (Ev.t 107 (bB (decide (r21 = (-1))))) rfl) rfl ⟨rfl, trivial⟩ trivial ?_
            refine G.endOps ?_
            cases hF
            exact G.ret1 Try.results3 (RVar.tmp 4 _) ⟨rfl, trivial⟩ trivial
          · refine G.known (t := 103) hc20 rfl ?_
            refine G.opN1 rfl rfl rfl rfl rfl ?_
            refine G.opN1 rfl rfl rfl rfl rfl ?_
            refine G.opN1 rfl rfl rfl rfl rfl ?_
            refine G.op1 (op_pickF (Ev.t 103 (bB false)) (Ev.c _ rfl) rfl) rfl ⟨rfl, trivial⟩ trivial ?_
            refine G.op1 (op_assign (Ev.t 107 (bB false)) rfl) rfl ⟨rfl, trivial⟩ trivial ?_
            refine G.endOps ?_
            cases hF
            exact G.ret1 Try.results3 (RVar.tmp 4 _) ⟨rfl, trivial⟩ trivial
        refine ifS hF (fun hc23 hF => ?_) (fun hc23 hF => ?_)
        · refine G.known (t := 96) hc23 rfl ?_
          refine G.opG1 (op_move (Ev.t 17 (.own 2076 (List.map encApi_Event l15))) rfl) rfl rfl rfl ⟨rfl, trivial⟩ trivial ?_
          obtain ⟨r24, hr24, hF⟩ := bindS hF
          refine G.opG1 (op_callQ (sv := .one (bI .i64 r24)) cf13 (ct_history_Check l15 r24 hr24) rfl rfl (EvQL.cons (EvQ.own (Ev.t 97 (.own 2076 (List.map encApi_Event l15)))) EvQL.nil) rfl) rfl rfl rfl ⟨rfl, trivial⟩ ⟨rfl, trivial⟩ ?_
          refine G.opG1 (op_move (Ev.t 7 (bI .i64 (Int.tmod (IntKind.wrap .i64 ((Int.tmod at_1 (r2.length : Int)) + (r2.length : Int))) (r2.length : Int)))) rfl) rfl rfl rfl ⟨rfl, trivial⟩ trivial ?_
          refine G.opG1 (op_add (Ev.t 99 (bI .i64 (Int.tmod (IntKind.wrap .i64 ((Int.tmod at_1 (r2.length : Int)) + (r2.length : Int))) (r2.length : Int)))) (Ev.c _ rfl) rfl) rfl rfl rfl ⟨rfl, trivial⟩ trivial ?_
          refine G.opG1 (op_eqI (Ev.t 98 (bI .i64 r24)) (Ev.t 100 (bI .i64 (IntKind.wrap .i64 ((Int.tmod (IntKind.wrap .i64 ((Int.tmod at_1 (r2.length : Int)) + (r2.length : Int))) (r2.length : Int)) + 1)))) rfl) rfl rfl rfl ⟨rfl, rfl, trivial⟩ trivial ?_
          refine G.op1 (op_pickT (Ev.t 96 (bB true)) (Ev.t 101 (bB (decide (r24 = (IntKind.wrap .i64 ((Int.tmod (IntKind.wrap .i64 ((Int.tmod at_1 (r2.length : Int)) + (r2.length : Int))) (r2.length : Int)) + 1)))))) rfl) rfl ⟨rfl, rfl, trivial⟩ trivial ?_
          exact G.arr (J22 (decide (r24 = (IntKind.wrap .i64 ((Int.tmod (IntKind.wrap .i64 ((Int.tmod at_1 (r2.length : Int)) + (r2.length : Int))) (r2.length : Int)) + 1)))) hF) ⟨rfl, rfl, trivial⟩ ⟨rfl, trivial⟩ rfl
        · refine G.known (t := 96) hc23 rfl ?_
          refine G.opN1 rfl rfl rfl rfl rfl ?_
          refine G.opN1 rfl rfl rfl rfl rfl ?_
          refine G.opN1 rfl rfl rfl rfl rfl ?_
          refine G.opN1 rfl rfl rfl rfl rfl ?_
          refine G.opN1 rfl rfl rfl rfl rfl ?_
          refine G.op1 (op_pickF (Ev.t 96 (bB false)) (Ev.c _ rfl) rfl) rfl ⟨rfl, trivial⟩ trivial ?_
          exact G.arr (J22 false hF) ⟨rfl, rfl, trivial⟩ ⟨rfl, trivial⟩ rfl
      refine ifS hF (fun hc26 hF => ?_) (fun hc26 hF => ?_)
      · refine G.known (t := 89) hc26 rfl ?_
        refine G.opG1 (op_move (Ev.t 16 (.own 2070 (List.map encApi_Event l13))) rfl) rfl rfl rfl ⟨rfl, trivial⟩ trivial ?_
        obtain ⟨r27, hr27, hF⟩ := bindS hF
        refine G.opG1 (op_callQ (sv := .one (bI .i64 r27)) cf13 (ct_history_Check l13 r27 hr27) rfl rfl (EvQL.cons (EvQ.own (Ev.t 90 (.own 2070 (List.map encApi_Event l13)))) EvQL.nil) rfl) rfl rfl rfl ⟨rfl, trivial⟩ ⟨rfl, trivial⟩ ?_
        refine G.opG1 (op_move (Ev.t 7 (bI .i64 (Int.tmod (IntKind.wrap .i64 ((Int.tmod at_1 (r2.length : Int)) + (r2.length : Int))) (r2.length : Int)))) rfl) rfl rfl rfl ⟨rfl, trivial⟩ trivial ?_
        refine G.opG1 (op_add (Ev.t 92 (bI .i64 (Int.tmod (IntKind.wrap .i64 ((Int.tmod at_1 (r2.length : Int)) + (r2.length : Int))) (r2.length : Int)))) (Ev.c _ rfl) rfl) rfl rfl rfl ⟨rfl, trivial⟩ trivial ?_
        refine G.opG1 (op_eqI (Ev.t 91 (bI .i64 r27)) (Ev.t 93 (bI .i64 (IntKind.wrap .i64 ((Int.tmod (IntKind.wrap .i64 ((Int.tmod at_1 (r2.length : Int)) + (r2.length : Int))) (r2.length : Int)) + 1)))) rfl) rfl rfl rfl ⟨rfl, rfl, trivial⟩ trivial ?_
        refine G.op1 (op_pickT (Ev.t 89 (bB true)) (Ev.t 94 (bB (decide (r27 = (IntKind.wrap .i64 ((Int.tmod (IntKind.wrap .i64 ((Int.tmod at_1 (r2.length : Int)) + (r2.length : Int))) (r2.length : Int)) + 1)))))) rfl) rfl ⟨rfl, rfl, trivial⟩ trivial ?_
        exact G.arr (J25 (decide (r27 = (IntKind.wrap .i64 ((Int.tmod (IntKind.wrap .i64 ((Int.tmod at_1 (r2.length : Int)) + (r2.length : Int))) (r2.length : Int)) + 1)))) hF) ⟨rfl, rfl, rfl, rfl, trivial⟩ ⟨rfl, rfl, trivial⟩ rfl
      · refine G.known (t := 89) hc26 rfl ?_
        refine G.opN1 rfl rfl rfl rfl rfl ?_
        refine G.opN1 rfl rfl rfl rfl rfl ?_
        refine G.opN1 rfl rfl rfl rfl rfl ?_
        refine G.opN1 rfl rfl rfl rfl rfl ?_
        refine G.opN1 rfl rfl rfl rfl rfl ?_
        refine G.op1 (op_pickF (Ev.t 89 (bB false)) (Ev.c _ rfl) rfl) rfl ⟨rfl, trivial⟩ trivial ?_
        exact G.arr (J25 false hF) ⟨rfl, rfl, rfl, rfl, trivial⟩ ⟨rfl, rfl, trivial⟩ rfl


end Go.Ark
