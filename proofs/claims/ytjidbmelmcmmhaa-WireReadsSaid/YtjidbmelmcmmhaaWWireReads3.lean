/- Walks, printed by a program of mine: each function of the program computes the typed function of its name. Conditions: none. -/
import Derived.Test.YtjidbmelmcmmhaaWWireReads2
namespace Go.Ark
open Go Go.Ab Go.RowKit Go.Lib Go.Proofs

set_option maxRecDepth 20000 in
set_option maxHeartbeats 2000000 in
theorem ct_ref06_Read (s_0 : ByteArray) (r : (Api_Version × Bool)) (hF : ref06_Read s_0 = some r) : Ct Try.prog 18 [.g (.d (.v (.string s_0)))] (.tup [.agg (encApi_Version r.1), .d (.v (.bool r.2))]) := by
  unfold ref06_Read at hF
  refine Ct.intro Try.func18 rfl Try.ntmps18 rfl rfl fun M w => ?_
  refine G.seq ?_
  refine G.region ?_
  refine G.op2 (op_alloc (k := 1002) (cs := [bS ByteArray.empty, bS ByteArray.empty, bB false, bI .i64 0, bI .i64 0, .g (.d (.sl 3 (List.map encApi_Dep ([] : (List Api_Dep)))))]) ti26 ⟨.v _ rfl, .v _ rfl, .v _ rfl, .v _ rfl, .v _ rfl, .n 3, trivial⟩ rfl) rfl trivial ⟨rfl, trivial⟩ ?_
  refine G.op1 (op_assign (Ev.c _ rfl) rfl) rfl trivial trivial ?_
  refine G.endOps ?_
  refine G.seq ?_
  refine G.region ?_
  refine G.op1 (op_move (Ev.t 0 (bS s_0)) rfl) rfl ⟨rfl, trivial⟩ trivial ?_
  obtain ⟨r1, hr1, hF⟩ := bindS hF
  refine G.op1 (op_callQ (sv := .one (.g (.agg [.v (.string r1.S), .v (.int .i64 r1.End)]))) cf48 (ct_ref01_ReadText s_0 0 32 r1 hr1) rfl rfl (EvQL.cons (EvQ.g (Ev.t 10 (bS s_0))) (EvQL.cons (EvQ.g (Ev.c _ rfl)) (EvQL.cons (EvQ.g (Ev.c _ rfl)) EvQL.nil))) rfl) rfl ⟨rfl, trivial⟩ trivial ?_
  refine G.op2 (op_alloc (k := 1004) (cs := [bS ByteArray.empty, bI .i64 0]) ti76 ⟨.v _ rfl, .v _ rfl, trivial⟩ rfl) rfl trivial ⟨rfl, trivial⟩ ?_
  refine G.op3 (op_storeA (cs' := [bS r1.S, bI .i64 r1.End]) ti76 rfl rfl (Ev.t 4 (.ptr 1004 0)) (Ev.t 11 (.g (.agg [.v (.string r1.S), .v (.int .i64 r1.End)])))) rfl ⟨rfl, rfl, trivial⟩ ⟨rfl, trivial⟩ ?_
  refine G.endOps ?_
  refine G.seq ?_
  refine G.seq ?_
  refine G.region ?_
  refine G.op1 (op_fieldP (off' := 1) Try.underlying76 rfl ti3 (by decide) rfl (Ev.t 4 (.ptr 1004 0)) rfl) rfl ⟨rfl, trivial⟩ trivial ?_
  refine G.op1 (op_load1P (c := bI .i64 r1.End) Try.underlying3 rfl rfl (Ev.t 12 (.ptr 1004 1)) rfl) rfl ⟨rfl, trivial⟩ ⟨rfl, trivial⟩ ?_
  refine G.op1 (op_eqI (Ev.t 13 (bI .i64 r1.End)) (Ev.c _ rfl) rfl) rfl ⟨rfl, trivial⟩ trivial ?_
  refine G.endOps ?_
  refine ifS hF (fun hc2 hF => ?_) (fun hc2 hF => ?_)
  · refine G.cond rfl (fun _ => ?_) (fun hx => by rw [hc2] at hx; cases hx)
    refine G.seq ?_
    refine G.region ?_
    refine G.op1 (op_build (zs := [.v (.string ByteArray.empty), .v (.string ByteArray.empty), .v (.bool false), .v (.int .i64 0), .v (.int .i64 0), .sl 3 (List.map encApi_Dep ([] : (List Api_Dep)))]) (ds := [.v (.string ByteArray.empty), .v (.string ByteArray.empty), .v (.bool false), .v (.int .i64 0), .v (.int .i64 0), .sl 3 (List.map encApi_Dep ([] : (List Api_Dep)))]) Try.underlying26 ti26 (pl26 _ Try.underlying26) ⟨.v _ rfl, .v _ rfl, .v _ rfl, .v _ rfl, .v _ rfl, .n 3, trivial⟩ EvP.nil rfl rfl) rfl trivial trivial ?_
    refine G.op3 (op_storeA (cs' := [bS ByteArray.empty, bS ByteArray.empty, bB false, bI .i64 0, bI .i64 0, .g (.d (.sl 3 (List.map encApi_Dep ([] : (List Api_Dep)))))]) ti26 rfl rfl (Ev.t 2 (.ptr 1002 0)) (Ev.t 15 (.g (.agg [.v (.string ByteArray.empty), .v (.string ByteArray.empty), .v (.bool false), .v (.int .i64 0), .v (.int .i64 0), .sl 3 (List.map encApi_Dep ([] : (List Api_Dep)))])))) rfl ⟨rfl, rfl, trivial⟩ ⟨rfl, trivial⟩ ?_
    refine G.op1 (op_assign (Ev.c _ rfl) rfl) rfl trivial trivial ?_
    refine G.endOps ?_
    cases hF
    exact G.ret2 Try.results18 (RVar.cellA (ds := [.v (.string ByteArray.empty), .v (.string ByteArray.empty), .v (.bool false), .v (.int .i64 0), .v (.int .i64 0), .sl 3 (List.map encApi_Dep ([] : (List Api_Dep)))]) Try.underlying26 rfl ti26 rfl) (RVar.tmp 3 _) ⟨rfl, rfl, trivial⟩ ⟨rfl, trivial⟩
  · refine G.cond rfl (fun hx => by rw [hc2] at hx; cases hx) (fun _ => ?_)
    refine G.skip ?_
    refine G.seq ?_
    refine G.region ?_
    refine G.op1 (op_move (Ev.t 0 (bS s_0)) rfl) rfl ⟨rfl, trivial⟩ trivial ?_
    refine G.op1 (op_fieldP (off' := 1) Try.underlying76 rfl ti3 (by decide) rfl (Ev.t 4 (.ptr 1004 0)) rfl) rfl ⟨rfl, trivial⟩ trivial ?_
    refine G.op1 (op_load1P (c := bI .i64 r1.End) Try.underlying3 rfl rfl (Ev.t 17 (.ptr 1004 1)) rfl) rfl ⟨rfl, trivial⟩ ⟨rfl, trivial⟩ ?_
    obtain ⟨r3, hr3, hF⟩ := bindS hF
    refine G.op1 (op_callQ (sv := .one (.g (.agg [.v (.int .u64 r3.N), .v (.int .i64 r3.End)]))) cf49 (ct_ref01_Read s_0 r1.End r3 hr3) rfl rfl (EvQL.cons (EvQ.g (Ev.t 16 (bS s_0))) (EvQL.cons (EvQ.g (Ev.t 18 (bI .i64 r1.End))) EvQL.nil)) rfl) rfl ⟨rfl, rfl, trivial⟩ trivial ?_
    refine G.op2 (op_alloc (k := 1005) (cs := [bI .u64 0, bI .i64 0]) ti79 ⟨.v _ rfl, .v _ rfl, trivial⟩ rfl) rfl trivial ⟨rfl, trivial⟩ ?_
    refine G.op3 (op_storeA (cs' := [bI .u64 r3.N, bI .i64 r3.End]) ti79 rfl rfl (Ev.t 5 (.ptr 1005 0)) (Ev.t 19 (.g (.agg [.v (.int .u64 r3.N), .v (.int .i64 r3.End)])))) rfl ⟨rfl, rfl, trivial⟩ ⟨rfl, trivial⟩ ?_
    refine G.endOps ?_
    refine G.seq ?_
    refine G.seq ?_
    refine G.region ?_
    refine G.op1 (op_fieldP (off' := 1) Try.underlying79 rfl ti3 (by decide) rfl (Ev.t 5 (.ptr 1005 0)) rfl) rfl ⟨rfl, trivial⟩ trivial ?_
    refine G.op1 (op_load1P (c := bI .i64 r3.End) Try.underlying3 rfl rfl (Ev.t 20 (.ptr 1005 1)) rfl) rfl ⟨rfl, trivial⟩ ⟨rfl, trivial⟩ ?_
    refine G.op1 (op_eqI (Ev.t 21 (bI .i64 r3.End)) (Ev.c _ rfl) rfl) rfl ⟨rfl, trivial⟩ trivial ?_
    refine G.endOps ?_
    refine ifS hF (fun hc4 hF => ?_) (fun hc4 hF => ?_)
    · refine G.cond rfl (fun _ => ?_) (fun hx => by rw [hc4] at hx; cases hx)
      refine G.seq ?_
      refine G.region ?_
      refine G.op1 (op_build (zs := [.v (.string ByteArray.empty), .v (.string ByteArray.empty), .v (.bool false), .v (.int .i64 0), .v (.int .i64 0), .sl 3 (List.map encApi_Dep ([] : (List Api_Dep)))]) (ds := [.v (.string ByteArray.empty), .v (.string ByteArray.empty), .v (.bool false), .v (.int .i64 0), .v (.int .i64 0), .sl 3 (List.map encApi_Dep ([] : (List Api_Dep)))]) Try.underlying26 ti26 (pl26 _ Try.underlying26) ⟨.v _ rfl, .v _ rfl, .v _ rfl, .v _ rfl, .v _ rfl, .n 3, trivial⟩ EvP.nil rfl rfl) rfl trivial trivial ?_
      refine G.op3 (op_storeA (cs' := [bS ByteArray.empty, bS ByteArray.empty, bB false, bI .i64 0, bI .i64 0, .g (.d (.sl 3 (List.map encApi_Dep ([] : (List Api_Dep)))))]) ti26 rfl rfl (Ev.t 2 (.ptr 1002 0)) (Ev.t 23 (.g (.agg [.v (.string ByteArray.empty), .v (.string ByteArray.empty), .v (.bool false), .v (.int .i64 0), .v (.int .i64 0), .sl 3 (List.map encApi_Dep ([] : (List Api_Dep)))])))) rfl ⟨rfl, rfl, trivial⟩ ⟨rfl, trivial⟩ ?_
      refine G.op1 (op_assign (Ev.c _ rfl) rfl) rfl trivial trivial ?_
      refine G.endOps ?_
      cases hF
      exact G.ret2 Try.results18 (RVar.cellA (ds := [.v (.string ByteArray.empty), .v (.string ByteArray.empty), .v (.bool false), .v (.int .i64 0), .v (.int .i64 0), .sl 3 (List.map encApi_Dep ([] : (List Api_Dep)))]) Try.underlying26 rfl ti26 rfl) (RVar.tmp 3 _) ⟨rfl, rfl, trivial⟩ ⟨rfl, trivial⟩
    · refine G.cond rfl (fun hx => by rw [hc4] at hx; cases hx) (fun _ => ?_)
      refine G.skip ?_
      refine G.seq ?_
      refine G.region ?_
      refine G.op1 (op_move (Ev.t 0 (bS s_0)) rfl) rfl ⟨rfl, trivial⟩ trivial ?_
      refine G.op1 (op_fieldP (off' := 1) Try.underlying79 rfl ti3 (by decide) rfl (Ev.t 5 (.ptr 1005 0)) rfl) rfl ⟨rfl, trivial⟩ trivial ?_
      refine G.op1 (op_load1P (c := bI .i64 r3.End) Try.underlying3 rfl rfl (Ev.t 25 (.ptr 1005 1)) rfl) rfl ⟨rfl, trivial⟩ ⟨rfl, trivial⟩ ?_
      obtain ⟨r5, hr5, hF⟩ := bindS hF
      refine G.op1 (op_callQ (sv := .one (.g (.agg [.v (.string r5.S), .v (.int .i64 r5.End)]))) cf48 (ct_ref01_ReadText s_0 r3.End 32 r5 hr5) rfl rfl (EvQL.cons (EvQ.g (Ev.t 24 (bS s_0))) (EvQL.cons (EvQ.g (Ev.t 26 (bI .i64 r3.End))) (EvQL.cons (EvQ.g (Ev.c _ rfl)) EvQL.nil))) rfl) rfl ⟨rfl, rfl, trivial⟩ trivial ?_
      refine G.op2 (op_alloc (k := 1006) (cs := [bS ByteArray.empty, bI .i64 0]) ti76 ⟨.v _ rfl, .v _ rfl, trivial⟩ rfl) rfl trivial ⟨rfl, trivial⟩ ?_
      refine G.op3 (op_storeA (cs' := [bS r5.S, bI .i64 r5.End]) ti76 rfl rfl (Ev.t 6 (.ptr 1006 0)) (Ev.t 27 (.g (.agg [.v (.string r5.S), .v (.int .i64 r5.End)])))) rfl ⟨rfl, rfl, trivial⟩ ⟨rfl, trivial⟩ ?_
      refine G.endOps ?_
      refine G.seq ?_
      refine G.seq ?_
      refine G.region ?_
      refine G.op1 (op_fieldP (off' := 1) Try.underlying76 rfl ti3 (by decide) rfl (Ev.t 6 (.ptr 1006 0)) rfl) rfl ⟨rfl, trivial⟩ trivial ?_
      refine G.op1 (op_load1P (c := bI .i64 r5.End) Try.underlying3 rfl rfl (Ev.t 28 (.ptr 1006 1)) rfl) rfl ⟨rfl, trivial⟩ ⟨rfl, trivial⟩ ?_
      refine G.op1 (op_eqI (Ev.t 29 (bI .i64 r5.End)) (Ev.c _ rfl) rfl) rfl ⟨rfl, trivial⟩ trivial ?_
      refine G.endOps ?_
      refine ifS hF (fun hc6 hF => ?_) (fun hc6 hF => ?_)
      · refine G.cond rfl (fun _ => ?_) (fun hx => by rw [hc6] at hx; cases hx)
        refine G.seq ?_
        refine G.region ?_
        refine G.op1 (op_build (zs := [.v (.string ByteArray.empty), .v (.string ByteArray.empty), .v (.bool false), .v (.int .i64 0), .v (.int .i64 0), .sl 3 (List.map encApi_Dep ([] : (List Api_Dep)))]) (ds := [.v (.string ByteArray.empty), .v (.string ByteArray.empty), .v (.bool false), .v (.int .i64 0), .v (.int .i64 0), .sl 3 (List.map encApi_Dep ([] : (List Api_Dep)))]) Try.underlying26 ti26 (pl26 _ Try.underlying26) ⟨.v _ rfl, .v _ rfl, .v _ rfl, .v _ rfl, .v _ rfl, .n 3, trivial⟩ EvP.nil rfl rfl) rfl trivial trivial ?_
        refine G.op3 (op_storeA (cs' := [bS ByteArray.empty, bS ByteArray.empty, bB false, bI .i64 0, bI .i64 0, .g (.d (.sl 3 (List.map encApi_Dep ([] : (List Api_Dep)))))]) ti26 rfl rfl (Ev.t 2 (.ptr 1002 0)) (Ev.t 31 (.g (.agg [.v (.string ByteArray.empty), .v (.string ByteArray.empty), .v (.bool false), .v (.int .i64 0), .v (.int .i64 0), .sl 3 (List.map encApi_Dep ([] : (List Api_Dep)))])))) rfl ⟨rfl, rfl, trivial⟩ ⟨rfl, trivial⟩ ?_
        refine G.op1 (op_assign (Ev.c _ rfl) rfl) rfl trivial trivial ?_
        refine G.endOps ?_
        cases hF
        exact G.ret2 Try.results18 (RVar.cellA (ds := [.v (.string ByteArray.empty), .v (.string ByteArray.empty), .v (.bool false), .v (.int .i64 0), .v (.int .i64 0), .sl 3 (List.map encApi_Dep ([] : (List Api_Dep)))]) Try.underlying26 rfl ti26 rfl) (RVar.tmp 3 _) ⟨rfl, rfl, trivial⟩ ⟨rfl, trivial⟩
      · refine G.cond rfl (fun hx => by rw [hc6] at hx; cases hx) (fun _ => ?_)
        refine G.skip ?_
        refine G.seq ?_
        refine G.region ?_
        refine G.op1 (op_move (Ev.t 0 (bS s_0)) rfl) rfl ⟨rfl, trivial⟩ trivial ?_
        refine G.op1 (op_fieldP (off' := 1) Try.underlying76 rfl ti3 (by decide) rfl (Ev.t 6 (.ptr 1006 0)) rfl) rfl ⟨rfl, trivial⟩ trivial ?_
        refine G.op1 (op_load1P (c := bI .i64 r5.End) Try.underlying3 rfl rfl (Ev.t 33 (.ptr 1006 1)) rfl) rfl ⟨rfl, trivial⟩ ⟨rfl, trivial⟩ ?_
        obtain ⟨r7, hr7, hF⟩ := bindS hF
        refine G.op1 (op_callQ (sv := .one (.g (.agg [.v (.int .i64 r7.S.N), .v (.int .i64 r7.S.Site), .v (.int .i64 r7.End)]))) cf50 (ct_ref03_Read s_0 r5.End r7 hr7) rfl rfl (EvQL.cons (EvQ.g (Ev.t 32 (bS s_0))) (EvQL.cons (EvQ.g (Ev.t 34 (bI .i64 r5.End))) EvQL.nil)) rfl) rfl ⟨rfl, rfl, trivial⟩ trivial ?_
        refine G.op2 (op_alloc (k := 1007) (cs := [bI .i64 0, bI .i64 0, bI .i64 0]) ti82 ⟨.v _ rfl, .v _ rfl, .v _ rfl, trivial⟩ rfl) rfl trivial ⟨rfl, trivial⟩ ?_
        refine G.op3 (op_storeA (cs' := [bI .i64 r7.S.N, bI .i64 r7.S.Site, bI .i64 r7.End]) ti82 rfl rfl (Ev.t 7 (.ptr 1007 0)) (Ev.t 35 (.g (.agg [.v (.int .i64 r7.S.N), .v (.int .i64 r7.S.Site), .v (.int .i64 r7.End)])))) rfl ⟨rfl, rfl, trivial⟩ ⟨rfl, trivial⟩ ?_
        refine G.endOps ?_
        refine G.seq ?_
        refine G.seq ?_
        refine G.region ?_
        refine G.op1 (op_fieldP (off' := 2) Try.underlying82 rfl ti3 (by decide) rfl (Ev.t 7 (.ptr 1007 0)) rfl) rfl ⟨rfl, trivial⟩ trivial ?_
        refine G.op1 (op_load1P (c := bI .i64 r7.End) Try.underlying3 rfl rfl (Ev.t 36 (.ptr 1007 2)) rfl) rfl ⟨rfl, trivial⟩ ⟨rfl, trivial⟩ ?_
        refine G.op1 (op_eqI (Ev.t 37 (bI .i64 r7.End)) (Ev.c _ rfl) rfl) rfl ⟨rfl, trivial⟩ trivial ?_
        refine G.endOps ?_
        refine ifS hF (fun hc8 hF => ?_) (fun hc8 hF => ?_)
        · refine G.cond rfl (fun _ => ?_) (fun hx => by rw [hc8] at hx; cases hx)
          refine G.seq ?_
          refine G.region ?_
          refine G.op1 (op_build (zs := [.v (.string ByteArray.empty), .v (.string ByteArray.empty), .v (.bool false), .v (.int .i64 0), .v (.int .i64 0), .sl 3 (List.map encApi_Dep ([] : (List Api_Dep)))]) (ds := [.v (.string ByteArray.empty), .v (.string ByteArray.empty), .v (.bool false), .v (.int .i64 0), .v (.int .i64 0), .sl 3 (List.map encApi_Dep ([] : (List Api_Dep)))]) Try.underlying26 ti26 (pl26 _ Try.underlying26) ⟨.v _ rfl, .v _ rfl, .v _ rfl, .v _ rfl, .v _ rfl, .n 3, trivial⟩ EvP.nil rfl rfl) rfl trivial trivial ?_
          refine G.op3 (op_storeA (cs' := [bS ByteArray.empty, bS ByteArray.empty, bB false, bI .i64 0, bI .i64 0, .g (.d (.sl 3 (List.map encApi_Dep ([] : (List Api_Dep)))))]) ti26 rfl rfl (Ev.t 2 (.ptr 1002 0)) (Ev.t 39 (.g (.agg [.v (.string ByteArray.empty), .v (.string ByteArray.empty), .v (.bool false), .v (.int .i64 0), .v (.int .i64 0), .sl 3 (List.map encApi_Dep ([] : (List Api_Dep)))])))) rfl ⟨rfl, rfl, trivial⟩ ⟨rfl, trivial⟩ ?_
          refine G.op1 (op_assign (Ev.c _ rfl) rfl) rfl trivial trivial ?_
          refine G.endOps ?_
          cases hF
          exact G.ret2 Try.results18 (RVar.cellA (ds := [.v (.string ByteArray.empty), .v (.string ByteArray.empty), .v (.bool false), .v (.int .i64 0), .v (.int .i64 0), .sl 3 (List.map encApi_Dep ([] : (List Api_Dep)))]) Try.underlying26 rfl ti26 rfl) (RVar.tmp 3 _) ⟨rfl, rfl, trivial⟩ ⟨rfl, trivial⟩
        · refine G.cond rfl (fun hx => by rw [hc8] at hx; cases hx) (fun _ => ?_)
          refine G.skip ?_
          refine G.seq ?_
          refine G.region ?_
          refine G.op1 (op_move (Ev.t 0 (bS s_0)) rfl) rfl ⟨rfl, trivial⟩ trivial ?_
          refine G.op1 (op_fieldP (off' := 2) Try.underlying82 rfl ti3 (by decide) rfl (Ev.t 7 (.ptr 1007 0)) rfl) rfl ⟨rfl, trivial⟩ trivial ?_
          refine G.op1 (op_load1P (c := bI .i64 r7.End) Try.underlying3 rfl rfl (Ev.t 41 (.ptr 1007 2)) rfl) rfl ⟨rfl, trivial⟩ ⟨rfl, trivial⟩ ?_
          obtain ⟨r9, hr9, hF⟩ := bindS hF
          refine G.op1 (op_call (sv := .one (.g (.agg [.sl 3 (List.map encApi_Dep r9.P), .v (.int .i64 r9.End)]))) cf51 (ct_ref04_Read s_0 r7.End r9 hr9) rfl (EvL.cons (Ev.t 40 (bS s_0)) (EvL.cons (Ev.t 42 (bI .i64 r7.End)) EvL.nil)) rfl) rfl ⟨rfl, rfl, trivial⟩ trivial ?_
          refine G.op2 (op_alloc (k := 1008) (cs := [.g (.d (.sl 3 (List.map encApi_Dep ([] : (List Api_Dep))))), bI .i64 0]) ti85 ⟨.n 3, .v _ rfl, trivial⟩ rfl) rfl trivial ⟨rfl, trivial⟩ ?_
          refine G.op3 (op_storeA (cs' := [.g (.d (.sl 3 (List.map encApi_Dep r9.P))), bI .i64 r9.End]) ti85 rfl rfl (Ev.t 8 (.ptr 1008 0)) (Ev.t 43 (.g (.agg [.sl 3 (List.map encApi_Dep r9.P), .v (.int .i64 r9.End)])))) rfl ⟨rfl, rfl, trivial⟩ ⟨rfl, trivial⟩ ?_
          refine G.endOps ?_
          refine G.seq ?_
          refine G.region ?_
          refine G.op1 (op_fieldP (off' := 0) Try.underlying76 rfl ti9 (by decide) rfl (Ev.t 4 (.ptr 1004 0)) rfl) rfl ⟨rfl, trivial⟩ trivial ?_
          refine G.op1 (op_load1P (c := bS r1.S) Try.underlying9 rfl rfl (Ev.t 44 (.ptr 1004 0)) rfl) rfl ⟨rfl, trivial⟩ ⟨rfl, trivial⟩ ?_
          refine G.op1 (op_fieldP (off' := 0) Try.underlying76 rfl ti9 (by decide) rfl (Ev.t 6 (.ptr 1006 0)) rfl) rfl ⟨rfl, trivial⟩ trivial ?_
          refine G.op1 (op_load1P (c := bS r5.S) Try.underlying9 rfl rfl (Ev.t 46 (.ptr 1006 0)) rfl) rfl ⟨rfl, trivial⟩ ⟨rfl, trivial⟩ ?_
          refine G.op1 (op_fieldP (off' := 0) Try.underlying79 rfl ti57 (by decide) rfl (Ev.t 5 (.ptr 1005 0)) rfl) rfl ⟨rfl, trivial⟩ trivial ?_
          refine G.op1 (op_load1P (c := bI .u64 r3.N) Try.underlying57 rfl rfl (Ev.t 48 (.ptr 1005 0)) rfl) rfl ⟨rfl, trivial⟩ ⟨rfl, trivial⟩ ?_
          refine G.op1 (op_eqI (Ev.t 49 (bI .u64 r3.N)) (Ev.c _ rfl) rfl) rfl ⟨rfl, trivial⟩ trivial ?_
          refine G.op1 (op_fieldP (off' := 0) Try.underlying82 rfl ti23 (by decide) rfl (Ev.t 7 (.ptr 1007 0)) rfl) rfl ⟨rfl, trivial⟩ trivial ?_
          refine G.op1 (op_loadAP (ds := [.v (.int .i64 r7.S.N), .v (.int .i64 r7.S.Site)]) Try.underlying23 rfl ti23 rfl (Ev.t 51 (.ptr 1007 0)) rfl) rfl ⟨rfl, trivial⟩ ⟨rfl, trivial⟩ ?_
          refine G.op1 (op_fieldP (off' := 0) Try.underlying85 rfl ti24 (by decide) rfl (Ev.t 8 (.ptr 1008 0)) rfl) rfl ⟨rfl, trivial⟩ trivial ?_
          refine G.op1 (op_load1P (c := .g (.d (.sl 3 (List.map encApi_Dep r9.P)))) Try.underlying24 rfl rfl (Ev.t 53 (.ptr 1008 0)) rfl) rfl ⟨rfl, trivial⟩ ⟨rfl, trivial⟩ ?_
          refine G.op1 (op_build (zs := [.v (.string ByteArray.empty), .v (.string ByteArray.empty), .v (.bool false), .v (.int .i64 0), .v (.int .i64 0), .sl 3 (List.map encApi_Dep ([] : (List Api_Dep)))]) (ds := [.v (.string r1.S), .v (.string r5.S), .v (.bool (decide (r3.N = 1))), .v (.int .i64 r7.S.N), .v (.int .i64 r7.S.Site), .sl 3 (List.map encApi_Dep r9.P)]) Try.underlying26 ti26 (pl26 _ Try.underlying26) ⟨.v _ rfl, .v _ rfl, .v _ rfl, .v _ rfl, .v _ rfl, .n 3, trivial⟩ (EvP.cons (Ev.t 45 (bS r1.S)) (EvP.cons (Ev.t 47 (bS r5.S)) (EvP.cons (Ev.t 50 (bB (decide (r3.N = 1)))) (EvP.cons (Ev.t 52 (.g (.agg [.v (.int .i64 r7.S.N), .v (.int .i64 r7.S.Site)]))) (EvP.cons (Ev.t 54 (.g (.d (.sl 3 (List.map encApi_Dep r9.P))))) EvP.nil))))) rfl rfl) rfl ⟨rfl, rfl, rfl, rfl, rfl, trivial⟩ trivial ?_
          refine G.op2 (op_alloc (k := 1009) (cs := [bS ByteArray.empty, bS ByteArray.empty, bB false, bI .i64 0, bI .i64 0, .g (.d (.sl 3 (List.map encApi_Dep ([] : (List Api_Dep)))))]) ti26 ⟨.v _ rfl, .v _ rfl, .v _ rfl, .v _ rfl, .v _ rfl, .n 3, trivial⟩ rfl) rfl trivial ⟨rfl, trivial⟩ ?_
          refine G.op3 (op_storeA (cs' := [bS r1.S, bS r5.S, bB (decide (r3.N = 1)), bI .i64 r7.S.N, bI .i64 r7.S.Site, .g (.d (.sl 3 (List.map encApi_Dep r9.P)))]) ti26 rfl rfl (Ev.t 9 (.ptr 1009 0)) (Ev.t 55 (.g (.agg [.v (.string r1.S), .v (.string r5.S), .v (.bool (decide (r3.N = 1))), .v (.int .i64 r7.S.N), .v (.int .i64 r7.S.Site), .sl 3 (List.map encApi_Dep r9.P)])))) rfl ⟨rfl, rfl, trivial⟩ ⟨rfl, trivial⟩ ?_
          refine G.endOps ?_
          refine G.seq ?_
          refine G.seq ?_
          refine G.joinC (T := Bool) (fun y10 => ⟨[(2, .one (.ptr 1002 0)), (9, .one (.ptr 1009 0)), (64, .one (bB y10))], [(1002, some (.blk 26 [bS ByteArray.empty, bS ByteArray.empty, bB false, bI .i64 0, bI .i64 0, .g (.d (.sl 3 (List.map encApi_Dep ([] : (List Api_Dep)))))])), (1009, some (.blk 26 [bS r1.S, bS r5.S, bB (decide (r3.N = 1)), bI .i64 r7.S.N, bI .i64 r7.S.Site, .g (.d (.sl 3 (List.map encApi_Dep r9.P)))]))]⟩) (fun y10 => ref06_Read_k1 r1 r3 r5 r7 r9 y10 = some r) (fun y10 hF => ?_) (fun J12 => ?_)
          · unfold ref06_Read_k1 at hF
            refine ifS hF (fun hc11 hF => ?_) (fun hc11 hF => ?_)
            · refine G.cond rfl (fun _ => ?_) (fun hx => by rw [hc11] at hx; cases hx)
              refine G.seq ?_
              refine G.region ?_
              refine G.op1 (op_build (zs := [.v (.string ByteArray.empty), .v (.string ByteArray.empty), .v (.bool false), .v (.int .i64 0), .v (.int .i64 0), .sl 3 (List.map encApi_Dep ([] : (List Api_Dep)))]) (ds := [.v (.string ByteArray.empty), .v (.string ByteArray.empty), .v (.bool false), .v (.int .i64 0), .v (.int .i64 0), .sl 3 (List.map encApi_Dep ([] : (List Api_Dep)))]) Try.underlying26 ti26 (pl26 _ Try.underlying26) ⟨.v _ rfl, .v _ rfl, .v _ rfl, .v _ rfl, .v _ rfl, .n 3, trivial⟩ EvP.nil rfl rfl) rfl trivial trivial ?_
              refine G.op3 (op_storeA (cs' := [bS ByteArray.empty, bS ByteArray.empty, bB false, bI .i64 0, bI .i64 0, .g (.d (.sl 3 (List.map encApi_Dep ([] : (List Api_Dep)))))]) ti26 rfl rfl (Ev.t 2 (.ptr 1002 0)) (Ev.t 65 (.g (.agg [.v (.string ByteArray.empty), .v (.string ByteArray.empty), .v (.bool false), .v (.int .i64 0), .v (.int .i64 0), .sl 3 (List.map encApi_Dep ([] : (List Api_Dep)))])))) rfl ⟨rfl, rfl, trivial⟩ ⟨rfl, trivial⟩ ?_
              refine G.op1 (op_assign (Ev.c _ rfl) rfl) rfl trivial trivial ?_
              refine G.endOps ?_
              cases hF
              exact G.ret2 Try.results18 (RVar.cellA (ds := [.v (.string ByteArray.empty), .v (.string ByteArray.empty), .v (.bool false), .v (.int .i64 0), .v (.int .i64 0), .sl 3 (List.map encApi_Dep ([] : (List Api_Dep)))]) Try.underlying26 rfl ti26 rfl) (RVar.tmp 3 _) ⟨rfl, rfl, trivial⟩ ⟨rfl, trivial⟩
            · refine G.cond rfl (fun hx => by rw [hc11] at hx; cases hx) (fun _ => ?_)
              refine G.skip ?_
              refine G.seq ?_
              refine G.region ?_
              refine G.op1 (op_loadAP (ds := [.v (.string r1.S), .v (.string r5.S), .v (.bool (decide (r3.N = 1))), .v (.int .i64 r7.S.N), .v (.int .i64 r7.S.Site), .sl 3 (List.map encApi_Dep r9.P)]) Try.underlying26 rfl ti26 rfl (Ev.t 9 (.ptr 1009 0)) rfl) rfl ⟨rfl, trivial⟩ ⟨rfl, trivial⟩ ?_
              refine G.op3 (op_storeA (cs' := [bS r1.S, bS r5.S, bB (decide (r3.N = 1)), bI .i64 r7.S.N, bI .i64 r7.S.Site, .g (.d (.sl 3 (List.map encApi_Dep r9.P)))]) ti26 rfl rfl (Ev.t 2 (.ptr 1002 0)) (Ev.t 66 (.g (.agg [.v (.string r1.S), .v (.string r5.S), .v (.bool (decide (r3.N = 1))), .v (.int .i64 r7.S.N), .v (.int .i64 r7.S.Site), .sl 3 (List.map encApi_Dep r9.P)])))) rfl ⟨rfl, rfl, trivial⟩ ⟨rfl, trivial⟩ ?_
              refine G.op1 (op_assign (Ev.c _ rfl) rfl) rfl trivial trivial ?_
              refine G.endOps ?_
              cases hF
              exact G.ret2 Try.results18 (RVar.cellA (ds := [.v (.string r1.S), .v (.string r5.S), .v (.bool (decide (r3.N = 1))), .v (.int .i64 r7.S.N), .v (.int .i64 r7.S.Site), .sl 3 (List.map encApi_Dep r9.P)]) Try.underlying26 rfl ti26 rfl) (RVar.tmp 3 _) ⟨rfl, rfl, trivial⟩ ⟨rfl, trivial⟩
          refine G.region ?_
          refine G.op1 (op_fieldP (off' := 1) Try.underlying85 rfl ti3 (by decide) rfl (Ev.t 8 (.ptr 1008 0)) rfl) rfl ⟨rfl, trivial⟩ trivial ?_
          refine G.op1 (op_load1P (c := bI .i64 r9.End) Try.underlying3 rfl rfl (Ev.t 56 (.ptr 1008 1)) rfl) rfl ⟨rfl, trivial⟩ ⟨rfl, trivial⟩ ?_
          refine G.op1 (op_eqI (Ev.t 57 (bI .i64 r9.End)) (Ev.c _ rfl) rfl) rfl ⟨rfl, trivial⟩ trivial ?_
          refine G.op1 (op_move (Ev.t 58 (bB (decide (r9.End = 0)))) rfl) rfl ⟨rfl, trivial⟩ trivial ?_
          refine ifS hF (fun hc13 hF => ?_) (fun hc13 hF => ?_)
          · refine G.known (t := 59) hc13 rfl ?_
            refine G.opN1 rfl rfl rfl rfl rfl ?_
            refine G.opN1 rfl rfl rfl rfl rfl ?_
            refine G.opN1 rfl rfl rfl rfl rfl ?_
            refine G.opN1 rfl rfl rfl rfl rfl ?_
            refine G.op1 (op_pickT (Ev.t 59 (bB true)) (Ev.c _ rfl) rfl) rfl ⟨rfl, trivial⟩ trivial ?_
            refine G.endOps ?_
            exact G.arr (J12 true hF) ⟨rfl, rfl, rfl, trivial⟩ ⟨rfl, rfl, trivial⟩ rfl
          · refine G.known (t := 59) hc13 rfl ?_
            refine G.opG1 (op_loadAP (ds := [.v (.string r1.S), .v (.string r5.S), .v (.bool (decide (r3.N = 1))), .v (.int .i64 r7.S.N), .v (.int .i64 r7.S.Site), .sl 3 (List.map encApi_Dep r9.P)]) Try.underlying26 rfl ti26 rfl (Ev.t 9 (.ptr 1009 0)) rfl) rfl rfl rfl ⟨rfl, trivial⟩ ⟨rfl, trivial⟩ ?_
            obtain ⟨r14, hr14, hF⟩ := bindS hF
            refine G.opG1 (op_callQ (sv := .one (bS r14)) cf14 (ct_ref06_Bytes (Api_Version.mk r1.S r5.S (decide (r3.N = 1)) r7.S r9.P) r14 hr14) rfl rfl (EvQL.cons (EvQ.g (Ev.t 60 (.g (.agg [.v (.string r1.S), .v (.string r5.S), .v (.bool (decide (r3.N = 1))), .v (.int .i64 r7.S.N), .v (.int .i64 r7.S.Site), .sl 3 (List.map encApi_Dep r9.P)])))) EvQL.nil) rfl) rfl rfl rfl ⟨rfl, trivial⟩ trivial ?_
            refine G.opG1 (op_move (Ev.t 0 (bS s_0)) rfl) rfl rfl rfl ⟨rfl, trivial⟩ trivial ?_
            refine G.opG1 (op_neS (Ev.t 61 (bS r14)) (Ev.t 62 (bS s_0)) rfl) rfl rfl rfl ⟨rfl, rfl, trivial⟩ trivial ?_
            refine G.op1 (op_pickF (Ev.t 59 (bB false)) (Ev.t 63 (bB (!seq r14 s_0))) rfl) rfl ⟨rfl, rfl, trivial⟩ trivial ?_
            refine G.endOps ?_
            exact G.arr (J12 (!seq r14 s_0) hF) ⟨rfl, rfl, rfl, trivial⟩ ⟨rfl, rfl, trivial⟩ rfl


set_option maxRecDepth 20000 in
set_option maxHeartbeats 2000000 in
theorem ct_ref04_Same (p_0 : (List Api_Dep)) (q_1 : (List Api_Dep)) (r : Bool) (hF : ref04_Same p_0 q_1 = some r) : Ct Try.prog 41 [.g (.d (.sl 3 (List.map encApi_Dep p_0))), .g (.d (.sl 3 (List.map encApi_Dep q_1)))] (.one (.d (.v (.bool r)))) := by
  unfold ref04_Same at hF
  refine Ct.intro Try.func41 rfl Try.ntmps41 rfl rfl fun M w => ?_
  refine G.seq ?_
  refine G.region ?_
  refine G.op1 (op_assign (Ev.c _ rfl) rfl) rfl trivial trivial ?_
  refine G.endOps ?_
  refine G.seq ?_
  refine G.seq ?_
  refine G.region ?_
  refine G.op1 (op_move (Ev.t 0 (.g (.d (.sl 3 (List.map encApi_Dep p_0))))) rfl) rfl ⟨rfl, trivial⟩ trivial ?_
  refine G.op1 (OpL.cast (op_lenD Try.underlying24 (Ev.t 6 (.g (.d (.sl 3 (List.map encApi_Dep p_0))))) rfl) (by rw [List.length_map])) rfl ⟨rfl, trivial⟩ trivial ?_
  refine G.op1 (op_move (Ev.t 1 (.g (.d (.sl 3 (List.map encApi_Dep q_1))))) rfl) rfl ⟨rfl, trivial⟩ trivial ?_
  refine G.op1 (OpL.cast (op_lenD Try.underlying24 (Ev.t 8 (.g (.d (.sl 3 (List.map encApi_Dep q_1))))) rfl) (by rw [List.length_map])) rfl ⟨rfl, trivial⟩ trivial ?_
  refine G.op1 (op_neI (Ev.t 7 (bI .i64 (p_0.length : Int))) (Ev.t 9 (bI .i64 (q_1.length : Int))) rfl) rfl ⟨rfl, rfl, trivial⟩ trivial ?_
  refine G.endOps ?_
  refine ifS hF (fun hc1 hF => ?_) (fun hc1 hF => ?_)
  · refine G.cond rfl (fun _ => ?_) (fun hx => by rw [hc1] at hx; cases hx)
    refine G.seq ?_
    refine G.region ?_
    refine G.op1 (op_assign (Ev.c _ rfl) rfl) rfl trivial trivial ?_
    refine G.endOps ?_
    cases hF
    exact G.ret1 Try.results41 (RVar.tmp 4 _) ⟨rfl, trivial⟩ trivial
  · refine G.cond rfl (fun hx => by rw [hc1] at hx; cases hx) (fun _ => ?_)
    refine G.skip ?_
    refine G.seq ?_
    refine G.seq ?_
    refine G.region ?_
    refine G.op1 (op_assign (Ev.c _ rfl) rfl) rfl trivial trivial ?_
    refine G.endOps ?_
    refine G.joinC (T := Unit) (fun y2 => ⟨[], []⟩) (fun y2 => ref04_Same_k1 y2 = some r) (fun y2 hF => ?_) (fun J3 => ?_)
    · unfold ref04_Same_k1 at hF
      refine G.seq ?_
      refine G.region ?_
      refine G.op1 (op_assign (Ev.c _ rfl) rfl) rfl trivial trivial ?_
      refine G.endOps ?_
      cases hF
      exact G.ret1 Try.results41 (RVar.tmp 4 _) ⟨rfl, trivial⟩ trivial
    refine G.block ?_
    refine G.keep (sl' := [(0, .one (.g (.d (.sl 3 (List.map encApi_Dep p_0))))), (1, .one (.g (.d (.sl 3 (List.map encApi_Dep q_1))))), (5, .one (bI .i64 0))]) (hp' := []) ⟨rfl, rfl, rfl, trivial⟩ trivial rfl ?_
    refine G.loopF (fun (v4 : Int) => ⟨[(0, .one (.g (.d (.sl 3 (List.map encApi_Dep p_0))))), (1, .one (.g (.d (.sl 3 (List.map encApi_Dep q_1))))), (5, .one (bI .i64 v4))], []⟩) hF rfl (fun K7 again6 v4 J5 hF => ?_)
    unfold ref04_Same_l2 at hF
    refine G.seq ?_
    refine G.seq ?_
    refine G.region ?_
    refine G.op1 (op_move (Ev.t 5 (bI .i64 v4)) rfl) rfl ⟨rfl, trivial⟩ trivial ?_
    refine G.op1 (op_move (Ev.t 0 (.g (.d (.sl 3 (List.map encApi_Dep p_0))))) rfl) rfl ⟨rfl, trivial⟩ trivial ?_
    refine G.op1 (OpL.cast (op_lenD Try.underlying24 (Ev.t 12 (.g (.d (.sl 3 (List.map encApi_Dep p_0))))) rfl) (by rw [List.length_map])) rfl ⟨rfl, trivial⟩ trivial ?_
    refine G.op1 (op_lss (Ev.t 11 (bI .i64 v4)) (Ev.t 13 (bI .i64 (p_0.length : Int))) rfl) rfl ⟨rfl, rfl, trivial⟩ trivial ?_
    refine G.endOps ?_
    refine ifS hF (fun hc8 hF => ?_) (fun hc8 hF => ?_)
    · refine G.cond rfl (fun _ => ?_) (fun hx => by rw [hc8] at hx; cases hx)
      refine G.skip ?_
      refine G.seq ?_
      refine G.block ?_
      refine G.seq ?_
      obtain ⟨x9, hx9, hF⟩ := bindS hF
      obtain ⟨x10, hx10, hF⟩ := bindS hF
      refine G.drawn (effs := [⟨[(0, .one (.g (.d (.sl 3 (List.map encApi_Dep p_0)))))], [], [(17, .one (.g (.d (.sl 3 (List.map encApi_Dep p_0)))))], []⟩, ⟨[(5, .one (bI .i64 v4))], [], [(18, .one (bI .i64 v4))], []⟩, ⟨[(17, .one (.g (.d (.sl 3 (List.map encApi_Dep p_0))))), (18, .one (bI .i64 v4))], [], [(19, .one (.ep [.v (.string x9.Key), .v (.int .i64 x9.Stamp.N), .v (.int .i64 x9.Stamp.Site)]))], []⟩, ⟨[(19, .one (.ep [.v (.string x9.Key), .v (.int .i64 x9.Stamp.N), .v (.int .i64 x9.Stamp.Site)]))], [], [(20, .one (.g (.agg [.v (.string x9.Key), .v (.int .i64 x9.Stamp.N), .v (.int .i64 x9.Stamp.Site)])))], []⟩, ⟨[(1, .one (.g (.d (.sl 3 (List.map encApi_Dep q_1)))))], [], [(21, .one (.g (.d (.sl 3 (List.map encApi_Dep q_1)))))], []⟩, ⟨[(5, .one (bI .i64 v4))], [], [(22, .one (bI .i64 v4))], []⟩, ⟨[(21, .one (.g (.d (.sl 3 (List.map encApi_Dep q_1))))), (22, .one (bI .i64 v4))], [], [(23, .one (.ep [.v (.string x10.Key), .v (.int .i64 x10.Stamp.N), .v (.int .i64 x10.Stamp.Site)]))], []⟩, ⟨[(23, .one (.ep [.v (.string x10.Key), .v (.int .i64 x10.Stamp.N), .v (.int .i64 x10.Stamp.Site)]))], [], [(24, .one (.g (.agg [.v (.string x10.Key), .v (.int .i64 x10.Stamp.N), .v (.int .i64 x10.Stamp.Site)])))], []⟩, ⟨[(20, .one (.g (.agg [.v (.string x9.Key), .v (.int .i64 x9.Stamp.N), .v (.int .i64 x9.Stamp.Site)]))), (24, .one (.g (.agg [.v (.string x10.Key), .v (.int .i64 x10.Stamp.N), .v (.int .i64 x10.Stamp.Site)])))], [], [(25, .one (bB (!(decide (x9.Key = x10.Key) && decide (x9.Stamp.N = x10.Stamp.N) && decide (x9.Stamp.Site = x10.Stamp.Site)))))], []⟩]) (deps := [[], [], [0, 1], [0, 1, 2], [], [], [4, 5], [4, 5, 6], [0, 1, 2, 3, 4, 5, 6, 7]]) (sl' := [(0, .one (.g (.d (.sl 3 (List.map encApi_Dep p_0))))), (1, .one (.g (.d (.sl 3 (List.map encApi_Dep q_1))))), (5, .one (bI .i64 v4)), (25, .one (bB (!(decide (x9.Key = x10.Key) && decide (x9.Stamp.N = x10.Stamp.N) && decide (x9.Stamp.Site = x10.Stamp.Site)))))]) (hp' := []) follows rfl rfl rfl ⟨⟨rfl, trivial⟩, trivial, ⟨rfl, trivial⟩, trivial, ⟨rfl, rfl, trivial⟩, trivial, ⟨rfl, trivial⟩, trivial, ⟨rfl, trivial⟩, trivial, ⟨rfl, trivial⟩, trivial, ⟨rfl, rfl, trivial⟩, trivial, ⟨rfl, trivial⟩, trivial, ⟨rfl, rfl, trivial⟩, trivial, trivial⟩ ⟨OpW.plain (op_move (Ev.t 0 (.g (.d (.sl 3 (List.map encApi_Dep p_0))))) rfl) rfl rfl, OpW.plain (op_move (Ev.t 5 (bI .i64 v4)) rfl) rfl rfl, OpW.plain (op_index (cs := [.v (.string x9.Key), .v (.int .i64 x9.Stamp.N), .v (.int .i64 x9.Stamp.Site)]) Try.underlying24 ti52 (idx_ok hx9).1 (idx_get hx9 encApi_Dep) (Ev.t 17 (.g (.d (.sl 3 (List.map encApi_Dep p_0))))) (Ev.t 18 (bI .i64 v4)) rfl) rfl rfl, OpW.plain (op_loadAE (ds := [.v (.string x9.Key), .v (.int .i64 x9.Stamp.N), .v (.int .i64 x9.Stamp.Site)]) Try.underlying52 rfl ti52 rfl (Ev.t 19 (.ep [.v (.string x9.Key), .v (.int .i64 x9.Stamp.N), .v (.int .i64 x9.Stamp.Site)])) rfl) rfl rfl, OpW.plain (op_move (Ev.t 1 (.g (.d (.sl 3 (List.map encApi_Dep q_1))))) rfl) rfl rfl, OpW.plain (op_move (Ev.t 5 (bI .i64 v4)) rfl) rfl rfl, OpW.plain (op_index (cs := [.v (.string x10.Key), .v (.int .i64 x10.Stamp.N), .v (.int .i64 x10.Stamp.Site)]) Try.underlying24 ti52 (idx_ok hx10).1 (idx_get hx10 encApi_Dep) (Ev.t 21 (.g (.d (.sl 3 (List.map encApi_Dep q_1))))) (Ev.t 22 (bI .i64 v4)) rfl) rfl rfl, OpW.plain (op_loadAE (ds := [.v (.string x10.Key), .v (.int .i64 x10.Stamp.N), .v (.int .i64 x10.Stamp.Site)]) Try.underlying52 rfl ti52 rfl (Ev.t 23 (.ep [.v (.string x10.Key), .v (.int .i64 x10.Stamp.N), .v (.int .i64 x10.Stamp.Site)])) rfl) rfl rfl, OpW.plain (op_eqA (us := [.string x9.Key, .int .i64 x9.Stamp.N, .int .i64 x9.Stamp.Site]) (vs := [.string x10.Key, .int .i64 x10.Stamp.N, .int .i64 x10.Stamp.Site]) rfl rfl Try.eqGuardType52 (fun w => ne52 x9.Key x9.Stamp.N x9.Stamp.Site x10.Key x10.Stamp.N x10.Stamp.Site w) (Ev.t 20 (.g (.agg [.v (.string x9.Key), .v (.int .i64 x9.Stamp.N), .v (.int .i64 x9.Stamp.Site)]))) (Ev.t 24 (.g (.agg [.v (.string x10.Key), .v (.int .i64 x10.Stamp.N), .v (.int .i64 x10.Stamp.Site)]))) rfl) rfl rfl, trivial⟩ ⟨rfl, rfl, rfl, rfl, trivial⟩ trivial rfl ?_
      refine ifS hF (fun hc11 hF => ?_) (fun hc11 hF => ?_)
      · refine G.cond rfl (fun _ => ?_) (fun hx => by rw [hc11] at hx; cases hx)
        refine G.seq ?_
        refine G.region ?_
        refine G.op1 (op_assign (Ev.c _ rfl) rfl) rfl trivial trivial ?_
        refine G.endOps ?_
        cases hF
        exact G.ret1 Try.results41 (RVar.tmp 4 _) ⟨rfl, trivial⟩ trivial
      · refine G.cond rfl (fun hx => by rw [hc11] at hx; cases hx) (fun _ => ?_)
        refine G.skip ?_
        refine G.endBlock ?_
        refine G.region ?_
        refine G.op1 (op_move (Ev.t 5 (bI .i64 v4)) rfl) rfl ⟨rfl, trivial⟩ trivial ?_
        refine G.op1 (op_add (Ev.t 15 (bI .i64 v4)) (Ev.c _ rfl) rfl) rfl ⟨rfl, trivial⟩ trivial ?_
        refine G.op1 (op_assign (Ev.t 16 (bI .i64 (IntKind.wrap .i64 (v4 + 1)))) rfl) rfl ⟨rfl, trivial⟩ trivial ?_
        refine G.endOps ?_
        exact G.arr (J5 (IntKind.wrap .i64 (v4 + 1)) hF) ⟨rfl, rfl, rfl, trivial⟩ trivial rfl
    · refine G.cond rfl (fun hx => by rw [hc8] at hx; cases hx) (fun _ => ?_)
      refine G.exit ?_
      refine GX.c ?_
      refine GX.q ?_
      refine GX.bYes ?_
      exact G.arr (J3 () hF) trivial trivial rfl


set_option maxRecDepth 20000 in
set_option maxHeartbeats 2000000 in
theorem ct_ref06_Same (a_0 : Api_Version) (b_1 : Api_Version) (r : Bool) (hF : ref06_Same a_0 b_1 = some r) : Ct Try.prog 16 [.g (.agg (encApi_Version a_0)), .g (.agg (encApi_Version b_1))] (.one (.d (.v (.bool r)))) := by
  unfold ref06_Same at hF
  refine Ct.intro Try.func16 rfl Try.ntmps16 rfl rfl fun M w => ?_
  refine G.seq ?_
  refine G.region ?_
  refine G.op2 (op_boxA (k := 1002) (Ev.t 0 (.g (.agg [.v (.string a_0.Key), .v (.string a_0.Value), .v (.bool a_0.Gone), .v (.int .i64 a_0.Stamp.N), .v (.int .i64 a_0.Stamp.Site), .sl 3 (List.map encApi_Dep a_0.Past)]))) rfl) rfl ⟨rfl, trivial⟩ ⟨rfl, trivial⟩ ?_
  refine G.op2 (op_boxA (k := 1003) (Ev.t 1 (.g (.agg [.v (.string b_1.Key), .v (.string b_1.Value), .v (.bool b_1.Gone), .v (.int .i64 b_1.Stamp.N), .v (.int .i64 b_1.Stamp.Site), .sl 3 (List.map encApi_Dep b_1.Past)]))) rfl) rfl ⟨rfl, trivial⟩ ⟨rfl, trivial⟩ ?_
  refine G.op1 (op_assign (Ev.c _ rfl) rfl) rfl trivial trivial ?_
  refine G.endOps ?_
  refine G.seq ?_
  refine G.region ?_
  refine G.op1 (op_fieldP (off' := 5) Try.underlying26 rfl ti24 (by decide) rfl (Ev.t 2 (.ptr 1002 0)) rfl) rfl ⟨rfl, trivial⟩ trivial ?_
  refine G.op1 (op_load1P (c := .g (.d (.sl 3 (List.map encApi_Dep a_0.Past)))) Try.underlying24 rfl rfl (Ev.t 6 (.ptr 1002 5)) rfl) rfl ⟨rfl, trivial⟩ ⟨rfl, trivial⟩ ?_
  refine G.op1 (op_fieldP (off' := 5) Try.underlying26 rfl ti24 (by decide) rfl (Ev.t 3 (.ptr 1003 0)) rfl) rfl ⟨rfl, trivial⟩ trivial ?_
  refine G.op1 (op_load1P (c := .g (.d (.sl 3 (List.map encApi_Dep b_1.Past)))) Try.underlying24 rfl rfl (Ev.t 8 (.ptr 1003 5)) rfl) rfl ⟨rfl, trivial⟩ ⟨rfl, trivial⟩ ?_
  obtain ⟨r1, hr1, hF⟩ := bindS hF
  refine G.op1 (op_callQ (sv := .one (bB r1)) cf41 (ct_ref04_Same a_0.Past b_1.Past r1 hr1) rfl rfl (EvQL.cons (EvQ.g (Ev.t 7 (.g (.d (.sl 3 (List.map encApi_Dep a_0.Past)))))) (EvQL.cons (EvQ.g (Ev.t 9 (.g (.d (.sl 3 (List.map encApi_Dep b_1.Past)))))) EvQL.nil)) rfl) rfl ⟨rfl, rfl, trivial⟩ trivial ?_
  refine G.op1 (op_assign (Ev.t 10 (bB r1)) rfl) rfl ⟨rfl, trivial⟩ trivial ?_
  refine G.endOps ?_
  refine G.seq ?_
  refine G.region ?_
  refine G.op1 (op_move (Ev.t 5 (bB r1)) rfl) rfl ⟨rfl, trivial⟩ trivial ?_
  refine G.op1 (op_move (Ev.t 11 (bB r1)) rfl) rfl ⟨rfl, trivial⟩ trivial ?_
  refine G.joinL (T := Bool) 6 (fun y2 => ⟨[(2, .one (.ptr 1002 0)), (3, .one (.ptr 1003 0)), (18, .one (bB y2))], [(1002, some (.blk 26 [bS a_0.Key, bS a_0.Value, bB a_0.Gone, bI .i64 a_0.Stamp.N, bI .i64 a_0.Stamp.Site, .g (.d (.sl 3 (List.map encApi_Dep a_0.Past)))])), (1003, some (.blk 26 [bS b_1.Key, bS b_1.Value, bB b_1.Gone, bI .i64 b_1.Stamp.N, bI .i64 b_1.Stamp.Site, .g (.d (.sl 3 (List.map encApi_Dep b_1.Past)))]))]⟩) (fun y2 => ref06_Same_k1 a_0 b_1 y2 = some r) (fun y2 hF => ?_) (fun J10 => ?_)
  · unfold ref06_Same_k1 at hF
    refine G.op1 (op_move (Ev.t 18 (bB y2)) rfl) rfl ⟨rfl, trivial⟩ trivial ?_
    refine G.joinL (T := Bool) 6 (fun y3 => ⟨[(2, .one (.ptr 1002 0)), (3, .one (.ptr 1003 0)), (25, .one (bB y3))], [(1002, some (.blk 26 [bS a_0.Key, bS a_0.Value, bB a_0.Gone, bI .i64 a_0.Stamp.N, bI .i64 a_0.Stamp.Site, .g (.d (.sl 3 (List.map encApi_Dep a_0.Past)))])), (1003, some (.blk 26 [bS b_1.Key, bS b_1.Value, bB b_1.Gone, bI .i64 b_1.Stamp.N, bI .i64 b_1.Stamp.Site, .g (.d (.sl 3 (List.map encApi_Dep b_1.Past)))]))]⟩) (fun y3 => ref06_Same_k2 a_0 b_1 y3 = some r) (fun y3 hF => ?_) (fun J8 => ?_)
    · unfold ref06_Same_k2 at hF
      refine G.op1 (op_move (Ev.t 25 (bB y3)) rfl) rfl ⟨rfl, trivial⟩ trivial ?_
      refine G.joinL (T := Bool) 6 (fun y4 => ⟨[(2, .one (.ptr 1002 0)), (3, .one (.ptr 1003 0)), (32, .one (bB y4))], [(1002, some (.blk 26 [bS a_0.Key, bS a_0.Value, bB a_0.Gone, bI .i64 a_0.Stamp.N, bI .i64 a_0.Stamp.Site, .g (.d (.sl 3 (List.map encApi_Dep a_0.Past)))])), (1003, some (.blk 26 [bS b_1.Key, bS b_1.Value, bB b_1.Gone, bI .i64 b_1.Stamp.N, bI .i64 b_1.Stamp.Site, .g (.d (.sl 3 (List.map encApi_Dep b_1.Past)))]))]⟩) (fun y4 => ref06_Same_k3 a_0 b_1 y4 = some r) (fun y4 hF => ?_) (fun J6 => ?_)
      · unfold ref06_Same_k3 at hF
        refine G.op1 (op_move (Ev.t 32 (bB y4)) rfl) rfl ⟨rfl, trivial⟩ trivial ?_
        refine ifS hF (fun hc5 hF => ?_) (fun hc5 hF => ?_)
        · refine G.known (t := 33) hc5 rfl ?_
          refine G.opG1 (op_fieldP (off' := 3) Try.underlying26 rfl ti23 (by decide) rfl (Ev.t 2 (.ptr 1002 0)) rfl) rfl rfl rfl ⟨rfl, trivial⟩ trivial ?_
          refine G.opG1 (op_loadAP (ds := [.v (.int .i64 a_0.Stamp.N), .v (.int .i64 a_0.Stamp.Site)]) Try.underlying23 rfl ti23 rfl (Ev.t 34 (.ptr 1002 3)) rfl) rfl rfl rfl ⟨rfl, trivial⟩ ⟨rfl, trivial⟩ ?_
          refine G.opG1 (op_fieldP (off' := 3) Try.underlying26 rfl ti23 (by decide) rfl (Ev.t 3 (.ptr 1003 0)) rfl) rfl rfl rfl ⟨rfl, trivial⟩ trivial ?_
          refine G.opG1 (op_loadAP (ds := [.v (.int .i64 b_1.Stamp.N), .v (.int .i64 b_1.Stamp.Site)]) Try.underlying23 rfl ti23 rfl (Ev.t 36 (.ptr 1003 3)) rfl) rfl rfl rfl ⟨rfl, trivial⟩ ⟨rfl, trivial⟩ ?_
          refine G.opG1 (op_eqA (us := [.int .i64 a_0.Stamp.N, .int .i64 a_0.Stamp.Site]) (vs := [.int .i64 b_1.Stamp.N, .int .i64 b_1.Stamp.Site]) rfl rfl Try.eqGuardType23 (fun w => eq23 a_0.Stamp.N a_0.Stamp.Site b_1.Stamp.N b_1.Stamp.Site w) (Ev.t 35 (.g (.agg [.v (.int .i64 a_0.Stamp.N), .v (.int .i64 a_0.Stamp.Site)]))) (Ev.t 37 (.g (.agg [.v (.int .i64 b_1.Stamp.N), .v (.int .i64 b_1.Stamp.Site)]))) rfl) rfl rfl rfl ⟨rfl, rfl, trivial⟩ trivial ?_
          refine G.op1 (op_pickT (Ev.t 33 (bB true)) (Ev.t 38 (bB (decide (a_0.Stamp.N = b_1.Stamp.N) && decide (a_0.Stamp.Site = b_1.Stamp.Site)))) rfl) rfl ⟨rfl, rfl, trivial⟩ trivial ?_
          refine G.op1 (op_assign (Ev.t 39 (bB (decide (a_0.Stamp.N = b_1.Stamp.N) && decide (a_0.Stamp.Site = b_1.Stamp.Site)))) rfl) rfl ⟨rfl, trivial⟩ trivial ?_
          refine G.endOps ?_
          cases hF
          exact G.ret1 Try.results16 (RVar.tmp 4 _) ⟨rfl, trivial⟩ trivial
        · refine G.known (t := 33) hc5 rfl ?_
          refine G.opN1 rfl rfl rfl rfl rfl ?_
          refine G.opN1 rfl rfl rfl rfl rfl ?_
          refine G.opN1 rfl rfl rfl rfl rfl ?_
          refine G.opN1 rfl rfl rfl rfl rfl ?_
          refine G.opN1 rfl rfl rfl rfl rfl ?_
          refine G.op1 (op_pickF (Ev.t 33 (bB false)) (Ev.c _ rfl) rfl) rfl ⟨rfl, trivial⟩ trivial ?_
          refine G.op1 (op_assign (Ev.t 39 (bB false)) rfl) rfl ⟨rfl, trivial⟩ trivial ?_
          refine G.endOps ?_
          cases hF
          exact G.ret1 Try.results16 (RVar.tmp 4 _) ⟨rfl, trivial⟩ trivial
      refine ifS hF (fun hc7 hF => ?_) (fun hc7 hF => ?_)
      · refine G.known (t := 26) hc7 rfl ?_
        refine G.opG1 (op_fieldP (off' := 2) Try.underlying26 rfl ti4 (by decide) rfl (Ev.t 2 (.ptr 1002 0)) rfl) rfl rfl rfl ⟨rfl, trivial⟩ trivial ?_
        refine G.opG1 (op_load1P (c := bB a_0.Gone) Try.underlying4 rfl rfl (Ev.t 27 (.ptr 1002 2)) rfl) rfl rfl rfl ⟨rfl, trivial⟩ ⟨rfl, trivial⟩ ?_
        refine G.opG1 (op_fieldP (off' := 2) Try.underlying26 rfl ti4 (by decide) rfl (Ev.t 3 (.ptr 1003 0)) rfl) rfl rfl rfl ⟨rfl, trivial⟩ trivial ?_
        refine G.opG1 (op_load1P (c := bB b_1.Gone) Try.underlying4 rfl rfl (Ev.t 29 (.ptr 1003 2)) rfl) rfl rfl rfl ⟨rfl, trivial⟩ ⟨rfl, trivial⟩ ?_
        refine G.opG1 (op_eqB Try.underlying4 (Ev.t 28 (bB a_0.Gone)) (Ev.t 30 (bB b_1.Gone)) rfl) rfl rfl rfl ⟨rfl, rfl, trivial⟩ trivial ?_
        refine G.op1 (op_pickT (Ev.t 26 (bB true)) (Ev.t 31 (bB (a_0.Gone == b_1.Gone))) rfl) rfl ⟨rfl, rfl, trivial⟩ trivial ?_
        exact G.arr (J6 (a_0.Gone == b_1.Gone) hF) ⟨rfl, rfl, rfl, trivial⟩ ⟨rfl, rfl, trivial⟩ rfl
      · refine G.known (t := 26) hc7 rfl ?_
        refine G.opN1 rfl rfl rfl rfl rfl ?_
        refine G.opN1 rfl rfl rfl rfl rfl ?_
        refine G.opN1 rfl rfl rfl rfl rfl ?_
        refine G.opN1 rfl rfl rfl rfl rfl ?_
        refine G.opN1 rfl rfl rfl rfl rfl ?_
        refine G.op1 (op_pickF (Ev.t 26 (bB false)) (Ev.c _ rfl) rfl) rfl ⟨rfl, trivial⟩ trivial ?_
        exact G.arr (J6 false hF) ⟨rfl, rfl, rfl, trivial⟩ ⟨rfl, rfl, trivial⟩ rfl
    refine ifS hF (fun hc9 hF => ?_) (fun hc9 hF => ?_)
    · refine G.known (t := 19) hc9 rfl ?_
      refine G.opG1 (op_fieldP (off' := 1) Try.underlying26 rfl ti9 (by decide) rfl (Ev.t 2 (.ptr 1002 0)) rfl) rfl rfl rfl ⟨rfl, trivial⟩ trivial ?_
      refine G.opG1 (op_load1P (c := bS a_0.Value) Try.underlying9 rfl rfl (Ev.t 20 (.ptr 1002 1)) rfl) rfl rfl rfl ⟨rfl, trivial⟩ ⟨rfl, trivial⟩ ?_
      refine G.opG1 (op_fieldP (off' := 1) Try.underlying26 rfl ti9 (by decide) rfl (Ev.t 3 (.ptr 1003 0)) rfl) rfl rfl rfl ⟨rfl, trivial⟩ trivial ?_
      refine G.opG1 (op_load1P (c := bS b_1.Value) Try.underlying9 rfl rfl (Ev.t 22 (.ptr 1003 1)) rfl) rfl rfl rfl ⟨rfl, trivial⟩ ⟨rfl, trivial⟩ ?_
      refine G.opG1 (op_eqS (Ev.t 21 (bS a_0.Value)) (Ev.t 23 (bS b_1.Value)) rfl) rfl rfl rfl ⟨rfl, rfl, trivial⟩ trivial ?_
      refine G.op1 (op_pickT (Ev.t 19 (bB true)) (Ev.t 24 (bB (seq a_0.Value b_1.Value))) rfl) rfl ⟨rfl, rfl, trivial⟩ trivial ?_
      exact G.arr (J8 (seq a_0.Value b_1.Value) hF) ⟨rfl, rfl, rfl, trivial⟩ ⟨rfl, rfl, trivial⟩ rfl
    · refine G.known (t := 19) hc9 rfl ?_
      refine G.opN1 rfl rfl rfl rfl rfl ?_
      refine G.opN1 rfl rfl rfl rfl rfl ?_
      refine G.opN1 rfl rfl rfl rfl rfl ?_
      refine G.opN1 rfl rfl rfl rfl rfl ?_
      refine G.opN1 rfl rfl rfl rfl rfl ?_
      refine G.op1 (op_pickF (Ev.t 19 (bB false)) (Ev.c _ rfl) rfl) rfl ⟨rfl, trivial⟩ trivial ?_
      exact G.arr (J8 false hF) ⟨rfl, rfl, rfl, trivial⟩ ⟨rfl, rfl, trivial⟩ rfl
  refine ifS hF (fun hc11 hF => ?_) (fun hc11 hF => ?_)
  · refine G.known (t := 12) hc11 rfl ?_
    refine G.opG1 (op_fieldP (off' := 0) Try.underlying26 rfl ti9 (by decide) rfl (Ev.t 2 (.ptr 1002 0)) rfl) rfl rfl rfl ⟨rfl, trivial⟩ trivial ?_
    refine G.opG1 (op_load1P (c := bS a_0.Key) Try.underlying9 rfl rfl (Ev.t 13 (.ptr 1002 0)) rfl) rfl rfl rfl ⟨rfl, trivial⟩ ⟨rfl, trivial⟩ ?_
    refine G.opG1 (op_fieldP (off' := 0) Try.underlying26 rfl ti9 (by decide) rfl (Ev.t 3 (.ptr 1003 0)) rfl) rfl rfl rfl ⟨rfl, trivial⟩ trivial ?_
    refine G.opG1 (op_load1P (c := bS b_1.Key) Try.underlying9 rfl rfl (Ev.t 15 (.ptr 1003 0)) rfl) rfl rfl rfl ⟨rfl, trivial⟩ ⟨rfl, trivial⟩ ?_
    refine G.opG1 (op_eqS (Ev.t 14 (bS a_0.Key)) (Ev.t 16 (bS b_1.Key)) rfl) rfl rfl rfl ⟨rfl, rfl, trivial⟩ trivial ?_
    refine G.op1 (op_pickT (Ev.t 12 (bB true)) (Ev.t 17 (bB (seq a_0.Key b_1.Key))) rfl) rfl ⟨rfl, rfl, trivial⟩ trivial ?_
    exact G.arr (J10 (seq a_0.Key b_1.Key) hF) ⟨rfl, rfl, rfl, trivial⟩ ⟨rfl, rfl, trivial⟩ rfl
  · refine G.known (t := 12) hc11 rfl ?_
    refine G.opN1 rfl rfl rfl rfl rfl ?_
    refine G.opN1 rfl rfl rfl rfl rfl ?_
    refine G.opN1 rfl rfl rfl rfl rfl ?_
    refine G.opN1 rfl rfl rfl rfl rfl ?_
    refine G.opN1 rfl rfl rfl rfl rfl ?_
    refine G.op1 (op_pickF (Ev.t 12 (bB false)) (Ev.c _ rfl) rfl) rfl ⟨rfl, trivial⟩ trivial ?_
    exact G.arr (J10 false hF) ⟨rfl, rfl, rfl, trivial⟩ ⟨rfl, rfl, trivial⟩ rfl


set_option maxRecDepth 20000 in
set_option maxHeartbeats 2000000 in
theorem ct_law06_WireReads (v_0 : Api_Version) (s_1 : ByteArray) (q_2 : (List Int)) (r : Bool) (hF : law06_WireReads v_0 s_1 q_2 = some r) : Ct Try.prog 4 [.g (.agg (encApi_Version v_0)), .g (.d (.v (.string s_1))), .g (.agg (List.flatMap encI_i64 q_2))] (.one (.d (.v (.bool r)))) := by
  unfold law06_WireReads at hF
  refine Ct.intro Try.func4 rfl Try.ntmps4 rfl rfl fun M w => ?_
  refine G.seq ?_
  refine G.region ?_
  refine G.op2 (op_boxA (k := 1003) (Ev.t 0 (.g (.agg [.v (.string v_0.Key), .v (.string v_0.Value), .v (.bool v_0.Gone), .v (.int .i64 v_0.Stamp.N), .v (.int .i64 v_0.Stamp.Site), .sl 3 (List.map encApi_Dep v_0.Past)]))) rfl) rfl ⟨rfl, trivial⟩ ⟨rfl, trivial⟩ ?_
  refine G.op2 (op_boxA (k := 1005) (Ev.t 2 (.g (.agg (List.flatMap encI_i64 q_2)))) rfl) rfl ⟨rfl, trivial⟩ ⟨rfl, trivial⟩ ?_
  refine G.op1 (op_assign (Ev.c _ rfl) rfl) rfl trivial trivial ?_
  refine G.endOps ?_
  refine G.seq ?_
  refine G.region ?_
  obtain ⟨r1, hr1, hF⟩ := bindS hF
  refine G.op1 (op_callQ (sv := .one (bB r1)) cf9 (ct_law06_awake r1 hr1) rfl rfl EvQL.nil rfl) rfl trivial trivial ?_
  refine G.op1 (op_assign (Ev.t 15 (bB r1)) rfl) rfl ⟨rfl, trivial⟩ trivial ?_
  refine G.endOps ?_
  refine G.seq ?_
  refine G.seq ?_
  refine G.region ?_
  refine G.op1 (op_move (Ev.t 1 (bS s_1)) rfl) rfl ⟨rfl, trivial⟩ trivial ?_
  refine G.op1 (op_lenS Try.underlying9 (Ev.t 16 (bS s_1)) rfl) rfl ⟨rfl, trivial⟩ trivial ?_
  refine G.op1 (op_gtr (Ev.t 17 (bI .i64 (s_1.size : Int))) (Ev.c _ rfl) rfl) rfl ⟨rfl, trivial⟩ trivial ?_
  refine G.endOps ?_
  refine G.joinC (T := ByteArray) (fun y2 => ⟨[(1, .one (bS y2)), (3, .one (.ptr 1003 0)), (5, .one (.ptr 1005 0)), (7, .one (bB r1))], [(1003, some (.blk 26 [bS v_0.Key, bS v_0.Value, bB v_0.Gone, bI .i64 v_0.Stamp.N, bI .i64 v_0.Stamp.Site, .g (.d (.sl 3 (List.map encApi_Dep v_0.Past)))])), (1005, some (.blk 32 (dat (List.flatMap encI_i64 q_2))))]⟩) (fun y2 => law06_WireReads_k1 v_0 q_2 r1 y2 = some r) (fun y2 hF => ?_) (fun J28 => ?_)
  · unfold law06_WireReads_k1 at hF
    refine G.seq ?_
    refine G.seq ?_
    refine G.region ?_
    obtain ⟨x3, hx3, hF⟩ := bindS hF
    refine G.op1 (op_indexA Try.underlying32 ti3 (aidx_ok hx3).1 (aidx_ok hx3).2.1 (Ev.t 5 (.ptr 1005 0)) (Ev.c _ rfl) rfl) rfl ⟨rfl, trivial⟩ trivial ?_
    refine G.op1 (op_load1P (c := bI .i64 x3) Try.underlying3 rfl (arr_at1 hx3 (fun _ => rfl) rfl) (Ev.t 21 (.ptr 1005 (Int.toNat 0 * 1))) rfl) rfl ⟨rfl, trivial⟩ ⟨rfl, trivial⟩ ?_
    refine G.op1 (op_and (Ev.t 22 (bI .i64 x3)) (Ev.c _ rfl) rfl) rfl ⟨rfl, trivial⟩ trivial ?_
    refine G.op1 (op_neI (Ev.t 23 (bI .i64 (IntKind.wrap .i64 (BitVec.ofInt (IntKind.bits .i64) x3 &&& BitVec.ofInt (IntKind.bits .i64) 3).toNat))) (Ev.c _ rfl) rfl) rfl ⟨rfl, trivial⟩ trivial ?_
    refine G.endOps ?_
    refine G.joinC (T := ByteArray) (fun y4 => ⟨[(1, .one (bS y4)), (7, .one (bB r1))], []⟩) (fun y4 => law06_WireReads_k2 r1 y4 = some r) (fun y4 hF => ?_) (fun J12 => ?_)
    · unfold law06_WireReads_k2 at hF
      refine G.seq ?_
      refine G.region ?_
      refine G.op1 (op_move (Ev.t 1 (bS y4)) rfl) rfl ⟨rfl, trivial⟩ trivial ?_
      obtain ⟨r5, hr5, hF⟩ := bindS hF
      refine G.op1 (op_call (sv := .tup [.g (.agg [.v (.string r5.1.Key), .v (.string r5.1.Value), .v (.bool r5.1.Gone), .v (.int .i64 r5.1.Stamp.N), .v (.int .i64 r5.1.Stamp.Site), .sl 3 (List.map encApi_Dep r5.1.Past)]), bB r5.2]) cf17 (ct_wire_Read y4 r5 hr5) rfl (EvL.cons (Ev.t 64 (bS y4)) EvL.nil) rfl) rfl ⟨rfl, trivial⟩ trivial ?_
      refine G.op1 (op_moveS (t := 65) (sv := .tup [.g (.agg [.v (.string r5.1.Key), .v (.string r5.1.Value), .v (.bool r5.1.Gone), .v (.int .i64 r5.1.Stamp.N), .v (.int .i64 r5.1.Stamp.Site), .sl 3 (List.map encApi_Dep r5.1.Past)]), bB r5.2]) rfl) rfl ⟨rfl, trivial⟩ trivial ?_
      refine G.op1 (op_extract (l := [.g (.agg [.v (.string r5.1.Key), .v (.string r5.1.Value), .v (.bool r5.1.Gone), .v (.int .i64 r5.1.Stamp.N), .v (.int .i64 r5.1.Stamp.Site), .sl 3 (List.map encApi_Dep r5.1.Past)]), bB r5.2]) (c := .g (.agg [.v (.string r5.1.Key), .v (.string r5.1.Value), .v (.bool r5.1.Gone), .v (.int .i64 r5.1.Stamp.N), .v (.int .i64 r5.1.Stamp.Site), .sl 3 (List.map encApi_Dep r5.1.Past)])) rfl rfl) rfl ⟨rfl, trivial⟩ trivial ?_
      refine G.op1 (op_extract (l := [.g (.agg [.v (.string r5.1.Key), .v (.string r5.1.Value), .v (.bool r5.1.Gone), .v (.int .i64 r5.1.Stamp.N), .v (.int .i64 r5.1.Stamp.Site), .sl 3 (List.map encApi_Dep r5.1.Past)]), bB r5.2]) (c := bB r5.2) rfl rfl) rfl ⟨rfl, trivial⟩ trivial ?_
      refine G.op2 (op_alloc (k := 1010) (cs := [bS ByteArray.empty, bS ByteArray.empty, bB false, bI .i64 0, bI .i64 0, .g (.d (.sl 3 (List.map encApi_Dep ([] : (List Api_Dep)))))]) ti26 ⟨.v _ rfl, .v _ rfl, .v _ rfl, .v _ rfl, .v _ rfl, .n 3, trivial⟩ rfl) rfl trivial ⟨rfl, trivial⟩ ?_
      refine G.op3 (op_storeA (cs' := [bS r5.1.Key, bS r5.1.Value, bB r5.1.Gone, bI .i64 r5.1.Stamp.N, bI .i64 r5.1.Stamp.Site, .g (.d (.sl 3 (List.map encApi_Dep r5.1.Past)))]) ti26 rfl rfl (Ev.t 10 (.ptr 1010 0)) (Ev.t 66 (.g (.agg [.v (.string r5.1.Key), .v (.string r5.1.Value), .v (.bool r5.1.Gone), .v (.int .i64 r5.1.Stamp.N), .v (.int .i64 r5.1.Stamp.Site), .sl 3 (List.map encApi_Dep r5.1.Past)])))) rfl ⟨rfl, rfl, trivial⟩ ⟨rfl, trivial⟩ ?_
      refine G.op1 (op_assign (Ev.t 67 (bB r5.2)) rfl) rfl ⟨rfl, trivial⟩ trivial ?_
      refine G.endOps ?_
      refine G.seq ?_
      refine G.region ?_
      refine G.op1 (op_move (Ev.t 1 (bS y4)) rfl) rfl ⟨rfl, trivial⟩ trivial ?_
      obtain ⟨r6, hr6, hF⟩ := bindS hF
      refine G.op1 (op_call (sv := .tup [.g (.agg [.v (.string r6.1.Key), .v (.string r6.1.Value), .v (.bool r6.1.Gone), .v (.int .i64 r6.1.Stamp.N), .v (.int .i64 r6.1.Stamp.Site), .sl 3 (List.map encApi_Dep r6.1.Past)]), bB r6.2]) cf18 (ct_ref06_Read y4 r6 hr6) rfl (EvL.cons (Ev.t 69 (bS y4)) EvL.nil) rfl) rfl ⟨rfl, trivial⟩ trivial ?_
      refine G.op1 (op_moveS (t := 70) (sv := .tup [.g (.agg [.v (.string r6.1.Key), .v (.string r6.1.Value), .v (.bool r6.1.Gone), .v (.int .i64 r6.1.Stamp.N), .v (.int .i64 r6.1.Stamp.Site), .sl 3 (List.map encApi_Dep r6.1.Past)]), bB r6.2]) rfl) rfl ⟨rfl, trivial⟩ trivial ?_
      refine G.op1 (op_extract (l := [.g (.agg [.v (.string r6.1.Key), .v (.string r6.1.Value), .v (.bool r6.1.Gone), .v (.int .i64 r6.1.Stamp.N), .v (.int .i64 r6.1.Stamp.Site), .sl 3 (List.map encApi_Dep r6.1.Past)]), bB r6.2]) (c := .g (.agg [.v (.string r6.1.Key), .v (.string r6.1.Value), .v (.bool r6.1.Gone), .v (.int .i64 r6.1.Stamp.N), .v (.int .i64 r6.1.Stamp.Site), .sl 3 (List.map encApi_Dep r6.1.Past)])) rfl rfl) rfl ⟨rfl, trivial⟩ trivial ?_
      refine G.op1 (op_extract (l := [.g (.agg [.v (.string r6.1.Key), .v (.string r6.1.Value), .v (.bool r6.1.Gone), .v (.int .i64 r6.1.Stamp.N), .v (.int .i64 r6.1.Stamp.Site), .sl 3 (List.map encApi_Dep r6.1.Past)]), bB r6.2]) (c := bB r6.2) rfl rfl) rfl ⟨rfl, trivial⟩ trivial ?_
      refine G.op2 (op_alloc (k := 1012) (cs := [bS ByteArray.empty, bS ByteArray.empty, bB false, bI .i64 0, bI .i64 0, .g (.d (.sl 3 (List.map encApi_Dep ([] : (List Api_Dep)))))]) ti26 ⟨.v _ rfl, .v _ rfl, .v _ rfl, .v _ rfl, .v _ rfl, .n 3, trivial⟩ rfl) rfl trivial ⟨rfl, trivial⟩ ?_
      refine G.op3 (op_storeA (cs' := [bS r6.1.Key, bS r6.1.Value, bB r6.1.Gone, bI .i64 r6.1.Stamp.N, bI .i64 r6.1.Stamp.Site, .g (.d (.sl 3 (List.map encApi_Dep r6.1.Past)))]) ti26 rfl rfl (Ev.t 12 (.ptr 1012 0)) (Ev.t 71 (.g (.agg [.v (.string r6.1.Key), .v (.string r6.1.Value), .v (.bool r6.1.Gone), .v (.int .i64 r6.1.Stamp.N), .v (.int .i64 r6.1.Stamp.Site), .sl 3 (List.map encApi_Dep r6.1.Past)])))) rfl ⟨rfl, rfl, trivial⟩ ⟨rfl, trivial⟩ ?_
      refine G.op1 (op_assign (Ev.t 72 (bB r6.2)) rfl) rfl ⟨rfl, trivial⟩ trivial ?_
      refine G.endOps ?_
      refine G.seq ?_
      refine G.region ?_
      refine G.op1 (op_loadAP (ds := [.v (.string r5.1.Key), .v (.string r5.1.Value), .v (.bool r5.1.Gone), .v (.int .i64 r5.1.Stamp.N), .v (.int .i64 r5.1.Stamp.Site), .sl 3 (List.map encApi_Dep r5.1.Past)]) Try.underlying26 rfl ti26 rfl (Ev.t 10 (.ptr 1010 0)) rfl) rfl ⟨rfl, trivial⟩ ⟨rfl, trivial⟩ ?_
      refine G.op1 (op_loadAP (ds := [.v (.string r6.1.Key), .v (.string r6.1.Value), .v (.bool r6.1.Gone), .v (.int .i64 r6.1.Stamp.N), .v (.int .i64 r6.1.Stamp.Site), .sl 3 (List.map encApi_Dep r6.1.Past)]) Try.underlying26 rfl ti26 rfl (Ev.t 12 (.ptr 1012 0)) rfl) rfl ⟨rfl, trivial⟩ ⟨rfl, trivial⟩ ?_
      obtain ⟨r7, hr7, hF⟩ := bindS hF
      refine G.op1 (op_callQ (sv := .one (bB r7)) cf16 (ct_ref06_Same r5.1 r6.1 r7 hr7) rfl rfl (EvQL.cons (EvQ.g (Ev.t 73 (.g (.agg [.v (.string r5.1.Key), .v (.string r5.1.Value), .v (.bool r5.1.Gone), .v (.int .i64 r5.1.Stamp.N), .v (.int .i64 r5.1.Stamp.Site), .sl 3 (List.map encApi_Dep r5.1.Past)])))) (EvQL.cons (EvQ.g (Ev.t 74 (.g (.agg [.v (.string r6.1.Key), .v (.string r6.1.Value), .v (.bool r6.1.Gone), .v (.int .i64 r6.1.Stamp.N), .v (.int .i64 r6.1.Stamp.Site), .sl 3 (List.map encApi_Dep r6.1.Past)])))) EvQL.nil)) rfl) rfl ⟨rfl, rfl, trivial⟩ trivial ?_
      refine G.op1 (op_assign (Ev.t 75 (bB r7)) rfl) rfl ⟨rfl, trivial⟩ trivial ?_
      refine G.endOps ?_
      refine G.seq ?_
      refine G.region ?_
      refine G.op1 (op_move (Ev.t 7 (bB r1)) rfl) rfl ⟨rfl, trivial⟩ trivial ?_
      refine G.op1 (op_move (Ev.t 76 (bB r1)) rfl) rfl ⟨rfl, trivial⟩ trivial ?_
      refine G.joinL (T := Bool) 2 (fun y8 => ⟨[(11, .one (bB r5.2)), (13, .one (bB r6.2)), (79, .one (bB y8))], []⟩) (fun y8 => law06_WireReads_k3 r5 r6 y8 = some r) (fun y8 hF => ?_) (fun J10 => ?_)
      · unfold law06_WireReads_k3 at hF
        refine G.op1 (op_move (Ev.t 79 (bB y8)) rfl) rfl ⟨rfl, trivial⟩ trivial ?_
        refine ifS hF (fun hc9 hF => ?_) (fun hc9 hF => ?_)
        · refine G.known (t := 80) hc9 rfl ?_
          refine G.opG1 (op_move (Ev.t 11 (bB r5.2)) rfl) rfl rfl rfl ⟨rfl, trivial⟩ trivial ?_
          refine G.opG1 (op_move (Ev.t 13 (bB r6.2)) rfl) rfl rfl rfl ⟨rfl, trivial⟩ trivial ?_
          refine G.opG1 (op_eqB Try.underlying4 (Ev.t 81 (bB r5.2)) (Ev.t 82 (bB r6.2)) rfl) rfl rfl rfl ⟨rfl, rfl, trivial⟩ trivial ?_
          refine G.op1 (op_pickT (Ev.t 80 (bB true)) (Ev.t 83 (bB (r5.2 == r6.2))) rfl) rfl ⟨rfl, rfl, trivial⟩ trivial ?_
          refine G.op1 (op_assign (Ev.t 84 (bB (r5.2 == r6.2))) rfl) rfl ⟨rfl, trivial⟩ trivial ?_
          refine G.endOps ?_
          cases hF
          exact G.ret1 Try.results4 (RVar.tmp 6 _) ⟨rfl, trivial⟩ trivial
        · refine G.known (t := 80) hc9 rfl ?_
          refine G.opN1 rfl rfl rfl rfl rfl ?_
          refine G.opN1 rfl rfl rfl rfl rfl ?_
          refine G.opN1 rfl rfl rfl rfl rfl ?_
          refine G.op1 (op_pickF (Ev.t 80 (bB false)) (Ev.c _ rfl) rfl) rfl ⟨rfl, trivial⟩ trivial ?_
          refine G.op1 (op_assign (Ev.t 84 (bB false)) rfl) rfl ⟨rfl, trivial⟩ trivial ?_
          refine G.endOps ?_
          cases hF
          exact G.ret1 Try.results4 (RVar.tmp 6 _) ⟨rfl, trivial⟩ trivial
      refine ifS hF (fun hc11 hF => ?_) (fun hc11 hF => ?_)
      · refine G.known (t := 77) hc11 rfl ?_
        refine G.opG1 (op_move (Ev.t 14 (bB r7)) rfl) rfl rfl rfl ⟨rfl, trivial⟩ trivial ?_
        refine G.op1 (op_pickT (Ev.t 77 (bB true)) (Ev.t 78 (bB r7)) rfl) rfl ⟨rfl, rfl, trivial⟩ trivial ?_
        exact G.arr (J10 r7 hF) ⟨rfl, rfl, rfl, trivial⟩ trivial rfl
      · refine G.known (t := 77) hc11 rfl ?_
        refine G.opN1 rfl rfl rfl rfl rfl ?_
        refine G.op1 (op_pickF (Ev.t 77 (bB false)) (Ev.c _ rfl) rfl) rfl ⟨rfl, trivial⟩ trivial ?_
        exact G.arr (J10 false hF) ⟨rfl, rfl, rfl, trivial⟩ trivial rfl
    refine ifS hF (fun hc13 hF => ?_) (fun hc13 hF => ?_)
    · refine G.cond rfl (fun _ => ?_) (fun hx => by rw [hc13] at hx; cases hx)
      refine G.seq ?_
      refine G.region ?_
      refine G.op1 (op_loadAP (ds := [.v (.string v_0.Key), .v (.string v_0.Value), .v (.bool v_0.Gone), .v (.int .i64 v_0.Stamp.N), .v (.int .i64 v_0.Stamp.Site), .sl 3 (List.map encApi_Dep v_0.Past)]) Try.underlying26 rfl ti26 rfl (Ev.t 3 (.ptr 1003 0)) rfl) rfl ⟨rfl, trivial⟩ ⟨rfl, trivial⟩ ?_
      obtain ⟨r14, hr14, hF⟩ := bindS hF
      refine G.op1 (op_call (sv := .one (.g (.agg [.v (.string r14.Key), .v (.string r14.Value), .v (.bool r14.Gone), .v (.int .i64 r14.Stamp.N), .v (.int .i64 r14.Stamp.Site), .sl 3 (List.map encApi_Dep r14.Past)]))) cf10 (ct_law06_few v_0 r14 hr14) rfl (EvL.cons (Ev.t 25 (.g (.agg [.v (.string v_0.Key), .v (.string v_0.Value), .v (.bool v_0.Gone), .v (.int .i64 v_0.Stamp.N), .v (.int .i64 v_0.Stamp.Site), .sl 3 (List.map encApi_Dep v_0.Past)]))) EvL.nil) rfl) rfl ⟨rfl, trivial⟩ trivial ?_
      obtain ⟨r15, hr15, hF⟩ := bindS hF
      refine G.op1 (op_callQ (sv := .one (bS r15)) cf14 (ct_ref06_Bytes r14 r15 hr15) rfl rfl (EvQL.cons (EvQ.g (Ev.t 26 (.g (.agg [.v (.string r14.Key), .v (.string r14.Value), .v (.bool r14.Gone), .v (.int .i64 r14.Stamp.N), .v (.int .i64 r14.Stamp.Site), .sl 3 (List.map encApi_Dep r14.Past)])))) EvQL.nil) rfl) rfl ⟨rfl, trivial⟩ trivial ?_
      obtain ⟨hz16, hF⟩ := chkS hF
      refine G.op2 (op_toBytes (k := 2028) Try.underlying9 Try.underlying33 Try.underlying5 (of_decide_eq_true hz16) (Ev.t 27 (bS r15)) rfl) rfl ⟨rfl, trivial⟩ ⟨rfl, trivial⟩ ?_
      refine G.op1 (op_assign (Ev.t 28 (.pv 2028 (bytV r15.size))) rfl) rfl ⟨rfl, trivial⟩ trivial ?_
      refine G.endOps ?_
      refine G.seq ?_
      refine G.region ?_
      refine G.op1 (op_move (Ev.t 8 (.pv 2028 (bytV r15.size))) rfl) rfl ⟨rfl, trivial⟩ trivial ?_
      refine G.op1 (op_lenB Try.underlying33 (Ev.t 29 (.pv 2028 (bytV r15.size))) rfl) rfl ⟨rfl, trivial⟩ trivial ?_
      refine G.op1 (op_gtr (Ev.t 30 (bI .i64 (r15.size : Int))) (Ev.c _ rfl) rfl) rfl ⟨rfl, trivial⟩ trivial ?_
      refine G.endOps ?_
      refine ifS hF (fun hc17 hF => ?_) (fun hc17 hF => ?_)
      · refine G.cond rfl (fun _ => ?_) (fun hx => by rw [hc17] at hx; cases hx)
        refine G.seq ?_
        refine G.region ?_
        obtain ⟨x18, hx18, hF⟩ := bindS hF
        refine G.op1 (op_indexA Try.underlying32 ti3 (aidx_ok hx18).1 (aidx_ok hx18).2.1 (Ev.t 5 (.ptr 1005 0)) (Ev.c _ rfl) rfl) rfl ⟨rfl, trivial⟩ trivial ?_
        refine G.op1 (op_load1P (c := bI .i64 x18) Try.underlying3 rfl (arr_at1 hx18 (fun _ => rfl) rfl) (Ev.t 32 (.ptr 1005 (Int.toNat 1 * 1))) rfl) rfl ⟨rfl, trivial⟩ ⟨rfl, trivial⟩ ?_
        refine G.op1 (op_move (Ev.t 8 (.pv 2028 (bytV r15.size))) rfl) rfl ⟨rfl, trivial⟩ trivial ?_
        refine G.op1 (op_lenB Try.underlying33 (Ev.t 34 (.pv 2028 (bytV r15.size))) rfl) rfl ⟨rfl, trivial⟩ trivial ?_
        obtain ⟨hz19, hF⟩ := chkS hF
        refine G.op1 (op_rem (by simpa using hz19) (Ev.t 33 (bI .i64 x18)) (Ev.t 35 (bI .i64 (r15.size : Int))) rfl) rfl ⟨rfl, rfl, trivial⟩ trivial ?_
        refine G.op1 (op_move (Ev.t 8 (.pv 2028 (bytV r15.size))) rfl) rfl ⟨rfl, trivial⟩ trivial ?_
        refine G.op1 (op_lenB Try.underlying33 (Ev.t 37 (.pv 2028 (bytV r15.size))) rfl) rfl ⟨rfl, trivial⟩ trivial ?_
        refine G.op1 (op_add (Ev.t 36 (bI .i64 (Int.tmod x18 (r15.size : Int)))) (Ev.t 38 (bI .i64 (r15.size : Int))) rfl) rfl ⟨rfl, rfl, trivial⟩ trivial ?_
        refine G.op1 (op_move (Ev.t 8 (.pv 2028 (bytV r15.size))) rfl) rfl ⟨rfl, trivial⟩ trivial ?_
        refine G.op1 (op_lenB Try.underlying33 (Ev.t 40 (.pv 2028 (bytV r15.size))) rfl) rfl ⟨rfl, trivial⟩ trivial ?_
        obtain ⟨hz20, hF⟩ := chkS hF
        refine G.op1 (op_rem (by simpa using hz20) (Ev.t 39 (bI .i64 (IntKind.wrap .i64 ((Int.tmod x18 (r15.size : Int)) + (r15.size : Int))))) (Ev.t 41 (bI .i64 (r15.size : Int))) rfl) rfl ⟨rfl, rfl, trivial⟩ trivial ?_
        refine G.op1 (op_assign (Ev.t 42 (bI .i64 (Int.tmod (IntKind.wrap .i64 ((Int.tmod x18 (r15.size : Int)) + (r15.size : Int))) (r15.size : Int)))) rfl) rfl ⟨rfl, trivial⟩ trivial ?_
        refine G.endOps ?_
        refine G.seq ?_
        obtain ⟨hz21, hF⟩ := chkS hF
        obtain ⟨x22, hx22, hF⟩ := bindS hF
        obtain ⟨hz23, hF⟩ := chkS hF
        obtain ⟨hz24, hF⟩ := chkS hF
        refine G.drawn (effs := [⟨[(8, .one (.pv 2028 (bytV r15.size)))], [], [(43, .one (.pv 2028 (bytV r15.size)))], []⟩, ⟨[(9, .one (bI .i64 (Int.tmod (IntKind.wrap .i64 ((Int.tmod x18 (r15.size : Int)) + (r15.size : Int))) (r15.size : Int))))], [], [(44, .one (bI .i64 (Int.tmod (IntKind.wrap .i64 ((Int.tmod x18 (r15.size : Int)) + (r15.size : Int))) (r15.size : Int))))], []⟩, ⟨[(8, .one (.pv 2028 (bytV r15.size)))], [], [(45, .one (.pv 2028 (bytV r15.size)))], []⟩, ⟨[(9, .one (bI .i64 (Int.tmod (IntKind.wrap .i64 ((Int.tmod x18 (r15.size : Int)) + (r15.size : Int))) (r15.size : Int))))], [], [(46, .one (bI .i64 (Int.tmod (IntKind.wrap .i64 ((Int.tmod x18 (r15.size : Int)) + (r15.size : Int))) (r15.size : Int))))], []⟩, ⟨[(45, .one (.pv 2028 (bytV r15.size))), (46, .one (bI .i64 (Int.tmod (IntKind.wrap .i64 ((Int.tmod x18 (r15.size : Int)) + (r15.size : Int))) (r15.size : Int))))], [], [(47, .one (.ptr 2028 (Int.toNat (Int.tmod (IntKind.wrap .i64 ((Int.tmod x18 (r15.size : Int)) + (r15.size : Int))) (r15.size : Int)))))], []⟩, ⟨[(47, .one (.ptr 2028 (Int.toNat (Int.tmod (IntKind.wrap .i64 ((Int.tmod x18 (r15.size : Int)) + (r15.size : Int))) (r15.size : Int)))))], [(2028, some (.pr (bytH 5 r15)))], [(48, .one (bI .u8 (((ByteArray.data r15).getD (Int.toNat (Int.tmod (IntKind.wrap .i64 ((Int.tmod x18 (r15.size : Int)) + (r15.size : Int))) (r15.size : Int))) 0).toNat : Int)))], []⟩, ⟨[(5, .one (.ptr 1005 0))], [], [(49, .one (.ptr 1005 (Int.toNat 2 * 1)))], []⟩, ⟨[(49, .one (.ptr 1005 (Int.toNat 2 * 1)))], [(1005, some (.blk 32 (dat (List.flatMap encI_i64 q_2))))], [(50, .one (bI .i64 x22))], []⟩, ⟨[(50, .one (bI .i64 x22))], [], [(51, .one (bI .u8 (IntKind.wrap .u8 x22)))], []⟩, ⟨[(48, .one (bI .u8 (((ByteArray.data r15).getD (Int.toNat (Int.tmod (IntKind.wrap .i64 ((Int.tmod x18 (r15.size : Int)) + (r15.size : Int))) (r15.size : Int))) 0).toNat : Int))), (51, .one (bI .u8 (IntKind.wrap .u8 x22)))], [], [(52, .one (bI .u8 (IntKind.wrap .u8 (BitVec.ofInt (IntKind.bits .u8) (((ByteArray.data r15).getD (Int.toNat (Int.tmod (IntKind.wrap .i64 ((Int.tmod x18 (r15.size : Int)) + (r15.size : Int))) (r15.size : Int))) 0).toNat : Int) ^^^ BitVec.ofInt (IntKind.bits .u8) (IntKind.wrap .u8 x22)).toNat)))], []⟩, ⟨[(43, .one (.pv 2028 (bytV r15.size))), (44, .one (bI .i64 (Int.tmod (IntKind.wrap .i64 ((Int.tmod x18 (r15.size : Int)) + (r15.size : Int))) (r15.size : Int))))], [], [(53, .one (.ptr 2028 (Int.toNat (Int.tmod (IntKind.wrap .i64 ((Int.tmod x18 (r15.size : Int)) + (r15.size : Int))) (r15.size : Int)))))], []⟩, ⟨[(53, .one (.ptr 2028 (Int.toNat (Int.tmod (IntKind.wrap .i64 ((Int.tmod x18 (r15.size : Int)) + (r15.size : Int))) (r15.size : Int))))), (52, .one (bI .u8 (IntKind.wrap .u8 (BitVec.ofInt (IntKind.bits .u8) (((ByteArray.data r15).getD (Int.toNat (Int.tmod (IntKind.wrap .i64 ((Int.tmod x18 (r15.size : Int)) + (r15.size : Int))) (r15.size : Int))) 0).toNat : Int) ^^^ BitVec.ofInt (IntKind.bits .u8) (IntKind.wrap .u8 x22)).toNat)))], [(2028, some (.pr (bytH 5 r15)))], [], [(2028, some (.pr (bytH 5 (bset r15 (Int.tmod (IntKind.wrap .i64 ((Int.tmod x18 (r15.size : Int)) + (r15.size : Int))) (r15.size : Int)) (IntKind.wrap .u8 (BitVec.ofInt (IntKind.bits .u8) (((ByteArray.data r15).getD (Int.toNat (Int.tmod (IntKind.wrap .i64 ((Int.tmod x18 (r15.size : Int)) + (r15.size : Int))) (r15.size : Int))) 0).toNat : Int) ^^^ BitVec.ofInt (IntKind.bits .u8) (IntKind.wrap .u8 x22)).toNat)))))]⟩]) (deps := [[], [], [], [], [2, 3], [2, 3, 4], [], [6], [6, 7], [2, 3, 4, 5, 6, 7, 8], [0, 1, 2, 3, 4, 5, 6, 7, 8, 9], [0, 1, 2, 3, 4, 5, 6, 7, 8, 9, 10]]) (sl' := [(5, .one (.ptr 1005 0)), (7, .one (bB r1)), (8, .one (.pv 2028 (bytV r15.size))), (9, .one (bI .i64 (Int.tmod (IntKind.wrap .i64 ((Int.tmod x18 (r15.size : Int)) + (r15.size : Int))) (r15.size : Int))))]) (hp' := [(1005, some (.blk 32 (dat (List.flatMap encI_i64 q_2)))), (2028, some (.pr (bytH 5 (bset r15 (Int.tmod (IntKind.wrap .i64 ((Int.tmod x18 (r15.size : Int)) + (r15.size : Int))) (r15.size : Int)) (IntKind.wrap .u8 (BitVec.ofInt (IntKind.bits .u8) (((ByteArray.data r15).getD (Int.toNat (Int.tmod (IntKind.wrap .i64 ((Int.tmod x18 (r15.size : Int)) + (r15.size : Int))) (r15.size : Int))) 0).toNat : Int) ^^^ BitVec.ofInt (IntKind.bits .u8) (IntKind.wrap .u8 x22)).toNat)))))]) follows rfl rfl rfl ⟨⟨rfl, trivial⟩, trivial, ⟨rfl, trivial⟩, trivial, ⟨rfl, trivial⟩, trivial, ⟨rfl, trivial⟩, trivial, ⟨rfl, rfl, trivial⟩, trivial, ⟨rfl, trivial⟩, ⟨⟨rfl, rfl⟩, trivial⟩, ⟨rfl, trivial⟩, trivial, ⟨rfl, trivial⟩, ⟨⟨rfl, rfl⟩, trivial⟩, ⟨rfl, trivial⟩, trivial, ⟨rfl, rfl, trivial⟩, trivial, ⟨rfl, rfl, trivial⟩, trivial, ⟨rfl, rfl, trivial⟩, ⟨⟨rfl, rfl⟩, trivial⟩, trivial⟩ ⟨OpW.plain (op_move (Ev.t 8 (.pv 2028 (bytV r15.size))) rfl) rfl rfl, OpW.plain (op_move (Ev.t 9 (bI .i64 (Int.tmod (IntKind.wrap .i64 ((Int.tmod x18 (r15.size : Int)) + (r15.size : Int))) (r15.size : Int)))) rfl) rfl rfl, OpW.plain (op_move (Ev.t 8 (.pv 2028 (bytV r15.size))) rfl) rfl rfl, OpW.plain (op_move (Ev.t 9 (bI .i64 (Int.tmod (IntKind.wrap .i64 ((Int.tmod x18 (r15.size : Int)) + (r15.size : Int))) (r15.size : Int)))) rfl) rfl rfl, OpW.plain (op_indexB Try.underlying33 ti5 (of_decide_eq_true hz21) (Ev.t 45 (.pv 2028 (bytV r15.size))) (Ev.t 46 (bI .i64 (Int.tmod (IntKind.wrap .i64 ((Int.tmod x18 (r15.size : Int)) + (r15.size : Int))) (r15.size : Int)))) rfl) rfl rfl, OpW.plain (op_loadB (i := (Int.tmod (IntKind.wrap .i64 ((Int.tmod x18 (r15.size : Int)) + (r15.size : Int))) (r15.size : Int))) Try.underlying5 rfl (bytI (of_decide_eq_true hz21) rfl) (Ev.t 47 (.ptr 2028 (Int.toNat (Int.tmod (IntKind.wrap .i64 ((Int.tmod x18 (r15.size : Int)) + (r15.size : Int))) (r15.size : Int))))) rfl) rfl rfl, OpW.plain (op_indexA Try.underlying32 ti3 (aidx_ok hx22).1 (aidx_ok hx22).2.1 (Ev.t 5 (.ptr 1005 0)) (Ev.c _ rfl) rfl) rfl rfl, OpW.plain (op_load1P (c := bI .i64 x22) Try.underlying3 rfl (arr_at1 hx22 (fun _ => rfl) rfl) (Ev.t 49 (.ptr 1005 (Int.toNat 2 * 1))) rfl) rfl rfl, OpW.plain (op_convI Try.underlying3 Try.underlying5 (Ev.t 50 (bI .i64 x22)) rfl) rfl rfl, OpW.plain (op_xor (Ev.t 48 (bI .u8 (((ByteArray.data r15).getD (Int.toNat (Int.tmod (IntKind.wrap .i64 ((Int.tmod x18 (r15.size : Int)) + (r15.size : Int))) (r15.size : Int))) 0).toNat : Int))) (Ev.t 51 (bI .u8 (IntKind.wrap .u8 x22))) rfl) rfl rfl, OpW.plain (op_indexB Try.underlying33 ti5 (of_decide_eq_true hz23) (Ev.t 43 (.pv 2028 (bytV r15.size))) (Ev.t 44 (bI .i64 (Int.tmod (IntKind.wrap .i64 ((Int.tmod x18 (r15.size : Int)) + (r15.size : Int))) (r15.size : Int)))) rfl) rfl rfl, OpW.plain (op_storeB (i := (Int.tmod (IntKind.wrap .i64 ((Int.tmod x18 (r15.size : Int)) + (r15.size : Int))) (r15.size : Int))) (v := (IntKind.wrap .u8 (BitVec.ofInt (IntKind.bits .u8) (((ByteArray.data r15).getD (Int.toNat (Int.tmod (IntKind.wrap .i64 ((Int.tmod x18 (r15.size : Int)) + (r15.size : Int))) (r15.size : Int))) 0).toNat : Int) ^^^ BitVec.ofInt (IntKind.bits .u8) (IntKind.wrap .u8 x22)).toNat)) ti5 (bytI (of_decide_eq_true hz23) rfl) (of_decide_eq_true hz24) (Ev.t 53 (.ptr 2028 (Int.toNat (Int.tmod (IntKind.wrap .i64 ((Int.tmod x18 (r15.size : Int)) + (r15.size : Int))) (r15.size : Int))))) (Ev.t 52 (bI .u8 (IntKind.wrap .u8 (BitVec.ofInt (IntKind.bits .u8) (((ByteArray.data r15).getD (Int.toNat (Int.tmod (IntKind.wrap .i64 ((Int.tmod x18 (r15.size : Int)) + (r15.size : Int))) (r15.size : Int))) 0).toNat : Int) ^^^ BitVec.ofInt (IntKind.bits .u8) (IntKind.wrap .u8 x22)).toNat)))) rfl rfl, trivial⟩ ⟨rfl, rfl, rfl, rfl, trivial⟩ ⟨rfl, rfl, trivial⟩ (by simp only [wellId, List.all_cons, List.all_nil, HE.ids, ids_dat]; rfl) ?_
        refine G.seq ?_
        refine G.region ?_
        refine G.op1 (op_move (Ev.t 8 (.pv 2028 (bytV r15.size))) rfl) rfl ⟨rfl, trivial⟩ trivial ?_
        refine G.op1 (op_fromBytes Try.underlying33 Try.underlying5 Try.underlying9 (by simp only [bset_size]) (Ev.t 54 (.pv 2028 (bytV r15.size))) rfl) rfl ⟨rfl, trivial⟩ ⟨rfl, trivial⟩ ?_
        refine G.op1 (op_assign (Ev.t 55 (bS (bset r15 (Int.tmod (IntKind.wrap .i64 ((Int.tmod x18 (r15.size : Int)) + (r15.size : Int))) (r15.size : Int)) (IntKind.wrap .u8 (BitVec.ofInt (IntKind.bits .u8) (((ByteArray.data r15).getD (Int.toNat (Int.tmod (IntKind.wrap .i64 ((Int.tmod x18 (r15.size : Int)) + (r15.size : Int))) (r15.size : Int))) 0).toNat : Int) ^^^ BitVec.ofInt (IntKind.bits .u8) (IntKind.wrap .u8 x22)).toNat)))) rfl) rfl ⟨rfl, trivial⟩ trivial ?_
        refine G.endOps ?_
        refine G.seq ?_
        refine G.region ?_
        obtain ⟨x25, hx25, hF⟩ := bindS hF
        refine G.op1 (op_indexA Try.underlying32 ti3 (aidx_ok hx25).1 (aidx_ok hx25).2.1 (Ev.t 5 (.ptr 1005 0)) (Ev.c _ rfl) rfl) rfl ⟨rfl, trivial⟩ trivial ?_
        refine G.op1 (op_load1P (c := bI .i64 x25) Try.underlying3 rfl (arr_at1 hx25 (fun _ => rfl) rfl) (Ev.t 56 (.ptr 1005 (Int.toNat 0 * 1))) rfl) rfl ⟨rfl, trivial⟩ ⟨rfl, trivial⟩ ?_
        refine G.op1 (op_and (Ev.t 57 (bI .i64 x25)) (Ev.c _ rfl) rfl) rfl ⟨rfl, trivial⟩ trivial ?_
        refine G.op1 (op_eqI (Ev.t 58 (bI .i64 (IntKind.wrap .i64 (BitVec.ofInt (IntKind.bits .i64) x25 &&& BitVec.ofInt (IntKind.bits .i64) 3).toNat))) (Ev.c _ rfl) rfl) rfl ⟨rfl, trivial⟩ trivial ?_
        refine G.endOps ?_
        refine ifS hF (fun hc26 hF => ?_) (fun hc26 hF => ?_)
        · refine G.cond rfl (fun _ => ?_) (fun hx => by rw [hc26] at hx; cases hx)
          refine G.region ?_
          refine G.op1 (op_move (Ev.t 1 (bS (bset r15 (Int.tmod (IntKind.wrap .i64 ((Int.tmod x18 (r15.size : Int)) + (r15.size : Int))) (r15.size : Int)) (IntKind.wrap .u8 (BitVec.ofInt (IntKind.bits .u8) (((ByteArray.data r15).getD (Int.toNat (Int.tmod (IntKind.wrap .i64 ((Int.tmod x18 (r15.size : Int)) + (r15.size : Int))) (r15.size : Int))) 0).toNat : Int) ^^^ BitVec.ofInt (IntKind.bits .u8) (IntKind.wrap .u8 x22)).toNat)))) rfl) rfl ⟨rfl, trivial⟩ trivial ?_
          refine G.op1 (op_move (Ev.t 9 (bI .i64 (Int.tmod (IntKind.wrap .i64 ((Int.tmod x18 (r15.size : Int)) + (r15.size : Int))) (r15.size : Int)))) rfl) rfl ⟨rfl, trivial⟩ trivial ?_
          obtain ⟨s27, hs27, hF⟩ := bindS hF
          refine G.op1 (OpL.cast (op_sliceS (lo := none) (hi := some (Int.tmod (IntKind.wrap .i64 ((Int.tmod x18 (r15.size : Int)) + (r15.size : Int))) (r15.size : Int))) Try.underlying9 (ssub_ok hs27).1 (ssub_ok hs27).2.1 (ssub_ok hs27).2.2.1 (Ev.t 60 (bS (bset r15 (Int.tmod (IntKind.wrap .i64 ((Int.tmod x18 (r15.size : Int)) + (r15.size : Int))) (r15.size : Int)) (IntKind.wrap .u8 (BitVec.ofInt (IntKind.bits .u8) (((ByteArray.data r15).getD (Int.toNat (Int.tmod (IntKind.wrap .i64 ((Int.tmod x18 (r15.size : Int)) + (r15.size : Int))) (r15.size : Int))) 0).toNat : Int) ^^^ BitVec.ofInt (IntKind.bits .u8) (IntKind.wrap .u8 x22)).toNat)))) EvO.none (EvO.some (Ev.t 61 (bI .i64 (Int.tmod (IntKind.wrap .i64 ((Int.tmod x18 (r15.size : Int)) + (r15.size : Int))) (r15.size : Int))))) rfl) (congrArg (fun s => bS s) (ssub_ok hs27).2.2.2)) rfl ⟨rfl, rfl, trivial⟩ trivial ?_
          refine G.op1 (op_assign (Ev.t 62 (bS s27)) rfl) rfl ⟨rfl, trivial⟩ trivial ?_
          refine G.endOps ?_
          exact G.arr (J12 s27 hF) ⟨rfl, rfl, trivial⟩ trivial rfl
        · refine G.cond rfl (fun hx => by rw [hc26] at hx; cases hx) (fun _ => ?_)
          refine G.skip ?_
          exact G.arr (J12 (bset r15 (Int.tmod (IntKind.wrap .i64 ((Int.tmod x18 (r15.size : Int)) + (r15.size : Int))) (r15.size : Int)) (IntKind.wrap .u8 (BitVec.ofInt (IntKind.bits .u8) (((ByteArray.data r15).getD (Int.toNat (Int.tmod (IntKind.wrap .i64 ((Int.tmod x18 (r15.size : Int)) + (r15.size : Int))) (r15.size : Int))) 0).toNat : Int) ^^^ BitVec.ofInt (IntKind.bits .u8) (IntKind.wrap .u8 x22)).toNat)) hF) ⟨rfl, rfl, trivial⟩ trivial rfl
      · refine G.cond rfl (fun hx => by rw [hc17] at hx; cases hx) (fun _ => ?_)
        refine G.skip ?_
        exact G.arr (J12 y2 hF) ⟨rfl, rfl, trivial⟩ trivial rfl
    · refine G.cond rfl (fun hx => by rw [hc13] at hx; cases hx) (fun _ => ?_)
      refine G.skip ?_
      exact G.arr (J12 y2 hF) ⟨rfl, rfl, trivial⟩ trivial rfl
  refine ifS hF (fun hc29 hF => ?_) (fun hc29 hF => ?_)
  · refine G.cond rfl (fun _ => ?_) (fun hx => by rw [hc29] at hx; cases hx)
    refine G.region ?_
    refine G.op1 (op_move (Ev.t 1 (bS s_1)) rfl) rfl ⟨rfl, trivial⟩ trivial ?_
    obtain ⟨s30, hs30, hF⟩ := bindS hF
    refine G.op1 (OpL.cast (op_sliceS (lo := none) (hi := some 80) Try.underlying9 (ssub_ok hs30).1 (ssub_ok hs30).2.1 (ssub_ok hs30).2.2.1 (Ev.t 19 (bS s_1)) EvO.none (EvO.some (Ev.c _ rfl)) rfl) (congrArg (fun s => bS s) (ssub_ok hs30).2.2.2)) rfl ⟨rfl, trivial⟩ trivial ?_
    refine G.op1 (op_assign (Ev.t 20 (bS s30)) rfl) rfl ⟨rfl, trivial⟩ trivial ?_
    refine G.endOps ?_
    exact G.arr (J28 s30 hF) ⟨rfl, rfl, rfl, rfl, trivial⟩ ⟨rfl, rfl, trivial⟩ (by simp only [wellId, List.all_cons, List.all_nil, HE.ids, ids_dat]; rfl)
  · refine G.cond rfl (fun hx => by rw [hc29] at hx; cases hx) (fun _ => ?_)
    refine G.skip ?_
    exact G.arr (J28 s_1 hF) ⟨rfl, rfl, rfl, rfl, trivial⟩ ⟨rfl, rfl, trivial⟩ (by simp only [wellId, List.all_cons, List.all_nil, HE.ids, ids_dat]; rfl)


end Go.Ark
