/- Walks, printed by a program of mine: each function of the program computes the typed function of its name. Conditions: none. -/
import Derived.Test.YtimnigdjffpnbaaFlib
import Derived.Test.YtimnigdjffpnbaaFpins
import Derived.Test.YtimnigdjffpnbaaFlaw16
import Derived.Test.YtimnigdjffpnbaaProg
import Derived.KernelRfl
namespace Go.Ark
open Go Go.Ab Go.RowKit Go.Lib Go.Proofs



theorem follows : Try.prog.follows .mixedOrders = true := by kernel_rfl

theorem cf10 : CallF Try.prog 10 := fun args w => Try.call10 args w

theorem cf11 : CallF Try.prog 11 := fun args w => Try.call11 args w

theorem cf12 : CallF Try.prog 12 := fun args w => Try.call12 args w

theorem cf23 : CallF Try.prog 23 := fun args w => Try.call23 args w

theorem cf24 : CallF Try.prog 24 := fun args w => Try.call24 args w

theorem cf25 : CallF Try.prog 25 := fun args w => Try.call25 args w

theorem cf26 : CallF Try.prog 26 := fun args w => Try.call26 args w

theorem cf29 : CallF Try.prog 29 := fun args w => Try.call29 args w

theorem cf30 : CallF Try.prog 30 := fun args w => Try.call30 args w

theorem cf31 : CallF Try.prog 31 := fun args w => Try.call31 args w

theorem cf36 : CallF Try.prog 36 := fun args w => Try.call36 args w

theorem cf9 : CallF Try.prog 9 := fun args w => Try.call9 args w

theorem ti29 : Info Try.prog 29 (.agg #[.int .i64 0, .slice none 0 0]) 2 32 := Info.of (by kernel_rfl)

theorem ti3 : Info Try.prog 3 (.int .i64 0) 1 8 := Info.of (by kernel_rfl)

theorem pl29 (fs : Array Field) (h : Try.prog.underlying 29 = some (.struct fs)) : Places Try.prog fs #[(0, 1), (1, 1)] := fun w => by rw [Try.underlying29] at h; cases h; simp [Try.sizeOf27, Try.sizeOf3]

set_option maxRecDepth 20000 in
set_option maxHeartbeats 2000000 in
theorem ct_cmp_isNaN_int (x_0 : Int) (r : Bool) (hF : cmp_isNaN_int x_0 = some r) : Ct Try.prog 36 [.g (.d (.v (.int .i64 x_0)))] (.one (.d (.v (.bool r)))) := by
  unfold cmp_isNaN_int at hF
  refine Ct.intro Try.func36 rfl Try.ntmps36 rfl rfl fun M w => ?_
  refine G.seq ?_
  refine G.region ?_
  refine G.op1 (op_assign (Ev.c _ rfl) rfl) rfl trivial trivial ?_
  refine G.endOps ?_
  refine G.seq ?_
  refine G.region ?_
  refine G.op1 (op_move (Ev.t 0 (bI .i64 x_0)) rfl) rfl ⟨rfl, trivial⟩ trivial ?_
  refine G.op1 (op_move (Ev.t 0 (bI .i64 x_0)) rfl) rfl ⟨rfl, trivial⟩ trivial ?_
  refine G.op1 (op_neI (Ev.t 3 (bI .i64 x_0)) (Ev.t 4 (bI .i64 x_0)) rfl) rfl ⟨rfl, rfl, trivial⟩ trivial ?_
  refine G.op1 (op_assign (Ev.t 5 (bB (!decide (x_0 = x_0)))) rfl) rfl ⟨rfl, trivial⟩ trivial ?_
  refine G.endOps ?_
  cases hF
  exact G.ret1 Try.results36 (RVar.tmp 2 _) ⟨rfl, trivial⟩ trivial


set_option maxRecDepth 20000 in
set_option maxHeartbeats 2000000 in
theorem ct_cmp_Compare_int (x_0 : Int) (y_1 : Int) (r : Int) (hF : cmp_Compare_int x_0 y_1 = some r) : Ct Try.prog 31 [.g (.d (.v (.int .i64 x_0))), .g (.d (.v (.int .i64 y_1)))] (.one (.d (.v (.int .i64 r)))) := by
  unfold cmp_Compare_int at hF
  refine Ct.intro Try.func31 rfl Try.ntmps31 rfl rfl fun M w => ?_
  refine G.seq ?_
  refine G.region ?_
  refine G.op1 (op_assign (Ev.c _ rfl) rfl) rfl trivial trivial ?_
  refine G.endOps ?_
  refine G.seq ?_
  refine G.region ?_
  refine G.op1 (op_move (Ev.t 0 (bI .i64 x_0)) rfl) rfl ⟨rfl, trivial⟩ trivial ?_
  obtain ⟨r1, hr1, hF⟩ := bindS hF
  refine G.op1 (op_callQ (sv := .one (bB r1)) cf36 (ct_cmp_isNaN_int x_0 r1 hr1) rfl rfl (EvQL.cons (EvQ.g (Ev.t 7 (bI .i64 x_0))) EvQL.nil) rfl) rfl ⟨rfl, trivial⟩ trivial ?_
  refine G.op1 (op_assign (Ev.t 8 (bB r1)) rfl) rfl ⟨rfl, trivial⟩ trivial ?_
  refine G.endOps ?_
  refine G.seq ?_
  refine G.region ?_
  refine G.op1 (op_move (Ev.t 1 (bI .i64 y_1)) rfl) rfl ⟨rfl, trivial⟩ trivial ?_
  obtain ⟨r2, hr2, hF⟩ := bindS hF
  refine G.op1 (op_callQ (sv := .one (bB r2)) cf36 (ct_cmp_isNaN_int y_1 r2 hr2) rfl rfl (EvQL.cons (EvQ.g (Ev.t 9 (bI .i64 y_1))) EvQL.nil) rfl) rfl ⟨rfl, trivial⟩ trivial ?_
  refine G.op1 (op_assign (Ev.t 10 (bB r2)) rfl) rfl ⟨rfl, trivial⟩ trivial ?_
  refine G.endOps ?_
  refine G.seq ?_
  refine G.seq ?_
  refine G.region ?_
  refine G.op1 (op_move (Ev.t 5 (bB r1)) rfl) rfl ⟨rfl, trivial⟩ trivial ?_
  refine G.endOps ?_
  refine ifS hF (fun hc3 hF => ?_) (fun hc3 hF => ?_)
  · refine G.cond rfl (fun _ => ?_) (fun hx => by rw [hc3] at hx; cases hx)
    refine G.seq ?_
    refine G.seq ?_
    refine G.region ?_
    refine G.op1 (op_move (Ev.t 6 (bB r2)) rfl) rfl ⟨rfl, trivial⟩ trivial ?_
    refine G.endOps ?_
    refine ifS hF (fun hc4 hF => ?_) (fun hc4 hF => ?_)
    · refine G.cond rfl (fun _ => ?_) (fun hx => by rw [hc4] at hx; cases hx)
      refine G.seq ?_
      refine G.region ?_
      refine G.op1 (op_assign (Ev.c _ rfl) rfl) rfl trivial trivial ?_
      refine G.endOps ?_
      cases hF
      exact G.ret1 Try.results31 (RVar.tmp 4 _) ⟨rfl, trivial⟩ trivial
    · refine G.cond rfl (fun hx => by rw [hc4] at hx; cases hx) (fun _ => ?_)
      refine G.skip ?_
      refine G.seq ?_
      refine G.region ?_
      refine G.op1 (op_assign (Ev.c _ rfl) rfl) rfl trivial trivial ?_
      refine G.endOps ?_
      cases hF
      exact G.ret1 Try.results31 (RVar.tmp 4 _) ⟨rfl, trivial⟩ trivial
  · refine G.cond rfl (fun hx => by rw [hc3] at hx; cases hx) (fun _ => ?_)
    refine G.skip ?_
    refine G.seq ?_
    refine G.seq ?_
    refine G.region ?_
    refine G.op1 (op_move (Ev.t 6 (bB r2)) rfl) rfl ⟨rfl, trivial⟩ trivial ?_
    refine G.endOps ?_
    refine ifS hF (fun hc5 hF => ?_) (fun hc5 hF => ?_)
    · refine G.cond rfl (fun _ => ?_) (fun hx => by rw [hc5] at hx; cases hx)
      refine G.seq ?_
      refine G.region ?_
      refine G.op1 (op_assign (Ev.c _ rfl) rfl) rfl trivial trivial ?_
      refine G.endOps ?_
      cases hF
      exact G.ret1 Try.results31 (RVar.tmp 4 _) ⟨rfl, trivial⟩ trivial
    · refine G.cond rfl (fun hx => by rw [hc5] at hx; cases hx) (fun _ => ?_)
      refine G.skip ?_
      refine G.seq ?_
      refine G.seq ?_
      refine G.region ?_
      refine G.op1 (op_move (Ev.t 0 (bI .i64 x_0)) rfl) rfl ⟨rfl, trivial⟩ trivial ?_
      refine G.op1 (op_move (Ev.t 1 (bI .i64 y_1)) rfl) rfl ⟨rfl, trivial⟩ trivial ?_
      refine G.op1 (op_lss (Ev.t 14 (bI .i64 x_0)) (Ev.t 15 (bI .i64 y_1)) rfl) rfl ⟨rfl, rfl, trivial⟩ trivial ?_
      refine G.endOps ?_
      refine ifS hF (fun hc6 hF => ?_) (fun hc6 hF => ?_)
      · refine G.cond rfl (fun _ => ?_) (fun hx => by rw [hc6] at hx; cases hx)
        refine G.seq ?_
        refine G.region ?_
        refine G.op1 (op_assign (Ev.c _ rfl) rfl) rfl trivial trivial ?_
        refine G.endOps ?_
        cases hF
        exact G.ret1 Try.results31 (RVar.tmp 4 _) ⟨rfl, trivial⟩ trivial
      · refine G.cond rfl (fun hx => by rw [hc6] at hx; cases hx) (fun _ => ?_)
        refine G.skip ?_
        refine G.seq ?_
        refine G.seq ?_
        refine G.region ?_
        refine G.op1 (op_move (Ev.t 0 (bI .i64 x_0)) rfl) rfl ⟨rfl, trivial⟩ trivial ?_
        refine G.op1 (op_move (Ev.t 1 (bI .i64 y_1)) rfl) rfl ⟨rfl, trivial⟩ trivial ?_
        refine G.op1 (op_gtr (Ev.t 17 (bI .i64 x_0)) (Ev.t 18 (bI .i64 y_1)) rfl) rfl ⟨rfl, rfl, trivial⟩ trivial ?_
        refine G.endOps ?_
        refine ifS hF (fun hc7 hF => ?_) (fun hc7 hF => ?_)
        · refine G.cond rfl (fun _ => ?_) (fun hx => by rw [hc7] at hx; cases hx)
          refine G.seq ?_
          refine G.region ?_
          refine G.op1 (op_assign (Ev.c _ rfl) rfl) rfl trivial trivial ?_
          refine G.endOps ?_
          cases hF
          exact G.ret1 Try.results31 (RVar.tmp 4 _) ⟨rfl, trivial⟩ trivial
        · refine G.cond rfl (fun hx => by rw [hc7] at hx; cases hx) (fun _ => ?_)
          refine G.skip ?_
          refine G.seq ?_
          refine G.region ?_
          refine G.op1 (op_assign (Ev.c _ rfl) rfl) rfl trivial trivial ?_
          refine G.endOps ?_
          cases hF
          exact G.ret1 Try.results31 (RVar.tmp 4 _) ⟨rfl, trivial⟩ trivial


set_option maxRecDepth 20000 in
set_option maxHeartbeats 2000000 in
theorem ct_pins_find_1 (p_0 : Api_Pin) (id_1 : Int) (r : Int) (hF : pins_find_1 p_0 id_1 = some r) : Ct Try.prog 30 [.g (.agg (encApi_Pin p_0)), .g (.d (.v (.int .i64 id_1)))] (.one (.d (.v (.int .i64 r)))) := by
  unfold pins_find_1 at hF
  refine Ct.intro Try.func30 rfl Try.ntmps30 rfl rfl fun M w => ?_
  refine G.seq ?_
  refine G.region ?_
  refine G.op2 (op_boxA (k := 1002) (Ev.t 0 (.g (.agg [.v (.int .i64 p_0.ID), .sl 3 (List.map encApi_Dep p_0.Deps)]))) rfl) rfl ⟨rfl, trivial⟩ ⟨rfl, trivial⟩ ?_
  refine G.op1 (op_assign (Ev.c _ rfl) rfl) rfl trivial trivial ?_
  refine G.endOps ?_
  refine G.seq ?_
  refine G.region ?_
  refine G.op1 (op_fieldP (off' := 0) Try.underlying29 rfl ti3 (by decide) rfl (Ev.t 2 (.ptr 1002 0)) rfl) rfl ⟨rfl, trivial⟩ trivial ?_
  refine G.op1 (op_load1P (c := bI .i64 p_0.ID) Try.underlying3 rfl rfl (Ev.t 5 (.ptr 1002 0)) rfl) rfl ⟨rfl, trivial⟩ ⟨rfl, trivial⟩ ?_
  refine G.op1 (op_move (Ev.t 1 (bI .i64 id_1)) rfl) rfl ⟨rfl, trivial⟩ trivial ?_
  obtain ⟨r1, hr1, hF⟩ := bindS hF
  refine G.op1 (op_callQ (sv := .one (bI .i64 r1)) cf31 (ct_cmp_Compare_int p_0.ID id_1 r1 hr1) rfl rfl (EvQL.cons (EvQ.g (Ev.t 6 (bI .i64 p_0.ID))) (EvQL.cons (EvQ.g (Ev.t 7 (bI .i64 id_1))) EvQL.nil)) rfl) rfl ⟨rfl, rfl, trivial⟩ trivial ?_
  refine G.op1 (op_assign (Ev.t 8 (bI .i64 r1)) rfl) rfl ⟨rfl, trivial⟩ trivial ?_
  refine G.endOps ?_
  cases hF
  exact G.ret1 Try.results30 (RVar.tmp 4 _) ⟨rfl, trivial⟩ trivial


set_option maxRecDepth 20000 in
set_option maxHeartbeats 2000000 in
theorem ct_slices_BinarySearchFunc_int (x_0 : (List Api_Pin)) (target_1 : Int) (cmp_2 : (Api_Pin → Int → Option Int)) (r : (Int × Bool)) (hF : slices_BinarySearchFunc_int x_0 target_1 cmp_2 = some r) : Ct Try.prog 29 [.g (.d (.sl 2 (List.map encApi_Pin x_0))), .g (.d (.v (.int .i64 target_1))), .sem (sem2 (fun x => .agg (encApi_Pin x)) (fun x => .d (.v (.int .i64 x))) (fun y => .int .i64 y) cmp_2)] (.tup [.d (.v (.int .i64 r.1)), .d (.v (.bool r.2))]) := by
  unfold slices_BinarySearchFunc_int at hF
  refine Ct.intro Try.func29 rfl Try.ntmps29 rfl rfl fun M w => ?_
  refine G.seq ?_
  refine G.region ?_
  refine G.op1 (op_assign (Ev.c _ rfl) rfl) rfl trivial trivial ?_
  refine G.op1 (op_assign (Ev.c _ rfl) rfl) rfl trivial trivial ?_
  refine G.endOps ?_
  refine G.seq ?_
  refine G.region ?_
  refine G.op1 (op_move (Ev.t 0 (.g (.d (.sl 2 (List.map encApi_Pin x_0))))) rfl) rfl ⟨rfl, trivial⟩ trivial ?_
  refine G.op1 (OpL.cast (op_lenD Try.underlying23 (Ev.t 12 (.g (.d (.sl 2 (List.map encApi_Pin x_0))))) rfl) (by rw [List.length_map])) rfl ⟨rfl, trivial⟩ trivial ?_
  refine G.op1 (op_assign (Ev.t 13 (bI .i64 (x_0.length : Int))) rfl) rfl ⟨rfl, trivial⟩ trivial ?_
  refine G.endOps ?_
  refine G.seq ?_
  refine G.region ?_
  refine G.op1 (op_move (Ev.t 8 (bI .i64 (x_0.length : Int))) rfl) rfl ⟨rfl, trivial⟩ trivial ?_
  refine G.op1 (op_assign (Ev.c _ rfl) rfl) rfl trivial trivial ?_
  refine G.op1 (op_assign (Ev.t 14 (bI .i64 (x_0.length : Int))) rfl) rfl ⟨rfl, trivial⟩ trivial ?_
  refine G.endOps ?_
  refine G.seq ?_
  refine G.joinC (T := Int) (fun y1 => ⟨[(0, .one (.g (.d (.sl 2 (List.map encApi_Pin x_0))))), (1, .one (bI .i64 target_1)), (2, .one (.sem (sem2 (fun x => .agg (encApi_Pin x)) (fun x => .d (.v (.int .i64 x))) (fun y => .int .i64 y) cmp_2))), (8, .one (bI .i64 (x_0.length : Int))), (9, .one (bI .i64 y1))], []⟩) (fun y1 => slices_BinarySearchFunc_int_k1 x_0 target_1 cmp_2 y1 = some r) (fun y1 hF => ?_) (fun J5 => ?_)
  · unfold slices_BinarySearchFunc_int_k1 at hF
    refine G.seq ?_
    refine G.region ?_
    refine G.op1 (op_move (Ev.t 9 (bI .i64 y1)) rfl) rfl ⟨rfl, trivial⟩ trivial ?_
    refine G.op1 (op_move (Ev.t 9 (bI .i64 y1)) rfl) rfl ⟨rfl, trivial⟩ trivial ?_
    refine G.op1 (op_move (Ev.t 8 (bI .i64 (x_0.length : Int))) rfl) rfl ⟨rfl, trivial⟩ trivial ?_
    refine G.op1 (op_lss (Ev.t 36 (bI .i64 y1)) (Ev.t 37 (bI .i64 (x_0.length : Int))) rfl) rfl ⟨rfl, rfl, trivial⟩ trivial ?_
    refine G.op1 (op_move (Ev.t 38 (bB (decide (y1 < (x_0.length : Int))))) rfl) rfl ⟨rfl, trivial⟩ trivial ?_
    refine ifS hF (fun hc2 hF => ?_) (fun hc2 hF => ?_)
    · refine G.known (t := 39) hc2 rfl ?_
      refine G.opG1 (op_move (Ev.t 2 (.sem (sem2 (fun x => .agg (encApi_Pin x)) (fun x => .d (.v (.int .i64 x))) (fun y => .int .i64 y) cmp_2))) rfl) rfl rfl rfl ⟨rfl, trivial⟩ trivial ?_
      refine G.opG1 (op_move (Ev.t 0 (.g (.d (.sl 2 (List.map encApi_Pin x_0))))) rfl) rfl rfl rfl ⟨rfl, trivial⟩ trivial ?_
      refine G.opG1 (op_move (Ev.t 9 (bI .i64 y1)) rfl) rfl rfl rfl ⟨rfl, trivial⟩ trivial ?_
      obtain ⟨x3, hx3, hF⟩ := bindS hF
      refine G.opG1 (op_index (cs := [.v (.int .i64 x3.ID), .sl 3 (List.map encApi_Dep x3.Deps)]) Try.underlying23 ti29 (idx_ok hx3).1 (idx_get hx3 encApi_Pin) (Ev.t 41 (.g (.d (.sl 2 (List.map encApi_Pin x_0))))) (Ev.t 42 (bI .i64 y1)) rfl) rfl rfl rfl ⟨rfl, rfl, trivial⟩ trivial ?_
      refine G.opG1 (op_loadAE (ds := [.v (.int .i64 x3.ID), .sl 3 (List.map encApi_Dep x3.Deps)]) Try.underlying29 rfl ti29 rfl (Ev.t 43 (.ep [.v (.int .i64 x3.ID), .sl 3 (List.map encApi_Dep x3.Deps)])) rfl) rfl rfl rfl ⟨rfl, trivial⟩ trivial ?_
      refine G.opG1 (op_move (Ev.t 1 (bI .i64 target_1)) rfl) rfl rfl rfl ⟨rfl, trivial⟩ trivial ?_
      obtain ⟨r4, hr4, hF⟩ := bindS hF
      refine G.opG1 (op_callSem (t := 40) (v := .int .i64 r4) (Φ := sem2 (fun x => .agg (encApi_Pin x)) (fun x => .d (.v (.int .i64 x))) (fun y => .int .i64 y) cmp_2) ⟨x3, target_1, r4, rfl, hr4, rfl⟩ rfl (EvL.cons (Ev.t 44 (.g (.agg [.v (.int .i64 x3.ID), .sl 3 (List.map encApi_Dep x3.Deps)]))) (EvL.cons (Ev.t 45 (bI .i64 target_1)) EvL.nil)) rfl) rfl rfl rfl ⟨rfl, rfl, rfl, trivial⟩ trivial ?_
      refine G.opG1 (op_eqI (Ev.t 46 (bI .i64 r4)) (Ev.c _ rfl) rfl) rfl rfl rfl ⟨rfl, trivial⟩ trivial ?_
      refine G.op1 (op_pickT (Ev.t 39 (bB true)) (Ev.t 47 (bB (decide (r4 = 0)))) rfl) rfl ⟨rfl, rfl, trivial⟩ trivial ?_
      refine G.op1 (op_assign (Ev.t 35 (bI .i64 y1)) rfl) rfl ⟨rfl, trivial⟩ trivial ?_
      refine G.op1 (op_assign (Ev.t 48 (bB (decide (r4 = 0)))) rfl) rfl ⟨rfl, trivial⟩ trivial ?_
      refine G.endOps ?_
      cases hF
      exact G.ret2 Try.results29 (RVar.tmp 6 _) (RVar.tmp 7 _) ⟨rfl, rfl, trivial⟩ trivial
    · refine G.known (t := 39) hc2 rfl ?_
      refine G.opN1 rfl rfl rfl rfl rfl ?_
      refine G.opN1 rfl rfl rfl rfl rfl ?_
      refine G.opN1 rfl rfl rfl rfl rfl ?_
      refine G.opN1 rfl rfl rfl rfl rfl ?_
      refine G.opN1 rfl rfl rfl rfl rfl ?_
      refine G.opN1 rfl rfl rfl rfl rfl ?_
      refine G.opN1 rfl rfl rfl rfl rfl ?_
      refine G.opN1 rfl rfl rfl rfl rfl ?_
      refine G.op1 (op_pickF (Ev.t 39 (bB false)) (Ev.c _ rfl) rfl) rfl ⟨rfl, trivial⟩ trivial ?_
      refine G.op1 (op_assign (Ev.t 35 (bI .i64 y1)) rfl) rfl ⟨rfl, trivial⟩ trivial ?_
      refine G.op1 (op_assign (Ev.t 48 (bB false)) rfl) rfl ⟨rfl, trivial⟩ trivial ?_
      refine G.endOps ?_
      cases hF
      exact G.ret2 Try.results29 (RVar.tmp 6 _) (RVar.tmp 7 _) ⟨rfl, rfl, trivial⟩ trivial
  refine G.block ?_
  refine G.keep (sl' := [(0, .one (.g (.d (.sl 2 (List.map encApi_Pin x_0))))), (1, .one (bI .i64 target_1)), (2, .one (.sem (sem2 (fun x => .agg (encApi_Pin x)) (fun x => .d (.v (.int .i64 x))) (fun y => .int .i64 y) cmp_2))), (8, .one (bI .i64 (x_0.length : Int))), (9, .one (bI .i64 0)), (10, .one (bI .i64 (x_0.length : Int)))]) (hp' := []) ⟨rfl, rfl, rfl, rfl, rfl, rfl, trivial⟩ trivial rfl ?_
  refine G.loopF (fun (v6 : Int × Int) => ⟨[(0, .one (.g (.d (.sl 2 (List.map encApi_Pin x_0))))), (1, .one (bI .i64 target_1)), (2, .one (.sem (sem2 (fun x => .agg (encApi_Pin x)) (fun x => .d (.v (.int .i64 x))) (fun y => .int .i64 y) cmp_2))), (8, .one (bI .i64 (x_0.length : Int))), (9, .one (bI .i64 v6.1)), (10, .one (bI .i64 v6.2))], []⟩) hF rfl (fun K9 again8 v6 J7 hF => ?_)
  unfold slices_BinarySearchFunc_int_l2 at hF
  refine G.seq ?_
  refine G.seq ?_
  refine G.region ?_
  refine G.op1 (op_move (Ev.t 9 (bI .i64 v6.1)) rfl) rfl ⟨rfl, trivial⟩ trivial ?_
  refine G.op1 (op_move (Ev.t 10 (bI .i64 v6.2)) rfl) rfl ⟨rfl, trivial⟩ trivial ?_
  refine G.op1 (op_lss (Ev.t 15 (bI .i64 v6.1)) (Ev.t 16 (bI .i64 v6.2)) rfl) rfl ⟨rfl, rfl, trivial⟩ trivial ?_
  refine G.endOps ?_
  refine ifS hF (fun hc10 hF => ?_) (fun hc10 hF => ?_)
  · refine G.cond rfl (fun _ => ?_) (fun hx => by rw [hc10] at hx; cases hx)
    refine G.skip ?_
    refine G.block ?_
    refine G.seq ?_
    refine G.region ?_
    refine G.op1 (op_move (Ev.t 9 (bI .i64 v6.1)) rfl) rfl ⟨rfl, trivial⟩ trivial ?_
    refine G.op1 (op_move (Ev.t 10 (bI .i64 v6.2)) rfl) rfl ⟨rfl, trivial⟩ trivial ?_
    refine G.op1 (op_add (Ev.t 18 (bI .i64 v6.1)) (Ev.t 19 (bI .i64 v6.2)) rfl) rfl ⟨rfl, rfl, trivial⟩ trivial ?_
    refine G.op1 (op_convI Try.underlying3 Try.underlying67 (Ev.t 20 (bI .i64 (IntKind.wrap .i64 (v6.1 + v6.2)))) rfl) rfl ⟨rfl, trivial⟩ trivial ?_
    refine G.op1 (op_shr (by decide) (Ev.t 21 (bI .u64 (IntKind.wrap .u64 (IntKind.wrap .i64 (v6.1 + v6.2))))) (Ev.c _ rfl) rfl) rfl ⟨rfl, trivial⟩ trivial ?_
    refine G.op1 (op_convI Try.underlying67 Try.underlying3 (Ev.t 22 (bI .u64 (Int.fdiv (IntKind.wrap .u64 (IntKind.wrap .i64 (v6.1 + v6.2))) (2 ^ min (Int.toNat 1) (IntKind.bits .u64))))) rfl) rfl ⟨rfl, trivial⟩ trivial ?_
    refine G.op1 (op_assign (Ev.t 23 (bI .i64 (IntKind.wrap .i64 (Int.fdiv (IntKind.wrap .u64 (IntKind.wrap .i64 (v6.1 + v6.2))) (2 ^ min (Int.toNat 1) (IntKind.bits .u64)))))) rfl) rfl ⟨rfl, trivial⟩ trivial ?_
    refine G.endOps ?_
    refine G.seq ?_
    refine G.region ?_
    refine G.op1 (op_move (Ev.t 2 (.sem (sem2 (fun x => .agg (encApi_Pin x)) (fun x => .d (.v (.int .i64 x))) (fun y => .int .i64 y) cmp_2))) rfl) rfl ⟨rfl, trivial⟩ trivial ?_
    refine G.op1 (op_move (Ev.t 0 (.g (.d (.sl 2 (List.map encApi_Pin x_0))))) rfl) rfl ⟨rfl, trivial⟩ trivial ?_
    refine G.op1 (op_move (Ev.t 11 (bI .i64 (IntKind.wrap .i64 (Int.fdiv (IntKind.wrap .u64 (IntKind.wrap .i64 (v6.1 + v6.2))) (2 ^ min (Int.toNat 1) (IntKind.bits .u64)))))) rfl) rfl ⟨rfl, trivial⟩ trivial ?_
    obtain ⟨x11, hx11, hF⟩ := bindS hF
    refine G.op1 (op_index (cs := [.v (.int .i64 x11.ID), .sl 3 (List.map encApi_Dep x11.Deps)]) Try.underlying23 ti29 (idx_ok hx11).1 (idx_get hx11 encApi_Pin) (Ev.t 25 (.g (.d (.sl 2 (List.map encApi_Pin x_0))))) (Ev.t 26 (bI .i64 (IntKind.wrap .i64 (Int.fdiv (IntKind.wrap .u64 (IntKind.wrap .i64 (v6.1 + v6.2))) (2 ^ min (Int.toNat 1) (IntKind.bits .u64)))))) rfl) rfl ⟨rfl, rfl, trivial⟩ trivial ?_
    refine G.op1 (op_loadAE (ds := [.v (.int .i64 x11.ID), .sl 3 (List.map encApi_Dep x11.Deps)]) Try.underlying29 rfl ti29 rfl (Ev.t 27 (.ep [.v (.int .i64 x11.ID), .sl 3 (List.map encApi_Dep x11.Deps)])) rfl) rfl ⟨rfl, trivial⟩ trivial ?_
    refine G.op1 (op_move (Ev.t 1 (bI .i64 target_1)) rfl) rfl ⟨rfl, trivial⟩ trivial ?_
    obtain ⟨r12, hr12, hF⟩ := bindS hF
    refine G.op1 (op_callSem (t := 24) (v := .int .i64 r12) (Φ := sem2 (fun x => .agg (encApi_Pin x)) (fun x => .d (.v (.int .i64 x))) (fun y => .int .i64 y) cmp_2) ⟨x11, target_1, r12, rfl, hr12, rfl⟩ rfl (EvL.cons (Ev.t 28 (.g (.agg [.v (.int .i64 x11.ID), .sl 3 (List.map encApi_Dep x11.Deps)]))) (EvL.cons (Ev.t 29 (bI .i64 target_1)) EvL.nil)) rfl) rfl ⟨rfl, rfl, rfl, trivial⟩ trivial ?_
    refine G.op1 (op_lss (Ev.t 30 (bI .i64 r12)) (Ev.c _ rfl) rfl) rfl ⟨rfl, trivial⟩ trivial ?_
    refine G.endOps ?_
    refine ifS hF (fun hc13 hF => ?_) (fun hc13 hF => ?_)
    · refine G.cond rfl (fun _ => ?_) (fun hx => by rw [hc13] at hx; cases hx)
      refine G.region ?_
      refine G.op1 (op_move (Ev.t 11 (bI .i64 (IntKind.wrap .i64 (Int.fdiv (IntKind.wrap .u64 (IntKind.wrap .i64 (v6.1 + v6.2))) (2 ^ min (Int.toNat 1) (IntKind.bits .u64)))))) rfl) rfl ⟨rfl, trivial⟩ trivial ?_
      refine G.op1 (op_add (Ev.t 32 (bI .i64 (IntKind.wrap .i64 (Int.fdiv (IntKind.wrap .u64 (IntKind.wrap .i64 (v6.1 + v6.2))) (2 ^ min (Int.toNat 1) (IntKind.bits .u64)))))) (Ev.c _ rfl) rfl) rfl ⟨rfl, trivial⟩ trivial ?_
      refine G.op1 (op_assign (Ev.t 33 (bI .i64 (IntKind.wrap .i64 ((IntKind.wrap .i64 (Int.fdiv (IntKind.wrap .u64 (IntKind.wrap .i64 (v6.1 + v6.2))) (2 ^ min (Int.toNat 1) (IntKind.bits .u64)))) + 1)))) rfl) rfl ⟨rfl, trivial⟩ trivial ?_
      refine G.endOps ?_
      refine G.endBlock ?_
      exact G.arr (J7 (IntKind.wrap .i64 ((IntKind.wrap .i64 (Int.fdiv (IntKind.wrap .u64 (IntKind.wrap .i64 (v6.1 + v6.2))) (2 ^ min (Int.toNat 1) (IntKind.bits .u64)))) + 1), v6.2) hF) ⟨rfl, rfl, rfl, rfl, rfl, rfl, trivial⟩ trivial rfl
    · refine G.cond rfl (fun hx => by rw [hc13] at hx; cases hx) (fun _ => ?_)
      refine G.region ?_
      refine G.op1 (op_move (Ev.t 11 (bI .i64 (IntKind.wrap .i64 (Int.fdiv (IntKind.wrap .u64 (IntKind.wrap .i64 (v6.1 + v6.2))) (2 ^ min (Int.toNat 1) (IntKind.bits .u64)))))) rfl) rfl ⟨rfl, trivial⟩ trivial ?_
      refine G.op1 (op_assign (Ev.t 34 (bI .i64 (IntKind.wrap .i64 (Int.fdiv (IntKind.wrap .u64 (IntKind.wrap .i64 (v6.1 + v6.2))) (2 ^ min (Int.toNat 1) (IntKind.bits .u64)))))) rfl) rfl ⟨rfl, trivial⟩ trivial ?_
      refine G.endOps ?_
      refine G.endBlock ?_
      exact G.arr (J7 (v6.1, IntKind.wrap .i64 (Int.fdiv (IntKind.wrap .u64 (IntKind.wrap .i64 (v6.1 + v6.2))) (2 ^ min (Int.toNat 1) (IntKind.bits .u64)))) hF) ⟨rfl, rfl, rfl, rfl, rfl, rfl, trivial⟩ trivial rfl
  · refine G.cond rfl (fun hx => by rw [hc10] at hx; cases hx) (fun _ => ?_)
    refine G.exit ?_
    refine GX.c ?_
    refine GX.q ?_
    refine GX.bYes ?_
    exact G.arr (J5 v6.1 hF) ⟨rfl, rfl, rfl, rfl, rfl, trivial⟩ trivial rfl


set_option maxRecDepth 20000 in
set_option maxHeartbeats 2000000 in
theorem ct_pins_find (l_0 : (List Api_Pin)) (id_1 : Int) (r : (Int × Bool)) (hF : pins_find l_0 id_1 = some r) : Ct Try.prog 23 [.g (.d (.sl 2 (List.map encApi_Pin l_0))), .g (.d (.v (.int .i64 id_1)))] (.tup [.d (.v (.int .i64 r.1)), .d (.v (.bool r.2))]) := by
  unfold pins_find at hF
  refine Ct.intro Try.func23 rfl Try.ntmps23 rfl rfl fun M w => ?_
  refine G.seq ?_
  refine G.region ?_
  refine G.op1 (op_assign (Ev.c _ rfl) rfl) rfl trivial trivial ?_
  refine G.op1 (op_assign (Ev.c _ rfl) rfl) rfl trivial trivial ?_
  refine G.endOps ?_
  refine G.seq ?_
  refine G.region ?_
  refine G.op1 (op_move (Ev.t 0 (.g (.d (.sl 2 (List.map encApi_Pin l_0))))) rfl) rfl ⟨rfl, trivial⟩ trivial ?_
  refine G.op1 (op_move (Ev.t 1 (bI .i64 id_1)) rfl) rfl ⟨rfl, trivial⟩ trivial ?_
  obtain ⟨r1, hr1, hF⟩ := bindS hF
  refine G.op1 (op_callQ (sv := .tup [bI .i64 r1.1, bB r1.2]) cf29 (ct_slices_BinarySearchFunc_int l_0 id_1 (fun x0 x1 => pins_find_1 x0 x1) r1 hr1) rfl rfl (EvQL.cons (EvQ.g (Ev.t 6 (.g (.d (.sl 2 (List.map encApi_Pin l_0)))))) (EvQL.cons (EvQ.g (Ev.t 7 (bI .i64 id_1))) (EvQL.cons (EvQ.clo (Φ := sem2 (fun x => .agg (encApi_Pin x)) (fun x => .d (.v (.int .i64 x))) (fun y => .int .i64 y) (fun x0 x1 => pins_find_1 x0 x1)) (Ev.f 30) EvC.nil cf30 (fun args v ⟨x0, x1, b, h1, h2, h3⟩ => by subst h1 h3; exact ct_pins_find_1 x0 x1 b h2)) EvQL.nil))) rfl) rfl ⟨rfl, rfl, trivial⟩ trivial ?_
  refine G.op1 (op_extract (l := [bI .i64 r1.1, bB r1.2]) (c := bI .i64 r1.1) rfl rfl) rfl ⟨rfl, trivial⟩ trivial ?_
  refine G.op1 (op_extract (l := [bI .i64 r1.1, bB r1.2]) (c := bB r1.2) rfl rfl) rfl ⟨rfl, trivial⟩ trivial ?_
  refine G.op1 (op_assign (Ev.t 9 (bI .i64 r1.1)) rfl) rfl ⟨rfl, trivial⟩ trivial ?_
  refine G.op1 (op_assign (Ev.t 10 (bB r1.2)) rfl) rfl ⟨rfl, trivial⟩ trivial ?_
  refine G.endOps ?_
  cases hF
  exact G.ret2 Try.results23 (RVar.tmp 4 _) (RVar.tmp 5 _) ⟨rfl, rfl, trivial⟩ trivial


set_option maxRecDepth 20000 in
set_option maxHeartbeats 2000000 in
theorem ct_slices_Clone_Pin (s_0 : (List Api_Pin)) (r : (List Api_Pin)) (hF : slices_Clone_Pin s_0 = some r) : Ct Try.prog 25 [.g (.d (.sl 2 (List.map encApi_Pin s_0)))] (.new 29 2 (List.map encApi_Pin r)) := by
  unfold slices_Clone_Pin at hF
  refine Ct.intro Try.func25 rfl Try.ntmps25 rfl rfl fun M w => ?_
  refine G.seq ?_
  refine G.region ?_
  refine G.op1 (op_assign (c := .x (.slice none 0 0)) (Ev.x _) rfl) rfl trivial trivial ?_
  refine G.endOps ?_
  refine G.seq ?_
  refine G.seq ?_
  refine G.region ?_
  refine G.op1 (op_move (Ev.t 0 (.g (.d (.sl 2 (List.map encApi_Pin s_0))))) rfl) rfl ⟨rfl, trivial⟩ trivial ?_
  refine G.opNil Try.underlying23 (Ev.t 3 (.g (.d (.sl 2 (List.map encApi_Pin s_0))))) rfl ⟨rfl, trivial⟩ (fun nilb1 hnilb1 => ?_)
  refine G.endOps ?_
  refine G.cond rfl (fun hx => ?_) (fun hx => ?_)
  · replace hF := cloneNil (hnilb1 hx) hF
    refine G.seq ?_
    refine G.region ?_
    refine G.op1 (op_assign (c := .x (.slice none 0 0)) (Ev.x _) rfl) rfl trivial trivial ?_
    refine G.endOps ?_
    cases hF
    exact G.retNil (T := 29) Try.results25 ti29 rfl ⟨rfl, trivial⟩
  · clear hnilb1
    refine G.skip ?_
    refine G.seq ?_
    refine G.region ?_
    refine G.op2 (op_buildRow (kk := 2005) Try.underlying23 ti29 rfl rfl) rfl trivial ⟨rfl, trivial⟩ ?_
    refine G.keep (sl' := [(0, .one (.g (.d (.sl 2 (List.map encApi_Pin s_0))))), (2, .one (.x (.slice none 0 0))), (3, .one (.g (.d (.sl 2 (List.map encApi_Pin s_0))))), (4, .one (bB nilb1)), (5, .one (.own 2005 (List.map encApi_Pin ([] : List Api_Pin))))]) (hp' := [(2005, some (.row 29 2 (List.map encApi_Pin ([] : List Api_Pin)) true))]) ⟨rfl, rfl, rfl, rfl, rfl, trivial⟩ ⟨rfl, trivial⟩ rfl ?_
    refine G.op1 (op_move (Ev.t 0 (.g (.d (.sl 2 (List.map encApi_Pin s_0))))) rfl) rfl ⟨rfl, trivial⟩ trivial ?_
    obtain ⟨l2, hl2, hF⟩ := bindS hF
    refine G.op2 (op_appendO Try.underlying23 ti29 rfl (app_map hl2 encApi_Pin) (app_b1 hl2 encApi_Pin) (app_b2 hl2 encApi_Pin) (Ev.t 5 (.own 2005 (List.map encApi_Pin ([] : List Api_Pin)))) (Ev.t 6 (.g (.d (.sl 2 (List.map encApi_Pin s_0))))) rfl) rfl ⟨rfl, rfl, trivial⟩ ⟨rfl, trivial⟩ ?_
    refine G.op1 (op_assign (Ev.t 7 (.own 2005 (List.map encApi_Pin l2))) rfl) rfl ⟨rfl, trivial⟩ trivial ?_
    refine G.endOps ?_
    cases hF
    exact G.retNew Try.results25 rfl rfl


theorem insInfo24 : (Try.prog.info? 29).map (fun i => (i.zero, i.size, i.bytes)) = some (some (.agg #[.int .i64 0, .slice none 0 0]), 2, 32) := by kernel_rfl
theorem insExt24 (args : Array Value) (w w' : World) (v : Value) (h : (Extern.SlicesOverlaps.overlaps #[23, 23] #[4] args).run Try.prog w = .ok v w') : (callFunc 32 args).run Try.prog w = .ok (.value v) w' := by
  rw [run_callFunc_extern Try.func32 (by kernel_rfl) (by kernel_rfl) (by kernel_rfl) (e := Extern.SlicesOverlaps.overlaps #[23, 23] #[4]) (by kernel_rfl), h]
  rfl

set_option maxRecDepth 100000 in
set_option maxHeartbeats 4000000 in
theorem insShift24 (b n c i vb voff vc : Nat) (cs vs : List Value) (w : World) (hi : i < n) (hroom : n + 1 ≤ c) (hc63 : c ≤ 9223372036854775807) (hvb : vb ≠ b)
    (hcl : cs.length = n * 2) (hvl : vs.length = 2)
    (hcs : ∀ j v, cs[j]? = some v → w.cell? ⟨b, j, none⟩ = some v) (hsp : ∀ j, j < (n + 1) * 2 → (w.cell? ⟨b, j, none⟩).isSome = true) (hfz : ∀ j, j < (n + 1) * 2 → w.frozen? ⟨b, j, none⟩ = false)
    (hvs : ∀ j v, vs[j]? = some v → w.cell? ⟨vb, voff + j, none⟩ = some v) (h1c : ∀ v ∈ cs, v.oneCell' = true) (h1v : ∀ v ∈ vs, v.oneCell' = true)
    (hov : ∀ lb cb, (callFunc 32 #[.slice (some ⟨vb, voff, none⟩) 1 vc, .slice (some ⟨b, (i + 1) * 2, none⟩) lb cb]).run Try.prog w = .ok (.value (.bool false)) w) :
    Calls Try.prog 24 #[.slice (some ⟨b, 0, none⟩) n c, .int .i64 i, .slice (some ⟨vb, voff, none⟩) 1 vc] w fun e w' =>
      e = .returned (.slice (some ⟨b, 0, none⟩) (n + 1) c) ∧ w' = (w.drew.setCells b ((i + 1) * 2) (cs.drop (i * 2))).setCells b (i * 2) vs := by
  have t0 := Try.underlying0; have a0 := Try.isAgg0; have z0 := Try.sizeOf0; have v0 := Try.zeroValue0; have u0 := run_underlying t0
  have t3 := Try.underlying3; have a3 := Try.isAgg3; have z3 := Try.sizeOf3; have v3 := Try.zeroValue3; have u3 := run_underlying t3
  have t4 := Try.underlying4; have a4 := Try.isAgg4; have z4 := Try.sizeOf4; have v4 := Try.zeroValue4; have u4 := run_underlying t4
  have t23 := Try.underlying23; have a23 := Try.isAgg23; have z23 := Try.sizeOf23; have v23 := Try.zeroValue23; have u23 := run_underlying t23
  have z29 := Try.sizeOf29
  have hz2 : ¬ ((i : Int) = (n : Int)) := by omega
  have hsz : (Try.prog.info? 29).map (·.size) = some 2 := by
    obtain ⟨i0, hi0, h0, h1, h2⟩ := info_parts insInfo24
    rw [hi0]; simp [h1]
  have hdl : (cs.drop (i * 2)).length = (n - i) * 2 := by rw [List.length_drop, hcl, Nat.sub_mul]
  have mixed := follows
  have hw0 : IntKind.i64.wrap ((n : Int) + 1) = (n : Int) + 1 := by rw [IntKind.wrap_i64]; omega
  have hw1 : IntKind.i64.wrap ((i : Int) + 1) = (i : Int) + 1 := by rw [IntKind.wrap_i64]; omega
  have hb0 : (0 : Int) ≤ (n : Int) + 1 := by omega
  have hb1 : (0 : Int) ≤ (i : Int) + 1 := by omega
  have hin : i ≤ n := by omega
  have htn : ((i : Int) + 1).toNat = i + 1 := by omega
  have htn2 : ((n : Int) + 1).toNat = n + 1 := by omega
  have hb2 : ¬ (c = i + 1) := by omega
  have hb3 : (i : Int) ≤ (n : Int) + 1 := by omega
  have hb4 : ¬ (c = i) := by omega
  have hb5 : ¬ ((c : Int) < (n : Int) + 1) := by omega
  have hb6 : (n : Int) + 1 ≤ (c : Int) := by omega
  have hcp1 : ∀ ty dc sc, (Builtin.copy_ #[23, 23] ty #[.slice (some ⟨b, (i + 1) * 2, none⟩) (n - i) dc, .slice (some ⟨b, i * 2, none⟩) (n + 1 - i) sc]).run Try.prog w.drew = .ok (goInt ((n - i : Nat) : Int)) (w.drew.setCells b ((i + 1) * 2) (cs.drop (i * 2))) := fun ty dc sc =>
    run_copy_rows w.drew _ _ ty 29 b ((i + 1) * 2) (n - i) dc ⟨b, i * 2, none⟩ (n + 1 - i) sc 2 (n - i) (cs.drop (i * 2)) t23 hsz (by simp only [Nat.min_def]; split <;> omega) hdl
      (fun j v hj => by rw [Addr.add_lit]; exact hcs (i * 2 + j) v (by rwa [List.getElem?_drop] at hj))
      (fun j hj => hsp _ (by rw [hdl] at hj; omega)) (fun j hj => hfz _ (by rw [hdl] at hj; omega)) (fun v hv => h1c v (List.mem_of_mem_drop hv))
  obtain ⟨W1, hW1⟩ : ∃ W1, W1 = w.drew.setCells b ((i + 1) * 2) (cs.drop (i * 2)) := ⟨_, rfl⟩
  have hsp1 : ∀ k, k < (n + 1) * 2 → (W1.cell? ⟨b, k, none⟩).isSome = true := fun k hk => by
    rw [hW1]
    exact isSome_setCells b (cs.drop (i * 2)) ((i + 1) * 2) w.drew (fun j hj => hsp ((i + 1) * 2 + j) (by rw [hdl] at hj; omega)) k (hsp k hk)
  have hcp2 : ∀ (W : World), (∀ x, W.cell? x = W1.cell? x) → (∀ x, W.frozen? x = W1.frozen? x) → ∀ ty dc, (Builtin.copy_ #[23, 23] ty #[.slice (some ⟨b, i * 2, none⟩) (n + 1 - i) dc, .slice (some ⟨vb, voff, none⟩) 1 vc]).run Try.prog W = .ok (goInt 1) (W.setCells b (i * 2) vs) := fun W hWc hWf ty dc =>
    run_copy_rows W _ _ ty 29 b (i * 2) (n + 1 - i) dc ⟨vb, voff, none⟩ 1 vc 2 1 vs t23 hsz (by simp only [Nat.min_def]; split <;> omega) (by rw [hvl])
      (fun j v hj => by
        rw [Addr.add_lit, hWc, hW1, World.cell?_setCells_out b _ _ _ _ (fun h _ => absurd h hvb)]
        exact hvs j v hj)
      (fun j hj => by rw [hWc]; exact hsp1 _ (by rw [hvl] at hj; omega)) (fun j hj => by rw [hWf, hW1, World.frozen?_setCells]; exact hfz _ (by rw [hvl] at hj; omega)) h1v
  rw [← hW1] at hcp1
  go_enter Try.func24, Try.ntmps24
  go_wp2_with (simp only [hov])
  go_region_law_o (refine step_copy_runI rfl _ _ 23 23 rfl _ _ (by simp [Act.eval, Act.put]) (by simp [Act.eval, Act.put]) (hcp1 _ _ _) ?_)
  go_wp2_with (at_builtin; refine wpList_copy_runI _ rfl _ _ 23 23 rfl _ _ rfl rfl (hcp2 _ (fun _ => rfl) (fun _ => rfl) _ _) ?_)
  go_ret
  first | exact ⟨rfl, rfl⟩ | exact ⟨rfl, by rw [hW1]⟩

set_option maxRecDepth 100000 in
set_option maxHeartbeats 4000000 in
theorem insRoom24 (b n c vb voff vc : Nat) (vs : List Value) (w : World) (hroom : n + 1 ≤ c) (hc63 : c ≤ 9223372036854775807) (hvl : vs.length = 2)
    (hsp : ∀ j, j < 2 → (w.cell? ⟨b, n * 2 + j, none⟩).isSome = true) (hfz : ∀ j, j < 2 → w.frozen? ⟨b, n * 2 + j, none⟩ = false)
    (hvs : ∀ j v, vs[j]? = some v → w.cell? ⟨vb, voff + j, none⟩ = some v) (h1v : ∀ v ∈ vs, v.oneCell' = true) :
    Calls Try.prog 24 #[.slice (some ⟨b, 0, none⟩) n c, .int .i64 n, .slice (some ⟨vb, voff, none⟩) 1 vc] w fun e w' =>
      e = .returned (.slice (some ⟨b, 0, none⟩) (n + 1) c) ∧ w' = w.setCells b (n * 2) vs := by
  have t0 := Try.underlying0; have a0 := Try.isAgg0; have z0 := Try.sizeOf0; have v0 := Try.zeroValue0; have u0 := run_underlying t0
  have t3 := Try.underlying3; have a3 := Try.isAgg3; have z3 := Try.sizeOf3; have v3 := Try.zeroValue3; have u3 := run_underlying t3
  have t4 := Try.underlying4; have a4 := Try.isAgg4; have z4 := Try.sizeOf4; have v4 := Try.zeroValue4; have u4 := run_underlying t4
  have t23 := Try.underlying23; have a23 := Try.isAgg23; have z23 := Try.sizeOf23; have v23 := Try.zeroValue23; have u23 := run_underlying t23
  have z29 := Try.sizeOf29
  obtain ⟨i0, hi0, hz0, hzs, hzb⟩ := info_parts insInfo24
  have mixed := follows
  have hsrc : Src Try.prog i0.size 23 (.slice (some ⟨vb, voff, none⟩) 1 vc) 1 vs w := by
    rw [hzs]
    exact Src.ofSlice w t23 ⟨vb, voff, none⟩ 1 vc vs (by omega) (fun j u hj => by rw [Addr.add_lit]; exact hvs j u hj) h1v
  have hrun : ∀ ty, (Builtin.append_ #[23, 23] ty #[.slice (some ⟨b, 0, none⟩) n c, .slice (some ⟨vb, voff, none⟩) 1 vc]).run Try.prog w = .ok (.slice (some ⟨b, 0, none⟩) (n + 1) c) (w.setCells b (n * 2) vs) := fun ty => by
    have h := run_append_room_src w 23 23 ty 29 i0 t23 hi0 b 0 n c _ 1 vs hsrc hroom (fun j hj => by rw [hzs, Nat.zero_add]; exact hsp j (by omega)) (fun j hj => by rw [hzs, Nat.zero_add]; exact hfz j (by omega))
    rw [hzs, Nat.zero_add] at h
    exact h
  go_enter Try.func24, Try.ntmps24
  go_wp2_with (at_builtin; refine Lib.wpList_append_run _ rfl _ _ _ _ rfl _ _ rfl rfl _ _ (hrun _) ?_)
  go_ret
  exact ⟨rfl, rfl⟩

set_option maxRecDepth 100000 in
set_option maxHeartbeats 4000000 in
theorem insEnd24 (base : Option Addr) (n c vb voff vc : Nat) (cs vs : List Value) (w : World) (hnc : n ≤ c) (hroom : c < n + 1) (hbig : (n + 1) * 32 ≤ 140737488355328)
    (hcl : cs.length = n * 2) (hvl : vs.length = 2) (hnil : base = none → n = 0) (hcs : ∀ a, base = some a → ∀ j v, cs[j]? = some v → w.cell? (a.add j) = some v)
    (hvs : ∀ j v, vs[j]? = some v → w.cell? ⟨vb, voff + j, none⟩ = some v) (h1v : ∀ v ∈ vs, v.oneCell' = true) :
    Calls Try.prog 24 #[.slice base n c, .int .i64 n, .slice (some ⟨vb, voff, none⟩) 1 vc] w fun e w' =>
      e = .returned (.slice (some ⟨w.heap.size, 0, none⟩) (n + 1) (grownCap w (n + 1) c 29)) ∧
      w' = w.drew.alloc (.cells ((cs ++ vs).toArray ++ Builtin.zeroCells (.agg #[.int .i64 0, .slice none 0 0] : Value).cells (grownCap w (n + 1) c 29 - (n + 1))) 29) := by
  have t0 := Try.underlying0; have a0 := Try.isAgg0; have z0 := Try.sizeOf0; have v0 := Try.zeroValue0; have u0 := run_underlying t0
  have t3 := Try.underlying3; have a3 := Try.isAgg3; have z3 := Try.sizeOf3; have v3 := Try.zeroValue3; have u3 := run_underlying t3
  have t4 := Try.underlying4; have a4 := Try.isAgg4; have z4 := Try.sizeOf4; have v4 := Try.zeroValue4; have u4 := run_underlying t4
  have t23 := Try.underlying23; have a23 := Try.isAgg23; have z23 := Try.sizeOf23; have v23 := Try.zeroValue23; have u23 := run_underlying t23
  have z29 := Try.sizeOf29
  obtain ⟨i0, hi0, hz0, hzs, hzb⟩ := info_parts insInfo24
  have mixed := follows
  have hsrc : Src Try.prog i0.size 23 (.slice (some ⟨vb, voff, none⟩) 1 vc) 1 vs w := by
    rw [hzs]
    exact Src.ofSlice w t23 ⟨vb, voff, none⟩ 1 vc vs (by omega) (fun j u hj => by rw [Addr.add_lit]; exact hvs j u hj) h1v
  have hold : (Builtin.firstCells i0.size n (.slice base n c)).run Try.prog w.drew = .ok cs.toArray w.drew := by
    rw [hzs]
    cases base with
    | none =>
      have h0 := hnil rfl
      subst h0
      rw [List.length_eq_zero_iff.1 (by omega : cs.length = 0)]
      exact run_firstCells_none w.drew 2 0 0 c
    | some a => exact run_firstCells_some w.drew 2 n a n c cs (by omega) (fun j v hj => hcs a rfl j v hj)
  have hrun : ∀ ty, (Builtin.append_ #[23, 23] ty #[.slice base n c, .slice (some ⟨vb, voff, none⟩) 1 vc]).run Try.prog w = _ := fun ty =>
    run_append_grow_src w 23 23 ty 29 i0 _ t23 hi0 hz0 base n c cs hold _ 1 vs hsrc hroom (by omega) (by rw [hzb]; exact growslice_fits hroom hbig)
  go_enter Try.func24, Try.ntmps24
  cases base with
  | none =>
    have h0 := hnil rfl
    subst h0
    go_wp2_with (at_builtin; refine Lib.wpList_append_run _ rfl _ _ _ _ rfl _ _ rfl rfl _ _ (hrun _) ?_)
    go_ret
    exact ⟨rfl, rfl⟩
  | some a =>
    obtain ⟨ab, ao, asp⟩ := a
    go_wp2_with (at_builtin; refine Lib.wpList_append_run _ rfl _ _ _ _ rfl _ _ rfl rfl _ _ (hrun _) ?_)
    all_goals (go_ret; exact ⟨rfl, rfl⟩)

set_option maxRecDepth 100000 in
set_option maxHeartbeats 4000000 in
theorem insGrow24 (b n c i vb voff vc : Nat) (cs vs : List Value) (w : World) (hi : i < n) (hnc : n ≤ c) (hroom : c < n + 1) (hbig : (n + 1) * 32 ≤ 140737488355328)
    (hcl : cs.length = n * 2) (hvl : vs.length = 2)
    (hcs : ∀ j v, cs[j]? = some v → w.cell? ⟨b, j, none⟩ = some v)
    (hvs : ∀ j v, vs[j]? = some v → w.cell? ⟨vb, voff + j, none⟩ = some v) (h1c : ∀ v ∈ cs, v.oneCell' = true) (h1v : ∀ v ∈ vs, v.oneCell' = true) :
    Calls Try.prog 24 #[.slice (some ⟨b, 0, none⟩) n c, .int .i64 i, .slice (some ⟨vb, voff, none⟩) 1 vc] w fun e w' =>
      e = .returned (.slice (some ⟨w.heap.size, 0, none⟩) (n + 1) (grownCap w (n + 1) c 29)) ∧
      w' = (((w.alloc (.cells ((cs.take (i * 2)).toArray ++ Builtin.zeroCells (.agg #[.int .i64 0, .slice none 0 0] : Value).cells (n + 1 - i) ++ Builtin.zeroCells (.agg #[.int .i64 0, .slice none 0 0] : Value).cells (grownCap w (n + 1) c 29 - (n + 1))) 29)).drew.setCells w.heap.size (i * 2) vs).drew).setCells w.heap.size ((i + 1) * 2) (cs.drop (i * 2)) := by
  have t0 := Try.underlying0; have a0 := Try.isAgg0; have z0 := Try.sizeOf0; have v0 := Try.zeroValue0; have u0 := run_underlying t0
  have t3 := Try.underlying3; have a3 := Try.isAgg3; have z3 := Try.sizeOf3; have v3 := Try.zeroValue3; have u3 := run_underlying t3
  have t4 := Try.underlying4; have a4 := Try.isAgg4; have z4 := Try.sizeOf4; have v4 := Try.zeroValue4; have u4 := run_underlying t4
  have t23 := Try.underlying23; have a23 := Try.isAgg23; have z23 := Try.sizeOf23; have v23 := Try.zeroValue23; have u23 := run_underlying t23
  have z29 := Try.sizeOf29
  have mixed := follows
  obtain ⟨i0, hi0, hz0, hzs, hzb⟩ := info_parts insInfo24
  have hz2 : ¬ ((i : Int) = (n : Int)) := by omega
  have hz3 : (c : Int) < (n : Int) + 1 := by omega
  have hsz : (Try.prog.info? 29).map (·.size) = some 2 := by rw [hi0]; simp [hzs]
  have hbw : b < w.heap.size := block_lt_of_cell (hcs 0 _ (List.getElem?_eq_getElem (by omega)))
  have hvw : vb < w.heap.size := block_lt_of_cell (hvs 0 _ (List.getElem?_eq_getElem (by omega)))
  have hkk : (n : Int) + 1 - (i : Int) = ((n + 1 - i : Nat) : Int) := by omega
  have hik : i + (n + 1 - i) = n + 1 := by omega
  have hold : (Builtin.firstCells i0.size i (.slice (some ⟨b, 0, none⟩) i c)).run Try.prog w.drew = .ok (cs.take (i * 2)).toArray w.drew := by
    rw [hzs]
    exact run_firstCells_some w.drew 2 i ⟨b, 0, none⟩ i c (cs.take (i * 2)) (by rw [List.length_take]; omega) (fun j v hj => by
      rw [Addr.add_lit, Nat.zero_add]
      rw [List.getElem?_take] at hj
      split at hj
      · exact hcs j v hj
      · cases hj)
  have hrz : ∀ ty, (Builtin.append_ #[23, 3] ty #[.slice (some ⟨b, 0, none⟩) i c, .int .i64 ((n : Int) + 1 - (i : Int))]).run Try.prog w =
      .ok (.slice (some ⟨w.heap.size, 0, none⟩) (n + 1) (grownCap w (n + 1) c 29)) (w.drew.alloc (.cells ((cs.take (i * 2)).toArray ++ Builtin.zeroCells (.agg #[.int .i64 0, .slice none 0 0] : Value).cells (n + 1 - i) ++ Builtin.zeroCells (.agg #[.int .i64 0, .slice none 0 0] : Value).cells (grownCap w (n + 1) c 29 - (n + 1))) 29)) := fun ty => by
    have h := Lib.run_append_grow_zeros w 23 3 ty 29 i0 _ .i64 .i64 t23 t3 hi0 hz0 (some ⟨b, 0, none⟩) i c (cs.take (i * 2)) hold (n + 1 - i) (by omega) (by omega) (by omega) (by omega) (by rw [hzb]; omega) (by rw [hzb, hik]; exact growslice_fits hroom hbig)
    rw [hik] at h
    rw [hkk]
    exact h
  obtain ⟨G, hG⟩ : ∃ G, G = grownCap w (n + 1) c 29 := ⟨_, rfl⟩
  obtain ⟨ROW, hROW⟩ : ∃ ROW : Array Value, ROW = (cs.take (i * 2)).toArray ++ Builtin.zeroCells (.agg #[.int .i64 0, .slice none 0 0] : Value).cells (n + 1 - i) ++ Builtin.zeroCells (.agg #[.int .i64 0, .slice none 0 0] : Value).cells (G - (n + 1)) := ⟨_, rfl⟩
  rw [← hG] at hrz ⊢
  rw [← hROW] at hrz ⊢
  have hGn : n + 1 ≤ G := by rw [hG]; exact grownCap_ge w _ _ _
  have hRl : (n + 1) * 2 ≤ ROW.size := by
    rw [hROW]
    simp [Builtin.zeroCells, Value.cells]
    omega
  obtain ⟨W1, hW1⟩ : ∃ W1, W1 = w.drew.alloc (.cells ROW 29) := ⟨_, rfl⟩
  rw [← hW1] at hrz
  have hN : ∀ j, j < (n + 1) * 2 → (W1.cell? ⟨w.heap.size, j, none⟩).isSome = true := fun j hj => by
    rw [hW1, World.cell?_alloc_at (w := w.drew) ROW _ w.heap.size j rfl, Array.getElem?_eq_getElem (by omega)]; rfl
  have hNf : ∀ j, W1.frozen? ⟨w.heap.size, j, none⟩ = false := fun j => by rw [hW1]; exact World.frozen?_alloc_at (w := w.drew) ROW _ w.heap.size j rfl
  have hOb : ∀ j v, w.cell? ⟨b, j, none⟩ = some v → W1.cell? ⟨b, j, none⟩ = some v := fun j v h => by rw [hW1, World.cell?_alloc_past (w := w.drew) _ b j hbw]; exact h
  have hOv : ∀ j v, w.cell? ⟨vb, j, none⟩ = some v → W1.cell? ⟨vb, j, none⟩ = some v := fun j v h => by rw [hW1, World.cell?_alloc_past (w := w.drew) _ vb j hvw]; exact h
  have hcpA : ∀ (W : World), (∀ x, W.cell? x = W1.cell? x) → (∀ x, W.frozen? x = W1.frozen? x) → ∀ ty dc, (Builtin.copy_ #[23, 23] ty #[.slice (some ⟨w.heap.size, i * 2, none⟩) (n + 1 - i) dc, .slice (some ⟨vb, voff, none⟩) 1 vc]).run Try.prog W = .ok (goInt 1) (W.setCells w.heap.size (i * 2) vs) := fun W hWc hWf ty dc =>
    run_copy_rows W _ _ ty 29 w.heap.size (i * 2) (n + 1 - i) dc ⟨vb, voff, none⟩ 1 vc 2 1 vs t23 hsz (by simp only [Nat.min_def]; split <;> omega) (by rw [hvl])
      (fun j v hj => by rw [Addr.add_lit, hWc]; exact hOv _ v (hvs j v hj))
      (fun j hj => by rw [hWc]; exact hN _ (by omega)) (fun j hj => by rw [hWf]; exact hNf _) h1v
  have hG63 : G ≤ 9223372036854775807 := by
    have := grownCap_le_maxLen w (n + 1) c 29 (by unfold maxLen; omega)
    rw [← hG] at this
    unfold maxLen at this
    omega
  have hGi : ¬ (G = i) := by omega
  have hGim : ¬ (G = i + 1) := by omega
  have hci : ¬ (c = i) := by omega
  have hbN : b ≠ w.heap.size := by omega
  have hdl : (cs.drop (i * 2)).length = (n - i) * 2 := by rw [List.length_drop, hcl, Nat.sub_mul]
  have hcpB : ∀ (W : World), (∀ x, W.cell? x = (W1.setCells w.heap.size (i * 2) vs).cell? x) → (∀ x, W.frozen? x = (W1.setCells w.heap.size (i * 2) vs).frozen? x) → ∀ ty dc sc, (Builtin.copy_ #[23, 23] ty #[.slice (some ⟨w.heap.size, (i + 1) * 2, none⟩) (n - i) dc, .slice (some ⟨b, i * 2, none⟩) (n - i) sc]).run Try.prog W = .ok (goInt ((n - i : Nat) : Int)) (W.setCells w.heap.size ((i + 1) * 2) (cs.drop (i * 2))) := fun W hWc hWf ty dc sc =>
    run_copy_rows W _ _ ty 29 w.heap.size ((i + 1) * 2) (n - i) dc ⟨b, i * 2, none⟩ (n - i) sc 2 (n - i) (cs.drop (i * 2)) t23 hsz (by simp only [Nat.min_def]; split <;> omega) hdl
      (fun j v hj => by
        rw [Addr.add_lit, hWc, World.cell?_setCells_out _ _ _ _ _ (fun h _ => absurd h hbN)]
        exact hOb _ v (hcs (i * 2 + j) v (by rwa [List.getElem?_drop] at hj)))
      (fun j hj => by rw [hWc]; exact isSome_setCells w.heap.size vs (i * 2) W1 (fun t ht => hN (i * 2 + t) (by omega)) ((i + 1) * 2 + j) (hN ((i + 1) * 2 + j) (by omega)))
      (fun j hj => by rw [hWf, World.frozen?_setCells]; exact hNf _) (fun v hv => h1c v (List.mem_of_mem_drop hv))
  subst hW1
  have hE1 : ∀ x, ((w.alloc (.cells ROW 29)).drew).cell? x = (w.drew.alloc (.cells ROW 29)).cell? x := fun x => rfl
  have hE2 : ∀ x, ((w.alloc (.cells ROW 29)).drew).frozen? x = (w.drew.alloc (.cells ROW 29)).frozen? x := fun x => rfl
  have hF1 : ∀ x, (((w.alloc (.cells ROW 29)).drew.setCells w.heap.size (i * 2) vs).drew).cell? x = ((w.drew.alloc (.cells ROW 29)).setCells w.heap.size (i * 2) vs).cell? x := fun x => rfl
  have hF2 : ∀ x, (((w.alloc (.cells ROW 29)).drew.setCells w.heap.size (i * 2) vs).drew).frozen? x = ((w.drew.alloc (.cells ROW 29)).setCells w.heap.size (i * 2) vs).frozen? x := fun x => rfl
  have hw0 : IntKind.i64.wrap ((n : Int) + 1) = (n : Int) + 1 := by rw [IntKind.wrap_i64]; omega
  have hw1 : IntKind.i64.wrap ((i : Int) + 1) = (i : Int) + 1 := by rw [IntKind.wrap_i64]; omega
  have hw2 : IntKind.i64.wrap ((n : Int) + 1 - (i : Int)) = (n : Int) + 1 - (i : Int) := by rw [IntKind.wrap_i64]; omega
  have hb1 : (0 : Int) ≤ (i : Int) + 1 := by omega
  have hin : i ≤ n := by omega
  have htn : ((i : Int) + 1).toNat = i + 1 := by omega
  have hb3 : (i : Int) ≤ (n : Int) := by omega
  clear hkk hik hold hROW hG hRl
  go_enter Try.func24, Try.ntmps24
  go_wp2_with (first
    | (at_builtin; refine Lib.wpList_append_run _ rfl _ _ _ _ rfl _ _ rfl rfl _ _ (hrz _) ?_)
    | (at_builtin; refine wpList_copy_runI _ rfl _ _ 23 23 rfl _ _ rfl rfl (hcpA _ hE1 hE2 _ _) ?_)
    | (at_builtin; refine wpList_copy_runI _ rfl _ _ 23 23 rfl _ _ rfl rfl (hcpB _ (fun _ => rfl) (fun _ => rfl) _ _ _) ?_))
  go_region_law_o (refine step_copy_runI rfl _ _ 23 23 rfl (.slice (some ⟨w.heap.size, (i + 1) * 2, none⟩) (n - i) (G - (i + 1))) (.slice (some ⟨b, i * 2, none⟩) (n - i) (c - i)) (by simp [Act.eval, Act.put]) (by simp [Act.eval, Act.put]) (hcpB _ hF1 hF2 3 (G - (i + 1)) (c - i)) ?_)
  go_wp2
  go_ret
  exact ⟨rfl, rfl⟩

theorem ct_slices_Insert_Pin (s_0 : List Api_Pin) (i_1 : Int) (v_2 : List Api_Pin) (r : List Api_Pin) (hF : slices_Insert_Pin s_0 i_1 v_2 = some r) : Ct Try.prog 24 [.row 29 2 (List.map encApi_Pin s_0), .g (.d (.v (.int .i64 i_1))), .g (.d (.sl 2 (List.map encApi_Pin v_2)))] (.new 29 2 (List.map encApi_Pin r)) := by
  unfold slices_Insert_Pin at hF
  obtain ⟨x, k, rfl, rfl, hk, hm, hb, rfl⟩ := insL_ok hF
  have hml : maxLen = 9223372036854775807 := rfl
  have h := ct_insert (P := Try.prog) (f := 24) (E := 29) (z := 2) (es := List.map encApi_Pin s_0) (x := encApi_Pin x) (i := k) (by simpa using hk) rfl
    (fun hnil w a vb vo vc vs hV => by
      have hs : s_0 = [] := by simpa using hnil
      subst hs
      have hk0 : k = 0 := by simpa using hk
      subst hk0
      refine (insEnd24 a 0 0 vb vo vc [] vs w (Nat.le_refl _) (by omega) (by omega) rfl hV.len (fun _ => rfl) (fun _ _ j v h => by simp at h) hV.cell hV.one).mono fun e w' ⟨h1, h2⟩ => ⟨_, h1, ?_⟩
      subst h2
      exact InsR.fresh (n := 0) (by simp [hV.len]) (zeroCells_size _ _) (grownCap_ge w _ _ _) (grownCap_le_maxLen w _ _ _ (by rw [hml]; omega)))
    (fun w b c cur vb vo vc vs hh hc hle hm2 hone hV => by
      have hl : (List.map encApi_Pin s_0).length = s_0.length := by simp
      rw [hl] at hle hone ⊢
      have hbc : s_0.length * 2 ≤ cur.size := by rw [hc]; exact Nat.mul_le_mul_right _ hle
      have hcl : (cur.toList.take (s_0.length * 2)).length = s_0.length * 2 := by have := Array.length_toList (xs := cur); rw [List.length_take]; omega
      have hcs : ∀ j v, (cur.toList.take (s_0.length * 2))[j]? = some v → w.cell? ⟨b, j, none⟩ = some v := fun j v hj => by
        have hlt := (List.getElem?_eq_some_iff.1 hj).1
        rw [hcl] at hlt
        rw [List.getElem?_take_of_lt hlt, Array.getElem?_toList] at hj
        rw [cell_of_cells hh]; exact hj
      have h1c : ∀ v ∈ cur.toList.take (s_0.length * 2), v.oneCell' = true := fun v hv => by
        obtain ⟨j, hj, e⟩ := List.getElem_of_mem hv
        have hg := List.getElem?_eq_getElem hj
        rw [hcl] at hj
        rw [e, List.getElem?_take_of_lt hj, Array.getElem?_toList] at hg
        exact hone j v hj hg
      have hvb : vb ≠ b := fun c => hV.apart (by rw [c])
      by_cases hr : s_0.length + 1 ≤ c
      · have hbr : (s_0.length + 1) * 2 ≤ cur.size := by rw [hc]; exact Nat.mul_le_mul_right _ hr
        have hsp : ∀ j, j < (s_0.length + 1) * 2 → (w.cell? ⟨b, j, none⟩).isSome = true := fun j hj => by
          rw [cell_of_cells hh, Array.getElem?_eq_getElem (by omega)]; rfl
        have hfz : ∀ j, w.frozen? ⟨b, j, none⟩ = false := fun j => by simp [World.frozen?, hh]
        by_cases hi : k = s_0.length
        · subst hi
          refine (insRoom24 b _ c vb vo vc vs w hr (by omega) hV.len (fun j hj => hsp _ (by omega)) (fun j _ => hfz _) hV.cell hV.one).mono fun e w' ⟨h1, h2⟩ => ⟨_, h1, ?_⟩
          subst h2
          exact InsR.room hh hc hr hm2 hV.len
        · obtain ⟨tv, kv, hs1, hs2⟩ := hV.shape
          refine (insShift24 b _ c k vb vo vc _ vs w (by omega) hr (by omega) hvb hcl hV.len hcs hsp (fun j _ => hfz j) hV.cell h1c hV.one (fun lb cb => insExt24 _ w w _ ?_)).mono fun e w' ⟨h1, h2⟩ => ⟨_, h1, ?_⟩
          · exact run_overlaps_plain w 23 4 29 Try.underlying23 2 Try.sizeOf29 _ _ 1 vc lb cb hvb tv 29 kv cur.size hs1 (by simp [World.shape?, hh]) hs2 (by omega) (hfz _) (by simp [World.frozen?, hh])
          · subst h2
            exact InsR.shift hh hc (by omega) hr hm2 hV.len
      · by_cases hi : k = s_0.length
        · subst hi
          refine (insEnd24 (some ⟨b, 0, none⟩) _ c vb vo vc _ vs w hle (by omega) hb hcl hV.len (fun c => (by cases c)) (fun a ha j v hj => by cases ha; rw [Addr.add_lit, Nat.zero_add]; exact hcs j v hj) hV.cell hV.one).mono fun e w' ⟨h1, h2⟩ => ⟨_, h1, ?_⟩
          subst h2
          rw [List.take_of_length_le (by rw [hcl]; exact Nat.le_refl _), List.drop_of_length_le (by rw [hcl]; exact Nat.le_refl _), List.append_nil]
          exact InsR.fresh (by rw [List.length_append, hcl, hV.len]; omega) (zeroCells_size _ _) (grownCap_ge w _ _ _) (grownCap_le_maxLen w _ _ _ (by rw [hml]; omega))
        · refine (insGrow24 b _ c k vb vo vc _ vs w (by omega) hle (by omega) hb hcl hV.len hcs hV.cell h1c hV.one).mono fun e w' ⟨h1, h2⟩ => ⟨_, h1, ?_⟩
          subst h2
          exact InsR.grow hcl (by omega) hV.len (zeroCells_size _ _) (zeroCells_size _ _) (grownCap_ge w _ _ _) (grownCap_le_maxLen w _ _ _ (by rw [hml]; omega)))
  rw [insL_map]
  exact h


set_option maxRecDepth 20000 in
set_option maxHeartbeats 2000000 in
theorem ct_pins_Put (l_0 : (List Api_Pin)) (p_1 : Api_Pin) (r : ((List Api_Pin) × Int)) (hF : pins_Put l_0 p_1 = some r) : Ct Try.prog 10 [.g (.d (.sl 2 (List.map encApi_Pin l_0))), .g (.agg (encApi_Pin p_1))] (.tup [.d (.sl 2 (List.map encApi_Pin r.1)), .d (.v (.int .i64 r.2))]) := by
  unfold pins_Put at hF
  refine Ct.intro Try.func10 rfl Try.ntmps10 rfl rfl fun M w => ?_
  refine G.seq ?_
  refine G.region ?_
  refine G.op2 (op_boxA (k := 1003) (Ev.t 1 (.g (.agg [.v (.int .i64 p_1.ID), .sl 3 (List.map encApi_Dep p_1.Deps)]))) rfl) rfl ⟨rfl, trivial⟩ ⟨rfl, trivial⟩ ?_
  refine G.op1 (op_assign (Ev.n 2) rfl) rfl trivial trivial ?_
  refine G.op1 (op_assign (Ev.c _ rfl) rfl) rfl trivial trivial ?_
  refine G.endOps ?_
  refine G.seq ?_
  refine G.region ?_
  refine G.op1 (op_move (Ev.t 0 (.g (.d (.sl 2 (List.map encApi_Pin l_0))))) rfl) rfl ⟨rfl, trivial⟩ trivial ?_
  refine G.op1 (op_fieldP (off' := 0) Try.underlying29 rfl ti3 (by decide) rfl (Ev.t 3 (.ptr 1003 0)) rfl) rfl ⟨rfl, trivial⟩ trivial ?_
  refine G.op1 (op_load1P (c := bI .i64 p_1.ID) Try.underlying3 rfl rfl (Ev.t 10 (.ptr 1003 0)) rfl) rfl ⟨rfl, trivial⟩ ⟨rfl, trivial⟩ ?_
  obtain ⟨r1, hr1, hF⟩ := bindS hF
  refine G.op1 (op_callQ (sv := .tup [bI .i64 r1.1, bB r1.2]) cf23 (ct_pins_find l_0 p_1.ID r1 hr1) rfl rfl (EvQL.cons (EvQ.g (Ev.t 9 (.g (.d (.sl 2 (List.map encApi_Pin l_0)))))) (EvQL.cons (EvQ.g (Ev.t 11 (bI .i64 p_1.ID))) EvQL.nil)) rfl) rfl ⟨rfl, rfl, trivial⟩ trivial ?_
  refine G.op1 (op_moveS (t := 12) (sv := .tup [bI .i64 r1.1, bB r1.2]) rfl) rfl ⟨rfl, trivial⟩ trivial ?_
  refine G.op1 (op_extract (l := [bI .i64 r1.1, bB r1.2]) (c := bI .i64 r1.1) rfl rfl) rfl ⟨rfl, trivial⟩ trivial ?_
  refine G.op1 (op_extract (l := [bI .i64 r1.1, bB r1.2]) (c := bB r1.2) rfl rfl) rfl ⟨rfl, trivial⟩ trivial ?_
  refine G.op1 (op_assign (Ev.t 13 (bI .i64 r1.1)) rfl) rfl ⟨rfl, trivial⟩ trivial ?_
  refine G.op1 (op_assign (Ev.t 14 (bB r1.2)) rfl) rfl ⟨rfl, trivial⟩ trivial ?_
  refine G.endOps ?_
  refine G.seq ?_
  refine G.block ?_
  refine G.seq ?_
  refine G.region ?_
  refine G.op1 (op_fieldP (off' := 0) Try.underlying29 rfl ti3 (by decide) rfl (Ev.t 3 (.ptr 1003 0)) rfl) rfl ⟨rfl, trivial⟩ trivial ?_
  refine G.op1 (op_load1P (c := bI .i64 p_1.ID) Try.underlying3 rfl rfl (Ev.t 16 (.ptr 1003 0)) rfl) rfl ⟨rfl, trivial⟩ ⟨rfl, trivial⟩ ?_
  refine G.op1 (op_lss (Ev.t 17 (bI .i64 p_1.ID)) (Ev.c _ rfl) rfl) rfl ⟨rfl, trivial⟩ trivial ?_
  refine G.op1 (op_assign (Ev.t 18 (bB (decide (p_1.ID < 1)))) rfl) rfl ⟨rfl, trivial⟩ trivial ?_
  refine G.endOps ?_
  refine ifS hF (fun hc2 hF => ?_) (fun hc2 hF => ?_)
  · refine G.cond rfl (fun _ => ?_) (fun hx => by rw [hc2] at hx; cases hx)
    refine G.seq ?_
    refine G.region ?_
    refine G.op1 (op_assign (Ev.n 2) rfl) rfl trivial trivial ?_
    refine G.op1 (op_assign (Ev.c _ rfl) rfl) rfl trivial trivial ?_
    refine G.endOps ?_
    cases hF
    exact G.ret2 Try.results10 (RVar.tmp 4 _) (RVar.tmp 5 _) ⟨rfl, rfl, trivial⟩ trivial
  · refine G.cond rfl (fun hx => by rw [hc2] at hx; cases hx) (fun _ => ?_)
    refine G.seq ?_
    refine G.region ?_
    refine G.op1 (op_move (Ev.t 7 (bB r1.2)) rfl) rfl ⟨rfl, trivial⟩ trivial ?_
    refine G.op1 (op_assign (Ev.t 20 (bB r1.2)) rfl) rfl ⟨rfl, trivial⟩ trivial ?_
    refine G.endOps ?_
    refine ifS hF (fun hc3 hF => ?_) (fun hc3 hF => ?_)
    · refine G.cond rfl (fun _ => ?_) (fun hx => by rw [hc3] at hx; cases hx)
      refine G.seq ?_
      refine G.region ?_
      refine G.op1 (op_assign (Ev.n 2) rfl) rfl trivial trivial ?_
      refine G.op1 (op_assign (Ev.c _ rfl) rfl) rfl trivial trivial ?_
      refine G.endOps ?_
      cases hF
      exact G.ret2 Try.results10 (RVar.tmp 4 _) (RVar.tmp 5 _) ⟨rfl, rfl, trivial⟩ trivial
    · refine G.cond rfl (fun hx => by rw [hc3] at hx; cases hx) (fun _ => ?_)
      refine G.seq ?_
      refine G.region ?_
      refine G.op1 (op_move (Ev.t 0 (.g (.d (.sl 2 (List.map encApi_Pin l_0))))) rfl) rfl ⟨rfl, trivial⟩ trivial ?_
      refine G.op1 (OpL.cast (op_lenD Try.underlying23 (Ev.t 22 (.g (.d (.sl 2 (List.map encApi_Pin l_0))))) rfl) (by rw [List.length_map])) rfl ⟨rfl, trivial⟩ trivial ?_
      refine G.op1 (op_geq (Ev.t 23 (bI .i64 (l_0.length : Int))) (Ev.c _ rfl) rfl) rfl ⟨rfl, trivial⟩ trivial ?_
      refine G.op1 (op_assign (Ev.t 24 (bB (decide (8 ≤ (l_0.length : Int))))) rfl) rfl ⟨rfl, trivial⟩ trivial ?_
      refine G.endOps ?_
      refine ifS hF (fun hc4 hF => ?_) (fun hc4 hF => ?_)
      · refine G.cond rfl (fun _ => ?_) (fun hx => by rw [hc4] at hx; cases hx)
        refine G.seq ?_
        refine G.region ?_
        refine G.op1 (op_assign (Ev.n 2) rfl) rfl trivial trivial ?_
        refine G.op1 (op_assign (Ev.c _ rfl) rfl) rfl trivial trivial ?_
        refine G.endOps ?_
        cases hF
        exact G.ret2 Try.results10 (RVar.tmp 4 _) (RVar.tmp 5 _) ⟨rfl, rfl, trivial⟩ trivial
      · refine G.cond rfl (fun hx => by rw [hc4] at hx; cases hx) (fun _ => ?_)
        refine G.skip ?_
        refine G.endBlock ?_
        refine G.seq ?_
        obtain ⟨r5, hr5, hF⟩ := bindS hF
        obtain ⟨r6, hr6, hF⟩ := bindS hF
        refine G.drawn (effs := [⟨[(0, .one (.g (.d (.sl 2 (List.map encApi_Pin l_0)))))], [], [(25, .one (.g (.d (.sl 2 (List.map encApi_Pin l_0)))))], []⟩, ⟨[(25, .one (.g (.d (.sl 2 (List.map encApi_Pin l_0)))))], [(2026, none)], [(26, .one (.own 2026 (List.map encApi_Pin r5)))], [(2026, some (.row 29 2 (List.map encApi_Pin r5) true))]⟩, ⟨[(6, .one (bI .i64 r1.1))], [], [(27, .one (bI .i64 r1.1))], []⟩, ⟨[(3, .one (.ptr 1003 0))], [(1003, some (.blk 29 [bI .i64 p_1.ID, .g (.d (.sl 3 (List.map encApi_Dep p_1.Deps)))]))], [(28, .one (.g (.agg [.v (.int .i64 p_1.ID), .sl 3 (List.map encApi_Dep p_1.Deps)])))], []⟩, ⟨[(28, .one (.g (.agg [.v (.int .i64 p_1.ID), .sl 3 (List.map encApi_Dep p_1.Deps)])))], [], [(29, .one (.g (.d (.sl 2 (List.map encApi_Pin ([p_1]))))))], []⟩, ⟨[(26, .one (.own 2026 (List.map encApi_Pin r5))), (27, .one (bI .i64 r1.1)), (29, .one (.g (.d (.sl 2 (List.map encApi_Pin ([p_1]))))))], [(2026, some (.row 29 2 (List.map encApi_Pin r5) true))], [(30, .one (.g (.d (.sl 2 (List.map encApi_Pin r6)))))], [(2026, some (.row 29 2 (List.map encApi_Pin r6) false))]⟩, ⟨[(30, .one (.g (.d (.sl 2 (List.map encApi_Pin r6)))))], [], [(4, .one (.g (.d (.sl 2 (List.map encApi_Pin r6)))))], []⟩, ⟨[], [], [(5, .one (bI .i64 0))], []⟩]) (deps := [[], [0], [], [], [3], [0, 1, 2, 3, 4], [0, 1, 2, 3, 4, 5], [0, 1, 2, 3, 4, 5, 6]]) (sl' := [(4, .one (.g (.d (.sl 2 (List.map encApi_Pin r6))))), (5, .one (bI .i64 0))]) (hp' := []) follows rfl rfl rfl ⟨⟨rfl, trivial⟩, trivial, ⟨rfl, trivial⟩, ⟨⟨rfl, rfl⟩, trivial⟩, ⟨rfl, trivial⟩, trivial, ⟨rfl, trivial⟩, ⟨⟨rfl, rfl⟩, trivial⟩, ⟨rfl, trivial⟩, trivial, ⟨rfl, rfl, rfl, trivial⟩, ⟨⟨rfl, rfl⟩, trivial⟩, ⟨rfl, trivial⟩, trivial, trivial, trivial, trivial⟩ ⟨OpW.plain (op_move (Ev.t 0 (.g (.d (.sl 2 (List.map encApi_Pin l_0))))) rfl) rfl rfl, OpW.plain (op_callNew (k := 2026) cf25 (ct_slices_Clone_Pin l_0 r5 hr5) (EvL.cons (Ev.t 25 (.g (.d (.sl 2 (List.map encApi_Pin l_0))))) EvL.nil) rfl) rfl rfl, OpW.plain (op_move (Ev.t 6 (bI .i64 r1.1)) rfl) rfl rfl, OpW.plain (op_loadAP (ds := [.v (.int .i64 p_1.ID), .sl 3 (List.map encApi_Dep p_1.Deps)]) Try.underlying29 rfl ti29 rfl (Ev.t 3 (.ptr 1003 0)) rfl) rfl rfl, OpW.plain (op_buildSlice (es := List.map encApi_Pin [p_1]) Try.underlying23 ti29 rfl rfl (EvP.cons (Ev.t 28 (.g (.agg [.v (.int .i64 p_1.ID), .sl 3 (List.map encApi_Dep p_1.Deps)]))) EvP.nil) rfl rfl (by simp [encApi_Pin]) rfl) rfl rfl, OpW.plain (OpL.view (OpL.share (op_callGrow cf24 (ct_slices_Insert_Pin r5 r1.1 ([p_1]) r6 hr6) (insL_len hr6) (Ev.t 26 (.own 2026 (List.map encApi_Pin r5))) (EvX.g (Ev.t 27 (bI .i64 r1.1)) (EvX.g (Ev.t 29 (.g (.d (.sl 2 (List.map encApi_Pin ([p_1])))))) EvX.nil)) rfl))) rfl rfl, OpW.plain (op_assign (Ev.t 30 (.g (.d (.sl 2 (List.map encApi_Pin r6))))) rfl) rfl rfl, OpW.plain (op_assign (Ev.c _ rfl) rfl) rfl rfl, trivial⟩ ⟨rfl, rfl, trivial⟩ trivial rfl ?_
        cases hF
        exact G.ret2 Try.results10 (RVar.tmp 4 _) (RVar.tmp 5 _) ⟨rfl, rfl, trivial⟩ trivial


set_option maxRecDepth 20000 in
set_option maxHeartbeats 2000000 in
theorem ct_law16_awake (r : Bool) (hF : law16_awake = some r) : Ct Try.prog 9 [] (.one (.d (.v (.bool r)))) := by
  unfold law16_awake at hF
  refine Ct.intro Try.func9 rfl Try.ntmps9 rfl rfl fun M w => ?_
  refine G.seq ?_
  refine G.region ?_
  refine G.op1 (op_assign (Ev.c _ rfl) rfl) rfl trivial trivial ?_
  refine G.endOps ?_
  refine G.seq ?_
  refine G.region ?_
  refine G.op1 (op_build (zs := [.v (.int .i64 0), .sl 3 (List.map encApi_Dep ([] : (List Api_Dep)))]) (ds := [.v (.int .i64 2), .sl 3 (List.map encApi_Dep ([] : (List Api_Dep)))]) Try.underlying29 ti29 (pl29 _ Try.underlying29) ⟨.v _ rfl, .n 3, trivial⟩ (EvP.cons (Ev.c _ rfl) EvP.nil) rfl rfl) rfl trivial trivial ?_
  obtain ⟨r1, hr1, hF⟩ := bindS hF
  refine G.op1 (op_call (sv := .tup [.g (.d (.sl 2 (List.map encApi_Pin r1.1))), bI .i64 r1.2]) cf10 (ct_pins_Put ([] : (List Api_Pin)) (Api_Pin.mk 2 ([] : (List Api_Dep))) r1 hr1) rfl (EvL.cons (Ev.n 2) (EvL.cons (Ev.t 7 (.g (.agg [.v (.int .i64 2), .sl 3 (List.map encApi_Dep ([] : (List Api_Dep)))]))) EvL.nil)) rfl) rfl ⟨rfl, trivial⟩ trivial ?_
  refine G.op1 (op_moveS (t := 8) (sv := .tup [.g (.d (.sl 2 (List.map encApi_Pin r1.1))), bI .i64 r1.2]) rfl) rfl ⟨rfl, trivial⟩ trivial ?_
  refine G.op1 (op_extract (l := [.g (.d (.sl 2 (List.map encApi_Pin r1.1))), bI .i64 r1.2]) (c := .g (.d (.sl 2 (List.map encApi_Pin r1.1)))) rfl rfl) rfl ⟨rfl, trivial⟩ trivial ?_
  refine G.op1 (op_extract (l := [.g (.d (.sl 2 (List.map encApi_Pin r1.1))), bI .i64 r1.2]) (c := bI .i64 r1.2) rfl rfl) rfl ⟨rfl, trivial⟩ trivial ?_
  refine G.op1 (op_assign (Ev.t 9 (.g (.d (.sl 2 (List.map encApi_Pin r1.1))))) rfl) rfl ⟨rfl, trivial⟩ trivial ?_
  refine G.op1 (op_assign (Ev.t 10 (bI .i64 r1.2)) rfl) rfl ⟨rfl, trivial⟩ trivial ?_
  refine G.endOps ?_
  refine G.seq ?_
  refine G.region ?_
  refine G.op1 (op_move (Ev.t 1 (.g (.d (.sl 2 (List.map encApi_Pin r1.1))))) rfl) rfl ⟨rfl, trivial⟩ trivial ?_
  refine G.op1 (op_build (zs := [.v (.int .i64 0), .sl 3 (List.map encApi_Dep ([] : (List Api_Dep)))]) (ds := [.v (.int .i64 1), .sl 3 (List.map encApi_Dep ([] : (List Api_Dep)))]) Try.underlying29 ti29 (pl29 _ Try.underlying29) ⟨.v _ rfl, .n 3, trivial⟩ (EvP.cons (Ev.c _ rfl) EvP.nil) rfl rfl) rfl trivial trivial ?_
  obtain ⟨r2, hr2, hF⟩ := bindS hF
  refine G.op1 (op_call (sv := .tup [.g (.d (.sl 2 (List.map encApi_Pin r2.1))), bI .i64 r2.2]) cf10 (ct_pins_Put r1.1 (Api_Pin.mk 1 ([] : (List Api_Dep))) r2 hr2) rfl (EvL.cons (Ev.t 12 (.g (.d (.sl 2 (List.map encApi_Pin r1.1))))) (EvL.cons (Ev.t 13 (.g (.agg [.v (.int .i64 1), .sl 3 (List.map encApi_Dep ([] : (List Api_Dep)))]))) EvL.nil)) rfl) rfl ⟨rfl, rfl, trivial⟩ trivial ?_
  refine G.op1 (op_moveS (t := 14) (sv := .tup [.g (.d (.sl 2 (List.map encApi_Pin r2.1))), bI .i64 r2.2]) rfl) rfl ⟨rfl, trivial⟩ trivial ?_
  refine G.op1 (op_extract (l := [.g (.d (.sl 2 (List.map encApi_Pin r2.1))), bI .i64 r2.2]) (c := .g (.d (.sl 2 (List.map encApi_Pin r2.1)))) rfl rfl) rfl ⟨rfl, trivial⟩ trivial ?_
  refine G.op1 (op_extract (l := [.g (.d (.sl 2 (List.map encApi_Pin r2.1))), bI .i64 r2.2]) (c := bI .i64 r2.2) rfl rfl) rfl ⟨rfl, trivial⟩ trivial ?_
  refine G.op1 (op_assign (Ev.t 15 (.g (.d (.sl 2 (List.map encApi_Pin r2.1))))) rfl) rfl ⟨rfl, trivial⟩ trivial ?_
  refine G.op1 (op_assign (Ev.t 16 (bI .i64 r2.2)) rfl) rfl ⟨rfl, trivial⟩ trivial ?_
  refine G.endOps ?_
  refine G.seq ?_
  refine G.region ?_
  refine G.op1 (op_move (Ev.t 1 (.g (.d (.sl 2 (List.map encApi_Pin r2.1))))) rfl) rfl ⟨rfl, trivial⟩ trivial ?_
  refine G.op1 (op_build (zs := [.v (.int .i64 0), .sl 3 (List.map encApi_Dep ([] : (List Api_Dep)))]) (ds := [.v (.int .i64 2), .sl 3 (List.map encApi_Dep ([] : (List Api_Dep)))]) Try.underlying29 ti29 (pl29 _ Try.underlying29) ⟨.v _ rfl, .n 3, trivial⟩ (EvP.cons (Ev.c _ rfl) EvP.nil) rfl rfl) rfl trivial trivial ?_
  obtain ⟨r3, hr3, hF⟩ := bindS hF
  refine G.op1 (op_call (sv := .tup [.g (.d (.sl 2 (List.map encApi_Pin r3.1))), bI .i64 r3.2]) cf10 (ct_pins_Put r2.1 (Api_Pin.mk 2 ([] : (List Api_Dep))) r3 hr3) rfl (EvL.cons (Ev.t 18 (.g (.d (.sl 2 (List.map encApi_Pin r2.1))))) (EvL.cons (Ev.t 19 (.g (.agg [.v (.int .i64 2), .sl 3 (List.map encApi_Dep ([] : (List Api_Dep)))]))) EvL.nil)) rfl) rfl ⟨rfl, rfl, trivial⟩ trivial ?_
  refine G.op1 (op_moveS (t := 20) (sv := .tup [.g (.d (.sl 2 (List.map encApi_Pin r3.1))), bI .i64 r3.2]) rfl) rfl ⟨rfl, trivial⟩ trivial ?_
  refine G.op1 (op_extract (l := [.g (.d (.sl 2 (List.map encApi_Pin r3.1))), bI .i64 r3.2]) (c := .g (.d (.sl 2 (List.map encApi_Pin r3.1)))) rfl rfl) rfl ⟨rfl, trivial⟩ trivial ?_
  refine G.op1 (op_extract (l := [.g (.d (.sl 2 (List.map encApi_Pin r3.1))), bI .i64 r3.2]) (c := bI .i64 r3.2) rfl rfl) rfl ⟨rfl, trivial⟩ trivial ?_
  refine G.op1 (op_assign (Ev.t 21 (.g (.d (.sl 2 (List.map encApi_Pin r3.1))))) rfl) rfl ⟨rfl, trivial⟩ trivial ?_
  refine G.op1 (op_assign (Ev.t 22 (bI .i64 r3.2)) rfl) rfl ⟨rfl, trivial⟩ trivial ?_
  refine G.endOps ?_
  refine G.seq ?_
  refine G.region ?_
  refine G.op1 (op_move (Ev.t 2 (bI .i64 r1.2)) rfl) rfl ⟨rfl, trivial⟩ trivial ?_
  refine G.op1 (op_eqI (Ev.t 23 (bI .i64 r1.2)) (Ev.c _ rfl) rfl) rfl ⟨rfl, trivial⟩ trivial ?_
  refine G.op1 (op_move (Ev.t 24 (bB (decide (r1.2 = 0)))) rfl) rfl ⟨rfl, trivial⟩ trivial ?_
  refine G.joinL (T := Bool) 3 (fun y4 => ⟨[(1, .one (.g (.d (.sl 2 (List.map encApi_Pin r2.1))))), (5, .one (bI .i64 r3.2)), (28, .one (bB y4))], []⟩) (fun y4 => law16_awake_k1 r2 r3 y4 = some r) (fun y4 hF => ?_) (fun J13 => ?_)
  · unfold law16_awake_k1 at hF
    refine G.op1 (op_move (Ev.t 28 (bB y4)) rfl) rfl ⟨rfl, trivial⟩ trivial ?_
    refine G.joinL (T := Bool) 3 (fun y5 => ⟨[(1, .one (.g (.d (.sl 2 (List.map encApi_Pin r2.1))))), (32, .one (bB y5))], []⟩) (fun y5 => law16_awake_k2 r2 y5 = some r) (fun y5 hF => ?_) (fun J11 => ?_)
    · unfold law16_awake_k2 at hF
      refine G.op1 (op_move (Ev.t 32 (bB y5)) rfl) rfl ⟨rfl, trivial⟩ trivial ?_
      refine G.joinL (T := Bool) 4 (fun y6 => ⟨[(1, .one (.g (.d (.sl 2 (List.map encApi_Pin r2.1))))), (37, .one (bB y6))], []⟩) (fun y6 => law16_awake_k3 r2 y6 = some r) (fun y6 hF => ?_) (fun J9 => ?_)
      · unfold law16_awake_k3 at hF
        refine G.op1 (op_move (Ev.t 37 (bB y6)) rfl) rfl ⟨rfl, trivial⟩ trivial ?_
        refine ifS hF (fun hc7 hF => ?_) (fun hc7 hF => ?_)
        · refine G.known (t := 38) hc7 rfl ?_
          refine G.opG1 (op_move (Ev.t 1 (.g (.d (.sl 2 (List.map encApi_Pin r2.1))))) rfl) rfl rfl rfl ⟨rfl, trivial⟩ trivial ?_
          obtain ⟨x8, hx8, hF⟩ := bindS hF
          refine G.opG1 (op_index (cs := [.v (.int .i64 x8.ID), .sl 3 (List.map encApi_Dep x8.Deps)]) Try.underlying23 ti29 (idx_ok hx8).1 (idx_get hx8 encApi_Pin) (Ev.t 39 (.g (.d (.sl 2 (List.map encApi_Pin r2.1))))) (Ev.c _ rfl) rfl) rfl rfl rfl ⟨rfl, trivial⟩ trivial ?_
          refine G.opG1 (op_fieldE (cs' := [.v (.int .i64 x8.ID), .sl 3 (List.map encApi_Dep x8.Deps)]) Try.underlying29 rfl ti3 (by decide) rfl (Ev.t 40 (.ep [.v (.int .i64 x8.ID), .sl 3 (List.map encApi_Dep x8.Deps)])) rfl) rfl rfl rfl ⟨rfl, trivial⟩ trivial ?_
          refine G.opG1 (op_load1E (c := .v (.int .i64 x8.ID)) Try.underlying3 rfl rfl (Ev.t 41 (.ep [.v (.int .i64 x8.ID), .sl 3 (List.map encApi_Dep x8.Deps)])) rfl) rfl rfl rfl ⟨rfl, trivial⟩ trivial ?_
          refine G.opG1 (op_eqI (Ev.t 42 (bI .i64 x8.ID)) (Ev.c _ rfl) rfl) rfl rfl rfl ⟨rfl, trivial⟩ trivial ?_
          refine G.op1 (op_pickT (Ev.t 38 (bB true)) (Ev.t 43 (bB (decide (x8.ID = 1)))) rfl) rfl ⟨rfl, rfl, trivial⟩ trivial ?_
          refine G.op1 (op_assign (Ev.t 44 (bB (decide (x8.ID = 1)))) rfl) rfl ⟨rfl, trivial⟩ trivial ?_
          refine G.endOps ?_
          cases hF
          exact G.ret1 Try.results9 (RVar.tmp 0 _) ⟨rfl, trivial⟩ trivial
        · refine G.known (t := 38) hc7 rfl ?_
          refine G.opN1 rfl rfl rfl rfl rfl ?_
          refine G.opN1 rfl rfl rfl rfl rfl ?_
          refine G.opN1 rfl rfl rfl rfl rfl ?_
          refine G.opN1 rfl rfl rfl rfl rfl ?_
          refine G.opN1 rfl rfl rfl rfl rfl ?_
          refine G.op1 (op_pickF (Ev.t 38 (bB false)) (Ev.c _ rfl) rfl) rfl ⟨rfl, trivial⟩ trivial ?_
          refine G.op1 (op_assign (Ev.t 44 (bB false)) rfl) rfl ⟨rfl, trivial⟩ trivial ?_
          refine G.endOps ?_
          cases hF
          exact G.ret1 Try.results9 (RVar.tmp 0 _) ⟨rfl, trivial⟩ trivial
      refine ifS hF (fun hc10 hF => ?_) (fun hc10 hF => ?_)
      · refine G.known (t := 33) hc10 rfl ?_
        refine G.opG1 (op_move (Ev.t 1 (.g (.d (.sl 2 (List.map encApi_Pin r2.1))))) rfl) rfl rfl rfl ⟨rfl, trivial⟩ trivial ?_
        refine G.opG1 (OpL.cast (op_lenD Try.underlying23 (Ev.t 34 (.g (.d (.sl 2 (List.map encApi_Pin r2.1))))) rfl) (by rw [List.length_map])) rfl rfl rfl ⟨rfl, trivial⟩ trivial ?_
        refine G.opG1 (op_eqI (Ev.t 35 (bI .i64 (r2.1.length : Int))) (Ev.c _ rfl) rfl) rfl rfl rfl ⟨rfl, trivial⟩ trivial ?_
        refine G.op1 (op_pickT (Ev.t 33 (bB true)) (Ev.t 36 (bB (decide ((r2.1.length : Int) = 2)))) rfl) rfl ⟨rfl, rfl, trivial⟩ trivial ?_
        exact G.arr (J9 (decide ((r2.1.length : Int) = 2)) hF) ⟨rfl, rfl, trivial⟩ trivial rfl
      · refine G.known (t := 33) hc10 rfl ?_
        refine G.opN1 rfl rfl rfl rfl rfl ?_
        refine G.opN1 rfl rfl rfl rfl rfl ?_
        refine G.opN1 rfl rfl rfl rfl rfl ?_
        refine G.op1 (op_pickF (Ev.t 33 (bB false)) (Ev.c _ rfl) rfl) rfl ⟨rfl, trivial⟩ trivial ?_
        exact G.arr (J9 false hF) ⟨rfl, rfl, trivial⟩ trivial rfl
    refine ifS hF (fun hc12 hF => ?_) (fun hc12 hF => ?_)
    · refine G.known (t := 29) hc12 rfl ?_
      refine G.opG1 (op_move (Ev.t 5 (bI .i64 r3.2)) rfl) rfl rfl rfl ⟨rfl, trivial⟩ trivial ?_
      refine G.opG1 (op_eqI (Ev.t 30 (bI .i64 r3.2)) (Ev.c _ rfl) rfl) rfl rfl rfl ⟨rfl, trivial⟩ trivial ?_
      refine G.op1 (op_pickT (Ev.t 29 (bB true)) (Ev.t 31 (bB (decide (r3.2 = 13)))) rfl) rfl ⟨rfl, rfl, trivial⟩ trivial ?_
      exact G.arr (J11 (decide (r3.2 = 13)) hF) ⟨rfl, rfl, trivial⟩ trivial rfl
    · refine G.known (t := 29) hc12 rfl ?_
      refine G.opN1 rfl rfl rfl rfl rfl ?_
      refine G.opN1 rfl rfl rfl rfl rfl ?_
      refine G.op1 (op_pickF (Ev.t 29 (bB false)) (Ev.c _ rfl) rfl) rfl ⟨rfl, trivial⟩ trivial ?_
      exact G.arr (J11 false hF) ⟨rfl, rfl, trivial⟩ trivial rfl
  refine ifS hF (fun hc14 hF => ?_) (fun hc14 hF => ?_)
  · refine G.known (t := 25) hc14 rfl ?_
    refine G.opG1 (op_move (Ev.t 3 (bI .i64 r2.2)) rfl) rfl rfl rfl ⟨rfl, trivial⟩ trivial ?_
    refine G.opG1 (op_eqI (Ev.t 26 (bI .i64 r2.2)) (Ev.c _ rfl) rfl) rfl rfl rfl ⟨rfl, trivial⟩ trivial ?_
    refine G.op1 (op_pickT (Ev.t 25 (bB true)) (Ev.t 27 (bB (decide (r2.2 = 0)))) rfl) rfl ⟨rfl, rfl, trivial⟩ trivial ?_
    exact G.arr (J13 (decide (r2.2 = 0)) hF) ⟨rfl, rfl, rfl, trivial⟩ trivial rfl
  · refine G.known (t := 25) hc14 rfl ?_
    refine G.opN1 rfl rfl rfl rfl rfl ?_
    refine G.opN1 rfl rfl rfl rfl rfl ?_
    refine G.op1 (op_pickF (Ev.t 25 (bB false)) (Ev.c _ rfl) rfl) rfl ⟨rfl, trivial⟩ trivial ?_
    exact G.arr (J13 false hF) ⟨rfl, rfl, rfl, trivial⟩ trivial rfl


theorem delInfo26 : (Try.prog.info? 29).map (fun i => (i.zero, i.size, i.bytes)) = some (some (.agg #[.int .i64 0, .slice none 0 0]), 2, 32) := by kernel_rfl

set_option maxRecDepth 100000 in
set_option maxHeartbeats 4000000 in
theorem delRow26 (b n c i : Nat) (cs : List Value) (w : World) (hi : i ≤ n) (hroom : n + 1 ≤ c) (hc63 : c ≤ 9223372036854775807)
    (hcl : cs.length = (n + 1) * 2) (hcs : ∀ j v, cs[j]? = some v → w.cell? ⟨b, j, none⟩ = some v) (hfz : ∀ j, w.frozen? ⟨b, j, none⟩ = false) (h1c : ∀ v ∈ cs, v.oneCell' = true) :
    Calls Try.prog 26 #[.slice (some ⟨b, 0, none⟩) (n + 1) c, .int .i64 i, .int .i64 ((i : Int) + 1)] w fun e w' =>
      e = .returned (.slice (some ⟨b, 0, none⟩) n c) ∧ w' = (w.drew.setCells b (i * 2) (cs.drop ((i + 1) * 2))).setCells b (n * 2) (.agg #[.int .i64 0, .slice none 0 0] : Value).cells.toList := by
  have t23 := Try.underlying23; have a23 := Try.isAgg23; have z23 := Try.sizeOf23; have v23 := Try.zeroValue23; have u23 := run_underlying t23
  have t3 := Try.underlying3; have a3 := Try.isAgg3; have z3 := Try.sizeOf3; have v3 := Try.zeroValue3; have u3 := run_underlying t3
  have t4 := Try.underlying4; have a4 := Try.isAgg4; have z4 := Try.sizeOf4; have v4 := Try.zeroValue4; have u4 := run_underlying t4
  have t29 := Try.underlying29; have a29 := Try.isAgg29; have z29 := Try.sizeOf29; have v29 := Try.zeroValue29; have u29 := run_underlying t29
  obtain ⟨i0, hi0, hz0, hzs, hzb⟩ := info_parts delInfo26
  have mixed := follows
  have hdl : (cs.drop ((i + 1) * 2)).length = (n - i) * 2 := by rw [List.length_drop, hcl, Nat.sub_mul]; omega
  have hsp : ∀ j, j < (n + 1) * 2 → (w.cell? ⟨b, j, none⟩).isSome = true := fun j hj => by rw [hcs j _ (List.getElem?_eq_getElem (by omega))]; rfl
  have hap : ∀ (ad : Addr) (cc : Nat), (n - i = 0 ∨ ad = ⟨b, (i + 1) * 2, none⟩) → ∀ ty, (Builtin.append_ #[23, 23] ty #[.slice (some ⟨b, 0, none⟩) i c, .slice (some ad) (n - i) cc]).run Try.prog w.drew = .ok (.slice (some ⟨b, 0, none⟩) n c) (w.drew.setCells b (i * 2) (cs.drop ((i + 1) * 2))) := fun ad cc had ty => by
    have hsrc : Src Try.prog i0.size 23 (.slice (some ad) (n - i) cc) (n - i) (cs.drop ((i + 1) * 2)) w.drew := by
      rw [hzs]
      exact Src.ofSlice w.drew t23 ad (n - i) cc _ hdl (fun j u hj => by
        rcases had with h | rfl
        · rw [h, Nat.zero_mul] at hdl
          rw [List.length_eq_zero_iff.1 hdl] at hj
          simp at hj
        · rw [Addr.add_lit]
          rw [List.getElem?_drop] at hj
          exact hcs _ u hj) (fun v hv => h1c v (List.mem_of_mem_drop hv))
    have h := run_append_room_src w.drew 23 23 ty 29 i0 t23 hi0 b 0 i c _ (n - i) (cs.drop ((i + 1) * 2)) hsrc (by omega)
      (fun j hj => by rw [hzs, Nat.zero_add]; exact hsp _ (by rw [hdl, Nat.sub_mul] at hj; omega)) (fun j hj => by rw [hzs, Nat.zero_add]; exact hfz _)
    rw [hzs, Nat.zero_add, show i + (n - i) = n by omega] at h
    exact h
  obtain ⟨W1, hW1⟩ : ∃ W1, W1 = w.drew.setCells b (i * 2) (cs.drop ((i + 1) * 2)) := ⟨_, rfl⟩
  have hsp1 : ∀ k, k < (n + 1) * 2 → (W1.cell? ⟨b, k, none⟩).isSome = true := fun k hk => by
    rw [hW1]
    exact isSome_setCells b (cs.drop ((i + 1) * 2)) (i * 2) w.drew (fun j hj => hsp (i * 2 + j) (by rw [hdl, Nat.sub_mul] at hj; omega)) k (hsp k hk)
  have hclr : ∀ (W : World), (∀ x, W.cell? x = W1.cell? x) → (∀ x, W.frozen? x = W1.frozen? x) → ∀ ty cc, (Builtin.clear_ #[23] ty #[.slice (some ⟨b, n * 2, none⟩) 1 cc]).run Try.prog W = .ok (.tuple #[]) (W.setCells b (n * 2) (.agg #[.int .i64 0, .slice none 0 0] : Value).cells.toList) := fun W hWc hWf ty cc =>
    run_clear_row W 23 29 ty (.agg #[.int .i64 0, .slice none 0 0]) t23 v29 (by decide) b (n * 2) cc
      (fun j hj => by rw [hWc]; exact hsp1 _ (by have : j < 2 := hj; omega)) (fun j _ => by rw [hWf, hW1, World.frozen?_setCells]; exact hfz _)
  rw [← hW1] at hap
  have hw1 : IntKind.i64.wrap ((i : Int) + 1) = (i : Int) + 1 := by rw [IntKind.wrap_i64]; omega
  have hb0 : (0 : Int) ≤ (i : Int) + 1 := by omega
  have hb1 : (i : Int) ≤ (i : Int) + 1 := by omega
  have hb2 : (i : Int) + 1 ≤ (n : Int) + 1 := by omega
  have hb3 : (n : Int) + 1 ≤ (c : Int) := by omega
  have hb4 : ¬ ((i : Int) = (i : Int) + 1) := by omega
  have hb5 : ¬ (n + 1 = i) := by omega
  have hb6 : ¬ (c = 0) := by omega
  have hb7 : ¬ (c = n) := by omega
  have hb8 : (n : Int) ≤ (n : Int) + 1 := by omega
  have hb9 : (i : Int) ≤ (c : Int) := by omega
  have htn : ((i : Int) + 1).toNat = i + 1 := by omega
  have htn2 : ((n : Int) + 1).toNat = n + 1 := by omega
  have hsub1 : n + 1 - (i + 1) = n - i := by omega
  have hsub2 : n + 1 - n = 1 := by omega
  by_cases hci : c = i + 1
  · subst hci
    obtain rfl : i = n := by omega
    have hnil : cs.drop ((i + 1) * 2) = [] := List.drop_of_length_le (by omega)
    have hap1 : ∀ (ad : Addr) (cc : Nat) ty, (Builtin.append_ #[23, 23] ty #[.slice (some ⟨b, 0, none⟩) i (i + 1), .slice (some ad) 0 cc]).run Try.prog w.drew = .ok (.slice (some ⟨b, 0, none⟩) i (i + 1)) W1 := fun ad cc ty => by
      have h := hap ad cc (.inl (Nat.sub_self i)) ty
      rw [Nat.sub_self] at h
      exact h
    have hclr1 := hclr w.drew (fun _ => by rw [hW1, hnil]; rfl) (fun _ => by rw [hW1, hnil]; rfl)
    go_enter Try.func26, Try.ntmps26
    go_wp2
    go_region_law_o (refine step_append_runI rfl _ _ 23 23 rfl _ _ (by simp [Act.eval, Act.put]) (by simp [Act.eval, Act.put]) (hap1 _ _ _) ?_)
    go_wp2_with (simp only [hclr1])
    go_ret
    first | exact ⟨rfl, rfl⟩ | exact ⟨rfl, by rw [hnil]; rfl⟩
  · have hclr1 := hclr W1 (fun _ => rfl) (fun _ => rfl)
    go_enter Try.func26, Try.ntmps26
    go_wp2
    go_region_law_o (refine step_append_runI rfl _ _ 23 23 rfl (.slice (some ⟨b, 0, none⟩) i c) (.slice (some ⟨b, (i + 1) * 2, none⟩) (n - i) (c - (i + 1))) (by simp [Act.eval, Act.put]) (by simp [Act.eval, Act.put]) (hap ⟨b, (i + 1) * 2, none⟩ (c - (i + 1)) (.inr rfl) 23) ?_)
    go_wp2_with (simp only [hclr1])
    go_ret
    first | exact ⟨rfl, rfl⟩ | exact ⟨rfl, by rw [hW1]⟩

theorem ct_slices_Delete_Pin (s_0 : List Api_Pin) (i_1 : Int) (j_2 : Int) (r : List Api_Pin) (hF : slices_Delete_Pin s_0 i_1 j_2 = some r) : Ct Try.prog 26 [.row 29 2 (List.map encApi_Pin s_0), .g (.d (.v (.int .i64 i_1))), .g (.d (.v (.int .i64 j_2)))] (.new 29 2 (List.map encApi_Pin r)) := by
  unfold slices_Delete_Pin at hF
  obtain ⟨k, rfl, rfl, hk, hm, rfl⟩ := delL_ok hF
  have hml : maxLen = 9223372036854775807 := rfl
  rw [delL_map]
  refine ct_delete (P := Try.prog) (f := 26) (E := 29) (z := 2) (es := List.map encApi_Pin s_0) (i := k) (by simpa using hk) fun w b c cur hh hc hle hm2 hone => ?_
  have hl : (List.map encApi_Pin s_0).length = s_0.length := by simp
  obtain ⟨n, hn⟩ : ∃ n, s_0.length = n + 1 := ⟨s_0.length - 1, by omega⟩
  rw [hl, hn] at hle hone ⊢
  rw [hn] at hk
  have hbc : (n + 1) * 2 ≤ cur.size := by rw [hc]; exact Nat.mul_le_mul_right _ hle
  have hcl : (cur.toList.take ((n + 1) * 2)).length = (n + 1) * 2 := by have := Array.length_toList (xs := cur); rw [List.length_take]; omega
  have hcs : ∀ j v, (cur.toList.take ((n + 1) * 2))[j]? = some v → w.cell? ⟨b, j, none⟩ = some v := fun j v hj => by
    have hlt := (List.getElem?_eq_some_iff.1 hj).1
    rw [hcl] at hlt
    rw [List.getElem?_take_of_lt hlt, Array.getElem?_toList] at hj
    rw [cell_of_cells hh]; exact hj
  have h1c : ∀ v ∈ cur.toList.take ((n + 1) * 2), v.oneCell' = true := fun v hv => by
    obtain ⟨j, hj, e⟩ := List.getElem_of_mem hv
    have hg := List.getElem?_eq_getElem hj
    rw [hcl] at hj
    rw [e, List.getElem?_take_of_lt hj, Array.getElem?_toList] at hg
    exact hone j v hj hg
  have hfz : ∀ j, w.frozen? ⟨b, j, none⟩ = false := fun j => by simp [World.frozen?, hh]
  refine (delRow26 b n c k _ w (by omega) hle (by omega) hcl hcs hfz h1c).mono fun e w' ⟨h1, h2⟩ => ⟨_, h1, ?_⟩
  subst h2
  exact InsR.del hh hc (by omega) hle hm2 rfl


set_option maxRecDepth 20000 in
set_option maxHeartbeats 2000000 in
theorem ct_pins_Drop (l_0 : (List Api_Pin)) (id_1 : Int) (r : ((List Api_Pin) × Int)) (hF : pins_Drop l_0 id_1 = some r) : Ct Try.prog 11 [.g (.d (.sl 2 (List.map encApi_Pin l_0))), .g (.d (.v (.int .i64 id_1)))] (.tup [.d (.sl 2 (List.map encApi_Pin r.1)), .d (.v (.int .i64 r.2))]) := by
  unfold pins_Drop at hF
  refine Ct.intro Try.func11 rfl Try.ntmps11 rfl rfl fun M w => ?_
  refine G.seq ?_
  refine G.region ?_
  refine G.op1 (op_assign (Ev.n 2) rfl) rfl trivial trivial ?_
  refine G.op1 (op_assign (Ev.c _ rfl) rfl) rfl trivial trivial ?_
  refine G.endOps ?_
  refine G.seq ?_
  refine G.region ?_
  refine G.op1 (op_move (Ev.t 0 (.g (.d (.sl 2 (List.map encApi_Pin l_0))))) rfl) rfl ⟨rfl, trivial⟩ trivial ?_
  refine G.op1 (op_move (Ev.t 1 (bI .i64 id_1)) rfl) rfl ⟨rfl, trivial⟩ trivial ?_
  obtain ⟨r1, hr1, hF⟩ := bindS hF
  refine G.op1 (op_callQ (sv := .tup [bI .i64 r1.1, bB r1.2]) cf23 (ct_pins_find l_0 id_1 r1 hr1) rfl rfl (EvQL.cons (EvQ.g (Ev.t 9 (.g (.d (.sl 2 (List.map encApi_Pin l_0)))))) (EvQL.cons (EvQ.g (Ev.t 10 (bI .i64 id_1))) EvQL.nil)) rfl) rfl ⟨rfl, rfl, trivial⟩ trivial ?_
  refine G.op1 (op_moveS (t := 11) (sv := .tup [bI .i64 r1.1, bB r1.2]) rfl) rfl ⟨rfl, trivial⟩ trivial ?_
  refine G.op1 (op_extract (l := [bI .i64 r1.1, bB r1.2]) (c := bI .i64 r1.1) rfl rfl) rfl ⟨rfl, trivial⟩ trivial ?_
  refine G.op1 (op_extract (l := [bI .i64 r1.1, bB r1.2]) (c := bB r1.2) rfl rfl) rfl ⟨rfl, trivial⟩ trivial ?_
  refine G.op1 (op_assign (Ev.t 12 (bI .i64 r1.1)) rfl) rfl ⟨rfl, trivial⟩ trivial ?_
  refine G.op1 (op_assign (Ev.t 13 (bB r1.2)) rfl) rfl ⟨rfl, trivial⟩ trivial ?_
  refine G.endOps ?_
  refine G.seq ?_
  refine G.seq ?_
  refine G.region ?_
  refine G.op1 (op_move (Ev.t 7 (bB r1.2)) rfl) rfl ⟨rfl, trivial⟩ trivial ?_
  refine G.op1 (op_not (Ev.t 14 (bB r1.2)) rfl) rfl ⟨rfl, trivial⟩ trivial ?_
  refine G.endOps ?_
  refine ifS hF (fun hc2 hF => ?_) (fun hc2 hF => ?_)
  · refine G.cond rfl (fun _ => ?_) (fun hx => by rw [hc2] at hx; cases hx)
    refine G.seq ?_
    refine G.region ?_
    refine G.op1 (op_assign (Ev.n 2) rfl) rfl trivial trivial ?_
    refine G.op1 (op_assign (Ev.c _ rfl) rfl) rfl trivial trivial ?_
    refine G.endOps ?_
    cases hF
    exact G.ret2 Try.results11 (RVar.tmp 4 _) (RVar.tmp 5 _) ⟨rfl, rfl, trivial⟩ trivial
  · refine G.cond rfl (fun hx => by rw [hc2] at hx; cases hx) (fun _ => ?_)
    refine G.skip ?_
    refine G.seq ?_
    refine G.region ?_
    refine G.op1 (op_move (Ev.t 0 (.g (.d (.sl 2 (List.map encApi_Pin l_0))))) rfl) rfl ⟨rfl, trivial⟩ trivial ?_
    obtain ⟨r3, hr3, hF⟩ := bindS hF
    refine G.op2 (op_callNew (k := 2017) cf25 (ct_slices_Clone_Pin l_0 r3 hr3) (EvL.cons (Ev.t 16 (.g (.d (.sl 2 (List.map encApi_Pin l_0))))) EvL.nil) rfl) rfl ⟨rfl, trivial⟩ ⟨rfl, trivial⟩ ?_
    refine G.op1 (op_move (Ev.t 6 (bI .i64 r1.1)) rfl) rfl ⟨rfl, trivial⟩ trivial ?_
    refine G.op1 (op_move (Ev.t 6 (bI .i64 r1.1)) rfl) rfl ⟨rfl, trivial⟩ trivial ?_
    refine G.op1 (op_add (Ev.t 19 (bI .i64 r1.1)) (Ev.c _ rfl) rfl) rfl ⟨rfl, trivial⟩ trivial ?_
    obtain ⟨r4, hr4, hF⟩ := bindS hF
    refine G.callRow (sl' := [(0, .one (.g (.d (.sl 2 (List.map encApi_Pin l_0))))), (1, .one (bI .i64 id_1)), (4, .one (.g (.d (.sl 2 (List.map encApi_Pin ([] : (List Api_Pin))))))), (5, .one (bI .i64 0)), (6, .one (bI .i64 r1.1)), (7, .one (bB r1.2)), (8, .tup [bI .i64 r1.1, bB r1.2]), (9, .one (.g (.d (.sl 2 (List.map encApi_Pin l_0))))), (10, .one (bI .i64 id_1)), (11, .tup [bI .i64 r1.1, bB r1.2]), (12, .one (bI .i64 r1.1)), (13, .one (bB r1.2)), (14, .one (bB r1.2)), (15, .one (bB (!r1.2))), (16, .one (.g (.d (.sl 2 (List.map encApi_Pin l_0))))), (18, .one (bI .i64 r1.1)), (19, .one (bI .i64 r1.1)), (20, .one (bI .i64 (IntKind.wrap .i64 (r1.1 + 1))))]) cf26 (ct_slices_Delete_Pin r3 r1.1 (IntKind.wrap .i64 (r1.1 + 1)) r4 hr4) (Ev.t 17 (.own 2017 (List.map encApi_Pin r3))) (EvX.g (Ev.t 18 (bI .i64 r1.1)) (EvX.g (Ev.t 20 (bI .i64 (IntKind.wrap .i64 (r1.1 + 1)))) EvX.nil)) rfl ⟨rfl, rfl, rfl, trivial⟩ ⟨rfl, trivial⟩ ⟨rfl, rfl, rfl, rfl, rfl, rfl, rfl, rfl, rfl, rfl, rfl, rfl, rfl, rfl, rfl, rfl, rfl, rfl, trivial⟩ rfl ?_
    refine G.op1 (op_assign (Ev.t 21 (.own 2017 (List.map encApi_Pin r4))) rfl) rfl ⟨rfl, trivial⟩ trivial ?_
    refine G.op1 (op_assign (Ev.c _ rfl) rfl) rfl trivial trivial ?_
    refine G.endOps ?_
    refine G.share (k' := 2017) rfl ?_
    refine G.view (t := 4) rfl rfl ?_
    cases hF
    exact G.ret2 Try.results11 (RVar.tmp 4 _) (RVar.tmp 5 _) ⟨rfl, rfl, trivial⟩ trivial


set_option maxRecDepth 20000 in
set_option maxHeartbeats 2000000 in
theorem ct_pins_Get (l_0 : (List Api_Pin)) (id_1 : Int) (r : (Api_Pin × Bool)) (hF : pins_Get l_0 id_1 = some r) : Ct Try.prog 12 [.g (.d (.sl 2 (List.map encApi_Pin l_0))), .g (.d (.v (.int .i64 id_1)))] (.tup [.agg (encApi_Pin r.1), .d (.v (.bool r.2))]) := by
  unfold pins_Get at hF
  refine Ct.intro Try.func12 rfl Try.ntmps12 rfl rfl fun M w => ?_
  refine G.seq ?_
  refine G.region ?_
  refine G.op2 (op_alloc (k := 1004) (cs := [bI .i64 0, .g (.d (.sl 3 (List.map encApi_Dep ([] : (List Api_Dep)))))]) ti29 ⟨.v _ rfl, .n 3, trivial⟩ rfl) rfl trivial ⟨rfl, trivial⟩ ?_
  refine G.op1 (op_assign (Ev.c _ rfl) rfl) rfl trivial trivial ?_
  refine G.endOps ?_
  refine G.seq ?_
  refine G.region ?_
  refine G.op1 (op_move (Ev.t 0 (.g (.d (.sl 2 (List.map encApi_Pin l_0))))) rfl) rfl ⟨rfl, trivial⟩ trivial ?_
  refine G.op1 (op_move (Ev.t 1 (bI .i64 id_1)) rfl) rfl ⟨rfl, trivial⟩ trivial ?_
  obtain ⟨r1, hr1, hF⟩ := bindS hF
  refine G.op1 (op_callQ (sv := .tup [bI .i64 r1.1, bB r1.2]) cf23 (ct_pins_find l_0 id_1 r1 hr1) rfl rfl (EvQL.cons (EvQ.g (Ev.t 9 (.g (.d (.sl 2 (List.map encApi_Pin l_0)))))) (EvQL.cons (EvQ.g (Ev.t 10 (bI .i64 id_1))) EvQL.nil)) rfl) rfl ⟨rfl, rfl, trivial⟩ trivial ?_
  refine G.op1 (op_moveS (t := 11) (sv := .tup [bI .i64 r1.1, bB r1.2]) rfl) rfl ⟨rfl, trivial⟩ trivial ?_
  refine G.op1 (op_extract (l := [bI .i64 r1.1, bB r1.2]) (c := bI .i64 r1.1) rfl rfl) rfl ⟨rfl, trivial⟩ trivial ?_
  refine G.op1 (op_extract (l := [bI .i64 r1.1, bB r1.2]) (c := bB r1.2) rfl rfl) rfl ⟨rfl, trivial⟩ trivial ?_
  refine G.op1 (op_assign (Ev.t 12 (bI .i64 r1.1)) rfl) rfl ⟨rfl, trivial⟩ trivial ?_
  refine G.op1 (op_assign (Ev.t 13 (bB r1.2)) rfl) rfl ⟨rfl, trivial⟩ trivial ?_
  refine G.endOps ?_
  refine G.seq ?_
  refine G.seq ?_
  refine G.region ?_
  refine G.op1 (op_move (Ev.t 7 (bB r1.2)) rfl) rfl ⟨rfl, trivial⟩ trivial ?_
  refine G.op1 (op_not (Ev.t 14 (bB r1.2)) rfl) rfl ⟨rfl, trivial⟩ trivial ?_
  refine G.endOps ?_
  refine ifS hF (fun hc2 hF => ?_) (fun hc2 hF => ?_)
  · refine G.cond rfl (fun _ => ?_) (fun hx => by rw [hc2] at hx; cases hx)
    refine G.seq ?_
    refine G.region ?_
    refine G.op1 (op_build (zs := [.v (.int .i64 0), .sl 3 (List.map encApi_Dep ([] : (List Api_Dep)))]) (ds := [.v (.int .i64 0), .sl 3 (List.map encApi_Dep ([] : (List Api_Dep)))]) Try.underlying29 ti29 (pl29 _ Try.underlying29) ⟨.v _ rfl, .n 3, trivial⟩ EvP.nil rfl rfl) rfl trivial trivial ?_
    refine G.op3 (op_storeA (cs' := [bI .i64 0, .g (.d (.sl 3 (List.map encApi_Dep ([] : (List Api_Dep)))))]) ti29 rfl rfl (Ev.t 4 (.ptr 1004 0)) (Ev.t 16 (.g (.agg [.v (.int .i64 0), .sl 3 (List.map encApi_Dep ([] : (List Api_Dep)))])))) rfl ⟨rfl, rfl, trivial⟩ ⟨rfl, trivial⟩ ?_
    refine G.op1 (op_assign (Ev.c _ rfl) rfl) rfl trivial trivial ?_
    refine G.endOps ?_
    cases hF
    exact G.ret2 Try.results12 (RVar.cellA (ds := [.v (.int .i64 0), .sl 3 (List.map encApi_Dep ([] : (List Api_Dep)))]) Try.underlying29 rfl ti29 rfl) (RVar.tmp 5 _) ⟨rfl, rfl, trivial⟩ ⟨rfl, trivial⟩
  · refine G.cond rfl (fun hx => by rw [hc2] at hx; cases hx) (fun _ => ?_)
    refine G.skip ?_
    refine G.seq ?_
    refine G.region ?_
    refine G.op1 (op_move (Ev.t 0 (.g (.d (.sl 2 (List.map encApi_Pin l_0))))) rfl) rfl ⟨rfl, trivial⟩ trivial ?_
    refine G.op1 (op_move (Ev.t 6 (bI .i64 r1.1)) rfl) rfl ⟨rfl, trivial⟩ trivial ?_
    obtain ⟨x3, hx3, hF⟩ := bindS hF
    refine G.op1 (op_index (cs := [.v (.int .i64 x3.ID), .sl 3 (List.map encApi_Dep x3.Deps)]) Try.underlying23 ti29 (idx_ok hx3).1 (idx_get hx3 encApi_Pin) (Ev.t 17 (.g (.d (.sl 2 (List.map encApi_Pin l_0))))) (Ev.t 18 (bI .i64 r1.1)) rfl) rfl ⟨rfl, rfl, trivial⟩ trivial ?_
    refine G.op1 (op_loadAE (ds := [.v (.int .i64 x3.ID), .sl 3 (List.map encApi_Dep x3.Deps)]) Try.underlying29 rfl ti29 rfl (Ev.t 19 (.ep [.v (.int .i64 x3.ID), .sl 3 (List.map encApi_Dep x3.Deps)])) rfl) rfl ⟨rfl, trivial⟩ trivial ?_
    refine G.op3 (op_storeA (cs' := [bI .i64 x3.ID, .g (.d (.sl 3 (List.map encApi_Dep x3.Deps)))]) ti29 rfl rfl (Ev.t 4 (.ptr 1004 0)) (Ev.t 20 (.g (.agg [.v (.int .i64 x3.ID), .sl 3 (List.map encApi_Dep x3.Deps)])))) rfl ⟨rfl, rfl, trivial⟩ ⟨rfl, trivial⟩ ?_
    refine G.op1 (op_assign (Ev.c _ rfl) rfl) rfl trivial trivial ?_
    refine G.endOps ?_
    cases hF
    exact G.ret2 Try.results12 (RVar.cellA (ds := [.v (.int .i64 x3.ID), .sl 3 (List.map encApi_Dep x3.Deps)]) Try.underlying29 rfl ti29 rfl) (RVar.tmp 5 _) ⟨rfl, rfl, trivial⟩ ⟨rfl, trivial⟩


set_option maxRecDepth 20000 in
set_option maxHeartbeats 2000000 in
theorem ct_law16_PinsRise (l_0 : (List Int)) (r : Bool) (hF : law16_PinsRise l_0 = some r) : Ct Try.prog 4 [.g (.d (.sl 1 (List.map encI_i64 l_0)))] (.one (.d (.v (.bool r)))) := by
  unfold law16_PinsRise at hF
  refine Ct.intro Try.func4 rfl Try.ntmps4 rfl rfl fun M w => ?_
  refine G.seq ?_
  refine G.region ?_
  refine G.op1 (op_assign (Ev.c _ rfl) rfl) rfl trivial trivial ?_
  refine G.endOps ?_
  refine G.seq ?_
  refine G.region ?_
  obtain ⟨r1, hr1, hF⟩ := bindS hF
  refine G.op1 (op_callQ (sv := .one (bB r1)) cf9 (ct_law16_awake r1 hr1) rfl rfl EvQL.nil rfl) rfl trivial trivial ?_
  refine G.op1 (op_assign (Ev.t 20 (bB r1)) rfl) rfl ⟨rfl, trivial⟩ trivial ?_
  refine G.endOps ?_
  refine G.seq ?_
  refine G.region ?_
  refine G.op1 (op_assign (Ev.n 2) rfl) rfl trivial trivial ?_
  refine G.endOps ?_
  refine G.seq ?_
  refine G.seq ?_
  refine G.region ?_
  refine G.op1 (op_assign (Ev.c _ rfl) rfl) rfl trivial trivial ?_
  refine G.endOps ?_
  refine G.joinC (T := Unit) (fun y2 => ⟨[(3, .one (bB r1))], []⟩) (fun y2 => law16_PinsRise_k1 r1 y2 = some r) (fun y2 hF => ?_) (fun J3 => ?_)
  · unfold law16_PinsRise_k1 at hF
    refine G.seq ?_
    refine G.region ?_
    refine G.op1 (op_move (Ev.t 3 (bB r1)) rfl) rfl ⟨rfl, trivial⟩ trivial ?_
    refine G.op1 (op_assign (Ev.t 151 (bB r1)) rfl) rfl ⟨rfl, trivial⟩ trivial ?_
    refine G.endOps ?_
    cases hF
    exact G.ret1 Try.results4 (RVar.tmp 2 _) ⟨rfl, trivial⟩ trivial
  refine G.block ?_
  refine G.keep (sl' := [(0, .one (.g (.d (.sl 1 (List.map encI_i64 l_0))))), (3, .one (bB r1)), (4, .one (.g (.d (.sl 2 (List.map encApi_Pin ([] : (List Api_Pin))))))), (5, .one (bI .i64 0))]) (hp' := []) ⟨rfl, rfl, rfl, rfl, trivial⟩ trivial rfl ?_
  refine G.loopF (fun (v4 : (List Api_Pin) × Int) => ⟨[(0, .one (.g (.d (.sl 1 (List.map encI_i64 l_0))))), (3, .one (bB r1)), (4, .one (.g (.d (.sl 2 (List.map encApi_Pin v4.1))))), (5, .one (bI .i64 v4.2))], []⟩) hF rfl (fun K7 again6 v4 J5 hF => ?_)
  unfold law16_PinsRise_l2 at hF
  refine G.seq ?_
  refine G.seq ?_
  refine G.joinC (T := Bool) (fun y8 => ⟨[(0, .one (.g (.d (.sl 1 (List.map encI_i64 l_0))))), (3, .one (bB r1)), (4, .one (.g (.d (.sl 2 (List.map encApi_Pin v4.1))))), (5, .one (bI .i64 v4.2)), (28, .one (bB y8))], []⟩) (fun y8 => law16_PinsRise_k3 l_0 r1 again6 v4 y8 = some r) (fun y8 hF => ?_) (fun J56 => ?_)
  · unfold law16_PinsRise_k3 at hF
    refine ifS hF (fun hc9 hF => ?_) (fun hc9 hF => ?_)
    · refine G.cond rfl (fun _ => ?_) (fun hx => by rw [hc9] at hx; cases hx)
      refine G.skip ?_
      refine G.seq ?_
      refine G.joinC (T := (List Api_Pin)) (fun y10 => ⟨[(0, .one (.g (.d (.sl 1 (List.map encI_i64 l_0))))), (3, .one (bB r1)), (4, .one (.g (.d (.sl 2 (List.map encApi_Pin y10))))), (5, .one (bI .i64 v4.2))], []⟩) (fun y10 => law16_PinsRise_k4 again6 v4 y10 = some r) (fun y10 hF => ?_) (fun J11 => ?_)
      · unfold law16_PinsRise_k4 at hF
        refine G.region ?_
        refine G.op1 (op_move (Ev.t 5 (bI .i64 v4.2)) rfl) rfl ⟨rfl, trivial⟩ trivial ?_
        refine G.op1 (op_add (Ev.t 29 (bI .i64 v4.2)) (Ev.c _ rfl) rfl) rfl ⟨rfl, trivial⟩ trivial ?_
        refine G.op1 (op_assign (Ev.t 30 (bI .i64 (IntKind.wrap .i64 (v4.2 + 1)))) rfl) rfl ⟨rfl, trivial⟩ trivial ?_
        refine G.endOps ?_
        exact G.arr (J5 (y10, IntKind.wrap .i64 (v4.2 + 1)) hF) ⟨rfl, rfl, rfl, rfl, trivial⟩ trivial rfl
      refine G.block ?_
      refine G.seq ?_
      refine G.region ?_
      refine G.op1 (op_move (Ev.t 0 (.g (.d (.sl 1 (List.map encI_i64 l_0))))) rfl) rfl ⟨rfl, trivial⟩ trivial ?_
      refine G.op1 (op_move (Ev.t 5 (bI .i64 v4.2)) rfl) rfl ⟨rfl, trivial⟩ trivial ?_
      obtain ⟨x12, hx12, hF⟩ := bindS hF
      refine G.op1 (op_index (cs := [.v (.int .i64 x12)]) Try.underlying32 ti3 (idx_ok hx12).1 (idx_get hx12 encI_i64) (Ev.t 31 (.g (.d (.sl 1 (List.map encI_i64 l_0))))) (Ev.t 32 (bI .i64 v4.2)) rfl) rfl ⟨rfl, rfl, trivial⟩ trivial ?_
      refine G.op1 (op_load1E (c := .v (.int .i64 x12)) Try.underlying3 rfl rfl (Ev.t 33 (.ep [.v (.int .i64 x12)])) rfl) rfl ⟨rfl, trivial⟩ trivial ?_
      refine G.op1 (op_rem (by decide) (Ev.t 34 (bI .i64 x12)) (Ev.c _ rfl) rfl) rfl ⟨rfl, trivial⟩ trivial ?_
      refine G.op1 (op_sub (Ev.t 35 (bI .i64 (Int.tmod x12 20))) (Ev.c _ rfl) rfl) rfl ⟨rfl, trivial⟩ trivial ?_
      refine G.op1 (op_assign (Ev.t 36 (bI .i64 (IntKind.wrap .i64 ((Int.tmod x12 20) - 5)))) rfl) rfl ⟨rfl, trivial⟩ trivial ?_
      refine G.endOps ?_
      refine G.seq ?_
      refine G.seq ?_
      refine G.region ?_
      refine G.op1 (op_move (Ev.t 6 (bI .i64 (IntKind.wrap .i64 ((Int.tmod x12 20) - 5)))) rfl) rfl ⟨rfl, trivial⟩ trivial ?_
      refine G.op1 (op_lss (Ev.t 37 (bI .i64 (IntKind.wrap .i64 ((Int.tmod x12 20) - 5)))) (Ev.c _ rfl) rfl) rfl ⟨rfl, trivial⟩ trivial ?_
      refine G.endOps ?_
      refine G.joinC (T := (List Api_Pin)) (fun y13 => ⟨[(0, .one (.g (.d (.sl 1 (List.map encI_i64 l_0))))), (3, .one (bB r1)), (4, .one (.g (.d (.sl 2 (List.map encApi_Pin y13))))), (5, .one (bI .i64 v4.2))], []⟩) (fun y13 => law16_PinsRise_k5 again6 v4 y13 = some r) (fun y13 hF => ?_) (fun J30 => ?_)
      · unfold law16_PinsRise_k5 at hF
        refine G.seq ?_
        refine G.seq ?_
        refine G.region ?_
        refine G.op1 (op_assign (Ev.c _ rfl) rfl) rfl trivial trivial ?_
        refine G.endOps ?_
        refine G.joinC (T := Unit) (fun y14 => ⟨[(0, .one (.g (.d (.sl 1 (List.map encI_i64 l_0))))), (3, .one (bB r1)), (4, .one (.g (.d (.sl 2 (List.map encApi_Pin y13))))), (5, .one (bI .i64 v4.2))], []⟩) (fun y14 => law16_PinsRise_k6 again6 v4 y13 y14 = some r) (fun y14 hF => ?_) (fun J16 => ?_)
        · unfold law16_PinsRise_k6 at hF
          refine G.seq ?_
          refine G.region ?_
          refine G.op1 (op_move (Ev.t 4 (.g (.d (.sl 2 (List.map encApi_Pin y13))))) rfl) rfl ⟨rfl, trivial⟩ trivial ?_
          refine G.op1 (OpL.cast (op_lenD Try.underlying23 (Ev.t 148 (.g (.d (.sl 2 (List.map encApi_Pin y13))))) rfl) (by rw [List.length_map])) rfl ⟨rfl, trivial⟩ trivial ?_
          refine G.op1 (op_gtr (Ev.t 149 (bI .i64 (y13.length : Int))) (Ev.c _ rfl) rfl) rfl ⟨rfl, trivial⟩ trivial ?_
          refine G.endOps ?_
          refine ifS hF (fun hc15 hF => ?_) (fun hc15 hF => ?_)
          · refine G.cond rfl (fun _ => ?_) (fun hx => by rw [hc15] at hx; cases hx)
            refine G.seq ?_
            refine G.region ?_
            refine G.op1 (op_assign (Ev.c _ rfl) rfl) rfl trivial trivial ?_
            refine G.endOps ?_
            cases hF
            exact G.ret1 Try.results4 (RVar.tmp 2 _) ⟨rfl, trivial⟩ trivial
          · refine G.cond rfl (fun hx => by rw [hc15] at hx; cases hx) (fun _ => ?_)
            refine G.skip ?_
            refine G.endBlock ?_
            exact G.arr (J11 y13 hF) ⟨rfl, rfl, rfl, rfl, trivial⟩ trivial rfl
        refine G.block ?_
        refine G.keep (sl' := [(0, .one (.g (.d (.sl 1 (List.map encI_i64 l_0))))), (3, .one (bB r1)), (4, .one (.g (.d (.sl 2 (List.map encApi_Pin y13))))), (5, .one (bI .i64 v4.2)), (19, .one (bI .i64 0))]) (hp' := []) ⟨rfl, rfl, rfl, rfl, rfl, trivial⟩ trivial rfl ?_
        refine G.loopF (fun (v17 : Int) => ⟨[(0, .one (.g (.d (.sl 1 (List.map encI_i64 l_0))))), (3, .one (bB r1)), (4, .one (.g (.d (.sl 2 (List.map encApi_Pin y13))))), (5, .one (bI .i64 v4.2)), (19, .one (bI .i64 v17))], []⟩) hF rfl (fun K20 again19 v17 J18 hF => ?_)
        unfold law16_PinsRise_l7 at hF
        refine G.seq ?_
        refine G.seq ?_
        refine G.region ?_
        refine G.op1 (op_move (Ev.t 19 (bI .i64 v17)) rfl) rfl ⟨rfl, trivial⟩ trivial ?_
        refine G.op1 (op_move (Ev.t 4 (.g (.d (.sl 2 (List.map encApi_Pin y13))))) rfl) rfl ⟨rfl, trivial⟩ trivial ?_
        refine G.op1 (OpL.cast (op_lenD Try.underlying23 (Ev.t 119 (.g (.d (.sl 2 (List.map encApi_Pin y13))))) rfl) (by rw [List.length_map])) rfl ⟨rfl, trivial⟩ trivial ?_
        refine G.op1 (op_lss (Ev.t 118 (bI .i64 v17)) (Ev.t 120 (bI .i64 (y13.length : Int))) rfl) rfl ⟨rfl, rfl, trivial⟩ trivial ?_
        refine G.endOps ?_
        refine ifS hF (fun hc21 hF => ?_) (fun hc21 hF => ?_)
        · refine G.cond rfl (fun _ => ?_) (fun hx => by rw [hc21] at hx; cases hx)
          refine G.skip ?_
          refine G.seq ?_
          refine G.block ?_
          refine G.seq ?_
          refine ifS hF (fun hc22 hF => ?_) (fun hc22 hF => ?_)
          · obtain ⟨x23, hx23, hF⟩ := bindS hF
            obtain ⟨x24, hx24, hF⟩ := bindS hF
            refine ifS hF (fun hc25 hF => ?_) (fun hc25 hF => ?_)
            · refine G.drawn (effs := (⟨[(19, .one (bI .i64 v17))], [], [(124, .one (bI .i64 v17))], []⟩ :: ⟨[(124, .one (bI .i64 v17))], [], [(125, .one (bB true))], []⟩ :: ⟨[(125, .one (bB true))], [], [(126, .one (bB true))], []⟩ :: ⟨[(126, .one (bB true)), (4, .one (.g (.d (.sl 2 (List.map encApi_Pin y13)))))], [], [(127, .one (.g (.d (.sl 2 (List.map encApi_Pin y13)))))], []⟩ :: ⟨[(126, .one (bB true)), (19, .one (bI .i64 v17))], [], [(128, .one (bI .i64 v17))], []⟩ :: ⟨[(126, .one (bB true)), (128, .one (bI .i64 v17))], [], [(129, .one (bI .i64 (IntKind.wrap .i64 (v17 - 1))))], []⟩ :: ⟨[(126, .one (bB true)), (127, .one (.g (.d (.sl 2 (List.map encApi_Pin y13))))), (129, .one (bI .i64 (IntKind.wrap .i64 (v17 - 1))))], [], [(130, .one (.ep [.v (.int .i64 x23.ID), .sl 3 (List.map encApi_Dep x23.Deps)]))], []⟩ :: ⟨[(126, .one (bB true)), (130, .one (.ep [.v (.int .i64 x23.ID), .sl 3 (List.map encApi_Dep x23.Deps)]))], [], [(131, .one (.ep [.v (.int .i64 x23.ID), .sl 3 (List.map encApi_Dep x23.Deps)]))], []⟩ :: ⟨[(126, .one (bB true)), (131, .one (.ep [.v (.int .i64 x23.ID), .sl 3 (List.map encApi_Dep x23.Deps)]))], [], [(132, .one (bI .i64 x23.ID))], []⟩ :: ⟨[(126, .one (bB true)), (4, .one (.g (.d (.sl 2 (List.map encApi_Pin y13)))))], [], [(133, .one (.g (.d (.sl 2 (List.map encApi_Pin y13)))))], []⟩ :: ⟨[(126, .one (bB true)), (19, .one (bI .i64 v17))], [], [(134, .one (bI .i64 v17))], []⟩ :: ⟨[(126, .one (bB true)), (133, .one (.g (.d (.sl 2 (List.map encApi_Pin y13))))), (134, .one (bI .i64 v17))], [], [(135, .one (.ep [.v (.int .i64 x24.ID), .sl 3 (List.map encApi_Dep x24.Deps)]))], []⟩ :: ⟨[(126, .one (bB true)), (135, .one (.ep [.v (.int .i64 x24.ID), .sl 3 (List.map encApi_Dep x24.Deps)]))], [], [(136, .one (.ep [.v (.int .i64 x24.ID), .sl 3 (List.map encApi_Dep x24.Deps)]))], []⟩ :: ⟨[(126, .one (bB true)), (136, .one (.ep [.v (.int .i64 x24.ID), .sl 3 (List.map encApi_Dep x24.Deps)]))], [], [(137, .one (bI .i64 x24.ID))], []⟩ :: ⟨[(126, .one (bB true)), (132, .one (bI .i64 x23.ID)), (137, .one (bI .i64 x24.ID))], [], [(138, .one (bB true))], []⟩ :: ⟨[(126, .one (bB true)), (138, .one (bB true))], [], [(139, .one (bB true))], []⟩ :: ⟨[(139, .one (bB true))], [], [(140, .one (bB true))], []⟩ :: ⟨[(140, .one (bB true))], [], [(141, .one (.x Go.undef))], []⟩ :: ⟨[(140, .one (bB true))], [], [(142, .one (.x Go.undef))], []⟩ :: ⟨[(140, .one (bB true))], [], [(143, .one (.x Go.undef))], []⟩ :: ⟨[(140, .one (bB true))], [], [(144, .one (.x Go.undef))], []⟩ :: ⟨[(140, .one (bB true))], [], [(145, .one (.x Go.undef))], []⟩ :: ⟨[(140, .one (bB true))], [], [(146, .one (.x Go.undef))], []⟩ :: ⟨[(140, .one (bB true))], [], [(147, .one (bB true))], []⟩ :: [])) (deps := ([] :: [0] :: [0, 1] :: [0, 1, 2] :: [0, 1, 2] :: [0, 1, 2, 4] :: [0, 1, 2, 3, 4, 5] :: [0, 1, 2, 3, 4, 5, 6] :: [0, 1, 2, 3, 4, 5, 6, 7] :: [0, 1, 2] :: [0, 1, 2] :: [0, 1, 2, 9, 10] :: [0, 1, 2, 9, 10, 11] :: [0, 1, 2, 9, 10, 11, 12] :: [0, 1, 2, 3, 4, 5, 6, 7, 8, 9, 10, 11, 12, 13] :: [0, 1, 2, 3, 4, 5, 6, 7, 8, 9, 10, 11, 12, 13, 14] :: [0, 1, 2, 3, 4, 5, 6, 7, 8, 9, 10, 11, 12, 13, 14, 15] :: [0, 1, 2, 3, 4, 5, 6, 7, 8, 9, 10, 11, 12, 13, 14, 15, 16] :: [0, 1, 2, 3, 4, 5, 6, 7, 8, 9, 10, 11, 12, 13, 14, 15, 16] :: [0, 1, 2, 3, 4, 5, 6, 7, 8, 9, 10, 11, 12, 13, 14, 15, 16, 17, 18] :: [0, 1, 2, 3, 4, 5, 6, 7, 8, 9, 10, 11, 12, 13, 14, 15, 16, 17, 18, 19] :: (0 :: 1 :: 2 :: 3 :: 4 :: 5 :: 6 :: 7 :: 8 :: 9 :: 10 :: 11 :: 12 :: 13 :: 14 :: 15 :: 16 :: 17 :: 18 :: 19 :: 20 :: []) :: (0 :: 1 :: 2 :: 3 :: 4 :: 5 :: 6 :: 7 :: 8 :: 9 :: 10 :: 11 :: 12 :: 13 :: 14 :: 15 :: 16 :: 17 :: 18 :: 19 :: 20 :: 21 :: []) :: (0 :: 1 :: 2 :: 3 :: 4 :: 5 :: 6 :: 7 :: 8 :: 9 :: 10 :: 11 :: 12 :: 13 :: 14 :: 15 :: 16 :: 17 :: 18 :: 19 :: 20 :: 21 :: 22 :: []) :: [])) (sl' := [(0, .one (.g (.d (.sl 1 (List.map encI_i64 l_0))))), (3, .one (bB r1)), (4, .one (.g (.d (.sl 2 (List.map encApi_Pin y13))))), (5, .one (bI .i64 v4.2)), (19, .one (bI .i64 v17)), (147, .one (bB true))]) (hp' := []) follows rfl rfl rfl ⟨⟨rfl, trivial⟩, trivial, ⟨rfl, trivial⟩, trivial, ⟨rfl, trivial⟩, trivial, ⟨rfl, rfl, trivial⟩, trivial, ⟨rfl, rfl, trivial⟩, trivial, ⟨rfl, rfl, trivial⟩, trivial, ⟨rfl, rfl, rfl, trivial⟩, trivial, ⟨rfl, rfl, trivial⟩, trivial, ⟨rfl, rfl, trivial⟩, trivial, ⟨rfl, rfl, trivial⟩, trivial, ⟨rfl, rfl, trivial⟩, trivial, ⟨rfl, rfl, rfl, trivial⟩, trivial, ⟨rfl, rfl, trivial⟩, trivial, ⟨rfl, rfl, trivial⟩, trivial, ⟨rfl, rfl, rfl, trivial⟩, trivial, ⟨rfl, rfl, trivial⟩, trivial, ⟨rfl, trivial⟩, trivial, ⟨rfl, trivial⟩, trivial, ⟨rfl, trivial⟩, trivial, ⟨rfl, trivial⟩, trivial, ⟨rfl, trivial⟩, trivial, ⟨rfl, trivial⟩, trivial, ⟨rfl, trivial⟩, trivial, ⟨rfl, trivial⟩, trivial, trivial⟩ ⟨OpW.plain (op_move (Ev.t 19 (bI .i64 v17)) rfl) rfl rfl, OpW.plain (OpL.cast (op_gtr (Ev.t 124 (bI .i64 v17)) (Ev.c _ rfl) rfl) (congrArg (fun b => bB b) hc22)) rfl rfl, OpW.plain (op_move (Ev.t 125 (bB true)) rfl) rfl rfl, OpW.yes (op_move (Ev.t 4 (.g (.d (.sl 2 (List.map encApi_Pin y13))))) rfl) rfl rfl rfl, OpW.yes (op_move (Ev.t 19 (bI .i64 v17)) rfl) rfl rfl rfl, OpW.yes (op_sub (Ev.t 128 (bI .i64 v17)) (Ev.c _ rfl) rfl) rfl rfl rfl, OpW.yes (op_index (cs := [.v (.int .i64 x23.ID), .sl 3 (List.map encApi_Dep x23.Deps)]) Try.underlying23 ti29 (idx_ok hx23).1 (idx_get hx23 encApi_Pin) (Ev.t 127 (.g (.d (.sl 2 (List.map encApi_Pin y13))))) (Ev.t 129 (bI .i64 (IntKind.wrap .i64 (v17 - 1)))) rfl) rfl rfl rfl, OpW.yes (op_fieldE (cs' := [.v (.int .i64 x23.ID), .sl 3 (List.map encApi_Dep x23.Deps)]) Try.underlying29 rfl ti3 (by decide) rfl (Ev.t 130 (.ep [.v (.int .i64 x23.ID), .sl 3 (List.map encApi_Dep x23.Deps)])) rfl) rfl rfl rfl, OpW.yes (op_load1E (c := .v (.int .i64 x23.ID)) Try.underlying3 rfl rfl (Ev.t 131 (.ep [.v (.int .i64 x23.ID), .sl 3 (List.map encApi_Dep x23.Deps)])) rfl) rfl rfl rfl, OpW.yes (op_move (Ev.t 4 (.g (.d (.sl 2 (List.map encApi_Pin y13))))) rfl) rfl rfl rfl, OpW.yes (op_move (Ev.t 19 (bI .i64 v17)) rfl) rfl rfl rfl, OpW.yes (op_index (cs := [.v (.int .i64 x24.ID), .sl 3 (List.map encApi_Dep x24.Deps)]) Try.underlying23 ti29 (idx_ok hx24).1 (idx_get hx24 encApi_Pin) (Ev.t 133 (.g (.d (.sl 2 (List.map encApi_Pin y13))))) (Ev.t 134 (bI .i64 v17)) rfl) rfl rfl rfl, OpW.yes (op_fieldE (cs' := [.v (.int .i64 x24.ID), .sl 3 (List.map encApi_Dep x24.Deps)]) Try.underlying29 rfl ti3 (by decide) rfl (Ev.t 135 (.ep [.v (.int .i64 x24.ID), .sl 3 (List.map encApi_Dep x24.Deps)])) rfl) rfl rfl rfl, OpW.yes (op_load1E (c := .v (.int .i64 x24.ID)) Try.underlying3 rfl rfl (Ev.t 136 (.ep [.v (.int .i64 x24.ID), .sl 3 (List.map encApi_Dep x24.Deps)])) rfl) rfl rfl rfl, OpW.yes (OpL.cast (op_geq (Ev.t 132 (bI .i64 x23.ID)) (Ev.t 137 (bI .i64 x24.ID)) rfl) (congrArg (fun b => bB b) hc25)) rfl rfl rfl, OpW.plain (op_pickT (Ev.t 126 (bB true)) (Ev.t 138 (bB true)) rfl) rfl rfl, OpW.plain (op_move (Ev.t 139 (bB true)) rfl) rfl rfl, OpW.no rfl rfl rfl rfl rfl, OpW.no rfl rfl rfl rfl rfl, OpW.no rfl rfl rfl rfl rfl, OpW.no rfl rfl rfl rfl rfl, OpW.no rfl rfl rfl rfl rfl, OpW.no rfl rfl rfl rfl rfl, OpW.plain (op_pickT (Ev.t 140 (bB true)) (Ev.c _ rfl) rfl) rfl rfl, trivial⟩ ⟨rfl, rfl, rfl, rfl, rfl, rfl, trivial⟩ trivial rfl ?_
              refine G.condT rfl ?_
              refine G.seq ?_
              refine G.region ?_
              refine G.op1 (op_assign (Ev.c _ rfl) rfl) rfl trivial trivial ?_
              refine G.endOps ?_
              cases hF
              exact G.ret1 Try.results4 (RVar.tmp 2 _) ⟨rfl, trivial⟩ trivial
            · obtain ⟨x26, hx26, hF⟩ := bindS hF
              refine G.drawn (effs := (⟨[(19, .one (bI .i64 v17))], [], [(124, .one (bI .i64 v17))], []⟩ :: ⟨[(124, .one (bI .i64 v17))], [], [(125, .one (bB true))], []⟩ :: ⟨[(125, .one (bB true))], [], [(126, .one (bB true))], []⟩ :: ⟨[(126, .one (bB true)), (4, .one (.g (.d (.sl 2 (List.map encApi_Pin y13)))))], [], [(127, .one (.g (.d (.sl 2 (List.map encApi_Pin y13)))))], []⟩ :: ⟨[(126, .one (bB true)), (19, .one (bI .i64 v17))], [], [(128, .one (bI .i64 v17))], []⟩ :: ⟨[(126, .one (bB true)), (128, .one (bI .i64 v17))], [], [(129, .one (bI .i64 (IntKind.wrap .i64 (v17 - 1))))], []⟩ :: ⟨[(126, .one (bB true)), (127, .one (.g (.d (.sl 2 (List.map encApi_Pin y13))))), (129, .one (bI .i64 (IntKind.wrap .i64 (v17 - 1))))], [], [(130, .one (.ep [.v (.int .i64 x23.ID), .sl 3 (List.map encApi_Dep x23.Deps)]))], []⟩ :: ⟨[(126, .one (bB true)), (130, .one (.ep [.v (.int .i64 x23.ID), .sl 3 (List.map encApi_Dep x23.Deps)]))], [], [(131, .one (.ep [.v (.int .i64 x23.ID), .sl 3 (List.map encApi_Dep x23.Deps)]))], []⟩ :: ⟨[(126, .one (bB true)), (131, .one (.ep [.v (.int .i64 x23.ID), .sl 3 (List.map encApi_Dep x23.Deps)]))], [], [(132, .one (bI .i64 x23.ID))], []⟩ :: ⟨[(126, .one (bB true)), (4, .one (.g (.d (.sl 2 (List.map encApi_Pin y13)))))], [], [(133, .one (.g (.d (.sl 2 (List.map encApi_Pin y13)))))], []⟩ :: ⟨[(126, .one (bB true)), (19, .one (bI .i64 v17))], [], [(134, .one (bI .i64 v17))], []⟩ :: ⟨[(126, .one (bB true)), (133, .one (.g (.d (.sl 2 (List.map encApi_Pin y13))))), (134, .one (bI .i64 v17))], [], [(135, .one (.ep [.v (.int .i64 x24.ID), .sl 3 (List.map encApi_Dep x24.Deps)]))], []⟩ :: ⟨[(126, .one (bB true)), (135, .one (.ep [.v (.int .i64 x24.ID), .sl 3 (List.map encApi_Dep x24.Deps)]))], [], [(136, .one (.ep [.v (.int .i64 x24.ID), .sl 3 (List.map encApi_Dep x24.Deps)]))], []⟩ :: ⟨[(126, .one (bB true)), (136, .one (.ep [.v (.int .i64 x24.ID), .sl 3 (List.map encApi_Dep x24.Deps)]))], [], [(137, .one (bI .i64 x24.ID))], []⟩ :: ⟨[(126, .one (bB true)), (132, .one (bI .i64 x23.ID)), (137, .one (bI .i64 x24.ID))], [], [(138, .one (bB false))], []⟩ :: ⟨[(126, .one (bB true)), (138, .one (bB false))], [], [(139, .one (bB false))], []⟩ :: ⟨[(139, .one (bB false))], [], [(140, .one (bB false))], []⟩ :: ⟨[(140, .one (bB false)), (4, .one (.g (.d (.sl 2 (List.map encApi_Pin y13)))))], [], [(141, .one (.g (.d (.sl 2 (List.map encApi_Pin y13)))))], []⟩ :: ⟨[(140, .one (bB false)), (19, .one (bI .i64 v17))], [], [(142, .one (bI .i64 v17))], []⟩ :: ⟨[(140, .one (bB false)), (141, .one (.g (.d (.sl 2 (List.map encApi_Pin y13))))), (142, .one (bI .i64 v17))], [], [(143, .one (.ep [.v (.int .i64 x26.ID), .sl 3 (List.map encApi_Dep x26.Deps)]))], []⟩ :: ⟨[(140, .one (bB false)), (143, .one (.ep [.v (.int .i64 x26.ID), .sl 3 (List.map encApi_Dep x26.Deps)]))], [], [(144, .one (.ep [.v (.int .i64 x26.ID), .sl 3 (List.map encApi_Dep x26.Deps)]))], []⟩ :: ⟨[(140, .one (bB false)), (144, .one (.ep [.v (.int .i64 x26.ID), .sl 3 (List.map encApi_Dep x26.Deps)]))], [], [(145, .one (bI .i64 x26.ID))], []⟩ :: ⟨[(140, .one (bB false)), (145, .one (bI .i64 x26.ID))], [], [(146, .one (bB (decide (x26.ID < 1))))], []⟩ :: ⟨[(140, .one (bB false)), (146, .one (bB (decide (x26.ID < 1))))], [], [(147, .one (bB (decide (x26.ID < 1))))], []⟩ :: [])) (deps := ([] :: [0] :: [0, 1] :: [0, 1, 2] :: [0, 1, 2] :: [0, 1, 2, 4] :: [0, 1, 2, 3, 4, 5] :: [0, 1, 2, 3, 4, 5, 6] :: [0, 1, 2, 3, 4, 5, 6, 7] :: [0, 1, 2] :: [0, 1, 2] :: [0, 1, 2, 9, 10] :: [0, 1, 2, 9, 10, 11] :: [0, 1, 2, 9, 10, 11, 12] :: [0, 1, 2, 3, 4, 5, 6, 7, 8, 9, 10, 11, 12, 13] :: [0, 1, 2, 3, 4, 5, 6, 7, 8, 9, 10, 11, 12, 13, 14] :: [0, 1, 2, 3, 4, 5, 6, 7, 8, 9, 10, 11, 12, 13, 14, 15] :: [0, 1, 2, 3, 4, 5, 6, 7, 8, 9, 10, 11, 12, 13, 14, 15, 16] :: [0, 1, 2, 3, 4, 5, 6, 7, 8, 9, 10, 11, 12, 13, 14, 15, 16] :: [0, 1, 2, 3, 4, 5, 6, 7, 8, 9, 10, 11, 12, 13, 14, 15, 16, 17, 18] :: [0, 1, 2, 3, 4, 5, 6, 7, 8, 9, 10, 11, 12, 13, 14, 15, 16, 17, 18, 19] :: (0 :: 1 :: 2 :: 3 :: 4 :: 5 :: 6 :: 7 :: 8 :: 9 :: 10 :: 11 :: 12 :: 13 :: 14 :: 15 :: 16 :: 17 :: 18 :: 19 :: 20 :: []) :: (0 :: 1 :: 2 :: 3 :: 4 :: 5 :: 6 :: 7 :: 8 :: 9 :: 10 :: 11 :: 12 :: 13 :: 14 :: 15 :: 16 :: 17 :: 18 :: 19 :: 20 :: 21 :: []) :: (0 :: 1 :: 2 :: 3 :: 4 :: 5 :: 6 :: 7 :: 8 :: 9 :: 10 :: 11 :: 12 :: 13 :: 14 :: 15 :: 16 :: 17 :: 18 :: 19 :: 20 :: 21 :: 22 :: []) :: [])) (sl' := [(0, .one (.g (.d (.sl 1 (List.map encI_i64 l_0))))), (3, .one (bB r1)), (4, .one (.g (.d (.sl 2 (List.map encApi_Pin y13))))), (5, .one (bI .i64 v4.2)), (19, .one (bI .i64 v17)), (147, .one (bB (decide (x26.ID < 1))))]) (hp' := []) follows rfl rfl rfl ⟨⟨rfl, trivial⟩, trivial, ⟨rfl, trivial⟩, trivial, ⟨rfl, trivial⟩, trivial, ⟨rfl, rfl, trivial⟩, trivial, ⟨rfl, rfl, trivial⟩, trivial, ⟨rfl, rfl, trivial⟩, trivial, ⟨rfl, rfl, rfl, trivial⟩, trivial, ⟨rfl, rfl, trivial⟩, trivial, ⟨rfl, rfl, trivial⟩, trivial, ⟨rfl, rfl, trivial⟩, trivial, ⟨rfl, rfl, trivial⟩, trivial, ⟨rfl, rfl, rfl, trivial⟩, trivial, ⟨rfl, rfl, trivial⟩, trivial, ⟨rfl, rfl, trivial⟩, trivial, ⟨rfl, rfl, rfl, trivial⟩, trivial, ⟨rfl, rfl, trivial⟩, trivial, ⟨rfl, trivial⟩, trivial, ⟨rfl, rfl, trivial⟩, trivial, ⟨rfl, rfl, trivial⟩, trivial, ⟨rfl, rfl, rfl, trivial⟩, trivial, ⟨rfl, rfl, trivial⟩, trivial, ⟨rfl, rfl, trivial⟩, trivial, ⟨rfl, rfl, trivial⟩, trivial, ⟨rfl, rfl, trivial⟩, trivial, trivial⟩ ⟨OpW.plain (op_move (Ev.t 19 (bI .i64 v17)) rfl) rfl rfl, OpW.plain (OpL.cast (op_gtr (Ev.t 124 (bI .i64 v17)) (Ev.c _ rfl) rfl) (congrArg (fun b => bB b) hc22)) rfl rfl, OpW.plain (op_move (Ev.t 125 (bB true)) rfl) rfl rfl, OpW.yes (op_move (Ev.t 4 (.g (.d (.sl 2 (List.map encApi_Pin y13))))) rfl) rfl rfl rfl, OpW.yes (op_move (Ev.t 19 (bI .i64 v17)) rfl) rfl rfl rfl, OpW.yes (op_sub (Ev.t 128 (bI .i64 v17)) (Ev.c _ rfl) rfl) rfl rfl rfl, OpW.yes (op_index (cs := [.v (.int .i64 x23.ID), .sl 3 (List.map encApi_Dep x23.Deps)]) Try.underlying23 ti29 (idx_ok hx23).1 (idx_get hx23 encApi_Pin) (Ev.t 127 (.g (.d (.sl 2 (List.map encApi_Pin y13))))) (Ev.t 129 (bI .i64 (IntKind.wrap .i64 (v17 - 1)))) rfl) rfl rfl rfl, OpW.yes (op_fieldE (cs' := [.v (.int .i64 x23.ID), .sl 3 (List.map encApi_Dep x23.Deps)]) Try.underlying29 rfl ti3 (by decide) rfl (Ev.t 130 (.ep [.v (.int .i64 x23.ID), .sl 3 (List.map encApi_Dep x23.Deps)])) rfl) rfl rfl rfl, OpW.yes (op_load1E (c := .v (.int .i64 x23.ID)) Try.underlying3 rfl rfl (Ev.t 131 (.ep [.v (.int .i64 x23.ID), .sl 3 (List.map encApi_Dep x23.Deps)])) rfl) rfl rfl rfl, OpW.yes (op_move (Ev.t 4 (.g (.d (.sl 2 (List.map encApi_Pin y13))))) rfl) rfl rfl rfl, OpW.yes (op_move (Ev.t 19 (bI .i64 v17)) rfl) rfl rfl rfl, OpW.yes (op_index (cs := [.v (.int .i64 x24.ID), .sl 3 (List.map encApi_Dep x24.Deps)]) Try.underlying23 ti29 (idx_ok hx24).1 (idx_get hx24 encApi_Pin) (Ev.t 133 (.g (.d (.sl 2 (List.map encApi_Pin y13))))) (Ev.t 134 (bI .i64 v17)) rfl) rfl rfl rfl, OpW.yes (op_fieldE (cs' := [.v (.int .i64 x24.ID), .sl 3 (List.map encApi_Dep x24.Deps)]) Try.underlying29 rfl ti3 (by decide) rfl (Ev.t 135 (.ep [.v (.int .i64 x24.ID), .sl 3 (List.map encApi_Dep x24.Deps)])) rfl) rfl rfl rfl, OpW.yes (op_load1E (c := .v (.int .i64 x24.ID)) Try.underlying3 rfl rfl (Ev.t 136 (.ep [.v (.int .i64 x24.ID), .sl 3 (List.map encApi_Dep x24.Deps)])) rfl) rfl rfl rfl, OpW.yes (OpL.cast (op_geq (Ev.t 132 (bI .i64 x23.ID)) (Ev.t 137 (bI .i64 x24.ID)) rfl) (congrArg (fun b => bB b) hc25)) rfl rfl rfl, OpW.plain (op_pickT (Ev.t 126 (bB true)) (Ev.t 138 (bB false)) rfl) rfl rfl, OpW.plain (op_move (Ev.t 139 (bB false)) rfl) rfl rfl, OpW.yes (op_move (Ev.t 4 (.g (.d (.sl 2 (List.map encApi_Pin y13))))) rfl) rfl rfl rfl, OpW.yes (op_move (Ev.t 19 (bI .i64 v17)) rfl) rfl rfl rfl, OpW.yes (op_index (cs := [.v (.int .i64 x26.ID), .sl 3 (List.map encApi_Dep x26.Deps)]) Try.underlying23 ti29 (idx_ok hx26).1 (idx_get hx26 encApi_Pin) (Ev.t 141 (.g (.d (.sl 2 (List.map encApi_Pin y13))))) (Ev.t 142 (bI .i64 v17)) rfl) rfl rfl rfl, OpW.yes (op_fieldE (cs' := [.v (.int .i64 x26.ID), .sl 3 (List.map encApi_Dep x26.Deps)]) Try.underlying29 rfl ti3 (by decide) rfl (Ev.t 143 (.ep [.v (.int .i64 x26.ID), .sl 3 (List.map encApi_Dep x26.Deps)])) rfl) rfl rfl rfl, OpW.yes (op_load1E (c := .v (.int .i64 x26.ID)) Try.underlying3 rfl rfl (Ev.t 144 (.ep [.v (.int .i64 x26.ID), .sl 3 (List.map encApi_Dep x26.Deps)])) rfl) rfl rfl rfl, OpW.yes (op_lss (Ev.t 145 (bI .i64 x26.ID)) (Ev.c _ rfl) rfl) rfl rfl rfl, OpW.plain (op_pickF (Ev.t 140 (bB false)) (Ev.t 146 (bB (decide (x26.ID < 1)))) rfl) rfl rfl, trivial⟩ ⟨rfl, rfl, rfl, rfl, rfl, rfl, trivial⟩ trivial rfl ?_
              refine ifS hF (fun hc27 hF => ?_) (fun hc27 hF => ?_)
              · refine G.cond rfl (fun _ => ?_) (fun hx => by rw [hc27] at hx; cases hx)
                refine G.seq ?_
                refine G.region ?_
                refine G.op1 (op_assign (Ev.c _ rfl) rfl) rfl trivial trivial ?_
                refine G.endOps ?_
                cases hF
                exact G.ret1 Try.results4 (RVar.tmp 2 _) ⟨rfl, trivial⟩ trivial
              · refine G.cond rfl (fun hx => by rw [hc27] at hx; cases hx) (fun _ => ?_)
                refine G.skip ?_
                refine G.endBlock ?_
                refine G.region ?_
                refine G.op1 (op_move (Ev.t 19 (bI .i64 v17)) rfl) rfl ⟨rfl, trivial⟩ trivial ?_
                refine G.op1 (op_add (Ev.t 122 (bI .i64 v17)) (Ev.c _ rfl) rfl) rfl ⟨rfl, trivial⟩ trivial ?_
                refine G.op1 (op_assign (Ev.t 123 (bI .i64 (IntKind.wrap .i64 (v17 + 1)))) rfl) rfl ⟨rfl, trivial⟩ trivial ?_
                refine G.endOps ?_
                exact G.arr (J18 (IntKind.wrap .i64 (v17 + 1)) hF) ⟨rfl, rfl, rfl, rfl, rfl, trivial⟩ trivial rfl
          · obtain ⟨x28, hx28, hF⟩ := bindS hF
            refine G.drawn (effs := (⟨[(19, .one (bI .i64 v17))], [], [(124, .one (bI .i64 v17))], []⟩ :: ⟨[(124, .one (bI .i64 v17))], [], [(125, .one (bB false))], []⟩ :: ⟨[(125, .one (bB false))], [], [(126, .one (bB false))], []⟩ :: ⟨[(126, .one (bB false))], [], [(127, .one (.x Go.undef))], []⟩ :: ⟨[(126, .one (bB false))], [], [(128, .one (.x Go.undef))], []⟩ :: ⟨[(126, .one (bB false))], [], [(129, .one (.x Go.undef))], []⟩ :: ⟨[(126, .one (bB false))], [], [(130, .one (.x Go.undef))], []⟩ :: ⟨[(126, .one (bB false))], [], [(131, .one (.x Go.undef))], []⟩ :: ⟨[(126, .one (bB false))], [], [(132, .one (.x Go.undef))], []⟩ :: ⟨[(126, .one (bB false))], [], [(133, .one (.x Go.undef))], []⟩ :: ⟨[(126, .one (bB false))], [], [(134, .one (.x Go.undef))], []⟩ :: ⟨[(126, .one (bB false))], [], [(135, .one (.x Go.undef))], []⟩ :: ⟨[(126, .one (bB false))], [], [(136, .one (.x Go.undef))], []⟩ :: ⟨[(126, .one (bB false))], [], [(137, .one (.x Go.undef))], []⟩ :: ⟨[(126, .one (bB false))], [], [(138, .one (.x Go.undef))], []⟩ :: ⟨[(126, .one (bB false))], [], [(139, .one (bB false))], []⟩ :: ⟨[(139, .one (bB false))], [], [(140, .one (bB false))], []⟩ :: ⟨[(140, .one (bB false)), (4, .one (.g (.d (.sl 2 (List.map encApi_Pin y13)))))], [], [(141, .one (.g (.d (.sl 2 (List.map encApi_Pin y13)))))], []⟩ :: ⟨[(140, .one (bB false)), (19, .one (bI .i64 v17))], [], [(142, .one (bI .i64 v17))], []⟩ :: ⟨[(140, .one (bB false)), (141, .one (.g (.d (.sl 2 (List.map encApi_Pin y13))))), (142, .one (bI .i64 v17))], [], [(143, .one (.ep [.v (.int .i64 x28.ID), .sl 3 (List.map encApi_Dep x28.Deps)]))], []⟩ :: ⟨[(140, .one (bB false)), (143, .one (.ep [.v (.int .i64 x28.ID), .sl 3 (List.map encApi_Dep x28.Deps)]))], [], [(144, .one (.ep [.v (.int .i64 x28.ID), .sl 3 (List.map encApi_Dep x28.Deps)]))], []⟩ :: ⟨[(140, .one (bB false)), (144, .one (.ep [.v (.int .i64 x28.ID), .sl 3 (List.map encApi_Dep x28.Deps)]))], [], [(145, .one (bI .i64 x28.ID))], []⟩ :: ⟨[(140, .one (bB false)), (145, .one (bI .i64 x28.ID))], [], [(146, .one (bB (decide (x28.ID < 1))))], []⟩ :: ⟨[(140, .one (bB false)), (146, .one (bB (decide (x28.ID < 1))))], [], [(147, .one (bB (decide (x28.ID < 1))))], []⟩ :: [])) (deps := ([] :: [0] :: [0, 1] :: [0, 1, 2] :: [0, 1, 2] :: [0, 1, 2, 4] :: [0, 1, 2, 3, 4, 5] :: [0, 1, 2, 3, 4, 5, 6] :: [0, 1, 2, 3, 4, 5, 6, 7] :: [0, 1, 2] :: [0, 1, 2] :: [0, 1, 2, 9, 10] :: [0, 1, 2, 9, 10, 11] :: [0, 1, 2, 9, 10, 11, 12] :: [0, 1, 2, 3, 4, 5, 6, 7, 8, 9, 10, 11, 12, 13] :: [0, 1, 2, 3, 4, 5, 6, 7, 8, 9, 10, 11, 12, 13, 14] :: [0, 1, 2, 3, 4, 5, 6, 7, 8, 9, 10, 11, 12, 13, 14, 15] :: [0, 1, 2, 3, 4, 5, 6, 7, 8, 9, 10, 11, 12, 13, 14, 15, 16] :: [0, 1, 2, 3, 4, 5, 6, 7, 8, 9, 10, 11, 12, 13, 14, 15, 16] :: [0, 1, 2, 3, 4, 5, 6, 7, 8, 9, 10, 11, 12, 13, 14, 15, 16, 17, 18] :: [0, 1, 2, 3, 4, 5, 6, 7, 8, 9, 10, 11, 12, 13, 14, 15, 16, 17, 18, 19] :: (0 :: 1 :: 2 :: 3 :: 4 :: 5 :: 6 :: 7 :: 8 :: 9 :: 10 :: 11 :: 12 :: 13 :: 14 :: 15 :: 16 :: 17 :: 18 :: 19 :: 20 :: []) :: (0 :: 1 :: 2 :: 3 :: 4 :: 5 :: 6 :: 7 :: 8 :: 9 :: 10 :: 11 :: 12 :: 13 :: 14 :: 15 :: 16 :: 17 :: 18 :: 19 :: 20 :: 21 :: []) :: (0 :: 1 :: 2 :: 3 :: 4 :: 5 :: 6 :: 7 :: 8 :: 9 :: 10 :: 11 :: 12 :: 13 :: 14 :: 15 :: 16 :: 17 :: 18 :: 19 :: 20 :: 21 :: 22 :: []) :: [])) (sl' := [(0, .one (.g (.d (.sl 1 (List.map encI_i64 l_0))))), (3, .one (bB r1)), (4, .one (.g (.d (.sl 2 (List.map encApi_Pin y13))))), (5, .one (bI .i64 v4.2)), (19, .one (bI .i64 v17)), (147, .one (bB (decide (x28.ID < 1))))]) (hp' := []) follows rfl rfl rfl ⟨⟨rfl, trivial⟩, trivial, ⟨rfl, trivial⟩, trivial, ⟨rfl, trivial⟩, trivial, ⟨rfl, trivial⟩, trivial, ⟨rfl, trivial⟩, trivial, ⟨rfl, trivial⟩, trivial, ⟨rfl, trivial⟩, trivial, ⟨rfl, trivial⟩, trivial, ⟨rfl, trivial⟩, trivial, ⟨rfl, trivial⟩, trivial, ⟨rfl, trivial⟩, trivial, ⟨rfl, trivial⟩, trivial, ⟨rfl, trivial⟩, trivial, ⟨rfl, trivial⟩, trivial, ⟨rfl, trivial⟩, trivial, ⟨rfl, trivial⟩, trivial, ⟨rfl, trivial⟩, trivial, ⟨rfl, rfl, trivial⟩, trivial, ⟨rfl, rfl, trivial⟩, trivial, ⟨rfl, rfl, rfl, trivial⟩, trivial, ⟨rfl, rfl, trivial⟩, trivial, ⟨rfl, rfl, trivial⟩, trivial, ⟨rfl, rfl, trivial⟩, trivial, ⟨rfl, rfl, trivial⟩, trivial, trivial⟩ ⟨OpW.plain (op_move (Ev.t 19 (bI .i64 v17)) rfl) rfl rfl, OpW.plain (OpL.cast (op_gtr (Ev.t 124 (bI .i64 v17)) (Ev.c _ rfl) rfl) (congrArg (fun b => bB b) hc22)) rfl rfl, OpW.plain (op_move (Ev.t 125 (bB false)) rfl) rfl rfl, OpW.no rfl rfl rfl rfl rfl, OpW.no rfl rfl rfl rfl rfl, OpW.no rfl rfl rfl rfl rfl, OpW.no rfl rfl rfl rfl rfl, OpW.no rfl rfl rfl rfl rfl, OpW.no rfl rfl rfl rfl rfl, OpW.no rfl rfl rfl rfl rfl, OpW.no rfl rfl rfl rfl rfl, OpW.no rfl rfl rfl rfl rfl, OpW.no rfl rfl rfl rfl rfl, OpW.no rfl rfl rfl rfl rfl, OpW.no rfl rfl rfl rfl rfl, OpW.plain (op_pickF (Ev.t 126 (bB false)) (Ev.c _ rfl) rfl) rfl rfl, OpW.plain (op_move (Ev.t 139 (bB false)) rfl) rfl rfl, OpW.yes (op_move (Ev.t 4 (.g (.d (.sl 2 (List.map encApi_Pin y13))))) rfl) rfl rfl rfl, OpW.yes (op_move (Ev.t 19 (bI .i64 v17)) rfl) rfl rfl rfl, OpW.yes (op_index (cs := [.v (.int .i64 x28.ID), .sl 3 (List.map encApi_Dep x28.Deps)]) Try.underlying23 ti29 (idx_ok hx28).1 (idx_get hx28 encApi_Pin) (Ev.t 141 (.g (.d (.sl 2 (List.map encApi_Pin y13))))) (Ev.t 142 (bI .i64 v17)) rfl) rfl rfl rfl, OpW.yes (op_fieldE (cs' := [.v (.int .i64 x28.ID), .sl 3 (List.map encApi_Dep x28.Deps)]) Try.underlying29 rfl ti3 (by decide) rfl (Ev.t 143 (.ep [.v (.int .i64 x28.ID), .sl 3 (List.map encApi_Dep x28.Deps)])) rfl) rfl rfl rfl, OpW.yes (op_load1E (c := .v (.int .i64 x28.ID)) Try.underlying3 rfl rfl (Ev.t 144 (.ep [.v (.int .i64 x28.ID), .sl 3 (List.map encApi_Dep x28.Deps)])) rfl) rfl rfl rfl, OpW.yes (op_lss (Ev.t 145 (bI .i64 x28.ID)) (Ev.c _ rfl) rfl) rfl rfl rfl, OpW.plain (op_pickF (Ev.t 140 (bB false)) (Ev.t 146 (bB (decide (x28.ID < 1)))) rfl) rfl rfl, trivial⟩ ⟨rfl, rfl, rfl, rfl, rfl, rfl, trivial⟩ trivial rfl ?_
            refine ifS hF (fun hc29 hF => ?_) (fun hc29 hF => ?_)
            · refine G.cond rfl (fun _ => ?_) (fun hx => by rw [hc29] at hx; cases hx)
              refine G.seq ?_
              refine G.region ?_
              refine G.op1 (op_assign (Ev.c _ rfl) rfl) rfl trivial trivial ?_
              refine G.endOps ?_
              cases hF
              exact G.ret1 Try.results4 (RVar.tmp 2 _) ⟨rfl, trivial⟩ trivial
            · refine G.cond rfl (fun hx => by rw [hc29] at hx; cases hx) (fun _ => ?_)
              refine G.skip ?_
              refine G.endBlock ?_
              refine G.region ?_
              refine G.op1 (op_move (Ev.t 19 (bI .i64 v17)) rfl) rfl ⟨rfl, trivial⟩ trivial ?_
              refine G.op1 (op_add (Ev.t 122 (bI .i64 v17)) (Ev.c _ rfl) rfl) rfl ⟨rfl, trivial⟩ trivial ?_
              refine G.op1 (op_assign (Ev.t 123 (bI .i64 (IntKind.wrap .i64 (v17 + 1)))) rfl) rfl ⟨rfl, trivial⟩ trivial ?_
              refine G.endOps ?_
              exact G.arr (J18 (IntKind.wrap .i64 (v17 + 1)) hF) ⟨rfl, rfl, rfl, rfl, rfl, trivial⟩ trivial rfl
        · refine G.cond rfl (fun hx => by rw [hc21] at hx; cases hx) (fun _ => ?_)
          refine G.exit ?_
          refine GX.c ?_
          refine GX.q ?_
          refine GX.bYes ?_
          exact G.arr (J16 () hF) ⟨rfl, rfl, rfl, rfl, trivial⟩ trivial rfl
      refine ifS hF (fun hc31 hF => ?_) (fun hc31 hF => ?_)
      · refine G.cond rfl (fun _ => ?_) (fun hx => by rw [hc31] at hx; cases hx)
        refine G.seq ?_
        refine G.region ?_
        refine G.op1 (op_move (Ev.t 4 (.g (.d (.sl 2 (List.map encApi_Pin v4.1))))) rfl) rfl ⟨rfl, trivial⟩ trivial ?_
        refine G.op1 (op_move (Ev.t 6 (bI .i64 (IntKind.wrap .i64 ((Int.tmod x12 20) - 5)))) rfl) rfl ⟨rfl, trivial⟩ trivial ?_
        refine G.op1 (op_neg (Ev.t 41 (bI .i64 (IntKind.wrap .i64 ((Int.tmod x12 20) - 5)))) rfl) rfl ⟨rfl, trivial⟩ trivial ?_
        obtain ⟨r32, hr32, hF⟩ := bindS hF
        refine G.op1 (op_call (sv := .tup [.g (.d (.sl 2 (List.map encApi_Pin r32.1))), bI .i64 r32.2]) cf11 (ct_pins_Drop v4.1 (IntKind.wrap .i64 (0 - (IntKind.wrap .i64 ((Int.tmod x12 20) - 5)))) r32 hr32) rfl (EvL.cons (Ev.t 40 (.g (.d (.sl 2 (List.map encApi_Pin v4.1))))) (EvL.cons (Ev.t 42 (bI .i64 (IntKind.wrap .i64 (0 - (IntKind.wrap .i64 ((Int.tmod x12 20) - 5)))))) EvL.nil)) rfl) rfl ⟨rfl, rfl, trivial⟩ trivial ?_
        refine G.op1 (op_moveS (t := 43) (sv := .tup [.g (.d (.sl 2 (List.map encApi_Pin r32.1))), bI .i64 r32.2]) rfl) rfl ⟨rfl, trivial⟩ trivial ?_
        refine G.op1 (op_extract (l := [.g (.d (.sl 2 (List.map encApi_Pin r32.1))), bI .i64 r32.2]) (c := .g (.d (.sl 2 (List.map encApi_Pin r32.1)))) rfl rfl) rfl ⟨rfl, trivial⟩ trivial ?_
        refine G.op1 (op_extract (l := [.g (.d (.sl 2 (List.map encApi_Pin r32.1))), bI .i64 r32.2]) (c := bI .i64 r32.2) rfl rfl) rfl ⟨rfl, trivial⟩ trivial ?_
        refine G.op1 (op_assign (Ev.t 44 (.g (.d (.sl 2 (List.map encApi_Pin r32.1))))) rfl) rfl ⟨rfl, trivial⟩ trivial ?_
        refine G.op1 (op_assign (Ev.t 45 (bI .i64 r32.2)) rfl) rfl ⟨rfl, trivial⟩ trivial ?_
        refine G.endOps ?_
        refine G.seq ?_
        refine G.region ?_
        refine G.op1 (op_move (Ev.t 4 (.g (.d (.sl 2 (List.map encApi_Pin v4.1))))) rfl) rfl ⟨rfl, trivial⟩ trivial ?_
        refine G.op1 (op_move (Ev.t 6 (bI .i64 (IntKind.wrap .i64 ((Int.tmod x12 20) - 5)))) rfl) rfl ⟨rfl, trivial⟩ trivial ?_
        refine G.op1 (op_neg (Ev.t 48 (bI .i64 (IntKind.wrap .i64 ((Int.tmod x12 20) - 5)))) rfl) rfl ⟨rfl, trivial⟩ trivial ?_
        obtain ⟨r33, hr33, hF⟩ := bindS hF
        refine G.op1 (op_call (sv := .tup [.g (.agg [.v (.int .i64 r33.1.ID), .sl 3 (List.map encApi_Dep r33.1.Deps)]), bB r33.2]) cf12 (ct_pins_Get v4.1 (IntKind.wrap .i64 (0 - (IntKind.wrap .i64 ((Int.tmod x12 20) - 5)))) r33 hr33) rfl (EvL.cons (Ev.t 47 (.g (.d (.sl 2 (List.map encApi_Pin v4.1))))) (EvL.cons (Ev.t 49 (bI .i64 (IntKind.wrap .i64 (0 - (IntKind.wrap .i64 ((Int.tmod x12 20) - 5)))))) EvL.nil)) rfl) rfl ⟨rfl, rfl, trivial⟩ trivial ?_
        refine G.op1 (op_moveS (t := 50) (sv := .tup [.g (.agg [.v (.int .i64 r33.1.ID), .sl 3 (List.map encApi_Dep r33.1.Deps)]), bB r33.2]) rfl) rfl ⟨rfl, trivial⟩ trivial ?_
        refine G.op1 (op_extract (l := [.g (.agg [.v (.int .i64 r33.1.ID), .sl 3 (List.map encApi_Dep r33.1.Deps)]), bB r33.2]) (c := .g (.agg [.v (.int .i64 r33.1.ID), .sl 3 (List.map encApi_Dep r33.1.Deps)])) rfl rfl) rfl ⟨rfl, trivial⟩ trivial ?_
        refine G.op1 (op_extract (l := [.g (.agg [.v (.int .i64 r33.1.ID), .sl 3 (List.map encApi_Dep r33.1.Deps)]), bB r33.2]) (c := bB r33.2) rfl rfl) rfl ⟨rfl, trivial⟩ trivial ?_
        refine G.op2 (op_alloc (k := 1009) (cs := [bI .i64 0, .g (.d (.sl 3 (List.map encApi_Dep ([] : (List Api_Dep)))))]) ti29 ⟨.v _ rfl, .n 3, trivial⟩ rfl) rfl trivial ⟨rfl, trivial⟩ ?_
        refine G.op3 (op_storeA (cs' := [bI .i64 r33.1.ID, .g (.d (.sl 3 (List.map encApi_Dep r33.1.Deps)))]) ti29 rfl rfl (Ev.t 9 (.ptr 1009 0)) (Ev.t 51 (.g (.agg [.v (.int .i64 r33.1.ID), .sl 3 (List.map encApi_Dep r33.1.Deps)])))) rfl ⟨rfl, rfl, trivial⟩ ⟨rfl, trivial⟩ ?_
        refine G.op1 (op_assign (Ev.t 52 (bB r33.2)) rfl) rfl ⟨rfl, trivial⟩ trivial ?_
        refine G.endOps ?_
        refine G.seq ?_
        refine G.seq ?_
        refine G.region ?_
        refine G.op1 (op_move (Ev.t 8 (bI .i64 r32.2)) rfl) rfl ⟨rfl, trivial⟩ trivial ?_
        refine G.op1 (op_eqI (Ev.t 53 (bI .i64 r32.2)) (Ev.c _ rfl) rfl) rfl ⟨rfl, trivial⟩ trivial ?_
        refine G.op1 (op_move (Ev.t 10 (bB r33.2)) rfl) rfl ⟨rfl, trivial⟩ trivial ?_
        refine G.op1 (op_neB Try.underlying4 (Ev.t 54 (bB (decide (r32.2 = 0)))) (Ev.t 55 (bB r33.2)) rfl) rfl ⟨rfl, rfl, trivial⟩ trivial ?_
        refine G.endOps ?_
        refine ifS hF (fun hc34 hF => ?_) (fun hc34 hF => ?_)
        · refine G.cond rfl (fun _ => ?_) (fun hx => by rw [hc34] at hx; cases hx)
          refine G.seq ?_
          refine G.region ?_
          refine G.op1 (op_assign (Ev.c _ rfl) rfl) rfl trivial trivial ?_
          refine G.endOps ?_
          cases hF
          exact G.ret1 Try.results4 (RVar.tmp 2 _) ⟨rfl, trivial⟩ trivial
        · refine G.cond rfl (fun hx => by rw [hc34] at hx; cases hx) (fun _ => ?_)
          refine G.skip ?_
          refine G.seq ?_
          refine G.region ?_
          refine G.op1 (op_move (Ev.t 8 (bI .i64 r32.2)) rfl) rfl ⟨rfl, trivial⟩ trivial ?_
          refine G.op1 (op_eqI (Ev.t 57 (bI .i64 r32.2)) (Ev.c _ rfl) rfl) rfl ⟨rfl, trivial⟩ trivial ?_
          refine G.endOps ?_
          refine ifS hF (fun hc35 hF => ?_) (fun hc35 hF => ?_)
          · refine G.cond rfl (fun _ => ?_) (fun hx => by rw [hc35] at hx; cases hx)
            refine G.seq ?_
            refine G.region ?_
            refine G.op1 (op_move (Ev.t 7 (.g (.d (.sl 2 (List.map encApi_Pin r32.1))))) rfl) rfl ⟨rfl, trivial⟩ trivial ?_
            refine G.op1 (op_assign (Ev.t 59 (.g (.d (.sl 2 (List.map encApi_Pin r32.1))))) rfl) rfl ⟨rfl, trivial⟩ trivial ?_
            refine G.endOps ?_
            refine G.seq ?_
            refine G.region ?_
            refine G.op1 (op_move (Ev.t 4 (.g (.d (.sl 2 (List.map encApi_Pin r32.1))))) rfl) rfl ⟨rfl, trivial⟩ trivial ?_
            refine G.op1 (op_move (Ev.t 6 (bI .i64 (IntKind.wrap .i64 ((Int.tmod x12 20) - 5)))) rfl) rfl ⟨rfl, trivial⟩ trivial ?_
            refine G.op1 (op_neg (Ev.t 62 (bI .i64 (IntKind.wrap .i64 ((Int.tmod x12 20) - 5)))) rfl) rfl ⟨rfl, trivial⟩ trivial ?_
            obtain ⟨r36, hr36, hF⟩ := bindS hF
            refine G.op1 (op_call (sv := .tup [.g (.agg [.v (.int .i64 r36.1.ID), .sl 3 (List.map encApi_Dep r36.1.Deps)]), bB r36.2]) cf12 (ct_pins_Get r32.1 (IntKind.wrap .i64 (0 - (IntKind.wrap .i64 ((Int.tmod x12 20) - 5)))) r36 hr36) rfl (EvL.cons (Ev.t 61 (.g (.d (.sl 2 (List.map encApi_Pin r32.1))))) (EvL.cons (Ev.t 63 (bI .i64 (IntKind.wrap .i64 (0 - (IntKind.wrap .i64 ((Int.tmod x12 20) - 5)))))) EvL.nil)) rfl) rfl ⟨rfl, rfl, trivial⟩ trivial ?_
            refine G.op1 (op_moveS (t := 64) (sv := .tup [.g (.agg [.v (.int .i64 r36.1.ID), .sl 3 (List.map encApi_Dep r36.1.Deps)]), bB r36.2]) rfl) rfl ⟨rfl, trivial⟩ trivial ?_
            refine G.op1 (op_extract (l := [.g (.agg [.v (.int .i64 r36.1.ID), .sl 3 (List.map encApi_Dep r36.1.Deps)]), bB r36.2]) (c := .g (.agg [.v (.int .i64 r36.1.ID), .sl 3 (List.map encApi_Dep r36.1.Deps)])) rfl rfl) rfl ⟨rfl, trivial⟩ trivial ?_
            refine G.op1 (op_extract (l := [.g (.agg [.v (.int .i64 r36.1.ID), .sl 3 (List.map encApi_Dep r36.1.Deps)]), bB r36.2]) (c := bB r36.2) rfl rfl) rfl ⟨rfl, trivial⟩ trivial ?_
            refine G.op2 (op_alloc (k := 1011) (cs := [bI .i64 0, .g (.d (.sl 3 (List.map encApi_Dep ([] : (List Api_Dep)))))]) ti29 ⟨.v _ rfl, .n 3, trivial⟩ rfl) rfl trivial ⟨rfl, trivial⟩ ?_
            refine G.op3 (op_storeA (cs' := [bI .i64 r36.1.ID, .g (.d (.sl 3 (List.map encApi_Dep r36.1.Deps)))]) ti29 rfl rfl (Ev.t 11 (.ptr 1011 0)) (Ev.t 65 (.g (.agg [.v (.int .i64 r36.1.ID), .sl 3 (List.map encApi_Dep r36.1.Deps)])))) rfl ⟨rfl, rfl, trivial⟩ ⟨rfl, trivial⟩ ?_
            refine G.op1 (op_assign (Ev.t 66 (bB r36.2)) rfl) rfl ⟨rfl, trivial⟩ trivial ?_
            refine G.endOps ?_
            refine G.seq ?_
            refine G.region ?_
            refine G.op1 (op_move (Ev.t 12 (bB r36.2)) rfl) rfl ⟨rfl, trivial⟩ trivial ?_
            refine G.endOps ?_
            refine ifS hF (fun hc37 hF => ?_) (fun hc37 hF => ?_)
            · refine G.cond rfl (fun _ => ?_) (fun hx => by rw [hc37] at hx; cases hx)
              refine G.seq ?_
              refine G.region ?_
              refine G.op1 (op_assign (Ev.c _ rfl) rfl) rfl trivial trivial ?_
              refine G.endOps ?_
              cases hF
              exact G.ret1 Try.results4 (RVar.tmp 2 _) ⟨rfl, trivial⟩ trivial
            · refine G.cond rfl (fun hx => by rw [hc37] at hx; cases hx) (fun _ => ?_)
              refine G.skip ?_
              exact G.arr (J30 r32.1 hF) ⟨rfl, rfl, rfl, rfl, trivial⟩ trivial rfl
          · refine G.cond rfl (fun hx => by rw [hc35] at hx; cases hx) (fun _ => ?_)
            refine G.skip ?_
            exact G.arr (J30 v4.1 hF) ⟨rfl, rfl, rfl, rfl, trivial⟩ trivial rfl
      · refine G.cond rfl (fun hx => by rw [hc31] at hx; cases hx) (fun _ => ?_)
        refine G.seq ?_
        refine G.region ?_
        refine G.op1 (op_move (Ev.t 4 (.g (.d (.sl 2 (List.map encApi_Pin v4.1))))) rfl) rfl ⟨rfl, trivial⟩ trivial ?_
        refine G.op1 (op_move (Ev.t 6 (bI .i64 (IntKind.wrap .i64 ((Int.tmod x12 20) - 5)))) rfl) rfl ⟨rfl, trivial⟩ trivial ?_
        refine G.op1 (op_build (zs := [.v (.int .i64 0), .sl 3 (List.map encApi_Dep ([] : (List Api_Dep)))]) (ds := [.v (.int .i64 (IntKind.wrap .i64 ((Int.tmod x12 20) - 5))), .sl 3 (List.map encApi_Dep ([] : (List Api_Dep)))]) Try.underlying29 ti29 (pl29 _ Try.underlying29) ⟨.v _ rfl, .n 3, trivial⟩ (EvP.cons (Ev.t 70 (bI .i64 (IntKind.wrap .i64 ((Int.tmod x12 20) - 5)))) EvP.nil) rfl rfl) rfl ⟨rfl, trivial⟩ trivial ?_
        obtain ⟨r38, hr38, hF⟩ := bindS hF
        refine G.op1 (op_call (sv := .tup [.g (.d (.sl 2 (List.map encApi_Pin r38.1))), bI .i64 r38.2]) cf10 (ct_pins_Put v4.1 (Api_Pin.mk (IntKind.wrap .i64 ((Int.tmod x12 20) - 5)) ([] : (List Api_Dep))) r38 hr38) rfl (EvL.cons (Ev.t 69 (.g (.d (.sl 2 (List.map encApi_Pin v4.1))))) (EvL.cons (Ev.t 71 (.g (.agg [.v (.int .i64 (IntKind.wrap .i64 ((Int.tmod x12 20) - 5))), .sl 3 (List.map encApi_Dep ([] : (List Api_Dep)))]))) EvL.nil)) rfl) rfl ⟨rfl, rfl, trivial⟩ trivial ?_
        refine G.op1 (op_moveS (t := 72) (sv := .tup [.g (.d (.sl 2 (List.map encApi_Pin r38.1))), bI .i64 r38.2]) rfl) rfl ⟨rfl, trivial⟩ trivial ?_
        refine G.op1 (op_extract (l := [.g (.d (.sl 2 (List.map encApi_Pin r38.1))), bI .i64 r38.2]) (c := .g (.d (.sl 2 (List.map encApi_Pin r38.1)))) rfl rfl) rfl ⟨rfl, trivial⟩ trivial ?_
        refine G.op1 (op_extract (l := [.g (.d (.sl 2 (List.map encApi_Pin r38.1))), bI .i64 r38.2]) (c := bI .i64 r38.2) rfl rfl) rfl ⟨rfl, trivial⟩ trivial ?_
        refine G.op1 (op_assign (Ev.t 73 (.g (.d (.sl 2 (List.map encApi_Pin r38.1))))) rfl) rfl ⟨rfl, trivial⟩ trivial ?_
        refine G.op1 (op_assign (Ev.t 74 (bI .i64 r38.2)) rfl) rfl ⟨rfl, trivial⟩ trivial ?_
        refine G.endOps ?_
        refine G.seq ?_
        refine G.region ?_
        refine G.op1 (op_move (Ev.t 4 (.g (.d (.sl 2 (List.map encApi_Pin v4.1))))) rfl) rfl ⟨rfl, trivial⟩ trivial ?_
        refine G.op1 (op_move (Ev.t 6 (bI .i64 (IntKind.wrap .i64 ((Int.tmod x12 20) - 5)))) rfl) rfl ⟨rfl, trivial⟩ trivial ?_
        obtain ⟨r39, hr39, hF⟩ := bindS hF
        refine G.op1 (op_call (sv := .tup [.g (.agg [.v (.int .i64 r39.1.ID), .sl 3 (List.map encApi_Dep r39.1.Deps)]), bB r39.2]) cf12 (ct_pins_Get v4.1 (IntKind.wrap .i64 ((Int.tmod x12 20) - 5)) r39 hr39) rfl (EvL.cons (Ev.t 76 (.g (.d (.sl 2 (List.map encApi_Pin v4.1))))) (EvL.cons (Ev.t 77 (bI .i64 (IntKind.wrap .i64 ((Int.tmod x12 20) - 5)))) EvL.nil)) rfl) rfl ⟨rfl, rfl, trivial⟩ trivial ?_
        refine G.op1 (op_moveS (t := 78) (sv := .tup [.g (.agg [.v (.int .i64 r39.1.ID), .sl 3 (List.map encApi_Dep r39.1.Deps)]), bB r39.2]) rfl) rfl ⟨rfl, trivial⟩ trivial ?_
        refine G.op1 (op_extract (l := [.g (.agg [.v (.int .i64 r39.1.ID), .sl 3 (List.map encApi_Dep r39.1.Deps)]), bB r39.2]) (c := .g (.agg [.v (.int .i64 r39.1.ID), .sl 3 (List.map encApi_Dep r39.1.Deps)])) rfl rfl) rfl ⟨rfl, trivial⟩ trivial ?_
        refine G.op1 (op_extract (l := [.g (.agg [.v (.int .i64 r39.1.ID), .sl 3 (List.map encApi_Dep r39.1.Deps)]), bB r39.2]) (c := bB r39.2) rfl rfl) rfl ⟨rfl, trivial⟩ trivial ?_
        refine G.op2 (op_alloc (k := 1015) (cs := [bI .i64 0, .g (.d (.sl 3 (List.map encApi_Dep ([] : (List Api_Dep)))))]) ti29 ⟨.v _ rfl, .n 3, trivial⟩ rfl) rfl trivial ⟨rfl, trivial⟩ ?_
        refine G.op3 (op_storeA (cs' := [bI .i64 r39.1.ID, .g (.d (.sl 3 (List.map encApi_Dep r39.1.Deps)))]) ti29 rfl rfl (Ev.t 15 (.ptr 1015 0)) (Ev.t 79 (.g (.agg [.v (.int .i64 r39.1.ID), .sl 3 (List.map encApi_Dep r39.1.Deps)])))) rfl ⟨rfl, rfl, trivial⟩ ⟨rfl, trivial⟩ ?_
        refine G.op1 (op_assign (Ev.t 80 (bB r39.2)) rfl) rfl ⟨rfl, trivial⟩ trivial ?_
        refine G.endOps ?_
        refine G.seq ?_
        refine G.region ?_
        refine G.op1 (op_move (Ev.t 14 (bI .i64 r38.2)) rfl) rfl ⟨rfl, trivial⟩ trivial ?_
        refine G.op1 (op_eqI (Ev.t 81 (bI .i64 r38.2)) (Ev.c _ rfl) rfl) rfl ⟨rfl, trivial⟩ trivial ?_
        refine G.endOps ?_
        refine ifS hF (fun hc40 hF => ?_) (fun hc40 hF => ?_)
        · refine G.cond rfl (fun _ => ?_) (fun hx => by rw [hc40] at hx; cases hx)
          refine G.seq ?_
          refine G.region ?_
          refine G.op1 (op_move (Ev.t 13 (.g (.d (.sl 2 (List.map encApi_Pin r38.1))))) rfl) rfl ⟨rfl, trivial⟩ trivial ?_
          refine G.op1 (op_assign (Ev.t 83 (.g (.d (.sl 2 (List.map encApi_Pin r38.1))))) rfl) rfl ⟨rfl, trivial⟩ trivial ?_
          refine G.endOps ?_
          refine G.seq ?_
          refine G.region ?_
          refine G.op1 (op_move (Ev.t 4 (.g (.d (.sl 2 (List.map encApi_Pin r38.1))))) rfl) rfl ⟨rfl, trivial⟩ trivial ?_
          refine G.op1 (op_move (Ev.t 6 (bI .i64 (IntKind.wrap .i64 ((Int.tmod x12 20) - 5)))) rfl) rfl ⟨rfl, trivial⟩ trivial ?_
          obtain ⟨r41, hr41, hF⟩ := bindS hF
          refine G.op1 (op_call (sv := .tup [.g (.agg [.v (.int .i64 r41.1.ID), .sl 3 (List.map encApi_Dep r41.1.Deps)]), bB r41.2]) cf12 (ct_pins_Get r38.1 (IntKind.wrap .i64 ((Int.tmod x12 20) - 5)) r41 hr41) rfl (EvL.cons (Ev.t 85 (.g (.d (.sl 2 (List.map encApi_Pin r38.1))))) (EvL.cons (Ev.t 86 (bI .i64 (IntKind.wrap .i64 ((Int.tmod x12 20) - 5)))) EvL.nil)) rfl) rfl ⟨rfl, rfl, trivial⟩ trivial ?_
          refine G.op1 (op_moveS (t := 87) (sv := .tup [.g (.agg [.v (.int .i64 r41.1.ID), .sl 3 (List.map encApi_Dep r41.1.Deps)]), bB r41.2]) rfl) rfl ⟨rfl, trivial⟩ trivial ?_
          refine G.op1 (op_extract (l := [.g (.agg [.v (.int .i64 r41.1.ID), .sl 3 (List.map encApi_Dep r41.1.Deps)]), bB r41.2]) (c := .g (.agg [.v (.int .i64 r41.1.ID), .sl 3 (List.map encApi_Dep r41.1.Deps)])) rfl rfl) rfl ⟨rfl, trivial⟩ trivial ?_
          refine G.op1 (op_extract (l := [.g (.agg [.v (.int .i64 r41.1.ID), .sl 3 (List.map encApi_Dep r41.1.Deps)]), bB r41.2]) (c := bB r41.2) rfl rfl) rfl ⟨rfl, trivial⟩ trivial ?_
          refine G.op2 (op_alloc (k := 1017) (cs := [bI .i64 0, .g (.d (.sl 3 (List.map encApi_Dep ([] : (List Api_Dep)))))]) ti29 ⟨.v _ rfl, .n 3, trivial⟩ rfl) rfl trivial ⟨rfl, trivial⟩ ?_
          refine G.op3 (op_storeA (cs' := [bI .i64 r41.1.ID, .g (.d (.sl 3 (List.map encApi_Dep r41.1.Deps)))]) ti29 rfl rfl (Ev.t 17 (.ptr 1017 0)) (Ev.t 88 (.g (.agg [.v (.int .i64 r41.1.ID), .sl 3 (List.map encApi_Dep r41.1.Deps)])))) rfl ⟨rfl, rfl, trivial⟩ ⟨rfl, trivial⟩ ?_
          refine G.op1 (op_assign (Ev.t 89 (bB r41.2)) rfl) rfl ⟨rfl, trivial⟩ trivial ?_
          refine G.endOps ?_
          refine G.seq ?_
          refine G.region ?_
          refine G.op1 (op_move (Ev.t 18 (bB r41.2)) rfl) rfl ⟨rfl, trivial⟩ trivial ?_
          refine G.op1 (op_not (Ev.t 90 (bB r41.2)) rfl) rfl ⟨rfl, trivial⟩ trivial ?_
          refine G.op1 (op_move (Ev.t 91 (bB (!r41.2))) rfl) rfl ⟨rfl, trivial⟩ trivial ?_
          refine ifS hF (fun hc42 hF => ?_) (fun hc42 hF => ?_)
          · refine G.known (t := 92) hc42 rfl ?_
            refine G.opN1 rfl rfl rfl rfl rfl ?_
            refine G.op1 (op_pickT (Ev.t 92 (bB true)) (Ev.c _ rfl) rfl) rfl ⟨rfl, trivial⟩ trivial ?_
            refine G.endOps ?_
            refine G.condT rfl ?_
            refine G.seq ?_
            refine G.region ?_
            refine G.op1 (op_assign (Ev.c _ rfl) rfl) rfl trivial trivial ?_
            refine G.endOps ?_
            cases hF
            exact G.ret1 Try.results4 (RVar.tmp 2 _) ⟨rfl, trivial⟩ trivial
          · refine G.known (t := 92) hc42 rfl ?_
            refine G.opG1 (op_move (Ev.t 16 (bB r39.2)) rfl) rfl rfl rfl ⟨rfl, trivial⟩ trivial ?_
            refine G.op1 (op_pickF (Ev.t 92 (bB false)) (Ev.t 93 (bB r39.2)) rfl) rfl ⟨rfl, rfl, trivial⟩ trivial ?_
            refine G.endOps ?_
            refine ifS hF (fun hc43 hF => ?_) (fun hc43 hF => ?_)
            · refine G.cond rfl (fun _ => ?_) (fun hx => by rw [hc43] at hx; cases hx)
              refine G.seq ?_
              refine G.region ?_
              refine G.op1 (op_assign (Ev.c _ rfl) rfl) rfl trivial trivial ?_
              refine G.endOps ?_
              cases hF
              exact G.ret1 Try.results4 (RVar.tmp 2 _) ⟨rfl, trivial⟩ trivial
            · refine G.cond rfl (fun hx => by rw [hc43] at hx; cases hx) (fun _ => ?_)
              refine G.skip ?_
              exact G.arr (J30 r38.1 hF) ⟨rfl, rfl, rfl, rfl, trivial⟩ trivial rfl
        · refine G.cond rfl (fun hx => by rw [hc40] at hx; cases hx) (fun _ => ?_)
          refine G.seq ?_
          refine G.region ?_
          refine G.op1 (op_move (Ev.t 6 (bI .i64 (IntKind.wrap .i64 ((Int.tmod x12 20) - 5)))) rfl) rfl ⟨rfl, trivial⟩ trivial ?_
          refine G.op1 (op_eqI (Ev.t 95 (bI .i64 (IntKind.wrap .i64 ((Int.tmod x12 20) - 5)))) (Ev.c _ rfl) rfl) rfl ⟨rfl, trivial⟩ trivial ?_
          refine G.op1 (op_move (Ev.t 96 (bB (decide ((IntKind.wrap .i64 ((Int.tmod x12 20) - 5)) = 0)))) rfl) rfl ⟨rfl, trivial⟩ trivial ?_
          refine G.joinL (T := Bool) 3 (fun y44 => ⟨[(0, .one (.g (.d (.sl 1 (List.map encI_i64 l_0))))), (3, .one (bB r1)), (4, .one (.g (.d (.sl 2 (List.map encApi_Pin v4.1))))), (5, .one (bI .i64 v4.2)), (14, .one (bI .i64 r38.2)), (16, .one (bB r39.2)), (100, .one (bB y44))], []⟩) (fun y44 => law16_PinsRise_k8 again6 v4 r38 r39 y44 = some r) (fun y44 hF => ?_) (fun J54 => ?_)
          · unfold law16_PinsRise_k8 at hF
            refine G.op1 (op_move (Ev.t 100 (bB y44)) rfl) rfl ⟨rfl, trivial⟩ trivial ?_
            refine G.joinL (T := Bool) 6 (fun y45 => ⟨[(0, .one (.g (.d (.sl 1 (List.map encI_i64 l_0))))), (3, .one (bB r1)), (4, .one (.g (.d (.sl 2 (List.map encApi_Pin v4.1))))), (5, .one (bI .i64 v4.2)), (14, .one (bI .i64 r38.2)), (107, .one (bB y45))], []⟩) (fun y45 => law16_PinsRise_k9 again6 v4 r38 y45 = some r) (fun y45 hF => ?_) (fun J51 => ?_)
            · unfold law16_PinsRise_k9 at hF
              refine G.op1 (op_move (Ev.t 107 (bB y45)) rfl) rfl ⟨rfl, trivial⟩ trivial ?_
              refine ifS hF (fun hc46 hF => ?_) (fun hc46 hF => ?_)
              · refine G.known (t := 108) hc46 rfl ?_
                refine G.opN1 rfl rfl rfl rfl rfl ?_
                refine G.opN1 rfl rfl rfl rfl rfl ?_
                refine G.opN1 rfl rfl rfl rfl rfl ?_
                refine G.opN1 rfl rfl rfl rfl rfl ?_
                refine G.opU rfl rfl rfl rfl ?_
                refine G.opU rfl rfl rfl rfl ?_
                refine G.opN1 rfl rfl rfl rfl rfl ?_
                refine G.op1 (op_pickT (Ev.t 108 (bB true)) (Ev.c _ rfl) rfl) rfl ⟨rfl, trivial⟩ trivial ?_
                refine G.op1 (op_not (Ev.t 116 (bB true)) rfl) rfl ⟨rfl, trivial⟩ trivial ?_
                refine G.endOps ?_
                refine ifS hF (fun hc47 hF => ?_) (fun hc47 hF => ?_)
                · refine G.cond rfl (fun _ => ?_) (fun hx => by rw [hc47] at hx; cases hx)
                  refine G.seq ?_
                  refine G.region ?_
                  refine G.op1 (op_assign (Ev.c _ rfl) rfl) rfl trivial trivial ?_
                  refine G.endOps ?_
                  cases hF
                  exact G.ret1 Try.results4 (RVar.tmp 2 _) ⟨rfl, trivial⟩ trivial
                · refine G.cond rfl (fun hx => by rw [hc47] at hx; cases hx) (fun _ => ?_)
                  refine G.skip ?_
                  exact G.arr (J30 v4.1 hF) ⟨rfl, rfl, rfl, rfl, trivial⟩ trivial rfl
              · refine G.known (t := 108) hc46 rfl ?_
                refine G.opG1 (op_move (Ev.t 4 (.g (.d (.sl 2 (List.map encApi_Pin v4.1))))) rfl) rfl rfl rfl ⟨rfl, trivial⟩ trivial ?_
                refine G.opG1 (OpL.cast (op_lenD Try.underlying23 (Ev.t 109 (.g (.d (.sl 2 (List.map encApi_Pin v4.1))))) rfl) (by rw [List.length_map])) rfl rfl rfl ⟨rfl, trivial⟩ trivial ?_
                refine G.opG1 (op_eqI (Ev.t 110 (bI .i64 (v4.1.length : Int))) (Ev.c _ rfl) rfl) rfl rfl rfl ⟨rfl, trivial⟩ trivial ?_
                refine G.opG1 (op_move (Ev.t 111 (bB (decide ((v4.1.length : Int) = 8)))) rfl) rfl rfl rfl ⟨rfl, trivial⟩ trivial ?_
                refine ifS hF (fun hc48 hF => ?_) (fun hc48 hF => ?_)
                · refine G.known (t := 112) hc48 rfl ?_
                  refine G.opG1 (op_move (Ev.t 14 (bI .i64 r38.2)) rfl) rfl rfl rfl ⟨rfl, trivial⟩ trivial ?_
                  refine G.opG1 (op_eqI (Ev.t 113 (bI .i64 r38.2)) (Ev.c _ rfl) rfl) rfl rfl rfl ⟨rfl, trivial⟩ trivial ?_
                  refine G.opG1 (op_pickT (Ev.t 112 (bB true)) (Ev.t 114 (bB (decide (r38.2 = 15)))) rfl) rfl rfl rfl ⟨rfl, rfl, trivial⟩ trivial ?_
                  refine G.op1 (op_pickF (Ev.t 108 (bB false)) (Ev.t 115 (bB (decide (r38.2 = 15)))) rfl) rfl ⟨rfl, rfl, trivial⟩ trivial ?_
                  refine G.op1 (op_not (Ev.t 116 (bB (decide (r38.2 = 15)))) rfl) rfl ⟨rfl, trivial⟩ trivial ?_
                  refine G.endOps ?_
                  refine ifS hF (fun hc49 hF => ?_) (fun hc49 hF => ?_)
                  · refine G.cond rfl (fun _ => ?_) (fun hx => by rw [hc49] at hx; cases hx)
                    refine G.seq ?_
                    refine G.region ?_
                    refine G.op1 (op_assign (Ev.c _ rfl) rfl) rfl trivial trivial ?_
                    refine G.endOps ?_
                    cases hF
                    exact G.ret1 Try.results4 (RVar.tmp 2 _) ⟨rfl, trivial⟩ trivial
                  · refine G.cond rfl (fun hx => by rw [hc49] at hx; cases hx) (fun _ => ?_)
                    refine G.skip ?_
                    exact G.arr (J30 v4.1 hF) ⟨rfl, rfl, rfl, rfl, trivial⟩ trivial rfl
                · refine G.known (t := 112) hc48 rfl ?_
                  refine G.opN1 rfl rfl rfl rfl rfl ?_
                  refine G.opN1 rfl rfl rfl rfl rfl ?_
                  refine G.opG1 (op_pickF (Ev.t 112 (bB false)) (Ev.c _ rfl) rfl) rfl rfl rfl ⟨rfl, trivial⟩ trivial ?_
                  refine G.op1 (op_pickF (Ev.t 108 (bB false)) (Ev.t 115 (bB false)) rfl) rfl ⟨rfl, rfl, trivial⟩ trivial ?_
                  refine G.op1 (op_not (Ev.t 116 (bB false)) rfl) rfl ⟨rfl, trivial⟩ trivial ?_
                  refine G.endOps ?_
                  refine ifS hF (fun hc50 hF => ?_) (fun hc50 hF => ?_)
                  · refine G.cond rfl (fun _ => ?_) (fun hx => by rw [hc50] at hx; cases hx)
                    refine G.seq ?_
                    refine G.region ?_
                    refine G.op1 (op_assign (Ev.c _ rfl) rfl) rfl trivial trivial ?_
                    refine G.endOps ?_
                    cases hF
                    exact G.ret1 Try.results4 (RVar.tmp 2 _) ⟨rfl, trivial⟩ trivial
                  · refine G.cond rfl (fun hx => by rw [hc50] at hx; cases hx) (fun _ => ?_)
                    refine G.skip ?_
                    exact G.arr (J30 v4.1 hF) ⟨rfl, rfl, rfl, rfl, trivial⟩ trivial rfl
            refine ifS hF (fun hc52 hF => ?_) (fun hc52 hF => ?_)
            · refine G.known (t := 101) hc52 rfl ?_
              refine G.opN1 rfl rfl rfl rfl rfl ?_
              refine G.opN1 rfl rfl rfl rfl rfl ?_
              refine G.opU rfl rfl rfl rfl ?_
              refine G.opU rfl rfl rfl rfl ?_
              refine G.opN1 rfl rfl rfl rfl rfl ?_
              refine G.op1 (op_pickT (Ev.t 101 (bB true)) (Ev.c _ rfl) rfl) rfl ⟨rfl, trivial⟩ trivial ?_
              exact G.arr (J51 true hF) ⟨rfl, rfl, rfl, rfl, rfl, rfl, trivial⟩ trivial rfl
            · refine G.known (t := 101) hc52 rfl ?_
              refine G.opG1 (op_move (Ev.t 16 (bB r39.2)) rfl) rfl rfl rfl ⟨rfl, trivial⟩ trivial ?_
              refine G.opG1 (op_move (Ev.t 102 (bB r39.2)) rfl) rfl rfl rfl ⟨rfl, trivial⟩ trivial ?_
              refine ifS hF (fun hc53 hF => ?_) (fun hc53 hF => ?_)
              · refine G.known (t := 103) hc53 rfl ?_
                refine G.opG1 (op_move (Ev.t 14 (bI .i64 r38.2)) rfl) rfl rfl rfl ⟨rfl, trivial⟩ trivial ?_
                refine G.opG1 (op_eqI (Ev.t 104 (bI .i64 r38.2)) (Ev.c _ rfl) rfl) rfl rfl rfl ⟨rfl, trivial⟩ trivial ?_
                refine G.opG1 (op_pickT (Ev.t 103 (bB true)) (Ev.t 105 (bB (decide (r38.2 = 13)))) rfl) rfl rfl rfl ⟨rfl, rfl, trivial⟩ trivial ?_
                refine G.op1 (op_pickF (Ev.t 101 (bB false)) (Ev.t 106 (bB (decide (r38.2 = 13)))) rfl) rfl ⟨rfl, rfl, trivial⟩ trivial ?_
                exact G.arr (J51 (decide (r38.2 = 13)) hF) ⟨rfl, rfl, rfl, rfl, rfl, rfl, trivial⟩ trivial rfl
              · refine G.known (t := 103) hc53 rfl ?_
                refine G.opN1 rfl rfl rfl rfl rfl ?_
                refine G.opN1 rfl rfl rfl rfl rfl ?_
                refine G.opG1 (op_pickF (Ev.t 103 (bB false)) (Ev.c _ rfl) rfl) rfl rfl rfl ⟨rfl, trivial⟩ trivial ?_
                refine G.op1 (op_pickF (Ev.t 101 (bB false)) (Ev.t 106 (bB false)) rfl) rfl ⟨rfl, rfl, trivial⟩ trivial ?_
                exact G.arr (J51 false hF) ⟨rfl, rfl, rfl, rfl, rfl, rfl, trivial⟩ trivial rfl
          refine ifS hF (fun hc55 hF => ?_) (fun hc55 hF => ?_)
          · refine G.known (t := 97) hc55 rfl ?_
            refine G.opG1 (op_move (Ev.t 14 (bI .i64 r38.2)) rfl) rfl rfl rfl ⟨rfl, trivial⟩ trivial ?_
            refine G.opG1 (op_eqI (Ev.t 98 (bI .i64 r38.2)) (Ev.c _ rfl) rfl) rfl rfl rfl ⟨rfl, trivial⟩ trivial ?_
            refine G.op1 (op_pickT (Ev.t 97 (bB true)) (Ev.t 99 (bB (decide (r38.2 = 1)))) rfl) rfl ⟨rfl, rfl, trivial⟩ trivial ?_
            exact G.arr (J54 (decide (r38.2 = 1)) hF) ⟨rfl, rfl, rfl, rfl, rfl, rfl, rfl, trivial⟩ trivial rfl
          · refine G.known (t := 97) hc55 rfl ?_
            refine G.opN1 rfl rfl rfl rfl rfl ?_
            refine G.opN1 rfl rfl rfl rfl rfl ?_
            refine G.op1 (op_pickF (Ev.t 97 (bB false)) (Ev.c _ rfl) rfl) rfl ⟨rfl, trivial⟩ trivial ?_
            exact G.arr (J54 false hF) ⟨rfl, rfl, rfl, rfl, rfl, rfl, rfl, trivial⟩ trivial rfl
    · refine G.cond rfl (fun hx => by rw [hc9] at hx; cases hx) (fun _ => ?_)
      refine G.exit ?_
      refine GX.c ?_
      refine GX.q ?_
      refine GX.bYes ?_
      exact G.arr (J3 () hF) ⟨rfl, trivial⟩ trivial rfl
  refine G.region ?_
  refine G.op1 (op_move (Ev.t 5 (bI .i64 v4.2)) rfl) rfl ⟨rfl, trivial⟩ trivial ?_
  refine G.op1 (op_move (Ev.t 0 (.g (.d (.sl 1 (List.map encI_i64 l_0))))) rfl) rfl ⟨rfl, trivial⟩ trivial ?_
  refine G.op1 (OpL.cast (op_lenD Try.underlying32 (Ev.t 22 (.g (.d (.sl 1 (List.map encI_i64 l_0))))) rfl) (by rw [List.length_map])) rfl ⟨rfl, trivial⟩ trivial ?_
  refine G.op1 (op_lss (Ev.t 21 (bI .i64 v4.2)) (Ev.t 23 (bI .i64 (l_0.length : Int))) rfl) rfl ⟨rfl, rfl, trivial⟩ trivial ?_
  refine G.op1 (op_move (Ev.t 24 (bB (decide (v4.2 < (l_0.length : Int))))) rfl) rfl ⟨rfl, trivial⟩ trivial ?_
  refine ifS hF (fun hc57 hF => ?_) (fun hc57 hF => ?_)
  · refine G.known (t := 25) hc57 rfl ?_
    refine G.opG1 (op_move (Ev.t 5 (bI .i64 v4.2)) rfl) rfl rfl rfl ⟨rfl, trivial⟩ trivial ?_
    refine G.opG1 (op_lss (Ev.t 26 (bI .i64 v4.2)) (Ev.c _ rfl) rfl) rfl rfl rfl ⟨rfl, trivial⟩ trivial ?_
    refine G.op1 (op_pickT (Ev.t 25 (bB true)) (Ev.t 27 (bB (decide (v4.2 < 40)))) rfl) rfl ⟨rfl, rfl, trivial⟩ trivial ?_
    refine G.endOps ?_
    exact G.arr (J56 (decide (v4.2 < 40)) hF) ⟨rfl, rfl, rfl, rfl, rfl, trivial⟩ trivial rfl
  · refine G.known (t := 25) hc57 rfl ?_
    refine G.opN1 rfl rfl rfl rfl rfl ?_
    refine G.opN1 rfl rfl rfl rfl rfl ?_
    refine G.op1 (op_pickF (Ev.t 25 (bB false)) (Ev.c _ rfl) rfl) rfl ⟨rfl, trivial⟩ trivial ?_
    refine G.endOps ?_
    exact G.arr (J56 false hF) ⟨rfl, rfl, rfl, rfl, rfl, trivial⟩ trivial rfl


end Go.Ark
