/- Walks, printed by a program of mine: each function of the program computes the typed function of its name. Conditions: none. -/
import Derived.Test.YtimnigdjffpnbaaFlib
import Derived.Test.YtimnigdjffpnbaaFpins
import Derived.Test.YtimnigdjffpnbaaFlaw16
import Derived.Test.YtimnigdjffpnbaaProg
import Derived.KernelRfl
import Derived.Test.YtimnigdjffpnbaaHpins
namespace Go.Ark
open Go Go.Ab Go.RowKit Go.Lib Go.Proofs



theorem follows : Try.prog.follows .mixedOrders = true := by kernel_rfl

theorem cf10 : CallF Try.prog 10 := fun args w => Try.call10 args w

theorem cf13 : CallF Try.prog 13 := fun args w => Try.call13 args w

theorem cf16 : CallF Try.prog 16 := fun args w => Try.call16 args w

theorem cf17 : CallF Try.prog 17 := fun args w => Try.call17 args w

theorem cf23 : CallF Try.prog 23 := fun args w => Try.call23 args w

theorem cf24 : CallF Try.prog 24 := fun args w => Try.call24 args w

theorem cf25 : CallF Try.prog 25 := fun args w => Try.call25 args w

theorem cf29 : CallF Try.prog 29 := fun args w => Try.call29 args w

theorem cf30 : CallF Try.prog 30 := fun args w => Try.call30 args w

theorem cf31 : CallF Try.prog 31 := fun args w => Try.call31 args w

theorem cf36 : CallF Try.prog 36 := fun args w => Try.call36 args w

theorem cf9 : CallF Try.prog 9 := fun args w => Try.call9 args w

theorem eq42 (a0 : Int) (a1 : Int) (b0 : Int) (b1 : Int) (w : World) : (binOp .eql 42 (.agg #[.int .i64 a0, .int .i64 a1]) (.agg #[.int .i64 b0, .int .i64 b1])).run Try.prog w = .ok (.bool (decide (a0 = b0) && decide (a1 = b1))) w := by
  have u3 := Try.underlying3; have z3 := Try.sizeOf3; have g3 := Try.isAgg3
  have hS : Try.prog.underlying 42 = some (.struct (Try.prog.fieldsOf 42)) := by kernel_rfl
  rw [run_eql_struct, show (10000 : Nat) = 9999 + 1 from rfl, run_equalIn_agg w 9999 42 _ _ hS Try.stoodInHeld42]
  simp only [Program.fieldsOf, Try.underlying42]
  go_simp
  by_cases e0 : a0 = b0 <;> by_cases e1 : a1 = b1 <;> simp [*]

theorem ne42 (a0 : Int) (a1 : Int) (b0 : Int) (b1 : Int) (w : World) : (binOp .neq 42 (.agg #[.int .i64 a0, .int .i64 a1]) (.agg #[.int .i64 b0, .int .i64 b1])).run Try.prog w = .ok (.bool (!(decide (a0 = b0) && decide (a1 = b1)))) w := by
  have u3 := Try.underlying3; have z3 := Try.sizeOf3; have g3 := Try.isAgg3
  have hS : Try.prog.underlying 42 = some (.struct (Try.prog.fieldsOf 42)) := by kernel_rfl
  rw [run_neq_struct, show (10000 : Nat) = 9999 + 1 from rfl, run_equalIn_agg w 9999 42 _ _ hS Try.stoodInHeld42]
  simp only [Program.fieldsOf, Try.underlying42]
  go_simp
  by_cases e0 : a0 = b0 <;> by_cases e1 : a1 = b1 <;> simp [*]

theorem ti27 : Info Try.prog 27 (.slice none 0 0) 1 24 := Info.of (by kernel_rfl)

theorem ti29 : Info Try.prog 29 (.agg #[.int .i64 0, .slice none 0 0]) 2 32 := Info.of (by kernel_rfl)

theorem ti3 : Info Try.prog 3 (.int .i64 0) 1 8 := Info.of (by kernel_rfl)

theorem ti42 : Info Try.prog 42 (.agg #[.int .i64 0, .int .i64 0]) 2 16 := Info.of (by kernel_rfl)

theorem ti44 : Info Try.prog 44 (.agg #[.string ByteArray.empty, .int .i64 0, .int .i64 0]) 3 32 := Info.of (by kernel_rfl)

theorem ti9 : Info Try.prog 9 (.string ByteArray.empty) 1 16 := Info.of (by kernel_rfl)

theorem pl29 (fs : Array Field) (h : Try.prog.underlying 29 = some (.struct fs)) : Places Try.prog fs #[(0, 1), (1, 1)] := fun w => by rw [Try.underlying29] at h; cases h; simp [Try.sizeOf27, Try.sizeOf3]

set_option maxRecDepth 20000 in
set_option maxHeartbeats 2000000 in
theorem ct_cmp_isNaN_int (x_0 : Int) (r : Bool) (hF : cmp_isNaN_int x_0 = some r) : Ct Try.prog 36 [.g (.d (.v (.int .i64 x_0)))] (.one (.d (.v (.bool r)))) := by
  unfold cmp_isNaN_int at hF
  refine Ct.intro Try.func36 rfl Try.ntmps36 rfl rfl fun M w => ?_
  refine G.seq ?_
  refine G.region ?_
  refine G.op1 (op_assign (Ev.c _ rfl) rfl) rfl trivial trivial ?_
  refine G.endOps ?_
  refine G.seq ?_
  refine G.region ?_
  refine G.op1 (op_move (Ev.t 0 (bI .i64 x_0)) rfl) rfl ⟨rfl, trivial⟩ trivial ?_
  refine G.op1 (op_move (Ev.t 0 (bI .i64 x_0)) rfl) rfl ⟨rfl, trivial⟩ trivial ?_
  refine G.op1 (op_neI (Ev.t 3 (bI .i64 x_0)) (Ev.t 4 (bI .i64 x_0)) rfl) rfl ⟨rfl, rfl, trivial⟩ trivial ?_
  refine G.op1 (op_assign (Ev.t 5 (bB (!decide (x_0 = x_0)))) rfl) rfl ⟨rfl, trivial⟩ trivial ?_
  refine G.endOps ?_
  cases hF
  exact G.ret1 Try.results36 (RVar.tmp 2 _) ⟨rfl, trivial⟩ trivial


set_option maxRecDepth 20000 in
set_option maxHeartbeats 2000000 in
theorem ct_cmp_Compare_int (x_0 : Int) (y_1 : Int) (r : Int) (hF : cmp_Compare_int x_0 y_1 = some r) : Ct Try.prog 31 [.g (.d (.v (.int .i64 x_0))), .g (.d (.v (.int .i64 y_1)))] (.one (.d (.v (.int .i64 r)))) := by
  unfold cmp_Compare_int at hF
  refine Ct.intro Try.func31 rfl Try.ntmps31 rfl rfl fun M w => ?_
  refine G.seq ?_
  refine G.region ?_
  refine G.op1 (op_assign (Ev.c _ rfl) rfl) rfl trivial trivial ?_
  refine G.endOps ?_
  refine G.seq ?_
  refine G.region ?_
  refine G.op1 (op_move (Ev.t 0 (bI .i64 x_0)) rfl) rfl ⟨rfl, trivial⟩ trivial ?_
  obtain ⟨r1, hr1, hF⟩ := bindS hF
  refine G.op1 (op_callQ (sv := .one (bB r1)) cf36 (ct_cmp_isNaN_int x_0 r1 hr1) rfl rfl (EvQL.cons (EvQ.g (Ev.t 7 (bI .i64 x_0))) EvQL.nil) rfl) rfl ⟨rfl, trivial⟩ trivial ?_
  refine G.op1 (op_assign (Ev.t 8 (bB r1)) rfl) rfl ⟨rfl, trivial⟩ trivial ?_
  refine G.endOps ?_
  refine G.seq ?_
  refine G.region ?_
  refine G.op1 (op_move (Ev.t 1 (bI .i64 y_1)) rfl) rfl ⟨rfl, trivial⟩ trivial ?_
  obtain ⟨r2, hr2, hF⟩ := bindS hF
  refine G.op1 (op_callQ (sv := .one (bB r2)) cf36 (ct_cmp_isNaN_int y_1 r2 hr2) rfl rfl (EvQL.cons (EvQ.g (Ev.t 9 (bI .i64 y_1))) EvQL.nil) rfl) rfl ⟨rfl, trivial⟩ trivial ?_
  refine G.op1 (op_assign (Ev.t 10 (bB r2)) rfl) rfl ⟨rfl, trivial⟩ trivial ?_
  refine G.endOps ?_
  refine G.seq ?_
  refine G.seq ?_
  refine G.region ?_
  refine G.op1 (op_move (Ev.t 5 (bB r1)) rfl) rfl ⟨rfl, trivial⟩ trivial ?_
  refine G.endOps ?_
  refine ifS hF (fun hc3 hF => ?_) (fun hc3 hF => ?_)
  · refine G.cond rfl (fun _ => ?_) (fun hx => by rw [hc3] at hx; cases hx)
    refine G.seq ?_
    refine G.seq ?_
    refine G.region ?_
    refine G.op1 (op_move (Ev.t 6 (bB r2)) rfl) rfl ⟨rfl, trivial⟩ trivial ?_
    refine G.endOps ?_
    refine ifS hF (fun hc4 hF => ?_) (fun hc4 hF => ?_)
    · refine G.cond rfl (fun _ => ?_) (fun hx => by rw [hc4] at hx; cases hx)
      refine G.seq ?_
      refine G.region ?_
      refine G.op1 (op_assign (Ev.c _ rfl) rfl) rfl trivial trivial ?_
      refine G.endOps ?_
      cases hF
      exact G.ret1 Try.results31 (RVar.tmp 4 _) ⟨rfl, trivial⟩ trivial
    · refine G.cond rfl (fun hx => by rw [hc4] at hx; cases hx) (fun _ => ?_)
      refine G.skip ?_
      refine G.seq ?_
      refine G.region ?_
      refine G.op1 (op_assign (Ev.c _ rfl) rfl) rfl trivial trivial ?_
      refine G.endOps ?_
      cases hF
      exact G.ret1 Try.results31 (RVar.tmp 4 _) ⟨rfl, trivial⟩ trivial
  · refine G.cond rfl (fun hx => by rw [hc3] at hx; cases hx) (fun _ => ?_)
    refine G.skip ?_
    refine G.seq ?_
    refine G.seq ?_
    refine G.region ?_
    refine G.op1 (op_move (Ev.t 6 (bB r2)) rfl) rfl ⟨rfl, trivial⟩ trivial ?_
    refine G.endOps ?_
    refine ifS hF (fun hc5 hF => ?_) (fun hc5 hF => ?_)
    · refine G.cond rfl (fun _ => ?_) (fun hx => by rw [hc5] at hx; cases hx)
      refine G.seq ?_
      refine G.region ?_
      refine G.op1 (op_assign (Ev.c _ rfl) rfl) rfl trivial trivial ?_
      refine G.endOps ?_
      cases hF
      exact G.ret1 Try.results31 (RVar.tmp 4 _) ⟨rfl, trivial⟩ trivial
    · refine G.cond rfl (fun hx => by rw [hc5] at hx; cases hx) (fun _ => ?_)
      refine G.skip ?_
      refine G.seq ?_
      refine G.seq ?_
      refine G.region ?_
      refine G.op1 (op_move (Ev.t 0 (bI .i64 x_0)) rfl) rfl ⟨rfl, trivial⟩ trivial ?_
      refine G.op1 (op_move (Ev.t 1 (bI .i64 y_1)) rfl) rfl ⟨rfl, trivial⟩ trivial ?_
      refine G.op1 (op_lss (Ev.t 14 (bI .i64 x_0)) (Ev.t 15 (bI .i64 y_1)) rfl) rfl ⟨rfl, rfl, trivial⟩ trivial ?_
      refine G.endOps ?_
      refine ifS hF (fun hc6 hF => ?_) (fun hc6 hF => ?_)
      · refine G.cond rfl (fun _ => ?_) (fun hx => by rw [hc6] at hx; cases hx)
        refine G.seq ?_
        refine G.region ?_
        refine G.op1 (op_assign (Ev.c _ rfl) rfl) rfl trivial trivial ?_
        refine G.endOps ?_
        cases hF
        exact G.ret1 Try.results31 (RVar.tmp 4 _) ⟨rfl, trivial⟩ trivial
      · refine G.cond rfl (fun hx => by rw [hc6] at hx; cases hx) (fun _ => ?_)
        refine G.skip ?_
        refine G.seq ?_
        refine G.seq ?_
        refine G.region ?_
        refine G.op1 (op_move (Ev.t 0 (bI .i64 x_0)) rfl) rfl ⟨rfl, trivial⟩ trivial ?_
        refine G.op1 (op_move (Ev.t 1 (bI .i64 y_1)) rfl) rfl ⟨rfl, trivial⟩ trivial ?_
        refine G.op1 (op_gtr (Ev.t 17 (bI .i64 x_0)) (Ev.t 18 (bI .i64 y_1)) rfl) rfl ⟨rfl, rfl, trivial⟩ trivial ?_
        refine G.endOps ?_
        refine ifS hF (fun hc7 hF => ?_) (fun hc7 hF => ?_)
        · refine G.cond rfl (fun _ => ?_) (fun hx => by rw [hc7] at hx; cases hx)
          refine G.seq ?_
          refine G.region ?_
          refine G.op1 (op_assign (Ev.c _ rfl) rfl) rfl trivial trivial ?_
          refine G.endOps ?_
          cases hF
          exact G.ret1 Try.results31 (RVar.tmp 4 _) ⟨rfl, trivial⟩ trivial
        · refine G.cond rfl (fun hx => by rw [hc7] at hx; cases hx) (fun _ => ?_)
          refine G.skip ?_
          refine G.seq ?_
          refine G.region ?_
          refine G.op1 (op_assign (Ev.c _ rfl) rfl) rfl trivial trivial ?_
          refine G.endOps ?_
          cases hF
          exact G.ret1 Try.results31 (RVar.tmp 4 _) ⟨rfl, trivial⟩ trivial


set_option maxRecDepth 20000 in
set_option maxHeartbeats 2000000 in
theorem ct_pins_find_1 (p_0 : Api_Pin) (id_1 : Int) (r : Int) (hF : pins_find_1 p_0 id_1 = some r) : Ct Try.prog 30 [.g (.agg (encApi_Pin p_0)), .g (.d (.v (.int .i64 id_1)))] (.one (.d (.v (.int .i64 r)))) := by
  unfold pins_find_1 at hF
  refine Ct.intro Try.func30 rfl Try.ntmps30 rfl rfl fun M w => ?_
  refine G.seq ?_
  refine G.region ?_
  refine G.op2 (op_boxA (k := 1002) (Ev.t 0 (.g (.agg [.v (.int .i64 p_0.ID), .sl 3 (List.map encApi_Dep p_0.Deps)]))) rfl) rfl ⟨rfl, trivial⟩ ⟨rfl, trivial⟩ ?_
  refine G.op1 (op_assign (Ev.c _ rfl) rfl) rfl trivial trivial ?_
  refine G.endOps ?_
  refine G.seq ?_
  refine G.region ?_
  refine G.op1 (op_fieldP (off' := 0) Try.underlying29 rfl ti3 (by decide) rfl (Ev.t 2 (.ptr 1002 0)) rfl) rfl ⟨rfl, trivial⟩ trivial ?_
  refine G.op1 (op_load1P (c := bI .i64 p_0.ID) Try.underlying3 rfl rfl (Ev.t 5 (.ptr 1002 0)) rfl) rfl ⟨rfl, trivial⟩ ⟨rfl, trivial⟩ ?_
  refine G.op1 (op_move (Ev.t 1 (bI .i64 id_1)) rfl) rfl ⟨rfl, trivial⟩ trivial ?_
  obtain ⟨r1, hr1, hF⟩ := bindS hF
  refine G.op1 (op_callQ (sv := .one (bI .i64 r1)) cf31 (ct_cmp_Compare_int p_0.ID id_1 r1 hr1) rfl rfl (EvQL.cons (EvQ.g (Ev.t 6 (bI .i64 p_0.ID))) (EvQL.cons (EvQ.g (Ev.t 7 (bI .i64 id_1))) EvQL.nil)) rfl) rfl ⟨rfl, rfl, trivial⟩ trivial ?_
  refine G.op1 (op_assign (Ev.t 8 (bI .i64 r1)) rfl) rfl ⟨rfl, trivial⟩ trivial ?_
  refine G.endOps ?_
  cases hF
  exact G.ret1 Try.results30 (RVar.tmp 4 _) ⟨rfl, trivial⟩ trivial


set_option maxRecDepth 20000 in
set_option maxHeartbeats 2000000 in
theorem ct_slices_BinarySearchFunc_int (x_0 : (List Api_Pin)) (target_1 : Int) (cmp_2 : (Api_Pin → Int → Option Int)) (r : (Int × Bool)) (hF : slices_BinarySearchFunc_int x_0 target_1 cmp_2 = some r) : Ct Try.prog 29 [.g (.d (.sl 2 (List.map encApi_Pin x_0))), .g (.d (.v (.int .i64 target_1))), .sem (sem2 (fun x => .agg (encApi_Pin x)) (fun x => .d (.v (.int .i64 x))) (fun y => .int .i64 y) cmp_2)] (.tup [.d (.v (.int .i64 r.1)), .d (.v (.bool r.2))]) := by
  unfold slices_BinarySearchFunc_int at hF
  refine Ct.intro Try.func29 rfl Try.ntmps29 rfl rfl fun M w => ?_
  refine G.seq ?_
  refine G.region ?_
  refine G.op1 (op_assign (Ev.c _ rfl) rfl) rfl trivial trivial ?_
  refine G.op1 (op_assign (Ev.c _ rfl) rfl) rfl trivial trivial ?_
  refine G.endOps ?_
  refine G.seq ?_
  refine G.region ?_
  refine G.op1 (op_move (Ev.t 0 (.g (.d (.sl 2 (List.map encApi_Pin x_0))))) rfl) rfl ⟨rfl, trivial⟩ trivial ?_
  refine G.op1 (OpL.cast (op_lenD Try.underlying23 (Ev.t 12 (.g (.d (.sl 2 (List.map encApi_Pin x_0))))) rfl) (by rw [List.length_map])) rfl ⟨rfl, trivial⟩ trivial ?_
  refine G.op1 (op_assign (Ev.t 13 (bI .i64 (x_0.length : Int))) rfl) rfl ⟨rfl, trivial⟩ trivial ?_
  refine G.endOps ?_
  refine G.seq ?_
  refine G.region ?_
  refine G.op1 (op_move (Ev.t 8 (bI .i64 (x_0.length : Int))) rfl) rfl ⟨rfl, trivial⟩ trivial ?_
  refine G.op1 (op_assign (Ev.c _ rfl) rfl) rfl trivial trivial ?_
  refine G.op1 (op_assign (Ev.t 14 (bI .i64 (x_0.length : Int))) rfl) rfl ⟨rfl, trivial⟩ trivial ?_
  refine G.endOps ?_
  refine G.seq ?_
  refine G.joinC (T := Int) (fun y1 => ⟨[(0, .one (.g (.d (.sl 2 (List.map encApi_Pin x_0))))), (1, .one (bI .i64 target_1)), (2, .one (.sem (sem2 (fun x => .agg (encApi_Pin x)) (fun x => .d (.v (.int .i64 x))) (fun y => .int .i64 y) cmp_2))), (8, .one (bI .i64 (x_0.length : Int))), (9, .one (bI .i64 y1))], []⟩) (fun y1 => slices_BinarySearchFunc_int_k1 x_0 target_1 cmp_2 y1 = some r) (fun y1 hF => ?_) (fun J5 => ?_)
  · unfold slices_BinarySearchFunc_int_k1 at hF
    refine G.seq ?_
    refine G.region ?_
    refine G.op1 (op_move (Ev.t 9 (bI .i64 y1)) rfl) rfl ⟨rfl, trivial⟩ trivial ?_
    refine G.op1 (op_move (Ev.t 9 (bI .i64 y1)) rfl) rfl ⟨rfl, trivial⟩ trivial ?_
    refine G.op1 (op_move (Ev.t 8 (bI .i64 (x_0.length : Int))) rfl) rfl ⟨rfl, trivial⟩ trivial ?_
    refine G.op1 (op_lss (Ev.t 36 (bI .i64 y1)) (Ev.t 37 (bI .i64 (x_0.length : Int))) rfl) rfl ⟨rfl, rfl, trivial⟩ trivial ?_
    refine G.op1 (op_move (Ev.t 38 (bB (decide (y1 < (x_0.length : Int))))) rfl) rfl ⟨rfl, trivial⟩ trivial ?_
    refine ifS hF (fun hc2 hF => ?_) (fun hc2 hF => ?_)
    · refine G.known (t := 39) hc2 rfl ?_
      refine G.opG1 (op_move (Ev.t 2 (.sem (sem2 (fun x => .agg (encApi_Pin x)) (fun x => .d (.v (.int .i64 x))) (fun y => .int .i64 y) cmp_2))) rfl) rfl rfl rfl ⟨rfl, trivial⟩ trivial ?_
      refine G.opG1 (op_move (Ev.t 0 (.g (.d (.sl 2 (List.map encApi_Pin x_0))))) rfl) rfl rfl rfl ⟨rfl, trivial⟩ trivial ?_
      refine G.opG1 (op_move (Ev.t 9 (bI .i64 y1)) rfl) rfl rfl rfl ⟨rfl, trivial⟩ trivial ?_
      obtain ⟨x3, hx3, hF⟩ := bindS hF
      refine G.opG1 (op_index (cs := [.v (.int .i64 x3.ID), .sl 3 (List.map encApi_Dep x3.Deps)]) Try.underlying23 ti29 (idx_ok hx3).1 (idx_get hx3 encApi_Pin) (Ev.t 41 (.g (.d (.sl 2 (List.map encApi_Pin x_0))))) (Ev.t 42 (bI .i64 y1)) rfl) rfl rfl rfl ⟨rfl, rfl, trivial⟩ trivial ?_
      refine G.opG1 (op_loadAE (ds := [.v (.int .i64 x3.ID), .sl 3 (List.map encApi_Dep x3.Deps)]) Try.underlying29 rfl ti29 rfl (Ev.t 43 (.ep [.v (.int .i64 x3.ID), .sl 3 (List.map encApi_Dep x3.Deps)])) rfl) rfl rfl rfl ⟨rfl, trivial⟩ trivial ?_
      refine G.opG1 (op_move (Ev.t 1 (bI .i64 target_1)) rfl) rfl rfl rfl ⟨rfl, trivial⟩ trivial ?_
      obtain ⟨r4, hr4, hF⟩ := bindS hF
      refine G.opG1 (op_callSem (t := 40) (v := .int .i64 r4) (Φ := sem2 (fun x => .agg (encApi_Pin x)) (fun x => .d (.v (.int .i64 x))) (fun y => .int .i64 y) cmp_2) ⟨x3, target_1, r4, rfl, hr4, rfl⟩ rfl (EvL.cons (Ev.t 44 (.g (.agg [.v (.int .i64 x3.ID), .sl 3 (List.map encApi_Dep x3.Deps)]))) (EvL.cons (Ev.t 45 (bI .i64 target_1)) EvL.nil)) rfl) rfl rfl rfl ⟨rfl, rfl, rfl, trivial⟩ trivial ?_
      refine G.opG1 (op_eqI (Ev.t 46 (bI .i64 r4)) (Ev.c _ rfl) rfl) rfl rfl rfl ⟨rfl, trivial⟩ trivial ?_
      refine G.op1 (op_pickT (Ev.t 39 (bB true)) (Ev.t 47 (bB (decide (r4 = 0)))) rfl) rfl ⟨rfl, rfl, trivial⟩ trivial ?_
      refine G.op1 (op_assign (Ev.t 35 (bI .i64 y1)) rfl) rfl ⟨rfl, trivial⟩ trivial ?_
      refine G.op1 (op_assign (Ev.t 48 (bB (decide (r4 = 0)))) rfl) rfl ⟨rfl, trivial⟩ trivial ?_
      refine G.endOps ?_
      cases hF
      exact G.ret2 Try.results29 (RVar.tmp 6 _) (RVar.tmp 7 _) ⟨rfl, rfl, trivial⟩ trivial
    · refine G.known (t := 39) hc2 rfl ?_
      refine G.opN1 rfl rfl rfl rfl rfl ?_
      refine G.opN1 rfl rfl rfl rfl rfl ?_
      refine G.opN1 rfl rfl rfl rfl rfl ?_
      refine G.opN1 rfl rfl rfl rfl rfl ?_
      refine G.opN1 rfl rfl rfl rfl rfl ?_
      refine G.opN1 rfl rfl rfl rfl rfl ?_
      refine G.opN1 rfl rfl rfl rfl rfl ?_
      refine G.opN1 rfl rfl rfl rfl rfl ?_
      refine G.op1 (op_pickF (Ev.t 39 (bB false)) (Ev.c _ rfl) rfl) rfl ⟨rfl, trivial⟩ trivial ?_
      refine G.op1 (op_assign (Ev.t 35 (bI .i64 y1)) rfl) rfl ⟨rfl, trivial⟩ trivial ?_
      refine G.op1 (op_assign (Ev.t 48 (bB false)) rfl) rfl ⟨rfl, trivial⟩ trivial ?_
      refine G.endOps ?_
      cases hF
      exact G.ret2 Try.results29 (RVar.tmp 6 _) (RVar.tmp 7 _) ⟨rfl, rfl, trivial⟩ trivial
  refine G.block ?_
  refine G.keep (sl' := [(0, .one (.g (.d (.sl 2 (List.map encApi_Pin x_0))))), (1, .one (bI .i64 target_1)), (2, .one (.sem (sem2 (fun x => .agg (encApi_Pin x)) (fun x => .d (.v (.int .i64 x))) (fun y => .int .i64 y) cmp_2))), (8, .one (bI .i64 (x_0.length : Int))), (9, .one (bI .i64 0)), (10, .one (bI .i64 (x_0.length : Int)))]) (hp' := []) ⟨rfl, rfl, rfl, rfl, rfl, rfl, trivial⟩ trivial rfl ?_
  refine G.loopF (fun (v6 : Int × Int) => ⟨[(0, .one (.g (.d (.sl 2 (List.map encApi_Pin x_0))))), (1, .one (bI .i64 target_1)), (2, .one (.sem (sem2 (fun x => .agg (encApi_Pin x)) (fun x => .d (.v (.int .i64 x))) (fun y => .int .i64 y) cmp_2))), (8, .one (bI .i64 (x_0.length : Int))), (9, .one (bI .i64 v6.1)), (10, .one (bI .i64 v6.2))], []⟩) hF rfl (fun K9 again8 v6 J7 hF => ?_)
  unfold slices_BinarySearchFunc_int_l2 at hF
  refine G.seq ?_
  refine G.seq ?_
  refine G.region ?_
  refine G.op1 (op_move (Ev.t 9 (bI .i64 v6.1)) rfl) rfl ⟨rfl, trivial⟩ trivial ?_
  refine G.op1 (op_move (Ev.t 10 (bI .i64 v6.2)) rfl) rfl ⟨rfl, trivial⟩ trivial ?_
  refine G.op1 (op_lss (Ev.t 15 (bI .i64 v6.1)) (Ev.t 16 (bI .i64 v6.2)) rfl) rfl ⟨rfl, rfl, trivial⟩ trivial ?_
  refine G.endOps ?_
  refine ifS hF (fun hc10 hF => ?_) (fun hc10 hF => ?_)
  · refine G.cond rfl (fun _ => ?_) (fun hx => by rw [hc10] at hx; cases hx)
    refine G.skip ?_
    refine G.block ?_
    refine G.seq ?_
    refine G.region ?_
    refine G.op1 (op_move (Ev.t 9 (bI .i64 v6.1)) rfl) rfl ⟨rfl, trivial⟩ trivial ?_
    refine G.op1 (op_move (Ev.t 10 (bI .i64 v6.2)) rfl) rfl ⟨rfl, trivial⟩ trivial ?_
    refine G.op1 (op_add (Ev.t 18 (bI .i64 v6.1)) (Ev.t 19 (bI .i64 v6.2)) rfl) rfl ⟨rfl, rfl, trivial⟩ trivial ?_
    refine G.op1 (op_convI Try.underlying3 Try.underlying67 (Ev.t 20 (bI .i64 (IntKind.wrap .i64 (v6.1 + v6.2)))) rfl) rfl ⟨rfl, trivial⟩ trivial ?_
    refine G.op1 (op_shr (by decide) (Ev.t 21 (bI .u64 (IntKind.wrap .u64 (IntKind.wrap .i64 (v6.1 + v6.2))))) (Ev.c _ rfl) rfl) rfl ⟨rfl, trivial⟩ trivial ?_
    refine G.op1 (op_convI Try.underlying67 Try.underlying3 (Ev.t 22 (bI .u64 (Int.fdiv (IntKind.wrap .u64 (IntKind.wrap .i64 (v6.1 + v6.2))) (2 ^ min (Int.toNat 1) (IntKind.bits .u64))))) rfl) rfl ⟨rfl, trivial⟩ trivial ?_
    refine G.op1 (op_assign (Ev.t 23 (bI .i64 (IntKind.wrap .i64 (Int.fdiv (IntKind.wrap .u64 (IntKind.wrap .i64 (v6.1 + v6.2))) (2 ^ min (Int.toNat 1) (IntKind.bits .u64)))))) rfl) rfl ⟨rfl, trivial⟩ trivial ?_
    refine G.endOps ?_
    refine G.seq ?_
    refine G.region ?_
    refine G.op1 (op_move (Ev.t 2 (.sem (sem2 (fun x => .agg (encApi_Pin x)) (fun x => .d (.v (.int .i64 x))) (fun y => .int .i64 y) cmp_2))) rfl) rfl ⟨rfl, trivial⟩ trivial ?_
    refine G.op1 (op_move (Ev.t 0 (.g (.d (.sl 2 (List.map encApi_Pin x_0))))) rfl) rfl ⟨rfl, trivial⟩ trivial ?_
    refine G.op1 (op_move (Ev.t 11 (bI .i64 (IntKind.wrap .i64 (Int.fdiv (IntKind.wrap .u64 (IntKind.wrap .i64 (v6.1 + v6.2))) (2 ^ min (Int.toNat 1) (IntKind.bits .u64)))))) rfl) rfl ⟨rfl, trivial⟩ trivial ?_
    obtain ⟨x11, hx11, hF⟩ := bindS hF
    refine G.op1 (op_index (cs := [.v (.int .i64 x11.ID), .sl 3 (List.map encApi_Dep x11.Deps)]) Try.underlying23 ti29 (idx_ok hx11).1 (idx_get hx11 encApi_Pin) (Ev.t 25 (.g (.d (.sl 2 (List.map encApi_Pin x_0))))) (Ev.t 26 (bI .i64 (IntKind.wrap .i64 (Int.fdiv (IntKind.wrap .u64 (IntKind.wrap .i64 (v6.1 + v6.2))) (2 ^ min (Int.toNat 1) (IntKind.bits .u64)))))) rfl) rfl ⟨rfl, rfl, trivial⟩ trivial ?_
    refine G.op1 (op_loadAE (ds := [.v (.int .i64 x11.ID), .sl 3 (List.map encApi_Dep x11.Deps)]) Try.underlying29 rfl ti29 rfl (Ev.t 27 (.ep [.v (.int .i64 x11.ID), .sl 3 (List.map encApi_Dep x11.Deps)])) rfl) rfl ⟨rfl, trivial⟩ trivial ?_
    refine G.op1 (op_move (Ev.t 1 (bI .i64 target_1)) rfl) rfl ⟨rfl, trivial⟩ trivial ?_
    obtain ⟨r12, hr12, hF⟩ := bindS hF
    refine G.op1 (op_callSem (t := 24) (v := .int .i64 r12) (Φ := sem2 (fun x => .agg (encApi_Pin x)) (fun x => .d (.v (.int .i64 x))) (fun y => .int .i64 y) cmp_2) ⟨x11, target_1, r12, rfl, hr12, rfl⟩ rfl (EvL.cons (Ev.t 28 (.g (.agg [.v (.int .i64 x11.ID), .sl 3 (List.map encApi_Dep x11.Deps)]))) (EvL.cons (Ev.t 29 (bI .i64 target_1)) EvL.nil)) rfl) rfl ⟨rfl, rfl, rfl, trivial⟩ trivial ?_
    refine G.op1 (op_lss (Ev.t 30 (bI .i64 r12)) (Ev.c _ rfl) rfl) rfl ⟨rfl, trivial⟩ trivial ?_
    refine G.endOps ?_
    refine ifS hF (fun hc13 hF => ?_) (fun hc13 hF => ?_)
    · refine G.cond rfl (fun _ => ?_) (fun hx => by rw [hc13] at hx; cases hx)
      refine G.region ?_
      refine G.op1 (op_move (Ev.t 11 (bI .i64 (IntKind.wrap .i64 (Int.fdiv (IntKind.wrap .u64 (IntKind.wrap .i64 (v6.1 + v6.2))) (2 ^ min (Int.toNat 1) (IntKind.bits .u64)))))) rfl) rfl ⟨rfl, trivial⟩ trivial ?_
      refine G.op1 (op_add (Ev.t 32 (bI .i64 (IntKind.wrap .i64 (Int.fdiv (IntKind.wrap .u64 (IntKind.wrap .i64 (v6.1 + v6.2))) (2 ^ min (Int.toNat 1) (IntKind.bits .u64)))))) (Ev.c _ rfl) rfl) rfl ⟨rfl, trivial⟩ trivial ?_
      refine G.op1 (op_assign (Ev.t 33 (bI .i64 (IntKind.wrap .i64 ((IntKind.wrap .i64 (Int.fdiv (IntKind.wrap .u64 (IntKind.wrap .i64 (v6.1 + v6.2))) (2 ^ min (Int.toNat 1) (IntKind.bits .u64)))) + 1)))) rfl) rfl ⟨rfl, trivial⟩ trivial ?_
      refine G.endOps ?_
      refine G.endBlock ?_
      exact G.arr (J7 (IntKind.wrap .i64 ((IntKind.wrap .i64 (Int.fdiv (IntKind.wrap .u64 (IntKind.wrap .i64 (v6.1 + v6.2))) (2 ^ min (Int.toNat 1) (IntKind.bits .u64)))) + 1), v6.2) hF) ⟨rfl, rfl, rfl, rfl, rfl, rfl, trivial⟩ trivial rfl
    · refine G.cond rfl (fun hx => by rw [hc13] at hx; cases hx) (fun _ => ?_)
      refine G.region ?_
      refine G.op1 (op_move (Ev.t 11 (bI .i64 (IntKind.wrap .i64 (Int.fdiv (IntKind.wrap .u64 (IntKind.wrap .i64 (v6.1 + v6.2))) (2 ^ min (Int.toNat 1) (IntKind.bits .u64)))))) rfl) rfl ⟨rfl, trivial⟩ trivial ?_
      refine G.op1 (op_assign (Ev.t 34 (bI .i64 (IntKind.wrap .i64 (Int.fdiv (IntKind.wrap .u64 (IntKind.wrap .i64 (v6.1 + v6.2))) (2 ^ min (Int.toNat 1) (IntKind.bits .u64)))))) rfl) rfl ⟨rfl, trivial⟩ trivial ?_
      refine G.endOps ?_
      refine G.endBlock ?_
      exact G.arr (J7 (v6.1, IntKind.wrap .i64 (Int.fdiv (IntKind.wrap .u64 (IntKind.wrap .i64 (v6.1 + v6.2))) (2 ^ min (Int.toNat 1) (IntKind.bits .u64)))) hF) ⟨rfl, rfl, rfl, rfl, rfl, rfl, trivial⟩ trivial rfl
  · refine G.cond rfl (fun hx => by rw [hc10] at hx; cases hx) (fun _ => ?_)
    refine G.exit ?_
    refine GX.c ?_
    refine GX.q ?_
    refine GX.bYes ?_
    exact G.arr (J5 v6.1 hF) ⟨rfl, rfl, rfl, rfl, rfl, trivial⟩ trivial rfl


set_option maxRecDepth 20000 in
set_option maxHeartbeats 2000000 in
theorem ct_pins_find (l_0 : (List Api_Pin)) (id_1 : Int) (r : (Int × Bool)) (hF : pins_find l_0 id_1 = some r) : Ct Try.prog 23 [.g (.d (.sl 2 (List.map encApi_Pin l_0))), .g (.d (.v (.int .i64 id_1)))] (.tup [.d (.v (.int .i64 r.1)), .d (.v (.bool r.2))]) := by
  unfold pins_find at hF
  refine Ct.intro Try.func23 rfl Try.ntmps23 rfl rfl fun M w => ?_
  refine G.seq ?_
  refine G.region ?_
  refine G.op1 (op_assign (Ev.c _ rfl) rfl) rfl trivial trivial ?_
  refine G.op1 (op_assign (Ev.c _ rfl) rfl) rfl trivial trivial ?_
  refine G.endOps ?_
  refine G.seq ?_
  refine G.region ?_
  refine G.op1 (op_move (Ev.t 0 (.g (.d (.sl 2 (List.map encApi_Pin l_0))))) rfl) rfl ⟨rfl, trivial⟩ trivial ?_
  refine G.op1 (op_move (Ev.t 1 (bI .i64 id_1)) rfl) rfl ⟨rfl, trivial⟩ trivial ?_
  obtain ⟨r1, hr1, hF⟩ := bindS hF
  refine G.op1 (op_callQ (sv := .tup [bI .i64 r1.1, bB r1.2]) cf29 (ct_slices_BinarySearchFunc_int l_0 id_1 (fun x0 x1 => pins_find_1 x0 x1) r1 hr1) rfl rfl (EvQL.cons (EvQ.g (Ev.t 6 (.g (.d (.sl 2 (List.map encApi_Pin l_0)))))) (EvQL.cons (EvQ.g (Ev.t 7 (bI .i64 id_1))) (EvQL.cons (EvQ.clo (Φ := sem2 (fun x => .agg (encApi_Pin x)) (fun x => .d (.v (.int .i64 x))) (fun y => .int .i64 y) (fun x0 x1 => pins_find_1 x0 x1)) (Ev.f 30) EvC.nil cf30 (fun args v ⟨x0, x1, b, h1, h2, h3⟩ => by subst h1 h3; exact ct_pins_find_1 x0 x1 b h2)) EvQL.nil))) rfl) rfl ⟨rfl, rfl, trivial⟩ trivial ?_
  refine G.op1 (op_extract (l := [bI .i64 r1.1, bB r1.2]) (c := bI .i64 r1.1) rfl rfl) rfl ⟨rfl, trivial⟩ trivial ?_
  refine G.op1 (op_extract (l := [bI .i64 r1.1, bB r1.2]) (c := bB r1.2) rfl rfl) rfl ⟨rfl, trivial⟩ trivial ?_
  refine G.op1 (op_assign (Ev.t 9 (bI .i64 r1.1)) rfl) rfl ⟨rfl, trivial⟩ trivial ?_
  refine G.op1 (op_assign (Ev.t 10 (bB r1.2)) rfl) rfl ⟨rfl, trivial⟩ trivial ?_
  refine G.endOps ?_
  cases hF
  exact G.ret2 Try.results23 (RVar.tmp 4 _) (RVar.tmp 5 _) ⟨rfl, rfl, trivial⟩ trivial


set_option maxRecDepth 20000 in
set_option maxHeartbeats 2000000 in
theorem ct_slices_Clone_Pin (s_0 : (List Api_Pin)) (r : (List Api_Pin)) (hF : slices_Clone_Pin s_0 = some r) : Ct Try.prog 25 [.g (.d (.sl 2 (List.map encApi_Pin s_0)))] (.new 29 2 (List.map encApi_Pin r)) := by
  unfold slices_Clone_Pin at hF
  refine Ct.intro Try.func25 rfl Try.ntmps25 rfl rfl fun M w => ?_
  refine G.seq ?_
  refine G.region ?_
  refine G.op1 (op_assign (c := .x (.slice none 0 0)) (Ev.x _) rfl) rfl trivial trivial ?_
  refine G.endOps ?_
  refine G.seq ?_
  refine G.seq ?_
  refine G.region ?_
  refine G.op1 (op_move (Ev.t 0 (.g (.d (.sl 2 (List.map encApi_Pin s_0))))) rfl) rfl ⟨rfl, trivial⟩ trivial ?_
  refine G.opNil Try.underlying23 (Ev.t 3 (.g (.d (.sl 2 (List.map encApi_Pin s_0))))) rfl ⟨rfl, trivial⟩ (fun nilb1 hnilb1 => ?_)
  refine G.endOps ?_
  refine G.cond rfl (fun hx => ?_) (fun hx => ?_)
  · replace hF := cloneNil (hnilb1 hx) hF
    refine G.seq ?_
    refine G.region ?_
    refine G.op1 (op_assign (c := .x (.slice none 0 0)) (Ev.x _) rfl) rfl trivial trivial ?_
    refine G.endOps ?_
    cases hF
    exact G.retNil (T := 29) Try.results25 ti29 rfl ⟨rfl, trivial⟩
  · clear hnilb1
    refine G.skip ?_
    refine G.seq ?_
    refine G.region ?_
    refine G.op2 (op_buildRow (kk := 2005) Try.underlying23 ti29 rfl rfl) rfl trivial ⟨rfl, trivial⟩ ?_
    refine G.keep (sl' := [(0, .one (.g (.d (.sl 2 (List.map encApi_Pin s_0))))), (2, .one (.x (.slice none 0 0))), (3, .one (.g (.d (.sl 2 (List.map encApi_Pin s_0))))), (4, .one (bB nilb1)), (5, .one (.own 2005 (List.map encApi_Pin ([] : List Api_Pin))))]) (hp' := [(2005, some (.row 29 2 (List.map encApi_Pin ([] : List Api_Pin)) true))]) ⟨rfl, rfl, rfl, rfl, rfl, trivial⟩ ⟨rfl, trivial⟩ rfl ?_
    refine G.op1 (op_move (Ev.t 0 (.g (.d (.sl 2 (List.map encApi_Pin s_0))))) rfl) rfl ⟨rfl, trivial⟩ trivial ?_
    obtain ⟨l2, hl2, hF⟩ := bindS hF
    refine G.op2 (op_appendO Try.underlying23 ti29 rfl (app_map hl2 encApi_Pin) (app_b1 hl2 encApi_Pin) (app_b2 hl2 encApi_Pin) (Ev.t 5 (.own 2005 (List.map encApi_Pin ([] : List Api_Pin)))) (Ev.t 6 (.g (.d (.sl 2 (List.map encApi_Pin s_0))))) rfl) rfl ⟨rfl, rfl, trivial⟩ ⟨rfl, trivial⟩ ?_
    refine G.op1 (op_assign (Ev.t 7 (.own 2005 (List.map encApi_Pin l2))) rfl) rfl ⟨rfl, trivial⟩ trivial ?_
    refine G.endOps ?_
    cases hF
    exact G.retNew Try.results25 rfl rfl


theorem insInfo24 : (Try.prog.info? 29).map (fun i => (i.zero, i.size, i.bytes)) = some (some (.agg #[.int .i64 0, .slice none 0 0]), 2, 32) := by kernel_rfl
theorem insExt24 (args : Array Value) (w w' : World) (v : Value) (h : (Extern.SlicesOverlaps.overlaps #[23, 23] #[4] args).run Try.prog w = .ok v w') : (callFunc 32 args).run Try.prog w = .ok (.value v) w' := by
  rw [run_callFunc_extern Try.func32 (by kernel_rfl) (by kernel_rfl) (by kernel_rfl) (e := Extern.SlicesOverlaps.overlaps #[23, 23] #[4]) (by kernel_rfl), h]
  rfl

set_option maxRecDepth 100000 in
set_option maxHeartbeats 4000000 in
theorem insShift24 (b n c i vb voff vc : Nat) (cs vs : List Value) (w : World) (hi : i < n) (hroom : n + 1 ≤ c) (hc63 : c ≤ 9223372036854775807) (hvb : vb ≠ b)
    (hcl : cs.length = n * 2) (hvl : vs.length = 2)
    (hcs : ∀ j v, cs[j]? = some v → w.cell? ⟨b, j, none⟩ = some v) (hsp : ∀ j, j < (n + 1) * 2 → (w.cell? ⟨b, j, none⟩).isSome = true) (hfz : ∀ j, j < (n + 1) * 2 → w.frozen? ⟨b, j, none⟩ = false)
    (hvs : ∀ j v, vs[j]? = some v → w.cell? ⟨vb, voff + j, none⟩ = some v) (h1c : ∀ v ∈ cs, v.oneCell' = true) (h1v : ∀ v ∈ vs, v.oneCell' = true)
    (hov : ∀ lb cb, (callFunc 32 #[.slice (some ⟨vb, voff, none⟩) 1 vc, .slice (some ⟨b, (i + 1) * 2, none⟩) lb cb]).run Try.prog w = .ok (.value (.bool false)) w) :
    Calls Try.prog 24 #[.slice (some ⟨b, 0, none⟩) n c, .int .i64 i, .slice (some ⟨vb, voff, none⟩) 1 vc] w fun e w' =>
      e = .returned (.slice (some ⟨b, 0, none⟩) (n + 1) c) ∧ w' = (w.drew.setCells b ((i + 1) * 2) (cs.drop (i * 2))).setCells b (i * 2) vs := by
  have t0 := Try.underlying0; have a0 := Try.isAgg0; have z0 := Try.sizeOf0; have v0 := Try.zeroValue0; have u0 := run_underlying t0
  have t3 := Try.underlying3; have a3 := Try.isAgg3; have z3 := Try.sizeOf3; have v3 := Try.zeroValue3; have u3 := run_underlying t3
  have t4 := Try.underlying4; have a4 := Try.isAgg4; have z4 := Try.sizeOf4; have v4 := Try.zeroValue4; have u4 := run_underlying t4
  have t23 := Try.underlying23; have a23 := Try.isAgg23; have z23 := Try.sizeOf23; have v23 := Try.zeroValue23; have u23 := run_underlying t23
  have z29 := Try.sizeOf29
  have hz2 : ¬ ((i : Int) = (n : Int)) := by omega
  have hsz : (Try.prog.info? 29).map (·.size) = some 2 := by
    obtain ⟨i0, hi0, h0, h1, h2⟩ := info_parts insInfo24
    rw [hi0]; simp [h1]
  have hdl : (cs.drop (i * 2)).length = (n - i) * 2 := by rw [List.length_drop, hcl, Nat.sub_mul]
  have mixed := follows
  have hw0 : IntKind.i64.wrap ((n : Int) + 1) = (n : Int) + 1 := by rw [IntKind.wrap_i64]; omega
  have hw1 : IntKind.i64.wrap ((i : Int) + 1) = (i : Int) + 1 := by rw [IntKind.wrap_i64]; omega
  have hb0 : (0 : Int) ≤ (n : Int) + 1 := by omega
  have hb1 : (0 : Int) ≤ (i : Int) + 1 := by omega
  have hin : i ≤ n := by omega
  have htn : ((i : Int) + 1).toNat = i + 1 := by omega
  have htn2 : ((n : Int) + 1).toNat = n + 1 := by omega
  have hb2 : ¬ (c = i + 1) := by omega
  have hb3 : (i : Int) ≤ (n : Int) + 1 := by omega
  have hb4 : ¬ (c = i) := by omega
  have hb5 : ¬ ((c : Int) < (n : Int) + 1) := by omega
  have hb6 : (n : Int) + 1 ≤ (c : Int) := by omega
  have hcp1 : ∀ ty dc sc, (Builtin.copy_ #[23, 23] ty #[.slice (some ⟨b, (i + 1) * 2, none⟩) (n - i) dc, .slice (some ⟨b, i * 2, none⟩) (n + 1 - i) sc]).run Try.prog w.drew = .ok (goInt ((n - i : Nat) : Int)) (w.drew.setCells b ((i + 1) * 2) (cs.drop (i * 2))) := fun ty dc sc =>
    run_copy_rows w.drew _ _ ty 29 b ((i + 1) * 2) (n - i) dc ⟨b, i * 2, none⟩ (n + 1 - i) sc 2 (n - i) (cs.drop (i * 2)) t23 hsz (by simp only [Nat.min_def]; split <;> omega) hdl
      (fun j v hj => by rw [Addr.add_lit]; exact hcs (i * 2 + j) v (by rwa [List.getElem?_drop] at hj))
      (fun j hj => hsp _ (by rw [hdl] at hj; omega)) (fun j hj => hfz _ (by rw [hdl] at hj; omega)) (fun v hv => h1c v (List.mem_of_mem_drop hv))
  obtain ⟨W1, hW1⟩ : ∃ W1, W1 = w.drew.setCells b ((i + 1) * 2) (cs.drop (i * 2)) := ⟨_, rfl⟩
  have hsp1 : ∀ k, k < (n + 1) * 2 → (W1.cell? ⟨b, k, none⟩).isSome = true := fun k hk => by
    rw [hW1]
    exact isSome_setCells b (cs.drop (i * 2)) ((i + 1) * 2) w.drew (fun j hj => hsp ((i + 1) * 2 + j) (by rw [hdl] at hj; omega)) k (hsp k hk)
  have hcp2 : ∀ (W : World), (∀ x, W.cell? x = W1.cell? x) → (∀ x, W.frozen? x = W1.frozen? x) → ∀ ty dc, (Builtin.copy_ #[23, 23] ty #[.slice (some ⟨b, i * 2, none⟩) (n + 1 - i) dc, .slice (some ⟨vb, voff, none⟩) 1 vc]).run Try.prog W = .ok (goInt 1) (W.setCells b (i * 2) vs) := fun W hWc hWf ty dc =>
    run_copy_rows W _ _ ty 29 b (i * 2) (n + 1 - i) dc ⟨vb, voff, none⟩ 1 vc 2 1 vs t23 hsz (by simp only [Nat.min_def]; split <;> omega) (by rw [hvl])
      (fun j v hj => by
        rw [Addr.add_lit, hWc, hW1, World.cell?_setCells_out b _ _ _ _ (fun h _ => absurd h hvb)]
        exact hvs j v hj)
      (fun j hj => by rw [hWc]; exact hsp1 _ (by rw [hvl] at hj; omega)) (fun j hj => by rw [hWf, hW1, World.frozen?_setCells]; exact hfz _ (by rw [hvl] at hj; omega)) h1v
  rw [← hW1] at hcp1
  go_enter Try.func24, Try.ntmps24
  go_wp2_with (simp only [hov])
  go_region_law_o (refine step_copy_runI rfl _ _ 23 23 rfl _ _ (by simp [Act.eval, Act.put]) (by simp [Act.eval, Act.put]) (hcp1 _ _ _) ?_)
  go_wp2_with (at_builtin; refine wpList_copy_runI _ rfl _ _ 23 23 rfl _ _ rfl rfl (hcp2 _ (fun _ => rfl) (fun _ => rfl) _ _) ?_)
  go_ret
  first | exact ⟨rfl, rfl⟩ | exact ⟨rfl, by rw [hW1]⟩

set_option maxRecDepth 100000 in
set_option maxHeartbeats 4000000 in
theorem insRoom24 (b n c vb voff vc : Nat) (vs : List Value) (w : World) (hroom : n + 1 ≤ c) (hc63 : c ≤ 9223372036854775807) (hvl : vs.length = 2)
    (hsp : ∀ j, j < 2 → (w.cell? ⟨b, n * 2 + j, none⟩).isSome = true) (hfz : ∀ j, j < 2 → w.frozen? ⟨b, n * 2 + j, none⟩ = false)
    (hvs : ∀ j v, vs[j]? = some v → w.cell? ⟨vb, voff + j, none⟩ = some v) (h1v : ∀ v ∈ vs, v.oneCell' = true) :
    Calls Try.prog 24 #[.slice (some ⟨b, 0, none⟩) n c, .int .i64 n, .slice (some ⟨vb, voff, none⟩) 1 vc] w fun e w' =>
      e = .returned (.slice (some ⟨b, 0, none⟩) (n + 1) c) ∧ w' = w.setCells b (n * 2) vs := by
  have t0 := Try.underlying0; have a0 := Try.isAgg0; have z0 := Try.sizeOf0; have v0 := Try.zeroValue0; have u0 := run_underlying t0
  have t3 := Try.underlying3; have a3 := Try.isAgg3; have z3 := Try.sizeOf3; have v3 := Try.zeroValue3; have u3 := run_underlying t3
  have t4 := Try.underlying4; have a4 := Try.isAgg4; have z4 := Try.sizeOf4; have v4 := Try.zeroValue4; have u4 := run_underlying t4
  have t23 := Try.underlying23; have a23 := Try.isAgg23; have z23 := Try.sizeOf23; have v23 := Try.zeroValue23; have u23 := run_underlying t23
  have z29 := Try.sizeOf29
  obtain ⟨i0, hi0, hz0, hzs, hzb⟩ := info_parts insInfo24
  have mixed := follows
  have hsrc : Src Try.prog i0.size 23 (.slice (some ⟨vb, voff, none⟩) 1 vc) 1 vs w := by
    rw [hzs]
    exact Src.ofSlice w t23 ⟨vb, voff, none⟩ 1 vc vs (by omega) (fun j u hj => by rw [Addr.add_lit]; exact hvs j u hj) h1v
  have hrun : ∀ ty, (Builtin.append_ #[23, 23] ty #[.slice (some ⟨b, 0, none⟩) n c, .slice (some ⟨vb, voff, none⟩) 1 vc]).run Try.prog w = .ok (.slice (some ⟨b, 0, none⟩) (n + 1) c) (w.setCells b (n * 2) vs) := fun ty => by
    have h := run_append_room_src w 23 23 ty 29 i0 t23 hi0 b 0 n c _ 1 vs hsrc hroom (fun j hj => by rw [hzs, Nat.zero_add]; exact hsp j (by omega)) (fun j hj => by rw [hzs, Nat.zero_add]; exact hfz j (by omega))
    rw [hzs, Nat.zero_add] at h
    exact h
  go_enter Try.func24, Try.ntmps24
  go_wp2_with (at_builtin; refine Lib.wpList_append_run _ rfl _ _ _ _ rfl _ _ rfl rfl _ _ (hrun _) ?_)
  go_ret
  exact ⟨rfl, rfl⟩

set_option maxRecDepth 100000 in
set_option maxHeartbeats 4000000 in
theorem insEnd24 (base : Option Addr) (n c vb voff vc : Nat) (cs vs : List Value) (w : World) (hnc : n ≤ c) (hroom : c < n + 1) (hbig : (n + 1) * 32 ≤ 140737488355328)
    (hcl : cs.length = n * 2) (hvl : vs.length = 2) (hnil : base = none → n = 0) (hcs : ∀ a, base = some a → ∀ j v, cs[j]? = some v → w.cell? (a.add j) = some v)
    (hvs : ∀ j v, vs[j]? = some v → w.cell? ⟨vb, voff + j, none⟩ = some v) (h1v : ∀ v ∈ vs, v.oneCell' = true) :
    Calls Try.prog 24 #[.slice base n c, .int .i64 n, .slice (some ⟨vb, voff, none⟩) 1 vc] w fun e w' =>
      e = .returned (.slice (some ⟨w.heap.size, 0, none⟩) (n + 1) (grownCap w (n + 1) c 29)) ∧
      w' = w.drew.alloc (.cells ((cs ++ vs).toArray ++ Builtin.zeroCells (.agg #[.int .i64 0, .slice none 0 0] : Value).cells (grownCap w (n + 1) c 29 - (n + 1))) 29) := by
  have t0 := Try.underlying0; have a0 := Try.isAgg0; have z0 := Try.sizeOf0; have v0 := Try.zeroValue0; have u0 := run_underlying t0
  have t3 := Try.underlying3; have a3 := Try.isAgg3; have z3 := Try.sizeOf3; have v3 := Try.zeroValue3; have u3 := run_underlying t3
  have t4 := Try.underlying4; have a4 := Try.isAgg4; have z4 := Try.sizeOf4; have v4 := Try.zeroValue4; have u4 := run_underlying t4
  have t23 := Try.underlying23; have a23 := Try.isAgg23; have z23 := Try.sizeOf23; have v23 := Try.zeroValue23; have u23 := run_underlying t23
  have z29 := Try.sizeOf29
  obtain ⟨i0, hi0, hz0, hzs, hzb⟩ := info_parts insInfo24
  have mixed := follows
  have hsrc : Src Try.prog i0.size 23 (.slice (some ⟨vb, voff, none⟩) 1 vc) 1 vs w := by
    rw [hzs]
    exact Src.ofSlice w t23 ⟨vb, voff, none⟩ 1 vc vs (by omega) (fun j u hj => by rw [Addr.add_lit]; exact hvs j u hj) h1v
  have hold : (Builtin.firstCells i0.size n (.slice base n c)).run Try.prog w.drew = .ok cs.toArray w.drew := by
    rw [hzs]
    cases base with
    | none =>
      have h0 := hnil rfl
      subst h0
      rw [List.length_eq_zero_iff.1 (by omega : cs.length = 0)]
      exact run_firstCells_none w.drew 2 0 0 c
    | some a => exact run_firstCells_some w.drew 2 n a n c cs (by omega) (fun j v hj => hcs a rfl j v hj)
  have hrun : ∀ ty, (Builtin.append_ #[23, 23] ty #[.slice base n c, .slice (some ⟨vb, voff, none⟩) 1 vc]).run Try.prog w = _ := fun ty =>
    run_append_grow_src w 23 23 ty 29 i0 _ t23 hi0 hz0 base n c cs hold _ 1 vs hsrc hroom (by omega) (by rw [hzb]; exact growslice_fits hroom hbig)
  go_enter Try.func24, Try.ntmps24
  cases base with
  | none =>
    have h0 := hnil rfl
    subst h0
    go_wp2_with (at_builtin; refine Lib.wpList_append_run _ rfl _ _ _ _ rfl _ _ rfl rfl _ _ (hrun _) ?_)
    go_ret
    exact ⟨rfl, rfl⟩
  | some a =>
    obtain ⟨ab, ao, asp⟩ := a
    go_wp2_with (at_builtin; refine Lib.wpList_append_run _ rfl _ _ _ _ rfl _ _ rfl rfl _ _ (hrun _) ?_)
    all_goals (go_ret; exact ⟨rfl, rfl⟩)

set_option maxRecDepth 100000 in
set_option maxHeartbeats 4000000 in
theorem insGrow24 (b n c i vb voff vc : Nat) (cs vs : List Value) (w : World) (hi : i < n) (hnc : n ≤ c) (hroom : c < n + 1) (hbig : (n + 1) * 32 ≤ 140737488355328)
    (hcl : cs.length = n * 2) (hvl : vs.length = 2)
    (hcs : ∀ j v, cs[j]? = some v → w.cell? ⟨b, j, none⟩ = some v)
    (hvs : ∀ j v, vs[j]? = some v → w.cell? ⟨vb, voff + j, none⟩ = some v) (h1c : ∀ v ∈ cs, v.oneCell' = true) (h1v : ∀ v ∈ vs, v.oneCell' = true) :
    Calls Try.prog 24 #[.slice (some ⟨b, 0, none⟩) n c, .int .i64 i, .slice (some ⟨vb, voff, none⟩) 1 vc] w fun e w' =>
      e = .returned (.slice (some ⟨w.heap.size, 0, none⟩) (n + 1) (grownCap w (n + 1) c 29)) ∧
      w' = (((w.alloc (.cells ((cs.take (i * 2)).toArray ++ Builtin.zeroCells (.agg #[.int .i64 0, .slice none 0 0] : Value).cells (n + 1 - i) ++ Builtin.zeroCells (.agg #[.int .i64 0, .slice none 0 0] : Value).cells (grownCap w (n + 1) c 29 - (n + 1))) 29)).drew.setCells w.heap.size (i * 2) vs).drew).setCells w.heap.size ((i + 1) * 2) (cs.drop (i * 2)) := by
  have t0 := Try.underlying0; have a0 := Try.isAgg0; have z0 := Try.sizeOf0; have v0 := Try.zeroValue0; have u0 := run_underlying t0
  have t3 := Try.underlying3; have a3 := Try.isAgg3; have z3 := Try.sizeOf3; have v3 := Try.zeroValue3; have u3 := run_underlying t3
  have t4 := Try.underlying4; have a4 := Try.isAgg4; have z4 := Try.sizeOf4; have v4 := Try.zeroValue4; have u4 := run_underlying t4
  have t23 := Try.underlying23; have a23 := Try.isAgg23; have z23 := Try.sizeOf23; have v23 := Try.zeroValue23; have u23 := run_underlying t23
  have z29 := Try.sizeOf29
  have mixed := follows
  obtain ⟨i0, hi0, hz0, hzs, hzb⟩ := info_parts insInfo24
  have hz2 : ¬ ((i : Int) = (n : Int)) := by omega
  have hz3 : (c : Int) < (n : Int) + 1 := by omega
  have hsz : (Try.prog.info? 29).map (·.size) = some 2 := by rw [hi0]; simp [hzs]
  have hbw : b < w.heap.size := block_lt_of_cell (hcs 0 _ (List.getElem?_eq_getElem (by omega)))
  have hvw : vb < w.heap.size := block_lt_of_cell (hvs 0 _ (List.getElem?_eq_getElem (by omega)))
  have hkk : (n : Int) + 1 - (i : Int) = ((n + 1 - i : Nat) : Int) := by omega
  have hik : i + (n + 1 - i) = n + 1 := by omega
  have hold : (Builtin.firstCells i0.size i (.slice (some ⟨b, 0, none⟩) i c)).run Try.prog w.drew = .ok (cs.take (i * 2)).toArray w.drew := by
    rw [hzs]
    exact run_firstCells_some w.drew 2 i ⟨b, 0, none⟩ i c (cs.take (i * 2)) (by rw [List.length_take]; omega) (fun j v hj => by
      rw [Addr.add_lit, Nat.zero_add]
      rw [List.getElem?_take] at hj
      split at hj
      · exact hcs j v hj
      · cases hj)
  have hrz : ∀ ty, (Builtin.append_ #[23, 3] ty #[.slice (some ⟨b, 0, none⟩) i c, .int .i64 ((n : Int) + 1 - (i : Int))]).run Try.prog w =
      .ok (.slice (some ⟨w.heap.size, 0, none⟩) (n + 1) (grownCap w (n + 1) c 29)) (w.drew.alloc (.cells ((cs.take (i * 2)).toArray ++ Builtin.zeroCells (.agg #[.int .i64 0, .slice none 0 0] : Value).cells (n + 1 - i) ++ Builtin.zeroCells (.agg #[.int .i64 0, .slice none 0 0] : Value).cells (grownCap w (n + 1) c 29 - (n + 1))) 29)) := fun ty => by
    have h := Lib.run_append_grow_zeros w 23 3 ty 29 i0 _ .i64 .i64 t23 t3 hi0 hz0 (some ⟨b, 0, none⟩) i c (cs.take (i * 2)) hold (n + 1 - i) (by omega) (by omega) (by omega) (by omega) (by rw [hzb]; omega) (by rw [hzb, hik]; exact growslice_fits hroom hbig)
    rw [hik] at h
    rw [hkk]
    exact h
  obtain ⟨G, hG⟩ : ∃ G, G = grownCap w (n + 1) c 29 := ⟨_, rfl⟩
  obtain ⟨ROW, hROW⟩ : ∃ ROW : Array Value, ROW = (cs.take (i * 2)).toArray ++ Builtin.zeroCells (.agg #[.int .i64 0, .slice none 0 0] : Value).cells (n + 1 - i) ++ Builtin.zeroCells (.agg #[.int .i64 0, .slice none 0 0] : Value).cells (G - (n + 1)) := ⟨_, rfl⟩
  rw [← hG] at hrz ⊢
  rw [← hROW] at hrz ⊢
  have hGn : n + 1 ≤ G := by rw [hG]; exact grownCap_ge w _ _ _
  have hRl : (n + 1) * 2 ≤ ROW.size := by
    rw [hROW]
    simp [Builtin.zeroCells, Value.cells]
    omega
  obtain ⟨W1, hW1⟩ : ∃ W1, W1 = w.drew.alloc (.cells ROW 29) := ⟨_, rfl⟩
  rw [← hW1] at hrz
  have hN : ∀ j, j < (n + 1) * 2 → (W1.cell? ⟨w.heap.size, j, none⟩).isSome = true := fun j hj => by
    rw [hW1, World.cell?_alloc_at (w := w.drew) ROW _ w.heap.size j rfl, Array.getElem?_eq_getElem (by omega)]; rfl
  have hNf : ∀ j, W1.frozen? ⟨w.heap.size, j, none⟩ = false := fun j => by rw [hW1]; exact World.frozen?_alloc_at (w := w.drew) ROW _ w.heap.size j rfl
  have hOb : ∀ j v, w.cell? ⟨b, j, none⟩ = some v → W1.cell? ⟨b, j, none⟩ = some v := fun j v h => by rw [hW1, World.cell?_alloc_past (w := w.drew) _ b j hbw]; exact h
  have hOv : ∀ j v, w.cell? ⟨vb, j, none⟩ = some v → W1.cell? ⟨vb, j, none⟩ = some v := fun j v h => by rw [hW1, World.cell?_alloc_past (w := w.drew) _ vb j hvw]; exact h
  have hcpA : ∀ (W : World), (∀ x, W.cell? x = W1.cell? x) → (∀ x, W.frozen? x = W1.frozen? x) → ∀ ty dc, (Builtin.copy_ #[23, 23] ty #[.slice (some ⟨w.heap.size, i * 2, none⟩) (n + 1 - i) dc, .slice (some ⟨vb, voff, none⟩) 1 vc]).run Try.prog W = .ok (goInt 1) (W.setCells w.heap.size (i * 2) vs) := fun W hWc hWf ty dc =>
    run_copy_rows W _ _ ty 29 w.heap.size (i * 2) (n + 1 - i) dc ⟨vb, voff, none⟩ 1 vc 2 1 vs t23 hsz (by simp only [Nat.min_def]; split <;> omega) (by rw [hvl])
      (fun j v hj => by rw [Addr.add_lit, hWc]; exact hOv _ v (hvs j v hj))
      (fun j hj => by rw [hWc]; exact hN _ (by omega)) (fun j hj => by rw [hWf]; exact hNf _) h1v
  have hG63 : G ≤ 9223372036854775807 := by
    have := grownCap_le_maxLen w (n + 1) c 29 (by unfold maxLen; omega)
    rw [← hG] at this
    unfold maxLen at this
    omega
  have hGi : ¬ (G = i) := by omega
  have hGim : ¬ (G = i + 1) := by omega
  have hci : ¬ (c = i) := by omega
  have hbN : b ≠ w.heap.size := by omega
  have hdl : (cs.drop (i * 2)).length = (n - i) * 2 := by rw [List.length_drop, hcl, Nat.sub_mul]
  have hcpB : ∀ (W : World), (∀ x, W.cell? x = (W1.setCells w.heap.size (i * 2) vs).cell? x) → (∀ x, W.frozen? x = (W1.setCells w.heap.size (i * 2) vs).frozen? x) → ∀ ty dc sc, (Builtin.copy_ #[23, 23] ty #[.slice (some ⟨w.heap.size, (i + 1) * 2, none⟩) (n - i) dc, .slice (some ⟨b, i * 2, none⟩) (n - i) sc]).run Try.prog W = .ok (goInt ((n - i : Nat) : Int)) (W.setCells w.heap.size ((i + 1) * 2) (cs.drop (i * 2))) := fun W hWc hWf ty dc sc =>
    run_copy_rows W _ _ ty 29 w.heap.size ((i + 1) * 2) (n - i) dc ⟨b, i * 2, none⟩ (n - i) sc 2 (n - i) (cs.drop (i * 2)) t23 hsz (by simp only [Nat.min_def]; split <;> omega) hdl
      (fun j v hj => by
        rw [Addr.add_lit, hWc, World.cell?_setCells_out _ _ _ _ _ (fun h _ => absurd h hbN)]
        exact hOb _ v (hcs (i * 2 + j) v (by rwa [List.getElem?_drop] at hj)))
      (fun j hj => by rw [hWc]; exact isSome_setCells w.heap.size vs (i * 2) W1 (fun t ht => hN (i * 2 + t) (by omega)) ((i + 1) * 2 + j) (hN ((i + 1) * 2 + j) (by omega)))
      (fun j hj => by rw [hWf, World.frozen?_setCells]; exact hNf _) (fun v hv => h1c v (List.mem_of_mem_drop hv))
  subst hW1
  have hE1 : ∀ x, ((w.alloc (.cells ROW 29)).drew).cell? x = (w.drew.alloc (.cells ROW 29)).cell? x := fun x => rfl
  have hE2 : ∀ x, ((w.alloc (.cells ROW 29)).drew).frozen? x = (w.drew.alloc (.cells ROW 29)).frozen? x := fun x => rfl
  have hF1 : ∀ x, (((w.alloc (.cells ROW 29)).drew.setCells w.heap.size (i * 2) vs).drew).cell? x = ((w.drew.alloc (.cells ROW 29)).setCells w.heap.size (i * 2) vs).cell? x := fun x => rfl
  have hF2 : ∀ x, (((w.alloc (.cells ROW 29)).drew.setCells w.heap.size (i * 2) vs).drew).frozen? x = ((w.drew.alloc (.cells ROW 29)).setCells w.heap.size (i * 2) vs).frozen? x := fun x => rfl
  have hw0 : IntKind.i64.wrap ((n : Int) + 1) = (n : Int) + 1 := by rw [IntKind.wrap_i64]; omega
  have hw1 : IntKind.i64.wrap ((i : Int) + 1) = (i : Int) + 1 := by rw [IntKind.wrap_i64]; omega
  have hw2 : IntKind.i64.wrap ((n : Int) + 1 - (i : Int)) = (n : Int) + 1 - (i : Int) := by rw [IntKind.wrap_i64]; omega
  have hb1 : (0 : Int) ≤ (i : Int) + 1 := by omega
  have hin : i ≤ n := by omega
  have htn : ((i : Int) + 1).toNat = i + 1 := by omega
  have hb3 : (i : Int) ≤ (n : Int) := by omega
  clear hkk hik hold hROW hG hRl
  go_enter Try.func24, Try.ntmps24
  go_wp2_with (first
    | (at_builtin; refine Lib.wpList_append_run _ rfl _ _ _ _ rfl _ _ rfl rfl _ _ (hrz _) ?_)
    | (at_builtin; refine wpList_copy_runI _ rfl _ _ 23 23 rfl _ _ rfl rfl (hcpA _ hE1 hE2 _ _) ?_)
    | (at_builtin; refine wpList_copy_runI _ rfl _ _ 23 23 rfl _ _ rfl rfl (hcpB _ (fun _ => rfl) (fun _ => rfl) _ _ _) ?_))
  go_region_law_o (refine step_copy_runI rfl _ _ 23 23 rfl (.slice (some ⟨w.heap.size, (i + 1) * 2, none⟩) (n - i) (G - (i + 1))) (.slice (some ⟨b, i * 2, none⟩) (n - i) (c - i)) (by simp [Act.eval, Act.put]) (by simp [Act.eval, Act.put]) (hcpB _ hF1 hF2 3 (G - (i + 1)) (c - i)) ?_)
  go_wp2
  go_ret
  exact ⟨rfl, rfl⟩

theorem ct_slices_Insert_Pin (s_0 : List Api_Pin) (i_1 : Int) (v_2 : List Api_Pin) (r : List Api_Pin) (hF : slices_Insert_Pin s_0 i_1 v_2 = some r) : Ct Try.prog 24 [.row 29 2 (List.map encApi_Pin s_0), .g (.d (.v (.int .i64 i_1))), .g (.d (.sl 2 (List.map encApi_Pin v_2)))] (.new 29 2 (List.map encApi_Pin r)) := by
  unfold slices_Insert_Pin at hF
  obtain ⟨x, k, rfl, rfl, hk, hm, hb, rfl⟩ := insL_ok hF
  have hml : maxLen = 9223372036854775807 := rfl
  have h := ct_insert (P := Try.prog) (f := 24) (E := 29) (z := 2) (es := List.map encApi_Pin s_0) (x := encApi_Pin x) (i := k) (by simpa using hk) rfl
    (fun hnil w a vb vo vc vs hV => by
      have hs : s_0 = [] := by simpa using hnil
      subst hs
      have hk0 : k = 0 := by simpa using hk
      subst hk0
      refine (insEnd24 a 0 0 vb vo vc [] vs w (Nat.le_refl _) (by omega) (by omega) rfl hV.len (fun _ => rfl) (fun _ _ j v h => by simp at h) hV.cell hV.one).mono fun e w' ⟨h1, h2⟩ => ⟨_, h1, ?_⟩
      subst h2
      exact InsR.fresh (n := 0) (by simp [hV.len]) (zeroCells_size _ _) (grownCap_ge w _ _ _) (grownCap_le_maxLen w _ _ _ (by rw [hml]; omega)))
    (fun w b c cur vb vo vc vs hh hc hle hm2 hone hV => by
      have hl : (List.map encApi_Pin s_0).length = s_0.length := by simp
      rw [hl] at hle hone ⊢
      have hbc : s_0.length * 2 ≤ cur.size := by rw [hc]; exact Nat.mul_le_mul_right _ hle
      have hcl : (cur.toList.take (s_0.length * 2)).length = s_0.length * 2 := by have := Array.length_toList (xs := cur); rw [List.length_take]; omega
      have hcs : ∀ j v, (cur.toList.take (s_0.length * 2))[j]? = some v → w.cell? ⟨b, j, none⟩ = some v := fun j v hj => by
        have hlt := (List.getElem?_eq_some_iff.1 hj).1
        rw [hcl] at hlt
        rw [List.getElem?_take_of_lt hlt, Array.getElem?_toList] at hj
        rw [cell_of_cells hh]; exact hj
      have h1c : ∀ v ∈ cur.toList.take (s_0.length * 2), v.oneCell' = true := fun v hv => by
        obtain ⟨j, hj, e⟩ := List.getElem_of_mem hv
        have hg := List.getElem?_eq_getElem hj
        rw [hcl] at hj
        rw [e, List.getElem?_take_of_lt hj, Array.getElem?_toList] at hg
        exact hone j v hj hg
      have hvb : vb ≠ b := fun c => hV.apart (by rw [c])
      by_cases hr : s_0.length + 1 ≤ c
      · have hbr : (s_0.length + 1) * 2 ≤ cur.size := by rw [hc]; exact Nat.mul_le_mul_right _ hr
        have hsp : ∀ j, j < (s_0.length + 1) * 2 → (w.cell? ⟨b, j, none⟩).isSome = true := fun j hj => by
          rw [cell_of_cells hh, Array.getElem?_eq_getElem (by omega)]; rfl
        have hfz : ∀ j, w.frozen? ⟨b, j, none⟩ = false := fun j => by simp [World.frozen?, hh]
        by_cases hi : k = s_0.length
        · subst hi
          refine (insRoom24 b _ c vb vo vc vs w hr (by omega) hV.len (fun j hj => hsp _ (by omega)) (fun j _ => hfz _) hV.cell hV.one).mono fun e w' ⟨h1, h2⟩ => ⟨_, h1, ?_⟩
          subst h2
          exact InsR.room hh hc hr hm2 hV.len
        · obtain ⟨tv, kv, hs1, hs2⟩ := hV.shape
          refine (insShift24 b _ c k vb vo vc _ vs w (by omega) hr (by omega) hvb hcl hV.len hcs hsp (fun j _ => hfz j) hV.cell h1c hV.one (fun lb cb => insExt24 _ w w _ ?_)).mono fun e w' ⟨h1, h2⟩ => ⟨_, h1, ?_⟩
          · exact run_overlaps_plain w 23 4 29 Try.underlying23 2 Try.sizeOf29 _ _ 1 vc lb cb hvb tv 29 kv cur.size hs1 (by simp [World.shape?, hh]) hs2 (by omega) (hfz _) (by simp [World.frozen?, hh])
          · subst h2
            exact InsR.shift hh hc (by omega) hr hm2 hV.len
      · by_cases hi : k = s_0.length
        · subst hi
          refine (insEnd24 (some ⟨b, 0, none⟩) _ c vb vo vc _ vs w hle (by omega) hb hcl hV.len (fun c => (by cases c)) (fun a ha j v hj => by cases ha; rw [Addr.add_lit, Nat.zero_add]; exact hcs j v hj) hV.cell hV.one).mono fun e w' ⟨h1, h2⟩ => ⟨_, h1, ?_⟩
          subst h2
          rw [List.take_of_length_le (by rw [hcl]; exact Nat.le_refl _), List.drop_of_length_le (by rw [hcl]; exact Nat.le_refl _), List.append_nil]
          exact InsR.fresh (by rw [List.length_append, hcl, hV.len]; omega) (zeroCells_size _ _) (grownCap_ge w _ _ _) (grownCap_le_maxLen w _ _ _ (by rw [hml]; omega))
        · refine (insGrow24 b _ c k vb vo vc _ vs w (by omega) hle (by omega) hb hcl hV.len hcs hV.cell h1c hV.one).mono fun e w' ⟨h1, h2⟩ => ⟨_, h1, ?_⟩
          subst h2
          exact InsR.grow hcl (by omega) hV.len (zeroCells_size _ _) (zeroCells_size _ _) (grownCap_ge w _ _ _) (grownCap_le_maxLen w _ _ _ (by rw [hml]; omega)))
  rw [insL_map]
  exact h


set_option maxRecDepth 20000 in
set_option maxHeartbeats 2000000 in
theorem ct_pins_Put (l_0 : (List Api_Pin)) (p_1 : Api_Pin) (r : ((List Api_Pin) × Int)) (hF : pins_Put l_0 p_1 = some r) : Ct Try.prog 10 [.g (.d (.sl 2 (List.map encApi_Pin l_0))), .g (.agg (encApi_Pin p_1))] (.tup [.d (.sl 2 (List.map encApi_Pin r.1)), .d (.v (.int .i64 r.2))]) := by
  unfold pins_Put at hF
  refine Ct.intro Try.func10 rfl Try.ntmps10 rfl rfl fun M w => ?_
  refine G.seq ?_
  refine G.region ?_
  refine G.op2 (op_boxA (k := 1003) (Ev.t 1 (.g (.agg [.v (.int .i64 p_1.ID), .sl 3 (List.map encApi_Dep p_1.Deps)]))) rfl) rfl ⟨rfl, trivial⟩ ⟨rfl, trivial⟩ ?_
  refine G.op1 (op_assign (Ev.n 2) rfl) rfl trivial trivial ?_
  refine G.op1 (op_assign (Ev.c _ rfl) rfl) rfl trivial trivial ?_
  refine G.endOps ?_
  refine G.seq ?_
  refine G.region ?_
  refine G.op1 (op_move (Ev.t 0 (.g (.d (.sl 2 (List.map encApi_Pin l_0))))) rfl) rfl ⟨rfl, trivial⟩ trivial ?_
  refine G.op1 (op_fieldP (off' := 0) Try.underlying29 rfl ti3 (by decide) rfl (Ev.t 3 (.ptr 1003 0)) rfl) rfl ⟨rfl, trivial⟩ trivial ?_
  refine G.op1 (op_load1P (c := bI .i64 p_1.ID) Try.underlying3 rfl rfl (Ev.t 10 (.ptr 1003 0)) rfl) rfl ⟨rfl, trivial⟩ ⟨rfl, trivial⟩ ?_
  obtain ⟨r1, hr1, hF⟩ := bindS hF
  refine G.op1 (op_callQ (sv := .tup [bI .i64 r1.1, bB r1.2]) cf23 (ct_pins_find l_0 p_1.ID r1 hr1) rfl rfl (EvQL.cons (EvQ.g (Ev.t 9 (.g (.d (.sl 2 (List.map encApi_Pin l_0)))))) (EvQL.cons (EvQ.g (Ev.t 11 (bI .i64 p_1.ID))) EvQL.nil)) rfl) rfl ⟨rfl, rfl, trivial⟩ trivial ?_
  refine G.op1 (op_moveS (t := 12) (sv := .tup [bI .i64 r1.1, bB r1.2]) rfl) rfl ⟨rfl, trivial⟩ trivial ?_
  refine G.op1 (op_extract (l := [bI .i64 r1.1, bB r1.2]) (c := bI .i64 r1.1) rfl rfl) rfl ⟨rfl, trivial⟩ trivial ?_
  refine G.op1 (op_extract (l := [bI .i64 r1.1, bB r1.2]) (c := bB r1.2) rfl rfl) rfl ⟨rfl, trivial⟩ trivial ?_
  refine G.op1 (op_assign (Ev.t 13 (bI .i64 r1.1)) rfl) rfl ⟨rfl, trivial⟩ trivial ?_
  refine G.op1 (op_assign (Ev.t 14 (bB r1.2)) rfl) rfl ⟨rfl, trivial⟩ trivial ?_
  refine G.endOps ?_
  refine G.seq ?_
  refine G.block ?_
  refine G.seq ?_
  refine G.region ?_
  refine G.op1 (op_fieldP (off' := 0) Try.underlying29 rfl ti3 (by decide) rfl (Ev.t 3 (.ptr 1003 0)) rfl) rfl ⟨rfl, trivial⟩ trivial ?_
  refine G.op1 (op_load1P (c := bI .i64 p_1.ID) Try.underlying3 rfl rfl (Ev.t 16 (.ptr 1003 0)) rfl) rfl ⟨rfl, trivial⟩ ⟨rfl, trivial⟩ ?_
  refine G.op1 (op_lss (Ev.t 17 (bI .i64 p_1.ID)) (Ev.c _ rfl) rfl) rfl ⟨rfl, trivial⟩ trivial ?_
  refine G.op1 (op_assign (Ev.t 18 (bB (decide (p_1.ID < 1)))) rfl) rfl ⟨rfl, trivial⟩ trivial ?_
  refine G.endOps ?_
  refine ifS hF (fun hc2 hF => ?_) (fun hc2 hF => ?_)
  · refine G.cond rfl (fun _ => ?_) (fun hx => by rw [hc2] at hx; cases hx)
    refine G.seq ?_
    refine G.region ?_
    refine G.op1 (op_assign (Ev.n 2) rfl) rfl trivial trivial ?_
    refine G.op1 (op_assign (Ev.c _ rfl) rfl) rfl trivial trivial ?_
    refine G.endOps ?_
    cases hF
    exact G.ret2 Try.results10 (RVar.tmp 4 _) (RVar.tmp 5 _) ⟨rfl, rfl, trivial⟩ trivial
  · refine G.cond rfl (fun hx => by rw [hc2] at hx; cases hx) (fun _ => ?_)
    refine G.seq ?_
    refine G.region ?_
    refine G.op1 (op_move (Ev.t 7 (bB r1.2)) rfl) rfl ⟨rfl, trivial⟩ trivial ?_
    refine G.op1 (op_assign (Ev.t 20 (bB r1.2)) rfl) rfl ⟨rfl, trivial⟩ trivial ?_
    refine G.endOps ?_
    refine ifS hF (fun hc3 hF => ?_) (fun hc3 hF => ?_)
    · refine G.cond rfl (fun _ => ?_) (fun hx => by rw [hc3] at hx; cases hx)
      refine G.seq ?_
      refine G.region ?_
      refine G.op1 (op_assign (Ev.n 2) rfl) rfl trivial trivial ?_
      refine G.op1 (op_assign (Ev.c _ rfl) rfl) rfl trivial trivial ?_
      refine G.endOps ?_
      cases hF
      exact G.ret2 Try.results10 (RVar.tmp 4 _) (RVar.tmp 5 _) ⟨rfl, rfl, trivial⟩ trivial
    · refine G.cond rfl (fun hx => by rw [hc3] at hx; cases hx) (fun _ => ?_)
      refine G.seq ?_
      refine G.region ?_
      refine G.op1 (op_move (Ev.t 0 (.g (.d (.sl 2 (List.map encApi_Pin l_0))))) rfl) rfl ⟨rfl, trivial⟩ trivial ?_
      refine G.op1 (OpL.cast (op_lenD Try.underlying23 (Ev.t 22 (.g (.d (.sl 2 (List.map encApi_Pin l_0))))) rfl) (by rw [List.length_map])) rfl ⟨rfl, trivial⟩ trivial ?_
      refine G.op1 (op_geq (Ev.t 23 (bI .i64 (l_0.length : Int))) (Ev.c _ rfl) rfl) rfl ⟨rfl, trivial⟩ trivial ?_
      refine G.op1 (op_assign (Ev.t 24 (bB (decide (8 ≤ (l_0.length : Int))))) rfl) rfl ⟨rfl, trivial⟩ trivial ?_
      refine G.endOps ?_
      refine ifS hF (fun hc4 hF => ?_) (fun hc4 hF => ?_)
      · refine G.cond rfl (fun _ => ?_) (fun hx => by rw [hc4] at hx; cases hx)
        refine G.seq ?_
        refine G.region ?_
        refine G.op1 (op_assign (Ev.n 2) rfl) rfl trivial trivial ?_
        refine G.op1 (op_assign (Ev.c _ rfl) rfl) rfl trivial trivial ?_
        refine G.endOps ?_
        cases hF
        exact G.ret2 Try.results10 (RVar.tmp 4 _) (RVar.tmp 5 _) ⟨rfl, rfl, trivial⟩ trivial
      · refine G.cond rfl (fun hx => by rw [hc4] at hx; cases hx) (fun _ => ?_)
        refine G.skip ?_
        refine G.endBlock ?_
        refine G.seq ?_
        obtain ⟨r5, hr5, hF⟩ := bindS hF
        obtain ⟨r6, hr6, hF⟩ := bindS hF
        refine G.drawn (effs := [⟨[(0, .one (.g (.d (.sl 2 (List.map encApi_Pin l_0)))))], [], [(25, .one (.g (.d (.sl 2 (List.map encApi_Pin l_0)))))], []⟩, ⟨[(25, .one (.g (.d (.sl 2 (List.map encApi_Pin l_0)))))], [(2026, none)], [(26, .one (.own 2026 (List.map encApi_Pin r5)))], [(2026, some (.row 29 2 (List.map encApi_Pin r5) true))]⟩, ⟨[(6, .one (bI .i64 r1.1))], [], [(27, .one (bI .i64 r1.1))], []⟩, ⟨[(3, .one (.ptr 1003 0))], [(1003, some (.blk 29 [bI .i64 p_1.ID, .g (.d (.sl 3 (List.map encApi_Dep p_1.Deps)))]))], [(28, .one (.g (.agg [.v (.int .i64 p_1.ID), .sl 3 (List.map encApi_Dep p_1.Deps)])))], []⟩, ⟨[(28, .one (.g (.agg [.v (.int .i64 p_1.ID), .sl 3 (List.map encApi_Dep p_1.Deps)])))], [], [(29, .one (.g (.d (.sl 2 (List.map encApi_Pin ([p_1]))))))], []⟩, ⟨[(26, .one (.own 2026 (List.map encApi_Pin r5))), (27, .one (bI .i64 r1.1)), (29, .one (.g (.d (.sl 2 (List.map encApi_Pin ([p_1]))))))], [(2026, some (.row 29 2 (List.map encApi_Pin r5) true))], [(30, .one (.g (.d (.sl 2 (List.map encApi_Pin r6)))))], [(2026, some (.row 29 2 (List.map encApi_Pin r6) false))]⟩, ⟨[(30, .one (.g (.d (.sl 2 (List.map encApi_Pin r6)))))], [], [(4, .one (.g (.d (.sl 2 (List.map encApi_Pin r6)))))], []⟩, ⟨[], [], [(5, .one (bI .i64 0))], []⟩]) (deps := [[], [0], [], [], [3], [0, 1, 2, 3, 4], [0, 1, 2, 3, 4, 5], [0, 1, 2, 3, 4, 5, 6]]) (sl' := [(4, .one (.g (.d (.sl 2 (List.map encApi_Pin r6))))), (5, .one (bI .i64 0))]) (hp' := []) follows rfl rfl rfl ⟨⟨rfl, trivial⟩, trivial, ⟨rfl, trivial⟩, ⟨⟨rfl, rfl⟩, trivial⟩, ⟨rfl, trivial⟩, trivial, ⟨rfl, trivial⟩, ⟨⟨rfl, rfl⟩, trivial⟩, ⟨rfl, trivial⟩, trivial, ⟨rfl, rfl, rfl, trivial⟩, ⟨⟨rfl, rfl⟩, trivial⟩, ⟨rfl, trivial⟩, trivial, trivial, trivial, trivial⟩ ⟨OpW.plain (op_move (Ev.t 0 (.g (.d (.sl 2 (List.map encApi_Pin l_0))))) rfl) rfl rfl, OpW.plain (op_callNew (k := 2026) cf25 (ct_slices_Clone_Pin l_0 r5 hr5) (EvL.cons (Ev.t 25 (.g (.d (.sl 2 (List.map encApi_Pin l_0))))) EvL.nil) rfl) rfl rfl, OpW.plain (op_move (Ev.t 6 (bI .i64 r1.1)) rfl) rfl rfl, OpW.plain (op_loadAP (ds := [.v (.int .i64 p_1.ID), .sl 3 (List.map encApi_Dep p_1.Deps)]) Try.underlying29 rfl ti29 rfl (Ev.t 3 (.ptr 1003 0)) rfl) rfl rfl, OpW.plain (op_buildSlice (es := List.map encApi_Pin [p_1]) Try.underlying23 ti29 rfl rfl (EvP.cons (Ev.t 28 (.g (.agg [.v (.int .i64 p_1.ID), .sl 3 (List.map encApi_Dep p_1.Deps)]))) EvP.nil) rfl rfl (by simp [encApi_Pin]) rfl) rfl rfl, OpW.plain (OpL.view (OpL.share (op_callGrow cf24 (ct_slices_Insert_Pin r5 r1.1 ([p_1]) r6 hr6) (insL_len hr6) (Ev.t 26 (.own 2026 (List.map encApi_Pin r5))) (EvX.g (Ev.t 27 (bI .i64 r1.1)) (EvX.g (Ev.t 29 (.g (.d (.sl 2 (List.map encApi_Pin ([p_1])))))) EvX.nil)) rfl))) rfl rfl, OpW.plain (op_assign (Ev.t 30 (.g (.d (.sl 2 (List.map encApi_Pin r6))))) rfl) rfl rfl, OpW.plain (op_assign (Ev.c _ rfl) rfl) rfl rfl, trivial⟩ ⟨rfl, rfl, trivial⟩ trivial rfl ?_
        cases hF
        exact G.ret2 Try.results10 (RVar.tmp 4 _) (RVar.tmp 5 _) ⟨rfl, rfl, trivial⟩ trivial


set_option maxRecDepth 20000 in
set_option maxHeartbeats 2000000 in
theorem ct_law16_awake (r : Bool) (hF : law16_awake = some r) : Ct Try.prog 9 [] (.one (.d (.v (.bool r)))) := by
  unfold law16_awake at hF
  refine Ct.intro Try.func9 rfl Try.ntmps9 rfl rfl fun M w => ?_
  refine G.seq ?_
  refine G.region ?_
  refine G.op1 (op_assign (Ev.c _ rfl) rfl) rfl trivial trivial ?_
  refine G.endOps ?_
  refine G.seq ?_
  refine G.region ?_
  refine G.op1 (op_build (zs := [.v (.int .i64 0), .sl 3 (List.map encApi_Dep ([] : (List Api_Dep)))]) (ds := [.v (.int .i64 2), .sl 3 (List.map encApi_Dep ([] : (List Api_Dep)))]) Try.underlying29 ti29 (pl29 _ Try.underlying29) ⟨.v _ rfl, .n 3, trivial⟩ (EvP.cons (Ev.c _ rfl) EvP.nil) rfl rfl) rfl trivial trivial ?_
  obtain ⟨r1, hr1, hF⟩ := bindS hF
  refine G.op1 (op_call (sv := .tup [.g (.d (.sl 2 (List.map encApi_Pin r1.1))), bI .i64 r1.2]) cf10 (ct_pins_Put ([] : (List Api_Pin)) (Api_Pin.mk 2 ([] : (List Api_Dep))) r1 hr1) rfl (EvL.cons (Ev.n 2) (EvL.cons (Ev.t 7 (.g (.agg [.v (.int .i64 2), .sl 3 (List.map encApi_Dep ([] : (List Api_Dep)))]))) EvL.nil)) rfl) rfl ⟨rfl, trivial⟩ trivial ?_
  refine G.op1 (op_moveS (t := 8) (sv := .tup [.g (.d (.sl 2 (List.map encApi_Pin r1.1))), bI .i64 r1.2]) rfl) rfl ⟨rfl, trivial⟩ trivial ?_
  refine G.op1 (op_extract (l := [.g (.d (.sl 2 (List.map encApi_Pin r1.1))), bI .i64 r1.2]) (c := .g (.d (.sl 2 (List.map encApi_Pin r1.1)))) rfl rfl) rfl ⟨rfl, trivial⟩ trivial ?_
  refine G.op1 (op_extract (l := [.g (.d (.sl 2 (List.map encApi_Pin r1.1))), bI .i64 r1.2]) (c := bI .i64 r1.2) rfl rfl) rfl ⟨rfl, trivial⟩ trivial ?_
  refine G.op1 (op_assign (Ev.t 9 (.g (.d (.sl 2 (List.map encApi_Pin r1.1))))) rfl) rfl ⟨rfl, trivial⟩ trivial ?_
  refine G.op1 (op_assign (Ev.t 10 (bI .i64 r1.2)) rfl) rfl ⟨rfl, trivial⟩ trivial ?_
  refine G.endOps ?_
  refine G.seq ?_
  refine G.region ?_
  refine G.op1 (op_move (Ev.t 1 (.g (.d (.sl 2 (List.map encApi_Pin r1.1))))) rfl) rfl ⟨rfl, trivial⟩ trivial ?_
  refine G.op1 (op_build (zs := [.v (.int .i64 0), .sl 3 (List.map encApi_Dep ([] : (List Api_Dep)))]) (ds := [.v (.int .i64 1), .sl 3 (List.map encApi_Dep ([] : (List Api_Dep)))]) Try.underlying29 ti29 (pl29 _ Try.underlying29) ⟨.v _ rfl, .n 3, trivial⟩ (EvP.cons (Ev.c _ rfl) EvP.nil) rfl rfl) rfl trivial trivial ?_
  obtain ⟨r2, hr2, hF⟩ := bindS hF
  refine G.op1 (op_call (sv := .tup [.g (.d (.sl 2 (List.map encApi_Pin r2.1))), bI .i64 r2.2]) cf10 (ct_pins_Put r1.1 (Api_Pin.mk 1 ([] : (List Api_Dep))) r2 hr2) rfl (EvL.cons (Ev.t 12 (.g (.d (.sl 2 (List.map encApi_Pin r1.1))))) (EvL.cons (Ev.t 13 (.g (.agg [.v (.int .i64 1), .sl 3 (List.map encApi_Dep ([] : (List Api_Dep)))]))) EvL.nil)) rfl) rfl ⟨rfl, rfl, trivial⟩ trivial ?_
  refine G.op1 (op_moveS (t := 14) (sv := .tup [.g (.d (.sl 2 (List.map encApi_Pin r2.1))), bI .i64 r2.2]) rfl) rfl ⟨rfl, trivial⟩ trivial ?_
  refine G.op1 (op_extract (l := [.g (.d (.sl 2 (List.map encApi_Pin r2.1))), bI .i64 r2.2]) (c := .g (.d (.sl 2 (List.map encApi_Pin r2.1)))) rfl rfl) rfl ⟨rfl, trivial⟩ trivial ?_
  refine G.op1 (op_extract (l := [.g (.d (.sl 2 (List.map encApi_Pin r2.1))), bI .i64 r2.2]) (c := bI .i64 r2.2) rfl rfl) rfl ⟨rfl, trivial⟩ trivial ?_
  refine G.op1 (op_assign (Ev.t 15 (.g (.d (.sl 2 (List.map encApi_Pin r2.1))))) rfl) rfl ⟨rfl, trivial⟩ trivial ?_
  refine G.op1 (op_assign (Ev.t 16 (bI .i64 r2.2)) rfl) rfl ⟨rfl, trivial⟩ trivial ?_
  refine G.endOps ?_
  refine G.seq ?_
  refine G.region ?_
  refine G.op1 (op_move (Ev.t 1 (.g (.d (.sl 2 (List.map encApi_Pin r2.1))))) rfl) rfl ⟨rfl, trivial⟩ trivial ?_
  refine G.op1 (op_build (zs := [.v (.int .i64 0), .sl 3 (List.map encApi_Dep ([] : (List Api_Dep)))]) (ds := [.v (.int .i64 2), .sl 3 (List.map encApi_Dep ([] : (List Api_Dep)))]) Try.underlying29 ti29 (pl29 _ Try.underlying29) ⟨.v _ rfl, .n 3, trivial⟩ (EvP.cons (Ev.c _ rfl) EvP.nil) rfl rfl) rfl trivial trivial ?_
  obtain ⟨r3, hr3, hF⟩ := bindS hF
  refine G.op1 (op_call (sv := .tup [.g (.d (.sl 2 (List.map encApi_Pin r3.1))), bI .i64 r3.2]) cf10 (ct_pins_Put r2.1 (Api_Pin.mk 2 ([] : (List Api_Dep))) r3 hr3) rfl (EvL.cons (Ev.t 18 (.g (.d (.sl 2 (List.map encApi_Pin r2.1))))) (EvL.cons (Ev.t 19 (.g (.agg [.v (.int .i64 2), .sl 3 (List.map encApi_Dep ([] : (List Api_Dep)))]))) EvL.nil)) rfl) rfl ⟨rfl, rfl, trivial⟩ trivial ?_
  refine G.op1 (op_moveS (t := 20) (sv := .tup [.g (.d (.sl 2 (List.map encApi_Pin r3.1))), bI .i64 r3.2]) rfl) rfl ⟨rfl, trivial⟩ trivial ?_
  refine G.op1 (op_extract (l := [.g (.d (.sl 2 (List.map encApi_Pin r3.1))), bI .i64 r3.2]) (c := .g (.d (.sl 2 (List.map encApi_Pin r3.1)))) rfl rfl) rfl ⟨rfl, trivial⟩ trivial ?_
  refine G.op1 (op_extract (l := [.g (.d (.sl 2 (List.map encApi_Pin r3.1))), bI .i64 r3.2]) (c := bI .i64 r3.2) rfl rfl) rfl ⟨rfl, trivial⟩ trivial ?_
  refine G.op1 (op_assign (Ev.t 21 (.g (.d (.sl 2 (List.map encApi_Pin r3.1))))) rfl) rfl ⟨rfl, trivial⟩ trivial ?_
  refine G.op1 (op_assign (Ev.t 22 (bI .i64 r3.2)) rfl) rfl ⟨rfl, trivial⟩ trivial ?_
  refine G.endOps ?_
  refine G.seq ?_
  refine G.region ?_
  refine G.op1 (op_move (Ev.t 2 (bI .i64 r1.2)) rfl) rfl ⟨rfl, trivial⟩ trivial ?_
  refine G.op1 (op_eqI (Ev.t 23 (bI .i64 r1.2)) (Ev.c _ rfl) rfl) rfl ⟨rfl, trivial⟩ trivial ?_
  refine G.op1 (op_move (Ev.t 24 (bB (decide (r1.2 = 0)))) rfl) rfl ⟨rfl, trivial⟩ trivial ?_
  refine G.joinL (T := Bool) 3 (fun y4 => ⟨[(1, .one (.g (.d (.sl 2 (List.map encApi_Pin r2.1))))), (5, .one (bI .i64 r3.2)), (28, .one (bB y4))], []⟩) (fun y4 => law16_awake_k1 r2 r3 y4 = some r) (fun y4 hF => ?_) (fun J13 => ?_)
  · unfold law16_awake_k1 at hF
    refine G.op1 (op_move (Ev.t 28 (bB y4)) rfl) rfl ⟨rfl, trivial⟩ trivial ?_
    refine G.joinL (T := Bool) 3 (fun y5 => ⟨[(1, .one (.g (.d (.sl 2 (List.map encApi_Pin r2.1))))), (32, .one (bB y5))], []⟩) (fun y5 => law16_awake_k2 r2 y5 = some r) (fun y5 hF => ?_) (fun J11 => ?_)
    · unfold law16_awake_k2 at hF
      refine G.op1 (op_move (Ev.t 32 (bB y5)) rfl) rfl ⟨rfl, trivial⟩ trivial ?_
      refine G.joinL (T := Bool) 4 (fun y6 => ⟨[(1, .one (.g (.d (.sl 2 (List.map encApi_Pin r2.1))))), (37, .one (bB y6))], []⟩) (fun y6 => law16_awake_k3 r2 y6 = some r) (fun y6 hF => ?_) (fun J9 => ?_)
      · unfold law16_awake_k3 at hF
        refine G.op1 (op_move (Ev.t 37 (bB y6)) rfl) rfl ⟨rfl, trivial⟩ trivial ?_
        refine ifS hF (fun hc7 hF => ?_) (fun hc7 hF => ?_)
        · refine G.known (t := 38) hc7 rfl ?_
          refine G.opG1 (op_move (Ev.t 1 (.g (.d (.sl 2 (List.map encApi_Pin r2.1))))) rfl) rfl rfl rfl ⟨rfl, trivial⟩ trivial ?_
          obtain ⟨x8, hx8, hF⟩ := bindS hF
          refine G.opG1 (op_index (cs := [.v (.int .i64 x8.ID), .sl 3 (List.map encApi_Dep x8.Deps)]) Try.underlying23 ti29 (idx_ok hx8).1 (idx_get hx8 encApi_Pin) (Ev.t 39 (.g (.d (.sl 2 (List.map encApi_Pin r2.1))))) (Ev.c _ rfl) rfl) rfl rfl rfl ⟨rfl, trivial⟩ trivial ?_
          refine G.opG1 (op_fieldE (cs' := [.v (.int .i64 x8.ID), .sl 3 (List.map encApi_Dep x8.Deps)]) Try.underlying29 rfl ti3 (by decide) rfl (Ev.t 40 (.ep [.v (.int .i64 x8.ID), .sl 3 (List.map encApi_Dep x8.Deps)])) rfl) rfl rfl rfl ⟨rfl, trivial⟩ trivial ?_
          refine G.opG1 (op_load1E (c := .v (.int .i64 x8.ID)) Try.underlying3 rfl rfl (Ev.t 41 (.ep [.v (.int .i64 x8.ID), .sl 3 (List.map encApi_Dep x8.Deps)])) rfl) rfl rfl rfl ⟨rfl, trivial⟩ trivial ?_
          refine G.opG1 (op_eqI (Ev.t 42 (bI .i64 x8.ID)) (Ev.c _ rfl) rfl) rfl rfl rfl ⟨rfl, trivial⟩ trivial ?_
          refine G.op1 (op_pickT (Ev.t 38 (bB true)) (Ev.t 43 (bB (decide (x8.ID = 1)))) rfl) rfl ⟨rfl, rfl, trivial⟩ trivial ?_
          refine G.op1 (op_assign (Ev.t 44 (bB (decide (x8.ID = 1)))) rfl) rfl ⟨rfl, trivial⟩ trivial ?_
          refine G.endOps ?_
          cases hF
          exact G.ret1 Try.results9 (RVar.tmp 0 _) ⟨rfl, trivial⟩ trivial
        · refine G.known (t := 38) hc7 rfl ?_
          refine G.opN1 rfl rfl rfl rfl rfl ?_
          refine G.opN1 rfl rfl rfl rfl rfl ?_
          refine G.opN1 rfl rfl rfl rfl rfl ?_
          refine G.opN1 rfl rfl rfl rfl rfl ?_
          refine G.opN1 rfl rfl rfl rfl rfl ?_
          refine G.op1 (op_pickF (Ev.t 38 (bB false)) (Ev.c _ rfl) rfl) rfl ⟨rfl, trivial⟩ trivial ?_
          refine G.op1 (op_assign (Ev.t 44 (bB false)) rfl) rfl ⟨rfl, trivial⟩ trivial ?_
          refine G.endOps ?_
          cases hF
          exact G.ret1 Try.results9 (RVar.tmp 0 _) ⟨rfl, trivial⟩ trivial
      refine ifS hF (fun hc10 hF => ?_) (fun hc10 hF => ?_)
      · refine G.known (t := 33) hc10 rfl ?_
        refine G.opG1 (op_move (Ev.t 1 (.g (.d (.sl 2 (List.map encApi_Pin r2.1))))) rfl) rfl rfl rfl ⟨rfl, trivial⟩ trivial ?_
        refine G.opG1 (OpL.cast (op_lenD Try.underlying23 (Ev.t 34 (.g (.d (.sl 2 (List.map encApi_Pin r2.1))))) rfl) (by rw [List.length_map])) rfl rfl rfl ⟨rfl, trivial⟩ trivial ?_
        refine G.opG1 (op_eqI (Ev.t 35 (bI .i64 (r2.1.length : Int))) (Ev.c _ rfl) rfl) rfl rfl rfl ⟨rfl, trivial⟩ trivial ?_
        refine G.op1 (op_pickT (Ev.t 33 (bB true)) (Ev.t 36 (bB (decide ((r2.1.length : Int) = 2)))) rfl) rfl ⟨rfl, rfl, trivial⟩ trivial ?_
        exact G.arr (J9 (decide ((r2.1.length : Int) = 2)) hF) ⟨rfl, rfl, trivial⟩ trivial rfl
      · refine G.known (t := 33) hc10 rfl ?_
        refine G.opN1 rfl rfl rfl rfl rfl ?_
        refine G.opN1 rfl rfl rfl rfl rfl ?_
        refine G.opN1 rfl rfl rfl rfl rfl ?_
        refine G.op1 (op_pickF (Ev.t 33 (bB false)) (Ev.c _ rfl) rfl) rfl ⟨rfl, trivial⟩ trivial ?_
        exact G.arr (J9 false hF) ⟨rfl, rfl, trivial⟩ trivial rfl
    refine ifS hF (fun hc12 hF => ?_) (fun hc12 hF => ?_)
    · refine G.known (t := 29) hc12 rfl ?_
      refine G.opG1 (op_move (Ev.t 5 (bI .i64 r3.2)) rfl) rfl rfl rfl ⟨rfl, trivial⟩ trivial ?_
      refine G.opG1 (op_eqI (Ev.t 30 (bI .i64 r3.2)) (Ev.c _ rfl) rfl) rfl rfl rfl ⟨rfl, trivial⟩ trivial ?_
      refine G.op1 (op_pickT (Ev.t 29 (bB true)) (Ev.t 31 (bB (decide (r3.2 = 13)))) rfl) rfl ⟨rfl, rfl, trivial⟩ trivial ?_
      exact G.arr (J11 (decide (r3.2 = 13)) hF) ⟨rfl, rfl, trivial⟩ trivial rfl
    · refine G.known (t := 29) hc12 rfl ?_
      refine G.opN1 rfl rfl rfl rfl rfl ?_
      refine G.opN1 rfl rfl rfl rfl rfl ?_
      refine G.op1 (op_pickF (Ev.t 29 (bB false)) (Ev.c _ rfl) rfl) rfl ⟨rfl, trivial⟩ trivial ?_
      exact G.arr (J11 false hF) ⟨rfl, rfl, trivial⟩ trivial rfl
  refine ifS hF (fun hc14 hF => ?_) (fun hc14 hF => ?_)
  · refine G.known (t := 25) hc14 rfl ?_
    refine G.opG1 (op_move (Ev.t 3 (bI .i64 r2.2)) rfl) rfl rfl rfl ⟨rfl, trivial⟩ trivial ?_
    refine G.opG1 (op_eqI (Ev.t 26 (bI .i64 r2.2)) (Ev.c _ rfl) rfl) rfl rfl rfl ⟨rfl, trivial⟩ trivial ?_
    refine G.op1 (op_pickT (Ev.t 25 (bB true)) (Ev.t 27 (bB (decide (r2.2 = 0)))) rfl) rfl ⟨rfl, rfl, trivial⟩ trivial ?_
    exact G.arr (J13 (decide (r2.2 = 0)) hF) ⟨rfl, rfl, rfl, trivial⟩ trivial rfl
  · refine G.known (t := 25) hc14 rfl ?_
    refine G.opN1 rfl rfl rfl rfl rfl ?_
    refine G.opN1 rfl rfl rfl rfl rfl ?_
    refine G.op1 (op_pickF (Ev.t 25 (bB false)) (Ev.c _ rfl) rfl) rfl ⟨rfl, trivial⟩ trivial ?_
    exact G.arr (J13 false hF) ⟨rfl, rfl, rfl, trivial⟩ trivial rfl


set_option maxRecDepth 20000 in
set_option maxHeartbeats 2000000 in
theorem ct_law16_few (p_0 : Api_Pin) (r : Api_Pin) (hF : law16_few p_0 = some r) : Ct Try.prog 13 [.g (.agg (encApi_Pin p_0))] (.one (.agg (encApi_Pin r))) := by
  unfold law16_few at hF
  refine Ct.intro Try.func13 rfl Try.ntmps13 rfl rfl fun M w => ?_
  refine G.seq ?_
  refine G.region ?_
  refine G.op2 (op_boxA (k := 1001) (Ev.t 0 (.g (.agg [.v (.int .i64 p_0.ID), .sl 3 (List.map encApi_Dep p_0.Deps)]))) rfl) rfl ⟨rfl, trivial⟩ ⟨rfl, trivial⟩ ?_
  refine G.op2 (op_alloc (k := 1002) (cs := [bI .i64 0, .g (.d (.sl 3 (List.map encApi_Dep ([] : (List Api_Dep)))))]) ti29 ⟨.v _ rfl, .n 3, trivial⟩ rfl) rfl trivial ⟨rfl, trivial⟩ ?_
  refine G.endOps ?_
  refine G.seq ?_
  refine G.seq ?_
  refine G.region ?_
  refine G.op1 (op_fieldP (off' := 1) Try.underlying29 rfl ti27 (by decide) rfl (Ev.t 1 (.ptr 1001 0)) rfl) rfl ⟨rfl, trivial⟩ trivial ?_
  refine G.op1 (op_load1P (c := .g (.d (.sl 3 (List.map encApi_Dep p_0.Deps)))) Try.underlying27 rfl rfl (Ev.t 3 (.ptr 1001 1)) rfl) rfl ⟨rfl, trivial⟩ ⟨rfl, trivial⟩ ?_
  refine G.op1 (OpL.cast (op_lenD Try.underlying27 (Ev.t 4 (.g (.d (.sl 3 (List.map encApi_Dep p_0.Deps))))) rfl) (by rw [List.length_map])) rfl ⟨rfl, trivial⟩ trivial ?_
  refine G.op1 (op_gtr (Ev.t 5 (bI .i64 (p_0.Deps.length : Int))) (Ev.c _ rfl) rfl) rfl ⟨rfl, trivial⟩ trivial ?_
  refine G.endOps ?_
  refine ifS hF (fun hc1 hF => ?_) (fun hc1 hF => ?_)
  · refine G.cond rfl (fun _ => ?_) (fun hx => by rw [hc1] at hx; cases hx)
    refine G.region ?_
    refine G.op1 (op_fieldP (off' := 1) Try.underlying29 rfl ti27 (by decide) rfl (Ev.t 1 (.ptr 1001 0)) rfl) rfl ⟨rfl, trivial⟩ trivial ?_
    refine G.op1 (op_load1P (c := .g (.d (.sl 3 (List.map encApi_Dep p_0.Deps)))) Try.underlying27 rfl rfl (Ev.t 7 (.ptr 1001 1)) rfl) rfl ⟨rfl, trivial⟩ ⟨rfl, trivial⟩ ?_
    obtain ⟨l2, hl2, hF⟩ := bindS hF
    refine G.op1 (op_sliceD (lo := none) (hi := some 5) Try.underlying27 ti44 (sub_ok hl2 encApi_Dep).1 (sub_ok hl2 encApi_Dep).2.1 (sub_ok hl2 encApi_Dep).2.2.1 (sub_ok hl2 encApi_Dep).2.2.2 (Ev.t 8 (.g (.d (.sl 3 (List.map encApi_Dep p_0.Deps))))) EvO.none (EvO.some (Ev.c _ rfl)) rfl) rfl ⟨rfl, trivial⟩ trivial ?_
    refine G.op1 (op_fieldP (off' := 1) Try.underlying29 rfl ti27 (by decide) rfl (Ev.t 1 (.ptr 1001 0)) rfl) rfl ⟨rfl, trivial⟩ trivial ?_
    refine G.op3 (op_store1 (cs' := [bI .i64 p_0.ID, .g (.d (.sl 3 (List.map encApi_Dep l2)))]) (c := .g (.d (.sl 3 (List.map encApi_Dep l2)))) trivial ti27 rfl rfl (Ev.t 10 (.ptr 1001 1)) (Ev.t 9 (.g (.d (.sl 3 (List.map encApi_Dep l2)))))) rfl ⟨rfl, rfl, trivial⟩ ⟨rfl, trivial⟩ ?_
    refine G.endOps ?_
    refine G.seq ?_
    refine G.region ?_
    refine G.op1 (op_loadAP (ds := [.v (.int .i64 p_0.ID), .sl 3 (List.map encApi_Dep l2)]) Try.underlying29 rfl ti29 rfl (Ev.t 1 (.ptr 1001 0)) rfl) rfl ⟨rfl, trivial⟩ ⟨rfl, trivial⟩ ?_
    refine G.op3 (op_storeA (cs' := [bI .i64 p_0.ID, .g (.d (.sl 3 (List.map encApi_Dep l2)))]) ti29 rfl rfl (Ev.t 2 (.ptr 1002 0)) (Ev.t 11 (.g (.agg [.v (.int .i64 p_0.ID), .sl 3 (List.map encApi_Dep l2)])))) rfl ⟨rfl, rfl, trivial⟩ ⟨rfl, trivial⟩ ?_
    refine G.endOps ?_
    cases hF
    exact G.ret1 Try.results13 (RVar.cellA (ds := [.v (.int .i64 p_0.ID), .sl 3 (List.map encApi_Dep l2)]) Try.underlying29 rfl ti29 rfl) ⟨rfl, trivial⟩ ⟨rfl, trivial⟩
  · refine G.cond rfl (fun hx => by rw [hc1] at hx; cases hx) (fun _ => ?_)
    refine G.skip ?_
    refine G.seq ?_
    refine G.region ?_
    refine G.op1 (op_loadAP (ds := [.v (.int .i64 p_0.ID), .sl 3 (List.map encApi_Dep p_0.Deps)]) Try.underlying29 rfl ti29 rfl (Ev.t 1 (.ptr 1001 0)) rfl) rfl ⟨rfl, trivial⟩ ⟨rfl, trivial⟩ ?_
    refine G.op3 (op_storeA (cs' := [bI .i64 p_0.ID, .g (.d (.sl 3 (List.map encApi_Dep p_0.Deps)))]) ti29 rfl rfl (Ev.t 2 (.ptr 1002 0)) (Ev.t 11 (.g (.agg [.v (.int .i64 p_0.ID), .sl 3 (List.map encApi_Dep p_0.Deps)])))) rfl ⟨rfl, rfl, trivial⟩ ⟨rfl, trivial⟩ ?_
    refine G.endOps ?_
    cases hF
    exact G.ret1 Try.results13 (RVar.cellA (ds := [.v (.int .i64 p_0.ID), .sl 3 (List.map encApi_Dep p_0.Deps)]) Try.underlying29 rfl ti29 rfl) ⟨rfl, trivial⟩ ⟨rfl, trivial⟩


set_option maxRecDepth 20000 in
set_option maxHeartbeats 2000000 in
theorem ct_law16_PinsKeys (l_0 : (List (List Api_Dep))) (key_1 : ByteArray) (r : Bool) (hF : law16_PinsKeys l_0 key_1 = some r) : Ct Try.prog 7 [.g (.d (.sl 1 (List.map encL_encApi_Dep l_0))), .g (.d (.v (.string key_1)))] (.one (.d (.v (.bool r)))) := by
  unfold law16_PinsKeys at hF
  refine Ct.intro Try.func7 rfl Try.ntmps7 rfl rfl fun M w => ?_
  refine G.seq ?_
  refine G.region ?_
  refine G.op1 (op_assign (Ev.c _ rfl) rfl) rfl trivial trivial ?_
  refine G.endOps ?_
  refine G.seq ?_
  refine G.region ?_
  obtain ⟨r1, hr1, hF⟩ := bindS hF
  refine G.op1 (op_callQ (sv := .one (bB r1)) cf9 (ct_law16_awake r1 hr1) rfl rfl EvQL.nil rfl) rfl trivial trivial ?_
  refine G.op1 (op_assign (Ev.t 14 (bB r1)) rfl) rfl ⟨rfl, trivial⟩ trivial ?_
  refine G.endOps ?_
  refine G.seq ?_
  refine G.region ?_
  refine G.op1 (op_assign (Ev.n 2) rfl) rfl trivial trivial ?_
  refine G.endOps ?_
  refine G.seq ?_
  refine G.seq ?_
  refine G.region ?_
  refine G.op1 (op_assign (Ev.c _ rfl) rfl) rfl trivial trivial ?_
  refine G.endOps ?_
  refine G.joinC (T := (List Api_Pin)) (fun y2 => ⟨[(1, .one (bS key_1)), (5, .one (bB r1)), (6, .one (.g (.d (.sl 2 (List.map encApi_Pin y2)))))], []⟩) (fun y2 => law16_PinsKeys_k1 key_1 r1 y2 = some r) (fun y2 hF => ?_) (fun J21 => ?_)
  · unfold law16_PinsKeys_k1 at hF
    refine G.seq ?_
    refine G.region ?_
    refine G.op1 (op_move (Ev.t 6 (.g (.d (.sl 2 (List.map encApi_Pin y2))))) rfl) rfl ⟨rfl, trivial⟩ trivial ?_
    refine G.op1 (op_move (Ev.t 1 (bS key_1)) rfl) rfl ⟨rfl, trivial⟩ trivial ?_
    obtain ⟨r3, hr3, hF⟩ := bindS hF
    refine G.op1 (op_call (sv := .one (.g (.d (.sl 2 (List.map encApi_Stamp r3))))) cf17 (ct_pins_Of y2 key_1 r3 hr3) rfl (EvL.cons (Ev.t 41 (.g (.d (.sl 2 (List.map encApi_Pin y2))))) (EvL.cons (Ev.t 42 (bS key_1)) EvL.nil)) rfl) rfl ⟨rfl, rfl, trivial⟩ trivial ?_
    refine G.op1 (op_assign (Ev.t 43 (.g (.d (.sl 2 (List.map encApi_Stamp r3))))) rfl) rfl ⟨rfl, trivial⟩ trivial ?_
    refine G.endOps ?_
    refine G.seq ?_
    refine G.region ?_
    refine G.op1 (op_move (Ev.t 6 (.g (.d (.sl 2 (List.map encApi_Pin y2))))) rfl) rfl ⟨rfl, trivial⟩ trivial ?_
    obtain ⟨r4, hr4, hF⟩ := bindS hF
    refine G.op1 (op_call (sv := .one (.g (.d (.sl 3 (List.map encApi_Dep r4))))) cf16 (ct_pins_All y2 r4 hr4) rfl (EvL.cons (Ev.t 44 (.g (.d (.sl 2 (List.map encApi_Pin y2))))) EvL.nil) rfl) rfl ⟨rfl, trivial⟩ trivial ?_
    refine G.op1 (op_assign (Ev.t 45 (.g (.d (.sl 3 (List.map encApi_Dep r4))))) rfl) rfl ⟨rfl, trivial⟩ trivial ?_
    refine G.endOps ?_
    refine G.seq ?_
    refine G.region ?_
    refine G.op1 (op_assign (Ev.c _ rfl) rfl) rfl trivial trivial ?_
    refine G.endOps ?_
    refine G.seq ?_
    refine G.seq ?_
    refine G.region ?_
    refine G.op1 (op_assign (Ev.c _ rfl) rfl) rfl trivial trivial ?_
    refine G.endOps ?_
    refine G.joinC (T := Int) (fun y5 => ⟨[(5, .one (bB r1)), (10, .one (.g (.d (.sl 2 (List.map encApi_Stamp r3))))), (12, .one (bI .i64 y5))], []⟩) (fun y5 => law16_PinsKeys_k2 r1 r3 y5 = some r) (fun y5 hF => ?_) (fun J7 => ?_)
    · unfold law16_PinsKeys_k2 at hF
      refine G.seq ?_
      refine G.region ?_
      refine G.op1 (op_move (Ev.t 5 (bB r1)) rfl) rfl ⟨rfl, trivial⟩ trivial ?_
      refine G.op1 (op_move (Ev.t 77 (bB r1)) rfl) rfl ⟨rfl, trivial⟩ trivial ?_
      refine ifS hF (fun hc6 hF => ?_) (fun hc6 hF => ?_)
      · refine G.known (t := 78) hc6 rfl ?_
        refine G.opG1 (op_move (Ev.t 12 (bI .i64 y5)) rfl) rfl rfl rfl ⟨rfl, trivial⟩ trivial ?_
        refine G.opG1 (op_move (Ev.t 10 (.g (.d (.sl 2 (List.map encApi_Stamp r3))))) rfl) rfl rfl rfl ⟨rfl, trivial⟩ trivial ?_
        refine G.opG1 (OpL.cast (op_lenD Try.underlying46 (Ev.t 80 (.g (.d (.sl 2 (List.map encApi_Stamp r3))))) rfl) (by rw [List.length_map])) rfl rfl rfl ⟨rfl, trivial⟩ trivial ?_
        refine G.opG1 (op_eqI (Ev.t 79 (bI .i64 y5)) (Ev.t 81 (bI .i64 (r3.length : Int))) rfl) rfl rfl rfl ⟨rfl, rfl, trivial⟩ trivial ?_
        refine G.op1 (op_pickT (Ev.t 78 (bB true)) (Ev.t 82 (bB (decide (y5 = (r3.length : Int))))) rfl) rfl ⟨rfl, rfl, trivial⟩ trivial ?_
        refine G.op1 (op_assign (Ev.t 83 (bB (decide (y5 = (r3.length : Int))))) rfl) rfl ⟨rfl, trivial⟩ trivial ?_
        refine G.endOps ?_
        cases hF
        exact G.ret1 Try.results7 (RVar.tmp 4 _) ⟨rfl, trivial⟩ trivial
      · refine G.known (t := 78) hc6 rfl ?_
        refine G.opN1 rfl rfl rfl rfl rfl ?_
        refine G.opN1 rfl rfl rfl rfl rfl ?_
        refine G.opN1 rfl rfl rfl rfl rfl ?_
        refine G.opN1 rfl rfl rfl rfl rfl ?_
        refine G.op1 (op_pickF (Ev.t 78 (bB false)) (Ev.c _ rfl) rfl) rfl ⟨rfl, trivial⟩ trivial ?_
        refine G.op1 (op_assign (Ev.t 83 (bB false)) rfl) rfl ⟨rfl, trivial⟩ trivial ?_
        refine G.endOps ?_
        cases hF
        exact G.ret1 Try.results7 (RVar.tmp 4 _) ⟨rfl, trivial⟩ trivial
    refine G.block ?_
    refine G.keep (sl' := [(1, .one (bS key_1)), (5, .one (bB r1)), (10, .one (.g (.d (.sl 2 (List.map encApi_Stamp r3))))), (11, .one (.g (.d (.sl 3 (List.map encApi_Dep r4))))), (12, .one (bI .i64 0)), (13, .one (bI .i64 0))]) (hp' := []) ⟨rfl, rfl, rfl, rfl, rfl, rfl, trivial⟩ trivial rfl ?_
    refine G.loopF (fun (v8 : Int × Int) => ⟨[(1, .one (bS key_1)), (5, .one (bB r1)), (10, .one (.g (.d (.sl 2 (List.map encApi_Stamp r3))))), (11, .one (.g (.d (.sl 3 (List.map encApi_Dep r4))))), (12, .one (bI .i64 v8.1)), (13, .one (bI .i64 v8.2))], []⟩) hF rfl (fun K11 again10 v8 J9 hF => ?_)
    unfold law16_PinsKeys_l3 at hF
    refine G.seq ?_
    refine G.seq ?_
    refine G.region ?_
    refine G.op1 (op_move (Ev.t 13 (bI .i64 v8.2)) rfl) rfl ⟨rfl, trivial⟩ trivial ?_
    refine G.op1 (op_move (Ev.t 11 (.g (.d (.sl 3 (List.map encApi_Dep r4))))) rfl) rfl ⟨rfl, trivial⟩ trivial ?_
    refine G.op1 (OpL.cast (op_lenD Try.underlying27 (Ev.t 47 (.g (.d (.sl 3 (List.map encApi_Dep r4))))) rfl) (by rw [List.length_map])) rfl ⟨rfl, trivial⟩ trivial ?_
    refine G.op1 (op_lss (Ev.t 46 (bI .i64 v8.2)) (Ev.t 48 (bI .i64 (r4.length : Int))) rfl) rfl ⟨rfl, rfl, trivial⟩ trivial ?_
    refine G.endOps ?_
    refine ifS hF (fun hc12 hF => ?_) (fun hc12 hF => ?_)
    · refine G.cond rfl (fun _ => ?_) (fun hx => by rw [hc12] at hx; cases hx)
      refine G.skip ?_
      refine G.seq ?_
      refine G.block ?_
      refine G.seq ?_
      refine G.seq ?_
      refine G.region ?_
      refine G.op1 (op_move (Ev.t 11 (.g (.d (.sl 3 (List.map encApi_Dep r4))))) rfl) rfl ⟨rfl, trivial⟩ trivial ?_
      refine G.op1 (op_move (Ev.t 13 (bI .i64 v8.2)) rfl) rfl ⟨rfl, trivial⟩ trivial ?_
      obtain ⟨x13, hx13, hF⟩ := bindS hF
      refine G.op1 (op_index (cs := [.v (.string x13.Key), .v (.int .i64 x13.Stamp.N), .v (.int .i64 x13.Stamp.Site)]) Try.underlying27 ti44 (idx_ok hx13).1 (idx_get hx13 encApi_Dep) (Ev.t 52 (.g (.d (.sl 3 (List.map encApi_Dep r4))))) (Ev.t 53 (bI .i64 v8.2)) rfl) rfl ⟨rfl, rfl, trivial⟩ trivial ?_
      refine G.op1 (op_fieldE (cs' := [.v (.string x13.Key), .v (.int .i64 x13.Stamp.N), .v (.int .i64 x13.Stamp.Site)]) Try.underlying44 rfl ti9 (by decide) rfl (Ev.t 54 (.ep [.v (.string x13.Key), .v (.int .i64 x13.Stamp.N), .v (.int .i64 x13.Stamp.Site)])) rfl) rfl ⟨rfl, trivial⟩ trivial ?_
      refine G.op1 (op_load1E (c := .v (.string x13.Key)) Try.underlying9 rfl rfl (Ev.t 55 (.ep [.v (.string x13.Key), .v (.int .i64 x13.Stamp.N), .v (.int .i64 x13.Stamp.Site)])) rfl) rfl ⟨rfl, trivial⟩ trivial ?_
      refine G.op1 (op_move (Ev.t 1 (bS key_1)) rfl) rfl ⟨rfl, trivial⟩ trivial ?_
      refine G.op1 (op_neS (Ev.t 56 (bS x13.Key)) (Ev.t 57 (bS key_1)) rfl) rfl ⟨rfl, rfl, trivial⟩ trivial ?_
      refine G.endOps ?_
      refine ifS hF (fun hc14 hF => ?_) (fun hc14 hF => ?_)
      · refine G.cond rfl (fun _ => ?_) (fun hx => by rw [hc14] at hx; cases hx)
        refine G.exit ?_
        refine GX.c ?_
        refine GX.bYes ?_
        refine G.region ?_
        refine G.op1 (op_move (Ev.t 13 (bI .i64 v8.2)) rfl) rfl ⟨rfl, trivial⟩ trivial ?_
        refine G.op1 (op_add (Ev.t 50 (bI .i64 v8.2)) (Ev.c _ rfl) rfl) rfl ⟨rfl, trivial⟩ trivial ?_
        refine G.op1 (op_assign (Ev.t 51 (bI .i64 (IntKind.wrap .i64 (v8.2 + 1)))) rfl) rfl ⟨rfl, trivial⟩ trivial ?_
        refine G.endOps ?_
        exact G.arr (J9 (v8.1, IntKind.wrap .i64 (v8.2 + 1)) hF) ⟨rfl, rfl, rfl, rfl, rfl, rfl, trivial⟩ trivial rfl
      · refine G.cond rfl (fun hx => by rw [hc14] at hx; cases hx) (fun _ => ?_)
        refine G.skip ?_
        refine G.seq ?_
        refine G.seq ?_
        refine G.joinC (T := Bool) (fun y15 => ⟨[(1, .one (bS key_1)), (5, .one (bB r1)), (10, .one (.g (.d (.sl 2 (List.map encApi_Stamp r3))))), (11, .one (.g (.d (.sl 3 (List.map encApi_Dep r4))))), (12, .one (bI .i64 v8.1)), (13, .one (bI .i64 v8.2)), (74, .one (bB y15))], []⟩) (fun y15 => law16_PinsKeys_k4 again10 v8 y15 = some r) (fun y15 hF => ?_) (fun J17 => ?_)
        · unfold law16_PinsKeys_k4 at hF
          refine ifS hF (fun hc16 hF => ?_) (fun hc16 hF => ?_)
          · refine G.cond rfl (fun _ => ?_) (fun hx => by rw [hc16] at hx; cases hx)
            refine G.seq ?_
            refine G.region ?_
            refine G.op1 (op_assign (Ev.c _ rfl) rfl) rfl trivial trivial ?_
            refine G.endOps ?_
            cases hF
            exact G.ret1 Try.results7 (RVar.tmp 4 _) ⟨rfl, trivial⟩ trivial
          · refine G.cond rfl (fun hx => by rw [hc16] at hx; cases hx) (fun _ => ?_)
            refine G.skip ?_
            refine G.region ?_
            refine G.op1 (op_move (Ev.t 12 (bI .i64 v8.1)) rfl) rfl ⟨rfl, trivial⟩ trivial ?_
            refine G.op1 (op_add (Ev.t 75 (bI .i64 v8.1)) (Ev.c _ rfl) rfl) rfl ⟨rfl, trivial⟩ trivial ?_
            refine G.op1 (op_assign (Ev.t 76 (bI .i64 (IntKind.wrap .i64 (v8.1 + 1)))) rfl) rfl ⟨rfl, trivial⟩ trivial ?_
            refine G.endOps ?_
            refine G.endBlock ?_
            refine G.region ?_
            refine G.op1 (op_move (Ev.t 13 (bI .i64 v8.2)) rfl) rfl ⟨rfl, trivial⟩ trivial ?_
            refine G.op1 (op_add (Ev.t 50 (bI .i64 v8.2)) (Ev.c _ rfl) rfl) rfl ⟨rfl, trivial⟩ trivial ?_
            refine G.op1 (op_assign (Ev.t 51 (bI .i64 (IntKind.wrap .i64 (v8.2 + 1)))) rfl) rfl ⟨rfl, trivial⟩ trivial ?_
            refine G.endOps ?_
            exact G.arr (J9 (IntKind.wrap .i64 (v8.1 + 1), IntKind.wrap .i64 (v8.2 + 1)) hF) ⟨rfl, rfl, rfl, rfl, rfl, rfl, trivial⟩ trivial rfl
        refine ifS hF (fun hc18 hF => ?_) (fun hc18 hF => ?_)
        · refine G.drawn (effs := [⟨[(12, .one (bI .i64 v8.1))], [], [(59, .one (bI .i64 v8.1))], []⟩, ⟨[(10, .one (.g (.d (.sl 2 (List.map encApi_Stamp r3)))))], [], [(60, .one (.g (.d (.sl 2 (List.map encApi_Stamp r3)))))], []⟩, ⟨[(60, .one (.g (.d (.sl 2 (List.map encApi_Stamp r3)))))], [], [(61, .one (bI .i64 (r3.length : Int)))], []⟩, ⟨[(59, .one (bI .i64 v8.1)), (61, .one (bI .i64 (r3.length : Int)))], [], [(62, .one (bB true))], []⟩, ⟨[(62, .one (bB true))], [], [(63, .one (bB true))], []⟩, ⟨[(63, .one (bB true))], [], [(64, .one (.x Go.undef))], []⟩, ⟨[(63, .one (bB true))], [], [(65, .one (.x Go.undef))], []⟩, ⟨[(63, .one (bB true))], [], [(66, .one (.x Go.undef))], []⟩, ⟨[(63, .one (bB true))], [], [(67, .one (.x Go.undef))], []⟩, ⟨[(63, .one (bB true))], [], [(68, .one (.x Go.undef))], []⟩, ⟨[(63, .one (bB true))], [], [(69, .one (.x Go.undef))], []⟩, ⟨[(63, .one (bB true))], [], [(70, .one (.x Go.undef))], []⟩, ⟨[(63, .one (bB true))], [], [(71, .one (.x Go.undef))], []⟩, ⟨[(63, .one (bB true))], [], [(72, .one (.x Go.undef))], []⟩, ⟨[(63, .one (bB true))], [], [(73, .one (.x Go.undef))], []⟩, ⟨[(63, .one (bB true))], [], [(74, .one (bB true))], []⟩]) (deps := [[], [], [1], [0, 1, 2], [0, 1, 2, 3], [0, 1, 2, 3, 4], [0, 1, 2, 3, 4], [0, 1, 2, 3, 4, 5, 6], [0, 1, 2, 3, 4, 5, 6, 7], [0, 1, 2, 3, 4], [0, 1, 2, 3, 4], [0, 1, 2, 3, 4, 9, 10], [0, 1, 2, 3, 4, 9, 10, 11], [0, 1, 2, 3, 4, 9, 10, 11, 12], [0, 1, 2, 3, 4, 5, 6, 7, 8, 9, 10, 11, 12, 13], [0, 1, 2, 3, 4, 5, 6, 7, 8, 9, 10, 11, 12, 13, 14]]) (sl' := [(1, .one (bS key_1)), (5, .one (bB r1)), (10, .one (.g (.d (.sl 2 (List.map encApi_Stamp r3))))), (11, .one (.g (.d (.sl 3 (List.map encApi_Dep r4))))), (12, .one (bI .i64 v8.1)), (13, .one (bI .i64 v8.2)), (74, .one (bB true))]) (hp' := []) follows rfl rfl rfl ⟨⟨rfl, trivial⟩, trivial, ⟨rfl, trivial⟩, trivial, ⟨rfl, trivial⟩, trivial, ⟨rfl, rfl, trivial⟩, trivial, ⟨rfl, trivial⟩, trivial, ⟨rfl, trivial⟩, trivial, ⟨rfl, trivial⟩, trivial, ⟨rfl, trivial⟩, trivial, ⟨rfl, trivial⟩, trivial, ⟨rfl, trivial⟩, trivial, ⟨rfl, trivial⟩, trivial, ⟨rfl, trivial⟩, trivial, ⟨rfl, trivial⟩, trivial, ⟨rfl, trivial⟩, trivial, ⟨rfl, trivial⟩, trivial, ⟨rfl, trivial⟩, trivial, trivial⟩ ⟨OpW.plain (op_move (Ev.t 12 (bI .i64 v8.1)) rfl) rfl rfl, OpW.plain (op_move (Ev.t 10 (.g (.d (.sl 2 (List.map encApi_Stamp r3))))) rfl) rfl rfl, OpW.plain (OpL.cast (op_lenD Try.underlying46 (Ev.t 60 (.g (.d (.sl 2 (List.map encApi_Stamp r3))))) rfl) (by rw [List.length_map])) rfl rfl, OpW.plain (OpL.cast (op_geq (Ev.t 59 (bI .i64 v8.1)) (Ev.t 61 (bI .i64 (r3.length : Int))) rfl) (congrArg (fun b => bB b) hc18)) rfl rfl, OpW.plain (op_move (Ev.t 62 (bB true)) rfl) rfl rfl, OpW.no rfl rfl rfl rfl rfl, OpW.no rfl rfl rfl rfl rfl, OpW.no rfl rfl rfl rfl rfl, OpW.no rfl rfl rfl rfl rfl, OpW.no rfl rfl rfl rfl rfl, OpW.no rfl rfl rfl rfl rfl, OpW.no rfl rfl rfl rfl rfl, OpW.no rfl rfl rfl rfl rfl, OpW.no rfl rfl rfl rfl rfl, OpW.no rfl rfl rfl rfl rfl, OpW.plain (op_pickT (Ev.t 63 (bB true)) (Ev.c _ rfl) rfl) rfl rfl, trivial⟩ ⟨rfl, rfl, rfl, rfl, rfl, rfl, rfl, trivial⟩ trivial rfl ?_
          exact G.arr (J17 true hF) ⟨rfl, rfl, rfl, rfl, rfl, rfl, rfl, trivial⟩ trivial rfl
        · obtain ⟨x19, hx19, hF⟩ := bindS hF
          obtain ⟨x20, hx20, hF⟩ := bindS hF
          refine G.drawn (effs := [⟨[(12, .one (bI .i64 v8.1))], [], [(59, .one (bI .i64 v8.1))], []⟩, ⟨[(10, .one (.g (.d (.sl 2 (List.map encApi_Stamp r3)))))], [], [(60, .one (.g (.d (.sl 2 (List.map encApi_Stamp r3)))))], []⟩, ⟨[(60, .one (.g (.d (.sl 2 (List.map encApi_Stamp r3)))))], [], [(61, .one (bI .i64 (r3.length : Int)))], []⟩, ⟨[(59, .one (bI .i64 v8.1)), (61, .one (bI .i64 (r3.length : Int)))], [], [(62, .one (bB false))], []⟩, ⟨[(62, .one (bB false))], [], [(63, .one (bB false))], []⟩, ⟨[(63, .one (bB false)), (10, .one (.g (.d (.sl 2 (List.map encApi_Stamp r3)))))], [], [(64, .one (.g (.d (.sl 2 (List.map encApi_Stamp r3)))))], []⟩, ⟨[(63, .one (bB false)), (12, .one (bI .i64 v8.1))], [], [(65, .one (bI .i64 v8.1))], []⟩, ⟨[(63, .one (bB false)), (64, .one (.g (.d (.sl 2 (List.map encApi_Stamp r3))))), (65, .one (bI .i64 v8.1))], [], [(66, .one (.ep [.v (.int .i64 x19.N), .v (.int .i64 x19.Site)]))], []⟩, ⟨[(63, .one (bB false)), (66, .one (.ep [.v (.int .i64 x19.N), .v (.int .i64 x19.Site)]))], [], [(67, .one (.g (.agg [.v (.int .i64 x19.N), .v (.int .i64 x19.Site)])))], []⟩, ⟨[(63, .one (bB false)), (11, .one (.g (.d (.sl 3 (List.map encApi_Dep r4)))))], [], [(68, .one (.g (.d (.sl 3 (List.map encApi_Dep r4)))))], []⟩, ⟨[(63, .one (bB false)), (13, .one (bI .i64 v8.2))], [], [(69, .one (bI .i64 v8.2))], []⟩, ⟨[(63, .one (bB false)), (68, .one (.g (.d (.sl 3 (List.map encApi_Dep r4))))), (69, .one (bI .i64 v8.2))], [], [(70, .one (.ep [.v (.string x20.Key), .v (.int .i64 x20.Stamp.N), .v (.int .i64 x20.Stamp.Site)]))], []⟩, ⟨[(63, .one (bB false)), (70, .one (.ep [.v (.string x20.Key), .v (.int .i64 x20.Stamp.N), .v (.int .i64 x20.Stamp.Site)]))], [], [(71, .one (.ep [.v (.int .i64 x20.Stamp.N), .v (.int .i64 x20.Stamp.Site)]))], []⟩, ⟨[(63, .one (bB false)), (71, .one (.ep [.v (.int .i64 x20.Stamp.N), .v (.int .i64 x20.Stamp.Site)]))], [], [(72, .one (.g (.agg [.v (.int .i64 x20.Stamp.N), .v (.int .i64 x20.Stamp.Site)])))], []⟩, ⟨[(63, .one (bB false)), (67, .one (.g (.agg [.v (.int .i64 x19.N), .v (.int .i64 x19.Site)]))), (72, .one (.g (.agg [.v (.int .i64 x20.Stamp.N), .v (.int .i64 x20.Stamp.Site)])))], [], [(73, .one (bB (!(decide (x19.N = x20.Stamp.N) && decide (x19.Site = x20.Stamp.Site)))))], []⟩, ⟨[(63, .one (bB false)), (73, .one (bB (!(decide (x19.N = x20.Stamp.N) && decide (x19.Site = x20.Stamp.Site)))))], [], [(74, .one (bB (!(decide (x19.N = x20.Stamp.N) && decide (x19.Site = x20.Stamp.Site)))))], []⟩]) (deps := [[], [], [1], [0, 1, 2], [0, 1, 2, 3], [0, 1, 2, 3, 4], [0, 1, 2, 3, 4], [0, 1, 2, 3, 4, 5, 6], [0, 1, 2, 3, 4, 5, 6, 7], [0, 1, 2, 3, 4], [0, 1, 2, 3, 4], [0, 1, 2, 3, 4, 9, 10], [0, 1, 2, 3, 4, 9, 10, 11], [0, 1, 2, 3, 4, 9, 10, 11, 12], [0, 1, 2, 3, 4, 5, 6, 7, 8, 9, 10, 11, 12, 13], [0, 1, 2, 3, 4, 5, 6, 7, 8, 9, 10, 11, 12, 13, 14]]) (sl' := [(1, .one (bS key_1)), (5, .one (bB r1)), (10, .one (.g (.d (.sl 2 (List.map encApi_Stamp r3))))), (11, .one (.g (.d (.sl 3 (List.map encApi_Dep r4))))), (12, .one (bI .i64 v8.1)), (13, .one (bI .i64 v8.2)), (74, .one (bB (!(decide (x19.N = x20.Stamp.N) && decide (x19.Site = x20.Stamp.Site)))))]) (hp' := []) follows rfl rfl rfl ⟨⟨rfl, trivial⟩, trivial, ⟨rfl, trivial⟩, trivial, ⟨rfl, trivial⟩, trivial, ⟨rfl, rfl, trivial⟩, trivial, ⟨rfl, trivial⟩, trivial, ⟨rfl, rfl, trivial⟩, trivial, ⟨rfl, rfl, trivial⟩, trivial, ⟨rfl, rfl, rfl, trivial⟩, trivial, ⟨rfl, rfl, trivial⟩, trivial, ⟨rfl, rfl, trivial⟩, trivial, ⟨rfl, rfl, trivial⟩, trivial, ⟨rfl, rfl, rfl, trivial⟩, trivial, ⟨rfl, rfl, trivial⟩, trivial, ⟨rfl, rfl, trivial⟩, trivial, ⟨rfl, rfl, rfl, trivial⟩, trivial, ⟨rfl, rfl, trivial⟩, trivial, trivial⟩ ⟨OpW.plain (op_move (Ev.t 12 (bI .i64 v8.1)) rfl) rfl rfl, OpW.plain (op_move (Ev.t 10 (.g (.d (.sl 2 (List.map encApi_Stamp r3))))) rfl) rfl rfl, OpW.plain (OpL.cast (op_lenD Try.underlying46 (Ev.t 60 (.g (.d (.sl 2 (List.map encApi_Stamp r3))))) rfl) (by rw [List.length_map])) rfl rfl, OpW.plain (OpL.cast (op_geq (Ev.t 59 (bI .i64 v8.1)) (Ev.t 61 (bI .i64 (r3.length : Int))) rfl) (congrArg (fun b => bB b) hc18)) rfl rfl, OpW.plain (op_move (Ev.t 62 (bB false)) rfl) rfl rfl, OpW.yes (op_move (Ev.t 10 (.g (.d (.sl 2 (List.map encApi_Stamp r3))))) rfl) rfl rfl rfl, OpW.yes (op_move (Ev.t 12 (bI .i64 v8.1)) rfl) rfl rfl rfl, OpW.yes (op_index (cs := [.v (.int .i64 x19.N), .v (.int .i64 x19.Site)]) Try.underlying46 ti42 (idx_ok hx19).1 (idx_get hx19 encApi_Stamp) (Ev.t 64 (.g (.d (.sl 2 (List.map encApi_Stamp r3))))) (Ev.t 65 (bI .i64 v8.1)) rfl) rfl rfl rfl, OpW.yes (op_loadAE (ds := [.v (.int .i64 x19.N), .v (.int .i64 x19.Site)]) Try.underlying42 rfl ti42 rfl (Ev.t 66 (.ep [.v (.int .i64 x19.N), .v (.int .i64 x19.Site)])) rfl) rfl rfl rfl, OpW.yes (op_move (Ev.t 11 (.g (.d (.sl 3 (List.map encApi_Dep r4))))) rfl) rfl rfl rfl, OpW.yes (op_move (Ev.t 13 (bI .i64 v8.2)) rfl) rfl rfl rfl, OpW.yes (op_index (cs := [.v (.string x20.Key), .v (.int .i64 x20.Stamp.N), .v (.int .i64 x20.Stamp.Site)]) Try.underlying27 ti44 (idx_ok hx20).1 (idx_get hx20 encApi_Dep) (Ev.t 68 (.g (.d (.sl 3 (List.map encApi_Dep r4))))) (Ev.t 69 (bI .i64 v8.2)) rfl) rfl rfl rfl, OpW.yes (op_fieldE (cs' := [.v (.int .i64 x20.Stamp.N), .v (.int .i64 x20.Stamp.Site)]) Try.underlying44 rfl ti42 (by decide) rfl (Ev.t 70 (.ep [.v (.string x20.Key), .v (.int .i64 x20.Stamp.N), .v (.int .i64 x20.Stamp.Site)])) rfl) rfl rfl rfl, OpW.yes (op_loadAE (ds := [.v (.int .i64 x20.Stamp.N), .v (.int .i64 x20.Stamp.Site)]) Try.underlying42 rfl ti42 rfl (Ev.t 71 (.ep [.v (.int .i64 x20.Stamp.N), .v (.int .i64 x20.Stamp.Site)])) rfl) rfl rfl rfl, OpW.yes (op_eqA (us := [.int .i64 x19.N, .int .i64 x19.Site]) (vs := [.int .i64 x20.Stamp.N, .int .i64 x20.Stamp.Site]) rfl rfl Try.eqGuardType42 (fun w => ne42 x19.N x19.Site x20.Stamp.N x20.Stamp.Site w) (Ev.t 67 (.g (.agg [.v (.int .i64 x19.N), .v (.int .i64 x19.Site)]))) (Ev.t 72 (.g (.agg [.v (.int .i64 x20.Stamp.N), .v (.int .i64 x20.Stamp.Site)]))) rfl) rfl rfl rfl, OpW.plain (op_pickF (Ev.t 63 (bB false)) (Ev.t 73 (bB (!(decide (x19.N = x20.Stamp.N) && decide (x19.Site = x20.Stamp.Site))))) rfl) rfl rfl, trivial⟩ ⟨rfl, rfl, rfl, rfl, rfl, rfl, rfl, trivial⟩ trivial rfl ?_
          exact G.arr (J17 (!(decide (x19.N = x20.Stamp.N) && decide (x19.Site = x20.Stamp.Site))) hF) ⟨rfl, rfl, rfl, rfl, rfl, rfl, rfl, trivial⟩ trivial rfl
    · refine G.cond rfl (fun hx => by rw [hc12] at hx; cases hx) (fun _ => ?_)
      refine G.exit ?_
      refine GX.c ?_
      refine GX.q ?_
      refine GX.bYes ?_
      exact G.arr (J7 v8.1 hF) ⟨rfl, rfl, rfl, trivial⟩ trivial rfl
  refine G.block ?_
  refine G.keep (sl' := [(0, .one (.g (.d (.sl 1 (List.map encL_encApi_Dep l_0))))), (1, .one (bS key_1)), (5, .one (bB r1)), (6, .one (.g (.d (.sl 2 (List.map encApi_Pin ([] : (List Api_Pin))))))), (7, .one (bI .i64 0))]) (hp' := []) ⟨rfl, rfl, rfl, rfl, rfl, trivial⟩ trivial rfl ?_
  refine G.loopF (fun (v22 : (List Api_Pin) × Int) => ⟨[(0, .one (.g (.d (.sl 1 (List.map encL_encApi_Dep l_0))))), (1, .one (bS key_1)), (5, .one (bB r1)), (6, .one (.g (.d (.sl 2 (List.map encApi_Pin v22.1))))), (7, .one (bI .i64 v22.2))], []⟩) hF rfl (fun K25 again24 v22 J23 hF => ?_)
  unfold law16_PinsKeys_l5 at hF
  refine G.seq ?_
  refine G.seq ?_
  refine G.joinC (T := Bool) (fun y26 => ⟨[(0, .one (.g (.d (.sl 1 (List.map encL_encApi_Dep l_0))))), (1, .one (bS key_1)), (5, .one (bB r1)), (6, .one (.g (.d (.sl 2 (List.map encApi_Pin v22.1))))), (7, .one (bI .i64 v22.2)), (22, .one (bB y26))], []⟩) (fun y26 => law16_PinsKeys_k6 l_0 key_1 r1 again24 v22 y26 = some r) (fun y26 hF => ?_) (fun J32 => ?_)
  · unfold law16_PinsKeys_k6 at hF
    refine ifS hF (fun hc27 hF => ?_) (fun hc27 hF => ?_)
    · refine G.cond rfl (fun _ => ?_) (fun hx => by rw [hc27] at hx; cases hx)
      refine G.skip ?_
      refine G.seq ?_
      refine G.block ?_
      refine G.seq ?_
      refine G.region ?_
      refine G.op1 (op_move (Ev.t 6 (.g (.d (.sl 2 (List.map encApi_Pin v22.1))))) rfl) rfl ⟨rfl, trivial⟩ trivial ?_
      refine G.op1 (op_move (Ev.t 7 (bI .i64 v22.2)) rfl) rfl ⟨rfl, trivial⟩ trivial ?_
      refine G.op1 (op_sub (Ev.c _ rfl) (Ev.t 27 (bI .i64 v22.2)) rfl) rfl ⟨rfl, trivial⟩ trivial ?_
      refine G.op1 (op_move (Ev.t 0 (.g (.d (.sl 1 (List.map encL_encApi_Dep l_0))))) rfl) rfl ⟨rfl, trivial⟩ trivial ?_
      refine G.op1 (op_move (Ev.t 7 (bI .i64 v22.2)) rfl) rfl ⟨rfl, trivial⟩ trivial ?_
      obtain ⟨x28, hx28, hF⟩ := bindS hF
      refine G.op1 (op_index (cs := [.sl 3 (List.map encApi_Dep x28)]) Try.underlying40 ti27 (idx_ok hx28).1 (idx_get hx28 encL_encApi_Dep) (Ev.t 29 (.g (.d (.sl 1 (List.map encL_encApi_Dep l_0))))) (Ev.t 30 (bI .i64 v22.2)) rfl) rfl ⟨rfl, rfl, trivial⟩ trivial ?_
      refine G.op1 (op_load1E (c := .sl 3 (List.map encApi_Dep x28)) Try.underlying27 rfl rfl (Ev.t 31 (.ep [.sl 3 (List.map encApi_Dep x28)])) rfl) rfl ⟨rfl, trivial⟩ trivial ?_
      refine G.op1 (op_build (zs := [.v (.int .i64 0), .sl 3 (List.map encApi_Dep ([] : (List Api_Dep)))]) (ds := [.v (.int .i64 (IntKind.wrap .i64 (10 - v22.2))), .sl 3 (List.map encApi_Dep x28)]) Try.underlying29 ti29 (pl29 _ Try.underlying29) ⟨.v _ rfl, .n 3, trivial⟩ (EvP.cons (Ev.t 28 (bI .i64 (IntKind.wrap .i64 (10 - v22.2)))) (EvP.cons (Ev.t 32 (.g (.d (.sl 3 (List.map encApi_Dep x28))))) EvP.nil)) rfl rfl) rfl ⟨rfl, rfl, trivial⟩ trivial ?_
      obtain ⟨r29, hr29, hF⟩ := bindS hF
      refine G.op1 (op_call (sv := .one (.g (.agg [.v (.int .i64 r29.ID), .sl 3 (List.map encApi_Dep r29.Deps)]))) cf13 (ct_law16_few (Api_Pin.mk (IntKind.wrap .i64 (10 - v22.2)) x28) r29 hr29) rfl (EvL.cons (Ev.t 33 (.g (.agg [.v (.int .i64 (IntKind.wrap .i64 (10 - v22.2))), .sl 3 (List.map encApi_Dep x28)]))) EvL.nil) rfl) rfl ⟨rfl, trivial⟩ trivial ?_
      obtain ⟨r30, hr30, hF⟩ := bindS hF
      refine G.op1 (op_call (sv := .tup [.g (.d (.sl 2 (List.map encApi_Pin r30.1))), bI .i64 r30.2]) cf10 (ct_pins_Put v22.1 r29 r30 hr30) rfl (EvL.cons (Ev.t 26 (.g (.d (.sl 2 (List.map encApi_Pin v22.1))))) (EvL.cons (Ev.t 34 (.g (.agg [.v (.int .i64 r29.ID), .sl 3 (List.map encApi_Dep r29.Deps)]))) EvL.nil)) rfl) rfl ⟨rfl, rfl, trivial⟩ trivial ?_
      refine G.op1 (op_moveS (t := 35) (sv := .tup [.g (.d (.sl 2 (List.map encApi_Pin r30.1))), bI .i64 r30.2]) rfl) rfl ⟨rfl, trivial⟩ trivial ?_
      refine G.op1 (op_extract (l := [.g (.d (.sl 2 (List.map encApi_Pin r30.1))), bI .i64 r30.2]) (c := .g (.d (.sl 2 (List.map encApi_Pin r30.1)))) rfl rfl) rfl ⟨rfl, trivial⟩ trivial ?_
      refine G.op1 (op_extract (l := [.g (.d (.sl 2 (List.map encApi_Pin r30.1))), bI .i64 r30.2]) (c := bI .i64 r30.2) rfl rfl) rfl ⟨rfl, trivial⟩ trivial ?_
      refine G.op1 (op_assign (Ev.t 36 (.g (.d (.sl 2 (List.map encApi_Pin r30.1))))) rfl) rfl ⟨rfl, trivial⟩ trivial ?_
      refine G.op1 (op_assign (Ev.t 37 (bI .i64 r30.2)) rfl) rfl ⟨rfl, trivial⟩ trivial ?_
      refine G.endOps ?_
      refine G.seq ?_
      refine G.seq ?_
      refine G.region ?_
      refine G.op1 (op_move (Ev.t 9 (bI .i64 r30.2)) rfl) rfl ⟨rfl, trivial⟩ trivial ?_
      refine G.op1 (op_neI (Ev.t 38 (bI .i64 r30.2)) (Ev.c _ rfl) rfl) rfl ⟨rfl, trivial⟩ trivial ?_
      refine G.endOps ?_
      refine ifS hF (fun hc31 hF => ?_) (fun hc31 hF => ?_)
      · refine G.cond rfl (fun _ => ?_) (fun hx => by rw [hc31] at hx; cases hx)
        refine G.seq ?_
        refine G.region ?_
        refine G.op1 (op_assign (Ev.c _ rfl) rfl) rfl trivial trivial ?_
        refine G.endOps ?_
        cases hF
        exact G.ret1 Try.results7 (RVar.tmp 4 _) ⟨rfl, trivial⟩ trivial
      · refine G.cond rfl (fun hx => by rw [hc31] at hx; cases hx) (fun _ => ?_)
        refine G.skip ?_
        refine G.region ?_
        refine G.op1 (op_move (Ev.t 8 (.g (.d (.sl 2 (List.map encApi_Pin r30.1))))) rfl) rfl ⟨rfl, trivial⟩ trivial ?_
        refine G.op1 (op_assign (Ev.t 40 (.g (.d (.sl 2 (List.map encApi_Pin r30.1))))) rfl) rfl ⟨rfl, trivial⟩ trivial ?_
        refine G.endOps ?_
        refine G.endBlock ?_
        refine G.region ?_
        refine G.op1 (op_move (Ev.t 7 (bI .i64 v22.2)) rfl) rfl ⟨rfl, trivial⟩ trivial ?_
        refine G.op1 (op_add (Ev.t 23 (bI .i64 v22.2)) (Ev.c _ rfl) rfl) rfl ⟨rfl, trivial⟩ trivial ?_
        refine G.op1 (op_assign (Ev.t 24 (bI .i64 (IntKind.wrap .i64 (v22.2 + 1)))) rfl) rfl ⟨rfl, trivial⟩ trivial ?_
        refine G.endOps ?_
        exact G.arr (J23 (r30.1, IntKind.wrap .i64 (v22.2 + 1)) hF) ⟨rfl, rfl, rfl, rfl, rfl, trivial⟩ trivial rfl
    · refine G.cond rfl (fun hx => by rw [hc27] at hx; cases hx) (fun _ => ?_)
      refine G.exit ?_
      refine GX.c ?_
      refine GX.q ?_
      refine GX.bYes ?_
      exact G.arr (J21 v22.1 hF) ⟨rfl, rfl, rfl, trivial⟩ trivial rfl
  refine G.region ?_
  refine G.op1 (op_move (Ev.t 7 (bI .i64 v22.2)) rfl) rfl ⟨rfl, trivial⟩ trivial ?_
  refine G.op1 (op_move (Ev.t 0 (.g (.d (.sl 1 (List.map encL_encApi_Dep l_0))))) rfl) rfl ⟨rfl, trivial⟩ trivial ?_
  refine G.op1 (OpL.cast (op_lenD Try.underlying40 (Ev.t 16 (.g (.d (.sl 1 (List.map encL_encApi_Dep l_0))))) rfl) (by rw [List.length_map])) rfl ⟨rfl, trivial⟩ trivial ?_
  refine G.op1 (op_lss (Ev.t 15 (bI .i64 v22.2)) (Ev.t 17 (bI .i64 (l_0.length : Int))) rfl) rfl ⟨rfl, rfl, trivial⟩ trivial ?_
  refine G.op1 (op_move (Ev.t 18 (bB (decide (v22.2 < (l_0.length : Int))))) rfl) rfl ⟨rfl, trivial⟩ trivial ?_
  refine ifS hF (fun hc33 hF => ?_) (fun hc33 hF => ?_)
  · refine G.known (t := 19) hc33 rfl ?_
    refine G.opG1 (op_move (Ev.t 7 (bI .i64 v22.2)) rfl) rfl rfl rfl ⟨rfl, trivial⟩ trivial ?_
    refine G.opG1 (op_lss (Ev.t 20 (bI .i64 v22.2)) (Ev.c _ rfl) rfl) rfl rfl rfl ⟨rfl, trivial⟩ trivial ?_
    refine G.op1 (op_pickT (Ev.t 19 (bB true)) (Ev.t 21 (bB (decide (v22.2 < 6)))) rfl) rfl ⟨rfl, rfl, trivial⟩ trivial ?_
    refine G.endOps ?_
    exact G.arr (J32 (decide (v22.2 < 6)) hF) ⟨rfl, rfl, rfl, rfl, rfl, rfl, trivial⟩ trivial rfl
  · refine G.known (t := 19) hc33 rfl ?_
    refine G.opN1 rfl rfl rfl rfl rfl ?_
    refine G.opN1 rfl rfl rfl rfl rfl ?_
    refine G.op1 (op_pickF (Ev.t 19 (bB false)) (Ev.c _ rfl) rfl) rfl ⟨rfl, trivial⟩ trivial ?_
    refine G.endOps ?_
    exact G.arr (J32 false hF) ⟨rfl, rfl, rfl, rfl, rfl, rfl, trivial⟩ trivial rfl


end Go.Ark
