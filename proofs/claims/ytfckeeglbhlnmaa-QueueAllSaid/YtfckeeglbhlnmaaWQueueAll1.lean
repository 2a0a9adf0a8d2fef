/- Walks, printed by a program of mine: each function of the program computes the typed function of its name. Conditions: none. -/
import Derived.Test.YtfckeeglbhlnmaaFlaw14
import Derived.Test.YtfckeeglbhlnmaaFlib
import Derived.Test.YtfckeeglbhlnmaaFkeys
import Derived.Test.YtfckeeglbhlnmaaFpast
import Derived.Test.YtfckeeglbhlnmaaFstamp
import Derived.Test.YtfckeeglbhlnmaaFqueue
import Derived.Test.YtfckeeglbhlnmaaFref02
import Derived.Test.YtfckeeglbhlnmaaFref03
import Derived.Test.YtfckeeglbhlnmaaFref04
import Derived.Test.YtfckeeglbhlnmaaFwire
import Derived.Test.YtfckeeglbhlnmaaProg
import Derived.KernelRfl
namespace Go.Ark
open Go Go.Ab Go.Proofs



theorem follows : Try.prog.follows .mixedOrders = true := by kernel_rfl

theorem cf10 : CallF Try.prog 10 := fun args w => Try.call10 args w

theorem cf11 : CallF Try.prog 11 := fun args w => Try.call11 args w

theorem cf12 : CallF Try.prog 12 := fun args w => Try.call12 args w

theorem cf14 : CallF Try.prog 14 := fun args w => Try.call14 args w

theorem cf15 : CallF Try.prog 15 := fun args w => Try.call15 args w

theorem cf16 : CallF Try.prog 16 := fun args w => Try.call16 args w

theorem cf17 : CallF Try.prog 17 := fun args w => Try.call17 args w

theorem cf18 : CallF Try.prog 18 := fun args w => Try.call18 args w

theorem cf19 : CallF Try.prog 19 := fun args w => Try.call19 args w

theorem cf20 : CallF Try.prog 20 := fun args w => Try.call20 args w

theorem cf24 : CallF Try.prog 24 := fun args w => Try.call24 args w

theorem cf25 : CallF Try.prog 25 := fun args w => Try.call25 args w

theorem cf32 : CallF Try.prog 32 := fun args w => Try.call32 args w

theorem cf34 : CallF Try.prog 34 := fun args w => Try.call34 args w

theorem cf35 : CallF Try.prog 35 := fun args w => Try.call35 args w

theorem cf36 : CallF Try.prog 36 := fun args w => Try.call36 args w

theorem cf37 : CallF Try.prog 37 := fun args w => Try.call37 args w

theorem cf38 : CallF Try.prog 38 := fun args w => Try.call38 args w

theorem cf39 : CallF Try.prog 39 := fun args w => Try.call39 args w

theorem cf40 : CallF Try.prog 40 := fun args w => Try.call40 args w

theorem cf44 : CallF Try.prog 44 := fun args w => Try.call44 args w

theorem cf45 : CallF Try.prog 45 := fun args w => Try.call45 args w

theorem cf48 : CallF Try.prog 48 := fun args w => Try.call48 args w

theorem cf49 : CallF Try.prog 49 := fun args w => Try.call49 args w

theorem cf50 : CallF Try.prog 50 := fun args w => Try.call50 args w

theorem cf51 : CallF Try.prog 51 := fun args w => Try.call51 args w

theorem cf52 : CallF Try.prog 52 := fun args w => Try.call52 args w

theorem cf54 : CallF Try.prog 54 := fun args w => Try.call54 args w

theorem cf55 : CallF Try.prog 55 := fun args w => Try.call55 args w

theorem cf56 : CallF Try.prog 56 := fun args w => Try.call56 args w

theorem cf57 : CallF Try.prog 57 := fun args w => Try.call57 args w

theorem cf58 : CallF Try.prog 58 := fun args w => Try.call58 args w

theorem cf59 : CallF Try.prog 59 := fun args w => Try.call59 args w

theorem cf61 : CallF Try.prog 61 := fun args w => Try.call61 args w

theorem cf62 : CallF Try.prog 62 := fun args w => Try.call62 args w

theorem cf63 : CallF Try.prog 63 := fun args w => Try.call63 args w

theorem cf64 : CallF Try.prog 64 := fun args w => Try.call64 args w

theorem cf65 : CallF Try.prog 65 := fun args w => Try.call65 args w

theorem cf66 : CallF Try.prog 66 := fun args w => Try.call66 args w

theorem cf67 : CallF Try.prog 67 := fun args w => Try.call67 args w

theorem cf9 : CallF Try.prog 9 := fun args w => Try.call9 args w

theorem eq29 (a0 : Int) (a1 : Int) (b0 : Int) (b1 : Int) (w : World) : (binOp .eql 29 (.agg #[.int .i64 a0, .int .i64 a1]) (.agg #[.int .i64 b0, .int .i64 b1])).run Try.prog w = .ok (.bool (decide (a0 = b0) && decide (a1 = b1))) w := by
  have u3 := Try.underlying3; have z3 := Try.sizeOf3; have g3 := Try.isAgg3
  have hS : Try.prog.underlying 29 = some (.struct (Try.prog.fieldsOf 29)) := by kernel_rfl
  rw [run_eql_struct, show (10000 : Nat) = 9999 + 1 from rfl, run_equalIn_agg w 9999 29 _ _ hS Try.stoodInHeld29]
  simp only [Program.fieldsOf, Try.underlying29]
  go_simp
  by_cases e0 : a0 = b0 <;> by_cases e1 : a1 = b1 <;> simp [*]

theorem ne29 (a0 : Int) (a1 : Int) (b0 : Int) (b1 : Int) (w : World) : (binOp .neq 29 (.agg #[.int .i64 a0, .int .i64 a1]) (.agg #[.int .i64 b0, .int .i64 b1])).run Try.prog w = .ok (.bool (!(decide (a0 = b0) && decide (a1 = b1)))) w := by
  have u3 := Try.underlying3; have z3 := Try.sizeOf3; have g3 := Try.isAgg3
  have hS : Try.prog.underlying 29 = some (.struct (Try.prog.fieldsOf 29)) := by kernel_rfl
  rw [run_neq_struct, show (10000 : Nat) = 9999 + 1 from rfl, run_equalIn_agg w 9999 29 _ _ hS Try.stoodInHeld29]
  simp only [Program.fieldsOf, Try.underlying29]
  go_simp
  by_cases e0 : a0 = b0 <;> by_cases e1 : a1 = b1 <;> simp [*]

theorem ti29 : Info Try.prog 29 (.agg #[.int .i64 0, .int .i64 0]) 2 16 := Info.of (by kernel_rfl)

theorem ti3 : Info Try.prog 3 (.int .i64 0) 1 8 := Info.of (by kernel_rfl)

theorem ti30 : Info Try.prog 30 (.slice none 0 0) 1 24 := Info.of (by kernel_rfl)

theorem ti32 : Info Try.prog 32 (.agg #[.string ByteArray.empty, .string ByteArray.empty, .bool false, .int .i64 0, .int .i64 0, .slice none 0 0]) 6 80 := Info.of (by kernel_rfl)

theorem ti39 : Info Try.prog 39 (.agg #[.string ByteArray.empty, .int .i64 0, .int .i64 0]) 3 32 := Info.of (by kernel_rfl)

theorem ti4 : Info Try.prog 4 (.bool false) 1 1 := Info.of (by kernel_rfl)

theorem ti5 : Info Try.prog 5 (.int .u8 0) 1 1 := Info.of (by kernel_rfl)

theorem ti51 : Info Try.prog 51 (.agg #[.string ByteArray.empty, .string ByteArray.empty]) 2 32 := Info.of (by kernel_rfl)

theorem ti55 : Info Try.prog 55 (.slice none 0 0) 1 24 := Info.of (by kernel_rfl)

theorem ti56 : Info Try.prog 56 (.agg #[.bool false, .bool false, .bool false, .bool false, .bool false, .bool false, .bool false, .bool false, .bool false, .bool false, .bool false, .bool false, .bool false, .bool false]) 14 14 := Info.of (by kernel_rfl)

theorem ti70 : Info Try.prog 70 (.agg #[.int .i64 0, .int .i64 0, .slice none 0 0]) 3 40 := Info.of (by kernel_rfl)

theorem ti9 : Info Try.prog 9 (.string ByteArray.empty) 1 16 := Info.of (by kernel_rfl)

theorem pl29 (fs : Array Field) (h : Try.prog.underlying 29 = some (.struct fs)) : Places Try.prog fs #[(0, 1), (1, 1)] := fun w => by rw [Try.underlying29] at h; cases h; simp [Try.sizeOf3]

theorem pl32 (fs : Array Field) (h : Try.prog.underlying 32 = some (.struct fs)) : Places Try.prog fs #[(0, 1), (1, 1), (2, 1), (3, 2), (5, 1)] := fun w => by rw [Try.underlying32] at h; cases h; simp [Try.sizeOf29, Try.sizeOf30, Try.sizeOf4, Try.sizeOf9]

theorem pl39 (fs : Array Field) (h : Try.prog.underlying 39 = some (.struct fs)) : Places Try.prog fs #[(0, 1), (1, 2)] := fun w => by rw [Try.underlying39] at h; cases h; simp [Try.sizeOf29, Try.sizeOf9]

theorem pl51 (fs : Array Field) (h : Try.prog.underlying 51 = some (.struct fs)) : Places Try.prog fs #[(0, 1), (1, 1)] := fun w => by rw [Try.underlying51] at h; cases h; simp [Try.sizeOf9]

set_option maxRecDepth 20000 in
set_option maxHeartbeats 2000000 in
theorem ct_law14_ver (key_0 : ByteArray) (n_1 : Int) (past_2 : (List Api_Dep)) (r : Api_Version) (hF : law14_ver key_0 n_1 past_2 = some r) : Ct Try.prog 25 [.g (.d (.v (.string key_0))), .g (.d (.v (.int .i64 n_1))), .g (.d (.sl 3 (List.map encApi_Dep past_2)))] (.one (.agg (encApi_Version r))) := by
  unfold law14_ver at hF
  refine Ct.intro Try.func25 rfl Try.ntmps25 rfl rfl fun M w => ?_
  refine G.seq ?_
  refine G.region ?_
  refine G.op2 (op_alloc (k := 1006) (cs := [bS ByteArray.empty, bS ByteArray.empty, bB false, bI .i64 0, bI .i64 0, .g (.d (.sl 3 (List.map encApi_Dep ([] : (List Api_Dep)))))]) ti32 ⟨.v _ rfl, .v _ rfl, .v _ rfl, .v _ rfl, .v _ rfl, .n 3, trivial⟩ rfl) rfl trivial ⟨rfl, trivial⟩ ?_
  refine G.endOps ?_
  refine G.seq ?_
  refine G.region ?_
  refine G.op1 (op_move (Ev.t 0 (bS key_0)) rfl) rfl ⟨rfl, trivial⟩ trivial ?_
  refine G.op1 (op_move (Ev.t 1 (bI .i64 n_1)) rfl) rfl ⟨rfl, trivial⟩ trivial ?_
  refine G.op1 (op_build (zs := [.v (.int .i64 0), .v (.int .i64 0)]) (ds := [.v (.int .i64 n_1), .v (.int .i64 0)]) Try.underlying29 ti29 (pl29 _ Try.underlying29) ⟨.v _ rfl, .v _ rfl, trivial⟩ (EvP.cons (Ev.t 8 (bI .i64 n_1)) EvP.nil) rfl rfl) rfl ⟨rfl, trivial⟩ trivial ?_
  refine G.op1 (op_move (Ev.t 2 (.g (.d (.sl 3 (List.map encApi_Dep past_2))))) rfl) rfl ⟨rfl, trivial⟩ trivial ?_
  refine G.op1 (op_build (zs := [.v (.string ByteArray.empty), .v (.string ByteArray.empty), .v (.bool false), .v (.int .i64 0), .v (.int .i64 0), .sl 3 (List.map encApi_Dep ([] : (List Api_Dep)))]) (ds := [.v (.string key_0), .v (.string ByteArray.empty), .v (.bool false), .v (.int .i64 n_1), .v (.int .i64 0), .sl 3 (List.map encApi_Dep past_2)]) Try.underlying32 ti32 (pl32 _ Try.underlying32) ⟨.v _ rfl, .v _ rfl, .v _ rfl, .v _ rfl, .v _ rfl, .n 3, trivial⟩ (EvP.cons (Ev.t 7 (bS key_0)) (EvP.cons (Ev.t 9 (.g (.agg [.v (.int .i64 n_1), .v (.int .i64 0)]))) (EvP.cons (Ev.t 10 (.g (.d (.sl 3 (List.map encApi_Dep past_2))))) EvP.nil))) rfl rfl) rfl ⟨rfl, rfl, rfl, trivial⟩ trivial ?_
  refine G.op3 (op_storeA (cs' := [bS key_0, bS ByteArray.empty, bB false, bI .i64 n_1, bI .i64 0, .g (.d (.sl 3 (List.map encApi_Dep past_2)))]) ti32 rfl rfl (Ev.t 6 (.ptr 1006 0)) (Ev.t 11 (.g (.agg [.v (.string key_0), .v (.string ByteArray.empty), .v (.bool false), .v (.int .i64 n_1), .v (.int .i64 0), .sl 3 (List.map encApi_Dep past_2)])))) rfl ⟨rfl, rfl, trivial⟩ ⟨rfl, trivial⟩ ?_
  refine G.endOps ?_
  cases hF
  exact G.ret1 Try.results25 (RVar.cellA (ds := [.v (.string key_0), .v (.string ByteArray.empty), .v (.bool false), .v (.int .i64 n_1), .v (.int .i64 0), .sl 3 (List.map encApi_Dep past_2)]) Try.underlying32 rfl ti32 rfl) ⟨rfl, trivial⟩ ⟨rfl, trivial⟩


set_option maxRecDepth 20000 in
set_option maxHeartbeats 2000000 in
theorem ct_slices_Clone_Dep (s_0 : (List Api_Dep)) (r : (List Api_Dep)) (hF : slices_Clone_Dep s_0 = some r) : Ct Try.prog 50 [.g (.d (.sl 3 (List.map encApi_Dep s_0)))] (.new 39 3 (List.map encApi_Dep r)) := by
  unfold slices_Clone_Dep at hF
  refine Ct.intro Try.func50 rfl Try.ntmps50 rfl rfl fun M w => ?_
  refine G.seq ?_
  refine G.region ?_
  refine G.op1 (op_assign (c := .x (.slice none 0 0)) (Ev.x _) rfl) rfl trivial trivial ?_
  refine G.endOps ?_
  refine G.seq ?_
  refine G.seq ?_
  refine G.region ?_
  refine G.op1 (op_move (Ev.t 0 (.g (.d (.sl 3 (List.map encApi_Dep s_0))))) rfl) rfl ⟨rfl, trivial⟩ trivial ?_
  refine G.opNil Try.underlying30 (Ev.t 3 (.g (.d (.sl 3 (List.map encApi_Dep s_0))))) rfl ⟨rfl, trivial⟩ (fun nilb1 hnilb1 => ?_)
  refine G.endOps ?_
  refine G.cond rfl (fun hx => ?_) (fun hx => ?_)
  · replace hF := cloneNil (hnilb1 hx) hF
    refine G.seq ?_
    refine G.region ?_
    refine G.op1 (op_assign (c := .x (.slice none 0 0)) (Ev.x _) rfl) rfl trivial trivial ?_
    refine G.endOps ?_
    cases hF
    exact G.retNil (T := 39) Try.results50 ti39 rfl ⟨rfl, trivial⟩
  · clear hnilb1
    refine G.skip ?_
    refine G.seq ?_
    refine G.region ?_
    refine G.op2 (op_buildRow (kk := 2005) Try.underlying30 ti39 rfl rfl) rfl trivial ⟨rfl, trivial⟩ ?_
    refine G.keep (sl' := [(0, .one (.g (.d (.sl 3 (List.map encApi_Dep s_0))))), (2, .one (.x (.slice none 0 0))), (3, .one (.g (.d (.sl 3 (List.map encApi_Dep s_0))))), (4, .one (bB nilb1)), (5, .one (.own 2005 (List.map encApi_Dep ([] : List Api_Dep))))]) (hp' := [(2005, some (.row 39 3 (List.map encApi_Dep ([] : List Api_Dep)) true))]) ⟨rfl, rfl, rfl, rfl, rfl, trivial⟩ ⟨rfl, trivial⟩ rfl ?_
    refine G.op1 (op_move (Ev.t 0 (.g (.d (.sl 3 (List.map encApi_Dep s_0))))) rfl) rfl ⟨rfl, trivial⟩ trivial ?_
    obtain ⟨l2, hl2, hF⟩ := bindS hF
    refine G.op2 (op_appendO Try.underlying30 ti39 rfl (app_map hl2 encApi_Dep) (app_b1 hl2 encApi_Dep) (app_b2 hl2 encApi_Dep) (Ev.t 5 (.own 2005 (List.map encApi_Dep ([] : List Api_Dep)))) (Ev.t 6 (.g (.d (.sl 3 (List.map encApi_Dep s_0))))) rfl) rfl ⟨rfl, rfl, trivial⟩ ⟨rfl, trivial⟩ ?_
    refine G.op1 (op_assign (Ev.t 7 (.own 2005 (List.map encApi_Dep l2))) rfl) rfl ⟨rfl, trivial⟩ trivial ?_
    refine G.endOps ?_
    cases hF
    exact G.retNew Try.results50 rfl rfl


set_option maxRecDepth 20000 in
set_option maxHeartbeats 2000000 in
theorem ct_keys_Has (r_0 : Api_Range) (key_1 : ByteArray) (r : Bool) (hF : keys_Has r_0 key_1 = some r) : Ct Try.prog 56 [.g (.agg (encApi_Range r_0)), .g (.d (.v (.string key_1)))] (.one (.d (.v (.bool r)))) := by
  unfold keys_Has at hF
  refine Ct.intro Try.func56 rfl Try.ntmps56 rfl rfl fun M w => ?_
  refine G.seq ?_
  refine G.region ?_
  refine G.op2 (op_boxA (k := 1002) (Ev.t 0 (.g (.agg [.v (.string r_0.From), .v (.string r_0.To)]))) rfl) rfl ⟨rfl, trivial⟩ ⟨rfl, trivial⟩ ?_
  refine G.op1 (op_assign (Ev.c _ rfl) rfl) rfl trivial trivial ?_
  refine G.endOps ?_
  refine G.seq ?_
  refine G.region ?_
  refine G.op1 (op_move (Ev.t 1 (bS key_1)) rfl) rfl ⟨rfl, trivial⟩ trivial ?_
  refine G.op1 (op_fieldP (off' := 0) Try.underlying51 rfl ti9 (by decide) rfl (Ev.t 2 (.ptr 1002 0)) rfl) rfl ⟨rfl, trivial⟩ trivial ?_
  refine G.op1 (op_load1P (c := bS r_0.From) Try.underlying9 rfl rfl (Ev.t 6 (.ptr 1002 0)) rfl) rfl ⟨rfl, trivial⟩ ⟨rfl, trivial⟩ ?_
  refine G.op1 (op_geS (Ev.t 5 (bS key_1)) (Ev.t 7 (bS r_0.From)) rfl) rfl ⟨rfl, rfl, trivial⟩ trivial ?_
  refine G.op1 (op_move (Ev.t 8 (bB (!slt key_1 r_0.From))) rfl) rfl ⟨rfl, trivial⟩ trivial ?_
  refine ifS hF (fun hc1 hF => ?_) (fun hc1 hF => ?_)
  · refine G.known (t := 9) hc1 rfl ?_
    refine G.opG1 (op_fieldP (off' := 1) Try.underlying51 rfl ti9 (by decide) rfl (Ev.t 2 (.ptr 1002 0)) rfl) rfl rfl rfl ⟨rfl, trivial⟩ trivial ?_
    refine G.opG1 (op_load1P (c := bS r_0.To) Try.underlying9 rfl rfl (Ev.t 10 (.ptr 1002 1)) rfl) rfl rfl rfl ⟨rfl, trivial⟩ ⟨rfl, trivial⟩ ?_
    refine G.opG1 (op_eqS (Ev.t 11 (bS r_0.To)) (Ev.c _ rfl) rfl) rfl rfl rfl ⟨rfl, trivial⟩ trivial ?_
    refine G.opG1 (op_move (Ev.t 12 (bB (seq r_0.To ByteArray.empty))) rfl) rfl rfl rfl ⟨rfl, trivial⟩ trivial ?_
    refine ifS hF (fun hc2 hF => ?_) (fun hc2 hF => ?_)
    · refine G.known (t := 13) hc2 rfl ?_
      refine G.opN1 rfl rfl rfl rfl rfl ?_
      refine G.opN1 rfl rfl rfl rfl rfl ?_
      refine G.opN1 rfl rfl rfl rfl rfl ?_
      refine G.opN1 rfl rfl rfl rfl rfl ?_
      refine G.opG1 (op_pickT (Ev.t 13 (bB true)) (Ev.c _ rfl) rfl) rfl rfl rfl ⟨rfl, trivial⟩ trivial ?_
      refine G.op1 (op_pickT (Ev.t 9 (bB true)) (Ev.t 18 (bB true)) rfl) rfl ⟨rfl, rfl, trivial⟩ trivial ?_
      refine G.op1 (op_assign (Ev.t 19 (bB true)) rfl) rfl ⟨rfl, trivial⟩ trivial ?_
      refine G.endOps ?_
      cases hF
      exact G.ret1 Try.results56 (RVar.tmp 4 _) ⟨rfl, trivial⟩ trivial
    · refine G.known (t := 13) hc2 rfl ?_
      refine G.opG1 (op_move (Ev.t 1 (bS key_1)) rfl) rfl rfl rfl ⟨rfl, trivial⟩ trivial ?_
      refine G.opG1 (op_fieldP (off' := 1) Try.underlying51 rfl ti9 (by decide) rfl (Ev.t 2 (.ptr 1002 0)) rfl) rfl rfl rfl ⟨rfl, trivial⟩ trivial ?_
      refine G.opG1 (op_load1P (c := bS r_0.To) Try.underlying9 rfl rfl (Ev.t 15 (.ptr 1002 1)) rfl) rfl rfl rfl ⟨rfl, trivial⟩ ⟨rfl, trivial⟩ ?_
      refine G.opG1 (op_ltS (Ev.t 14 (bS key_1)) (Ev.t 16 (bS r_0.To)) rfl) rfl rfl rfl ⟨rfl, rfl, trivial⟩ trivial ?_
      refine G.opG1 (op_pickF (Ev.t 13 (bB false)) (Ev.t 17 (bB (slt key_1 r_0.To))) rfl) rfl rfl rfl ⟨rfl, rfl, trivial⟩ trivial ?_
      refine G.op1 (op_pickT (Ev.t 9 (bB true)) (Ev.t 18 (bB (slt key_1 r_0.To))) rfl) rfl ⟨rfl, rfl, trivial⟩ trivial ?_
      refine G.op1 (op_assign (Ev.t 19 (bB (slt key_1 r_0.To))) rfl) rfl ⟨rfl, trivial⟩ trivial ?_
      refine G.endOps ?_
      cases hF
      exact G.ret1 Try.results56 (RVar.tmp 4 _) ⟨rfl, trivial⟩ trivial
  · refine G.known (t := 9) hc1 rfl ?_
    refine G.opN1 rfl rfl rfl rfl rfl ?_
    refine G.opN1 rfl rfl rfl rfl rfl ?_
    refine G.opN1 rfl rfl rfl rfl rfl ?_
    refine G.opN1 rfl rfl rfl rfl rfl ?_
    refine G.opU rfl rfl rfl rfl ?_
    refine G.opU rfl rfl rfl rfl ?_
    refine G.opU rfl rfl rfl rfl ?_
    refine G.opU rfl rfl rfl rfl ?_
    refine G.opN1 rfl rfl rfl rfl rfl ?_
    refine G.op1 (op_pickF (Ev.t 9 (bB false)) (Ev.c _ rfl) rfl) rfl ⟨rfl, trivial⟩ trivial ?_
    refine G.op1 (op_assign (Ev.t 19 (bB false)) rfl) rfl ⟨rfl, trivial⟩ trivial ?_
    refine G.endOps ?_
    cases hF
    exact G.ret1 Try.results56 (RVar.tmp 4 _) ⟨rfl, trivial⟩ trivial


set_option maxRecDepth 20000 in
set_option maxHeartbeats 2000000 in
theorem ct_keys_Find_1 (r_0 : Api_Range) (c0 : ByteArray) (r : Bool) (hF : keys_Find_1 r_0 c0 = some r) : Ct Try.prog 55 [.g (.agg (encApi_Range r_0)), .ep [.v (.string c0)]] (.one (.d (.v (.bool r)))) := by
  unfold keys_Find_1 at hF
  refine Ct.intro Try.func55 rfl Try.ntmps55 rfl rfl fun M w => ?_
  refine G.seq ?_
  refine G.region ?_
  refine G.op2 (op_boxA (k := 1002) (Ev.t 0 (.g (.agg [.v (.string r_0.From), .v (.string r_0.To)]))) rfl) rfl ⟨rfl, trivial⟩ ⟨rfl, trivial⟩ ?_
  refine G.op1 (op_assign (Ev.c _ rfl) rfl) rfl trivial trivial ?_
  refine G.endOps ?_
  refine G.seq ?_
  refine G.region ?_
  refine G.op1 (op_loadAP (ds := [.v (.string r_0.From), .v (.string r_0.To)]) Try.underlying51 rfl ti51 rfl (Ev.t 2 (.ptr 1002 0)) rfl) rfl ⟨rfl, trivial⟩ ⟨rfl, trivial⟩ ?_
  refine G.op1 (op_load1E (c := .v (.string c0)) Try.underlying9 rfl rfl (Ev.t 1 (.ep [.v (.string c0)])) rfl) rfl ⟨rfl, trivial⟩ trivial ?_
  obtain ⟨r1, hr1, hF⟩ := bindS hF
  refine G.op1 (op_callQ (sv := .one (bB r1)) cf56 (ct_keys_Has r_0 c0 r1 hr1) rfl rfl (EvQL.cons (EvQ.g (Ev.t 4 (.g (.agg [.v (.string r_0.From), .v (.string r_0.To)])))) (EvQL.cons (EvQ.g (Ev.t 5 (bS c0))) EvQL.nil)) rfl) rfl ⟨rfl, rfl, trivial⟩ trivial ?_
  refine G.op1 (op_assign (Ev.t 6 (bB r1)) rfl) rfl ⟨rfl, trivial⟩ trivial ?_
  refine G.endOps ?_
  cases hF
  exact G.ret1 Try.results55 (RVar.tmp 3 _) ⟨rfl, trivial⟩ trivial


set_option maxRecDepth 20000 in
set_option maxHeartbeats 2000000 in
theorem ct_slices_IndexFunc_Range (s_0 : (List Api_Range)) (f_1 : (Api_Range → Option Bool)) (r : Int) (hF : slices_IndexFunc_Range s_0 f_1 = some r) : Ct Try.prog 54 [.g (.d (.sl 2 (List.map encApi_Range s_0))), .sem (sem1 (fun x => .agg (encApi_Range x)) (fun y => .bool y) f_1)] (.one (.d (.v (.int .i64 r)))) := by
  unfold slices_IndexFunc_Range at hF
  refine Ct.intro Try.func54 rfl Try.ntmps54 rfl rfl fun M w => ?_
  refine G.seq ?_
  refine G.region ?_
  refine G.op1 (op_assign (Ev.c _ rfl) rfl) rfl trivial trivial ?_
  refine G.endOps ?_
  refine G.seq ?_
  refine G.seq ?_
  refine G.region ?_
  refine G.op1 (op_move (Ev.t 0 (.g (.d (.sl 2 (List.map encApi_Range s_0))))) rfl) rfl ⟨rfl, trivial⟩ trivial ?_
  refine G.op1 (OpL.cast (op_lenD Try.underlying26 (Ev.t 6 (.g (.d (.sl 2 (List.map encApi_Range s_0))))) rfl) (by rw [List.length_map])) rfl ⟨rfl, trivial⟩ trivial ?_
  refine G.op1 (op_move (Ev.c _ rfl) rfl) rfl trivial trivial ?_
  refine G.endOps ?_
  refine G.joinC (T := Unit) (fun y1 => ⟨[], []⟩) (fun y1 => slices_IndexFunc_Range_k1 y1 = some r) (fun y1 hF => ?_) (fun J2 => ?_)
  · unfold slices_IndexFunc_Range_k1 at hF
    refine G.seq ?_
    refine G.region ?_
    refine G.op1 (op_assign (Ev.c _ rfl) rfl) rfl trivial trivial ?_
    refine G.endOps ?_
    cases hF
    exact G.ret1 Try.results54 (RVar.tmp 4 _) ⟨rfl, trivial⟩ trivial
  refine G.block ?_
  refine G.keep (sl' := [(0, .one (.g (.d (.sl 2 (List.map encApi_Range s_0))))), (1, .one (.sem (sem1 (fun x => .agg (encApi_Range x)) (fun y => .bool y) f_1))), (7, .one (bI .i64 (s_0.length : Int))), (8, .one (bI .i64 0))]) (hp' := []) ⟨rfl, rfl, rfl, rfl, trivial⟩ trivial rfl ?_
  refine G.loopF (fun (v3 : Int) => ⟨[(0, .one (.g (.d (.sl 2 (List.map encApi_Range s_0))))), (1, .one (.sem (sem1 (fun x => .agg (encApi_Range x)) (fun y => .bool y) f_1))), (7, .one (bI .i64 (s_0.length : Int))), (8, .one (bI .i64 v3))], []⟩) hF rfl (fun K6 again5 v3 J4 hF => ?_)
  unfold slices_IndexFunc_Range_l2 at hF
  refine G.seq ?_
  refine G.region ?_
  refine G.op1 (op_lss (Ev.t 8 (bI .i64 v3)) (Ev.t 7 (bI .i64 (s_0.length : Int))) rfl) rfl ⟨rfl, rfl, trivial⟩ trivial ?_
  refine G.endOps ?_
  refine G.seq ?_
  refine ifS hF (fun hc7 hF => ?_) (fun hc7 hF => ?_)
  · refine G.cond rfl (fun _ => ?_) (fun hx => by rw [hc7] at hx; cases hx)
    refine G.skip ?_
    refine G.seq ?_
    refine G.block ?_
    refine G.seq ?_
    refine G.region ?_
    refine G.op1 (op_move (Ev.t 8 (bI .i64 v3)) rfl) rfl ⟨rfl, trivial⟩ trivial ?_
    refine G.op1 (op_assign (Ev.t 10 (bI .i64 v3)) rfl) rfl ⟨rfl, trivial⟩ trivial ?_
    refine G.endOps ?_
    refine G.seq ?_
    refine G.region ?_
    refine G.op1 (op_move (Ev.t 1 (.sem (sem1 (fun x => .agg (encApi_Range x)) (fun y => .bool y) f_1))) rfl) rfl ⟨rfl, trivial⟩ trivial ?_
    refine G.op1 (op_move (Ev.t 0 (.g (.d (.sl 2 (List.map encApi_Range s_0))))) rfl) rfl ⟨rfl, trivial⟩ trivial ?_
    refine G.op1 (op_move (Ev.t 5 (bI .i64 v3)) rfl) rfl ⟨rfl, trivial⟩ trivial ?_
    obtain ⟨x8, hx8, hF⟩ := bindS hF
    refine G.op1 (op_index (cs := [.v (.string x8.From), .v (.string x8.To)]) Try.underlying26 ti51 (idx_ok hx8).1 (idx_get hx8 encApi_Range) (Ev.t 12 (.g (.d (.sl 2 (List.map encApi_Range s_0))))) (Ev.t 13 (bI .i64 v3)) rfl) rfl ⟨rfl, rfl, trivial⟩ trivial ?_
    refine G.op1 (op_loadAE (ds := [.v (.string x8.From), .v (.string x8.To)]) Try.underlying51 rfl ti51 rfl (Ev.t 14 (.ep [.v (.string x8.From), .v (.string x8.To)])) rfl) rfl ⟨rfl, trivial⟩ trivial ?_
    obtain ⟨r9, hr9, hF⟩ := bindS hF
    refine G.op1 (op_callSem (t := 11) (v := .bool r9) (Φ := sem1 (fun x => .agg (encApi_Range x)) (fun y => .bool y) f_1) ⟨x8, r9, rfl, hr9, rfl⟩ rfl (EvL.cons (Ev.t 15 (.g (.agg [.v (.string x8.From), .v (.string x8.To)]))) EvL.nil) rfl) rfl ⟨rfl, rfl, trivial⟩ trivial ?_
    refine G.endOps ?_
    refine ifS hF (fun hc10 hF => ?_) (fun hc10 hF => ?_)
    · refine G.cond rfl (fun _ => ?_) (fun hx => by rw [hc10] at hx; cases hx)
      refine G.seq ?_
      refine G.region ?_
      refine G.op1 (op_move (Ev.t 5 (bI .i64 v3)) rfl) rfl ⟨rfl, trivial⟩ trivial ?_
      refine G.op1 (op_assign (Ev.t 17 (bI .i64 v3)) rfl) rfl ⟨rfl, trivial⟩ trivial ?_
      refine G.endOps ?_
      cases hF
      exact G.ret1 Try.results54 (RVar.tmp 4 _) ⟨rfl, trivial⟩ trivial
    · refine G.cond rfl (fun hx => by rw [hc10] at hx; cases hx) (fun _ => ?_)
      refine G.skip ?_
      refine G.endBlock ?_
      refine G.region ?_
      refine G.op1 (op_add (Ev.t 8 (bI .i64 v3)) (Ev.c _ rfl) rfl) rfl ⟨rfl, trivial⟩ trivial ?_
      refine G.op1 (op_move (Ev.t 18 (bI .i64 (IntKind.wrap .i64 (v3 + 1)))) rfl) rfl ⟨rfl, trivial⟩ trivial ?_
      refine G.endOps ?_
      exact G.arr (J4 (IntKind.wrap .i64 (v3 + 1)) hF) ⟨rfl, rfl, rfl, rfl, trivial⟩ trivial rfl
  · refine G.cond rfl (fun hx => by rw [hc7] at hx; cases hx) (fun _ => ?_)
    refine G.exit ?_
    refine GX.c ?_
    refine GX.q ?_
    refine GX.bYes ?_
    exact G.arr (J2 () hF) trivial trivial rfl


set_option maxRecDepth 20000 in
set_option maxHeartbeats 2000000 in
theorem ct_keys_Find (l_0 : (List Api_Range)) (key_1 : ByteArray) (r : Int) (hF : keys_Find l_0 key_1 = some r) : Ct Try.prog 44 [.g (.d (.sl 2 (List.map encApi_Range l_0))), .g (.d (.v (.string key_1)))] (.one (.d (.v (.int .i64 r)))) := by
  unfold keys_Find at hF
  refine Ct.intro Try.func44 rfl Try.ntmps44 rfl rfl fun M w => ?_
  refine G.seq ?_
  refine G.region ?_
  refine G.op2 (op_box1 (k := 1003) (c := bS key_1) trivial (Ev.t 1 (bS key_1)) rfl) rfl ⟨rfl, trivial⟩ ⟨rfl, trivial⟩ ?_
  refine G.op1 (op_assign (Ev.c _ rfl) rfl) rfl trivial trivial ?_
  refine G.endOps ?_
  refine G.seq ?_
  refine G.region ?_
  refine G.op1 (op_move (Ev.t 0 (.g (.d (.sl 2 (List.map encApi_Range l_0))))) rfl) rfl ⟨rfl, trivial⟩ trivial ?_
  refine G.op1 (op_makeFunc1 (Ev.t 3 (.ptr 1003 0)) rfl) rfl ⟨rfl, trivial⟩ trivial ?_
  obtain ⟨r1, hr1, hF⟩ := bindS hF
  refine G.op1 (op_callQ (sv := .one (bI .i64 r1)) cf54 (ct_slices_IndexFunc_Range l_0 (fun x0 => keys_Find_1 x0 key_1) r1 hr1) rfl rfl (EvQL.cons (EvQ.g (Ev.t 5 (.g (.d (.sl 2 (List.map encApi_Range l_0)))))) (EvQL.cons (EvQ.clo (Φ := sem1 (fun x => .agg (encApi_Range x)) (fun y => .bool y) (fun x0 => keys_Find_1 x0 key_1)) (Ev.t 6 (.clo 55 [1003])) (EvC.cons rfl EvC.nil) cf55 (fun args v ⟨x0, b, h1, h2, h3⟩ => by subst h1 h3; exact ct_keys_Find_1 x0 key_1 b h2)) EvQL.nil)) rfl) rfl ⟨rfl, rfl, trivial⟩ ⟨rfl, trivial⟩ ?_
  refine G.op1 (op_assign (Ev.t 7 (bI .i64 r1)) rfl) rfl ⟨rfl, trivial⟩ trivial ?_
  refine G.endOps ?_
  cases hF
  exact G.ret1 Try.results44 (RVar.tmp 4 _) ⟨rfl, trivial⟩ trivial


set_option maxRecDepth 20000 in
set_option maxHeartbeats 2000000 in
theorem ct_past_Only_1 (d_0 : Api_Dep) (c0 : (List Api_Range)) (r : Bool) (hF : past_Only_1 d_0 c0 = some r) : Ct Try.prog 51 [.g (.agg (encApi_Dep d_0)), .ep [.sl 2 (List.map encApi_Range c0)]] (.one (.d (.v (.bool r)))) := by
  unfold past_Only_1 at hF
  refine Ct.intro Try.func51 rfl Try.ntmps51 rfl rfl fun M w => ?_
  refine G.seq ?_
  refine G.region ?_
  refine G.op2 (op_boxA (k := 1002) (Ev.t 0 (.g (.agg [.v (.string d_0.Key), .v (.int .i64 d_0.Stamp.N), .v (.int .i64 d_0.Stamp.Site)]))) rfl) rfl ⟨rfl, trivial⟩ ⟨rfl, trivial⟩ ?_
  refine G.op1 (op_assign (Ev.c _ rfl) rfl) rfl trivial trivial ?_
  refine G.endOps ?_
  refine G.seq ?_
  refine G.region ?_
  refine G.op1 (op_load1E (c := .sl 2 (List.map encApi_Range c0)) Try.underlying26 rfl rfl (Ev.t 1 (.ep [.sl 2 (List.map encApi_Range c0)])) rfl) rfl ⟨rfl, trivial⟩ trivial ?_
  refine G.op1 (op_fieldP (off' := 0) Try.underlying39 rfl ti9 (by decide) rfl (Ev.t 2 (.ptr 1002 0)) rfl) rfl ⟨rfl, trivial⟩ trivial ?_
  refine G.op1 (op_load1P (c := bS d_0.Key) Try.underlying9 rfl rfl (Ev.t 5 (.ptr 1002 0)) rfl) rfl ⟨rfl, trivial⟩ ⟨rfl, trivial⟩ ?_
  obtain ⟨r1, hr1, hF⟩ := bindS hF
  refine G.op1 (op_callQ (sv := .one (bI .i64 r1)) cf44 (ct_keys_Find c0 d_0.Key r1 hr1) rfl rfl (EvQL.cons (EvQ.g (Ev.t 4 (.g (.d (.sl 2 (List.map encApi_Range c0)))))) (EvQL.cons (EvQ.g (Ev.t 6 (bS d_0.Key))) EvQL.nil)) rfl) rfl ⟨rfl, rfl, trivial⟩ trivial ?_
  refine G.op1 (op_lss (Ev.t 7 (bI .i64 r1)) (Ev.c _ rfl) rfl) rfl ⟨rfl, trivial⟩ trivial ?_
  refine G.op1 (op_assign (Ev.t 8 (bB (decide (r1 < 0)))) rfl) rfl ⟨rfl, trivial⟩ trivial ?_
  refine G.endOps ?_
  cases hF
  exact G.ret1 Try.results51 (RVar.tmp 3 _) ⟨rfl, trivial⟩ trivial


set_option maxRecDepth 20000 in
set_option maxHeartbeats 2000000 in
theorem ct_slices_IndexFunc_Dep (s_0 : (List Api_Dep)) (f_1 : (Api_Dep → Option Bool)) (r : Int) (hF : slices_IndexFunc_Dep s_0 f_1 = some r) : Ct Try.prog 49 [.g (.d (.sl 3 (List.map encApi_Dep s_0))), .sem (sem1 (fun x => .agg (encApi_Dep x)) (fun y => .bool y) f_1)] (.one (.d (.v (.int .i64 r)))) := by
  unfold slices_IndexFunc_Dep at hF
  refine Ct.intro Try.func49 rfl Try.ntmps49 rfl rfl fun M w => ?_
  refine G.seq ?_
  refine G.region ?_
  refine G.op1 (op_assign (Ev.c _ rfl) rfl) rfl trivial trivial ?_
  refine G.endOps ?_
  refine G.seq ?_
  refine G.seq ?_
  refine G.region ?_
  refine G.op1 (op_move (Ev.t 0 (.g (.d (.sl 3 (List.map encApi_Dep s_0))))) rfl) rfl ⟨rfl, trivial⟩ trivial ?_
  refine G.op1 (OpL.cast (op_lenD Try.underlying30 (Ev.t 6 (.g (.d (.sl 3 (List.map encApi_Dep s_0))))) rfl) (by rw [List.length_map])) rfl ⟨rfl, trivial⟩ trivial ?_
  refine G.op1 (op_move (Ev.c _ rfl) rfl) rfl trivial trivial ?_
  refine G.endOps ?_
  refine G.joinC (T := Unit) (fun y1 => ⟨[], []⟩) (fun y1 => slices_IndexFunc_Dep_k1 y1 = some r) (fun y1 hF => ?_) (fun J2 => ?_)
  · unfold slices_IndexFunc_Dep_k1 at hF
    refine G.seq ?_
    refine G.region ?_
    refine G.op1 (op_assign (Ev.c _ rfl) rfl) rfl trivial trivial ?_
    refine G.endOps ?_
    cases hF
    exact G.ret1 Try.results49 (RVar.tmp 4 _) ⟨rfl, trivial⟩ trivial
  refine G.block ?_
  refine G.keep (sl' := [(0, .one (.g (.d (.sl 3 (List.map encApi_Dep s_0))))), (1, .one (.sem (sem1 (fun x => .agg (encApi_Dep x)) (fun y => .bool y) f_1))), (7, .one (bI .i64 (s_0.length : Int))), (8, .one (bI .i64 0))]) (hp' := []) ⟨rfl, rfl, rfl, rfl, trivial⟩ trivial rfl ?_
  refine G.loopF (fun (v3 : Int) => ⟨[(0, .one (.g (.d (.sl 3 (List.map encApi_Dep s_0))))), (1, .one (.sem (sem1 (fun x => .agg (encApi_Dep x)) (fun y => .bool y) f_1))), (7, .one (bI .i64 (s_0.length : Int))), (8, .one (bI .i64 v3))], []⟩) hF rfl (fun K6 again5 v3 J4 hF => ?_)
  unfold slices_IndexFunc_Dep_l2 at hF
  refine G.seq ?_
  refine G.region ?_
  refine G.op1 (op_lss (Ev.t 8 (bI .i64 v3)) (Ev.t 7 (bI .i64 (s_0.length : Int))) rfl) rfl ⟨rfl, rfl, trivial⟩ trivial ?_
  refine G.endOps ?_
  refine G.seq ?_
  refine ifS hF (fun hc7 hF => ?_) (fun hc7 hF => ?_)
  · refine G.cond rfl (fun _ => ?_) (fun hx => by rw [hc7] at hx; cases hx)
    refine G.skip ?_
    refine G.seq ?_
    refine G.block ?_
    refine G.seq ?_
    refine G.region ?_
    refine G.op1 (op_move (Ev.t 8 (bI .i64 v3)) rfl) rfl ⟨rfl, trivial⟩ trivial ?_
    refine G.op1 (op_assign (Ev.t 10 (bI .i64 v3)) rfl) rfl ⟨rfl, trivial⟩ trivial ?_
    refine G.endOps ?_
    refine G.seq ?_
    refine G.region ?_
    refine G.op1 (op_move (Ev.t 1 (.sem (sem1 (fun x => .agg (encApi_Dep x)) (fun y => .bool y) f_1))) rfl) rfl ⟨rfl, trivial⟩ trivial ?_
    refine G.op1 (op_move (Ev.t 0 (.g (.d (.sl 3 (List.map encApi_Dep s_0))))) rfl) rfl ⟨rfl, trivial⟩ trivial ?_
    refine G.op1 (op_move (Ev.t 5 (bI .i64 v3)) rfl) rfl ⟨rfl, trivial⟩ trivial ?_
    obtain ⟨x8, hx8, hF⟩ := bindS hF
    refine G.op1 (op_index (cs := [.v (.string x8.Key), .v (.int .i64 x8.Stamp.N), .v (.int .i64 x8.Stamp.Site)]) Try.underlying30 ti39 (idx_ok hx8).1 (idx_get hx8 encApi_Dep) (Ev.t 12 (.g (.d (.sl 3 (List.map encApi_Dep s_0))))) (Ev.t 13 (bI .i64 v3)) rfl) rfl ⟨rfl, rfl, trivial⟩ trivial ?_
    refine G.op1 (op_loadAE (ds := [.v (.string x8.Key), .v (.int .i64 x8.Stamp.N), .v (.int .i64 x8.Stamp.Site)]) Try.underlying39 rfl ti39 rfl (Ev.t 14 (.ep [.v (.string x8.Key), .v (.int .i64 x8.Stamp.N), .v (.int .i64 x8.Stamp.Site)])) rfl) rfl ⟨rfl, trivial⟩ trivial ?_
    obtain ⟨r9, hr9, hF⟩ := bindS hF
    refine G.op1 (op_callSem (t := 11) (v := .bool r9) (Φ := sem1 (fun x => .agg (encApi_Dep x)) (fun y => .bool y) f_1) ⟨x8, r9, rfl, hr9, rfl⟩ rfl (EvL.cons (Ev.t 15 (.g (.agg [.v (.string x8.Key), .v (.int .i64 x8.Stamp.N), .v (.int .i64 x8.Stamp.Site)]))) EvL.nil) rfl) rfl ⟨rfl, rfl, trivial⟩ trivial ?_
    refine G.endOps ?_
    refine ifS hF (fun hc10 hF => ?_) (fun hc10 hF => ?_)
    · refine G.cond rfl (fun _ => ?_) (fun hx => by rw [hc10] at hx; cases hx)
      refine G.seq ?_
      refine G.region ?_
      refine G.op1 (op_move (Ev.t 5 (bI .i64 v3)) rfl) rfl ⟨rfl, trivial⟩ trivial ?_
      refine G.op1 (op_assign (Ev.t 17 (bI .i64 v3)) rfl) rfl ⟨rfl, trivial⟩ trivial ?_
      refine G.endOps ?_
      cases hF
      exact G.ret1 Try.results49 (RVar.tmp 4 _) ⟨rfl, trivial⟩ trivial
    · refine G.cond rfl (fun hx => by rw [hc10] at hx; cases hx) (fun _ => ?_)
      refine G.skip ?_
      refine G.endBlock ?_
      refine G.region ?_
      refine G.op1 (op_add (Ev.t 8 (bI .i64 v3)) (Ev.c _ rfl) rfl) rfl ⟨rfl, trivial⟩ trivial ?_
      refine G.op1 (op_move (Ev.t 18 (bI .i64 (IntKind.wrap .i64 (v3 + 1)))) rfl) rfl ⟨rfl, trivial⟩ trivial ?_
      refine G.endOps ?_
      exact G.arr (J4 (IntKind.wrap .i64 (v3 + 1)) hF) ⟨rfl, rfl, rfl, rfl, trivial⟩ trivial rfl
  · refine G.cond rfl (fun hx => by rw [hc7] at hx; cases hx) (fun _ => ?_)
    refine G.exit ?_
    refine GX.c ?_
    refine GX.q ?_
    refine GX.bYes ?_
    exact G.arr (J2 () hF) trivial trivial rfl


set_option maxRecDepth 20000 in
set_option maxHeartbeats 2000000 in
theorem ct_slices_DeleteFunc_Dep (s_0 : (List Api_Dep)) (del_1 : (Api_Dep → Option Bool)) (r : (List Api_Dep)) (hF : slices_DeleteFunc_Dep s_0 del_1 = some r) : Ct Try.prog 36 [.row 39 3 (List.map encApi_Dep s_0), .sem (sem1 (fun x => .agg (encApi_Dep x)) (fun y => .bool y) del_1)] (.new 39 3 (List.map encApi_Dep r)) := by
  unfold slices_DeleteFunc_Dep at hF
  refine Ct.introRow Try.func36 rfl Try.ntmps36 rfl fun M K w => ?_
  refine G.seq ?_
  refine G.region ?_
  refine G.op1 (op_assign (c := .x (.slice none 0 0)) (Ev.x _) rfl) rfl trivial trivial ?_
  refine G.endOps ?_
  refine G.seq ?_
  refine G.region ?_
  refine G.op1 (op_move (Ev.t 0 (.own 0 (List.map encApi_Dep s_0))) rfl) rfl ⟨rfl, trivial⟩ trivial ?_
  refine G.op1 (op_move (Ev.t 1 (.sem (sem1 (fun x => .agg (encApi_Dep x)) (fun y => .bool y) del_1))) rfl) rfl ⟨rfl, trivial⟩ trivial ?_
  obtain ⟨r1, hr1, hF⟩ := bindS hF
  refine G.op1 (op_callQ (sv := .one (bI .i64 r1)) cf49 (ct_slices_IndexFunc_Dep s_0 del_1 r1 hr1) rfl rfl (EvQL.cons (EvQ.own (Ev.t 8 (.own 0 (List.map encApi_Dep s_0)))) (EvQL.cons (EvQ.sem (Ev.t 9 (.sem (sem1 (fun x => .agg (encApi_Dep x)) (fun y => .bool y) del_1)))) EvQL.nil)) rfl) rfl ⟨rfl, rfl, trivial⟩ ⟨rfl, trivial⟩ ?_
  refine G.op1 (op_assign (Ev.t 10 (bI .i64 r1)) rfl) rfl ⟨rfl, trivial⟩ trivial ?_
  refine G.endOps ?_
  refine G.seq ?_
  refine G.seq ?_
  refine G.region ?_
  refine G.op1 (op_move (Ev.t 5 (bI .i64 r1)) rfl) rfl ⟨rfl, trivial⟩ trivial ?_
  refine G.op1 (op_eqI (Ev.t 11 (bI .i64 r1)) (Ev.c _ rfl) rfl) rfl ⟨rfl, trivial⟩ trivial ?_
  refine G.endOps ?_
  refine ifS hF (fun hc2 hF => ?_) (fun hc2 hF => ?_)
  · refine G.cond rfl (fun _ => ?_) (fun hx => by rw [hc2] at hx; cases hx)
    refine G.seq ?_
    refine G.region ?_
    refine G.op1 (op_move (Ev.t 0 (.own 0 (List.map encApi_Dep s_0))) rfl) rfl ⟨rfl, trivial⟩ trivial ?_
    refine G.op1 (op_assign (Ev.t 13 (.own 0 (List.map encApi_Dep s_0))) rfl) rfl ⟨rfl, trivial⟩ trivial ?_
    refine G.endOps ?_
    cases hF
    exact G.retNew Try.results36 rfl rfl
  · refine G.cond rfl (fun hx => by rw [hc2] at hx; cases hx) (fun _ => ?_)
    refine G.skip ?_
    refine G.seq ?_
    refine G.seq ?_
    refine G.region ?_
    refine G.op1 (op_move (Ev.t 5 (bI .i64 r1)) rfl) rfl ⟨rfl, trivial⟩ trivial ?_
    refine G.op1 (op_add (Ev.t 14 (bI .i64 r1)) (Ev.c _ rfl) rfl) rfl ⟨rfl, trivial⟩ trivial ?_
    refine G.op1 (op_assign (Ev.t 15 (bI .i64 (IntKind.wrap .i64 (r1 + 1)))) rfl) rfl ⟨rfl, trivial⟩ trivial ?_
    refine G.endOps ?_
    refine G.joinC (T := Int × (List Api_Dep)) (fun y3 => ⟨[(0, .one (.own 0 (List.map encApi_Dep y3.2))), (5, .one (bI .i64 y3.1))], [(0, some (.row 39 3 (List.map encApi_Dep y3.2) true))]⟩) (fun y3 => slices_DeleteFunc_Dep_k1 y3 = some r) (fun y3 hF => ?_) (fun J6 => ?_)
    · unfold slices_DeleteFunc_Dep_k1 at hF
      refine G.seq ?_
      refine G.region ?_
      refine G.op1 (op_move (Ev.t 0 (.own 0 (List.map encApi_Dep y3.2))) rfl) rfl ⟨rfl, trivial⟩ trivial ?_
      refine G.op1 (op_move (Ev.t 5 (bI .i64 y3.1)) rfl) rfl ⟨rfl, trivial⟩ trivial ?_
      obtain ⟨l4, hl4, hF⟩ := bindS hF
      refine G.clearRow (zs := [.v (.string ByteArray.empty), .v (.int .i64 0), .v (.int .i64 0)]) Try.underlying30 ti39 ⟨.v _ rfl, .v _ rfl, .v _ rfl, trivial⟩ rfl (zeroes_ok hl4 encApi_Dep).1 (zeroes_ok hl4 encApi_Dep).2.1 (zeroes_ok hl4 encApi_Dep).2.2 (Ev.t 36 (.own 0 (List.map encApi_Dep y3.2))) (Ev.t 37 (bI .i64 y3.1)) rfl ⟨rfl, rfl, trivial⟩ rfl ?_
      refine G.renew (t := 0) rfl rfl (zeroes_len hl4 encApi_Dep) ?_
      refine G.renew (t := 36) rfl rfl (zeroes_len hl4 encApi_Dep) ?_
      refine G.endOps ?_
      refine G.seq ?_
      refine G.region ?_
      refine G.op1 (op_move (Ev.t 0 (.own 0 (List.map encApi_Dep l4))) rfl) rfl ⟨rfl, trivial⟩ trivial ?_
      refine G.op1 (op_move (Ev.t 5 (bI .i64 y3.1)) rfl) rfl ⟨rfl, trivial⟩ trivial ?_
      obtain ⟨l5, hl5, hF⟩ := bindS hF
      refine G.cutRow (sl' := [(5, .one (bI .i64 y3.1)), (37, .one (bI .i64 y3.1)), (40, .one (bI .i64 y3.1))]) Try.underlying30 ti39 (sub_ok0 hl5 encApi_Dep).1 (sub_ok0 hl5 encApi_Dep).2.1 (sub_ok0 hl5 encApi_Dep).2.2 (Ev.t 39 (.own 0 (List.map encApi_Dep l4))) (Ev.t 40 (bI .i64 y3.1)) rfl ⟨rfl, rfl, trivial⟩ rfl ⟨rfl, rfl, rfl, trivial⟩ rfl ?_
      refine G.op1 (op_assign (Ev.t 41 (.own 0 (List.map encApi_Dep l5))) rfl) rfl ⟨rfl, trivial⟩ trivial ?_
      refine G.endOps ?_
      cases hF
      exact G.retNew Try.results36 rfl rfl
    refine G.block ?_
    refine G.keep (sl' := [(0, .one (.own 0 (List.map encApi_Dep s_0))), (1, .one (.sem (sem1 (fun x => .agg (encApi_Dep x)) (fun y => .bool y) del_1))), (5, .one (bI .i64 r1)), (6, .one (bI .i64 (IntKind.wrap .i64 (r1 + 1))))]) (hp' := [(0, some (.row 39 3 (List.map encApi_Dep s_0) true))]) ⟨rfl, rfl, rfl, rfl, trivial⟩ ⟨rfl, trivial⟩ rfl ?_
    refine G.loopF (fun (v7 : Int × Int × (List Api_Dep)) => ⟨[(0, .one (.own 0 (List.map encApi_Dep v7.2.2))), (1, .one (.sem (sem1 (fun x => .agg (encApi_Dep x)) (fun y => .bool y) del_1))), (5, .one (bI .i64 v7.1)), (6, .one (bI .i64 v7.2.1))], [(0, some (.row 39 3 (List.map encApi_Dep v7.2.2) true))]⟩) hF rfl (fun K10 again9 v7 J8 hF => ?_)
    unfold slices_DeleteFunc_Dep_l2 at hF
    refine G.seq ?_
    refine G.seq ?_
    refine G.region ?_
    refine G.op1 (op_move (Ev.t 6 (bI .i64 v7.2.1)) rfl) rfl ⟨rfl, trivial⟩ trivial ?_
    refine G.op1 (op_move (Ev.t 0 (.own 0 (List.map encApi_Dep v7.2.2))) rfl) rfl ⟨rfl, trivial⟩ trivial ?_
    refine G.op1 (OpL.cast (op_lenO Try.underlying30 (Ev.t 17 (.own 0 (List.map encApi_Dep v7.2.2))) rfl) (by rw [List.length_map])) rfl ⟨rfl, trivial⟩ ⟨rfl, trivial⟩ ?_
    refine G.op1 (op_lss (Ev.t 16 (bI .i64 v7.2.1)) (Ev.t 18 (bI .i64 (v7.2.2.length : Int))) rfl) rfl ⟨rfl, rfl, trivial⟩ trivial ?_
    refine G.endOps ?_
    refine ifS hF (fun hc11 hF => ?_) (fun hc11 hF => ?_)
    · refine G.cond rfl (fun _ => ?_) (fun hx => by rw [hc11] at hx; cases hx)
      refine G.skip ?_
      refine G.seq ?_
      refine G.block ?_
      refine G.seq ?_
      refine G.region ?_
      refine G.op1 (op_move (Ev.t 0 (.own 0 (List.map encApi_Dep v7.2.2))) rfl) rfl ⟨rfl, trivial⟩ trivial ?_
      refine G.op1 (op_move (Ev.t 6 (bI .i64 v7.2.1)) rfl) rfl ⟨rfl, trivial⟩ trivial ?_
      obtain ⟨x12, hx12, hF⟩ := bindS hF
      refine G.loadRow (cs := [.v (.string x12.Key), .v (.int .i64 x12.Stamp.N), .v (.int .i64 x12.Stamp.Site)]) Try.underlying30 Try.underlying39 rfl ti39 (idx_ok hx12).1 (idx_get hx12 encApi_Dep) (Ev.t 22 (.own 0 (List.map encApi_Dep v7.2.2))) (Ev.t 23 (bI .i64 v7.2.1)) rfl rfl ⟨rfl, rfl, trivial⟩ rfl ?_
      refine G.op2 (op_alloc (k := 1007) (cs := [bS ByteArray.empty, bI .i64 0, bI .i64 0]) ti39 ⟨.v _ rfl, .v _ rfl, .v _ rfl, trivial⟩ rfl) rfl trivial ⟨rfl, trivial⟩ ?_
      refine G.op3 (op_storeA (cs' := [bS x12.Key, bI .i64 x12.Stamp.N, bI .i64 x12.Stamp.Site]) ti39 rfl rfl (Ev.t 7 (.ptr 1007 0)) (Ev.t 25 (.g (.agg [.v (.string x12.Key), .v (.int .i64 x12.Stamp.N), .v (.int .i64 x12.Stamp.Site)])))) rfl ⟨rfl, rfl, trivial⟩ ⟨rfl, trivial⟩ ?_
      refine G.endOps ?_
      refine G.seq ?_
      refine G.region ?_
      refine G.op1 (op_move (Ev.t 1 (.sem (sem1 (fun x => .agg (encApi_Dep x)) (fun y => .bool y) del_1))) rfl) rfl ⟨rfl, trivial⟩ trivial ?_
      refine G.op1 (op_loadAP (ds := [.v (.string x12.Key), .v (.int .i64 x12.Stamp.N), .v (.int .i64 x12.Stamp.Site)]) Try.underlying39 rfl ti39 rfl (Ev.t 7 (.ptr 1007 0)) rfl) rfl ⟨rfl, trivial⟩ ⟨rfl, trivial⟩ ?_
      obtain ⟨r13, hr13, hF⟩ := bindS hF
      refine G.op1 (op_callSem (t := 26) (v := .bool r13) (Φ := sem1 (fun x => .agg (encApi_Dep x)) (fun y => .bool y) del_1) ⟨x12, r13, rfl, hr13, rfl⟩ rfl (EvL.cons (Ev.t 27 (.g (.agg [.v (.string x12.Key), .v (.int .i64 x12.Stamp.N), .v (.int .i64 x12.Stamp.Site)]))) EvL.nil) rfl) rfl ⟨rfl, rfl, trivial⟩ trivial ?_
      refine G.op1 (op_not (Ev.t 28 (bB r13)) rfl) rfl ⟨rfl, trivial⟩ trivial ?_
      refine G.endOps ?_
      refine ifS hF (fun hc14 hF => ?_) (fun hc14 hF => ?_)
      · refine G.cond rfl (fun _ => ?_) (fun hx => by rw [hc14] at hx; cases hx)
        refine G.seq ?_
        refine G.region ?_
        refine G.op1 (op_move (Ev.t 0 (.own 0 (List.map encApi_Dep v7.2.2))) rfl) rfl ⟨rfl, trivial⟩ trivial ?_
        refine G.op1 (op_move (Ev.t 5 (bI .i64 v7.1)) rfl) rfl ⟨rfl, trivial⟩ trivial ?_
        refine G.op1 (op_loadAP (ds := [.v (.string x12.Key), .v (.int .i64 x12.Stamp.N), .v (.int .i64 x12.Stamp.Site)]) Try.underlying39 rfl ti39 rfl (Ev.t 7 (.ptr 1007 0)) rfl) rfl ⟨rfl, trivial⟩ ⟨rfl, trivial⟩ ?_
        obtain ⟨l15, hl15, hF⟩ := bindS hF
        refine G.storeRow Try.underlying30 ti39 rfl (sets_ok hl15 encApi_Dep).1 (sets_ok hl15 encApi_Dep).2.1 (sets_ok hl15 encApi_Dep).2.2 (Ev.t 30 (.own 0 (List.map encApi_Dep v7.2.2))) (Ev.t 31 (bI .i64 v7.1)) (Ev.t 32 (.g (.agg [.v (.string x12.Key), .v (.int .i64 x12.Stamp.N), .v (.int .i64 x12.Stamp.Site)]))) (by simp) rfl ⟨rfl, rfl, rfl, trivial⟩ rfl ?_
        refine G.renew (t := 0) rfl rfl (sets_len hl15 encApi_Dep) ?_
        refine G.renew (t := 17) rfl rfl (sets_len hl15 encApi_Dep) ?_
        refine G.renew (t := 22) rfl rfl (sets_len hl15 encApi_Dep) ?_
        refine G.renew (t := 30) rfl rfl (sets_len hl15 encApi_Dep) ?_
        refine G.endOps ?_
        refine G.region ?_
        refine G.op1 (op_move (Ev.t 5 (bI .i64 v7.1)) rfl) rfl ⟨rfl, trivial⟩ trivial ?_
        refine G.op1 (op_add (Ev.t 34 (bI .i64 v7.1)) (Ev.c _ rfl) rfl) rfl ⟨rfl, trivial⟩ trivial ?_
        refine G.op1 (op_assign (Ev.t 35 (bI .i64 (IntKind.wrap .i64 (v7.1 + 1)))) rfl) rfl ⟨rfl, trivial⟩ trivial ?_
        refine G.endOps ?_
        refine G.endBlock ?_
        refine G.region ?_
        refine G.op1 (op_move (Ev.t 6 (bI .i64 v7.2.1)) rfl) rfl ⟨rfl, trivial⟩ trivial ?_
        refine G.op1 (op_add (Ev.t 20 (bI .i64 v7.2.1)) (Ev.c _ rfl) rfl) rfl ⟨rfl, trivial⟩ trivial ?_
        refine G.op1 (op_assign (Ev.t 21 (bI .i64 (IntKind.wrap .i64 (v7.2.1 + 1)))) rfl) rfl ⟨rfl, trivial⟩ trivial ?_
        refine G.endOps ?_
        exact G.arr (J8 (IntKind.wrap .i64 (v7.1 + 1), IntKind.wrap .i64 (v7.2.1 + 1), l15) hF) ⟨rfl, rfl, rfl, rfl, trivial⟩ ⟨rfl, trivial⟩ rfl
      · refine G.cond rfl (fun hx => by rw [hc14] at hx; cases hx) (fun _ => ?_)
        refine G.skip ?_
        refine G.endBlock ?_
        refine G.region ?_
        refine G.op1 (op_move (Ev.t 6 (bI .i64 v7.2.1)) rfl) rfl ⟨rfl, trivial⟩ trivial ?_
        refine G.op1 (op_add (Ev.t 20 (bI .i64 v7.2.1)) (Ev.c _ rfl) rfl) rfl ⟨rfl, trivial⟩ trivial ?_
        refine G.op1 (op_assign (Ev.t 21 (bI .i64 (IntKind.wrap .i64 (v7.2.1 + 1)))) rfl) rfl ⟨rfl, trivial⟩ trivial ?_
        refine G.endOps ?_
        exact G.arr (J8 (v7.1, IntKind.wrap .i64 (v7.2.1 + 1), v7.2.2) hF) ⟨rfl, rfl, rfl, rfl, trivial⟩ ⟨rfl, trivial⟩ rfl
    · refine G.cond rfl (fun hx => by rw [hc11] at hx; cases hx) (fun _ => ?_)
      refine G.exit ?_
      refine GX.c ?_
      refine GX.q ?_
      refine GX.bYes ?_
      exact G.arr (J6 (v7.1, v7.2.2) hF) ⟨rfl, rfl, trivial⟩ ⟨rfl, trivial⟩ rfl


set_option maxRecDepth 20000 in
set_option maxHeartbeats 2000000 in
theorem ct_past_Only (p_0 : (List Api_Dep)) (l_1 : (List Api_Range)) (r : (List Api_Dep)) (hF : past_Only p_0 l_1 = some r) : Ct Try.prog 37 [.g (.d (.sl 3 (List.map encApi_Dep p_0))), .g (.d (.sl 2 (List.map encApi_Range l_1)))] (.new 39 3 (List.map encApi_Dep r)) := by
  unfold past_Only at hF
  refine Ct.intro Try.func37 rfl Try.ntmps37 rfl rfl fun M w => ?_
  refine G.seq ?_
  refine G.region ?_
  refine G.op2 (op_box1 (k := 1003) (c := .g (.d (.sl 2 (List.map encApi_Range l_1)))) trivial (Ev.t 1 (.g (.d (.sl 2 (List.map encApi_Range l_1))))) rfl) rfl ⟨rfl, trivial⟩ ⟨rfl, trivial⟩ ?_
  refine G.op1 (op_assign (c := .x (.slice none 0 0)) (Ev.x _) rfl) rfl trivial trivial ?_
  refine G.endOps ?_
  refine G.seq ?_
  refine G.region ?_
  refine G.op1 (op_move (Ev.t 0 (.g (.d (.sl 3 (List.map encApi_Dep p_0))))) rfl) rfl ⟨rfl, trivial⟩ trivial ?_
  obtain ⟨r1, hr1, hF⟩ := bindS hF
  refine G.op2 (op_callNew (k := 2006) cf50 (ct_slices_Clone_Dep p_0 r1 hr1) (EvL.cons (Ev.t 5 (.g (.d (.sl 3 (List.map encApi_Dep p_0))))) EvL.nil) rfl) rfl ⟨rfl, trivial⟩ ⟨rfl, trivial⟩ ?_
  refine G.op1 (op_makeFunc1 (Ev.t 3 (.ptr 1003 0)) rfl) rfl ⟨rfl, trivial⟩ trivial ?_
  obtain ⟨r2, hr2, hF⟩ := bindS hF
  refine G.callRow (sl' := [(0, .one (.g (.d (.sl 3 (List.map encApi_Dep p_0))))), (1, .one (.g (.d (.sl 2 (List.map encApi_Range l_1))))), (3, .one (.ptr 1003 0)), (4, .one (.x (.slice none 0 0))), (5, .one (.g (.d (.sl 3 (List.map encApi_Dep p_0))))), (7, .one (.clo 51 [1003]))]) cf36 (ct_slices_DeleteFunc_Dep r1 (fun x0 => past_Only_1 x0 l_1) r2 hr2) (Ev.t 6 (.own 2006 (List.map encApi_Dep r1))) (EvX.clo (Φ := sem1 (fun x => .agg (encApi_Dep x)) (fun y => .bool y) (fun x0 => past_Only_1 x0 l_1)) (Ev.t 7 (.clo 51 [1003])) (EvC.cons rfl EvC.nil) cf51 (fun args v ⟨x0, b, h1, h2, h3⟩ => by subst h1 h3; exact ct_past_Only_1 x0 l_1 b h2) EvX.nil) rfl ⟨rfl, rfl, trivial⟩ ⟨rfl, rfl, trivial⟩ ⟨rfl, rfl, rfl, rfl, rfl, rfl, trivial⟩ rfl ?_
  refine G.op1 (op_assign (Ev.t 8 (.own 2006 (List.map encApi_Dep r2))) rfl) rfl ⟨rfl, trivial⟩ trivial ?_
  refine G.endOps ?_
  cases hF
  exact G.retNew Try.results37 rfl rfl


set_option maxRecDepth 20000 in
set_option maxHeartbeats 2000000 in
theorem ct_cmp_isNaN_string (x_0 : ByteArray) (r : Bool) (hF : cmp_isNaN_string x_0 = some r) : Ct Try.prog 67 [.g (.d (.v (.string x_0)))] (.one (.d (.v (.bool r)))) := by
  unfold cmp_isNaN_string at hF
  refine Ct.intro Try.func67 rfl Try.ntmps67 rfl rfl fun M w => ?_
  refine G.seq ?_
  refine G.region ?_
  refine G.op1 (op_assign (Ev.c _ rfl) rfl) rfl trivial trivial ?_
  refine G.endOps ?_
  refine G.seq ?_
  refine G.region ?_
  refine G.op1 (op_move (Ev.t 0 (bS x_0)) rfl) rfl ⟨rfl, trivial⟩ trivial ?_
  refine G.op1 (op_move (Ev.t 0 (bS x_0)) rfl) rfl ⟨rfl, trivial⟩ trivial ?_
  refine G.op1 (op_neS (Ev.t 3 (bS x_0)) (Ev.t 4 (bS x_0)) rfl) rfl ⟨rfl, rfl, trivial⟩ trivial ?_
  refine G.op1 (op_assign (Ev.t 5 (bB (!seq x_0 x_0))) rfl) rfl ⟨rfl, trivial⟩ trivial ?_
  refine G.endOps ?_
  cases hF
  exact G.ret1 Try.results67 (RVar.tmp 2 _) ⟨rfl, trivial⟩ trivial


set_option maxRecDepth 20000 in
set_option maxHeartbeats 2000000 in
theorem ct_cmp_Compare_string (x_0 : ByteArray) (y_1 : ByteArray) (r : Int) (hF : cmp_Compare_string x_0 y_1 = some r) : Ct Try.prog 64 [.g (.d (.v (.string x_0))), .g (.d (.v (.string y_1)))] (.one (.d (.v (.int .i64 r)))) := by
  unfold cmp_Compare_string at hF
  refine Ct.intro Try.func64 rfl Try.ntmps64 rfl rfl fun M w => ?_
  refine G.seq ?_
  refine G.region ?_
  refine G.op1 (op_assign (Ev.c _ rfl) rfl) rfl trivial trivial ?_
  refine G.endOps ?_
  refine G.seq ?_
  refine G.region ?_
  refine G.op1 (op_move (Ev.t 0 (bS x_0)) rfl) rfl ⟨rfl, trivial⟩ trivial ?_
  obtain ⟨r1, hr1, hF⟩ := bindS hF
  refine G.op1 (op_callQ (sv := .one (bB r1)) cf67 (ct_cmp_isNaN_string x_0 r1 hr1) rfl rfl (EvQL.cons (EvQ.g (Ev.t 7 (bS x_0))) EvQL.nil) rfl) rfl ⟨rfl, trivial⟩ trivial ?_
  refine G.op1 (op_assign (Ev.t 8 (bB r1)) rfl) rfl ⟨rfl, trivial⟩ trivial ?_
  refine G.endOps ?_
  refine G.seq ?_
  refine G.region ?_
  refine G.op1 (op_move (Ev.t 1 (bS y_1)) rfl) rfl ⟨rfl, trivial⟩ trivial ?_
  obtain ⟨r2, hr2, hF⟩ := bindS hF
  refine G.op1 (op_callQ (sv := .one (bB r2)) cf67 (ct_cmp_isNaN_string y_1 r2 hr2) rfl rfl (EvQL.cons (EvQ.g (Ev.t 9 (bS y_1))) EvQL.nil) rfl) rfl ⟨rfl, trivial⟩ trivial ?_
  refine G.op1 (op_assign (Ev.t 10 (bB r2)) rfl) rfl ⟨rfl, trivial⟩ trivial ?_
  refine G.endOps ?_
  refine G.seq ?_
  refine G.seq ?_
  refine G.region ?_
  refine G.op1 (op_move (Ev.t 5 (bB r1)) rfl) rfl ⟨rfl, trivial⟩ trivial ?_
  refine G.endOps ?_
  refine ifS hF (fun hc3 hF => ?_) (fun hc3 hF => ?_)
  · refine G.cond rfl (fun _ => ?_) (fun hx => by rw [hc3] at hx; cases hx)
    refine G.seq ?_
    refine G.seq ?_
    refine G.region ?_
    refine G.op1 (op_move (Ev.t 6 (bB r2)) rfl) rfl ⟨rfl, trivial⟩ trivial ?_
    refine G.endOps ?_
    refine ifS hF (fun hc4 hF => ?_) (fun hc4 hF => ?_)
    · refine G.cond rfl (fun _ => ?_) (fun hx => by rw [hc4] at hx; cases hx)
      refine G.seq ?_
      refine G.region ?_
      refine G.op1 (op_assign (Ev.c _ rfl) rfl) rfl trivial trivial ?_
      refine G.endOps ?_
      cases hF
      exact G.ret1 Try.results64 (RVar.tmp 4 _) ⟨rfl, trivial⟩ trivial
    · refine G.cond rfl (fun hx => by rw [hc4] at hx; cases hx) (fun _ => ?_)
      refine G.skip ?_
      refine G.seq ?_
      refine G.region ?_
      refine G.op1 (op_assign (Ev.c _ rfl) rfl) rfl trivial trivial ?_
      refine G.endOps ?_
      cases hF
      exact G.ret1 Try.results64 (RVar.tmp 4 _) ⟨rfl, trivial⟩ trivial
  · refine G.cond rfl (fun hx => by rw [hc3] at hx; cases hx) (fun _ => ?_)
    refine G.skip ?_
    refine G.seq ?_
    refine G.seq ?_
    refine G.region ?_
    refine G.op1 (op_move (Ev.t 6 (bB r2)) rfl) rfl ⟨rfl, trivial⟩ trivial ?_
    refine G.endOps ?_
    refine ifS hF (fun hc5 hF => ?_) (fun hc5 hF => ?_)
    · refine G.cond rfl (fun _ => ?_) (fun hx => by rw [hc5] at hx; cases hx)
      refine G.seq ?_
      refine G.region ?_
      refine G.op1 (op_assign (Ev.c _ rfl) rfl) rfl trivial trivial ?_
      refine G.endOps ?_
      cases hF
      exact G.ret1 Try.results64 (RVar.tmp 4 _) ⟨rfl, trivial⟩ trivial
    · refine G.cond rfl (fun hx => by rw [hc5] at hx; cases hx) (fun _ => ?_)
      refine G.skip ?_
      refine G.seq ?_
      refine G.seq ?_
      refine G.region ?_
      refine G.op1 (op_move (Ev.t 0 (bS x_0)) rfl) rfl ⟨rfl, trivial⟩ trivial ?_
      refine G.op1 (op_move (Ev.t 1 (bS y_1)) rfl) rfl ⟨rfl, trivial⟩ trivial ?_
      refine G.op1 (op_ltS (Ev.t 14 (bS x_0)) (Ev.t 15 (bS y_1)) rfl) rfl ⟨rfl, rfl, trivial⟩ trivial ?_
      refine G.endOps ?_
      refine ifS hF (fun hc6 hF => ?_) (fun hc6 hF => ?_)
      · refine G.cond rfl (fun _ => ?_) (fun hx => by rw [hc6] at hx; cases hx)
        refine G.seq ?_
        refine G.region ?_
        refine G.op1 (op_assign (Ev.c _ rfl) rfl) rfl trivial trivial ?_
        refine G.endOps ?_
        cases hF
        exact G.ret1 Try.results64 (RVar.tmp 4 _) ⟨rfl, trivial⟩ trivial
      · refine G.cond rfl (fun hx => by rw [hc6] at hx; cases hx) (fun _ => ?_)
        refine G.skip ?_
        refine G.seq ?_
        refine G.seq ?_
        refine G.region ?_
        refine G.op1 (op_move (Ev.t 0 (bS x_0)) rfl) rfl ⟨rfl, trivial⟩ trivial ?_
        refine G.op1 (op_move (Ev.t 1 (bS y_1)) rfl) rfl ⟨rfl, trivial⟩ trivial ?_
        refine G.op1 (op_gtS (Ev.t 17 (bS x_0)) (Ev.t 18 (bS y_1)) rfl) rfl ⟨rfl, rfl, trivial⟩ trivial ?_
        refine G.endOps ?_
        refine ifS hF (fun hc7 hF => ?_) (fun hc7 hF => ?_)
        · refine G.cond rfl (fun _ => ?_) (fun hx => by rw [hc7] at hx; cases hx)
          refine G.seq ?_
          refine G.region ?_
          refine G.op1 (op_assign (Ev.c _ rfl) rfl) rfl trivial trivial ?_
          refine G.endOps ?_
          cases hF
          exact G.ret1 Try.results64 (RVar.tmp 4 _) ⟨rfl, trivial⟩ trivial
        · refine G.cond rfl (fun hx => by rw [hc7] at hx; cases hx) (fun _ => ?_)
          refine G.skip ?_
          refine G.seq ?_
          refine G.region ?_
          refine G.op1 (op_assign (Ev.c _ rfl) rfl) rfl trivial trivial ?_
          refine G.endOps ?_
          cases hF
          exact G.ret1 Try.results64 (RVar.tmp 4 _) ⟨rfl, trivial⟩ trivial


set_option maxRecDepth 20000 in
set_option maxHeartbeats 2000000 in
theorem ct_past_find_1 (d_0 : Api_Dep) (key_1 : ByteArray) (r : Int) (hF : past_find_1 d_0 key_1 = some r) : Ct Try.prog 63 [.g (.agg (encApi_Dep d_0)), .g (.d (.v (.string key_1)))] (.one (.d (.v (.int .i64 r)))) := by
  unfold past_find_1 at hF
  refine Ct.intro Try.func63 rfl Try.ntmps63 rfl rfl fun M w => ?_
  refine G.seq ?_
  refine G.region ?_
  refine G.op2 (op_boxA (k := 1002) (Ev.t 0 (.g (.agg [.v (.string d_0.Key), .v (.int .i64 d_0.Stamp.N), .v (.int .i64 d_0.Stamp.Site)]))) rfl) rfl ⟨rfl, trivial⟩ ⟨rfl, trivial⟩ ?_
  refine G.op1 (op_assign (Ev.c _ rfl) rfl) rfl trivial trivial ?_
  refine G.endOps ?_
  refine G.seq ?_
  refine G.region ?_
  refine G.op1 (op_fieldP (off' := 0) Try.underlying39 rfl ti9 (by decide) rfl (Ev.t 2 (.ptr 1002 0)) rfl) rfl ⟨rfl, trivial⟩ trivial ?_
  refine G.op1 (op_load1P (c := bS d_0.Key) Try.underlying9 rfl rfl (Ev.t 5 (.ptr 1002 0)) rfl) rfl ⟨rfl, trivial⟩ ⟨rfl, trivial⟩ ?_
  refine G.op1 (op_move (Ev.t 1 (bS key_1)) rfl) rfl ⟨rfl, trivial⟩ trivial ?_
  obtain ⟨r1, hr1, hF⟩ := bindS hF
  refine G.op1 (op_callQ (sv := .one (bI .i64 r1)) cf64 (ct_cmp_Compare_string d_0.Key key_1 r1 hr1) rfl rfl (EvQL.cons (EvQ.g (Ev.t 6 (bS d_0.Key))) (EvQL.cons (EvQ.g (Ev.t 7 (bS key_1))) EvQL.nil)) rfl) rfl ⟨rfl, rfl, trivial⟩ trivial ?_
  refine G.op1 (op_assign (Ev.t 8 (bI .i64 r1)) rfl) rfl ⟨rfl, trivial⟩ trivial ?_
  refine G.endOps ?_
  cases hF
  exact G.ret1 Try.results63 (RVar.tmp 4 _) ⟨rfl, trivial⟩ trivial


set_option maxRecDepth 20000 in
set_option maxHeartbeats 2000000 in
theorem ct_slices_BinarySearchFunc_string (x_0 : (List Api_Dep)) (target_1 : ByteArray) (cmp_2 : (Api_Dep → ByteArray → Option Int)) (r : (Int × Bool)) (hF : slices_BinarySearchFunc_string x_0 target_1 cmp_2 = some r) : Ct Try.prog 62 [.g (.d (.sl 3 (List.map encApi_Dep x_0))), .g (.d (.v (.string target_1))), .sem (sem2 (fun x => .agg (encApi_Dep x)) (fun x => .d (.v (.string x))) (fun y => .int .i64 y) cmp_2)] (.tup [.d (.v (.int .i64 r.1)), .d (.v (.bool r.2))]) := by
  unfold slices_BinarySearchFunc_string at hF
  refine Ct.intro Try.func62 rfl Try.ntmps62 rfl rfl fun M w => ?_
  refine G.seq ?_
  refine G.region ?_
  refine G.op1 (op_assign (Ev.c _ rfl) rfl) rfl trivial trivial ?_
  refine G.op1 (op_assign (Ev.c _ rfl) rfl) rfl trivial trivial ?_
  refine G.endOps ?_
  refine G.seq ?_
  refine G.region ?_
  refine G.op1 (op_move (Ev.t 0 (.g (.d (.sl 3 (List.map encApi_Dep x_0))))) rfl) rfl ⟨rfl, trivial⟩ trivial ?_
  refine G.op1 (OpL.cast (op_lenD Try.underlying30 (Ev.t 12 (.g (.d (.sl 3 (List.map encApi_Dep x_0))))) rfl) (by rw [List.length_map])) rfl ⟨rfl, trivial⟩ trivial ?_
  refine G.op1 (op_assign (Ev.t 13 (bI .i64 (x_0.length : Int))) rfl) rfl ⟨rfl, trivial⟩ trivial ?_
  refine G.endOps ?_
  refine G.seq ?_
  refine G.region ?_
  refine G.op1 (op_move (Ev.t 8 (bI .i64 (x_0.length : Int))) rfl) rfl ⟨rfl, trivial⟩ trivial ?_
  refine G.op1 (op_assign (Ev.c _ rfl) rfl) rfl trivial trivial ?_
  refine G.op1 (op_assign (Ev.t 14 (bI .i64 (x_0.length : Int))) rfl) rfl ⟨rfl, trivial⟩ trivial ?_
  refine G.endOps ?_
  refine G.seq ?_
  refine G.joinC (T := Int) (fun y1 => ⟨[(0, .one (.g (.d (.sl 3 (List.map encApi_Dep x_0))))), (1, .one (bS target_1)), (2, .one (.sem (sem2 (fun x => .agg (encApi_Dep x)) (fun x => .d (.v (.string x))) (fun y => .int .i64 y) cmp_2))), (8, .one (bI .i64 (x_0.length : Int))), (9, .one (bI .i64 y1))], []⟩) (fun y1 => slices_BinarySearchFunc_string_k1 x_0 target_1 cmp_2 y1 = some r) (fun y1 hF => ?_) (fun J5 => ?_)
  · unfold slices_BinarySearchFunc_string_k1 at hF
    refine G.seq ?_
    refine G.region ?_
    refine G.op1 (op_move (Ev.t 9 (bI .i64 y1)) rfl) rfl ⟨rfl, trivial⟩ trivial ?_
    refine G.op1 (op_move (Ev.t 9 (bI .i64 y1)) rfl) rfl ⟨rfl, trivial⟩ trivial ?_
    refine G.op1 (op_move (Ev.t 8 (bI .i64 (x_0.length : Int))) rfl) rfl ⟨rfl, trivial⟩ trivial ?_
    refine G.op1 (op_lss (Ev.t 36 (bI .i64 y1)) (Ev.t 37 (bI .i64 (x_0.length : Int))) rfl) rfl ⟨rfl, rfl, trivial⟩ trivial ?_
    refine G.op1 (op_move (Ev.t 38 (bB (decide (y1 < (x_0.length : Int))))) rfl) rfl ⟨rfl, trivial⟩ trivial ?_
    refine ifS hF (fun hc2 hF => ?_) (fun hc2 hF => ?_)
    · refine G.known (t := 39) hc2 rfl ?_
      refine G.opG1 (op_move (Ev.t 2 (.sem (sem2 (fun x => .agg (encApi_Dep x)) (fun x => .d (.v (.string x))) (fun y => .int .i64 y) cmp_2))) rfl) rfl rfl rfl ⟨rfl, trivial⟩ trivial ?_
      refine G.opG1 (op_move (Ev.t 0 (.g (.d (.sl 3 (List.map encApi_Dep x_0))))) rfl) rfl rfl rfl ⟨rfl, trivial⟩ trivial ?_
      refine G.opG1 (op_move (Ev.t 9 (bI .i64 y1)) rfl) rfl rfl rfl ⟨rfl, trivial⟩ trivial ?_
      obtain ⟨x3, hx3, hF⟩ := bindS hF
      refine G.opG1 (op_index (cs := [.v (.string x3.Key), .v (.int .i64 x3.Stamp.N), .v (.int .i64 x3.Stamp.Site)]) Try.underlying30 ti39 (idx_ok hx3).1 (idx_get hx3 encApi_Dep) (Ev.t 41 (.g (.d (.sl 3 (List.map encApi_Dep x_0))))) (Ev.t 42 (bI .i64 y1)) rfl) rfl rfl rfl ⟨rfl, rfl, trivial⟩ trivial ?_
      refine G.opG1 (op_loadAE (ds := [.v (.string x3.Key), .v (.int .i64 x3.Stamp.N), .v (.int .i64 x3.Stamp.Site)]) Try.underlying39 rfl ti39 rfl (Ev.t 43 (.ep [.v (.string x3.Key), .v (.int .i64 x3.Stamp.N), .v (.int .i64 x3.Stamp.Site)])) rfl) rfl rfl rfl ⟨rfl, trivial⟩ trivial ?_
      refine G.opG1 (op_move (Ev.t 1 (bS target_1)) rfl) rfl rfl rfl ⟨rfl, trivial⟩ trivial ?_
      obtain ⟨r4, hr4, hF⟩ := bindS hF
      refine G.opG1 (op_callSem (t := 40) (v := .int .i64 r4) (Φ := sem2 (fun x => .agg (encApi_Dep x)) (fun x => .d (.v (.string x))) (fun y => .int .i64 y) cmp_2) ⟨x3, target_1, r4, rfl, hr4, rfl⟩ rfl (EvL.cons (Ev.t 44 (.g (.agg [.v (.string x3.Key), .v (.int .i64 x3.Stamp.N), .v (.int .i64 x3.Stamp.Site)]))) (EvL.cons (Ev.t 45 (bS target_1)) EvL.nil)) rfl) rfl rfl rfl ⟨rfl, rfl, rfl, trivial⟩ trivial ?_
      refine G.opG1 (op_eqI (Ev.t 46 (bI .i64 r4)) (Ev.c _ rfl) rfl) rfl rfl rfl ⟨rfl, trivial⟩ trivial ?_
      refine G.op1 (op_pickT (Ev.t 39 (bB true)) (Ev.t 47 (bB (decide (r4 = 0)))) rfl) rfl ⟨rfl, rfl, trivial⟩ trivial ?_
      refine G.op1 (op_assign (Ev.t 35 (bI .i64 y1)) rfl) rfl ⟨rfl, trivial⟩ trivial ?_
      refine G.op1 (op_assign (Ev.t 48 (bB (decide (r4 = 0)))) rfl) rfl ⟨rfl, trivial⟩ trivial ?_
      refine G.endOps ?_
      cases hF
      exact G.ret2 Try.results62 (RVar.tmp 6 _) (RVar.tmp 7 _) ⟨rfl, rfl, trivial⟩ trivial
    · refine G.known (t := 39) hc2 rfl ?_
      refine G.opN1 rfl rfl rfl rfl rfl ?_
      refine G.opN1 rfl rfl rfl rfl rfl ?_
      refine G.opN1 rfl rfl rfl rfl rfl ?_
      refine G.opN1 rfl rfl rfl rfl rfl ?_
      refine G.opN1 rfl rfl rfl rfl rfl ?_
      refine G.opN1 rfl rfl rfl rfl rfl ?_
      refine G.opN1 rfl rfl rfl rfl rfl ?_
      refine G.opN1 rfl rfl rfl rfl rfl ?_
      refine G.op1 (op_pickF (Ev.t 39 (bB false)) (Ev.c _ rfl) rfl) rfl ⟨rfl, trivial⟩ trivial ?_
      refine G.op1 (op_assign (Ev.t 35 (bI .i64 y1)) rfl) rfl ⟨rfl, trivial⟩ trivial ?_
      refine G.op1 (op_assign (Ev.t 48 (bB false)) rfl) rfl ⟨rfl, trivial⟩ trivial ?_
      refine G.endOps ?_
      cases hF
      exact G.ret2 Try.results62 (RVar.tmp 6 _) (RVar.tmp 7 _) ⟨rfl, rfl, trivial⟩ trivial
  refine G.block ?_
  refine G.keep (sl' := [(0, .one (.g (.d (.sl 3 (List.map encApi_Dep x_0))))), (1, .one (bS target_1)), (2, .one (.sem (sem2 (fun x => .agg (encApi_Dep x)) (fun x => .d (.v (.string x))) (fun y => .int .i64 y) cmp_2))), (8, .one (bI .i64 (x_0.length : Int))), (9, .one (bI .i64 0)), (10, .one (bI .i64 (x_0.length : Int)))]) (hp' := []) ⟨rfl, rfl, rfl, rfl, rfl, rfl, trivial⟩ trivial rfl ?_
  refine G.loopF (fun (v6 : Int × Int) => ⟨[(0, .one (.g (.d (.sl 3 (List.map encApi_Dep x_0))))), (1, .one (bS target_1)), (2, .one (.sem (sem2 (fun x => .agg (encApi_Dep x)) (fun x => .d (.v (.string x))) (fun y => .int .i64 y) cmp_2))), (8, .one (bI .i64 (x_0.length : Int))), (9, .one (bI .i64 v6.1)), (10, .one (bI .i64 v6.2))], []⟩) hF rfl (fun K9 again8 v6 J7 hF => ?_)
  unfold slices_BinarySearchFunc_string_l2 at hF
  refine G.seq ?_
  refine G.seq ?_
  refine G.region ?_
  refine G.op1 (op_move (Ev.t 9 (bI .i64 v6.1)) rfl) rfl ⟨rfl, trivial⟩ trivial ?_
  refine G.op1 (op_move (Ev.t 10 (bI .i64 v6.2)) rfl) rfl ⟨rfl, trivial⟩ trivial ?_
  refine G.op1 (op_lss (Ev.t 15 (bI .i64 v6.1)) (Ev.t 16 (bI .i64 v6.2)) rfl) rfl ⟨rfl, rfl, trivial⟩ trivial ?_
  refine G.endOps ?_
  refine ifS hF (fun hc10 hF => ?_) (fun hc10 hF => ?_)
  · refine G.cond rfl (fun _ => ?_) (fun hx => by rw [hc10] at hx; cases hx)
    refine G.skip ?_
    refine G.block ?_
    refine G.seq ?_
    refine G.region ?_
    refine G.op1 (op_move (Ev.t 9 (bI .i64 v6.1)) rfl) rfl ⟨rfl, trivial⟩ trivial ?_
    refine G.op1 (op_move (Ev.t 10 (bI .i64 v6.2)) rfl) rfl ⟨rfl, trivial⟩ trivial ?_
    refine G.op1 (op_add (Ev.t 18 (bI .i64 v6.1)) (Ev.t 19 (bI .i64 v6.2)) rfl) rfl ⟨rfl, rfl, trivial⟩ trivial ?_
    refine G.op1 (op_convI Try.underlying3 Try.underlying95 (Ev.t 20 (bI .i64 (IntKind.wrap .i64 (v6.1 + v6.2)))) rfl) rfl ⟨rfl, trivial⟩ trivial ?_
    refine G.op1 (op_shr (by decide) (Ev.t 21 (bI .u64 (IntKind.wrap .u64 (IntKind.wrap .i64 (v6.1 + v6.2))))) (Ev.c _ rfl) rfl) rfl ⟨rfl, trivial⟩ trivial ?_
    refine G.op1 (op_convI Try.underlying95 Try.underlying3 (Ev.t 22 (bI .u64 (Int.fdiv (IntKind.wrap .u64 (IntKind.wrap .i64 (v6.1 + v6.2))) (2 ^ min (Int.toNat 1) (IntKind.bits .u64))))) rfl) rfl ⟨rfl, trivial⟩ trivial ?_
    refine G.op1 (op_assign (Ev.t 23 (bI .i64 (IntKind.wrap .i64 (Int.fdiv (IntKind.wrap .u64 (IntKind.wrap .i64 (v6.1 + v6.2))) (2 ^ min (Int.toNat 1) (IntKind.bits .u64)))))) rfl) rfl ⟨rfl, trivial⟩ trivial ?_
    refine G.endOps ?_
    refine G.seq ?_
    refine G.region ?_
    refine G.op1 (op_move (Ev.t 2 (.sem (sem2 (fun x => .agg (encApi_Dep x)) (fun x => .d (.v (.string x))) (fun y => .int .i64 y) cmp_2))) rfl) rfl ⟨rfl, trivial⟩ trivial ?_
    refine G.op1 (op_move (Ev.t 0 (.g (.d (.sl 3 (List.map encApi_Dep x_0))))) rfl) rfl ⟨rfl, trivial⟩ trivial ?_
    refine G.op1 (op_move (Ev.t 11 (bI .i64 (IntKind.wrap .i64 (Int.fdiv (IntKind.wrap .u64 (IntKind.wrap .i64 (v6.1 + v6.2))) (2 ^ min (Int.toNat 1) (IntKind.bits .u64)))))) rfl) rfl ⟨rfl, trivial⟩ trivial ?_
    obtain ⟨x11, hx11, hF⟩ := bindS hF
    refine G.op1 (op_index (cs := [.v (.string x11.Key), .v (.int .i64 x11.Stamp.N), .v (.int .i64 x11.Stamp.Site)]) Try.underlying30 ti39 (idx_ok hx11).1 (idx_get hx11 encApi_Dep) (Ev.t 25 (.g (.d (.sl 3 (List.map encApi_Dep x_0))))) (Ev.t 26 (bI .i64 (IntKind.wrap .i64 (Int.fdiv (IntKind.wrap .u64 (IntKind.wrap .i64 (v6.1 + v6.2))) (2 ^ min (Int.toNat 1) (IntKind.bits .u64)))))) rfl) rfl ⟨rfl, rfl, trivial⟩ trivial ?_
    refine G.op1 (op_loadAE (ds := [.v (.string x11.Key), .v (.int .i64 x11.Stamp.N), .v (.int .i64 x11.Stamp.Site)]) Try.underlying39 rfl ti39 rfl (Ev.t 27 (.ep [.v (.string x11.Key), .v (.int .i64 x11.Stamp.N), .v (.int .i64 x11.Stamp.Site)])) rfl) rfl ⟨rfl, trivial⟩ trivial ?_
    refine G.op1 (op_move (Ev.t 1 (bS target_1)) rfl) rfl ⟨rfl, trivial⟩ trivial ?_
    obtain ⟨r12, hr12, hF⟩ := bindS hF
    refine G.op1 (op_callSem (t := 24) (v := .int .i64 r12) (Φ := sem2 (fun x => .agg (encApi_Dep x)) (fun x => .d (.v (.string x))) (fun y => .int .i64 y) cmp_2) ⟨x11, target_1, r12, rfl, hr12, rfl⟩ rfl (EvL.cons (Ev.t 28 (.g (.agg [.v (.string x11.Key), .v (.int .i64 x11.Stamp.N), .v (.int .i64 x11.Stamp.Site)]))) (EvL.cons (Ev.t 29 (bS target_1)) EvL.nil)) rfl) rfl ⟨rfl, rfl, rfl, trivial⟩ trivial ?_
    refine G.op1 (op_lss (Ev.t 30 (bI .i64 r12)) (Ev.c _ rfl) rfl) rfl ⟨rfl, trivial⟩ trivial ?_
    refine G.endOps ?_
    refine ifS hF (fun hc13 hF => ?_) (fun hc13 hF => ?_)
    · refine G.cond rfl (fun _ => ?_) (fun hx => by rw [hc13] at hx; cases hx)
      refine G.region ?_
      refine G.op1 (op_move (Ev.t 11 (bI .i64 (IntKind.wrap .i64 (Int.fdiv (IntKind.wrap .u64 (IntKind.wrap .i64 (v6.1 + v6.2))) (2 ^ min (Int.toNat 1) (IntKind.bits .u64)))))) rfl) rfl ⟨rfl, trivial⟩ trivial ?_
      refine G.op1 (op_add (Ev.t 32 (bI .i64 (IntKind.wrap .i64 (Int.fdiv (IntKind.wrap .u64 (IntKind.wrap .i64 (v6.1 + v6.2))) (2 ^ min (Int.toNat 1) (IntKind.bits .u64)))))) (Ev.c _ rfl) rfl) rfl ⟨rfl, trivial⟩ trivial ?_
      refine G.op1 (op_assign (Ev.t 33 (bI .i64 (IntKind.wrap .i64 ((IntKind.wrap .i64 (Int.fdiv (IntKind.wrap .u64 (IntKind.wrap .i64 (v6.1 + v6.2))) (2 ^ min (Int.toNat 1) (IntKind.bits .u64)))) + 1)))) rfl) rfl ⟨rfl, trivial⟩ trivial ?_
      refine G.endOps ?_
      refine G.endBlock ?_
      exact G.arr (J7 (IntKind.wrap .i64 ((IntKind.wrap .i64 (Int.fdiv (IntKind.wrap .u64 (IntKind.wrap .i64 (v6.1 + v6.2))) (2 ^ min (Int.toNat 1) (IntKind.bits .u64)))) + 1), v6.2) hF) ⟨rfl, rfl, rfl, rfl, rfl, rfl, trivial⟩ trivial rfl
    · refine G.cond rfl (fun hx => by rw [hc13] at hx; cases hx) (fun _ => ?_)
      refine G.region ?_
      refine G.op1 (op_move (Ev.t 11 (bI .i64 (IntKind.wrap .i64 (Int.fdiv (IntKind.wrap .u64 (IntKind.wrap .i64 (v6.1 + v6.2))) (2 ^ min (Int.toNat 1) (IntKind.bits .u64)))))) rfl) rfl ⟨rfl, trivial⟩ trivial ?_
      refine G.op1 (op_assign (Ev.t 34 (bI .i64 (IntKind.wrap .i64 (Int.fdiv (IntKind.wrap .u64 (IntKind.wrap .i64 (v6.1 + v6.2))) (2 ^ min (Int.toNat 1) (IntKind.bits .u64)))))) rfl) rfl ⟨rfl, trivial⟩ trivial ?_
      refine G.endOps ?_
      refine G.endBlock ?_
      exact G.arr (J7 (v6.1, IntKind.wrap .i64 (Int.fdiv (IntKind.wrap .u64 (IntKind.wrap .i64 (v6.1 + v6.2))) (2 ^ min (Int.toNat 1) (IntKind.bits .u64)))) hF) ⟨rfl, rfl, rfl, rfl, rfl, rfl, trivial⟩ trivial rfl
  · refine G.cond rfl (fun hx => by rw [hc10] at hx; cases hx) (fun _ => ?_)
    refine G.exit ?_
    refine GX.c ?_
    refine GX.q ?_
    refine GX.bYes ?_
    exact G.arr (J5 v6.1 hF) ⟨rfl, rfl, rfl, rfl, rfl, trivial⟩ trivial rfl


set_option maxRecDepth 20000 in
set_option maxHeartbeats 2000000 in
theorem ct_past_find (p_0 : (List Api_Dep)) (key_1 : ByteArray) (r : (Int × Bool)) (hF : past_find p_0 key_1 = some r) : Ct Try.prog 52 [.g (.d (.sl 3 (List.map encApi_Dep p_0))), .g (.d (.v (.string key_1)))] (.tup [.d (.v (.int .i64 r.1)), .d (.v (.bool r.2))]) := by
  unfold past_find at hF
  refine Ct.intro Try.func52 rfl Try.ntmps52 rfl rfl fun M w => ?_
  refine G.seq ?_
  refine G.region ?_
  refine G.op1 (op_assign (Ev.c _ rfl) rfl) rfl trivial trivial ?_
  refine G.op1 (op_assign (Ev.c _ rfl) rfl) rfl trivial trivial ?_
  refine G.endOps ?_
  refine G.seq ?_
  refine G.region ?_
  refine G.op1 (op_move (Ev.t 0 (.g (.d (.sl 3 (List.map encApi_Dep p_0))))) rfl) rfl ⟨rfl, trivial⟩ trivial ?_
  refine G.op1 (op_move (Ev.t 1 (bS key_1)) rfl) rfl ⟨rfl, trivial⟩ trivial ?_
  obtain ⟨r1, hr1, hF⟩ := bindS hF
  refine G.op1 (op_callQ (sv := .tup [bI .i64 r1.1, bB r1.2]) cf62 (ct_slices_BinarySearchFunc_string p_0 key_1 (fun x0 x1 => past_find_1 x0 x1) r1 hr1) rfl rfl (EvQL.cons (EvQ.g (Ev.t 6 (.g (.d (.sl 3 (List.map encApi_Dep p_0)))))) (EvQL.cons (EvQ.g (Ev.t 7 (bS key_1))) (EvQL.cons (EvQ.clo (Φ := sem2 (fun x => .agg (encApi_Dep x)) (fun x => .d (.v (.string x))) (fun y => .int .i64 y) (fun x0 x1 => past_find_1 x0 x1)) (Ev.f 63) EvC.nil cf63 (fun args v ⟨x0, x1, b, h1, h2, h3⟩ => by subst h1 h3; exact ct_past_find_1 x0 x1 b h2)) EvQL.nil))) rfl) rfl ⟨rfl, rfl, trivial⟩ trivial ?_
  refine G.op1 (op_extract (l := [bI .i64 r1.1, bB r1.2]) (c := bI .i64 r1.1) rfl rfl) rfl ⟨rfl, trivial⟩ trivial ?_
  refine G.op1 (op_extract (l := [bI .i64 r1.1, bB r1.2]) (c := bB r1.2) rfl rfl) rfl ⟨rfl, trivial⟩ trivial ?_
  refine G.op1 (op_assign (Ev.t 9 (bI .i64 r1.1)) rfl) rfl ⟨rfl, trivial⟩ trivial ?_
  refine G.op1 (op_assign (Ev.t 10 (bB r1.2)) rfl) rfl ⟨rfl, trivial⟩ trivial ?_
  refine G.endOps ?_
  cases hF
  exact G.ret2 Try.results52 (RVar.tmp 4 _) (RVar.tmp 5 _) ⟨rfl, rfl, trivial⟩ trivial


set_option maxRecDepth 20000 in
set_option maxHeartbeats 2000000 in
theorem ct_past_Get (p_0 : (List Api_Dep)) (key_1 : ByteArray) (r : Api_Stamp) (hF : past_Get p_0 key_1 = some r) : Ct Try.prog 40 [.g (.d (.sl 3 (List.map encApi_Dep p_0))), .g (.d (.v (.string key_1)))] (.one (.agg (encApi_Stamp r))) := by
  unfold past_Get at hF
  refine Ct.intro Try.func40 rfl Try.ntmps40 rfl rfl fun M w => ?_
  refine G.seq ?_
  refine G.region ?_
  refine G.op2 (op_alloc (k := 1004) (cs := [bI .i64 0, bI .i64 0]) ti29 ⟨.v _ rfl, .v _ rfl, trivial⟩ rfl) rfl trivial ⟨rfl, trivial⟩ ?_
  refine G.endOps ?_
  refine G.seq ?_
  refine G.region ?_
  refine G.op1 (op_move (Ev.t 0 (.g (.d (.sl 3 (List.map encApi_Dep p_0))))) rfl) rfl ⟨rfl, trivial⟩ trivial ?_
  refine G.op1 (op_move (Ev.t 1 (bS key_1)) rfl) rfl ⟨rfl, trivial⟩ trivial ?_
  obtain ⟨r1, hr1, hF⟩ := bindS hF
  refine G.op1 (op_callQ (sv := .tup [bI .i64 r1.1, bB r1.2]) cf52 (ct_past_find p_0 key_1 r1 hr1) rfl rfl (EvQL.cons (EvQ.g (Ev.t 8 (.g (.d (.sl 3 (List.map encApi_Dep p_0)))))) (EvQL.cons (EvQ.g (Ev.t 9 (bS key_1))) EvQL.nil)) rfl) rfl ⟨rfl, rfl, trivial⟩ trivial ?_
  refine G.op1 (op_moveS (t := 10) (sv := .tup [bI .i64 r1.1, bB r1.2]) rfl) rfl ⟨rfl, trivial⟩ trivial ?_
  refine G.op1 (op_extract (l := [bI .i64 r1.1, bB r1.2]) (c := bI .i64 r1.1) rfl rfl) rfl ⟨rfl, trivial⟩ trivial ?_
  refine G.op1 (op_extract (l := [bI .i64 r1.1, bB r1.2]) (c := bB r1.2) rfl rfl) rfl ⟨rfl, trivial⟩ trivial ?_
  refine G.op1 (op_assign (Ev.t 11 (bI .i64 r1.1)) rfl) rfl ⟨rfl, trivial⟩ trivial ?_
  refine G.op1 (op_assign (Ev.t 12 (bB r1.2)) rfl) rfl ⟨rfl, trivial⟩ trivial ?_
  refine G.endOps ?_
  refine G.seq ?_
  refine G.seq ?_
  refine G.region ?_
  refine G.op1 (op_move (Ev.t 6 (bB r1.2)) rfl) rfl ⟨rfl, trivial⟩ trivial ?_
  refine G.op1 (op_not (Ev.t 13 (bB r1.2)) rfl) rfl ⟨rfl, trivial⟩ trivial ?_
  refine G.endOps ?_
  refine ifS hF (fun hc2 hF => ?_) (fun hc2 hF => ?_)
  · refine G.cond rfl (fun _ => ?_) (fun hx => by rw [hc2] at hx; cases hx)
    refine G.seq ?_
    refine G.region ?_
    refine G.op1 (op_build (zs := [.v (.int .i64 0), .v (.int .i64 0)]) (ds := [.v (.int .i64 0), .v (.int .i64 0)]) Try.underlying29 ti29 (pl29 _ Try.underlying29) ⟨.v _ rfl, .v _ rfl, trivial⟩ EvP.nil rfl rfl) rfl trivial trivial ?_
    refine G.op3 (op_storeA (cs' := [bI .i64 0, bI .i64 0]) ti29 rfl rfl (Ev.t 4 (.ptr 1004 0)) (Ev.t 15 (.g (.agg [.v (.int .i64 0), .v (.int .i64 0)])))) rfl ⟨rfl, rfl, trivial⟩ ⟨rfl, trivial⟩ ?_
    refine G.endOps ?_
    cases hF
    exact G.ret1 Try.results40 (RVar.cellA (ds := [.v (.int .i64 0), .v (.int .i64 0)]) Try.underlying29 rfl ti29 rfl) ⟨rfl, trivial⟩ ⟨rfl, trivial⟩
  · refine G.cond rfl (fun hx => by rw [hc2] at hx; cases hx) (fun _ => ?_)
    refine G.skip ?_
    refine G.seq ?_
    refine G.region ?_
    refine G.op1 (op_move (Ev.t 0 (.g (.d (.sl 3 (List.map encApi_Dep p_0))))) rfl) rfl ⟨rfl, trivial⟩ trivial ?_
    refine G.op1 (op_move (Ev.t 5 (bI .i64 r1.1)) rfl) rfl ⟨rfl, trivial⟩ trivial ?_
    obtain ⟨x3, hx3, hF⟩ := bindS hF
    refine G.op1 (op_index (cs := [.v (.string x3.Key), .v (.int .i64 x3.Stamp.N), .v (.int .i64 x3.Stamp.Site)]) Try.underlying30 ti39 (idx_ok hx3).1 (idx_get hx3 encApi_Dep) (Ev.t 16 (.g (.d (.sl 3 (List.map encApi_Dep p_0))))) (Ev.t 17 (bI .i64 r1.1)) rfl) rfl ⟨rfl, rfl, trivial⟩ trivial ?_
    refine G.op1 (op_fieldE (cs' := [.v (.int .i64 x3.Stamp.N), .v (.int .i64 x3.Stamp.Site)]) Try.underlying39 rfl ti29 (by decide) rfl (Ev.t 18 (.ep [.v (.string x3.Key), .v (.int .i64 x3.Stamp.N), .v (.int .i64 x3.Stamp.Site)])) rfl) rfl ⟨rfl, trivial⟩ trivial ?_
    refine G.op1 (op_loadAE (ds := [.v (.int .i64 x3.Stamp.N), .v (.int .i64 x3.Stamp.Site)]) Try.underlying29 rfl ti29 rfl (Ev.t 19 (.ep [.v (.int .i64 x3.Stamp.N), .v (.int .i64 x3.Stamp.Site)])) rfl) rfl ⟨rfl, trivial⟩ trivial ?_
    refine G.op3 (op_storeA (cs' := [bI .i64 x3.Stamp.N, bI .i64 x3.Stamp.Site]) ti29 rfl rfl (Ev.t 4 (.ptr 1004 0)) (Ev.t 20 (.g (.agg [.v (.int .i64 x3.Stamp.N), .v (.int .i64 x3.Stamp.Site)])))) rfl ⟨rfl, rfl, trivial⟩ ⟨rfl, trivial⟩ ?_
    refine G.endOps ?_
    cases hF
    exact G.ret1 Try.results40 (RVar.cellA (ds := [.v (.int .i64 x3.Stamp.N), .v (.int .i64 x3.Stamp.Site)]) Try.underlying29 rfl ti29 rfl) ⟨rfl, trivial⟩ ⟨rfl, trivial⟩


set_option maxRecDepth 20000 in
set_option maxHeartbeats 2000000 in
theorem ct_stamp_Less (a_0 : Api_Stamp) (b_1 : Api_Stamp) (r : Bool) (hF : stamp_Less a_0 b_1 = some r) : Ct Try.prog 39 [.g (.agg (encApi_Stamp a_0)), .g (.agg (encApi_Stamp b_1))] (.one (.d (.v (.bool r)))) := by
  unfold stamp_Less at hF
  refine Ct.intro Try.func39 rfl Try.ntmps39 rfl rfl fun M w => ?_
  refine G.seq ?_
  refine G.region ?_
  refine G.op2 (op_boxA (k := 1002) (Ev.t 0 (.g (.agg [.v (.int .i64 a_0.N), .v (.int .i64 a_0.Site)]))) rfl) rfl ⟨rfl, trivial⟩ ⟨rfl, trivial⟩ ?_
  refine G.op2 (op_boxA (k := 1003) (Ev.t 1 (.g (.agg [.v (.int .i64 b_1.N), .v (.int .i64 b_1.Site)]))) rfl) rfl ⟨rfl, trivial⟩ ⟨rfl, trivial⟩ ?_
  refine G.op1 (op_assign (Ev.c _ rfl) rfl) rfl trivial trivial ?_
  refine G.endOps ?_
  refine G.seq ?_
  refine G.region ?_
  refine G.op1 (op_loadAP (ds := [.v (.int .i64 a_0.N), .v (.int .i64 a_0.Site)]) Try.underlying29 rfl ti29 rfl (Ev.t 2 (.ptr 1002 0)) rfl) rfl ⟨rfl, trivial⟩ ⟨rfl, trivial⟩ ?_
  refine G.op1 (op_loadAP (ds := [.v (.int .i64 b_1.N), .v (.int .i64 b_1.Site)]) Try.underlying29 rfl ti29 rfl (Ev.t 3 (.ptr 1003 0)) rfl) rfl ⟨rfl, trivial⟩ ⟨rfl, trivial⟩ ?_
  refine G.op1 (op_eqA (us := [.int .i64 a_0.N, .int .i64 a_0.Site]) (vs := [.int .i64 b_1.N, .int .i64 b_1.Site]) rfl rfl Try.eqGuardType29 (fun w => ne29 a_0.N a_0.Site b_1.N b_1.Site w) (Ev.t 5 (.g (.agg [.v (.int .i64 a_0.N), .v (.int .i64 a_0.Site)]))) (Ev.t 6 (.g (.agg [.v (.int .i64 b_1.N), .v (.int .i64 b_1.Site)]))) rfl) rfl ⟨rfl, rfl, trivial⟩ trivial ?_
  refine G.op1 (op_move (Ev.t 7 (bB (!(decide (a_0.N = b_1.N) && decide (a_0.Site = b_1.Site))))) rfl) rfl ⟨rfl, trivial⟩ trivial ?_
  refine ifS hF (fun hc1 hF => ?_) (fun hc1 hF => ?_)
  · refine G.known (t := 8) hc1 rfl ?_
    refine G.opG1 (op_fieldP (off' := 0) Try.underlying29 rfl ti3 (by decide) rfl (Ev.t 2 (.ptr 1002 0)) rfl) rfl rfl rfl ⟨rfl, trivial⟩ trivial ?_
    refine G.opG1 (op_load1P (c := bI .i64 a_0.N) Try.underlying3 rfl rfl (Ev.t 9 (.ptr 1002 0)) rfl) rfl rfl rfl ⟨rfl, trivial⟩ ⟨rfl, trivial⟩ ?_
    refine G.opG1 (op_fieldP (off' := 0) Try.underlying29 rfl ti3 (by decide) rfl (Ev.t 3 (.ptr 1003 0)) rfl) rfl rfl rfl ⟨rfl, trivial⟩ trivial ?_
    refine G.opG1 (op_load1P (c := bI .i64 b_1.N) Try.underlying3 rfl rfl (Ev.t 11 (.ptr 1003 0)) rfl) rfl rfl rfl ⟨rfl, trivial⟩ ⟨rfl, trivial⟩ ?_
    refine G.opG1 (op_lss (Ev.t 10 (bI .i64 a_0.N)) (Ev.t 12 (bI .i64 b_1.N)) rfl) rfl rfl rfl ⟨rfl, rfl, trivial⟩ trivial ?_
    refine G.opG1 (op_move (Ev.t 13 (bB (decide (a_0.N < b_1.N)))) rfl) rfl rfl rfl ⟨rfl, trivial⟩ trivial ?_
    refine ifS hF (fun hc2 hF => ?_) (fun hc2 hF => ?_)
    · refine G.known (t := 14) hc2 rfl ?_
      refine G.opN1 rfl rfl rfl rfl rfl ?_
      refine G.opN1 rfl rfl rfl rfl rfl ?_
      refine G.opN1 rfl rfl rfl rfl rfl ?_
      refine G.opN1 rfl rfl rfl rfl rfl ?_
      refine G.opN1 rfl rfl rfl rfl rfl ?_
      refine G.opN1 rfl rfl rfl rfl rfl ?_
      refine G.opU rfl rfl rfl rfl ?_
      refine G.opU rfl rfl rfl rfl ?_
      refine G.opU rfl rfl rfl rfl ?_
      refine G.opU rfl rfl rfl rfl ?_
      refine G.opU rfl rfl rfl rfl ?_
      refine G.opN1 rfl rfl rfl rfl rfl ?_
      refine G.opG1 (op_pickT (Ev.t 14 (bB true)) (Ev.c _ rfl) rfl) rfl rfl rfl ⟨rfl, trivial⟩ trivial ?_
      refine G.op1 (op_pickT (Ev.t 8 (bB true)) (Ev.t 27 (bB true)) rfl) rfl ⟨rfl, rfl, trivial⟩ trivial ?_
      refine G.op1 (op_assign (Ev.t 28 (bB true)) rfl) rfl ⟨rfl, trivial⟩ trivial ?_
      refine G.endOps ?_
      cases hF
      exact G.ret1 Try.results39 (RVar.tmp 4 _) ⟨rfl, trivial⟩ trivial
    · refine G.known (t := 14) hc2 rfl ?_
      refine G.opG1 (op_fieldP (off' := 0) Try.underlying29 rfl ti3 (by decide) rfl (Ev.t 2 (.ptr 1002 0)) rfl) rfl rfl rfl ⟨rfl, trivial⟩ trivial ?_
      refine G.opG1 (op_load1P (c := bI .i64 a_0.N) Try.underlying3 rfl rfl (Ev.t 15 (.ptr 1002 0)) rfl) rfl rfl rfl ⟨rfl, trivial⟩ ⟨rfl, trivial⟩ ?_
      refine G.opG1 (op_fieldP (off' := 0) Try.underlying29 rfl ti3 (by decide) rfl (Ev.t 3 (.ptr 1003 0)) rfl) rfl rfl rfl ⟨rfl, trivial⟩ trivial ?_
      refine G.opG1 (op_load1P (c := bI .i64 b_1.N) Try.underlying3 rfl rfl (Ev.t 17 (.ptr 1003 0)) rfl) rfl rfl rfl ⟨rfl, trivial⟩ ⟨rfl, trivial⟩ ?_
      refine G.opG1 (op_eqI (Ev.t 16 (bI .i64 a_0.N)) (Ev.t 18 (bI .i64 b_1.N)) rfl) rfl rfl rfl ⟨rfl, rfl, trivial⟩ trivial ?_
      refine G.opG1 (op_move (Ev.t 19 (bB (decide (a_0.N = b_1.N)))) rfl) rfl rfl rfl ⟨rfl, trivial⟩ trivial ?_
      refine ifS hF (fun hc3 hF => ?_) (fun hc3 hF => ?_)
      · refine G.known (t := 20) hc3 rfl ?_
        refine G.opG1 (op_fieldP (off' := 1) Try.underlying29 rfl ti3 (by decide) rfl (Ev.t 2 (.ptr 1002 0)) rfl) rfl rfl rfl ⟨rfl, trivial⟩ trivial ?_
        refine G.opG1 (op_load1P (c := bI .i64 a_0.Site) Try.underlying3 rfl rfl (Ev.t 21 (.ptr 1002 1)) rfl) rfl rfl rfl ⟨rfl, trivial⟩ ⟨rfl, trivial⟩ ?_
        refine G.opG1 (op_fieldP (off' := 1) Try.underlying29 rfl ti3 (by decide) rfl (Ev.t 3 (.ptr 1003 0)) rfl) rfl rfl rfl ⟨rfl, trivial⟩ trivial ?_
        refine G.opG1 (op_load1P (c := bI .i64 b_1.Site) Try.underlying3 rfl rfl (Ev.t 23 (.ptr 1003 1)) rfl) rfl rfl rfl ⟨rfl, trivial⟩ ⟨rfl, trivial⟩ ?_
        refine G.opG1 (op_leq (Ev.t 22 (bI .i64 a_0.Site)) (Ev.t 24 (bI .i64 b_1.Site)) rfl) rfl rfl rfl ⟨rfl, rfl, trivial⟩ trivial ?_
        refine G.opG1 (op_pickT (Ev.t 20 (bB true)) (Ev.t 25 (bB (decide (a_0.Site ≤ b_1.Site)))) rfl) rfl rfl rfl ⟨rfl, rfl, trivial⟩ trivial ?_
        refine G.opG1 (op_pickF (Ev.t 14 (bB false)) (Ev.t 26 (bB (decide (a_0.Site ≤ b_1.Site)))) rfl) rfl rfl rfl ⟨rfl, rfl, trivial⟩ trivial ?_
        refine G.op1 (op_pickT (Ev.t 8 (bB true)) (Ev.t 27 (bB (decide (a_0.Site ≤ b_1.Site)))) rfl) rfl ⟨rfl, rfl, trivial⟩ trivial ?_
        refine G.op1 (op_assign (Ev.t 28 (bB (decide (a_0.Site ≤ b_1.Site)))) rfl) rfl ⟨rfl, trivial⟩ trivial ?_
        refine G.endOps ?_
        cases hF
        exact G.ret1 Try.results39 (RVar.tmp 4 _) ⟨rfl, trivial⟩ trivial
      · refine G.known (t := 20) hc3 rfl ?_
        refine G.opN1 rfl rfl rfl rfl rfl ?_
        refine G.opN1 rfl rfl rfl rfl rfl ?_
        refine G.opN1 rfl rfl rfl rfl rfl ?_
        refine G.opN1 rfl rfl rfl rfl rfl ?_
        refine G.opN1 rfl rfl rfl rfl rfl ?_
        refine G.opG1 (op_pickF (Ev.t 20 (bB false)) (Ev.c _ rfl) rfl) rfl rfl rfl ⟨rfl, trivial⟩ trivial ?_
        refine G.opG1 (op_pickF (Ev.t 14 (bB false)) (Ev.t 26 (bB false)) rfl) rfl rfl rfl ⟨rfl, rfl, trivial⟩ trivial ?_
        refine G.op1 (op_pickT (Ev.t 8 (bB true)) (Ev.t 27 (bB false)) rfl) rfl ⟨rfl, rfl, trivial⟩ trivial ?_
        refine G.op1 (op_assign (Ev.t 28 (bB false)) rfl) rfl ⟨rfl, trivial⟩ trivial ?_
        refine G.endOps ?_
        cases hF
        exact G.ret1 Try.results39 (RVar.tmp 4 _) ⟨rfl, trivial⟩ trivial
  · refine G.known (t := 8) hc1 rfl ?_
    refine G.opN1 rfl rfl rfl rfl rfl ?_
    refine G.opN1 rfl rfl rfl rfl rfl ?_
    refine G.opN1 rfl rfl rfl rfl rfl ?_
    refine G.opN1 rfl rfl rfl rfl rfl ?_
    refine G.opN1 rfl rfl rfl rfl rfl ?_
    refine G.opN1 rfl rfl rfl rfl rfl ?_
    refine G.opU rfl rfl rfl rfl ?_
    refine G.opU rfl rfl rfl rfl ?_
    refine G.opU rfl rfl rfl rfl ?_
    refine G.opU rfl rfl rfl rfl ?_
    refine G.opU rfl rfl rfl rfl ?_
    refine G.opU rfl rfl rfl rfl ?_
    refine G.opU rfl rfl rfl rfl ?_
    refine G.opU rfl rfl rfl rfl ?_
    refine G.opU rfl rfl rfl rfl ?_
    refine G.opU rfl rfl rfl rfl ?_
    refine G.opU rfl rfl rfl rfl ?_
    refine G.opU rfl rfl rfl rfl ?_
    refine G.opN1 rfl rfl rfl rfl rfl ?_
    refine G.op1 (op_pickF (Ev.t 8 (bB false)) (Ev.c _ rfl) rfl) rfl ⟨rfl, trivial⟩ trivial ?_
    refine G.op1 (op_assign (Ev.t 28 (bB false)) rfl) rfl ⟨rfl, trivial⟩ trivial ?_
    refine G.endOps ?_
    cases hF
    exact G.ret1 Try.results39 (RVar.tmp 4 _) ⟨rfl, trivial⟩ trivial


set_option maxRecDepth 20000 in
set_option maxHeartbeats 2000000 in
theorem ct_queue_Misses_1 (d_0 : Api_Dep) (c0 : (List Api_Dep)) (r : Bool) (hF : queue_Misses_1 d_0 c0 = some r) : Ct Try.prog 38 [.g (.agg (encApi_Dep d_0)), .ep [.sl 3 (List.map encApi_Dep c0)]] (.one (.d (.v (.bool r)))) := by
  unfold queue_Misses_1 at hF
  refine Ct.intro Try.func38 rfl Try.ntmps38 rfl rfl fun M w => ?_
  refine G.seq ?_
  refine G.region ?_
  refine G.op2 (op_boxA (k := 1002) (Ev.t 0 (.g (.agg [.v (.string d_0.Key), .v (.int .i64 d_0.Stamp.N), .v (.int .i64 d_0.Stamp.Site)]))) rfl) rfl ⟨rfl, trivial⟩ ⟨rfl, trivial⟩ ?_
  refine G.op1 (op_assign (Ev.c _ rfl) rfl) rfl trivial trivial ?_
  refine G.endOps ?_
  refine G.seq ?_
  obtain ⟨r1, hr1, hF⟩ := bindS hF
  obtain ⟨r2, hr2, hF⟩ := bindS hF
  refine G.drawn (effs := [⟨[(1, .one (.ep [.sl 3 (List.map encApi_Dep c0)]))], [], [(4, .one (.g (.d (.sl 3 (List.map encApi_Dep c0)))))], []⟩, ⟨[(2, .one (.ptr 1002 0))], [], [(5, .one (.ptr 1002 0))], []⟩, ⟨[(5, .one (.ptr 1002 0))], [(1002, some (.blk 39 [bS d_0.Key, bI .i64 d_0.Stamp.N, bI .i64 d_0.Stamp.Site]))], [(6, .one (bS d_0.Key))], []⟩, ⟨[(4, .one (.g (.d (.sl 3 (List.map encApi_Dep c0))))), (6, .one (bS d_0.Key))], [], [(7, .one (.g (.agg [.v (.int .i64 r1.N), .v (.int .i64 r1.Site)])))], []⟩, ⟨[(2, .one (.ptr 1002 0))], [], [(8, .one (.ptr 1002 1))], []⟩, ⟨[(8, .one (.ptr 1002 1))], [(1002, some (.blk 39 [bS d_0.Key, bI .i64 d_0.Stamp.N, bI .i64 d_0.Stamp.Site]))], [(9, .one (.g (.agg [.v (.int .i64 d_0.Stamp.N), .v (.int .i64 d_0.Stamp.Site)])))], []⟩, ⟨[(7, .one (.g (.agg [.v (.int .i64 r1.N), .v (.int .i64 r1.Site)]))), (9, .one (.g (.agg [.v (.int .i64 d_0.Stamp.N), .v (.int .i64 d_0.Stamp.Site)])))], [], [(10, .one (bB r2))], []⟩, ⟨[(10, .one (bB r2))], [], [(11, .one (bB (!r2)))], []⟩, ⟨[(11, .one (bB (!r2)))], [], [(3, .one (bB (!r2)))], []⟩]) (deps := [[], [], [1], [0, 1, 2], [], [4], [0, 1, 2, 3, 4, 5], [0, 1, 2, 3, 4, 5, 6], [0, 1, 2, 3, 4, 5, 6, 7]]) (sl' := [(3, .one (bB (!r2)))]) (hp' := []) follows rfl rfl rfl ⟨⟨rfl, trivial⟩, trivial, ⟨rfl, trivial⟩, trivial, ⟨rfl, trivial⟩, ⟨⟨rfl, rfl⟩, trivial⟩, ⟨rfl, rfl, trivial⟩, trivial, ⟨rfl, trivial⟩, trivial, ⟨rfl, trivial⟩, ⟨⟨rfl, rfl⟩, trivial⟩, ⟨rfl, rfl, trivial⟩, trivial, ⟨rfl, trivial⟩, trivial, ⟨rfl, trivial⟩, trivial, trivial⟩ ⟨OpW.plain (op_load1E (c := .sl 3 (List.map encApi_Dep c0)) Try.underlying30 rfl rfl (Ev.t 1 (.ep [.sl 3 (List.map encApi_Dep c0)])) rfl) rfl rfl, OpW.plain (op_fieldP (off' := 0) Try.underlying39 rfl ti9 (by decide) rfl (Ev.t 2 (.ptr 1002 0)) rfl) rfl rfl, OpW.plain (op_load1P (c := bS d_0.Key) Try.underlying9 rfl rfl (Ev.t 5 (.ptr 1002 0)) rfl) rfl rfl, OpW.plain (op_callQ (sv := .one (.g (.agg [.v (.int .i64 r1.N), .v (.int .i64 r1.Site)]))) cf40 (ct_past_Get c0 d_0.Key r1 hr1) rfl rfl (EvQL.cons (EvQ.g (Ev.t 4 (.g (.d (.sl 3 (List.map encApi_Dep c0)))))) (EvQL.cons (EvQ.g (Ev.t 6 (bS d_0.Key))) EvQL.nil)) rfl) rfl rfl, OpW.plain (op_fieldP (off' := 1) Try.underlying39 rfl ti29 (by decide) rfl (Ev.t 2 (.ptr 1002 0)) rfl) rfl rfl, OpW.plain (op_loadAP (ds := [.v (.int .i64 d_0.Stamp.N), .v (.int .i64 d_0.Stamp.Site)]) Try.underlying29 rfl ti29 rfl (Ev.t 8 (.ptr 1002 1)) rfl) rfl rfl, OpW.plain (op_callQ (sv := .one (bB r2)) cf39 (ct_stamp_Less r1 d_0.Stamp r2 hr2) rfl rfl (EvQL.cons (EvQ.g (Ev.t 7 (.g (.agg [.v (.int .i64 r1.N), .v (.int .i64 r1.Site)])))) (EvQL.cons (EvQ.g (Ev.t 9 (.g (.agg [.v (.int .i64 d_0.Stamp.N), .v (.int .i64 d_0.Stamp.Site)])))) EvQL.nil)) rfl) rfl rfl, OpW.plain (op_not (Ev.t 10 (bB r2)) rfl) rfl rfl, OpW.plain (op_assign (Ev.t 11 (bB (!r2))) rfl) rfl rfl, trivial⟩ ⟨rfl, trivial⟩ trivial rfl ?_
  cases hF
  exact G.ret1 Try.results38 (RVar.tmp 3 _) ⟨rfl, trivial⟩ trivial


set_option maxRecDepth 20000 in
set_option maxHeartbeats 2000000 in
theorem ct_queue_Misses (v_0 : Api_Version) (have_1 : (List Api_Dep)) (own_2 : (List Api_Range)) (r : (List Api_Dep)) (hF : queue_Misses v_0 have_1 own_2 = some r) : Ct Try.prog 16 [.g (.agg (encApi_Version v_0)), .g (.d (.sl 3 (List.map encApi_Dep have_1))), .g (.d (.sl 2 (List.map encApi_Range own_2)))] (.one (.d (.sl 3 (List.map encApi_Dep r)))) := by
  unfold queue_Misses at hF
  refine Ct.intro Try.func16 rfl Try.ntmps16 rfl rfl fun M w => ?_
  refine G.seq ?_
  refine G.region ?_
  refine G.op2 (op_boxA (k := 1003) (Ev.t 0 (.g (.agg [.v (.string v_0.Key), .v (.string v_0.Value), .v (.bool v_0.Gone), .v (.int .i64 v_0.Stamp.N), .v (.int .i64 v_0.Stamp.Site), .sl 3 (List.map encApi_Dep v_0.Past)]))) rfl) rfl ⟨rfl, trivial⟩ ⟨rfl, trivial⟩ ?_
  refine G.op2 (op_box1 (k := 1004) (c := .g (.d (.sl 3 (List.map encApi_Dep have_1)))) trivial (Ev.t 1 (.g (.d (.sl 3 (List.map encApi_Dep have_1))))) rfl) rfl ⟨rfl, trivial⟩ ⟨rfl, trivial⟩ ?_
  refine G.op1 (op_assign (Ev.n 3) rfl) rfl trivial trivial ?_
  refine G.endOps ?_
  refine G.seq ?_
  refine G.region ?_
  refine G.op1 (op_fieldP (off' := 5) Try.underlying32 rfl ti30 (by decide) rfl (Ev.t 3 (.ptr 1003 0)) rfl) rfl ⟨rfl, trivial⟩ trivial ?_
  refine G.op1 (op_load1P (c := .g (.d (.sl 3 (List.map encApi_Dep v_0.Past)))) Try.underlying30 rfl rfl (Ev.t 7 (.ptr 1003 5)) rfl) rfl ⟨rfl, trivial⟩ ⟨rfl, trivial⟩ ?_
  refine G.op1 (op_move (Ev.t 2 (.g (.d (.sl 2 (List.map encApi_Range own_2))))) rfl) rfl ⟨rfl, trivial⟩ trivial ?_
  obtain ⟨r1, hr1, hF⟩ := bindS hF
  refine G.op2 (op_callNew (k := 2010) cf37 (ct_past_Only v_0.Past own_2 r1 hr1) (EvL.cons (Ev.t 8 (.g (.d (.sl 3 (List.map encApi_Dep v_0.Past))))) (EvL.cons (Ev.t 9 (.g (.d (.sl 2 (List.map encApi_Range own_2))))) EvL.nil)) rfl) rfl ⟨rfl, rfl, trivial⟩ ⟨rfl, trivial⟩ ?_
  refine G.op1 (op_makeFunc1 (Ev.t 4 (.ptr 1004 0)) rfl) rfl ⟨rfl, trivial⟩ trivial ?_
  obtain ⟨r2, hr2, hF⟩ := bindS hF
  refine G.callRow (sl' := [(0, .one (.g (.agg [.v (.string v_0.Key), .v (.string v_0.Value), .v (.bool v_0.Gone), .v (.int .i64 v_0.Stamp.N), .v (.int .i64 v_0.Stamp.Site), .sl 3 (List.map encApi_Dep v_0.Past)]))), (1, .one (.g (.d (.sl 3 (List.map encApi_Dep have_1))))), (2, .one (.g (.d (.sl 2 (List.map encApi_Range own_2))))), (3, .one (.ptr 1003 0)), (4, .one (.ptr 1004 0)), (6, .one (.g (.d (.sl 3 (List.map encApi_Dep ([] : (List Api_Dep))))))), (7, .one (.ptr 1003 5)), (8, .one (.g (.d (.sl 3 (List.map encApi_Dep v_0.Past))))), (9, .one (.g (.d (.sl 2 (List.map encApi_Range own_2))))), (11, .one (.clo 38 [1004]))]) cf36 (ct_slices_DeleteFunc_Dep r1 (fun x0 => queue_Misses_1 x0 have_1) r2 hr2) (Ev.t 10 (.own 2010 (List.map encApi_Dep r1))) (EvX.clo (Φ := sem1 (fun x => .agg (encApi_Dep x)) (fun y => .bool y) (fun x0 => queue_Misses_1 x0 have_1)) (Ev.t 11 (.clo 38 [1004])) (EvC.cons rfl EvC.nil) cf38 (fun args v ⟨x0, b, h1, h2, h3⟩ => by subst h1 h3; exact ct_queue_Misses_1 x0 have_1 b h2) EvX.nil) rfl ⟨rfl, rfl, trivial⟩ ⟨rfl, rfl, trivial⟩ ⟨rfl, rfl, rfl, rfl, rfl, rfl, rfl, rfl, rfl, rfl, trivial⟩ rfl ?_
  refine G.op1 (op_assign (Ev.t 12 (.own 2010 (List.map encApi_Dep r2))) rfl) rfl ⟨rfl, trivial⟩ trivial ?_
  refine G.endOps ?_
  refine G.share (k' := 2010) rfl ?_
  refine G.view (t := 6) rfl rfl ?_
  cases hF
  exact G.ret1 Try.results16 (RVar.tmp 6 _) ⟨rfl, trivial⟩ trivial


set_option maxRecDepth 20000 in
set_option maxHeartbeats 2000000 in
theorem ct_queue_Check (v_0 : Api_Version) (have_1 : (List Api_Dep)) (own_2 : (List Api_Range)) (r : Bool) (hF : queue_Check v_0 have_1 own_2 = some r) : Ct Try.prog 20 [.g (.agg (encApi_Version v_0)), .g (.d (.sl 3 (List.map encApi_Dep have_1))), .g (.d (.sl 2 (List.map encApi_Range own_2)))] (.one (.d (.v (.bool r)))) := by
  unfold queue_Check at hF
  refine Ct.intro Try.func20 rfl Try.ntmps20 rfl rfl fun M w => ?_
  refine G.seq ?_
  refine G.region ?_
  refine G.op2 (op_boxA (k := 1003) (Ev.t 0 (.g (.agg [.v (.string v_0.Key), .v (.string v_0.Value), .v (.bool v_0.Gone), .v (.int .i64 v_0.Stamp.N), .v (.int .i64 v_0.Stamp.Site), .sl 3 (List.map encApi_Dep v_0.Past)]))) rfl) rfl ⟨rfl, trivial⟩ ⟨rfl, trivial⟩ ?_
  refine G.op1 (op_assign (Ev.c _ rfl) rfl) rfl trivial trivial ?_
  refine G.endOps ?_
  refine G.seq ?_
  refine G.region ?_
  refine G.op1 (op_loadAP (ds := [.v (.string v_0.Key), .v (.string v_0.Value), .v (.bool v_0.Gone), .v (.int .i64 v_0.Stamp.N), .v (.int .i64 v_0.Stamp.Site), .sl 3 (List.map encApi_Dep v_0.Past)]) Try.underlying32 rfl ti32 rfl (Ev.t 3 (.ptr 1003 0)) rfl) rfl ⟨rfl, trivial⟩ ⟨rfl, trivial⟩ ?_
  refine G.op1 (op_move (Ev.t 1 (.g (.d (.sl 3 (List.map encApi_Dep have_1))))) rfl) rfl ⟨rfl, trivial⟩ trivial ?_
  refine G.op1 (op_move (Ev.t 2 (.g (.d (.sl 2 (List.map encApi_Range own_2))))) rfl) rfl ⟨rfl, trivial⟩ trivial ?_
  obtain ⟨r1, hr1, hF⟩ := bindS hF
  refine G.op1 (op_call (sv := .one (.g (.d (.sl 3 (List.map encApi_Dep r1))))) cf16 (ct_queue_Misses v_0 have_1 own_2 r1 hr1) rfl (EvL.cons (Ev.t 7 (.g (.agg [.v (.string v_0.Key), .v (.string v_0.Value), .v (.bool v_0.Gone), .v (.int .i64 v_0.Stamp.N), .v (.int .i64 v_0.Stamp.Site), .sl 3 (List.map encApi_Dep v_0.Past)]))) (EvL.cons (Ev.t 8 (.g (.d (.sl 3 (List.map encApi_Dep have_1))))) (EvL.cons (Ev.t 9 (.g (.d (.sl 2 (List.map encApi_Range own_2))))) EvL.nil))) rfl) rfl ⟨rfl, rfl, rfl, trivial⟩ trivial ?_
  refine G.op1 (OpL.cast (op_lenD Try.underlying30 (Ev.t 10 (.g (.d (.sl 3 (List.map encApi_Dep r1))))) rfl) (by rw [List.length_map])) rfl ⟨rfl, trivial⟩ trivial ?_
  refine G.op1 (op_eqI (Ev.t 11 (bI .i64 (r1.length : Int))) (Ev.c _ rfl) rfl) rfl ⟨rfl, trivial⟩ trivial ?_
  refine G.op1 (op_assign (Ev.t 12 (bB (decide ((r1.length : Int) = 0)))) rfl) rfl ⟨rfl, trivial⟩ trivial ?_
  refine G.endOps ?_
  cases hF
  exact G.ret1 Try.results20 (RVar.tmp 6 _) ⟨rfl, trivial⟩ trivial


set_option maxRecDepth 20000 in
set_option maxHeartbeats 2000000 in
theorem ct_queue_Next (l_0 : (List Api_Version)) (have_1 : (List Api_Dep)) (own_2 : (List Api_Range)) (r : (Api_Version × (List Api_Version) × Bool)) (hF : queue_Next l_0 have_1 own_2 = some r) : Ct Try.prog 12 [.g (.d (.sl 6 (List.map encApi_Version l_0))), .g (.d (.sl 3 (List.map encApi_Dep have_1))), .g (.d (.sl 2 (List.map encApi_Range own_2)))] (.tup [.agg (encApi_Version r.1), .d (.sl 6 (List.map encApi_Version r.2.1)), .d (.v (.bool r.2.2))]) := by
  unfold queue_Next at hF
  refine Ct.intro Try.func12 rfl Try.ntmps12 rfl rfl fun M w => ?_
  refine G.seq ?_
  refine G.region ?_
  refine G.op2 (op_alloc (k := 1006) (cs := [bS ByteArray.empty, bS ByteArray.empty, bB false, bI .i64 0, bI .i64 0, .g (.d (.sl 3 (List.map encApi_Dep ([] : (List Api_Dep)))))]) ti32 ⟨.v _ rfl, .v _ rfl, .v _ rfl, .v _ rfl, .v _ rfl, .n 3, trivial⟩ rfl) rfl trivial ⟨rfl, trivial⟩ ?_
  refine G.op1 (op_assign (Ev.n 6) rfl) rfl trivial trivial ?_
  refine G.op1 (op_assign (Ev.c _ rfl) rfl) rfl trivial trivial ?_
  refine G.endOps ?_
  refine G.scope ?_
  refine G.seq ?_
  refine G.label ?_
  refine G.seq ?_
  refine G.seq ?_
  refine G.region ?_
  refine G.op1 (op_move (Ev.t 0 (.g (.d (.sl 6 (List.map encApi_Version l_0))))) rfl) rfl ⟨rfl, trivial⟩ trivial ?_
  refine G.op1 (OpL.cast (op_lenD Try.underlying24 (Ev.t 11 (.g (.d (.sl 6 (List.map encApi_Version l_0))))) rfl) (by rw [List.length_map])) rfl ⟨rfl, trivial⟩ trivial ?_
  refine G.op1 (op_move (Ev.c _ rfl) rfl) rfl trivial trivial ?_
  refine G.endOps ?_
  refine G.joinC (T := Unit) (fun y1 => ⟨[(0, .one (.g (.d (.sl 6 (List.map encApi_Version l_0))))), (6, .one (.ptr 1006 0))], [(1006, some (.blk 32 [bS ByteArray.empty, bS ByteArray.empty, bB false, bI .i64 0, bI .i64 0, .g (.d (.sl 3 (List.map encApi_Dep ([] : (List Api_Dep)))))]))]⟩) (fun y1 => queue_Next_k1 l_0 y1 = some r) (fun y1 hF => ?_) (fun J2 => ?_)
  · unfold queue_Next_k1 at hF
    refine G.seq ?_
    refine G.region ?_
    refine G.op1 (op_build (zs := [.v (.string ByteArray.empty), .v (.string ByteArray.empty), .v (.bool false), .v (.int .i64 0), .v (.int .i64 0), .sl 3 (List.map encApi_Dep ([] : (List Api_Dep)))]) (ds := [.v (.string ByteArray.empty), .v (.string ByteArray.empty), .v (.bool false), .v (.int .i64 0), .v (.int .i64 0), .sl 3 (List.map encApi_Dep ([] : (List Api_Dep)))]) Try.underlying32 ti32 (pl32 _ Try.underlying32) ⟨.v _ rfl, .v _ rfl, .v _ rfl, .v _ rfl, .v _ rfl, .n 3, trivial⟩ EvP.nil rfl rfl) rfl trivial trivial ?_
    refine G.op1 (op_move (Ev.t 0 (.g (.d (.sl 6 (List.map encApi_Version l_0))))) rfl) rfl ⟨rfl, trivial⟩ trivial ?_
    refine G.op3 (op_storeA (cs' := [bS ByteArray.empty, bS ByteArray.empty, bB false, bI .i64 0, bI .i64 0, .g (.d (.sl 3 (List.map encApi_Dep ([] : (List Api_Dep)))))]) ti32 rfl rfl (Ev.t 6 (.ptr 1006 0)) (Ev.t 34 (.g (.agg [.v (.string ByteArray.empty), .v (.string ByteArray.empty), .v (.bool false), .v (.int .i64 0), .v (.int .i64 0), .sl 3 (List.map encApi_Dep ([] : (List Api_Dep)))])))) rfl ⟨rfl, rfl, trivial⟩ ⟨rfl, trivial⟩ ?_
    refine G.op1 (op_assign (Ev.t 35 (.g (.d (.sl 6 (List.map encApi_Version l_0))))) rfl) rfl ⟨rfl, trivial⟩ trivial ?_
    refine G.op1 (op_assign (Ev.c _ rfl) rfl) rfl trivial trivial ?_
    refine G.endOps ?_
    cases hF
    exact G.ret3 Try.results12 (RVar.cellA (ds := [.v (.string ByteArray.empty), .v (.string ByteArray.empty), .v (.bool false), .v (.int .i64 0), .v (.int .i64 0), .sl 3 (List.map encApi_Dep ([] : (List Api_Dep)))]) Try.underlying32 rfl ti32 rfl) (RVar.tmp 7 _) (RVar.tmp 8 _) ⟨rfl, rfl, rfl, trivial⟩ ⟨rfl, trivial⟩
  refine G.block ?_
  refine G.keep (sl' := [(0, .one (.g (.d (.sl 6 (List.map encApi_Version l_0))))), (1, .one (.g (.d (.sl 3 (List.map encApi_Dep have_1))))), (2, .one (.g (.d (.sl 2 (List.map encApi_Range own_2))))), (6, .one (.ptr 1006 0)), (11, .one (.g (.d (.sl 6 (List.map encApi_Version l_0))))), (12, .one (bI .i64 (l_0.length : Int))), (13, .one (bI .i64 0))]) (hp' := [(1006, some (.blk 32 [bS ByteArray.empty, bS ByteArray.empty, bB false, bI .i64 0, bI .i64 0, .g (.d (.sl 3 (List.map encApi_Dep ([] : (List Api_Dep)))))]))]) ⟨rfl, rfl, rfl, rfl, rfl, rfl, rfl, trivial⟩ ⟨rfl, trivial⟩ rfl ?_
  refine G.loopF (fun (v3 : Int) => ⟨[(0, .one (.g (.d (.sl 6 (List.map encApi_Version l_0))))), (1, .one (.g (.d (.sl 3 (List.map encApi_Dep have_1))))), (2, .one (.g (.d (.sl 2 (List.map encApi_Range own_2))))), (6, .one (.ptr 1006 0)), (11, .one (.g (.d (.sl 6 (List.map encApi_Version l_0))))), (12, .one (bI .i64 (l_0.length : Int))), (13, .one (bI .i64 v3))], [(1006, some (.blk 32 [bS ByteArray.empty, bS ByteArray.empty, bB false, bI .i64 0, bI .i64 0, .g (.d (.sl 3 (List.map encApi_Dep ([] : (List Api_Dep)))))]))]⟩) hF rfl (fun K6 again5 v3 J4 hF => ?_)
  unfold queue_Next_l2 at hF
  refine G.seq ?_
  refine G.region ?_
  refine G.op1 (op_lss (Ev.t 13 (bI .i64 v3)) (Ev.t 12 (bI .i64 (l_0.length : Int))) rfl) rfl ⟨rfl, rfl, trivial⟩ trivial ?_
  refine G.endOps ?_
  refine G.seq ?_
  refine ifS hF (fun hc7 hF => ?_) (fun hc7 hF => ?_)
  · refine G.cond rfl (fun _ => ?_) (fun hx => by rw [hc7] at hx; cases hx)
    refine G.skip ?_
    refine G.seq ?_
    refine G.block ?_
    refine G.seq ?_
    refine G.region ?_
    refine G.op1 (op_move (Ev.t 13 (bI .i64 v3)) rfl) rfl ⟨rfl, trivial⟩ trivial ?_
    obtain ⟨x8, hx8, hF⟩ := bindS hF
    refine G.op1 (op_index (cs := [.v (.string x8.Key), .v (.string x8.Value), .v (.bool x8.Gone), .v (.int .i64 x8.Stamp.N), .v (.int .i64 x8.Stamp.Site), .sl 3 (List.map encApi_Dep x8.Past)]) Try.underlying24 ti32 (idx_ok hx8).1 (idx_get hx8 encApi_Version) (Ev.t 11 (.g (.d (.sl 6 (List.map encApi_Version l_0))))) (Ev.t 13 (bI .i64 v3)) rfl) rfl ⟨rfl, rfl, trivial⟩ trivial ?_
    refine G.op1 (op_loadAE (ds := [.v (.string x8.Key), .v (.string x8.Value), .v (.bool x8.Gone), .v (.int .i64 x8.Stamp.N), .v (.int .i64 x8.Stamp.Site), .sl 3 (List.map encApi_Dep x8.Past)]) Try.underlying32 rfl ti32 rfl (Ev.t 16 (.ep [.v (.string x8.Key), .v (.string x8.Value), .v (.bool x8.Gone), .v (.int .i64 x8.Stamp.N), .v (.int .i64 x8.Stamp.Site), .sl 3 (List.map encApi_Dep x8.Past)])) rfl) rfl ⟨rfl, trivial⟩ trivial ?_
    refine G.op2 (op_alloc (k := 1010) (cs := [bS ByteArray.empty, bS ByteArray.empty, bB false, bI .i64 0, bI .i64 0, .g (.d (.sl 3 (List.map encApi_Dep ([] : (List Api_Dep)))))]) ti32 ⟨.v _ rfl, .v _ rfl, .v _ rfl, .v _ rfl, .v _ rfl, .n 3, trivial⟩ rfl) rfl trivial ⟨rfl, trivial⟩ ?_
    refine G.op1 (op_assign (Ev.t 15 (bI .i64 v3)) rfl) rfl ⟨rfl, trivial⟩ trivial ?_
    refine G.op3 (op_storeA (cs' := [bS x8.Key, bS x8.Value, bB x8.Gone, bI .i64 x8.Stamp.N, bI .i64 x8.Stamp.Site, .g (.d (.sl 3 (List.map encApi_Dep x8.Past)))]) ti32 rfl rfl (Ev.t 10 (.ptr 1010 0)) (Ev.t 17 (.g (.agg [.v (.string x8.Key), .v (.string x8.Value), .v (.bool x8.Gone), .v (.int .i64 x8.Stamp.N), .v (.int .i64 x8.Stamp.Site), .sl 3 (List.map encApi_Dep x8.Past)])))) rfl ⟨rfl, rfl, trivial⟩ ⟨rfl, trivial⟩ ?_
    refine G.endOps ?_
    refine G.seq ?_
    refine G.seq ?_
    refine G.region ?_
    refine G.op1 (op_loadAP (ds := [.v (.string x8.Key), .v (.string x8.Value), .v (.bool x8.Gone), .v (.int .i64 x8.Stamp.N), .v (.int .i64 x8.Stamp.Site), .sl 3 (List.map encApi_Dep x8.Past)]) Try.underlying32 rfl ti32 rfl (Ev.t 10 (.ptr 1010 0)) rfl) rfl ⟨rfl, trivial⟩ ⟨rfl, trivial⟩ ?_
    refine G.op1 (op_move (Ev.t 1 (.g (.d (.sl 3 (List.map encApi_Dep have_1))))) rfl) rfl ⟨rfl, trivial⟩ trivial ?_
    refine G.op1 (op_move (Ev.t 2 (.g (.d (.sl 2 (List.map encApi_Range own_2))))) rfl) rfl ⟨rfl, trivial⟩ trivial ?_
    obtain ⟨r9, hr9, hF⟩ := bindS hF
    refine G.op1 (op_callQ (sv := .one (bB r9)) cf20 (ct_queue_Check x8 have_1 own_2 r9 hr9) rfl rfl (EvQL.cons (EvQ.g (Ev.t 18 (.g (.agg [.v (.string x8.Key), .v (.string x8.Value), .v (.bool x8.Gone), .v (.int .i64 x8.Stamp.N), .v (.int .i64 x8.Stamp.Site), .sl 3 (List.map encApi_Dep x8.Past)])))) (EvQL.cons (EvQ.g (Ev.t 19 (.g (.d (.sl 3 (List.map encApi_Dep have_1)))))) (EvQL.cons (EvQ.g (Ev.t 20 (.g (.d (.sl 2 (List.map encApi_Range own_2)))))) EvQL.nil))) rfl) rfl ⟨rfl, rfl, rfl, trivial⟩ trivial ?_
    refine G.op1 (op_not (Ev.t 21 (bB r9)) rfl) rfl ⟨rfl, trivial⟩ trivial ?_
    refine G.endOps ?_
    refine ifS hF (fun hc10 hF => ?_) (fun hc10 hF => ?_)
    · refine G.cond rfl (fun _ => ?_) (fun hx => by rw [hc10] at hx; cases hx)
      refine G.exit ?_
      refine GX.c ?_
      refine GX.bYes ?_
      refine G.region ?_
      refine G.op1 (op_add (Ev.t 13 (bI .i64 v3)) (Ev.c _ rfl) rfl) rfl ⟨rfl, trivial⟩ trivial ?_
      refine G.op1 (op_move (Ev.t 33 (bI .i64 (IntKind.wrap .i64 (v3 + 1)))) rfl) rfl ⟨rfl, trivial⟩ trivial ?_
      refine G.endOps ?_
      exact G.arr (J4 (IntKind.wrap .i64 (v3 + 1)) hF) ⟨rfl, rfl, rfl, rfl, rfl, rfl, rfl, trivial⟩ ⟨rfl, trivial⟩ rfl
    · refine G.cond rfl (fun hx => by rw [hc10] at hx; cases hx) (fun _ => ?_)
      refine G.skip ?_
      refine G.seq ?_
      obtain ⟨l11, hl11, hF⟩ := bindS hF
      obtain ⟨l12, hl12, hF⟩ := bindS hF
      obtain ⟨l13, hl13, hF⟩ := bindS hF
      refine G.drawn (effs := [⟨[(10, .one (.ptr 1010 0))], [(1010, some (.blk 32 [bS x8.Key, bS x8.Value, bB x8.Gone, bI .i64 x8.Stamp.N, bI .i64 x8.Stamp.Site, .g (.d (.sl 3 (List.map encApi_Dep x8.Past)))]))], [(23, .one (.g (.agg [.v (.string x8.Key), .v (.string x8.Value), .v (.bool x8.Gone), .v (.int .i64 x8.Stamp.N), .v (.int .i64 x8.Stamp.Site), .sl 3 (List.map encApi_Dep x8.Past)])))], []⟩, ⟨[(0, .one (.g (.d (.sl 6 (List.map encApi_Version l_0)))))], [], [(24, .one (.g (.d (.sl 6 (List.map encApi_Version l_0)))))], []⟩, ⟨[(9, .one (bI .i64 v3))], [], [(25, .one (bI .i64 v3))], []⟩, ⟨[(9, .one (bI .i64 v3))], [], [(26, .one (bI .i64 v3))], []⟩, ⟨[(24, .one (.g (.d (.sl 6 (List.map encApi_Version l_0))))), (25, .one (bI .i64 v3)), (26, .one (bI .i64 v3))], [], [(27, .one (.cp 6 (List.map encApi_Version l11)))], []⟩, ⟨[(0, .one (.g (.d (.sl 6 (List.map encApi_Version l_0)))))], [], [(28, .one (.g (.d (.sl 6 (List.map encApi_Version l_0)))))], []⟩, ⟨[(9, .one (bI .i64 v3))], [], [(29, .one (bI .i64 v3))], []⟩, ⟨[(29, .one (bI .i64 v3))], [], [(30, .one (bI .i64 (IntKind.wrap .i64 (v3 + 1))))], []⟩, ⟨[(28, .one (.g (.d (.sl 6 (List.map encApi_Version l_0))))), (30, .one (bI .i64 (IntKind.wrap .i64 (v3 + 1))))], [], [(31, .one (.g (.d (.sl 6 (List.map encApi_Version l12)))))], []⟩, ⟨[(27, .one (.cp 6 (List.map encApi_Version l11))), (31, .one (.g (.d (.sl 6 (List.map encApi_Version l12)))))], [], [(32, .one (.g (.d (.sl 6 (List.map encApi_Version l13)))))], []⟩, ⟨[(6, .one (.ptr 1006 0)), (23, .one (.g (.agg [.v (.string x8.Key), .v (.string x8.Value), .v (.bool x8.Gone), .v (.int .i64 x8.Stamp.N), .v (.int .i64 x8.Stamp.Site), .sl 3 (List.map encApi_Dep x8.Past)])))], [(1006, some (.blk 32 [bS ByteArray.empty, bS ByteArray.empty, bB false, bI .i64 0, bI .i64 0, .g (.d (.sl 3 (List.map encApi_Dep ([] : (List Api_Dep)))))]))], [], [(1006, some (.blk 32 [bS x8.Key, bS x8.Value, bB x8.Gone, bI .i64 x8.Stamp.N, bI .i64 x8.Stamp.Site, .g (.d (.sl 3 (List.map encApi_Dep x8.Past)))]))]⟩, ⟨[(32, .one (.g (.d (.sl 6 (List.map encApi_Version l13)))))], [], [(7, .one (.g (.d (.sl 6 (List.map encApi_Version l13)))))], []⟩, ⟨[], [], [(8, .one (bB true))], []⟩]) (deps := [[], [], [], [], [1, 2, 3], [], [], [6], [5, 6, 7], [1, 2, 3, 4, 5, 6, 7, 8], [0, 1, 2, 3, 4, 5, 6, 7, 8, 9], [0, 1, 2, 3, 4, 5, 6, 7, 8, 9, 10], [0, 1, 2, 3, 4, 5, 6, 7, 8, 9, 10, 11]]) (sl' := [(6, .one (.ptr 1006 0)), (7, .one (.g (.d (.sl 6 (List.map encApi_Version l13))))), (8, .one (bB true))]) (hp' := [(1006, some (.blk 32 [bS x8.Key, bS x8.Value, bB x8.Gone, bI .i64 x8.Stamp.N, bI .i64 x8.Stamp.Site, .g (.d (.sl 3 (List.map encApi_Dep x8.Past)))]))]) follows rfl rfl rfl ⟨⟨rfl, trivial⟩, ⟨⟨rfl, rfl⟩, trivial⟩, ⟨rfl, trivial⟩, trivial, ⟨rfl, trivial⟩, trivial, ⟨rfl, trivial⟩, trivial, ⟨rfl, rfl, rfl, trivial⟩, trivial, ⟨rfl, trivial⟩, trivial, ⟨rfl, trivial⟩, trivial, ⟨rfl, trivial⟩, trivial, ⟨rfl, rfl, trivial⟩, trivial, ⟨rfl, rfl, trivial⟩, trivial, ⟨rfl, rfl, trivial⟩, ⟨⟨rfl, rfl⟩, trivial⟩, ⟨rfl, trivial⟩, trivial, trivial, trivial, trivial⟩ ⟨OpW.plain (op_loadAP (ds := [.v (.string x8.Key), .v (.string x8.Value), .v (.bool x8.Gone), .v (.int .i64 x8.Stamp.N), .v (.int .i64 x8.Stamp.Site), .sl 3 (List.map encApi_Dep x8.Past)]) Try.underlying32 rfl ti32 rfl (Ev.t 10 (.ptr 1010 0)) rfl) rfl rfl, OpW.plain (op_move (Ev.t 0 (.g (.d (.sl 6 (List.map encApi_Version l_0))))) rfl) rfl rfl, OpW.plain (op_move (Ev.t 9 (bI .i64 v3)) rfl) rfl rfl, OpW.plain (op_move (Ev.t 9 (bI .i64 v3)) rfl) rfl rfl, OpW.plain (op_slice3 Try.underlying24 ti32 (sub_ok0 hl11 encApi_Version).1 (sub_ok0 hl11 encApi_Version).2.1 (sub_ok0 hl11 encApi_Version).2.2 (Ev.t 24 (.g (.d (.sl 6 (List.map encApi_Version l_0))))) (Ev.t 25 (bI .i64 v3)) (Ev.t 26 (bI .i64 v3)) rfl) rfl rfl, OpW.plain (op_move (Ev.t 0 (.g (.d (.sl 6 (List.map encApi_Version l_0))))) rfl) rfl rfl, OpW.plain (op_move (Ev.t 9 (bI .i64 v3)) rfl) rfl rfl, OpW.plain (op_add (Ev.t 29 (bI .i64 v3)) (Ev.c _ rfl) rfl) rfl rfl, OpW.plain (op_sliceD (lo := some (IntKind.wrap .i64 (v3 + 1))) (hi := none) Try.underlying24 ti32 (sub_okE hl12 encApi_Version).1 (sub_okE hl12 encApi_Version).2.1 (Int.le_refl _) (sub_okE hl12 encApi_Version).2.2 (Ev.t 28 (.g (.d (.sl 6 (List.map encApi_Version l_0))))) (EvO.some (Ev.t 30 (bI .i64 (IntKind.wrap .i64 (v3 + 1))))) EvO.none rfl) rfl rfl, OpW.plain (op_appendC Try.underlying24 ti32 rfl rfl (app_map hl13 encApi_Version) (app_b1 hl13 encApi_Version) (app_b2 hl13 encApi_Version) (Ev.t 27 (.cp 6 (List.map encApi_Version l11))) (Ev.t 31 (.g (.d (.sl 6 (List.map encApi_Version l12))))) rfl) rfl rfl, OpW.plain (op_storeA (cs' := [bS x8.Key, bS x8.Value, bB x8.Gone, bI .i64 x8.Stamp.N, bI .i64 x8.Stamp.Site, .g (.d (.sl 3 (List.map encApi_Dep x8.Past)))]) ti32 rfl rfl (Ev.t 6 (.ptr 1006 0)) (Ev.t 23 (.g (.agg [.v (.string x8.Key), .v (.string x8.Value), .v (.bool x8.Gone), .v (.int .i64 x8.Stamp.N), .v (.int .i64 x8.Stamp.Site), .sl 3 (List.map encApi_Dep x8.Past)])))) rfl rfl, OpW.plain (op_assign (Ev.t 32 (.g (.d (.sl 6 (List.map encApi_Version l13))))) rfl) rfl rfl, OpW.plain (op_assign (Ev.c _ rfl) rfl) rfl rfl, trivial⟩ ⟨rfl, rfl, rfl, trivial⟩ ⟨rfl, trivial⟩ rfl ?_
      cases hF
      exact G.ret3 Try.results12 (RVar.cellA (ds := [.v (.string x8.Key), .v (.string x8.Value), .v (.bool x8.Gone), .v (.int .i64 x8.Stamp.N), .v (.int .i64 x8.Stamp.Site), .sl 3 (List.map encApi_Dep x8.Past)]) Try.underlying32 rfl ti32 rfl) (RVar.tmp 7 _) (RVar.tmp 8 _) ⟨rfl, rfl, rfl, trivial⟩ ⟨rfl, trivial⟩
  · refine G.cond rfl (fun hx => by rw [hc7] at hx; cases hx) (fun _ => ?_)
    refine G.exit ?_
    refine GX.c ?_
    refine GX.q ?_
    refine GX.bYes ?_
    exact G.arr (J2 () hF) ⟨rfl, rfl, trivial⟩ ⟨rfl, trivial⟩ rfl


set_option maxRecDepth 20000 in
set_option maxHeartbeats 2000000 in
theorem ct_law14_awake (r : Bool) (hF : law14_awake = some r) : Ct Try.prog 9 [] (.one (.d (.v (.bool r)))) := by
  unfold law14_awake at hF
  refine Ct.intro Try.func9 rfl Try.ntmps9 rfl rfl fun M w => ?_
  refine G.seq ?_
  refine G.region ?_
  refine G.op1 (op_assign (Ev.c _ rfl) rfl) rfl trivial trivial ?_
  refine G.endOps ?_
  refine G.seq ?_
  refine G.region ?_
  obtain ⟨r1, hr1, hF⟩ := bindS hF
  refine G.op1 (op_call (sv := .one (.g (.agg [.v (.string r1.Key), .v (.string r1.Value), .v (.bool r1.Gone), .v (.int .i64 r1.Stamp.N), .v (.int .i64 r1.Stamp.Site), .sl 3 (List.map encApi_Dep r1.Past)]))) cf25 (ct_law14_ver (ByteArray.mk #[97]) 1 ([] : (List Api_Dep)) r1 hr1) rfl (EvL.cons (Ev.c _ rfl) (EvL.cons (Ev.c _ rfl) (EvL.cons (Ev.n 3) EvL.nil))) rfl) rfl trivial trivial ?_
  refine G.op2 (op_alloc (k := 1001) (cs := [bS ByteArray.empty, bS ByteArray.empty, bB false, bI .i64 0, bI .i64 0, .g (.d (.sl 3 (List.map encApi_Dep ([] : (List Api_Dep)))))]) ti32 ⟨.v _ rfl, .v _ rfl, .v _ rfl, .v _ rfl, .v _ rfl, .n 3, trivial⟩ rfl) rfl trivial ⟨rfl, trivial⟩ ?_
  refine G.op3 (op_storeA (cs' := [bS r1.Key, bS r1.Value, bB r1.Gone, bI .i64 r1.Stamp.N, bI .i64 r1.Stamp.Site, .g (.d (.sl 3 (List.map encApi_Dep r1.Past)))]) ti32 rfl rfl (Ev.t 1 (.ptr 1001 0)) (Ev.t 10 (.g (.agg [.v (.string r1.Key), .v (.string r1.Value), .v (.bool r1.Gone), .v (.int .i64 r1.Stamp.N), .v (.int .i64 r1.Stamp.Site), .sl 3 (List.map encApi_Dep r1.Past)])))) rfl ⟨rfl, rfl, trivial⟩ ⟨rfl, trivial⟩ ?_
  refine G.endOps ?_
  refine G.seq ?_
  refine G.region ?_
  refine G.op1 (op_fieldP (off' := 3) Try.underlying32 rfl ti29 (by decide) rfl (Ev.t 1 (.ptr 1001 0)) rfl) rfl ⟨rfl, trivial⟩ trivial ?_
  refine G.op1 (op_loadAP (ds := [.v (.int .i64 r1.Stamp.N), .v (.int .i64 r1.Stamp.Site)]) Try.underlying29 rfl ti29 rfl (Ev.t 11 (.ptr 1001 3)) rfl) rfl ⟨rfl, trivial⟩ ⟨rfl, trivial⟩ ?_
  refine G.op1 (op_build (zs := [.v (.string ByteArray.empty), .v (.int .i64 0), .v (.int .i64 0)]) (ds := [.v (.string (ByteArray.mk #[97])), .v (.int .i64 r1.Stamp.N), .v (.int .i64 r1.Stamp.Site)]) Try.underlying39 ti39 (pl39 _ Try.underlying39) ⟨.v _ rfl, .v _ rfl, .v _ rfl, trivial⟩ (EvP.cons (Ev.c _ rfl) (EvP.cons (Ev.t 12 (.g (.agg [.v (.int .i64 r1.Stamp.N), .v (.int .i64 r1.Stamp.Site)]))) EvP.nil)) rfl rfl) rfl ⟨rfl, trivial⟩ trivial ?_
  refine G.op1 (op_buildSlice (es := List.map encApi_Dep [(Api_Dep.mk (ByteArray.mk #[97]) r1.Stamp)]) Try.underlying30 ti39 rfl rfl (EvP.cons (Ev.t 13 (.g (.agg [.v (.string (ByteArray.mk #[97])), .v (.int .i64 r1.Stamp.N), .v (.int .i64 r1.Stamp.Site)]))) EvP.nil) rfl rfl (by simp [encApi_Dep]) rfl) rfl ⟨rfl, trivial⟩ trivial ?_
  obtain ⟨r2, hr2, hF⟩ := bindS hF
  refine G.op1 (op_call (sv := .one (.g (.agg [.v (.string r2.Key), .v (.string r2.Value), .v (.bool r2.Gone), .v (.int .i64 r2.Stamp.N), .v (.int .i64 r2.Stamp.Site), .sl 3 (List.map encApi_Dep r2.Past)]))) cf25 (ct_law14_ver (ByteArray.mk #[98]) 2 ([(Api_Dep.mk (ByteArray.mk #[97]) r1.Stamp)]) r2 hr2) rfl (EvL.cons (Ev.c _ rfl) (EvL.cons (Ev.c _ rfl) (EvL.cons (Ev.t 14 (.g (.d (.sl 3 (List.map encApi_Dep ([(Api_Dep.mk (ByteArray.mk #[97]) r1.Stamp)])))))) EvL.nil))) rfl) rfl ⟨rfl, trivial⟩ trivial ?_
  refine G.op2 (op_alloc (k := 1002) (cs := [bS ByteArray.empty, bS ByteArray.empty, bB false, bI .i64 0, bI .i64 0, .g (.d (.sl 3 (List.map encApi_Dep ([] : (List Api_Dep)))))]) ti32 ⟨.v _ rfl, .v _ rfl, .v _ rfl, .v _ rfl, .v _ rfl, .n 3, trivial⟩ rfl) rfl trivial ⟨rfl, trivial⟩ ?_
  refine G.op3 (op_storeA (cs' := [bS r2.Key, bS r2.Value, bB r2.Gone, bI .i64 r2.Stamp.N, bI .i64 r2.Stamp.Site, .g (.d (.sl 3 (List.map encApi_Dep r2.Past)))]) ti32 rfl rfl (Ev.t 2 (.ptr 1002 0)) (Ev.t 15 (.g (.agg [.v (.string r2.Key), .v (.string r2.Value), .v (.bool r2.Gone), .v (.int .i64 r2.Stamp.N), .v (.int .i64 r2.Stamp.Site), .sl 3 (List.map encApi_Dep r2.Past)])))) rfl ⟨rfl, rfl, trivial⟩ ⟨rfl, trivial⟩ ?_
  refine G.endOps ?_
  refine G.seq ?_
  refine G.region ?_
  refine G.op1 (op_build (zs := [.v (.string ByteArray.empty), .v (.string ByteArray.empty)]) (ds := [.v (.string ByteArray.empty), .v (.string ByteArray.empty)]) Try.underlying51 ti51 (pl51 _ Try.underlying51) ⟨.v _ rfl, .v _ rfl, trivial⟩ EvP.nil rfl rfl) rfl trivial trivial ?_
  refine G.op1 (op_buildSlice (es := List.map encApi_Range [(Api_Range.mk ByteArray.empty ByteArray.empty)]) Try.underlying26 ti51 rfl rfl (EvP.cons (Ev.t 16 (.g (.agg [.v (.string ByteArray.empty), .v (.string ByteArray.empty)]))) EvP.nil) rfl rfl (by simp [encApi_Range]) rfl) rfl ⟨rfl, trivial⟩ trivial ?_
  refine G.op1 (op_assign (Ev.t 17 (.g (.d (.sl 2 (List.map encApi_Range ([(Api_Range.mk ByteArray.empty ByteArray.empty)])))))) rfl) rfl ⟨rfl, trivial⟩ trivial ?_
  refine G.endOps ?_
  refine G.seq ?_
  refine G.region ?_
  refine G.op1 (op_loadAP (ds := [.v (.string r2.Key), .v (.string r2.Value), .v (.bool r2.Gone), .v (.int .i64 r2.Stamp.N), .v (.int .i64 r2.Stamp.Site), .sl 3 (List.map encApi_Dep r2.Past)]) Try.underlying32 rfl ti32 rfl (Ev.t 2 (.ptr 1002 0)) rfl) rfl ⟨rfl, trivial⟩ ⟨rfl, trivial⟩ ?_
  refine G.op1 (op_loadAP (ds := [.v (.string r1.Key), .v (.string r1.Value), .v (.bool r1.Gone), .v (.int .i64 r1.Stamp.N), .v (.int .i64 r1.Stamp.Site), .sl 3 (List.map encApi_Dep r1.Past)]) Try.underlying32 rfl ti32 rfl (Ev.t 1 (.ptr 1001 0)) rfl) rfl ⟨rfl, trivial⟩ ⟨rfl, trivial⟩ ?_
  refine G.op1 (op_buildSlice (es := List.map encApi_Version [r2, r1]) Try.underlying24 ti32 rfl rfl (EvP.cons (Ev.t 19 (.g (.agg [.v (.string r2.Key), .v (.string r2.Value), .v (.bool r2.Gone), .v (.int .i64 r2.Stamp.N), .v (.int .i64 r2.Stamp.Site), .sl 3 (List.map encApi_Dep r2.Past)]))) (EvP.cons (Ev.t 20 (.g (.agg [.v (.string r1.Key), .v (.string r1.Value), .v (.bool r1.Gone), .v (.int .i64 r1.Stamp.N), .v (.int .i64 r1.Stamp.Site), .sl 3 (List.map encApi_Dep r1.Past)]))) EvP.nil)) rfl rfl (by simp [encApi_Version]) rfl) rfl ⟨rfl, rfl, trivial⟩ trivial ?_
  refine G.op1 (op_move (Ev.t 3 (.g (.d (.sl 2 (List.map encApi_Range ([(Api_Range.mk ByteArray.empty ByteArray.empty)])))))) rfl) rfl ⟨rfl, trivial⟩ trivial ?_
  obtain ⟨r3, hr3, hF⟩ := bindS hF
  refine G.op1 (op_call (sv := .tup [.g (.agg [.v (.string r3.1.Key), .v (.string r3.1.Value), .v (.bool r3.1.Gone), .v (.int .i64 r3.1.Stamp.N), .v (.int .i64 r3.1.Stamp.Site), .sl 3 (List.map encApi_Dep r3.1.Past)]), .g (.d (.sl 6 (List.map encApi_Version r3.2.1))), bB r3.2.2]) cf12 (ct_queue_Next ([r2, r1]) ([] : (List Api_Dep)) ([(Api_Range.mk ByteArray.empty ByteArray.empty)]) r3 hr3) rfl (EvL.cons (Ev.t 21 (.g (.d (.sl 6 (List.map encApi_Version ([r2, r1])))))) (EvL.cons (Ev.n 3) (EvL.cons (Ev.t 22 (.g (.d (.sl 2 (List.map encApi_Range ([(Api_Range.mk ByteArray.empty ByteArray.empty)])))))) EvL.nil))) rfl) rfl ⟨rfl, rfl, trivial⟩ trivial ?_
  refine G.op1 (op_moveS (t := 23) (sv := .tup [.g (.agg [.v (.string r3.1.Key), .v (.string r3.1.Value), .v (.bool r3.1.Gone), .v (.int .i64 r3.1.Stamp.N), .v (.int .i64 r3.1.Stamp.Site), .sl 3 (List.map encApi_Dep r3.1.Past)]), .g (.d (.sl 6 (List.map encApi_Version r3.2.1))), bB r3.2.2]) rfl) rfl ⟨rfl, trivial⟩ trivial ?_
  refine G.op1 (op_extract (l := [.g (.agg [.v (.string r3.1.Key), .v (.string r3.1.Value), .v (.bool r3.1.Gone), .v (.int .i64 r3.1.Stamp.N), .v (.int .i64 r3.1.Stamp.Site), .sl 3 (List.map encApi_Dep r3.1.Past)]), .g (.d (.sl 6 (List.map encApi_Version r3.2.1))), bB r3.2.2]) (c := .g (.agg [.v (.string r3.1.Key), .v (.string r3.1.Value), .v (.bool r3.1.Gone), .v (.int .i64 r3.1.Stamp.N), .v (.int .i64 r3.1.Stamp.Site), .sl 3 (List.map encApi_Dep r3.1.Past)])) rfl rfl) rfl ⟨rfl, trivial⟩ trivial ?_
  refine G.op1 (op_extract (l := [.g (.agg [.v (.string r3.1.Key), .v (.string r3.1.Value), .v (.bool r3.1.Gone), .v (.int .i64 r3.1.Stamp.N), .v (.int .i64 r3.1.Stamp.Site), .sl 3 (List.map encApi_Dep r3.1.Past)]), .g (.d (.sl 6 (List.map encApi_Version r3.2.1))), bB r3.2.2]) (c := .g (.d (.sl 6 (List.map encApi_Version r3.2.1)))) rfl rfl) rfl ⟨rfl, trivial⟩ trivial ?_
  refine G.op1 (op_extract (l := [.g (.agg [.v (.string r3.1.Key), .v (.string r3.1.Value), .v (.bool r3.1.Gone), .v (.int .i64 r3.1.Stamp.N), .v (.int .i64 r3.1.Stamp.Site), .sl 3 (List.map encApi_Dep r3.1.Past)]), .g (.d (.sl 6 (List.map encApi_Version r3.2.1))), bB r3.2.2]) (c := bB r3.2.2) rfl rfl) rfl ⟨rfl, trivial⟩ trivial ?_
  refine G.op2 (op_alloc (k := 1004) (cs := [bS ByteArray.empty, bS ByteArray.empty, bB false, bI .i64 0, bI .i64 0, .g (.d (.sl 3 (List.map encApi_Dep ([] : (List Api_Dep)))))]) ti32 ⟨.v _ rfl, .v _ rfl, .v _ rfl, .v _ rfl, .v _ rfl, .n 3, trivial⟩ rfl) rfl trivial ⟨rfl, trivial⟩ ?_
  refine G.op3 (op_storeA (cs' := [bS r3.1.Key, bS r3.1.Value, bB r3.1.Gone, bI .i64 r3.1.Stamp.N, bI .i64 r3.1.Stamp.Site, .g (.d (.sl 3 (List.map encApi_Dep r3.1.Past)))]) ti32 rfl rfl (Ev.t 4 (.ptr 1004 0)) (Ev.t 24 (.g (.agg [.v (.string r3.1.Key), .v (.string r3.1.Value), .v (.bool r3.1.Gone), .v (.int .i64 r3.1.Stamp.N), .v (.int .i64 r3.1.Stamp.Site), .sl 3 (List.map encApi_Dep r3.1.Past)])))) rfl ⟨rfl, rfl, trivial⟩ ⟨rfl, trivial⟩ ?_
  refine G.op1 (op_assign (Ev.t 25 (.g (.d (.sl 6 (List.map encApi_Version r3.2.1))))) rfl) rfl ⟨rfl, trivial⟩ trivial ?_
  refine G.op1 (op_assign (Ev.t 26 (bB r3.2.2)) rfl) rfl ⟨rfl, trivial⟩ trivial ?_
  refine G.endOps ?_
  refine G.seq ?_
  refine G.region ?_
  refine G.op1 (op_move (Ev.t 5 (.g (.d (.sl 6 (List.map encApi_Version r3.2.1))))) rfl) rfl ⟨rfl, trivial⟩ trivial ?_
  refine G.op1 (op_fieldP (off' := 3) Try.underlying32 rfl ti29 (by decide) rfl (Ev.t 1 (.ptr 1001 0)) rfl) rfl ⟨rfl, trivial⟩ trivial ?_
  refine G.op1 (op_loadAP (ds := [.v (.int .i64 r1.Stamp.N), .v (.int .i64 r1.Stamp.Site)]) Try.underlying29 rfl ti29 rfl (Ev.t 29 (.ptr 1001 3)) rfl) rfl ⟨rfl, trivial⟩ ⟨rfl, trivial⟩ ?_
  refine G.op1 (op_build (zs := [.v (.string ByteArray.empty), .v (.int .i64 0), .v (.int .i64 0)]) (ds := [.v (.string (ByteArray.mk #[97])), .v (.int .i64 r1.Stamp.N), .v (.int .i64 r1.Stamp.Site)]) Try.underlying39 ti39 (pl39 _ Try.underlying39) ⟨.v _ rfl, .v _ rfl, .v _ rfl, trivial⟩ (EvP.cons (Ev.c _ rfl) (EvP.cons (Ev.t 30 (.g (.agg [.v (.int .i64 r1.Stamp.N), .v (.int .i64 r1.Stamp.Site)]))) EvP.nil)) rfl rfl) rfl ⟨rfl, trivial⟩ trivial ?_
  refine G.op1 (op_buildSlice (es := List.map encApi_Dep [(Api_Dep.mk (ByteArray.mk #[97]) r1.Stamp)]) Try.underlying30 ti39 rfl rfl (EvP.cons (Ev.t 31 (.g (.agg [.v (.string (ByteArray.mk #[97])), .v (.int .i64 r1.Stamp.N), .v (.int .i64 r1.Stamp.Site)]))) EvP.nil) rfl rfl (by simp [encApi_Dep]) rfl) rfl ⟨rfl, trivial⟩ trivial ?_
  refine G.op1 (op_move (Ev.t 3 (.g (.d (.sl 2 (List.map encApi_Range ([(Api_Range.mk ByteArray.empty ByteArray.empty)])))))) rfl) rfl ⟨rfl, trivial⟩ trivial ?_
  obtain ⟨r4, hr4, hF⟩ := bindS hF
  refine G.op1 (op_call (sv := .tup [.g (.agg [.v (.string r4.1.Key), .v (.string r4.1.Value), .v (.bool r4.1.Gone), .v (.int .i64 r4.1.Stamp.N), .v (.int .i64 r4.1.Stamp.Site), .sl 3 (List.map encApi_Dep r4.1.Past)]), .g (.d (.sl 6 (List.map encApi_Version r4.2.1))), bB r4.2.2]) cf12 (ct_queue_Next r3.2.1 ([(Api_Dep.mk (ByteArray.mk #[97]) r1.Stamp)]) ([(Api_Range.mk ByteArray.empty ByteArray.empty)]) r4 hr4) rfl (EvL.cons (Ev.t 28 (.g (.d (.sl 6 (List.map encApi_Version r3.2.1))))) (EvL.cons (Ev.t 32 (.g (.d (.sl 3 (List.map encApi_Dep ([(Api_Dep.mk (ByteArray.mk #[97]) r1.Stamp)])))))) (EvL.cons (Ev.t 33 (.g (.d (.sl 2 (List.map encApi_Range ([(Api_Range.mk ByteArray.empty ByteArray.empty)])))))) EvL.nil))) rfl) rfl ⟨rfl, rfl, rfl, trivial⟩ trivial ?_
  refine G.op1 (op_moveS (t := 34) (sv := .tup [.g (.agg [.v (.string r4.1.Key), .v (.string r4.1.Value), .v (.bool r4.1.Gone), .v (.int .i64 r4.1.Stamp.N), .v (.int .i64 r4.1.Stamp.Site), .sl 3 (List.map encApi_Dep r4.1.Past)]), .g (.d (.sl 6 (List.map encApi_Version r4.2.1))), bB r4.2.2]) rfl) rfl ⟨rfl, trivial⟩ trivial ?_
  refine G.op1 (op_extract (l := [.g (.agg [.v (.string r4.1.Key), .v (.string r4.1.Value), .v (.bool r4.1.Gone), .v (.int .i64 r4.1.Stamp.N), .v (.int .i64 r4.1.Stamp.Site), .sl 3 (List.map encApi_Dep r4.1.Past)]), .g (.d (.sl 6 (List.map encApi_Version r4.2.1))), bB r4.2.2]) (c := .g (.agg [.v (.string r4.1.Key), .v (.string r4.1.Value), .v (.bool r4.1.Gone), .v (.int .i64 r4.1.Stamp.N), .v (.int .i64 r4.1.Stamp.Site), .sl 3 (List.map encApi_Dep r4.1.Past)])) rfl rfl) rfl ⟨rfl, trivial⟩ trivial ?_
  refine G.op1 (op_extract (l := [.g (.agg [.v (.string r4.1.Key), .v (.string r4.1.Value), .v (.bool r4.1.Gone), .v (.int .i64 r4.1.Stamp.N), .v (.int .i64 r4.1.Stamp.Site), .sl 3 (List.map encApi_Dep r4.1.Past)]), .g (.d (.sl 6 (List.map encApi_Version r4.2.1))), bB r4.2.2]) (c := .g (.d (.sl 6 (List.map encApi_Version r4.2.1)))) rfl rfl) rfl ⟨rfl, trivial⟩ trivial ?_
  refine G.op1 (op_extract (l := [.g (.agg [.v (.string r4.1.Key), .v (.string r4.1.Value), .v (.bool r4.1.Gone), .v (.int .i64 r4.1.Stamp.N), .v (.int .i64 r4.1.Stamp.Site), .sl 3 (List.map encApi_Dep r4.1.Past)]), .g (.d (.sl 6 (List.map encApi_Version r4.2.1))), bB r4.2.2]) (c := bB r4.2.2) rfl rfl) rfl ⟨rfl, trivial⟩ trivial ?_
  refine G.op2 (op_alloc (k := 1007) (cs := [bS ByteArray.empty, bS ByteArray.empty, bB false, bI .i64 0, bI .i64 0, .g (.d (.sl 3 (List.map encApi_Dep ([] : (List Api_Dep)))))]) ti32 ⟨.v _ rfl, .v _ rfl, .v _ rfl, .v _ rfl, .v _ rfl, .n 3, trivial⟩ rfl) rfl trivial ⟨rfl, trivial⟩ ?_
  refine G.op3 (op_storeA (cs' := [bS r4.1.Key, bS r4.1.Value, bB r4.1.Gone, bI .i64 r4.1.Stamp.N, bI .i64 r4.1.Stamp.Site, .g (.d (.sl 3 (List.map encApi_Dep r4.1.Past)))]) ti32 rfl rfl (Ev.t 7 (.ptr 1007 0)) (Ev.t 35 (.g (.agg [.v (.string r4.1.Key), .v (.string r4.1.Value), .v (.bool r4.1.Gone), .v (.int .i64 r4.1.Stamp.N), .v (.int .i64 r4.1.Stamp.Site), .sl 3 (List.map encApi_Dep r4.1.Past)])))) rfl ⟨rfl, rfl, trivial⟩ ⟨rfl, trivial⟩ ?_
  refine G.op1 (op_assign (Ev.t 36 (.g (.d (.sl 6 (List.map encApi_Version r4.2.1))))) rfl) rfl ⟨rfl, trivial⟩ trivial ?_
  refine G.op1 (op_assign (Ev.t 37 (bB r4.2.2)) rfl) rfl ⟨rfl, trivial⟩ trivial ?_
  refine G.endOps ?_
  refine G.seq ?_
  refine G.region ?_
  refine G.op1 (op_move (Ev.t 6 (bB r3.2.2)) rfl) rfl ⟨rfl, trivial⟩ trivial ?_
  refine G.op1 (op_move (Ev.t 38 (bB r3.2.2)) rfl) rfl ⟨rfl, trivial⟩ trivial ?_
  refine G.joinL (T := Bool) 2 (fun y5 => ⟨[(2, .one (.ptr 1002 0)), (3, .one (.g (.d (.sl 2 (List.map encApi_Range ([(Api_Range.mk ByteArray.empty ByteArray.empty)])))))), (4, .one (.ptr 1004 0)), (7, .one (.ptr 1007 0)), (8, .one (.g (.d (.sl 6 (List.map encApi_Version r4.2.1))))), (41, .one (bB y5))], [(1002, some (.blk 32 [bS r2.Key, bS r2.Value, bB r2.Gone, bI .i64 r2.Stamp.N, bI .i64 r2.Stamp.Site, .g (.d (.sl 3 (List.map encApi_Dep r2.Past)))])), (1004, some (.blk 32 [bS r3.1.Key, bS r3.1.Value, bB r3.1.Gone, bI .i64 r3.1.Stamp.N, bI .i64 r3.1.Stamp.Site, .g (.d (.sl 3 (List.map encApi_Dep r3.1.Past)))])), (1007, some (.blk 32 [bS r4.1.Key, bS r4.1.Value, bB r4.1.Gone, bI .i64 r4.1.Stamp.N, bI .i64 r4.1.Stamp.Site, .g (.d (.sl 3 (List.map encApi_Dep r4.1.Past)))]))]⟩) (fun y5 => law14_awake_k1 r2 r3 r4 y5 = some r) (fun y5 hF => ?_) (fun J17 => ?_)
  · unfold law14_awake_k1 at hF
    refine G.op1 (op_move (Ev.t 41 (bB y5)) rfl) rfl ⟨rfl, trivial⟩ trivial ?_
    refine G.joinL (T := Bool) 4 (fun y6 => ⟨[(2, .one (.ptr 1002 0)), (3, .one (.g (.d (.sl 2 (List.map encApi_Range ([(Api_Range.mk ByteArray.empty ByteArray.empty)])))))), (7, .one (.ptr 1007 0)), (8, .one (.g (.d (.sl 6 (List.map encApi_Version r4.2.1))))), (46, .one (bB y6))], [(1002, some (.blk 32 [bS r2.Key, bS r2.Value, bB r2.Gone, bI .i64 r2.Stamp.N, bI .i64 r2.Stamp.Site, .g (.d (.sl 3 (List.map encApi_Dep r2.Past)))])), (1007, some (.blk 32 [bS r4.1.Key, bS r4.1.Value, bB r4.1.Gone, bI .i64 r4.1.Stamp.N, bI .i64 r4.1.Stamp.Site, .g (.d (.sl 3 (List.map encApi_Dep r4.1.Past)))]))]⟩) (fun y6 => law14_awake_k2 r2 r4 y6 = some r) (fun y6 hF => ?_) (fun J15 => ?_)
    · unfold law14_awake_k2 at hF
      refine G.op1 (op_move (Ev.t 46 (bB y6)) rfl) rfl ⟨rfl, trivial⟩ trivial ?_
      refine G.joinL (T := Bool) 4 (fun y7 => ⟨[(2, .one (.ptr 1002 0)), (3, .one (.g (.d (.sl 2 (List.map encApi_Range ([(Api_Range.mk ByteArray.empty ByteArray.empty)])))))), (8, .one (.g (.d (.sl 6 (List.map encApi_Version r4.2.1))))), (51, .one (bB y7))], [(1002, some (.blk 32 [bS r2.Key, bS r2.Value, bB r2.Gone, bI .i64 r2.Stamp.N, bI .i64 r2.Stamp.Site, .g (.d (.sl 3 (List.map encApi_Dep r2.Past)))]))]⟩) (fun y7 => law14_awake_k3 r2 r4 y7 = some r) (fun y7 hF => ?_) (fun J13 => ?_)
      · unfold law14_awake_k3 at hF
        refine G.op1 (op_move (Ev.t 51 (bB y7)) rfl) rfl ⟨rfl, trivial⟩ trivial ?_
        refine G.joinL (T := Bool) 4 (fun y8 => ⟨[(2, .one (.ptr 1002 0)), (3, .one (.g (.d (.sl 2 (List.map encApi_Range ([(Api_Range.mk ByteArray.empty ByteArray.empty)])))))), (56, .one (bB y8))], [(1002, some (.blk 32 [bS r2.Key, bS r2.Value, bB r2.Gone, bI .i64 r2.Stamp.N, bI .i64 r2.Stamp.Site, .g (.d (.sl 3 (List.map encApi_Dep r2.Past)))]))]⟩) (fun y8 => law14_awake_k4 r2 y8 = some r) (fun y8 hF => ?_) (fun J11 => ?_)
        · unfold law14_awake_k4 at hF
          refine G.op1 (op_move (Ev.t 56 (bB y8)) rfl) rfl ⟨rfl, trivial⟩ trivial ?_
          refine ifS hF (fun hc9 hF => ?_) (fun hc9 hF => ?_)
          · refine G.known (t := 57) hc9 rfl ?_
            refine G.opG1 (op_loadAP (ds := [.v (.string r2.Key), .v (.string r2.Value), .v (.bool r2.Gone), .v (.int .i64 r2.Stamp.N), .v (.int .i64 r2.Stamp.Site), .sl 3 (List.map encApi_Dep r2.Past)]) Try.underlying32 rfl ti32 rfl (Ev.t 2 (.ptr 1002 0)) rfl) rfl rfl rfl ⟨rfl, trivial⟩ ⟨rfl, trivial⟩ ?_
            refine G.opG1 (op_move (Ev.t 3 (.g (.d (.sl 2 (List.map encApi_Range ([(Api_Range.mk ByteArray.empty ByteArray.empty)])))))) rfl) rfl rfl rfl ⟨rfl, trivial⟩ trivial ?_
            obtain ⟨r10, hr10, hF⟩ := bindS hF
            refine G.opG1 (op_callQ (sv := .one (bB r10)) cf20 (ct_queue_Check r2 ([] : (List Api_Dep)) ([(Api_Range.mk ByteArray.empty ByteArray.empty)]) r10 hr10) rfl rfl (EvQL.cons (EvQ.g (Ev.t 58 (.g (.agg [.v (.string r2.Key), .v (.string r2.Value), .v (.bool r2.Gone), .v (.int .i64 r2.Stamp.N), .v (.int .i64 r2.Stamp.Site), .sl 3 (List.map encApi_Dep r2.Past)])))) (EvQL.cons (EvQ.g (Ev.n 3)) (EvQL.cons (EvQ.g (Ev.t 59 (.g (.d (.sl 2 (List.map encApi_Range ([(Api_Range.mk ByteArray.empty ByteArray.empty)]))))))) EvQL.nil))) rfl) rfl rfl rfl ⟨rfl, rfl, trivial⟩ trivial ?_
            refine G.opG1 (op_not (Ev.t 60 (bB r10)) rfl) rfl rfl rfl ⟨rfl, trivial⟩ trivial ?_
            refine G.op1 (op_pickT (Ev.t 57 (bB true)) (Ev.t 61 (bB (!r10))) rfl) rfl ⟨rfl, rfl, trivial⟩ trivial ?_
            refine G.op1 (op_assign (Ev.t 62 (bB (!r10))) rfl) rfl ⟨rfl, trivial⟩ trivial ?_
            refine G.endOps ?_
            cases hF
            exact G.ret1 Try.results9 (RVar.tmp 0 _) ⟨rfl, trivial⟩ trivial
          · refine G.known (t := 57) hc9 rfl ?_
            refine G.opN1 rfl rfl rfl rfl rfl ?_
            refine G.opN1 rfl rfl rfl rfl rfl ?_
            refine G.opN1 rfl rfl rfl rfl rfl ?_
            refine G.opN1 rfl rfl rfl rfl rfl ?_
            refine G.op1 (op_pickF (Ev.t 57 (bB false)) (Ev.c _ rfl) rfl) rfl ⟨rfl, trivial⟩ trivial ?_
            refine G.op1 (op_assign (Ev.t 62 (bB false)) rfl) rfl ⟨rfl, trivial⟩ trivial ?_
            refine G.endOps ?_
            cases hF
            exact G.ret1 Try.results9 (RVar.tmp 0 _) ⟨rfl, trivial⟩ trivial
        refine ifS hF (fun hc12 hF => ?_) (fun hc12 hF => ?_)
        · refine G.known (t := 52) hc12 rfl ?_
          refine G.opG1 (op_move (Ev.t 8 (.g (.d (.sl 6 (List.map encApi_Version r4.2.1))))) rfl) rfl rfl rfl ⟨rfl, trivial⟩ trivial ?_
          refine G.opG1 (OpL.cast (op_lenD Try.underlying24 (Ev.t 53 (.g (.d (.sl 6 (List.map encApi_Version r4.2.1))))) rfl) (by rw [List.length_map])) rfl rfl rfl ⟨rfl, trivial⟩ trivial ?_
          refine G.opG1 (op_eqI (Ev.t 54 (bI .i64 (r4.2.1.length : Int))) (Ev.c _ rfl) rfl) rfl rfl rfl ⟨rfl, trivial⟩ trivial ?_
          refine G.op1 (op_pickT (Ev.t 52 (bB true)) (Ev.t 55 (bB (decide ((r4.2.1.length : Int) = 0)))) rfl) rfl ⟨rfl, rfl, trivial⟩ trivial ?_
          exact G.arr (J11 (decide ((r4.2.1.length : Int) = 0)) hF) ⟨rfl, rfl, rfl, trivial⟩ ⟨rfl, trivial⟩ rfl
        · refine G.known (t := 52) hc12 rfl ?_
          refine G.opN1 rfl rfl rfl rfl rfl ?_
          refine G.opN1 rfl rfl rfl rfl rfl ?_
          refine G.opN1 rfl rfl rfl rfl rfl ?_
          refine G.op1 (op_pickF (Ev.t 52 (bB false)) (Ev.c _ rfl) rfl) rfl ⟨rfl, trivial⟩ trivial ?_
          exact G.arr (J11 false hF) ⟨rfl, rfl, rfl, trivial⟩ ⟨rfl, trivial⟩ rfl
      refine ifS hF (fun hc14 hF => ?_) (fun hc14 hF => ?_)
      · refine G.known (t := 47) hc14 rfl ?_
        refine G.opG1 (op_fieldP (off' := 0) Try.underlying32 rfl ti9 (by decide) rfl (Ev.t 7 (.ptr 1007 0)) rfl) rfl rfl rfl ⟨rfl, trivial⟩ trivial ?_
        refine G.opG1 (op_load1P (c := bS r4.1.Key) Try.underlying9 rfl rfl (Ev.t 48 (.ptr 1007 0)) rfl) rfl rfl rfl ⟨rfl, trivial⟩ ⟨rfl, trivial⟩ ?_
        refine G.opG1 (op_eqS (Ev.t 49 (bS r4.1.Key)) (Ev.c _ rfl) rfl) rfl rfl rfl ⟨rfl, trivial⟩ trivial ?_
        refine G.op1 (op_pickT (Ev.t 47 (bB true)) (Ev.t 50 (bB (seq r4.1.Key (ByteArray.mk #[98])))) rfl) rfl ⟨rfl, rfl, trivial⟩ trivial ?_
        exact G.arr (J13 (seq r4.1.Key (ByteArray.mk #[98])) hF) ⟨rfl, rfl, rfl, rfl, trivial⟩ ⟨rfl, trivial⟩ rfl
      · refine G.known (t := 47) hc14 rfl ?_
        refine G.opN1 rfl rfl rfl rfl rfl ?_
        refine G.opN1 rfl rfl rfl rfl rfl ?_
        refine G.opN1 rfl rfl rfl rfl rfl ?_
        refine G.op1 (op_pickF (Ev.t 47 (bB false)) (Ev.c _ rfl) rfl) rfl ⟨rfl, trivial⟩ trivial ?_
        exact G.arr (J13 false hF) ⟨rfl, rfl, rfl, rfl, trivial⟩ ⟨rfl, trivial⟩ rfl
    refine ifS hF (fun hc16 hF => ?_) (fun hc16 hF => ?_)
    · refine G.known (t := 42) hc16 rfl ?_
      refine G.opG1 (op_fieldP (off' := 0) Try.underlying32 rfl ti9 (by decide) rfl (Ev.t 4 (.ptr 1004 0)) rfl) rfl rfl rfl ⟨rfl, trivial⟩ trivial ?_
      refine G.opG1 (op_load1P (c := bS r3.1.Key) Try.underlying9 rfl rfl (Ev.t 43 (.ptr 1004 0)) rfl) rfl rfl rfl ⟨rfl, trivial⟩ ⟨rfl, trivial⟩ ?_
      refine G.opG1 (op_eqS (Ev.t 44 (bS r3.1.Key)) (Ev.c _ rfl) rfl) rfl rfl rfl ⟨rfl, trivial⟩ trivial ?_
      refine G.op1 (op_pickT (Ev.t 42 (bB true)) (Ev.t 45 (bB (seq r3.1.Key (ByteArray.mk #[97])))) rfl) rfl ⟨rfl, rfl, trivial⟩ trivial ?_
      exact G.arr (J15 (seq r3.1.Key (ByteArray.mk #[97])) hF) ⟨rfl, rfl, rfl, rfl, rfl, trivial⟩ ⟨rfl, rfl, trivial⟩ rfl
    · refine G.known (t := 42) hc16 rfl ?_
      refine G.opN1 rfl rfl rfl rfl rfl ?_
      refine G.opN1 rfl rfl rfl rfl rfl ?_
      refine G.opN1 rfl rfl rfl rfl rfl ?_
      refine G.op1 (op_pickF (Ev.t 42 (bB false)) (Ev.c _ rfl) rfl) rfl ⟨rfl, trivial⟩ trivial ?_
      exact G.arr (J15 false hF) ⟨rfl, rfl, rfl, rfl, rfl, trivial⟩ ⟨rfl, rfl, trivial⟩ rfl
  refine ifS hF (fun hc18 hF => ?_) (fun hc18 hF => ?_)
  · refine G.known (t := 39) hc18 rfl ?_
    refine G.opG1 (op_move (Ev.t 9 (bB r4.2.2)) rfl) rfl rfl rfl ⟨rfl, trivial⟩ trivial ?_
    refine G.op1 (op_pickT (Ev.t 39 (bB true)) (Ev.t 40 (bB r4.2.2)) rfl) rfl ⟨rfl, rfl, trivial⟩ trivial ?_
    exact G.arr (J17 r4.2.2 hF) ⟨rfl, rfl, rfl, rfl, rfl, rfl, trivial⟩ ⟨rfl, rfl, rfl, trivial⟩ rfl
  · refine G.known (t := 39) hc18 rfl ?_
    refine G.opN1 rfl rfl rfl rfl rfl ?_
    refine G.op1 (op_pickF (Ev.t 39 (bB false)) (Ev.c _ rfl) rfl) rfl ⟨rfl, trivial⟩ trivial ?_
    exact G.arr (J17 false hF) ⟨rfl, rfl, rfl, rfl, rfl, rfl, trivial⟩ ⟨rfl, rfl, rfl, trivial⟩ rfl


set_option maxRecDepth 20000 in
set_option maxHeartbeats 2000000 in
theorem ct_ref02_long (c_0 : Int) (r : Int) (hF : ref02_long c_0 = some r) : Ct Try.prog 61 [.g (.d (.v (.int .u8 c_0)))] (.one (.d (.v (.int .i64 r)))) := by
  unfold ref02_long at hF
  refine Ct.intro Try.func61 rfl Try.ntmps61 rfl rfl fun M w => ?_
  refine G.seq ?_
  refine G.region ?_
  refine G.op1 (op_assign (Ev.c _ rfl) rfl) rfl trivial trivial ?_
  refine G.endOps ?_
  refine G.seq ?_
  refine G.seq ?_
  refine G.region ?_
  refine G.op1 (op_move (Ev.t 0 (bI .u8 c_0)) rfl) rfl ⟨rfl, trivial⟩ trivial ?_
  refine G.op1 (op_lss (Ev.t 3 (bI .u8 c_0)) (Ev.c _ rfl) rfl) rfl ⟨rfl, trivial⟩ trivial ?_
  refine G.endOps ?_
  refine ifS hF (fun hc1 hF => ?_) (fun hc1 hF => ?_)
  · refine G.cond rfl (fun _ => ?_) (fun hx => by rw [hc1] at hx; cases hx)
    refine G.seq ?_
    refine G.region ?_
    refine G.op1 (op_assign (Ev.c _ rfl) rfl) rfl trivial trivial ?_
    refine G.endOps ?_
    cases hF
    exact G.ret1 Try.results61 (RVar.tmp 2 _) ⟨rfl, trivial⟩ trivial
  · refine G.cond rfl (fun hx => by rw [hc1] at hx; cases hx) (fun _ => ?_)
    refine G.skip ?_
    refine G.seq ?_
    refine G.seq ?_
    refine G.joinC (T := Bool) (fun y2 => ⟨[(0, .one (bI .u8 c_0)), (10, .one (bB y2))], []⟩) (fun y2 => ref02_long_k1 c_0 y2 = some r) (fun y2 hF => ?_) (fun J10 => ?_)
    · unfold ref02_long_k1 at hF
      refine ifS hF (fun hc3 hF => ?_) (fun hc3 hF => ?_)
      · refine G.cond rfl (fun _ => ?_) (fun hx => by rw [hc3] at hx; cases hx)
        refine G.seq ?_
        refine G.region ?_
        refine G.op1 (op_assign (Ev.c _ rfl) rfl) rfl trivial trivial ?_
        refine G.endOps ?_
        cases hF
        exact G.ret1 Try.results61 (RVar.tmp 2 _) ⟨rfl, trivial⟩ trivial
      · refine G.cond rfl (fun hx => by rw [hc3] at hx; cases hx) (fun _ => ?_)
        refine G.skip ?_
        refine G.seq ?_
        refine G.seq ?_
        refine G.joinC (T := Bool) (fun y4 => ⟨[(0, .one (bI .u8 c_0)), (16, .one (bB y4))], []⟩) (fun y4 => ref02_long_k2 c_0 y4 = some r) (fun y4 hF => ?_) (fun J8 => ?_)
        · unfold ref02_long_k2 at hF
          refine ifS hF (fun hc5 hF => ?_) (fun hc5 hF => ?_)
          · refine G.cond rfl (fun _ => ?_) (fun hx => by rw [hc5] at hx; cases hx)
            refine G.seq ?_
            refine G.region ?_
            refine G.op1 (op_assign (Ev.c _ rfl) rfl) rfl trivial trivial ?_
            refine G.endOps ?_
            cases hF
            exact G.ret1 Try.results61 (RVar.tmp 2 _) ⟨rfl, trivial⟩ trivial
          · refine G.cond rfl (fun hx => by rw [hc5] at hx; cases hx) (fun _ => ?_)
            refine G.skip ?_
            refine G.seq ?_
            refine G.seq ?_
            refine G.region ?_
            refine G.op1 (op_move (Ev.t 0 (bI .u8 c_0)) rfl) rfl ⟨rfl, trivial⟩ trivial ?_
            refine G.op1 (op_geq (Ev.t 17 (bI .u8 c_0)) (Ev.c _ rfl) rfl) rfl ⟨rfl, trivial⟩ trivial ?_
            refine G.op1 (op_move (Ev.t 18 (bB (decide (240 ≤ c_0)))) rfl) rfl ⟨rfl, trivial⟩ trivial ?_
            refine ifS hF (fun hc6 hF => ?_) (fun hc6 hF => ?_)
            · refine G.known (t := 19) hc6 rfl ?_
              refine G.opG1 (op_move (Ev.t 0 (bI .u8 c_0)) rfl) rfl rfl rfl ⟨rfl, trivial⟩ trivial ?_
              refine G.opG1 (op_leq (Ev.t 20 (bI .u8 c_0)) (Ev.c _ rfl) rfl) rfl rfl rfl ⟨rfl, trivial⟩ trivial ?_
              refine G.op1 (op_pickT (Ev.t 19 (bB true)) (Ev.t 21 (bB (decide (c_0 ≤ 244)))) rfl) rfl ⟨rfl, rfl, trivial⟩ trivial ?_
              refine G.endOps ?_
              refine ifS hF (fun hc7 hF => ?_) (fun hc7 hF => ?_)
              · refine G.cond rfl (fun _ => ?_) (fun hx => by rw [hc7] at hx; cases hx)
                refine G.seq ?_
                refine G.region ?_
                refine G.op1 (op_assign (Ev.c _ rfl) rfl) rfl trivial trivial ?_
                refine G.endOps ?_
                cases hF
                exact G.ret1 Try.results61 (RVar.tmp 2 _) ⟨rfl, trivial⟩ trivial
              · refine G.cond rfl (fun hx => by rw [hc7] at hx; cases hx) (fun _ => ?_)
                refine G.skip ?_
                refine G.seq ?_
                refine G.region ?_
                refine G.op1 (op_assign (Ev.c _ rfl) rfl) rfl trivial trivial ?_
                refine G.endOps ?_
                cases hF
                exact G.ret1 Try.results61 (RVar.tmp 2 _) ⟨rfl, trivial⟩ trivial
            · refine G.known (t := 19) hc6 rfl ?_
              refine G.opN1 rfl rfl rfl rfl rfl ?_
              refine G.opN1 rfl rfl rfl rfl rfl ?_
              refine G.op1 (op_pickF (Ev.t 19 (bB false)) (Ev.c _ rfl) rfl) rfl ⟨rfl, trivial⟩ trivial ?_
              refine G.endOps ?_
              refine G.condF rfl ?_
              refine G.skip ?_
              refine G.seq ?_
              refine G.region ?_
              refine G.op1 (op_assign (Ev.c _ rfl) rfl) rfl trivial trivial ?_
              refine G.endOps ?_
              cases hF
              exact G.ret1 Try.results61 (RVar.tmp 2 _) ⟨rfl, trivial⟩ trivial
        refine G.region ?_
        refine G.op1 (op_move (Ev.t 0 (bI .u8 c_0)) rfl) rfl ⟨rfl, trivial⟩ trivial ?_
        refine G.op1 (op_geq (Ev.t 11 (bI .u8 c_0)) (Ev.c _ rfl) rfl) rfl ⟨rfl, trivial⟩ trivial ?_
        refine G.op1 (op_move (Ev.t 12 (bB (decide (224 ≤ c_0)))) rfl) rfl ⟨rfl, trivial⟩ trivial ?_
        refine ifS hF (fun hc9 hF => ?_) (fun hc9 hF => ?_)
        · refine G.known (t := 13) hc9 rfl ?_
          refine G.opG1 (op_move (Ev.t 0 (bI .u8 c_0)) rfl) rfl rfl rfl ⟨rfl, trivial⟩ trivial ?_
          refine G.opG1 (op_leq (Ev.t 14 (bI .u8 c_0)) (Ev.c _ rfl) rfl) rfl rfl rfl ⟨rfl, trivial⟩ trivial ?_
          refine G.op1 (op_pickT (Ev.t 13 (bB true)) (Ev.t 15 (bB (decide (c_0 ≤ 239)))) rfl) rfl ⟨rfl, rfl, trivial⟩ trivial ?_
          refine G.endOps ?_
          exact G.arr (J8 (decide (c_0 ≤ 239)) hF) ⟨rfl, rfl, trivial⟩ trivial rfl
        · refine G.known (t := 13) hc9 rfl ?_
          refine G.opN1 rfl rfl rfl rfl rfl ?_
          refine G.opN1 rfl rfl rfl rfl rfl ?_
          refine G.op1 (op_pickF (Ev.t 13 (bB false)) (Ev.c _ rfl) rfl) rfl ⟨rfl, trivial⟩ trivial ?_
          refine G.endOps ?_
          exact G.arr (J8 false hF) ⟨rfl, rfl, trivial⟩ trivial rfl
    refine G.region ?_
    refine G.op1 (op_move (Ev.t 0 (bI .u8 c_0)) rfl) rfl ⟨rfl, trivial⟩ trivial ?_
    refine G.op1 (op_geq (Ev.t 5 (bI .u8 c_0)) (Ev.c _ rfl) rfl) rfl ⟨rfl, trivial⟩ trivial ?_
    refine G.op1 (op_move (Ev.t 6 (bB (decide (194 ≤ c_0)))) rfl) rfl ⟨rfl, trivial⟩ trivial ?_
    refine ifS hF (fun hc11 hF => ?_) (fun hc11 hF => ?_)
    · refine G.known (t := 7) hc11 rfl ?_
      refine G.opG1 (op_move (Ev.t 0 (bI .u8 c_0)) rfl) rfl rfl rfl ⟨rfl, trivial⟩ trivial ?_
      refine G.opG1 (op_leq (Ev.t 8 (bI .u8 c_0)) (Ev.c _ rfl) rfl) rfl rfl rfl ⟨rfl, trivial⟩ trivial ?_
      refine G.op1 (op_pickT (Ev.t 7 (bB true)) (Ev.t 9 (bB (decide (c_0 ≤ 223)))) rfl) rfl ⟨rfl, rfl, trivial⟩ trivial ?_
      refine G.endOps ?_
      exact G.arr (J10 (decide (c_0 ≤ 223)) hF) ⟨rfl, rfl, trivial⟩ trivial rfl
    · refine G.known (t := 7) hc11 rfl ?_
      refine G.opN1 rfl rfl rfl rfl rfl ?_
      refine G.opN1 rfl rfl rfl rfl rfl ?_
      refine G.op1 (op_pickF (Ev.t 7 (bB false)) (Ev.c _ rfl) rfl) rfl ⟨rfl, trivial⟩ trivial ?_
      refine G.endOps ?_
      exact G.arr (J10 false hF) ⟨rfl, rfl, trivial⟩ trivial rfl


set_option maxRecDepth 20000 in
set_option maxHeartbeats 2000000 in
theorem ct_ref02_Runes (s_0 : ByteArray) (r : Int) (hF : ref02_Runes s_0 = some r) : Ct Try.prog 48 [.g (.d (.v (.string s_0)))] (.one (.d (.v (.int .i64 r)))) := by
  unfold ref02_Runes at hF
  refine Ct.intro Try.func48 rfl Try.ntmps48 rfl rfl fun M w => ?_
  refine G.seq ?_
  refine G.region ?_
  refine G.op1 (op_assign (Ev.c _ rfl) rfl) rfl trivial trivial ?_
  refine G.endOps ?_
  refine G.seq ?_
  refine G.region ?_
  refine G.op1 (op_assign (Ev.c _ rfl) rfl) rfl trivial trivial ?_
  refine G.endOps ?_
  refine G.seq ?_
  refine G.seq ?_
  refine G.region ?_
  refine G.op1 (op_assign (Ev.c _ rfl) rfl) rfl trivial trivial ?_
  refine G.endOps ?_
  refine G.joinC (T := Int) (fun y1 => ⟨[(3, .one (bI .i64 y1))], []⟩) (fun y1 => ref02_Runes_k1 y1 = some r) (fun y1 hF => ?_) (fun J2 => ?_)
  · unfold ref02_Runes_k1 at hF
    refine G.seq ?_
    refine G.region ?_
    refine G.op1 (op_move (Ev.t 3 (bI .i64 y1)) rfl) rfl ⟨rfl, trivial⟩ trivial ?_
    refine G.op1 (op_assign (Ev.t 99 (bI .i64 y1)) rfl) rfl ⟨rfl, trivial⟩ trivial ?_
    refine G.endOps ?_
    cases hF
    exact G.ret1 Try.results48 (RVar.tmp 2 _) ⟨rfl, trivial⟩ trivial
  refine G.block ?_
  refine G.keep (sl' := [(0, .one (bS s_0)), (3, .one (bI .i64 0)), (4, .one (bI .i64 0))]) (hp' := []) ⟨rfl, rfl, rfl, trivial⟩ trivial rfl ?_
  refine G.loopF (fun (v3 : Int × Int) => ⟨[(0, .one (bS s_0)), (3, .one (bI .i64 v3.1)), (4, .one (bI .i64 v3.2))], []⟩) hF rfl (fun K6 again5 v3 J4 hF => ?_)
  unfold ref02_Runes_l2 at hF
  refine G.seq ?_
  refine G.seq ?_
  refine G.region ?_
  refine G.op1 (op_move (Ev.t 4 (bI .i64 v3.2)) rfl) rfl ⟨rfl, trivial⟩ trivial ?_
  refine G.op1 (op_move (Ev.t 0 (bS s_0)) rfl) rfl ⟨rfl, trivial⟩ trivial ?_
  refine G.op1 (op_lenS Try.underlying9 (Ev.t 8 (bS s_0)) rfl) rfl ⟨rfl, trivial⟩ trivial ?_
  refine G.op1 (op_lss (Ev.t 7 (bI .i64 v3.2)) (Ev.t 9 (bI .i64 (s_0.size : Int))) rfl) rfl ⟨rfl, rfl, trivial⟩ trivial ?_
  refine G.endOps ?_
  refine ifS hF (fun hc7 hF => ?_) (fun hc7 hF => ?_)
  · refine G.cond rfl (fun _ => ?_) (fun hx => by rw [hc7] at hx; cases hx)
    refine G.skip ?_
    refine G.block ?_
    refine G.seq ?_
    refine G.region ?_
    refine G.op1 (op_move (Ev.t 0 (bS s_0)) rfl) rfl ⟨rfl, trivial⟩ trivial ?_
    refine G.op1 (op_move (Ev.t 4 (bI .i64 v3.2)) rfl) rfl ⟨rfl, trivial⟩ trivial ?_
    obtain ⟨b8, hb8, hF⟩ := bindS hF
    refine G.op1 (op_indexS Try.underlying9 (sidx_ok hb8).1 (sidx_ok hb8).2 (Ev.t 11 (bS s_0)) (Ev.t 12 (bI .i64 v3.2)) rfl) rfl ⟨rfl, rfl, trivial⟩ trivial ?_
    obtain ⟨r9, hr9, hF⟩ := bindS hF
    refine G.op1 (op_callQ (sv := .one (bI .i64 r9)) cf61 (ct_ref02_long (b8.toNat : Int) r9 hr9) rfl rfl (EvQL.cons (EvQ.g (Ev.t 13 (bI .u8 (b8.toNat : Int)))) EvQL.nil) rfl) rfl ⟨rfl, trivial⟩ trivial ?_
    refine G.op1 (op_assign (Ev.t 14 (bI .i64 r9)) rfl) rfl ⟨rfl, trivial⟩ trivial ?_
    refine G.endOps ?_
    refine G.seq ?_
    refine G.seq ?_
    refine G.joinC (T := Bool) (fun y10 => ⟨[(0, .one (bS s_0)), (3, .one (bI .i64 v3.1)), (4, .one (bI .i64 v3.2)), (5, .one (bI .i64 r9)), (24, .one (bB y10))], []⟩) (fun y10 => ref02_Runes_k3 s_0 again5 v3 r9 y10 = some r) (fun y10 hF => ?_) (fun J47 => ?_)
    · unfold ref02_Runes_k3 at hF
      refine ifS hF (fun hc11 hF => ?_) (fun hc11 hF => ?_)
      · refine G.cond rfl (fun _ => ?_) (fun hx => by rw [hc11] at hx; cases hx)
        refine G.seq ?_
        refine G.region ?_
        refine G.op1 (op_assign (Ev.c _ rfl) rfl) rfl trivial trivial ?_
        refine G.endOps ?_
        cases hF
        exact G.ret1 Try.results48 (RVar.tmp 2 _) ⟨rfl, trivial⟩ trivial
      · refine G.cond rfl (fun hx => by rw [hc11] at hx; cases hx) (fun _ => ?_)
        refine G.skip ?_
        refine G.seq ?_
        refine G.seq ?_
        refine G.region ?_
        refine G.op1 (op_assign (Ev.c _ rfl) rfl) rfl trivial trivial ?_
        refine G.endOps ?_
        refine G.joinC (T := Unit) (fun y12 => ⟨[(0, .one (bS s_0)), (3, .one (bI .i64 v3.1)), (4, .one (bI .i64 v3.2)), (5, .one (bI .i64 r9))], []⟩) (fun y12 => ref02_Runes_k4 s_0 again5 v3 r9 y12 = some r) (fun y12 hF => ?_) (fun J37 => ?_)
        · unfold ref02_Runes_k4 at hF
          refine G.seq ?_
          refine G.seq ?_
          refine G.joinC (T := Bool) (fun y13 => ⟨[(0, .one (bS s_0)), (3, .one (bI .i64 v3.1)), (4, .one (bI .i64 v3.2)), (5, .one (bI .i64 r9)), (93, .one (bB y13))], []⟩) (fun y13 => ref02_Runes_k5 again5 v3 r9 y13 = some r) (fun y13 hF => ?_) (fun J15 => ?_)
          · unfold ref02_Runes_k5 at hF
            refine ifS hF (fun hc14 hF => ?_) (fun hc14 hF => ?_)
            · refine G.cond rfl (fun _ => ?_) (fun hx => by rw [hc14] at hx; cases hx)
              refine G.seq ?_
              refine G.region ?_
              refine G.op1 (op_assign (Ev.c _ rfl) rfl) rfl trivial trivial ?_
              refine G.endOps ?_
              cases hF
              exact G.ret1 Try.results48 (RVar.tmp 2 _) ⟨rfl, trivial⟩ trivial
            · refine G.cond rfl (fun hx => by rw [hc14] at hx; cases hx) (fun _ => ?_)
              refine G.skip ?_
              refine G.seq ?_
              refine G.region ?_
              refine G.op1 (op_move (Ev.t 4 (bI .i64 v3.2)) rfl) rfl ⟨rfl, trivial⟩ trivial ?_
              refine G.op1 (op_move (Ev.t 5 (bI .i64 r9)) rfl) rfl ⟨rfl, trivial⟩ trivial ?_
              refine G.op1 (op_add (Ev.t 94 (bI .i64 v3.2)) (Ev.t 95 (bI .i64 r9)) rfl) rfl ⟨rfl, rfl, trivial⟩ trivial ?_
              refine G.op1 (op_assign (Ev.t 96 (bI .i64 (IntKind.wrap .i64 (v3.2 + r9)))) rfl) rfl ⟨rfl, trivial⟩ trivial ?_
              refine G.endOps ?_
              refine G.region ?_
              refine G.op1 (op_move (Ev.t 3 (bI .i64 v3.1)) rfl) rfl ⟨rfl, trivial⟩ trivial ?_
              refine G.op1 (op_add (Ev.t 97 (bI .i64 v3.1)) (Ev.c _ rfl) rfl) rfl ⟨rfl, trivial⟩ trivial ?_
              refine G.op1 (op_assign (Ev.t 98 (bI .i64 (IntKind.wrap .i64 (v3.1 + 1)))) rfl) rfl ⟨rfl, trivial⟩ trivial ?_
              refine G.endOps ?_
              refine G.endBlock ?_
              exact G.arr (J4 (IntKind.wrap .i64 (v3.1 + 1), IntKind.wrap .i64 (v3.2 + r9)) hF) ⟨rfl, rfl, rfl, trivial⟩ trivial rfl
          refine G.region ?_
          refine G.op1 (op_move (Ev.t 0 (bS s_0)) rfl) rfl ⟨rfl, trivial⟩ trivial ?_
          refine G.op1 (op_move (Ev.t 4 (bI .i64 v3.2)) rfl) rfl ⟨rfl, trivial⟩ trivial ?_
          obtain ⟨b16, hb16, hF⟩ := bindS hF
          refine G.op1 (op_indexS Try.underlying9 (sidx_ok hb16).1 (sidx_ok hb16).2 (Ev.t 44 (bS s_0)) (Ev.t 45 (bI .i64 v3.2)) rfl) rfl ⟨rfl, rfl, trivial⟩ trivial ?_
          refine G.op1 (op_eqI (Ev.t 46 (bI .u8 (b16.toNat : Int))) (Ev.c _ rfl) rfl) rfl ⟨rfl, trivial⟩ trivial ?_
          refine G.op1 (op_move (Ev.t 47 (bB (decide ((b16.toNat : Int) = 224)))) rfl) rfl ⟨rfl, trivial⟩ trivial ?_
          refine G.joinL (T := Bool) 6 (fun y17 => ⟨[(0, .one (bS s_0)), (3, .one (bI .i64 v3.1)), (4, .one (bI .i64 v3.2)), (5, .one (bI .i64 r9)), (54, .one (bB y17))], []⟩) (fun y17 => ref02_Runes_k6 s_0 again5 v3 r9 y17 = some r) (fun y17 hF => ?_) (fun J34 => ?_)
          · unfold ref02_Runes_k6 at hF
            refine G.op1 (op_move (Ev.t 54 (bB y17)) rfl) rfl ⟨rfl, trivial⟩ trivial ?_
            refine G.joinL (T := Bool) 12 (fun y18 => ⟨[(0, .one (bS s_0)), (3, .one (bI .i64 v3.1)), (4, .one (bI .i64 v3.2)), (5, .one (bI .i64 r9)), (67, .one (bB y18))], []⟩) (fun y18 => ref02_Runes_k7 s_0 again5 v3 r9 y18 = some r) (fun y18 hF => ?_) (fun J29 => ?_)
            · unfold ref02_Runes_k7 at hF
              refine G.op1 (op_move (Ev.t 67 (bB y18)) rfl) rfl ⟨rfl, trivial⟩ trivial ?_
              refine G.joinL (T := Bool) 12 (fun y19 => ⟨[(0, .one (bS s_0)), (3, .one (bI .i64 v3.1)), (4, .one (bI .i64 v3.2)), (5, .one (bI .i64 r9)), (80, .one (bB y19))], []⟩) (fun y19 => ref02_Runes_k8 s_0 again5 v3 r9 y19 = some r) (fun y19 hF => ?_) (fun J24 => ?_)
              · unfold ref02_Runes_k8 at hF
                refine G.op1 (op_move (Ev.t 80 (bB y19)) rfl) rfl ⟨rfl, trivial⟩ trivial ?_
                refine ifS hF (fun hc20 hF => ?_) (fun hc20 hF => ?_)
                · refine G.known (t := 81) hc20 rfl ?_
                  refine G.opN1 rfl rfl rfl rfl rfl ?_
                  refine G.opN1 rfl rfl rfl rfl rfl ?_
                  refine G.opN1 rfl rfl rfl rfl rfl ?_
                  refine G.opN1 rfl rfl rfl rfl rfl ?_
                  refine G.opN1 rfl rfl rfl rfl rfl ?_
                  refine G.opU rfl rfl rfl rfl ?_
                  refine G.opU rfl rfl rfl rfl ?_
                  refine G.opU rfl rfl rfl rfl ?_
                  refine G.opU rfl rfl rfl rfl ?_
                  refine G.opU rfl rfl rfl rfl ?_
                  refine G.opN1 rfl rfl rfl rfl rfl ?_
                  refine G.op1 (op_pickT (Ev.t 81 (bB true)) (Ev.c _ rfl) rfl) rfl ⟨rfl, trivial⟩ trivial ?_
                  refine G.endOps ?_
                  exact G.arr (J15 true hF) ⟨rfl, rfl, rfl, rfl, rfl, trivial⟩ trivial rfl
                · refine G.known (t := 81) hc20 rfl ?_
                  refine G.opG1 (op_move (Ev.t 0 (bS s_0)) rfl) rfl rfl rfl ⟨rfl, trivial⟩ trivial ?_
                  refine G.opG1 (op_move (Ev.t 4 (bI .i64 v3.2)) rfl) rfl rfl rfl ⟨rfl, trivial⟩ trivial ?_
                  obtain ⟨b21, hb21, hF⟩ := bindS hF
                  refine G.opG1 (op_indexS Try.underlying9 (sidx_ok hb21).1 (sidx_ok hb21).2 (Ev.t 82 (bS s_0)) (Ev.t 83 (bI .i64 v3.2)) rfl) rfl rfl rfl ⟨rfl, rfl, trivial⟩ trivial ?_
                  refine G.opG1 (op_eqI (Ev.t 84 (bI .u8 (b21.toNat : Int))) (Ev.c _ rfl) rfl) rfl rfl rfl ⟨rfl, trivial⟩ trivial ?_
                  refine G.opG1 (op_move (Ev.t 85 (bB (decide ((b21.toNat : Int) = 244)))) rfl) rfl rfl rfl ⟨rfl, trivial⟩ trivial ?_
                  refine ifS hF (fun hc22 hF => ?_) (fun hc22 hF => ?_)
                  · refine G.known (t := 86) hc22 rfl ?_
                    refine G.opG1 (op_move (Ev.t 0 (bS s_0)) rfl) rfl rfl rfl ⟨rfl, trivial⟩ trivial ?_
                    refine G.opG1 (op_move (Ev.t 4 (bI .i64 v3.2)) rfl) rfl rfl rfl ⟨rfl, trivial⟩ trivial ?_
                    refine G.opG1 (op_add (Ev.t 88 (bI .i64 v3.2)) (Ev.c _ rfl) rfl) rfl rfl rfl ⟨rfl, trivial⟩ trivial ?_
                    obtain ⟨b23, hb23, hF⟩ := bindS hF
                    refine G.opG1 (op_indexS Try.underlying9 (sidx_ok hb23).1 (sidx_ok hb23).2 (Ev.t 87 (bS s_0)) (Ev.t 89 (bI .i64 (IntKind.wrap .i64 (v3.2 + 1)))) rfl) rfl rfl rfl ⟨rfl, rfl, trivial⟩ trivial ?_
                    refine G.opG1 (op_gtr (Ev.t 90 (bI .u8 (b23.toNat : Int))) (Ev.c _ rfl) rfl) rfl rfl rfl ⟨rfl, trivial⟩ trivial ?_
                    refine G.opG1 (op_pickT (Ev.t 86 (bB true)) (Ev.t 91 (bB (decide (143 < (b23.toNat : Int))))) rfl) rfl rfl rfl ⟨rfl, rfl, trivial⟩ trivial ?_
                    refine G.op1 (op_pickF (Ev.t 81 (bB false)) (Ev.t 92 (bB (decide (143 < (b23.toNat : Int))))) rfl) rfl ⟨rfl, rfl, trivial⟩ trivial ?_
                    refine G.endOps ?_
                    exact G.arr (J15 (decide (143 < (b23.toNat : Int))) hF) ⟨rfl, rfl, rfl, rfl, rfl, trivial⟩ trivial rfl
                  · refine G.known (t := 86) hc22 rfl ?_
                    refine G.opN1 rfl rfl rfl rfl rfl ?_
                    refine G.opN1 rfl rfl rfl rfl rfl ?_
                    refine G.opN1 rfl rfl rfl rfl rfl ?_
                    refine G.opN1 rfl rfl rfl rfl rfl ?_
                    refine G.opN1 rfl rfl rfl rfl rfl ?_
                    refine G.opG1 (op_pickF (Ev.t 86 (bB false)) (Ev.c _ rfl) rfl) rfl rfl rfl ⟨rfl, trivial⟩ trivial ?_
                    refine G.op1 (op_pickF (Ev.t 81 (bB false)) (Ev.t 92 (bB false)) rfl) rfl ⟨rfl, rfl, trivial⟩ trivial ?_
                    refine G.endOps ?_
                    exact G.arr (J15 false hF) ⟨rfl, rfl, rfl, rfl, rfl, trivial⟩ trivial rfl
              refine ifS hF (fun hc25 hF => ?_) (fun hc25 hF => ?_)
              · refine G.known (t := 68) hc25 rfl ?_
                refine G.opN1 rfl rfl rfl rfl rfl ?_
                refine G.opN1 rfl rfl rfl rfl rfl ?_
                refine G.opN1 rfl rfl rfl rfl rfl ?_
                refine G.opN1 rfl rfl rfl rfl rfl ?_
                refine G.opN1 rfl rfl rfl rfl rfl ?_
                refine G.opU rfl rfl rfl rfl ?_
                refine G.opU rfl rfl rfl rfl ?_
                refine G.opU rfl rfl rfl rfl ?_
                refine G.opU rfl rfl rfl rfl ?_
                refine G.opU rfl rfl rfl rfl ?_
                refine G.opN1 rfl rfl rfl rfl rfl ?_
                refine G.op1 (op_pickT (Ev.t 68 (bB true)) (Ev.c _ rfl) rfl) rfl ⟨rfl, trivial⟩ trivial ?_
                exact G.arr (J24 true hF) ⟨rfl, rfl, rfl, rfl, rfl, trivial⟩ trivial rfl
              · refine G.known (t := 68) hc25 rfl ?_
                refine G.opG1 (op_move (Ev.t 0 (bS s_0)) rfl) rfl rfl rfl ⟨rfl, trivial⟩ trivial ?_
                refine G.opG1 (op_move (Ev.t 4 (bI .i64 v3.2)) rfl) rfl rfl rfl ⟨rfl, trivial⟩ trivial ?_
                obtain ⟨b26, hb26, hF⟩ := bindS hF
                refine G.opG1 (op_indexS Try.underlying9 (sidx_ok hb26).1 (sidx_ok hb26).2 (Ev.t 69 (bS s_0)) (Ev.t 70 (bI .i64 v3.2)) rfl) rfl rfl rfl ⟨rfl, rfl, trivial⟩ trivial ?_
                refine G.opG1 (op_eqI (Ev.t 71 (bI .u8 (b26.toNat : Int))) (Ev.c _ rfl) rfl) rfl rfl rfl ⟨rfl, trivial⟩ trivial ?_
                refine G.opG1 (op_move (Ev.t 72 (bB (decide ((b26.toNat : Int) = 240)))) rfl) rfl rfl rfl ⟨rfl, trivial⟩ trivial ?_
                refine ifS hF (fun hc27 hF => ?_) (fun hc27 hF => ?_)
                · refine G.known (t := 73) hc27 rfl ?_
                  refine G.opG1 (op_move (Ev.t 0 (bS s_0)) rfl) rfl rfl rfl ⟨rfl, trivial⟩ trivial ?_
                  refine G.opG1 (op_move (Ev.t 4 (bI .i64 v3.2)) rfl) rfl rfl rfl ⟨rfl, trivial⟩ trivial ?_
                  refine G.opG1 (op_add (Ev.t 75 (bI .i64 v3.2)) (Ev.c _ rfl) rfl) rfl rfl rfl ⟨rfl, trivial⟩ trivial ?_
                  obtain ⟨b28, hb28, hF⟩ := bindS hF
                  refine G.opG1 (op_indexS Try.underlying9 (sidx_ok hb28).1 (sidx_ok hb28).2 (Ev.t 74 (bS s_0)) (Ev.t 76 (bI .i64 (IntKind.wrap .i64 (v3.2 + 1)))) rfl) rfl rfl rfl ⟨rfl, rfl, trivial⟩ trivial ?_
                  refine G.opG1 (op_lss (Ev.t 77 (bI .u8 (b28.toNat : Int))) (Ev.c _ rfl) rfl) rfl rfl rfl ⟨rfl, trivial⟩ trivial ?_
                  refine G.opG1 (op_pickT (Ev.t 73 (bB true)) (Ev.t 78 (bB (decide ((b28.toNat : Int) < 144)))) rfl) rfl rfl rfl ⟨rfl, rfl, trivial⟩ trivial ?_
                  refine G.op1 (op_pickF (Ev.t 68 (bB false)) (Ev.t 79 (bB (decide ((b28.toNat : Int) < 144)))) rfl) rfl ⟨rfl, rfl, trivial⟩ trivial ?_
                  exact G.arr (J24 (decide ((b28.toNat : Int) < 144)) hF) ⟨rfl, rfl, rfl, rfl, rfl, trivial⟩ trivial rfl
                · refine G.known (t := 73) hc27 rfl ?_
                  refine G.opN1 rfl rfl rfl rfl rfl ?_
                  refine G.opN1 rfl rfl rfl rfl rfl ?_
                  refine G.opN1 rfl rfl rfl rfl rfl ?_
                  refine G.opN1 rfl rfl rfl rfl rfl ?_
                  refine G.opN1 rfl rfl rfl rfl rfl ?_
                  refine G.opG1 (op_pickF (Ev.t 73 (bB false)) (Ev.c _ rfl) rfl) rfl rfl rfl ⟨rfl, trivial⟩ trivial ?_
                  refine G.op1 (op_pickF (Ev.t 68 (bB false)) (Ev.t 79 (bB false)) rfl) rfl ⟨rfl, rfl, trivial⟩ trivial ?_
                  exact G.arr (J24 false hF) ⟨rfl, rfl, rfl, rfl, rfl, trivial⟩ trivial rfl
            refine ifS hF (fun hc30 hF => ?_) (fun hc30 hF => ?_)
            · refine G.known (t := 55) hc30 rfl ?_
              refine G.opN1 rfl rfl rfl rfl rfl ?_
              refine G.opN1 rfl rfl rfl rfl rfl ?_
              refine G.opN1 rfl rfl rfl rfl rfl ?_
              refine G.opN1 rfl rfl rfl rfl rfl ?_
              refine G.opN1 rfl rfl rfl rfl rfl ?_
              refine G.opU rfl rfl rfl rfl ?_
              refine G.opU rfl rfl rfl rfl ?_
              refine G.opU rfl rfl rfl rfl ?_
              refine G.opU rfl rfl rfl rfl ?_
              refine G.opU rfl rfl rfl rfl ?_
              refine G.opN1 rfl rfl rfl rfl rfl ?_
              refine G.op1 (op_pickT (Ev.t 55 (bB true)) (Ev.c _ rfl) rfl) rfl ⟨rfl, trivial⟩ trivial ?_
              exact G.arr (J29 true hF) ⟨rfl, rfl, rfl, rfl, rfl, trivial⟩ trivial rfl
            · refine G.known (t := 55) hc30 rfl ?_
              refine G.opG1 (op_move (Ev.t 0 (bS s_0)) rfl) rfl rfl rfl ⟨rfl, trivial⟩ trivial ?_
              refine G.opG1 (op_move (Ev.t 4 (bI .i64 v3.2)) rfl) rfl rfl rfl ⟨rfl, trivial⟩ trivial ?_
              obtain ⟨b31, hb31, hF⟩ := bindS hF
              refine G.opG1 (op_indexS Try.underlying9 (sidx_ok hb31).1 (sidx_ok hb31).2 (Ev.t 56 (bS s_0)) (Ev.t 57 (bI .i64 v3.2)) rfl) rfl rfl rfl ⟨rfl, rfl, trivial⟩ trivial ?_
              refine G.opG1 (op_eqI (Ev.t 58 (bI .u8 (b31.toNat : Int))) (Ev.c _ rfl) rfl) rfl rfl rfl ⟨rfl, trivial⟩ trivial ?_
              refine G.opG1 (op_move (Ev.t 59 (bB (decide ((b31.toNat : Int) = 237)))) rfl) rfl rfl rfl ⟨rfl, trivial⟩ trivial ?_
              refine ifS hF (fun hc32 hF => ?_) (fun hc32 hF => ?_)
              · refine G.known (t := 60) hc32 rfl ?_
                refine G.opG1 (op_move (Ev.t 0 (bS s_0)) rfl) rfl rfl rfl ⟨rfl, trivial⟩ trivial ?_
                refine G.opG1 (op_move (Ev.t 4 (bI .i64 v3.2)) rfl) rfl rfl rfl ⟨rfl, trivial⟩ trivial ?_
                refine G.opG1 (op_add (Ev.t 62 (bI .i64 v3.2)) (Ev.c _ rfl) rfl) rfl rfl rfl ⟨rfl, trivial⟩ trivial ?_
                obtain ⟨b33, hb33, hF⟩ := bindS hF
                refine G.opG1 (op_indexS Try.underlying9 (sidx_ok hb33).1 (sidx_ok hb33).2 (Ev.t 61 (bS s_0)) (Ev.t 63 (bI .i64 (IntKind.wrap .i64 (v3.2 + 1)))) rfl) rfl rfl rfl ⟨rfl, rfl, trivial⟩ trivial ?_
                refine G.opG1 (op_gtr (Ev.t 64 (bI .u8 (b33.toNat : Int))) (Ev.c _ rfl) rfl) rfl rfl rfl ⟨rfl, trivial⟩ trivial ?_
                refine G.opG1 (op_pickT (Ev.t 60 (bB true)) (Ev.t 65 (bB (decide (159 < (b33.toNat : Int))))) rfl) rfl rfl rfl ⟨rfl, rfl, trivial⟩ trivial ?_
                refine G.op1 (op_pickF (Ev.t 55 (bB false)) (Ev.t 66 (bB (decide (159 < (b33.toNat : Int))))) rfl) rfl ⟨rfl, rfl, trivial⟩ trivial ?_
                exact G.arr (J29 (decide (159 < (b33.toNat : Int))) hF) ⟨rfl, rfl, rfl, rfl, rfl, trivial⟩ trivial rfl
              · refine G.known (t := 60) hc32 rfl ?_
                refine G.opN1 rfl rfl rfl rfl rfl ?_
                refine G.opN1 rfl rfl rfl rfl rfl ?_
                refine G.opN1 rfl rfl rfl rfl rfl ?_
                refine G.opN1 rfl rfl rfl rfl rfl ?_
                refine G.opN1 rfl rfl rfl rfl rfl ?_
                refine G.opG1 (op_pickF (Ev.t 60 (bB false)) (Ev.c _ rfl) rfl) rfl rfl rfl ⟨rfl, trivial⟩ trivial ?_
                refine G.op1 (op_pickF (Ev.t 55 (bB false)) (Ev.t 66 (bB false)) rfl) rfl ⟨rfl, rfl, trivial⟩ trivial ?_
                exact G.arr (J29 false hF) ⟨rfl, rfl, rfl, rfl, rfl, trivial⟩ trivial rfl
          refine ifS hF (fun hc35 hF => ?_) (fun hc35 hF => ?_)
          · refine G.known (t := 48) hc35 rfl ?_
            refine G.opG1 (op_move (Ev.t 0 (bS s_0)) rfl) rfl rfl rfl ⟨rfl, trivial⟩ trivial ?_
            refine G.opG1 (op_move (Ev.t 4 (bI .i64 v3.2)) rfl) rfl rfl rfl ⟨rfl, trivial⟩ trivial ?_
            refine G.opG1 (op_add (Ev.t 50 (bI .i64 v3.2)) (Ev.c _ rfl) rfl) rfl rfl rfl ⟨rfl, trivial⟩ trivial ?_
            obtain ⟨b36, hb36, hF⟩ := bindS hF
            refine G.opG1 (op_indexS Try.underlying9 (sidx_ok hb36).1 (sidx_ok hb36).2 (Ev.t 49 (bS s_0)) (Ev.t 51 (bI .i64 (IntKind.wrap .i64 (v3.2 + 1)))) rfl) rfl rfl rfl ⟨rfl, rfl, trivial⟩ trivial ?_
            refine G.opG1 (op_lss (Ev.t 52 (bI .u8 (b36.toNat : Int))) (Ev.c _ rfl) rfl) rfl rfl rfl ⟨rfl, trivial⟩ trivial ?_
            refine G.op1 (op_pickT (Ev.t 48 (bB true)) (Ev.t 53 (bB (decide ((b36.toNat : Int) < 160)))) rfl) rfl ⟨rfl, rfl, trivial⟩ trivial ?_
            exact G.arr (J34 (decide ((b36.toNat : Int) < 160)) hF) ⟨rfl, rfl, rfl, rfl, rfl, trivial⟩ trivial rfl
          · refine G.known (t := 48) hc35 rfl ?_
            refine G.opN1 rfl rfl rfl rfl rfl ?_
            refine G.opN1 rfl rfl rfl rfl rfl ?_
            refine G.opN1 rfl rfl rfl rfl rfl ?_
            refine G.opN1 rfl rfl rfl rfl rfl ?_
            refine G.opN1 rfl rfl rfl rfl rfl ?_
            refine G.op1 (op_pickF (Ev.t 48 (bB false)) (Ev.c _ rfl) rfl) rfl ⟨rfl, trivial⟩ trivial ?_
            exact G.arr (J34 false hF) ⟨rfl, rfl, rfl, rfl, rfl, trivial⟩ trivial rfl
        refine G.block ?_
        refine G.keep (sl' := [(0, .one (bS s_0)), (3, .one (bI .i64 v3.1)), (4, .one (bI .i64 v3.2)), (5, .one (bI .i64 r9)), (6, .one (bI .i64 1))]) (hp' := []) ⟨rfl, rfl, rfl, rfl, rfl, trivial⟩ trivial rfl ?_
        refine G.loopF (fun (v38 : Int) => ⟨[(0, .one (bS s_0)), (3, .one (bI .i64 v3.1)), (4, .one (bI .i64 v3.2)), (5, .one (bI .i64 r9)), (6, .one (bI .i64 v38))], []⟩) hF rfl (fun K41 again40 v38 J39 hF => ?_)
        unfold ref02_Runes_l9 at hF
        refine G.seq ?_
        refine G.seq ?_
        refine G.region ?_
        refine G.op1 (op_move (Ev.t 6 (bI .i64 v38)) rfl) rfl ⟨rfl, trivial⟩ trivial ?_
        refine G.op1 (op_move (Ev.t 5 (bI .i64 r9)) rfl) rfl ⟨rfl, trivial⟩ trivial ?_
        refine G.op1 (op_lss (Ev.t 25 (bI .i64 v38)) (Ev.t 26 (bI .i64 r9)) rfl) rfl ⟨rfl, rfl, trivial⟩ trivial ?_
        refine G.endOps ?_
        refine ifS hF (fun hc42 hF => ?_) (fun hc42 hF => ?_)
        · refine G.cond rfl (fun _ => ?_) (fun hx => by rw [hc42] at hx; cases hx)
          refine G.skip ?_
          refine G.seq ?_
          refine G.block ?_
          refine G.seq ?_
          refine G.region ?_
          refine G.op1 (op_move (Ev.t 0 (bS s_0)) rfl) rfl ⟨rfl, trivial⟩ trivial ?_
          refine G.op1 (op_move (Ev.t 4 (bI .i64 v3.2)) rfl) rfl ⟨rfl, trivial⟩ trivial ?_
          refine G.op1 (op_move (Ev.t 6 (bI .i64 v38)) rfl) rfl ⟨rfl, trivial⟩ trivial ?_
          refine G.op1 (op_add (Ev.t 31 (bI .i64 v3.2)) (Ev.t 32 (bI .i64 v38)) rfl) rfl ⟨rfl, rfl, trivial⟩ trivial ?_
          obtain ⟨b43, hb43, hF⟩ := bindS hF
          refine G.op1 (op_indexS Try.underlying9 (sidx_ok hb43).1 (sidx_ok hb43).2 (Ev.t 30 (bS s_0)) (Ev.t 33 (bI .i64 (IntKind.wrap .i64 (v3.2 + v38)))) rfl) rfl ⟨rfl, rfl, trivial⟩ trivial ?_
          refine G.op1 (op_lss (Ev.t 34 (bI .u8 (b43.toNat : Int))) (Ev.c _ rfl) rfl) rfl ⟨rfl, trivial⟩ trivial ?_
          refine G.op1 (op_move (Ev.t 35 (bB (decide ((b43.toNat : Int) < 128)))) rfl) rfl ⟨rfl, trivial⟩ trivial ?_
          refine ifS hF (fun hc44 hF => ?_) (fun hc44 hF => ?_)
          · refine G.known (t := 36) hc44 rfl ?_
            refine G.opN1 rfl rfl rfl rfl rfl ?_
            refine G.opN1 rfl rfl rfl rfl rfl ?_
            refine G.opN1 rfl rfl rfl rfl rfl ?_
            refine G.opN1 rfl rfl rfl rfl rfl ?_
            refine G.opN1 rfl rfl rfl rfl rfl ?_
            refine G.opN1 rfl rfl rfl rfl rfl ?_
            refine G.op1 (op_pickT (Ev.t 36 (bB true)) (Ev.c _ rfl) rfl) rfl ⟨rfl, trivial⟩ trivial ?_
            refine G.endOps ?_
            refine G.condT rfl ?_
            refine G.seq ?_
            refine G.region ?_
            refine G.op1 (op_assign (Ev.c _ rfl) rfl) rfl trivial trivial ?_
            refine G.endOps ?_
            cases hF
            exact G.ret1 Try.results48 (RVar.tmp 2 _) ⟨rfl, trivial⟩ trivial
          · refine G.known (t := 36) hc44 rfl ?_
            refine G.opG1 (op_move (Ev.t 0 (bS s_0)) rfl) rfl rfl rfl ⟨rfl, trivial⟩ trivial ?_
            refine G.opG1 (op_move (Ev.t 4 (bI .i64 v3.2)) rfl) rfl rfl rfl ⟨rfl, trivial⟩ trivial ?_
            refine G.opG1 (op_move (Ev.t 6 (bI .i64 v38)) rfl) rfl rfl rfl ⟨rfl, trivial⟩ trivial ?_
            refine G.opG1 (op_add (Ev.t 38 (bI .i64 v3.2)) (Ev.t 39 (bI .i64 v38)) rfl) rfl rfl rfl ⟨rfl, rfl, trivial⟩ trivial ?_
            obtain ⟨b45, hb45, hF⟩ := bindS hF
            refine G.opG1 (op_indexS Try.underlying9 (sidx_ok hb45).1 (sidx_ok hb45).2 (Ev.t 37 (bS s_0)) (Ev.t 40 (bI .i64 (IntKind.wrap .i64 (v3.2 + v38)))) rfl) rfl rfl rfl ⟨rfl, rfl, trivial⟩ trivial ?_
            refine G.opG1 (op_gtr (Ev.t 41 (bI .u8 (b45.toNat : Int))) (Ev.c _ rfl) rfl) rfl rfl rfl ⟨rfl, trivial⟩ trivial ?_
            refine G.op1 (op_pickF (Ev.t 36 (bB false)) (Ev.t 42 (bB (decide (191 < (b45.toNat : Int))))) rfl) rfl ⟨rfl, rfl, trivial⟩ trivial ?_
            refine G.endOps ?_
            refine ifS hF (fun hc46 hF => ?_) (fun hc46 hF => ?_)
            · refine G.cond rfl (fun _ => ?_) (fun hx => by rw [hc46] at hx; cases hx)
              refine G.seq ?_
              refine G.region ?_
              refine G.op1 (op_assign (Ev.c _ rfl) rfl) rfl trivial trivial ?_
              refine G.endOps ?_
              cases hF
              exact G.ret1 Try.results48 (RVar.tmp 2 _) ⟨rfl, trivial⟩ trivial
            · refine G.cond rfl (fun hx => by rw [hc46] at hx; cases hx) (fun _ => ?_)
              refine G.skip ?_
              refine G.endBlock ?_
              refine G.region ?_
              refine G.op1 (op_move (Ev.t 6 (bI .i64 v38)) rfl) rfl ⟨rfl, trivial⟩ trivial ?_
              refine G.op1 (op_add (Ev.t 28 (bI .i64 v38)) (Ev.c _ rfl) rfl) rfl ⟨rfl, trivial⟩ trivial ?_
              refine G.op1 (op_assign (Ev.t 29 (bI .i64 (IntKind.wrap .i64 (v38 + 1)))) rfl) rfl ⟨rfl, trivial⟩ trivial ?_
              refine G.endOps ?_
              exact G.arr (J39 (IntKind.wrap .i64 (v38 + 1)) hF) ⟨rfl, rfl, rfl, rfl, rfl, trivial⟩ trivial rfl
        · refine G.cond rfl (fun hx => by rw [hc42] at hx; cases hx) (fun _ => ?_)
          refine G.exit ?_
          refine GX.c ?_
          refine GX.q ?_
          refine GX.bYes ?_
          exact G.arr (J37 () hF) ⟨rfl, rfl, rfl, rfl, trivial⟩ trivial rfl
    refine G.region ?_
    refine G.op1 (op_move (Ev.t 5 (bI .i64 r9)) rfl) rfl ⟨rfl, trivial⟩ trivial ?_
    refine G.op1 (op_eqI (Ev.t 15 (bI .i64 r9)) (Ev.c _ rfl) rfl) rfl ⟨rfl, trivial⟩ trivial ?_
    refine G.op1 (op_move (Ev.t 16 (bB (decide (r9 = 0)))) rfl) rfl ⟨rfl, trivial⟩ trivial ?_
    refine ifS hF (fun hc48 hF => ?_) (fun hc48 hF => ?_)
    · refine G.known (t := 17) hc48 rfl ?_
      refine G.opN1 rfl rfl rfl rfl rfl ?_
      refine G.opN1 rfl rfl rfl rfl rfl ?_
      refine G.opN1 rfl rfl rfl rfl rfl ?_
      refine G.opN1 rfl rfl rfl rfl rfl ?_
      refine G.opN1 rfl rfl rfl rfl rfl ?_
      refine G.opN1 rfl rfl rfl rfl rfl ?_
      refine G.op1 (op_pickT (Ev.t 17 (bB true)) (Ev.c _ rfl) rfl) rfl ⟨rfl, trivial⟩ trivial ?_
      refine G.endOps ?_
      exact G.arr (J47 true hF) ⟨rfl, rfl, rfl, rfl, rfl, trivial⟩ trivial rfl
    · refine G.known (t := 17) hc48 rfl ?_
      refine G.opG1 (op_move (Ev.t 5 (bI .i64 r9)) rfl) rfl rfl rfl ⟨rfl, trivial⟩ trivial ?_
      refine G.opG1 (op_move (Ev.t 0 (bS s_0)) rfl) rfl rfl rfl ⟨rfl, trivial⟩ trivial ?_
      refine G.opG1 (op_lenS Try.underlying9 (Ev.t 19 (bS s_0)) rfl) rfl rfl rfl ⟨rfl, trivial⟩ trivial ?_
      refine G.opG1 (op_move (Ev.t 4 (bI .i64 v3.2)) rfl) rfl rfl rfl ⟨rfl, trivial⟩ trivial ?_
      refine G.opG1 (op_sub (Ev.t 20 (bI .i64 (s_0.size : Int))) (Ev.t 21 (bI .i64 v3.2)) rfl) rfl rfl rfl ⟨rfl, rfl, trivial⟩ trivial ?_
      refine G.opG1 (op_gtr (Ev.t 18 (bI .i64 r9)) (Ev.t 22 (bI .i64 (IntKind.wrap .i64 ((s_0.size : Int) - v3.2)))) rfl) rfl rfl rfl ⟨rfl, rfl, trivial⟩ trivial ?_
      refine G.op1 (op_pickF (Ev.t 17 (bB false)) (Ev.t 23 (bB (decide ((IntKind.wrap .i64 ((s_0.size : Int) - v3.2)) < r9)))) rfl) rfl ⟨rfl, rfl, trivial⟩ trivial ?_
      refine G.endOps ?_
      exact G.arr (J47 (decide ((IntKind.wrap .i64 ((s_0.size : Int) - v3.2)) < r9)) hF) ⟨rfl, rfl, rfl, rfl, rfl, trivial⟩ trivial rfl
  · refine G.cond rfl (fun hx => by rw [hc7] at hx; cases hx) (fun _ => ?_)
    refine G.exit ?_
    refine GX.c ?_
    refine GX.q ?_
    refine GX.bYes ?_
    exact G.arr (J2 v3.1 hF) ⟨rfl, trivial⟩ trivial rfl


set_option maxRecDepth 20000 in
set_option maxHeartbeats 2000000 in
theorem ct_ref02_Check (s_0 : ByteArray) (r : Bool) (hF : ref02_Check s_0 = some r) : Ct Try.prog 34 [.g (.d (.v (.string s_0)))] (.one (.d (.v (.bool r)))) := by
  unfold ref02_Check at hF
  refine Ct.intro Try.func34 rfl Try.ntmps34 rfl rfl fun M w => ?_
  refine G.seq ?_
  refine G.region ?_
  refine G.op1 (op_assign (Ev.c _ rfl) rfl) rfl trivial trivial ?_
  refine G.endOps ?_
  refine G.seq ?_
  refine G.region ?_
  refine G.op1 (op_move (Ev.t 0 (bS s_0)) rfl) rfl ⟨rfl, trivial⟩ trivial ?_
  obtain ⟨r1, hr1, hF⟩ := bindS hF
  refine G.op1 (op_callQ (sv := .one (bI .i64 r1)) cf48 (ct_ref02_Runes s_0 r1 hr1) rfl rfl (EvQL.cons (EvQ.g (Ev.t 5 (bS s_0))) EvQL.nil) rfl) rfl ⟨rfl, trivial⟩ trivial ?_
  refine G.op1 (op_assign (Ev.t 6 (bI .i64 r1)) rfl) rfl ⟨rfl, trivial⟩ trivial ?_
  refine G.endOps ?_
  refine G.seq ?_
  refine G.seq ?_
  refine G.region ?_
  refine G.op1 (op_assign (Ev.c _ rfl) rfl) rfl trivial trivial ?_
  refine G.endOps ?_
  refine G.joinC (T := Unit) (fun y2 => ⟨[(3, .one (bI .i64 r1))], []⟩) (fun y2 => ref02_Check_k1 r1 y2 = some r) (fun y2 hF => ?_) (fun J4 => ?_)
  · unfold ref02_Check_k1 at hF
    refine G.seq ?_
    refine G.region ?_
    refine G.op1 (op_move (Ev.t 3 (bI .i64 r1)) rfl) rfl ⟨rfl, trivial⟩ trivial ?_
    refine G.op1 (op_geq (Ev.t 17 (bI .i64 r1)) (Ev.c _ rfl) rfl) rfl ⟨rfl, trivial⟩ trivial ?_
    refine G.op1 (op_move (Ev.t 18 (bB (decide (1 ≤ r1)))) rfl) rfl ⟨rfl, trivial⟩ trivial ?_
    refine ifS hF (fun hc3 hF => ?_) (fun hc3 hF => ?_)
    · refine G.known (t := 19) hc3 rfl ?_
      refine G.opG1 (op_move (Ev.t 3 (bI .i64 r1)) rfl) rfl rfl rfl ⟨rfl, trivial⟩ trivial ?_
      refine G.opG1 (op_leq (Ev.t 20 (bI .i64 r1)) (Ev.c _ rfl) rfl) rfl rfl rfl ⟨rfl, trivial⟩ trivial ?_
      refine G.op1 (op_pickT (Ev.t 19 (bB true)) (Ev.t 21 (bB (decide (r1 ≤ 8)))) rfl) rfl ⟨rfl, rfl, trivial⟩ trivial ?_
      refine G.op1 (op_assign (Ev.t 22 (bB (decide (r1 ≤ 8)))) rfl) rfl ⟨rfl, trivial⟩ trivial ?_
      refine G.endOps ?_
      cases hF
      exact G.ret1 Try.results34 (RVar.tmp 2 _) ⟨rfl, trivial⟩ trivial
    · refine G.known (t := 19) hc3 rfl ?_
      refine G.opN1 rfl rfl rfl rfl rfl ?_
      refine G.opN1 rfl rfl rfl rfl rfl ?_
      refine G.op1 (op_pickF (Ev.t 19 (bB false)) (Ev.c _ rfl) rfl) rfl ⟨rfl, trivial⟩ trivial ?_
      refine G.op1 (op_assign (Ev.t 22 (bB false)) rfl) rfl ⟨rfl, trivial⟩ trivial ?_
      refine G.endOps ?_
      cases hF
      exact G.ret1 Try.results34 (RVar.tmp 2 _) ⟨rfl, trivial⟩ trivial
  refine G.block ?_
  refine G.keep (sl' := [(0, .one (bS s_0)), (3, .one (bI .i64 r1)), (4, .one (bI .i64 0))]) (hp' := []) ⟨rfl, rfl, rfl, trivial⟩ trivial rfl ?_
  refine G.loopF (fun (v5 : Int) => ⟨[(0, .one (bS s_0)), (3, .one (bI .i64 r1)), (4, .one (bI .i64 v5))], []⟩) hF rfl (fun K8 again7 v5 J6 hF => ?_)
  unfold ref02_Check_l2 at hF
  refine G.seq ?_
  refine G.seq ?_
  refine G.region ?_
  refine G.op1 (op_move (Ev.t 4 (bI .i64 v5)) rfl) rfl ⟨rfl, trivial⟩ trivial ?_
  refine G.op1 (op_move (Ev.t 0 (bS s_0)) rfl) rfl ⟨rfl, trivial⟩ trivial ?_
  refine G.op1 (op_lenS Try.underlying9 (Ev.t 8 (bS s_0)) rfl) rfl ⟨rfl, trivial⟩ trivial ?_
  refine G.op1 (op_lss (Ev.t 7 (bI .i64 v5)) (Ev.t 9 (bI .i64 (s_0.size : Int))) rfl) rfl ⟨rfl, rfl, trivial⟩ trivial ?_
  refine G.endOps ?_
  refine ifS hF (fun hc9 hF => ?_) (fun hc9 hF => ?_)
  · refine G.cond rfl (fun _ => ?_) (fun hx => by rw [hc9] at hx; cases hx)
    refine G.skip ?_
    refine G.seq ?_
    refine G.block ?_
    refine G.seq ?_
    refine G.region ?_
    refine G.op1 (op_move (Ev.t 0 (bS s_0)) rfl) rfl ⟨rfl, trivial⟩ trivial ?_
    refine G.op1 (op_move (Ev.t 4 (bI .i64 v5)) rfl) rfl ⟨rfl, trivial⟩ trivial ?_
    obtain ⟨b10, hb10, hF⟩ := bindS hF
    refine G.op1 (op_indexS Try.underlying9 (sidx_ok hb10).1 (sidx_ok hb10).2 (Ev.t 13 (bS s_0)) (Ev.t 14 (bI .i64 v5)) rfl) rfl ⟨rfl, rfl, trivial⟩ trivial ?_
    refine G.op1 (op_lss (Ev.t 15 (bI .u8 (b10.toNat : Int))) (Ev.c _ rfl) rfl) rfl ⟨rfl, trivial⟩ trivial ?_
    refine G.endOps ?_
    refine ifS hF (fun hc11 hF => ?_) (fun hc11 hF => ?_)
    · refine G.cond rfl (fun _ => ?_) (fun hx => by rw [hc11] at hx; cases hx)
      refine G.seq ?_
      refine G.region ?_
      refine G.op1 (op_assign (Ev.c _ rfl) rfl) rfl trivial trivial ?_
      refine G.endOps ?_
      cases hF
      exact G.ret1 Try.results34 (RVar.tmp 2 _) ⟨rfl, trivial⟩ trivial
    · refine G.cond rfl (fun hx => by rw [hc11] at hx; cases hx) (fun _ => ?_)
      refine G.skip ?_
      refine G.endBlock ?_
      refine G.region ?_
      refine G.op1 (op_move (Ev.t 4 (bI .i64 v5)) rfl) rfl ⟨rfl, trivial⟩ trivial ?_
      refine G.op1 (op_add (Ev.t 11 (bI .i64 v5)) (Ev.c _ rfl) rfl) rfl ⟨rfl, trivial⟩ trivial ?_
      refine G.op1 (op_assign (Ev.t 12 (bI .i64 (IntKind.wrap .i64 (v5 + 1)))) rfl) rfl ⟨rfl, trivial⟩ trivial ?_
      refine G.endOps ?_
      exact G.arr (J6 (IntKind.wrap .i64 (v5 + 1)) hF) ⟨rfl, rfl, rfl, trivial⟩ trivial rfl
  · refine G.cond rfl (fun hx => by rw [hc9] at hx; cases hx) (fun _ => ?_)
    refine G.exit ?_
    refine GX.c ?_
    refine GX.q ?_
    refine GX.bYes ?_
    exact G.arr (J4 () hF) ⟨rfl, trivial⟩ trivial rfl


set_option maxRecDepth 20000 in
set_option maxHeartbeats 2000000 in
theorem ct_ref03_Check (s_0 : Api_Stamp) (r : Bool) (hF : ref03_Check s_0 = some r) : Ct Try.prog 35 [.g (.agg (encApi_Stamp s_0))] (.one (.d (.v (.bool r)))) := by
  unfold ref03_Check at hF
  refine Ct.intro Try.func35 rfl Try.ntmps35 rfl rfl fun M w => ?_
  refine G.seq ?_
  refine G.region ?_
  refine G.op2 (op_boxA (k := 1001) (Ev.t 0 (.g (.agg [.v (.int .i64 s_0.N), .v (.int .i64 s_0.Site)]))) rfl) rfl ⟨rfl, trivial⟩ ⟨rfl, trivial⟩ ?_
  refine G.op1 (op_assign (Ev.c _ rfl) rfl) rfl trivial trivial ?_
  refine G.endOps ?_
  refine G.seq ?_
  refine G.region ?_
  refine G.op1 (op_fieldP (off' := 0) Try.underlying29 rfl ti3 (by decide) rfl (Ev.t 1 (.ptr 1001 0)) rfl) rfl ⟨rfl, trivial⟩ trivial ?_
  refine G.op1 (op_load1P (c := bI .i64 s_0.N) Try.underlying3 rfl rfl (Ev.t 3 (.ptr 1001 0)) rfl) rfl ⟨rfl, trivial⟩ ⟨rfl, trivial⟩ ?_
  refine G.op1 (op_geq (Ev.t 4 (bI .i64 s_0.N)) (Ev.c _ rfl) rfl) rfl ⟨rfl, trivial⟩ trivial ?_
  refine G.op1 (op_move (Ev.t 5 (bB (decide (1 ≤ s_0.N)))) rfl) rfl ⟨rfl, trivial⟩ trivial ?_
  refine G.joinL (T := Bool) 4 (fun y1 => ⟨[(1, .one (.ptr 1001 0)), (10, .one (bB y1))], [(1001, some (.blk 29 [bI .i64 s_0.N, bI .i64 s_0.Site]))]⟩) (fun y1 => ref03_Check_k1 s_0 y1 = some r) (fun y1 hF => ?_) (fun J6 => ?_)
  · unfold ref03_Check_k1 at hF
    refine G.op1 (op_move (Ev.t 10 (bB y1)) rfl) rfl ⟨rfl, trivial⟩ trivial ?_
    refine G.joinL (T := Bool) 4 (fun y2 => ⟨[(1, .one (.ptr 1001 0)), (15, .one (bB y2))], [(1001, some (.blk 29 [bI .i64 s_0.N, bI .i64 s_0.Site]))]⟩) (fun y2 => ref03_Check_k2 s_0 y2 = some r) (fun y2 hF => ?_) (fun J4 => ?_)
    · unfold ref03_Check_k2 at hF
      refine G.op1 (op_move (Ev.t 15 (bB y2)) rfl) rfl ⟨rfl, trivial⟩ trivial ?_
      refine ifS hF (fun hc3 hF => ?_) (fun hc3 hF => ?_)
      · refine G.known (t := 16) hc3 rfl ?_
        refine G.opG1 (op_fieldP (off' := 1) Try.underlying29 rfl ti3 (by decide) rfl (Ev.t 1 (.ptr 1001 0)) rfl) rfl rfl rfl ⟨rfl, trivial⟩ trivial ?_
        refine G.opG1 (op_load1P (c := bI .i64 s_0.Site) Try.underlying3 rfl rfl (Ev.t 17 (.ptr 1001 1)) rfl) rfl rfl rfl ⟨rfl, trivial⟩ ⟨rfl, trivial⟩ ?_
        refine G.opG1 (op_lss (Ev.t 18 (bI .i64 s_0.Site)) (Ev.c _ rfl) rfl) rfl rfl rfl ⟨rfl, trivial⟩ trivial ?_
        refine G.op1 (op_pickT (Ev.t 16 (bB true)) (Ev.t 19 (bB (decide (s_0.Site < 6)))) rfl) rfl ⟨rfl, rfl, trivial⟩ trivial ?_
        refine G.op1 (op_assign (Ev.t 20 (bB (decide (s_0.Site < 6)))) rfl) rfl ⟨rfl, trivial⟩ trivial ?_
        refine G.endOps ?_
        cases hF
        exact G.ret1 Try.results35 (RVar.tmp 2 _) ⟨rfl, trivial⟩ trivial
      · refine G.known (t := 16) hc3 rfl ?_
        refine G.opN1 rfl rfl rfl rfl rfl ?_
        refine G.opN1 rfl rfl rfl rfl rfl ?_
        refine G.opN1 rfl rfl rfl rfl rfl ?_
        refine G.op1 (op_pickF (Ev.t 16 (bB false)) (Ev.c _ rfl) rfl) rfl ⟨rfl, trivial⟩ trivial ?_
        refine G.op1 (op_assign (Ev.t 20 (bB false)) rfl) rfl ⟨rfl, trivial⟩ trivial ?_
        refine G.endOps ?_
        cases hF
        exact G.ret1 Try.results35 (RVar.tmp 2 _) ⟨rfl, trivial⟩ trivial
    refine ifS hF (fun hc5 hF => ?_) (fun hc5 hF => ?_)
    · refine G.known (t := 11) hc5 rfl ?_
      refine G.opG1 (op_fieldP (off' := 1) Try.underlying29 rfl ti3 (by decide) rfl (Ev.t 1 (.ptr 1001 0)) rfl) rfl rfl rfl ⟨rfl, trivial⟩ trivial ?_
      refine G.opG1 (op_load1P (c := bI .i64 s_0.Site) Try.underlying3 rfl rfl (Ev.t 12 (.ptr 1001 1)) rfl) rfl rfl rfl ⟨rfl, trivial⟩ ⟨rfl, trivial⟩ ?_
      refine G.opG1 (op_geq (Ev.t 13 (bI .i64 s_0.Site)) (Ev.c _ rfl) rfl) rfl rfl rfl ⟨rfl, trivial⟩ trivial ?_
      refine G.op1 (op_pickT (Ev.t 11 (bB true)) (Ev.t 14 (bB (decide (0 ≤ s_0.Site)))) rfl) rfl ⟨rfl, rfl, trivial⟩ trivial ?_
      exact G.arr (J4 (decide (0 ≤ s_0.Site)) hF) ⟨rfl, rfl, trivial⟩ ⟨rfl, trivial⟩ rfl
    · refine G.known (t := 11) hc5 rfl ?_
      refine G.opN1 rfl rfl rfl rfl rfl ?_
      refine G.opN1 rfl rfl rfl rfl rfl ?_
      refine G.opN1 rfl rfl rfl rfl rfl ?_
      refine G.op1 (op_pickF (Ev.t 11 (bB false)) (Ev.c _ rfl) rfl) rfl ⟨rfl, trivial⟩ trivial ?_
      exact G.arr (J4 false hF) ⟨rfl, rfl, trivial⟩ ⟨rfl, trivial⟩ rfl
  refine ifS hF (fun hc7 hF => ?_) (fun hc7 hF => ?_)
  · refine G.known (t := 6) hc7 rfl ?_
    refine G.opG1 (op_fieldP (off' := 0) Try.underlying29 rfl ti3 (by decide) rfl (Ev.t 1 (.ptr 1001 0)) rfl) rfl rfl rfl ⟨rfl, trivial⟩ trivial ?_
    refine G.opG1 (op_load1P (c := bI .i64 s_0.N) Try.underlying3 rfl rfl (Ev.t 7 (.ptr 1001 0)) rfl) rfl rfl rfl ⟨rfl, trivial⟩ ⟨rfl, trivial⟩ ?_
    refine G.opG1 (op_leq (Ev.t 8 (bI .i64 s_0.N)) (Ev.c _ rfl) rfl) rfl rfl rfl ⟨rfl, trivial⟩ trivial ?_
    refine G.op1 (op_pickT (Ev.t 6 (bB true)) (Ev.t 9 (bB (decide (s_0.N ≤ 1099511627776)))) rfl) rfl ⟨rfl, rfl, trivial⟩ trivial ?_
    exact G.arr (J6 (decide (s_0.N ≤ 1099511627776)) hF) ⟨rfl, rfl, trivial⟩ ⟨rfl, trivial⟩ rfl
  · refine G.known (t := 6) hc7 rfl ?_
    refine G.opN1 rfl rfl rfl rfl rfl ?_
    refine G.opN1 rfl rfl rfl rfl rfl ?_
    refine G.opN1 rfl rfl rfl rfl rfl ?_
    refine G.op1 (op_pickF (Ev.t 6 (bB false)) (Ev.c _ rfl) rfl) rfl ⟨rfl, trivial⟩ trivial ?_
    exact G.arr (J6 false hF) ⟨rfl, rfl, trivial⟩ ⟨rfl, trivial⟩ rfl


set_option maxRecDepth 20000 in
set_option maxHeartbeats 2000000 in
theorem ct_ref03_Less (a_0 : Api_Stamp) (b_1 : Api_Stamp) (r : Bool) (hF : ref03_Less a_0 b_1 = some r) : Ct Try.prog 17 [.g (.agg (encApi_Stamp a_0)), .g (.agg (encApi_Stamp b_1))] (.one (.d (.v (.bool r)))) := by
  unfold ref03_Less at hF
  refine Ct.intro Try.func17 rfl Try.ntmps17 rfl rfl fun M w => ?_
  refine G.seq ?_
  refine G.region ?_
  refine G.op2 (op_boxA (k := 1002) (Ev.t 0 (.g (.agg [.v (.int .i64 a_0.N), .v (.int .i64 a_0.Site)]))) rfl) rfl ⟨rfl, trivial⟩ ⟨rfl, trivial⟩ ?_
  refine G.op2 (op_boxA (k := 1003) (Ev.t 1 (.g (.agg [.v (.int .i64 b_1.N), .v (.int .i64 b_1.Site)]))) rfl) rfl ⟨rfl, trivial⟩ ⟨rfl, trivial⟩ ?_
  refine G.op1 (op_assign (Ev.c _ rfl) rfl) rfl trivial trivial ?_
  refine G.endOps ?_
  refine G.seq ?_
  refine G.seq ?_
  refine G.region ?_
  refine G.op1 (op_fieldP (off' := 0) Try.underlying29 rfl ti3 (by decide) rfl (Ev.t 2 (.ptr 1002 0)) rfl) rfl ⟨rfl, trivial⟩ trivial ?_
  refine G.op1 (op_load1P (c := bI .i64 a_0.N) Try.underlying3 rfl rfl (Ev.t 5 (.ptr 1002 0)) rfl) rfl ⟨rfl, trivial⟩ ⟨rfl, trivial⟩ ?_
  refine G.op1 (op_fieldP (off' := 0) Try.underlying29 rfl ti3 (by decide) rfl (Ev.t 3 (.ptr 1003 0)) rfl) rfl ⟨rfl, trivial⟩ trivial ?_
  refine G.op1 (op_load1P (c := bI .i64 b_1.N) Try.underlying3 rfl rfl (Ev.t 7 (.ptr 1003 0)) rfl) rfl ⟨rfl, trivial⟩ ⟨rfl, trivial⟩ ?_
  refine G.op1 (op_neI (Ev.t 6 (bI .i64 a_0.N)) (Ev.t 8 (bI .i64 b_1.N)) rfl) rfl ⟨rfl, rfl, trivial⟩ trivial ?_
  refine G.endOps ?_
  refine ifS hF (fun hc1 hF => ?_) (fun hc1 hF => ?_)
  · refine G.cond rfl (fun _ => ?_) (fun hx => by rw [hc1] at hx; cases hx)
    refine G.seq ?_
    refine G.region ?_
    refine G.op1 (op_fieldP (off' := 0) Try.underlying29 rfl ti3 (by decide) rfl (Ev.t 2 (.ptr 1002 0)) rfl) rfl ⟨rfl, trivial⟩ trivial ?_
    refine G.op1 (op_load1P (c := bI .i64 a_0.N) Try.underlying3 rfl rfl (Ev.t 10 (.ptr 1002 0)) rfl) rfl ⟨rfl, trivial⟩ ⟨rfl, trivial⟩ ?_
    refine G.op1 (op_fieldP (off' := 0) Try.underlying29 rfl ti3 (by decide) rfl (Ev.t 3 (.ptr 1003 0)) rfl) rfl ⟨rfl, trivial⟩ trivial ?_
    refine G.op1 (op_load1P (c := bI .i64 b_1.N) Try.underlying3 rfl rfl (Ev.t 12 (.ptr 1003 0)) rfl) rfl ⟨rfl, trivial⟩ ⟨rfl, trivial⟩ ?_
    refine G.op1 (op_lss (Ev.t 11 (bI .i64 a_0.N)) (Ev.t 13 (bI .i64 b_1.N)) rfl) rfl ⟨rfl, rfl, trivial⟩ trivial ?_
    refine G.op1 (op_assign (Ev.t 14 (bB (decide (a_0.N < b_1.N)))) rfl) rfl ⟨rfl, trivial⟩ trivial ?_
    refine G.endOps ?_
    cases hF
    exact G.ret1 Try.results17 (RVar.tmp 4 _) ⟨rfl, trivial⟩ trivial
  · refine G.cond rfl (fun hx => by rw [hc1] at hx; cases hx) (fun _ => ?_)
    refine G.skip ?_
    refine G.seq ?_
    refine G.region ?_
    refine G.op1 (op_fieldP (off' := 1) Try.underlying29 rfl ti3 (by decide) rfl (Ev.t 2 (.ptr 1002 0)) rfl) rfl ⟨rfl, trivial⟩ trivial ?_
    refine G.op1 (op_load1P (c := bI .i64 a_0.Site) Try.underlying3 rfl rfl (Ev.t 15 (.ptr 1002 1)) rfl) rfl ⟨rfl, trivial⟩ ⟨rfl, trivial⟩ ?_
    refine G.op1 (op_fieldP (off' := 1) Try.underlying29 rfl ti3 (by decide) rfl (Ev.t 3 (.ptr 1003 0)) rfl) rfl ⟨rfl, trivial⟩ trivial ?_
    refine G.op1 (op_load1P (c := bI .i64 b_1.Site) Try.underlying3 rfl rfl (Ev.t 17 (.ptr 1003 1)) rfl) rfl ⟨rfl, trivial⟩ ⟨rfl, trivial⟩ ?_
    refine G.op1 (op_lss (Ev.t 16 (bI .i64 a_0.Site)) (Ev.t 18 (bI .i64 b_1.Site)) rfl) rfl ⟨rfl, rfl, trivial⟩ trivial ?_
    refine G.op1 (op_assign (Ev.t 19 (bB (decide (a_0.Site < b_1.Site)))) rfl) rfl ⟨rfl, trivial⟩ trivial ?_
    refine G.endOps ?_
    cases hF
    exact G.ret1 Try.results17 (RVar.tmp 4 _) ⟨rfl, trivial⟩ trivial


set_option maxRecDepth 20000 in
set_option maxHeartbeats 2000000 in
theorem ct_ref04_Add (p_0 : (List Api_Dep)) (d_1 : Api_Dep) (r : (List Api_Dep)) (hF : ref04_Add p_0 d_1 = some r) : Ct Try.prog 15 [.g (.d (.sl 3 (List.map encApi_Dep p_0))), .g (.agg (encApi_Dep d_1))] (.one (.d (.sl 3 (List.map encApi_Dep r)))) := by
  unfold ref04_Add at hF
  refine Ct.intro Try.func15 rfl Try.ntmps15 rfl rfl fun M w => ?_
  refine G.seq ?_
  refine G.region ?_
  refine G.op2 (op_boxA (k := 1003) (Ev.t 1 (.g (.agg [.v (.string d_1.Key), .v (.int .i64 d_1.Stamp.N), .v (.int .i64 d_1.Stamp.Site)]))) rfl) rfl ⟨rfl, trivial⟩ ⟨rfl, trivial⟩ ?_
  refine G.op1 (op_assign (Ev.n 3) rfl) rfl trivial trivial ?_
  refine G.endOps ?_
  refine G.seq ?_
  refine G.region ?_
  refine G.op1 (op_fieldP (off' := 0) Try.underlying39 rfl ti9 (by decide) rfl (Ev.t 3 (.ptr 1003 0)) rfl) rfl ⟨rfl, trivial⟩ trivial ?_
  refine G.op1 (op_load1P (c := bS d_1.Key) Try.underlying9 rfl rfl (Ev.t 11 (.ptr 1003 0)) rfl) rfl ⟨rfl, trivial⟩ ⟨rfl, trivial⟩ ?_
  obtain ⟨r1, hr1, hF⟩ := bindS hF
  refine G.op1 (op_callQ (sv := .one (bB r1)) cf34 (ct_ref02_Check d_1.Key r1 hr1) rfl rfl (EvQL.cons (EvQ.g (Ev.t 12 (bS d_1.Key))) EvQL.nil) rfl) rfl ⟨rfl, trivial⟩ trivial ?_
  refine G.op1 (op_assign (Ev.t 13 (bB r1)) rfl) rfl ⟨rfl, trivial⟩ trivial ?_
  refine G.endOps ?_
  refine G.seq ?_
  refine G.region ?_
  refine G.op1 (op_fieldP (off' := 1) Try.underlying39 rfl ti29 (by decide) rfl (Ev.t 3 (.ptr 1003 0)) rfl) rfl ⟨rfl, trivial⟩ trivial ?_
  refine G.op1 (op_loadAP (ds := [.v (.int .i64 d_1.Stamp.N), .v (.int .i64 d_1.Stamp.Site)]) Try.underlying29 rfl ti29 rfl (Ev.t 14 (.ptr 1003 1)) rfl) rfl ⟨rfl, trivial⟩ ⟨rfl, trivial⟩ ?_
  obtain ⟨r2, hr2, hF⟩ := bindS hF
  refine G.op1 (op_callQ (sv := .one (bB r2)) cf35 (ct_ref03_Check d_1.Stamp r2 hr2) rfl rfl (EvQL.cons (EvQ.g (Ev.t 15 (.g (.agg [.v (.int .i64 d_1.Stamp.N), .v (.int .i64 d_1.Stamp.Site)])))) EvQL.nil) rfl) rfl ⟨rfl, trivial⟩ trivial ?_
  refine G.op1 (op_assign (Ev.t 16 (bB r2)) rfl) rfl ⟨rfl, trivial⟩ trivial ?_
  refine G.endOps ?_
  refine G.seq ?_
  refine G.seq ?_
  refine G.joinC (T := Bool) (fun y3 => ⟨[(0, .one (.g (.d (.sl 3 (List.map encApi_Dep p_0))))), (3, .one (.ptr 1003 0)), (22, .one (bB y3))], [(1003, some (.blk 39 [bS d_1.Key, bI .i64 d_1.Stamp.N, bI .i64 d_1.Stamp.Site]))]⟩) (fun y3 => ref04_Add_k1 p_0 d_1 y3 = some r) (fun y3 hF => ?_) (fun J28 => ?_)
  · unfold ref04_Add_k1 at hF
    refine ifS hF (fun hc4 hF => ?_) (fun hc4 hF => ?_)
    · refine G.cond rfl (fun _ => ?_) (fun hx => by rw [hc4] at hx; cases hx)
      refine G.seq ?_
      refine G.region ?_
      refine G.op1 (op_move (Ev.t 0 (.g (.d (.sl 3 (List.map encApi_Dep p_0))))) rfl) rfl ⟨rfl, trivial⟩ trivial ?_
      refine G.op1 (op_assign (Ev.t 23 (.g (.d (.sl 3 (List.map encApi_Dep p_0))))) rfl) rfl ⟨rfl, trivial⟩ trivial ?_
      refine G.endOps ?_
      cases hF
      exact G.ret1 Try.results15 (RVar.tmp 4 _) ⟨rfl, trivial⟩ trivial
    · refine G.cond rfl (fun hx => by rw [hc4] at hx; cases hx) (fun _ => ?_)
      refine G.skip ?_
      refine G.seq ?_
      refine G.region ?_
      refine G.op2 (op_assignRow (E := 39) (size := 3) (k := 2007) (ex := false) rfl rfl) rfl trivial ⟨rfl, trivial⟩ ?_
      refine G.endOps ?_
      refine G.seq ?_
      refine G.region ?_
      refine G.op1 (op_assign (Ev.c _ rfl) rfl) rfl trivial trivial ?_
      refine G.endOps ?_
      refine G.seq ?_
      refine G.seq ?_
      refine G.region ?_
      refine G.op1 (op_assign (Ev.c _ rfl) rfl) rfl trivial trivial ?_
      refine G.endOps ?_
      refine G.joinC (T := Bool × (List Api_Dep)) (fun y5 => ⟨[(3, .one (.ptr 1003 0)), (7, .one (.own 2007 (List.map encApi_Dep y5.2))), (8, .one (bB y5.1))], [(1003, some (.blk 39 [bS d_1.Key, bI .i64 d_1.Stamp.N, bI .i64 d_1.Stamp.Site])), (2007, some (.row 39 3 (List.map encApi_Dep y5.2) false))]⟩) (fun y5 => ref04_Add_k2 d_1 y5 = some r) (fun y5 hF => ?_) (fun J8 => ?_)
      · unfold ref04_Add_k2 at hF
        refine G.seq ?_
        refine G.seq ?_
        refine G.region ?_
        refine G.op1 (op_move (Ev.t 8 (bB y5.1)) rfl) rfl ⟨rfl, trivial⟩ trivial ?_
        refine G.op1 (op_not (Ev.t 62 (bB y5.1)) rfl) rfl ⟨rfl, trivial⟩ trivial ?_
        refine G.endOps ?_
        refine ifS hF (fun hc6 hF => ?_) (fun hc6 hF => ?_)
        · refine G.cond rfl (fun _ => ?_) (fun hx => by rw [hc6] at hx; cases hx)
          refine G.region ?_
          refine G.op1 (op_move (Ev.t 7 (.own 2007 (List.map encApi_Dep y5.2))) rfl) rfl ⟨rfl, trivial⟩ trivial ?_
          refine G.op1 (op_loadAP (ds := [.v (.string d_1.Key), .v (.int .i64 d_1.Stamp.N), .v (.int .i64 d_1.Stamp.Site)]) Try.underlying39 rfl ti39 rfl (Ev.t 3 (.ptr 1003 0)) rfl) rfl ⟨rfl, trivial⟩ ⟨rfl, trivial⟩ ?_
          refine G.op1 (op_buildSlice (es := List.map encApi_Dep [d_1]) Try.underlying30 ti39 rfl rfl (EvP.cons (Ev.t 65 (.g (.agg [.v (.string d_1.Key), .v (.int .i64 d_1.Stamp.N), .v (.int .i64 d_1.Stamp.Site)]))) EvP.nil) rfl rfl (by simp [encApi_Dep]) rfl) rfl ⟨rfl, trivial⟩ trivial ?_
          obtain ⟨l7, hl7, hF⟩ := bindS hF
          refine G.op2 (op_appendO Try.underlying30 ti39 rfl (app_map hl7 encApi_Dep) (app_b1 hl7 encApi_Dep) (app_b2 hl7 encApi_Dep) (Ev.t 64 (.own 2007 (List.map encApi_Dep y5.2))) (Ev.t 66 (.g (.d (.sl 3 (List.map encApi_Dep ([d_1])))))) rfl) rfl ⟨rfl, rfl, trivial⟩ ⟨rfl, trivial⟩ ?_
          refine G.op1 (op_assign (Ev.t 67 (.own 2007 (List.map encApi_Dep l7))) rfl) rfl ⟨rfl, trivial⟩ trivial ?_
          refine G.endOps ?_
          refine G.seq ?_
          refine G.region ?_
          refine G.op1 (op_move (Ev.t 7 (.own 2007 (List.map encApi_Dep l7))) rfl) rfl ⟨rfl, trivial⟩ trivial ?_
          refine G.op1 (op_assign (Ev.t 68 (.own 2007 (List.map encApi_Dep l7))) rfl) rfl ⟨rfl, trivial⟩ trivial ?_
          refine G.endOps ?_
          refine G.view (t := 4) rfl rfl ?_
          cases hF
          exact G.ret1 Try.results15 (RVar.tmp 4 _) ⟨rfl, trivial⟩ trivial
        · refine G.cond rfl (fun hx => by rw [hc6] at hx; cases hx) (fun _ => ?_)
          refine G.skip ?_
          refine G.seq ?_
          refine G.region ?_
          refine G.op1 (op_move (Ev.t 7 (.own 2007 (List.map encApi_Dep y5.2))) rfl) rfl ⟨rfl, trivial⟩ trivial ?_
          refine G.op1 (op_assign (Ev.t 68 (.own 2007 (List.map encApi_Dep y5.2))) rfl) rfl ⟨rfl, trivial⟩ trivial ?_
          refine G.endOps ?_
          refine G.view (t := 4) rfl rfl ?_
          cases hF
          exact G.ret1 Try.results15 (RVar.tmp 4 _) ⟨rfl, trivial⟩ trivial
      refine G.block ?_
      refine G.keep (sl' := [(0, .one (.g (.d (.sl 3 (List.map encApi_Dep p_0))))), (3, .one (.ptr 1003 0)), (7, .one (.own 2007 (List.map encApi_Dep ([] : (List Api_Dep))))), (8, .one (bB false)), (9, .one (bI .i64 0))]) (hp' := [(1003, some (.blk 39 [bS d_1.Key, bI .i64 d_1.Stamp.N, bI .i64 d_1.Stamp.Site])), (2007, some (.row 39 3 (List.map encApi_Dep ([] : (List Api_Dep))) false))]) ⟨rfl, rfl, rfl, rfl, rfl, trivial⟩ ⟨rfl, rfl, trivial⟩ rfl ?_
      refine G.loopF (fun (v9 : Bool × Int × (List Api_Dep)) => ⟨[(0, .one (.g (.d (.sl 3 (List.map encApi_Dep p_0))))), (3, .one (.ptr 1003 0)), (7, .one (.own 2007 (List.map encApi_Dep v9.2.2))), (8, .one (bB v9.1)), (9, .one (bI .i64 v9.2.1))], [(1003, some (.blk 39 [bS d_1.Key, bI .i64 d_1.Stamp.N, bI .i64 d_1.Stamp.Site])), (2007, some (.row 39 3 (List.map encApi_Dep v9.2.2) false))]⟩) hF rfl (fun K12 again11 v9 J10 hF => ?_)
      unfold ref04_Add_l3 at hF
      refine G.seq ?_
      refine G.seq ?_
      refine G.region ?_
      refine G.op1 (op_move (Ev.t 9 (bI .i64 v9.2.1)) rfl) rfl ⟨rfl, trivial⟩ trivial ?_
      refine G.op1 (op_move (Ev.t 0 (.g (.d (.sl 3 (List.map encApi_Dep p_0))))) rfl) rfl ⟨rfl, trivial⟩ trivial ?_
      refine G.op1 (OpL.cast (op_lenD Try.underlying30 (Ev.t 25 (.g (.d (.sl 3 (List.map encApi_Dep p_0))))) rfl) (by rw [List.length_map])) rfl ⟨rfl, trivial⟩ trivial ?_
      refine G.op1 (op_lss (Ev.t 24 (bI .i64 v9.2.1)) (Ev.t 26 (bI .i64 (p_0.length : Int))) rfl) rfl ⟨rfl, rfl, trivial⟩ trivial ?_
      refine G.endOps ?_
      refine ifS hF (fun hc13 hF => ?_) (fun hc13 hF => ?_)
      · refine G.cond rfl (fun _ => ?_) (fun hx => by rw [hc13] at hx; cases hx)
        refine G.skip ?_
        refine G.seq ?_
        refine G.block ?_
        refine G.seq ?_
        refine G.region ?_
        refine G.op1 (op_move (Ev.t 0 (.g (.d (.sl 3 (List.map encApi_Dep p_0))))) rfl) rfl ⟨rfl, trivial⟩ trivial ?_
        refine G.op1 (op_move (Ev.t 9 (bI .i64 v9.2.1)) rfl) rfl ⟨rfl, trivial⟩ trivial ?_
        obtain ⟨x14, hx14, hF⟩ := bindS hF
        refine G.op1 (op_index (cs := [.v (.string x14.Key), .v (.int .i64 x14.Stamp.N), .v (.int .i64 x14.Stamp.Site)]) Try.underlying30 ti39 (idx_ok hx14).1 (idx_get hx14 encApi_Dep) (Ev.t 30 (.g (.d (.sl 3 (List.map encApi_Dep p_0))))) (Ev.t 31 (bI .i64 v9.2.1)) rfl) rfl ⟨rfl, rfl, trivial⟩ trivial ?_
        refine G.op1 (op_loadAE (ds := [.v (.string x14.Key), .v (.int .i64 x14.Stamp.N), .v (.int .i64 x14.Stamp.Site)]) Try.underlying39 rfl ti39 rfl (Ev.t 32 (.ep [.v (.string x14.Key), .v (.int .i64 x14.Stamp.N), .v (.int .i64 x14.Stamp.Site)])) rfl) rfl ⟨rfl, trivial⟩ trivial ?_
        refine G.op2 (op_alloc (k := 1010) (cs := [bS ByteArray.empty, bI .i64 0, bI .i64 0]) ti39 ⟨.v _ rfl, .v _ rfl, .v _ rfl, trivial⟩ rfl) rfl trivial ⟨rfl, trivial⟩ ?_
        refine G.op3 (op_storeA (cs' := [bS x14.Key, bI .i64 x14.Stamp.N, bI .i64 x14.Stamp.Site]) ti39 rfl rfl (Ev.t 10 (.ptr 1010 0)) (Ev.t 33 (.g (.agg [.v (.string x14.Key), .v (.int .i64 x14.Stamp.N), .v (.int .i64 x14.Stamp.Site)])))) rfl ⟨rfl, rfl, trivial⟩ ⟨rfl, trivial⟩ ?_
        refine G.endOps ?_
        refine G.seq ?_
        refine G.seq ?_
        refine G.region ?_
        refine G.op1 (op_fieldP (off' := 0) Try.underlying39 rfl ti9 (by decide) rfl (Ev.t 10 (.ptr 1010 0)) rfl) rfl ⟨rfl, trivial⟩ trivial ?_
        refine G.op1 (op_load1P (c := bS x14.Key) Try.underlying9 rfl rfl (Ev.t 34 (.ptr 1010 0)) rfl) rfl ⟨rfl, trivial⟩ ⟨rfl, trivial⟩ ?_
        refine G.op1 (op_fieldP (off' := 0) Try.underlying39 rfl ti9 (by decide) rfl (Ev.t 3 (.ptr 1003 0)) rfl) rfl ⟨rfl, trivial⟩ trivial ?_
        refine G.op1 (op_load1P (c := bS d_1.Key) Try.underlying9 rfl rfl (Ev.t 36 (.ptr 1003 0)) rfl) rfl ⟨rfl, trivial⟩ ⟨rfl, trivial⟩ ?_
        refine G.op1 (op_eqS (Ev.t 35 (bS x14.Key)) (Ev.t 37 (bS d_1.Key)) rfl) rfl ⟨rfl, rfl, trivial⟩ trivial ?_
        refine G.endOps ?_
        refine G.joinC (T := Bool × ByteArray × Int × Int) (fun y15 => ⟨[(0, .one (.g (.d (.sl 3 (List.map encApi_Dep p_0))))), (3, .one (.ptr 1003 0)), (7, .one (.own 2007 (List.map encApi_Dep v9.2.2))), (8, .one (bB y15.1)), (9, .one (bI .i64 v9.2.1)), (10, .one (.ptr 1010 0))], [(1003, some (.blk 39 [bS d_1.Key, bI .i64 d_1.Stamp.N, bI .i64 d_1.Stamp.Site])), (1010, some (.blk 39 [bS y15.2.1, bI .i64 y15.2.2.1, bI .i64 y15.2.2.2])), (2007, some (.row 39 3 (List.map encApi_Dep v9.2.2) false))]⟩) (fun y15 => ref04_Add_k4 d_1 again11 v9 y15 = some r) (fun y15 hF => ?_) (fun J24 => ?_)
        · unfold ref04_Add_k4 at hF
          refine G.seq ?_
          refine G.seq ?_
          refine G.joinC (T := Bool) (fun y16 => ⟨[(0, .one (.g (.d (.sl 3 (List.map encApi_Dep p_0))))), (3, .one (.ptr 1003 0)), (7, .one (.own 2007 (List.map encApi_Dep v9.2.2))), (8, .one (bB y15.1)), (9, .one (bI .i64 v9.2.1)), (10, .one (.ptr 1010 0)), (53, .one (bB y16))], [(1003, some (.blk 39 [bS d_1.Key, bI .i64 d_1.Stamp.N, bI .i64 d_1.Stamp.Site])), (1010, some (.blk 39 [bS y15.2.1, bI .i64 y15.2.2.1, bI .i64 y15.2.2.2])), (2007, some (.row 39 3 (List.map encApi_Dep v9.2.2) false))]⟩) (fun y16 => ref04_Add_k5 d_1 again11 v9 y15 y16 = some r) (fun y16 hF => ?_) (fun J22 => ?_)
          · unfold ref04_Add_k5 at hF
            refine G.joinC (T := Bool × (List Api_Dep)) (fun y17 => ⟨[(0, .one (.g (.d (.sl 3 (List.map encApi_Dep p_0))))), (3, .one (.ptr 1003 0)), (7, .one (.own 2007 (List.map encApi_Dep y17.2))), (8, .one (bB y17.1)), (9, .one (bI .i64 v9.2.1)), (10, .one (.ptr 1010 0))], [(1003, some (.blk 39 [bS d_1.Key, bI .i64 d_1.Stamp.N, bI .i64 d_1.Stamp.Site])), (1010, some (.blk 39 [bS y15.2.1, bI .i64 y15.2.2.1, bI .i64 y15.2.2.2])), (2007, some (.row 39 3 (List.map encApi_Dep y17.2) false))]⟩) (fun y17 => ref04_Add_k6 again11 v9 y15 y17 = some r) (fun y17 hF => ?_) (fun J19 => ?_)
            · unfold ref04_Add_k6 at hF
              refine G.region ?_
              refine G.op1 (op_move (Ev.t 7 (.own 2007 (List.map encApi_Dep y17.2))) rfl) rfl ⟨rfl, trivial⟩ trivial ?_
              refine G.op1 (op_loadAP (ds := [.v (.string y15.2.1), .v (.int .i64 y15.2.2.1), .v (.int .i64 y15.2.2.2)]) Try.underlying39 rfl ti39 rfl (Ev.t 10 (.ptr 1010 0)) rfl) rfl ⟨rfl, trivial⟩ ⟨rfl, trivial⟩ ?_
              refine G.op1 (op_buildSlice (es := List.map encApi_Dep [(Api_Dep.mk y15.2.1 (Api_Stamp.mk y15.2.2.1 y15.2.2.2))]) Try.underlying30 ti39 rfl rfl (EvP.cons (Ev.t 59 (.g (.agg [.v (.string y15.2.1), .v (.int .i64 y15.2.2.1), .v (.int .i64 y15.2.2.2)]))) EvP.nil) rfl rfl (by simp [encApi_Dep]) rfl) rfl ⟨rfl, trivial⟩ trivial ?_
              obtain ⟨l18, hl18, hF⟩ := bindS hF
              refine G.op2 (op_appendO Try.underlying30 ti39 rfl (app_map hl18 encApi_Dep) (app_b1 hl18 encApi_Dep) (app_b2 hl18 encApi_Dep) (Ev.t 58 (.own 2007 (List.map encApi_Dep y17.2))) (Ev.t 60 (.g (.d (.sl 3 (List.map encApi_Dep ([(Api_Dep.mk y15.2.1 (Api_Stamp.mk y15.2.2.1 y15.2.2.2))])))))) rfl) rfl ⟨rfl, rfl, trivial⟩ ⟨rfl, trivial⟩ ?_
              refine G.op1 (op_assign (Ev.t 61 (.own 2007 (List.map encApi_Dep l18))) rfl) rfl ⟨rfl, trivial⟩ trivial ?_
              refine G.endOps ?_
              refine G.endBlock ?_
              refine G.region ?_
              refine G.op1 (op_move (Ev.t 9 (bI .i64 v9.2.1)) rfl) rfl ⟨rfl, trivial⟩ trivial ?_
              refine G.op1 (op_add (Ev.t 28 (bI .i64 v9.2.1)) (Ev.c _ rfl) rfl) rfl ⟨rfl, trivial⟩ trivial ?_
              refine G.op1 (op_assign (Ev.t 29 (bI .i64 (IntKind.wrap .i64 (v9.2.1 + 1)))) rfl) rfl ⟨rfl, trivial⟩ trivial ?_
              refine G.endOps ?_
              exact G.arr (J10 (y17.1, IntKind.wrap .i64 (v9.2.1 + 1), l18) hF) ⟨rfl, rfl, rfl, rfl, rfl, trivial⟩ ⟨rfl, rfl, trivial⟩ rfl
            refine ifS hF (fun hc20 hF => ?_) (fun hc20 hF => ?_)
            · refine G.cond rfl (fun _ => ?_) (fun hx => by rw [hc20] at hx; cases hx)
              refine G.seq ?_
              refine G.region ?_
              refine G.op1 (op_move (Ev.t 7 (.own 2007 (List.map encApi_Dep v9.2.2))) rfl) rfl ⟨rfl, trivial⟩ trivial ?_
              refine G.op1 (op_loadAP (ds := [.v (.string d_1.Key), .v (.int .i64 d_1.Stamp.N), .v (.int .i64 d_1.Stamp.Site)]) Try.underlying39 rfl ti39 rfl (Ev.t 3 (.ptr 1003 0)) rfl) rfl ⟨rfl, trivial⟩ ⟨rfl, trivial⟩ ?_
              refine G.op1 (op_buildSlice (es := List.map encApi_Dep [d_1]) Try.underlying30 ti39 rfl rfl (EvP.cons (Ev.t 55 (.g (.agg [.v (.string d_1.Key), .v (.int .i64 d_1.Stamp.N), .v (.int .i64 d_1.Stamp.Site)]))) EvP.nil) rfl rfl (by simp [encApi_Dep]) rfl) rfl ⟨rfl, trivial⟩ trivial ?_
              obtain ⟨l21, hl21, hF⟩ := bindS hF
              refine G.op2 (op_appendO Try.underlying30 ti39 rfl (app_map hl21 encApi_Dep) (app_b1 hl21 encApi_Dep) (app_b2 hl21 encApi_Dep) (Ev.t 54 (.own 2007 (List.map encApi_Dep v9.2.2))) (Ev.t 56 (.g (.d (.sl 3 (List.map encApi_Dep ([d_1])))))) rfl) rfl ⟨rfl, rfl, trivial⟩ ⟨rfl, trivial⟩ ?_
              refine G.op1 (op_assign (Ev.t 57 (.own 2007 (List.map encApi_Dep l21))) rfl) rfl ⟨rfl, trivial⟩ trivial ?_
              refine G.endOps ?_
              refine G.region ?_
              refine G.op1 (op_assign (Ev.c _ rfl) rfl) rfl trivial trivial ?_
              refine G.endOps ?_
              exact G.arr (J19 (true, l21) hF) ⟨rfl, rfl, rfl, rfl, rfl, rfl, trivial⟩ ⟨rfl, rfl, rfl, trivial⟩ rfl
            · refine G.cond rfl (fun hx => by rw [hc20] at hx; cases hx) (fun _ => ?_)
              refine G.skip ?_
              exact G.arr (J19 (y15.1, v9.2.2) hF) ⟨rfl, rfl, rfl, rfl, rfl, rfl, trivial⟩ ⟨rfl, rfl, rfl, trivial⟩ rfl
          refine G.region ?_
          refine G.op1 (op_move (Ev.t 8 (bB y15.1)) rfl) rfl ⟨rfl, trivial⟩ trivial ?_
          refine G.op1 (op_not (Ev.t 45 (bB y15.1)) rfl) rfl ⟨rfl, trivial⟩ trivial ?_
          refine G.op1 (op_move (Ev.t 46 (bB (!y15.1))) rfl) rfl ⟨rfl, trivial⟩ trivial ?_
          refine ifS hF (fun hc23 hF => ?_) (fun hc23 hF => ?_)
          · refine G.known (t := 47) hc23 rfl ?_
            refine G.opG1 (op_fieldP (off' := 0) Try.underlying39 rfl ti9 (by decide) rfl (Ev.t 10 (.ptr 1010 0)) rfl) rfl rfl rfl ⟨rfl, trivial⟩ trivial ?_
            refine G.opG1 (op_load1P (c := bS y15.2.1) Try.underlying9 rfl rfl (Ev.t 48 (.ptr 1010 0)) rfl) rfl rfl rfl ⟨rfl, trivial⟩ ⟨rfl, trivial⟩ ?_
            refine G.opG1 (op_fieldP (off' := 0) Try.underlying39 rfl ti9 (by decide) rfl (Ev.t 3 (.ptr 1003 0)) rfl) rfl rfl rfl ⟨rfl, trivial⟩ trivial ?_
            refine G.opG1 (op_load1P (c := bS d_1.Key) Try.underlying9 rfl rfl (Ev.t 50 (.ptr 1003 0)) rfl) rfl rfl rfl ⟨rfl, trivial⟩ ⟨rfl, trivial⟩ ?_
            refine G.opG1 (op_gtS (Ev.t 49 (bS y15.2.1)) (Ev.t 51 (bS d_1.Key)) rfl) rfl rfl rfl ⟨rfl, rfl, trivial⟩ trivial ?_
            refine G.op1 (op_pickT (Ev.t 47 (bB true)) (Ev.t 52 (bB (!(slt y15.2.1 d_1.Key || seq y15.2.1 d_1.Key)))) rfl) rfl ⟨rfl, rfl, trivial⟩ trivial ?_
            refine G.endOps ?_
            exact G.arr (J22 (!(slt y15.2.1 d_1.Key || seq y15.2.1 d_1.Key)) hF) ⟨rfl, rfl, rfl, rfl, rfl, rfl, rfl, trivial⟩ ⟨rfl, rfl, rfl, trivial⟩ rfl
          · refine G.known (t := 47) hc23 rfl ?_
            refine G.opN1 rfl rfl rfl rfl rfl ?_
            refine G.opN1 rfl rfl rfl rfl rfl ?_
            refine G.opN1 rfl rfl rfl rfl rfl ?_
            refine G.opN1 rfl rfl rfl rfl rfl ?_
            refine G.opN1 rfl rfl rfl rfl rfl ?_
            refine G.op1 (op_pickF (Ev.t 47 (bB false)) (Ev.c _ rfl) rfl) rfl ⟨rfl, trivial⟩ trivial ?_
            refine G.endOps ?_
            exact G.arr (J22 false hF) ⟨rfl, rfl, rfl, rfl, rfl, rfl, rfl, trivial⟩ ⟨rfl, rfl, rfl, trivial⟩ rfl
        refine ifS hF (fun hc25 hF => ?_) (fun hc25 hF => ?_)
        · refine G.cond rfl (fun _ => ?_) (fun hx => by rw [hc25] at hx; cases hx)
          refine G.seq ?_
          refine G.seq ?_
          refine G.region ?_
          refine G.op1 (op_fieldP (off' := 1) Try.underlying39 rfl ti29 (by decide) rfl (Ev.t 10 (.ptr 1010 0)) rfl) rfl ⟨rfl, trivial⟩ trivial ?_
          refine G.op1 (op_loadAP (ds := [.v (.int .i64 x14.Stamp.N), .v (.int .i64 x14.Stamp.Site)]) Try.underlying29 rfl ti29 rfl (Ev.t 39 (.ptr 1010 1)) rfl) rfl ⟨rfl, trivial⟩ ⟨rfl, trivial⟩ ?_
          refine G.op1 (op_fieldP (off' := 1) Try.underlying39 rfl ti29 (by decide) rfl (Ev.t 3 (.ptr 1003 0)) rfl) rfl ⟨rfl, trivial⟩ trivial ?_
          refine G.op1 (op_loadAP (ds := [.v (.int .i64 d_1.Stamp.N), .v (.int .i64 d_1.Stamp.Site)]) Try.underlying29 rfl ti29 rfl (Ev.t 41 (.ptr 1003 1)) rfl) rfl ⟨rfl, trivial⟩ ⟨rfl, trivial⟩ ?_
          obtain ⟨r26, hr26, hF⟩ := bindS hF
          refine G.op1 (op_callQ (sv := .one (bB r26)) cf17 (ct_ref03_Less x14.Stamp d_1.Stamp r26 hr26) rfl rfl (EvQL.cons (EvQ.g (Ev.t 40 (.g (.agg [.v (.int .i64 x14.Stamp.N), .v (.int .i64 x14.Stamp.Site)])))) (EvQL.cons (EvQ.g (Ev.t 42 (.g (.agg [.v (.int .i64 d_1.Stamp.N), .v (.int .i64 d_1.Stamp.Site)])))) EvQL.nil)) rfl) rfl ⟨rfl, rfl, trivial⟩ trivial ?_
          refine G.endOps ?_
          refine ifS hF (fun hc27 hF => ?_) (fun hc27 hF => ?_)
          · refine G.cond rfl (fun _ => ?_) (fun hx => by rw [hc27] at hx; cases hx)
            refine G.region ?_
            refine G.op1 (op_loadAP (ds := [.v (.string d_1.Key), .v (.int .i64 d_1.Stamp.N), .v (.int .i64 d_1.Stamp.Site)]) Try.underlying39 rfl ti39 rfl (Ev.t 3 (.ptr 1003 0)) rfl) rfl ⟨rfl, trivial⟩ ⟨rfl, trivial⟩ ?_
            refine G.op3 (op_storeA (cs' := [bS d_1.Key, bI .i64 d_1.Stamp.N, bI .i64 d_1.Stamp.Site]) ti39 rfl rfl (Ev.t 10 (.ptr 1010 0)) (Ev.t 44 (.g (.agg [.v (.string d_1.Key), .v (.int .i64 d_1.Stamp.N), .v (.int .i64 d_1.Stamp.Site)])))) rfl ⟨rfl, rfl, trivial⟩ ⟨rfl, trivial⟩ ?_
            refine G.endOps ?_
            refine G.region ?_
            refine G.op1 (op_assign (Ev.c _ rfl) rfl) rfl trivial trivial ?_
            refine G.endOps ?_
            exact G.arr (J24 (true, d_1.Key, d_1.Stamp.N, d_1.Stamp.Site) hF) ⟨rfl, rfl, rfl, rfl, rfl, rfl, trivial⟩ ⟨rfl, rfl, rfl, trivial⟩ rfl
          · refine G.cond rfl (fun hx => by rw [hc27] at hx; cases hx) (fun _ => ?_)
            refine G.skip ?_
            refine G.region ?_
            refine G.op1 (op_assign (Ev.c _ rfl) rfl) rfl trivial trivial ?_
            refine G.endOps ?_
            exact G.arr (J24 (true, x14.Key, x14.Stamp.N, x14.Stamp.Site) hF) ⟨rfl, rfl, rfl, rfl, rfl, rfl, trivial⟩ ⟨rfl, rfl, rfl, trivial⟩ rfl
        · refine G.cond rfl (fun hx => by rw [hc25] at hx; cases hx) (fun _ => ?_)
          refine G.skip ?_
          exact G.arr (J24 (v9.1, x14.Key, x14.Stamp.N, x14.Stamp.Site) hF) ⟨rfl, rfl, rfl, rfl, rfl, rfl, trivial⟩ ⟨rfl, rfl, rfl, trivial⟩ rfl
      · refine G.cond rfl (fun hx => by rw [hc13] at hx; cases hx) (fun _ => ?_)
        refine G.exit ?_
        refine GX.c ?_
        refine GX.q ?_
        refine GX.bYes ?_
        exact G.arr (J8 (v9.1, v9.2.2) hF) ⟨rfl, rfl, rfl, trivial⟩ ⟨rfl, rfl, trivial⟩ rfl
  refine G.region ?_
  refine G.op1 (op_move (Ev.t 5 (bB r1)) rfl) rfl ⟨rfl, trivial⟩ trivial ?_
  refine G.op1 (op_not (Ev.t 17 (bB r1)) rfl) rfl ⟨rfl, trivial⟩ trivial ?_
  refine G.op1 (op_move (Ev.t 18 (bB (!r1))) rfl) rfl ⟨rfl, trivial⟩ trivial ?_
  refine ifS hF (fun hc29 hF => ?_) (fun hc29 hF => ?_)
  · refine G.known (t := 19) hc29 rfl ?_
    refine G.opN1 rfl rfl rfl rfl rfl ?_
    refine G.opN1 rfl rfl rfl rfl rfl ?_
    refine G.op1 (op_pickT (Ev.t 19 (bB true)) (Ev.c _ rfl) rfl) rfl ⟨rfl, trivial⟩ trivial ?_
    refine G.endOps ?_
    exact G.arr (J28 true hF) ⟨rfl, rfl, rfl, trivial⟩ ⟨rfl, trivial⟩ rfl
  · refine G.known (t := 19) hc29 rfl ?_
    refine G.opG1 (op_move (Ev.t 6 (bB r2)) rfl) rfl rfl rfl ⟨rfl, trivial⟩ trivial ?_
    refine G.opG1 (op_not (Ev.t 20 (bB r2)) rfl) rfl rfl rfl ⟨rfl, trivial⟩ trivial ?_
    refine G.op1 (op_pickF (Ev.t 19 (bB false)) (Ev.t 21 (bB (!r2))) rfl) rfl ⟨rfl, rfl, trivial⟩ trivial ?_
    refine G.endOps ?_
    exact G.arr (J28 (!r2) hF) ⟨rfl, rfl, rfl, trivial⟩ ⟨rfl, trivial⟩ rfl


set_option maxRecDepth 20000 in
set_option maxHeartbeats 2000000 in
theorem ct_ref04_Merge (l_0 : (List (List Api_Dep))) (r : (List Api_Dep)) (hF : ref04_Merge l_0 = some r) : Ct Try.prog 19 [.g (.d (.sl 1 (List.map encL_encApi_Dep l_0)))] (.one (.d (.sl 3 (List.map encApi_Dep r)))) := by
  unfold ref04_Merge at hF
  refine Ct.intro Try.func19 rfl Try.ntmps19 rfl rfl fun M w => ?_
  refine G.seq ?_
  refine G.region ?_
  refine G.op1 (op_assign (Ev.n 3) rfl) rfl trivial trivial ?_
  refine G.endOps ?_
  refine G.seq ?_
  refine G.region ?_
  refine G.op1 (op_assign (Ev.n 3) rfl) rfl trivial trivial ?_
  refine G.endOps ?_
  refine G.seq ?_
  refine G.seq ?_
  refine G.region ?_
  refine G.op1 (op_assign (Ev.c _ rfl) rfl) rfl trivial trivial ?_
  refine G.endOps ?_
  refine G.joinC (T := (List Api_Dep)) (fun y1 => ⟨[(3, .one (.g (.d (.sl 3 (List.map encApi_Dep y1)))))], []⟩) (fun y1 => ref04_Merge_k1 y1 = some r) (fun y1 hF => ?_) (fun J2 => ?_)
  · unfold ref04_Merge_k1 at hF
    refine G.seq ?_
    refine G.region ?_
    refine G.op1 (op_move (Ev.t 3 (.g (.d (.sl 3 (List.map encApi_Dep y1))))) rfl) rfl ⟨rfl, trivial⟩ trivial ?_
    refine G.op1 (op_assign (Ev.t 30 (.g (.d (.sl 3 (List.map encApi_Dep y1))))) rfl) rfl ⟨rfl, trivial⟩ trivial ?_
    refine G.endOps ?_
    cases hF
    exact G.ret1 Try.results19 (RVar.tmp 2 _) ⟨rfl, trivial⟩ trivial
  refine G.block ?_
  refine G.keep (sl' := [(0, .one (.g (.d (.sl 1 (List.map encL_encApi_Dep l_0))))), (3, .one (.g (.d (.sl 3 (List.map encApi_Dep ([] : (List Api_Dep))))))), (4, .one (bI .i64 0))]) (hp' := []) ⟨rfl, rfl, rfl, trivial⟩ trivial rfl ?_
  refine G.loopF (fun (v3 : (List Api_Dep) × Int) => ⟨[(0, .one (.g (.d (.sl 1 (List.map encL_encApi_Dep l_0))))), (3, .one (.g (.d (.sl 3 (List.map encApi_Dep v3.1))))), (4, .one (bI .i64 v3.2))], []⟩) hF rfl (fun K6 again5 v3 J4 hF => ?_)
  unfold ref04_Merge_l2 at hF
  refine G.seq ?_
  refine G.seq ?_
  refine G.region ?_
  refine G.op1 (op_move (Ev.t 4 (bI .i64 v3.2)) rfl) rfl ⟨rfl, trivial⟩ trivial ?_
  refine G.op1 (op_move (Ev.t 0 (.g (.d (.sl 1 (List.map encL_encApi_Dep l_0))))) rfl) rfl ⟨rfl, trivial⟩ trivial ?_
  refine G.op1 (OpL.cast (op_lenD Try.underlying46 (Ev.t 7 (.g (.d (.sl 1 (List.map encL_encApi_Dep l_0))))) rfl) (by rw [List.length_map])) rfl ⟨rfl, trivial⟩ trivial ?_
  refine G.op1 (op_lss (Ev.t 6 (bI .i64 v3.2)) (Ev.t 8 (bI .i64 (l_0.length : Int))) rfl) rfl ⟨rfl, rfl, trivial⟩ trivial ?_
  refine G.endOps ?_
  refine ifS hF (fun hc7 hF => ?_) (fun hc7 hF => ?_)
  · refine G.cond rfl (fun _ => ?_) (fun hx => by rw [hc7] at hx; cases hx)
    refine G.skip ?_
    refine G.seq ?_
    refine G.joinC (T := (List Api_Dep)) (fun y8 => ⟨[(0, .one (.g (.d (.sl 1 (List.map encL_encApi_Dep l_0))))), (3, .one (.g (.d (.sl 3 (List.map encApi_Dep y8))))), (4, .one (bI .i64 v3.2))], []⟩) (fun y8 => ref04_Merge_k3 again5 v3 y8 = some r) (fun y8 hF => ?_) (fun J9 => ?_)
    · unfold ref04_Merge_k3 at hF
      refine G.region ?_
      refine G.op1 (op_move (Ev.t 4 (bI .i64 v3.2)) rfl) rfl ⟨rfl, trivial⟩ trivial ?_
      refine G.op1 (op_add (Ev.t 10 (bI .i64 v3.2)) (Ev.c _ rfl) rfl) rfl ⟨rfl, trivial⟩ trivial ?_
      refine G.op1 (op_assign (Ev.t 11 (bI .i64 (IntKind.wrap .i64 (v3.2 + 1)))) rfl) rfl ⟨rfl, trivial⟩ trivial ?_
      refine G.endOps ?_
      exact G.arr (J4 (y8, IntKind.wrap .i64 (v3.2 + 1)) hF) ⟨rfl, rfl, rfl, trivial⟩ trivial rfl
    refine G.block ?_
    refine G.seq ?_
    refine G.region ?_
    refine G.op1 (op_assign (Ev.c _ rfl) rfl) rfl trivial trivial ?_
    refine G.endOps ?_
    refine G.joinC (T := (List Api_Dep)) (fun y10 => ⟨[(0, .one (.g (.d (.sl 1 (List.map encL_encApi_Dep l_0))))), (3, .one (.g (.d (.sl 3 (List.map encApi_Dep y10))))), (4, .one (bI .i64 v3.2))], []⟩) (fun y10 => ref04_Merge_k4 again5 v3 y10 = some r) (fun y10 hF => ?_) (fun J11 => ?_)
    · unfold ref04_Merge_k4 at hF
      refine G.endBlock ?_
      exact G.arr (J9 y10 hF) ⟨rfl, rfl, rfl, trivial⟩ trivial rfl
    refine G.block ?_
    refine G.keep (sl' := [(0, .one (.g (.d (.sl 1 (List.map encL_encApi_Dep l_0))))), (3, .one (.g (.d (.sl 3 (List.map encApi_Dep v3.1))))), (4, .one (bI .i64 v3.2)), (5, .one (bI .i64 0))]) (hp' := []) ⟨rfl, rfl, rfl, rfl, trivial⟩ trivial rfl ?_
    refine G.loopF (fun (v12 : (List Api_Dep) × Int) => ⟨[(0, .one (.g (.d (.sl 1 (List.map encL_encApi_Dep l_0))))), (3, .one (.g (.d (.sl 3 (List.map encApi_Dep v12.1))))), (4, .one (bI .i64 v3.2)), (5, .one (bI .i64 v12.2))], []⟩) hF rfl (fun K15 again14 v12 J13 hF => ?_)
    unfold ref04_Merge_l5 at hF
    refine G.seq ?_
    refine G.seq ?_
    refine G.region ?_
    refine G.op1 (op_move (Ev.t 5 (bI .i64 v12.2)) rfl) rfl ⟨rfl, trivial⟩ trivial ?_
    refine G.op1 (op_move (Ev.t 0 (.g (.d (.sl 1 (List.map encL_encApi_Dep l_0))))) rfl) rfl ⟨rfl, trivial⟩ trivial ?_
    refine G.op1 (op_move (Ev.t 4 (bI .i64 v3.2)) rfl) rfl ⟨rfl, trivial⟩ trivial ?_
    obtain ⟨x16, hx16, hF⟩ := bindS hF
    refine G.op1 (op_index (cs := [.sl 3 (List.map encApi_Dep x16)]) Try.underlying46 ti30 (idx_ok hx16).1 (idx_get hx16 encL_encApi_Dep) (Ev.t 13 (.g (.d (.sl 1 (List.map encL_encApi_Dep l_0))))) (Ev.t 14 (bI .i64 v3.2)) rfl) rfl ⟨rfl, rfl, trivial⟩ trivial ?_
    refine G.op1 (op_load1E (c := .sl 3 (List.map encApi_Dep x16)) Try.underlying30 rfl rfl (Ev.t 15 (.ep [.sl 3 (List.map encApi_Dep x16)])) rfl) rfl ⟨rfl, trivial⟩ trivial ?_
    refine G.op1 (OpL.cast (op_lenD Try.underlying30 (Ev.t 16 (.g (.d (.sl 3 (List.map encApi_Dep x16))))) rfl) (by rw [List.length_map])) rfl ⟨rfl, trivial⟩ trivial ?_
    refine G.op1 (op_lss (Ev.t 12 (bI .i64 v12.2)) (Ev.t 17 (bI .i64 (x16.length : Int))) rfl) rfl ⟨rfl, rfl, trivial⟩ trivial ?_
    refine G.endOps ?_
    refine ifS hF (fun hc17 hF => ?_) (fun hc17 hF => ?_)
    · refine G.cond rfl (fun _ => ?_) (fun hx => by rw [hc17] at hx; cases hx)
      refine G.skip ?_
      refine G.seq ?_
      refine G.block ?_
      refine G.region ?_
      refine G.op1 (op_move (Ev.t 3 (.g (.d (.sl 3 (List.map encApi_Dep v12.1))))) rfl) rfl ⟨rfl, trivial⟩ trivial ?_
      refine G.op1 (op_move (Ev.t 0 (.g (.d (.sl 1 (List.map encL_encApi_Dep l_0))))) rfl) rfl ⟨rfl, trivial⟩ trivial ?_
      refine G.op1 (op_move (Ev.t 4 (bI .i64 v3.2)) rfl) rfl ⟨rfl, trivial⟩ trivial ?_
      obtain ⟨x18, hx18, hF⟩ := bindS hF
      refine G.op1 (op_index (cs := [.sl 3 (List.map encApi_Dep x18)]) Try.underlying46 ti30 (idx_ok hx18).1 (idx_get hx18 encL_encApi_Dep) (Ev.t 22 (.g (.d (.sl 1 (List.map encL_encApi_Dep l_0))))) (Ev.t 23 (bI .i64 v3.2)) rfl) rfl ⟨rfl, rfl, trivial⟩ trivial ?_
      refine G.op1 (op_load1E (c := .sl 3 (List.map encApi_Dep x18)) Try.underlying30 rfl rfl (Ev.t 24 (.ep [.sl 3 (List.map encApi_Dep x18)])) rfl) rfl ⟨rfl, trivial⟩ trivial ?_
      refine G.op1 (op_move (Ev.t 5 (bI .i64 v12.2)) rfl) rfl ⟨rfl, trivial⟩ trivial ?_
      obtain ⟨x19, hx19, hF⟩ := bindS hF
      refine G.op1 (op_index (cs := [.v (.string x19.Key), .v (.int .i64 x19.Stamp.N), .v (.int .i64 x19.Stamp.Site)]) Try.underlying30 ti39 (idx_ok hx19).1 (idx_get hx19 encApi_Dep) (Ev.t 25 (.g (.d (.sl 3 (List.map encApi_Dep x18))))) (Ev.t 26 (bI .i64 v12.2)) rfl) rfl ⟨rfl, rfl, trivial⟩ trivial ?_
      refine G.op1 (op_loadAE (ds := [.v (.string x19.Key), .v (.int .i64 x19.Stamp.N), .v (.int .i64 x19.Stamp.Site)]) Try.underlying39 rfl ti39 rfl (Ev.t 27 (.ep [.v (.string x19.Key), .v (.int .i64 x19.Stamp.N), .v (.int .i64 x19.Stamp.Site)])) rfl) rfl ⟨rfl, trivial⟩ trivial ?_
      obtain ⟨r20, hr20, hF⟩ := bindS hF
      refine G.op1 (op_call (sv := .one (.g (.d (.sl 3 (List.map encApi_Dep r20))))) cf15 (ct_ref04_Add v12.1 x19 r20 hr20) rfl (EvL.cons (Ev.t 21 (.g (.d (.sl 3 (List.map encApi_Dep v12.1))))) (EvL.cons (Ev.t 28 (.g (.agg [.v (.string x19.Key), .v (.int .i64 x19.Stamp.N), .v (.int .i64 x19.Stamp.Site)]))) EvL.nil)) rfl) rfl ⟨rfl, rfl, trivial⟩ trivial ?_
      refine G.op1 (op_assign (Ev.t 29 (.g (.d (.sl 3 (List.map encApi_Dep r20))))) rfl) rfl ⟨rfl, trivial⟩ trivial ?_
      refine G.endOps ?_
      refine G.endBlock ?_
      refine G.region ?_
      refine G.op1 (op_move (Ev.t 5 (bI .i64 v12.2)) rfl) rfl ⟨rfl, trivial⟩ trivial ?_
      refine G.op1 (op_add (Ev.t 19 (bI .i64 v12.2)) (Ev.c _ rfl) rfl) rfl ⟨rfl, trivial⟩ trivial ?_
      refine G.op1 (op_assign (Ev.t 20 (bI .i64 (IntKind.wrap .i64 (v12.2 + 1)))) rfl) rfl ⟨rfl, trivial⟩ trivial ?_
      refine G.endOps ?_
      exact G.arr (J13 (r20, IntKind.wrap .i64 (v12.2 + 1)) hF) ⟨rfl, rfl, rfl, rfl, trivial⟩ trivial rfl
    · refine G.cond rfl (fun hx => by rw [hc17] at hx; cases hx) (fun _ => ?_)
      refine G.exit ?_
      refine GX.c ?_
      refine GX.q ?_
      refine GX.bYes ?_
      exact G.arr (J11 v12.1 hF) ⟨rfl, rfl, rfl, trivial⟩ trivial rfl
  · refine G.cond rfl (fun hx => by rw [hc7] at hx; cases hx) (fun _ => ?_)
    refine G.exit ?_
    refine GX.c ?_
    refine GX.q ?_
    refine GX.bYes ?_
    exact G.arr (J2 v3.1 hF) ⟨rfl, trivial⟩ trivial rfl


set_option maxRecDepth 20000 in
set_option maxHeartbeats 2000000 in
theorem ct_law14_word (n_0 : Int) (r : ByteArray) (hF : law14_word n_0 = some r) : Ct Try.prog 32 [.g (.d (.v (.int .i64 n_0)))] (.one (.d (.v (.string r)))) := by
  unfold law14_word at hF
  refine Ct.intro Try.func32 rfl Try.ntmps32 rfl rfl fun M w => ?_
  refine G.seq ?_
  refine G.region ?_
  refine G.op1 (op_assign (Ev.c _ rfl) rfl) rfl trivial trivial ?_
  refine G.endOps ?_
  refine G.seq ?_
  refine G.region ?_
  refine G.op1 (op_move (Ev.t 0 (bI .i64 n_0)) rfl) rfl ⟨rfl, trivial⟩ trivial ?_
  refine G.op1 (op_and (Ev.t 3 (bI .i64 n_0)) (Ev.c _ rfl) rfl) rfl ⟨rfl, trivial⟩ trivial ?_
  refine G.op1 (op_mul (Ev.c _ rfl) (Ev.t 4 (bI .i64 (IntKind.wrap .i64 (BitVec.ofInt (IntKind.bits .i64) n_0 &&& BitVec.ofInt (IntKind.bits .i64) 7).toNat))) rfl) rfl ⟨rfl, trivial⟩ trivial ?_
  refine G.op1 (op_add (Ev.c _ rfl) (Ev.t 5 (bI .i64 (IntKind.wrap .i64 (3 * (IntKind.wrap .i64 (BitVec.ofInt (IntKind.bits .i64) n_0 &&& BitVec.ofInt (IntKind.bits .i64) 7).toNat))))) rfl) rfl ⟨rfl, trivial⟩ trivial ?_
  refine G.op1 (op_convI Try.underlying3 Try.underlying5 (Ev.t 6 (bI .i64 (IntKind.wrap .i64 (97 + (IntKind.wrap .i64 (3 * (IntKind.wrap .i64 (BitVec.ofInt (IntKind.bits .i64) n_0 &&& BitVec.ofInt (IntKind.bits .i64) 7).toNat))))))) rfl) rfl ⟨rfl, trivial⟩ trivial ?_
  refine G.op1 (op_buildSlice (es := List.map encI_u8 [IntKind.wrap .u8 (IntKind.wrap .i64 (97 + (IntKind.wrap .i64 (3 * (IntKind.wrap .i64 (BitVec.ofInt (IntKind.bits .i64) n_0 &&& BitVec.ofInt (IntKind.bits .i64) 7).toNat)))))]) Try.underlying80 ti5 rfl rfl (EvP.cons (Ev.t 7 (bI .u8 (IntKind.wrap .u8 (IntKind.wrap .i64 (97 + (IntKind.wrap .i64 (3 * (IntKind.wrap .i64 (BitVec.ofInt (IntKind.bits .i64) n_0 &&& BitVec.ofInt (IntKind.bits .i64) 7).toNat)))))))) EvP.nil) rfl rfl (by simp [encI_u8]) rfl) rfl ⟨rfl, trivial⟩ trivial ?_
  refine G.op1 (op_toText (ns := [IntKind.wrap .u8 (IntKind.wrap .i64 (97 + (IntKind.wrap .i64 (3 * (IntKind.wrap .i64 (BitVec.ofInt (IntKind.bits .i64) n_0 &&& BitVec.ofInt (IntKind.bits .i64) 7).toNat)))))]) Try.underlying80 Try.underlying5 Try.underlying9 rfl (Ev.t 8 (.g (.d (.sl 1 (List.map encI_u8 ([IntKind.wrap .u8 (IntKind.wrap .i64 (97 + (IntKind.wrap .i64 (3 * (IntKind.wrap .i64 (BitVec.ofInt (IntKind.bits .i64) n_0 &&& BitVec.ofInt (IntKind.bits .i64) 7).toNat)))))])))))) rfl) rfl ⟨rfl, trivial⟩ trivial ?_
  refine G.op1 (op_assign (Ev.t 9 (bS (bytesOf ([IntKind.wrap .u8 (IntKind.wrap .i64 (97 + (IntKind.wrap .i64 (3 * (IntKind.wrap .i64 (BitVec.ofInt (IntKind.bits .i64) n_0 &&& BitVec.ofInt (IntKind.bits .i64) 7).toNat)))))])))) rfl) rfl ⟨rfl, trivial⟩ trivial ?_
  refine G.endOps ?_
  cases hF
  exact G.ret1 Try.results32 (RVar.tmp 2 _) ⟨rfl, trivial⟩ trivial

end Go.Ark
