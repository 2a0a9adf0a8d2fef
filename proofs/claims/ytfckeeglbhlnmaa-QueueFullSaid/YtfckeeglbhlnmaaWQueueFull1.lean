/- Walks, printed by a program of mine: each function of the program computes the typed function of its name. Conditions: none. -/
import Derived.Test.YtfckeeglbhlnmaaFlaw14
import Derived.Test.YtfckeeglbhlnmaaFlib
import Derived.Test.YtfckeeglbhlnmaaFkeys
import Derived.Test.YtfckeeglbhlnmaaFpast
import Derived.Test.YtfckeeglbhlnmaaFstamp
import Derived.Test.YtfckeeglbhlnmaaFqueue
import Derived.Test.YtfckeeglbhlnmaaFwire
import Derived.Test.YtfckeeglbhlnmaaProg
import Derived.KernelRfl
namespace Go.Ark
open Go Go.Ab Go.Proofs



theorem follows : Try.prog.follows .mixedOrders = true := by kernel_rfl

theorem cf11 : CallF Try.prog 11 := fun args w => Try.call11 args w

theorem cf12 : CallF Try.prog 12 := fun args w => Try.call12 args w

theorem cf16 : CallF Try.prog 16 := fun args w => Try.call16 args w

theorem cf20 : CallF Try.prog 20 := fun args w => Try.call20 args w

theorem cf24 : CallF Try.prog 24 := fun args w => Try.call24 args w

theorem cf25 : CallF Try.prog 25 := fun args w => Try.call25 args w

theorem cf36 : CallF Try.prog 36 := fun args w => Try.call36 args w

theorem cf37 : CallF Try.prog 37 := fun args w => Try.call37 args w

theorem cf38 : CallF Try.prog 38 := fun args w => Try.call38 args w

theorem cf39 : CallF Try.prog 39 := fun args w => Try.call39 args w

theorem cf40 : CallF Try.prog 40 := fun args w => Try.call40 args w

theorem cf44 : CallF Try.prog 44 := fun args w => Try.call44 args w

theorem cf45 : CallF Try.prog 45 := fun args w => Try.call45 args w

theorem cf49 : CallF Try.prog 49 := fun args w => Try.call49 args w

theorem cf50 : CallF Try.prog 50 := fun args w => Try.call50 args w

theorem cf51 : CallF Try.prog 51 := fun args w => Try.call51 args w

theorem cf52 : CallF Try.prog 52 := fun args w => Try.call52 args w

theorem cf54 : CallF Try.prog 54 := fun args w => Try.call54 args w

theorem cf55 : CallF Try.prog 55 := fun args w => Try.call55 args w

theorem cf56 : CallF Try.prog 56 := fun args w => Try.call56 args w

theorem cf57 : CallF Try.prog 57 := fun args w => Try.call57 args w

theorem cf58 : CallF Try.prog 58 := fun args w => Try.call58 args w

theorem cf59 : CallF Try.prog 59 := fun args w => Try.call59 args w

theorem cf62 : CallF Try.prog 62 := fun args w => Try.call62 args w

theorem cf63 : CallF Try.prog 63 := fun args w => Try.call63 args w

theorem cf64 : CallF Try.prog 64 := fun args w => Try.call64 args w

theorem cf65 : CallF Try.prog 65 := fun args w => Try.call65 args w

theorem cf66 : CallF Try.prog 66 := fun args w => Try.call66 args w

theorem cf67 : CallF Try.prog 67 := fun args w => Try.call67 args w

theorem cf9 : CallF Try.prog 9 := fun args w => Try.call9 args w

theorem eq29 (a0 : Int) (a1 : Int) (b0 : Int) (b1 : Int) (w : World) : (binOp .eql 29 (.agg #[.int .i64 a0, .int .i64 a1]) (.agg #[.int .i64 b0, .int .i64 b1])).run Try.prog w = .ok (.bool (decide (a0 = b0) && decide (a1 = b1))) w := by
  have u3 := Try.underlying3; have z3 := Try.sizeOf3; have g3 := Try.isAgg3
  have hS : Try.prog.underlying 29 = some (.struct (Try.prog.fieldsOf 29)) := by kernel_rfl
  rw [run_eql_struct, show (10000 : Nat) = 9999 + 1 from rfl, run_equalIn_agg w 9999 29 _ _ hS Try.stoodInHeld29]
  simp only [Program.fieldsOf, Try.underlying29]
  go_simp
  by_cases e0 : a0 = b0 <;> by_cases e1 : a1 = b1 <;> simp [*]

theorem ne29 (a0 : Int) (a1 : Int) (b0 : Int) (b1 : Int) (w : World) : (binOp .neq 29 (.agg #[.int .i64 a0, .int .i64 a1]) (.agg #[.int .i64 b0, .int .i64 b1])).run Try.prog w = .ok (.bool (!(decide (a0 = b0) && decide (a1 = b1)))) w := by
  have u3 := Try.underlying3; have z3 := Try.sizeOf3; have g3 := Try.isAgg3
  have hS : Try.prog.underlying 29 = some (.struct (Try.prog.fieldsOf 29)) := by kernel_rfl
  rw [run_neq_struct, show (10000 : Nat) = 9999 + 1 from rfl, run_equalIn_agg w 9999 29 _ _ hS Try.stoodInHeld29]
  simp only [Program.fieldsOf, Try.underlying29]
  go_simp
  by_cases e0 : a0 = b0 <;> by_cases e1 : a1 = b1 <;> simp [*]

theorem ti29 : Info Try.prog 29 (.agg #[.int .i64 0, .int .i64 0]) 2 16 := Info.of (by kernel_rfl)

theorem ti3 : Info Try.prog 3 (.int .i64 0) 1 8 := Info.of (by kernel_rfl)

theorem ti30 : Info Try.prog 30 (.slice none 0 0) 1 24 := Info.of (by kernel_rfl)

theorem ti32 : Info Try.prog 32 (.agg #[.string ByteArray.empty, .string ByteArray.empty, .bool false, .int .i64 0, .int .i64 0, .slice none 0 0]) 6 80 := Info.of (by kernel_rfl)

theorem ti39 : Info Try.prog 39 (.agg #[.string ByteArray.empty, .int .i64 0, .int .i64 0]) 3 32 := Info.of (by kernel_rfl)

theorem ti4 : Info Try.prog 4 (.bool false) 1 1 := Info.of (by kernel_rfl)

theorem ti51 : Info Try.prog 51 (.agg #[.string ByteArray.empty, .string ByteArray.empty]) 2 32 := Info.of (by kernel_rfl)

theorem ti9 : Info Try.prog 9 (.string ByteArray.empty) 1 16 := Info.of (by kernel_rfl)

theorem pl29 (fs : Array Field) (h : Try.prog.underlying 29 = some (.struct fs)) : Places Try.prog fs #[(0, 1), (1, 1)] := fun w => by rw [Try.underlying29] at h; cases h; simp [Try.sizeOf3]

theorem pl32 (fs : Array Field) (h : Try.prog.underlying 32 = some (.struct fs)) : Places Try.prog fs #[(0, 1), (1, 1), (2, 1), (3, 2), (5, 1)] := fun w => by rw [Try.underlying32] at h; cases h; simp [Try.sizeOf29, Try.sizeOf30, Try.sizeOf4, Try.sizeOf9]

theorem pl39 (fs : Array Field) (h : Try.prog.underlying 39 = some (.struct fs)) : Places Try.prog fs #[(0, 1), (1, 2)] := fun w => by rw [Try.underlying39] at h; cases h; simp [Try.sizeOf29, Try.sizeOf9]

theorem pl51 (fs : Array Field) (h : Try.prog.underlying 51 = some (.struct fs)) : Places Try.prog fs #[(0, 1), (1, 1)] := fun w => by rw [Try.underlying51] at h; cases h; simp [Try.sizeOf9]

set_option maxRecDepth 20000 in
set_option maxHeartbeats 2000000 in
theorem ct_law14_ver (key_0 : ByteArray) (n_1 : Int) (past_2 : (List Api_Dep)) (r : Api_Version) (hF : law14_ver key_0 n_1 past_2 = some r) : Ct Try.prog 25 [.g (.d (.v (.string key_0))), .g (.d (.v (.int .i64 n_1))), .g (.d (.sl 3 (List.map encApi_Dep past_2)))] (.one (.agg (encApi_Version r))) := by
  unfold law14_ver at hF
  refine Ct.intro Try.func25 rfl Try.ntmps25 rfl rfl fun M w => ?_
  refine G.seq ?_
  refine G.region ?_
  refine G.op2 (op_alloc (k := 1006) (cs := [bS ByteArray.empty, bS ByteArray.empty, bB false, bI .i64 0, bI .i64 0, .g (.d (.sl 3 (List.map encApi_Dep ([] : (List Api_Dep)))))]) ti32 ⟨.v _ rfl, .v _ rfl, .v _ rfl, .v _ rfl, .v _ rfl, .n 3, trivial⟩ rfl) rfl trivial ⟨rfl, trivial⟩ ?_
  refine G.endOps ?_
  refine G.seq ?_
  refine G.region ?_
  refine G.op1 (op_move (Ev.t 0 (bS key_0)) rfl) rfl ⟨rfl, trivial⟩ trivial ?_
  refine G.op1 (op_move (Ev.t 1 (bI .i64 n_1)) rfl) rfl ⟨rfl, trivial⟩ trivial ?_
  refine G.op1 (op_build (zs := [.v (.int .i64 0), .v (.int .i64 0)]) (ds := [.v (.int .i64 n_1), .v (.int .i64 0)]) Try.underlying29 ti29 (pl29 _ Try.underlying29) ⟨.v _ rfl, .v _ rfl, trivial⟩ (EvP.cons (Ev.t 8 (bI .i64 n_1)) EvP.nil) rfl rfl) rfl ⟨rfl, trivial⟩ trivial ?_
  refine G.op1 (op_move (Ev.t 2 (.g (.d (.sl 3 (List.map encApi_Dep past_2))))) rfl) rfl ⟨rfl, trivial⟩ trivial ?_
  refine G.op1 (op_build (zs := [.v (.string ByteArray.empty), .v (.string ByteArray.empty), .v (.bool false), .v (.int .i64 0), .v (.int .i64 0), .sl 3 (List.map encApi_Dep ([] : (List Api_Dep)))]) (ds := [.v (.string key_0), .v (.string ByteArray.empty), .v (.bool false), .v (.int .i64 n_1), .v (.int .i64 0), .sl 3 (List.map encApi_Dep past_2)]) Try.underlying32 ti32 (pl32 _ Try.underlying32) ⟨.v _ rfl, .v _ rfl, .v _ rfl, .v _ rfl, .v _ rfl, .n 3, trivial⟩ (EvP.cons (Ev.t 7 (bS key_0)) (EvP.cons (Ev.t 9 (.g (.agg [.v (.int .i64 n_1), .v (.int .i64 0)]))) (EvP.cons (Ev.t 10 (.g (.d (.sl 3 (List.map encApi_Dep past_2))))) EvP.nil))) rfl rfl) rfl ⟨rfl, rfl, rfl, trivial⟩ trivial ?_
  refine G.op3 (op_storeA (cs' := [bS key_0, bS ByteArray.empty, bB false, bI .i64 n_1, bI .i64 0, .g (.d (.sl 3 (List.map encApi_Dep past_2)))]) ti32 rfl rfl (Ev.t 6 (.ptr 1006 0)) (Ev.t 11 (.g (.agg [.v (.string key_0), .v (.string ByteArray.empty), .v (.bool false), .v (.int .i64 n_1), .v (.int .i64 0), .sl 3 (List.map encApi_Dep past_2)])))) rfl ⟨rfl, rfl, trivial⟩ ⟨rfl, trivial⟩ ?_
  refine G.endOps ?_
  cases hF
  exact G.ret1 Try.results25 (RVar.cellA (ds := [.v (.string key_0), .v (.string ByteArray.empty), .v (.bool false), .v (.int .i64 n_1), .v (.int .i64 0), .sl 3 (List.map encApi_Dep past_2)]) Try.underlying32 rfl ti32 rfl) ⟨rfl, trivial⟩ ⟨rfl, trivial⟩


set_option maxRecDepth 20000 in
set_option maxHeartbeats 2000000 in
theorem ct_slices_Clone_Dep (s_0 : (List Api_Dep)) (r : (List Api_Dep)) (hF : slices_Clone_Dep s_0 = some r) : Ct Try.prog 50 [.g (.d (.sl 3 (List.map encApi_Dep s_0)))] (.new 39 3 (List.map encApi_Dep r)) := by
  unfold slices_Clone_Dep at hF
  refine Ct.intro Try.func50 rfl Try.ntmps50 rfl rfl fun M w => ?_
  refine G.seq ?_
  refine G.region ?_
  refine G.op1 (op_assign (c := .x (.slice none 0 0)) (Ev.x _) rfl) rfl trivial trivial ?_
  refine G.endOps ?_
  refine G.seq ?_
  refine G.seq ?_
  refine G.region ?_
  refine G.op1 (op_move (Ev.t 0 (.g (.d (.sl 3 (List.map encApi_Dep s_0))))) rfl) rfl ⟨rfl, trivial⟩ trivial ?_
  refine G.opNil Try.underlying30 (Ev.t 3 (.g (.d (.sl 3 (List.map encApi_Dep s_0))))) rfl ⟨rfl, trivial⟩ (fun nilb1 hnilb1 => ?_)
  refine G.endOps ?_
  refine G.cond rfl (fun hx => ?_) (fun hx => ?_)
  · replace hF := cloneNil (hnilb1 hx) hF
    refine G.seq ?_
    refine G.region ?_
    refine G.op1 (op_assign (c := .x (.slice none 0 0)) (Ev.x _) rfl) rfl trivial trivial ?_
    refine G.endOps ?_
    cases hF
    exact G.retNil (T := 39) Try.results50 ti39 rfl ⟨rfl, trivial⟩
  · clear hnilb1
    refine G.skip ?_
    refine G.seq ?_
    refine G.region ?_
    refine G.op2 (op_buildRow (kk := 2005) Try.underlying30 ti39 rfl rfl) rfl trivial ⟨rfl, trivial⟩ ?_
    refine G.keep (sl' := [(0, .one (.g (.d (.sl 3 (List.map encApi_Dep s_0))))), (2, .one (.x (.slice none 0 0))), (3, .one (.g (.d (.sl 3 (List.map encApi_Dep s_0))))), (4, .one (bB nilb1)), (5, .one (.own 2005 (List.map encApi_Dep ([] : List Api_Dep))))]) (hp' := [(2005, some (.row 39 3 (List.map encApi_Dep ([] : List Api_Dep)) true))]) ⟨rfl, rfl, rfl, rfl, rfl, trivial⟩ ⟨rfl, trivial⟩ rfl ?_
    refine G.op1 (op_move (Ev.t 0 (.g (.d (.sl 3 (List.map encApi_Dep s_0))))) rfl) rfl ⟨rfl, trivial⟩ trivial ?_
    obtain ⟨l2, hl2, hF⟩ := bindS hF
    refine G.op2 (op_appendO Try.underlying30 ti39 rfl (app_map hl2 encApi_Dep) (app_b1 hl2 encApi_Dep) (app_b2 hl2 encApi_Dep) (Ev.t 5 (.own 2005 (List.map encApi_Dep ([] : List Api_Dep)))) (Ev.t 6 (.g (.d (.sl 3 (List.map encApi_Dep s_0))))) rfl) rfl ⟨rfl, rfl, trivial⟩ ⟨rfl, trivial⟩ ?_
    refine G.op1 (op_assign (Ev.t 7 (.own 2005 (List.map encApi_Dep l2))) rfl) rfl ⟨rfl, trivial⟩ trivial ?_
    refine G.endOps ?_
    cases hF
    exact G.retNew Try.results50 rfl rfl


set_option maxRecDepth 20000 in
set_option maxHeartbeats 2000000 in
theorem ct_keys_Has (r_0 : Api_Range) (key_1 : ByteArray) (r : Bool) (hF : keys_Has r_0 key_1 = some r) : Ct Try.prog 56 [.g (.agg (encApi_Range r_0)), .g (.d (.v (.string key_1)))] (.one (.d (.v (.bool r)))) := by
  unfold keys_Has at hF
  refine Ct.intro Try.func56 rfl Try.ntmps56 rfl rfl fun M w => ?_
  refine G.seq ?_
  refine G.region ?_
  refine G.op2 (op_boxA (k := 1002) (Ev.t 0 (.g (.agg [.v (.string r_0.From), .v (.string r_0.To)]))) rfl) rfl ⟨rfl, trivial⟩ ⟨rfl, trivial⟩ ?_
  refine G.op1 (op_assign (Ev.c _ rfl) rfl) rfl trivial trivial ?_
  refine G.endOps ?_
  refine G.seq ?_
  refine G.region ?_
  refine G.op1 (op_move (Ev.t 1 (bS key_1)) rfl) rfl ⟨rfl, trivial⟩ trivial ?_
  refine G.op1 (op_fieldP (off' := 0) Try.underlying51 rfl ti9 (by decide) rfl (Ev.t 2 (.ptr 1002 0)) rfl) rfl ⟨rfl, trivial⟩ trivial ?_
  refine G.op1 (op_load1P (c := bS r_0.From) Try.underlying9 rfl rfl (Ev.t 6 (.ptr 1002 0)) rfl) rfl ⟨rfl, trivial⟩ ⟨rfl, trivial⟩ ?_
  refine G.op1 (op_geS (Ev.t 5 (bS key_1)) (Ev.t 7 (bS r_0.From)) rfl) rfl ⟨rfl, rfl, trivial⟩ trivial ?_
  refine G.op1 (op_move (Ev.t 8 (bB (!slt key_1 r_0.From))) rfl) rfl ⟨rfl, trivial⟩ trivial ?_
  refine ifS hF (fun hc1 hF => ?_) (fun hc1 hF => ?_)
  · refine G.known (t := 9) hc1 rfl ?_
    refine G.opG1 (op_fieldP (off' := 1) Try.underlying51 rfl ti9 (by decide) rfl (Ev.t 2 (.ptr 1002 0)) rfl) rfl rfl rfl ⟨rfl, trivial⟩ trivial ?_
    refine G.opG1 (op_load1P (c := bS r_0.To) Try.underlying9 rfl rfl (Ev.t 10 (.ptr 1002 1)) rfl) rfl rfl rfl ⟨rfl, trivial⟩ ⟨rfl, trivial⟩ ?_
    refine G.opG1 (op_eqS (Ev.t 11 (bS r_0.To)) (Ev.c _ rfl) rfl) rfl rfl rfl ⟨rfl, trivial⟩ trivial ?_
    refine G.opG1 (op_move (Ev.t 12 (bB (seq r_0.To ByteArray.empty))) rfl) rfl rfl rfl ⟨rfl, trivial⟩ trivial ?_
    refine ifS hF (fun hc2 hF => ?_) (fun hc2 hF => ?_)
    · refine G.known (t := 13) hc2 rfl ?_
      refine G.opN1 rfl rfl rfl rfl rfl ?_
      refine G.opN1 rfl rfl rfl rfl rfl ?_
      refine G.opN1 rfl rfl rfl rfl rfl ?_
      refine G.opN1 rfl rfl rfl rfl rfl ?_
      refine G.opG1 (op_pickT (Ev.t 13 (bB true)) (Ev.c _ rfl) rfl) rfl rfl rfl ⟨rfl, trivial⟩ trivial ?_
      refine G.op1 (op_pickT (Ev.t 9 (bB true)) (Ev.t 18 (bB true)) rfl) rfl ⟨rfl, rfl, trivial⟩ trivial ?_
      refine G.op1 (op_assign (Ev.t 19 (bB true)) rfl) rfl ⟨rfl, trivial⟩ trivial ?_
      refine G.endOps ?_
      cases hF
      exact G.ret1 Try.results56 (RVar.tmp 4 _) ⟨rfl, trivial⟩ trivial
    · refine G.known (t := 13) hc2 rfl ?_
      refine G.opG1 (op_move (Ev.t 1 (bS key_1)) rfl) rfl rfl rfl ⟨rfl, trivial⟩ trivial ?_
      refine G.opG1 (op_fieldP (off' := 1) Try.underlying51 rfl ti9 (by decide) rfl (Ev.t 2 (.ptr 1002 0)) rfl) rfl rfl rfl ⟨rfl, trivial⟩ trivial ?_
      refine G.opG1 (op_load1P (c := bS r_0.To) Try.underlying9 rfl rfl (Ev.t 15 (.ptr 1002 1)) rfl) rfl rfl rfl ⟨rfl, trivial⟩ ⟨rfl, trivial⟩ ?_
      refine G.opG1 (op_ltS (Ev.t 14 (bS key_1)) (Ev.t 16 (bS r_0.To)) rfl) rfl rfl rfl ⟨rfl, rfl, trivial⟩ trivial ?_
      refine G.opG1 (op_pickF (Ev.t 13 (bB false)) (Ev.t 17 (bB (slt key_1 r_0.To))) rfl) rfl rfl rfl ⟨rfl, rfl, trivial⟩ trivial ?_
      refine G.op1 (op_pickT (Ev.t 9 (bB true)) (Ev.t 18 (bB (slt key_1 r_0.To))) rfl) rfl ⟨rfl, rfl, trivial⟩ trivial ?_
      refine G.op1 (op_assign (Ev.t 19 (bB (slt key_1 r_0.To))) rfl) rfl ⟨rfl, trivial⟩ trivial ?_
      refine G.endOps ?_
      cases hF
      exact G.ret1 Try.results56 (RVar.tmp 4 _) ⟨rfl, trivial⟩ trivial
  · refine G.known (t := 9) hc1 rfl ?_
    refine G.opN1 rfl rfl rfl rfl rfl ?_
    refine G.opN1 rfl rfl rfl rfl rfl ?_
    refine G.opN1 rfl rfl rfl rfl rfl ?_
    refine G.opN1 rfl rfl rfl rfl rfl ?_
    refine G.opU rfl rfl rfl rfl ?_
    refine G.opU rfl rfl rfl rfl ?_
    refine G.opU rfl rfl rfl rfl ?_
    refine G.opU rfl rfl rfl rfl ?_
    refine G.opN1 rfl rfl rfl rfl rfl ?_
    refine G.op1 (op_pickF (Ev.t 9 (bB false)) (Ev.c _ rfl) rfl) rfl ⟨rfl, trivial⟩ trivial ?_
    refine G.op1 (op_assign (Ev.t 19 (bB false)) rfl) rfl ⟨rfl, trivial⟩ trivial ?_
    refine G.endOps ?_
    cases hF
    exact G.ret1 Try.results56 (RVar.tmp 4 _) ⟨rfl, trivial⟩ trivial


set_option maxRecDepth 20000 in
set_option maxHeartbeats 2000000 in
theorem ct_keys_Find_1 (r_0 : Api_Range) (c0 : ByteArray) (r : Bool) (hF : keys_Find_1 r_0 c0 = some r) : Ct Try.prog 55 [.g (.agg (encApi_Range r_0)), .ep [.v (.string c0)]] (.one (.d (.v (.bool r)))) := by
  unfold keys_Find_1 at hF
  refine Ct.intro Try.func55 rfl Try.ntmps55 rfl rfl fun M w => ?_
  refine G.seq ?_
  refine G.region ?_
  refine G.op2 (op_boxA (k := 1002) (Ev.t 0 (.g (.agg [.v (.string r_0.From), .v (.string r_0.To)]))) rfl) rfl ⟨rfl, trivial⟩ ⟨rfl, trivial⟩ ?_
  refine G.op1 (op_assign (Ev.c _ rfl) rfl) rfl trivial trivial ?_
  refine G.endOps ?_
  refine G.seq ?_
  refine G.region ?_
  refine G.op1 (op_loadAP (ds := [.v (.string r_0.From), .v (.string r_0.To)]) Try.underlying51 rfl ti51 rfl (Ev.t 2 (.ptr 1002 0)) rfl) rfl ⟨rfl, trivial⟩ ⟨rfl, trivial⟩ ?_
  refine G.op1 (op_load1E (c := .v (.string c0)) Try.underlying9 rfl rfl (Ev.t 1 (.ep [.v (.string c0)])) rfl) rfl ⟨rfl, trivial⟩ trivial ?_
  obtain ⟨r1, hr1, hF⟩ := bindS hF
  refine G.op1 (op_callQ (sv := .one (bB r1)) cf56 (ct_keys_Has r_0 c0 r1 hr1) rfl rfl (EvQL.cons (EvQ.g (Ev.t 4 (.g (.agg [.v (.string r_0.From), .v (.string r_0.To)])))) (EvQL.cons (EvQ.g (Ev.t 5 (bS c0))) EvQL.nil)) rfl) rfl ⟨rfl, rfl, trivial⟩ trivial ?_
  refine G.op1 (op_assign (Ev.t 6 (bB r1)) rfl) rfl ⟨rfl, trivial⟩ trivial ?_
  refine G.endOps ?_
  cases hF
  exact G.ret1 Try.results55 (RVar.tmp 3 _) ⟨rfl, trivial⟩ trivial


set_option maxRecDepth 20000 in
set_option maxHeartbeats 2000000 in
theorem ct_slices_IndexFunc_Range (s_0 : (List Api_Range)) (f_1 : (Api_Range → Option Bool)) (r : Int) (hF : slices_IndexFunc_Range s_0 f_1 = some r) : Ct Try.prog 54 [.g (.d (.sl 2 (List.map encApi_Range s_0))), .sem (sem1 (fun x => .agg (encApi_Range x)) (fun y => .bool y) f_1)] (.one (.d (.v (.int .i64 r)))) := by
  unfold slices_IndexFunc_Range at hF
  refine Ct.intro Try.func54 rfl Try.ntmps54 rfl rfl fun M w => ?_
  refine G.seq ?_
  refine G.region ?_
  refine G.op1 (op_assign (Ev.c _ rfl) rfl) rfl trivial trivial ?_
  refine G.endOps ?_
  refine G.seq ?_
  refine G.seq ?_
  refine G.region ?_
  refine G.op1 (op_move (Ev.t 0 (.g (.d (.sl 2 (List.map encApi_Range s_0))))) rfl) rfl ⟨rfl, trivial⟩ trivial ?_
  refine G.op1 (OpL.cast (op_lenD Try.underlying26 (Ev.t 6 (.g (.d (.sl 2 (List.map encApi_Range s_0))))) rfl) (by rw [List.length_map])) rfl ⟨rfl, trivial⟩ trivial ?_
  refine G.op1 (op_move (Ev.c _ rfl) rfl) rfl trivial trivial ?_
  refine G.endOps ?_
  refine G.joinC (T := Unit) (fun y1 => ⟨[], []⟩) (fun y1 => slices_IndexFunc_Range_k1 y1 = some r) (fun y1 hF => ?_) (fun J2 => ?_)
  · unfold slices_IndexFunc_Range_k1 at hF
    refine G.seq ?_
    refine G.region ?_
    refine G.op1 (op_assign (Ev.c _ rfl) rfl) rfl trivial trivial ?_
    refine G.endOps ?_
    cases hF
    exact G.ret1 Try.results54 (RVar.tmp 4 _) ⟨rfl, trivial⟩ trivial
  refine G.block ?_
  refine G.keep (sl' := [(0, .one (.g (.d (.sl 2 (List.map encApi_Range s_0))))), (1, .one (.sem (sem1 (fun x => .agg (encApi_Range x)) (fun y => .bool y) f_1))), (7, .one (bI .i64 (s_0.length : Int))), (8, .one (bI .i64 0))]) (hp' := []) ⟨rfl, rfl, rfl, rfl, trivial⟩ trivial rfl ?_
  refine G.loopF (fun (v3 : Int) => ⟨[(0, .one (.g (.d (.sl 2 (List.map encApi_Range s_0))))), (1, .one (.sem (sem1 (fun x => .agg (encApi_Range x)) (fun y => .bool y) f_1))), (7, .one (bI .i64 (s_0.length : Int))), (8, .one (bI .i64 v3))], []⟩) hF rfl (fun K6 again5 v3 J4 hF => ?_)
  unfold slices_IndexFunc_Range_l2 at hF
  refine G.seq ?_
  refine G.region ?_
  refine G.op1 (op_lss (Ev.t 8 (bI .i64 v3)) (Ev.t 7 (bI .i64 (s_0.length : Int))) rfl) rfl ⟨rfl, rfl, trivial⟩ trivial ?_
  refine G.endOps ?_
  refine G.seq ?_
  refine ifS hF (fun hc7 hF => ?_) (fun hc7 hF => ?_)
  · refine G.cond rfl (fun _ => ?_) (fun hx => by rw [hc7] at hx; cases hx)
    refine G.skip ?_
    refine G.seq ?_
    refine G.block ?_
    refine G.seq ?_
    refine G.region ?_
    refine G.op1 (op_move (Ev.t 8 (bI .i64 v3)) rfl) rfl ⟨rfl, trivial⟩ trivial ?_
    refine G.op1 (op_assign (Ev.t 10 (bI .i64 v3)) rfl) rfl ⟨rfl, trivial⟩ trivial ?_
    refine G.endOps ?_
    refine G.seq ?_
    refine G.region ?_
    refine G.op1 (op_move (Ev.t 1 (.sem (sem1 (fun x => .agg (encApi_Range x)) (fun y => .bool y) f_1))) rfl) rfl ⟨rfl, trivial⟩ trivial ?_
    refine G.op1 (op_move (Ev.t 0 (.g (.d (.sl 2 (List.map encApi_Range s_0))))) rfl) rfl ⟨rfl, trivial⟩ trivial ?_
    refine G.op1 (op_move (Ev.t 5 (bI .i64 v3)) rfl) rfl ⟨rfl, trivial⟩ trivial ?_
    obtain ⟨x8, hx8, hF⟩ := bindS hF
    refine G.op1 (op_index (cs := [.v (.string x8.From), .v (.string x8.To)]) Try.underlying26 ti51 (idx_ok hx8).1 (idx_get hx8 encApi_Range) (Ev.t 12 (.g (.d (.sl 2 (List.map encApi_Range s_0))))) (Ev.t 13 (bI .i64 v3)) rfl) rfl ⟨rfl, rfl, trivial⟩ trivial ?_
    refine G.op1 (op_loadAE (ds := [.v (.string x8.From), .v (.string x8.To)]) Try.underlying51 rfl ti51 rfl (Ev.t 14 (.ep [.v (.string x8.From), .v (.string x8.To)])) rfl) rfl ⟨rfl, trivial⟩ trivial ?_
    obtain ⟨r9, hr9, hF⟩ := bindS hF
    refine G.op1 (op_callSem (t := 11) (v := .bool r9) (Φ := sem1 (fun x => .agg (encApi_Range x)) (fun y => .bool y) f_1) ⟨x8, r9, rfl, hr9, rfl⟩ rfl (EvL.cons (Ev.t 15 (.g (.agg [.v (.string x8.From), .v (.string x8.To)]))) EvL.nil) rfl) rfl ⟨rfl, rfl, trivial⟩ trivial ?_
    refine G.endOps ?_
    refine ifS hF (fun hc10 hF => ?_) (fun hc10 hF => ?_)
    · refine G.cond rfl (fun _ => ?_) (fun hx => by rw [hc10] at hx; cases hx)
      refine G.seq ?_
      refine G.region ?_
      refine G.op1 (op_move (Ev.t 5 (bI .i64 v3)) rfl) rfl ⟨rfl, trivial⟩ trivial ?_
      refine G.op1 (op_assign (Ev.t 17 (bI .i64 v3)) rfl) rfl ⟨rfl, trivial⟩ trivial ?_
      refine G.endOps ?_
      cases hF
      exact G.ret1 Try.results54 (RVar.tmp 4 _) ⟨rfl, trivial⟩ trivial
    · refine G.cond rfl (fun hx => by rw [hc10] at hx; cases hx) (fun _ => ?_)
      refine G.skip ?_
      refine G.endBlock ?_
      refine G.region ?_
      refine G.op1 (op_add (Ev.t 8 (bI .i64 v3)) (Ev.c _ rfl) rfl) rfl ⟨rfl, trivial⟩ trivial ?_
      refine G.op1 (op_move (Ev.t 18 (bI .i64 (IntKind.wrap .i64 (v3 + 1)))) rfl) rfl ⟨rfl, trivial⟩ trivial ?_
      refine G.endOps ?_
      exact G.arr (J4 (IntKind.wrap .i64 (v3 + 1)) hF) ⟨rfl, rfl, rfl, rfl, trivial⟩ trivial rfl
  · refine G.cond rfl (fun hx => by rw [hc7] at hx; cases hx) (fun _ => ?_)
    refine G.exit ?_
    refine GX.c ?_
    refine GX.q ?_
    refine GX.bYes ?_
    exact G.arr (J2 () hF) trivial trivial rfl


set_option maxRecDepth 20000 in
set_option maxHeartbeats 2000000 in
theorem ct_keys_Find (l_0 : (List Api_Range)) (key_1 : ByteArray) (r : Int) (hF : keys_Find l_0 key_1 = some r) : Ct Try.prog 44 [.g (.d (.sl 2 (List.map encApi_Range l_0))), .g (.d (.v (.string key_1)))] (.one (.d (.v (.int .i64 r)))) := by
  unfold keys_Find at hF
  refine Ct.intro Try.func44 rfl Try.ntmps44 rfl rfl fun M w => ?_
  refine G.seq ?_
  refine G.region ?_
  refine G.op2 (op_box1 (k := 1003) (c := bS key_1) trivial (Ev.t 1 (bS key_1)) rfl) rfl ⟨rfl, trivial⟩ ⟨rfl, trivial⟩ ?_
  refine G.op1 (op_assign (Ev.c _ rfl) rfl) rfl trivial trivial ?_
  refine G.endOps ?_
  refine G.seq ?_
  refine G.region ?_
  refine G.op1 (op_move (Ev.t 0 (.g (.d (.sl 2 (List.map encApi_Range l_0))))) rfl) rfl ⟨rfl, trivial⟩ trivial ?_
  refine G.op1 (op_makeFunc1 (Ev.t 3 (.ptr 1003 0)) rfl) rfl ⟨rfl, trivial⟩ trivial ?_
  obtain ⟨r1, hr1, hF⟩ := bindS hF
  refine G.op1 (op_callQ (sv := .one (bI .i64 r1)) cf54 (ct_slices_IndexFunc_Range l_0 (fun x0 => keys_Find_1 x0 key_1) r1 hr1) rfl rfl (EvQL.cons (EvQ.g (Ev.t 5 (.g (.d (.sl 2 (List.map encApi_Range l_0)))))) (EvQL.cons (EvQ.clo (Φ := sem1 (fun x => .agg (encApi_Range x)) (fun y => .bool y) (fun x0 => keys_Find_1 x0 key_1)) (Ev.t 6 (.clo 55 [1003])) (EvC.cons rfl EvC.nil) cf55 (fun args v ⟨x0, b, h1, h2, h3⟩ => by subst h1 h3; exact ct_keys_Find_1 x0 key_1 b h2)) EvQL.nil)) rfl) rfl ⟨rfl, rfl, trivial⟩ ⟨rfl, trivial⟩ ?_
  refine G.op1 (op_assign (Ev.t 7 (bI .i64 r1)) rfl) rfl ⟨rfl, trivial⟩ trivial ?_
  refine G.endOps ?_
  cases hF
  exact G.ret1 Try.results44 (RVar.tmp 4 _) ⟨rfl, trivial⟩ trivial


set_option maxRecDepth 20000 in
set_option maxHeartbeats 2000000 in
theorem ct_past_Only_1 (d_0 : Api_Dep) (c0 : (List Api_Range)) (r : Bool) (hF : past_Only_1 d_0 c0 = some r) : Ct Try.prog 51 [.g (.agg (encApi_Dep d_0)), .ep [.sl 2 (List.map encApi_Range c0)]] (.one (.d (.v (.bool r)))) := by
  unfold past_Only_1 at hF
  refine Ct.intro Try.func51 rfl Try.ntmps51 rfl rfl fun M w => ?_
  refine G.seq ?_
  refine G.region ?_
  refine G.op2 (op_boxA (k := 1002) (Ev.t 0 (.g (.agg [.v (.string d_0.Key), .v (.int .i64 d_0.Stamp.N), .v (.int .i64 d_0.Stamp.Site)]))) rfl) rfl ⟨rfl, trivial⟩ ⟨rfl, trivial⟩ ?_
  refine G.op1 (op_assign (Ev.c _ rfl) rfl) rfl trivial trivial ?_
  refine G.endOps ?_
  refine G.seq ?_
  refine G.region ?_
  refine G.op1 (op_load1E (c := .sl 2 (List.map encApi_Range c0)) Try.underlying26 rfl rfl (Ev.t 1 (.ep [.sl 2 (List.map encApi_Range c0)])) rfl) rfl ⟨rfl, trivial⟩ trivial ?_
  refine G.op1 (op_fieldP (off' := 0) Try.underlying39 rfl ti9 (by decide) rfl (Ev.t 2 (.ptr 1002 0)) rfl) rfl ⟨rfl, trivial⟩ trivial ?_
  refine G.op1 (op_load1P (c := bS d_0.Key) Try.underlying9 rfl rfl (Ev.t 5 (.ptr 1002 0)) rfl) rfl ⟨rfl, trivial⟩ ⟨rfl, trivial⟩ ?_
  obtain ⟨r1, hr1, hF⟩ := bindS hF
  refine G.op1 (op_callQ (sv := .one (bI .i64 r1)) cf44 (ct_keys_Find c0 d_0.Key r1 hr1) rfl rfl (EvQL.cons (EvQ.g (Ev.t 4 (.g (.d (.sl 2 (List.map encApi_Range c0)))))) (EvQL.cons (EvQ.g (Ev.t 6 (bS d_0.Key))) EvQL.nil)) rfl) rfl ⟨rfl, rfl, trivial⟩ trivial ?_
  refine G.op1 (op_lss (Ev.t 7 (bI .i64 r1)) (Ev.c _ rfl) rfl) rfl ⟨rfl, trivial⟩ trivial ?_
  refine G.op1 (op_assign (Ev.t 8 (bB (decide (r1 < 0)))) rfl) rfl ⟨rfl, trivial⟩ trivial ?_
  refine G.endOps ?_
  cases hF
  exact G.ret1 Try.results51 (RVar.tmp 3 _) ⟨rfl, trivial⟩ trivial


set_option maxRecDepth 20000 in
set_option maxHeartbeats 2000000 in
theorem ct_slices_IndexFunc_Dep (s_0 : (List Api_Dep)) (f_1 : (Api_Dep → Option Bool)) (r : Int) (hF : slices_IndexFunc_Dep s_0 f_1 = some r) : Ct Try.prog 49 [.g (.d (.sl 3 (List.map encApi_Dep s_0))), .sem (sem1 (fun x => .agg (encApi_Dep x)) (fun y => .bool y) f_1)] (.one (.d (.v (.int .i64 r)))) := by
  unfold slices_IndexFunc_Dep at hF
  refine Ct.intro Try.func49 rfl Try.ntmps49 rfl rfl fun M w => ?_
  refine G.seq ?_
  refine G.region ?_
  refine G.op1 (op_assign (Ev.c _ rfl) rfl) rfl trivial trivial ?_
  refine G.endOps ?_
  refine G.seq ?_
  refine G.seq ?_
  refine G.region ?_
  refine G.op1 (op_move (Ev.t 0 (.g (.d (.sl 3 (List.map encApi_Dep s_0))))) rfl) rfl ⟨rfl, trivial⟩ trivial ?_
  refine G.op1 (OpL.cast (op_lenD Try.underlying30 (Ev.t 6 (.g (.d (.sl 3 (List.map encApi_Dep s_0))))) rfl) (by rw [List.length_map])) rfl ⟨rfl, trivial⟩ trivial ?_
  refine G.op1 (op_move (Ev.c _ rfl) rfl) rfl trivial trivial ?_
  refine G.endOps ?_
  refine G.joinC (T := Unit) (fun y1 => ⟨[], []⟩) (fun y1 => slices_IndexFunc_Dep_k1 y1 = some r) (fun y1 hF => ?_) (fun J2 => ?_)
  · unfold slices_IndexFunc_Dep_k1 at hF
    refine G.seq ?_
    refine G.region ?_
    refine G.op1 (op_assign (Ev.c _ rfl) rfl) rfl trivial trivial ?_
    refine G.endOps ?_
    cases hF
    exact G.ret1 Try.results49 (RVar.tmp 4 _) ⟨rfl, trivial⟩ trivial
  refine G.block ?_
  refine G.keep (sl' := [(0, .one (.g (.d (.sl 3 (List.map encApi_Dep s_0))))), (1, .one (.sem (sem1 (fun x => .agg (encApi_Dep x)) (fun y => .bool y) f_1))), (7, .one (bI .i64 (s_0.length : Int))), (8, .one (bI .i64 0))]) (hp' := []) ⟨rfl, rfl, rfl, rfl, trivial⟩ trivial rfl ?_
  refine G.loopF (fun (v3 : Int) => ⟨[(0, .one (.g (.d (.sl 3 (List.map encApi_Dep s_0))))), (1, .one (.sem (sem1 (fun x => .agg (encApi_Dep x)) (fun y => .bool y) f_1))), (7, .one (bI .i64 (s_0.length : Int))), (8, .one (bI .i64 v3))], []⟩) hF rfl (fun K6 again5 v3 J4 hF => ?_)
  unfold slices_IndexFunc_Dep_l2 at hF
  refine G.seq ?_
  refine G.region ?_
  refine G.op1 (op_lss (Ev.t 8 (bI .i64 v3)) (Ev.t 7 (bI .i64 (s_0.length : Int))) rfl) rfl ⟨rfl, rfl, trivial⟩ trivial ?_
  refine G.endOps ?_
  refine G.seq ?_
  refine ifS hF (fun hc7 hF => ?_) (fun hc7 hF => ?_)
  · refine G.cond rfl (fun _ => ?_) (fun hx => by rw [hc7] at hx; cases hx)
    refine G.skip ?_
    refine G.seq ?_
    refine G.block ?_
    refine G.seq ?_
    refine G.region ?_
    refine G.op1 (op_move (Ev.t 8 (bI .i64 v3)) rfl) rfl ⟨rfl, trivial⟩ trivial ?_
    refine G.op1 (op_assign (Ev.t 10 (bI .i64 v3)) rfl) rfl ⟨rfl, trivial⟩ trivial ?_
    refine G.endOps ?_
    refine G.seq ?_
    refine G.region ?_
    refine G.op1 (op_move (Ev.t 1 (.sem (sem1 (fun x => .agg (encApi_Dep x)) (fun y => .bool y) f_1))) rfl) rfl ⟨rfl, trivial⟩ trivial ?_
    refine G.op1 (op_move (Ev.t 0 (.g (.d (.sl 3 (List.map encApi_Dep s_0))))) rfl) rfl ⟨rfl, trivial⟩ trivial ?_
    refine G.op1 (op_move (Ev.t 5 (bI .i64 v3)) rfl) rfl ⟨rfl, trivial⟩ trivial ?_
    obtain ⟨x8, hx8, hF⟩ := bindS hF
    refine G.op1 (op_index (cs := [.v (.string x8.Key), .v (.int .i64 x8.Stamp.N), .v (.int .i64 x8.Stamp.Site)]) Try.underlying30 ti39 (idx_ok hx8).1 (idx_get hx8 encApi_Dep) (Ev.t 12 (.g (.d (.sl 3 (List.map encApi_Dep s_0))))) (Ev.t 13 (bI .i64 v3)) rfl) rfl ⟨rfl, rfl, trivial⟩ trivial ?_
    refine G.op1 (op_loadAE (ds := [.v (.string x8.Key), .v (.int .i64 x8.Stamp.N), .v (.int .i64 x8.Stamp.Site)]) Try.underlying39 rfl ti39 rfl (Ev.t 14 (.ep [.v (.string x8.Key), .v (.int .i64 x8.Stamp.N), .v (.int .i64 x8.Stamp.Site)])) rfl) rfl ⟨rfl, trivial⟩ trivial ?_
    obtain ⟨r9, hr9, hF⟩ := bindS hF
    refine G.op1 (op_callSem (t := 11) (v := .bool r9) (Φ := sem1 (fun x => .agg (encApi_Dep x)) (fun y => .bool y) f_1) ⟨x8, r9, rfl, hr9, rfl⟩ rfl (EvL.cons (Ev.t 15 (.g (.agg [.v (.string x8.Key), .v (.int .i64 x8.Stamp.N), .v (.int .i64 x8.Stamp.Site)]))) EvL.nil) rfl) rfl ⟨rfl, rfl, trivial⟩ trivial ?_
    refine G.endOps ?_
    refine ifS hF (fun hc10 hF => ?_) (fun hc10 hF => ?_)
    · refine G.cond rfl (fun _ => ?_) (fun hx => by rw [hc10] at hx; cases hx)
      refine G.seq ?_
      refine G.region ?_
      refine G.op1 (op_move (Ev.t 5 (bI .i64 v3)) rfl) rfl ⟨rfl, trivial⟩ trivial ?_
      refine G.op1 (op_assign (Ev.t 17 (bI .i64 v3)) rfl) rfl ⟨rfl, trivial⟩ trivial ?_
      refine G.endOps ?_
      cases hF
      exact G.ret1 Try.results49 (RVar.tmp 4 _) ⟨rfl, trivial⟩ trivial
    · refine G.cond rfl (fun hx => by rw [hc10] at hx; cases hx) (fun _ => ?_)
      refine G.skip ?_
      refine G.endBlock ?_
      refine G.region ?_
      refine G.op1 (op_add (Ev.t 8 (bI .i64 v3)) (Ev.c _ rfl) rfl) rfl ⟨rfl, trivial⟩ trivial ?_
      refine G.op1 (op_move (Ev.t 18 (bI .i64 (IntKind.wrap .i64 (v3 + 1)))) rfl) rfl ⟨rfl, trivial⟩ trivial ?_
      refine G.endOps ?_
      exact G.arr (J4 (IntKind.wrap .i64 (v3 + 1)) hF) ⟨rfl, rfl, rfl, rfl, trivial⟩ trivial rfl
  · refine G.cond rfl (fun hx => by rw [hc7] at hx; cases hx) (fun _ => ?_)
    refine G.exit ?_
    refine GX.c ?_
    refine GX.q ?_
    refine GX.bYes ?_
    exact G.arr (J2 () hF) trivial trivial rfl


set_option maxRecDepth 20000 in
set_option maxHeartbeats 2000000 in
theorem ct_slices_DeleteFunc_Dep (s_0 : (List Api_Dep)) (del_1 : (Api_Dep → Option Bool)) (r : (List Api_Dep)) (hF : slices_DeleteFunc_Dep s_0 del_1 = some r) : Ct Try.prog 36 [.row 39 3 (List.map encApi_Dep s_0), .sem (sem1 (fun x => .agg (encApi_Dep x)) (fun y => .bool y) del_1)] (.new 39 3 (List.map encApi_Dep r)) := by
  unfold slices_DeleteFunc_Dep at hF
  refine Ct.introRow Try.func36 rfl Try.ntmps36 rfl fun M K w => ?_
  refine G.seq ?_
  refine G.region ?_
  refine G.op1 (op_assign (c := .x (.slice none 0 0)) (Ev.x _) rfl) rfl trivial trivial ?_
  refine G.endOps ?_
  refine G.seq ?_
  refine G.region ?_
  refine G.op1 (op_move (Ev.t 0 (.own 0 (List.map encApi_Dep s_0))) rfl) rfl ⟨rfl, trivial⟩ trivial ?_
  refine G.op1 (op_move (Ev.t 1 (.sem (sem1 (fun x => .agg (encApi_Dep x)) (fun y => .bool y) del_1))) rfl) rfl ⟨rfl, trivial⟩ trivial ?_
  obtain ⟨r1, hr1, hF⟩ := bindS hF
  refine G.op1 (op_callQ (sv := .one (bI .i64 r1)) cf49 (ct_slices_IndexFunc_Dep s_0 del_1 r1 hr1) rfl rfl (EvQL.cons (EvQ.own (Ev.t 8 (.own 0 (List.map encApi_Dep s_0)))) (EvQL.cons (EvQ.sem (Ev.t 9 (.sem (sem1 (fun x => .agg (encApi_Dep x)) (fun y => .bool y) del_1)))) EvQL.nil)) rfl) rfl ⟨rfl, rfl, trivial⟩ ⟨rfl, trivial⟩ ?_
  refine G.op1 (op_assign (Ev.t 10 (bI .i64 r1)) rfl) rfl ⟨rfl, trivial⟩ trivial ?_
  refine G.endOps ?_
  refine G.seq ?_
  refine G.seq ?_
  refine G.region ?_
  refine G.op1 (op_move (Ev.t 5 (bI .i64 r1)) rfl) rfl ⟨rfl, trivial⟩ trivial ?_
  refine G.op1 (op_eqI (Ev.t 11 (bI .i64 r1)) (Ev.c _ rfl) rfl) rfl ⟨rfl, trivial⟩ trivial ?_
  refine G.endOps ?_
  refine ifS hF (fun hc2 hF => ?_) (fun hc2 hF => ?_)
  · refine G.cond rfl (fun _ => ?_) (fun hx => by rw [hc2] at hx; cases hx)
    refine G.seq ?_
    refine G.region ?_
    refine G.op1 (op_move (Ev.t 0 (.own 0 (List.map encApi_Dep s_0))) rfl) rfl ⟨rfl, trivial⟩ trivial ?_
    refine G.op1 (op_assign (Ev.t 13 (.own 0 (List.map encApi_Dep s_0))) rfl) rfl ⟨rfl, trivial⟩ trivial ?_
    refine G.endOps ?_
    cases hF
    exact G.retNew Try.results36 rfl rfl
  · refine G.cond rfl (fun hx => by rw [hc2] at hx; cases hx) (fun _ => ?_)
    refine G.skip ?_
    refine G.seq ?_
    refine G.seq ?_
    refine G.region ?_
    refine G.op1 (op_move (Ev.t 5 (bI .i64 r1)) rfl) rfl ⟨rfl, trivial⟩ trivial ?_
    refine G.op1 (op_add (Ev.t 14 (bI .i64 r1)) (Ev.c _ rfl) rfl) rfl ⟨rfl, trivial⟩ trivial ?_
    refine G.op1 (op_assign (Ev.t 15 (bI .i64 (IntKind.wrap .i64 (r1 + 1)))) rfl) rfl ⟨rfl, trivial⟩ trivial ?_
    refine G.endOps ?_
    refine G.joinC (T := Int × (List Api_Dep)) (fun y3 => ⟨[(0, .one (.own 0 (List.map encApi_Dep y3.2))), (5, .one (bI .i64 y3.1))], [(0, some (.row 39 3 (List.map encApi_Dep y3.2) true))]⟩) (fun y3 => slices_DeleteFunc_Dep_k1 y3 = some r) (fun y3 hF => ?_) (fun J6 => ?_)
    · unfold slices_DeleteFunc_Dep_k1 at hF
      refine G.seq ?_
      refine G.region ?_
      refine G.op1 (op_move (Ev.t 0 (.own 0 (List.map encApi_Dep y3.2))) rfl) rfl ⟨rfl, trivial⟩ trivial ?_
      refine G.op1 (op_move (Ev.t 5 (bI .i64 y3.1)) rfl) rfl ⟨rfl, trivial⟩ trivial ?_
      obtain ⟨l4, hl4, hF⟩ := bindS hF
      refine G.clearRow (zs := [.v (.string ByteArray.empty), .v (.int .i64 0), .v (.int .i64 0)]) Try.underlying30 ti39 ⟨.v _ rfl, .v _ rfl, .v _ rfl, trivial⟩ rfl (zeroes_ok hl4 encApi_Dep).1 (zeroes_ok hl4 encApi_Dep).2.1 (zeroes_ok hl4 encApi_Dep).2.2 (Ev.t 36 (.own 0 (List.map encApi_Dep y3.2))) (Ev.t 37 (bI .i64 y3.1)) rfl ⟨rfl, rfl, trivial⟩ rfl ?_
      refine G.renew (t := 0) rfl rfl (zeroes_len hl4 encApi_Dep) ?_
      refine G.renew (t := 36) rfl rfl (zeroes_len hl4 encApi_Dep) ?_
      refine G.endOps ?_
      refine G.seq ?_
      refine G.region ?_
      refine G.op1 (op_move (Ev.t 0 (.own 0 (List.map encApi_Dep l4))) rfl) rfl ⟨rfl, trivial⟩ trivial ?_
      refine G.op1 (op_move (Ev.t 5 (bI .i64 y3.1)) rfl) rfl ⟨rfl, trivial⟩ trivial ?_
      obtain ⟨l5, hl5, hF⟩ := bindS hF
      refine G.cutRow (sl' := [(5, .one (bI .i64 y3.1)), (37, .one (bI .i64 y3.1)), (40, .one (bI .i64 y3.1))]) Try.underlying30 ti39 (sub_ok0 hl5 encApi_Dep).1 (sub_ok0 hl5 encApi_Dep).2.1 (sub_ok0 hl5 encApi_Dep).2.2 (Ev.t 39 (.own 0 (List.map encApi_Dep l4))) (Ev.t 40 (bI .i64 y3.1)) rfl ⟨rfl, rfl, trivial⟩ rfl ⟨rfl, rfl, rfl, trivial⟩ rfl ?_
      refine G.op1 (op_assign (Ev.t 41 (.own 0 (List.map encApi_Dep l5))) rfl) rfl ⟨rfl, trivial⟩ trivial ?_
      refine G.endOps ?_
      cases hF
      exact G.retNew Try.results36 rfl rfl
    refine G.block ?_
    refine G.keep (sl' := [(0, .one (.own 0 (List.map encApi_Dep s_0))), (1, .one (.sem (sem1 (fun x => .agg (encApi_Dep x)) (fun y => .bool y) del_1))), (5, .one (bI .i64 r1)), (6, .one (bI .i64 (IntKind.wrap .i64 (r1 + 1))))]) (hp' := [(0, some (.row 39 3 (List.map encApi_Dep s_0) true))]) ⟨rfl, rfl, rfl, rfl, trivial⟩ ⟨rfl, trivial⟩ rfl ?_
    refine G.loopF (fun (v7 : Int × Int × (List Api_Dep)) => ⟨[(0, .one (.own 0 (List.map encApi_Dep v7.2.2))), (1, .one (.sem (sem1 (fun x => .agg (encApi_Dep x)) (fun y => .bool y) del_1))), (5, .one (bI .i64 v7.1)), (6, .one (bI .i64 v7.2.1))], [(0, some (.row 39 3 (List.map encApi_Dep v7.2.2) true))]⟩) hF rfl (fun K10 again9 v7 J8 hF => ?_)
    unfold slices_DeleteFunc_Dep_l2 at hF
    refine G.seq ?_
    refine G.seq ?_
    refine G.region ?_
    refine G.op1 (op_move (Ev.t 6 (bI .i64 v7.2.1)) rfl) rfl ⟨rfl, trivial⟩ trivial ?_
    refine G.op1 (op_move (Ev.t 0 (.own 0 (List.map encApi_Dep v7.2.2))) rfl) rfl ⟨rfl, trivial⟩ trivial ?_
    refine G.op1 (OpL.cast (op_lenO Try.underlying30 (Ev.t 17 (.own 0 (List.map encApi_Dep v7.2.2))) rfl) (by rw [List.length_map])) rfl ⟨rfl, trivial⟩ ⟨rfl, trivial⟩ ?_
    refine G.op1 (op_lss (Ev.t 16 (bI .i64 v7.2.1)) (Ev.t 18 (bI .i64 (v7.2.2.length : Int))) rfl) rfl ⟨rfl, rfl, trivial⟩ trivial ?_
    refine G.endOps ?_
    refine ifS hF (fun hc11 hF => ?_) (fun hc11 hF => ?_)
    · refine G.cond rfl (fun _ => ?_) (fun hx => by rw [hc11] at hx; cases hx)
      refine G.skip ?_
      refine G.seq ?_
      refine G.block ?_
      refine G.seq ?_
      refine G.region ?_
      refine G.op1 (op_move (Ev.t 0 (.own 0 (List.map encApi_Dep v7.2.2))) rfl) rfl ⟨rfl, trivial⟩ trivial ?_
      refine G.op1 (op_move (Ev.t 6 (bI .i64 v7.2.1)) rfl) rfl ⟨rfl, trivial⟩ trivial ?_
      obtain ⟨x12, hx12, hF⟩ := bindS hF
      refine G.loadRow (cs := [.v (.string x12.Key), .v (.int .i64 x12.Stamp.N), .v (.int .i64 x12.Stamp.Site)]) Try.underlying30 Try.underlying39 rfl ti39 (idx_ok hx12).1 (idx_get hx12 encApi_Dep) (Ev.t 22 (.own 0 (List.map encApi_Dep v7.2.2))) (Ev.t 23 (bI .i64 v7.2.1)) rfl rfl ⟨rfl, rfl, trivial⟩ rfl ?_
      refine G.op2 (op_alloc (k := 1007) (cs := [bS ByteArray.empty, bI .i64 0, bI .i64 0]) ti39 ⟨.v _ rfl, .v _ rfl, .v _ rfl, trivial⟩ rfl) rfl trivial ⟨rfl, trivial⟩ ?_
      refine G.op3 (op_storeA (cs' := [bS x12.Key, bI .i64 x12.Stamp.N, bI .i64 x12.Stamp.Site]) ti39 rfl rfl (Ev.t 7 (.ptr 1007 0)) (Ev.t 25 (.g (.agg [.v (.string x12.Key), .v (.int .i64 x12.Stamp.N), .v (.int .i64 x12.Stamp.Site)])))) rfl ⟨rfl, rfl, trivial⟩ ⟨rfl, trivial⟩ ?_
      refine G.endOps ?_
      refine G.seq ?_
      refine G.region ?_
      refine G.op1 (op_move (Ev.t 1 (.sem (sem1 (fun x => .agg (encApi_Dep x)) (fun y => .bool y) del_1))) rfl) rfl ⟨rfl, trivial⟩ trivial ?_
      refine G.op1 (op_loadAP (ds := [.v (.string x12.Key), .v (.int .i64 x12.Stamp.N), .v (.int .i64 x12.Stamp.Site)]) Try.underlying39 rfl ti39 rfl (Ev.t 7 (.ptr 1007 0)) rfl) rfl ⟨rfl, trivial⟩ ⟨rfl, trivial⟩ ?_
      obtain ⟨r13, hr13, hF⟩ := bindS hF
      refine G.op1 (op_callSem (t := 26) (v := .bool r13) (Φ := sem1 (fun x => .agg (encApi_Dep x)) (fun y => .bool y) del_1) ⟨x12, r13, rfl, hr13, rfl⟩ rfl (EvL.cons (Ev.t 27 (.g (.agg [.v (.string x12.Key), .v (.int .i64 x12.Stamp.N), .v (.int .i64 x12.Stamp.Site)]))) EvL.nil) rfl) rfl ⟨rfl, rfl, trivial⟩ trivial ?_
      refine G.op1 (op_not (Ev.t 28 (bB r13)) rfl) rfl ⟨rfl, trivial⟩ trivial ?_
      refine G.endOps ?_
      refine ifS hF (fun hc14 hF => ?_) (fun hc14 hF => ?_)
      · refine G.cond rfl (fun _ => ?_) (fun hx => by rw [hc14] at hx; cases hx)
        refine G.seq ?_
        refine G.region ?_
        refine G.op1 (op_move (Ev.t 0 (.own 0 (List.map encApi_Dep v7.2.2))) rfl) rfl ⟨rfl, trivial⟩ trivial ?_
        refine G.op1 (op_move (Ev.t 5 (bI .i64 v7.1)) rfl) rfl ⟨rfl, trivial⟩ trivial ?_
        refine G.op1 (op_loadAP (ds := [.v (.string x12.Key), .v (.int .i64 x12.Stamp.N), .v (.int .i64 x12.Stamp.Site)]) Try.underlying39 rfl ti39 rfl (Ev.t 7 (.ptr 1007 0)) rfl) rfl ⟨rfl, trivial⟩ ⟨rfl, trivial⟩ ?_
        obtain ⟨l15, hl15, hF⟩ := bindS hF
        refine G.storeRow Try.underlying30 ti39 rfl (sets_ok hl15 encApi_Dep).1 (sets_ok hl15 encApi_Dep).2.1 (sets_ok hl15 encApi_Dep).2.2 (Ev.t 30 (.own 0 (List.map encApi_Dep v7.2.2))) (Ev.t 31 (bI .i64 v7.1)) (Ev.t 32 (.g (.agg [.v (.string x12.Key), .v (.int .i64 x12.Stamp.N), .v (.int .i64 x12.Stamp.Site)]))) (by simp) rfl ⟨rfl, rfl, rfl, trivial⟩ rfl ?_
        refine G.renew (t := 0) rfl rfl (sets_len hl15 encApi_Dep) ?_
        refine G.renew (t := 17) rfl rfl (sets_len hl15 encApi_Dep) ?_
        refine G.renew (t := 22) rfl rfl (sets_len hl15 encApi_Dep) ?_
        refine G.renew (t := 30) rfl rfl (sets_len hl15 encApi_Dep) ?_
        refine G.endOps ?_
        refine G.region ?_
        refine G.op1 (op_move (Ev.t 5 (bI .i64 v7.1)) rfl) rfl ⟨rfl, trivial⟩ trivial ?_
        refine G.op1 (op_add (Ev.t 34 (bI .i64 v7.1)) (Ev.c _ rfl) rfl) rfl ⟨rfl, trivial⟩ trivial ?_
        refine G.op1 (op_assign (Ev.t 35 (bI .i64 (IntKind.wrap .i64 (v7.1 + 1)))) rfl) rfl ⟨rfl, trivial⟩ trivial ?_
        refine G.endOps ?_
        refine G.endBlock ?_
        refine G.region ?_
        refine G.op1 (op_move (Ev.t 6 (bI .i64 v7.2.1)) rfl) rfl ⟨rfl, trivial⟩ trivial ?_
        refine G.op1 (op_add (Ev.t 20 (bI .i64 v7.2.1)) (Ev.c _ rfl) rfl) rfl ⟨rfl, trivial⟩ trivial ?_
        refine G.op1 (op_assign (Ev.t 21 (bI .i64 (IntKind.wrap .i64 (v7.2.1 + 1)))) rfl) rfl ⟨rfl, trivial⟩ trivial ?_
        refine G.endOps ?_
        exact G.arr (J8 (IntKind.wrap .i64 (v7.1 + 1), IntKind.wrap .i64 (v7.2.1 + 1), l15) hF) ⟨rfl, rfl, rfl, rfl, trivial⟩ ⟨rfl, trivial⟩ rfl
      · refine G.cond rfl (fun hx => by rw [hc14] at hx; cases hx) (fun _ => ?_)
        refine G.skip ?_
        refine G.endBlock ?_
        refine G.region ?_
        refine G.op1 (op_move (Ev.t 6 (bI .i64 v7.2.1)) rfl) rfl ⟨rfl, trivial⟩ trivial ?_
        refine G.op1 (op_add (Ev.t 20 (bI .i64 v7.2.1)) (Ev.c _ rfl) rfl) rfl ⟨rfl, trivial⟩ trivial ?_
        refine G.op1 (op_assign (Ev.t 21 (bI .i64 (IntKind.wrap .i64 (v7.2.1 + 1)))) rfl) rfl ⟨rfl, trivial⟩ trivial ?_
        refine G.endOps ?_
        exact G.arr (J8 (v7.1, IntKind.wrap .i64 (v7.2.1 + 1), v7.2.2) hF) ⟨rfl, rfl, rfl, rfl, trivial⟩ ⟨rfl, trivial⟩ rfl
    · refine G.cond rfl (fun hx => by rw [hc11] at hx; cases hx) (fun _ => ?_)
      refine G.exit ?_
      refine GX.c ?_
      refine GX.q ?_
      refine GX.bYes ?_
      exact G.arr (J6 (v7.1, v7.2.2) hF) ⟨rfl, rfl, trivial⟩ ⟨rfl, trivial⟩ rfl


set_option maxRecDepth 20000 in
set_option maxHeartbeats 2000000 in
theorem ct_past_Only (p_0 : (List Api_Dep)) (l_1 : (List Api_Range)) (r : (List Api_Dep)) (hF : past_Only p_0 l_1 = some r) : Ct Try.prog 37 [.g (.d (.sl 3 (List.map encApi_Dep p_0))), .g (.d (.sl 2 (List.map encApi_Range l_1)))] (.new 39 3 (List.map encApi_Dep r)) := by
  unfold past_Only at hF
  refine Ct.intro Try.func37 rfl Try.ntmps37 rfl rfl fun M w => ?_
  refine G.seq ?_
  refine G.region ?_
  refine G.op2 (op_box1 (k := 1003) (c := .g (.d (.sl 2 (List.map encApi_Range l_1)))) trivial (Ev.t 1 (.g (.d (.sl 2 (List.map encApi_Range l_1))))) rfl) rfl ⟨rfl, trivial⟩ ⟨rfl, trivial⟩ ?_
  refine G.op1 (op_assign (c := .x (.slice none 0 0)) (Ev.x _) rfl) rfl trivial trivial ?_
  refine G.endOps ?_
  refine G.seq ?_
  refine G.region ?_
  refine G.op1 (op_move (Ev.t 0 (.g (.d (.sl 3 (List.map encApi_Dep p_0))))) rfl) rfl ⟨rfl, trivial⟩ trivial ?_
  obtain ⟨r1, hr1, hF⟩ := bindS hF
  refine G.op2 (op_callNew (k := 2006) cf50 (ct_slices_Clone_Dep p_0 r1 hr1) (EvL.cons (Ev.t 5 (.g (.d (.sl 3 (List.map encApi_Dep p_0))))) EvL.nil) rfl) rfl ⟨rfl, trivial⟩ ⟨rfl, trivial⟩ ?_
  refine G.op1 (op_makeFunc1 (Ev.t 3 (.ptr 1003 0)) rfl) rfl ⟨rfl, trivial⟩ trivial ?_
  obtain ⟨r2, hr2, hF⟩ := bindS hF
  refine G.callRow (sl' := [(0, .one (.g (.d (.sl 3 (List.map encApi_Dep p_0))))), (1, .one (.g (.d (.sl 2 (List.map encApi_Range l_1))))), (3, .one (.ptr 1003 0)), (4, .one (.x (.slice none 0 0))), (5, .one (.g (.d (.sl 3 (List.map encApi_Dep p_0))))), (7, .one (.clo 51 [1003]))]) cf36 (ct_slices_DeleteFunc_Dep r1 (fun x0 => past_Only_1 x0 l_1) r2 hr2) (Ev.t 6 (.own 2006 (List.map encApi_Dep r1))) (EvX.clo (Φ := sem1 (fun x => .agg (encApi_Dep x)) (fun y => .bool y) (fun x0 => past_Only_1 x0 l_1)) (Ev.t 7 (.clo 51 [1003])) (EvC.cons rfl EvC.nil) cf51 (fun args v ⟨x0, b, h1, h2, h3⟩ => by subst h1 h3; exact ct_past_Only_1 x0 l_1 b h2) EvX.nil) rfl ⟨rfl, rfl, trivial⟩ ⟨rfl, rfl, trivial⟩ ⟨rfl, rfl, rfl, rfl, rfl, rfl, trivial⟩ rfl ?_
  refine G.op1 (op_assign (Ev.t 8 (.own 2006 (List.map encApi_Dep r2))) rfl) rfl ⟨rfl, trivial⟩ trivial ?_
  refine G.endOps ?_
  cases hF
  exact G.retNew Try.results37 rfl rfl


set_option maxRecDepth 20000 in
set_option maxHeartbeats 2000000 in
theorem ct_cmp_isNaN_string (x_0 : ByteArray) (r : Bool) (hF : cmp_isNaN_string x_0 = some r) : Ct Try.prog 67 [.g (.d (.v (.string x_0)))] (.one (.d (.v (.bool r)))) := by
  unfold cmp_isNaN_string at hF
  refine Ct.intro Try.func67 rfl Try.ntmps67 rfl rfl fun M w => ?_
  refine G.seq ?_
  refine G.region ?_
  refine G.op1 (op_assign (Ev.c _ rfl) rfl) rfl trivial trivial ?_
  refine G.endOps ?_
  refine G.seq ?_
  refine G.region ?_
  refine G.op1 (op_move (Ev.t 0 (bS x_0)) rfl) rfl ⟨rfl, trivial⟩ trivial ?_
  refine G.op1 (op_move (Ev.t 0 (bS x_0)) rfl) rfl ⟨rfl, trivial⟩ trivial ?_
  refine G.op1 (op_neS (Ev.t 3 (bS x_0)) (Ev.t 4 (bS x_0)) rfl) rfl ⟨rfl, rfl, trivial⟩ trivial ?_
  refine G.op1 (op_assign (Ev.t 5 (bB (!seq x_0 x_0))) rfl) rfl ⟨rfl, trivial⟩ trivial ?_
  refine G.endOps ?_
  cases hF
  exact G.ret1 Try.results67 (RVar.tmp 2 _) ⟨rfl, trivial⟩ trivial


set_option maxRecDepth 20000 in
set_option maxHeartbeats 2000000 in
theorem ct_cmp_Compare_string (x_0 : ByteArray) (y_1 : ByteArray) (r : Int) (hF : cmp_Compare_string x_0 y_1 = some r) : Ct Try.prog 64 [.g (.d (.v (.string x_0))), .g (.d (.v (.string y_1)))] (.one (.d (.v (.int .i64 r)))) := by
  unfold cmp_Compare_string at hF
  refine Ct.intro Try.func64 rfl Try.ntmps64 rfl rfl fun M w => ?_
  refine G.seq ?_
  refine G.region ?_
  refine G.op1 (op_assign (Ev.c _ rfl) rfl) rfl trivial trivial ?_
  refine G.endOps ?_
  refine G.seq ?_
  refine G.region ?_
  refine G.op1 (op_move (Ev.t 0 (bS x_0)) rfl) rfl ⟨rfl, trivial⟩ trivial ?_
  obtain ⟨r1, hr1, hF⟩ := bindS hF
  refine G.op1 (op_callQ (sv := .one (bB r1)) cf67 (ct_cmp_isNaN_string x_0 r1 hr1) rfl rfl (EvQL.cons (EvQ.g (Ev.t 7 (bS x_0))) EvQL.nil) rfl) rfl ⟨rfl, trivial⟩ trivial ?_
  refine G.op1 (op_assign (Ev.t 8 (bB r1)) rfl) rfl ⟨rfl, trivial⟩ trivial ?_
  refine G.endOps ?_
  refine G.seq ?_
  refine G.region ?_
  refine G.op1 (op_move (Ev.t 1 (bS y_1)) rfl) rfl ⟨rfl, trivial⟩ trivial ?_
  obtain ⟨r2, hr2, hF⟩ := bindS hF
  refine G.op1 (op_callQ (sv := .one (bB r2)) cf67 (ct_cmp_isNaN_string y_1 r2 hr2) rfl rfl (EvQL.cons (EvQ.g (Ev.t 9 (bS y_1))) EvQL.nil) rfl) rfl ⟨rfl, trivial⟩ trivial ?_
  refine G.op1 (op_assign (Ev.t 10 (bB r2)) rfl) rfl ⟨rfl, trivial⟩ trivial ?_
  refine G.endOps ?_
  refine G.seq ?_
  refine G.seq ?_
  refine G.region ?_
  refine G.op1 (op_move (Ev.t 5 (bB r1)) rfl) rfl ⟨rfl, trivial⟩ trivial ?_
  refine G.endOps ?_
  refine ifS hF (fun hc3 hF => ?_) (fun hc3 hF => ?_)
  · refine G.cond rfl (fun _ => ?_) (fun hx => by rw [hc3] at hx; cases hx)
    refine G.seq ?_
    refine G.seq ?_
    refine G.region ?_
    refine G.op1 (op_move (Ev.t 6 (bB r2)) rfl) rfl ⟨rfl, trivial⟩ trivial ?_
    refine G.endOps ?_
    refine ifS hF (fun hc4 hF => ?_) (fun hc4 hF => ?_)
    · refine G.cond rfl (fun _ => ?_) (fun hx => by rw [hc4] at hx; cases hx)
      refine G.seq ?_
      refine G.region ?_
      refine G.op1 (op_assign (Ev.c _ rfl) rfl) rfl trivial trivial ?_
      refine G.endOps ?_
      cases hF
      exact G.ret1 Try.results64 (RVar.tmp 4 _) ⟨rfl, trivial⟩ trivial
    · refine G.cond rfl (fun hx => by rw [hc4] at hx; cases hx) (fun _ => ?_)
      refine G.skip ?_
      refine G.seq ?_
      refine G.region ?_
      refine G.op1 (op_assign (Ev.c _ rfl) rfl) rfl trivial trivial ?_
      refine G.endOps ?_
      cases hF
      exact G.ret1 Try.results64 (RVar.tmp 4 _) ⟨rfl, trivial⟩ trivial
  · refine G.cond rfl (fun hx => by rw [hc3] at hx; cases hx) (fun _ => ?_)
    refine G.skip ?_
    refine G.seq ?_
    refine G.seq ?_
    refine G.region ?_
    refine G.op1 (op_move (Ev.t 6 (bB r2)) rfl) rfl ⟨rfl, trivial⟩ trivial ?_
    refine G.endOps ?_
    refine ifS hF (fun hc5 hF => ?_) (fun hc5 hF => ?_)
    · refine G.cond rfl (fun _ => ?_) (fun hx => by rw [hc5] at hx; cases hx)
      refine G.seq ?_
      refine G.region ?_
      refine G.op1 (op_assign (Ev.c _ rfl) rfl) rfl trivial trivial ?_
      refine G.endOps ?_
      cases hF
      exact G.ret1 Try.results64 (RVar.tmp 4 _) ⟨rfl, trivial⟩ trivial
    · refine G.cond rfl (fun hx => by rw [hc5] at hx; cases hx) (fun _ => ?_)
      refine G.skip ?_
      refine G.seq ?_
      refine G.seq ?_
      refine G.region ?_
      refine G.op1 (op_move (Ev.t 0 (bS x_0)) rfl) rfl ⟨rfl, trivial⟩ trivial ?_
      refine G.op1 (op_move (Ev.t 1 (bS y_1)) rfl) rfl ⟨rfl, trivial⟩ trivial ?_
      refine G.op1 (op_ltS (Ev.t 14 (bS x_0)) (Ev.t 15 (bS y_1)) rfl) rfl ⟨rfl, rfl, trivial⟩ trivial ?_
      refine G.endOps ?_
      refine ifS hF (fun hc6 hF => ?_) (fun hc6 hF => ?_)
      · refine G.cond rfl (fun _ => ?_) (fun hx => by rw [hc6] at hx; cases hx)
        refine G.seq ?_
        refine G.region ?_
        refine G.op1 (op_assign (Ev.c _ rfl) rfl) rfl trivial trivial ?_
        refine G.endOps ?_
        cases hF
        exact G.ret1 Try.results64 (RVar.tmp 4 _) ⟨rfl, trivial⟩ trivial
      · refine G.cond rfl (fun hx => by rw [hc6] at hx; cases hx) (fun _ => ?_)
        refine G.skip ?_
        refine G.seq ?_
        refine G.seq ?_
        refine G.region ?_
        refine G.op1 (op_move (Ev.t 0 (bS x_0)) rfl) rfl ⟨rfl, trivial⟩ trivial ?_
        refine G.op1 (op_move (Ev.t 1 (bS y_1)) rfl) rfl ⟨rfl, trivial⟩ trivial ?_
        refine G.op1 (op_gtS (Ev.t 17 (bS x_0)) (Ev.t 18 (bS y_1)) rfl) rfl ⟨rfl, rfl, trivial⟩ trivial ?_
        refine G.endOps ?_
        refine ifS hF (fun hc7 hF => ?_) (fun hc7 hF => ?_)
        · refine G.cond rfl (fun _ => ?_) (fun hx => by rw [hc7] at hx; cases hx)
          refine G.seq ?_
          refine G.region ?_
          refine G.op1 (op_assign (Ev.c _ rfl) rfl) rfl trivial trivial ?_
          refine G.endOps ?_
          cases hF
          exact G.ret1 Try.results64 (RVar.tmp 4 _) ⟨rfl, trivial⟩ trivial
        · refine G.cond rfl (fun hx => by rw [hc7] at hx; cases hx) (fun _ => ?_)
          refine G.skip ?_
          refine G.seq ?_
          refine G.region ?_
          refine G.op1 (op_assign (Ev.c _ rfl) rfl) rfl trivial trivial ?_
          refine G.endOps ?_
          cases hF
          exact G.ret1 Try.results64 (RVar.tmp 4 _) ⟨rfl, trivial⟩ trivial


set_option maxRecDepth 20000 in
set_option maxHeartbeats 2000000 in
theorem ct_past_find_1 (d_0 : Api_Dep) (key_1 : ByteArray) (r : Int) (hF : past_find_1 d_0 key_1 = some r) : Ct Try.prog 63 [.g (.agg (encApi_Dep d_0)), .g (.d (.v (.string key_1)))] (.one (.d (.v (.int .i64 r)))) := by
  unfold past_find_1 at hF
  refine Ct.intro Try.func63 rfl Try.ntmps63 rfl rfl fun M w => ?_
  refine G.seq ?_
  refine G.region ?_
  refine G.op2 (op_boxA (k := 1002) (Ev.t 0 (.g (.agg [.v (.string d_0.Key), .v (.int .i64 d_0.Stamp.N), .v (.int .i64 d_0.Stamp.Site)]))) rfl) rfl ⟨rfl, trivial⟩ ⟨rfl, trivial⟩ ?_
  refine G.op1 (op_assign (Ev.c _ rfl) rfl) rfl trivial trivial ?_
  refine G.endOps ?_
  refine G.seq ?_
  refine G.region ?_
  refine G.op1 (op_fieldP (off' := 0) Try.underlying39 rfl ti9 (by decide) rfl (Ev.t 2 (.ptr 1002 0)) rfl) rfl ⟨rfl, trivial⟩ trivial ?_
  refine G.op1 (op_load1P (c := bS d_0.Key) Try.underlying9 rfl rfl (Ev.t 5 (.ptr 1002 0)) rfl) rfl ⟨rfl, trivial⟩ ⟨rfl, trivial⟩ ?_
  refine G.op1 (op_move (Ev.t 1 (bS key_1)) rfl) rfl ⟨rfl, trivial⟩ trivial ?_
  obtain ⟨r1, hr1, hF⟩ := bindS hF
  refine G.op1 (op_callQ (sv := .one (bI .i64 r1)) cf64 (ct_cmp_Compare_string d_0.Key key_1 r1 hr1) rfl rfl (EvQL.cons (EvQ.g (Ev.t 6 (bS d_0.Key))) (EvQL.cons (EvQ.g (Ev.t 7 (bS key_1))) EvQL.nil)) rfl) rfl ⟨rfl, rfl, trivial⟩ trivial ?_
  refine G.op1 (op_assign (Ev.t 8 (bI .i64 r1)) rfl) rfl ⟨rfl, trivial⟩ trivial ?_
  refine G.endOps ?_
  cases hF
  exact G.ret1 Try.results63 (RVar.tmp 4 _) ⟨rfl, trivial⟩ trivial


set_option maxRecDepth 20000 in
set_option maxHeartbeats 2000000 in
theorem ct_slices_BinarySearchFunc_string (x_0 : (List Api_Dep)) (target_1 : ByteArray) (cmp_2 : (Api_Dep → ByteArray → Option Int)) (r : (Int × Bool)) (hF : slices_BinarySearchFunc_string x_0 target_1 cmp_2 = some r) : Ct Try.prog 62 [.g (.d (.sl 3 (List.map encApi_Dep x_0))), .g (.d (.v (.string target_1))), .sem (sem2 (fun x => .agg (encApi_Dep x)) (fun x => .d (.v (.string x))) (fun y => .int .i64 y) cmp_2)] (.tup [.d (.v (.int .i64 r.1)), .d (.v (.bool r.2))]) := by
  unfold slices_BinarySearchFunc_string at hF
  refine Ct.intro Try.func62 rfl Try.ntmps62 rfl rfl fun M w => ?_
  refine G.seq ?_
  refine G.region ?_
  refine G.op1 (op_assign (Ev.c _ rfl) rfl) rfl trivial trivial ?_
  refine G.op1 (op_assign (Ev.c _ rfl) rfl) rfl trivial trivial ?_
  refine G.endOps ?_
  refine G.seq ?_
  refine G.region ?_
  refine G.op1 (op_move (Ev.t 0 (.g (.d (.sl 3 (List.map encApi_Dep x_0))))) rfl) rfl ⟨rfl, trivial⟩ trivial ?_
  refine G.op1 (OpL.cast (op_lenD Try.underlying30 (Ev.t 12 (.g (.d (.sl 3 (List.map encApi_Dep x_0))))) rfl) (by rw [List.length_map])) rfl ⟨rfl, trivial⟩ trivial ?_
  refine G.op1 (op_assign (Ev.t 13 (bI .i64 (x_0.length : Int))) rfl) rfl ⟨rfl, trivial⟩ trivial ?_
  refine G.endOps ?_
  refine G.seq ?_
  refine G.region ?_
  refine G.op1 (op_move (Ev.t 8 (bI .i64 (x_0.length : Int))) rfl) rfl ⟨rfl, trivial⟩ trivial ?_
  refine G.op1 (op_assign (Ev.c _ rfl) rfl) rfl trivial trivial ?_
  refine G.op1 (op_assign (Ev.t 14 (bI .i64 (x_0.length : Int))) rfl) rfl ⟨rfl, trivial⟩ trivial ?_
  refine G.endOps ?_
  refine G.seq ?_
  refine G.joinC (T := Int) (fun y1 => ⟨[(0, .one (.g (.d (.sl 3 (List.map encApi_Dep x_0))))), (1, .one (bS target_1)), (2, .one (.sem (sem2 (fun x => .agg (encApi_Dep x)) (fun x => .d (.v (.string x))) (fun y => .int .i64 y) cmp_2))), (8, .one (bI .i64 (x_0.length : Int))), (9, .one (bI .i64 y1))], []⟩) (fun y1 => slices_BinarySearchFunc_string_k1 x_0 target_1 cmp_2 y1 = some r) (fun y1 hF => ?_) (fun J5 => ?_)
  · unfold slices_BinarySearchFunc_string_k1 at hF
    refine G.seq ?_
    refine G.region ?_
    refine G.op1 (op_move (Ev.t 9 (bI .i64 y1)) rfl) rfl ⟨rfl, trivial⟩ trivial ?_
    refine G.op1 (op_move (Ev.t 9 (bI .i64 y1)) rfl) rfl ⟨rfl, trivial⟩ trivial ?_
    refine G.op1 (op_move (Ev.t 8 (bI .i64 (x_0.length : Int))) rfl) rfl ⟨rfl, trivial⟩ trivial ?_
    refine G.op1 (op_lss (Ev.t 36 (bI .i64 y1)) (Ev.t 37 (bI .i64 (x_0.length : Int))) rfl) rfl ⟨rfl, rfl, trivial⟩ trivial ?_
    refine G.op1 (op_move (Ev.t 38 (bB (decide (y1 < (x_0.length : Int))))) rfl) rfl ⟨rfl, trivial⟩ trivial ?_
    refine ifS hF (fun hc2 hF => ?_) (fun hc2 hF => ?_)
    · refine G.known (t := 39) hc2 rfl ?_
      refine G.opG1 (op_move (Ev.t 2 (.sem (sem2 (fun x => .agg (encApi_Dep x)) (fun x => .d (.v (.string x))) (fun y => .int .i64 y) cmp_2))) rfl) rfl rfl rfl ⟨rfl, trivial⟩ trivial ?_
      refine G.opG1 (op_move (Ev.t 0 (.g (.d (.sl 3 (List.map encApi_Dep x_0))))) rfl) rfl rfl rfl ⟨rfl, trivial⟩ trivial ?_
      refine G.opG1 (op_move (Ev.t 9 (bI .i64 y1)) rfl) rfl rfl rfl ⟨rfl, trivial⟩ trivial ?_
      obtain ⟨x3, hx3, hF⟩ := bindS hF
      refine G.opG1 (op_index (cs := [.v (.string x3.Key), .v (.int .i64 x3.Stamp.N), .v (.int .i64 x3.Stamp.Site)]) Try.underlying30 ti39 (idx_ok hx3).1 (idx_get hx3 encApi_Dep) (Ev.t 41 (.g (.d (.sl 3 (List.map encApi_Dep x_0))))) (Ev.t 42 (bI .i64 y1)) rfl) rfl rfl rfl ⟨rfl, rfl, trivial⟩ trivial ?_
      refine G.opG1 (op_loadAE (ds := [.v (.string x3.Key), .v (.int .i64 x3.Stamp.N), .v (.int .i64 x3.Stamp.Site)]) Try.underlying39 rfl ti39 rfl (Ev.t 43 (.ep [.v (.string x3.Key), .v (.int .i64 x3.Stamp.N), .v (.int .i64 x3.Stamp.Site)])) rfl) rfl rfl rfl ⟨rfl, trivial⟩ trivial ?_
      refine G.opG1 (op_move (Ev.t 1 (bS target_1)) rfl) rfl rfl rfl ⟨rfl, trivial⟩ trivial ?_
      obtain ⟨r4, hr4, hF⟩ := bindS hF
      refine G.opG1 (op_callSem (t := 40) (v := .int .i64 r4) (Φ := sem2 (fun x => .agg (encApi_Dep x)) (fun x => .d (.v (.string x))) (fun y => .int .i64 y) cmp_2) ⟨x3, target_1, r4, rfl, hr4, rfl⟩ rfl (EvL.cons (Ev.t 44 (.g (.agg [.v (.string x3.Key), .v (.int .i64 x3.Stamp.N), .v (.int .i64 x3.Stamp.Site)]))) (EvL.cons (Ev.t 45 (bS target_1)) EvL.nil)) rfl) rfl rfl rfl ⟨rfl, rfl, rfl, trivial⟩ trivial ?_
      refine G.opG1 (op_eqI (Ev.t 46 (bI .i64 r4)) (Ev.c _ rfl) rfl) rfl rfl rfl ⟨rfl, trivial⟩ trivial ?_
      refine G.op1 (op_pickT (Ev.t 39 (bB true)) (Ev.t 47 (bB (decide (r4 = 0)))) rfl) rfl ⟨rfl, rfl, trivial⟩ trivial ?_
      refine G.op1 (op_assign (Ev.t 35 (bI .i64 y1)) rfl) rfl ⟨rfl, trivial⟩ trivial ?_
      refine G.op1 (op_assign (Ev.t 48 (bB (decide (r4 = 0)))) rfl) rfl ⟨rfl, trivial⟩ trivial ?_
      refine G.endOps ?_
      cases hF
      exact G.ret2 Try.results62 (RVar.tmp 6 _) (RVar.tmp 7 _) ⟨rfl, rfl, trivial⟩ trivial
    · refine G.known (t := 39) hc2 rfl ?_
      refine G.opN1 rfl rfl rfl rfl rfl ?_
      refine G.opN1 rfl rfl rfl rfl rfl ?_
      refine G.opN1 rfl rfl rfl rfl rfl ?_
      refine G.opN1 rfl rfl rfl rfl rfl ?_
      refine G.opN1 rfl rfl rfl rfl rfl ?_
      refine G.opN1 rfl rfl rfl rfl rfl ?_
      refine G.opN1 rfl rfl rfl rfl rfl ?_
      refine G.opN1 rfl rfl rfl rfl rfl ?_
      refine G.op1 (op_pickF (Ev.t 39 (bB false)) (Ev.c _ rfl) rfl) rfl ⟨rfl, trivial⟩ trivial ?_
      refine G.op1 (op_assign (Ev.t 35 (bI .i64 y1)) rfl) rfl ⟨rfl, trivial⟩ trivial ?_
      refine G.op1 (op_assign (Ev.t 48 (bB false)) rfl) rfl ⟨rfl, trivial⟩ trivial ?_
      refine G.endOps ?_
      cases hF
      exact G.ret2 Try.results62 (RVar.tmp 6 _) (RVar.tmp 7 _) ⟨rfl, rfl, trivial⟩ trivial
  refine G.block ?_
  refine G.keep (sl' := [(0, .one (.g (.d (.sl 3 (List.map encApi_Dep x_0))))), (1, .one (bS target_1)), (2, .one (.sem (sem2 (fun x => .agg (encApi_Dep x)) (fun x => .d (.v (.string x))) (fun y => .int .i64 y) cmp_2))), (8, .one (bI .i64 (x_0.length : Int))), (9, .one (bI .i64 0)), (10, .one (bI .i64 (x_0.length : Int)))]) (hp' := []) ⟨rfl, rfl, rfl, rfl, rfl, rfl, trivial⟩ trivial rfl ?_
  refine G.loopF (fun (v6 : Int × Int) => ⟨[(0, .one (.g (.d (.sl 3 (List.map encApi_Dep x_0))))), (1, .one (bS target_1)), (2, .one (.sem (sem2 (fun x => .agg (encApi_Dep x)) (fun x => .d (.v (.string x))) (fun y => .int .i64 y) cmp_2))), (8, .one (bI .i64 (x_0.length : Int))), (9, .one (bI .i64 v6.1)), (10, .one (bI .i64 v6.2))], []⟩) hF rfl (fun K9 again8 v6 J7 hF => ?_)
  unfold slices_BinarySearchFunc_string_l2 at hF
  refine G.seq ?_
  refine G.seq ?_
  refine G.region ?_
  refine G.op1 (op_move (Ev.t 9 (bI .i64 v6.1)) rfl) rfl ⟨rfl, trivial⟩ trivial ?_
  refine G.op1 (op_move (Ev.t 10 (bI .i64 v6.2)) rfl) rfl ⟨rfl, trivial⟩ trivial ?_
  refine G.op1 (op_lss (Ev.t 15 (bI .i64 v6.1)) (Ev.t 16 (bI .i64 v6.2)) rfl) rfl ⟨rfl, rfl, trivial⟩ trivial ?_
  refine G.endOps ?_
  refine ifS hF (fun hc10 hF => ?_) (fun hc10 hF => ?_)
  · refine G.cond rfl (fun _ => ?_) (fun hx => by rw [hc10] at hx; cases hx)
    refine G.skip ?_
    refine G.block ?_
    refine G.seq ?_
    refine G.region ?_
    refine G.op1 (op_move (Ev.t 9 (bI .i64 v6.1)) rfl) rfl ⟨rfl, trivial⟩ trivial ?_
    refine G.op1 (op_move (Ev.t 10 (bI .i64 v6.2)) rfl) rfl ⟨rfl, trivial⟩ trivial ?_
    refine G.op1 (op_add (Ev.t 18 (bI .i64 v6.1)) (Ev.t 19 (bI .i64 v6.2)) rfl) rfl ⟨rfl, rfl, trivial⟩ trivial ?_
    refine G.op1 (op_convI Try.underlying3 Try.underlying95 (Ev.t 20 (bI .i64 (IntKind.wrap .i64 (v6.1 + v6.2)))) rfl) rfl ⟨rfl, trivial⟩ trivial ?_
    refine G.op1 (op_shr (by decide) (Ev.t 21 (bI .u64 (IntKind.wrap .u64 (IntKind.wrap .i64 (v6.1 + v6.2))))) (Ev.c _ rfl) rfl) rfl ⟨rfl, trivial⟩ trivial ?_
    refine G.op1 (op_convI Try.underlying95 Try.underlying3 (Ev.t 22 (bI .u64 (Int.fdiv (IntKind.wrap .u64 (IntKind.wrap .i64 (v6.1 + v6.2))) (2 ^ min (Int.toNat 1) (IntKind.bits .u64))))) rfl) rfl ⟨rfl, trivial⟩ trivial ?_
    refine G.op1 (op_assign (Ev.t 23 (bI .i64 (IntKind.wrap .i64 (Int.fdiv (IntKind.wrap .u64 (IntKind.wrap .i64 (v6.1 + v6.2))) (2 ^ min (Int.toNat 1) (IntKind.bits .u64)))))) rfl) rfl ⟨rfl, trivial⟩ trivial ?_
    refine G.endOps ?_
    refine G.seq ?_
    refine G.region ?_
    refine G.op1 (op_move (Ev.t 2 (.sem (sem2 (fun x => .agg (encApi_Dep x)) (fun x => .d (.v (.string x))) (fun y => .int .i64 y) cmp_2))) rfl) rfl ⟨rfl, trivial⟩ trivial ?_
    refine G.op1 (op_move (Ev.t 0 (.g (.d (.sl 3 (List.map encApi_Dep x_0))))) rfl) rfl ⟨rfl, trivial⟩ trivial ?_
    refine G.op1 (op_move (Ev.t 11 (bI .i64 (IntKind.wrap .i64 (Int.fdiv (IntKind.wrap .u64 (IntKind.wrap .i64 (v6.1 + v6.2))) (2 ^ min (Int.toNat 1) (IntKind.bits .u64)))))) rfl) rfl ⟨rfl, trivial⟩ trivial ?_
    obtain ⟨x11, hx11, hF⟩ := bindS hF
    refine G.op1 (op_index (cs := [.v (.string x11.Key), .v (.int .i64 x11.Stamp.N), .v (.int .i64 x11.Stamp.Site)]) Try.underlying30 ti39 (idx_ok hx11).1 (idx_get hx11 encApi_Dep) (Ev.t 25 (.g (.d (.sl 3 (List.map encApi_Dep x_0))))) (Ev.t 26 (bI .i64 (IntKind.wrap .i64 (Int.fdiv (IntKind.wrap .u64 (IntKind.wrap .i64 (v6.1 + v6.2))) (2 ^ min (Int.toNat 1) (IntKind.bits .u64)))))) rfl) rfl ⟨rfl, rfl, trivial⟩ trivial ?_
    refine G.op1 (op_loadAE (ds := [.v (.string x11.Key), .v (.int .i64 x11.Stamp.N), .v (.int .i64 x11.Stamp.Site)]) Try.underlying39 rfl ti39 rfl (Ev.t 27 (.ep [.v (.string x11.Key), .v (.int .i64 x11.Stamp.N), .v (.int .i64 x11.Stamp.Site)])) rfl) rfl ⟨rfl, trivial⟩ trivial ?_
    refine G.op1 (op_move (Ev.t 1 (bS target_1)) rfl) rfl ⟨rfl, trivial⟩ trivial ?_
    obtain ⟨r12, hr12, hF⟩ := bindS hF
    refine G.op1 (op_callSem (t := 24) (v := .int .i64 r12) (Φ := sem2 (fun x => .agg (encApi_Dep x)) (fun x => .d (.v (.string x))) (fun y => .int .i64 y) cmp_2) ⟨x11, target_1, r12, rfl, hr12, rfl⟩ rfl (EvL.cons (Ev.t 28 (.g (.agg [.v (.string x11.Key), .v (.int .i64 x11.Stamp.N), .v (.int .i64 x11.Stamp.Site)]))) (EvL.cons (Ev.t 29 (bS target_1)) EvL.nil)) rfl) rfl ⟨rfl, rfl, rfl, trivial⟩ trivial ?_
    refine G.op1 (op_lss (Ev.t 30 (bI .i64 r12)) (Ev.c _ rfl) rfl) rfl ⟨rfl, trivial⟩ trivial ?_
    refine G.endOps ?_
    refine ifS hF (fun hc13 hF => ?_) (fun hc13 hF => ?_)
    · refine G.cond rfl (fun _ => ?_) (fun hx => by rw [hc13] at hx; cases hx)
      refine G.region ?_
      refine G.op1 (op_move (Ev.t 11 (bI .i64 (IntKind.wrap .i64 (Int.fdiv (IntKind.wrap .u64 (IntKind.wrap .i64 (v6.1 + v6.2))) (2 ^ min (Int.toNat 1) (IntKind.bits .u64)))))) rfl) rfl ⟨rfl, trivial⟩ trivial ?_
      refine G.op1 (op_add (Ev.t 32 (bI .i64 (IntKind.wrap .i64 (Int.fdiv (IntKind.wrap .u64 (IntKind.wrap .i64 (v6.1 + v6.2))) (2 ^ min (Int.toNat 1) (IntKind.bits .u64)))))) (Ev.c _ rfl) rfl) rfl ⟨rfl, trivial⟩ trivial ?_
      refine G.op1 (op_assign (Ev.t 33 (bI .i64 (IntKind.wrap .i64 ((IntKind.wrap .i64 (Int.fdiv (IntKind.wrap .u64 (IntKind.wrap .i64 (v6.1 + v6.2))) (2 ^ min (Int.toNat 1) (IntKind.bits .u64)))) + 1)))) rfl) rfl ⟨rfl, trivial⟩ trivial ?_
      refine G.endOps ?_
      refine G.endBlock ?_
      exact G.arr (J7 (IntKind.wrap .i64 ((IntKind.wrap .i64 (Int.fdiv (IntKind.wrap .u64 (IntKind.wrap .i64 (v6.1 + v6.2))) (2 ^ min (Int.toNat 1) (IntKind.bits .u64)))) + 1), v6.2) hF) ⟨rfl, rfl, rfl, rfl, rfl, rfl, trivial⟩ trivial rfl
    · refine G.cond rfl (fun hx => by rw [hc13] at hx; cases hx) (fun _ => ?_)
      refine G.region ?_
      refine G.op1 (op_move (Ev.t 11 (bI .i64 (IntKind.wrap .i64 (Int.fdiv (IntKind.wrap .u64 (IntKind.wrap .i64 (v6.1 + v6.2))) (2 ^ min (Int.toNat 1) (IntKind.bits .u64)))))) rfl) rfl ⟨rfl, trivial⟩ trivial ?_
      refine G.op1 (op_assign (Ev.t 34 (bI .i64 (IntKind.wrap .i64 (Int.fdiv (IntKind.wrap .u64 (IntKind.wrap .i64 (v6.1 + v6.2))) (2 ^ min (Int.toNat 1) (IntKind.bits .u64)))))) rfl) rfl ⟨rfl, trivial⟩ trivial ?_
      refine G.endOps ?_
      refine G.endBlock ?_
      exact G.arr (J7 (v6.1, IntKind.wrap .i64 (Int.fdiv (IntKind.wrap .u64 (IntKind.wrap .i64 (v6.1 + v6.2))) (2 ^ min (Int.toNat 1) (IntKind.bits .u64)))) hF) ⟨rfl, rfl, rfl, rfl, rfl, rfl, trivial⟩ trivial rfl
  · refine G.cond rfl (fun hx => by rw [hc10] at hx; cases hx) (fun _ => ?_)
    refine G.exit ?_
    refine GX.c ?_
    refine GX.q ?_
    refine GX.bYes ?_
    exact G.arr (J5 v6.1 hF) ⟨rfl, rfl, rfl, rfl, rfl, trivial⟩ trivial rfl


set_option maxRecDepth 20000 in
set_option maxHeartbeats 2000000 in
theorem ct_past_find (p_0 : (List Api_Dep)) (key_1 : ByteArray) (r : (Int × Bool)) (hF : past_find p_0 key_1 = some r) : Ct Try.prog 52 [.g (.d (.sl 3 (List.map encApi_Dep p_0))), .g (.d (.v (.string key_1)))] (.tup [.d (.v (.int .i64 r.1)), .d (.v (.bool r.2))]) := by
  unfold past_find at hF
  refine Ct.intro Try.func52 rfl Try.ntmps52 rfl rfl fun M w => ?_
  refine G.seq ?_
  refine G.region ?_
  refine G.op1 (op_assign (Ev.c _ rfl) rfl) rfl trivial trivial ?_
  refine G.op1 (op_assign (Ev.c _ rfl) rfl) rfl trivial trivial ?_
  refine G.endOps ?_
  refine G.seq ?_
  refine G.region ?_
  refine G.op1 (op_move (Ev.t 0 (.g (.d (.sl 3 (List.map encApi_Dep p_0))))) rfl) rfl ⟨rfl, trivial⟩ trivial ?_
  refine G.op1 (op_move (Ev.t 1 (bS key_1)) rfl) rfl ⟨rfl, trivial⟩ trivial ?_
  obtain ⟨r1, hr1, hF⟩ := bindS hF
  refine G.op1 (op_callQ (sv := .tup [bI .i64 r1.1, bB r1.2]) cf62 (ct_slices_BinarySearchFunc_string p_0 key_1 (fun x0 x1 => past_find_1 x0 x1) r1 hr1) rfl rfl (EvQL.cons (EvQ.g (Ev.t 6 (.g (.d (.sl 3 (List.map encApi_Dep p_0)))))) (EvQL.cons (EvQ.g (Ev.t 7 (bS key_1))) (EvQL.cons (EvQ.clo (Φ := sem2 (fun x => .agg (encApi_Dep x)) (fun x => .d (.v (.string x))) (fun y => .int .i64 y) (fun x0 x1 => past_find_1 x0 x1)) (Ev.f 63) EvC.nil cf63 (fun args v ⟨x0, x1, b, h1, h2, h3⟩ => by subst h1 h3; exact ct_past_find_1 x0 x1 b h2)) EvQL.nil))) rfl) rfl ⟨rfl, rfl, trivial⟩ trivial ?_
  refine G.op1 (op_extract (l := [bI .i64 r1.1, bB r1.2]) (c := bI .i64 r1.1) rfl rfl) rfl ⟨rfl, trivial⟩ trivial ?_
  refine G.op1 (op_extract (l := [bI .i64 r1.1, bB r1.2]) (c := bB r1.2) rfl rfl) rfl ⟨rfl, trivial⟩ trivial ?_
  refine G.op1 (op_assign (Ev.t 9 (bI .i64 r1.1)) rfl) rfl ⟨rfl, trivial⟩ trivial ?_
  refine G.op1 (op_assign (Ev.t 10 (bB r1.2)) rfl) rfl ⟨rfl, trivial⟩ trivial ?_
  refine G.endOps ?_
  cases hF
  exact G.ret2 Try.results52 (RVar.tmp 4 _) (RVar.tmp 5 _) ⟨rfl, rfl, trivial⟩ trivial


set_option maxRecDepth 20000 in
set_option maxHeartbeats 2000000 in
theorem ct_past_Get (p_0 : (List Api_Dep)) (key_1 : ByteArray) (r : Api_Stamp) (hF : past_Get p_0 key_1 = some r) : Ct Try.prog 40 [.g (.d (.sl 3 (List.map encApi_Dep p_0))), .g (.d (.v (.string key_1)))] (.one (.agg (encApi_Stamp r))) := by
  unfold past_Get at hF
  refine Ct.intro Try.func40 rfl Try.ntmps40 rfl rfl fun M w => ?_
  refine G.seq ?_
  refine G.region ?_
  refine G.op2 (op_alloc (k := 1004) (cs := [bI .i64 0, bI .i64 0]) ti29 ⟨.v _ rfl, .v _ rfl, trivial⟩ rfl) rfl trivial ⟨rfl, trivial⟩ ?_
  refine G.endOps ?_
  refine G.seq ?_
  refine G.region ?_
  refine G.op1 (op_move (Ev.t 0 (.g (.d (.sl 3 (List.map encApi_Dep p_0))))) rfl) rfl ⟨rfl, trivial⟩ trivial ?_
  refine G.op1 (op_move (Ev.t 1 (bS key_1)) rfl) rfl ⟨rfl, trivial⟩ trivial ?_
  obtain ⟨r1, hr1, hF⟩ := bindS hF
  refine G.op1 (op_callQ (sv := .tup [bI .i64 r1.1, bB r1.2]) cf52 (ct_past_find p_0 key_1 r1 hr1) rfl rfl (EvQL.cons (EvQ.g (Ev.t 8 (.g (.d (.sl 3 (List.map encApi_Dep p_0)))))) (EvQL.cons (EvQ.g (Ev.t 9 (bS key_1))) EvQL.nil)) rfl) rfl ⟨rfl, rfl, trivial⟩ trivial ?_
  refine G.op1 (op_moveS (t := 10) (sv := .tup [bI .i64 r1.1, bB r1.2]) rfl) rfl ⟨rfl, trivial⟩ trivial ?_
  refine G.op1 (op_extract (l := [bI .i64 r1.1, bB r1.2]) (c := bI .i64 r1.1) rfl rfl) rfl ⟨rfl, trivial⟩ trivial ?_
  refine G.op1 (op_extract (l := [bI .i64 r1.1, bB r1.2]) (c := bB r1.2) rfl rfl) rfl ⟨rfl, trivial⟩ trivial ?_
  refine G.op1 (op_assign (Ev.t 11 (bI .i64 r1.1)) rfl) rfl ⟨rfl, trivial⟩ trivial ?_
  refine G.op1 (op_assign (Ev.t 12 (bB r1.2)) rfl) rfl ⟨rfl, trivial⟩ trivial ?_
  refine G.endOps ?_
  refine G.seq ?_
  refine G.seq ?_
  refine G.region ?_
  refine G.op1 (op_move (Ev.t 6 (bB r1.2)) rfl) rfl ⟨rfl, trivial⟩ trivial ?_
  refine G.op1 (op_not (Ev.t 13 (bB r1.2)) rfl) rfl ⟨rfl, trivial⟩ trivial ?_
  refine G.endOps ?_
  refine ifS hF (fun hc2 hF => ?_) (fun hc2 hF => ?_)
  · refine G.cond rfl (fun _ => ?_) (fun hx => by rw [hc2] at hx; cases hx)
    refine G.seq ?_
    refine G.region ?_
    refine G.op1 (op_build (zs := [.v (.int .i64 0), .v (.int .i64 0)]) (ds := [.v (.int .i64 0), .v (.int .i64 0)]) Try.underlying29 ti29 (pl29 _ Try.underlying29) ⟨.v _ rfl, .v _ rfl, trivial⟩ EvP.nil rfl rfl) rfl trivial trivial ?_
    refine G.op3 (op_storeA (cs' := [bI .i64 0, bI .i64 0]) ti29 rfl rfl (Ev.t 4 (.ptr 1004 0)) (Ev.t 15 (.g (.agg [.v (.int .i64 0), .v (.int .i64 0)])))) rfl ⟨rfl, rfl, trivial⟩ ⟨rfl, trivial⟩ ?_
    refine G.endOps ?_
    cases hF
    exact G.ret1 Try.results40 (RVar.cellA (ds := [.v (.int .i64 0), .v (.int .i64 0)]) Try.underlying29 rfl ti29 rfl) ⟨rfl, trivial⟩ ⟨rfl, trivial⟩
  · refine G.cond rfl (fun hx => by rw [hc2] at hx; cases hx) (fun _ => ?_)
    refine G.skip ?_
    refine G.seq ?_
    refine G.region ?_
    refine G.op1 (op_move (Ev.t 0 (.g (.d (.sl 3 (List.map encApi_Dep p_0))))) rfl) rfl ⟨rfl, trivial⟩ trivial ?_
    refine G.op1 (op_move (Ev.t 5 (bI .i64 r1.1)) rfl) rfl ⟨rfl, trivial⟩ trivial ?_
    obtain ⟨x3, hx3, hF⟩ := bindS hF
    refine G.op1 (op_index (cs := [.v (.string x3.Key), .v (.int .i64 x3.Stamp.N), .v (.int .i64 x3.Stamp.Site)]) Try.underlying30 ti39 (idx_ok hx3).1 (idx_get hx3 encApi_Dep) (Ev.t 16 (.g (.d (.sl 3 (List.map encApi_Dep p_0))))) (Ev.t 17 (bI .i64 r1.1)) rfl) rfl ⟨rfl, rfl, trivial⟩ trivial ?_
    refine G.op1 (op_fieldE (cs' := [.v (.int .i64 x3.Stamp.N), .v (.int .i64 x3.Stamp.Site)]) Try.underlying39 rfl ti29 (by decide) rfl (Ev.t 18 (.ep [.v (.string x3.Key), .v (.int .i64 x3.Stamp.N), .v (.int .i64 x3.Stamp.Site)])) rfl) rfl ⟨rfl, trivial⟩ trivial ?_
    refine G.op1 (op_loadAE (ds := [.v (.int .i64 x3.Stamp.N), .v (.int .i64 x3.Stamp.Site)]) Try.underlying29 rfl ti29 rfl (Ev.t 19 (.ep [.v (.int .i64 x3.Stamp.N), .v (.int .i64 x3.Stamp.Site)])) rfl) rfl ⟨rfl, trivial⟩ trivial ?_
    refine G.op3 (op_storeA (cs' := [bI .i64 x3.Stamp.N, bI .i64 x3.Stamp.Site]) ti29 rfl rfl (Ev.t 4 (.ptr 1004 0)) (Ev.t 20 (.g (.agg [.v (.int .i64 x3.Stamp.N), .v (.int .i64 x3.Stamp.Site)])))) rfl ⟨rfl, rfl, trivial⟩ ⟨rfl, trivial⟩ ?_
    refine G.endOps ?_
    cases hF
    exact G.ret1 Try.results40 (RVar.cellA (ds := [.v (.int .i64 x3.Stamp.N), .v (.int .i64 x3.Stamp.Site)]) Try.underlying29 rfl ti29 rfl) ⟨rfl, trivial⟩ ⟨rfl, trivial⟩


set_option maxRecDepth 20000 in
set_option maxHeartbeats 2000000 in
theorem ct_stamp_Less (a_0 : Api_Stamp) (b_1 : Api_Stamp) (r : Bool) (hF : stamp_Less a_0 b_1 = some r) : Ct Try.prog 39 [.g (.agg (encApi_Stamp a_0)), .g (.agg (encApi_Stamp b_1))] (.one (.d (.v (.bool r)))) := by
  unfold stamp_Less at hF
  refine Ct.intro Try.func39 rfl Try.ntmps39 rfl rfl fun M w => ?_
  refine G.seq ?_
  refine G.region ?_
  refine G.op2 (op_boxA (k := 1002) (Ev.t 0 (.g (.agg [.v (.int .i64 a_0.N), .v (.int .i64 a_0.Site)]))) rfl) rfl ⟨rfl, trivial⟩ ⟨rfl, trivial⟩ ?_
  refine G.op2 (op_boxA (k := 1003) (Ev.t 1 (.g (.agg [.v (.int .i64 b_1.N), .v (.int .i64 b_1.Site)]))) rfl) rfl ⟨rfl, trivial⟩ ⟨rfl, trivial⟩ ?_
  refine G.op1 (op_assign (Ev.c _ rfl) rfl) rfl trivial trivial ?_
  refine G.endOps ?_
  refine G.seq ?_
  refine G.region ?_
  refine G.op1 (op_loadAP (ds := [.v (.int .i64 a_0.N), .v (.int .i64 a_0.Site)]) Try.underlying29 rfl ti29 rfl (Ev.t 2 (.ptr 1002 0)) rfl) rfl ⟨rfl, trivial⟩ ⟨rfl, trivial⟩ ?_
  refine G.op1 (op_loadAP (ds := [.v (.int .i64 b_1.N), .v (.int .i64 b_1.Site)]) Try.underlying29 rfl ti29 rfl (Ev.t 3 (.ptr 1003 0)) rfl) rfl ⟨rfl, trivial⟩ ⟨rfl, trivial⟩ ?_
  refine G.op1 (op_eqA (us := [.int .i64 a_0.N, .int .i64 a_0.Site]) (vs := [.int .i64 b_1.N, .int .i64 b_1.Site]) rfl rfl Try.eqGuardType29 (fun w => ne29 a_0.N a_0.Site b_1.N b_1.Site w) (Ev.t 5 (.g (.agg [.v (.int .i64 a_0.N), .v (.int .i64 a_0.Site)]))) (Ev.t 6 (.g (.agg [.v (.int .i64 b_1.N), .v (.int .i64 b_1.Site)]))) rfl) rfl ⟨rfl, rfl, trivial⟩ trivial ?_
  refine G.op1 (op_move (Ev.t 7 (bB (!(decide (a_0.N = b_1.N) && decide (a_0.Site = b_1.Site))))) rfl) rfl ⟨rfl, trivial⟩ trivial ?_
  refine ifS hF (fun hc1 hF => ?_) (fun hc1 hF => ?_)
  · refine G.known (t := 8) hc1 rfl ?_
    refine G.opG1 (op_fieldP (off' := 0) Try.underlying29 rfl ti3 (by decide) rfl (Ev.t 2 (.ptr 1002 0)) rfl) rfl rfl rfl ⟨rfl, trivial⟩ trivial ?_
    refine G.opG1 (op_load1P (c := bI .i64 a_0.N) Try.underlying3 rfl rfl (Ev.t 9 (.ptr 1002 0)) rfl) rfl rfl rfl ⟨rfl, trivial⟩ ⟨rfl, trivial⟩ ?_
    refine G.opG1 (op_fieldP (off' := 0) Try.underlying29 rfl ti3 (by decide) rfl (Ev.t 3 (.ptr 1003 0)) rfl) rfl rfl rfl ⟨rfl, trivial⟩ trivial ?_
    refine G.opG1 (op_load1P (c := bI .i64 b_1.N) Try.underlying3 rfl rfl (Ev.t 11 (.ptr 1003 0)) rfl) rfl rfl rfl ⟨rfl, trivial⟩ ⟨rfl, trivial⟩ ?_
    refine G.opG1 (op_lss (Ev.t 10 (bI .i64 a_0.N)) (Ev.t 12 (bI .i64 b_1.N)) rfl) rfl rfl rfl ⟨rfl, rfl, trivial⟩ trivial ?_
    refine G.opG1 (op_move (Ev.t 13 (bB (decide (a_0.N < b_1.N)))) rfl) rfl rfl rfl ⟨rfl, trivial⟩ trivial ?_
    refine ifS hF (fun hc2 hF => ?_) (fun hc2 hF => ?_)
    · refine G.known (t := 14) hc2 rfl ?_
      refine G.opN1 rfl rfl rfl rfl rfl ?_
      refine G.opN1 rfl rfl rfl rfl rfl ?_
      refine G.opN1 rfl rfl rfl rfl rfl ?_
      refine G.opN1 rfl rfl rfl rfl rfl ?_
      refine G.opN1 rfl rfl rfl rfl rfl ?_
      refine G.opN1 rfl rfl rfl rfl rfl ?_
      refine G.opU rfl rfl rfl rfl ?_
      refine G.opU rfl rfl rfl rfl ?_
      refine G.opU rfl rfl rfl rfl ?_
      refine G.opU rfl rfl rfl rfl ?_
      refine G.opU rfl rfl rfl rfl ?_
      refine G.opN1 rfl rfl rfl rfl rfl ?_
      refine G.opG1 (op_pickT (Ev.t 14 (bB true)) (Ev.c _ rfl) rfl) rfl rfl rfl ⟨rfl, trivial⟩ trivial ?_
      refine G.op1 (op_pickT (Ev.t 8 (bB true)) (Ev.t 27 (bB true)) rfl) rfl ⟨rfl, rfl, trivial⟩ trivial ?_
      refine G.op1 (op_assign (Ev.t 28 (bB true)) rfl) rfl ⟨rfl, trivial⟩ trivial ?_
      refine G.endOps ?_
      cases hF
      exact G.ret1 Try.results39 (RVar.tmp 4 _) ⟨rfl, trivial⟩ trivial
    · refine G.known (t := 14) hc2 rfl ?_
      refine G.opG1 (op_fieldP (off' := 0) Try.underlying29 rfl ti3 (by decide) rfl (Ev.t 2 (.ptr 1002 0)) rfl) rfl rfl rfl ⟨rfl, trivial⟩ trivial ?_
      refine G.opG1 (op_load1P (c := bI .i64 a_0.N) Try.underlying3 rfl rfl (Ev.t 15 (.ptr 1002 0)) rfl) rfl rfl rfl ⟨rfl, trivial⟩ ⟨rfl, trivial⟩ ?_
      refine G.opG1 (op_fieldP (off' := 0) Try.underlying29 rfl ti3 (by decide) rfl (Ev.t 3 (.ptr 1003 0)) rfl) rfl rfl rfl ⟨rfl, trivial⟩ trivial ?_
      refine G.opG1 (op_load1P (c := bI .i64 b_1.N) Try.underlying3 rfl rfl (Ev.t 17 (.ptr 1003 0)) rfl) rfl rfl rfl ⟨rfl, trivial⟩ ⟨rfl, trivial⟩ ?_
      refine G.opG1 (op_eqI (Ev.t 16 (bI .i64 a_0.N)) (Ev.t 18 (bI .i64 b_1.N)) rfl) rfl rfl rfl ⟨rfl, rfl, trivial⟩ trivial ?_
      refine G.opG1 (op_move (Ev.t 19 (bB (decide (a_0.N = b_1.N)))) rfl) rfl rfl rfl ⟨rfl, trivial⟩ trivial ?_
      refine ifS hF (fun hc3 hF => ?_) (fun hc3 hF => ?_)
      · refine G.known (t := 20) hc3 rfl ?_
        refine G.opG1 (op_fieldP (off' := 1) Try.underlying29 rfl ti3 (by decide) rfl (Ev.t 2 (.ptr 1002 0)) rfl) rfl rfl rfl ⟨rfl, trivial⟩ trivial ?_
        refine G.opG1 (op_load1P (c := bI .i64 a_0.Site) Try.underlying3 rfl rfl (Ev.t 21 (.ptr 1002 1)) rfl) rfl rfl rfl ⟨rfl, trivial⟩ ⟨rfl, trivial⟩ ?_
        refine G.opG1 (op_fieldP (off' := 1) Try.underlying29 rfl ti3 (by decide) rfl (Ev.t 3 (.ptr 1003 0)) rfl) rfl rfl rfl ⟨rfl, trivial⟩ trivial ?_
        refine G.opG1 (op_load1P (c := bI .i64 b_1.Site) Try.underlying3 rfl rfl (Ev.t 23 (.ptr 1003 1)) rfl) rfl rfl rfl ⟨rfl, trivial⟩ ⟨rfl, trivial⟩ ?_
        refine G.opG1 (op_leq (Ev.t 22 (bI .i64 a_0.Site)) (Ev.t 24 (bI .i64 b_1.Site)) rfl) rfl rfl rfl ⟨rfl, rfl, trivial⟩ trivial ?_
        refine G.opG1 (op_pickT (Ev.t 20 (bB true)) (Ev.t 25 (bB (decide (a_0.Site ≤ b_1.Site)))) rfl) rfl rfl rfl ⟨rfl, rfl, trivial⟩ trivial ?_
        refine G.opG1 (op_pickF (Ev.t 14 (bB false)) (Ev.t 26 (bB (decide (a_0.Site ≤ b_1.Site)))) rfl) rfl rfl rfl ⟨rfl, rfl, trivial⟩ trivial ?_
        refine G.op1 (op_pickT (Ev.t 8 (bB true)) (Ev.t 27 (bB (decide (a_0.Site ≤ b_1.Site)))) rfl) rfl ⟨rfl, rfl, trivial⟩ trivial ?_
        refine G.op1 (op_assign (Ev.t 28 (bB (decide (a_0.Site ≤ b_1.Site)))) rfl) rfl ⟨rfl, trivial⟩ trivial ?_
        refine G.endOps ?_
        cases hF
        exact G.ret1 Try.results39 (RVar.tmp 4 _) ⟨rfl, trivial⟩ trivial
      · refine G.known (t := 20) hc3 rfl ?_
        refine G.opN1 rfl rfl rfl rfl rfl ?_
        refine G.opN1 rfl rfl rfl rfl rfl ?_
        refine G.opN1 rfl rfl rfl rfl rfl ?_
        refine G.opN1 rfl rfl rfl rfl rfl ?_
        refine G.opN1 rfl rfl rfl rfl rfl ?_
        refine G.opG1 (op_pickF (Ev.t 20 (bB false)) (Ev.c _ rfl) rfl) rfl rfl rfl ⟨rfl, trivial⟩ trivial ?_
        refine G.opG1 (op_pickF (Ev.t 14 (bB false)) (Ev.t 26 (bB false)) rfl) rfl rfl rfl ⟨rfl, rfl, trivial⟩ trivial ?_
        refine G.op1 (op_pickT (Ev.t 8 (bB true)) (Ev.t 27 (bB false)) rfl) rfl ⟨rfl, rfl, trivial⟩ trivial ?_
        refine G.op1 (op_assign (Ev.t 28 (bB false)) rfl) rfl ⟨rfl, trivial⟩ trivial ?_
        refine G.endOps ?_
        cases hF
        exact G.ret1 Try.results39 (RVar.tmp 4 _) ⟨rfl, trivial⟩ trivial
  · refine G.known (t := 8) hc1 rfl ?_
    refine G.opN1 rfl rfl rfl rfl rfl ?_
    refine G.opN1 rfl rfl rfl rfl rfl ?_
    refine G.opN1 rfl rfl rfl rfl rfl ?_
    refine G.opN1 rfl rfl rfl rfl rfl ?_
    refine G.opN1 rfl rfl rfl rfl rfl ?_
    refine G.opN1 rfl rfl rfl rfl rfl ?_
    refine G.opU rfl rfl rfl rfl ?_
    refine G.opU rfl rfl rfl rfl ?_
    refine G.opU rfl rfl rfl rfl ?_
    refine G.opU rfl rfl rfl rfl ?_
    refine G.opU rfl rfl rfl rfl ?_
    refine G.opU rfl rfl rfl rfl ?_
    refine G.opU rfl rfl rfl rfl ?_
    refine G.opU rfl rfl rfl rfl ?_
    refine G.opU rfl rfl rfl rfl ?_
    refine G.opU rfl rfl rfl rfl ?_
    refine G.opU rfl rfl rfl rfl ?_
    refine G.opU rfl rfl rfl rfl ?_
    refine G.opN1 rfl rfl rfl rfl rfl ?_
    refine G.op1 (op_pickF (Ev.t 8 (bB false)) (Ev.c _ rfl) rfl) rfl ⟨rfl, trivial⟩ trivial ?_
    refine G.op1 (op_assign (Ev.t 28 (bB false)) rfl) rfl ⟨rfl, trivial⟩ trivial ?_
    refine G.endOps ?_
    cases hF
    exact G.ret1 Try.results39 (RVar.tmp 4 _) ⟨rfl, trivial⟩ trivial


set_option maxRecDepth 20000 in
set_option maxHeartbeats 2000000 in
theorem ct_queue_Misses_1 (d_0 : Api_Dep) (c0 : (List Api_Dep)) (r : Bool) (hF : queue_Misses_1 d_0 c0 = some r) : Ct Try.prog 38 [.g (.agg (encApi_Dep d_0)), .ep [.sl 3 (List.map encApi_Dep c0)]] (.one (.d (.v (.bool r)))) := by
  unfold queue_Misses_1 at hF
  refine Ct.intro Try.func38 rfl Try.ntmps38 rfl rfl fun M w => ?_
  refine G.seq ?_
  refine G.region ?_
  refine G.op2 (op_boxA (k := 1002) (Ev.t 0 (.g (.agg [.v (.string d_0.Key), .v (.int .i64 d_0.Stamp.N), .v (.int .i64 d_0.Stamp.Site)]))) rfl) rfl ⟨rfl, trivial⟩ ⟨rfl, trivial⟩ ?_
  refine G.op1 (op_assign (Ev.c _ rfl) rfl) rfl trivial trivial ?_
  refine G.endOps ?_
  refine G.seq ?_
  obtain ⟨r1, hr1, hF⟩ := bindS hF
  obtain ⟨r2, hr2, hF⟩ := bindS hF
  refine G.drawn (effs := [⟨[(1, .one (.ep [.sl 3 (List.map encApi_Dep c0)]))], [], [(4, .one (.g (.d (.sl 3 (List.map encApi_Dep c0)))))], []⟩, ⟨[(2, .one (.ptr 1002 0))], [], [(5, .one (.ptr 1002 0))], []⟩, ⟨[(5, .one (.ptr 1002 0))], [(1002, some (.blk 39 [bS d_0.Key, bI .i64 d_0.Stamp.N, bI .i64 d_0.Stamp.Site]))], [(6, .one (bS d_0.Key))], []⟩, ⟨[(4, .one (.g (.d (.sl 3 (List.map encApi_Dep c0))))), (6, .one (bS d_0.Key))], [], [(7, .one (.g (.agg [.v (.int .i64 r1.N), .v (.int .i64 r1.Site)])))], []⟩, ⟨[(2, .one (.ptr 1002 0))], [], [(8, .one (.ptr 1002 1))], []⟩, ⟨[(8, .one (.ptr 1002 1))], [(1002, some (.blk 39 [bS d_0.Key, bI .i64 d_0.Stamp.N, bI .i64 d_0.Stamp.Site]))], [(9, .one (.g (.agg [.v (.int .i64 d_0.Stamp.N), .v (.int .i64 d_0.Stamp.Site)])))], []⟩, ⟨[(7, .one (.g (.agg [.v (.int .i64 r1.N), .v (.int .i64 r1.Site)]))), (9, .one (.g (.agg [.v (.int .i64 d_0.Stamp.N), .v (.int .i64 d_0.Stamp.Site)])))], [], [(10, .one (bB r2))], []⟩, ⟨[(10, .one (bB r2))], [], [(11, .one (bB (!r2)))], []⟩, ⟨[(11, .one (bB (!r2)))], [], [(3, .one (bB (!r2)))], []⟩]) (deps := [[], [], [1], [0, 1, 2], [], [4], [0, 1, 2, 3, 4, 5], [0, 1, 2, 3, 4, 5, 6], [0, 1, 2, 3, 4, 5, 6, 7]]) (sl' := [(3, .one (bB (!r2)))]) (hp' := []) follows rfl rfl rfl ⟨⟨rfl, trivial⟩, trivial, ⟨rfl, trivial⟩, trivial, ⟨rfl, trivial⟩, ⟨⟨rfl, rfl⟩, trivial⟩, ⟨rfl, rfl, trivial⟩, trivial, ⟨rfl, trivial⟩, trivial, ⟨rfl, trivial⟩, ⟨⟨rfl, rfl⟩, trivial⟩, ⟨rfl, rfl, trivial⟩, trivial, ⟨rfl, trivial⟩, trivial, ⟨rfl, trivial⟩, trivial, trivial⟩ ⟨OpW.plain (op_load1E (c := .sl 3 (List.map encApi_Dep c0)) Try.underlying30 rfl rfl (Ev.t 1 (.ep [.sl 3 (List.map encApi_Dep c0)])) rfl) rfl rfl, OpW.plain (op_fieldP (off' := 0) Try.underlying39 rfl ti9 (by decide) rfl (Ev.t 2 (.ptr 1002 0)) rfl) rfl rfl, OpW.plain (op_load1P (c := bS d_0.Key) Try.underlying9 rfl rfl (Ev.t 5 (.ptr 1002 0)) rfl) rfl rfl, OpW.plain (op_callQ (sv := .one (.g (.agg [.v (.int .i64 r1.N), .v (.int .i64 r1.Site)]))) cf40 (ct_past_Get c0 d_0.Key r1 hr1) rfl rfl (EvQL.cons (EvQ.g (Ev.t 4 (.g (.d (.sl 3 (List.map encApi_Dep c0)))))) (EvQL.cons (EvQ.g (Ev.t 6 (bS d_0.Key))) EvQL.nil)) rfl) rfl rfl, OpW.plain (op_fieldP (off' := 1) Try.underlying39 rfl ti29 (by decide) rfl (Ev.t 2 (.ptr 1002 0)) rfl) rfl rfl, OpW.plain (op_loadAP (ds := [.v (.int .i64 d_0.Stamp.N), .v (.int .i64 d_0.Stamp.Site)]) Try.underlying29 rfl ti29 rfl (Ev.t 8 (.ptr 1002 1)) rfl) rfl rfl, OpW.plain (op_callQ (sv := .one (bB r2)) cf39 (ct_stamp_Less r1 d_0.Stamp r2 hr2) rfl rfl (EvQL.cons (EvQ.g (Ev.t 7 (.g (.agg [.v (.int .i64 r1.N), .v (.int .i64 r1.Site)])))) (EvQL.cons (EvQ.g (Ev.t 9 (.g (.agg [.v (.int .i64 d_0.Stamp.N), .v (.int .i64 d_0.Stamp.Site)])))) EvQL.nil)) rfl) rfl rfl, OpW.plain (op_not (Ev.t 10 (bB r2)) rfl) rfl rfl, OpW.plain (op_assign (Ev.t 11 (bB (!r2))) rfl) rfl rfl, trivial⟩ ⟨rfl, trivial⟩ trivial rfl ?_
  cases hF
  exact G.ret1 Try.results38 (RVar.tmp 3 _) ⟨rfl, trivial⟩ trivial


set_option maxRecDepth 20000 in
set_option maxHeartbeats 2000000 in
theorem ct_queue_Misses (v_0 : Api_Version) (have_1 : (List Api_Dep)) (own_2 : (List Api_Range)) (r : (List Api_Dep)) (hF : queue_Misses v_0 have_1 own_2 = some r) : Ct Try.prog 16 [.g (.agg (encApi_Version v_0)), .g (.d (.sl 3 (List.map encApi_Dep have_1))), .g (.d (.sl 2 (List.map encApi_Range own_2)))] (.one (.d (.sl 3 (List.map encApi_Dep r)))) := by
  unfold queue_Misses at hF
  refine Ct.intro Try.func16 rfl Try.ntmps16 rfl rfl fun M w => ?_
  refine G.seq ?_
  refine G.region ?_
  refine G.op2 (op_boxA (k := 1003) (Ev.t 0 (.g (.agg [.v (.string v_0.Key), .v (.string v_0.Value), .v (.bool v_0.Gone), .v (.int .i64 v_0.Stamp.N), .v (.int .i64 v_0.Stamp.Site), .sl 3 (List.map encApi_Dep v_0.Past)]))) rfl) rfl ⟨rfl, trivial⟩ ⟨rfl, trivial⟩ ?_
  refine G.op2 (op_box1 (k := 1004) (c := .g (.d (.sl 3 (List.map encApi_Dep have_1)))) trivial (Ev.t 1 (.g (.d (.sl 3 (List.map encApi_Dep have_1))))) rfl) rfl ⟨rfl, trivial⟩ ⟨rfl, trivial⟩ ?_
  refine G.op1 (op_assign (Ev.n 3) rfl) rfl trivial trivial ?_
  refine G.endOps ?_
  refine G.seq ?_
  refine G.region ?_
  refine G.op1 (op_fieldP (off' := 5) Try.underlying32 rfl ti30 (by decide) rfl (Ev.t 3 (.ptr 1003 0)) rfl) rfl ⟨rfl, trivial⟩ trivial ?_
  refine G.op1 (op_load1P (c := .g (.d (.sl 3 (List.map encApi_Dep v_0.Past)))) Try.underlying30 rfl rfl (Ev.t 7 (.ptr 1003 5)) rfl) rfl ⟨rfl, trivial⟩ ⟨rfl, trivial⟩ ?_
  refine G.op1 (op_move (Ev.t 2 (.g (.d (.sl 2 (List.map encApi_Range own_2))))) rfl) rfl ⟨rfl, trivial⟩ trivial ?_
  obtain ⟨r1, hr1, hF⟩ := bindS hF
  refine G.op2 (op_callNew (k := 2010) cf37 (ct_past_Only v_0.Past own_2 r1 hr1) (EvL.cons (Ev.t 8 (.g (.d (.sl 3 (List.map encApi_Dep v_0.Past))))) (EvL.cons (Ev.t 9 (.g (.d (.sl 2 (List.map encApi_Range own_2))))) EvL.nil)) rfl) rfl ⟨rfl, rfl, trivial⟩ ⟨rfl, trivial⟩ ?_
  refine G.op1 (op_makeFunc1 (Ev.t 4 (.ptr 1004 0)) rfl) rfl ⟨rfl, trivial⟩ trivial ?_
  obtain ⟨r2, hr2, hF⟩ := bindS hF
  refine G.callRow (sl' := [(0, .one (.g (.agg [.v (.string v_0.Key), .v (.string v_0.Value), .v (.bool v_0.Gone), .v (.int .i64 v_0.Stamp.N), .v (.int .i64 v_0.Stamp.Site), .sl 3 (List.map encApi_Dep v_0.Past)]))), (1, .one (.g (.d (.sl 3 (List.map encApi_Dep have_1))))), (2, .one (.g (.d (.sl 2 (List.map encApi_Range own_2))))), (3, .one (.ptr 1003 0)), (4, .one (.ptr 1004 0)), (6, .one (.g (.d (.sl 3 (List.map encApi_Dep ([] : (List Api_Dep))))))), (7, .one (.ptr 1003 5)), (8, .one (.g (.d (.sl 3 (List.map encApi_Dep v_0.Past))))), (9, .one (.g (.d (.sl 2 (List.map encApi_Range own_2))))), (11, .one (.clo 38 [1004]))]) cf36 (ct_slices_DeleteFunc_Dep r1 (fun x0 => queue_Misses_1 x0 have_1) r2 hr2) (Ev.t 10 (.own 2010 (List.map encApi_Dep r1))) (EvX.clo (Φ := sem1 (fun x => .agg (encApi_Dep x)) (fun y => .bool y) (fun x0 => queue_Misses_1 x0 have_1)) (Ev.t 11 (.clo 38 [1004])) (EvC.cons rfl EvC.nil) cf38 (fun args v ⟨x0, b, h1, h2, h3⟩ => by subst h1 h3; exact ct_queue_Misses_1 x0 have_1 b h2) EvX.nil) rfl ⟨rfl, rfl, trivial⟩ ⟨rfl, rfl, trivial⟩ ⟨rfl, rfl, rfl, rfl, rfl, rfl, rfl, rfl, rfl, rfl, trivial⟩ rfl ?_
  refine G.op1 (op_assign (Ev.t 12 (.own 2010 (List.map encApi_Dep r2))) rfl) rfl ⟨rfl, trivial⟩ trivial ?_
  refine G.endOps ?_
  refine G.share (k' := 2010) rfl ?_
  refine G.view (t := 6) rfl rfl ?_
  cases hF
  exact G.ret1 Try.results16 (RVar.tmp 6 _) ⟨rfl, trivial⟩ trivial


set_option maxRecDepth 20000 in
set_option maxHeartbeats 2000000 in
theorem ct_queue_Check (v_0 : Api_Version) (have_1 : (List Api_Dep)) (own_2 : (List Api_Range)) (r : Bool) (hF : queue_Check v_0 have_1 own_2 = some r) : Ct Try.prog 20 [.g (.agg (encApi_Version v_0)), .g (.d (.sl 3 (List.map encApi_Dep have_1))), .g (.d (.sl 2 (List.map encApi_Range own_2)))] (.one (.d (.v (.bool r)))) := by
  unfold queue_Check at hF
  refine Ct.intro Try.func20 rfl Try.ntmps20 rfl rfl fun M w => ?_
  refine G.seq ?_
  refine G.region ?_
  refine G.op2 (op_boxA (k := 1003) (Ev.t 0 (.g (.agg [.v (.string v_0.Key), .v (.string v_0.Value), .v (.bool v_0.Gone), .v (.int .i64 v_0.Stamp.N), .v (.int .i64 v_0.Stamp.Site), .sl 3 (List.map encApi_Dep v_0.Past)]))) rfl) rfl ⟨rfl, trivial⟩ ⟨rfl, trivial⟩ ?_
  refine G.op1 (op_assign (Ev.c _ rfl) rfl) rfl trivial trivial ?_
  refine G.endOps ?_
  refine G.seq ?_
  refine G.region ?_
  refine G.op1 (op_loadAP (ds := [.v (.string v_0.Key), .v (.string v_0.Value), .v (.bool v_0.Gone), .v (.int .i64 v_0.Stamp.N), .v (.int .i64 v_0.Stamp.Site), .sl 3 (List.map encApi_Dep v_0.Past)]) Try.underlying32 rfl ti32 rfl (Ev.t 3 (.ptr 1003 0)) rfl) rfl ⟨rfl, trivial⟩ ⟨rfl, trivial⟩ ?_
  refine G.op1 (op_move (Ev.t 1 (.g (.d (.sl 3 (List.map encApi_Dep have_1))))) rfl) rfl ⟨rfl, trivial⟩ trivial ?_
  refine G.op1 (op_move (Ev.t 2 (.g (.d (.sl 2 (List.map encApi_Range own_2))))) rfl) rfl ⟨rfl, trivial⟩ trivial ?_
  obtain ⟨r1, hr1, hF⟩ := bindS hF
  refine G.op1 (op_call (sv := .one (.g (.d (.sl 3 (List.map encApi_Dep r1))))) cf16 (ct_queue_Misses v_0 have_1 own_2 r1 hr1) rfl (EvL.cons (Ev.t 7 (.g (.agg [.v (.string v_0.Key), .v (.string v_0.Value), .v (.bool v_0.Gone), .v (.int .i64 v_0.Stamp.N), .v (.int .i64 v_0.Stamp.Site), .sl 3 (List.map encApi_Dep v_0.Past)]))) (EvL.cons (Ev.t 8 (.g (.d (.sl 3 (List.map encApi_Dep have_1))))) (EvL.cons (Ev.t 9 (.g (.d (.sl 2 (List.map encApi_Range own_2))))) EvL.nil))) rfl) rfl ⟨rfl, rfl, rfl, trivial⟩ trivial ?_
  refine G.op1 (OpL.cast (op_lenD Try.underlying30 (Ev.t 10 (.g (.d (.sl 3 (List.map encApi_Dep r1))))) rfl) (by rw [List.length_map])) rfl ⟨rfl, trivial⟩ trivial ?_
  refine G.op1 (op_eqI (Ev.t 11 (bI .i64 (r1.length : Int))) (Ev.c _ rfl) rfl) rfl ⟨rfl, trivial⟩ trivial ?_
  refine G.op1 (op_assign (Ev.t 12 (bB (decide ((r1.length : Int) = 0)))) rfl) rfl ⟨rfl, trivial⟩ trivial ?_
  refine G.endOps ?_
  cases hF
  exact G.ret1 Try.results20 (RVar.tmp 6 _) ⟨rfl, trivial⟩ trivial


set_option maxRecDepth 20000 in
set_option maxHeartbeats 2000000 in
theorem ct_queue_Next (l_0 : (List Api_Version)) (have_1 : (List Api_Dep)) (own_2 : (List Api_Range)) (r : (Api_Version × (List Api_Version) × Bool)) (hF : queue_Next l_0 have_1 own_2 = some r) : Ct Try.prog 12 [.g (.d (.sl 6 (List.map encApi_Version l_0))), .g (.d (.sl 3 (List.map encApi_Dep have_1))), .g (.d (.sl 2 (List.map encApi_Range own_2)))] (.tup [.agg (encApi_Version r.1), .d (.sl 6 (List.map encApi_Version r.2.1)), .d (.v (.bool r.2.2))]) := by
  unfold queue_Next at hF
  refine Ct.intro Try.func12 rfl Try.ntmps12 rfl rfl fun M w => ?_
  refine G.seq ?_
  refine G.region ?_
  refine G.op2 (op_alloc (k := 1006) (cs := [bS ByteArray.empty, bS ByteArray.empty, bB false, bI .i64 0, bI .i64 0, .g (.d (.sl 3 (List.map encApi_Dep ([] : (List Api_Dep)))))]) ti32 ⟨.v _ rfl, .v _ rfl, .v _ rfl, .v _ rfl, .v _ rfl, .n 3, trivial⟩ rfl) rfl trivial ⟨rfl, trivial⟩ ?_
  refine G.op1 (op_assign (Ev.n 6) rfl) rfl trivial trivial ?_
  refine G.op1 (op_assign (Ev.c _ rfl) rfl) rfl trivial trivial ?_
  refine G.endOps ?_
  refine G.scope ?_
  refine G.seq ?_
  refine G.label ?_
  refine G.seq ?_
  refine G.seq ?_
  refine G.region ?_
  refine G.op1 (op_move (Ev.t 0 (.g (.d (.sl 6 (List.map encApi_Version l_0))))) rfl) rfl ⟨rfl, trivial⟩ trivial ?_
  refine G.op1 (OpL.cast (op_lenD Try.underlying24 (Ev.t 11 (.g (.d (.sl 6 (List.map encApi_Version l_0))))) rfl) (by rw [List.length_map])) rfl ⟨rfl, trivial⟩ trivial ?_
  refine G.op1 (op_move (Ev.c _ rfl) rfl) rfl trivial trivial ?_
  refine G.endOps ?_
  refine G.joinC (T := Unit) (fun y1 => ⟨[(0, .one (.g (.d (.sl 6 (List.map encApi_Version l_0))))), (6, .one (.ptr 1006 0))], [(1006, some (.blk 32 [bS ByteArray.empty, bS ByteArray.empty, bB false, bI .i64 0, bI .i64 0, .g (.d (.sl 3 (List.map encApi_Dep ([] : (List Api_Dep)))))]))]⟩) (fun y1 => queue_Next_k1 l_0 y1 = some r) (fun y1 hF => ?_) (fun J2 => ?_)
  · unfold queue_Next_k1 at hF
    refine G.seq ?_
    refine G.region ?_
    refine G.op1 (op_build (zs := [.v (.string ByteArray.empty), .v (.string ByteArray.empty), .v (.bool false), .v (.int .i64 0), .v (.int .i64 0), .sl 3 (List.map encApi_Dep ([] : (List Api_Dep)))]) (ds := [.v (.string ByteArray.empty), .v (.string ByteArray.empty), .v (.bool false), .v (.int .i64 0), .v (.int .i64 0), .sl 3 (List.map encApi_Dep ([] : (List Api_Dep)))]) Try.underlying32 ti32 (pl32 _ Try.underlying32) ⟨.v _ rfl, .v _ rfl, .v _ rfl, .v _ rfl, .v _ rfl, .n 3, trivial⟩ EvP.nil rfl rfl) rfl trivial trivial ?_
    refine G.op1 (op_move (Ev.t 0 (.g (.d (.sl 6 (List.map encApi_Version l_0))))) rfl) rfl ⟨rfl, trivial⟩ trivial ?_
    refine G.op3 (op_storeA (cs' := [bS ByteArray.empty, bS ByteArray.empty, bB false, bI .i64 0, bI .i64 0, .g (.d (.sl 3 (List.map encApi_Dep ([] : (List Api_Dep)))))]) ti32 rfl rfl (Ev.t 6 (.ptr 1006 0)) (Ev.t 34 (.g (.agg [.v (.string ByteArray.empty), .v (.string ByteArray.empty), .v (.bool false), .v (.int .i64 0), .v (.int .i64 0), .sl 3 (List.map encApi_Dep ([] : (List Api_Dep)))])))) rfl ⟨rfl, rfl, trivial⟩ ⟨rfl, trivial⟩ ?_
    refine G.op1 (op_assign (Ev.t 35 (.g (.d (.sl 6 (List.map encApi_Version l_0))))) rfl) rfl ⟨rfl, trivial⟩ trivial ?_
    refine G.op1 (op_assign (Ev.c _ rfl) rfl) rfl trivial trivial ?_
    refine G.endOps ?_
    cases hF
    exact G.ret3 Try.results12 (RVar.cellA (ds := [.v (.string ByteArray.empty), .v (.string ByteArray.empty), .v (.bool false), .v (.int .i64 0), .v (.int .i64 0), .sl 3 (List.map encApi_Dep ([] : (List Api_Dep)))]) Try.underlying32 rfl ti32 rfl) (RVar.tmp 7 _) (RVar.tmp 8 _) ⟨rfl, rfl, rfl, trivial⟩ ⟨rfl, trivial⟩
  refine G.block ?_
  refine G.keep (sl' := [(0, .one (.g (.d (.sl 6 (List.map encApi_Version l_0))))), (1, .one (.g (.d (.sl 3 (List.map encApi_Dep have_1))))), (2, .one (.g (.d (.sl 2 (List.map encApi_Range own_2))))), (6, .one (.ptr 1006 0)), (11, .one (.g (.d (.sl 6 (List.map encApi_Version l_0))))), (12, .one (bI .i64 (l_0.length : Int))), (13, .one (bI .i64 0))]) (hp' := [(1006, some (.blk 32 [bS ByteArray.empty, bS ByteArray.empty, bB false, bI .i64 0, bI .i64 0, .g (.d (.sl 3 (List.map encApi_Dep ([] : (List Api_Dep)))))]))]) ⟨rfl, rfl, rfl, rfl, rfl, rfl, rfl, trivial⟩ ⟨rfl, trivial⟩ rfl ?_
  refine G.loopF (fun (v3 : Int) => ⟨[(0, .one (.g (.d (.sl 6 (List.map encApi_Version l_0))))), (1, .one (.g (.d (.sl 3 (List.map encApi_Dep have_1))))), (2, .one (.g (.d (.sl 2 (List.map encApi_Range own_2))))), (6, .one (.ptr 1006 0)), (11, .one (.g (.d (.sl 6 (List.map encApi_Version l_0))))), (12, .one (bI .i64 (l_0.length : Int))), (13, .one (bI .i64 v3))], [(1006, some (.blk 32 [bS ByteArray.empty, bS ByteArray.empty, bB false, bI .i64 0, bI .i64 0, .g (.d (.sl 3 (List.map encApi_Dep ([] : (List Api_Dep)))))]))]⟩) hF rfl (fun K6 again5 v3 J4 hF => ?_)
  unfold queue_Next_l2 at hF
  refine G.seq ?_
  refine G.region ?_
  refine G.op1 (op_lss (Ev.t 13 (bI .i64 v3)) (Ev.t 12 (bI .i64 (l_0.length : Int))) rfl) rfl ⟨rfl, rfl, trivial⟩ trivial ?_
  refine G.endOps ?_
  refine G.seq ?_
  refine ifS hF (fun hc7 hF => ?_) (fun hc7 hF => ?_)
  · refine G.cond rfl (fun _ => ?_) (fun hx => by rw [hc7] at hx; cases hx)
    refine G.skip ?_
    refine G.seq ?_
    refine G.block ?_
    refine G.seq ?_
    refine G.region ?_
    refine G.op1 (op_move (Ev.t 13 (bI .i64 v3)) rfl) rfl ⟨rfl, trivial⟩ trivial ?_
    obtain ⟨x8, hx8, hF⟩ := bindS hF
    refine G.op1 (op_index (cs := [.v (.string x8.Key), .v (.string x8.Value), .v (.bool x8.Gone), .v (.int .i64 x8.Stamp.N), .v (.int .i64 x8.Stamp.Site), .sl 3 (List.map encApi_Dep x8.Past)]) Try.underlying24 ti32 (idx_ok hx8).1 (idx_get hx8 encApi_Version) (Ev.t 11 (.g (.d (.sl 6 (List.map encApi_Version l_0))))) (Ev.t 13 (bI .i64 v3)) rfl) rfl ⟨rfl, rfl, trivial⟩ trivial ?_
    refine G.op1 (op_loadAE (ds := [.v (.string x8.Key), .v (.string x8.Value), .v (.bool x8.Gone), .v (.int .i64 x8.Stamp.N), .v (.int .i64 x8.Stamp.Site), .sl 3 (List.map encApi_Dep x8.Past)]) Try.underlying32 rfl ti32 rfl (Ev.t 16 (.ep [.v (.string x8.Key), .v (.string x8.Value), .v (.bool x8.Gone), .v (.int .i64 x8.Stamp.N), .v (.int .i64 x8.Stamp.Site), .sl 3 (List.map encApi_Dep x8.Past)])) rfl) rfl ⟨rfl, trivial⟩ trivial ?_
    refine G.op2 (op_alloc (k := 1010) (cs := [bS ByteArray.empty, bS ByteArray.empty, bB false, bI .i64 0, bI .i64 0, .g (.d (.sl 3 (List.map encApi_Dep ([] : (List Api_Dep)))))]) ti32 ⟨.v _ rfl, .v _ rfl, .v _ rfl, .v _ rfl, .v _ rfl, .n 3, trivial⟩ rfl) rfl trivial ⟨rfl, trivial⟩ ?_
    refine G.op1 (op_assign (Ev.t 15 (bI .i64 v3)) rfl) rfl ⟨rfl, trivial⟩ trivial ?_
    refine G.op3 (op_storeA (cs' := [bS x8.Key, bS x8.Value, bB x8.Gone, bI .i64 x8.Stamp.N, bI .i64 x8.Stamp.Site, .g (.d (.sl 3 (List.map encApi_Dep x8.Past)))]) ti32 rfl rfl (Ev.t 10 (.ptr 1010 0)) (Ev.t 17 (.g (.agg [.v (.string x8.Key), .v (.string x8.Value), .v (.bool x8.Gone), .v (.int .i64 x8.Stamp.N), .v (.int .i64 x8.Stamp.Site), .sl 3 (List.map encApi_Dep x8.Past)])))) rfl ⟨rfl, rfl, trivial⟩ ⟨rfl, trivial⟩ ?_
    refine G.endOps ?_
    refine G.seq ?_
    refine G.seq ?_
    refine G.region ?_
    refine G.op1 (op_loadAP (ds := [.v (.string x8.Key), .v (.string x8.Value), .v (.bool x8.Gone), .v (.int .i64 x8.Stamp.N), .v (.int .i64 x8.Stamp.Site), .sl 3 (List.map encApi_Dep x8.Past)]) Try.underlying32 rfl ti32 rfl (Ev.t 10 (.ptr 1010 0)) rfl) rfl ⟨rfl, trivial⟩ ⟨rfl, trivial⟩ ?_
    refine G.op1 (op_move (Ev.t 1 (.g (.d (.sl 3 (List.map encApi_Dep have_1))))) rfl) rfl ⟨rfl, trivial⟩ trivial ?_
    refine G.op1 (op_move (Ev.t 2 (.g (.d (.sl 2 (List.map encApi_Range own_2))))) rfl) rfl ⟨rfl, trivial⟩ trivial ?_
    obtain ⟨r9, hr9, hF⟩ := bindS hF
    refine G.op1 (op_callQ (sv := .one (bB r9)) cf20 (ct_queue_Check x8 have_1 own_2 r9 hr9) rfl rfl (EvQL.cons (EvQ.g (Ev.t 18 (.g (.agg [.v (.string x8.Key), .v (.string x8.Value), .v (.bool x8.Gone), .v (.int .i64 x8.Stamp.N), .v (.int .i64 x8.Stamp.Site), .sl 3 (List.map encApi_Dep x8.Past)])))) (EvQL.cons (EvQ.g (Ev.t 19 (.g (.d (.sl 3 (List.map encApi_Dep have_1)))))) (EvQL.cons (EvQ.g (Ev.t 20 (.g (.d (.sl 2 (List.map encApi_Range own_2)))))) EvQL.nil))) rfl) rfl ⟨rfl, rfl, rfl, trivial⟩ trivial ?_
    refine G.op1 (op_not (Ev.t 21 (bB r9)) rfl) rfl ⟨rfl, trivial⟩ trivial ?_
    refine G.endOps ?_
    refine ifS hF (fun hc10 hF => ?_) (fun hc10 hF => ?_)
    · refine G.cond rfl (fun _ => ?_) (fun hx => by rw [hc10] at hx; cases hx)
      refine G.exit ?_
      refine GX.c ?_
      refine GX.bYes ?_
      refine G.region ?_
      refine G.op1 (op_add (Ev.t 13 (bI .i64 v3)) (Ev.c _ rfl) rfl) rfl ⟨rfl, trivial⟩ trivial ?_
      refine G.op1 (op_move (Ev.t 33 (bI .i64 (IntKind.wrap .i64 (v3 + 1)))) rfl) rfl ⟨rfl, trivial⟩ trivial ?_
      refine G.endOps ?_
      exact G.arr (J4 (IntKind.wrap .i64 (v3 + 1)) hF) ⟨rfl, rfl, rfl, rfl, rfl, rfl, rfl, trivial⟩ ⟨rfl, trivial⟩ rfl
    · refine G.cond rfl (fun hx => by rw [hc10] at hx; cases hx) (fun _ => ?_)
      refine G.skip ?_
      refine G.seq ?_
      obtain ⟨l11, hl11, hF⟩ := bindS hF
      obtain ⟨l12, hl12, hF⟩ := bindS hF
      obtain ⟨l13, hl13, hF⟩ := bindS hF
      refine G.drawn (effs := [⟨[(10, .one (.ptr 1010 0))], [(1010, some (.blk 32 [bS x8.Key, bS x8.Value, bB x8.Gone, bI .i64 x8.Stamp.N, bI .i64 x8.Stamp.Site, .g (.d (.sl 3 (List.map encApi_Dep x8.Past)))]))], [(23, .one (.g (.agg [.v (.string x8.Key), .v (.string x8.Value), .v (.bool x8.Gone), .v (.int .i64 x8.Stamp.N), .v (.int .i64 x8.Stamp.Site), .sl 3 (List.map encApi_Dep x8.Past)])))], []⟩, ⟨[(0, .one (.g (.d (.sl 6 (List.map encApi_Version l_0)))))], [], [(24, .one (.g (.d (.sl 6 (List.map encApi_Version l_0)))))], []⟩, ⟨[(9, .one (bI .i64 v3))], [], [(25, .one (bI .i64 v3))], []⟩, ⟨[(9, .one (bI .i64 v3))], [], [(26, .one (bI .i64 v3))], []⟩, ⟨[(24, .one (.g (.d (.sl 6 (List.map encApi_Version l_0))))), (25, .one (bI .i64 v3)), (26, .one (bI .i64 v3))], [], [(27, .one (.cp 6 (List.map encApi_Version l11)))], []⟩, ⟨[(0, .one (.g (.d (.sl 6 (List.map encApi_Version l_0)))))], [], [(28, .one (.g (.d (.sl 6 (List.map encApi_Version l_0)))))], []⟩, ⟨[(9, .one (bI .i64 v3))], [], [(29, .one (bI .i64 v3))], []⟩, ⟨[(29, .one (bI .i64 v3))], [], [(30, .one (bI .i64 (IntKind.wrap .i64 (v3 + 1))))], []⟩, ⟨[(28, .one (.g (.d (.sl 6 (List.map encApi_Version l_0))))), (30, .one (bI .i64 (IntKind.wrap .i64 (v3 + 1))))], [], [(31, .one (.g (.d (.sl 6 (List.map encApi_Version l12)))))], []⟩, ⟨[(27, .one (.cp 6 (List.map encApi_Version l11))), (31, .one (.g (.d (.sl 6 (List.map encApi_Version l12)))))], [], [(32, .one (.g (.d (.sl 6 (List.map encApi_Version l13)))))], []⟩, ⟨[(6, .one (.ptr 1006 0)), (23, .one (.g (.agg [.v (.string x8.Key), .v (.string x8.Value), .v (.bool x8.Gone), .v (.int .i64 x8.Stamp.N), .v (.int .i64 x8.Stamp.Site), .sl 3 (List.map encApi_Dep x8.Past)])))], [(1006, some (.blk 32 [bS ByteArray.empty, bS ByteArray.empty, bB false, bI .i64 0, bI .i64 0, .g (.d (.sl 3 (List.map encApi_Dep ([] : (List Api_Dep)))))]))], [], [(1006, some (.blk 32 [bS x8.Key, bS x8.Value, bB x8.Gone, bI .i64 x8.Stamp.N, bI .i64 x8.Stamp.Site, .g (.d (.sl 3 (List.map encApi_Dep x8.Past)))]))]⟩, ⟨[(32, .one (.g (.d (.sl 6 (List.map encApi_Version l13)))))], [], [(7, .one (.g (.d (.sl 6 (List.map encApi_Version l13)))))], []⟩, ⟨[], [], [(8, .one (bB true))], []⟩]) (deps := [[], [], [], [], [1, 2, 3], [], [], [6], [5, 6, 7], [1, 2, 3, 4, 5, 6, 7, 8], [0, 1, 2, 3, 4, 5, 6, 7, 8, 9], [0, 1, 2, 3, 4, 5, 6, 7, 8, 9, 10], [0, 1, 2, 3, 4, 5, 6, 7, 8, 9, 10, 11]]) (sl' := [(6, .one (.ptr 1006 0)), (7, .one (.g (.d (.sl 6 (List.map encApi_Version l13))))), (8, .one (bB true))]) (hp' := [(1006, some (.blk 32 [bS x8.Key, bS x8.Value, bB x8.Gone, bI .i64 x8.Stamp.N, bI .i64 x8.Stamp.Site, .g (.d (.sl 3 (List.map encApi_Dep x8.Past)))]))]) follows rfl rfl rfl ⟨⟨rfl, trivial⟩, ⟨⟨rfl, rfl⟩, trivial⟩, ⟨rfl, trivial⟩, trivial, ⟨rfl, trivial⟩, trivial, ⟨rfl, trivial⟩, trivial, ⟨rfl, rfl, rfl, trivial⟩, trivial, ⟨rfl, trivial⟩, trivial, ⟨rfl, trivial⟩, trivial, ⟨rfl, trivial⟩, trivial, ⟨rfl, rfl, trivial⟩, trivial, ⟨rfl, rfl, trivial⟩, trivial, ⟨rfl, rfl, trivial⟩, ⟨⟨rfl, rfl⟩, trivial⟩, ⟨rfl, trivial⟩, trivial, trivial, trivial, trivial⟩ ⟨OpW.plain (op_loadAP (ds := [.v (.string x8.Key), .v (.string x8.Value), .v (.bool x8.Gone), .v (.int .i64 x8.Stamp.N), .v (.int .i64 x8.Stamp.Site), .sl 3 (List.map encApi_Dep x8.Past)]) Try.underlying32 rfl ti32 rfl (Ev.t 10 (.ptr 1010 0)) rfl) rfl rfl, OpW.plain (op_move (Ev.t 0 (.g (.d (.sl 6 (List.map encApi_Version l_0))))) rfl) rfl rfl, OpW.plain (op_move (Ev.t 9 (bI .i64 v3)) rfl) rfl rfl, OpW.plain (op_move (Ev.t 9 (bI .i64 v3)) rfl) rfl rfl, OpW.plain (op_slice3 Try.underlying24 ti32 (sub_ok0 hl11 encApi_Version).1 (sub_ok0 hl11 encApi_Version).2.1 (sub_ok0 hl11 encApi_Version).2.2 (Ev.t 24 (.g (.d (.sl 6 (List.map encApi_Version l_0))))) (Ev.t 25 (bI .i64 v3)) (Ev.t 26 (bI .i64 v3)) rfl) rfl rfl, OpW.plain (op_move (Ev.t 0 (.g (.d (.sl 6 (List.map encApi_Version l_0))))) rfl) rfl rfl, OpW.plain (op_move (Ev.t 9 (bI .i64 v3)) rfl) rfl rfl, OpW.plain (op_add (Ev.t 29 (bI .i64 v3)) (Ev.c _ rfl) rfl) rfl rfl, OpW.plain (op_sliceD (lo := some (IntKind.wrap .i64 (v3 + 1))) (hi := none) Try.underlying24 ti32 (sub_okE hl12 encApi_Version).1 (sub_okE hl12 encApi_Version).2.1 (Int.le_refl _) (sub_okE hl12 encApi_Version).2.2 (Ev.t 28 (.g (.d (.sl 6 (List.map encApi_Version l_0))))) (EvO.some (Ev.t 30 (bI .i64 (IntKind.wrap .i64 (v3 + 1))))) EvO.none rfl) rfl rfl, OpW.plain (op_appendC Try.underlying24 ti32 rfl rfl (app_map hl13 encApi_Version) (app_b1 hl13 encApi_Version) (app_b2 hl13 encApi_Version) (Ev.t 27 (.cp 6 (List.map encApi_Version l11))) (Ev.t 31 (.g (.d (.sl 6 (List.map encApi_Version l12))))) rfl) rfl rfl, OpW.plain (op_storeA (cs' := [bS x8.Key, bS x8.Value, bB x8.Gone, bI .i64 x8.Stamp.N, bI .i64 x8.Stamp.Site, .g (.d (.sl 3 (List.map encApi_Dep x8.Past)))]) ti32 rfl rfl (Ev.t 6 (.ptr 1006 0)) (Ev.t 23 (.g (.agg [.v (.string x8.Key), .v (.string x8.Value), .v (.bool x8.Gone), .v (.int .i64 x8.Stamp.N), .v (.int .i64 x8.Stamp.Site), .sl 3 (List.map encApi_Dep x8.Past)])))) rfl rfl, OpW.plain (op_assign (Ev.t 32 (.g (.d (.sl 6 (List.map encApi_Version l13))))) rfl) rfl rfl, OpW.plain (op_assign (Ev.c _ rfl) rfl) rfl rfl, trivial⟩ ⟨rfl, rfl, rfl, trivial⟩ ⟨rfl, trivial⟩ rfl ?_
      cases hF
      exact G.ret3 Try.results12 (RVar.cellA (ds := [.v (.string x8.Key), .v (.string x8.Value), .v (.bool x8.Gone), .v (.int .i64 x8.Stamp.N), .v (.int .i64 x8.Stamp.Site), .sl 3 (List.map encApi_Dep x8.Past)]) Try.underlying32 rfl ti32 rfl) (RVar.tmp 7 _) (RVar.tmp 8 _) ⟨rfl, rfl, rfl, trivial⟩ ⟨rfl, trivial⟩
  · refine G.cond rfl (fun hx => by rw [hc7] at hx; cases hx) (fun _ => ?_)
    refine G.exit ?_
    refine GX.c ?_
    refine GX.q ?_
    refine GX.bYes ?_
    exact G.arr (J2 () hF) ⟨rfl, rfl, trivial⟩ ⟨rfl, trivial⟩ rfl


set_option maxRecDepth 20000 in
set_option maxHeartbeats 2000000 in
theorem ct_law14_awake (r : Bool) (hF : law14_awake = some r) : Ct Try.prog 9 [] (.one (.d (.v (.bool r)))) := by
  unfold law14_awake at hF
  refine Ct.intro Try.func9 rfl Try.ntmps9 rfl rfl fun M w => ?_
  refine G.seq ?_
  refine G.region ?_
  refine G.op1 (op_assign (Ev.c _ rfl) rfl) rfl trivial trivial ?_
  refine G.endOps ?_
  refine G.seq ?_
  refine G.region ?_
  obtain ⟨r1, hr1, hF⟩ := bindS hF
  refine G.op1 (op_call (sv := .one (.g (.agg [.v (.string r1.Key), .v (.string r1.Value), .v (.bool r1.Gone), .v (.int .i64 r1.Stamp.N), .v (.int .i64 r1.Stamp.Site), .sl 3 (List.map encApi_Dep r1.Past)]))) cf25 (ct_law14_ver (ByteArray.mk #[97]) 1 ([] : (List Api_Dep)) r1 hr1) rfl (EvL.cons (Ev.c _ rfl) (EvL.cons (Ev.c _ rfl) (EvL.cons (Ev.n 3) EvL.nil))) rfl) rfl trivial trivial ?_
  refine G.op2 (op_alloc (k := 1001) (cs := [bS ByteArray.empty, bS ByteArray.empty, bB false, bI .i64 0, bI .i64 0, .g (.d (.sl 3 (List.map encApi_Dep ([] : (List Api_Dep)))))]) ti32 ⟨.v _ rfl, .v _ rfl, .v _ rfl, .v _ rfl, .v _ rfl, .n 3, trivial⟩ rfl) rfl trivial ⟨rfl, trivial⟩ ?_
  refine G.op3 (op_storeA (cs' := [bS r1.Key, bS r1.Value, bB r1.Gone, bI .i64 r1.Stamp.N, bI .i64 r1.Stamp.Site, .g (.d (.sl 3 (List.map encApi_Dep r1.Past)))]) ti32 rfl rfl (Ev.t 1 (.ptr 1001 0)) (Ev.t 10 (.g (.agg [.v (.string r1.Key), .v (.string r1.Value), .v (.bool r1.Gone), .v (.int .i64 r1.Stamp.N), .v (.int .i64 r1.Stamp.Site), .sl 3 (List.map encApi_Dep r1.Past)])))) rfl ⟨rfl, rfl, trivial⟩ ⟨rfl, trivial⟩ ?_
  refine G.endOps ?_
  refine G.seq ?_
  refine G.region ?_
  refine G.op1 (op_fieldP (off' := 3) Try.underlying32 rfl ti29 (by decide) rfl (Ev.t 1 (.ptr 1001 0)) rfl) rfl ⟨rfl, trivial⟩ trivial ?_
  refine G.op1 (op_loadAP (ds := [.v (.int .i64 r1.Stamp.N), .v (.int .i64 r1.Stamp.Site)]) Try.underlying29 rfl ti29 rfl (Ev.t 11 (.ptr 1001 3)) rfl) rfl ⟨rfl, trivial⟩ ⟨rfl, trivial⟩ ?_
  refine G.op1 (op_build (zs := [.v (.string ByteArray.empty), .v (.int .i64 0), .v (.int .i64 0)]) (ds := [.v (.string (ByteArray.mk #[97])), .v (.int .i64 r1.Stamp.N), .v (.int .i64 r1.Stamp.Site)]) Try.underlying39 ti39 (pl39 _ Try.underlying39) ⟨.v _ rfl, .v _ rfl, .v _ rfl, trivial⟩ (EvP.cons (Ev.c _ rfl) (EvP.cons (Ev.t 12 (.g (.agg [.v (.int .i64 r1.Stamp.N), .v (.int .i64 r1.Stamp.Site)]))) EvP.nil)) rfl rfl) rfl ⟨rfl, trivial⟩ trivial ?_
  refine G.op1 (op_buildSlice (es := List.map encApi_Dep [(Api_Dep.mk (ByteArray.mk #[97]) r1.Stamp)]) Try.underlying30 ti39 rfl rfl (EvP.cons (Ev.t 13 (.g (.agg [.v (.string (ByteArray.mk #[97])), .v (.int .i64 r1.Stamp.N), .v (.int .i64 r1.Stamp.Site)]))) EvP.nil) rfl rfl (by simp [encApi_Dep]) rfl) rfl ⟨rfl, trivial⟩ trivial ?_
  obtain ⟨r2, hr2, hF⟩ := bindS hF
  refine G.op1 (op_call (sv := .one (.g (.agg [.v (.string r2.Key), .v (.string r2.Value), .v (.bool r2.Gone), .v (.int .i64 r2.Stamp.N), .v (.int .i64 r2.Stamp.Site), .sl 3 (List.map encApi_Dep r2.Past)]))) cf25 (ct_law14_ver (ByteArray.mk #[98]) 2 ([(Api_Dep.mk (ByteArray.mk #[97]) r1.Stamp)]) r2 hr2) rfl (EvL.cons (Ev.c _ rfl) (EvL.cons (Ev.c _ rfl) (EvL.cons (Ev.t 14 (.g (.d (.sl 3 (List.map encApi_Dep ([(Api_Dep.mk (ByteArray.mk #[97]) r1.Stamp)])))))) EvL.nil))) rfl) rfl ⟨rfl, trivial⟩ trivial ?_
  refine G.op2 (op_alloc (k := 1002) (cs := [bS ByteArray.empty, bS ByteArray.empty, bB false, bI .i64 0, bI .i64 0, .g (.d (.sl 3 (List.map encApi_Dep ([] : (List Api_Dep)))))]) ti32 ⟨.v _ rfl, .v _ rfl, .v _ rfl, .v _ rfl, .v _ rfl, .n 3, trivial⟩ rfl) rfl trivial ⟨rfl, trivial⟩ ?_
  refine G.op3 (op_storeA (cs' := [bS r2.Key, bS r2.Value, bB r2.Gone, bI .i64 r2.Stamp.N, bI .i64 r2.Stamp.Site, .g (.d (.sl 3 (List.map encApi_Dep r2.Past)))]) ti32 rfl rfl (Ev.t 2 (.ptr 1002 0)) (Ev.t 15 (.g (.agg [.v (.string r2.Key), .v (.string r2.Value), .v (.bool r2.Gone), .v (.int .i64 r2.Stamp.N), .v (.int .i64 r2.Stamp.Site), .sl 3 (List.map encApi_Dep r2.Past)])))) rfl ⟨rfl, rfl, trivial⟩ ⟨rfl, trivial⟩ ?_
  refine G.endOps ?_
  refine G.seq ?_
  refine G.region ?_
  refine G.op1 (op_build (zs := [.v (.string ByteArray.empty), .v (.string ByteArray.empty)]) (ds := [.v (.string ByteArray.empty), .v (.string ByteArray.empty)]) Try.underlying51 ti51 (pl51 _ Try.underlying51) ⟨.v _ rfl, .v _ rfl, trivial⟩ EvP.nil rfl rfl) rfl trivial trivial ?_
  refine G.op1 (op_buildSlice (es := List.map encApi_Range [(Api_Range.mk ByteArray.empty ByteArray.empty)]) Try.underlying26 ti51 rfl rfl (EvP.cons (Ev.t 16 (.g (.agg [.v (.string ByteArray.empty), .v (.string ByteArray.empty)]))) EvP.nil) rfl rfl (by simp [encApi_Range]) rfl) rfl ⟨rfl, trivial⟩ trivial ?_
  refine G.op1 (op_assign (Ev.t 17 (.g (.d (.sl 2 (List.map encApi_Range ([(Api_Range.mk ByteArray.empty ByteArray.empty)])))))) rfl) rfl ⟨rfl, trivial⟩ trivial ?_
  refine G.endOps ?_
  refine G.seq ?_
  refine G.region ?_
  refine G.op1 (op_loadAP (ds := [.v (.string r2.Key), .v (.string r2.Value), .v (.bool r2.Gone), .v (.int .i64 r2.Stamp.N), .v (.int .i64 r2.Stamp.Site), .sl 3 (List.map encApi_Dep r2.Past)]) Try.underlying32 rfl ti32 rfl (Ev.t 2 (.ptr 1002 0)) rfl) rfl ⟨rfl, trivial⟩ ⟨rfl, trivial⟩ ?_
  refine G.op1 (op_loadAP (ds := [.v (.string r1.Key), .v (.string r1.Value), .v (.bool r1.Gone), .v (.int .i64 r1.Stamp.N), .v (.int .i64 r1.Stamp.Site), .sl 3 (List.map encApi_Dep r1.Past)]) Try.underlying32 rfl ti32 rfl (Ev.t 1 (.ptr 1001 0)) rfl) rfl ⟨rfl, trivial⟩ ⟨rfl, trivial⟩ ?_
  refine G.op1 (op_buildSlice (es := List.map encApi_Version [r2, r1]) Try.underlying24 ti32 rfl rfl (EvP.cons (Ev.t 19 (.g (.agg [.v (.string r2.Key), .v (.string r2.Value), .v (.bool r2.Gone), .v (.int .i64 r2.Stamp.N), .v (.int .i64 r2.Stamp.Site), .sl 3 (List.map encApi_Dep r2.Past)]))) (EvP.cons (Ev.t 20 (.g (.agg [.v (.string r1.Key), .v (.string r1.Value), .v (.bool r1.Gone), .v (.int .i64 r1.Stamp.N), .v (.int .i64 r1.Stamp.Site), .sl 3 (List.map encApi_Dep r1.Past)]))) EvP.nil)) rfl rfl (by simp [encApi_Version]) rfl) rfl ⟨rfl, rfl, trivial⟩ trivial ?_
  refine G.op1 (op_move (Ev.t 3 (.g (.d (.sl 2 (List.map encApi_Range ([(Api_Range.mk ByteArray.empty ByteArray.empty)])))))) rfl) rfl ⟨rfl, trivial⟩ trivial ?_
  obtain ⟨r3, hr3, hF⟩ := bindS hF
  refine G.op1 (op_call (sv := .tup [.g (.agg [.v (.string r3.1.Key), .v (.string r3.1.Value), .v (.bool r3.1.Gone), .v (.int .i64 r3.1.Stamp.N), .v (.int .i64 r3.1.Stamp.Site), .sl 3 (List.map encApi_Dep r3.1.Past)]), .g (.d (.sl 6 (List.map encApi_Version r3.2.1))), bB r3.2.2]) cf12 (ct_queue_Next ([r2, r1]) ([] : (List Api_Dep)) ([(Api_Range.mk ByteArray.empty ByteArray.empty)]) r3 hr3) rfl (EvL.cons (Ev.t 21 (.g (.d (.sl 6 (List.map encApi_Version ([r2, r1])))))) (EvL.cons (Ev.n 3) (EvL.cons (Ev.t 22 (.g (.d (.sl 2 (List.map encApi_Range ([(Api_Range.mk ByteArray.empty ByteArray.empty)])))))) EvL.nil))) rfl) rfl ⟨rfl, rfl, trivial⟩ trivial ?_
  refine G.op1 (op_moveS (t := 23) (sv := .tup [.g (.agg [.v (.string r3.1.Key), .v (.string r3.1.Value), .v (.bool r3.1.Gone), .v (.int .i64 r3.1.Stamp.N), .v (.int .i64 r3.1.Stamp.Site), .sl 3 (List.map encApi_Dep r3.1.Past)]), .g (.d (.sl 6 (List.map encApi_Version r3.2.1))), bB r3.2.2]) rfl) rfl ⟨rfl, trivial⟩ trivial ?_
  refine G.op1 (op_extract (l := [.g (.agg [.v (.string r3.1.Key), .v (.string r3.1.Value), .v (.bool r3.1.Gone), .v (.int .i64 r3.1.Stamp.N), .v (.int .i64 r3.1.Stamp.Site), .sl 3 (List.map encApi_Dep r3.1.Past)]), .g (.d (.sl 6 (List.map encApi_Version r3.2.1))), bB r3.2.2]) (c := .g (.agg [.v (.string r3.1.Key), .v (.string r3.1.Value), .v (.bool r3.1.Gone), .v (.int .i64 r3.1.Stamp.N), .v (.int .i64 r3.1.Stamp.Site), .sl 3 (List.map encApi_Dep r3.1.Past)])) rfl rfl) rfl ⟨rfl, trivial⟩ trivial ?_
  refine G.op1 (op_extract (l := [.g (.agg [.v (.string r3.1.Key), .v (.string r3.1.Value), .v (.bool r3.1.Gone), .v (.int .i64 r3.1.Stamp.N), .v (.int .i64 r3.1.Stamp.Site), .sl 3 (List.map encApi_Dep r3.1.Past)]), .g (.d (.sl 6 (List.map encApi_Version r3.2.1))), bB r3.2.2]) (c := .g (.d (.sl 6 (List.map encApi_Version r3.2.1)))) rfl rfl) rfl ⟨rfl, trivial⟩ trivial ?_
  refine G.op1 (op_extract (l := [.g (.agg [.v (.string r3.1.Key), .v (.string r3.1.Value), .v (.bool r3.1.Gone), .v (.int .i64 r3.1.Stamp.N), .v (.int .i64 r3.1.Stamp.Site), .sl 3 (List.map encApi_Dep r3.1.Past)]), .g (.d (.sl 6 (List.map encApi_Version r3.2.1))), bB r3.2.2]) (c := bB r3.2.2) rfl rfl) rfl ⟨rfl, trivial⟩ trivial ?_
  refine G.op2 (op_alloc (k := 1004) (cs := [bS ByteArray.empty, bS ByteArray.empty, bB false, bI .i64 0, bI .i64 0, .g (.d (.sl 3 (List.map encApi_Dep ([] : (List Api_Dep)))))]) ti32 ⟨.v _ rfl, .v _ rfl, .v _ rfl, .v _ rfl, .v _ rfl, .n 3, trivial⟩ rfl) rfl trivial ⟨rfl, trivial⟩ ?_
  refine G.op3 (op_storeA (cs' := [bS r3.1.Key, bS r3.1.Value, bB r3.1.Gone, bI .i64 r3.1.Stamp.N, bI .i64 r3.1.Stamp.Site, .g (.d (.sl 3 (List.map encApi_Dep r3.1.Past)))]) ti32 rfl rfl (Ev.t 4 (.ptr 1004 0)) (Ev.t 24 (.g (.agg [.v (.string r3.1.Key), .v (.string r3.1.Value), .v (.bool r3.1.Gone), .v (.int .i64 r3.1.Stamp.N), .v (.int .i64 r3.1.Stamp.Site), .sl 3 (List.map encApi_Dep r3.1.Past)])))) rfl ⟨rfl, rfl, trivial⟩ ⟨rfl, trivial⟩ ?_
  refine G.op1 (op_assign (Ev.t 25 (.g (.d (.sl 6 (List.map encApi_Version r3.2.1))))) rfl) rfl ⟨rfl, trivial⟩ trivial ?_
  refine G.op1 (op_assign (Ev.t 26 (bB r3.2.2)) rfl) rfl ⟨rfl, trivial⟩ trivial ?_
  refine G.endOps ?_
  refine G.seq ?_
  refine G.region ?_
  refine G.op1 (op_move (Ev.t 5 (.g (.d (.sl 6 (List.map encApi_Version r3.2.1))))) rfl) rfl ⟨rfl, trivial⟩ trivial ?_
  refine G.op1 (op_fieldP (off' := 3) Try.underlying32 rfl ti29 (by decide) rfl (Ev.t 1 (.ptr 1001 0)) rfl) rfl ⟨rfl, trivial⟩ trivial ?_
  refine G.op1 (op_loadAP (ds := [.v (.int .i64 r1.Stamp.N), .v (.int .i64 r1.Stamp.Site)]) Try.underlying29 rfl ti29 rfl (Ev.t 29 (.ptr 1001 3)) rfl) rfl ⟨rfl, trivial⟩ ⟨rfl, trivial⟩ ?_
  refine G.op1 (op_build (zs := [.v (.string ByteArray.empty), .v (.int .i64 0), .v (.int .i64 0)]) (ds := [.v (.string (ByteArray.mk #[97])), .v (.int .i64 r1.Stamp.N), .v (.int .i64 r1.Stamp.Site)]) Try.underlying39 ti39 (pl39 _ Try.underlying39) ⟨.v _ rfl, .v _ rfl, .v _ rfl, trivial⟩ (EvP.cons (Ev.c _ rfl) (EvP.cons (Ev.t 30 (.g (.agg [.v (.int .i64 r1.Stamp.N), .v (.int .i64 r1.Stamp.Site)]))) EvP.nil)) rfl rfl) rfl ⟨rfl, trivial⟩ trivial ?_
  refine G.op1 (op_buildSlice (es := List.map encApi_Dep [(Api_Dep.mk (ByteArray.mk #[97]) r1.Stamp)]) Try.underlying30 ti39 rfl rfl (EvP.cons (Ev.t 31 (.g (.agg [.v (.string (ByteArray.mk #[97])), .v (.int .i64 r1.Stamp.N), .v (.int .i64 r1.Stamp.Site)]))) EvP.nil) rfl rfl (by simp [encApi_Dep]) rfl) rfl ⟨rfl, trivial⟩ trivial ?_
  refine G.op1 (op_move (Ev.t 3 (.g (.d (.sl 2 (List.map encApi_Range ([(Api_Range.mk ByteArray.empty ByteArray.empty)])))))) rfl) rfl ⟨rfl, trivial⟩ trivial ?_
  obtain ⟨r4, hr4, hF⟩ := bindS hF
  refine G.op1 (op_call (sv := .tup [.g (.agg [.v (.string r4.1.Key), .v (.string r4.1.Value), .v (.bool r4.1.Gone), .v (.int .i64 r4.1.Stamp.N), .v (.int .i64 r4.1.Stamp.Site), .sl 3 (List.map encApi_Dep r4.1.Past)]), .g (.d (.sl 6 (List.map encApi_Version r4.2.1))), bB r4.2.2]) cf12 (ct_queue_Next r3.2.1 ([(Api_Dep.mk (ByteArray.mk #[97]) r1.Stamp)]) ([(Api_Range.mk ByteArray.empty ByteArray.empty)]) r4 hr4) rfl (EvL.cons (Ev.t 28 (.g (.d (.sl 6 (List.map encApi_Version r3.2.1))))) (EvL.cons (Ev.t 32 (.g (.d (.sl 3 (List.map encApi_Dep ([(Api_Dep.mk (ByteArray.mk #[97]) r1.Stamp)])))))) (EvL.cons (Ev.t 33 (.g (.d (.sl 2 (List.map encApi_Range ([(Api_Range.mk ByteArray.empty ByteArray.empty)])))))) EvL.nil))) rfl) rfl ⟨rfl, rfl, rfl, trivial⟩ trivial ?_
  refine G.op1 (op_moveS (t := 34) (sv := .tup [.g (.agg [.v (.string r4.1.Key), .v (.string r4.1.Value), .v (.bool r4.1.Gone), .v (.int .i64 r4.1.Stamp.N), .v (.int .i64 r4.1.Stamp.Site), .sl 3 (List.map encApi_Dep r4.1.Past)]), .g (.d (.sl 6 (List.map encApi_Version r4.2.1))), bB r4.2.2]) rfl) rfl ⟨rfl, trivial⟩ trivial ?_
  refine G.op1 (op_extract (l := [.g (.agg [.v (.string r4.1.Key), .v (.string r4.1.Value), .v (.bool r4.1.Gone), .v (.int .i64 r4.1.Stamp.N), .v (.int .i64 r4.1.Stamp.Site), .sl 3 (List.map encApi_Dep r4.1.Past)]), .g (.d (.sl 6 (List.map encApi_Version r4.2.1))), bB r4.2.2]) (c := .g (.agg [.v (.string r4.1.Key), .v (.string r4.1.Value), .v (.bool r4.1.Gone), .v (.int .i64 r4.1.Stamp.N), .v (.int .i64 r4.1.Stamp.Site), .sl 3 (List.map encApi_Dep r4.1.Past)])) rfl rfl) rfl ⟨rfl, trivial⟩ trivial ?_
  refine G.op1 (op_extract (l := [.g (.agg [.v (.string r4.1.Key), .v (.string r4.1.Value), .v (.bool r4.1.Gone), .v (.int .i64 r4.1.Stamp.N), .v (.int .i64 r4.1.Stamp.Site), .sl 3 (List.map encApi_Dep r4.1.Past)]), .g (.d (.sl 6 (List.map encApi_Version r4.2.1))), bB r4.2.2]) (c := .g (.d (.sl 6 (List.map encApi_Version r4.2.1)))) rfl rfl) rfl ⟨rfl, trivial⟩ trivial ?_
  refine G.op1 (op_extract (l := [.g (.agg [.v (.string r4.1.Key), .v (.string r4.1.Value), .v (.bool r4.1.Gone), .v (.int .i64 r4.1.Stamp.N), .v (.int .i64 r4.1.Stamp.Site), .sl 3 (List.map encApi_Dep r4.1.Past)]), .g (.d (.sl 6 (List.map encApi_Version r4.2.1))), bB r4.2.2]) (c := bB r4.2.2) rfl rfl) rfl ⟨rfl, trivial⟩ trivial ?_
  refine G.op2 (op_alloc (k := 1007) (cs := [bS ByteArray.empty, bS ByteArray.empty, bB false, bI .i64 0, bI .i64 0, .g (.d (.sl 3 (List.map encApi_Dep ([] : (List Api_Dep)))))]) ti32 ⟨.v _ rfl, .v _ rfl, .v _ rfl, .v _ rfl, .v _ rfl, .n 3, trivial⟩ rfl) rfl trivial ⟨rfl, trivial⟩ ?_
  refine G.op3 (op_storeA (cs' := [bS r4.1.Key, bS r4.1.Value, bB r4.1.Gone, bI .i64 r4.1.Stamp.N, bI .i64 r4.1.Stamp.Site, .g (.d (.sl 3 (List.map encApi_Dep r4.1.Past)))]) ti32 rfl rfl (Ev.t 7 (.ptr 1007 0)) (Ev.t 35 (.g (.agg [.v (.string r4.1.Key), .v (.string r4.1.Value), .v (.bool r4.1.Gone), .v (.int .i64 r4.1.Stamp.N), .v (.int .i64 r4.1.Stamp.Site), .sl 3 (List.map encApi_Dep r4.1.Past)])))) rfl ⟨rfl, rfl, trivial⟩ ⟨rfl, trivial⟩ ?_
  refine G.op1 (op_assign (Ev.t 36 (.g (.d (.sl 6 (List.map encApi_Version r4.2.1))))) rfl) rfl ⟨rfl, trivial⟩ trivial ?_
  refine G.op1 (op_assign (Ev.t 37 (bB r4.2.2)) rfl) rfl ⟨rfl, trivial⟩ trivial ?_
  refine G.endOps ?_
  refine G.seq ?_
  refine G.region ?_
  refine G.op1 (op_move (Ev.t 6 (bB r3.2.2)) rfl) rfl ⟨rfl, trivial⟩ trivial ?_
  refine G.op1 (op_move (Ev.t 38 (bB r3.2.2)) rfl) rfl ⟨rfl, trivial⟩ trivial ?_
  refine G.joinL (T := Bool) 2 (fun y5 => ⟨[(2, .one (.ptr 1002 0)), (3, .one (.g (.d (.sl 2 (List.map encApi_Range ([(Api_Range.mk ByteArray.empty ByteArray.empty)])))))), (4, .one (.ptr 1004 0)), (7, .one (.ptr 1007 0)), (8, .one (.g (.d (.sl 6 (List.map encApi_Version r4.2.1))))), (41, .one (bB y5))], [(1002, some (.blk 32 [bS r2.Key, bS r2.Value, bB r2.Gone, bI .i64 r2.Stamp.N, bI .i64 r2.Stamp.Site, .g (.d (.sl 3 (List.map encApi_Dep r2.Past)))])), (1004, some (.blk 32 [bS r3.1.Key, bS r3.1.Value, bB r3.1.Gone, bI .i64 r3.1.Stamp.N, bI .i64 r3.1.Stamp.Site, .g (.d (.sl 3 (List.map encApi_Dep r3.1.Past)))])), (1007, some (.blk 32 [bS r4.1.Key, bS r4.1.Value, bB r4.1.Gone, bI .i64 r4.1.Stamp.N, bI .i64 r4.1.Stamp.Site, .g (.d (.sl 3 (List.map encApi_Dep r4.1.Past)))]))]⟩) (fun y5 => law14_awake_k1 r2 r3 r4 y5 = some r) (fun y5 hF => ?_) (fun J17 => ?_)
  · unfold law14_awake_k1 at hF
    refine G.op1 (op_move (Ev.t 41 (bB y5)) rfl) rfl ⟨rfl, trivial⟩ trivial ?_
    refine G.joinL (T := Bool) 4 (fun y6 => ⟨[(2, .one (.ptr 1002 0)), (3, .one (.g (.d (.sl 2 (List.map encApi_Range ([(Api_Range.mk ByteArray.empty ByteArray.empty)])))))), (7, .one (.ptr 1007 0)), (8, .one (.g (.d (.sl 6 (List.map encApi_Version r4.2.1))))), (46, .one (bB y6))], [(1002, some (.blk 32 [bS r2.Key, bS r2.Value, bB r2.Gone, bI .i64 r2.Stamp.N, bI .i64 r2.Stamp.Site, .g (.d (.sl 3 (List.map encApi_Dep r2.Past)))])), (1007, some (.blk 32 [bS r4.1.Key, bS r4.1.Value, bB r4.1.Gone, bI .i64 r4.1.Stamp.N, bI .i64 r4.1.Stamp.Site, .g (.d (.sl 3 (List.map encApi_Dep r4.1.Past)))]))]⟩) (fun y6 => law14_awake_k2 r2 r4 y6 = some r) (fun y6 hF => ?_) (fun J15 => ?_)
    · unfold law14_awake_k2 at hF
      refine G.op1 (op_move (Ev.t 46 (bB y6)) rfl) rfl ⟨rfl, trivial⟩ trivial ?_
      refine G.joinL (T := Bool) 4 (fun y7 => ⟨[(2, .one (.ptr 1002 0)), (3, .one (.g (.d (.sl 2 (List.map encApi_Range ([(Api_Range.mk ByteArray.empty ByteArray.empty)])))))), (8, .one (.g (.d (.sl 6 (List.map encApi_Version r4.2.1))))), (51, .one (bB y7))], [(1002, some (.blk 32 [bS r2.Key, bS r2.Value, bB r2.Gone, bI .i64 r2.Stamp.N, bI .i64 r2.Stamp.Site, .g (.d (.sl 3 (List.map encApi_Dep r2.Past)))]))]⟩) (fun y7 => law14_awake_k3 r2 r4 y7 = some r) (fun y7 hF => ?_) (fun J13 => ?_)
      · unfold law14_awake_k3 at hF
        refine G.op1 (op_move (Ev.t 51 (bB y7)) rfl) rfl ⟨rfl, trivial⟩ trivial ?_
        refine G.joinL (T := Bool) 4 (fun y8 => ⟨[(2, .one (.ptr 1002 0)), (3, .one (.g (.d (.sl 2 (List.map encApi_Range ([(Api_Range.mk ByteArray.empty ByteArray.empty)])))))), (56, .one (bB y8))], [(1002, some (.blk 32 [bS r2.Key, bS r2.Value, bB r2.Gone, bI .i64 r2.Stamp.N, bI .i64 r2.Stamp.Site, .g (.d (.sl 3 (List.map encApi_Dep r2.Past)))]))]⟩) (fun y8 => law14_awake_k4 r2 y8 = some r) (fun y8 hF => ?_) (fun J11 => ?_)
        · unfold law14_awake_k4 at hF
          refine G.op1 (op_move (Ev.t 56 (bB y8)) rfl) rfl ⟨rfl, trivial⟩ trivial ?_
          refine ifS hF (fun hc9 hF => ?_) (fun hc9 hF => ?_)
          · refine G.known (t := 57) hc9 rfl ?_
            refine G.opG1 (op_loadAP (ds := [.v (.string r2.Key), .v (.string r2.Value), .v (.bool r2.Gone), .v (.int .i64 r2.Stamp.N), .v (.int .i64 r2.Stamp.Site), .sl 3 (List.map encApi_Dep r2.Past)]) Try.underlying32 rfl ti32 rfl (Ev.t 2 (.ptr 1002 0)) rfl) rfl rfl rfl ⟨rfl, trivial⟩ ⟨rfl, trivial⟩ ?_
            refine G.opG1 (op_move (Ev.t 3 (.g (.d (.sl 2 (List.map encApi_Range ([(Api_Range.mk ByteArray.empty ByteArray.empty)])))))) rfl) rfl rfl rfl ⟨rfl, trivial⟩ trivial ?_
            obtain ⟨r10, hr10, hF⟩ := bindS hF
            refine G.opG1 (op_callQ (sv := .one (bB r10)) cf20 (ct_queue_Check r2 ([] : (List Api_Dep)) ([(Api_Range.mk ByteArray.empty ByteArray.empty)]) r10 hr10) rfl rfl (EvQL.cons (EvQ.g (Ev.t 58 (.g (.agg [.v (.string r2.Key), .v (.string r2.Value), .v (.bool r2.Gone), .v (.int .i64 r2.Stamp.N), .v (.int .i64 r2.Stamp.Site), .sl 3 (List.map encApi_Dep r2.Past)])))) (EvQL.cons (EvQ.g (Ev.n 3)) (EvQL.cons (EvQ.g (Ev.t 59 (.g (.d (.sl 2 (List.map encApi_Range ([(Api_Range.mk ByteArray.empty ByteArray.empty)]))))))) EvQL.nil))) rfl) rfl rfl rfl ⟨rfl, rfl, trivial⟩ trivial ?_
            refine G.opG1 (op_not (Ev.t 60 (bB r10)) rfl) rfl rfl rfl ⟨rfl, trivial⟩ trivial ?_
            refine G.op1 (op_pickT (Ev.t 57 (bB true)) (Ev.t 61 (bB (!r10))) rfl) rfl ⟨rfl, rfl, trivial⟩ trivial ?_
            refine G.op1 (op_assign (Ev.t 62 (bB (!r10))) rfl) rfl ⟨rfl, trivial⟩ trivial ?_
            refine G.endOps ?_
            cases hF
            exact G.ret1 Try.results9 (RVar.tmp 0 _) ⟨rfl, trivial⟩ trivial
          · refine G.known (t := 57) hc9 rfl ?_
            refine G.opN1 rfl rfl rfl rfl rfl ?_
            refine G.opN1 rfl rfl rfl rfl rfl ?_
            refine G.opN1 rfl rfl rfl rfl rfl ?_
            refine G.opN1 rfl rfl rfl rfl rfl ?_
            refine G.op1 (op_pickF (Ev.t 57 (bB false)) (Ev.c _ rfl) rfl) rfl ⟨rfl, trivial⟩ trivial ?_
            refine G.op1 (op_assign (Ev.t 62 (bB false)) rfl) rfl ⟨rfl, trivial⟩ trivial ?_
            refine G.endOps ?_
            cases hF
            exact G.ret1 Try.results9 (RVar.tmp 0 _) ⟨rfl, trivial⟩ trivial
        refine ifS hF (fun hc12 hF => ?_) (fun hc12 hF => ?_)
        · refine G.known (t := 52) hc12 rfl ?_
          refine G.opG1 (op_move (Ev.t 8 (.g (.d (.sl 6 (List.map encApi_Version r4.2.1))))) rfl) rfl rfl rfl ⟨rfl, trivial⟩ trivial ?_
          refine G.opG1 (OpL.cast (op_lenD Try.underlying24 (Ev.t 53 (.g (.d (.sl 6 (List.map encApi_Version r4.2.1))))) rfl) (by rw [List.length_map])) rfl rfl rfl ⟨rfl, trivial⟩ trivial ?_
          refine G.opG1 (op_eqI (Ev.t 54 (bI .i64 (r4.2.1.length : Int))) (Ev.c _ rfl) rfl) rfl rfl rfl ⟨rfl, trivial⟩ trivial ?_
          refine G.op1 (op_pickT (Ev.t 52 (bB true)) (Ev.t 55 (bB (decide ((r4.2.1.length : Int) = 0)))) rfl) rfl ⟨rfl, rfl, trivial⟩ trivial ?_
          exact G.arr (J11 (decide ((r4.2.1.length : Int) = 0)) hF) ⟨rfl, rfl, rfl, trivial⟩ ⟨rfl, trivial⟩ rfl
        · refine G.known (t := 52) hc12 rfl ?_
          refine G.opN1 rfl rfl rfl rfl rfl ?_
          refine G.opN1 rfl rfl rfl rfl rfl ?_
          refine G.opN1 rfl rfl rfl rfl rfl ?_
          refine G.op1 (op_pickF (Ev.t 52 (bB false)) (Ev.c _ rfl) rfl) rfl ⟨rfl, trivial⟩ trivial ?_
          exact G.arr (J11 false hF) ⟨rfl, rfl, rfl, trivial⟩ ⟨rfl, trivial⟩ rfl
      refine ifS hF (fun hc14 hF => ?_) (fun hc14 hF => ?_)
      · refine G.known (t := 47) hc14 rfl ?_
        refine G.opG1 (op_fieldP (off' := 0) Try.underlying32 rfl ti9 (by decide) rfl (Ev.t 7 (.ptr 1007 0)) rfl) rfl rfl rfl ⟨rfl, trivial⟩ trivial ?_
        refine G.opG1 (op_load1P (c := bS r4.1.Key) Try.underlying9 rfl rfl (Ev.t 48 (.ptr 1007 0)) rfl) rfl rfl rfl ⟨rfl, trivial⟩ ⟨rfl, trivial⟩ ?_
        refine G.opG1 (op_eqS (Ev.t 49 (bS r4.1.Key)) (Ev.c _ rfl) rfl) rfl rfl rfl ⟨rfl, trivial⟩ trivial ?_
        refine G.op1 (op_pickT (Ev.t 47 (bB true)) (Ev.t 50 (bB (seq r4.1.Key (ByteArray.mk #[98])))) rfl) rfl ⟨rfl, rfl, trivial⟩ trivial ?_
        exact G.arr (J13 (seq r4.1.Key (ByteArray.mk #[98])) hF) ⟨rfl, rfl, rfl, rfl, trivial⟩ ⟨rfl, trivial⟩ rfl
      · refine G.known (t := 47) hc14 rfl ?_
        refine G.opN1 rfl rfl rfl rfl rfl ?_
        refine G.opN1 rfl rfl rfl rfl rfl ?_
        refine G.opN1 rfl rfl rfl rfl rfl ?_
        refine G.op1 (op_pickF (Ev.t 47 (bB false)) (Ev.c _ rfl) rfl) rfl ⟨rfl, trivial⟩ trivial ?_
        exact G.arr (J13 false hF) ⟨rfl, rfl, rfl, rfl, trivial⟩ ⟨rfl, trivial⟩ rfl
    refine ifS hF (fun hc16 hF => ?_) (fun hc16 hF => ?_)
    · refine G.known (t := 42) hc16 rfl ?_
      refine G.opG1 (op_fieldP (off' := 0) Try.underlying32 rfl ti9 (by decide) rfl (Ev.t 4 (.ptr 1004 0)) rfl) rfl rfl rfl ⟨rfl, trivial⟩ trivial ?_
      refine G.opG1 (op_load1P (c := bS r3.1.Key) Try.underlying9 rfl rfl (Ev.t 43 (.ptr 1004 0)) rfl) rfl rfl rfl ⟨rfl, trivial⟩ ⟨rfl, trivial⟩ ?_
      refine G.opG1 (op_eqS (Ev.t 44 (bS r3.1.Key)) (Ev.c _ rfl) rfl) rfl rfl rfl ⟨rfl, trivial⟩ trivial ?_
      refine G.op1 (op_pickT (Ev.t 42 (bB true)) (Ev.t 45 (bB (seq r3.1.Key (ByteArray.mk #[97])))) rfl) rfl ⟨rfl, rfl, trivial⟩ trivial ?_
      exact G.arr (J15 (seq r3.1.Key (ByteArray.mk #[97])) hF) ⟨rfl, rfl, rfl, rfl, rfl, trivial⟩ ⟨rfl, rfl, trivial⟩ rfl
    · refine G.known (t := 42) hc16 rfl ?_
      refine G.opN1 rfl rfl rfl rfl rfl ?_
      refine G.opN1 rfl rfl rfl rfl rfl ?_
      refine G.opN1 rfl rfl rfl rfl rfl ?_
      refine G.op1 (op_pickF (Ev.t 42 (bB false)) (Ev.c _ rfl) rfl) rfl ⟨rfl, trivial⟩ trivial ?_
      exact G.arr (J15 false hF) ⟨rfl, rfl, rfl, rfl, rfl, trivial⟩ ⟨rfl, rfl, trivial⟩ rfl
  refine ifS hF (fun hc18 hF => ?_) (fun hc18 hF => ?_)
  · refine G.known (t := 39) hc18 rfl ?_
    refine G.opG1 (op_move (Ev.t 9 (bB r4.2.2)) rfl) rfl rfl rfl ⟨rfl, trivial⟩ trivial ?_
    refine G.op1 (op_pickT (Ev.t 39 (bB true)) (Ev.t 40 (bB r4.2.2)) rfl) rfl ⟨rfl, rfl, trivial⟩ trivial ?_
    exact G.arr (J17 r4.2.2 hF) ⟨rfl, rfl, rfl, rfl, rfl, rfl, trivial⟩ ⟨rfl, rfl, rfl, trivial⟩ rfl
  · refine G.known (t := 39) hc18 rfl ?_
    refine G.opN1 rfl rfl rfl rfl rfl ?_
    refine G.op1 (op_pickF (Ev.t 39 (bB false)) (Ev.c _ rfl) rfl) rfl ⟨rfl, trivial⟩ trivial ?_
    exact G.arr (J17 false hF) ⟨rfl, rfl, rfl, rfl, rfl, rfl, trivial⟩ ⟨rfl, rfl, rfl, trivial⟩ rfl


set_option maxRecDepth 20000 in
set_option maxHeartbeats 2000000 in
theorem ct_keys_Runes (s_0 : ByteArray) (r : Int) (hF : keys_Runes s_0 = some r) : Ct Try.prog 65 [.g (.d (.v (.string s_0)))] (.one (.d (.v (.int .i64 r)))) := by
  unfold keys_Runes at hF
  refine Ct.intro Try.func65 rfl Try.ntmps65 rfl rfl fun M w => ?_
  refine G.seq ?_
  refine G.region ?_
  refine G.op1 (op_assign (Ev.c _ rfl) rfl) rfl trivial trivial ?_
  refine G.endOps ?_
  refine G.seq ?_
  refine G.region ?_
  refine G.op1 (op_assign (Ev.c _ rfl) rfl) rfl trivial trivial ?_
  refine G.endOps ?_
  refine G.seq ?_
  refine G.seq ?_
  refine G.region ?_
  refine G.op1 (op_move (Ev.t 0 (bS s_0)) rfl) rfl ⟨rfl, trivial⟩ trivial ?_
  refine G.op2 (op_range (k := 1007) Try.underlying9 (Ev.t 6 (bS s_0)) rfl) rfl ⟨rfl, trivial⟩ ⟨rfl, trivial⟩ ?_
  refine G.endOps ?_
  refine G.joinC (T := Int) (fun y1 => ⟨[(3, .one (bI .i64 y1))], []⟩) (fun y1 => keys_Runes_k1 y1 = some r) (fun y1 hF => ?_) (fun J2 => ?_)
  · unfold keys_Runes_k1 at hF
    refine G.seq ?_
    refine G.region ?_
    refine G.op1 (op_move (Ev.t 3 (bI .i64 y1)) rfl) rfl ⟨rfl, trivial⟩ trivial ?_
    refine G.op1 (op_assign (Ev.t 40 (bI .i64 y1)) rfl) rfl ⟨rfl, trivial⟩ trivial ?_
    refine G.endOps ?_
    cases hF
    exact G.ret1 Try.results65 (RVar.tmp 2 _) ⟨rfl, trivial⟩ trivial
  refine G.block ?_
  refine G.keep (sl' := [(0, .one (bS s_0)), (3, .one (bI .i64 0)), (7, .one (.ptr 1007 0))]) (hp' := [(1007, some (.it s_0 0))]) ⟨rfl, rfl, rfl, trivial⟩ ⟨rfl, trivial⟩ rfl ?_
  refine G.loopF (fun (v3 : Int × Nat) => ⟨[(0, .one (bS s_0)), (3, .one (bI .i64 v3.1)), (7, .one (.ptr 1007 0))], [(1007, some (.it s_0 v3.2))]⟩) hF rfl (fun K6 again5 v3 J4 hF => ?_)
  unfold keys_Runes_l2 at hF
  refine G.seq ?_
  refine G.region ?_
  refine ifS hF (fun hc7 hF => ?_) (fun hc7 hF => ?_)
  · refine G.op2 (op_nextT hc7 (Ev.t 7 (.ptr 1007 0)) rfl) rfl ⟨rfl, trivial⟩ ⟨rfl, trivial⟩ ?_
    refine G.op1 (op_extract (l := [bB true, bI .i64 (v3.2 : Int), bI .i32 ((Utf8.decode s_0 v3.2).1 : Int)]) (c := bB true) rfl rfl) rfl ⟨rfl, trivial⟩ trivial ?_
    refine G.endOps ?_
    refine G.seq ?_
    refine G.condT rfl ?_
    refine G.skip ?_
    refine G.block ?_
    refine G.seq ?_
    refine G.region ?_
    refine G.op1 (op_extract (l := [bB true, bI .i64 (v3.2 : Int), bI .i32 ((Utf8.decode s_0 v3.2).1 : Int)]) (c := bI .i64 (v3.2 : Int)) rfl rfl) rfl ⟨rfl, trivial⟩ trivial ?_
    refine G.op1 (op_extract (l := [bB true, bI .i64 (v3.2 : Int), bI .i32 ((Utf8.decode s_0 v3.2).1 : Int)]) (c := bI .i32 ((Utf8.decode s_0 v3.2).1 : Int)) rfl rfl) rfl ⟨rfl, trivial⟩ trivial ?_
    refine G.op1 (op_assign (Ev.t 10 (bI .i64 (v3.2 : Int))) rfl) rfl ⟨rfl, trivial⟩ trivial ?_
    refine G.op1 (op_assign (Ev.t 11 (bI .i32 ((Utf8.decode s_0 v3.2).1 : Int))) rfl) rfl ⟨rfl, trivial⟩ trivial ?_
    refine G.endOps ?_
    refine G.seq ?_
    refine G.seq ?_
    refine G.joinC (T := Bool × Nat) (fun y8 => ⟨[(0, .one (bS s_0)), (3, .one (bI .i64 v3.1)), (4, .one (bI .i64 (v3.2 : Int))), (5, .one (bI .i32 ((Utf8.decode s_0 v3.2).1 : Int))), (7, .one (.ptr 1007 0)), (20, .one (bB y8.1))], [(1007, some (.it s_0 y8.2))]⟩) (fun y8 => keys_Runes_k3 s_0 again5 v3 y8 = some r) (fun y8 hF => ?_) (fun J14 => ?_)
    · unfold keys_Runes_k3 at hF
      refine ifS hF (fun hc9 hF => ?_) (fun hc9 hF => ?_)
      · refine G.cond rfl (fun _ => ?_) (fun hx => by rw [hc9] at hx; cases hx)
        refine G.seq ?_
        refine G.region ?_
        refine G.op1 (op_assign (Ev.c _ rfl) rfl) rfl trivial trivial ?_
        refine G.endOps ?_
        cases hF
        exact G.ret1 Try.results65 (RVar.tmp 2 _) ⟨rfl, trivial⟩ trivial
      · refine G.cond rfl (fun hx => by rw [hc9] at hx; cases hx) (fun _ => ?_)
        refine G.skip ?_
        refine G.seq ?_
        refine G.seq ?_
        refine G.region ?_
        refine G.op1 (op_move (Ev.t 5 (bI .i32 ((Utf8.decode s_0 v3.2).1 : Int))) rfl) rfl ⟨rfl, trivial⟩ trivial ?_
        refine G.op1 (op_eqI (Ev.t 21 (bI .i32 ((Utf8.decode s_0 v3.2).1 : Int))) (Ev.c _ rfl) rfl) rfl ⟨rfl, trivial⟩ trivial ?_
        refine G.op1 (op_move (Ev.t 22 (bB (decide (((Utf8.decode s_0 v3.2).1 : Int) = 65533)))) rfl) rfl ⟨rfl, trivial⟩ trivial ?_
        refine ifS hF (fun hc10 hF => ?_) (fun hc10 hF => ?_)
        · refine G.known (t := 23) hc10 rfl ?_
          refine G.opG1 (op_move (Ev.t 0 (bS s_0)) rfl) rfl rfl rfl ⟨rfl, trivial⟩ trivial ?_
          refine G.opG1 (op_lenS Try.underlying9 (Ev.t 24 (bS s_0)) rfl) rfl rfl rfl ⟨rfl, trivial⟩ trivial ?_
          refine G.opG1 (op_move (Ev.t 4 (bI .i64 (v3.2 : Int))) rfl) rfl rfl rfl ⟨rfl, trivial⟩ trivial ?_
          refine G.opG1 (op_sub (Ev.t 25 (bI .i64 (s_0.size : Int))) (Ev.t 26 (bI .i64 (v3.2 : Int))) rfl) rfl rfl rfl ⟨rfl, rfl, trivial⟩ trivial ?_
          refine G.opG1 (op_lss (Ev.t 27 (bI .i64 (IntKind.wrap .i64 ((s_0.size : Int) - (v3.2 : Int))))) (Ev.c _ rfl) rfl) rfl rfl rfl ⟨rfl, trivial⟩ trivial ?_
          refine G.opG1 (op_move (Ev.t 28 (bB (decide ((IntKind.wrap .i64 ((s_0.size : Int) - (v3.2 : Int))) < 3)))) rfl) rfl rfl rfl ⟨rfl, trivial⟩ trivial ?_
          refine ifS hF (fun hc11 hF => ?_) (fun hc11 hF => ?_)
          · refine G.known (t := 29) hc11 rfl ?_
            refine G.opN1 rfl rfl rfl rfl rfl ?_
            refine G.opN1 rfl rfl rfl rfl rfl ?_
            refine G.opN1 rfl rfl rfl rfl rfl ?_
            refine G.opN1 rfl rfl rfl rfl rfl ?_
            refine G.opN1 rfl rfl rfl rfl rfl ?_
            refine G.opN1 rfl rfl rfl rfl rfl ?_
            refine G.opG1 (op_pickT (Ev.t 29 (bB true)) (Ev.c _ rfl) rfl) rfl rfl rfl ⟨rfl, trivial⟩ trivial ?_
            refine G.op1 (op_pickT (Ev.t 23 (bB true)) (Ev.t 36 (bB true)) rfl) rfl ⟨rfl, rfl, trivial⟩ trivial ?_
            refine G.endOps ?_
            refine G.condT rfl ?_
            refine G.seq ?_
            refine G.region ?_
            refine G.op1 (op_assign (Ev.c _ rfl) rfl) rfl trivial trivial ?_
            refine G.endOps ?_
            cases hF
            exact G.ret1 Try.results65 (RVar.tmp 2 _) ⟨rfl, trivial⟩ trivial
          · refine G.known (t := 29) hc11 rfl ?_
            refine G.opG1 (op_move (Ev.t 0 (bS s_0)) rfl) rfl rfl rfl ⟨rfl, trivial⟩ trivial ?_
            refine G.opG1 (op_move (Ev.t 4 (bI .i64 (v3.2 : Int))) rfl) rfl rfl rfl ⟨rfl, trivial⟩ trivial ?_
            refine G.opG1 (op_move (Ev.t 4 (bI .i64 (v3.2 : Int))) rfl) rfl rfl rfl ⟨rfl, trivial⟩ trivial ?_
            refine G.opG1 (op_add (Ev.t 32 (bI .i64 (v3.2 : Int))) (Ev.c _ rfl) rfl) rfl rfl rfl ⟨rfl, trivial⟩ trivial ?_
            obtain ⟨s12, hs12, hF⟩ := bindS hF
            refine G.opG1 (OpL.cast (op_sliceS (lo := some (v3.2 : Int)) (hi := some (IntKind.wrap .i64 ((v3.2 : Int) + 3))) Try.underlying9 (ssub_ok hs12).1 (ssub_ok hs12).2.1 (ssub_ok hs12).2.2.1 (Ev.t 30 (bS s_0)) (EvO.some (Ev.t 31 (bI .i64 (v3.2 : Int)))) (EvO.some (Ev.t 33 (bI .i64 (IntKind.wrap .i64 ((v3.2 : Int) + 3))))) rfl) (congrArg (fun s => bS s) (ssub_ok hs12).2.2.2)) rfl rfl rfl ⟨rfl, rfl, rfl, trivial⟩ trivial ?_
            refine G.opG1 (op_neS (Ev.t 34 (bS s12)) (Ev.c _ rfl) rfl) rfl rfl rfl ⟨rfl, trivial⟩ trivial ?_
            refine G.opG1 (op_pickF (Ev.t 29 (bB false)) (Ev.t 35 (bB (!seq s12 (ByteArray.mk #[239, 191, 189])))) rfl) rfl rfl rfl ⟨rfl, rfl, trivial⟩ trivial ?_
            refine G.op1 (op_pickT (Ev.t 23 (bB true)) (Ev.t 36 (bB (!seq s12 (ByteArray.mk #[239, 191, 189])))) rfl) rfl ⟨rfl, rfl, trivial⟩ trivial ?_
            refine G.endOps ?_
            refine ifS hF (fun hc13 hF => ?_) (fun hc13 hF => ?_)
            · refine G.cond rfl (fun _ => ?_) (fun hx => by rw [hc13] at hx; cases hx)
              refine G.seq ?_
              refine G.region ?_
              refine G.op1 (op_assign (Ev.c _ rfl) rfl) rfl trivial trivial ?_
              refine G.endOps ?_
              cases hF
              exact G.ret1 Try.results65 (RVar.tmp 2 _) ⟨rfl, trivial⟩ trivial
            · refine G.cond rfl (fun hx => by rw [hc13] at hx; cases hx) (fun _ => ?_)
              refine G.skip ?_
              refine G.region ?_
              refine G.op1 (op_move (Ev.t 3 (bI .i64 v3.1)) rfl) rfl ⟨rfl, trivial⟩ trivial ?_
              refine G.op1 (op_add (Ev.t 38 (bI .i64 v3.1)) (Ev.c _ rfl) rfl) rfl ⟨rfl, trivial⟩ trivial ?_
              refine G.op1 (op_assign (Ev.t 39 (bI .i64 (IntKind.wrap .i64 (v3.1 + 1)))) rfl) rfl ⟨rfl, trivial⟩ trivial ?_
              refine G.endOps ?_
              refine G.endBlock ?_
              exact G.arr (J4 (IntKind.wrap .i64 (v3.1 + 1), y8.2) hF) ⟨rfl, rfl, rfl, trivial⟩ ⟨rfl, trivial⟩ rfl
        · refine G.known (t := 23) hc10 rfl ?_
          refine G.opN1 rfl rfl rfl rfl rfl ?_
          refine G.opN1 rfl rfl rfl rfl rfl ?_
          refine G.opN1 rfl rfl rfl rfl rfl ?_
          refine G.opN1 rfl rfl rfl rfl rfl ?_
          refine G.opN1 rfl rfl rfl rfl rfl ?_
          refine G.opN1 rfl rfl rfl rfl rfl ?_
          refine G.opU rfl rfl rfl rfl ?_
          refine G.opU rfl rfl rfl rfl ?_
          refine G.opU rfl rfl rfl rfl ?_
          refine G.opU rfl rfl rfl rfl ?_
          refine G.opU rfl rfl rfl rfl ?_
          refine G.opU rfl rfl rfl rfl ?_
          refine G.opN1 rfl rfl rfl rfl rfl ?_
          refine G.op1 (op_pickF (Ev.t 23 (bB false)) (Ev.c _ rfl) rfl) rfl ⟨rfl, trivial⟩ trivial ?_
          refine G.endOps ?_
          refine G.condF rfl ?_
          refine G.skip ?_
          refine G.region ?_
          refine G.op1 (op_move (Ev.t 3 (bI .i64 v3.1)) rfl) rfl ⟨rfl, trivial⟩ trivial ?_
          refine G.op1 (op_add (Ev.t 38 (bI .i64 v3.1)) (Ev.c _ rfl) rfl) rfl ⟨rfl, trivial⟩ trivial ?_
          refine G.op1 (op_assign (Ev.t 39 (bI .i64 (IntKind.wrap .i64 (v3.1 + 1)))) rfl) rfl ⟨rfl, trivial⟩ trivial ?_
          refine G.endOps ?_
          refine G.endBlock ?_
          exact G.arr (J4 (IntKind.wrap .i64 (v3.1 + 1), y8.2) hF) ⟨rfl, rfl, rfl, trivial⟩ ⟨rfl, trivial⟩ rfl
    refine ifS hF (fun hc15 hF => ?_) (fun hc15 hF => ?_)
    · obtain ⟨b16, hb16, hF⟩ := bindS hF
      obtain ⟨b17, hb17, hF⟩ := bindS hF
      refine G.drawn (effs := [⟨[(5, .one (bI .i32 ((Utf8.decode s_0 v3.2).1 : Int)))], [], [(12, .one (bI .i32 ((Utf8.decode s_0 v3.2).1 : Int)))], []⟩, ⟨[(12, .one (bI .i32 ((Utf8.decode s_0 v3.2).1 : Int)))], [], [(13, .one (bB true))], []⟩, ⟨[(13, .one (bB true))], [], [(14, .one (bB true))], []⟩, ⟨[(14, .one (bB true)), (0, .one (bS s_0))], [], [(15, .one (bS s_0))], []⟩, ⟨[(14, .one (bB true)), (4, .one (bI .i64 (v3.2 : Int)))], [], [(16, .one (bI .i64 (v3.2 : Int)))], []⟩, ⟨[(14, .one (bB true)), (15, .one (bS s_0)), (16, .one (bI .i64 (v3.2 : Int)))], [], [(17, .one (bI .u8 (b16.toNat : Int)))], []⟩, ⟨[(14, .one (bB true))], [], [(18, .one (bI .u8 (b17.toNat : Int)))], []⟩, ⟨[(14, .one (bB true)), (17, .one (bI .u8 (b16.toNat : Int))), (18, .one (bI .u8 (b17.toNat : Int)))], [], [(19, .one (bB (!decide ((b16.toNat : Int) = (b17.toNat : Int)))))], []⟩, ⟨[(14, .one (bB true)), (19, .one (bB (!decide ((b16.toNat : Int) = (b17.toNat : Int)))))], [], [(20, .one (bB (!decide ((b16.toNat : Int) = (b17.toNat : Int)))))], []⟩]) (deps := [[], [0], [0, 1], [0, 1, 2], [0, 1, 2], [0, 1, 2, 3, 4], [0, 1, 2], [0, 1, 2, 3, 4, 5, 6], [0, 1, 2, 3, 4, 5, 6, 7]]) (sl' := [(0, .one (bS s_0)), (3, .one (bI .i64 v3.1)), (4, .one (bI .i64 (v3.2 : Int))), (5, .one (bI .i32 ((Utf8.decode s_0 v3.2).1 : Int))), (7, .one (.ptr 1007 0)), (20, .one (bB (!decide ((b16.toNat : Int) = (b17.toNat : Int)))))]) (hp' := [(1007, some (.it s_0 (v3.2 + (Utf8.decode s_0 v3.2).2)))]) follows rfl rfl rfl ⟨⟨rfl, trivial⟩, trivial, ⟨rfl, trivial⟩, trivial, ⟨rfl, trivial⟩, trivial, ⟨rfl, rfl, trivial⟩, trivial, ⟨rfl, rfl, trivial⟩, trivial, ⟨rfl, rfl, rfl, trivial⟩, trivial, ⟨rfl, trivial⟩, trivial, ⟨rfl, rfl, rfl, trivial⟩, trivial, ⟨rfl, rfl, trivial⟩, trivial, trivial⟩ ⟨OpW.plain (op_move (Ev.t 5 (bI .i32 ((Utf8.decode s_0 v3.2).1 : Int))) rfl) rfl rfl, OpW.plain (OpL.cast (op_eqI (Ev.t 12 (bI .i32 ((Utf8.decode s_0 v3.2).1 : Int))) (Ev.c _ rfl) rfl) (congrArg (fun b => bB b) hc15)) rfl rfl, OpW.plain (op_move (Ev.t 13 (bB true)) rfl) rfl rfl, OpW.yes (op_move (Ev.t 0 (bS s_0)) rfl) rfl rfl rfl, OpW.yes (op_move (Ev.t 4 (bI .i64 (v3.2 : Int))) rfl) rfl rfl rfl, OpW.yes (op_indexS Try.underlying9 (sidx_ok hb16).1 (sidx_ok hb16).2 (Ev.t 15 (bS s_0)) (Ev.t 16 (bI .i64 (v3.2 : Int))) rfl) rfl rfl rfl, OpW.yes (op_indexS Try.underlying9 (sidx_ok hb17).1 (sidx_ok hb17).2 (Ev.c _ rfl) (Ev.c _ rfl) rfl) rfl rfl rfl, OpW.yes (op_neI (Ev.t 17 (bI .u8 (b16.toNat : Int))) (Ev.t 18 (bI .u8 (b17.toNat : Int))) rfl) rfl rfl rfl, OpW.plain (op_pickT (Ev.t 14 (bB true)) (Ev.t 19 (bB (!decide ((b16.toNat : Int) = (b17.toNat : Int))))) rfl) rfl rfl, trivial⟩ ⟨rfl, rfl, rfl, rfl, rfl, rfl, trivial⟩ ⟨rfl, trivial⟩ rfl ?_
      exact G.arr (J14 (!decide ((b16.toNat : Int) = (b17.toNat : Int)), v3.2 + (Utf8.decode s_0 v3.2).2) hF) ⟨rfl, rfl, rfl, rfl, rfl, rfl, trivial⟩ ⟨rfl, trivial⟩ rfl
    · refine G.drawn (effs := [⟨[(5, .one (bI .i32 ((Utf8.decode s_0 v3.2).1 : Int)))], [], [(12, .one (bI .i32 ((Utf8.decode s_0 v3.2).1 : Int)))], []⟩, ⟨[(12, .one (bI .i32 ((Utf8.decode s_0 v3.2).1 : Int)))], [], [(13, .one (bB false))], []⟩, ⟨[(13, .one (bB false))], [], [(14, .one (bB false))], []⟩, ⟨[(14, .one (bB false))], [], [(15, .one (.x Go.undef))], []⟩, ⟨[(14, .one (bB false))], [], [(16, .one (.x Go.undef))], []⟩, ⟨[(14, .one (bB false))], [], [(17, .one (.x Go.undef))], []⟩, ⟨[(14, .one (bB false))], [], [(18, .one (.x Go.undef))], []⟩, ⟨[(14, .one (bB false))], [], [(19, .one (.x Go.undef))], []⟩, ⟨[(14, .one (bB false))], [], [(20, .one (bB false))], []⟩]) (deps := [[], [0], [0, 1], [0, 1, 2], [0, 1, 2], [0, 1, 2, 3, 4], [0, 1, 2], [0, 1, 2, 3, 4, 5, 6], [0, 1, 2, 3, 4, 5, 6, 7]]) (sl' := [(0, .one (bS s_0)), (3, .one (bI .i64 v3.1)), (4, .one (bI .i64 (v3.2 : Int))), (5, .one (bI .i32 ((Utf8.decode s_0 v3.2).1 : Int))), (7, .one (.ptr 1007 0)), (20, .one (bB false))]) (hp' := [(1007, some (.it s_0 (v3.2 + (Utf8.decode s_0 v3.2).2)))]) follows rfl rfl rfl ⟨⟨rfl, trivial⟩, trivial, ⟨rfl, trivial⟩, trivial, ⟨rfl, trivial⟩, trivial, ⟨rfl, trivial⟩, trivial, ⟨rfl, trivial⟩, trivial, ⟨rfl, trivial⟩, trivial, ⟨rfl, trivial⟩, trivial, ⟨rfl, trivial⟩, trivial, ⟨rfl, trivial⟩, trivial, trivial⟩ ⟨OpW.plain (op_move (Ev.t 5 (bI .i32 ((Utf8.decode s_0 v3.2).1 : Int))) rfl) rfl rfl, OpW.plain (OpL.cast (op_eqI (Ev.t 12 (bI .i32 ((Utf8.decode s_0 v3.2).1 : Int))) (Ev.c _ rfl) rfl) (congrArg (fun b => bB b) hc15)) rfl rfl, OpW.plain (op_move (Ev.t 13 (bB false)) rfl) rfl rfl, OpW.no rfl rfl rfl rfl rfl, OpW.no rfl rfl rfl rfl rfl, OpW.no rfl rfl rfl rfl rfl, OpW.no rfl rfl rfl rfl rfl, OpW.no rfl rfl rfl rfl rfl, OpW.plain (op_pickF (Ev.t 14 (bB false)) (Ev.c _ rfl) rfl) rfl rfl, trivial⟩ ⟨rfl, rfl, rfl, rfl, rfl, rfl, trivial⟩ ⟨rfl, trivial⟩ rfl ?_
      exact G.arr (J14 (false, v3.2 + (Utf8.decode s_0 v3.2).2) hF) ⟨rfl, rfl, rfl, rfl, rfl, rfl, trivial⟩ ⟨rfl, trivial⟩ rfl
  · refine G.op1 (op_nextF hc7 (Ev.t 7 (.ptr 1007 0)) rfl) rfl ⟨rfl, trivial⟩ ⟨rfl, trivial⟩ ?_
    refine G.op1 (op_extract (l := [bB false]) (c := bB false) rfl rfl) rfl ⟨rfl, trivial⟩ trivial ?_
    refine G.endOps ?_
    refine G.seq ?_
    refine G.condF rfl ?_
    refine G.exit ?_
    refine GX.c ?_
    refine GX.q ?_
    refine GX.bYes ?_
    exact G.arr (J2 v3.1 hF) ⟨rfl, trivial⟩ trivial rfl


set_option maxRecDepth 20000 in
set_option maxHeartbeats 2000000 in
theorem ct_keys_Check (s_0 : ByteArray) (r : Bool) (hF : keys_Check s_0 = some r) : Ct Try.prog 57 [.g (.d (.v (.string s_0)))] (.one (.d (.v (.bool r)))) := by
  unfold keys_Check at hF
  refine Ct.intro Try.func57 rfl Try.ntmps57 rfl rfl fun M w => ?_
  refine G.seq ?_
  refine G.region ?_
  refine G.op1 (op_assign (Ev.c _ rfl) rfl) rfl trivial trivial ?_
  refine G.endOps ?_
  refine G.scope ?_
  refine G.seq ?_
  refine G.region ?_
  refine G.op1 (op_move (Ev.t 0 (bS s_0)) rfl) rfl ⟨rfl, trivial⟩ trivial ?_
  obtain ⟨r1, hr1, hF⟩ := bindS hF
  refine G.op1 (op_callQ (sv := .one (bI .i64 r1)) cf65 (ct_keys_Runes s_0 r1 hr1) rfl rfl (EvQL.cons (EvQ.g (Ev.t 7 (bS s_0))) EvQL.nil) rfl) rfl ⟨rfl, trivial⟩ trivial ?_
  refine G.op1 (op_assign (Ev.t 8 (bI .i64 r1)) rfl) rfl ⟨rfl, trivial⟩ trivial ?_
  refine G.endOps ?_
  refine G.seq ?_
  refine G.joinC (T := Bool) (fun y2 => ⟨[(0, .one (bS s_0)), (4, .one (bB y2))], []⟩) (fun y2 => keys_Check_k1 s_0 y2 = some r) (fun y2 hF => ?_) (fun J11 => ?_)
  · unfold keys_Check_k1 at hF
    refine G.seq ?_
    refine G.label ?_
    refine G.seq ?_
    refine G.seq ?_
    refine G.region ?_
    refine G.op1 (op_move (Ev.t 0 (bS s_0)) rfl) rfl ⟨rfl, trivial⟩ trivial ?_
    refine G.op2 (op_range (k := 1016) Try.underlying9 (Ev.t 15 (bS s_0)) rfl) rfl ⟨rfl, trivial⟩ ⟨rfl, trivial⟩ ?_
    refine G.endOps ?_
    refine G.joinC (T := Bool) (fun y3 => ⟨[(4, .one (bB y3))], []⟩) (fun y3 => keys_Check_k2 y3 = some r) (fun y3 hF => ?_) (fun J4 => ?_)
    · unfold keys_Check_k2 at hF
      refine G.seq ?_
      refine G.region ?_
      refine G.op1 (op_move (Ev.t 4 (bB y3)) rfl) rfl ⟨rfl, trivial⟩ trivial ?_
      refine G.op1 (op_assign (Ev.t 24 (bB y3)) rfl) rfl ⟨rfl, trivial⟩ trivial ?_
      refine G.endOps ?_
      cases hF
      exact G.ret1 Try.results57 (RVar.tmp 2 _) ⟨rfl, trivial⟩ trivial
    refine G.block ?_
    refine G.keep (sl' := [(4, .one (bB y2)), (16, .one (.ptr 1016 0))]) (hp' := [(1016, some (.it s_0 0))]) ⟨rfl, rfl, trivial⟩ ⟨rfl, trivial⟩ rfl ?_
    refine G.loopF (fun (v5 : Bool × Nat) => ⟨[(4, .one (bB v5.1)), (16, .one (.ptr 1016 0))], [(1016, some (.it s_0 v5.2))]⟩) hF rfl (fun K8 again7 v5 J6 hF => ?_)
    unfold keys_Check_l3 at hF
    refine G.seq ?_
    refine G.region ?_
    refine ifS hF (fun hc9 hF => ?_) (fun hc9 hF => ?_)
    · refine G.op2 (op_nextT hc9 (Ev.t 16 (.ptr 1016 0)) rfl) rfl ⟨rfl, trivial⟩ ⟨rfl, trivial⟩ ?_
      refine G.op1 (op_extract (l := [bB true, bI .i64 (v5.2 : Int), bI .i32 ((Utf8.decode s_0 v5.2).1 : Int)]) (c := bB true) rfl rfl) rfl ⟨rfl, trivial⟩ trivial ?_
      refine G.endOps ?_
      refine G.seq ?_
      refine G.condT rfl ?_
      refine G.skip ?_
      refine G.block ?_
      refine G.seq ?_
      refine G.region ?_
      refine G.op1 (op_extract (l := [bB true, bI .i64 (v5.2 : Int), bI .i32 ((Utf8.decode s_0 v5.2).1 : Int)]) (c := bI .i32 ((Utf8.decode s_0 v5.2).1 : Int)) rfl rfl) rfl ⟨rfl, trivial⟩ trivial ?_
      refine G.op1 (op_assign (Ev.t 19 (bI .i32 ((Utf8.decode s_0 v5.2).1 : Int))) rfl) rfl ⟨rfl, trivial⟩ trivial ?_
      refine G.endOps ?_
      refine G.seq ?_
      refine G.seq ?_
      refine G.region ?_
      refine G.op1 (op_move (Ev.t 4 (bB v5.1)) rfl) rfl ⟨rfl, trivial⟩ trivial ?_
      refine G.op1 (op_not (Ev.t 20 (bB v5.1)) rfl) rfl ⟨rfl, trivial⟩ trivial ?_
      refine G.endOps ?_
      refine ifS hF (fun hc10 hF => ?_) (fun hc10 hF => ?_)
      · refine G.cond rfl (fun _ => ?_) (fun hx => by rw [hc10] at hx; cases hx)
        refine G.exit ?_
        refine GX.c ?_
        refine GX.bNo rfl ?_
        refine GX.q ?_
        refine GX.bYes ?_
        exact G.arr (J4 v5.1 hF) ⟨rfl, trivial⟩ trivial rfl
      · refine G.cond rfl (fun hx => by rw [hc10] at hx; cases hx) (fun _ => ?_)
        refine G.skip ?_
        refine G.region ?_
        refine G.op1 (op_move (Ev.t 6 (bI .i32 ((Utf8.decode s_0 v5.2).1 : Int))) rfl) rfl ⟨rfl, trivial⟩ trivial ?_
        refine G.op1 (op_geq (Ev.t 22 (bI .i32 ((Utf8.decode s_0 v5.2).1 : Int))) (Ev.c _ rfl) rfl) rfl ⟨rfl, trivial⟩ trivial ?_
        refine G.op1 (op_assign (Ev.t 23 (bB (decide (33 ≤ ((Utf8.decode s_0 v5.2).1 : Int))))) rfl) rfl ⟨rfl, trivial⟩ trivial ?_
        refine G.endOps ?_
        refine G.endBlock ?_
        exact G.arr (J6 (decide (33 ≤ ((Utf8.decode s_0 v5.2).1 : Int)), v5.2 + (Utf8.decode s_0 v5.2).2) hF) ⟨rfl, rfl, trivial⟩ ⟨rfl, trivial⟩ rfl
    · refine G.op1 (op_nextF hc9 (Ev.t 16 (.ptr 1016 0)) rfl) rfl ⟨rfl, trivial⟩ ⟨rfl, trivial⟩ ?_
      refine G.op1 (op_extract (l := [bB false]) (c := bB false) rfl rfl) rfl ⟨rfl, trivial⟩ trivial ?_
      refine G.endOps ?_
      refine G.seq ?_
      refine G.condF rfl ?_
      refine G.exit ?_
      refine GX.c ?_
      refine GX.q ?_
      refine GX.bYes ?_
      exact G.arr (J4 v5.1 hF) ⟨rfl, trivial⟩ trivial rfl
  refine G.region ?_
  refine G.op1 (op_move (Ev.t 3 (bI .i64 r1)) rfl) rfl ⟨rfl, trivial⟩ trivial ?_
  refine G.op1 (op_geq (Ev.t 9 (bI .i64 r1)) (Ev.c _ rfl) rfl) rfl ⟨rfl, trivial⟩ trivial ?_
  refine G.op1 (op_move (Ev.t 10 (bB (decide (1 ≤ r1)))) rfl) rfl ⟨rfl, trivial⟩ trivial ?_
  refine ifS hF (fun hc12 hF => ?_) (fun hc12 hF => ?_)
  · refine G.known (t := 11) hc12 rfl ?_
    refine G.opG1 (op_move (Ev.t 3 (bI .i64 r1)) rfl) rfl rfl rfl ⟨rfl, trivial⟩ trivial ?_
    refine G.opG1 (op_leq (Ev.t 12 (bI .i64 r1)) (Ev.c _ rfl) rfl) rfl rfl rfl ⟨rfl, trivial⟩ trivial ?_
    refine G.op1 (op_pickT (Ev.t 11 (bB true)) (Ev.t 13 (bB (decide (r1 ≤ 8)))) rfl) rfl ⟨rfl, rfl, trivial⟩ trivial ?_
    refine G.op1 (op_assign (Ev.t 14 (bB (decide (r1 ≤ 8)))) rfl) rfl ⟨rfl, trivial⟩ trivial ?_
    refine G.endOps ?_
    exact G.arr (J11 (decide (r1 ≤ 8)) hF) ⟨rfl, rfl, trivial⟩ trivial rfl
  · refine G.known (t := 11) hc12 rfl ?_
    refine G.opN1 rfl rfl rfl rfl rfl ?_
    refine G.opN1 rfl rfl rfl rfl rfl ?_
    refine G.op1 (op_pickF (Ev.t 11 (bB false)) (Ev.c _ rfl) rfl) rfl ⟨rfl, trivial⟩ trivial ?_
    refine G.op1 (op_assign (Ev.t 14 (bB false)) rfl) rfl ⟨rfl, trivial⟩ trivial ?_
    refine G.endOps ?_
    exact G.arr (J11 false hF) ⟨rfl, rfl, trivial⟩ trivial rfl


set_option maxRecDepth 20000 in
set_option maxHeartbeats 2000000 in
theorem ct_stamp_Check (s_0 : Api_Stamp) (r : Bool) (hF : stamp_Check s_0 = some r) : Ct Try.prog 58 [.g (.agg (encApi_Stamp s_0))] (.one (.d (.v (.bool r)))) := by
  unfold stamp_Check at hF
  refine Ct.intro Try.func58 rfl Try.ntmps58 rfl rfl fun M w => ?_
  refine G.seq ?_
  refine G.region ?_
  refine G.op2 (op_boxA (k := 1001) (Ev.t 0 (.g (.agg [.v (.int .i64 s_0.N), .v (.int .i64 s_0.Site)]))) rfl) rfl ⟨rfl, trivial⟩ ⟨rfl, trivial⟩ ?_
  refine G.op1 (op_assign (Ev.c _ rfl) rfl) rfl trivial trivial ?_
  refine G.endOps ?_
  refine G.seq ?_
  refine G.region ?_
  refine G.op1 (op_fieldP (off' := 0) Try.underlying29 rfl ti3 (by decide) rfl (Ev.t 1 (.ptr 1001 0)) rfl) rfl ⟨rfl, trivial⟩ trivial ?_
  refine G.op1 (op_load1P (c := bI .i64 s_0.N) Try.underlying3 rfl rfl (Ev.t 3 (.ptr 1001 0)) rfl) rfl ⟨rfl, trivial⟩ ⟨rfl, trivial⟩ ?_
  refine G.op1 (op_geq (Ev.t 4 (bI .i64 s_0.N)) (Ev.c _ rfl) rfl) rfl ⟨rfl, trivial⟩ trivial ?_
  refine G.op1 (op_move (Ev.t 5 (bB (decide (1 ≤ s_0.N)))) rfl) rfl ⟨rfl, trivial⟩ trivial ?_
  refine G.joinL (T := Bool) 4 (fun y1 => ⟨[(1, .one (.ptr 1001 0)), (10, .one (bB y1))], [(1001, some (.blk 29 [bI .i64 s_0.N, bI .i64 s_0.Site]))]⟩) (fun y1 => stamp_Check_k1 s_0 y1 = some r) (fun y1 hF => ?_) (fun J6 => ?_)
  · unfold stamp_Check_k1 at hF
    refine G.op1 (op_move (Ev.t 10 (bB y1)) rfl) rfl ⟨rfl, trivial⟩ trivial ?_
    refine G.joinL (T := Bool) 4 (fun y2 => ⟨[(1, .one (.ptr 1001 0)), (15, .one (bB y2))], [(1001, some (.blk 29 [bI .i64 s_0.N, bI .i64 s_0.Site]))]⟩) (fun y2 => stamp_Check_k2 s_0 y2 = some r) (fun y2 hF => ?_) (fun J4 => ?_)
    · unfold stamp_Check_k2 at hF
      refine G.op1 (op_move (Ev.t 15 (bB y2)) rfl) rfl ⟨rfl, trivial⟩ trivial ?_
      refine ifS hF (fun hc3 hF => ?_) (fun hc3 hF => ?_)
      · refine G.known (t := 16) hc3 rfl ?_
        refine G.opG1 (op_fieldP (off' := 1) Try.underlying29 rfl ti3 (by decide) rfl (Ev.t 1 (.ptr 1001 0)) rfl) rfl rfl rfl ⟨rfl, trivial⟩ trivial ?_
        refine G.opG1 (op_load1P (c := bI .i64 s_0.Site) Try.underlying3 rfl rfl (Ev.t 17 (.ptr 1001 1)) rfl) rfl rfl rfl ⟨rfl, trivial⟩ ⟨rfl, trivial⟩ ?_
        refine G.opG1 (op_lss (Ev.t 18 (bI .i64 s_0.Site)) (Ev.c _ rfl) rfl) rfl rfl rfl ⟨rfl, trivial⟩ trivial ?_
        refine G.op1 (op_pickT (Ev.t 16 (bB true)) (Ev.t 19 (bB (decide (s_0.Site < 6)))) rfl) rfl ⟨rfl, rfl, trivial⟩ trivial ?_
        refine G.op1 (op_assign (Ev.t 20 (bB (decide (s_0.Site < 6)))) rfl) rfl ⟨rfl, trivial⟩ trivial ?_
        refine G.endOps ?_
        cases hF
        exact G.ret1 Try.results58 (RVar.tmp 2 _) ⟨rfl, trivial⟩ trivial
      · refine G.known (t := 16) hc3 rfl ?_
        refine G.opN1 rfl rfl rfl rfl rfl ?_
        refine G.opN1 rfl rfl rfl rfl rfl ?_
        refine G.opN1 rfl rfl rfl rfl rfl ?_
        refine G.op1 (op_pickF (Ev.t 16 (bB false)) (Ev.c _ rfl) rfl) rfl ⟨rfl, trivial⟩ trivial ?_
        refine G.op1 (op_assign (Ev.t 20 (bB false)) rfl) rfl ⟨rfl, trivial⟩ trivial ?_
        refine G.endOps ?_
        cases hF
        exact G.ret1 Try.results58 (RVar.tmp 2 _) ⟨rfl, trivial⟩ trivial
    refine ifS hF (fun hc5 hF => ?_) (fun hc5 hF => ?_)
    · refine G.known (t := 11) hc5 rfl ?_
      refine G.opG1 (op_fieldP (off' := 1) Try.underlying29 rfl ti3 (by decide) rfl (Ev.t 1 (.ptr 1001 0)) rfl) rfl rfl rfl ⟨rfl, trivial⟩ trivial ?_
      refine G.opG1 (op_load1P (c := bI .i64 s_0.Site) Try.underlying3 rfl rfl (Ev.t 12 (.ptr 1001 1)) rfl) rfl rfl rfl ⟨rfl, trivial⟩ ⟨rfl, trivial⟩ ?_
      refine G.opG1 (op_geq (Ev.t 13 (bI .i64 s_0.Site)) (Ev.c _ rfl) rfl) rfl rfl rfl ⟨rfl, trivial⟩ trivial ?_
      refine G.op1 (op_pickT (Ev.t 11 (bB true)) (Ev.t 14 (bB (decide (0 ≤ s_0.Site)))) rfl) rfl ⟨rfl, rfl, trivial⟩ trivial ?_
      exact G.arr (J4 (decide (0 ≤ s_0.Site)) hF) ⟨rfl, rfl, trivial⟩ ⟨rfl, trivial⟩ rfl
    · refine G.known (t := 11) hc5 rfl ?_
      refine G.opN1 rfl rfl rfl rfl rfl ?_
      refine G.opN1 rfl rfl rfl rfl rfl ?_
      refine G.opN1 rfl rfl rfl rfl rfl ?_
      refine G.op1 (op_pickF (Ev.t 11 (bB false)) (Ev.c _ rfl) rfl) rfl ⟨rfl, trivial⟩ trivial ?_
      exact G.arr (J4 false hF) ⟨rfl, rfl, trivial⟩ ⟨rfl, trivial⟩ rfl
  refine ifS hF (fun hc7 hF => ?_) (fun hc7 hF => ?_)
  · refine G.known (t := 6) hc7 rfl ?_
    refine G.opG1 (op_fieldP (off' := 0) Try.underlying29 rfl ti3 (by decide) rfl (Ev.t 1 (.ptr 1001 0)) rfl) rfl rfl rfl ⟨rfl, trivial⟩ trivial ?_
    refine G.opG1 (op_load1P (c := bI .i64 s_0.N) Try.underlying3 rfl rfl (Ev.t 7 (.ptr 1001 0)) rfl) rfl rfl rfl ⟨rfl, trivial⟩ ⟨rfl, trivial⟩ ?_
    refine G.opG1 (op_leq (Ev.t 8 (bI .i64 s_0.N)) (Ev.c _ rfl) rfl) rfl rfl rfl ⟨rfl, trivial⟩ trivial ?_
    refine G.op1 (op_pickT (Ev.t 6 (bB true)) (Ev.t 9 (bB (decide (s_0.N ≤ 1099511627776)))) rfl) rfl ⟨rfl, rfl, trivial⟩ trivial ?_
    exact G.arr (J6 (decide (s_0.N ≤ 1099511627776)) hF) ⟨rfl, rfl, trivial⟩ ⟨rfl, trivial⟩ rfl
  · refine G.known (t := 6) hc7 rfl ?_
    refine G.opN1 rfl rfl rfl rfl rfl ?_
    refine G.opN1 rfl rfl rfl rfl rfl ?_
    refine G.opN1 rfl rfl rfl rfl rfl ?_
    refine G.op1 (op_pickF (Ev.t 6 (bB false)) (Ev.c _ rfl) rfl) rfl ⟨rfl, trivial⟩ trivial ?_
    exact G.arr (J6 false hF) ⟨rfl, rfl, trivial⟩ ⟨rfl, trivial⟩ rfl


set_option maxRecDepth 20000 in
set_option maxHeartbeats 2000000 in
theorem ct_past_may (d_0 : Api_Dep) (r : Bool) (hF : past_may d_0 = some r) : Ct Try.prog 66 [.g (.agg (encApi_Dep d_0))] (.one (.d (.v (.bool r)))) := by
  unfold past_may at hF
  refine Ct.intro Try.func66 rfl Try.ntmps66 rfl rfl fun M w => ?_
  refine G.seq ?_
  refine G.region ?_
  refine G.op2 (op_boxA (k := 1001) (Ev.t 0 (.g (.agg [.v (.string d_0.Key), .v (.int .i64 d_0.Stamp.N), .v (.int .i64 d_0.Stamp.Site)]))) rfl) rfl ⟨rfl, trivial⟩ ⟨rfl, trivial⟩ ?_
  refine G.op1 (op_assign (Ev.c _ rfl) rfl) rfl trivial trivial ?_
  refine G.endOps ?_
  refine G.seq ?_
  refine G.region ?_
  refine G.op1 (op_fieldP (off' := 0) Try.underlying39 rfl ti9 (by decide) rfl (Ev.t 1 (.ptr 1001 0)) rfl) rfl ⟨rfl, trivial⟩ trivial ?_
  refine G.op1 (op_load1P (c := bS d_0.Key) Try.underlying9 rfl rfl (Ev.t 3 (.ptr 1001 0)) rfl) rfl ⟨rfl, trivial⟩ ⟨rfl, trivial⟩ ?_
  obtain ⟨r1, hr1, hF⟩ := bindS hF
  refine G.op1 (op_callQ (sv := .one (bB r1)) cf57 (ct_keys_Check d_0.Key r1 hr1) rfl rfl (EvQL.cons (EvQ.g (Ev.t 4 (bS d_0.Key))) EvQL.nil) rfl) rfl ⟨rfl, trivial⟩ trivial ?_
  refine G.op1 (op_move (Ev.t 5 (bB r1)) rfl) rfl ⟨rfl, trivial⟩ trivial ?_
  refine ifS hF (fun hc2 hF => ?_) (fun hc2 hF => ?_)
  · refine G.known (t := 6) hc2 rfl ?_
    refine G.opG1 (op_fieldP (off' := 1) Try.underlying39 rfl ti29 (by decide) rfl (Ev.t 1 (.ptr 1001 0)) rfl) rfl rfl rfl ⟨rfl, trivial⟩ trivial ?_
    refine G.opG1 (op_loadAP (ds := [.v (.int .i64 d_0.Stamp.N), .v (.int .i64 d_0.Stamp.Site)]) Try.underlying29 rfl ti29 rfl (Ev.t 7 (.ptr 1001 1)) rfl) rfl rfl rfl ⟨rfl, trivial⟩ ⟨rfl, trivial⟩ ?_
    obtain ⟨r3, hr3, hF⟩ := bindS hF
    refine G.opG1 (op_callQ (sv := .one (bB r3)) cf58 (ct_stamp_Check d_0.Stamp r3 hr3) rfl rfl (EvQL.cons (EvQ.g (Ev.t 8 (.g (.agg [.v (.int .i64 d_0.Stamp.N), .v (.int .i64 d_0.Stamp.Site)])))) EvQL.nil) rfl) rfl rfl rfl ⟨rfl, trivial⟩ trivial ?_
    refine G.op1 (op_pickT (Ev.t 6 (bB true)) (Ev.t 9 (bB r3)) rfl) rfl ⟨rfl, rfl, trivial⟩ trivial ?_
    refine G.op1 (op_assign (Ev.t 10 (bB r3)) rfl) rfl ⟨rfl, trivial⟩ trivial ?_
    refine G.endOps ?_
    cases hF
    exact G.ret1 Try.results66 (RVar.tmp 2 _) ⟨rfl, trivial⟩ trivial
  · refine G.known (t := 6) hc2 rfl ?_
    refine G.opN1 rfl rfl rfl rfl rfl ?_
    refine G.opN1 rfl rfl rfl rfl rfl ?_
    refine G.opN1 rfl rfl rfl rfl rfl ?_
    refine G.op1 (op_pickF (Ev.t 6 (bB false)) (Ev.c _ rfl) rfl) rfl ⟨rfl, trivial⟩ trivial ?_
    refine G.op1 (op_assign (Ev.t 10 (bB false)) rfl) rfl ⟨rfl, trivial⟩ trivial ?_
    refine G.endOps ?_
    cases hF
    exact G.ret1 Try.results66 (RVar.tmp 2 _) ⟨rfl, trivial⟩ trivial


set_option maxRecDepth 20000 in
set_option maxHeartbeats 2000000 in
theorem ct_past_Check (p_0 : (List Api_Dep)) (r : Bool) (hF : past_Check p_0 = some r) : Ct Try.prog 59 [.g (.d (.sl 3 (List.map encApi_Dep p_0)))] (.one (.d (.v (.bool r)))) := by
  unfold past_Check at hF
  refine Ct.intro Try.func59 rfl Try.ntmps59 rfl rfl fun M w => ?_
  refine G.seq ?_
  refine G.region ?_
  refine G.op1 (op_assign (Ev.c _ rfl) rfl) rfl trivial trivial ?_
  refine G.endOps ?_
  refine G.seq ?_
  refine G.seq ?_
  refine G.region ?_
  refine G.op1 (op_move (Ev.t 0 (.g (.d (.sl 3 (List.map encApi_Dep p_0))))) rfl) rfl ⟨rfl, trivial⟩ trivial ?_
  refine G.op1 (OpL.cast (op_lenD Try.underlying30 (Ev.t 5 (.g (.d (.sl 3 (List.map encApi_Dep p_0))))) rfl) (by rw [List.length_map])) rfl ⟨rfl, trivial⟩ trivial ?_
  refine G.op1 (op_move (Ev.c _ rfl) rfl) rfl trivial trivial ?_
  refine G.endOps ?_
  refine G.joinC (T := Unit) (fun y1 => ⟨[(0, .one (.g (.d (.sl 3 (List.map encApi_Dep p_0)))))], []⟩) (fun y1 => past_Check_k1 p_0 y1 = some r) (fun y1 hF => ?_) (fun J2 => ?_)
  · unfold past_Check_k1 at hF
    refine G.seq ?_
    refine G.region ?_
    refine G.op1 (op_move (Ev.t 0 (.g (.d (.sl 3 (List.map encApi_Dep p_0))))) rfl) rfl ⟨rfl, trivial⟩ trivial ?_
    refine G.op1 (OpL.cast (op_lenD Try.underlying30 (Ev.t 31 (.g (.d (.sl 3 (List.map encApi_Dep p_0))))) rfl) (by rw [List.length_map])) rfl ⟨rfl, trivial⟩ trivial ?_
    refine G.op1 (op_leq (Ev.t 32 (bI .i64 (p_0.length : Int))) (Ev.c _ rfl) rfl) rfl ⟨rfl, trivial⟩ trivial ?_
    refine G.op1 (op_assign (Ev.t 33 (bB (decide ((p_0.length : Int) ≤ 24)))) rfl) rfl ⟨rfl, trivial⟩ trivial ?_
    refine G.endOps ?_
    cases hF
    exact G.ret1 Try.results59 (RVar.tmp 2 _) ⟨rfl, trivial⟩ trivial
  refine G.block ?_
  refine G.keep (sl' := [(0, .one (.g (.d (.sl 3 (List.map encApi_Dep p_0))))), (5, .one (.g (.d (.sl 3 (List.map encApi_Dep p_0))))), (6, .one (bI .i64 (p_0.length : Int))), (7, .one (bI .i64 0))]) (hp' := []) ⟨rfl, rfl, rfl, rfl, trivial⟩ trivial rfl ?_
  refine G.loopF (fun (v3 : Int) => ⟨[(0, .one (.g (.d (.sl 3 (List.map encApi_Dep p_0))))), (5, .one (.g (.d (.sl 3 (List.map encApi_Dep p_0))))), (6, .one (bI .i64 (p_0.length : Int))), (7, .one (bI .i64 v3))], []⟩) hF rfl (fun K6 again5 v3 J4 hF => ?_)
  unfold past_Check_l2 at hF
  refine G.seq ?_
  refine G.region ?_
  refine G.op1 (op_lss (Ev.t 7 (bI .i64 v3)) (Ev.t 6 (bI .i64 (p_0.length : Int))) rfl) rfl ⟨rfl, rfl, trivial⟩ trivial ?_
  refine G.endOps ?_
  refine G.seq ?_
  refine ifS hF (fun hc7 hF => ?_) (fun hc7 hF => ?_)
  · refine G.cond rfl (fun _ => ?_) (fun hx => by rw [hc7] at hx; cases hx)
    refine G.skip ?_
    refine G.seq ?_
    refine G.block ?_
    refine G.seq ?_
    refine G.region ?_
    refine G.op1 (op_move (Ev.t 7 (bI .i64 v3)) rfl) rfl ⟨rfl, trivial⟩ trivial ?_
    obtain ⟨x8, hx8, hF⟩ := bindS hF
    refine G.op1 (op_index (cs := [.v (.string x8.Key), .v (.int .i64 x8.Stamp.N), .v (.int .i64 x8.Stamp.Site)]) Try.underlying30 ti39 (idx_ok hx8).1 (idx_get hx8 encApi_Dep) (Ev.t 5 (.g (.d (.sl 3 (List.map encApi_Dep p_0))))) (Ev.t 7 (bI .i64 v3)) rfl) rfl ⟨rfl, rfl, trivial⟩ trivial ?_
    refine G.op1 (op_loadAE (ds := [.v (.string x8.Key), .v (.int .i64 x8.Stamp.N), .v (.int .i64 x8.Stamp.Site)]) Try.underlying39 rfl ti39 rfl (Ev.t 10 (.ep [.v (.string x8.Key), .v (.int .i64 x8.Stamp.N), .v (.int .i64 x8.Stamp.Site)])) rfl) rfl ⟨rfl, trivial⟩ trivial ?_
    refine G.op2 (op_alloc (k := 1004) (cs := [bS ByteArray.empty, bI .i64 0, bI .i64 0]) ti39 ⟨.v _ rfl, .v _ rfl, .v _ rfl, trivial⟩ rfl) rfl trivial ⟨rfl, trivial⟩ ?_
    refine G.op1 (op_assign (Ev.t 9 (bI .i64 v3)) rfl) rfl ⟨rfl, trivial⟩ trivial ?_
    refine G.op3 (op_storeA (cs' := [bS x8.Key, bI .i64 x8.Stamp.N, bI .i64 x8.Stamp.Site]) ti39 rfl rfl (Ev.t 4 (.ptr 1004 0)) (Ev.t 11 (.g (.agg [.v (.string x8.Key), .v (.int .i64 x8.Stamp.N), .v (.int .i64 x8.Stamp.Site)])))) rfl ⟨rfl, rfl, trivial⟩ ⟨rfl, trivial⟩ ?_
    refine G.endOps ?_
    refine G.seq ?_
    obtain ⟨r9, hr9, hF⟩ := bindS hF
    refine ifS hF (fun hc10 hF => ?_) (fun hc10 hF => ?_)
    · refine G.drawn (effs := [⟨[(4, .one (.ptr 1004 0))], [(1004, some (.blk 39 [bS x8.Key, bI .i64 x8.Stamp.N, bI .i64 x8.Stamp.Site]))], [(12, .one (.g (.agg [.v (.string x8.Key), .v (.int .i64 x8.Stamp.N), .v (.int .i64 x8.Stamp.Site)])))], []⟩, ⟨[(12, .one (.g (.agg [.v (.string x8.Key), .v (.int .i64 x8.Stamp.N), .v (.int .i64 x8.Stamp.Site)])))], [], [(13, .one (bB r9))], []⟩, ⟨[(13, .one (bB r9))], [], [(14, .one (bB true))], []⟩, ⟨[(14, .one (bB true))], [], [(15, .one (bB true))], []⟩, ⟨[(15, .one (bB true))], [], [(16, .one (.x Go.undef))], []⟩, ⟨[(15, .one (bB true))], [], [(17, .one (.x Go.undef))], []⟩, ⟨[(15, .one (bB true))], [], [(18, .one (.x Go.undef))], []⟩, ⟨[(18, .one (.x Go.undef))], [], [(19, .one (.x Go.undef))], []⟩, ⟨[(18, .one (.x Go.undef))], [], [(20, .one (.x Go.undef))], []⟩, ⟨[(18, .one (.x Go.undef))], [], [(21, .one (.x Go.undef))], []⟩, ⟨[(18, .one (.x Go.undef))], [], [(22, .one (.x Go.undef))], []⟩, ⟨[(18, .one (.x Go.undef))], [], [(23, .one (.x Go.undef))], []⟩, ⟨[(18, .one (.x Go.undef))], [], [(24, .one (.x Go.undef))], []⟩, ⟨[(18, .one (.x Go.undef))], [], [(25, .one (.x Go.undef))], []⟩, ⟨[(18, .one (.x Go.undef))], [], [(26, .one (.x Go.undef))], []⟩, ⟨[(18, .one (.x Go.undef))], [], [(27, .one (.x Go.undef))], []⟩, ⟨[(15, .one (bB true))], [], [(28, .one (.x Go.undef))], []⟩, ⟨[(15, .one (bB true))], [], [(29, .one (bB true))], []⟩]) (deps := [[], [0], [0, 1], [0, 1, 2], [0, 1, 2, 3], [0, 1, 2, 3, 4], [0, 1, 2, 3, 4, 5], [0, 1, 2, 3, 4, 5, 6], [0, 1, 2, 3, 4, 5, 6], [0, 1, 2, 3, 4, 5, 6, 8], [0, 1, 2, 3, 4, 5, 6, 7, 8, 9], [0, 1, 2, 3, 4, 5, 6, 7, 8, 9, 10], [0, 1, 2, 3, 4, 5, 6, 7, 8, 9, 10, 11], [0, 1, 2, 3, 4, 5, 6], [0, 1, 2, 3, 4, 5, 6, 13], [0, 1, 2, 3, 4, 5, 6, 7, 8, 9, 10, 11, 12, 13, 14], [0, 1, 2, 3, 4, 5, 6, 7, 8, 9, 10, 11, 12, 13, 14, 15], [0, 1, 2, 3, 4, 5, 6, 7, 8, 9, 10, 11, 12, 13, 14, 15, 16]]) (sl' := [(0, .one (.g (.d (.sl 3 (List.map encApi_Dep p_0))))), (5, .one (.g (.d (.sl 3 (List.map encApi_Dep p_0))))), (6, .one (bI .i64 (p_0.length : Int))), (7, .one (bI .i64 v3)), (29, .one (bB true))]) (hp' := []) follows rfl rfl rfl ⟨⟨rfl, trivial⟩, ⟨⟨rfl, rfl⟩, trivial⟩, ⟨rfl, trivial⟩, trivial, ⟨rfl, trivial⟩, trivial, ⟨rfl, trivial⟩, trivial, ⟨rfl, trivial⟩, trivial, ⟨rfl, trivial⟩, trivial, ⟨rfl, trivial⟩, trivial, ⟨rfl, trivial⟩, trivial, ⟨rfl, trivial⟩, trivial, ⟨rfl, trivial⟩, trivial, ⟨rfl, trivial⟩, trivial, ⟨rfl, trivial⟩, trivial, ⟨rfl, trivial⟩, trivial, ⟨rfl, trivial⟩, trivial, ⟨rfl, trivial⟩, trivial, ⟨rfl, trivial⟩, trivial, ⟨rfl, trivial⟩, trivial, ⟨rfl, trivial⟩, trivial, trivial⟩ ⟨OpW.plain (op_loadAP (ds := [.v (.string x8.Key), .v (.int .i64 x8.Stamp.N), .v (.int .i64 x8.Stamp.Site)]) Try.underlying39 rfl ti39 rfl (Ev.t 4 (.ptr 1004 0)) rfl) rfl rfl, OpW.plain (op_callQ (sv := .one (bB r9)) cf66 (ct_past_may x8 r9 hr9) rfl rfl (EvQL.cons (EvQ.g (Ev.t 12 (.g (.agg [.v (.string x8.Key), .v (.int .i64 x8.Stamp.N), .v (.int .i64 x8.Stamp.Site)])))) EvQL.nil) rfl) rfl rfl, OpW.plain (OpL.cast (op_not (Ev.t 13 (bB r9)) rfl) (congrArg (fun b => bB b) hc10)) rfl rfl, OpW.plain (op_move (Ev.t 14 (bB true)) rfl) rfl rfl, OpW.no rfl rfl rfl rfl rfl, OpW.no rfl rfl rfl rfl rfl, OpW.no rfl rfl rfl rfl rfl, OpW.un rfl rfl rfl rfl, OpW.un rfl rfl rfl rfl, OpW.un rfl rfl rfl rfl, OpW.un rfl rfl rfl rfl, OpW.un rfl rfl rfl rfl, OpW.un rfl rfl rfl rfl, OpW.un rfl rfl rfl rfl, OpW.un rfl rfl rfl rfl, OpW.un rfl rfl rfl rfl, OpW.no rfl rfl rfl rfl rfl, OpW.plain (op_pickT (Ev.t 15 (bB true)) (Ev.c _ rfl) rfl) rfl rfl, trivial⟩ ⟨rfl, rfl, rfl, rfl, rfl, trivial⟩ trivial rfl ?_
      refine G.condT rfl ?_
      refine G.seq ?_
      refine G.region ?_
      refine G.op1 (op_assign (Ev.c _ rfl) rfl) rfl trivial trivial ?_
      refine G.endOps ?_
      cases hF
      exact G.ret1 Try.results59 (RVar.tmp 2 _) ⟨rfl, trivial⟩ trivial
    · refine ifS hF (fun hc11 hF => ?_) (fun hc11 hF => ?_)
      · obtain ⟨x12, hx12, hF⟩ := bindS hF
        refine G.drawn (effs := [⟨[(4, .one (.ptr 1004 0))], [(1004, some (.blk 39 [bS x8.Key, bI .i64 x8.Stamp.N, bI .i64 x8.Stamp.Site]))], [(12, .one (.g (.agg [.v (.string x8.Key), .v (.int .i64 x8.Stamp.N), .v (.int .i64 x8.Stamp.Site)])))], []⟩, ⟨[(12, .one (.g (.agg [.v (.string x8.Key), .v (.int .i64 x8.Stamp.N), .v (.int .i64 x8.Stamp.Site)])))], [], [(13, .one (bB r9))], []⟩, ⟨[(13, .one (bB r9))], [], [(14, .one (bB false))], []⟩, ⟨[(14, .one (bB false))], [], [(15, .one (bB false))], []⟩, ⟨[(15, .one (bB false)), (3, .one (bI .i64 v3))], [], [(16, .one (bI .i64 v3))], []⟩, ⟨[(15, .one (bB false)), (16, .one (bI .i64 v3))], [], [(17, .one (bB true))], []⟩, ⟨[(15, .one (bB false)), (17, .one (bB true))], [], [(18, .one (bB true))], []⟩, ⟨[(18, .one (bB true)), (0, .one (.g (.d (.sl 3 (List.map encApi_Dep p_0)))))], [], [(19, .one (.g (.d (.sl 3 (List.map encApi_Dep p_0)))))], []⟩, ⟨[(18, .one (bB true)), (3, .one (bI .i64 v3))], [], [(20, .one (bI .i64 v3))], []⟩, ⟨[(18, .one (bB true)), (20, .one (bI .i64 v3))], [], [(21, .one (bI .i64 (IntKind.wrap .i64 (v3 - 1))))], []⟩, ⟨[(18, .one (bB true)), (19, .one (.g (.d (.sl 3 (List.map encApi_Dep p_0))))), (21, .one (bI .i64 (IntKind.wrap .i64 (v3 - 1))))], [], [(22, .one (.ep [.v (.string x12.Key), .v (.int .i64 x12.Stamp.N), .v (.int .i64 x12.Stamp.Site)]))], []⟩, ⟨[(18, .one (bB true)), (22, .one (.ep [.v (.string x12.Key), .v (.int .i64 x12.Stamp.N), .v (.int .i64 x12.Stamp.Site)]))], [], [(23, .one (.ep [.v (.string x12.Key), .v (.int .i64 x12.Stamp.N), .v (.int .i64 x12.Stamp.Site)]))], []⟩, ⟨[(18, .one (bB true)), (23, .one (.ep [.v (.string x12.Key), .v (.int .i64 x12.Stamp.N), .v (.int .i64 x12.Stamp.Site)]))], [], [(24, .one (bS x12.Key))], []⟩, ⟨[(18, .one (bB true)), (4, .one (.ptr 1004 0))], [], [(25, .one (.ptr 1004 0))], []⟩, ⟨[(18, .one (bB true)), (25, .one (.ptr 1004 0))], [(1004, some (.blk 39 [bS x8.Key, bI .i64 x8.Stamp.N, bI .i64 x8.Stamp.Site]))], [(26, .one (bS x8.Key))], []⟩, ⟨[(18, .one (bB true)), (24, .one (bS x12.Key)), (26, .one (bS x8.Key))], [], [(27, .one (bB (!slt x12.Key x8.Key)))], []⟩, ⟨[(15, .one (bB false)), (18, .one (bB true)), (27, .one (bB (!slt x12.Key x8.Key)))], [], [(28, .one (bB (!slt x12.Key x8.Key)))], []⟩, ⟨[(15, .one (bB false)), (28, .one (bB (!slt x12.Key x8.Key)))], [], [(29, .one (bB (!slt x12.Key x8.Key)))], []⟩]) (deps := [[], [0], [0, 1], [0, 1, 2], [0, 1, 2, 3], [0, 1, 2, 3, 4], [0, 1, 2, 3, 4, 5], [0, 1, 2, 3, 4, 5, 6], [0, 1, 2, 3, 4, 5, 6], [0, 1, 2, 3, 4, 5, 6, 8], [0, 1, 2, 3, 4, 5, 6, 7, 8, 9], [0, 1, 2, 3, 4, 5, 6, 7, 8, 9, 10], [0, 1, 2, 3, 4, 5, 6, 7, 8, 9, 10, 11], [0, 1, 2, 3, 4, 5, 6], [0, 1, 2, 3, 4, 5, 6, 13], [0, 1, 2, 3, 4, 5, 6, 7, 8, 9, 10, 11, 12, 13, 14], [0, 1, 2, 3, 4, 5, 6, 7, 8, 9, 10, 11, 12, 13, 14, 15], [0, 1, 2, 3, 4, 5, 6, 7, 8, 9, 10, 11, 12, 13, 14, 15, 16]]) (sl' := [(0, .one (.g (.d (.sl 3 (List.map encApi_Dep p_0))))), (5, .one (.g (.d (.sl 3 (List.map encApi_Dep p_0))))), (6, .one (bI .i64 (p_0.length : Int))), (7, .one (bI .i64 v3)), (29, .one (bB (!slt x12.Key x8.Key)))]) (hp' := []) follows rfl rfl rfl ⟨⟨rfl, trivial⟩, ⟨⟨rfl, rfl⟩, trivial⟩, ⟨rfl, trivial⟩, trivial, ⟨rfl, trivial⟩, trivial, ⟨rfl, trivial⟩, trivial, ⟨rfl, rfl, trivial⟩, trivial, ⟨rfl, rfl, trivial⟩, trivial, ⟨rfl, rfl, trivial⟩, trivial, ⟨rfl, rfl, trivial⟩, trivial, ⟨rfl, rfl, trivial⟩, trivial, ⟨rfl, rfl, trivial⟩, trivial, ⟨rfl, rfl, rfl, trivial⟩, trivial, ⟨rfl, rfl, trivial⟩, trivial, ⟨rfl, rfl, trivial⟩, trivial, ⟨rfl, rfl, trivial⟩, trivial, ⟨rfl, rfl, trivial⟩, ⟨⟨rfl, rfl⟩, trivial⟩, ⟨rfl, rfl, rfl, trivial⟩, trivial, ⟨rfl, rfl, rfl, trivial⟩, trivial, ⟨rfl, rfl, trivial⟩, trivial, trivial⟩ ⟨OpW.plain (op_loadAP (ds := [.v (.string x8.Key), .v (.int .i64 x8.Stamp.N), .v (.int .i64 x8.Stamp.Site)]) Try.underlying39 rfl ti39 rfl (Ev.t 4 (.ptr 1004 0)) rfl) rfl rfl, OpW.plain (op_callQ (sv := .one (bB r9)) cf66 (ct_past_may x8 r9 hr9) rfl rfl (EvQL.cons (EvQ.g (Ev.t 12 (.g (.agg [.v (.string x8.Key), .v (.int .i64 x8.Stamp.N), .v (.int .i64 x8.Stamp.Site)])))) EvQL.nil) rfl) rfl rfl, OpW.plain (OpL.cast (op_not (Ev.t 13 (bB r9)) rfl) (congrArg (fun b => bB b) hc10)) rfl rfl, OpW.plain (op_move (Ev.t 14 (bB false)) rfl) rfl rfl, OpW.yes (op_move (Ev.t 3 (bI .i64 v3)) rfl) rfl rfl rfl, OpW.yes (OpL.cast (op_gtr (Ev.t 16 (bI .i64 v3)) (Ev.c _ rfl) rfl) (congrArg (fun b => bB b) hc11)) rfl rfl rfl, OpW.yes (op_move (Ev.t 17 (bB true)) rfl) rfl rfl rfl, OpW.yes (op_move (Ev.t 0 (.g (.d (.sl 3 (List.map encApi_Dep p_0))))) rfl) rfl rfl rfl, OpW.yes (op_move (Ev.t 3 (bI .i64 v3)) rfl) rfl rfl rfl, OpW.yes (op_sub (Ev.t 20 (bI .i64 v3)) (Ev.c _ rfl) rfl) rfl rfl rfl, OpW.yes (op_index (cs := [.v (.string x12.Key), .v (.int .i64 x12.Stamp.N), .v (.int .i64 x12.Stamp.Site)]) Try.underlying30 ti39 (idx_ok hx12).1 (idx_get hx12 encApi_Dep) (Ev.t 19 (.g (.d (.sl 3 (List.map encApi_Dep p_0))))) (Ev.t 21 (bI .i64 (IntKind.wrap .i64 (v3 - 1)))) rfl) rfl rfl rfl, OpW.yes (op_fieldE (cs' := [.v (.string x12.Key), .v (.int .i64 x12.Stamp.N), .v (.int .i64 x12.Stamp.Site)]) Try.underlying39 rfl ti9 (by decide) rfl (Ev.t 22 (.ep [.v (.string x12.Key), .v (.int .i64 x12.Stamp.N), .v (.int .i64 x12.Stamp.Site)])) rfl) rfl rfl rfl, OpW.yes (op_load1E (c := .v (.string x12.Key)) Try.underlying9 rfl rfl (Ev.t 23 (.ep [.v (.string x12.Key), .v (.int .i64 x12.Stamp.N), .v (.int .i64 x12.Stamp.Site)])) rfl) rfl rfl rfl, OpW.yes (op_fieldP (off' := 0) Try.underlying39 rfl ti9 (by decide) rfl (Ev.t 4 (.ptr 1004 0)) rfl) rfl rfl rfl, OpW.yes (op_load1P (c := bS x8.Key) Try.underlying9 rfl rfl (Ev.t 25 (.ptr 1004 0)) rfl) rfl rfl rfl, OpW.yes (op_geS (Ev.t 24 (bS x12.Key)) (Ev.t 26 (bS x8.Key)) rfl) rfl rfl rfl, OpW.yes (op_pickT (Ev.t 18 (bB true)) (Ev.t 27 (bB (!slt x12.Key x8.Key))) rfl) rfl rfl rfl, OpW.plain (op_pickF (Ev.t 15 (bB false)) (Ev.t 28 (bB (!slt x12.Key x8.Key))) rfl) rfl rfl, trivial⟩ ⟨rfl, rfl, rfl, rfl, rfl, trivial⟩ trivial rfl ?_
        refine ifS hF (fun hc13 hF => ?_) (fun hc13 hF => ?_)
        · refine G.cond rfl (fun _ => ?_) (fun hx => by rw [hc13] at hx; cases hx)
          refine G.seq ?_
          refine G.region ?_
          refine G.op1 (op_assign (Ev.c _ rfl) rfl) rfl trivial trivial ?_
          refine G.endOps ?_
          cases hF
          exact G.ret1 Try.results59 (RVar.tmp 2 _) ⟨rfl, trivial⟩ trivial
        · refine G.cond rfl (fun hx => by rw [hc13] at hx; cases hx) (fun _ => ?_)
          refine G.skip ?_
          refine G.endBlock ?_
          refine G.region ?_
          refine G.op1 (op_add (Ev.t 7 (bI .i64 v3)) (Ev.c _ rfl) rfl) rfl ⟨rfl, trivial⟩ trivial ?_
          refine G.op1 (op_move (Ev.t 30 (bI .i64 (IntKind.wrap .i64 (v3 + 1)))) rfl) rfl ⟨rfl, trivial⟩ trivial ?_
          refine G.endOps ?_
          exact G.arr (J4 (IntKind.wrap .i64 (v3 + 1)) hF) ⟨rfl, rfl, rfl, rfl, trivial⟩ trivial rfl
      · refine G.drawn (effs := [⟨[(4, .one (.ptr 1004 0))], [(1004, some (.blk 39 [bS x8.Key, bI .i64 x8.Stamp.N, bI .i64 x8.Stamp.Site]))], [(12, .one (.g (.agg [.v (.string x8.Key), .v (.int .i64 x8.Stamp.N), .v (.int .i64 x8.Stamp.Site)])))], []⟩, ⟨[(12, .one (.g (.agg [.v (.string x8.Key), .v (.int .i64 x8.Stamp.N), .v (.int .i64 x8.Stamp.Site)])))], [], [(13, .one (bB r9))], []⟩, ⟨[(13, .one (bB r9))], [], [(14, .one (bB false))], []⟩, ⟨[(14, .one (bB false))], [], [(15, .one (bB false))], []⟩, ⟨[(15, .one (bB false)), (3, .one (bI .i64 v3))], [], [(16, .one (bI .i64 v3))], []⟩, ⟨[(15, .one (bB false)), (16, .one (bI .i64 v3))], [], [(17, .one (bB false))], []⟩, ⟨[(15, .one (bB false)), (17, .one (bB false))], [], [(18, .one (bB false))], []⟩, ⟨[(18, .one (bB false))], [], [(19, .one (.x Go.undef))], []⟩, ⟨[(18, .one (bB false))], [], [(20, .one (.x Go.undef))], []⟩, ⟨[(18, .one (bB false))], [], [(21, .one (.x Go.undef))], []⟩, ⟨[(18, .one (bB false))], [], [(22, .one (.x Go.undef))], []⟩, ⟨[(18, .one (bB false))], [], [(23, .one (.x Go.undef))], []⟩, ⟨[(18, .one (bB false))], [], [(24, .one (.x Go.undef))], []⟩, ⟨[(18, .one (bB false))], [], [(25, .one (.x Go.undef))], []⟩, ⟨[(18, .one (bB false))], [], [(26, .one (.x Go.undef))], []⟩, ⟨[(18, .one (bB false))], [], [(27, .one (.x Go.undef))], []⟩, ⟨[(15, .one (bB false)), (18, .one (bB false))], [], [(28, .one (bB false))], []⟩, ⟨[(15, .one (bB false)), (28, .one (bB false))], [], [(29, .one (bB false))], []⟩]) (deps := [[], [0], [0, 1], [0, 1, 2], [0, 1, 2, 3], [0, 1, 2, 3, 4], [0, 1, 2, 3, 4, 5], [0, 1, 2, 3, 4, 5, 6], [0, 1, 2, 3, 4, 5, 6], [0, 1, 2, 3, 4, 5, 6, 8], [0, 1, 2, 3, 4, 5, 6, 7, 8, 9], [0, 1, 2, 3, 4, 5, 6, 7, 8, 9, 10], [0, 1, 2, 3, 4, 5, 6, 7, 8, 9, 10, 11], [0, 1, 2, 3, 4, 5, 6], [0, 1, 2, 3, 4, 5, 6, 13], [0, 1, 2, 3, 4, 5, 6, 7, 8, 9, 10, 11, 12, 13, 14], [0, 1, 2, 3, 4, 5, 6, 7, 8, 9, 10, 11, 12, 13, 14, 15], [0, 1, 2, 3, 4, 5, 6, 7, 8, 9, 10, 11, 12, 13, 14, 15, 16]]) (sl' := [(0, .one (.g (.d (.sl 3 (List.map encApi_Dep p_0))))), (5, .one (.g (.d (.sl 3 (List.map encApi_Dep p_0))))), (6, .one (bI .i64 (p_0.length : Int))), (7, .one (bI .i64 v3)), (29, .one (bB false))]) (hp' := []) follows rfl rfl rfl ⟨⟨rfl, trivial⟩, ⟨⟨rfl, rfl⟩, trivial⟩, ⟨rfl, trivial⟩, trivial, ⟨rfl, trivial⟩, trivial, ⟨rfl, trivial⟩, trivial, ⟨rfl, rfl, trivial⟩, trivial, ⟨rfl, rfl, trivial⟩, trivial, ⟨rfl, rfl, trivial⟩, trivial, ⟨rfl, trivial⟩, trivial, ⟨rfl, trivial⟩, trivial, ⟨rfl, trivial⟩, trivial, ⟨rfl, trivial⟩, trivial, ⟨rfl, trivial⟩, trivial, ⟨rfl, trivial⟩, trivial, ⟨rfl, trivial⟩, trivial, ⟨rfl, trivial⟩, trivial, ⟨rfl, trivial⟩, trivial, ⟨rfl, rfl, trivial⟩, trivial, ⟨rfl, rfl, trivial⟩, trivial, trivial⟩ ⟨OpW.plain (op_loadAP (ds := [.v (.string x8.Key), .v (.int .i64 x8.Stamp.N), .v (.int .i64 x8.Stamp.Site)]) Try.underlying39 rfl ti39 rfl (Ev.t 4 (.ptr 1004 0)) rfl) rfl rfl, OpW.plain (op_callQ (sv := .one (bB r9)) cf66 (ct_past_may x8 r9 hr9) rfl rfl (EvQL.cons (EvQ.g (Ev.t 12 (.g (.agg [.v (.string x8.Key), .v (.int .i64 x8.Stamp.N), .v (.int .i64 x8.Stamp.Site)])))) EvQL.nil) rfl) rfl rfl, OpW.plain (OpL.cast (op_not (Ev.t 13 (bB r9)) rfl) (congrArg (fun b => bB b) hc10)) rfl rfl, OpW.plain (op_move (Ev.t 14 (bB false)) rfl) rfl rfl, OpW.yes (op_move (Ev.t 3 (bI .i64 v3)) rfl) rfl rfl rfl, OpW.yes (OpL.cast (op_gtr (Ev.t 16 (bI .i64 v3)) (Ev.c _ rfl) rfl) (congrArg (fun b => bB b) hc11)) rfl rfl rfl, OpW.yes (op_move (Ev.t 17 (bB false)) rfl) rfl rfl rfl, OpW.no rfl rfl rfl rfl rfl, OpW.no rfl rfl rfl rfl rfl, OpW.no rfl rfl rfl rfl rfl, OpW.no rfl rfl rfl rfl rfl, OpW.no rfl rfl rfl rfl rfl, OpW.no rfl rfl rfl rfl rfl, OpW.no rfl rfl rfl rfl rfl, OpW.no rfl rfl rfl rfl rfl, OpW.no rfl rfl rfl rfl rfl, OpW.yes (op_pickF (Ev.t 18 (bB false)) (Ev.c _ rfl) rfl) rfl rfl rfl, OpW.plain (op_pickF (Ev.t 15 (bB false)) (Ev.t 28 (bB false)) rfl) rfl rfl, trivial⟩ ⟨rfl, rfl, rfl, rfl, rfl, trivial⟩ trivial rfl ?_
        refine G.condF rfl ?_
        refine G.skip ?_
        refine G.endBlock ?_
        refine G.region ?_
        refine G.op1 (op_add (Ev.t 7 (bI .i64 v3)) (Ev.c _ rfl) rfl) rfl ⟨rfl, trivial⟩ trivial ?_
        refine G.op1 (op_move (Ev.t 30 (bI .i64 (IntKind.wrap .i64 (v3 + 1)))) rfl) rfl ⟨rfl, trivial⟩ trivial ?_
        refine G.endOps ?_
        exact G.arr (J4 (IntKind.wrap .i64 (v3 + 1)) hF) ⟨rfl, rfl, rfl, rfl, trivial⟩ trivial rfl
  · refine G.cond rfl (fun hx => by rw [hc7] at hx; cases hx) (fun _ => ?_)
    refine G.exit ?_
    refine GX.c ?_
    refine GX.q ?_
    refine GX.bYes ?_
    exact G.arr (J2 () hF) ⟨rfl, trivial⟩ trivial rfl


set_option maxRecDepth 20000 in
set_option maxHeartbeats 2000000 in
theorem ct_wire_Check (v_0 : Api_Version) (r : Bool) (hF : wire_Check v_0 = some r) : Ct Try.prog 45 [.g (.agg (encApi_Version v_0))] (.one (.d (.v (.bool r)))) := by
  unfold wire_Check at hF
  refine Ct.intro Try.func45 rfl Try.ntmps45 rfl rfl fun M w => ?_
  refine G.seq ?_
  refine G.region ?_
  refine G.op2 (op_boxA (k := 1001) (Ev.t 0 (.g (.agg [.v (.string v_0.Key), .v (.string v_0.Value), .v (.bool v_0.Gone), .v (.int .i64 v_0.Stamp.N), .v (.int .i64 v_0.Stamp.Site), .sl 3 (List.map encApi_Dep v_0.Past)]))) rfl) rfl ⟨rfl, trivial⟩ ⟨rfl, trivial⟩ ?_
  refine G.op1 (op_assign (Ev.c _ rfl) rfl) rfl trivial trivial ?_
  refine G.endOps ?_
  refine G.seq ?_
  refine G.region ?_
  refine G.op1 (op_fieldP (off' := 0) Try.underlying32 rfl ti9 (by decide) rfl (Ev.t 1 (.ptr 1001 0)) rfl) rfl ⟨rfl, trivial⟩ trivial ?_
  refine G.op1 (op_load1P (c := bS v_0.Key) Try.underlying9 rfl rfl (Ev.t 3 (.ptr 1001 0)) rfl) rfl ⟨rfl, trivial⟩ ⟨rfl, trivial⟩ ?_
  obtain ⟨r1, hr1, hF⟩ := bindS hF
  refine G.op1 (op_callQ (sv := .one (bB r1)) cf57 (ct_keys_Check v_0.Key r1 hr1) rfl rfl (EvQL.cons (EvQ.g (Ev.t 4 (bS v_0.Key))) EvQL.nil) rfl) rfl ⟨rfl, trivial⟩ trivial ?_
  refine G.op1 (op_move (Ev.t 5 (bB r1)) rfl) rfl ⟨rfl, trivial⟩ trivial ?_
  refine G.joinL (T := Bool) 4 (fun y2 => ⟨[(1, .one (.ptr 1001 0)), (10, .one (bB y2))], [(1001, some (.blk 32 [bS v_0.Key, bS v_0.Value, bB v_0.Gone, bI .i64 v_0.Stamp.N, bI .i64 v_0.Stamp.Site, .g (.d (.sl 3 (List.map encApi_Dep v_0.Past)))]))]⟩) (fun y2 => wire_Check_k1 v_0 y2 = some r) (fun y2 hF => ?_) (fun J12 => ?_)
  · unfold wire_Check_k1 at hF
    refine G.op1 (op_move (Ev.t 10 (bB y2)) rfl) rfl ⟨rfl, trivial⟩ trivial ?_
    refine G.joinL (T := Bool) 4 (fun y3 => ⟨[(1, .one (.ptr 1001 0)), (15, .one (bB y3))], [(1001, some (.blk 32 [bS v_0.Key, bS v_0.Value, bB v_0.Gone, bI .i64 v_0.Stamp.N, bI .i64 v_0.Stamp.Site, .g (.d (.sl 3 (List.map encApi_Dep v_0.Past)))]))]⟩) (fun y3 => wire_Check_k2 v_0 y3 = some r) (fun y3 hF => ?_) (fun J9 => ?_)
    · unfold wire_Check_k2 at hF
      refine G.op1 (op_move (Ev.t 15 (bB y3)) rfl) rfl ⟨rfl, trivial⟩ trivial ?_
      refine G.joinL (T := Bool) 5 (fun y4 => ⟨[(1, .one (.ptr 1001 0)), (21, .one (bB y4))], [(1001, some (.blk 32 [bS v_0.Key, bS v_0.Value, bB v_0.Gone, bI .i64 v_0.Stamp.N, bI .i64 v_0.Stamp.Site, .g (.d (.sl 3 (List.map encApi_Dep v_0.Past)))]))]⟩) (fun y4 => wire_Check_k3 v_0 y4 = some r) (fun y4 hF => ?_) (fun J7 => ?_)
      · unfold wire_Check_k3 at hF
        refine G.op1 (op_move (Ev.t 21 (bB y4)) rfl) rfl ⟨rfl, trivial⟩ trivial ?_
        refine ifS hF (fun hc5 hF => ?_) (fun hc5 hF => ?_)
        · refine G.known (t := 22) hc5 rfl ?_
          refine G.opG1 (op_fieldP (off' := 2) Try.underlying32 rfl ti4 (by decide) rfl (Ev.t 1 (.ptr 1001 0)) rfl) rfl rfl rfl ⟨rfl, trivial⟩ trivial ?_
          refine G.opG1 (op_load1P (c := bB v_0.Gone) Try.underlying4 rfl rfl (Ev.t 23 (.ptr 1001 2)) rfl) rfl rfl rfl ⟨rfl, trivial⟩ ⟨rfl, trivial⟩ ?_
          refine G.opG1 (op_not (Ev.t 24 (bB v_0.Gone)) rfl) rfl rfl rfl ⟨rfl, trivial⟩ trivial ?_
          refine G.opG1 (op_move (Ev.t 25 (bB (!v_0.Gone))) rfl) rfl rfl rfl ⟨rfl, trivial⟩ trivial ?_
          refine ifS hF (fun hc6 hF => ?_) (fun hc6 hF => ?_)
          · refine G.known (t := 26) hc6 rfl ?_
            refine G.opN1 rfl rfl rfl rfl rfl ?_
            refine G.opN1 rfl rfl rfl rfl rfl ?_
            refine G.opN1 rfl rfl rfl rfl rfl ?_
            refine G.opG1 (op_pickT (Ev.t 26 (bB true)) (Ev.c _ rfl) rfl) rfl rfl rfl ⟨rfl, trivial⟩ trivial ?_
            refine G.op1 (op_pickT (Ev.t 22 (bB true)) (Ev.t 30 (bB true)) rfl) rfl ⟨rfl, rfl, trivial⟩ trivial ?_
            refine G.op1 (op_assign (Ev.t 31 (bB true)) rfl) rfl ⟨rfl, trivial⟩ trivial ?_
            refine G.endOps ?_
            cases hF
            exact G.ret1 Try.results45 (RVar.tmp 2 _) ⟨rfl, trivial⟩ trivial
          · refine G.known (t := 26) hc6 rfl ?_
            refine G.opG1 (op_fieldP (off' := 1) Try.underlying32 rfl ti9 (by decide) rfl (Ev.t 1 (.ptr 1001 0)) rfl) rfl rfl rfl ⟨rfl, trivial⟩ trivial ?_
            refine G.opG1 (op_load1P (c := bS v_0.Value) Try.underlying9 rfl rfl (Ev.t 27 (.ptr 1001 1)) rfl) rfl rfl rfl ⟨rfl, trivial⟩ ⟨rfl, trivial⟩ ?_
            refine G.opG1 (op_eqS (Ev.t 28 (bS v_0.Value)) (Ev.c _ rfl) rfl) rfl rfl rfl ⟨rfl, trivial⟩ trivial ?_
            refine G.opG1 (op_pickF (Ev.t 26 (bB false)) (Ev.t 29 (bB (seq v_0.Value ByteArray.empty))) rfl) rfl rfl rfl ⟨rfl, rfl, trivial⟩ trivial ?_
            refine G.op1 (op_pickT (Ev.t 22 (bB true)) (Ev.t 30 (bB (seq v_0.Value ByteArray.empty))) rfl) rfl ⟨rfl, rfl, trivial⟩ trivial ?_
            refine G.op1 (op_assign (Ev.t 31 (bB (seq v_0.Value ByteArray.empty))) rfl) rfl ⟨rfl, trivial⟩ trivial ?_
            refine G.endOps ?_
            cases hF
            exact G.ret1 Try.results45 (RVar.tmp 2 _) ⟨rfl, trivial⟩ trivial
        · refine G.known (t := 22) hc5 rfl ?_
          refine G.opN1 rfl rfl rfl rfl rfl ?_
          refine G.opN1 rfl rfl rfl rfl rfl ?_
          refine G.opN1 rfl rfl rfl rfl rfl ?_
          refine G.opN1 rfl rfl rfl rfl rfl ?_
          refine G.opU rfl rfl rfl rfl ?_
          refine G.opU rfl rfl rfl rfl ?_
          refine G.opU rfl rfl rfl rfl ?_
          refine G.opN1 rfl rfl rfl rfl rfl ?_
          refine G.op1 (op_pickF (Ev.t 22 (bB false)) (Ev.c _ rfl) rfl) rfl ⟨rfl, trivial⟩ trivial ?_
          refine G.op1 (op_assign (Ev.t 31 (bB false)) rfl) rfl ⟨rfl, trivial⟩ trivial ?_
          refine G.endOps ?_
          cases hF
          exact G.ret1 Try.results45 (RVar.tmp 2 _) ⟨rfl, trivial⟩ trivial
      refine ifS hF (fun hc8 hF => ?_) (fun hc8 hF => ?_)
      · refine G.known (t := 16) hc8 rfl ?_
        refine G.opG1 (op_fieldP (off' := 1) Try.underlying32 rfl ti9 (by decide) rfl (Ev.t 1 (.ptr 1001 0)) rfl) rfl rfl rfl ⟨rfl, trivial⟩ trivial ?_
        refine G.opG1 (op_load1P (c := bS v_0.Value) Try.underlying9 rfl rfl (Ev.t 17 (.ptr 1001 1)) rfl) rfl rfl rfl ⟨rfl, trivial⟩ ⟨rfl, trivial⟩ ?_
        refine G.opG1 (op_lenS Try.underlying9 (Ev.t 18 (bS v_0.Value)) rfl) rfl rfl rfl ⟨rfl, trivial⟩ trivial ?_
        refine G.opG1 (op_leq (Ev.t 19 (bI .i64 (v_0.Value.size : Int))) (Ev.c _ rfl) rfl) rfl rfl rfl ⟨rfl, trivial⟩ trivial ?_
        refine G.op1 (op_pickT (Ev.t 16 (bB true)) (Ev.t 20 (bB (decide ((v_0.Value.size : Int) ≤ 32)))) rfl) rfl ⟨rfl, rfl, trivial⟩ trivial ?_
        exact G.arr (J7 (decide ((v_0.Value.size : Int) ≤ 32)) hF) ⟨rfl, rfl, trivial⟩ ⟨rfl, trivial⟩ rfl
      · refine G.known (t := 16) hc8 rfl ?_
        refine G.opN1 rfl rfl rfl rfl rfl ?_
        refine G.opN1 rfl rfl rfl rfl rfl ?_
        refine G.opN1 rfl rfl rfl rfl rfl ?_
        refine G.opN1 rfl rfl rfl rfl rfl ?_
        refine G.op1 (op_pickF (Ev.t 16 (bB false)) (Ev.c _ rfl) rfl) rfl ⟨rfl, trivial⟩ trivial ?_
        exact G.arr (J7 false hF) ⟨rfl, rfl, trivial⟩ ⟨rfl, trivial⟩ rfl
    refine ifS hF (fun hc10 hF => ?_) (fun hc10 hF => ?_)
    · refine G.known (t := 11) hc10 rfl ?_
      refine G.opG1 (op_fieldP (off' := 5) Try.underlying32 rfl ti30 (by decide) rfl (Ev.t 1 (.ptr 1001 0)) rfl) rfl rfl rfl ⟨rfl, trivial⟩ trivial ?_
      refine G.opG1 (op_load1P (c := .g (.d (.sl 3 (List.map encApi_Dep v_0.Past)))) Try.underlying30 rfl rfl (Ev.t 12 (.ptr 1001 5)) rfl) rfl rfl rfl ⟨rfl, trivial⟩ ⟨rfl, trivial⟩ ?_
      obtain ⟨r11, hr11, hF⟩ := bindS hF
      refine G.opG1 (op_callQ (sv := .one (bB r11)) cf59 (ct_past_Check v_0.Past r11 hr11) rfl rfl (EvQL.cons (EvQ.g (Ev.t 13 (.g (.d (.sl 3 (List.map encApi_Dep v_0.Past)))))) EvQL.nil) rfl) rfl rfl rfl ⟨rfl, trivial⟩ trivial ?_
      refine G.op1 (op_pickT (Ev.t 11 (bB true)) (Ev.t 14 (bB r11)) rfl) rfl ⟨rfl, rfl, trivial⟩ trivial ?_
      exact G.arr (J9 r11 hF) ⟨rfl, rfl, trivial⟩ ⟨rfl, trivial⟩ rfl
    · refine G.known (t := 11) hc10 rfl ?_
      refine G.opN1 rfl rfl rfl rfl rfl ?_
      refine G.opN1 rfl rfl rfl rfl rfl ?_
      refine G.opN1 rfl rfl rfl rfl rfl ?_
      refine G.op1 (op_pickF (Ev.t 11 (bB false)) (Ev.c _ rfl) rfl) rfl ⟨rfl, trivial⟩ trivial ?_
      exact G.arr (J9 false hF) ⟨rfl, rfl, trivial⟩ ⟨rfl, trivial⟩ rfl
  refine ifS hF (fun hc13 hF => ?_) (fun hc13 hF => ?_)
  · refine G.known (t := 6) hc13 rfl ?_
    refine G.opG1 (op_fieldP (off' := 3) Try.underlying32 rfl ti29 (by decide) rfl (Ev.t 1 (.ptr 1001 0)) rfl) rfl rfl rfl ⟨rfl, trivial⟩ trivial ?_
    refine G.opG1 (op_loadAP (ds := [.v (.int .i64 v_0.Stamp.N), .v (.int .i64 v_0.Stamp.Site)]) Try.underlying29 rfl ti29 rfl (Ev.t 7 (.ptr 1001 3)) rfl) rfl rfl rfl ⟨rfl, trivial⟩ ⟨rfl, trivial⟩ ?_
    obtain ⟨r14, hr14, hF⟩ := bindS hF
    refine G.opG1 (op_callQ (sv := .one (bB r14)) cf58 (ct_stamp_Check v_0.Stamp r14 hr14) rfl rfl (EvQL.cons (EvQ.g (Ev.t 8 (.g (.agg [.v (.int .i64 v_0.Stamp.N), .v (.int .i64 v_0.Stamp.Site)])))) EvQL.nil) rfl) rfl rfl rfl ⟨rfl, trivial⟩ trivial ?_
    refine G.op1 (op_pickT (Ev.t 6 (bB true)) (Ev.t 9 (bB r14)) rfl) rfl ⟨rfl, rfl, trivial⟩ trivial ?_
    exact G.arr (J12 r14 hF) ⟨rfl, rfl, trivial⟩ ⟨rfl, trivial⟩ rfl
  · refine G.known (t := 6) hc13 rfl ?_
    refine G.opN1 rfl rfl rfl rfl rfl ?_
    refine G.opN1 rfl rfl rfl rfl rfl ?_
    refine G.opN1 rfl rfl rfl rfl rfl ?_
    refine G.op1 (op_pickF (Ev.t 6 (bB false)) (Ev.c _ rfl) rfl) rfl ⟨rfl, trivial⟩ trivial ?_
    exact G.arr (J12 false hF) ⟨rfl, rfl, trivial⟩ ⟨rfl, trivial⟩ rfl


set_option maxRecDepth 20000 in
set_option maxHeartbeats 2000000 in
theorem ct_queue_Push (l_0 : (List Api_Version)) (v_1 : Api_Version) (r : ((List Api_Version) × Int)) (hF : queue_Push l_0 v_1 = some r) : Ct Try.prog 24 [.g (.d (.sl 6 (List.map encApi_Version l_0))), .g (.agg (encApi_Version v_1))] (.tup [.d (.sl 6 (List.map encApi_Version r.1)), .d (.v (.int .i64 r.2))]) := by
  unfold queue_Push at hF
  refine Ct.intro Try.func24 rfl Try.ntmps24 rfl rfl fun M w => ?_
  refine G.seq ?_
  refine G.region ?_
  refine G.op2 (op_boxA (k := 1003) (Ev.t 1 (.g (.agg [.v (.string v_1.Key), .v (.string v_1.Value), .v (.bool v_1.Gone), .v (.int .i64 v_1.Stamp.N), .v (.int .i64 v_1.Stamp.Site), .sl 3 (List.map encApi_Dep v_1.Past)]))) rfl) rfl ⟨rfl, trivial⟩ ⟨rfl, trivial⟩ ?_
  refine G.op1 (op_assign (Ev.n 6) rfl) rfl trivial trivial ?_
  refine G.op1 (op_assign (Ev.c _ rfl) rfl) rfl trivial trivial ?_
  refine G.endOps ?_
  refine G.seq ?_
  refine G.block ?_
  refine G.seq ?_
  refine G.region ?_
  refine G.op1 (op_loadAP (ds := [.v (.string v_1.Key), .v (.string v_1.Value), .v (.bool v_1.Gone), .v (.int .i64 v_1.Stamp.N), .v (.int .i64 v_1.Stamp.Site), .sl 3 (List.map encApi_Dep v_1.Past)]) Try.underlying32 rfl ti32 rfl (Ev.t 3 (.ptr 1003 0)) rfl) rfl ⟨rfl, trivial⟩ ⟨rfl, trivial⟩ ?_
  obtain ⟨r1, hr1, hF⟩ := bindS hF
  refine G.op1 (op_callQ (sv := .one (bB r1)) cf45 (ct_wire_Check v_1 r1 hr1) rfl rfl (EvQL.cons (EvQ.g (Ev.t 7 (.g (.agg [.v (.string v_1.Key), .v (.string v_1.Value), .v (.bool v_1.Gone), .v (.int .i64 v_1.Stamp.N), .v (.int .i64 v_1.Stamp.Site), .sl 3 (List.map encApi_Dep v_1.Past)])))) EvQL.nil) rfl) rfl ⟨rfl, trivial⟩ trivial ?_
  refine G.op1 (op_not (Ev.t 8 (bB r1)) rfl) rfl ⟨rfl, trivial⟩ trivial ?_
  refine G.op1 (op_assign (Ev.t 9 (bB (!r1))) rfl) rfl ⟨rfl, trivial⟩ trivial ?_
  refine G.endOps ?_
  refine ifS hF (fun hc2 hF => ?_) (fun hc2 hF => ?_)
  · refine G.cond rfl (fun _ => ?_) (fun hx => by rw [hc2] at hx; cases hx)
    refine G.seq ?_
    refine G.region ?_
    refine G.op1 (op_assign (Ev.n 6) rfl) rfl trivial trivial ?_
    refine G.op1 (op_assign (Ev.c _ rfl) rfl) rfl trivial trivial ?_
    refine G.endOps ?_
    cases hF
    exact G.ret2 Try.results24 (RVar.tmp 4 _) (RVar.tmp 5 _) ⟨rfl, rfl, trivial⟩ trivial
  · refine G.cond rfl (fun hx => by rw [hc2] at hx; cases hx) (fun _ => ?_)
    refine G.seq ?_
    refine G.region ?_
    refine G.op1 (op_move (Ev.t 0 (.g (.d (.sl 6 (List.map encApi_Version l_0))))) rfl) rfl ⟨rfl, trivial⟩ trivial ?_
    refine G.op1 (OpL.cast (op_lenD Try.underlying24 (Ev.t 11 (.g (.d (.sl 6 (List.map encApi_Version l_0))))) rfl) (by rw [List.length_map])) rfl ⟨rfl, trivial⟩ trivial ?_
    refine G.op1 (op_geq (Ev.t 12 (bI .i64 (l_0.length : Int))) (Ev.c _ rfl) rfl) rfl ⟨rfl, trivial⟩ trivial ?_
    refine G.op1 (op_assign (Ev.t 13 (bB (decide (24 ≤ (l_0.length : Int))))) rfl) rfl ⟨rfl, trivial⟩ trivial ?_
    refine G.endOps ?_
    refine ifS hF (fun hc3 hF => ?_) (fun hc3 hF => ?_)
    · refine G.cond rfl (fun _ => ?_) (fun hx => by rw [hc3] at hx; cases hx)
      refine G.seq ?_
      refine G.region ?_
      refine G.op1 (op_assign (Ev.n 6) rfl) rfl trivial trivial ?_
      refine G.op1 (op_assign (Ev.c _ rfl) rfl) rfl trivial trivial ?_
      refine G.endOps ?_
      cases hF
      exact G.ret2 Try.results24 (RVar.tmp 4 _) (RVar.tmp 5 _) ⟨rfl, rfl, trivial⟩ trivial
    · refine G.cond rfl (fun hx => by rw [hc3] at hx; cases hx) (fun _ => ?_)
      refine G.skip ?_
      refine G.endBlock ?_
      refine G.seq ?_
      obtain ⟨l4, hl4, hF⟩ := bindS hF
      obtain ⟨l5, hl5, hF⟩ := bindS hF
      refine G.drawn (effs := [⟨[(0, .one (.g (.d (.sl 6 (List.map encApi_Version l_0)))))], [], [(14, .one (.g (.d (.sl 6 (List.map encApi_Version l_0)))))], []⟩, ⟨[(0, .one (.g (.d (.sl 6 (List.map encApi_Version l_0)))))], [], [(15, .one (.g (.d (.sl 6 (List.map encApi_Version l_0)))))], []⟩, ⟨[(15, .one (.g (.d (.sl 6 (List.map encApi_Version l_0)))))], [], [(16, .one (bI .i64 (l_0.length : Int)))], []⟩, ⟨[(0, .one (.g (.d (.sl 6 (List.map encApi_Version l_0)))))], [], [(17, .one (.g (.d (.sl 6 (List.map encApi_Version l_0)))))], []⟩, ⟨[(17, .one (.g (.d (.sl 6 (List.map encApi_Version l_0)))))], [], [(18, .one (bI .i64 (l_0.length : Int)))], []⟩, ⟨[(14, .one (.g (.d (.sl 6 (List.map encApi_Version l_0))))), (16, .one (bI .i64 (l_0.length : Int))), (18, .one (bI .i64 (l_0.length : Int)))], [], [(19, .one (.cp 6 (List.map encApi_Version l4)))], []⟩, ⟨[(3, .one (.ptr 1003 0))], [(1003, some (.blk 32 [bS v_1.Key, bS v_1.Value, bB v_1.Gone, bI .i64 v_1.Stamp.N, bI .i64 v_1.Stamp.Site, .g (.d (.sl 3 (List.map encApi_Dep v_1.Past)))]))], [(20, .one (.g (.agg [.v (.string v_1.Key), .v (.string v_1.Value), .v (.bool v_1.Gone), .v (.int .i64 v_1.Stamp.N), .v (.int .i64 v_1.Stamp.Site), .sl 3 (List.map encApi_Dep v_1.Past)])))], []⟩, ⟨[(20, .one (.g (.agg [.v (.string v_1.Key), .v (.string v_1.Value), .v (.bool v_1.Gone), .v (.int .i64 v_1.Stamp.N), .v (.int .i64 v_1.Stamp.Site), .sl 3 (List.map encApi_Dep v_1.Past)])))], [], [(21, .one (.g (.d (.sl 6 (List.map encApi_Version ([v_1]))))))], []⟩, ⟨[(19, .one (.cp 6 (List.map encApi_Version l4))), (21, .one (.g (.d (.sl 6 (List.map encApi_Version ([v_1]))))))], [], [(22, .one (.g (.d (.sl 6 (List.map encApi_Version l5)))))], []⟩, ⟨[(22, .one (.g (.d (.sl 6 (List.map encApi_Version l5)))))], [], [(4, .one (.g (.d (.sl 6 (List.map encApi_Version l5)))))], []⟩, ⟨[], [], [(5, .one (bI .i64 0))], []⟩]) (deps := [[], [], [1], [], [3], [0, 1, 2, 3, 4], [], [6], [0, 1, 2, 3, 4, 5, 6, 7], [0, 1, 2, 3, 4, 5, 6, 7, 8], [0, 1, 2, 3, 4, 5, 6, 7, 8, 9]]) (sl' := [(4, .one (.g (.d (.sl 6 (List.map encApi_Version l5))))), (5, .one (bI .i64 0))]) (hp' := []) follows rfl rfl rfl ⟨⟨rfl, trivial⟩, trivial, ⟨rfl, trivial⟩, trivial, ⟨rfl, trivial⟩, trivial, ⟨rfl, trivial⟩, trivial, ⟨rfl, trivial⟩, trivial, ⟨rfl, rfl, rfl, trivial⟩, trivial, ⟨rfl, trivial⟩, ⟨⟨rfl, rfl⟩, trivial⟩, ⟨rfl, trivial⟩, trivial, ⟨rfl, rfl, trivial⟩, trivial, ⟨rfl, trivial⟩, trivial, trivial, trivial, trivial⟩ ⟨OpW.plain (op_move (Ev.t 0 (.g (.d (.sl 6 (List.map encApi_Version l_0))))) rfl) rfl rfl, OpW.plain (op_move (Ev.t 0 (.g (.d (.sl 6 (List.map encApi_Version l_0))))) rfl) rfl rfl, OpW.plain (OpL.cast (op_lenD Try.underlying24 (Ev.t 15 (.g (.d (.sl 6 (List.map encApi_Version l_0))))) rfl) (by rw [List.length_map])) rfl rfl, OpW.plain (op_move (Ev.t 0 (.g (.d (.sl 6 (List.map encApi_Version l_0))))) rfl) rfl rfl, OpW.plain (OpL.cast (op_lenD Try.underlying24 (Ev.t 17 (.g (.d (.sl 6 (List.map encApi_Version l_0))))) rfl) (by rw [List.length_map])) rfl rfl, OpW.plain (op_slice3 Try.underlying24 ti32 (sub_ok0 hl4 encApi_Version).1 (sub_ok0 hl4 encApi_Version).2.1 (sub_ok0 hl4 encApi_Version).2.2 (Ev.t 14 (.g (.d (.sl 6 (List.map encApi_Version l_0))))) (Ev.t 16 (bI .i64 (l_0.length : Int))) (Ev.t 18 (bI .i64 (l_0.length : Int))) rfl) rfl rfl, OpW.plain (op_loadAP (ds := [.v (.string v_1.Key), .v (.string v_1.Value), .v (.bool v_1.Gone), .v (.int .i64 v_1.Stamp.N), .v (.int .i64 v_1.Stamp.Site), .sl 3 (List.map encApi_Dep v_1.Past)]) Try.underlying32 rfl ti32 rfl (Ev.t 3 (.ptr 1003 0)) rfl) rfl rfl, OpW.plain (op_buildSlice (es := List.map encApi_Version [v_1]) Try.underlying24 ti32 rfl rfl (EvP.cons (Ev.t 20 (.g (.agg [.v (.string v_1.Key), .v (.string v_1.Value), .v (.bool v_1.Gone), .v (.int .i64 v_1.Stamp.N), .v (.int .i64 v_1.Stamp.Site), .sl 3 (List.map encApi_Dep v_1.Past)]))) EvP.nil) rfl rfl (by simp [encApi_Version]) rfl) rfl rfl, OpW.plain (op_appendC Try.underlying24 ti32 rfl rfl (app_map hl5 encApi_Version) (app_b1 hl5 encApi_Version) (app_b2 hl5 encApi_Version) (Ev.t 19 (.cp 6 (List.map encApi_Version l4))) (Ev.t 21 (.g (.d (.sl 6 (List.map encApi_Version ([v_1])))))) rfl) rfl rfl, OpW.plain (op_assign (Ev.t 22 (.g (.d (.sl 6 (List.map encApi_Version l5))))) rfl) rfl rfl, OpW.plain (op_assign (Ev.c _ rfl) rfl) rfl rfl, trivial⟩ ⟨rfl, rfl, trivial⟩ trivial rfl ?_
      cases hF
      exact G.ret2 Try.results24 (RVar.tmp 4 _) (RVar.tmp 5 _) ⟨rfl, rfl, trivial⟩ trivial


set_option maxRecDepth 20000 in
set_option maxHeartbeats 2000000 in
theorem ct_law14_ranges (n_0 : Int) (r : (List Api_Range)) (hF : law14_ranges n_0 = some r) : Ct Try.prog 11 [.g (.d (.v (.int .i64 n_0)))] (.one (.d (.sl 2 (List.map encApi_Range r)))) := by
  unfold law14_ranges at hF
  refine Ct.intro Try.func11 rfl Try.ntmps11 rfl rfl fun M w => ?_
  refine G.seq ?_
  refine G.region ?_
  refine G.op1 (op_assign (Ev.n 2) rfl) rfl trivial trivial ?_
  refine G.endOps ?_
  refine G.seq ?_
  refine G.seq ?_
  refine G.region ?_
  refine G.op1 (op_move (Ev.t 0 (bI .i64 n_0)) rfl) rfl ⟨rfl, trivial⟩ trivial ?_
  refine G.op1 (op_and (Ev.t 3 (bI .i64 n_0)) (Ev.c _ rfl) rfl) rfl ⟨rfl, trivial⟩ trivial ?_
  refine G.endOps ?_
  refine G.block ?_
  refine G.seq ?_
  refine G.region ?_
  refine G.op1 (op_eqI (Ev.t 4 (bI .i64 (IntKind.wrap .i64 (BitVec.ofInt (IntKind.bits .i64) n_0 &&& BitVec.ofInt (IntKind.bits .i64) 3).toNat))) (Ev.c _ rfl) rfl) rfl ⟨rfl, trivial⟩ trivial ?_
  refine G.op1 (op_assign (Ev.t 6 (bB (decide ((IntKind.wrap .i64 (BitVec.ofInt (IntKind.bits .i64) n_0 &&& BitVec.ofInt (IntKind.bits .i64) 3).toNat) = 0)))) rfl) rfl ⟨rfl, trivial⟩ trivial ?_
  refine G.endOps ?_
  refine ifS hF (fun hc1 hF => ?_) (fun hc1 hF => ?_)
  · refine G.cond rfl (fun _ => ?_) (fun hx => by rw [hc1] at hx; cases hx)
    refine G.seq ?_
    refine G.region ?_
    refine G.op1 (op_build (zs := [.v (.string ByteArray.empty), .v (.string ByteArray.empty)]) (ds := [.v (.string ByteArray.empty), .v (.string ByteArray.empty)]) Try.underlying51 ti51 (pl51 _ Try.underlying51) ⟨.v _ rfl, .v _ rfl, trivial⟩ EvP.nil rfl rfl) rfl trivial trivial ?_
    refine G.op1 (op_buildSlice (es := List.map encApi_Range [(Api_Range.mk ByteArray.empty ByteArray.empty)]) Try.underlying26 ti51 rfl rfl (EvP.cons (Ev.t 7 (.g (.agg [.v (.string ByteArray.empty), .v (.string ByteArray.empty)]))) EvP.nil) rfl rfl (by simp [encApi_Range]) rfl) rfl ⟨rfl, trivial⟩ trivial ?_
    refine G.op1 (op_assign (Ev.t 8 (.g (.d (.sl 2 (List.map encApi_Range ([(Api_Range.mk ByteArray.empty ByteArray.empty)])))))) rfl) rfl ⟨rfl, trivial⟩ trivial ?_
    refine G.endOps ?_
    cases hF
    exact G.ret1 Try.results11 (RVar.tmp 2 _) ⟨rfl, trivial⟩ trivial
  · refine G.cond rfl (fun hx => by rw [hc1] at hx; cases hx) (fun _ => ?_)
    refine G.seq ?_
    refine G.region ?_
    refine G.op1 (op_eqI (Ev.t 4 (bI .i64 (IntKind.wrap .i64 (BitVec.ofInt (IntKind.bits .i64) n_0 &&& BitVec.ofInt (IntKind.bits .i64) 3).toNat))) (Ev.c _ rfl) rfl) rfl ⟨rfl, trivial⟩ trivial ?_
    refine G.op1 (op_assign (Ev.t 10 (bB (decide ((IntKind.wrap .i64 (BitVec.ofInt (IntKind.bits .i64) n_0 &&& BitVec.ofInt (IntKind.bits .i64) 3).toNat) = 1)))) rfl) rfl ⟨rfl, trivial⟩ trivial ?_
    refine G.endOps ?_
    refine ifS hF (fun hc2 hF => ?_) (fun hc2 hF => ?_)
    · refine G.cond rfl (fun _ => ?_) (fun hx => by rw [hc2] at hx; cases hx)
      refine G.seq ?_
      refine G.region ?_
      refine G.op1 (op_build (zs := [.v (.string ByteArray.empty), .v (.string ByteArray.empty)]) (ds := [.v (.string ByteArray.empty), .v (.string (ByteArray.mk #[106]))]) Try.underlying51 ti51 (pl51 _ Try.underlying51) ⟨.v _ rfl, .v _ rfl, trivial⟩ (EvP.cons (Ev.c _ rfl) EvP.nil) rfl rfl) rfl trivial trivial ?_
      refine G.op1 (op_buildSlice (es := List.map encApi_Range [(Api_Range.mk ByteArray.empty (ByteArray.mk #[106]))]) Try.underlying26 ti51 rfl rfl (EvP.cons (Ev.t 11 (.g (.agg [.v (.string ByteArray.empty), .v (.string (ByteArray.mk #[106]))]))) EvP.nil) rfl rfl (by simp [encApi_Range]) rfl) rfl ⟨rfl, trivial⟩ trivial ?_
      refine G.op1 (op_assign (Ev.t 12 (.g (.d (.sl 2 (List.map encApi_Range ([(Api_Range.mk ByteArray.empty (ByteArray.mk #[106]))])))))) rfl) rfl ⟨rfl, trivial⟩ trivial ?_
      refine G.endOps ?_
      cases hF
      exact G.ret1 Try.results11 (RVar.tmp 2 _) ⟨rfl, trivial⟩ trivial
    · refine G.cond rfl (fun hx => by rw [hc2] at hx; cases hx) (fun _ => ?_)
      refine G.seq ?_
      refine G.region ?_
      refine G.op1 (op_eqI (Ev.t 4 (bI .i64 (IntKind.wrap .i64 (BitVec.ofInt (IntKind.bits .i64) n_0 &&& BitVec.ofInt (IntKind.bits .i64) 3).toNat))) (Ev.c _ rfl) rfl) rfl ⟨rfl, trivial⟩ trivial ?_
      refine G.op1 (op_assign (Ev.t 14 (bB (decide ((IntKind.wrap .i64 (BitVec.ofInt (IntKind.bits .i64) n_0 &&& BitVec.ofInt (IntKind.bits .i64) 3).toNat) = 2)))) rfl) rfl ⟨rfl, trivial⟩ trivial ?_
      refine G.endOps ?_
      refine ifS hF (fun hc3 hF => ?_) (fun hc3 hF => ?_)
      · refine G.cond rfl (fun _ => ?_) (fun hx => by rw [hc3] at hx; cases hx)
        refine G.seq ?_
        refine G.region ?_
        refine G.op1 (op_build (zs := [.v (.string ByteArray.empty), .v (.string ByteArray.empty)]) (ds := [.v (.string (ByteArray.mk #[100])), .v (.string (ByteArray.mk #[109]))]) Try.underlying51 ti51 (pl51 _ Try.underlying51) ⟨.v _ rfl, .v _ rfl, trivial⟩ (EvP.cons (Ev.c _ rfl) (EvP.cons (Ev.c _ rfl) EvP.nil)) rfl rfl) rfl trivial trivial ?_
        refine G.op1 (op_build (zs := [.v (.string ByteArray.empty), .v (.string ByteArray.empty)]) (ds := [.v (.string (ByteArray.mk #[115])), .v (.string ByteArray.empty)]) Try.underlying51 ti51 (pl51 _ Try.underlying51) ⟨.v _ rfl, .v _ rfl, trivial⟩ (EvP.cons (Ev.c _ rfl) EvP.nil) rfl rfl) rfl trivial trivial ?_
        refine G.op1 (op_buildSlice (es := List.map encApi_Range [(Api_Range.mk (ByteArray.mk #[100]) (ByteArray.mk #[109])), (Api_Range.mk (ByteArray.mk #[115]) ByteArray.empty)]) Try.underlying26 ti51 rfl rfl (EvP.cons (Ev.t 15 (.g (.agg [.v (.string (ByteArray.mk #[100])), .v (.string (ByteArray.mk #[109]))]))) (EvP.cons (Ev.t 16 (.g (.agg [.v (.string (ByteArray.mk #[115])), .v (.string ByteArray.empty)]))) EvP.nil)) rfl rfl (by simp [encApi_Range]) rfl) rfl ⟨rfl, rfl, trivial⟩ trivial ?_
        refine G.op1 (op_assign (Ev.t 17 (.g (.d (.sl 2 (List.map encApi_Range ([(Api_Range.mk (ByteArray.mk #[100]) (ByteArray.mk #[109])), (Api_Range.mk (ByteArray.mk #[115]) ByteArray.empty)])))))) rfl) rfl ⟨rfl, trivial⟩ trivial ?_
        refine G.endOps ?_
        cases hF
        exact G.ret1 Try.results11 (RVar.tmp 2 _) ⟨rfl, trivial⟩ trivial
      · refine G.cond rfl (fun hx => by rw [hc3] at hx; cases hx) (fun _ => ?_)
        refine G.skip ?_
        refine G.endBlock ?_
        refine G.seq ?_
        refine G.region ?_
        refine G.op1 (op_assign (Ev.n 2) rfl) rfl trivial trivial ?_
        refine G.endOps ?_
        cases hF
        exact G.ret1 Try.results11 (RVar.tmp 2 _) ⟨rfl, trivial⟩ trivial


set_option maxRecDepth 20000 in
set_option maxHeartbeats 2000000 in
theorem ct_law14_QueueFull (n_0 : Int) (r : Bool) (hF : law14_QueueFull n_0 = some r) : Ct Try.prog 7 [.g (.d (.v (.int .i64 n_0)))] (.one (.d (.v (.bool r)))) := by
  unfold law14_QueueFull at hF
  refine Ct.intro Try.func7 rfl Try.ntmps7 rfl rfl fun M w => ?_
  refine G.seq ?_
  refine G.region ?_
  refine G.op1 (op_assign (Ev.c _ rfl) rfl) rfl trivial trivial ?_
  refine G.endOps ?_
  refine G.seq ?_
  refine G.region ?_
  obtain ⟨r1, hr1, hF⟩ := bindS hF
  refine G.op1 (op_callQ (sv := .one (bB r1)) cf9 (ct_law14_awake r1 hr1) rfl rfl EvQL.nil rfl) rfl trivial trivial ?_
  refine G.op1 (op_assign (Ev.t 16 (bB r1)) rfl) rfl ⟨rfl, trivial⟩ trivial ?_
  refine G.endOps ?_
  refine G.seq ?_
  refine G.region ?_
  refine G.op1 (op_move (Ev.t 0 (bI .i64 n_0)) rfl) rfl ⟨rfl, trivial⟩ trivial ?_
  refine G.op1 (op_rem (by decide) (Ev.t 17 (bI .i64 n_0)) (Ev.c _ rfl) rfl) rfl ⟨rfl, trivial⟩ trivial ?_
  refine G.op1 (op_add (Ev.t 18 (bI .i64 (Int.tmod n_0 31))) (Ev.c _ rfl) rfl) rfl ⟨rfl, trivial⟩ trivial ?_
  refine G.op1 (op_rem (by decide) (Ev.t 19 (bI .i64 (IntKind.wrap .i64 ((Int.tmod n_0 31) + 31)))) (Ev.c _ rfl) rfl) rfl ⟨rfl, trivial⟩ trivial ?_
  refine G.op1 (op_assign (Ev.t 20 (bI .i64 (Int.tmod (IntKind.wrap .i64 ((Int.tmod n_0 31) + 31)) 31))) rfl) rfl ⟨rfl, trivial⟩ trivial ?_
  refine G.endOps ?_
  refine G.seq ?_
  refine G.region ?_
  refine G.op1 (op_assign (Ev.n 6) rfl) rfl trivial trivial ?_
  refine G.endOps ?_
  refine G.seq ?_
  refine G.seq ?_
  refine G.region ?_
  refine G.op1 (op_assign (Ev.c _ rfl) rfl) rfl trivial trivial ?_
  refine G.endOps ?_
  refine G.joinC (T := (List Api_Version)) (fun y2 => ⟨[(3, .one (bB r1)), (4, .one (bI .i64 (Int.tmod (IntKind.wrap .i64 ((Int.tmod n_0 31) + 31)) 31))), (5, .one (.g (.d (.sl 6 (List.map encApi_Version y2)))))], []⟩) (fun y2 => law14_QueueFull_k1 n_0 r1 y2 = some r) (fun y2 hF => ?_) (fun J26 => ?_)
  · unfold law14_QueueFull_k1 at hF
    refine G.seq ?_
    refine G.region ?_
    refine G.op1 (op_move (Ev.t 5 (.g (.d (.sl 6 (List.map encApi_Version y2))))) rfl) rfl ⟨rfl, trivial⟩ trivial ?_
    refine G.op1 (op_build (zs := [.v (.string ByteArray.empty), .v (.string ByteArray.empty), .v (.bool false), .v (.int .i64 0), .v (.int .i64 0), .sl 3 (List.map encApi_Dep ([] : (List Api_Dep)))]) (ds := [.v (.string ByteArray.empty), .v (.string ByteArray.empty), .v (.bool false), .v (.int .i64 0), .v (.int .i64 0), .sl 3 (List.map encApi_Dep ([] : (List Api_Dep)))]) Try.underlying32 ti32 (pl32 _ Try.underlying32) ⟨.v _ rfl, .v _ rfl, .v _ rfl, .v _ rfl, .v _ rfl, .n 3, trivial⟩ EvP.nil rfl rfl) rfl trivial trivial ?_
    obtain ⟨r3, hr3, hF⟩ := bindS hF
    refine G.op1 (op_call (sv := .tup [.g (.d (.sl 6 (List.map encApi_Version r3.1))), bI .i64 r3.2]) cf24 (ct_queue_Push y2 (Api_Version.mk ByteArray.empty ByteArray.empty false (Api_Stamp.mk 0 0) ([] : (List Api_Dep))) r3 hr3) rfl (EvL.cons (Ev.t 51 (.g (.d (.sl 6 (List.map encApi_Version y2))))) (EvL.cons (Ev.t 52 (.g (.agg [.v (.string ByteArray.empty), .v (.string ByteArray.empty), .v (.bool false), .v (.int .i64 0), .v (.int .i64 0), .sl 3 (List.map encApi_Dep ([] : (List Api_Dep)))]))) EvL.nil)) rfl) rfl ⟨rfl, rfl, trivial⟩ trivial ?_
    refine G.op1 (op_moveS (t := 53) (sv := .tup [.g (.d (.sl 6 (List.map encApi_Version r3.1))), bI .i64 r3.2]) rfl) rfl ⟨rfl, trivial⟩ trivial ?_
    refine G.op1 (op_extract (l := [.g (.d (.sl 6 (List.map encApi_Version r3.1))), bI .i64 r3.2]) (c := .g (.d (.sl 6 (List.map encApi_Version r3.1)))) rfl rfl) rfl ⟨rfl, trivial⟩ trivial ?_
    refine G.op1 (op_extract (l := [.g (.d (.sl 6 (List.map encApi_Version r3.1))), bI .i64 r3.2]) (c := bI .i64 r3.2) rfl rfl) rfl ⟨rfl, trivial⟩ trivial ?_
    refine G.op1 (op_assign (Ev.t 54 (.g (.d (.sl 6 (List.map encApi_Version r3.1))))) rfl) rfl ⟨rfl, trivial⟩ trivial ?_
    refine G.op1 (op_assign (Ev.t 55 (bI .i64 r3.2)) rfl) rfl ⟨rfl, trivial⟩ trivial ?_
    refine G.endOps ?_
    refine G.seq ?_
    refine G.seq ?_
    refine G.region ?_
    refine G.op1 (op_move (Ev.t 10 (bI .i64 r3.2)) rfl) rfl ⟨rfl, trivial⟩ trivial ?_
    refine G.op1 (op_neI (Ev.t 56 (bI .i64 r3.2)) (Ev.c _ rfl) rfl) rfl ⟨rfl, trivial⟩ trivial ?_
    refine G.endOps ?_
    refine ifS hF (fun hc4 hF => ?_) (fun hc4 hF => ?_)
    · refine G.cond rfl (fun _ => ?_) (fun hx => by rw [hc4] at hx; cases hx)
      refine G.seq ?_
      refine G.region ?_
      refine G.op1 (op_assign (Ev.c _ rfl) rfl) rfl trivial trivial ?_
      refine G.endOps ?_
      cases hF
      exact G.ret1 Try.results7 (RVar.tmp 2 _) ⟨rfl, trivial⟩ trivial
    · refine G.cond rfl (fun hx => by rw [hc4] at hx; cases hx) (fun _ => ?_)
      refine G.skip ?_
      refine G.seq ?_
      refine G.region ?_
      refine G.op1 (op_move (Ev.t 5 (.g (.d (.sl 6 (List.map encApi_Version y2))))) rfl) rfl ⟨rfl, trivial⟩ trivial ?_
      obtain ⟨r5, hr5, hF⟩ := bindS hF
      refine G.op1 (op_call (sv := .one (.g (.d (.sl 2 (List.map encApi_Range r5))))) cf11 (ct_law14_ranges 0 r5 hr5) rfl (EvL.cons (Ev.c _ rfl) EvL.nil) rfl) rfl trivial trivial ?_
      obtain ⟨r6, hr6, hF⟩ := bindS hF
      refine G.op1 (op_call (sv := .tup [.g (.agg [.v (.string r6.1.Key), .v (.string r6.1.Value), .v (.bool r6.1.Gone), .v (.int .i64 r6.1.Stamp.N), .v (.int .i64 r6.1.Stamp.Site), .sl 3 (List.map encApi_Dep r6.1.Past)]), .g (.d (.sl 6 (List.map encApi_Version r6.2.1))), bB r6.2.2]) cf12 (ct_queue_Next y2 ([] : (List Api_Dep)) r5 r6 hr6) rfl (EvL.cons (Ev.t 59 (.g (.d (.sl 6 (List.map encApi_Version y2))))) (EvL.cons (Ev.n 3) (EvL.cons (Ev.t 60 (.g (.d (.sl 2 (List.map encApi_Range r5))))) EvL.nil))) rfl) rfl ⟨rfl, rfl, trivial⟩ trivial ?_
      refine G.op1 (op_moveS (t := 61) (sv := .tup [.g (.agg [.v (.string r6.1.Key), .v (.string r6.1.Value), .v (.bool r6.1.Gone), .v (.int .i64 r6.1.Stamp.N), .v (.int .i64 r6.1.Stamp.Site), .sl 3 (List.map encApi_Dep r6.1.Past)]), .g (.d (.sl 6 (List.map encApi_Version r6.2.1))), bB r6.2.2]) rfl) rfl ⟨rfl, trivial⟩ trivial ?_
      refine G.op1 (op_extract (l := [.g (.agg [.v (.string r6.1.Key), .v (.string r6.1.Value), .v (.bool r6.1.Gone), .v (.int .i64 r6.1.Stamp.N), .v (.int .i64 r6.1.Stamp.Site), .sl 3 (List.map encApi_Dep r6.1.Past)]), .g (.d (.sl 6 (List.map encApi_Version r6.2.1))), bB r6.2.2]) (c := .g (.agg [.v (.string r6.1.Key), .v (.string r6.1.Value), .v (.bool r6.1.Gone), .v (.int .i64 r6.1.Stamp.N), .v (.int .i64 r6.1.Stamp.Site), .sl 3 (List.map encApi_Dep r6.1.Past)])) rfl rfl) rfl ⟨rfl, trivial⟩ trivial ?_
      refine G.op1 (op_extract (l := [.g (.agg [.v (.string r6.1.Key), .v (.string r6.1.Value), .v (.bool r6.1.Gone), .v (.int .i64 r6.1.Stamp.N), .v (.int .i64 r6.1.Stamp.Site), .sl 3 (List.map encApi_Dep r6.1.Past)]), .g (.d (.sl 6 (List.map encApi_Version r6.2.1))), bB r6.2.2]) (c := .g (.d (.sl 6 (List.map encApi_Version r6.2.1)))) rfl rfl) rfl ⟨rfl, trivial⟩ trivial ?_
      refine G.op1 (op_extract (l := [.g (.agg [.v (.string r6.1.Key), .v (.string r6.1.Value), .v (.bool r6.1.Gone), .v (.int .i64 r6.1.Stamp.N), .v (.int .i64 r6.1.Stamp.Site), .sl 3 (List.map encApi_Dep r6.1.Past)]), .g (.d (.sl 6 (List.map encApi_Version r6.2.1))), bB r6.2.2]) (c := bB r6.2.2) rfl rfl) rfl ⟨rfl, trivial⟩ trivial ?_
      refine G.op2 (op_alloc (k := 1011) (cs := [bS ByteArray.empty, bS ByteArray.empty, bB false, bI .i64 0, bI .i64 0, .g (.d (.sl 3 (List.map encApi_Dep ([] : (List Api_Dep)))))]) ti32 ⟨.v _ rfl, .v _ rfl, .v _ rfl, .v _ rfl, .v _ rfl, .n 3, trivial⟩ rfl) rfl trivial ⟨rfl, trivial⟩ ?_
      refine G.op3 (op_storeA (cs' := [bS r6.1.Key, bS r6.1.Value, bB r6.1.Gone, bI .i64 r6.1.Stamp.N, bI .i64 r6.1.Stamp.Site, .g (.d (.sl 3 (List.map encApi_Dep r6.1.Past)))]) ti32 rfl rfl (Ev.t 11 (.ptr 1011 0)) (Ev.t 62 (.g (.agg [.v (.string r6.1.Key), .v (.string r6.1.Value), .v (.bool r6.1.Gone), .v (.int .i64 r6.1.Stamp.N), .v (.int .i64 r6.1.Stamp.Site), .sl 3 (List.map encApi_Dep r6.1.Past)])))) rfl ⟨rfl, rfl, trivial⟩ ⟨rfl, trivial⟩ ?_
      refine G.op1 (op_assign (Ev.t 63 (.g (.d (.sl 6 (List.map encApi_Version r6.2.1))))) rfl) rfl ⟨rfl, trivial⟩ trivial ?_
      refine G.op1 (op_assign (Ev.t 64 (bB r6.2.2)) rfl) rfl ⟨rfl, trivial⟩ trivial ?_
      refine G.endOps ?_
      refine G.seq ?_
      refine G.seq ?_
      refine G.region ?_
      refine G.op1 (op_move (Ev.t 4 (bI .i64 (Int.tmod (IntKind.wrap .i64 ((Int.tmod n_0 31) + 31)) 31))) rfl) rfl ⟨rfl, trivial⟩ trivial ?_
      refine G.op1 (op_eqI (Ev.t 65 (bI .i64 (Int.tmod (IntKind.wrap .i64 ((Int.tmod n_0 31) + 31)) 31))) (Ev.c _ rfl) rfl) rfl ⟨rfl, trivial⟩ trivial ?_
      refine G.endOps ?_
      refine ifS hF (fun hc7 hF => ?_) (fun hc7 hF => ?_)
      · refine G.cond rfl (fun _ => ?_) (fun hx => by rw [hc7] at hx; cases hx)
        refine G.seq ?_
        refine G.joinC (T := Bool) (fun y8 => ⟨[(2, .one (bB y8))], []⟩) (fun y8 => law14_QueueFull_k2 y8 = some r) (fun y8 hF => ?_) (fun J9 => ?_)
        · unfold law14_QueueFull_k2 at hF
          cases hF
          exact G.ret1 Try.results7 (RVar.tmp 2 _) ⟨rfl, trivial⟩ trivial
        refine G.region ?_
        refine G.op1 (op_move (Ev.t 3 (bB r1)) rfl) rfl ⟨rfl, trivial⟩ trivial ?_
        refine G.op1 (op_move (Ev.t 67 (bB r1)) rfl) rfl ⟨rfl, trivial⟩ trivial ?_
        refine G.joinL (T := Bool) 3 (fun y10 => ⟨[(12, .one (.g (.d (.sl 6 (List.map encApi_Version r6.2.1))))), (71, .one (bB y10))], []⟩) (fun y10 => law14_QueueFull_k3 r6 y10 = some r) (fun y10 hF => ?_) (fun J12 => ?_)
        · unfold law14_QueueFull_k3 at hF
          refine G.op1 (op_move (Ev.t 71 (bB y10)) rfl) rfl ⟨rfl, trivial⟩ trivial ?_
          refine ifS hF (fun hc11 hF => ?_) (fun hc11 hF => ?_)
          · refine G.known (t := 72) hc11 rfl ?_
            refine G.opG1 (op_move (Ev.t 12 (.g (.d (.sl 6 (List.map encApi_Version r6.2.1))))) rfl) rfl rfl rfl ⟨rfl, trivial⟩ trivial ?_
            refine G.opG1 (OpL.cast (op_lenD Try.underlying24 (Ev.t 73 (.g (.d (.sl 6 (List.map encApi_Version r6.2.1))))) rfl) (by rw [List.length_map])) rfl rfl rfl ⟨rfl, trivial⟩ trivial ?_
            refine G.opG1 (op_eqI (Ev.t 74 (bI .i64 (r6.2.1.length : Int))) (Ev.c _ rfl) rfl) rfl rfl rfl ⟨rfl, trivial⟩ trivial ?_
            refine G.op1 (op_pickT (Ev.t 72 (bB true)) (Ev.t 75 (bB (decide ((r6.2.1.length : Int) = 0)))) rfl) rfl ⟨rfl, rfl, trivial⟩ trivial ?_
            refine G.op1 (op_assign (Ev.t 76 (bB (decide ((r6.2.1.length : Int) = 0)))) rfl) rfl ⟨rfl, trivial⟩ trivial ?_
            refine G.endOps ?_
            exact G.arr (J9 (decide ((r6.2.1.length : Int) = 0)) hF) ⟨rfl, trivial⟩ trivial rfl
          · refine G.known (t := 72) hc11 rfl ?_
            refine G.opN1 rfl rfl rfl rfl rfl ?_
            refine G.opN1 rfl rfl rfl rfl rfl ?_
            refine G.opN1 rfl rfl rfl rfl rfl ?_
            refine G.op1 (op_pickF (Ev.t 72 (bB false)) (Ev.c _ rfl) rfl) rfl ⟨rfl, trivial⟩ trivial ?_
            refine G.op1 (op_assign (Ev.t 76 (bB false)) rfl) rfl ⟨rfl, trivial⟩ trivial ?_
            refine G.endOps ?_
            exact G.arr (J9 false hF) ⟨rfl, trivial⟩ trivial rfl
        refine ifS hF (fun hc13 hF => ?_) (fun hc13 hF => ?_)
        · refine G.known (t := 68) hc13 rfl ?_
          refine G.opG1 (op_move (Ev.t 13 (bB r6.2.2)) rfl) rfl rfl rfl ⟨rfl, trivial⟩ trivial ?_
          refine G.opG1 (op_not (Ev.t 69 (bB r6.2.2)) rfl) rfl rfl rfl ⟨rfl, trivial⟩ trivial ?_
          refine G.op1 (op_pickT (Ev.t 68 (bB true)) (Ev.t 70 (bB (!r6.2.2))) rfl) rfl ⟨rfl, rfl, trivial⟩ trivial ?_
          exact G.arr (J12 (!r6.2.2) hF) ⟨rfl, rfl, trivial⟩ trivial rfl
        · refine G.known (t := 68) hc13 rfl ?_
          refine G.opN1 rfl rfl rfl rfl rfl ?_
          refine G.opN1 rfl rfl rfl rfl rfl ?_
          refine G.op1 (op_pickF (Ev.t 68 (bB false)) (Ev.c _ rfl) rfl) rfl ⟨rfl, trivial⟩ trivial ?_
          exact G.arr (J12 false hF) ⟨rfl, rfl, trivial⟩ trivial rfl
      · refine G.cond rfl (fun hx => by rw [hc7] at hx; cases hx) (fun _ => ?_)
        refine G.skip ?_
        refine G.seq ?_
        refine G.region ?_
        refine G.op1 (op_move (Ev.t 12 (.g (.d (.sl 6 (List.map encApi_Version r6.2.1))))) rfl) rfl ⟨rfl, trivial⟩ trivial ?_
        obtain ⟨r14, hr14, hF⟩ := bindS hF
        refine G.op1 (op_call (sv := .one (.g (.agg [.v (.string r14.Key), .v (.string r14.Value), .v (.bool r14.Gone), .v (.int .i64 r14.Stamp.N), .v (.int .i64 r14.Stamp.Site), .sl 3 (List.map encApi_Dep r14.Past)]))) cf25 (ct_law14_ver (ByteArray.mk #[98]) 1 ([] : (List Api_Dep)) r14 hr14) rfl (EvL.cons (Ev.c _ rfl) (EvL.cons (Ev.c _ rfl) (EvL.cons (Ev.n 3) EvL.nil))) rfl) rfl trivial trivial ?_
        obtain ⟨r15, hr15, hF⟩ := bindS hF
        refine G.op1 (op_call (sv := .tup [.g (.d (.sl 6 (List.map encApi_Version r15.1))), bI .i64 r15.2]) cf24 (ct_queue_Push r6.2.1 r14 r15 hr15) rfl (EvL.cons (Ev.t 78 (.g (.d (.sl 6 (List.map encApi_Version r6.2.1))))) (EvL.cons (Ev.t 79 (.g (.agg [.v (.string r14.Key), .v (.string r14.Value), .v (.bool r14.Gone), .v (.int .i64 r14.Stamp.N), .v (.int .i64 r14.Stamp.Site), .sl 3 (List.map encApi_Dep r14.Past)]))) EvL.nil)) rfl) rfl ⟨rfl, rfl, trivial⟩ trivial ?_
        refine G.op1 (op_moveS (t := 80) (sv := .tup [.g (.d (.sl 6 (List.map encApi_Version r15.1))), bI .i64 r15.2]) rfl) rfl ⟨rfl, trivial⟩ trivial ?_
        refine G.op1 (op_extract (l := [.g (.d (.sl 6 (List.map encApi_Version r15.1))), bI .i64 r15.2]) (c := .g (.d (.sl 6 (List.map encApi_Version r15.1)))) rfl rfl) rfl ⟨rfl, trivial⟩ trivial ?_
        refine G.op1 (op_extract (l := [.g (.d (.sl 6 (List.map encApi_Version r15.1))), bI .i64 r15.2]) (c := bI .i64 r15.2) rfl rfl) rfl ⟨rfl, trivial⟩ trivial ?_
        refine G.op1 (op_assign (Ev.t 81 (.g (.d (.sl 6 (List.map encApi_Version r15.1))))) rfl) rfl ⟨rfl, trivial⟩ trivial ?_
        refine G.op1 (op_assign (Ev.t 82 (bI .i64 r15.2)) rfl) rfl ⟨rfl, trivial⟩ trivial ?_
        refine G.endOps ?_
        refine G.seq ?_
        refine G.region ?_
        refine G.op1 (op_move (Ev.t 3 (bB r1)) rfl) rfl ⟨rfl, trivial⟩ trivial ?_
        refine G.op1 (op_move (Ev.t 83 (bB r1)) rfl) rfl ⟨rfl, trivial⟩ trivial ?_
        refine G.joinL (T := Bool) 2 (fun y16 => ⟨[(5, .one (.g (.d (.sl 6 (List.map encApi_Version y2))))), (11, .one (.ptr 1011 0)), (12, .one (.g (.d (.sl 6 (List.map encApi_Version r6.2.1))))), (15, .one (bI .i64 r15.2)), (86, .one (bB y16))], [(1011, some (.blk 32 [bS r6.1.Key, bS r6.1.Value, bB r6.1.Gone, bI .i64 r6.1.Stamp.N, bI .i64 r6.1.Stamp.Site, .g (.d (.sl 3 (List.map encApi_Dep r6.1.Past)))]))]⟩) (fun y16 => law14_QueueFull_k4 y2 r6 r15 y16 = some r) (fun y16 hF => ?_) (fun J24 => ?_)
        · unfold law14_QueueFull_k4 at hF
          refine G.op1 (op_move (Ev.t 86 (bB y16)) rfl) rfl ⟨rfl, trivial⟩ trivial ?_
          refine G.joinL (T := Bool) 5 (fun y17 => ⟨[(5, .one (.g (.d (.sl 6 (List.map encApi_Version y2))))), (12, .one (.g (.d (.sl 6 (List.map encApi_Version r6.2.1))))), (15, .one (bI .i64 r15.2)), (92, .one (bB y17))], []⟩) (fun y17 => law14_QueueFull_k5 y2 r6 r15 y17 = some r) (fun y17 hF => ?_) (fun J22 => ?_)
          · unfold law14_QueueFull_k5 at hF
            refine G.op1 (op_move (Ev.t 92 (bB y17)) rfl) rfl ⟨rfl, trivial⟩ trivial ?_
            refine G.joinL (T := Bool) 3 (fun y18 => ⟨[(5, .one (.g (.d (.sl 6 (List.map encApi_Version y2))))), (12, .one (.g (.d (.sl 6 (List.map encApi_Version r6.2.1))))), (96, .one (bB y18))], []⟩) (fun y18 => law14_QueueFull_k6 y2 r6 y18 = some r) (fun y18 hF => ?_) (fun J20 => ?_)
            · unfold law14_QueueFull_k6 at hF
              refine G.op1 (op_move (Ev.t 96 (bB y18)) rfl) rfl ⟨rfl, trivial⟩ trivial ?_
              refine ifS hF (fun hc19 hF => ?_) (fun hc19 hF => ?_)
              · refine G.known (t := 97) hc19 rfl ?_
                refine G.opG1 (op_move (Ev.t 12 (.g (.d (.sl 6 (List.map encApi_Version r6.2.1))))) rfl) rfl rfl rfl ⟨rfl, trivial⟩ trivial ?_
                refine G.opG1 (OpL.cast (op_lenD Try.underlying24 (Ev.t 98 (.g (.d (.sl 6 (List.map encApi_Version r6.2.1))))) rfl) (by rw [List.length_map])) rfl rfl rfl ⟨rfl, trivial⟩ trivial ?_
                refine G.opG1 (op_move (Ev.t 5 (.g (.d (.sl 6 (List.map encApi_Version y2))))) rfl) rfl rfl rfl ⟨rfl, trivial⟩ trivial ?_
                refine G.opG1 (OpL.cast (op_lenD Try.underlying24 (Ev.t 100 (.g (.d (.sl 6 (List.map encApi_Version y2))))) rfl) (by rw [List.length_map])) rfl rfl rfl ⟨rfl, trivial⟩ trivial ?_
                refine G.opG1 (op_sub (Ev.t 101 (bI .i64 (y2.length : Int))) (Ev.c _ rfl) rfl) rfl rfl rfl ⟨rfl, trivial⟩ trivial ?_
                refine G.opG1 (op_eqI (Ev.t 99 (bI .i64 (r6.2.1.length : Int))) (Ev.t 102 (bI .i64 (IntKind.wrap .i64 ((y2.length : Int) - 1)))) rfl) rfl rfl rfl ⟨rfl, rfl, trivial⟩ trivial ?_
                refine G.op1 (op_pickT (Ev.t 97 (bB true)) (Ev.t 103 (bB (decide ((r6.2.1.length : Int) = (IntKind.wrap .i64 ((y2.length : Int) - 1)))))) rfl) rfl ⟨rfl, rfl, trivial⟩ trivial ?_
                refine G.op1 (op_assign (Ev.t 104 (bB (decide ((r6.2.1.length : Int) = (IntKind.wrap .i64 ((y2.length : Int) - 1)))))) rfl) rfl ⟨rfl, trivial⟩ trivial ?_
                refine G.endOps ?_
                cases hF
                exact G.ret1 Try.results7 (RVar.tmp 2 _) ⟨rfl, trivial⟩ trivial
              · refine G.known (t := 97) hc19 rfl ?_
                refine G.opN1 rfl rfl rfl rfl rfl ?_
                refine G.opN1 rfl rfl rfl rfl rfl ?_
                refine G.opN1 rfl rfl rfl rfl rfl ?_
                refine G.opN1 rfl rfl rfl rfl rfl ?_
                refine G.opN1 rfl rfl rfl rfl rfl ?_
                refine G.opN1 rfl rfl rfl rfl rfl ?_
                refine G.op1 (op_pickF (Ev.t 97 (bB false)) (Ev.c _ rfl) rfl) rfl ⟨rfl, trivial⟩ trivial ?_
                refine G.op1 (op_assign (Ev.t 104 (bB false)) rfl) rfl ⟨rfl, trivial⟩ trivial ?_
                refine G.endOps ?_
                cases hF
                exact G.ret1 Try.results7 (RVar.tmp 2 _) ⟨rfl, trivial⟩ trivial
            refine ifS hF (fun hc21 hF => ?_) (fun hc21 hF => ?_)
            · refine G.known (t := 93) hc21 rfl ?_
              refine G.opG1 (op_move (Ev.t 15 (bI .i64 r15.2)) rfl) rfl rfl rfl ⟨rfl, trivial⟩ trivial ?_
              refine G.opG1 (op_eqI (Ev.t 94 (bI .i64 r15.2)) (Ev.c _ rfl) rfl) rfl rfl rfl ⟨rfl, trivial⟩ trivial ?_
              refine G.op1 (op_pickT (Ev.t 93 (bB true)) (Ev.t 95 (bB (decide (r15.2 = 0)))) rfl) rfl ⟨rfl, rfl, trivial⟩ trivial ?_
              exact G.arr (J20 (decide (r15.2 = 0)) hF) ⟨rfl, rfl, rfl, trivial⟩ trivial rfl
            · refine G.known (t := 93) hc21 rfl ?_
              refine G.opN1 rfl rfl rfl rfl rfl ?_
              refine G.opN1 rfl rfl rfl rfl rfl ?_
              refine G.op1 (op_pickF (Ev.t 93 (bB false)) (Ev.c _ rfl) rfl) rfl ⟨rfl, trivial⟩ trivial ?_
              exact G.arr (J20 false hF) ⟨rfl, rfl, rfl, trivial⟩ trivial rfl
          refine ifS hF (fun hc23 hF => ?_) (fun hc23 hF => ?_)
          · refine G.known (t := 87) hc23 rfl ?_
            refine G.opG1 (op_fieldP (off' := 3) Try.underlying32 rfl ti29 (by decide) rfl (Ev.t 11 (.ptr 1011 0)) rfl) rfl rfl rfl ⟨rfl, trivial⟩ trivial ?_
            refine G.opG1 (op_fieldP (off' := 3) Try.underlying29 rfl ti3 (by decide) rfl (Ev.t 88 (.ptr 1011 3)) rfl) rfl rfl rfl ⟨rfl, trivial⟩ trivial ?_
            refine G.opG1 (op_load1P (c := bI .i64 r6.1.Stamp.N) Try.underlying3 rfl rfl (Ev.t 89 (.ptr 1011 3)) rfl) rfl rfl rfl ⟨rfl, trivial⟩ ⟨rfl, trivial⟩ ?_
            refine G.opG1 (op_eqI (Ev.t 90 (bI .i64 r6.1.Stamp.N)) (Ev.c _ rfl) rfl) rfl rfl rfl ⟨rfl, trivial⟩ trivial ?_
            refine G.op1 (op_pickT (Ev.t 87 (bB true)) (Ev.t 91 (bB (decide (r6.1.Stamp.N = 1)))) rfl) rfl ⟨rfl, rfl, trivial⟩ trivial ?_
            exact G.arr (J22 (decide (r6.1.Stamp.N = 1)) hF) ⟨rfl, rfl, rfl, rfl, trivial⟩ trivial rfl
          · refine G.known (t := 87) hc23 rfl ?_
            refine G.opN1 rfl rfl rfl rfl rfl ?_
            refine G.opN1 rfl rfl rfl rfl rfl ?_
            refine G.opN1 rfl rfl rfl rfl rfl ?_
            refine G.opN1 rfl rfl rfl rfl rfl ?_
            refine G.op1 (op_pickF (Ev.t 87 (bB false)) (Ev.c _ rfl) rfl) rfl ⟨rfl, trivial⟩ trivial ?_
            exact G.arr (J22 false hF) ⟨rfl, rfl, rfl, rfl, trivial⟩ trivial rfl
        refine ifS hF (fun hc25 hF => ?_) (fun hc25 hF => ?_)
        · refine G.known (t := 84) hc25 rfl ?_
          refine G.opG1 (op_move (Ev.t 13 (bB r6.2.2)) rfl) rfl rfl rfl ⟨rfl, trivial⟩ trivial ?_
          refine G.op1 (op_pickT (Ev.t 84 (bB true)) (Ev.t 85 (bB r6.2.2)) rfl) rfl ⟨rfl, rfl, trivial⟩ trivial ?_
          exact G.arr (J24 r6.2.2 hF) ⟨rfl, rfl, rfl, rfl, rfl, trivial⟩ ⟨rfl, trivial⟩ rfl
        · refine G.known (t := 84) hc25 rfl ?_
          refine G.opN1 rfl rfl rfl rfl rfl ?_
          refine G.op1 (op_pickF (Ev.t 84 (bB false)) (Ev.c _ rfl) rfl) rfl ⟨rfl, trivial⟩ trivial ?_
          exact G.arr (J24 false hF) ⟨rfl, rfl, rfl, rfl, rfl, trivial⟩ ⟨rfl, trivial⟩ rfl
  refine G.block ?_
  refine G.keep (sl' := [(3, .one (bB r1)), (4, .one (bI .i64 (Int.tmod (IntKind.wrap .i64 ((Int.tmod n_0 31) + 31)) 31))), (5, .one (.g (.d (.sl 6 (List.map encApi_Version ([] : (List Api_Version))))))), (6, .one (bI .i64 0))]) (hp' := []) ⟨rfl, rfl, rfl, rfl, trivial⟩ trivial rfl ?_
  refine G.loopF (fun (v27 : (List Api_Version) × Int) => ⟨[(3, .one (bB r1)), (4, .one (bI .i64 (Int.tmod (IntKind.wrap .i64 ((Int.tmod n_0 31) + 31)) 31))), (5, .one (.g (.d (.sl 6 (List.map encApi_Version v27.1))))), (6, .one (bI .i64 v27.2))], []⟩) hF rfl (fun K30 again29 v27 J28 hF => ?_)
  unfold law14_QueueFull_l7 at hF
  refine G.seq ?_
  refine G.seq ?_
  refine G.region ?_
  refine G.op1 (op_move (Ev.t 6 (bI .i64 v27.2)) rfl) rfl ⟨rfl, trivial⟩ trivial ?_
  refine G.op1 (op_move (Ev.t 4 (bI .i64 (Int.tmod (IntKind.wrap .i64 ((Int.tmod n_0 31) + 31)) 31))) rfl) rfl ⟨rfl, trivial⟩ trivial ?_
  refine G.op1 (op_lss (Ev.t 21 (bI .i64 v27.2)) (Ev.t 22 (bI .i64 (Int.tmod (IntKind.wrap .i64 ((Int.tmod n_0 31) + 31)) 31))) rfl) rfl ⟨rfl, rfl, trivial⟩ trivial ?_
  refine G.endOps ?_
  refine ifS hF (fun hc31 hF => ?_) (fun hc31 hF => ?_)
  · refine G.cond rfl (fun _ => ?_) (fun hx => by rw [hc31] at hx; cases hx)
    refine G.skip ?_
    refine G.seq ?_
    refine G.block ?_
    refine G.seq ?_
    refine G.region ?_
    refine G.op1 (op_move (Ev.t 5 (.g (.d (.sl 6 (List.map encApi_Version v27.1))))) rfl) rfl ⟨rfl, trivial⟩ trivial ?_
    refine G.op1 (op_move (Ev.t 6 (bI .i64 v27.2)) rfl) rfl ⟨rfl, trivial⟩ trivial ?_
    refine G.op1 (op_add (Ev.c _ rfl) (Ev.t 28 (bI .i64 v27.2)) rfl) rfl ⟨rfl, trivial⟩ trivial ?_
    obtain ⟨r32, hr32, hF⟩ := bindS hF
    refine G.op1 (op_call (sv := .one (.g (.agg [.v (.string r32.Key), .v (.string r32.Value), .v (.bool r32.Gone), .v (.int .i64 r32.Stamp.N), .v (.int .i64 r32.Stamp.Site), .sl 3 (List.map encApi_Dep r32.Past)]))) cf25 (ct_law14_ver (ByteArray.mk #[97]) (IntKind.wrap .i64 (1 + v27.2)) ([] : (List Api_Dep)) r32 hr32) rfl (EvL.cons (Ev.c _ rfl) (EvL.cons (Ev.t 29 (bI .i64 (IntKind.wrap .i64 (1 + v27.2)))) (EvL.cons (Ev.n 3) EvL.nil))) rfl) rfl ⟨rfl, trivial⟩ trivial ?_
    obtain ⟨r33, hr33, hF⟩ := bindS hF
    refine G.op1 (op_call (sv := .tup [.g (.d (.sl 6 (List.map encApi_Version r33.1))), bI .i64 r33.2]) cf24 (ct_queue_Push v27.1 r32 r33 hr33) rfl (EvL.cons (Ev.t 27 (.g (.d (.sl 6 (List.map encApi_Version v27.1))))) (EvL.cons (Ev.t 30 (.g (.agg [.v (.string r32.Key), .v (.string r32.Value), .v (.bool r32.Gone), .v (.int .i64 r32.Stamp.N), .v (.int .i64 r32.Stamp.Site), .sl 3 (List.map encApi_Dep r32.Past)]))) EvL.nil)) rfl) rfl ⟨rfl, rfl, trivial⟩ trivial ?_
    refine G.op1 (op_moveS (t := 31) (sv := .tup [.g (.d (.sl 6 (List.map encApi_Version r33.1))), bI .i64 r33.2]) rfl) rfl ⟨rfl, trivial⟩ trivial ?_
    refine G.op1 (op_extract (l := [.g (.d (.sl 6 (List.map encApi_Version r33.1))), bI .i64 r33.2]) (c := .g (.d (.sl 6 (List.map encApi_Version r33.1)))) rfl rfl) rfl ⟨rfl, trivial⟩ trivial ?_
    refine G.op1 (op_extract (l := [.g (.d (.sl 6 (List.map encApi_Version r33.1))), bI .i64 r33.2]) (c := bI .i64 r33.2) rfl rfl) rfl ⟨rfl, trivial⟩ trivial ?_
    refine G.op1 (op_assign (Ev.t 32 (.g (.d (.sl 6 (List.map encApi_Version r33.1))))) rfl) rfl ⟨rfl, trivial⟩ trivial ?_
    refine G.op1 (op_assign (Ev.t 33 (bI .i64 r33.2)) rfl) rfl ⟨rfl, trivial⟩ trivial ?_
    refine G.endOps ?_
    refine G.seq ?_
    refine G.seq ?_
    refine G.joinC (T := Bool) (fun y34 => ⟨[(3, .one (bB r1)), (4, .one (bI .i64 (Int.tmod (IntKind.wrap .i64 ((Int.tmod n_0 31) + 31)) 31))), (5, .one (.g (.d (.sl 6 (List.map encApi_Version v27.1))))), (6, .one (bI .i64 v27.2)), (7, .one (.g (.d (.sl 6 (List.map encApi_Version r33.1))))), (8, .one (bI .i64 r33.2)), (46, .one (bB y34))], []⟩) (fun y34 => law14_QueueFull_k8 again29 v27 r33 y34 = some r) (fun y34 hF => ?_) (fun J37 => ?_)
    · unfold law14_QueueFull_k8 at hF
      refine ifS hF (fun hc35 hF => ?_) (fun hc35 hF => ?_)
      · refine G.cond rfl (fun _ => ?_) (fun hx => by rw [hc35] at hx; cases hx)
        refine G.seq ?_
        refine G.region ?_
        refine G.op1 (op_assign (Ev.c _ rfl) rfl) rfl trivial trivial ?_
        refine G.endOps ?_
        cases hF
        exact G.ret1 Try.results7 (RVar.tmp 2 _) ⟨rfl, trivial⟩ trivial
      · refine G.cond rfl (fun hx => by rw [hc35] at hx; cases hx) (fun _ => ?_)
        refine G.skip ?_
        refine G.seq ?_
        refine G.region ?_
        refine G.op1 (op_move (Ev.t 8 (bI .i64 r33.2)) rfl) rfl ⟨rfl, trivial⟩ trivial ?_
        refine G.op1 (op_eqI (Ev.t 47 (bI .i64 r33.2)) (Ev.c _ rfl) rfl) rfl ⟨rfl, trivial⟩ trivial ?_
        refine G.endOps ?_
        refine ifS hF (fun hc36 hF => ?_) (fun hc36 hF => ?_)
        · refine G.cond rfl (fun _ => ?_) (fun hx => by rw [hc36] at hx; cases hx)
          refine G.region ?_
          refine G.op1 (op_move (Ev.t 7 (.g (.d (.sl 6 (List.map encApi_Version r33.1))))) rfl) rfl ⟨rfl, trivial⟩ trivial ?_
          refine G.op1 (op_assign (Ev.t 49 (.g (.d (.sl 6 (List.map encApi_Version r33.1))))) rfl) rfl ⟨rfl, trivial⟩ trivial ?_
          refine G.endOps ?_
          refine G.endBlock ?_
          refine G.region ?_
          refine G.op1 (op_move (Ev.t 6 (bI .i64 v27.2)) rfl) rfl ⟨rfl, trivial⟩ trivial ?_
          refine G.op1 (op_add (Ev.t 24 (bI .i64 v27.2)) (Ev.c _ rfl) rfl) rfl ⟨rfl, trivial⟩ trivial ?_
          refine G.op1 (op_assign (Ev.t 25 (bI .i64 (IntKind.wrap .i64 (v27.2 + 1)))) rfl) rfl ⟨rfl, trivial⟩ trivial ?_
          refine G.endOps ?_
          exact G.arr (J28 (r33.1, IntKind.wrap .i64 (v27.2 + 1)) hF) ⟨rfl, rfl, rfl, rfl, trivial⟩ trivial rfl
        · refine G.cond rfl (fun hx => by rw [hc36] at hx; cases hx) (fun _ => ?_)
          refine G.skip ?_
          refine G.endBlock ?_
          refine G.region ?_
          refine G.op1 (op_move (Ev.t 6 (bI .i64 v27.2)) rfl) rfl ⟨rfl, trivial⟩ trivial ?_
          refine G.op1 (op_add (Ev.t 24 (bI .i64 v27.2)) (Ev.c _ rfl) rfl) rfl ⟨rfl, trivial⟩ trivial ?_
          refine G.op1 (op_assign (Ev.t 25 (bI .i64 (IntKind.wrap .i64 (v27.2 + 1)))) rfl) rfl ⟨rfl, trivial⟩ trivial ?_
          refine G.endOps ?_
          exact G.arr (J28 (v27.1, IntKind.wrap .i64 (v27.2 + 1)) hF) ⟨rfl, rfl, rfl, rfl, trivial⟩ trivial rfl
    refine G.region ?_
    refine G.op1 (op_move (Ev.t 8 (bI .i64 r33.2)) rfl) rfl ⟨rfl, trivial⟩ trivial ?_
    refine G.op1 (op_eqI (Ev.t 34 (bI .i64 r33.2)) (Ev.c _ rfl) rfl) rfl ⟨rfl, trivial⟩ trivial ?_
    refine G.op1 (op_move (Ev.t 6 (bI .i64 v27.2)) rfl) rfl ⟨rfl, trivial⟩ trivial ?_
    refine G.op1 (op_lss (Ev.t 36 (bI .i64 v27.2)) (Ev.c _ rfl) rfl) rfl ⟨rfl, trivial⟩ trivial ?_
    refine G.op1 (op_neB Try.underlying4 (Ev.t 35 (bB (decide (r33.2 = 0)))) (Ev.t 37 (bB (decide (v27.2 < 24)))) rfl) rfl ⟨rfl, rfl, trivial⟩ trivial ?_
    refine G.op1 (op_move (Ev.t 38 (bB (!((decide (r33.2 = 0)) == (decide (v27.2 < 24)))))) rfl) rfl ⟨rfl, trivial⟩ trivial ?_
    refine ifS hF (fun hc38 hF => ?_) (fun hc38 hF => ?_)
    · refine G.known (t := 39) hc38 rfl ?_
      refine G.opN1 rfl rfl rfl rfl rfl ?_
      refine G.opN1 rfl rfl rfl rfl rfl ?_
      refine G.opN1 rfl rfl rfl rfl rfl ?_
      refine G.opU rfl rfl rfl rfl ?_
      refine G.opU rfl rfl rfl rfl ?_
      refine G.opN1 rfl rfl rfl rfl rfl ?_
      refine G.op1 (op_pickT (Ev.t 39 (bB true)) (Ev.c _ rfl) rfl) rfl ⟨rfl, trivial⟩ trivial ?_
      refine G.endOps ?_
      exact G.arr (J37 true hF) ⟨rfl, rfl, rfl, rfl, rfl, rfl, rfl, trivial⟩ trivial rfl
    · refine G.known (t := 39) hc38 rfl ?_
      refine G.opG1 (op_move (Ev.t 8 (bI .i64 r33.2)) rfl) rfl rfl rfl ⟨rfl, trivial⟩ trivial ?_
      refine G.opG1 (op_neI (Ev.t 40 (bI .i64 r33.2)) (Ev.c _ rfl) rfl) rfl rfl rfl ⟨rfl, trivial⟩ trivial ?_
      refine G.opG1 (op_move (Ev.t 41 (bB (!decide (r33.2 = 0)))) rfl) rfl rfl rfl ⟨rfl, trivial⟩ trivial ?_
      refine ifS hF (fun hc39 hF => ?_) (fun hc39 hF => ?_)
      · refine G.known (t := 42) hc39 rfl ?_
        refine G.opG1 (op_move (Ev.t 8 (bI .i64 r33.2)) rfl) rfl rfl rfl ⟨rfl, trivial⟩ trivial ?_
        refine G.opG1 (op_neI (Ev.t 43 (bI .i64 r33.2)) (Ev.c _ rfl) rfl) rfl rfl rfl ⟨rfl, trivial⟩ trivial ?_
        refine G.opG1 (op_pickT (Ev.t 42 (bB true)) (Ev.t 44 (bB (!decide (r33.2 = 15)))) rfl) rfl rfl rfl ⟨rfl, rfl, trivial⟩ trivial ?_
        refine G.op1 (op_pickF (Ev.t 39 (bB false)) (Ev.t 45 (bB (!decide (r33.2 = 15)))) rfl) rfl ⟨rfl, rfl, trivial⟩ trivial ?_
        refine G.endOps ?_
        exact G.arr (J37 (!decide (r33.2 = 15)) hF) ⟨rfl, rfl, rfl, rfl, rfl, rfl, rfl, trivial⟩ trivial rfl
      · refine G.known (t := 42) hc39 rfl ?_
        refine G.opN1 rfl rfl rfl rfl rfl ?_
        refine G.opN1 rfl rfl rfl rfl rfl ?_
        refine G.opG1 (op_pickF (Ev.t 42 (bB false)) (Ev.c _ rfl) rfl) rfl rfl rfl ⟨rfl, trivial⟩ trivial ?_
        refine G.op1 (op_pickF (Ev.t 39 (bB false)) (Ev.t 45 (bB false)) rfl) rfl ⟨rfl, rfl, trivial⟩ trivial ?_
        refine G.endOps ?_
        exact G.arr (J37 false hF) ⟨rfl, rfl, rfl, rfl, rfl, rfl, rfl, trivial⟩ trivial rfl
  · refine G.cond rfl (fun hx => by rw [hc31] at hx; cases hx) (fun _ => ?_)
    refine G.exit ?_
    refine GX.c ?_
    refine GX.q ?_
    refine GX.bYes ?_
    exact G.arr (J26 v27.1 hF) ⟨rfl, rfl, rfl, trivial⟩ trivial rfl


end Go.Ark
