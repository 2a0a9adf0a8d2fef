/- Walks, printed by a program of mine: each function of the program computes the typed function of its name. Conditions: none. -/
import Derived.Test.YtjidbmelmcmmhabFvary
import Derived.Test.YtjidbmelmcmmhabFwire
import Derived.Test.YtjidbmelmcmmhabFstamp
import Derived.Test.YtjidbmelmcmmhabFkeys
import Derived.Test.YtjidbmelmcmmhabFpast
import Derived.Test.YtjidbmelmcmmhabFlib
import Derived.Test.YtjidbmelmcmmhabFlaw06
import Derived.Test.YtjidbmelmcmmhabFref01
import Derived.Test.YtjidbmelmcmmhabFref06
import Derived.Test.YtjidbmelmcmmhabFref02
import Derived.Test.YtjidbmelmcmmhabProg
import Derived.KernelRfl
import Derived.Shelf.RegionOpenPlain
import Derived.Lib.Walk
import Derived.Lib.Strings
import Derived.Laws.IdiomCopy
namespace Go.Ark
open Go Go.Ab Go.RowKit Go.Lib Go.Proofs



theorem follows : Try.prog.follows .mixedOrders = true := by kernel_rfl

theorem cf10 : CallF Try.prog 10 := fun args w => Try.call10 args w

theorem cf11 : CallF Try.prog 11 := fun args w => Try.call11 args w

theorem cf12 : CallF Try.prog 12 := fun args w => Try.call12 args w

theorem cf13 : CallF Try.prog 13 := fun args w => Try.call13 args w

theorem cf14 : CallF Try.prog 14 := fun args w => Try.call14 args w

theorem cf15 : CallF Try.prog 15 := fun args w => Try.call15 args w

theorem cf16 : CallF Try.prog 16 := fun args w => Try.call16 args w

theorem cf17 : CallF Try.prog 17 := fun args w => Try.call17 args w

theorem cf18 : CallF Try.prog 18 := fun args w => Try.call18 args w

theorem cf19 : CallF Try.prog 19 := fun args w => Try.call19 args w

theorem cf20 : CallF Try.prog 20 := fun args w => Try.call20 args w

theorem cf21 : CallF Try.prog 21 := fun args w => Try.call21 args w

theorem cf22 : CallF Try.prog 22 := fun args w => Try.call22 args w

theorem cf23 : CallF Try.prog 23 := fun args w => Try.call23 args w

theorem cf24 : CallF Try.prog 24 := fun args w => Try.call24 args w

theorem cf25 : CallF Try.prog 25 := fun args w => Try.call25 args w

theorem cf26 : CallF Try.prog 26 := fun args w => Try.call26 args w

theorem cf27 : CallF Try.prog 27 := fun args w => Try.call27 args w

theorem cf28 : CallF Try.prog 28 := fun args w => Try.call28 args w

theorem cf29 : CallF Try.prog 29 := fun args w => Try.call29 args w

theorem cf30 : CallF Try.prog 30 := fun args w => Try.call30 args w

theorem cf31 : CallF Try.prog 31 := fun args w => Try.call31 args w

theorem cf32 : CallF Try.prog 32 := fun args w => Try.call32 args w

theorem cf33 : CallF Try.prog 33 := fun args w => Try.call33 args w

theorem cf34 : CallF Try.prog 34 := fun args w => Try.call34 args w

theorem cf35 : CallF Try.prog 35 := fun args w => Try.call35 args w

theorem cf36 : CallF Try.prog 36 := fun args w => Try.call36 args w

theorem cf37 : CallF Try.prog 37 := fun args w => Try.call37 args w

theorem cf38 : CallF Try.prog 38 := fun args w => Try.call38 args w

theorem cf39 : CallF Try.prog 39 := fun args w => Try.call39 args w

theorem cf40 : CallF Try.prog 40 := fun args w => Try.call40 args w

theorem cf41 : CallF Try.prog 41 := fun args w => Try.call41 args w

theorem cf42 : CallF Try.prog 42 := fun args w => Try.call42 args w

theorem cf43 : CallF Try.prog 43 := fun args w => Try.call43 args w

theorem cf44 : CallF Try.prog 44 := fun args w => Try.call44 args w

theorem cf45 : CallF Try.prog 45 := fun args w => Try.call45 args w

theorem cf47 : CallF Try.prog 47 := fun args w => Try.call47 args w

theorem cf48 : CallF Try.prog 48 := fun args w => Try.call48 args w

theorem cf49 : CallF Try.prog 49 := fun args w => Try.call49 args w

theorem cf5 : CallF Try.prog 5 := fun args w => Try.call5 args w

theorem cf50 : CallF Try.prog 50 := fun args w => Try.call50 args w

theorem cf51 : CallF Try.prog 51 := fun args w => Try.call51 args w

theorem cf52 : CallF Try.prog 52 := fun args w => Try.call52 args w

theorem cf53 : CallF Try.prog 53 := fun args w => Try.call53 args w

theorem cf54 : CallF Try.prog 54 := fun args w => Try.call54 args w

theorem cf55 : CallF Try.prog 55 := fun args w => Try.call55 args w

theorem cf56 : CallF Try.prog 56 := fun args w => Try.call56 args w

theorem cf58 : CallF Try.prog 58 := fun args w => Try.call58 args w

theorem cf59 : CallF Try.prog 59 := fun args w => Try.call59 args w

theorem cf6 : CallF Try.prog 6 := fun args w => Try.call6 args w

theorem cf60 : CallF Try.prog 60 := fun args w => Try.call60 args w

theorem cf62 : CallF Try.prog 62 := fun args w => Try.call62 args w

theorem cf63 : CallF Try.prog 63 := fun args w => Try.call63 args w

theorem cf65 : CallF Try.prog 65 := fun args w => Try.call65 args w

theorem cf7 : CallF Try.prog 7 := fun args w => Try.call7 args w

theorem cf8 : CallF Try.prog 8 := fun args w => Try.call8 args w

theorem cf9 : CallF Try.prog 9 := fun args w => Try.call9 args w

theorem eq100 (a0 : ByteArray) (a1 : Int) (a2 : Int) (b0 : ByteArray) (b1 : Int) (b2 : Int) (w : World) : (binOp .eql 100 (.agg #[.string a0, .int .i64 a1, .int .i64 a2]) (.agg #[.string b0, .int .i64 b1, .int .i64 b2])).run Try.prog w = .ok (.bool (decide (a0 = b0) && decide (a1 = b1) && decide (a2 = b2))) w := by
  have u3 := Try.underlying3; have z3 := Try.sizeOf3; have g3 := Try.isAgg3
  have u9 := Try.underlying9; have z9 := Try.sizeOf9; have g9 := Try.isAgg9
  have u40 := Try.underlying40; have z40 := Try.sizeOf40; have g40 := Try.isAgg40
  have p40 := Try.stoodInHeld40
  have hS : Try.prog.underlying 100 = some (.struct (Try.prog.fieldsOf 100)) := by kernel_rfl
  rw [run_eql_struct, show (10000 : Nat) = 9999 + 1 from rfl, run_equalIn_agg w 9999 100 _ _ hS Try.stoodInHeld100]
  simp only [Program.fieldsOf, Try.underlying100]
  go_simp
  by_cases e0 : a0 = b0 <;> by_cases e1 : a1 = b1 <;> by_cases e2 : a2 = b2 <;> simp [*, toList_inj]

theorem ne100 (a0 : ByteArray) (a1 : Int) (a2 : Int) (b0 : ByteArray) (b1 : Int) (b2 : Int) (w : World) : (binOp .neq 100 (.agg #[.string a0, .int .i64 a1, .int .i64 a2]) (.agg #[.string b0, .int .i64 b1, .int .i64 b2])).run Try.prog w = .ok (.bool (!(decide (a0 = b0) && decide (a1 = b1) && decide (a2 = b2)))) w := by
  have u3 := Try.underlying3; have z3 := Try.sizeOf3; have g3 := Try.isAgg3
  have u9 := Try.underlying9; have z9 := Try.sizeOf9; have g9 := Try.isAgg9
  have u40 := Try.underlying40; have z40 := Try.sizeOf40; have g40 := Try.isAgg40
  have p40 := Try.stoodInHeld40
  have hS : Try.prog.underlying 100 = some (.struct (Try.prog.fieldsOf 100)) := by kernel_rfl
  rw [run_neq_struct, show (10000 : Nat) = 9999 + 1 from rfl, run_equalIn_agg w 9999 100 _ _ hS Try.stoodInHeld100]
  simp only [Program.fieldsOf, Try.underlying100]
  go_simp
  by_cases e0 : a0 = b0 <;> by_cases e1 : a1 = b1 <;> by_cases e2 : a2 = b2 <;> simp [*, toList_inj]

theorem eq37 (a0 : ByteArray) (a1 : ByteArray) (b0 : ByteArray) (b1 : ByteArray) (w : World) : (binOp .eql 37 (.agg #[.string a0, .string a1]) (.agg #[.string b0, .string b1])).run Try.prog w = .ok (.bool (decide (a0 = b0) && decide (a1 = b1))) w := by
  have u9 := Try.underlying9; have z9 := Try.sizeOf9; have g9 := Try.isAgg9
  have hS : Try.prog.underlying 37 = some (.struct (Try.prog.fieldsOf 37)) := by kernel_rfl
  rw [run_eql_struct, show (10000 : Nat) = 9999 + 1 from rfl, run_equalIn_agg w 9999 37 _ _ hS Try.stoodInHeld37]
  simp only [Program.fieldsOf, Try.underlying37]
  go_simp
  by_cases e0 : a0 = b0 <;> by_cases e1 : a1 = b1 <;> simp [*, toList_inj]

theorem ne37 (a0 : ByteArray) (a1 : ByteArray) (b0 : ByteArray) (b1 : ByteArray) (w : World) : (binOp .neq 37 (.agg #[.string a0, .string a1]) (.agg #[.string b0, .string b1])).run Try.prog w = .ok (.bool (!(decide (a0 = b0) && decide (a1 = b1)))) w := by
  have u9 := Try.underlying9; have z9 := Try.sizeOf9; have g9 := Try.isAgg9
  have hS : Try.prog.underlying 37 = some (.struct (Try.prog.fieldsOf 37)) := by kernel_rfl
  rw [run_neq_struct, show (10000 : Nat) = 9999 + 1 from rfl, run_equalIn_agg w 9999 37 _ _ hS Try.stoodInHeld37]
  simp only [Program.fieldsOf, Try.underlying37]
  go_simp
  by_cases e0 : a0 = b0 <;> by_cases e1 : a1 = b1 <;> simp [*, toList_inj]

theorem eq40 (a0 : Int) (a1 : Int) (b0 : Int) (b1 : Int) (w : World) : (binOp .eql 40 (.agg #[.int .i64 a0, .int .i64 a1]) (.agg #[.int .i64 b0, .int .i64 b1])).run Try.prog w = .ok (.bool (decide (a0 = b0) && decide (a1 = b1))) w := by
  have u3 := Try.underlying3; have z3 := Try.sizeOf3; have g3 := Try.isAgg3
  have hS : Try.prog.underlying 40 = some (.struct (Try.prog.fieldsOf 40)) := by kernel_rfl
  rw [run_eql_struct, show (10000 : Nat) = 9999 + 1 from rfl, run_equalIn_agg w 9999 40 _ _ hS Try.stoodInHeld40]
  simp only [Program.fieldsOf, Try.underlying40]
  go_simp
  by_cases e0 : a0 = b0 <;> by_cases e1 : a1 = b1 <;> simp [*]

theorem ne40 (a0 : Int) (a1 : Int) (b0 : Int) (b1 : Int) (w : World) : (binOp .neq 40 (.agg #[.int .i64 a0, .int .i64 a1]) (.agg #[.int .i64 b0, .int .i64 b1])).run Try.prog w = .ok (.bool (!(decide (a0 = b0) && decide (a1 = b1)))) w := by
  have u3 := Try.underlying3; have z3 := Try.sizeOf3; have g3 := Try.isAgg3
  have hS : Try.prog.underlying 40 = some (.struct (Try.prog.fieldsOf 40)) := by kernel_rfl
  rw [run_neq_struct, show (10000 : Nat) = 9999 + 1 from rfl, run_equalIn_agg w 9999 40 _ _ hS Try.stoodInHeld40]
  simp only [Program.fieldsOf, Try.underlying40]
  go_simp
  by_cases e0 : a0 = b0 <;> by_cases e1 : a1 = b1 <;> simp [*]

theorem ti100 : Info Try.prog 100 (.agg #[.string ByteArray.empty, .int .i64 0, .int .i64 0]) 3 32 := Info.of (by kernel_rfl)

theorem ti22 : Info Try.prog 22 (.slice none 0 0) 1 24 := Info.of (by kernel_rfl)

theorem ti24 : Info Try.prog 24 (.agg #[.slice none 0 0, .slice none 0 0, .slice none 0 0]) 3 72 := Info.of (by kernel_rfl)

theorem ti29 : Info Try.prog 29 (.slice none 0 0) 1 24 := Info.of (by kernel_rfl)

theorem ti3 : Info Try.prog 3 (.int .i64 0) 1 8 := Info.of (by kernel_rfl)

theorem ti31 : Info Try.prog 31 (.agg #[.slice none 0 0, .slice none 0 0, .slice none 0 0]) 3 72 := Info.of (by kernel_rfl)

theorem ti37 : Info Try.prog 37 (.agg #[.string ByteArray.empty, .string ByteArray.empty]) 2 32 := Info.of (by kernel_rfl)

theorem ti4 : Info Try.prog 4 (.bool false) 1 1 := Info.of (by kernel_rfl)

theorem ti40 : Info Try.prog 40 (.agg #[.int .i64 0, .int .i64 0]) 2 16 := Info.of (by kernel_rfl)

theorem ti41 : Info Try.prog 41 (.slice none 0 0) 1 24 := Info.of (by kernel_rfl)

theorem ti43 : Info Try.prog 43 (.agg #[.string ByteArray.empty, .string ByteArray.empty, .bool false, .int .i64 0, .int .i64 0, .slice none 0 0]) 6 80 := Info.of (by kernel_rfl)

theorem ti5 : Info Try.prog 5 (.int .u8 0) 1 1 := Info.of (by kernel_rfl)

theorem ti53 : Info Try.prog 53 (.agg #[.string ByteArray.empty, .int .i64 0, .bool false]) 3 32 := Info.of (by kernel_rfl)

theorem ti55 : Info Try.prog 55 (.int .u64 0) 1 8 := Info.of (by kernel_rfl)

theorem ti61 : Info Try.prog 61 (.agg #[.pointer none, .slice none 0 0]) 2 32 := Info.of (by kernel_rfl)

theorem ti83 : Info Try.prog 83 (.agg #[.int .u64 0, .int .i64 0]) 2 16 := Info.of (by kernel_rfl)

theorem ti86 : Info Try.prog 86 (.agg #[.string ByteArray.empty, .int .i64 0]) 2 24 := Info.of (by kernel_rfl)

theorem ti9 : Info Try.prog 9 (.string ByteArray.empty) 1 16 := Info.of (by kernel_rfl)

theorem pl31 (fs : Array Field) (h : Try.prog.underlying 31 = some (.struct fs)) : Places Try.prog fs #[(0, 1), (1, 1), (2, 1)] := fun w => by rw [Try.underlying31] at h; cases h; simp [Try.sizeOf22, Try.sizeOf29]

theorem pl37 (fs : Array Field) (h : Try.prog.underlying 37 = some (.struct fs)) : Places Try.prog fs #[(0, 1), (1, 1)] := fun w => by rw [Try.underlying37] at h; cases h; simp [Try.sizeOf9]

theorem pl40 (fs : Array Field) (h : Try.prog.underlying 40 = some (.struct fs)) : Places Try.prog fs #[(0, 1), (1, 1)] := fun w => by rw [Try.underlying40] at h; cases h; simp [Try.sizeOf3]

theorem pl43 (fs : Array Field) (h : Try.prog.underlying 43 = some (.struct fs)) : Places Try.prog fs #[(0, 1), (1, 1), (2, 1), (3, 2), (5, 1)] := fun w => by rw [Try.underlying43] at h; cases h; simp [Try.sizeOf4, Try.sizeOf40, Try.sizeOf41, Try.sizeOf9]

theorem pl53 (fs : Array Field) (h : Try.prog.underlying 53 = some (.struct fs)) : Places Try.prog fs #[(0, 1), (1, 1), (2, 1)] := fun w => by rw [Try.underlying53] at h; cases h; simp [Try.sizeOf3, Try.sizeOf4, Try.sizeOf9]

theorem pl83 (fs : Array Field) (h : Try.prog.underlying 83 = some (.struct fs)) : Places Try.prog fs #[(0, 1), (1, 1)] := fun w => by rw [Try.underlying83] at h; cases h; simp [Try.sizeOf3, Try.sizeOf55]

theorem pl86 (fs : Array Field) (h : Try.prog.underlying 86 = some (.struct fs)) : Places Try.prog fs #[(0, 1), (1, 1)] := fun w => by rw [Try.underlying86] at h; cases h; simp [Try.sizeOf3, Try.sizeOf9]

set_option maxRecDepth 20000 in
set_option maxHeartbeats 2000000 in
theorem ct_vary_Read (s_0 : ByteArray) (at_1 : Int) (r : (Int × Int × Bool)) (hF : vary_Read s_0 at_1 = some r) : Ct Try.prog 40 [.g (.d (vS s_0)), .g (.d (vI at_1))] (.tup [.d (.v (.int .u64 r.1)), .d (vI r.2.1), .d (vB r.2.2)]) := by
  unfold vary_Read at hF
  refine Ct.intro Try.func40 rfl Try.ntmps40 rfl rfl fun M w => ?_
  refine G.seq ?_
  refine G.region ?_
  refine G.op1 (op_assign (Ev.c _ rfl) rfl) rfl trivial trivial ?_
  refine G.op1 (op_assign (Ev.c _ rfl) rfl) rfl trivial trivial ?_
  refine G.op1 (op_assign (Ev.c _ rfl) rfl) rfl trivial trivial ?_
  refine G.endOps ?_
  refine G.scope ?_
  refine G.seq ?_
  refine G.seq ?_
  refine G.joinC (T := Bool) (fun y1 => ⟨[(0, oS s_0), (1, oI at_1), (4, .one (bI .u64 0)), (18, oB y1)], []⟩) (fun y1 => vary_Read_k1 s_0 at_1 y1 = some r) (fun y1 hF => ?_) (fun J23 => ?_)
  · unfold vary_Read_k1 at hF
    refine ifS hF (fun hc2 hF => ?_) (fun hc2 hF => ?_)
    · refine G.cond rfl (fun _ => ?_) (fun hx => by rw [hc2] at hx; cases hx)
      refine G.seq ?_
      refine G.region ?_
      refine G.op1 (op_assign (Ev.c _ rfl) rfl) rfl trivial trivial ?_
      refine G.op1 (op_assign (Ev.c _ rfl) rfl) rfl trivial trivial ?_
      refine G.op1 (op_assign (Ev.c _ rfl) rfl) rfl trivial trivial ?_
      refine G.endOps ?_
      cases hF
      exact G.ret3 Try.results40 (RVar.tmp 4 _) (RVar.tmp 5 _) (RVar.tmp 6 _) ⟨rfl, rfl, rfl, trivial⟩ trivial
    · refine G.cond rfl (fun hx => by rw [hc2] at hx; cases hx) (fun _ => ?_)
      refine G.skip ?_
      refine G.seq ?_
      refine G.label ?_
      refine G.seq ?_
      refine G.seq ?_
      refine G.region ?_
      refine G.op1 (op_move (Ev.t 1 (bI .i64 at_1)) rfl) rfl ⟨rfl, trivial⟩ trivial ?_
      refine G.op1 (op_assign (Ev.t 19 (bI .i64 at_1)) rfl) rfl ⟨rfl, trivial⟩ trivial ?_
      refine G.endOps ?_
      refine G.joinC (T := Unit) (fun y3 => ⟨[], []⟩) (fun y3 => vary_Read_k2 y3 = some r) (fun y3 hF => ?_) (fun J4 => ?_)
      · unfold vary_Read_k2 at hF
        refine G.seq ?_
        refine G.region ?_
        refine G.op1 (op_assign (Ev.c _ rfl) rfl) rfl trivial trivial ?_
        refine G.op1 (op_assign (Ev.c _ rfl) rfl) rfl trivial trivial ?_
        refine G.op1 (op_assign (Ev.c _ rfl) rfl) rfl trivial trivial ?_
        refine G.endOps ?_
        cases hF
        exact G.ret3 Try.results40 (RVar.tmp 4 _) (RVar.tmp 5 _) (RVar.tmp 6 _) ⟨rfl, rfl, rfl, trivial⟩ trivial
      refine G.block ?_
      refine G.keep (sl' := [(0, oS s_0), (1, oI at_1), (4, .one (bI .u64 0)), (7, oI at_1)]) (hp' := []) ⟨rfl, rfl, rfl, rfl, trivial⟩ trivial rfl ?_
      refine G.loopF (fun (v5 : Int × Int) => ⟨[(0, oS s_0), (1, oI at_1), (4, .one (bI .u64 v5.1)), (7, oI v5.2)], []⟩) hF rfl (fun K8 again7 v5 J6 hF => ?_)
      unfold vary_Read_l3 at hF
      refine G.seq ?_
      refine G.seq ?_
      refine G.region ?_
      refine G.op1 (op_move (Ev.t 7 (bI .i64 v5.2)) rfl) rfl ⟨rfl, trivial⟩ trivial ?_
      refine G.op1 (op_move (Ev.t 0 (bS s_0)) rfl) rfl ⟨rfl, trivial⟩ trivial ?_
      refine G.op1 (op_lenS Try.underlying9 (Ev.t 21 (bS s_0)) rfl) rfl ⟨rfl, trivial⟩ trivial ?_
      refine G.op1 (op_lss (Ev.t 20 (bI .i64 v5.2)) (Ev.t 22 (bI .i64 (s_0.size : Int))) rfl) rfl ⟨rfl, rfl, trivial⟩ trivial ?_
      refine G.endOps ?_
      refine ifS hF (fun hc9 hF => ?_) (fun hc9 hF => ?_)
      · refine G.cond rfl (fun _ => ?_) (fun hx => by rw [hc9] at hx; cases hx)
        refine G.skip ?_
        refine G.seq ?_
        refine G.block ?_
        refine G.seq ?_
        refine G.region ?_
        refine G.op1 (op_move (Ev.t 0 (bS s_0)) rfl) rfl ⟨rfl, trivial⟩ trivial ?_
        refine G.op1 (op_move (Ev.t 7 (bI .i64 v5.2)) rfl) rfl ⟨rfl, trivial⟩ trivial ?_
        obtain ⟨b10, hb10, hF⟩ := bindS hF
        refine G.op1 (op_indexS Try.underlying9 (sidx_ok hb10).1 (sidx_ok hb10).2 (Ev.t 26 (bS s_0)) (Ev.t 27 (bI .i64 v5.2)) rfl) rfl ⟨rfl, rfl, trivial⟩ trivial ?_
        refine G.op1 (op_convI Try.underlying5 Try.underlying55 (Ev.t 28 (bI .u8 (b10.toNat : Int))) rfl) rfl ⟨rfl, trivial⟩ trivial ?_
        refine G.op1 (op_assign (Ev.t 29 (bI .u64 (IntKind.wrap .u64 (b10.toNat : Int)))) rfl) rfl ⟨rfl, trivial⟩ trivial ?_
        refine G.endOps ?_
        refine G.seq ?_
        refine G.region ?_
        refine G.op1 (op_move (Ev.t 7 (bI .i64 v5.2)) rfl) rfl ⟨rfl, trivial⟩ trivial ?_
        refine G.op1 (op_move (Ev.t 1 (bI .i64 at_1)) rfl) rfl ⟨rfl, trivial⟩ trivial ?_
        refine G.op1 (op_sub (Ev.t 30 (bI .i64 v5.2)) (Ev.t 31 (bI .i64 at_1)) rfl) rfl ⟨rfl, rfl, trivial⟩ trivial ?_
        refine G.op1 (op_mul (Ev.c _ rfl) (Ev.t 32 (bI .i64 (IntKind.wrap .i64 (v5.2 - at_1)))) rfl) rfl ⟨rfl, trivial⟩ trivial ?_
        refine G.op1 (op_assign (Ev.t 33 (bI .i64 (IntKind.wrap .i64 (7 * (IntKind.wrap .i64 (v5.2 - at_1)))))) rfl) rfl ⟨rfl, trivial⟩ trivial ?_
        refine G.endOps ?_
        refine G.seq ?_
        refine G.region ?_
        refine G.op1 (op_move (Ev.t 8 (bI .u64 (IntKind.wrap .u64 (b10.toNat : Int)))) rfl) rfl ⟨rfl, trivial⟩ trivial ?_
        refine G.op1 (op_andNot (Ev.t 34 (bI .u64 (IntKind.wrap .u64 (b10.toNat : Int)))) (Ev.c _ rfl) rfl) rfl ⟨rfl, trivial⟩ trivial ?_
        refine G.op1 (op_assign (Ev.t 35 (bI .u64 (IntKind.wrap .u64 (BitVec.ofInt (IntKind.bits .u64) (IntKind.wrap .u64 (b10.toNat : Int)) &&& ~~~BitVec.ofInt (IntKind.bits .u64) 128).toNat))) rfl) rfl ⟨rfl, trivial⟩ trivial ?_
        refine G.endOps ?_
        refine G.seq ?_
        refine G.seq ?_
        refine G.joinC (T := Bool) (fun y11 => ⟨[(0, oS s_0), (1, oI at_1), (4, .one (bI .u64 v5.1)), (7, oI v5.2), (8, .one (bI .u64 (IntKind.wrap .u64 (b10.toNat : Int)))), (9, oI (IntKind.wrap .i64 (7 * (IntKind.wrap .i64 (v5.2 - at_1))))), (10, .one (bI .u64 (IntKind.wrap .u64 (BitVec.ofInt (IntKind.bits .u64) (IntKind.wrap .u64 (b10.toNat : Int)) &&& ~~~BitVec.ofInt (IntKind.bits .u64) 128).toNat))), (55, oB y11)], []⟩) (fun y11 => vary_Read_k4 at_1 again7 v5 b10 y11 = some r) (fun y11 hF => ?_) (fun J15 => ?_)
        · unfold vary_Read_k4 at hF
          refine ifS hF (fun hc12 hF => ?_) (fun hc12 hF => ?_)
          · refine G.cond rfl (fun _ => ?_) (fun hx => by rw [hc12] at hx; cases hx)
            refine G.exit ?_
            refine GX.c ?_
            refine GX.bNo rfl ?_
            refine GX.c ?_
            refine GX.q ?_
            refine GX.bYes ?_
            exact G.arr (J4 () hF) trivial trivial rfl
          · refine G.cond rfl (fun hx => by rw [hc12] at hx; cases hx) (fun _ => ?_)
            refine G.skip ?_
            refine G.seq ?_
            refine G.region ?_
            refine G.op1 (op_move (Ev.t 4 (bI .u64 v5.1)) rfl) rfl ⟨rfl, trivial⟩ trivial ?_
            refine G.op1 (op_move (Ev.t 10 (bI .u64 (IntKind.wrap .u64 (BitVec.ofInt (IntKind.bits .u64) (IntKind.wrap .u64 (b10.toNat : Int)) &&& ~~~BitVec.ofInt (IntKind.bits .u64) 128).toNat))) rfl) rfl ⟨rfl, trivial⟩ trivial ?_
            refine G.op1 (op_move (Ev.t 9 (bI .i64 (IntKind.wrap .i64 (7 * (IntKind.wrap .i64 (v5.2 - at_1)))))) rfl) rfl ⟨rfl, trivial⟩ trivial ?_
            obtain ⟨hz13, hF⟩ := chkS hF
            refine G.op1 (op_shl (of_decide_eq_true hz13) (Ev.t 57 (bI .u64 (IntKind.wrap .u64 (BitVec.ofInt (IntKind.bits .u64) (IntKind.wrap .u64 (b10.toNat : Int)) &&& ~~~BitVec.ofInt (IntKind.bits .u64) 128).toNat))) (Ev.t 58 (bI .i64 (IntKind.wrap .i64 (7 * (IntKind.wrap .i64 (v5.2 - at_1)))))) rfl) rfl ⟨rfl, rfl, trivial⟩ trivial ?_
            refine G.op1 (op_or (Ev.t 56 (bI .u64 v5.1)) (Ev.t 59 (bI .u64 (IntKind.wrap .u64 ((IntKind.wrap .u64 (BitVec.ofInt (IntKind.bits .u64) (IntKind.wrap .u64 (b10.toNat : Int)) &&& ~~~BitVec.ofInt (IntKind.bits .u64) 128).toNat) * 2 ^ min (Int.toNat (IntKind.wrap .i64 (7 * (IntKind.wrap .i64 (v5.2 - at_1))))) (IntKind.bits .u64))))) rfl) rfl ⟨rfl, rfl, trivial⟩ trivial ?_
            refine G.op1 (op_assign (Ev.t 60 (bI .u64 (IntKind.wrap .u64 (BitVec.ofInt (IntKind.bits .u64) v5.1 ||| BitVec.ofInt (IntKind.bits .u64) (IntKind.wrap .u64 ((IntKind.wrap .u64 (BitVec.ofInt (IntKind.bits .u64) (IntKind.wrap .u64 (b10.toNat : Int)) &&& ~~~BitVec.ofInt (IntKind.bits .u64) 128).toNat) * 2 ^ min (Int.toNat (IntKind.wrap .i64 (7 * (IntKind.wrap .i64 (v5.2 - at_1))))) (IntKind.bits .u64)))).toNat))) rfl) rfl ⟨rfl, trivial⟩ trivial ?_
            refine G.endOps ?_
            refine G.seq ?_
            refine G.region ?_
            refine G.op1 (op_move (Ev.t 8 (bI .u64 (IntKind.wrap .u64 (b10.toNat : Int)))) rfl) rfl ⟨rfl, trivial⟩ trivial ?_
            refine G.op1 (op_lss (Ev.t 61 (bI .u64 (IntKind.wrap .u64 (b10.toNat : Int)))) (Ev.c _ rfl) rfl) rfl ⟨rfl, trivial⟩ trivial ?_
            refine G.endOps ?_
            refine ifS hF (fun hc14 hF => ?_) (fun hc14 hF => ?_)
            · refine G.cond rfl (fun _ => ?_) (fun hx => by rw [hc14] at hx; cases hx)
              refine G.seq ?_
              refine G.region ?_
              refine G.op1 (op_move (Ev.t 4 (bI .u64 (IntKind.wrap .u64 (BitVec.ofInt (IntKind.bits .u64) v5.1 ||| BitVec.ofInt (IntKind.bits .u64) (IntKind.wrap .u64 ((IntKind.wrap .u64 (BitVec.ofInt (IntKind.bits .u64) (IntKind.wrap .u64 (b10.toNat : Int)) &&& ~~~BitVec.ofInt (IntKind.bits .u64) 128).toNat) * 2 ^ min (Int.toNat (IntKind.wrap .i64 (7 * (IntKind.wrap .i64 (v5.2 - at_1))))) (IntKind.bits .u64)))).toNat))) rfl) rfl ⟨rfl, trivial⟩ trivial ?_
              refine G.op1 (op_move (Ev.t 7 (bI .i64 v5.2)) rfl) rfl ⟨rfl, trivial⟩ trivial ?_
              refine G.op1 (op_add (Ev.t 64 (bI .i64 v5.2)) (Ev.c _ rfl) rfl) rfl ⟨rfl, trivial⟩ trivial ?_
              refine G.op1 (op_assign (Ev.t 63 (bI .u64 (IntKind.wrap .u64 (BitVec.ofInt (IntKind.bits .u64) v5.1 ||| BitVec.ofInt (IntKind.bits .u64) (IntKind.wrap .u64 ((IntKind.wrap .u64 (BitVec.ofInt (IntKind.bits .u64) (IntKind.wrap .u64 (b10.toNat : Int)) &&& ~~~BitVec.ofInt (IntKind.bits .u64) 128).toNat) * 2 ^ min (Int.toNat (IntKind.wrap .i64 (7 * (IntKind.wrap .i64 (v5.2 - at_1))))) (IntKind.bits .u64)))).toNat))) rfl) rfl ⟨rfl, trivial⟩ trivial ?_
              refine G.op1 (op_assign (Ev.t 65 (bI .i64 (IntKind.wrap .i64 (v5.2 + 1)))) rfl) rfl ⟨rfl, trivial⟩ trivial ?_
              refine G.op1 (op_assign (Ev.c _ rfl) rfl) rfl trivial trivial ?_
              refine G.endOps ?_
              cases hF
              exact G.ret3 Try.results40 (RVar.tmp 4 _) (RVar.tmp 5 _) (RVar.tmp 6 _) ⟨rfl, rfl, rfl, trivial⟩ trivial
            · refine G.cond rfl (fun hx => by rw [hc14] at hx; cases hx) (fun _ => ?_)
              refine G.skip ?_
              refine G.endBlock ?_
              refine G.region ?_
              refine G.op1 (op_move (Ev.t 7 (bI .i64 v5.2)) rfl) rfl ⟨rfl, trivial⟩ trivial ?_
              refine G.op1 (op_add (Ev.t 24 (bI .i64 v5.2)) (Ev.c _ rfl) rfl) rfl ⟨rfl, trivial⟩ trivial ?_
              refine G.op1 (op_assign (Ev.t 25 (bI .i64 (IntKind.wrap .i64 (v5.2 + 1)))) rfl) rfl ⟨rfl, trivial⟩ trivial ?_
              refine G.endOps ?_
              exact G.arr (J6 (IntKind.wrap .u64 (BitVec.ofInt (IntKind.bits .u64) v5.1 ||| BitVec.ofInt (IntKind.bits .u64) (IntKind.wrap .u64 ((IntKind.wrap .u64 (BitVec.ofInt (IntKind.bits .u64) (IntKind.wrap .u64 (b10.toNat : Int)) &&& ~~~BitVec.ofInt (IntKind.bits .u64) 128).toNat) * 2 ^ min (Int.toNat (IntKind.wrap .i64 (7 * (IntKind.wrap .i64 (v5.2 - at_1))))) (IntKind.bits .u64)))).toNat, IntKind.wrap .i64 (v5.2 + 1)) hF) ⟨rfl, rfl, rfl, rfl, trivial⟩ trivial rfl
        refine G.region ?_
        refine G.op1 (op_move (Ev.t 9 (bI .i64 (IntKind.wrap .i64 (7 * (IntKind.wrap .i64 (v5.2 - at_1)))))) rfl) rfl ⟨rfl, trivial⟩ trivial ?_
        refine G.op1 (op_geq (Ev.t 36 (bI .i64 (IntKind.wrap .i64 (7 * (IntKind.wrap .i64 (v5.2 - at_1)))))) (Ev.c _ rfl) rfl) rfl ⟨rfl, trivial⟩ trivial ?_
        refine G.op1 (op_move (Ev.t 37 (bB (decide (64 ≤ (IntKind.wrap .i64 (7 * (IntKind.wrap .i64 (v5.2 - at_1)))))))) rfl) rfl ⟨rfl, trivial⟩ trivial ?_
        refine G.joinL (T := Bool) 8 (fun y16 => ⟨[(0, oS s_0), (1, oI at_1), (4, .one (bI .u64 v5.1)), (7, oI v5.2), (8, .one (bI .u64 (IntKind.wrap .u64 (b10.toNat : Int)))), (9, oI (IntKind.wrap .i64 (7 * (IntKind.wrap .i64 (v5.2 - at_1))))), (10, .one (bI .u64 (IntKind.wrap .u64 (BitVec.ofInt (IntKind.bits .u64) (IntKind.wrap .u64 (b10.toNat : Int)) &&& ~~~BitVec.ofInt (IntKind.bits .u64) 128).toNat))), (46, oB y16)], []⟩) (fun y16 => vary_Read_k5 at_1 again7 v5 b10 y16 = some r) (fun y16 hF => ?_) (fun J19 => ?_)
        · unfold vary_Read_k5 at hF
          refine G.op1 (op_move (Ev.t 46 (bB y16)) rfl) rfl ⟨rfl, trivial⟩ trivial ?_
          refine ifS hF (fun hc17 hF => ?_) (fun hc17 hF => ?_)
          · refine G.known (t := 47) hc17 rfl ?_
            refine G.opN1 rfl rfl rfl rfl rfl ?_
            refine G.opN1 rfl rfl rfl rfl rfl ?_
            refine G.opN1 rfl rfl rfl rfl rfl ?_
            refine G.opU rfl rfl rfl rfl ?_
            refine G.opU rfl rfl rfl rfl ?_
            refine G.opU rfl rfl rfl rfl ?_
            refine G.opN1 rfl rfl rfl rfl rfl ?_
            refine G.op1 (op_pickT (Ev.t 47 (bB true)) (Ev.c _ rfl) rfl) rfl ⟨rfl, trivial⟩ trivial ?_
            refine G.endOps ?_
            exact G.arr (J15 true hF) ⟨rfl, rfl, rfl, rfl, rfl, rfl, rfl, rfl, trivial⟩ trivial rfl
          · refine G.known (t := 47) hc17 rfl ?_
            refine G.opG1 (op_move (Ev.t 8 (bI .u64 (IntKind.wrap .u64 (b10.toNat : Int)))) rfl) rfl rfl rfl ⟨rfl, trivial⟩ trivial ?_
            refine G.opG1 (op_eqI (Ev.t 48 (bI .u64 (IntKind.wrap .u64 (b10.toNat : Int)))) (Ev.c _ rfl) rfl) rfl rfl rfl ⟨rfl, trivial⟩ trivial ?_
            refine G.opG1 (op_move (Ev.t 49 (bB (decide ((IntKind.wrap .u64 (b10.toNat : Int)) = 0)))) rfl) rfl rfl rfl ⟨rfl, trivial⟩ trivial ?_
            refine ifS hF (fun hc18 hF => ?_) (fun hc18 hF => ?_)
            · refine G.known (t := 50) hc18 rfl ?_
              refine G.opG1 (op_move (Ev.t 7 (bI .i64 v5.2)) rfl) rfl rfl rfl ⟨rfl, trivial⟩ trivial ?_
              refine G.opG1 (op_move (Ev.t 1 (bI .i64 at_1)) rfl) rfl rfl rfl ⟨rfl, trivial⟩ trivial ?_
              refine G.opG1 (op_gtr (Ev.t 51 (bI .i64 v5.2)) (Ev.t 52 (bI .i64 at_1)) rfl) rfl rfl rfl ⟨rfl, rfl, trivial⟩ trivial ?_
              refine G.opG1 (op_pickT (Ev.t 50 (bB true)) (Ev.t 53 (bB (decide (at_1 < v5.2)))) rfl) rfl rfl rfl ⟨rfl, rfl, trivial⟩ trivial ?_
              refine G.op1 (op_pickF (Ev.t 47 (bB false)) (Ev.t 54 (bB (decide (at_1 < v5.2)))) rfl) rfl ⟨rfl, rfl, trivial⟩ trivial ?_
              refine G.endOps ?_
              exact G.arr (J15 (decide (at_1 < v5.2)) hF) ⟨rfl, rfl, rfl, rfl, rfl, rfl, rfl, rfl, trivial⟩ trivial rfl
            · refine G.known (t := 50) hc18 rfl ?_
              refine G.opN1 rfl rfl rfl rfl rfl ?_
              refine G.opN1 rfl rfl rfl rfl rfl ?_
              refine G.opN1 rfl rfl rfl rfl rfl ?_
              refine G.opG1 (op_pickF (Ev.t 50 (bB false)) (Ev.c _ rfl) rfl) rfl rfl rfl ⟨rfl, trivial⟩ trivial ?_
              refine G.op1 (op_pickF (Ev.t 47 (bB false)) (Ev.t 54 (bB false)) rfl) rfl ⟨rfl, rfl, trivial⟩ trivial ?_
              refine G.endOps ?_
              exact G.arr (J15 false hF) ⟨rfl, rfl, rfl, rfl, rfl, rfl, rfl, rfl, trivial⟩ trivial rfl
        refine ifS hF (fun hc20 hF => ?_) (fun hc20 hF => ?_)
        · refine G.known (t := 38) hc20 rfl ?_
          refine G.opN1 rfl rfl rfl rfl rfl ?_
          refine G.opN1 rfl rfl rfl rfl rfl ?_
          refine G.opN1 rfl rfl rfl rfl rfl ?_
          refine G.opN1 rfl rfl rfl rfl rfl ?_
          refine G.opN1 rfl rfl rfl rfl rfl ?_
          refine G.opN1 rfl rfl rfl rfl rfl ?_
          refine G.opN1 rfl rfl rfl rfl rfl ?_
          refine G.op1 (op_pickT (Ev.t 38 (bB true)) (Ev.c _ rfl) rfl) rfl ⟨rfl, trivial⟩ trivial ?_
          exact G.arr (J19 true hF) ⟨rfl, rfl, rfl, rfl, rfl, rfl, rfl, rfl, trivial⟩ trivial rfl
        · refine G.known (t := 38) hc20 rfl ?_
          refine G.opG1 (op_move (Ev.t 10 (bI .u64 (IntKind.wrap .u64 (BitVec.ofInt (IntKind.bits .u64) (IntKind.wrap .u64 (b10.toNat : Int)) &&& ~~~BitVec.ofInt (IntKind.bits .u64) 128).toNat))) rfl) rfl rfl rfl ⟨rfl, trivial⟩ trivial ?_
          refine G.opG1 (op_move (Ev.t 9 (bI .i64 (IntKind.wrap .i64 (7 * (IntKind.wrap .i64 (v5.2 - at_1)))))) rfl) rfl rfl rfl ⟨rfl, trivial⟩ trivial ?_
          obtain ⟨hz21, hF⟩ := chkS hF
          refine G.opG1 (op_shl (of_decide_eq_true hz21) (Ev.t 39 (bI .u64 (IntKind.wrap .u64 (BitVec.ofInt (IntKind.bits .u64) (IntKind.wrap .u64 (b10.toNat : Int)) &&& ~~~BitVec.ofInt (IntKind.bits .u64) 128).toNat))) (Ev.t 40 (bI .i64 (IntKind.wrap .i64 (7 * (IntKind.wrap .i64 (v5.2 - at_1)))))) rfl) rfl rfl rfl ⟨rfl, rfl, trivial⟩ trivial ?_
          refine G.opG1 (op_move (Ev.t 9 (bI .i64 (IntKind.wrap .i64 (7 * (IntKind.wrap .i64 (v5.2 - at_1)))))) rfl) rfl rfl rfl ⟨rfl, trivial⟩ trivial ?_
          obtain ⟨hz22, hF⟩ := chkS hF
          refine G.opG1 (op_shr (of_decide_eq_true hz22) (Ev.t 41 (bI .u64 (IntKind.wrap .u64 ((IntKind.wrap .u64 (BitVec.ofInt (IntKind.bits .u64) (IntKind.wrap .u64 (b10.toNat : Int)) &&& ~~~BitVec.ofInt (IntKind.bits .u64) 128).toNat) * 2 ^ min (Int.toNat (IntKind.wrap .i64 (7 * (IntKind.wrap .i64 (v5.2 - at_1))))) (IntKind.bits .u64))))) (Ev.t 42 (bI .i64 (IntKind.wrap .i64 (7 * (IntKind.wrap .i64 (v5.2 - at_1)))))) rfl) rfl rfl rfl ⟨rfl, rfl, trivial⟩ trivial ?_
          refine G.opG1 (op_move (Ev.t 10 (bI .u64 (IntKind.wrap .u64 (BitVec.ofInt (IntKind.bits .u64) (IntKind.wrap .u64 (b10.toNat : Int)) &&& ~~~BitVec.ofInt (IntKind.bits .u64) 128).toNat))) rfl) rfl rfl rfl ⟨rfl, trivial⟩ trivial ?_
          refine G.opG1 (op_neI (Ev.t 43 (bI .u64 (Int.fdiv (IntKind.wrap .u64 ((IntKind.wrap .u64 (BitVec.ofInt (IntKind.bits .u64) (IntKind.wrap .u64 (b10.toNat : Int)) &&& ~~~BitVec.ofInt (IntKind.bits .u64) 128).toNat) * 2 ^ min (Int.toNat (IntKind.wrap .i64 (7 * (IntKind.wrap .i64 (v5.2 - at_1))))) (IntKind.bits .u64))) (2 ^ min (Int.toNat (IntKind.wrap .i64 (7 * (IntKind.wrap .i64 (v5.2 - at_1))))) (IntKind.bits .u64))))) (Ev.t 44 (bI .u64 (IntKind.wrap .u64 (BitVec.ofInt (IntKind.bits .u64) (IntKind.wrap .u64 (b10.toNat : Int)) &&& ~~~BitVec.ofInt (IntKind.bits .u64) 128).toNat))) rfl) rfl rfl rfl ⟨rfl, rfl, trivial⟩ trivial ?_
          refine G.op1 (op_pickF (Ev.t 38 (bB false)) (Ev.t 45 (bB (!decide ((Int.fdiv (IntKind.wrap .u64 ((IntKind.wrap .u64 (BitVec.ofInt (IntKind.bits .u64) (IntKind.wrap .u64 (b10.toNat : Int)) &&& ~~~BitVec.ofInt (IntKind.bits .u64) 128).toNat) * 2 ^ min (Int.toNat (IntKind.wrap .i64 (7 * (IntKind.wrap .i64 (v5.2 - at_1))))) (IntKind.bits .u64))) (2 ^ min (Int.toNat (IntKind.wrap .i64 (7 * (IntKind.wrap .i64 (v5.2 - at_1))))) (IntKind.bits .u64))) = (IntKind.wrap .u64 (BitVec.ofInt (IntKind.bits .u64) (IntKind.wrap .u64 (b10.toNat : Int)) &&& ~~~BitVec.ofInt (IntKind.bits .u64) 128).toNat))))) rfl) rfl ⟨rfl, rfl, trivial⟩ trivial ?_
          exact G.arr (J19 (!decide ((Int.fdiv (IntKind.wrap .u64 ((IntKind.wrap .u64 (BitVec.ofInt (IntKind.bits .u64) (IntKind.wrap .u64 (b10.toNat : Int)) &&& ~~~BitVec.ofInt (IntKind.bits .u64) 128).toNat) * 2 ^ min (Int.toNat (IntKind.wrap .i64 (7 * (IntKind.wrap .i64 (v5.2 - at_1))))) (IntKind.bits .u64))) (2 ^ min (Int.toNat (IntKind.wrap .i64 (7 * (IntKind.wrap .i64 (v5.2 - at_1))))) (IntKind.bits .u64))) = (IntKind.wrap .u64 (BitVec.ofInt (IntKind.bits .u64) (IntKind.wrap .u64 (b10.toNat : Int)) &&& ~~~BitVec.ofInt (IntKind.bits .u64) 128).toNat))) hF) ⟨rfl, rfl, rfl, rfl, rfl, rfl, rfl, rfl, trivial⟩ trivial rfl
      · refine G.cond rfl (fun hx => by rw [hc9] at hx; cases hx) (fun _ => ?_)
        refine G.exit ?_
        refine GX.c ?_
        refine GX.q ?_
        refine GX.bYes ?_
        exact G.arr (J4 () hF) trivial trivial rfl
  refine G.region ?_
  refine G.op1 (op_move (Ev.t 1 (bI .i64 at_1)) rfl) rfl ⟨rfl, trivial⟩ trivial ?_
  refine G.op1 (op_lss (Ev.t 11 (bI .i64 at_1)) (Ev.c _ rfl) rfl) rfl ⟨rfl, trivial⟩ trivial ?_
  refine G.op1 (op_move (Ev.t 12 (bB (decide (at_1 < 0)))) rfl) rfl ⟨rfl, trivial⟩ trivial ?_
  refine ifS hF (fun hc24 hF => ?_) (fun hc24 hF => ?_)
  · refine G.known (t := 13) hc24 rfl ?_
    refine G.opN1 rfl rfl rfl rfl rfl ?_
    refine G.opN1 rfl rfl rfl rfl rfl ?_
    refine G.opN1 rfl rfl rfl rfl rfl ?_
    refine G.opN1 rfl rfl rfl rfl rfl ?_
    refine G.op1 (op_pickT (Ev.t 13 (bB true)) (Ev.c _ rfl) rfl) rfl ⟨rfl, trivial⟩ trivial ?_
    refine G.endOps ?_
    exact G.arr (J23 true hF) ⟨rfl, rfl, rfl, rfl, trivial⟩ trivial rfl
  · refine G.known (t := 13) hc24 rfl ?_
    refine G.opG1 (op_move (Ev.t 1 (bI .i64 at_1)) rfl) rfl rfl rfl ⟨rfl, trivial⟩ trivial ?_
    refine G.opG1 (op_move (Ev.t 0 (bS s_0)) rfl) rfl rfl rfl ⟨rfl, trivial⟩ trivial ?_
    refine G.opG1 (op_lenS Try.underlying9 (Ev.t 15 (bS s_0)) rfl) rfl rfl rfl ⟨rfl, trivial⟩ trivial ?_
    refine G.opG1 (op_geq (Ev.t 14 (bI .i64 at_1)) (Ev.t 16 (bI .i64 (s_0.size : Int))) rfl) rfl rfl rfl ⟨rfl, rfl, trivial⟩ trivial ?_
    refine G.op1 (op_pickF (Ev.t 13 (bB false)) (Ev.t 17 (bB (decide ((s_0.size : Int) ≤ at_1)))) rfl) rfl ⟨rfl, rfl, trivial⟩ trivial ?_
    refine G.endOps ?_
    exact G.arr (J23 (decide ((s_0.size : Int) ≤ at_1)) hF) ⟨rfl, rfl, rfl, rfl, trivial⟩ trivial rfl


set_option maxRecDepth 20000 in
set_option maxHeartbeats 2000000 in
theorem ct_vary_ReadText (s_0 : ByteArray) (at_1 : Int) (most_2 : Int) (r : (ByteArray × Int × Bool)) (hF : vary_ReadText s_0 at_1 most_2 = some r) : Ct Try.prog 41 [.g (.d (vS s_0)), .g (.d (vI at_1)), .g (.d (vI most_2))] (.tup [.d (vS r.1), .d (vI r.2.1), .d (vB r.2.2)]) := by
  unfold vary_ReadText at hF
  refine Ct.intro Try.func41 rfl Try.ntmps41 rfl rfl fun M w => ?_
  refine G.seq ?_
  refine G.region ?_
  refine G.op1 (op_assign (Ev.c _ rfl) rfl) rfl trivial trivial ?_
  refine G.op1 (op_assign (Ev.c _ rfl) rfl) rfl trivial trivial ?_
  refine G.op1 (op_assign (Ev.c _ rfl) rfl) rfl trivial trivial ?_
  refine G.endOps ?_
  refine G.seq ?_
  refine G.region ?_
  refine G.op1 (op_move (Ev.t 0 (bS s_0)) rfl) rfl ⟨rfl, trivial⟩ trivial ?_
  refine G.op1 (op_move (Ev.t 1 (bI .i64 at_1)) rfl) rfl ⟨rfl, trivial⟩ trivial ?_
  obtain ⟨r1, hr1, hF⟩ := bindS hF
  refine G.op1 (op_callQ (sv := .tup [bI .u64 r1.1, bI .i64 r1.2.1, bB r1.2.2]) cf40 (ct_vary_Read s_0 at_1 r1 hr1) rfl rfl (EvQL.cons (EvQ.g (Ev.t 12 (bS s_0))) (EvQL.cons (EvQ.g (Ev.t 13 (bI .i64 at_1))) EvQL.nil)) rfl) rfl ⟨rfl, rfl, trivial⟩ trivial ?_
  refine G.op1 (op_moveS (t := 14) (sv := .tup [bI .u64 r1.1, bI .i64 r1.2.1, bB r1.2.2]) rfl) rfl ⟨rfl, trivial⟩ trivial ?_
  refine G.op1 (op_extract (l := [bI .u64 r1.1, bI .i64 r1.2.1, bB r1.2.2]) (c := bI .u64 r1.1) rfl rfl) rfl ⟨rfl, trivial⟩ trivial ?_
  refine G.op1 (op_extract (l := [bI .u64 r1.1, bI .i64 r1.2.1, bB r1.2.2]) (c := bI .i64 r1.2.1) rfl rfl) rfl ⟨rfl, trivial⟩ trivial ?_
  refine G.op1 (op_extract (l := [bI .u64 r1.1, bI .i64 r1.2.1, bB r1.2.2]) (c := bB r1.2.2) rfl rfl) rfl ⟨rfl, trivial⟩ trivial ?_
  refine G.op1 (op_assign (Ev.t 15 (bI .u64 r1.1)) rfl) rfl ⟨rfl, trivial⟩ trivial ?_
  refine G.op1 (op_assign (Ev.t 16 (bI .i64 r1.2.1)) rfl) rfl ⟨rfl, trivial⟩ trivial ?_
  refine G.op1 (op_assign (Ev.t 17 (bB r1.2.2)) rfl) rfl ⟨rfl, trivial⟩ trivial ?_
  refine G.endOps ?_
  refine G.seq ?_
  refine G.seq ?_
  refine G.joinC (T := Bool) (fun y2 => ⟨[(0, oS s_0), (9, .one (bI .u64 r1.1)), (10, oI r1.2.1), (38, oB y2)], []⟩) (fun y2 => vary_ReadText_k1 s_0 r1 y2 = some r) (fun y2 hF => ?_) (fun J5 => ?_)
  · unfold vary_ReadText_k1 at hF
    refine ifS hF (fun hc3 hF => ?_) (fun hc3 hF => ?_)
    · refine G.cond rfl (fun _ => ?_) (fun hx => by rw [hc3] at hx; cases hx)
      refine G.seq ?_
      refine G.region ?_
      refine G.op1 (op_assign (Ev.c _ rfl) rfl) rfl trivial trivial ?_
      refine G.op1 (op_assign (Ev.c _ rfl) rfl) rfl trivial trivial ?_
      refine G.op1 (op_assign (Ev.c _ rfl) rfl) rfl trivial trivial ?_
      refine G.endOps ?_
      cases hF
      exact G.ret3 Try.results41 (RVar.tmp 6 _) (RVar.tmp 7 _) (RVar.tmp 8 _) ⟨rfl, rfl, rfl, trivial⟩ trivial
    · refine G.cond rfl (fun hx => by rw [hc3] at hx; cases hx) (fun _ => ?_)
      refine G.skip ?_
      refine G.seq ?_
      refine G.region ?_
      refine G.op1 (op_move (Ev.t 10 (bI .i64 r1.2.1)) rfl) rfl ⟨rfl, trivial⟩ trivial ?_
      refine G.op1 (op_move (Ev.t 9 (bI .u64 r1.1)) rfl) rfl ⟨rfl, trivial⟩ trivial ?_
      refine G.op1 (op_convI Try.underlying55 Try.underlying3 (Ev.t 40 (bI .u64 r1.1)) rfl) rfl ⟨rfl, trivial⟩ trivial ?_
      refine G.op1 (op_add (Ev.t 39 (bI .i64 r1.2.1)) (Ev.t 41 (bI .i64 (IntKind.wrap .i64 r1.1))) rfl) rfl ⟨rfl, rfl, trivial⟩ trivial ?_
      refine G.op1 (op_assign (Ev.t 42 (bI .i64 (IntKind.wrap .i64 (r1.2.1 + (IntKind.wrap .i64 r1.1))))) rfl) rfl ⟨rfl, trivial⟩ trivial ?_
      refine G.endOps ?_
      refine G.seq ?_
      refine G.region ?_
      refine G.op1 (op_move (Ev.t 0 (bS s_0)) rfl) rfl ⟨rfl, trivial⟩ trivial ?_
      refine G.op1 (op_move (Ev.t 10 (bI .i64 r1.2.1)) rfl) rfl ⟨rfl, trivial⟩ trivial ?_
      refine G.op1 (op_move (Ev.t 7 (bI .i64 (IntKind.wrap .i64 (r1.2.1 + (IntKind.wrap .i64 r1.1))))) rfl) rfl ⟨rfl, trivial⟩ trivial ?_
      obtain ⟨s4, hs4, hF⟩ := bindS hF
      refine G.op1 (OpL.cast (op_sliceS (lo := some r1.2.1) (hi := some (IntKind.wrap .i64 (r1.2.1 + (IntKind.wrap .i64 r1.1)))) Try.underlying9 (ssub_ok hs4).1 (ssub_ok hs4).2.1 (ssub_ok hs4).2.2.1 (Ev.t 43 (bS s_0)) (EvO.some (Ev.t 44 (bI .i64 r1.2.1))) (EvO.some (Ev.t 45 (bI .i64 (IntKind.wrap .i64 (r1.2.1 + (IntKind.wrap .i64 r1.1)))))) rfl) (congrArg (fun s => bS s) (ssub_ok hs4).2.2.2)) rfl ⟨rfl, rfl, rfl, trivial⟩ trivial ?_
      refine G.op1 (op_move (Ev.t 7 (bI .i64 (IntKind.wrap .i64 (r1.2.1 + (IntKind.wrap .i64 r1.1))))) rfl) rfl ⟨rfl, trivial⟩ trivial ?_
      refine G.op1 (op_assign (Ev.t 46 (bS s4)) rfl) rfl ⟨rfl, trivial⟩ trivial ?_
      refine G.op1 (op_assign (Ev.t 47 (bI .i64 (IntKind.wrap .i64 (r1.2.1 + (IntKind.wrap .i64 r1.1))))) rfl) rfl ⟨rfl, trivial⟩ trivial ?_
      refine G.op1 (op_assign (Ev.c _ rfl) rfl) rfl trivial trivial ?_
      refine G.endOps ?_
      cases hF
      exact G.ret3 Try.results41 (RVar.tmp 6 _) (RVar.tmp 7 _) (RVar.tmp 8 _) ⟨rfl, rfl, rfl, trivial⟩ trivial
  refine G.region ?_
  refine G.op1 (op_move (Ev.t 8 (bB r1.2.2)) rfl) rfl ⟨rfl, trivial⟩ trivial ?_
  refine G.op1 (op_not (Ev.t 18 (bB r1.2.2)) rfl) rfl ⟨rfl, trivial⟩ trivial ?_
  refine G.op1 (op_move (Ev.t 19 (bB (!r1.2.2))) rfl) rfl ⟨rfl, trivial⟩ trivial ?_
  refine G.joinL (T := Bool) 3 (fun y6 => ⟨[(0, oS s_0), (2, oI most_2), (9, .one (bI .u64 r1.1)), (10, oI r1.2.1), (23, oB y6)], []⟩) (fun y6 => vary_ReadText_k2 s_0 most_2 r1 y6 = some r) (fun y6 hF => ?_) (fun J11 => ?_)
  · unfold vary_ReadText_k2 at hF
    refine G.op1 (op_move (Ev.t 23 (bB y6)) rfl) rfl ⟨rfl, trivial⟩ trivial ?_
    refine G.joinL (T := Bool) 5 (fun y7 => ⟨[(0, oS s_0), (9, .one (bI .u64 r1.1)), (10, oI r1.2.1), (29, oB y7)], []⟩) (fun y7 => vary_ReadText_k3 s_0 r1 y7 = some r) (fun y7 hF => ?_) (fun J9 => ?_)
    · unfold vary_ReadText_k3 at hF
      refine G.op1 (op_move (Ev.t 29 (bB y7)) rfl) rfl ⟨rfl, trivial⟩ trivial ?_
      refine ifS hF (fun hc8 hF => ?_) (fun hc8 hF => ?_)
      · refine G.known (t := 30) hc8 rfl ?_
        refine G.opN1 rfl rfl rfl rfl rfl ?_
        refine G.opN1 rfl rfl rfl rfl rfl ?_
        refine G.opN1 rfl rfl rfl rfl rfl ?_
        refine G.opN1 rfl rfl rfl rfl rfl ?_
        refine G.opN1 rfl rfl rfl rfl rfl ?_
        refine G.opN1 rfl rfl rfl rfl rfl ?_
        refine G.opN1 rfl rfl rfl rfl rfl ?_
        refine G.op1 (op_pickT (Ev.t 30 (bB true)) (Ev.c _ rfl) rfl) rfl ⟨rfl, trivial⟩ trivial ?_
        refine G.endOps ?_
        exact G.arr (J5 true hF) ⟨rfl, rfl, rfl, rfl, trivial⟩ trivial rfl
      · refine G.known (t := 30) hc8 rfl ?_
        refine G.opG1 (op_move (Ev.t 9 (bI .u64 r1.1)) rfl) rfl rfl rfl ⟨rfl, trivial⟩ trivial ?_
        refine G.opG1 (op_move (Ev.t 0 (bS s_0)) rfl) rfl rfl rfl ⟨rfl, trivial⟩ trivial ?_
        refine G.opG1 (op_lenS Try.underlying9 (Ev.t 32 (bS s_0)) rfl) rfl rfl rfl ⟨rfl, trivial⟩ trivial ?_
        refine G.opG1 (op_move (Ev.t 10 (bI .i64 r1.2.1)) rfl) rfl rfl rfl ⟨rfl, trivial⟩ trivial ?_
        refine G.opG1 (op_sub (Ev.t 33 (bI .i64 (s_0.size : Int))) (Ev.t 34 (bI .i64 r1.2.1)) rfl) rfl rfl rfl ⟨rfl, rfl, trivial⟩ trivial ?_
        refine G.opG1 (op_convI Try.underlying3 Try.underlying55 (Ev.t 35 (bI .i64 (IntKind.wrap .i64 ((s_0.size : Int) - r1.2.1)))) rfl) rfl rfl rfl ⟨rfl, trivial⟩ trivial ?_
        refine G.opG1 (op_gtr (Ev.t 31 (bI .u64 r1.1)) (Ev.t 36 (bI .u64 (IntKind.wrap .u64 (IntKind.wrap .i64 ((s_0.size : Int) - r1.2.1))))) rfl) rfl rfl rfl ⟨rfl, rfl, trivial⟩ trivial ?_
        refine G.op1 (op_pickF (Ev.t 30 (bB false)) (Ev.t 37 (bB (decide ((IntKind.wrap .u64 (IntKind.wrap .i64 ((s_0.size : Int) - r1.2.1))) < r1.1)))) rfl) rfl ⟨rfl, rfl, trivial⟩ trivial ?_
        refine G.endOps ?_
        exact G.arr (J5 (decide ((IntKind.wrap .u64 (IntKind.wrap .i64 ((s_0.size : Int) - r1.2.1))) < r1.1)) hF) ⟨rfl, rfl, rfl, rfl, trivial⟩ trivial rfl
    refine ifS hF (fun hc10 hF => ?_) (fun hc10 hF => ?_)
    · refine G.known (t := 24) hc10 rfl ?_
      refine G.opN1 rfl rfl rfl rfl rfl ?_
      refine G.opN1 rfl rfl rfl rfl rfl ?_
      refine G.opN1 rfl rfl rfl rfl rfl ?_
      refine G.opN1 rfl rfl rfl rfl rfl ?_
      refine G.op1 (op_pickT (Ev.t 24 (bB true)) (Ev.c _ rfl) rfl) rfl ⟨rfl, trivial⟩ trivial ?_
      exact G.arr (J9 true hF) ⟨rfl, rfl, rfl, rfl, trivial⟩ trivial rfl
    · refine G.known (t := 24) hc10 rfl ?_
      refine G.opG1 (op_move (Ev.t 9 (bI .u64 r1.1)) rfl) rfl rfl rfl ⟨rfl, trivial⟩ trivial ?_
      refine G.opG1 (op_move (Ev.t 2 (bI .i64 most_2)) rfl) rfl rfl rfl ⟨rfl, trivial⟩ trivial ?_
      refine G.opG1 (op_convI Try.underlying3 Try.underlying55 (Ev.t 26 (bI .i64 most_2)) rfl) rfl rfl rfl ⟨rfl, trivial⟩ trivial ?_
      refine G.opG1 (op_gtr (Ev.t 25 (bI .u64 r1.1)) (Ev.t 27 (bI .u64 (IntKind.wrap .u64 most_2))) rfl) rfl rfl rfl ⟨rfl, rfl, trivial⟩ trivial ?_
      refine G.op1 (op_pickF (Ev.t 24 (bB false)) (Ev.t 28 (bB (decide ((IntKind.wrap .u64 most_2) < r1.1)))) rfl) rfl ⟨rfl, rfl, trivial⟩ trivial ?_
      exact G.arr (J9 (decide ((IntKind.wrap .u64 most_2) < r1.1)) hF) ⟨rfl, rfl, rfl, rfl, trivial⟩ trivial rfl
  refine ifS hF (fun hc12 hF => ?_) (fun hc12 hF => ?_)
  · refine G.known (t := 20) hc12 rfl ?_
    refine G.opN1 rfl rfl rfl rfl rfl ?_
    refine G.opN1 rfl rfl rfl rfl rfl ?_
    refine G.op1 (op_pickT (Ev.t 20 (bB true)) (Ev.c _ rfl) rfl) rfl ⟨rfl, trivial⟩ trivial ?_
    exact G.arr (J11 true hF) ⟨rfl, rfl, rfl, rfl, rfl, trivial⟩ trivial rfl
  · refine G.known (t := 20) hc12 rfl ?_
    refine G.opG1 (op_move (Ev.t 2 (bI .i64 most_2)) rfl) rfl rfl rfl ⟨rfl, trivial⟩ trivial ?_
    refine G.opG1 (op_lss (Ev.t 21 (bI .i64 most_2)) (Ev.c _ rfl) rfl) rfl rfl rfl ⟨rfl, trivial⟩ trivial ?_
    refine G.op1 (op_pickF (Ev.t 20 (bB false)) (Ev.t 22 (bB (decide (most_2 < 0)))) rfl) rfl ⟨rfl, rfl, trivial⟩ trivial ?_
    exact G.arr (J11 (decide (most_2 < 0)) hF) ⟨rfl, rfl, rfl, rfl, rfl, trivial⟩ trivial rfl


set_option maxRecDepth 20000 in
set_option maxHeartbeats 2000000 in
theorem ct_wire_reader_moves (r_0 : Wire_reader) (end_1 : Int) (ok_2 : Bool) (r : Wire_reader) (hF : wire_reader_moves r_0 end_1 ok_2 = some r) : CtM Try.prog 29 [.pt (.dat 53 (encWire_reader r_0)), .g (.d (vI end_1)), .g (.d (vB ok_2))] (.dat 53 (encWire_reader r)) (.tup []) := by
  unfold wire_reader_moves at hF
  refine CtM.intro (h := .dat 53 (encWire_reader r_0)) 0 Try.func29 rfl Try.ntmps29 rfl rfl rfl rfl (fun M w b go => ?_)
  refine G.seq ?_
  refine G.region ?_
  refine G.op1 (op_move (Ev.t 0 (.ptr 0 0)) rfl) rfl ⟨rfl, trivial⟩ trivial ?_
  refine G.op1 (op_move (Ev.t 1 (bI .i64 end_1)) rfl) rfl ⟨rfl, trivial⟩ trivial ?_
  refine G.op1 (op_nilCheckP (Ev.t 6 (.ptr 0 0)) rfl) rfl ⟨rfl, trivial⟩ trivial ?_
  refine G.op1 (op_fieldP (off' := 1) Try.underlying53 rfl ti3 (by decide) rfl (Ev.t 8 (.ptr 0 0)) rfl) rfl ⟨rfl, trivial⟩ trivial ?_
  refine G.op3 (op_store1 (cs' := [bS r_0.s, bI .i64 end_1, bB r_0.bad]) (c := bI .i64 end_1) trivial ti3 rfl rfl (Ev.t 9 (.ptr 0 1)) (Ev.t 7 (bI .i64 end_1))) rfl ⟨rfl, rfl, trivial⟩ ⟨rfl, trivial⟩ ?_
  refine G.endOps ?_
  refine G.region ?_
  refine G.op1 (op_move (Ev.t 0 (.ptr 0 0)) rfl) rfl ⟨rfl, trivial⟩ trivial ?_
  refine G.op1 (op_move (Ev.t 0 (.ptr 0 0)) rfl) rfl ⟨rfl, trivial⟩ trivial ?_
  refine G.op1 (op_nilCheckP (Ev.t 11 (.ptr 0 0)) rfl) rfl ⟨rfl, trivial⟩ trivial ?_
  refine G.op1 (op_fieldP (off' := 2) Try.underlying53 rfl ti4 (by decide) rfl (Ev.t 12 (.ptr 0 0)) rfl) rfl ⟨rfl, trivial⟩ trivial ?_
  refine G.op1 (op_load1P (c := bB r_0.bad) Try.underlying4 rfl rfl (Ev.t 13 (.ptr 0 2)) rfl) rfl ⟨rfl, trivial⟩ ⟨rfl, trivial⟩ ?_
  refine G.op1 (op_move (Ev.t 14 (bB r_0.bad)) rfl) rfl ⟨rfl, trivial⟩ trivial ?_
  refine ifS hF (fun hc1 hF => ?_) (fun hc1 hF => ?_)
  · refine G.known (t := 15) hc1 rfl ?_
    refine G.opN1 rfl rfl rfl rfl rfl ?_
    refine G.opN1 rfl rfl rfl rfl rfl ?_
    refine G.op1 (op_pickT (Ev.t 15 (bB true)) (Ev.c _ rfl) rfl) rfl ⟨rfl, trivial⟩ trivial ?_
    refine G.op1 (op_nilCheckP (Ev.t 10 (.ptr 0 0)) rfl) rfl ⟨rfl, trivial⟩ trivial ?_
    refine G.op1 (op_fieldP (off' := 2) Try.underlying53 rfl ti4 (by decide) rfl (Ev.t 19 (.ptr 0 0)) rfl) rfl ⟨rfl, trivial⟩ trivial ?_
    refine G.op3 (op_store1 (cs' := [bS r_0.s, bI .i64 end_1, bB true]) (c := bB true) trivial ti4 rfl rfl (Ev.t 20 (.ptr 0 2)) (Ev.t 18 (bB true))) rfl ⟨rfl, rfl, trivial⟩ ⟨rfl, trivial⟩ ?_
    refine G.endOps ?_
    have hF := Option.some.inj hF; subst hF
    exact G.fallM (retOK0 Try.results29) trivial trivial ⟨rfl, trivial⟩
  · refine G.known (t := 15) hc1 rfl ?_
    refine G.opG1 (op_move (Ev.t 2 (bB ok_2)) rfl) rfl rfl rfl ⟨rfl, trivial⟩ trivial ?_
    refine G.opG1 (op_not (Ev.t 16 (bB ok_2)) rfl) rfl rfl rfl ⟨rfl, trivial⟩ trivial ?_
    refine G.op1 (op_pickF (Ev.t 15 (bB false)) (Ev.t 17 (bB (!ok_2))) rfl) rfl ⟨rfl, rfl, trivial⟩ trivial ?_
    refine G.op1 (op_nilCheckP (Ev.t 10 (.ptr 0 0)) rfl) rfl ⟨rfl, trivial⟩ trivial ?_
    refine G.op1 (op_fieldP (off' := 2) Try.underlying53 rfl ti4 (by decide) rfl (Ev.t 19 (.ptr 0 0)) rfl) rfl ⟨rfl, trivial⟩ trivial ?_
    refine G.op3 (op_store1 (cs' := [bS r_0.s, bI .i64 end_1, bB (!ok_2)]) (c := bB (!ok_2)) trivial ti4 rfl rfl (Ev.t 20 (.ptr 0 2)) (Ev.t 18 (bB (!ok_2)))) rfl ⟨rfl, rfl, trivial⟩ ⟨rfl, trivial⟩ ?_
    refine G.endOps ?_
    have hF := Option.some.inj hF; subst hF
    exact G.fallM (retOK0 Try.results29) trivial trivial ⟨rfl, trivial⟩


set_option maxRecDepth 20000 in
set_option maxHeartbeats 2000000 in
theorem ct_wire_reader_text (r_0 : Wire_reader) (most_1 : Int) (r : (Wire_reader × ByteArray)) (hF : wire_reader_text r_0 most_1 = some r) : CtM Try.prog 18 [.pt (.dat 53 (encWire_reader r_0)), .g (.d (vI most_1))] (.dat 53 (encWire_reader r.1)) (.one (.d (vS r.2))) := by
  unfold wire_reader_text at hF
  refine CtM.intro (h := .dat 53 (encWire_reader r_0)) 0 Try.func18 rfl Try.ntmps18 rfl rfl rfl rfl (fun M w b go => ?_)
  refine G.seq ?_
  refine G.region ?_
  refine G.op1 (op_assign (Ev.c _ rfl) rfl) rfl trivial trivial ?_
  refine G.endOps ?_
  refine G.seq ?_
  obtain ⟨r1, hr1, hF⟩ := bindS hF
  refine G.drawnI (deps := [[], [0], [0, 1], [0, 1, 2], [], [4], [4, 5], [4, 5, 6], [], [0, 1, 2, 3, 4, 5, 6, 7, 8], [0, 1, 2, 3, 4, 5, 6, 7, 8, 9], [0, 1, 2, 3, 4, 5, 6, 7, 8, 9, 10], [0, 1, 2, 3, 4, 5, 6, 7, 8, 9, 10], [0, 1, 2, 3, 4, 5, 6, 7, 8, 9, 10], [0, 1, 2, 3, 4, 5, 6, 7, 8, 9, 10, 11], [0, 1, 2, 3, 4, 5, 6, 7, 8, 9, 10, 11, 12, 14], [0, 1, 2, 3, 4, 5, 6, 7, 8, 9, 10, 11, 12, 13, 14, 15]]) (sl' := [(0, .one (.ptr 0 0)), (5, oS r1.1), (6, oI r1.2.1), (7, oB r1.2.2)]) (hp' := [(0, some (.blk 53 [bS r_0.s, bI .i64 r_0.at_, bB r_0.bad]))]) (.c (oP rfl rfl (op_move (Ev.t 0 (.ptr 0 0)) rfl)) (.c (oP rfl rfl (op_nilCheckP (Ev.t 9 (.ptr 0 0)) rfl)) (.c (oP rfl rfl (op_fieldP (off' := 0) Try.underlying53 rfl ti9 (by decide) rfl (Ev.t 10 (.ptr 0 0)) rfl)) (.c (oP rfl rfl (op_load1P (c := bS r_0.s) Try.underlying9 rfl rfl (Ev.t 11 (.ptr 0 0)) rfl)) (.c (oP rfl rfl (op_move (Ev.t 0 (.ptr 0 0)) rfl)) (.c (oP rfl rfl (op_nilCheckP (Ev.t 13 (.ptr 0 0)) rfl)) (.c (oP rfl rfl (op_fieldP (off' := 1) Try.underlying53 rfl ti3 (by decide) rfl (Ev.t 14 (.ptr 0 0)) rfl)) (.c (oP rfl rfl (op_load1P (c := bI .i64 r_0.at_) Try.underlying3 rfl rfl (Ev.t 15 (.ptr 0 1)) rfl)) (.c (oP rfl rfl (op_move (Ev.t 1 (bI .i64 most_1)) rfl)) (.c (oP rfl rfl (op_callQ (sv := .tup [bS r1.1, bI .i64 r1.2.1, bB r1.2.2]) cf41 (ct_vary_ReadText r_0.s r_0.at_ most_1 r1 hr1) rfl rfl (EvQL.cons (EvQ.g (Ev.t 12 (bS r_0.s))) (EvQL.cons (EvQ.g (Ev.t 16 (bI .i64 r_0.at_))) (EvQL.cons (EvQ.g (Ev.t 17 (bI .i64 most_1))) EvQL.nil))) rfl)) (.c (oP rfl rfl (op_moveS (t := 18) (sv := .tup [bS r1.1, bI .i64 r1.2.1, bB r1.2.2]) rfl)) (.c (oP rfl rfl (op_extract (l := [bS r1.1, bI .i64 r1.2.1, bB r1.2.2]) (c := bS r1.1) rfl rfl)) (.c (oP rfl rfl (op_extract (l := [bS r1.1, bI .i64 r1.2.1, bB r1.2.2]) (c := bI .i64 r1.2.1) rfl rfl)) (.c (oP rfl rfl (op_extract (l := [bS r1.1, bI .i64 r1.2.1, bB r1.2.2]) (c := bB r1.2.2) rfl rfl)) (.c (oP rfl rfl (op_assign (Ev.t 19 (bS r1.1)) rfl)) (.c (oP rfl rfl (op_assign (Ev.t 20 (bI .i64 r1.2.1)) rfl)) (.c (oP rfl rfl (op_assign (Ev.t 21 (bB r1.2.2)) rfl)) .nil))))))))))))))))) follows rfl rfl rfl ⟨⟨rfl, trivial⟩, trivial, ⟨rfl, trivial⟩, trivial, ⟨rfl, trivial⟩, trivial, ⟨rfl, trivial⟩, ⟨⟨rfl, rfl⟩, trivial⟩, ⟨rfl, trivial⟩, trivial, ⟨rfl, trivial⟩, trivial, ⟨rfl, trivial⟩, trivial, ⟨rfl, trivial⟩, ⟨⟨rfl, rfl⟩, trivial⟩, ⟨rfl, trivial⟩, trivial, ⟨rfl, rfl, rfl, trivial⟩, trivial, ⟨rfl, trivial⟩, trivial, ⟨rfl, trivial⟩, trivial, ⟨rfl, trivial⟩, trivial, ⟨rfl, trivial⟩, trivial, ⟨rfl, trivial⟩, trivial, ⟨rfl, trivial⟩, trivial, ⟨rfl, trivial⟩, trivial, trivial⟩ ⟨rfl, rfl, rfl, rfl, trivial⟩ ⟨rfl, trivial⟩ rfl ?_
  refine G.seq ?_
  refine G.region ?_
  refine G.op1 (op_move (Ev.t 0 (.ptr 0 0)) rfl) rfl ⟨rfl, trivial⟩ trivial ?_
  refine G.op1 (op_move (Ev.t 6 (bI .i64 r1.2.1)) rfl) rfl ⟨rfl, trivial⟩ trivial ?_
  refine G.op1 (op_move (Ev.t 7 (bB r1.2.2)) rfl) rfl ⟨rfl, trivial⟩ trivial ?_
  obtain ⟨r2, hr2, hF⟩ := bindS hF
  refine G.opM (op_callM (k := 0) (h := .dat 53 (encWire_reader r_0)) (h' := .dat 53 (encWire_reader r2)) 0 (sv := .tup []) cf29 (ct_wire_reader_moves r_0 r1.2.1 r1.2.2 r2 hr2) rfl rfl (EvM.pt (Ev.t 22 (.ptr 0 0)) (EvM.g (Ev.t 23 (bI .i64 r1.2.1)) (EvM.g (Ev.t 24 (bB r1.2.2)) EvM.nil))) rfl) rfl ⟨rfl, rfl, rfl, trivial⟩ ⟨rfl, trivial⟩ ?_
  refine G.endOps ?_
  refine G.seq ?_
  refine G.region ?_
  refine G.op1 (op_move (Ev.t 5 (bS r1.1)) rfl) rfl ⟨rfl, trivial⟩ trivial ?_
  refine G.op1 (op_assign (Ev.t 26 (bS r1.1)) rfl) rfl ⟨rfl, trivial⟩ trivial ?_
  refine G.endOps ?_
  have hF := Option.some.inj hF; subst hF
  exact G.retM (retOK1 Try.results18 (RVar.tmp 4 _)) ⟨rfl, trivial⟩ trivial ⟨rfl, trivial⟩


set_option maxRecDepth 20000 in
set_option maxHeartbeats 2000000 in
theorem ct_wire_reader_number (r_0 : Wire_reader) (most_1 : Int) (r : (Wire_reader × Int)) (hF : wire_reader_number r_0 most_1 = some r) : CtM Try.prog 17 [.pt (.dat 53 (encWire_reader r_0)), .g (.d (.v (.int .u64 most_1)))] (.dat 53 (encWire_reader r.1)) (.one (.d (vI r.2))) := by
  unfold wire_reader_number at hF
  refine CtM.intro (h := .dat 53 (encWire_reader r_0)) 0 Try.func17 rfl Try.ntmps17 rfl rfl rfl rfl (fun M w b go => ?_)
  refine G.seq ?_
  refine G.region ?_
  refine G.op1 (op_assign (Ev.c _ rfl) rfl) rfl trivial trivial ?_
  refine G.endOps ?_
  refine G.seq ?_
  obtain ⟨r1, hr1, hF⟩ := bindS hF
  refine G.drawnI (deps := [[], [0], [0, 1], [0, 1, 2], [], [4], [4, 5], [4, 5, 6], [0, 1, 2, 3, 4, 5, 6, 7], [0, 1, 2, 3, 4, 5, 6, 7, 8], [0, 1, 2, 3, 4, 5, 6, 7, 8, 9], [0, 1, 2, 3, 4, 5, 6, 7, 8, 9], [0, 1, 2, 3, 4, 5, 6, 7, 8, 9], [0, 1, 2, 3, 4, 5, 6, 7, 8, 9, 10], [0, 1, 2, 3, 4, 5, 6, 7, 8, 9, 10, 11, 13], [0, 1, 2, 3, 4, 5, 6, 7, 8, 9, 10, 11, 12, 13, 14]]) (sl' := [(0, .one (.ptr 0 0)), (1, .one (bI .u64 most_1)), (5, .one (bI .u64 r1.1)), (6, oI r1.2.1), (7, oB r1.2.2)]) (hp' := [(0, some (.blk 53 [bS r_0.s, bI .i64 r_0.at_, bB r_0.bad]))]) (.c (oP rfl rfl (op_move (Ev.t 0 (.ptr 0 0)) rfl)) (.c (oP rfl rfl (op_nilCheckP (Ev.t 9 (.ptr 0 0)) rfl)) (.c (oP rfl rfl (op_fieldP (off' := 0) Try.underlying53 rfl ti9 (by decide) rfl (Ev.t 10 (.ptr 0 0)) rfl)) (.c (oP rfl rfl (op_load1P (c := bS r_0.s) Try.underlying9 rfl rfl (Ev.t 11 (.ptr 0 0)) rfl)) (.c (oP rfl rfl (op_move (Ev.t 0 (.ptr 0 0)) rfl)) (.c (oP rfl rfl (op_nilCheckP (Ev.t 13 (.ptr 0 0)) rfl)) (.c (oP rfl rfl (op_fieldP (off' := 1) Try.underlying53 rfl ti3 (by decide) rfl (Ev.t 14 (.ptr 0 0)) rfl)) (.c (oP rfl rfl (op_load1P (c := bI .i64 r_0.at_) Try.underlying3 rfl rfl (Ev.t 15 (.ptr 0 1)) rfl)) (.c (oP rfl rfl (op_callQ (sv := .tup [bI .u64 r1.1, bI .i64 r1.2.1, bB r1.2.2]) cf40 (ct_vary_Read r_0.s r_0.at_ r1 hr1) rfl rfl (EvQL.cons (EvQ.g (Ev.t 12 (bS r_0.s))) (EvQL.cons (EvQ.g (Ev.t 16 (bI .i64 r_0.at_))) EvQL.nil)) rfl)) (.c (oP rfl rfl (op_moveS (t := 17) (sv := .tup [bI .u64 r1.1, bI .i64 r1.2.1, bB r1.2.2]) rfl)) (.c (oP rfl rfl (op_extract (l := [bI .u64 r1.1, bI .i64 r1.2.1, bB r1.2.2]) (c := bI .u64 r1.1) rfl rfl)) (.c (oP rfl rfl (op_extract (l := [bI .u64 r1.1, bI .i64 r1.2.1, bB r1.2.2]) (c := bI .i64 r1.2.1) rfl rfl)) (.c (oP rfl rfl (op_extract (l := [bI .u64 r1.1, bI .i64 r1.2.1, bB r1.2.2]) (c := bB r1.2.2) rfl rfl)) (.c (oP rfl rfl (op_assign (Ev.t 18 (bI .u64 r1.1)) rfl)) (.c (oP rfl rfl (op_assign (Ev.t 19 (bI .i64 r1.2.1)) rfl)) (.c (oP rfl rfl (op_assign (Ev.t 20 (bB r1.2.2)) rfl)) .nil)))))))))))))))) follows rfl rfl rfl ⟨⟨rfl, trivial⟩, trivial, ⟨rfl, trivial⟩, trivial, ⟨rfl, trivial⟩, trivial, ⟨rfl, trivial⟩, ⟨⟨rfl, rfl⟩, trivial⟩, ⟨rfl, trivial⟩, trivial, ⟨rfl, trivial⟩, trivial, ⟨rfl, trivial⟩, trivial, ⟨rfl, trivial⟩, ⟨⟨rfl, rfl⟩, trivial⟩, ⟨rfl, rfl, trivial⟩, trivial, ⟨rfl, trivial⟩, trivial, ⟨rfl, trivial⟩, trivial, ⟨rfl, trivial⟩, trivial, ⟨rfl, trivial⟩, trivial, ⟨rfl, trivial⟩, trivial, ⟨rfl, trivial⟩, trivial, ⟨rfl, trivial⟩, trivial, trivial⟩ ⟨rfl, rfl, rfl, rfl, rfl, trivial⟩ ⟨rfl, trivial⟩ rfl ?_
  refine G.seq ?_
  refine G.joinC (T := ByteArray × Int × Bool) (fun y2 => ⟨[(0, .one (.ptr 0 0)), (5, .one (bI .u64 r1.1))], [(0, some (.blk 53 [bS y2.1, bI .i64 y2.2.1, bB y2.2.2]))]⟩) (fun y2 => wire_reader_number_k1 r1 y2 = some r) (fun y2 hF => ?_) (fun J4 => ?_)
  · unfold wire_reader_number_k1 at hF
    refine G.seq ?_
    refine G.seq ?_
    refine G.region ?_
    refine G.op1 (op_move (Ev.t 0 (.ptr 0 0)) rfl) rfl ⟨rfl, trivial⟩ trivial ?_
    refine G.op1 (op_nilCheckP (Ev.t 30 (.ptr 0 0)) rfl) rfl ⟨rfl, trivial⟩ trivial ?_
    refine G.op1 (op_fieldP (off' := 2) Try.underlying53 rfl ti4 (by decide) rfl (Ev.t 31 (.ptr 0 0)) rfl) rfl ⟨rfl, trivial⟩ trivial ?_
    refine G.op1 (op_load1P (c := bB y2.2.2) Try.underlying4 rfl rfl (Ev.t 32 (.ptr 0 2)) rfl) rfl ⟨rfl, trivial⟩ ⟨rfl, trivial⟩ ?_
    refine G.endOps ?_
    refine ifS hF (fun hc3 hF => ?_) (fun hc3 hF => ?_)
    · refine G.cond rfl (fun _ => ?_) (fun hx => by rw [hc3] at hx; cases hx)
      refine G.seq ?_
      refine G.region ?_
      refine G.op1 (op_assign (Ev.c _ rfl) rfl) rfl trivial trivial ?_
      refine G.endOps ?_
      have hF := Option.some.inj hF; subst hF
      exact G.retM (retOK1 Try.results17 (RVar.tmp 4 _)) ⟨rfl, trivial⟩ trivial ⟨rfl, trivial⟩
    · refine G.cond rfl (fun hx => by rw [hc3] at hx; cases hx) (fun _ => ?_)
      refine G.skip ?_
      refine G.seq ?_
      refine G.region ?_
      refine G.op1 (op_move (Ev.t 5 (bI .u64 r1.1)) rfl) rfl ⟨rfl, trivial⟩ trivial ?_
      refine G.op1 (op_convI Try.underlying55 Try.underlying3 (Ev.t 34 (bI .u64 r1.1)) rfl) rfl ⟨rfl, trivial⟩ trivial ?_
      refine G.op1 (op_assign (Ev.t 35 (bI .i64 (IntKind.wrap .i64 r1.1))) rfl) rfl ⟨rfl, trivial⟩ trivial ?_
      refine G.endOps ?_
      have hF := Option.some.inj hF; subst hF
      exact G.retM (retOK1 Try.results17 (RVar.tmp 4 _)) ⟨rfl, trivial⟩ trivial ⟨rfl, trivial⟩
  refine G.region ?_
  refine G.op1 (op_move (Ev.t 0 (.ptr 0 0)) rfl) rfl ⟨rfl, trivial⟩ trivial ?_
  refine G.op1 (op_move (Ev.t 6 (bI .i64 r1.2.1)) rfl) rfl ⟨rfl, trivial⟩ trivial ?_
  refine G.op1 (op_move (Ev.t 7 (bB r1.2.2)) rfl) rfl ⟨rfl, trivial⟩ trivial ?_
  refine G.op1 (op_move (Ev.t 23 (bB r1.2.2)) rfl) rfl ⟨rfl, trivial⟩ trivial ?_
  refine ifS hF (fun hc5 hF => ?_) (fun hc5 hF => ?_)
  · refine G.known (t := 24) hc5 rfl ?_
    refine G.opG1 (op_move (Ev.t 5 (bI .u64 r1.1)) rfl) rfl rfl rfl ⟨rfl, trivial⟩ trivial ?_
    refine G.opG1 (op_move (Ev.t 1 (bI .u64 most_1)) rfl) rfl rfl rfl ⟨rfl, trivial⟩ trivial ?_
    refine G.opG1 (op_leq (Ev.t 25 (bI .u64 r1.1)) (Ev.t 26 (bI .u64 most_1)) rfl) rfl rfl rfl ⟨rfl, rfl, trivial⟩ trivial ?_
    refine G.op1 (op_pickT (Ev.t 24 (bB true)) (Ev.t 27 (bB (decide (r1.1 ≤ most_1)))) rfl) rfl ⟨rfl, rfl, trivial⟩ trivial ?_
    obtain ⟨r6, hr6, hF⟩ := bindS hF
    refine G.opM (op_callM (k := 0) (h := .dat 53 (encWire_reader r_0)) (h' := .dat 53 (encWire_reader r6)) 0 (sv := .tup []) cf29 (ct_wire_reader_moves r_0 r1.2.1 (decide (r1.1 ≤ most_1)) r6 hr6) rfl rfl (EvM.pt (Ev.t 21 (.ptr 0 0)) (EvM.g (Ev.t 22 (bI .i64 r1.2.1)) (EvM.g (Ev.t 28 (bB (decide (r1.1 ≤ most_1)))) EvM.nil))) rfl) rfl ⟨rfl, rfl, rfl, trivial⟩ ⟨rfl, trivial⟩ ?_
    refine G.endOps ?_
    exact G.arr (J4 (r6.s, r6.at_, r6.bad) hF) ⟨rfl, rfl, trivial⟩ ⟨rfl, trivial⟩ rfl
  · refine G.known (t := 24) hc5 rfl ?_
    refine G.opN1 rfl rfl rfl rfl rfl ?_
    refine G.opN1 rfl rfl rfl rfl rfl ?_
    refine G.opN1 rfl rfl rfl rfl rfl ?_
    refine G.op1 (op_pickF (Ev.t 24 (bB false)) (Ev.c _ rfl) rfl) rfl ⟨rfl, trivial⟩ trivial ?_
    obtain ⟨r7, hr7, hF⟩ := bindS hF
    refine G.opM (op_callM (k := 0) (h := .dat 53 (encWire_reader r_0)) (h' := .dat 53 (encWire_reader r7)) 0 (sv := .tup []) cf29 (ct_wire_reader_moves r_0 r1.2.1 false r7 hr7) rfl rfl (EvM.pt (Ev.t 21 (.ptr 0 0)) (EvM.g (Ev.t 22 (bI .i64 r1.2.1)) (EvM.g (Ev.t 28 (bB false)) EvM.nil))) rfl) rfl ⟨rfl, rfl, rfl, trivial⟩ ⟨rfl, trivial⟩ ?_
    refine G.endOps ?_
    exact G.arr (J4 (r7.s, r7.at_, r7.bad) hF) ⟨rfl, rfl, trivial⟩ ⟨rfl, trivial⟩ rfl


set_option maxRecDepth 20000 in
set_option maxHeartbeats 2000000 in
theorem ct_stamp_Check (s_0 : Api_Stamp) (r : Bool) (hF : stamp_Check s_0 = some r) : Ct Try.prog 49 [.g (.agg (encApi_Stamp s_0))] (.one (.d (vB r))) := by
  unfold stamp_Check at hF
  refine Ct.intro Try.func49 rfl Try.ntmps49 rfl rfl fun M w => ?_
  refine G.seq ?_
  refine G.region ?_
  refine G.op2 (op_boxA (k := 1001) (Ev.t 0 (.g (.agg [vI s_0.N, vI s_0.Site]))) rfl) rfl ⟨rfl, trivial⟩ ⟨rfl, trivial⟩ ?_
  refine G.op1 (op_assign (Ev.c _ rfl) rfl) rfl trivial trivial ?_
  refine G.endOps ?_
  refine G.seq ?_
  refine G.region ?_
  refine G.op1 (op_fieldP (off' := 0) Try.underlying40 rfl ti3 (by decide) rfl (Ev.t 1 (.ptr 1001 0)) rfl) rfl ⟨rfl, trivial⟩ trivial ?_
  refine G.op1 (op_load1P (c := bI .i64 s_0.N) Try.underlying3 rfl rfl (Ev.t 3 (.ptr 1001 0)) rfl) rfl ⟨rfl, trivial⟩ ⟨rfl, trivial⟩ ?_
  refine G.op1 (op_geq (Ev.t 4 (bI .i64 s_0.N)) (Ev.c _ rfl) rfl) rfl ⟨rfl, trivial⟩ trivial ?_
  refine G.op1 (op_move (Ev.t 5 (bB (decide (1 ≤ s_0.N)))) rfl) rfl ⟨rfl, trivial⟩ trivial ?_
  refine G.joinL (T := Bool) 4 (fun y1 => ⟨[(1, .one (.ptr 1001 0)), (10, oB y1)], [(1001, some (.blk 40 [bI .i64 s_0.N, bI .i64 s_0.Site]))]⟩) (fun y1 => stamp_Check_k1 s_0 y1 = some r) (fun y1 hF => ?_) (fun J6 => ?_)
  · unfold stamp_Check_k1 at hF
    refine G.op1 (op_move (Ev.t 10 (bB y1)) rfl) rfl ⟨rfl, trivial⟩ trivial ?_
    refine G.joinL (T := Bool) 4 (fun y2 => ⟨[(1, .one (.ptr 1001 0)), (15, oB y2)], [(1001, some (.blk 40 [bI .i64 s_0.N, bI .i64 s_0.Site]))]⟩) (fun y2 => stamp_Check_k2 s_0 y2 = some r) (fun y2 hF => ?_) (fun J4 => ?_)
    · unfold stamp_Check_k2 at hF
      refine G.op1 (op_move (Ev.t 15 (bB y2)) rfl) rfl ⟨rfl, trivial⟩ trivial ?_
      refine ifS hF (fun hc3 hF => ?_) (fun hc3 hF => ?_)
      · refine G.known (t := 16) hc3 rfl ?_
        refine G.opG1 (op_fieldP (off' := 1) Try.underlying40 rfl ti3 (by decide) rfl (Ev.t 1 (.ptr 1001 0)) rfl) rfl rfl rfl ⟨rfl, trivial⟩ trivial ?_
        refine G.opG1 (op_load1P (c := bI .i64 s_0.Site) Try.underlying3 rfl rfl (Ev.t 17 (.ptr 1001 1)) rfl) rfl rfl rfl ⟨rfl, trivial⟩ ⟨rfl, trivial⟩ ?_
        refine G.opG1 (op_lss (Ev.t 18 (bI .i64 s_0.Site)) (Ev.c _ rfl) rfl) rfl rfl rfl ⟨rfl, trivial⟩ trivial ?_
        refine G.op1 (op_pickT (Ev.t 16 (bB true)) (Ev.t 19 (bB (decide (s_0.Site < 6)))) rfl) rfl ⟨rfl, rfl, trivial⟩ trivial ?_
        refine G.op1 (op_assign (Ev.t 20 (bB (decide (s_0.Site < 6)))) rfl) rfl ⟨rfl, trivial⟩ trivial ?_
        refine G.endOps ?_
        cases hF
        exact G.ret1 Try.results49 (RVar.tmp 2 _) ⟨rfl, trivial⟩ trivial
      · refine G.known (t := 16) hc3 rfl ?_
        refine G.opN1 rfl rfl rfl rfl rfl ?_
        refine G.opN1 rfl rfl rfl rfl rfl ?_
        refine G.opN1 rfl rfl rfl rfl rfl ?_
        refine G.op1 (op_pickF (Ev.t 16 (bB false)) (Ev.c _ rfl) rfl) rfl ⟨rfl, trivial⟩ trivial ?_
        refine G.op1 (op_assign (Ev.t 20 (bB false)) rfl) rfl ⟨rfl, trivial⟩ trivial ?_
        refine G.endOps ?_
        cases hF
        exact G.ret1 Try.results49 (RVar.tmp 2 _) ⟨rfl, trivial⟩ trivial
    refine ifS hF (fun hc5 hF => ?_) (fun hc5 hF => ?_)
    · refine G.known (t := 11) hc5 rfl ?_
      refine G.opG1 (op_fieldP (off' := 1) Try.underlying40 rfl ti3 (by decide) rfl (Ev.t 1 (.ptr 1001 0)) rfl) rfl rfl rfl ⟨rfl, trivial⟩ trivial ?_
      refine G.opG1 (op_load1P (c := bI .i64 s_0.Site) Try.underlying3 rfl rfl (Ev.t 12 (.ptr 1001 1)) rfl) rfl rfl rfl ⟨rfl, trivial⟩ ⟨rfl, trivial⟩ ?_
      refine G.opG1 (op_geq (Ev.t 13 (bI .i64 s_0.Site)) (Ev.c _ rfl) rfl) rfl rfl rfl ⟨rfl, trivial⟩ trivial ?_
      refine G.op1 (op_pickT (Ev.t 11 (bB true)) (Ev.t 14 (bB (decide (0 ≤ s_0.Site)))) rfl) rfl ⟨rfl, rfl, trivial⟩ trivial ?_
      exact G.arr (J4 (decide (0 ≤ s_0.Site)) hF) ⟨rfl, rfl, trivial⟩ ⟨rfl, trivial⟩ rfl
    · refine G.known (t := 11) hc5 rfl ?_
      refine G.opN1 rfl rfl rfl rfl rfl ?_
      refine G.opN1 rfl rfl rfl rfl rfl ?_
      refine G.opN1 rfl rfl rfl rfl rfl ?_
      refine G.op1 (op_pickF (Ev.t 11 (bB false)) (Ev.c _ rfl) rfl) rfl ⟨rfl, trivial⟩ trivial ?_
      exact G.arr (J4 false hF) ⟨rfl, rfl, trivial⟩ ⟨rfl, trivial⟩ rfl
  refine ifS hF (fun hc7 hF => ?_) (fun hc7 hF => ?_)
  · refine G.known (t := 6) hc7 rfl ?_
    refine G.opG1 (op_fieldP (off' := 0) Try.underlying40 rfl ti3 (by decide) rfl (Ev.t 1 (.ptr 1001 0)) rfl) rfl rfl rfl ⟨rfl, trivial⟩ trivial ?_
    refine G.opG1 (op_load1P (c := bI .i64 s_0.N) Try.underlying3 rfl rfl (Ev.t 7 (.ptr 1001 0)) rfl) rfl rfl rfl ⟨rfl, trivial⟩ ⟨rfl, trivial⟩ ?_
    refine G.opG1 (op_leq (Ev.t 8 (bI .i64 s_0.N)) (Ev.c _ rfl) rfl) rfl rfl rfl ⟨rfl, trivial⟩ trivial ?_
    refine G.op1 (op_pickT (Ev.t 6 (bB true)) (Ev.t 9 (bB (decide (s_0.N ≤ 1099511627776)))) rfl) rfl ⟨rfl, rfl, trivial⟩ trivial ?_
    exact G.arr (J6 (decide (s_0.N ≤ 1099511627776)) hF) ⟨rfl, rfl, trivial⟩ ⟨rfl, trivial⟩ rfl
  · refine G.known (t := 6) hc7 rfl ?_
    refine G.opN1 rfl rfl rfl rfl rfl ?_
    refine G.opN1 rfl rfl rfl rfl rfl ?_
    refine G.opN1 rfl rfl rfl rfl rfl ?_
    refine G.op1 (op_pickF (Ev.t 6 (bB false)) (Ev.c _ rfl) rfl) rfl ⟨rfl, trivial⟩ trivial ?_
    exact G.arr (J6 false hF) ⟨rfl, rfl, trivial⟩ ⟨rfl, trivial⟩ rfl


set_option maxRecDepth 20000 in
set_option maxHeartbeats 2000000 in
theorem ct_stamp_Read (s_0 : ByteArray) (at_1 : Int) (r : (Api_Stamp × Int × Bool)) (hF : stamp_Read s_0 at_1 = some r) : Ct Try.prog 27 [.g (.d (vS s_0)), .g (.d (vI at_1))] (.tup [.agg (encApi_Stamp r.1), .d (vI r.2.1), .d (vB r.2.2)]) := by
  unfold stamp_Read at hF
  refine Ct.intro Try.func27 rfl Try.ntmps27 rfl rfl fun M w => ?_
  refine G.seq ?_
  refine G.region ?_
  refine G.op2 (op_alloc (k := 1004) (cs := [bI .i64 0, bI .i64 0]) ti40 ⟨.v _ rfl, .v _ rfl, trivial⟩ rfl) rfl trivial ⟨rfl, trivial⟩ ?_
  refine G.op1 (op_assign (Ev.c _ rfl) rfl) rfl trivial trivial ?_
  refine G.op1 (op_assign (Ev.c _ rfl) rfl) rfl trivial trivial ?_
  refine G.endOps ?_
  refine G.seq ?_
  refine G.region ?_
  refine G.op1 (op_move (Ev.t 0 (bS s_0)) rfl) rfl ⟨rfl, trivial⟩ trivial ?_
  refine G.op1 (op_move (Ev.t 1 (bI .i64 at_1)) rfl) rfl ⟨rfl, trivial⟩ trivial ?_
  obtain ⟨r1, hr1, hF⟩ := bindS hF
  refine G.op1 (op_callQ (sv := .tup [bI .u64 r1.1, bI .i64 r1.2.1, bB r1.2.2]) cf40 (ct_vary_Read s_0 at_1 r1 hr1) rfl rfl (EvQL.cons (EvQ.g (Ev.t 13 (bS s_0))) (EvQL.cons (EvQ.g (Ev.t 14 (bI .i64 at_1))) EvQL.nil)) rfl) rfl ⟨rfl, rfl, trivial⟩ trivial ?_
  refine G.op1 (op_moveS (t := 15) (sv := .tup [bI .u64 r1.1, bI .i64 r1.2.1, bB r1.2.2]) rfl) rfl ⟨rfl, trivial⟩ trivial ?_
  refine G.op1 (op_extract (l := [bI .u64 r1.1, bI .i64 r1.2.1, bB r1.2.2]) (c := bI .u64 r1.1) rfl rfl) rfl ⟨rfl, trivial⟩ trivial ?_
  refine G.op1 (op_extract (l := [bI .u64 r1.1, bI .i64 r1.2.1, bB r1.2.2]) (c := bI .i64 r1.2.1) rfl rfl) rfl ⟨rfl, trivial⟩ trivial ?_
  refine G.op1 (op_extract (l := [bI .u64 r1.1, bI .i64 r1.2.1, bB r1.2.2]) (c := bB r1.2.2) rfl rfl) rfl ⟨rfl, trivial⟩ trivial ?_
  refine G.op1 (op_assign (Ev.t 16 (bI .u64 r1.1)) rfl) rfl ⟨rfl, trivial⟩ trivial ?_
  refine G.op1 (op_assign (Ev.t 17 (bI .i64 r1.2.1)) rfl) rfl ⟨rfl, trivial⟩ trivial ?_
  refine G.op1 (op_assign (Ev.t 18 (bB r1.2.2)) rfl) rfl ⟨rfl, trivial⟩ trivial ?_
  refine G.endOps ?_
  refine G.seq ?_
  refine G.region ?_
  refine G.op1 (op_move (Ev.t 0 (bS s_0)) rfl) rfl ⟨rfl, trivial⟩ trivial ?_
  refine G.op1 (op_move (Ev.t 8 (bI .i64 r1.2.1)) rfl) rfl ⟨rfl, trivial⟩ trivial ?_
  obtain ⟨r2, hr2, hF⟩ := bindS hF
  refine G.op1 (op_callQ (sv := .tup [bI .u64 r2.1, bI .i64 r2.2.1, bB r2.2.2]) cf40 (ct_vary_Read s_0 r1.2.1 r2 hr2) rfl rfl (EvQL.cons (EvQ.g (Ev.t 20 (bS s_0))) (EvQL.cons (EvQ.g (Ev.t 21 (bI .i64 r1.2.1))) EvQL.nil)) rfl) rfl ⟨rfl, rfl, trivial⟩ trivial ?_
  refine G.op1 (op_moveS (t := 22) (sv := .tup [bI .u64 r2.1, bI .i64 r2.2.1, bB r2.2.2]) rfl) rfl ⟨rfl, trivial⟩ trivial ?_
  refine G.op1 (op_extract (l := [bI .u64 r2.1, bI .i64 r2.2.1, bB r2.2.2]) (c := bI .u64 r2.1) rfl rfl) rfl ⟨rfl, trivial⟩ trivial ?_
  refine G.op1 (op_extract (l := [bI .u64 r2.1, bI .i64 r2.2.1, bB r2.2.2]) (c := bI .i64 r2.2.1) rfl rfl) rfl ⟨rfl, trivial⟩ trivial ?_
  refine G.op1 (op_extract (l := [bI .u64 r2.1, bI .i64 r2.2.1, bB r2.2.2]) (c := bB r2.2.2) rfl rfl) rfl ⟨rfl, trivial⟩ trivial ?_
  refine G.op1 (op_assign (Ev.t 23 (bI .u64 r2.1)) rfl) rfl ⟨rfl, trivial⟩ trivial ?_
  refine G.op1 (op_assign (Ev.t 24 (bI .i64 r2.2.1)) rfl) rfl ⟨rfl, trivial⟩ trivial ?_
  refine G.op1 (op_assign (Ev.t 25 (bB r2.2.2)) rfl) rfl ⟨rfl, trivial⟩ trivial ?_
  refine G.endOps ?_
  refine G.seq ?_
  refine G.seq ?_
  refine G.joinC (T := Bool) (fun y3 => ⟨[(4, .one (.ptr 1004 0)), (5, oI r2.2.1), (7, .one (bI .u64 r1.1)), (10, .one (bI .u64 r2.1)), (39, oB y3)], [(1004, some (.blk 40 [bI .i64 0, bI .i64 0]))]⟩) (fun y3 => stamp_Read_k1 r1 r2 y3 = some r) (fun y3 hF => ?_) (fun J7 => ?_)
  · unfold stamp_Read_k1 at hF
    refine ifS hF (fun hc4 hF => ?_) (fun hc4 hF => ?_)
    · refine G.cond rfl (fun _ => ?_) (fun hx => by rw [hc4] at hx; cases hx)
      refine G.seq ?_
      refine G.region ?_
      refine G.op1 (op_build (zs := [vI 0, vI 0]) (ds := [vI 0, vI 0]) Try.underlying40 ti40 (pl40 _ Try.underlying40) ⟨.v _ rfl, .v _ rfl, trivial⟩ EvP.nil rfl rfl) rfl trivial trivial ?_
      refine G.op3 (op_storeA (cs' := [bI .i64 0, bI .i64 0]) ti40 rfl rfl (Ev.t 4 (.ptr 1004 0)) (Ev.t 40 (.g (.agg [vI 0, vI 0])))) rfl ⟨rfl, rfl, trivial⟩ ⟨rfl, trivial⟩ ?_
      refine G.op1 (op_assign (Ev.c _ rfl) rfl) rfl trivial trivial ?_
      refine G.op1 (op_assign (Ev.c _ rfl) rfl) rfl trivial trivial ?_
      refine G.endOps ?_
      cases hF
      exact G.ret3 Try.results27 (RVar.cellA (ds := [vI 0, vI 0]) Try.underlying40 rfl ti40 rfl) (RVar.tmp 5 _) (RVar.tmp 6 _) ⟨rfl, rfl, rfl, trivial⟩ ⟨rfl, trivial⟩
    · refine G.cond rfl (fun hx => by rw [hc4] at hx; cases hx) (fun _ => ?_)
      refine G.skip ?_
      refine G.seq ?_
      refine G.region ?_
      refine G.op1 (op_move (Ev.t 7 (bI .u64 r1.1)) rfl) rfl ⟨rfl, trivial⟩ trivial ?_
      refine G.op1 (op_convI Try.underlying55 Try.underlying3 (Ev.t 41 (bI .u64 r1.1)) rfl) rfl ⟨rfl, trivial⟩ trivial ?_
      refine G.op1 (op_move (Ev.t 10 (bI .u64 r2.1)) rfl) rfl ⟨rfl, trivial⟩ trivial ?_
      refine G.op1 (op_convI Try.underlying55 Try.underlying3 (Ev.t 43 (bI .u64 r2.1)) rfl) rfl ⟨rfl, trivial⟩ trivial ?_
      refine G.op1 (op_build (zs := [vI 0, vI 0]) (ds := [vI (IntKind.wrap .i64 r1.1), vI (IntKind.wrap .i64 r2.1)]) Try.underlying40 ti40 (pl40 _ Try.underlying40) ⟨.v _ rfl, .v _ rfl, trivial⟩ (EvP.cons (Ev.t 42 (bI .i64 (IntKind.wrap .i64 r1.1))) (EvP.cons (Ev.t 44 (bI .i64 (IntKind.wrap .i64 r2.1))) EvP.nil)) rfl rfl) rfl ⟨rfl, rfl, trivial⟩ trivial ?_
      refine G.op3 (op_storeA (cs' := [bI .i64 (IntKind.wrap .i64 r1.1), bI .i64 (IntKind.wrap .i64 r2.1)]) ti40 rfl rfl (Ev.t 4 (.ptr 1004 0)) (Ev.t 45 (.g (.agg [vI (IntKind.wrap .i64 r1.1), vI (IntKind.wrap .i64 r2.1)])))) rfl ⟨rfl, rfl, trivial⟩ ⟨rfl, trivial⟩ ?_
      refine G.endOps ?_
      refine G.seq ?_
      refine G.seq ?_
      refine G.region ?_
      refine G.op1 (op_loadAP (ds := [vI (IntKind.wrap .i64 r1.1), vI (IntKind.wrap .i64 r2.1)]) Try.underlying40 rfl ti40 rfl (Ev.t 4 (.ptr 1004 0)) rfl) rfl ⟨rfl, trivial⟩ ⟨rfl, trivial⟩ ?_
      obtain ⟨r5, hr5, hF⟩ := bindS hF
      refine G.op1 (op_callQ (sv := oB r5) cf49 (ct_stamp_Check (Api_Stamp.mk (IntKind.wrap .i64 r1.1) (IntKind.wrap .i64 r2.1)) r5 hr5) rfl rfl (EvQL.cons (EvQ.g (Ev.t 46 (.g (.agg [vI (IntKind.wrap .i64 r1.1), vI (IntKind.wrap .i64 r2.1)])))) EvQL.nil) rfl) rfl ⟨rfl, trivial⟩ trivial ?_
      refine G.op1 (op_not (Ev.t 47 (bB r5)) rfl) rfl ⟨rfl, trivial⟩ trivial ?_
      refine G.endOps ?_
      refine ifS hF (fun hc6 hF => ?_) (fun hc6 hF => ?_)
      · refine G.cond rfl (fun _ => ?_) (fun hx => by rw [hc6] at hx; cases hx)
        refine G.seq ?_
        refine G.region ?_
        refine G.op1 (op_build (zs := [vI 0, vI 0]) (ds := [vI 0, vI 0]) Try.underlying40 ti40 (pl40 _ Try.underlying40) ⟨.v _ rfl, .v _ rfl, trivial⟩ EvP.nil rfl rfl) rfl trivial trivial ?_
        refine G.op3 (op_storeA (cs' := [bI .i64 0, bI .i64 0]) ti40 rfl rfl (Ev.t 4 (.ptr 1004 0)) (Ev.t 49 (.g (.agg [vI 0, vI 0])))) rfl ⟨rfl, rfl, trivial⟩ ⟨rfl, trivial⟩ ?_
        refine G.op1 (op_assign (Ev.c _ rfl) rfl) rfl trivial trivial ?_
        refine G.op1 (op_assign (Ev.c _ rfl) rfl) rfl trivial trivial ?_
        refine G.endOps ?_
        cases hF
        exact G.ret3 Try.results27 (RVar.cellA (ds := [vI 0, vI 0]) Try.underlying40 rfl ti40 rfl) (RVar.tmp 5 _) (RVar.tmp 6 _) ⟨rfl, rfl, rfl, trivial⟩ ⟨rfl, trivial⟩
      · refine G.cond rfl (fun hx => by rw [hc6] at hx; cases hx) (fun _ => ?_)
        refine G.skip ?_
        refine G.seq ?_
        refine G.region ?_
        refine G.op1 (op_loadAP (ds := [vI (IntKind.wrap .i64 r1.1), vI (IntKind.wrap .i64 r2.1)]) Try.underlying40 rfl ti40 rfl (Ev.t 4 (.ptr 1004 0)) rfl) rfl ⟨rfl, trivial⟩ ⟨rfl, trivial⟩ ?_
        refine G.op1 (op_move (Ev.t 5 (bI .i64 r2.2.1)) rfl) rfl ⟨rfl, trivial⟩ trivial ?_
        refine G.op3 (op_storeA (cs' := [bI .i64 (IntKind.wrap .i64 r1.1), bI .i64 (IntKind.wrap .i64 r2.1)]) ti40 rfl rfl (Ev.t 4 (.ptr 1004 0)) (Ev.t 50 (.g (.agg [vI (IntKind.wrap .i64 r1.1), vI (IntKind.wrap .i64 r2.1)])))) rfl ⟨rfl, rfl, trivial⟩ ⟨rfl, trivial⟩ ?_
        refine G.op1 (op_assign (Ev.t 51 (bI .i64 r2.2.1)) rfl) rfl ⟨rfl, trivial⟩ trivial ?_
        refine G.op1 (op_assign (Ev.c _ rfl) rfl) rfl trivial trivial ?_
        refine G.endOps ?_
        cases hF
        exact G.ret3 Try.results27 (RVar.cellA (ds := [vI (IntKind.wrap .i64 r1.1), vI (IntKind.wrap .i64 r2.1)]) Try.underlying40 rfl ti40 rfl) (RVar.tmp 5 _) (RVar.tmp 6 _) ⟨rfl, rfl, rfl, trivial⟩ ⟨rfl, trivial⟩
  refine G.region ?_
  refine G.op1 (op_move (Ev.t 9 (bB r1.2.2)) rfl) rfl ⟨rfl, trivial⟩ trivial ?_
  refine G.op1 (op_not (Ev.t 26 (bB r1.2.2)) rfl) rfl ⟨rfl, trivial⟩ trivial ?_
  refine G.op1 (op_move (Ev.t 27 (bB (!r1.2.2))) rfl) rfl ⟨rfl, trivial⟩ trivial ?_
  refine G.joinL (T := Bool) 3 (fun y8 => ⟨[(4, .one (.ptr 1004 0)), (5, oI r2.2.1), (7, .one (bI .u64 r1.1)), (10, .one (bI .u64 r2.1)), (31, oB y8)], [(1004, some (.blk 40 [bI .i64 0, bI .i64 0]))]⟩) (fun y8 => stamp_Read_k2 r1 r2 y8 = some r) (fun y8 hF => ?_) (fun J11 => ?_)
  · unfold stamp_Read_k2 at hF
    refine G.op1 (op_move (Ev.t 31 (bB y8)) rfl) rfl ⟨rfl, trivial⟩ trivial ?_
    refine ifS hF (fun hc9 hF => ?_) (fun hc9 hF => ?_)
    · refine G.known (t := 32) hc9 rfl ?_
      refine G.opN1 rfl rfl rfl rfl rfl ?_
      refine G.opN1 rfl rfl rfl rfl rfl ?_
      refine G.op1 (op_pickT (Ev.t 32 (bB true)) (Ev.c _ rfl) rfl) rfl ⟨rfl, trivial⟩ trivial ?_
      refine G.op1 (op_move (Ev.t 35 (bB true)) rfl) rfl ⟨rfl, trivial⟩ trivial ?_
      refine G.opN1 rfl rfl rfl rfl rfl ?_
      refine G.opN1 rfl rfl rfl rfl rfl ?_
      refine G.op1 (op_pickT (Ev.t 36 (bB true)) (Ev.c _ rfl) rfl) rfl ⟨rfl, trivial⟩ trivial ?_
      refine G.endOps ?_
      exact G.arr (J7 true hF) ⟨rfl, rfl, rfl, rfl, rfl, trivial⟩ ⟨rfl, trivial⟩ rfl
    · refine G.known (t := 32) hc9 rfl ?_
      refine G.opG1 (op_move (Ev.t 7 (bI .u64 r1.1)) rfl) rfl rfl rfl ⟨rfl, trivial⟩ trivial ?_
      refine G.opG1 (op_gtr (Ev.t 33 (bI .u64 r1.1)) (Ev.c _ rfl) rfl) rfl rfl rfl ⟨rfl, trivial⟩ trivial ?_
      refine G.op1 (op_pickF (Ev.t 32 (bB false)) (Ev.t 34 (bB (decide (1099511627776 < r1.1)))) rfl) rfl ⟨rfl, rfl, trivial⟩ trivial ?_
      refine G.op1 (op_move (Ev.t 35 (bB (decide (1099511627776 < r1.1)))) rfl) rfl ⟨rfl, trivial⟩ trivial ?_
      refine ifS hF (fun hc10 hF => ?_) (fun hc10 hF => ?_)
      · refine G.known (t := 36) hc10 rfl ?_
        refine G.opN1 rfl rfl rfl rfl rfl ?_
        refine G.opN1 rfl rfl rfl rfl rfl ?_
        refine G.op1 (op_pickT (Ev.t 36 (bB true)) (Ev.c _ rfl) rfl) rfl ⟨rfl, trivial⟩ trivial ?_
        refine G.endOps ?_
        exact G.arr (J7 true hF) ⟨rfl, rfl, rfl, rfl, rfl, trivial⟩ ⟨rfl, trivial⟩ rfl
      · refine G.known (t := 36) hc10 rfl ?_
        refine G.opG1 (op_move (Ev.t 10 (bI .u64 r2.1)) rfl) rfl rfl rfl ⟨rfl, trivial⟩ trivial ?_
        refine G.opG1 (op_geq (Ev.t 37 (bI .u64 r2.1)) (Ev.c _ rfl) rfl) rfl rfl rfl ⟨rfl, trivial⟩ trivial ?_
        refine G.op1 (op_pickF (Ev.t 36 (bB false)) (Ev.t 38 (bB (decide (6 ≤ r2.1)))) rfl) rfl ⟨rfl, rfl, trivial⟩ trivial ?_
        refine G.endOps ?_
        exact G.arr (J7 (decide (6 ≤ r2.1)) hF) ⟨rfl, rfl, rfl, rfl, rfl, trivial⟩ ⟨rfl, trivial⟩ rfl
  refine ifS hF (fun hc12 hF => ?_) (fun hc12 hF => ?_)
  · refine G.known (t := 28) hc12 rfl ?_
    refine G.opN1 rfl rfl rfl rfl rfl ?_
    refine G.opN1 rfl rfl rfl rfl rfl ?_
    refine G.op1 (op_pickT (Ev.t 28 (bB true)) (Ev.c _ rfl) rfl) rfl ⟨rfl, trivial⟩ trivial ?_
    exact G.arr (J11 true hF) ⟨rfl, rfl, rfl, rfl, rfl, trivial⟩ ⟨rfl, trivial⟩ rfl
  · refine G.known (t := 28) hc12 rfl ?_
    refine G.opG1 (op_move (Ev.t 11 (bB r2.2.2)) rfl) rfl rfl rfl ⟨rfl, trivial⟩ trivial ?_
    refine G.opG1 (op_not (Ev.t 29 (bB r2.2.2)) rfl) rfl rfl rfl ⟨rfl, trivial⟩ trivial ?_
    refine G.op1 (op_pickF (Ev.t 28 (bB false)) (Ev.t 30 (bB (!r2.2.2))) rfl) rfl ⟨rfl, rfl, trivial⟩ trivial ?_
    exact G.arr (J11 (!r2.2.2) hF) ⟨rfl, rfl, rfl, rfl, rfl, trivial⟩ ⟨rfl, trivial⟩ rfl


set_option maxRecDepth 20000 in
set_option maxHeartbeats 2000000 in
theorem ct_keys_Runes (s_0 : ByteArray) (r : Int) (hF : keys_Runes s_0 = some r) : Ct Try.prog 60 [.g (.d (vS s_0))] (.one (.d (vI r))) := by
  unfold keys_Runes at hF
  refine Ct.intro Try.func60 rfl Try.ntmps60 rfl rfl fun M w => ?_
  refine G.seq ?_
  refine G.region ?_
  refine G.op1 (op_assign (Ev.c _ rfl) rfl) rfl trivial trivial ?_
  refine G.endOps ?_
  refine G.seq ?_
  refine G.region ?_
  refine G.op1 (op_assign (Ev.c _ rfl) rfl) rfl trivial trivial ?_
  refine G.endOps ?_
  refine G.seq ?_
  refine G.seq ?_
  refine G.region ?_
  refine G.op1 (op_move (Ev.t 0 (bS s_0)) rfl) rfl ⟨rfl, trivial⟩ trivial ?_
  refine G.op2 (op_range (k := 1007) Try.underlying9 (Ev.t 6 (bS s_0)) rfl) rfl ⟨rfl, trivial⟩ ⟨rfl, trivial⟩ ?_
  refine G.endOps ?_
  refine G.joinC (T := Int) (fun y1 => ⟨[(3, oI y1)], []⟩) (fun y1 => keys_Runes_k1 y1 = some r) (fun y1 hF => ?_) (fun J2 => ?_)
  · unfold keys_Runes_k1 at hF
    refine G.seq ?_
    refine G.region ?_
    refine G.op1 (op_move (Ev.t 3 (bI .i64 y1)) rfl) rfl ⟨rfl, trivial⟩ trivial ?_
    refine G.op1 (op_assign (Ev.t 40 (bI .i64 y1)) rfl) rfl ⟨rfl, trivial⟩ trivial ?_
    refine G.endOps ?_
    cases hF
    exact G.ret1 Try.results60 (RVar.tmp 2 _) ⟨rfl, trivial⟩ trivial
  refine G.block ?_
  refine G.keep (sl' := [(0, oS s_0), (3, oI 0), (7, .one (.ptr 1007 0))]) (hp' := [(1007, some (.it s_0 0))]) ⟨rfl, rfl, rfl, trivial⟩ ⟨rfl, trivial⟩ rfl ?_
  refine G.loopF (fun (v3 : Int × Nat) => ⟨[(0, oS s_0), (3, oI v3.1), (7, .one (.ptr 1007 0))], [(1007, some (.it s_0 v3.2))]⟩) hF rfl (fun K6 again5 v3 J4 hF => ?_)
  unfold keys_Runes_l2 at hF
  refine G.seq ?_
  refine G.region ?_
  refine ifS hF (fun hc7 hF => ?_) (fun hc7 hF => ?_)
  · refine G.op2 (op_nextT hc7 (Ev.t 7 (.ptr 1007 0)) rfl) rfl ⟨rfl, trivial⟩ ⟨rfl, trivial⟩ ?_
    refine G.op1 (op_extract (l := [bB true, bI .i64 (v3.2 : Int), bI .i32 ((Utf8.decode s_0 v3.2).1 : Int)]) (c := bB true) rfl rfl) rfl ⟨rfl, trivial⟩ trivial ?_
    refine G.endOps ?_
    refine G.seq ?_
    refine G.condT rfl ?_
    refine G.skip ?_
    refine G.block ?_
    refine G.seq ?_
    refine G.region ?_
    refine G.op1 (op_extract (l := [bB true, bI .i64 (v3.2 : Int), bI .i32 ((Utf8.decode s_0 v3.2).1 : Int)]) (c := bI .i64 (v3.2 : Int)) rfl rfl) rfl ⟨rfl, trivial⟩ trivial ?_
    refine G.op1 (op_extract (l := [bB true, bI .i64 (v3.2 : Int), bI .i32 ((Utf8.decode s_0 v3.2).1 : Int)]) (c := bI .i32 ((Utf8.decode s_0 v3.2).1 : Int)) rfl rfl) rfl ⟨rfl, trivial⟩ trivial ?_
    refine G.op1 (op_assign (Ev.t 10 (bI .i64 (v3.2 : Int))) rfl) rfl ⟨rfl, trivial⟩ trivial ?_
    refine G.op1 (op_assign (Ev.t 11 (bI .i32 ((Utf8.decode s_0 v3.2).1 : Int))) rfl) rfl ⟨rfl, trivial⟩ trivial ?_
    refine G.endOps ?_
    refine G.seq ?_
    refine G.seq ?_
    refine G.joinC (T := Bool × Nat) (fun y8 => ⟨[(0, oS s_0), (3, oI v3.1), (4, oI (v3.2 : Int)), (5, .one (bI .i32 ((Utf8.decode s_0 v3.2).1 : Int))), (7, .one (.ptr 1007 0)), (20, oB y8.1)], [(1007, some (.it s_0 y8.2))]⟩) (fun y8 => keys_Runes_k3 s_0 again5 v3 y8 = some r) (fun y8 hF => ?_) (fun J14 => ?_)
    · unfold keys_Runes_k3 at hF
      refine ifS hF (fun hc9 hF => ?_) (fun hc9 hF => ?_)
      · refine G.cond rfl (fun _ => ?_) (fun hx => by rw [hc9] at hx; cases hx)
        refine G.seq ?_
        refine G.region ?_
        refine G.op1 (op_assign (Ev.c _ rfl) rfl) rfl trivial trivial ?_
        refine G.endOps ?_
        cases hF
        exact G.ret1 Try.results60 (RVar.tmp 2 _) ⟨rfl, trivial⟩ trivial
      · refine G.cond rfl (fun hx => by rw [hc9] at hx; cases hx) (fun _ => ?_)
        refine G.skip ?_
        refine G.seq ?_
        refine G.seq ?_
        refine G.region ?_
        refine G.op1 (op_move (Ev.t 5 (bI .i32 ((Utf8.decode s_0 v3.2).1 : Int))) rfl) rfl ⟨rfl, trivial⟩ trivial ?_
        refine G.op1 (op_eqI (Ev.t 21 (bI .i32 ((Utf8.decode s_0 v3.2).1 : Int))) (Ev.c _ rfl) rfl) rfl ⟨rfl, trivial⟩ trivial ?_
        refine G.op1 (op_move (Ev.t 22 (bB (decide (((Utf8.decode s_0 v3.2).1 : Int) = 65533)))) rfl) rfl ⟨rfl, trivial⟩ trivial ?_
        refine ifS hF (fun hc10 hF => ?_) (fun hc10 hF => ?_)
        · refine G.known (t := 23) hc10 rfl ?_
          refine G.opG1 (op_move (Ev.t 0 (bS s_0)) rfl) rfl rfl rfl ⟨rfl, trivial⟩ trivial ?_
          refine G.opG1 (op_lenS Try.underlying9 (Ev.t 24 (bS s_0)) rfl) rfl rfl rfl ⟨rfl, trivial⟩ trivial ?_
          refine G.opG1 (op_move (Ev.t 4 (bI .i64 (v3.2 : Int))) rfl) rfl rfl rfl ⟨rfl, trivial⟩ trivial ?_
          refine G.opG1 (op_sub (Ev.t 25 (bI .i64 (s_0.size : Int))) (Ev.t 26 (bI .i64 (v3.2 : Int))) rfl) rfl rfl rfl ⟨rfl, rfl, trivial⟩ trivial ?_
          refine G.opG1 (op_lss (Ev.t 27 (bI .i64 (IntKind.wrap .i64 ((s_0.size : Int) - (v3.2 : Int))))) (Ev.c _ rfl) rfl) rfl rfl rfl ⟨rfl, trivial⟩ trivial ?_
          refine G.opG1 (op_move (Ev.t 28 (bB (decide ((IntKind.wrap .i64 ((s_0.size : Int) - (v3.2 : Int))) < 3)))) rfl) rfl rfl rfl ⟨rfl, trivial⟩ trivial ?_
          refine ifS hF (fun hc11 hF => ?_) (fun hc11 hF => ?_)
          · refine G.known (t := 29) hc11 rfl ?_
            refine G.opN1 rfl rfl rfl rfl rfl ?_
            refine G.opN1 rfl rfl rfl rfl rfl ?_
            refine G.opN1 rfl rfl rfl rfl rfl ?_
            refine G.opN1 rfl rfl rfl rfl rfl ?_
            refine G.opN1 rfl rfl rfl rfl rfl ?_
            refine G.opN1 rfl rfl rfl rfl rfl ?_
            refine G.opG1 (op_pickT (Ev.t 29 (bB true)) (Ev.c _ rfl) rfl) rfl rfl rfl ⟨rfl, trivial⟩ trivial ?_
            refine G.op1 (op_pickT (Ev.t 23 (bB true)) (Ev.t 36 (bB true)) rfl) rfl ⟨rfl, rfl, trivial⟩ trivial ?_
            refine G.endOps ?_
            refine G.condT rfl ?_
            refine G.seq ?_
            refine G.region ?_
            refine G.op1 (op_assign (Ev.c _ rfl) rfl) rfl trivial trivial ?_
            refine G.endOps ?_
            cases hF
            exact G.ret1 Try.results60 (RVar.tmp 2 _) ⟨rfl, trivial⟩ trivial
          · refine G.known (t := 29) hc11 rfl ?_
            refine G.opG1 (op_move (Ev.t 0 (bS s_0)) rfl) rfl rfl rfl ⟨rfl, trivial⟩ trivial ?_
            refine G.opG1 (op_move (Ev.t 4 (bI .i64 (v3.2 : Int))) rfl) rfl rfl rfl ⟨rfl, trivial⟩ trivial ?_
            refine G.opG1 (op_move (Ev.t 4 (bI .i64 (v3.2 : Int))) rfl) rfl rfl rfl ⟨rfl, trivial⟩ trivial ?_
            refine G.opG1 (op_add (Ev.t 32 (bI .i64 (v3.2 : Int))) (Ev.c _ rfl) rfl) rfl rfl rfl ⟨rfl, trivial⟩ trivial ?_
            obtain ⟨s12, hs12, hF⟩ := bindS hF
            refine G.opG1 (OpL.cast (op_sliceS (lo := some (v3.2 : Int)) (hi := some (IntKind.wrap .i64 ((v3.2 : Int) + 3))) Try.underlying9 (ssub_ok hs12).1 (ssub_ok hs12).2.1 (ssub_ok hs12).2.2.1 (Ev.t 30 (bS s_0)) (EvO.some (Ev.t 31 (bI .i64 (v3.2 : Int)))) (EvO.some (Ev.t 33 (bI .i64 (IntKind.wrap .i64 ((v3.2 : Int) + 3))))) rfl) (congrArg (fun s => bS s) (ssub_ok hs12).2.2.2)) rfl rfl rfl ⟨rfl, rfl, rfl, trivial⟩ trivial ?_
            refine G.opG1 (op_neS (Ev.t 34 (bS s12)) (Ev.c _ rfl) rfl) rfl rfl rfl ⟨rfl, trivial⟩ trivial ?_
            refine G.opG1 (op_pickF (Ev.t 29 (bB false)) (Ev.t 35 (bB (!seq s12 (ByteArray.mk #[239, 191, 189])))) rfl) rfl rfl rfl ⟨rfl, rfl, trivial⟩ trivial ?_
            refine G.op1 (op_pickT (Ev.t 23 (bB true)) (Ev.t 36 (bB (!seq s12 (ByteArray.mk #[239, 191, 189])))) rfl) rfl ⟨rfl, rfl, trivial⟩ trivial ?_
            refine G.endOps ?_
            refine ifS hF (fun hc13 hF => ?_) (fun hc13 hF => ?_)
            · refine G.cond rfl (fun _ => ?_) (fun hx => by rw [hc13] at hx; cases hx)
              refine G.seq ?_
              refine G.region ?_
              refine G.op1 (op_assign (Ev.c _ rfl) rfl) rfl trivial trivial ?_
              refine G.endOps ?_
              cases hF
              exact G.ret1 Try.results60 (RVar.tmp 2 _) ⟨rfl, trivial⟩ trivial
            · refine G.cond rfl (fun hx => by rw [hc13] at hx; cases hx) (fun _ => ?_)
              refine G.skip ?_
              refine G.region ?_
              refine G.op1 (op_move (Ev.t 3 (bI .i64 v3.1)) rfl) rfl ⟨rfl, trivial⟩ trivial ?_
              refine G.op1 (op_add (Ev.t 38 (bI .i64 v3.1)) (Ev.c _ rfl) rfl) rfl ⟨rfl, trivial⟩ trivial ?_
              refine G.op1 (op_assign (Ev.t 39 (bI .i64 (IntKind.wrap .i64 (v3.1 + 1)))) rfl) rfl ⟨rfl, trivial⟩ trivial ?_
              refine G.endOps ?_
              refine G.endBlock ?_
              exact G.arr (J4 (IntKind.wrap .i64 (v3.1 + 1), y8.2) hF) ⟨rfl, rfl, rfl, trivial⟩ ⟨rfl, trivial⟩ rfl
        · refine G.known (t := 23) hc10 rfl ?_
          refine G.opN1 rfl rfl rfl rfl rfl ?_
          refine G.opN1 rfl rfl rfl rfl rfl ?_
          refine G.opN1 rfl rfl rfl rfl rfl ?_
          refine G.opN1 rfl rfl rfl rfl rfl ?_
          refine G.opN1 rfl rfl rfl rfl rfl ?_
          refine G.opN1 rfl rfl rfl rfl rfl ?_
          refine G.opU rfl rfl rfl rfl ?_
          refine G.opU rfl rfl rfl rfl ?_
          refine G.opU rfl rfl rfl rfl ?_
          refine G.opU rfl rfl rfl rfl ?_
          refine G.opU rfl rfl rfl rfl ?_
          refine G.opU rfl rfl rfl rfl ?_
          refine G.opN1 rfl rfl rfl rfl rfl ?_
          refine G.op1 (op_pickF (Ev.t 23 (bB false)) (Ev.c _ rfl) rfl) rfl ⟨rfl, trivial⟩ trivial ?_
          refine G.endOps ?_
          refine G.condF rfl ?_
          refine G.skip ?_
          refine G.region ?_
          refine G.op1 (op_move (Ev.t 3 (bI .i64 v3.1)) rfl) rfl ⟨rfl, trivial⟩ trivial ?_
          refine G.op1 (op_add (Ev.t 38 (bI .i64 v3.1)) (Ev.c _ rfl) rfl) rfl ⟨rfl, trivial⟩ trivial ?_
          refine G.op1 (op_assign (Ev.t 39 (bI .i64 (IntKind.wrap .i64 (v3.1 + 1)))) rfl) rfl ⟨rfl, trivial⟩ trivial ?_
          refine G.endOps ?_
          refine G.endBlock ?_
          exact G.arr (J4 (IntKind.wrap .i64 (v3.1 + 1), y8.2) hF) ⟨rfl, rfl, rfl, trivial⟩ ⟨rfl, trivial⟩ rfl
    refine ifS hF (fun hc15 hF => ?_) (fun hc15 hF => ?_)
    · obtain ⟨b16, hb16, hF⟩ := bindS hF
      obtain ⟨b17, hb17, hF⟩ := bindS hF
      refine G.drawnI (deps := [[], [0], [0, 1], [0, 1, 2], [0, 1, 2], [0, 1, 2, 3, 4], [0, 1, 2], [0, 1, 2, 3, 4, 5, 6], [0, 1, 2, 3, 4, 5, 6, 7]]) (sl' := [(0, oS s_0), (3, oI v3.1), (4, oI (v3.2 : Int)), (5, .one (bI .i32 ((Utf8.decode s_0 v3.2).1 : Int))), (7, .one (.ptr 1007 0)), (20, oB (!decide ((b16.toNat : Int) = (b17.toNat : Int))))]) (hp' := [(1007, some (.it s_0 (v3.2 + (Utf8.decode s_0 v3.2).2)))]) (.c (oP rfl rfl (op_move (Ev.t 5 (bI .i32 ((Utf8.decode s_0 v3.2).1 : Int))) rfl)) (.c (oP rfl rfl (OpL.cast (op_eqI (Ev.t 12 (bI .i32 ((Utf8.decode s_0 v3.2).1 : Int))) (Ev.c _ rfl) rfl) (congrArg (fun b => bB b) hc15))) (.c (oP rfl rfl (op_move (Ev.t 13 (bB true)) rfl)) (.c (oY rfl rfl rfl (op_move (Ev.t 0 (bS s_0)) rfl)) (.c (oY rfl rfl rfl (op_move (Ev.t 4 (bI .i64 (v3.2 : Int))) rfl)) (.c (oY rfl rfl rfl (op_indexS Try.underlying9 (sidx_ok hb16).1 (sidx_ok hb16).2 (Ev.t 15 (bS s_0)) (Ev.t 16 (bI .i64 (v3.2 : Int))) rfl)) (.c (oY rfl rfl rfl (op_indexS Try.underlying9 (sidx_ok hb17).1 (sidx_ok hb17).2 (Ev.c _ rfl) (Ev.c _ rfl) rfl)) (.c (oY rfl rfl rfl (op_neI (Ev.t 17 (bI .u8 (b16.toNat : Int))) (Ev.t 18 (bI .u8 (b17.toNat : Int))) rfl)) (.c (oP rfl rfl (op_pickT (Ev.t 14 (bB true)) (Ev.t 19 (bB (!decide ((b16.toNat : Int) = (b17.toNat : Int))))) rfl)) .nil))))))))) follows rfl rfl rfl ⟨⟨rfl, trivial⟩, trivial, ⟨rfl, trivial⟩, trivial, ⟨rfl, trivial⟩, trivial, ⟨rfl, rfl, trivial⟩, trivial, ⟨rfl, rfl, trivial⟩, trivial, ⟨rfl, rfl, rfl, trivial⟩, trivial, ⟨rfl, trivial⟩, trivial, ⟨rfl, rfl, rfl, trivial⟩, trivial, ⟨rfl, rfl, trivial⟩, trivial, trivial⟩ ⟨rfl, rfl, rfl, rfl, rfl, rfl, trivial⟩ ⟨rfl, trivial⟩ rfl ?_
      exact G.arr (J14 (!decide ((b16.toNat : Int) = (b17.toNat : Int)), v3.2 + (Utf8.decode s_0 v3.2).2) hF) ⟨rfl, rfl, rfl, rfl, rfl, rfl, trivial⟩ ⟨rfl, trivial⟩ rfl
    · refine G.drawnI (deps := [[], [0], [0, 1], [0, 1, 2], [0, 1, 2], [0, 1, 2, 3, 4], [0, 1, 2], [0, 1, 2, 3, 4, 5, 6], [0, 1, 2, 3, 4, 5, 6, 7]]) (sl' := [(0, oS s_0), (3, oI v3.1), (4, oI (v3.2 : Int)), (5, .one (bI .i32 ((Utf8.decode s_0 v3.2).1 : Int))), (7, .one (.ptr 1007 0)), (20, oB false)]) (hp' := [(1007, some (.it s_0 (v3.2 + (Utf8.decode s_0 v3.2).2)))]) (.c (oP rfl rfl (op_move (Ev.t 5 (bI .i32 ((Utf8.decode s_0 v3.2).1 : Int))) rfl)) (.c (oP rfl rfl (OpL.cast (op_eqI (Ev.t 12 (bI .i32 ((Utf8.decode s_0 v3.2).1 : Int))) (Ev.c _ rfl) rfl) (congrArg (fun b => bB b) hc15))) (.c (oP rfl rfl (op_move (Ev.t 13 (bB false)) rfl)) (.c (OpW.no rfl rfl rfl rfl rfl) (.c (OpW.no rfl rfl rfl rfl rfl) (.c (OpW.no rfl rfl rfl rfl rfl) (.c (OpW.no rfl rfl rfl rfl rfl) (.c (OpW.no rfl rfl rfl rfl rfl) (.c (oP rfl rfl (op_pickF (Ev.t 14 (bB false)) (Ev.c _ rfl) rfl)) .nil))))))))) follows rfl rfl rfl ⟨⟨rfl, trivial⟩, trivial, ⟨rfl, trivial⟩, trivial, ⟨rfl, trivial⟩, trivial, ⟨rfl, trivial⟩, trivial, ⟨rfl, trivial⟩, trivial, ⟨rfl, trivial⟩, trivial, ⟨rfl, trivial⟩, trivial, ⟨rfl, trivial⟩, trivial, ⟨rfl, trivial⟩, trivial, trivial⟩ ⟨rfl, rfl, rfl, rfl, rfl, rfl, trivial⟩ ⟨rfl, trivial⟩ rfl ?_
      exact G.arr (J14 (false, v3.2 + (Utf8.decode s_0 v3.2).2) hF) ⟨rfl, rfl, rfl, rfl, rfl, rfl, trivial⟩ ⟨rfl, trivial⟩ rfl
  · refine G.op1 (op_nextF hc7 (Ev.t 7 (.ptr 1007 0)) rfl) rfl ⟨rfl, trivial⟩ ⟨rfl, trivial⟩ ?_
    refine G.op1 (op_extract (l := [bB false]) (c := bB false) rfl rfl) rfl ⟨rfl, trivial⟩ trivial ?_
    refine G.endOps ?_
    refine G.seq ?_
    refine G.condF rfl ?_
    refine G.exit ?_
    refine GX.c ?_
    refine GX.q ?_
    refine GX.bYes ?_
    exact G.arr (J2 v3.1 hF) ⟨rfl, trivial⟩ trivial rfl


set_option maxRecDepth 20000 in
set_option maxHeartbeats 2000000 in
theorem ct_keys_Check (s_0 : ByteArray) (r : Bool) (hF : keys_Check s_0 = some r) : Ct Try.prog 51 [.g (.d (vS s_0))] (.one (.d (vB r))) := by
  unfold keys_Check at hF
  refine Ct.intro Try.func51 rfl Try.ntmps51 rfl rfl fun M w => ?_
  refine G.seq ?_
  refine G.region ?_
  refine G.op1 (op_assign (Ev.c _ rfl) rfl) rfl trivial trivial ?_
  refine G.endOps ?_
  refine G.scope ?_
  refine G.seq ?_
  refine G.region ?_
  refine G.op1 (op_move (Ev.t 0 (bS s_0)) rfl) rfl ⟨rfl, trivial⟩ trivial ?_
  obtain ⟨r1, hr1, hF⟩ := bindS hF
  refine G.op1 (op_callQ (sv := oI r1) cf60 (ct_keys_Runes s_0 r1 hr1) rfl rfl (EvQL.cons (EvQ.g (Ev.t 7 (bS s_0))) EvQL.nil) rfl) rfl ⟨rfl, trivial⟩ trivial ?_
  refine G.op1 (op_assign (Ev.t 8 (bI .i64 r1)) rfl) rfl ⟨rfl, trivial⟩ trivial ?_
  refine G.endOps ?_
  refine G.seq ?_
  refine G.joinC (T := Bool) (fun y2 => ⟨[(0, oS s_0), (4, oB y2)], []⟩) (fun y2 => keys_Check_k1 s_0 y2 = some r) (fun y2 hF => ?_) (fun J11 => ?_)
  · unfold keys_Check_k1 at hF
    refine G.seq ?_
    refine G.label ?_
    refine G.seq ?_
    refine G.seq ?_
    refine G.region ?_
    refine G.op1 (op_move (Ev.t 0 (bS s_0)) rfl) rfl ⟨rfl, trivial⟩ trivial ?_
    refine G.op2 (op_range (k := 1016) Try.underlying9 (Ev.t 15 (bS s_0)) rfl) rfl ⟨rfl, trivial⟩ ⟨rfl, trivial⟩ ?_
    refine G.endOps ?_
    refine G.joinC (T := Bool) (fun y3 => ⟨[(4, oB y3)], []⟩) (fun y3 => keys_Check_k2 y3 = some r) (fun y3 hF => ?_) (fun J4 => ?_)
    · unfold keys_Check_k2 at hF
      refine G.seq ?_
      refine G.region ?_
      refine G.op1 (op_move (Ev.t 4 (bB y3)) rfl) rfl ⟨rfl, trivial⟩ trivial ?_
      refine G.op1 (op_assign (Ev.t 24 (bB y3)) rfl) rfl ⟨rfl, trivial⟩ trivial ?_
      refine G.endOps ?_
      cases hF
      exact G.ret1 Try.results51 (RVar.tmp 2 _) ⟨rfl, trivial⟩ trivial
    refine G.block ?_
    refine G.keep (sl' := [(4, oB y2), (16, .one (.ptr 1016 0))]) (hp' := [(1016, some (.it s_0 0))]) ⟨rfl, rfl, trivial⟩ ⟨rfl, trivial⟩ rfl ?_
    refine G.loopF (fun (v5 : Bool × Nat) => ⟨[(4, oB v5.1), (16, .one (.ptr 1016 0))], [(1016, some (.it s_0 v5.2))]⟩) hF rfl (fun K8 again7 v5 J6 hF => ?_)
    unfold keys_Check_l3 at hF
    refine G.seq ?_
    refine G.region ?_
    refine ifS hF (fun hc9 hF => ?_) (fun hc9 hF => ?_)
    · refine G.op2 (op_nextT hc9 (Ev.t 16 (.ptr 1016 0)) rfl) rfl ⟨rfl, trivial⟩ ⟨rfl, trivial⟩ ?_
      refine G.op1 (op_extract (l := [bB true, bI .i64 (v5.2 : Int), bI .i32 ((Utf8.decode s_0 v5.2).1 : Int)]) (c := bB true) rfl rfl) rfl ⟨rfl, trivial⟩ trivial ?_
      refine G.endOps ?_
      refine G.seq ?_
      refine G.condT rfl ?_
      refine G.skip ?_
      refine G.block ?_
      refine G.seq ?_
      refine G.region ?_
      refine G.op1 (op_extract (l := [bB true, bI .i64 (v5.2 : Int), bI .i32 ((Utf8.decode s_0 v5.2).1 : Int)]) (c := bI .i32 ((Utf8.decode s_0 v5.2).1 : Int)) rfl rfl) rfl ⟨rfl, trivial⟩ trivial ?_
      refine G.op1 (op_assign (Ev.t 19 (bI .i32 ((Utf8.decode s_0 v5.2).1 : Int))) rfl) rfl ⟨rfl, trivial⟩ trivial ?_
      refine G.endOps ?_
      refine G.seq ?_
      refine G.seq ?_
      refine G.region ?_
      refine G.op1 (op_move (Ev.t 4 (bB v5.1)) rfl) rfl ⟨rfl, trivial⟩ trivial ?_
      refine G.op1 (op_not (Ev.t 20 (bB v5.1)) rfl) rfl ⟨rfl, trivial⟩ trivial ?_
      refine G.endOps ?_
      refine ifS hF (fun hc10 hF => ?_) (fun hc10 hF => ?_)
      · refine G.cond rfl (fun _ => ?_) (fun hx => by rw [hc10] at hx; cases hx)
        refine G.exit ?_
        refine GX.c ?_
        refine GX.bNo rfl ?_
        refine GX.q ?_
        refine GX.bYes ?_
        exact G.arr (J4 v5.1 hF) ⟨rfl, trivial⟩ trivial rfl
      · refine G.cond rfl (fun hx => by rw [hc10] at hx; cases hx) (fun _ => ?_)
        refine G.skip ?_
        refine G.region ?_
        refine G.op1 (op_move (Ev.t 6 (bI .i32 ((Utf8.decode s_0 v5.2).1 : Int))) rfl) rfl ⟨rfl, trivial⟩ trivial ?_
        refine G.op1 (op_geq (Ev.t 22 (bI .i32 ((Utf8.decode s_0 v5.2).1 : Int))) (Ev.c _ rfl) rfl) rfl ⟨rfl, trivial⟩ trivial ?_
        refine G.op1 (op_assign (Ev.t 23 (bB (decide (33 ≤ ((Utf8.decode s_0 v5.2).1 : Int))))) rfl) rfl ⟨rfl, trivial⟩ trivial ?_
        refine G.endOps ?_
        refine G.endBlock ?_
        exact G.arr (J6 (decide (33 ≤ ((Utf8.decode s_0 v5.2).1 : Int)), v5.2 + (Utf8.decode s_0 v5.2).2) hF) ⟨rfl, rfl, trivial⟩ ⟨rfl, trivial⟩ rfl
    · refine G.op1 (op_nextF hc9 (Ev.t 16 (.ptr 1016 0)) rfl) rfl ⟨rfl, trivial⟩ ⟨rfl, trivial⟩ ?_
      refine G.op1 (op_extract (l := [bB false]) (c := bB false) rfl rfl) rfl ⟨rfl, trivial⟩ trivial ?_
      refine G.endOps ?_
      refine G.seq ?_
      refine G.condF rfl ?_
      refine G.exit ?_
      refine GX.c ?_
      refine GX.q ?_
      refine GX.bYes ?_
      exact G.arr (J4 v5.1 hF) ⟨rfl, trivial⟩ trivial rfl
  refine G.region ?_
  refine G.op1 (op_move (Ev.t 3 (bI .i64 r1)) rfl) rfl ⟨rfl, trivial⟩ trivial ?_
  refine G.op1 (op_geq (Ev.t 9 (bI .i64 r1)) (Ev.c _ rfl) rfl) rfl ⟨rfl, trivial⟩ trivial ?_
  refine G.op1 (op_move (Ev.t 10 (bB (decide (1 ≤ r1)))) rfl) rfl ⟨rfl, trivial⟩ trivial ?_
  refine ifS hF (fun hc12 hF => ?_) (fun hc12 hF => ?_)
  · refine G.known (t := 11) hc12 rfl ?_
    refine G.opG1 (op_move (Ev.t 3 (bI .i64 r1)) rfl) rfl rfl rfl ⟨rfl, trivial⟩ trivial ?_
    refine G.opG1 (op_leq (Ev.t 12 (bI .i64 r1)) (Ev.c _ rfl) rfl) rfl rfl rfl ⟨rfl, trivial⟩ trivial ?_
    refine G.op1 (op_pickT (Ev.t 11 (bB true)) (Ev.t 13 (bB (decide (r1 ≤ 8)))) rfl) rfl ⟨rfl, rfl, trivial⟩ trivial ?_
    refine G.op1 (op_assign (Ev.t 14 (bB (decide (r1 ≤ 8)))) rfl) rfl ⟨rfl, trivial⟩ trivial ?_
    refine G.endOps ?_
    exact G.arr (J11 (decide (r1 ≤ 8)) hF) ⟨rfl, rfl, trivial⟩ trivial rfl
  · refine G.known (t := 11) hc12 rfl ?_
    refine G.opN1 rfl rfl rfl rfl rfl ?_
    refine G.opN1 rfl rfl rfl rfl rfl ?_
    refine G.op1 (op_pickF (Ev.t 11 (bB false)) (Ev.c _ rfl) rfl) rfl ⟨rfl, trivial⟩ trivial ?_
    refine G.op1 (op_assign (Ev.t 14 (bB false)) rfl) rfl ⟨rfl, trivial⟩ trivial ?_
    refine G.endOps ?_
    exact G.arr (J11 false hF) ⟨rfl, rfl, trivial⟩ trivial rfl


set_option maxRecDepth 20000 in
set_option maxHeartbeats 2000000 in
theorem ct_past_may (d_0 : Api_Dep) (r : Bool) (hF : past_may d_0 = some r) : Ct Try.prog 59 [.g (.agg (encApi_Dep d_0))] (.one (.d (vB r))) := by
  unfold past_may at hF
  refine Ct.intro Try.func59 rfl Try.ntmps59 rfl rfl fun M w => ?_
  refine G.seq ?_
  refine G.region ?_
  refine G.op2 (op_boxA (k := 1001) (Ev.t 0 (.g (.agg [vS d_0.Key, vI d_0.Stamp.N, vI d_0.Stamp.Site]))) rfl) rfl ⟨rfl, trivial⟩ ⟨rfl, trivial⟩ ?_
  refine G.op1 (op_assign (Ev.c _ rfl) rfl) rfl trivial trivial ?_
  refine G.endOps ?_
  refine G.seq ?_
  refine G.region ?_
  refine G.op1 (op_fieldP (off' := 0) Try.underlying100 rfl ti9 (by decide) rfl (Ev.t 1 (.ptr 1001 0)) rfl) rfl ⟨rfl, trivial⟩ trivial ?_
  refine G.op1 (op_load1P (c := bS d_0.Key) Try.underlying9 rfl rfl (Ev.t 3 (.ptr 1001 0)) rfl) rfl ⟨rfl, trivial⟩ ⟨rfl, trivial⟩ ?_
  obtain ⟨r1, hr1, hF⟩ := bindS hF
  refine G.op1 (op_callQ (sv := oB r1) cf51 (ct_keys_Check d_0.Key r1 hr1) rfl rfl (EvQL.cons (EvQ.g (Ev.t 4 (bS d_0.Key))) EvQL.nil) rfl) rfl ⟨rfl, trivial⟩ trivial ?_
  refine G.op1 (op_move (Ev.t 5 (bB r1)) rfl) rfl ⟨rfl, trivial⟩ trivial ?_
  refine ifS hF (fun hc2 hF => ?_) (fun hc2 hF => ?_)
  · refine G.known (t := 6) hc2 rfl ?_
    refine G.opG1 (op_fieldP (off' := 1) Try.underlying100 rfl ti40 (by decide) rfl (Ev.t 1 (.ptr 1001 0)) rfl) rfl rfl rfl ⟨rfl, trivial⟩ trivial ?_
    refine G.opG1 (op_loadAP (ds := [vI d_0.Stamp.N, vI d_0.Stamp.Site]) Try.underlying40 rfl ti40 rfl (Ev.t 7 (.ptr 1001 1)) rfl) rfl rfl rfl ⟨rfl, trivial⟩ ⟨rfl, trivial⟩ ?_
    obtain ⟨r3, hr3, hF⟩ := bindS hF
    refine G.opG1 (op_callQ (sv := oB r3) cf49 (ct_stamp_Check d_0.Stamp r3 hr3) rfl rfl (EvQL.cons (EvQ.g (Ev.t 8 (.g (.agg [vI d_0.Stamp.N, vI d_0.Stamp.Site])))) EvQL.nil) rfl) rfl rfl rfl ⟨rfl, trivial⟩ trivial ?_
    refine G.op1 (op_pickT (Ev.t 6 (bB true)) (Ev.t 9 (bB r3)) rfl) rfl ⟨rfl, rfl, trivial⟩ trivial ?_
    refine G.op1 (op_assign (Ev.t 10 (bB r3)) rfl) rfl ⟨rfl, trivial⟩ trivial ?_
    refine G.endOps ?_
    cases hF
    exact G.ret1 Try.results59 (RVar.tmp 2 _) ⟨rfl, trivial⟩ trivial
  · refine G.known (t := 6) hc2 rfl ?_
    refine G.opN1 rfl rfl rfl rfl rfl ?_
    refine G.opN1 rfl rfl rfl rfl rfl ?_
    refine G.opN1 rfl rfl rfl rfl rfl ?_
    refine G.op1 (op_pickF (Ev.t 6 (bB false)) (Ev.c _ rfl) rfl) rfl ⟨rfl, trivial⟩ trivial ?_
    refine G.op1 (op_assign (Ev.t 10 (bB false)) rfl) rfl ⟨rfl, trivial⟩ trivial ?_
    refine G.endOps ?_
    cases hF
    exact G.ret1 Try.results59 (RVar.tmp 2 _) ⟨rfl, trivial⟩ trivial


set_option maxRecDepth 20000 in
set_option maxHeartbeats 2000000 in
theorem ct_past_Check (p_0 : (List Api_Dep)) (r : Bool) (hF : past_Check p_0 = some r) : Ct Try.prog 50 [.g (.d (.sl 3 (List.map encApi_Dep p_0)))] (.one (.d (vB r))) := by
  unfold past_Check at hF
  refine Ct.intro Try.func50 rfl Try.ntmps50 rfl rfl fun M w => ?_
  refine G.seq ?_
  refine G.region ?_
  refine G.op1 (op_assign (Ev.c _ rfl) rfl) rfl trivial trivial ?_
  refine G.endOps ?_
  refine G.seq ?_
  refine G.seq ?_
  refine G.region ?_
  refine G.op1 (op_move (Ev.t 0 (.g (.d (.sl 3 (List.map encApi_Dep p_0))))) rfl) rfl ⟨rfl, trivial⟩ trivial ?_
  refine G.op1 (OpL.cast (op_lenD Try.underlying41 (Ev.t 5 (.g (.d (.sl 3 (List.map encApi_Dep p_0))))) rfl) (by rw [List.length_map])) rfl ⟨rfl, trivial⟩ trivial ?_
  refine G.op1 (op_move (Ev.c _ rfl) rfl) rfl trivial trivial ?_
  refine G.endOps ?_
  refine G.joinC (T := Unit) (fun y1 => ⟨[(0, .one (.g (.d (.sl 3 (List.map encApi_Dep p_0)))))], []⟩) (fun y1 => past_Check_k1 p_0 y1 = some r) (fun y1 hF => ?_) (fun J2 => ?_)
  · unfold past_Check_k1 at hF
    refine G.seq ?_
    refine G.region ?_
    refine G.op1 (op_move (Ev.t 0 (.g (.d (.sl 3 (List.map encApi_Dep p_0))))) rfl) rfl ⟨rfl, trivial⟩ trivial ?_
    refine G.op1 (OpL.cast (op_lenD Try.underlying41 (Ev.t 31 (.g (.d (.sl 3 (List.map encApi_Dep p_0))))) rfl) (by rw [List.length_map])) rfl ⟨rfl, trivial⟩ trivial ?_
    refine G.op1 (op_leq (Ev.t 32 (bI .i64 (p_0.length : Int))) (Ev.c _ rfl) rfl) rfl ⟨rfl, trivial⟩ trivial ?_
    refine G.op1 (op_assign (Ev.t 33 (bB (decide ((p_0.length : Int) ≤ 24)))) rfl) rfl ⟨rfl, trivial⟩ trivial ?_
    refine G.endOps ?_
    cases hF
    exact G.ret1 Try.results50 (RVar.tmp 2 _) ⟨rfl, trivial⟩ trivial
  refine G.block ?_
  refine G.keep (sl' := [(0, .one (.g (.d (.sl 3 (List.map encApi_Dep p_0))))), (5, .one (.g (.d (.sl 3 (List.map encApi_Dep p_0))))), (6, oI (p_0.length : Int)), (7, oI 0)]) (hp' := []) ⟨rfl, rfl, rfl, rfl, trivial⟩ trivial rfl ?_
  refine G.loopF (fun (v3 : Int) => ⟨[(0, .one (.g (.d (.sl 3 (List.map encApi_Dep p_0))))), (5, .one (.g (.d (.sl 3 (List.map encApi_Dep p_0))))), (6, oI (p_0.length : Int)), (7, oI v3)], []⟩) hF rfl (fun K6 again5 v3 J4 hF => ?_)
  unfold past_Check_l2 at hF
  refine G.seq ?_
  refine G.region ?_
  refine G.op1 (op_lss (Ev.t 7 (bI .i64 v3)) (Ev.t 6 (bI .i64 (p_0.length : Int))) rfl) rfl ⟨rfl, rfl, trivial⟩ trivial ?_
  refine G.endOps ?_
  refine G.seq ?_
  refine ifS hF (fun hc7 hF => ?_) (fun hc7 hF => ?_)
  · refine G.cond rfl (fun _ => ?_) (fun hx => by rw [hc7] at hx; cases hx)
    refine G.skip ?_
    refine G.seq ?_
    refine G.block ?_
    refine G.seq ?_
    refine G.region ?_
    refine G.op1 (op_move (Ev.t 7 (bI .i64 v3)) rfl) rfl ⟨rfl, trivial⟩ trivial ?_
    obtain ⟨x8, hx8, hF⟩ := bindS hF
    refine G.op1 (op_index (cs := [vS x8.Key, vI x8.Stamp.N, vI x8.Stamp.Site]) Try.underlying41 ti100 (idx_ok hx8).1 (idx_get hx8 encApi_Dep) (Ev.t 5 (.g (.d (.sl 3 (List.map encApi_Dep p_0))))) (Ev.t 7 (bI .i64 v3)) rfl) rfl ⟨rfl, rfl, trivial⟩ trivial ?_
    refine G.op1 (op_loadAE (ds := [vS x8.Key, vI x8.Stamp.N, vI x8.Stamp.Site]) Try.underlying100 rfl ti100 rfl (Ev.t 10 (.ep [vS x8.Key, vI x8.Stamp.N, vI x8.Stamp.Site])) rfl) rfl ⟨rfl, trivial⟩ trivial ?_
    refine G.op2 (op_alloc (k := 1004) (cs := [bS ByteArray.empty, bI .i64 0, bI .i64 0]) ti100 ⟨.v _ rfl, .v _ rfl, .v _ rfl, trivial⟩ rfl) rfl trivial ⟨rfl, trivial⟩ ?_
    refine G.op1 (op_assign (Ev.t 9 (bI .i64 v3)) rfl) rfl ⟨rfl, trivial⟩ trivial ?_
    refine G.op3 (op_storeA (cs' := [bS x8.Key, bI .i64 x8.Stamp.N, bI .i64 x8.Stamp.Site]) ti100 rfl rfl (Ev.t 4 (.ptr 1004 0)) (Ev.t 11 (.g (.agg [vS x8.Key, vI x8.Stamp.N, vI x8.Stamp.Site])))) rfl ⟨rfl, rfl, trivial⟩ ⟨rfl, trivial⟩ ?_
    refine G.endOps ?_
    refine G.seq ?_
    obtain ⟨r9, hr9, hF⟩ := bindS hF
    refine ifS hF (fun hc10 hF => ?_) (fun hc10 hF => ?_)
    · refine G.drawnI (deps := [[], [0], [0, 1], [0, 1, 2], [0, 1, 2, 3], [0, 1, 2, 3, 4], [0, 1, 2, 3, 4, 5], [0, 1, 2, 3, 4, 5, 6], [0, 1, 2, 3, 4, 5, 6], [0, 1, 2, 3, 4, 5, 6, 8], [0, 1, 2, 3, 4, 5, 6, 7, 8, 9], [0, 1, 2, 3, 4, 5, 6, 7, 8, 9, 10], [0, 1, 2, 3, 4, 5, 6, 7, 8, 9, 10, 11], [0, 1, 2, 3, 4, 5, 6], [0, 1, 2, 3, 4, 5, 6, 13], [0, 1, 2, 3, 4, 5, 6, 7, 8, 9, 10, 11, 12, 13, 14], [0, 1, 2, 3, 4, 5, 6, 7, 8, 9, 10, 11, 12, 13, 14, 15], [0, 1, 2, 3, 4, 5, 6, 7, 8, 9, 10, 11, 12, 13, 14, 15, 16]]) (sl' := [(0, .one (.g (.d (.sl 3 (List.map encApi_Dep p_0))))), (5, .one (.g (.d (.sl 3 (List.map encApi_Dep p_0))))), (6, oI (p_0.length : Int)), (7, oI v3), (29, oB true)]) (hp' := []) (.c (oP rfl rfl (op_loadAP (ds := [vS x8.Key, vI x8.Stamp.N, vI x8.Stamp.Site]) Try.underlying100 rfl ti100 rfl (Ev.t 4 (.ptr 1004 0)) rfl)) (.c (oP rfl rfl (op_callQ (sv := oB r9) cf59 (ct_past_may x8 r9 hr9) rfl rfl (EvQL.cons (EvQ.g (Ev.t 12 (.g (.agg [vS x8.Key, vI x8.Stamp.N, vI x8.Stamp.Site])))) EvQL.nil) rfl)) (.c (oP rfl rfl (OpL.cast (op_not (Ev.t 13 (bB r9)) rfl) (congrArg (fun b => bB b) hc10))) (.c (oP rfl rfl (op_move (Ev.t 14 (bB true)) rfl)) (.c (OpW.no rfl rfl rfl rfl rfl) (.c (OpW.no rfl rfl rfl rfl rfl) (.c (OpW.no rfl rfl rfl rfl rfl) (.c (OpW.un rfl rfl rfl rfl) (.c (OpW.un rfl rfl rfl rfl) (.c (OpW.un rfl rfl rfl rfl) (.c (OpW.un rfl rfl rfl rfl) (.c (OpW.un rfl rfl rfl rfl) (.c (OpW.un rfl rfl rfl rfl) (.c (OpW.un rfl rfl rfl rfl) (.c (OpW.un rfl rfl rfl rfl) (.c (OpW.un rfl rfl rfl rfl) (.c (OpW.no rfl rfl rfl rfl rfl) (.c (oP rfl rfl (op_pickT (Ev.t 15 (bB true)) (Ev.c _ rfl) rfl)) .nil)))))))))))))))))) follows rfl rfl rfl ⟨⟨rfl, trivial⟩, ⟨⟨rfl, rfl⟩, trivial⟩, ⟨rfl, trivial⟩, trivial, ⟨rfl, trivial⟩, trivial, ⟨rfl, trivial⟩, trivial, ⟨rfl, trivial⟩, trivial, ⟨rfl, trivial⟩, trivial, ⟨rfl, trivial⟩, trivial, ⟨rfl, trivial⟩, trivial, ⟨rfl, trivial⟩, trivial, ⟨rfl, trivial⟩, trivial, ⟨rfl, trivial⟩, trivial, ⟨rfl, trivial⟩, trivial, ⟨rfl, trivial⟩, trivial, ⟨rfl, trivial⟩, trivial, ⟨rfl, trivial⟩, trivial, ⟨rfl, trivial⟩, trivial, ⟨rfl, trivial⟩, trivial, ⟨rfl, trivial⟩, trivial, trivial⟩ ⟨rfl, rfl, rfl, rfl, rfl, trivial⟩ trivial rfl ?_
      refine G.condT rfl ?_
      refine G.seq ?_
      refine G.region ?_
      refine G.op1 (op_assign (Ev.c _ rfl) rfl) rfl trivial trivial ?_
      refine G.endOps ?_
      cases hF
      exact G.ret1 Try.results50 (RVar.tmp 2 _) ⟨rfl, trivial⟩ trivial
    · refine ifS hF (fun hc11 hF => ?_) (fun hc11 hF => ?_)
      · obtain ⟨x12, hx12, hF⟩ := bindS hF
        refine G.drawnI (deps := [[], [0], [0, 1], [0, 1, 2], [0, 1, 2, 3], [0, 1, 2, 3, 4], [0, 1, 2, 3, 4, 5], [0, 1, 2, 3, 4, 5, 6], [0, 1, 2, 3, 4, 5, 6], [0, 1, 2, 3, 4, 5, 6, 8], [0, 1, 2, 3, 4, 5, 6, 7, 8, 9], [0, 1, 2, 3, 4, 5, 6, 7, 8, 9, 10], [0, 1, 2, 3, 4, 5, 6, 7, 8, 9, 10, 11], [0, 1, 2, 3, 4, 5, 6], [0, 1, 2, 3, 4, 5, 6, 13], [0, 1, 2, 3, 4, 5, 6, 7, 8, 9, 10, 11, 12, 13, 14], [0, 1, 2, 3, 4, 5, 6, 7, 8, 9, 10, 11, 12, 13, 14, 15], [0, 1, 2, 3, 4, 5, 6, 7, 8, 9, 10, 11, 12, 13, 14, 15, 16]]) (sl' := [(0, .one (.g (.d (.sl 3 (List.map encApi_Dep p_0))))), (5, .one (.g (.d (.sl 3 (List.map encApi_Dep p_0))))), (6, oI (p_0.length : Int)), (7, oI v3), (29, oB (!slt x12.Key x8.Key))]) (hp' := []) (.c (oP rfl rfl (op_loadAP (ds := [vS x8.Key, vI x8.Stamp.N, vI x8.Stamp.Site]) Try.underlying100 rfl ti100 rfl (Ev.t 4 (.ptr 1004 0)) rfl)) (.c (oP rfl rfl (op_callQ (sv := oB r9) cf59 (ct_past_may x8 r9 hr9) rfl rfl (EvQL.cons (EvQ.g (Ev.t 12 (.g (.agg [vS x8.Key, vI x8.Stamp.N, vI x8.Stamp.Site])))) EvQL.nil) rfl)) (.c (oP rfl rfl (OpL.cast (op_not (Ev.t 13 (bB r9)) rfl) (congrArg (fun b => bB b) hc10))) (.c (oP rfl rfl (op_move (Ev.t 14 (bB false)) rfl)) (.c (oY rfl rfl rfl (op_move (Ev.t 3 (bI .i64 v3)) rfl)) (.c (oY rfl rfl rfl (OpL.cast (op_gtr (Ev.t 16 (bI .i64 v3)) (Ev.c _ rfl) rfl) (congrArg (fun b => bB b) hc11))) (.c (oY rfl rfl rfl (op_move (Ev.t 17 (bB true)) rfl)) (.c (oY rfl rfl rfl (op_move (Ev.t 0 (.g (.d (.sl 3 (List.map encApi_Dep p_0))))) rfl)) (.c (oY rfl rfl rfl (op_move (Ev.t 3 (bI .i64 v3)) rfl)) (.c (oY rfl rfl rfl (op_sub (Ev.t 20 (bI .i64 v3)) (Ev.c _ rfl) rfl)) (.c (oY rfl rfl rfl (op_index (cs := [vS x12.Key, vI x12.Stamp.N, vI x12.Stamp.Site]) Try.underlying41 ti100 (idx_ok hx12).1 (idx_get hx12 encApi_Dep) (Ev.t 19 (.g (.d (.sl 3 (List.map encApi_Dep p_0))))) (Ev.t 21 (bI .i64 (IntKind.wrap .i64 (v3 - 1)))) rfl)) (.c (oY rfl rfl rfl (op_fieldE (cs' := [vS x12.Key, vI x12.Stamp.N, vI x12.Stamp.Site]) Try.underlying100 rfl ti9 (by decide) rfl (Ev.t 22 (.ep [vS x12.Key, vI x12.Stamp.N, vI x12.Stamp.Site])) rfl)) (.c (oY rfl rfl rfl (op_load1E (c := vS x12.Key) Try.underlying9 rfl rfl (Ev.t 23 (.ep [vS x12.Key, vI x12.Stamp.N, vI x12.Stamp.Site])) rfl)) (.c (oY rfl rfl rfl (op_fieldP (off' := 0) Try.underlying100 rfl ti9 (by decide) rfl (Ev.t 4 (.ptr 1004 0)) rfl)) (.c (oY rfl rfl rfl (op_load1P (c := bS x8.Key) Try.underlying9 rfl rfl (Ev.t 25 (.ptr 1004 0)) rfl)) (.c (oY rfl rfl rfl (op_geS (Ev.t 24 (bS x12.Key)) (Ev.t 26 (bS x8.Key)) rfl)) (.c (oY rfl rfl rfl (op_pickT (Ev.t 18 (bB true)) (Ev.t 27 (bB (!slt x12.Key x8.Key))) rfl)) (.c (oP rfl rfl (op_pickF (Ev.t 15 (bB false)) (Ev.t 28 (bB (!slt x12.Key x8.Key))) rfl)) .nil)))))))))))))))))) follows rfl rfl rfl ⟨⟨rfl, trivial⟩, ⟨⟨rfl, rfl⟩, trivial⟩, ⟨rfl, trivial⟩, trivial, ⟨rfl, trivial⟩, trivial, ⟨rfl, trivial⟩, trivial, ⟨rfl, rfl, trivial⟩, trivial, ⟨rfl, rfl, trivial⟩, trivial, ⟨rfl, rfl, trivial⟩, trivial, ⟨rfl, rfl, trivial⟩, trivial, ⟨rfl, rfl, trivial⟩, trivial, ⟨rfl, rfl, trivial⟩, trivial, ⟨rfl, rfl, rfl, trivial⟩, trivial, ⟨rfl, rfl, trivial⟩, trivial, ⟨rfl, rfl, trivial⟩, trivial, ⟨rfl, rfl, trivial⟩, trivial, ⟨rfl, rfl, trivial⟩, ⟨⟨rfl, rfl⟩, trivial⟩, ⟨rfl, rfl, rfl, trivial⟩, trivial, ⟨rfl, rfl, rfl, trivial⟩, trivial, ⟨rfl, rfl, trivial⟩, trivial, trivial⟩ ⟨rfl, rfl, rfl, rfl, rfl, trivial⟩ trivial rfl ?_
        refine ifS hF (fun hc13 hF => ?_) (fun hc13 hF => ?_)
        · refine G.cond rfl (fun _ => ?_) (fun hx => by rw [hc13] at hx; cases hx)
          refine G.seq ?_
          refine G.region ?_
          refine G.op1 (op_assign (Ev.c _ rfl) rfl) rfl trivial trivial ?_
          refine G.endOps ?_
          cases hF
          exact G.ret1 Try.results50 (RVar.tmp 2 _) ⟨rfl, trivial⟩ trivial
        · refine G.cond rfl (fun hx => by rw [hc13] at hx; cases hx) (fun _ => ?_)
          refine G.skip ?_
          refine G.endBlock ?_
          refine G.region ?_
          refine G.op1 (op_add (Ev.t 7 (bI .i64 v3)) (Ev.c _ rfl) rfl) rfl ⟨rfl, trivial⟩ trivial ?_
          refine G.op1 (op_move (Ev.t 30 (bI .i64 (IntKind.wrap .i64 (v3 + 1)))) rfl) rfl ⟨rfl, trivial⟩ trivial ?_
          refine G.endOps ?_
          exact G.arr (J4 (IntKind.wrap .i64 (v3 + 1)) hF) ⟨rfl, rfl, rfl, rfl, trivial⟩ trivial rfl
      · refine G.drawnI (deps := [[], [0], [0, 1], [0, 1, 2], [0, 1, 2, 3], [0, 1, 2, 3, 4], [0, 1, 2, 3, 4, 5], [0, 1, 2, 3, 4, 5, 6], [0, 1, 2, 3, 4, 5, 6], [0, 1, 2, 3, 4, 5, 6, 8], [0, 1, 2, 3, 4, 5, 6, 7, 8, 9], [0, 1, 2, 3, 4, 5, 6, 7, 8, 9, 10], [0, 1, 2, 3, 4, 5, 6, 7, 8, 9, 10, 11], [0, 1, 2, 3, 4, 5, 6], [0, 1, 2, 3, 4, 5, 6, 13], [0, 1, 2, 3, 4, 5, 6, 7, 8, 9, 10, 11, 12, 13, 14], [0, 1, 2, 3, 4, 5, 6, 7, 8, 9, 10, 11, 12, 13, 14, 15], [0, 1, 2, 3, 4, 5, 6, 7, 8, 9, 10, 11, 12, 13, 14, 15, 16]]) (sl' := [(0, .one (.g (.d (.sl 3 (List.map encApi_Dep p_0))))), (5, .one (.g (.d (.sl 3 (List.map encApi_Dep p_0))))), (6, oI (p_0.length : Int)), (7, oI v3), (29, oB false)]) (hp' := []) (.c (oP rfl rfl (op_loadAP (ds := [vS x8.Key, vI x8.Stamp.N, vI x8.Stamp.Site]) Try.underlying100 rfl ti100 rfl (Ev.t 4 (.ptr 1004 0)) rfl)) (.c (oP rfl rfl (op_callQ (sv := oB r9) cf59 (ct_past_may x8 r9 hr9) rfl rfl (EvQL.cons (EvQ.g (Ev.t 12 (.g (.agg [vS x8.Key, vI x8.Stamp.N, vI x8.Stamp.Site])))) EvQL.nil) rfl)) (.c (oP rfl rfl (OpL.cast (op_not (Ev.t 13 (bB r9)) rfl) (congrArg (fun b => bB b) hc10))) (.c (oP rfl rfl (op_move (Ev.t 14 (bB false)) rfl)) (.c (oY rfl rfl rfl (op_move (Ev.t 3 (bI .i64 v3)) rfl)) (.c (oY rfl rfl rfl (OpL.cast (op_gtr (Ev.t 16 (bI .i64 v3)) (Ev.c _ rfl) rfl) (congrArg (fun b => bB b) hc11))) (.c (oY rfl rfl rfl (op_move (Ev.t 17 (bB false)) rfl)) (.c (OpW.no rfl rfl rfl rfl rfl) (.c (OpW.no rfl rfl rfl rfl rfl) (.c (OpW.no rfl rfl rfl rfl rfl) (.c (OpW.no rfl rfl rfl rfl rfl) (.c (OpW.no rfl rfl rfl rfl rfl) (.c (OpW.no rfl rfl rfl rfl rfl) (.c (OpW.no rfl rfl rfl rfl rfl) (.c (OpW.no rfl rfl rfl rfl rfl) (.c (OpW.no rfl rfl rfl rfl rfl) (.c (oY rfl rfl rfl (op_pickF (Ev.t 18 (bB false)) (Ev.c _ rfl) rfl)) (.c (oP rfl rfl (op_pickF (Ev.t 15 (bB false)) (Ev.t 28 (bB false)) rfl)) .nil)))))))))))))))))) follows rfl rfl rfl ⟨⟨rfl, trivial⟩, ⟨⟨rfl, rfl⟩, trivial⟩, ⟨rfl, trivial⟩, trivial, ⟨rfl, trivial⟩, trivial, ⟨rfl, trivial⟩, trivial, ⟨rfl, rfl, trivial⟩, trivial, ⟨rfl, rfl, trivial⟩, trivial, ⟨rfl, rfl, trivial⟩, trivial, ⟨rfl, trivial⟩, trivial, ⟨rfl, trivial⟩, trivial, ⟨rfl, trivial⟩, trivial, ⟨rfl, trivial⟩, trivial, ⟨rfl, trivial⟩, trivial, ⟨rfl, trivial⟩, trivial, ⟨rfl, trivial⟩, trivial, ⟨rfl, trivial⟩, trivial, ⟨rfl, trivial⟩, trivial, ⟨rfl, rfl, trivial⟩, trivial, ⟨rfl, rfl, trivial⟩, trivial, trivial⟩ ⟨rfl, rfl, rfl, rfl, rfl, trivial⟩ trivial rfl ?_
        refine G.condF rfl ?_
        refine G.skip ?_
        refine G.endBlock ?_
        refine G.region ?_
        refine G.op1 (op_add (Ev.t 7 (bI .i64 v3)) (Ev.c _ rfl) rfl) rfl ⟨rfl, trivial⟩ trivial ?_
        refine G.op1 (op_move (Ev.t 30 (bI .i64 (IntKind.wrap .i64 (v3 + 1)))) rfl) rfl ⟨rfl, trivial⟩ trivial ?_
        refine G.endOps ?_
        exact G.arr (J4 (IntKind.wrap .i64 (v3 + 1)) hF) ⟨rfl, rfl, rfl, rfl, trivial⟩ trivial rfl
  · refine G.cond rfl (fun hx => by rw [hc7] at hx; cases hx) (fun _ => ?_)
    refine G.exit ?_
    refine GX.c ?_
    refine GX.q ?_
    refine GX.bYes ?_
    exact G.arr (J2 () hF) ⟨rfl, trivial⟩ trivial rfl


set_option maxRecDepth 20000 in
set_option maxHeartbeats 2000000 in
theorem ct_past_Read (s_0 : ByteArray) (at_1 : Int) (r : ((List Api_Dep) × Int × Bool)) (hF : past_Read s_0 at_1 = some r) : Ct Try.prog 28 [.g (.d (vS s_0)), .g (.d (vI at_1))] (.tup [.d (.sl 3 (List.map encApi_Dep r.1)), .d (vI r.2.1), .d (vB r.2.2)]) := by
  unfold past_Read at hF
  refine Ct.intro Try.func28 rfl Try.ntmps28 rfl rfl fun M w => ?_
  refine G.seq ?_
  refine G.region ?_
  refine G.op2 (op_assignRow (E := 100) (size := 3) (k := 2004) (ex := false) rfl rfl) rfl trivial ⟨rfl, trivial⟩ ?_
  refine G.op1 (op_assign (Ev.c _ rfl) rfl) rfl trivial trivial ?_
  refine G.op1 (op_assign (Ev.c _ rfl) rfl) rfl trivial trivial ?_
  refine G.endOps ?_
  refine G.scope ?_
  refine G.seq ?_
  refine G.region ?_
  refine G.op1 (op_move (Ev.t 0 (bS s_0)) rfl) rfl ⟨rfl, trivial⟩ trivial ?_
  refine G.op1 (op_move (Ev.t 1 (bI .i64 at_1)) rfl) rfl ⟨rfl, trivial⟩ trivial ?_
  obtain ⟨r1, hr1, hF⟩ := bindS hF
  refine G.op1 (op_callQ (sv := .tup [bI .u64 r1.1, bI .i64 r1.2.1, bB r1.2.2]) cf40 (ct_vary_Read s_0 at_1 r1 hr1) rfl rfl (EvQL.cons (EvQ.g (Ev.t 10 (bS s_0))) (EvQL.cons (EvQ.g (Ev.t 11 (bI .i64 at_1))) EvQL.nil)) rfl) rfl ⟨rfl, rfl, trivial⟩ trivial ?_
  refine G.op1 (op_moveS (t := 12) (sv := .tup [bI .u64 r1.1, bI .i64 r1.2.1, bB r1.2.2]) rfl) rfl ⟨rfl, trivial⟩ trivial ?_
  refine G.op1 (op_extract (l := [bI .u64 r1.1, bI .i64 r1.2.1, bB r1.2.2]) (c := bI .u64 r1.1) rfl rfl) rfl ⟨rfl, trivial⟩ trivial ?_
  refine G.op1 (op_extract (l := [bI .u64 r1.1, bI .i64 r1.2.1, bB r1.2.2]) (c := bI .i64 r1.2.1) rfl rfl) rfl ⟨rfl, trivial⟩ trivial ?_
  refine G.op1 (op_extract (l := [bI .u64 r1.1, bI .i64 r1.2.1, bB r1.2.2]) (c := bB r1.2.2) rfl rfl) rfl ⟨rfl, trivial⟩ trivial ?_
  refine G.op1 (op_assign (Ev.t 13 (bI .u64 r1.1)) rfl) rfl ⟨rfl, trivial⟩ trivial ?_
  refine G.op1 (op_assign (Ev.t 14 (bI .i64 r1.2.1)) rfl) rfl ⟨rfl, trivial⟩ trivial ?_
  refine G.op1 (op_assign (Ev.t 15 (bB r1.2.2)) rfl) rfl ⟨rfl, trivial⟩ trivial ?_
  refine G.endOps ?_
  refine G.seq ?_
  refine G.seq ?_
  refine G.joinC (T := Bool) (fun y2 => ⟨[(0, oS s_0), (4, .one (.own 2004 (List.map encApi_Dep ([] : (List Api_Dep))))), (5, oI r1.2.1), (6, oB r1.2.2), (7, .one (bI .u64 r1.1)), (21, oB y2)], [(2004, some (.row 100 3 (List.map encApi_Dep ([] : (List Api_Dep))) false))]⟩) (fun y2 => past_Read_k1 s_0 r1 y2 = some r) (fun y2 hF => ?_) (fun J21 => ?_)
  · unfold past_Read_k1 at hF
    refine ifS hF (fun hc3 hF => ?_) (fun hc3 hF => ?_)
    · refine G.cond rfl (fun _ => ?_) (fun hx => by rw [hc3] at hx; cases hx)
      refine G.seq ?_
      refine G.region ?_
      refine G.op1 (op_assign (Ev.n 3) rfl) rfl trivial trivial ?_
      refine G.op1 (op_assign (Ev.c _ rfl) rfl) rfl trivial trivial ?_
      refine G.op1 (op_assign (Ev.c _ rfl) rfl) rfl trivial trivial ?_
      refine G.endOps ?_
      cases hF
      exact G.ret3 Try.results28 (RVar.tmp 4 _) (RVar.tmp 5 _) (RVar.tmp 6 _) ⟨rfl, rfl, rfl, trivial⟩ trivial
    · refine G.cond rfl (fun hx => by rw [hc3] at hx; cases hx) (fun _ => ?_)
      refine G.skip ?_
      refine G.seq ?_
      refine G.label ?_
      refine G.seq ?_
      refine G.seq ?_
      refine G.region ?_
      refine G.op1 (op_move (Ev.t 7 (bI .u64 r1.1)) rfl) rfl ⟨rfl, trivial⟩ trivial ?_
      refine G.op1 (op_move (Ev.c _ rfl) rfl) rfl trivial trivial ?_
      refine G.endOps ?_
      refine G.joinC (T := Int × Bool × (List Api_Dep)) (fun y4 => ⟨[(4, .one (.own 2004 (List.map encApi_Dep y4.2.2))), (5, oI y4.1), (6, oB y4.2.1)], [(2004, some (.row 100 3 (List.map encApi_Dep y4.2.2) false))]⟩) (fun y4 => past_Read_k2 y4 = some r) (fun y4 hF => ?_) (fun J10 => ?_)
      · unfold past_Read_k2 at hF
        refine G.seq ?_
        refine G.seq ?_
        refine G.joinC (T := Bool) (fun y5 => ⟨[(4, .one (.own 2004 (List.map encApi_Dep y4.2.2))), (5, oI y4.1), (56, oB y5)], [(2004, some (.row 100 3 (List.map encApi_Dep y4.2.2) false))]⟩) (fun y5 => past_Read_k3 y4 y5 = some r) (fun y5 hF => ?_) (fun J7 => ?_)
        · unfold past_Read_k3 at hF
          refine ifS hF (fun hc6 hF => ?_) (fun hc6 hF => ?_)
          · refine G.cond rfl (fun _ => ?_) (fun hx => by rw [hc6] at hx; cases hx)
            refine G.seq ?_
            refine G.region ?_
            refine G.op1 (op_assign (Ev.n 3) rfl) rfl trivial trivial ?_
            refine G.op1 (op_assign (Ev.c _ rfl) rfl) rfl trivial trivial ?_
            refine G.op1 (op_assign (Ev.c _ rfl) rfl) rfl trivial trivial ?_
            refine G.endOps ?_
            cases hF
            exact G.ret3 Try.results28 (RVar.tmp 4 _) (RVar.tmp 5 _) (RVar.tmp 6 _) ⟨rfl, rfl, rfl, trivial⟩ trivial
          · refine G.cond rfl (fun hx => by rw [hc6] at hx; cases hx) (fun _ => ?_)
            refine G.skip ?_
            refine G.seq ?_
            refine G.region ?_
            refine G.op1 (op_move (Ev.t 4 (.own 2004 (List.map encApi_Dep y4.2.2))) rfl) rfl ⟨rfl, trivial⟩ trivial ?_
            refine G.op1 (op_move (Ev.t 5 (bI .i64 y4.1)) rfl) rfl ⟨rfl, trivial⟩ trivial ?_
            refine G.op1 (op_assign (Ev.t 57 (.own 2004 (List.map encApi_Dep y4.2.2))) rfl) rfl ⟨rfl, trivial⟩ trivial ?_
            refine G.op1 (op_assign (Ev.t 58 (bI .i64 y4.1)) rfl) rfl ⟨rfl, trivial⟩ trivial ?_
            refine G.op1 (op_assign (Ev.c _ rfl) rfl) rfl trivial trivial ?_
            refine G.endOps ?_
            refine G.view (t := 4) rfl rfl ?_
            cases hF
            exact G.ret3 Try.results28 (RVar.tmp 4 _) (RVar.tmp 5 _) (RVar.tmp 6 _) ⟨rfl, rfl, rfl, trivial⟩ trivial
        refine G.region ?_
        refine G.op1 (op_move (Ev.t 6 (bB y4.2.1)) rfl) rfl ⟨rfl, trivial⟩ trivial ?_
        refine G.op1 (op_not (Ev.t 50 (bB y4.2.1)) rfl) rfl ⟨rfl, trivial⟩ trivial ?_
        refine G.op1 (op_move (Ev.t 51 (bB (!y4.2.1))) rfl) rfl ⟨rfl, trivial⟩ trivial ?_
        refine ifS hF (fun hc8 hF => ?_) (fun hc8 hF => ?_)
        · refine G.known (t := 52) hc8 rfl ?_
          refine G.opN1 rfl rfl rfl rfl rfl ?_
          refine G.opN1 rfl rfl rfl rfl rfl ?_
          refine G.opN1 rfl rfl rfl rfl rfl ?_
          refine G.op1 (op_pickT (Ev.t 52 (bB true)) (Ev.c _ rfl) rfl) rfl ⟨rfl, trivial⟩ trivial ?_
          refine G.endOps ?_
          exact G.arr (J7 true hF) ⟨rfl, rfl, rfl, trivial⟩ ⟨rfl, trivial⟩ rfl
        · refine G.known (t := 52) hc8 rfl ?_
          refine G.opG1 (op_move (Ev.t 4 (.own 2004 (List.map encApi_Dep y4.2.2))) rfl) rfl rfl rfl ⟨rfl, trivial⟩ trivial ?_
          obtain ⟨r9, hr9, hF⟩ := bindS hF
          refine G.opG1 (op_callQ (sv := oB r9) cf50 (ct_past_Check y4.2.2 r9 hr9) rfl rfl (EvQL.cons (EvQ.own (Ev.t 53 (.own 2004 (List.map encApi_Dep y4.2.2)))) EvQL.nil) rfl) rfl rfl rfl ⟨rfl, trivial⟩ ⟨rfl, trivial⟩ ?_
          refine G.opG1 (op_not (Ev.t 54 (bB r9)) rfl) rfl rfl rfl ⟨rfl, trivial⟩ trivial ?_
          refine G.op1 (op_pickF (Ev.t 52 (bB false)) (Ev.t 55 (bB (!r9))) rfl) rfl ⟨rfl, rfl, trivial⟩ trivial ?_
          refine G.endOps ?_
          exact G.arr (J7 (!r9) hF) ⟨rfl, rfl, rfl, trivial⟩ ⟨rfl, trivial⟩ rfl
      refine G.block ?_
      refine G.keep (sl' := [(0, oS s_0), (4, .one (.own 2004 (List.map encApi_Dep ([] : (List Api_Dep))))), (5, oI r1.2.1), (6, oB r1.2.2), (22, .one (bI .u64 r1.1)), (23, .one (bI .u64 0))]) (hp' := [(2004, some (.row 100 3 (List.map encApi_Dep ([] : (List Api_Dep))) false))]) ⟨rfl, rfl, rfl, rfl, rfl, rfl, trivial⟩ ⟨rfl, trivial⟩ rfl ?_
      refine G.loopF (fun (v11 : Int × Bool × Int × (List Api_Dep)) => ⟨[(0, oS s_0), (4, .one (.own 2004 (List.map encApi_Dep v11.2.2.2))), (5, oI v11.1), (6, oB v11.2.1), (22, .one (bI .u64 r1.1)), (23, .one (bI .u64 v11.2.2.1))], [(2004, some (.row 100 3 (List.map encApi_Dep v11.2.2.2) false))]⟩) hF rfl (fun K14 again13 v11 J12 hF => ?_)
      unfold past_Read_l4 at hF
      refine G.seq ?_
      refine G.region ?_
      refine G.op1 (op_lss (Ev.t 23 (bI .u64 v11.2.2.1)) (Ev.t 22 (bI .u64 r1.1)) rfl) rfl ⟨rfl, rfl, trivial⟩ trivial ?_
      refine G.endOps ?_
      refine G.seq ?_
      refine ifS hF (fun hc15 hF => ?_) (fun hc15 hF => ?_)
      · refine G.cond rfl (fun _ => ?_) (fun hx => by rw [hc15] at hx; cases hx)
        refine G.skip ?_
        refine G.seq ?_
        refine G.block ?_
        refine G.seq ?_
        refine G.region ?_
        refine G.op2 (op_alloc (k := 1008) (cs := [bS ByteArray.empty, bI .i64 0, bI .i64 0]) ti100 ⟨.v _ rfl, .v _ rfl, .v _ rfl, trivial⟩ rfl) rfl trivial ⟨rfl, trivial⟩ ?_
        refine G.endOps ?_
        refine G.seq ?_
        refine G.region ?_
        refine G.op1 (op_move (Ev.t 0 (bS s_0)) rfl) rfl ⟨rfl, trivial⟩ trivial ?_
        refine G.op1 (op_move (Ev.t 5 (bI .i64 v11.1)) rfl) rfl ⟨rfl, trivial⟩ trivial ?_
        obtain ⟨r16, hr16, hF⟩ := bindS hF
        refine G.op1 (op_callQ (sv := .tup [bS r16.1, bI .i64 r16.2.1, bB r16.2.2]) cf41 (ct_vary_ReadText s_0 v11.1 32 r16 hr16) rfl rfl (EvQL.cons (EvQ.g (Ev.t 26 (bS s_0))) (EvQL.cons (EvQ.g (Ev.t 27 (bI .i64 v11.1))) (EvQL.cons (EvQ.g (Ev.c _ rfl)) EvQL.nil))) rfl) rfl ⟨rfl, rfl, trivial⟩ trivial ?_
        refine G.op1 (op_moveS (t := 28) (sv := .tup [bS r16.1, bI .i64 r16.2.1, bB r16.2.2]) rfl) rfl ⟨rfl, trivial⟩ trivial ?_
        refine G.op1 (op_extract (l := [bS r16.1, bI .i64 r16.2.1, bB r16.2.2]) (c := bS r16.1) rfl rfl) rfl ⟨rfl, trivial⟩ trivial ?_
        refine G.op1 (op_extract (l := [bS r16.1, bI .i64 r16.2.1, bB r16.2.2]) (c := bI .i64 r16.2.1) rfl rfl) rfl ⟨rfl, trivial⟩ trivial ?_
        refine G.op1 (op_extract (l := [bS r16.1, bI .i64 r16.2.1, bB r16.2.2]) (c := bB r16.2.2) rfl rfl) rfl ⟨rfl, trivial⟩ trivial ?_
        refine G.op1 (op_fieldP (off' := 0) Try.underlying100 rfl ti9 (by decide) rfl (Ev.t 8 (.ptr 1008 0)) rfl) rfl ⟨rfl, trivial⟩ trivial ?_
        refine G.op3 (op_store1 (cs' := [bS r16.1, bI .i64 0, bI .i64 0]) (c := bS r16.1) trivial ti9 rfl rfl (Ev.t 32 (.ptr 1008 0)) (Ev.t 29 (bS r16.1))) rfl ⟨rfl, rfl, trivial⟩ ⟨rfl, trivial⟩ ?_
        refine G.op1 (op_assign (Ev.t 30 (bI .i64 r16.2.1)) rfl) rfl ⟨rfl, trivial⟩ trivial ?_
        refine G.op1 (op_assign (Ev.t 31 (bB r16.2.2)) rfl) rfl ⟨rfl, trivial⟩ trivial ?_
        refine G.endOps ?_
        refine G.seq ?_
        refine G.seq ?_
        refine G.region ?_
        refine G.op1 (op_move (Ev.t 6 (bB r16.2.2)) rfl) rfl ⟨rfl, trivial⟩ trivial ?_
        refine G.op1 (op_not (Ev.t 33 (bB r16.2.2)) rfl) rfl ⟨rfl, trivial⟩ trivial ?_
        refine G.endOps ?_
        refine ifS hF (fun hc17 hF => ?_) (fun hc17 hF => ?_)
        · refine G.cond rfl (fun _ => ?_) (fun hx => by rw [hc17] at hx; cases hx)
          refine G.exit ?_
          refine GX.c ?_
          refine GX.bNo rfl ?_
          refine GX.c ?_
          refine GX.q ?_
          refine GX.bYes ?_
          exact G.arr (J10 (r16.2.1, r16.2.2, v11.2.2.2) hF) ⟨rfl, rfl, rfl, trivial⟩ ⟨rfl, trivial⟩ rfl
        · refine G.cond rfl (fun hx => by rw [hc17] at hx; cases hx) (fun _ => ?_)
          refine G.skip ?_
          refine G.seq ?_
          refine G.region ?_
          refine G.op1 (op_move (Ev.t 0 (bS s_0)) rfl) rfl ⟨rfl, trivial⟩ trivial ?_
          refine G.op1 (op_move (Ev.t 5 (bI .i64 r16.2.1)) rfl) rfl ⟨rfl, trivial⟩ trivial ?_
          obtain ⟨r18, hr18, hF⟩ := bindS hF
          refine G.op1 (op_callQ (sv := .tup [.g (.agg [vI r18.1.N, vI r18.1.Site]), bI .i64 r18.2.1, bB r18.2.2]) cf27 (ct_stamp_Read s_0 r16.2.1 r18 hr18) rfl rfl (EvQL.cons (EvQ.g (Ev.t 36 (bS s_0))) (EvQL.cons (EvQ.g (Ev.t 37 (bI .i64 r16.2.1))) EvQL.nil)) rfl) rfl ⟨rfl, rfl, trivial⟩ trivial ?_
          refine G.op1 (op_moveS (t := 38) (sv := .tup [.g (.agg [vI r18.1.N, vI r18.1.Site]), bI .i64 r18.2.1, bB r18.2.2]) rfl) rfl ⟨rfl, trivial⟩ trivial ?_
          refine G.op1 (op_extract (l := [.g (.agg [vI r18.1.N, vI r18.1.Site]), bI .i64 r18.2.1, bB r18.2.2]) (c := .g (.agg [vI r18.1.N, vI r18.1.Site])) rfl rfl) rfl ⟨rfl, trivial⟩ trivial ?_
          refine G.op1 (op_extract (l := [.g (.agg [vI r18.1.N, vI r18.1.Site]), bI .i64 r18.2.1, bB r18.2.2]) (c := bI .i64 r18.2.1) rfl rfl) rfl ⟨rfl, trivial⟩ trivial ?_
          refine G.op1 (op_extract (l := [.g (.agg [vI r18.1.N, vI r18.1.Site]), bI .i64 r18.2.1, bB r18.2.2]) (c := bB r18.2.2) rfl rfl) rfl ⟨rfl, trivial⟩ trivial ?_
          refine G.op1 (op_fieldP (off' := 1) Try.underlying100 rfl ti40 (by decide) rfl (Ev.t 8 (.ptr 1008 0)) rfl) rfl ⟨rfl, trivial⟩ trivial ?_
          refine G.op3 (op_storeA (cs' := [bS r16.1, bI .i64 r18.1.N, bI .i64 r18.1.Site]) ti40 rfl rfl (Ev.t 42 (.ptr 1008 1)) (Ev.t 39 (.g (.agg [vI r18.1.N, vI r18.1.Site])))) rfl ⟨rfl, rfl, trivial⟩ ⟨rfl, trivial⟩ ?_
          refine G.op1 (op_assign (Ev.t 40 (bI .i64 r18.2.1)) rfl) rfl ⟨rfl, trivial⟩ trivial ?_
          refine G.op1 (op_assign (Ev.t 41 (bB r18.2.2)) rfl) rfl ⟨rfl, trivial⟩ trivial ?_
          refine G.endOps ?_
          refine G.seq ?_
          refine G.seq ?_
          refine G.region ?_
          refine G.op1 (op_move (Ev.t 6 (bB r18.2.2)) rfl) rfl ⟨rfl, trivial⟩ trivial ?_
          refine G.op1 (op_not (Ev.t 43 (bB r18.2.2)) rfl) rfl ⟨rfl, trivial⟩ trivial ?_
          refine G.endOps ?_
          refine ifS hF (fun hc19 hF => ?_) (fun hc19 hF => ?_)
          · refine G.cond rfl (fun _ => ?_) (fun hx => by rw [hc19] at hx; cases hx)
            refine G.exit ?_
            refine GX.c ?_
            refine GX.bNo rfl ?_
            refine GX.c ?_
            refine GX.q ?_
            refine GX.bYes ?_
            exact G.arr (J10 (r18.2.1, r18.2.2, v11.2.2.2) hF) ⟨rfl, rfl, rfl, trivial⟩ ⟨rfl, trivial⟩ rfl
          · refine G.cond rfl (fun hx => by rw [hc19] at hx; cases hx) (fun _ => ?_)
            refine G.skip ?_
            refine G.region ?_
            refine G.op1 (op_move (Ev.t 4 (.own 2004 (List.map encApi_Dep v11.2.2.2))) rfl) rfl ⟨rfl, trivial⟩ trivial ?_
            refine G.op1 (op_loadAP (ds := [vS r16.1, vI r18.1.N, vI r18.1.Site]) Try.underlying100 rfl ti100 rfl (Ev.t 8 (.ptr 1008 0)) rfl) rfl ⟨rfl, trivial⟩ ⟨rfl, trivial⟩ ?_
            refine G.op1 (op_buildSlice (es := List.map encApi_Dep [(Api_Dep.mk r16.1 r18.1)]) Try.underlying41 ti100 rfl rfl (EvP.cons (Ev.t 46 (.g (.agg [vS r16.1, vI r18.1.N, vI r18.1.Site]))) EvP.nil) rfl rfl (by simp [encApi_Dep]) rfl) rfl ⟨rfl, trivial⟩ trivial ?_
            obtain ⟨l20, hl20, hF⟩ := bindS hF
            refine G.op2 (op_appendO Try.underlying41 ti100 rfl (app_map hl20 encApi_Dep) (app_b1 hl20 encApi_Dep) (app_b2 hl20 encApi_Dep) (Ev.t 45 (.own 2004 (List.map encApi_Dep v11.2.2.2))) (Ev.t 47 (.g (.d (.sl 3 (List.map encApi_Dep ([(Api_Dep.mk r16.1 r18.1)])))))) rfl) rfl ⟨rfl, rfl, trivial⟩ ⟨rfl, trivial⟩ ?_
            refine G.op1 (op_assign (Ev.t 48 (.own 2004 (List.map encApi_Dep l20))) rfl) rfl ⟨rfl, trivial⟩ trivial ?_
            refine G.endOps ?_
            refine G.endBlock ?_
            refine G.region ?_
            refine G.op1 (op_add (Ev.t 23 (bI .u64 v11.2.2.1)) (Ev.c _ rfl) rfl) rfl ⟨rfl, trivial⟩ trivial ?_
            refine G.op1 (op_move (Ev.t 49 (bI .u64 (IntKind.wrap .u64 (v11.2.2.1 + 1)))) rfl) rfl ⟨rfl, trivial⟩ trivial ?_
            refine G.endOps ?_
            exact G.arr (J12 (r18.2.1, r18.2.2, IntKind.wrap .u64 (v11.2.2.1 + 1), l20) hF) ⟨rfl, rfl, rfl, rfl, rfl, rfl, trivial⟩ ⟨rfl, trivial⟩ rfl
      · refine G.cond rfl (fun hx => by rw [hc15] at hx; cases hx) (fun _ => ?_)
        refine G.exit ?_
        refine GX.c ?_
        refine GX.q ?_
        refine GX.bYes ?_
        exact G.arr (J10 (v11.1, v11.2.1, v11.2.2.2) hF) ⟨rfl, rfl, rfl, trivial⟩ ⟨rfl, trivial⟩ rfl
  refine G.region ?_
  refine G.op1 (op_move (Ev.t 6 (bB r1.2.2)) rfl) rfl ⟨rfl, trivial⟩ trivial ?_
  refine G.op1 (op_not (Ev.t 16 (bB r1.2.2)) rfl) rfl ⟨rfl, trivial⟩ trivial ?_
  refine G.op1 (op_move (Ev.t 17 (bB (!r1.2.2))) rfl) rfl ⟨rfl, trivial⟩ trivial ?_
  refine ifS hF (fun hc22 hF => ?_) (fun hc22 hF => ?_)
  · refine G.known (t := 18) hc22 rfl ?_
    refine G.opN1 rfl rfl rfl rfl rfl ?_
    refine G.opN1 rfl rfl rfl rfl rfl ?_
    refine G.op1 (op_pickT (Ev.t 18 (bB true)) (Ev.c _ rfl) rfl) rfl ⟨rfl, trivial⟩ trivial ?_
    refine G.endOps ?_
    exact G.arr (J21 true hF) ⟨rfl, rfl, rfl, rfl, rfl, rfl, trivial⟩ ⟨rfl, trivial⟩ rfl
  · refine G.known (t := 18) hc22 rfl ?_
    refine G.opG1 (op_move (Ev.t 7 (bI .u64 r1.1)) rfl) rfl rfl rfl ⟨rfl, trivial⟩ trivial ?_
    refine G.opG1 (op_gtr (Ev.t 19 (bI .u64 r1.1)) (Ev.c _ rfl) rfl) rfl rfl rfl ⟨rfl, trivial⟩ trivial ?_
    refine G.op1 (op_pickF (Ev.t 18 (bB false)) (Ev.t 20 (bB (decide (24 < r1.1)))) rfl) rfl ⟨rfl, rfl, trivial⟩ trivial ?_
    refine G.endOps ?_
    exact G.arr (J21 (decide (24 < r1.1)) hF) ⟨rfl, rfl, rfl, rfl, rfl, rfl, trivial⟩ ⟨rfl, trivial⟩ rfl


set_option maxRecDepth 20000 in
set_option maxHeartbeats 2000000 in
theorem ct_wire_reader_done (r_0 : Wire_reader) (r : (Wire_reader × Bool)) (hF : wire_reader_done r_0 = some r) : CtM Try.prog 20 [.pt (.dat 53 (encWire_reader r_0))] (.dat 53 (encWire_reader r.1)) (.one (.d (vB r.2))) := by
  unfold wire_reader_done at hF
  refine CtM.intro (h := .dat 53 (encWire_reader r_0)) 0 Try.func20 rfl Try.ntmps20 rfl rfl rfl rfl (fun M w b go => ?_)
  refine G.seq ?_
  refine G.region ?_
  refine G.op1 (op_assign (Ev.c _ rfl) rfl) rfl trivial trivial ?_
  refine G.endOps ?_
  refine G.seq ?_
  refine ifS hF (fun hc1 hF => ?_) (fun hc1 hF => ?_)
  · refine G.drawnI (deps := [[], [0], [0, 1], [0, 1, 2], [0, 1, 2, 3], [0, 1, 2, 3, 4], [0, 1, 2, 3, 4, 5], [0, 1, 2, 3, 4, 5, 6], [0, 1, 2, 3, 4, 5, 6, 7], [0, 1, 2, 3, 4, 5, 6, 7, 8], [0, 1, 2, 3, 4, 5], [0, 1, 2, 3, 4, 5, 10], [0, 1, 2, 3, 4, 5, 10, 11], [0, 1, 2, 3, 4, 5, 10, 11, 12], [0, 1, 2, 3, 4, 5, 10, 11, 12, 13], [0, 1, 2, 3, 4, 5, 6, 7, 8, 9, 10, 11, 12, 13, 14], [0, 1, 2, 3, 4, 5, 6, 7, 8, 9, 10, 11, 12, 13, 14, 15], [0, 1, 2, 3, 4, 5, 6, 7, 8, 9, 10, 11, 12, 13, 14, 15, 16]]) (sl' := [(2, oB (decide (r_0.at_ = (r_0.s.size : Int))))]) (hp' := [(0, some (.blk 53 [bS r_0.s, bI .i64 r_0.at_, bB r_0.bad]))]) (.c (oP rfl rfl (op_move (Ev.t 0 (.ptr 0 0)) rfl)) (.c (oP rfl rfl (op_nilCheckP (Ev.t 3 (.ptr 0 0)) rfl)) (.c (oP rfl rfl (op_fieldP (off' := 2) Try.underlying53 rfl ti4 (by decide) rfl (Ev.t 4 (.ptr 0 0)) rfl)) (.c (oP rfl rfl (op_load1P (c := bB r_0.bad) Try.underlying4 rfl rfl (Ev.t 5 (.ptr 0 2)) rfl)) (.c (oP rfl rfl (OpL.cast (op_not (Ev.t 6 (bB r_0.bad)) rfl) (congrArg (fun b => bB b) hc1))) (.c (oP rfl rfl (op_move (Ev.t 7 (bB true)) rfl)) (.c (oY rfl rfl rfl (op_move (Ev.t 0 (.ptr 0 0)) rfl)) (.c (oY rfl rfl rfl (op_nilCheckP (Ev.t 9 (.ptr 0 0)) rfl)) (.c (oY rfl rfl rfl (op_fieldP (off' := 1) Try.underlying53 rfl ti3 (by decide) rfl (Ev.t 10 (.ptr 0 0)) rfl)) (.c (oY rfl rfl rfl (op_load1P (c := bI .i64 r_0.at_) Try.underlying3 rfl rfl (Ev.t 11 (.ptr 0 1)) rfl)) (.c (oY rfl rfl rfl (op_move (Ev.t 0 (.ptr 0 0)) rfl)) (.c (oY rfl rfl rfl (op_nilCheckP (Ev.t 13 (.ptr 0 0)) rfl)) (.c (oY rfl rfl rfl (op_fieldP (off' := 0) Try.underlying53 rfl ti9 (by decide) rfl (Ev.t 14 (.ptr 0 0)) rfl)) (.c (oY rfl rfl rfl (op_load1P (c := bS r_0.s) Try.underlying9 rfl rfl (Ev.t 15 (.ptr 0 0)) rfl)) (.c (oY rfl rfl rfl (op_lenS Try.underlying9 (Ev.t 16 (bS r_0.s)) rfl)) (.c (oY rfl rfl rfl (op_eqI (Ev.t 12 (bI .i64 r_0.at_)) (Ev.t 17 (bI .i64 (r_0.s.size : Int))) rfl)) (.c (oP rfl rfl (op_pickT (Ev.t 8 (bB true)) (Ev.t 18 (bB (decide (r_0.at_ = (r_0.s.size : Int))))) rfl)) (.c (oP rfl rfl (op_assign (Ev.t 19 (bB (decide (r_0.at_ = (r_0.s.size : Int))))) rfl)) .nil)))))))))))))))))) follows rfl rfl rfl ⟨⟨rfl, trivial⟩, trivial, ⟨rfl, trivial⟩, trivial, ⟨rfl, trivial⟩, trivial, ⟨rfl, trivial⟩, ⟨⟨rfl, rfl⟩, trivial⟩, ⟨rfl, trivial⟩, trivial, ⟨rfl, trivial⟩, trivial, ⟨rfl, rfl, trivial⟩, trivial, ⟨rfl, rfl, trivial⟩, trivial, ⟨rfl, rfl, trivial⟩, trivial, ⟨rfl, rfl, trivial⟩, ⟨⟨rfl, rfl⟩, trivial⟩, ⟨rfl, rfl, trivial⟩, trivial, ⟨rfl, rfl, trivial⟩, trivial, ⟨rfl, rfl, trivial⟩, trivial, ⟨rfl, rfl, trivial⟩, ⟨⟨rfl, rfl⟩, trivial⟩, ⟨rfl, rfl, trivial⟩, trivial, ⟨rfl, rfl, rfl, trivial⟩, trivial, ⟨rfl, rfl, trivial⟩, trivial, ⟨rfl, trivial⟩, trivial, trivial⟩ ⟨rfl, trivial⟩ ⟨rfl, trivial⟩ rfl ?_
    have hF := Option.some.inj hF; subst hF
    exact G.retM (retOK1 Try.results20 (RVar.tmp 2 _)) ⟨rfl, trivial⟩ trivial ⟨rfl, trivial⟩
  · refine G.drawnI (deps := [[], [0], [0, 1], [0, 1, 2], [0, 1, 2, 3], [0, 1, 2, 3, 4], [0, 1, 2, 3, 4, 5], [0, 1, 2, 3, 4, 5, 6], [0, 1, 2, 3, 4, 5, 6, 7], [0, 1, 2, 3, 4, 5, 6, 7, 8], [0, 1, 2, 3, 4, 5], [0, 1, 2, 3, 4, 5, 10], [0, 1, 2, 3, 4, 5, 10, 11], [0, 1, 2, 3, 4, 5, 10, 11, 12], [0, 1, 2, 3, 4, 5, 10, 11, 12, 13], [0, 1, 2, 3, 4, 5, 6, 7, 8, 9, 10, 11, 12, 13, 14], [0, 1, 2, 3, 4, 5, 6, 7, 8, 9, 10, 11, 12, 13, 14, 15], [0, 1, 2, 3, 4, 5, 6, 7, 8, 9, 10, 11, 12, 13, 14, 15, 16]]) (sl' := [(2, oB false)]) (hp' := [(0, some (.blk 53 [bS r_0.s, bI .i64 r_0.at_, bB r_0.bad]))]) (.c (oP rfl rfl (op_move (Ev.t 0 (.ptr 0 0)) rfl)) (.c (oP rfl rfl (op_nilCheckP (Ev.t 3 (.ptr 0 0)) rfl)) (.c (oP rfl rfl (op_fieldP (off' := 2) Try.underlying53 rfl ti4 (by decide) rfl (Ev.t 4 (.ptr 0 0)) rfl)) (.c (oP rfl rfl (op_load1P (c := bB r_0.bad) Try.underlying4 rfl rfl (Ev.t 5 (.ptr 0 2)) rfl)) (.c (oP rfl rfl (OpL.cast (op_not (Ev.t 6 (bB r_0.bad)) rfl) (congrArg (fun b => bB b) hc1))) (.c (oP rfl rfl (op_move (Ev.t 7 (bB false)) rfl)) (.c (OpW.no rfl rfl rfl rfl rfl) (.c (OpW.no rfl rfl rfl rfl rfl) (.c (OpW.no rfl rfl rfl rfl rfl) (.c (OpW.no rfl rfl rfl rfl rfl) (.c (OpW.no rfl rfl rfl rfl rfl) (.c (OpW.no rfl rfl rfl rfl rfl) (.c (OpW.no rfl rfl rfl rfl rfl) (.c (OpW.no rfl rfl rfl rfl rfl) (.c (OpW.no rfl rfl rfl rfl rfl) (.c (OpW.no rfl rfl rfl rfl rfl) (.c (oP rfl rfl (op_pickF (Ev.t 8 (bB false)) (Ev.c _ rfl) rfl)) (.c (oP rfl rfl (op_assign (Ev.t 19 (bB false)) rfl)) .nil)))))))))))))))))) follows rfl rfl rfl ⟨⟨rfl, trivial⟩, trivial, ⟨rfl, trivial⟩, trivial, ⟨rfl, trivial⟩, trivial, ⟨rfl, trivial⟩, ⟨⟨rfl, rfl⟩, trivial⟩, ⟨rfl, trivial⟩, trivial, ⟨rfl, trivial⟩, trivial, ⟨rfl, trivial⟩, trivial, ⟨rfl, trivial⟩, trivial, ⟨rfl, trivial⟩, trivial, ⟨rfl, trivial⟩, trivial, ⟨rfl, trivial⟩, trivial, ⟨rfl, trivial⟩, trivial, ⟨rfl, trivial⟩, trivial, ⟨rfl, trivial⟩, trivial, ⟨rfl, trivial⟩, trivial, ⟨rfl, trivial⟩, trivial, ⟨rfl, trivial⟩, trivial, ⟨rfl, trivial⟩, trivial, trivial⟩ ⟨rfl, trivial⟩ ⟨rfl, trivial⟩ rfl ?_
    have hF := Option.some.inj hF; subst hF
    exact G.retM (retOK1 Try.results20 (RVar.tmp 2 _)) ⟨rfl, trivial⟩ trivial ⟨rfl, trivial⟩


set_option maxRecDepth 20000 in
set_option maxHeartbeats 2000000 in
theorem ct_wire_Check (v_0 : Api_Version) (r : Bool) (hF : wire_Check v_0 = some r) : Ct Try.prog 30 [.g (.agg (encApi_Version v_0))] (.one (.d (vB r))) := by
  unfold wire_Check at hF
  refine Ct.intro Try.func30 rfl Try.ntmps30 rfl rfl fun M w => ?_
  refine G.seq ?_
  refine G.region ?_
  refine G.op2 (op_boxA (k := 1001) (Ev.t 0 (.g (.agg [vS v_0.Key, vS v_0.Value, vB v_0.Gone, vI v_0.Stamp.N, vI v_0.Stamp.Site, .sl 3 (List.map encApi_Dep v_0.Past)]))) rfl) rfl ⟨rfl, trivial⟩ ⟨rfl, trivial⟩ ?_
  refine G.op1 (op_assign (Ev.c _ rfl) rfl) rfl trivial trivial ?_
  refine G.endOps ?_
  refine G.seq ?_
  refine G.region ?_
  refine G.op1 (op_fieldP (off' := 0) Try.underlying43 rfl ti9 (by decide) rfl (Ev.t 1 (.ptr 1001 0)) rfl) rfl ⟨rfl, trivial⟩ trivial ?_
  refine G.op1 (op_load1P (c := bS v_0.Key) Try.underlying9 rfl rfl (Ev.t 3 (.ptr 1001 0)) rfl) rfl ⟨rfl, trivial⟩ ⟨rfl, trivial⟩ ?_
  obtain ⟨r1, hr1, hF⟩ := bindS hF
  refine G.op1 (op_callQ (sv := oB r1) cf51 (ct_keys_Check v_0.Key r1 hr1) rfl rfl (EvQL.cons (EvQ.g (Ev.t 4 (bS v_0.Key))) EvQL.nil) rfl) rfl ⟨rfl, trivial⟩ trivial ?_
  refine G.op1 (op_move (Ev.t 5 (bB r1)) rfl) rfl ⟨rfl, trivial⟩ trivial ?_
  refine G.joinL (T := Bool) 4 (fun y2 => ⟨[(1, .one (.ptr 1001 0)), (10, oB y2)], [(1001, some (.blk 43 [bS v_0.Key, bS v_0.Value, bB v_0.Gone, bI .i64 v_0.Stamp.N, bI .i64 v_0.Stamp.Site, .g (.d (.sl 3 (List.map encApi_Dep v_0.Past)))]))]⟩) (fun y2 => wire_Check_k1 v_0 y2 = some r) (fun y2 hF => ?_) (fun J12 => ?_)
  · unfold wire_Check_k1 at hF
    refine G.op1 (op_move (Ev.t 10 (bB y2)) rfl) rfl ⟨rfl, trivial⟩ trivial ?_
    refine G.joinL (T := Bool) 4 (fun y3 => ⟨[(1, .one (.ptr 1001 0)), (15, oB y3)], [(1001, some (.blk 43 [bS v_0.Key, bS v_0.Value, bB v_0.Gone, bI .i64 v_0.Stamp.N, bI .i64 v_0.Stamp.Site, .g (.d (.sl 3 (List.map encApi_Dep v_0.Past)))]))]⟩) (fun y3 => wire_Check_k2 v_0 y3 = some r) (fun y3 hF => ?_) (fun J9 => ?_)
    · unfold wire_Check_k2 at hF
      refine G.op1 (op_move (Ev.t 15 (bB y3)) rfl) rfl ⟨rfl, trivial⟩ trivial ?_
      refine G.joinL (T := Bool) 5 (fun y4 => ⟨[(1, .one (.ptr 1001 0)), (21, oB y4)], [(1001, some (.blk 43 [bS v_0.Key, bS v_0.Value, bB v_0.Gone, bI .i64 v_0.Stamp.N, bI .i64 v_0.Stamp.Site, .g (.d (.sl 3 (List.map encApi_Dep v_0.Past)))]))]⟩) (fun y4 => wire_Check_k3 v_0 y4 = some r) (fun y4 hF => ?_) (fun J7 => ?_)
      · unfold wire_Check_k3 at hF
        refine G.op1 (op_move (Ev.t 21 (bB y4)) rfl) rfl ⟨rfl, trivial⟩ trivial ?_
        refine ifS hF (fun hc5 hF => ?_) (fun hc5 hF => ?_)
        · refine G.known (t := 22) hc5 rfl ?_
          refine G.opG1 (op_fieldP (off' := 2) Try.underlying43 rfl ti4 (by decide) rfl (Ev.t 1 (.ptr 1001 0)) rfl) rfl rfl rfl ⟨rfl, trivial⟩ trivial ?_
          refine G.opG1 (op_load1P (c := bB v_0.Gone) Try.underlying4 rfl rfl (Ev.t 23 (.ptr 1001 2)) rfl) rfl rfl rfl ⟨rfl, trivial⟩ ⟨rfl, trivial⟩ ?_
          refine G.opG1 (op_not (Ev.t 24 (bB v_0.Gone)) rfl) rfl rfl rfl ⟨rfl, trivial⟩ trivial ?_
          refine G.opG1 (op_move (Ev.t 25 (bB (!v_0.Gone))) rfl) rfl rfl rfl ⟨rfl, trivial⟩ trivial ?_
          refine ifS hF (fun hc6 hF => ?_) (fun hc6 hF => ?_)
          · refine G.known (t := 26) hc6 rfl ?_
            refine G.opN1 rfl rfl rfl rfl rfl ?_
            refine G.opN1 rfl rfl rfl rfl rfl ?_
            refine G.opN1 rfl rfl rfl rfl rfl ?_
            refine G.opG1 (op_pickT (Ev.t 26 (bB true)) (Ev.c _ rfl) rfl) rfl rfl rfl ⟨rfl, trivial⟩ trivial ?_
            refine G.op1 (op_pickT (Ev.t 22 (bB true)) (Ev.t 30 (bB true)) rfl) rfl ⟨rfl, rfl, trivial⟩ trivial ?_
            refine G.op1 (op_assign (Ev.t 31 (bB true)) rfl) rfl ⟨rfl, trivial⟩ trivial ?_
            refine G.endOps ?_
            cases hF
            exact G.ret1 Try.results30 (RVar.tmp 2 _) ⟨rfl, trivial⟩ trivial
          · refine G.known (t := 26) hc6 rfl ?_
            refine G.opG1 (op_fieldP (off' := 1) Try.underlying43 rfl ti9 (by decide) rfl (Ev.t 1 (.ptr 1001 0)) rfl) rfl rfl rfl ⟨rfl, trivial⟩ trivial ?_
            refine G.opG1 (op_load1P (c := bS v_0.Value) Try.underlying9 rfl rfl (Ev.t 27 (.ptr 1001 1)) rfl) rfl rfl rfl ⟨rfl, trivial⟩ ⟨rfl, trivial⟩ ?_
            refine G.opG1 (op_eqS (Ev.t 28 (bS v_0.Value)) (Ev.c _ rfl) rfl) rfl rfl rfl ⟨rfl, trivial⟩ trivial ?_
            refine G.opG1 (op_pickF (Ev.t 26 (bB false)) (Ev.t 29 (bB (seq v_0.Value ByteArray.empty))) rfl) rfl rfl rfl ⟨rfl, rfl, trivial⟩ trivial ?_
            refine G.op1 (op_pickT (Ev.t 22 (bB true)) (Ev.t 30 (bB (seq v_0.Value ByteArray.empty))) rfl) rfl ⟨rfl, rfl, trivial⟩ trivial ?_
            refine G.op1 (op_assign (Ev.t 31 (bB (seq v_0.Value ByteArray.empty))) rfl) rfl ⟨rfl, trivial⟩ trivial ?_
            refine G.endOps ?_
            cases hF
            exact G.ret1 Try.results30 (RVar.tmp 2 _) ⟨rfl, trivial⟩ trivial
        · refine G.known (t := 22) hc5 rfl ?_
          refine G.opN1 rfl rfl rfl rfl rfl ?_
          refine G.opN1 rfl rfl rfl rfl rfl ?_
          refine G.opN1 rfl rfl rfl rfl rfl ?_
          refine G.opN1 rfl rfl rfl rfl rfl ?_
          refine G.opU rfl rfl rfl rfl ?_
          refine G.opU rfl rfl rfl rfl ?_
          refine G.opU rfl rfl rfl rfl ?_
          refine G.opN1 rfl rfl rfl rfl rfl ?_
          refine G.op1 (op_pickF (Ev.t 22 (bB false)) (Ev.c _ rfl) rfl) rfl ⟨rfl, trivial⟩ trivial ?_
          refine G.op1 (op_assign (Ev.t 31 (bB false)) rfl) rfl ⟨rfl, trivial⟩ trivial ?_
          refine G.endOps ?_
          cases hF
          exact G.ret1 Try.results30 (RVar.tmp 2 _) ⟨rfl, trivial⟩ trivial
      refine ifS hF (fun hc8 hF => ?_) (fun hc8 hF => ?_)
      · refine G.known (t := 16) hc8 rfl ?_
        refine G.opG1 (op_fieldP (off' := 1) Try.underlying43 rfl ti9 (by decide) rfl (Ev.t 1 (.ptr 1001 0)) rfl) rfl rfl rfl ⟨rfl, trivial⟩ trivial ?_
        refine G.opG1 (op_load1P (c := bS v_0.Value) Try.underlying9 rfl rfl (Ev.t 17 (.ptr 1001 1)) rfl) rfl rfl rfl ⟨rfl, trivial⟩ ⟨rfl, trivial⟩ ?_
        refine G.opG1 (op_lenS Try.underlying9 (Ev.t 18 (bS v_0.Value)) rfl) rfl rfl rfl ⟨rfl, trivial⟩ trivial ?_
        refine G.opG1 (op_leq (Ev.t 19 (bI .i64 (v_0.Value.size : Int))) (Ev.c _ rfl) rfl) rfl rfl rfl ⟨rfl, trivial⟩ trivial ?_
        refine G.op1 (op_pickT (Ev.t 16 (bB true)) (Ev.t 20 (bB (decide ((v_0.Value.size : Int) ≤ 32)))) rfl) rfl ⟨rfl, rfl, trivial⟩ trivial ?_
        exact G.arr (J7 (decide ((v_0.Value.size : Int) ≤ 32)) hF) ⟨rfl, rfl, trivial⟩ ⟨rfl, trivial⟩ rfl
      · refine G.known (t := 16) hc8 rfl ?_
        refine G.opN1 rfl rfl rfl rfl rfl ?_
        refine G.opN1 rfl rfl rfl rfl rfl ?_
        refine G.opN1 rfl rfl rfl rfl rfl ?_
        refine G.opN1 rfl rfl rfl rfl rfl ?_
        refine G.op1 (op_pickF (Ev.t 16 (bB false)) (Ev.c _ rfl) rfl) rfl ⟨rfl, trivial⟩ trivial ?_
        exact G.arr (J7 false hF) ⟨rfl, rfl, trivial⟩ ⟨rfl, trivial⟩ rfl
    refine ifS hF (fun hc10 hF => ?_) (fun hc10 hF => ?_)
    · refine G.known (t := 11) hc10 rfl ?_
      refine G.opG1 (op_fieldP (off' := 5) Try.underlying43 rfl ti41 (by decide) rfl (Ev.t 1 (.ptr 1001 0)) rfl) rfl rfl rfl ⟨rfl, trivial⟩ trivial ?_
      refine G.opG1 (op_load1P (c := .g (.d (.sl 3 (List.map encApi_Dep v_0.Past)))) Try.underlying41 rfl rfl (Ev.t 12 (.ptr 1001 5)) rfl) rfl rfl rfl ⟨rfl, trivial⟩ ⟨rfl, trivial⟩ ?_
      obtain ⟨r11, hr11, hF⟩ := bindS hF
      refine G.opG1 (op_callQ (sv := oB r11) cf50 (ct_past_Check v_0.Past r11 hr11) rfl rfl (EvQL.cons (EvQ.g (Ev.t 13 (.g (.d (.sl 3 (List.map encApi_Dep v_0.Past)))))) EvQL.nil) rfl) rfl rfl rfl ⟨rfl, trivial⟩ trivial ?_
      refine G.op1 (op_pickT (Ev.t 11 (bB true)) (Ev.t 14 (bB r11)) rfl) rfl ⟨rfl, rfl, trivial⟩ trivial ?_
      exact G.arr (J9 r11 hF) ⟨rfl, rfl, trivial⟩ ⟨rfl, trivial⟩ rfl
    · refine G.known (t := 11) hc10 rfl ?_
      refine G.opN1 rfl rfl rfl rfl rfl ?_
      refine G.opN1 rfl rfl rfl rfl rfl ?_
      refine G.opN1 rfl rfl rfl rfl rfl ?_
      refine G.op1 (op_pickF (Ev.t 11 (bB false)) (Ev.c _ rfl) rfl) rfl ⟨rfl, trivial⟩ trivial ?_
      exact G.arr (J9 false hF) ⟨rfl, rfl, trivial⟩ ⟨rfl, trivial⟩ rfl
  refine ifS hF (fun hc13 hF => ?_) (fun hc13 hF => ?_)
  · refine G.known (t := 6) hc13 rfl ?_
    refine G.opG1 (op_fieldP (off' := 3) Try.underlying43 rfl ti40 (by decide) rfl (Ev.t 1 (.ptr 1001 0)) rfl) rfl rfl rfl ⟨rfl, trivial⟩ trivial ?_
    refine G.opG1 (op_loadAP (ds := [vI v_0.Stamp.N, vI v_0.Stamp.Site]) Try.underlying40 rfl ti40 rfl (Ev.t 7 (.ptr 1001 3)) rfl) rfl rfl rfl ⟨rfl, trivial⟩ ⟨rfl, trivial⟩ ?_
    obtain ⟨r14, hr14, hF⟩ := bindS hF
    refine G.opG1 (op_callQ (sv := oB r14) cf49 (ct_stamp_Check v_0.Stamp r14 hr14) rfl rfl (EvQL.cons (EvQ.g (Ev.t 8 (.g (.agg [vI v_0.Stamp.N, vI v_0.Stamp.Site])))) EvQL.nil) rfl) rfl rfl rfl ⟨rfl, trivial⟩ trivial ?_
    refine G.op1 (op_pickT (Ev.t 6 (bB true)) (Ev.t 9 (bB r14)) rfl) rfl ⟨rfl, rfl, trivial⟩ trivial ?_
    exact G.arr (J12 r14 hF) ⟨rfl, rfl, trivial⟩ ⟨rfl, trivial⟩ rfl
  · refine G.known (t := 6) hc13 rfl ?_
    refine G.opN1 rfl rfl rfl rfl rfl ?_
    refine G.opN1 rfl rfl rfl rfl rfl ?_
    refine G.opN1 rfl rfl rfl rfl rfl ?_
    refine G.op1 (op_pickF (Ev.t 6 (bB false)) (Ev.c _ rfl) rfl) rfl ⟨rfl, trivial⟩ trivial ?_
    exact G.arr (J12 false hF) ⟨rfl, rfl, trivial⟩ ⟨rfl, trivial⟩ rfl


set_option maxRecDepth 20000 in
set_option maxHeartbeats 2000000 in
theorem ct_wire_Read (s_0 : ByteArray) (r : (Api_Version × Bool)) (hF : wire_Read s_0 = some r) : Ct Try.prog 10 [.g (.d (vS s_0))] (.tup [.agg (encApi_Version r.1), .d (vB r.2)]) := by
  unfold wire_Read at hF
  refine Ct.intro Try.func10 rfl Try.ntmps10 rfl rfl fun M w => ?_
  refine G.seq ?_
  refine G.region ?_
  refine G.op2 (op_alloc (k := 1002) (cs := [bS ByteArray.empty, bS ByteArray.empty, bB false, bI .i64 0, bI .i64 0, .g (.d (.sl 3 (List.map encApi_Dep ([] : (List Api_Dep)))))]) ti43 ⟨.v _ rfl, .v _ rfl, .v _ rfl, .v _ rfl, .v _ rfl, .n 3, trivial⟩ rfl) rfl trivial ⟨rfl, trivial⟩ ?_
  refine G.op1 (op_assign (Ev.c _ rfl) rfl) rfl trivial trivial ?_
  refine G.endOps ?_
  refine G.seq ?_
  refine G.region ?_
  refine G.op1 (op_move (Ev.t 0 (bS s_0)) rfl) rfl ⟨rfl, trivial⟩ trivial ?_
  refine G.op1 (op_build (zs := [vS ByteArray.empty, vI 0, vB false]) (ds := [vS s_0, vI 0, vB false]) Try.underlying53 ti53 (pl53 _ Try.underlying53) ⟨.v _ rfl, .v _ rfl, .v _ rfl, trivial⟩ (EvP.cons (Ev.t 12 (bS s_0)) EvP.nil) rfl rfl) rfl ⟨rfl, trivial⟩ trivial ?_
  refine G.op2 (op_boxA (k := 1014) (Ev.t 13 (.g (.agg [vS s_0, vI 0, vB false]))) rfl) rfl ⟨rfl, trivial⟩ ⟨rfl, trivial⟩ ?_
  refine G.op1 (op_assign (Ev.t 14 (.ptr 1014 0)) rfl) rfl ⟨rfl, trivial⟩ trivial ?_
  refine G.endOps ?_
  refine G.seq ?_
  refine G.region ?_
  refine G.op1 (op_move (Ev.t 4 (.ptr 1014 0)) rfl) rfl ⟨rfl, trivial⟩ trivial ?_
  obtain ⟨r1, hr1, hF⟩ := bindS hF
  refine G.opM (op_callM (k := 1014) (h := .dat 53 (encWire_reader (Wire_reader.mk s_0 0 false))) (h' := .dat 53 (encWire_reader r1.1)) 0 (sv := oS r1.2) cf18 (ct_wire_reader_text (Wire_reader.mk s_0 0 false) 32 r1 hr1) rfl rfl (EvM.pt (Ev.t 15 (.ptr 1014 0)) (EvM.g (Ev.c _ rfl) EvM.nil)) rfl) rfl ⟨rfl, trivial⟩ ⟨rfl, trivial⟩ ?_
  refine G.op1 (op_build (zs := [vS ByteArray.empty, vS ByteArray.empty, vB false, vI 0, vI 0, .sl 3 (List.map encApi_Dep ([] : (List Api_Dep)))]) (ds := [vS r1.2, vS ByteArray.empty, vB false, vI 0, vI 0, .sl 3 (List.map encApi_Dep ([] : (List Api_Dep)))]) Try.underlying43 ti43 (pl43 _ Try.underlying43) ⟨.v _ rfl, .v _ rfl, .v _ rfl, .v _ rfl, .v _ rfl, .n 3, trivial⟩ (EvP.cons (Ev.t 16 (bS r1.2)) EvP.nil) rfl rfl) rfl ⟨rfl, trivial⟩ trivial ?_
  refine G.op2 (op_alloc (k := 1005) (cs := [bS ByteArray.empty, bS ByteArray.empty, bB false, bI .i64 0, bI .i64 0, .g (.d (.sl 3 (List.map encApi_Dep ([] : (List Api_Dep)))))]) ti43 ⟨.v _ rfl, .v _ rfl, .v _ rfl, .v _ rfl, .v _ rfl, .n 3, trivial⟩ rfl) rfl trivial ⟨rfl, trivial⟩ ?_
  refine G.op3 (op_storeA (cs' := [bS r1.2, bS ByteArray.empty, bB false, bI .i64 0, bI .i64 0, .g (.d (.sl 3 (List.map encApi_Dep ([] : (List Api_Dep)))))]) ti43 rfl rfl (Ev.t 5 (.ptr 1005 0)) (Ev.t 17 (.g (.agg [vS r1.2, vS ByteArray.empty, vB false, vI 0, vI 0, .sl 3 (List.map encApi_Dep ([] : (List Api_Dep)))])))) rfl ⟨rfl, rfl, trivial⟩ ⟨rfl, trivial⟩ ?_
  refine G.endOps ?_
  refine G.seq ?_
  refine G.seq ?_
  refine G.region ?_
  refine G.op1 (op_move (Ev.t 4 (.ptr 1014 0)) rfl) rfl ⟨rfl, trivial⟩ trivial ?_
  refine G.op1 (op_nilCheckP (Ev.t 18 (.ptr 1014 0)) rfl) rfl ⟨rfl, trivial⟩ trivial ?_
  refine G.op1 (op_fieldP (off' := 2) Try.underlying53 rfl ti4 (by decide) rfl (Ev.t 19 (.ptr 1014 0)) rfl) rfl ⟨rfl, trivial⟩ trivial ?_
  refine G.op1 (op_load1P (c := bB r1.1.bad) Try.underlying4 rfl rfl (Ev.t 20 (.ptr 1014 2)) rfl) rfl ⟨rfl, trivial⟩ ⟨rfl, trivial⟩ ?_
  refine G.endOps ?_
  refine ifS hF (fun hc2 hF => ?_) (fun hc2 hF => ?_)
  · refine G.cond rfl (fun _ => ?_) (fun hx => by rw [hc2] at hx; cases hx)
    refine G.seq ?_
    refine G.region ?_
    refine G.op1 (op_build (zs := [vS ByteArray.empty, vS ByteArray.empty, vB false, vI 0, vI 0, .sl 3 (List.map encApi_Dep ([] : (List Api_Dep)))]) (ds := [vS ByteArray.empty, vS ByteArray.empty, vB false, vI 0, vI 0, .sl 3 (List.map encApi_Dep ([] : (List Api_Dep)))]) Try.underlying43 ti43 (pl43 _ Try.underlying43) ⟨.v _ rfl, .v _ rfl, .v _ rfl, .v _ rfl, .v _ rfl, .n 3, trivial⟩ EvP.nil rfl rfl) rfl trivial trivial ?_
    refine G.op3 (op_storeA (cs' := [bS ByteArray.empty, bS ByteArray.empty, bB false, bI .i64 0, bI .i64 0, .g (.d (.sl 3 (List.map encApi_Dep ([] : (List Api_Dep)))))]) ti43 rfl rfl (Ev.t 2 (.ptr 1002 0)) (Ev.t 22 (.g (.agg [vS ByteArray.empty, vS ByteArray.empty, vB false, vI 0, vI 0, .sl 3 (List.map encApi_Dep ([] : (List Api_Dep)))])))) rfl ⟨rfl, rfl, trivial⟩ ⟨rfl, trivial⟩ ?_
    refine G.op1 (op_assign (Ev.c _ rfl) rfl) rfl trivial trivial ?_
    refine G.endOps ?_
    cases hF
    exact G.ret2 Try.results10 (RVar.cellA (ds := [vS ByteArray.empty, vS ByteArray.empty, vB false, vI 0, vI 0, .sl 3 (List.map encApi_Dep ([] : (List Api_Dep)))]) Try.underlying43 rfl ti43 rfl) (RVar.tmp 3 _) ⟨rfl, rfl, trivial⟩ ⟨rfl, trivial⟩
  · refine G.cond rfl (fun hx => by rw [hc2] at hx; cases hx) (fun _ => ?_)
    refine G.skip ?_
    refine G.seq ?_
    refine G.region ?_
    refine G.op1 (op_move (Ev.t 4 (.ptr 1014 0)) rfl) rfl ⟨rfl, trivial⟩ trivial ?_
    obtain ⟨r3, hr3, hF⟩ := bindS hF
    refine G.opM (op_callM (k := 1014) (h := .dat 53 (encWire_reader r1.1)) (h' := .dat 53 (encWire_reader r3.1)) 0 (sv := oI r3.2) cf17 (ct_wire_reader_number r1.1 1 r3 hr3) rfl rfl (EvM.pt (Ev.t 23 (.ptr 1014 0)) (EvM.g (Ev.c _ rfl) EvM.nil)) rfl) rfl ⟨rfl, trivial⟩ ⟨rfl, trivial⟩ ?_
    refine G.op1 (op_eqI (Ev.t 24 (bI .i64 r3.2)) (Ev.c _ rfl) rfl) rfl ⟨rfl, trivial⟩ trivial ?_
    refine G.op1 (op_fieldP (off' := 2) Try.underlying43 rfl ti4 (by decide) rfl (Ev.t 5 (.ptr 1005 0)) rfl) rfl ⟨rfl, trivial⟩ trivial ?_
    refine G.op3 (op_store1 (cs' := [bS r1.2, bS ByteArray.empty, bB (decide (r3.2 = 1)), bI .i64 0, bI .i64 0, .g (.d (.sl 3 (List.map encApi_Dep ([] : (List Api_Dep)))))]) (c := bB (decide (r3.2 = 1))) trivial ti4 rfl rfl (Ev.t 26 (.ptr 1005 2)) (Ev.t 25 (bB (decide (r3.2 = 1))))) rfl ⟨rfl, rfl, trivial⟩ ⟨rfl, trivial⟩ ?_
    refine G.endOps ?_
    refine G.seq ?_
    refine G.seq ?_
    refine G.region ?_
    refine G.op1 (op_move (Ev.t 4 (.ptr 1014 0)) rfl) rfl ⟨rfl, trivial⟩ trivial ?_
    refine G.op1 (op_nilCheckP (Ev.t 27 (.ptr 1014 0)) rfl) rfl ⟨rfl, trivial⟩ trivial ?_
    refine G.op1 (op_fieldP (off' := 2) Try.underlying53 rfl ti4 (by decide) rfl (Ev.t 28 (.ptr 1014 0)) rfl) rfl ⟨rfl, trivial⟩ trivial ?_
    refine G.op1 (op_load1P (c := bB r3.1.bad) Try.underlying4 rfl rfl (Ev.t 29 (.ptr 1014 2)) rfl) rfl ⟨rfl, trivial⟩ ⟨rfl, trivial⟩ ?_
    refine G.endOps ?_
    refine ifS hF (fun hc4 hF => ?_) (fun hc4 hF => ?_)
    · refine G.cond rfl (fun _ => ?_) (fun hx => by rw [hc4] at hx; cases hx)
      refine G.seq ?_
      refine G.region ?_
      refine G.op1 (op_build (zs := [vS ByteArray.empty, vS ByteArray.empty, vB false, vI 0, vI 0, .sl 3 (List.map encApi_Dep ([] : (List Api_Dep)))]) (ds := [vS ByteArray.empty, vS ByteArray.empty, vB false, vI 0, vI 0, .sl 3 (List.map encApi_Dep ([] : (List Api_Dep)))]) Try.underlying43 ti43 (pl43 _ Try.underlying43) ⟨.v _ rfl, .v _ rfl, .v _ rfl, .v _ rfl, .v _ rfl, .n 3, trivial⟩ EvP.nil rfl rfl) rfl trivial trivial ?_
      refine G.op3 (op_storeA (cs' := [bS ByteArray.empty, bS ByteArray.empty, bB false, bI .i64 0, bI .i64 0, .g (.d (.sl 3 (List.map encApi_Dep ([] : (List Api_Dep)))))]) ti43 rfl rfl (Ev.t 2 (.ptr 1002 0)) (Ev.t 31 (.g (.agg [vS ByteArray.empty, vS ByteArray.empty, vB false, vI 0, vI 0, .sl 3 (List.map encApi_Dep ([] : (List Api_Dep)))])))) rfl ⟨rfl, rfl, trivial⟩ ⟨rfl, trivial⟩ ?_
      refine G.op1 (op_assign (Ev.c _ rfl) rfl) rfl trivial trivial ?_
      refine G.endOps ?_
      cases hF
      exact G.ret2 Try.results10 (RVar.cellA (ds := [vS ByteArray.empty, vS ByteArray.empty, vB false, vI 0, vI 0, .sl 3 (List.map encApi_Dep ([] : (List Api_Dep)))]) Try.underlying43 rfl ti43 rfl) (RVar.tmp 3 _) ⟨rfl, rfl, trivial⟩ ⟨rfl, trivial⟩
    · refine G.cond rfl (fun hx => by rw [hc4] at hx; cases hx) (fun _ => ?_)
      refine G.skip ?_
      refine G.seq ?_
      refine G.region ?_
      refine G.op1 (op_move (Ev.t 4 (.ptr 1014 0)) rfl) rfl ⟨rfl, trivial⟩ trivial ?_
      obtain ⟨r5, hr5, hF⟩ := bindS hF
      refine G.opM (op_callM (k := 1014) (h := .dat 53 (encWire_reader r3.1)) (h' := .dat 53 (encWire_reader r5.1)) 0 (sv := oS r5.2) cf18 (ct_wire_reader_text r3.1 32 r5 hr5) rfl rfl (EvM.pt (Ev.t 32 (.ptr 1014 0)) (EvM.g (Ev.c _ rfl) EvM.nil)) rfl) rfl ⟨rfl, trivial⟩ ⟨rfl, trivial⟩ ?_
      refine G.op1 (op_fieldP (off' := 1) Try.underlying43 rfl ti9 (by decide) rfl (Ev.t 5 (.ptr 1005 0)) rfl) rfl ⟨rfl, trivial⟩ trivial ?_
      refine G.op3 (op_store1 (cs' := [bS r1.2, bS r5.2, bB (decide (r3.2 = 1)), bI .i64 0, bI .i64 0, .g (.d (.sl 3 (List.map encApi_Dep ([] : (List Api_Dep)))))]) (c := bS r5.2) trivial ti9 rfl rfl (Ev.t 34 (.ptr 1005 1)) (Ev.t 33 (bS r5.2))) rfl ⟨rfl, rfl, trivial⟩ ⟨rfl, trivial⟩ ?_
      refine G.endOps ?_
      refine G.seq ?_
      refine G.seq ?_
      refine G.region ?_
      refine G.op1 (op_move (Ev.t 4 (.ptr 1014 0)) rfl) rfl ⟨rfl, trivial⟩ trivial ?_
      refine G.op1 (op_nilCheckP (Ev.t 35 (.ptr 1014 0)) rfl) rfl ⟨rfl, trivial⟩ trivial ?_
      refine G.op1 (op_fieldP (off' := 2) Try.underlying53 rfl ti4 (by decide) rfl (Ev.t 36 (.ptr 1014 0)) rfl) rfl ⟨rfl, trivial⟩ trivial ?_
      refine G.op1 (op_load1P (c := bB r5.1.bad) Try.underlying4 rfl rfl (Ev.t 37 (.ptr 1014 2)) rfl) rfl ⟨rfl, trivial⟩ ⟨rfl, trivial⟩ ?_
      refine G.endOps ?_
      refine ifS hF (fun hc6 hF => ?_) (fun hc6 hF => ?_)
      · refine G.cond rfl (fun _ => ?_) (fun hx => by rw [hc6] at hx; cases hx)
        refine G.seq ?_
        refine G.region ?_
        refine G.op1 (op_build (zs := [vS ByteArray.empty, vS ByteArray.empty, vB false, vI 0, vI 0, .sl 3 (List.map encApi_Dep ([] : (List Api_Dep)))]) (ds := [vS ByteArray.empty, vS ByteArray.empty, vB false, vI 0, vI 0, .sl 3 (List.map encApi_Dep ([] : (List Api_Dep)))]) Try.underlying43 ti43 (pl43 _ Try.underlying43) ⟨.v _ rfl, .v _ rfl, .v _ rfl, .v _ rfl, .v _ rfl, .n 3, trivial⟩ EvP.nil rfl rfl) rfl trivial trivial ?_
        refine G.op3 (op_storeA (cs' := [bS ByteArray.empty, bS ByteArray.empty, bB false, bI .i64 0, bI .i64 0, .g (.d (.sl 3 (List.map encApi_Dep ([] : (List Api_Dep)))))]) ti43 rfl rfl (Ev.t 2 (.ptr 1002 0)) (Ev.t 39 (.g (.agg [vS ByteArray.empty, vS ByteArray.empty, vB false, vI 0, vI 0, .sl 3 (List.map encApi_Dep ([] : (List Api_Dep)))])))) rfl ⟨rfl, rfl, trivial⟩ ⟨rfl, trivial⟩ ?_
        refine G.op1 (op_assign (Ev.c _ rfl) rfl) rfl trivial trivial ?_
        refine G.endOps ?_
        cases hF
        exact G.ret2 Try.results10 (RVar.cellA (ds := [vS ByteArray.empty, vS ByteArray.empty, vB false, vI 0, vI 0, .sl 3 (List.map encApi_Dep ([] : (List Api_Dep)))]) Try.underlying43 rfl ti43 rfl) (RVar.tmp 3 _) ⟨rfl, rfl, trivial⟩ ⟨rfl, trivial⟩
      · refine G.cond rfl (fun hx => by rw [hc6] at hx; cases hx) (fun _ => ?_)
        refine G.skip ?_
        refine G.seq ?_
        refine G.region ?_
        refine G.op1 (op_move (Ev.t 0 (bS s_0)) rfl) rfl ⟨rfl, trivial⟩ trivial ?_
        refine G.op1 (op_move (Ev.t 4 (.ptr 1014 0)) rfl) rfl ⟨rfl, trivial⟩ trivial ?_
        refine G.op1 (op_nilCheckP (Ev.t 42 (.ptr 1014 0)) rfl) rfl ⟨rfl, trivial⟩ trivial ?_
        refine G.op1 (op_fieldP (off' := 1) Try.underlying53 rfl ti3 (by decide) rfl (Ev.t 43 (.ptr 1014 0)) rfl) rfl ⟨rfl, trivial⟩ trivial ?_
        refine G.op1 (op_load1P (c := bI .i64 r5.1.at_) Try.underlying3 rfl rfl (Ev.t 44 (.ptr 1014 1)) rfl) rfl ⟨rfl, trivial⟩ ⟨rfl, trivial⟩ ?_
        obtain ⟨r7, hr7, hF⟩ := bindS hF
        refine G.op1 (op_callQ (sv := .tup [.g (.agg [vI r7.1.N, vI r7.1.Site]), bI .i64 r7.2.1, bB r7.2.2]) cf27 (ct_stamp_Read s_0 r5.1.at_ r7 hr7) rfl rfl (EvQL.cons (EvQ.g (Ev.t 41 (bS s_0))) (EvQL.cons (EvQ.g (Ev.t 45 (bI .i64 r5.1.at_))) EvQL.nil)) rfl) rfl ⟨rfl, rfl, trivial⟩ trivial ?_
        refine G.op1 (op_moveS (t := 46) (sv := .tup [.g (.agg [vI r7.1.N, vI r7.1.Site]), bI .i64 r7.2.1, bB r7.2.2]) rfl) rfl ⟨rfl, trivial⟩ trivial ?_
        refine G.op1 (op_extract (l := [.g (.agg [vI r7.1.N, vI r7.1.Site]), bI .i64 r7.2.1, bB r7.2.2]) (c := .g (.agg [vI r7.1.N, vI r7.1.Site])) rfl rfl) rfl ⟨rfl, trivial⟩ trivial ?_
        refine G.op1 (op_extract (l := [.g (.agg [vI r7.1.N, vI r7.1.Site]), bI .i64 r7.2.1, bB r7.2.2]) (c := bI .i64 r7.2.1) rfl rfl) rfl ⟨rfl, trivial⟩ trivial ?_
        refine G.op1 (op_extract (l := [.g (.agg [vI r7.1.N, vI r7.1.Site]), bI .i64 r7.2.1, bB r7.2.2]) (c := bB r7.2.2) rfl rfl) rfl ⟨rfl, trivial⟩ trivial ?_
        refine G.op2 (op_alloc (k := 1006) (cs := [bI .i64 0, bI .i64 0]) ti40 ⟨.v _ rfl, .v _ rfl, trivial⟩ rfl) rfl trivial ⟨rfl, trivial⟩ ?_
        refine G.op3 (op_storeA (cs' := [bI .i64 r7.1.N, bI .i64 r7.1.Site]) ti40 rfl rfl (Ev.t 6 (.ptr 1006 0)) (Ev.t 47 (.g (.agg [vI r7.1.N, vI r7.1.Site])))) rfl ⟨rfl, rfl, trivial⟩ ⟨rfl, trivial⟩ ?_
        refine G.op1 (op_assign (Ev.t 48 (bI .i64 r7.2.1)) rfl) rfl ⟨rfl, trivial⟩ trivial ?_
        refine G.op1 (op_assign (Ev.t 49 (bB r7.2.2)) rfl) rfl ⟨rfl, trivial⟩ trivial ?_
        refine G.endOps ?_
        refine G.seq ?_
        refine G.region ?_
        refine G.op1 (op_move (Ev.t 0 (bS s_0)) rfl) rfl ⟨rfl, trivial⟩ trivial ?_
        refine G.op1 (op_move (Ev.t 7 (bI .i64 r7.2.1)) rfl) rfl ⟨rfl, trivial⟩ trivial ?_
        obtain ⟨r8, hr8, hF⟩ := bindS hF
        refine G.op1 (op_call (sv := .tup [.g (.d (.sl 3 (List.map encApi_Dep r8.1))), bI .i64 r8.2.1, bB r8.2.2]) cf28 (ct_past_Read s_0 r7.2.1 r8 hr8) rfl (EvL.cons (Ev.t 51 (bS s_0)) (EvL.cons (Ev.t 52 (bI .i64 r7.2.1)) EvL.nil)) rfl) rfl ⟨rfl, rfl, trivial⟩ trivial ?_
        refine G.op1 (op_moveS (t := 53) (sv := .tup [.g (.d (.sl 3 (List.map encApi_Dep r8.1))), bI .i64 r8.2.1, bB r8.2.2]) rfl) rfl ⟨rfl, trivial⟩ trivial ?_
        refine G.op1 (op_extract (l := [.g (.d (.sl 3 (List.map encApi_Dep r8.1))), bI .i64 r8.2.1, bB r8.2.2]) (c := .g (.d (.sl 3 (List.map encApi_Dep r8.1)))) rfl rfl) rfl ⟨rfl, trivial⟩ trivial ?_
        refine G.op1 (op_extract (l := [.g (.d (.sl 3 (List.map encApi_Dep r8.1))), bI .i64 r8.2.1, bB r8.2.2]) (c := bI .i64 r8.2.1) rfl rfl) rfl ⟨rfl, trivial⟩ trivial ?_
        refine G.op1 (op_extract (l := [.g (.d (.sl 3 (List.map encApi_Dep r8.1))), bI .i64 r8.2.1, bB r8.2.2]) (c := bB r8.2.2) rfl rfl) rfl ⟨rfl, trivial⟩ trivial ?_
        refine G.op1 (op_assign (Ev.t 54 (.g (.d (.sl 3 (List.map encApi_Dep r8.1))))) rfl) rfl ⟨rfl, trivial⟩ trivial ?_
        refine G.op1 (op_assign (Ev.t 55 (bI .i64 r8.2.1)) rfl) rfl ⟨rfl, trivial⟩ trivial ?_
        refine G.op1 (op_assign (Ev.t 56 (bB r8.2.2)) rfl) rfl ⟨rfl, trivial⟩ trivial ?_
        refine G.endOps ?_
        refine G.seq ?_
        refine G.region ?_
        refine G.op1 (op_loadAP (ds := [vI r7.1.N, vI r7.1.Site]) Try.underlying40 rfl ti40 rfl (Ev.t 6 (.ptr 1006 0)) rfl) rfl ⟨rfl, trivial⟩ ⟨rfl, trivial⟩ ?_
        refine G.op1 (op_move (Ev.t 9 (.g (.d (.sl 3 (List.map encApi_Dep r8.1))))) rfl) rfl ⟨rfl, trivial⟩ trivial ?_
        refine G.op1 (op_fieldP (off' := 3) Try.underlying43 rfl ti40 (by decide) rfl (Ev.t 5 (.ptr 1005 0)) rfl) rfl ⟨rfl, trivial⟩ trivial ?_
        refine G.op3 (op_storeA (cs' := [bS r1.2, bS r5.2, bB (decide (r3.2 = 1)), bI .i64 r7.1.N, bI .i64 r7.1.Site, .g (.d (.sl 3 (List.map encApi_Dep ([] : (List Api_Dep)))))]) ti40 rfl rfl (Ev.t 59 (.ptr 1005 3)) (Ev.t 57 (.g (.agg [vI r7.1.N, vI r7.1.Site])))) rfl ⟨rfl, rfl, trivial⟩ ⟨rfl, trivial⟩ ?_
        refine G.op1 (op_fieldP (off' := 5) Try.underlying43 rfl ti41 (by decide) rfl (Ev.t 5 (.ptr 1005 0)) rfl) rfl ⟨rfl, trivial⟩ trivial ?_
        refine G.op3 (op_store1 (cs' := [bS r1.2, bS r5.2, bB (decide (r3.2 = 1)), bI .i64 r7.1.N, bI .i64 r7.1.Site, .g (.d (.sl 3 (List.map encApi_Dep r8.1)))]) (c := .g (.d (.sl 3 (List.map encApi_Dep r8.1)))) trivial ti41 rfl rfl (Ev.t 60 (.ptr 1005 5)) (Ev.t 58 (.g (.d (.sl 3 (List.map encApi_Dep r8.1)))))) rfl ⟨rfl, rfl, trivial⟩ ⟨rfl, trivial⟩ ?_
        refine G.endOps ?_
        refine G.seq ?_
        refine G.joinC (T := ByteArray × Int × Bool) (fun y9 => ⟨[(2, .one (.ptr 1002 0)), (4, .one (.ptr 1014 0)), (5, .one (.ptr 1005 0))], [(1002, some (.blk 43 [bS ByteArray.empty, bS ByteArray.empty, bB false, bI .i64 0, bI .i64 0, .g (.d (.sl 3 (List.map encApi_Dep ([] : (List Api_Dep)))))])), (1005, some (.blk 43 [bS r1.2, bS r5.2, bB (decide (r3.2 = 1)), bI .i64 r7.1.N, bI .i64 r7.1.Site, .g (.d (.sl 3 (List.map encApi_Dep r8.1)))])), (1014, some (.blk 53 [bS y9.1, bI .i64 y9.2.1, bB y9.2.2]))]⟩) (fun y9 => wire_Read_k1 r1 r3 r5 r7 r8 y9 = some r) (fun y9 hF => ?_) (fun J16 => ?_)
        · unfold wire_Read_k1 at hF
          refine G.seq ?_
          refine G.seq ?_
          refine G.joinC (T := Bool) (fun y10 => ⟨[(2, .one (.ptr 1002 0)), (5, .one (.ptr 1005 0)), (75, oB y10)], [(1002, some (.blk 43 [bS ByteArray.empty, bS ByteArray.empty, bB false, bI .i64 0, bI .i64 0, .g (.d (.sl 3 (List.map encApi_Dep ([] : (List Api_Dep)))))])), (1005, some (.blk 43 [bS r1.2, bS r5.2, bB (decide (r3.2 = 1)), bI .i64 r7.1.N, bI .i64 r7.1.Site, .g (.d (.sl 3 (List.map encApi_Dep r8.1)))]))]⟩) (fun y10 => wire_Read_k2 r1 r3 r5 r7 r8 y10 = some r) (fun y10 hF => ?_) (fun J12 => ?_)
          · unfold wire_Read_k2 at hF
            refine ifS hF (fun hc11 hF => ?_) (fun hc11 hF => ?_)
            · refine G.cond rfl (fun _ => ?_) (fun hx => by rw [hc11] at hx; cases hx)
              refine G.seq ?_
              refine G.region ?_
              refine G.op1 (op_build (zs := [vS ByteArray.empty, vS ByteArray.empty, vB false, vI 0, vI 0, .sl 3 (List.map encApi_Dep ([] : (List Api_Dep)))]) (ds := [vS ByteArray.empty, vS ByteArray.empty, vB false, vI 0, vI 0, .sl 3 (List.map encApi_Dep ([] : (List Api_Dep)))]) Try.underlying43 ti43 (pl43 _ Try.underlying43) ⟨.v _ rfl, .v _ rfl, .v _ rfl, .v _ rfl, .v _ rfl, .n 3, trivial⟩ EvP.nil rfl rfl) rfl trivial trivial ?_
              refine G.op3 (op_storeA (cs' := [bS ByteArray.empty, bS ByteArray.empty, bB false, bI .i64 0, bI .i64 0, .g (.d (.sl 3 (List.map encApi_Dep ([] : (List Api_Dep)))))]) ti43 rfl rfl (Ev.t 2 (.ptr 1002 0)) (Ev.t 76 (.g (.agg [vS ByteArray.empty, vS ByteArray.empty, vB false, vI 0, vI 0, .sl 3 (List.map encApi_Dep ([] : (List Api_Dep)))])))) rfl ⟨rfl, rfl, trivial⟩ ⟨rfl, trivial⟩ ?_
              refine G.op1 (op_assign (Ev.c _ rfl) rfl) rfl trivial trivial ?_
              refine G.endOps ?_
              cases hF
              exact G.ret2 Try.results10 (RVar.cellA (ds := [vS ByteArray.empty, vS ByteArray.empty, vB false, vI 0, vI 0, .sl 3 (List.map encApi_Dep ([] : (List Api_Dep)))]) Try.underlying43 rfl ti43 rfl) (RVar.tmp 3 _) ⟨rfl, rfl, trivial⟩ ⟨rfl, trivial⟩
            · refine G.cond rfl (fun hx => by rw [hc11] at hx; cases hx) (fun _ => ?_)
              refine G.skip ?_
              refine G.seq ?_
              refine G.region ?_
              refine G.op1 (op_loadAP (ds := [vS r1.2, vS r5.2, vB (decide (r3.2 = 1)), vI r7.1.N, vI r7.1.Site, .sl 3 (List.map encApi_Dep r8.1)]) Try.underlying43 rfl ti43 rfl (Ev.t 5 (.ptr 1005 0)) rfl) rfl ⟨rfl, trivial⟩ ⟨rfl, trivial⟩ ?_
              refine G.op3 (op_storeA (cs' := [bS r1.2, bS r5.2, bB (decide (r3.2 = 1)), bI .i64 r7.1.N, bI .i64 r7.1.Site, .g (.d (.sl 3 (List.map encApi_Dep r8.1)))]) ti43 rfl rfl (Ev.t 2 (.ptr 1002 0)) (Ev.t 77 (.g (.agg [vS r1.2, vS r5.2, vB (decide (r3.2 = 1)), vI r7.1.N, vI r7.1.Site, .sl 3 (List.map encApi_Dep r8.1)])))) rfl ⟨rfl, rfl, trivial⟩ ⟨rfl, trivial⟩ ?_
              refine G.op1 (op_assign (Ev.c _ rfl) rfl) rfl trivial trivial ?_
              refine G.endOps ?_
              cases hF
              exact G.ret2 Try.results10 (RVar.cellA (ds := [vS r1.2, vS r5.2, vB (decide (r3.2 = 1)), vI r7.1.N, vI r7.1.Site, .sl 3 (List.map encApi_Dep r8.1)]) Try.underlying43 rfl ti43 rfl) (RVar.tmp 3 _) ⟨rfl, rfl, trivial⟩ ⟨rfl, trivial⟩
          refine G.region ?_
          refine G.op1 (op_move (Ev.t 4 (.ptr 1014 0)) rfl) rfl ⟨rfl, trivial⟩ trivial ?_
          obtain ⟨r13, hr13, hF⟩ := bindS hF
          refine G.opM (op_callM (k := 1014) (h := .dat 53 (encWire_reader (Wire_reader.mk y9.1 y9.2.1 y9.2.2))) (h' := .dat 53 (encWire_reader r13.1)) 0 (sv := oB r13.2) cf20 (ct_wire_reader_done (Wire_reader.mk y9.1 y9.2.1 y9.2.2) r13 hr13) rfl rfl (EvM.pt (Ev.t 68 (.ptr 1014 0)) EvM.nil) rfl) rfl ⟨rfl, trivial⟩ ⟨rfl, trivial⟩ ?_
          refine G.op1 (op_not (Ev.t 69 (bB r13.2)) rfl) rfl ⟨rfl, trivial⟩ trivial ?_
          refine G.op1 (op_move (Ev.t 70 (bB (!r13.2))) rfl) rfl ⟨rfl, trivial⟩ trivial ?_
          refine ifS hF (fun hc14 hF => ?_) (fun hc14 hF => ?_)
          · refine G.known (t := 71) hc14 rfl ?_
            refine G.opN1 rfl rfl rfl rfl rfl ?_
            refine G.opN1 rfl rfl rfl rfl rfl ?_
            refine G.opN1 rfl rfl rfl rfl rfl ?_
            refine G.op1 (op_pickT (Ev.t 71 (bB true)) (Ev.c _ rfl) rfl) rfl ⟨rfl, trivial⟩ trivial ?_
            refine G.endOps ?_
            exact G.arr (J12 true hF) ⟨rfl, rfl, rfl, trivial⟩ ⟨rfl, rfl, trivial⟩ rfl
          · refine G.known (t := 71) hc14 rfl ?_
            refine G.opG1 (op_loadAP (ds := [vS r1.2, vS r5.2, vB (decide (r3.2 = 1)), vI r7.1.N, vI r7.1.Site, .sl 3 (List.map encApi_Dep r8.1)]) Try.underlying43 rfl ti43 rfl (Ev.t 5 (.ptr 1005 0)) rfl) rfl rfl rfl ⟨rfl, trivial⟩ ⟨rfl, trivial⟩ ?_
            obtain ⟨r15, hr15, hF⟩ := bindS hF
            refine G.opG1 (op_callQ (sv := oB r15) cf30 (ct_wire_Check (Api_Version.mk r1.2 r5.2 (decide (r3.2 = 1)) r7.1 r8.1) r15 hr15) rfl rfl (EvQL.cons (EvQ.g (Ev.t 72 (.g (.agg [vS r1.2, vS r5.2, vB (decide (r3.2 = 1)), vI r7.1.N, vI r7.1.Site, .sl 3 (List.map encApi_Dep r8.1)])))) EvQL.nil) rfl) rfl rfl rfl ⟨rfl, trivial⟩ trivial ?_
            refine G.opG1 (op_not (Ev.t 73 (bB r15)) rfl) rfl rfl rfl ⟨rfl, trivial⟩ trivial ?_
            refine G.op1 (op_pickF (Ev.t 71 (bB false)) (Ev.t 74 (bB (!r15))) rfl) rfl ⟨rfl, rfl, trivial⟩ trivial ?_
            refine G.endOps ?_
            exact G.arr (J12 (!r15) hF) ⟨rfl, rfl, rfl, trivial⟩ ⟨rfl, rfl, trivial⟩ rfl
        refine G.region ?_
        refine G.op1 (op_move (Ev.t 4 (.ptr 1014 0)) rfl) rfl ⟨rfl, trivial⟩ trivial ?_
        refine G.op1 (op_move (Ev.t 10 (bI .i64 r8.2.1)) rfl) rfl ⟨rfl, trivial⟩ trivial ?_
        refine G.op1 (op_move (Ev.t 8 (bB r7.2.2)) rfl) rfl ⟨rfl, trivial⟩ trivial ?_
        refine G.op1 (op_move (Ev.t 63 (bB r7.2.2)) rfl) rfl ⟨rfl, trivial⟩ trivial ?_
        refine ifS hF (fun hc17 hF => ?_) (fun hc17 hF => ?_)
        · refine G.known (t := 64) hc17 rfl ?_
          refine G.opG1 (op_move (Ev.t 11 (bB r8.2.2)) rfl) rfl rfl rfl ⟨rfl, trivial⟩ trivial ?_
          refine G.op1 (op_pickT (Ev.t 64 (bB true)) (Ev.t 65 (bB r8.2.2)) rfl) rfl ⟨rfl, rfl, trivial⟩ trivial ?_
          obtain ⟨r18, hr18, hF⟩ := bindS hF
          refine G.opM (op_callM (k := 1014) (h := .dat 53 (encWire_reader r5.1)) (h' := .dat 53 (encWire_reader r18)) 0 (sv := .tup []) cf29 (ct_wire_reader_moves r5.1 r8.2.1 r8.2.2 r18 hr18) rfl rfl (EvM.pt (Ev.t 61 (.ptr 1014 0)) (EvM.g (Ev.t 62 (bI .i64 r8.2.1)) (EvM.g (Ev.t 66 (bB r8.2.2)) EvM.nil))) rfl) rfl ⟨rfl, rfl, rfl, trivial⟩ ⟨rfl, trivial⟩ ?_
          refine G.endOps ?_
          exact G.arr (J16 (r18.s, r18.at_, r18.bad) hF) ⟨rfl, rfl, rfl, trivial⟩ ⟨rfl, rfl, rfl, trivial⟩ rfl
        · refine G.known (t := 64) hc17 rfl ?_
          refine G.opN1 rfl rfl rfl rfl rfl ?_
          refine G.op1 (op_pickF (Ev.t 64 (bB false)) (Ev.c _ rfl) rfl) rfl ⟨rfl, trivial⟩ trivial ?_
          obtain ⟨r19, hr19, hF⟩ := bindS hF
          refine G.opM (op_callM (k := 1014) (h := .dat 53 (encWire_reader r5.1)) (h' := .dat 53 (encWire_reader r19)) 0 (sv := .tup []) cf29 (ct_wire_reader_moves r5.1 r8.2.1 false r19 hr19) rfl rfl (EvM.pt (Ev.t 61 (.ptr 1014 0)) (EvM.g (Ev.t 62 (bI .i64 r8.2.1)) (EvM.g (Ev.t 66 (bB false)) EvM.nil))) rfl) rfl ⟨rfl, rfl, rfl, trivial⟩ ⟨rfl, trivial⟩ ?_
          refine G.endOps ?_
          exact G.arr (J16 (r19.s, r19.at_, r19.bad) hF) ⟨rfl, rfl, rfl, trivial⟩ ⟨rfl, rfl, rfl, trivial⟩ rfl


set_option maxHeartbeats 2000000 in
set_option maxRecDepth 100000 in
theorem bCC46 (b : Nat) (p v : Value) (w : World) (hp : p = .pointer none ∨ p = .pointer (some ⟨b, 0, none⟩)) (hbk : w.heap[b]? = some (.cells #[p, v] 61 (0, 0))) :
    Calls Try.prog 46 #[.pointer (some ⟨b, 0, none⟩)] w fun e w' => e = .returned (.tuple #[]) ∧ (w' = w ∨ w' = w.setCell ⟨b, 0, none⟩ (.pointer (some ⟨b, 0, none⟩))) ∧ w'.heap[b]? = some (.cells #[.pointer (some ⟨b, 0, none⟩), v] 61 (0, 0)) := by
  have hI : (Try.prog.info? 61).map (·.size) = some 2 := by kernel_rfl
  have hL : liesAt Try.prog Try.prog.depth 61 (2 / Try.prog.cellsOf 61) 0 61 1 = true := by kernel_rfl
  obtain ⟨j, hj, hjs⟩ := Option.map_eq_some_iff.1 hI
  have t61 := Try.underlying61; have a61 := Try.isAgg61; have z61 := Try.sizeOf61; have v61 := Try.zeroValue61; have u61 := run_underlying t61
  have t59 := Try.underlying59; have a59 := Try.isAgg59; have z59 := Try.sizeOf59; have v59 := Try.zeroValue59; have u59 := run_underlying t59
  have t48 := Try.underlying48; have a48 := Try.isAgg48; have z48 := Try.sizeOf48; have v48 := Try.zeroValue48; have u48 := run_underlying t48
  have t5 := Try.underlying5; have a5 := Try.isAgg5; have z5 := Try.sizeOf5; have v5 := Try.zeroValue5; have u5 := run_underlying t5
  have t9 := Try.underlying9; have a9 := Try.isAgg9; have z9 := Try.sizeOf9; have v9 := Try.zeroValue9; have u9 := run_underlying t9
  have t4 := Try.underlying4; have a4 := Try.isAgg4; have z4 := Try.sizeOf4; have v4 := Try.zeroValue4; have u4 := run_underlying t4
  have t2 := Try.underlying2; have a2 := Try.isAgg2; have z2 := Try.sizeOf2; have v2 := Try.zeroValue2; have u2 := run_underlying t2
  have t105 := Try.underlying105; have a105 := Try.isAgg105; have z105 := Try.sizeOf105; have v105 := Try.zeroValue105; have u105 := run_underlying t105
  have h0 : w.cell? ⟨b, 0, none⟩ = some p := by rw [Lib.cell_of_heap hbk]; rfl
  rcases hp with rfl | rfl
  · have hsh : w.shape? b = some (61, 2) := by simp [World.shape?, hbk]
    have hfz : w.frozen? ⟨b, 0, none⟩ = false := Lib.frozen_of_heap hbk 0
    go_enter Try.func46, Try.ntmps46
    go_wp2
    rw [Lib.run_to_unsafe w ⟨b, 0, none⟩ t59 t105 hj (by rw [hjs]; decide) hsh (Nat.zero_lt_succ 1)]
    simp only [Result.andThen]
    rw [Oper.upon_value]
    go_wp2
    rw [run_callFunc_extern Try.func57 (by kernel_rfl) (by kernel_rfl) (by kernel_rfl) (e := Extern.AbiNoEscape.same) (by kernel_rfl)]
    rw [Lib.run_noEscape]
    simp only [Result.andThen]
    rw [Oper.upon_value]
    go_wp2
    rw [Lib.run_from_unsafe w ⟨b, 0, none⟩ t105 t59 hj hsh hL]
    simp only [Result.andThen]
    rw [Oper.upon_value]
    go_wp2
    go_end0
    exact ⟨rfl, .inr rfl, by simp [World.setCell, Array.getElem?_modify, hbk]⟩
  · go_enter Try.func46, Try.ntmps46
    go_wp2
    rw [Lib.run_neq_ptr_same w _ t59 hj]
    go_wp2
    go_end0
    exact ⟨rfl, .inl rfl, hbk⟩

theorem bCC46_fresh (b : Nat) (v : Value) (w : World) (hbk : w.heap[b]? = some (.cells #[.pointer none, v] 61 (0, 0))) :
    Calls Try.prog 46 #[.pointer (some ⟨b, 0, none⟩)] w fun e w' => e = .returned (.tuple #[]) ∧ w' = w.setCell ⟨b, 0, none⟩ (.pointer (some ⟨b, 0, none⟩)) :=
  (bCC46 b _ v w (.inl rfl) hbk).mono fun e w' ⟨h1, h2, h3⟩ => ⟨h1, h2.resolve_left fun c => by subst c; rw [hbk] at h3; simp at h3⟩

/-- what copyCheck leaves -/
theorem bCC46_more {b : Nat} {p v : Value} {w w1 : World} {n : Nat} {xs : List Value} (hbk : w.heap[b]? = some (.cells #[p, v] 61 (0, 0))) (hown : w.ownsRow 0 5 1 v n xs) (hne : v.ownBlock ≠ some b) (h : w1 = w ∨ w1 = w.setCell ⟨b, 0, none⟩ (.pointer (some ⟨b, 0, none⟩))) :
    w1.ownsRow 0 5 1 v n xs ∧ KeepW (fun b' => b' = b ∨ v.ownBlock = some b') w w1 ∧ w.heap.size ≤ w1.heap.size ∧ b < w1.heap.size := by
  have hlt : b < w.heap.size := (Array.getElem?_eq_some_iff.1 hbk).1
  rcases h with rfl | rfl
  · exact ⟨hown, .refl _, Nat.le_refl _, hlt⟩
  · exact ⟨ownsRow_of_block hown fun g hg => Below.heap_setCell _ _ _ _ (fun e => hne (by rw [hg, e])), .setCell _ _ _ (.inl rfl), by simp [World.setCell], by simpa [World.setCell] using hlt⟩


set_option maxHeartbeats 2000000 in
set_option maxRecDepth 100000 in
theorem bWB58 (s : ByteArray) (c : Nat) (hc : c < 256) (hlen : s.size + 1 ≤ 140737488355328) (b : Nat) (p v : Value) (w : World) (hp : p = .pointer none ∨ p = .pointer (some ⟨b, 0, none⟩)) (hbk : w.heap[b]? = some (.cells #[p, v] 61 (0, 0))) (hown : w.ownsRow 0 5 1 v s.size (Lib.strCells s)) (hne : v.ownBlock ≠ some b) :
    Calls Try.prog 58 #[.pointer (some ⟨b, 0, none⟩), .int .u8 (c : Int)] w fun e w' => e = .returned .nilIface ∧ BPost 61 5 w b v.ownBlock (s ++ ByteArray.mk #[UInt8.ofNat c]) w' := by
  have hIB : (Try.prog.info? 5).map (fun i => (i.zero, i.size, i.bytes)) = some (some (.int .u8 0), 1, 1) := by kernel_rfl
  obtain ⟨i0, hi, hz0, hz1, hz2⟩ := info_parts hIB
  have t61 := Try.underlying61; have a61 := Try.isAgg61; have z61 := Try.sizeOf61; have v61 := Try.zeroValue61; have u61 := run_underlying t61
  have t59 := Try.underlying59; have a59 := Try.isAgg59; have z59 := Try.sizeOf59; have v59 := Try.zeroValue59; have u59 := run_underlying t59
  have t48 := Try.underlying48; have a48 := Try.isAgg48; have z48 := Try.sizeOf48; have v48 := Try.zeroValue48; have u48 := run_underlying t48
  have t5 := Try.underlying5; have a5 := Try.isAgg5; have z5 := Try.sizeOf5; have v5 := Try.zeroValue5; have u5 := run_underlying t5
  have t9 := Try.underlying9; have a9 := Try.isAgg9; have z9 := Try.sizeOf9; have v9 := Try.zeroValue9; have u9 := run_underlying t9
  have t4 := Try.underlying4; have a4 := Try.isAgg4; have z4 := Try.sizeOf4; have v4 := Try.zeroValue4; have u4 := run_underlying t4
  have t2 := Try.underlying2; have a2 := Try.isAgg2; have z2 := Try.sizeOf2; have v2 := Try.zeroValue2; have u2 := run_underlying t2
  go_enter Try.func58, Try.ntmps58
  go_wp2_with (go_at_call 46; refine (bCC46 b p v _ hp hbk).mono ?_)
  rintro e w1 ⟨rfl, h1, hbk1⟩
  obtain ⟨hown1, hk1, hs1, hlt1⟩ := bCC46_more hbk hown hne h1
  have c0 : w1.cell? ⟨b, 0, none⟩ = some (.pointer (some ⟨b, 0, none⟩)) := by rw [Lib.cell_of_heap hbk1]; rfl
  have c1 : w1.cell? ⟨b, 1, none⟩ = some v := by rw [Lib.cell_of_heap hbk1]; rfl
  go_wp2_with (at_builtin; refine wpList_append_byte _ rfl _ _ 48 rfl 5 i0 t48 hi hz0 hz1 hz2 _ _ _ rfl (hown1.alloc _) ⟨w1.heap.size, 0, none⟩ 1 (.int .u8 (c : Int)) rfl (by simp) rfl hlen ?_)
  intro v' w2 hown' hgrow hblk
  have hbA : (w1.alloc (.cells #[.int .u8 (c : Int)] 5)).heap[b]? = some (.cells #[.pointer (some ⟨b, 0, none⟩), v] 61 (0, 0)) := by rw [Lib.alloc_old w1 _ b hlt1]; exact hbk1
  have hb2 : w2.heap[b]? = some (.cells #[.pointer (some ⟨b, 0, none⟩), v] 61 (0, 0)) := by
    rw [hgrow.block b (by simp; omega) (fun e => hne e.symm)]
    exact hbA
  have d0 : w2.cell? ⟨b, 0, none⟩ = some (.pointer (some ⟨b, 0, none⟩)) := by rw [Lib.cell_of_heap hb2]; rfl
  have d1 : w2.cell? ⟨b, 1, none⟩ = some v := by rw [Lib.cell_of_heap hb2]; rfl
  have f1 : w2.frozen? ⟨b, 1, none⟩ = false := Lib.frozen_of_heap hb2 1
  obtain ⟨ao, n', cap, rfl⟩ : ∃ ao n' cap, v' = .slice ao n' cap := by
    rcases hown'.2 with ⟨hv, _⟩ | ⟨g, cap, cur, hv, _⟩
    · exact ⟨_, _, _, hv⟩
    · exact ⟨_, _, _, hv⟩
  go_wp2
  go_ret
  exact ⟨rfl, bpost_of hbA hne (hk1.trans (.below (below_alloc _ _))) (by simp; omega) (by simp; omega) hown' (by rw [ByteArray.size_append]; rfl) (by rw [strCells_one c hc, strCells_app]) hgrow (by simpa using hblk) (by decide)⟩

theorem ct_bld_WriteByte (s : ByteArray) (c : Int) (r : ByteArray) (hF : bld_WriteByte s c = some r) : CtM Try.prog 58 [.pt (.bld 61 5 s), .g (.d (.v (.int .u8 c)))] (.bld 61 5 r) (.one (.d (.v .nilIface))) := by
  unfold bld_WriteByte at hF
  split at hF
  · rename_i hl
    cases hF
    obtain ⟨n, rfl⟩ : ∃ n : Nat, c = n := ⟨c.toNat, by omega⟩
    exact CtM.write (arg := .int .u8 (n : Int)) (v := .nilIface) (fun M w' => RD.v _ rfl) (fun _ _ _ h => RD.v_inv h) (fun b p vb w h1 h2 h3 h4 => bWB58 s n (by omega) hl.2.2 b p vb w h1 h2 h3 h4)
  · cases hF


set_option maxRecDepth 20000 in
set_option maxHeartbeats 2000000 in
theorem ct_vary_put (b_0 : ByteArray) (n_1 : Int) (r : ByteArray) (hF : vary_put b_0 n_1 = some r) : CtM Try.prog 48 [.pt (.bld 61 5 b_0), .g (.d (.v (.int .u64 n_1)))] (.bld 61 5 r) (.tup []) := by
  unfold vary_put at hF
  refine CtM.intro (h := .bld 61 5 b_0) 0 Try.func48 rfl Try.ntmps48 rfl rfl rfl rfl (fun M w b go => ?_)
  refine G.seq ?_
  refine G.joinC (T := Int × ByteArray) (fun y1 => ⟨[(0, .one (.ptr 0 0)), (1, .one (bI .u64 y1.1))], [(0, some (.bld 61 5 50 y1.2)), (50, some (.hid true 0))]⟩) (fun y1 => vary_put_k1 y1 = some r) (fun y1 hF => ?_) (fun J3 => ?_)
  · unfold vary_put_k1 at hF
    refine G.region ?_
    refine G.op1 (op_move (Ev.t 0 (.ptr 0 0)) rfl) rfl ⟨rfl, trivial⟩ trivial ?_
    refine G.op1 (op_move (Ev.t 1 (bI .u64 y1.1)) rfl) rfl ⟨rfl, trivial⟩ trivial ?_
    refine G.op1 (op_convI Try.underlying55 Try.underlying5 (Ev.t 14 (bI .u64 y1.1)) rfl) rfl ⟨rfl, trivial⟩ trivial ?_
    obtain ⟨r2, hr2, hF⟩ := bindS hF
    refine G.opM (op_callM (k := 0) (h := .bld 61 5 y1.2) (h' := .bld 61 5 r2) 50 (sv := .one (.g (.d (.v .nilIface)))) cf58 (ct_bld_WriteByte y1.2 (IntKind.wrap .u8 y1.1) r2 hr2) rfl rfl (EvM.pt (Ev.t 13 (.ptr 0 0)) (EvM.g (Ev.t 15 (bI .u8 (IntKind.wrap .u8 y1.1))) EvM.nil)) rfl) rfl ⟨rfl, rfl, trivial⟩ ⟨rfl, rfl, trivial⟩ ?_
    refine G.endOps ?_
    have hF := Option.some.inj hF; subst hF
    exact G.fallM (retOK0 Try.results48) trivial trivial ⟨rfl, rfl, trivial⟩
  refine G.block ?_
  refine G.keep (sl' := [(0, .one (.ptr 0 0)), (1, .one (bI .u64 n_1))]) (hp' := [(0, some (.bld 61 5 50 b_0)), (50, some (.hid true 0))]) ⟨rfl, rfl, trivial⟩ ⟨rfl, rfl, trivial⟩ rfl ?_
  refine G.loopF (fun (v4 : Int × ByteArray) => ⟨[(0, .one (.ptr 0 0)), (1, .one (bI .u64 v4.1))], [(0, some (.bld 61 5 50 v4.2)), (50, some (.hid true 0))]⟩) hF rfl (fun K7 again6 v4 J5 hF => ?_)
  unfold vary_put_l2 at hF
  refine G.seq ?_
  refine G.seq ?_
  refine G.region ?_
  refine G.op1 (op_move (Ev.t 1 (bI .u64 v4.1)) rfl) rfl ⟨rfl, trivial⟩ trivial ?_
  refine G.op1 (op_geq (Ev.t 4 (bI .u64 v4.1)) (Ev.c _ rfl) rfl) rfl ⟨rfl, trivial⟩ trivial ?_
  refine G.endOps ?_
  refine ifS hF (fun hc8 hF => ?_) (fun hc8 hF => ?_)
  · refine G.cond rfl (fun _ => ?_) (fun hx => by rw [hc8] at hx; cases hx)
    refine G.skip ?_
    refine G.block ?_
    refine G.seq ?_
    refine G.region ?_
    refine G.op1 (op_move (Ev.t 0 (.ptr 0 0)) rfl) rfl ⟨rfl, trivial⟩ trivial ?_
    refine G.op1 (op_move (Ev.t 1 (bI .u64 v4.1)) rfl) rfl ⟨rfl, trivial⟩ trivial ?_
    refine G.op1 (op_convI Try.underlying55 Try.underlying5 (Ev.t 7 (bI .u64 v4.1)) rfl) rfl ⟨rfl, trivial⟩ trivial ?_
    refine G.op1 (op_or (Ev.t 8 (bI .u8 (IntKind.wrap .u8 v4.1))) (Ev.c _ rfl) rfl) rfl ⟨rfl, trivial⟩ trivial ?_
    obtain ⟨r9, hr9, hF⟩ := bindS hF
    refine G.opM (op_callM (k := 0) (h := .bld 61 5 v4.2) (h' := .bld 61 5 r9) 50 (sv := .one (.g (.d (.v .nilIface)))) cf58 (ct_bld_WriteByte v4.2 (IntKind.wrap .u8 (BitVec.ofInt (IntKind.bits .u8) (IntKind.wrap .u8 v4.1) ||| BitVec.ofInt (IntKind.bits .u8) 128).toNat) r9 hr9) rfl rfl (EvM.pt (Ev.t 6 (.ptr 0 0)) (EvM.g (Ev.t 9 (bI .u8 (IntKind.wrap .u8 (BitVec.ofInt (IntKind.bits .u8) (IntKind.wrap .u8 v4.1) ||| BitVec.ofInt (IntKind.bits .u8) 128).toNat))) EvM.nil)) rfl) rfl ⟨rfl, rfl, trivial⟩ ⟨rfl, rfl, trivial⟩ ?_
    refine G.endOps ?_
    refine G.region ?_
    refine G.op1 (op_move (Ev.t 1 (bI .u64 v4.1)) rfl) rfl ⟨rfl, trivial⟩ trivial ?_
    refine G.op1 (op_shr (by decide) (Ev.t 11 (bI .u64 v4.1)) (Ev.c _ rfl) rfl) rfl ⟨rfl, trivial⟩ trivial ?_
    refine G.op1 (op_assign (Ev.t 12 (bI .u64 (Int.fdiv v4.1 (2 ^ min (Int.toNat 7) (IntKind.bits .u64))))) rfl) rfl ⟨rfl, trivial⟩ trivial ?_
    refine G.endOps ?_
    refine G.endBlock ?_
    exact G.arr (J5 (Int.fdiv v4.1 (2 ^ min (Int.toNat 7) (IntKind.bits .u64)), r9) hF) ⟨rfl, rfl, trivial⟩ ⟨rfl, rfl, trivial⟩ rfl
  · refine G.cond rfl (fun hx => by rw [hc8] at hx; cases hx) (fun _ => ?_)
    refine G.exit ?_
    refine GX.c ?_
    refine GX.q ?_
    refine GX.bYes ?_
    exact G.arr (J3 (v4.1, v4.2) hF) ⟨rfl, rfl, trivial⟩ ⟨rfl, rfl, trivial⟩ rfl


set_option maxRecDepth 20000 in
set_option maxHeartbeats 2000000 in
theorem ct_vary_Join_1 (n_0 : Int) (c0 : ByteArray) (r : ByteArray) (hF : vary_Join_1 n_0 c0 = some r) : CtM Try.prog 47 [.g (.d (.v (.int .u64 n_0))), .pt (.bld 61 5 c0)] (.bld 61 5 r) (.tup []) := by
  unfold vary_Join_1 at hF
  refine CtM.intro (h := .bld 61 5 c0) 1 Try.func47 rfl Try.ntmps47 rfl rfl rfl rfl (fun M w b go => ?_)
  refine G.region ?_
  refine G.op1 (op_move (Ev.t 0 (bI .u64 n_0)) rfl) rfl ⟨rfl, trivial⟩ trivial ?_
  obtain ⟨r1, hr1, hF⟩ := bindS hF
  refine G.opM (op_callM (k := 0) (h := .bld 61 5 c0) (h' := .bld 61 5 r1) 50 (sv := .tup []) cf48 (ct_vary_put c0 n_0 r1 hr1) rfl rfl (EvM.pt (Ev.t 1 (.ptr 0 0)) (EvM.g (Ev.t 3 (bI .u64 n_0)) EvM.nil)) rfl) rfl ⟨rfl, rfl, trivial⟩ ⟨rfl, rfl, trivial⟩ ?_
  refine G.endOps ?_
  have hF := Option.some.inj hF; subst hF
  exact G.fallM (retOK0 Try.results47) trivial trivial ⟨rfl, rfl, trivial⟩


set_option maxHeartbeats 2000000 in
set_option maxRecDepth 100000 in
theorem bST25 (s : ByteArray) (hs : s.size ≠ 0) (b : Nat) (p v : Value) (w : World) (hbk : w.heap[b]? = some (.cells #[p, v] 61 (0, 0))) (hown : w.ownsRow 0 5 1 v s.size (Lib.strCells s)) :
    Calls Try.prog 25 #[.pointer (some ⟨b, 0, none⟩)] w fun e w' => e = .returned (.string s) ∧ KeepW (fun b' => v.ownBlock = some b') w w' := by
  have hCB : Try.prog.cellsOf 5 = 1 := by kernel_rfl
  have mixed : Try.prog.follows .mixedOrders = true := by kernel_rfl
  have hl0 : s.data.toList ≠ [] := fun h => hs (by have := congrArg List.length h; simpa using this)
  have hll : s.data.toList.length = s.size := by simp
  have hsb : Lib.strCells s = Lib.byteCells s.data.toList := rfl
  have hse : (⟨s.data.toList.toArray⟩ : ByteArray) = s := by cases s; simp
  rw [hsb, ← hll] at hown
  generalize s.data.toList = l at hown hl0 hll hse
  clear hll hsb
  have hown0 := hown
  obtain ⟨g, cap, cur, rfl, hg, hnc, hcm, hcs, htake⟩ : ∃ g cap cur, v = .slice (some ⟨g, 0, none⟩) l.length cap ∧ w.heap[g]? = some (.cells cur 5 (0, 0)) ∧ l.length ≤ cap ∧ cap ≤ maxLen ∧ cur.size = cap * 1 ∧ cur.toList.take (l.length * 1) = Lib.byteCells l := by
    rcases hown.2 with ⟨_, hz⟩ | ⟨g, cap, cur, hv, _, r⟩
    · exact absurd (List.eq_nil_of_length_eq_zero hz) hl0
    · exact ⟨g, cap, cur, hv, r⟩
  have c1 : w.drew.cell? ⟨b, 1, none⟩ = some (.slice (some ⟨g, 0, none⟩) l.length cap) := by
    have : w.drew.heap[b]? = some (.cells #[p, .slice (some ⟨g, 0, none⟩) l.length cap] 61 (0, 0)) := hbk
    rw [Lib.cell_of_heap this]; rfl
  have t61 := Try.underlying61; have a61 := Try.isAgg61; have z61 := Try.sizeOf61; have v61 := Try.zeroValue61; have u61 := run_underlying t61
  have t59 := Try.underlying59; have a59 := Try.isAgg59; have z59 := Try.sizeOf59; have v59 := Try.zeroValue59; have u59 := run_underlying t59
  have t48 := Try.underlying48; have a48 := Try.isAgg48; have z48 := Try.sizeOf48; have v48 := Try.zeroValue48; have u48 := run_underlying t48
  have t5 := Try.underlying5; have a5 := Try.isAgg5; have z5 := Try.sizeOf5; have v5 := Try.zeroValue5; have u5 := run_underlying t5
  have t9 := Try.underlying9; have a9 := Try.isAgg9; have z9 := Try.sizeOf9; have v9 := Try.zeroValue9; have u9 := run_underlying t9
  have t4 := Try.underlying4; have a4 := Try.isAgg4; have z4 := Try.sizeOf4; have v4 := Try.zeroValue4; have u4 := run_underlying t4
  have t3 := Try.underlying3; have a3 := Try.isAgg3; have z3 := Try.sizeOf3; have v3 := Try.zeroValue3; have u3 := run_underlying t3
  have t95 := Try.underlying95; have a95 := Try.isAgg95; have z95 := Try.sizeOf95; have v95 := Try.zeroValue95; have u95 := run_underlying t95
  have hl1 : l.length ≠ 0 := fun h => hl0 (List.eq_nil_of_length_eq_zero h)
  have hSD : (Builtin.unsafeSliceData_ #[48] 95 #[.slice (some ⟨g, 0, none⟩) l.length cap]).run Try.prog w.drew = .ok (.pointer (some ⟨g, 0, none⟩)) w.drew :=
    Lib.run_unsafeSliceData_row _ _ _ _ _ _ (by omega)
  have hUS : (Builtin.unsafeString_ #[95, 3] 9 #[.pointer (some ⟨g, 0, none⟩), .int .i64 l.length]).run Try.prog w.drew = .ok (.string s) (w.drew.freeze ⟨g, 0, none⟩ l.length) := by
    rw [← hse]
    refine Lib.run_unsafeString_row w.drew 95 3 9 5 t95 hCB g cur.size (by have hg' : w.drew.heap[g]? = some (.cells cur 5 (0, 0)) := hg; simp [World.shape?, hg']) l hl0 (by omega) (by unfold maxLen at hcm; omega) ?_
    intro j x hx
    have := hown0.cells (g := g) rfl j (.int .u8 x.toNat) (by simp [Lib.byteCells, hx])
    exact this
  go_enter Try.func25, Try.ntmps25
  go_wp2
  go_region_o
  all_goals (go_wp2; go_ret; exact ⟨rfl, keepW_freeze w g _⟩)

theorem ct_bld_String (s r : ByteArray) (hF : bld_String s = some r) : CtM Try.prog 25 [.pt (.bld 61 5 s)] .gone (.one (.d (vS r))) := by
  unfold bld_String at hF
  split at hF
  · cases hF
  · rename_i hl
    cases hF
    exact CtM.bytes fun b p vb w h1 h2 => bST25 s hl b p vb w h1 h2


set_option maxRecDepth 20000 in
set_option maxHeartbeats 2000000 in
theorem ct_vary_Join (l_0 : (List Int)) (r : ByteArray) (hF : vary_Join l_0 = some r) : Ct Try.prog 26 [.g (.d (.sl 1 (List.map encI_u64 l_0)))] (.one (.d (vS r))) := by
  unfold vary_Join at hF
  refine Ct.intro Try.func26 rfl Try.ntmps26 rfl rfl fun M w => ?_
  refine G.seq ?_
  refine G.region ?_
  refine G.op1 (op_assign (Ev.c _ rfl) rfl) rfl trivial trivial ?_
  refine G.endOps ?_
  refine G.seq ?_
  refine G.region ?_
  refine G.opM (op_allocB (T := 61) (E := 5) (k := 1003) (kk := 3003) ti61 rfl rfl rfl) rfl trivial ⟨rfl, rfl, trivial⟩ ?_
  refine G.endOps ?_
  refine G.seq ?_
  refine G.region ?_
  refine G.op1 (op_makeFunc1 (Ev.t 3 (.ptr 1003 0)) rfl) rfl ⟨rfl, trivial⟩ trivial ?_
  refine G.op1 (op_assign (Ev.t 7 (.clo 47 [1003])) rfl) rfl ⟨rfl, trivial⟩ trivial ?_
  refine G.endOps ?_
  refine G.seq ?_
  refine G.seq ?_
  refine G.region ?_
  refine G.op1 (op_move (Ev.t 0 (.g (.d (.sl 1 (List.map encI_u64 l_0))))) rfl) rfl ⟨rfl, trivial⟩ trivial ?_
  refine G.op1 (OpL.cast (op_lenD Try.underlying68 (Ev.t 8 (.g (.d (.sl 1 (List.map encI_u64 l_0))))) rfl) (by rw [List.length_map])) rfl ⟨rfl, trivial⟩ trivial ?_
  refine G.op1 (op_move (Ev.c _ rfl) rfl) rfl trivial trivial ?_
  refine G.endOps ?_
  refine G.joinC (T := ByteArray) (fun y1 => ⟨[(3, .one (.ptr 1003 0))], [(1003, some (.bld 61 5 3003 y1)), (3003, some (.hid true 1003))]⟩) (fun y1 => vary_Join_k1 y1 = some r) (fun y1 hF => ?_) (fun J3 => ?_)
  · unfold vary_Join_k1 at hF
    refine G.seq ?_
    refine G.region ?_
    obtain ⟨r2, hr2, hF⟩ := bindS hF
    refine G.opM (op_callM (k := 1003) (h := .bld 61 5 y1) (h' := .gone) 3003 (sv := oS r2) cf25 (ct_bld_String y1 r2 hr2) rfl rfl (EvM.pt (Ev.t 3 (.ptr 1003 0)) EvM.nil) rfl) rfl ⟨rfl, trivial⟩ ⟨rfl, rfl, trivial⟩ ?_
    refine G.op1 (op_assign (Ev.t 18 (bS r2)) rfl) rfl ⟨rfl, trivial⟩ trivial ?_
    refine G.endOps ?_
    cases hF
    exact G.ret1 Try.results26 (RVar.tmp 2 _) ⟨rfl, trivial⟩ trivial
  refine G.block ?_
  refine G.keep (sl' := [(3, .one (.ptr 1003 0)), (4, .one (.clo 47 [1003])), (8, .one (.g (.d (.sl 1 (List.map encI_u64 l_0))))), (9, oI (l_0.length : Int)), (10, oI 0)]) (hp' := [(1003, some (.bld 61 5 3003 ByteArray.empty)), (3003, some (.hid true 1003))]) ⟨rfl, rfl, rfl, rfl, rfl, trivial⟩ ⟨rfl, rfl, trivial⟩ rfl ?_
  refine G.loopF (fun (v4 : Int × ByteArray) => ⟨[(3, .one (.ptr 1003 0)), (4, .one (.clo 47 [1003])), (8, .one (.g (.d (.sl 1 (List.map encI_u64 l_0))))), (9, oI (l_0.length : Int)), (10, oI v4.1)], [(1003, some (.bld 61 5 3003 v4.2)), (3003, some (.hid true 1003))]⟩) hF rfl (fun K7 again6 v4 J5 hF => ?_)
  unfold vary_Join_l2 at hF
  refine G.seq ?_
  refine G.region ?_
  refine G.op1 (op_lss (Ev.t 10 (bI .i64 v4.1)) (Ev.t 9 (bI .i64 (l_0.length : Int))) rfl) rfl ⟨rfl, rfl, trivial⟩ trivial ?_
  refine G.endOps ?_
  refine G.seq ?_
  refine ifS hF (fun hc8 hF => ?_) (fun hc8 hF => ?_)
  · refine G.cond rfl (fun _ => ?_) (fun hx => by rw [hc8] at hx; cases hx)
    refine G.skip ?_
    refine G.seq ?_
    refine G.block ?_
    refine G.seq ?_
    refine G.region ?_
    obtain ⟨x9, hx9, hF⟩ := bindS hF
    refine G.op1 (op_index (cs := [.v (.int .u64 x9)]) Try.underlying68 ti55 (idx_ok hx9).1 (idx_get hx9 encI_u64) (Ev.t 8 (.g (.d (.sl 1 (List.map encI_u64 l_0))))) (Ev.t 10 (bI .i64 v4.1)) rfl) rfl ⟨rfl, rfl, trivial⟩ trivial ?_
    refine G.op1 (op_load1E (c := .v (.int .u64 x9)) Try.underlying55 rfl rfl (Ev.t 12 (.ep [.v (.int .u64 x9)])) rfl) rfl ⟨rfl, trivial⟩ trivial ?_
    refine G.op1 (op_assign (Ev.t 13 (bI .u64 x9)) rfl) rfl ⟨rfl, trivial⟩ trivial ?_
    refine G.endOps ?_
    refine G.region ?_
    refine G.op1 (op_move (Ev.t 4 (.clo 47 [1003])) rfl) rfl ⟨rfl, trivial⟩ trivial ?_
    refine G.op1 (op_move (Ev.t 6 (bI .u64 x9)) rfl) rfl ⟨rfl, trivial⟩ trivial ?_
    obtain ⟨r10, hr10, hF⟩ := bindS hF
    refine G.opM (op_callCloM (k := 1003) (h := .bld 61 5 v4.2) (h' := .bld 61 5 r10) 3003 (sv := .tup []) cf47 (ct_vary_Join_1 x9 v4.2 r10 hr10) rfl rfl (EvM.g (Ev.t 15 (bI .u64 x9)) EvM.nil) rfl) rfl ⟨rfl, rfl, trivial⟩ ⟨rfl, rfl, trivial⟩ ?_
    refine G.endOps ?_
    refine G.endBlock ?_
    refine G.region ?_
    refine G.op1 (op_add (Ev.t 10 (bI .i64 v4.1)) (Ev.c _ rfl) rfl) rfl ⟨rfl, trivial⟩ trivial ?_
    refine G.op1 (op_move (Ev.t 17 (bI .i64 (IntKind.wrap .i64 (v4.1 + 1)))) rfl) rfl ⟨rfl, trivial⟩ trivial ?_
    refine G.endOps ?_
    exact G.arr (J5 (IntKind.wrap .i64 (v4.1 + 1), r10) hF) ⟨rfl, rfl, rfl, rfl, rfl, trivial⟩ ⟨rfl, rfl, trivial⟩ rfl
  · refine G.cond rfl (fun hx => by rw [hc8] at hx; cases hx) (fun _ => ?_)
    refine G.exit ?_
    refine GX.c ?_
    refine GX.q ?_
    refine GX.bYes ?_
    exact G.arr (J3 v4.2 hF) ⟨rfl, trivial⟩ ⟨rfl, rfl, trivial⟩ rfl


set_option maxRecDepth 20000 in
set_option maxHeartbeats 2000000 in
theorem ct_vary_Number (n_0 : Int) (r : ByteArray) (hF : vary_Number n_0 = some r) : Ct Try.prog 23 [.g (.d (.v (.int .u64 n_0)))] (.one (.d (vS r))) := by
  unfold vary_Number at hF
  refine Ct.intro Try.func23 rfl Try.ntmps23 rfl rfl fun M w => ?_
  refine G.seq ?_
  refine G.region ?_
  refine G.op1 (op_assign (Ev.c _ rfl) rfl) rfl trivial trivial ?_
  refine G.endOps ?_
  refine G.seq ?_
  refine G.region ?_
  refine G.op1 (op_move (Ev.t 0 (bI .u64 n_0)) rfl) rfl ⟨rfl, trivial⟩ trivial ?_
  refine G.op1 (op_buildSlice (es := List.map encI_u64 [n_0]) Try.underlying68 ti55 rfl rfl (EvP.cons (Ev.t 3 (bI .u64 n_0)) EvP.nil) rfl rfl (by simp [encI_u64]) rfl) rfl ⟨rfl, trivial⟩ trivial ?_
  obtain ⟨r1, hr1, hF⟩ := bindS hF
  refine G.op1 (op_callQ (sv := oS r1) cf26 (ct_vary_Join ([n_0]) r1 hr1) rfl rfl (EvQL.cons (EvQ.g (Ev.t 4 (.g (.d (.sl 1 (List.map encI_u64 ([n_0]))))))) EvQL.nil) rfl) rfl ⟨rfl, trivial⟩ trivial ?_
  refine G.op1 (op_assign (Ev.t 5 (bS r1)) rfl) rfl ⟨rfl, trivial⟩ trivial ?_
  refine G.endOps ?_
  cases hF
  exact G.ret1 Try.results23 (RVar.tmp 2 _) ⟨rfl, trivial⟩ trivial


set_option maxRecDepth 20000 in
set_option maxHeartbeats 2000000 in
theorem ct_vary_Text (s_0 : ByteArray) (r : ByteArray) (hF : vary_Text s_0 = some r) : Ct Try.prog 24 [.g (.d (vS s_0))] (.one (.d (vS r))) := by
  unfold vary_Text at hF
  refine Ct.intro Try.func24 rfl Try.ntmps24 rfl rfl fun M w => ?_
  refine G.seq ?_
  refine G.region ?_
  refine G.op1 (op_assign (Ev.c _ rfl) rfl) rfl trivial trivial ?_
  refine G.endOps ?_
  refine G.seq ?_
  refine G.region ?_
  refine G.op1 (op_move (Ev.t 0 (bS s_0)) rfl) rfl ⟨rfl, trivial⟩ trivial ?_
  refine G.op1 (op_lenS Try.underlying9 (Ev.t 3 (bS s_0)) rfl) rfl ⟨rfl, trivial⟩ trivial ?_
  refine G.op1 (op_convI Try.underlying3 Try.underlying55 (Ev.t 4 (bI .i64 (s_0.size : Int))) rfl) rfl ⟨rfl, trivial⟩ trivial ?_
  obtain ⟨r1, hr1, hF⟩ := bindS hF
  refine G.op1 (op_callQ (sv := oS r1) cf23 (ct_vary_Number (IntKind.wrap .u64 (s_0.size : Int)) r1 hr1) rfl rfl (EvQL.cons (EvQ.g (Ev.t 5 (bI .u64 (IntKind.wrap .u64 (s_0.size : Int))))) EvQL.nil) rfl) rfl ⟨rfl, trivial⟩ trivial ?_
  refine G.op1 (op_move (Ev.t 0 (bS s_0)) rfl) rfl ⟨rfl, trivial⟩ trivial ?_
  obtain ⟨s2, hs2, hF⟩ := bindS hF
  refine G.op1 (OpL.cast (op_cat (scat_ok hs2).1 (Ev.t 6 (bS r1)) (Ev.t 7 (bS s_0)) rfl) (by rw [(scat_ok hs2).2])) rfl ⟨rfl, rfl, trivial⟩ trivial ?_
  refine G.op1 (op_assign (Ev.t 8 (bS s2)) rfl) rfl ⟨rfl, trivial⟩ trivial ?_
  refine G.endOps ?_
  cases hF
  exact G.ret1 Try.results24 (RVar.tmp 2 _) ⟨rfl, trivial⟩ trivial


set_option maxRecDepth 20000 in
set_option maxHeartbeats 2000000 in
theorem ct_stamp_Bytes (s_0 : Api_Stamp) (r : ByteArray) (hF : stamp_Bytes s_0 = some r) : Ct Try.prog 32 [.g (.agg (encApi_Stamp s_0))] (.one (.d (vS r))) := by
  unfold stamp_Bytes at hF
  refine Ct.intro Try.func32 rfl Try.ntmps32 rfl rfl fun M w => ?_
  refine G.seq ?_
  refine G.region ?_
  refine G.op2 (op_boxA (k := 1001) (Ev.t 0 (.g (.agg [vI s_0.N, vI s_0.Site]))) rfl) rfl ⟨rfl, trivial⟩ ⟨rfl, trivial⟩ ?_
  refine G.op1 (op_assign (Ev.c _ rfl) rfl) rfl trivial trivial ?_
  refine G.endOps ?_
  refine G.seq ?_
  refine G.seq ?_
  refine G.region ?_
  refine G.op1 (op_loadAP (ds := [vI s_0.N, vI s_0.Site]) Try.underlying40 rfl ti40 rfl (Ev.t 1 (.ptr 1001 0)) rfl) rfl ⟨rfl, trivial⟩ ⟨rfl, trivial⟩ ?_
  obtain ⟨r1, hr1, hF⟩ := bindS hF
  refine G.op1 (op_callQ (sv := oB r1) cf49 (ct_stamp_Check s_0 r1 hr1) rfl rfl (EvQL.cons (EvQ.g (Ev.t 3 (.g (.agg [vI s_0.N, vI s_0.Site])))) EvQL.nil) rfl) rfl ⟨rfl, trivial⟩ trivial ?_
  refine G.op1 (op_not (Ev.t 4 (bB r1)) rfl) rfl ⟨rfl, trivial⟩ trivial ?_
  refine G.endOps ?_
  refine ifS hF (fun hc2 hF => ?_) (fun hc2 hF => ?_)
  · refine G.cond rfl (fun _ => ?_) (fun hx => by rw [hc2] at hx; cases hx)
    refine G.seq ?_
    refine G.region ?_
    refine G.op1 (op_assign (Ev.c _ rfl) rfl) rfl trivial trivial ?_
    refine G.endOps ?_
    cases hF
    exact G.ret1 Try.results32 (RVar.tmp 2 _) ⟨rfl, trivial⟩ trivial
  · refine G.cond rfl (fun hx => by rw [hc2] at hx; cases hx) (fun _ => ?_)
    refine G.skip ?_
    refine G.seq ?_
    refine G.region ?_
    refine G.op1 (op_fieldP (off' := 0) Try.underlying40 rfl ti3 (by decide) rfl (Ev.t 1 (.ptr 1001 0)) rfl) rfl ⟨rfl, trivial⟩ trivial ?_
    refine G.op1 (op_load1P (c := bI .i64 s_0.N) Try.underlying3 rfl rfl (Ev.t 6 (.ptr 1001 0)) rfl) rfl ⟨rfl, trivial⟩ ⟨rfl, trivial⟩ ?_
    refine G.op1 (op_convI Try.underlying3 Try.underlying55 (Ev.t 7 (bI .i64 s_0.N)) rfl) rfl ⟨rfl, trivial⟩ trivial ?_
    refine G.op1 (op_fieldP (off' := 1) Try.underlying40 rfl ti3 (by decide) rfl (Ev.t 1 (.ptr 1001 0)) rfl) rfl ⟨rfl, trivial⟩ trivial ?_
    refine G.op1 (op_load1P (c := bI .i64 s_0.Site) Try.underlying3 rfl rfl (Ev.t 9 (.ptr 1001 1)) rfl) rfl ⟨rfl, trivial⟩ ⟨rfl, trivial⟩ ?_
    refine G.op1 (op_convI Try.underlying3 Try.underlying55 (Ev.t 10 (bI .i64 s_0.Site)) rfl) rfl ⟨rfl, trivial⟩ trivial ?_
    refine G.op1 (op_buildSlice (es := List.map encI_u64 [IntKind.wrap .u64 s_0.N, IntKind.wrap .u64 s_0.Site]) Try.underlying68 ti55 rfl rfl (EvP.cons (Ev.t 8 (bI .u64 (IntKind.wrap .u64 s_0.N))) (EvP.cons (Ev.t 11 (bI .u64 (IntKind.wrap .u64 s_0.Site))) EvP.nil)) rfl rfl (by simp [encI_u64]) rfl) rfl ⟨rfl, rfl, trivial⟩ trivial ?_
    obtain ⟨r3, hr3, hF⟩ := bindS hF
    refine G.op1 (op_callQ (sv := oS r3) cf26 (ct_vary_Join ([IntKind.wrap .u64 s_0.N, IntKind.wrap .u64 s_0.Site]) r3 hr3) rfl rfl (EvQL.cons (EvQ.g (Ev.t 12 (.g (.d (.sl 1 (List.map encI_u64 ([IntKind.wrap .u64 s_0.N, IntKind.wrap .u64 s_0.Site]))))))) EvQL.nil) rfl) rfl ⟨rfl, trivial⟩ trivial ?_
    refine G.op1 (op_assign (Ev.t 13 (bS r3)) rfl) rfl ⟨rfl, trivial⟩ trivial ?_
    refine G.endOps ?_
    cases hF
    exact G.ret1 Try.results32 (RVar.tmp 2 _) ⟨rfl, trivial⟩ trivial


set_option maxHeartbeats 2000000 in
set_option maxRecDepth 100000 in
theorem bWS22 (s t : ByteArray) (hlen : s.size + t.size ≤ 140737488355328) (b : Nat) (p v : Value) (w : World) (hp : p = .pointer none ∨ p = .pointer (some ⟨b, 0, none⟩)) (hbk : w.heap[b]? = some (.cells #[p, v] 61 (0, 0))) (hown : w.ownsRow 0 5 1 v s.size (Lib.strCells s)) (hne : v.ownBlock ≠ some b) :
    Calls Try.prog 22 #[.pointer (some ⟨b, 0, none⟩), .string t] w fun e w' => e = .returned (.tuple #[.int .i64 t.size, .nilIface]) ∧ BPost 61 5 w b v.ownBlock (s ++ t) w' := by
  have hIB : (Try.prog.info? 5).map (fun i => (i.zero, i.size, i.bytes)) = some (some (.int .u8 0), 1, 1) := by kernel_rfl
  obtain ⟨i0, hi, hz0, hz1, hz2⟩ := info_parts hIB
  have t61 := Try.underlying61; have a61 := Try.isAgg61; have z61 := Try.sizeOf61; have v61 := Try.zeroValue61; have u61 := run_underlying t61
  have t59 := Try.underlying59; have a59 := Try.isAgg59; have z59 := Try.sizeOf59; have v59 := Try.zeroValue59; have u59 := run_underlying t59
  have t48 := Try.underlying48; have a48 := Try.isAgg48; have z48 := Try.sizeOf48; have v48 := Try.zeroValue48; have u48 := run_underlying t48
  have t5 := Try.underlying5; have a5 := Try.isAgg5; have z5 := Try.sizeOf5; have v5 := Try.zeroValue5; have u5 := run_underlying t5
  have t9 := Try.underlying9; have a9 := Try.isAgg9; have z9 := Try.sizeOf9; have v9 := Try.zeroValue9; have u9 := run_underlying t9
  have t4 := Try.underlying4; have a4 := Try.isAgg4; have z4 := Try.sizeOf4; have v4 := Try.zeroValue4; have u4 := run_underlying t4
  have t3 := Try.underlying3; have a3 := Try.isAgg3; have z3 := Try.sizeOf3; have v3 := Try.zeroValue3; have u3 := run_underlying t3
  go_enter Try.func22, Try.ntmps22
  go_wp2_with (go_at_call 46; refine (bCC46 b p v _ hp hbk).mono ?_)
  rintro e w1 ⟨rfl, h1, hbk1⟩
  obtain ⟨hown1, hk1, hs1, hlt1⟩ := bCC46_more hbk hown hne h1
  have c0 : w1.cell? ⟨b, 0, none⟩ = some (.pointer (some ⟨b, 0, none⟩)) := by rw [Lib.cell_of_heap hbk1]; rfl
  have c1 : w1.cell? ⟨b, 1, none⟩ = some v := by rw [Lib.cell_of_heap hbk1]; rfl
  go_wp2_with (at_builtin; refine wpList_append_bytes _ rfl _ _ 48 9 rfl 5 i0 t48 t9 hi hz0 hz1 hz2 _ _ _ rfl hown1 t rfl hlen ?_)
  intro v' w2 hown' hgrow hblk
  have hb2 : w2.heap[b]? = some (.cells #[.pointer (some ⟨b, 0, none⟩), v] 61 (0, 0)) := by
    rw [hgrow.block b hlt1 (fun e => hne e.symm)]
    exact hbk1
  have d0 : w2.cell? ⟨b, 0, none⟩ = some (.pointer (some ⟨b, 0, none⟩)) := by rw [Lib.cell_of_heap hb2]; rfl
  have d1 : w2.cell? ⟨b, 1, none⟩ = some v := by rw [Lib.cell_of_heap hb2]; rfl
  have f1 : w2.frozen? ⟨b, 1, none⟩ = false := Lib.frozen_of_heap hb2 1
  obtain ⟨ao, n', cap, rfl⟩ : ∃ ao n' cap, v' = .slice ao n' cap := by
    rcases hown'.2 with ⟨hv, _⟩ | ⟨g, cap, cur, hv, _⟩
    · exact ⟨_, _, _, hv⟩
    · exact ⟨_, _, _, hv⟩
  go_wp2
  go_ret2
  exact ⟨rfl, bpost_of hbk1 hne hk1 hs1 hlt1 hown' (by rw [ByteArray.size_append]) (strCells_app s t) hgrow hblk (by decide)⟩

theorem ct_bld_WriteString (s t r : ByteArray) (hF : bld_WriteString s t = some r) : CtM Try.prog 22 [.pt (.bld 61 5 s), .g (.d (vS t))] (.bld 61 5 r) (.tup [.d (vI (t.size : Int)), .d (.v .nilIface)]) := by
  unfold bld_WriteString at hF
  split at hF
  · rename_i hl
    cases hF
    refine CtM.write (arg := .string t) (v := .tuple #[.int .i64 t.size, .nilIface]) (fun M w' => ⟨_, rfl, rfl, fun i g hi => ?_⟩) (fun _ _ _ h => RD.v_inv h) (fun b p vb w h1 h2 h3 h4 => bWS22 s t hl b p vb w h1 h2 h3 h4)
    match i with
    | 0 => simp at hi; subst hi; exact ⟨_, rfl, RD.v _ rfl⟩
    | 1 => simp at hi; subst hi; exact ⟨_, rfl, RD.v _ rfl⟩
    | i + 2 => simp at hi
  · cases hF


set_option maxRecDepth 20000 in
set_option maxHeartbeats 2000000 in
theorem ct_past_Bytes (p_0 : (List Api_Dep)) (r : ByteArray) (hF : past_Bytes p_0 = some r) : Ct Try.prog 33 [.g (.d (.sl 3 (List.map encApi_Dep p_0)))] (.one (.d (vS r))) := by
  unfold past_Bytes at hF
  refine Ct.intro Try.func33 rfl Try.ntmps33 rfl rfl fun M w => ?_
  refine G.seq ?_
  refine G.region ?_
  refine G.op1 (op_assign (Ev.c _ rfl) rfl) rfl trivial trivial ?_
  refine G.endOps ?_
  refine G.seq ?_
  refine G.seq ?_
  refine G.region ?_
  refine G.op1 (op_move (Ev.t 0 (.g (.d (.sl 3 (List.map encApi_Dep p_0))))) rfl) rfl ⟨rfl, trivial⟩ trivial ?_
  obtain ⟨r1, hr1, hF⟩ := bindS hF
  refine G.op1 (op_callQ (sv := oB r1) cf50 (ct_past_Check p_0 r1 hr1) rfl rfl (EvQL.cons (EvQ.g (Ev.t 6 (.g (.d (.sl 3 (List.map encApi_Dep p_0)))))) EvQL.nil) rfl) rfl ⟨rfl, trivial⟩ trivial ?_
  refine G.op1 (op_not (Ev.t 7 (bB r1)) rfl) rfl ⟨rfl, trivial⟩ trivial ?_
  refine G.endOps ?_
  refine ifS hF (fun hc2 hF => ?_) (fun hc2 hF => ?_)
  · refine G.cond rfl (fun _ => ?_) (fun hx => by rw [hc2] at hx; cases hx)
    refine G.seq ?_
    refine G.region ?_
    refine G.op1 (op_assign (Ev.c _ rfl) rfl) rfl trivial trivial ?_
    refine G.endOps ?_
    cases hF
    exact G.ret1 Try.results33 (RVar.tmp 2 _) ⟨rfl, trivial⟩ trivial
  · refine G.cond rfl (fun hx => by rw [hc2] at hx; cases hx) (fun _ => ?_)
    refine G.skip ?_
    refine G.seq ?_
    refine G.region ?_
    refine G.opM (op_allocB (T := 61) (E := 5) (k := 1003) (kk := 3003) ti61 rfl rfl rfl) rfl trivial ⟨rfl, rfl, trivial⟩ ?_
    refine G.endOps ?_
    refine G.seq ?_
    refine G.region ?_
    refine G.op1 (op_move (Ev.t 0 (.g (.d (.sl 3 (List.map encApi_Dep p_0))))) rfl) rfl ⟨rfl, trivial⟩ trivial ?_
    refine G.op1 (OpL.cast (op_lenD Try.underlying41 (Ev.t 9 (.g (.d (.sl 3 (List.map encApi_Dep p_0))))) rfl) (by rw [List.length_map])) rfl ⟨rfl, trivial⟩ trivial ?_
    refine G.op1 (op_convI Try.underlying3 Try.underlying55 (Ev.t 10 (bI .i64 (p_0.length : Int))) rfl) rfl ⟨rfl, trivial⟩ trivial ?_
    obtain ⟨r3, hr3, hF⟩ := bindS hF
    refine G.op1 (op_callQ (sv := oS r3) cf23 (ct_vary_Number (IntKind.wrap .u64 (p_0.length : Int)) r3 hr3) rfl rfl (EvQL.cons (EvQ.g (Ev.t 11 (bI .u64 (IntKind.wrap .u64 (p_0.length : Int))))) EvQL.nil) rfl) rfl ⟨rfl, trivial⟩ trivial ?_
    obtain ⟨r4, hr4, hF⟩ := bindS hF
    refine G.opM (op_callM (k := 1003) (h := .bld 61 5 ByteArray.empty) (h' := .bld 61 5 r4) 3003 (sv := .tup [bI .i64 (r3.size : Int), .g (.d (.v .nilIface))]) cf22 (ct_bld_WriteString ByteArray.empty r3 r4 hr4) rfl rfl (EvM.pt (Ev.t 3 (.ptr 1003 0)) (EvM.g (Ev.t 12 (bS r3)) EvM.nil)) rfl) rfl ⟨rfl, rfl, trivial⟩ ⟨rfl, rfl, trivial⟩ ?_
    refine G.endOps ?_
    refine G.seq ?_
    refine G.seq ?_
    refine G.region ?_
    refine G.op1 (op_move (Ev.t 0 (.g (.d (.sl 3 (List.map encApi_Dep p_0))))) rfl) rfl ⟨rfl, trivial⟩ trivial ?_
    refine G.op1 (OpL.cast (op_lenD Try.underlying41 (Ev.t 14 (.g (.d (.sl 3 (List.map encApi_Dep p_0))))) rfl) (by rw [List.length_map])) rfl ⟨rfl, trivial⟩ trivial ?_
    refine G.op1 (op_move (Ev.c _ rfl) rfl) rfl trivial trivial ?_
    refine G.endOps ?_
    refine G.joinC (T := ByteArray) (fun y5 => ⟨[(3, .one (.ptr 1003 0))], [(1003, some (.bld 61 5 3003 y5)), (3003, some (.hid true 1003))]⟩) (fun y5 => past_Bytes_k1 y5 = some r) (fun y5 hF => ?_) (fun J7 => ?_)
    · unfold past_Bytes_k1 at hF
      refine G.seq ?_
      refine G.region ?_
      obtain ⟨r6, hr6, hF⟩ := bindS hF
      refine G.opM (op_callM (k := 1003) (h := .bld 61 5 y5) (h' := .gone) 3003 (sv := oS r6) cf25 (ct_bld_String y5 r6 hr6) rfl rfl (EvM.pt (Ev.t 3 (.ptr 1003 0)) EvM.nil) rfl) rfl ⟨rfl, trivial⟩ ⟨rfl, rfl, trivial⟩ ?_
      refine G.op1 (op_assign (Ev.t 29 (bS r6)) rfl) rfl ⟨rfl, trivial⟩ trivial ?_
      refine G.endOps ?_
      cases hF
      exact G.ret1 Try.results33 (RVar.tmp 2 _) ⟨rfl, trivial⟩ trivial
    refine G.block ?_
    refine G.keep (sl' := [(3, .one (.ptr 1003 0)), (14, .one (.g (.d (.sl 3 (List.map encApi_Dep p_0))))), (15, oI (p_0.length : Int)), (16, oI 0)]) (hp' := [(1003, some (.bld 61 5 3003 r4)), (3003, some (.hid true 1003))]) ⟨rfl, rfl, rfl, rfl, trivial⟩ ⟨rfl, rfl, trivial⟩ rfl ?_
    refine G.loopF (fun (v8 : Int × ByteArray) => ⟨[(3, .one (.ptr 1003 0)), (14, .one (.g (.d (.sl 3 (List.map encApi_Dep p_0))))), (15, oI (p_0.length : Int)), (16, oI v8.1)], [(1003, some (.bld 61 5 3003 v8.2)), (3003, some (.hid true 1003))]⟩) hF rfl (fun K11 again10 v8 J9 hF => ?_)
    unfold past_Bytes_l2 at hF
    refine G.seq ?_
    refine G.region ?_
    refine G.op1 (op_lss (Ev.t 16 (bI .i64 v8.1)) (Ev.t 15 (bI .i64 (p_0.length : Int))) rfl) rfl ⟨rfl, rfl, trivial⟩ trivial ?_
    refine G.endOps ?_
    refine G.seq ?_
    refine ifS hF (fun hc12 hF => ?_) (fun hc12 hF => ?_)
    · refine G.cond rfl (fun _ => ?_) (fun hx => by rw [hc12] at hx; cases hx)
      refine G.skip ?_
      refine G.seq ?_
      refine G.block ?_
      refine G.seq ?_
      refine G.region ?_
      obtain ⟨x13, hx13, hF⟩ := bindS hF
      refine G.op1 (op_index (cs := [vS x13.Key, vI x13.Stamp.N, vI x13.Stamp.Site]) Try.underlying41 ti100 (idx_ok hx13).1 (idx_get hx13 encApi_Dep) (Ev.t 14 (.g (.d (.sl 3 (List.map encApi_Dep p_0))))) (Ev.t 16 (bI .i64 v8.1)) rfl) rfl ⟨rfl, rfl, trivial⟩ trivial ?_
      refine G.op1 (op_loadAE (ds := [vS x13.Key, vI x13.Stamp.N, vI x13.Stamp.Site]) Try.underlying100 rfl ti100 rfl (Ev.t 18 (.ep [vS x13.Key, vI x13.Stamp.N, vI x13.Stamp.Site])) rfl) rfl ⟨rfl, trivial⟩ trivial ?_
      refine G.op2 (op_alloc (k := 1005) (cs := [bS ByteArray.empty, bI .i64 0, bI .i64 0]) ti100 ⟨.v _ rfl, .v _ rfl, .v _ rfl, trivial⟩ rfl) rfl trivial ⟨rfl, trivial⟩ ?_
      refine G.op3 (op_storeA (cs' := [bS x13.Key, bI .i64 x13.Stamp.N, bI .i64 x13.Stamp.Site]) ti100 rfl rfl (Ev.t 5 (.ptr 1005 0)) (Ev.t 19 (.g (.agg [vS x13.Key, vI x13.Stamp.N, vI x13.Stamp.Site])))) rfl ⟨rfl, rfl, trivial⟩ ⟨rfl, trivial⟩ ?_
      refine G.endOps ?_
      obtain ⟨r14, hr14, hF⟩ := bindS hF
      obtain ⟨r15, hr15, hF⟩ := bindS hF
      obtain ⟨s16, hs16, hF⟩ := bindS hF
      obtain ⟨r17, hr17, hF⟩ := bindS hF
      refine G.drawnI (deps := [[], [0], [0, 1], [], [3], [0, 1, 2, 3, 4], [0, 1, 2, 3, 4, 5], [0, 1, 2, 3, 4, 5, 6]]) (sl' := [(3, .one (.ptr 1003 0)), (14, .one (.g (.d (.sl 3 (List.map encApi_Dep p_0))))), (15, oI (p_0.length : Int)), (16, oI v8.1)]) (hp' := [(1003, some (.bld 61 5 3003 r17)), (3003, some (.hid true 1003))]) (.c (oP rfl rfl (op_fieldP (off' := 0) Try.underlying100 rfl ti9 (by decide) rfl (Ev.t 5 (.ptr 1005 0)) rfl)) (.c (oP rfl rfl (op_load1P (c := bS x13.Key) Try.underlying9 rfl rfl (Ev.t 20 (.ptr 1005 0)) rfl)) (.c (oP rfl rfl (op_callQ (sv := oS r14) cf24 (ct_vary_Text x13.Key r14 hr14) rfl rfl (EvQL.cons (EvQ.g (Ev.t 21 (bS x13.Key))) EvQL.nil) rfl)) (.c (oP rfl rfl (op_fieldP (off' := 1) Try.underlying100 rfl ti40 (by decide) rfl (Ev.t 5 (.ptr 1005 0)) rfl)) (.c (oP rfl rfl (op_loadAP (ds := [vI x13.Stamp.N, vI x13.Stamp.Site]) Try.underlying40 rfl ti40 rfl (Ev.t 23 (.ptr 1005 1)) rfl)) (.c (oP rfl rfl (op_callQ (sv := oS r15) cf32 (ct_stamp_Bytes x13.Stamp r15 hr15) rfl rfl (EvQL.cons (EvQ.g (Ev.t 24 (.g (.agg [vI x13.Stamp.N, vI x13.Stamp.Site])))) EvQL.nil) rfl)) (.c (oP rfl rfl (OpL.cast (op_cat (scat_ok hs16).1 (Ev.t 22 (bS r14)) (Ev.t 25 (bS r15)) rfl) (by rw [(scat_ok hs16).2]))) (.c (oP rfl rfl (op_callM (k := 1003) (h := .bld 61 5 v8.2) (h' := .bld 61 5 r17) 3003 (sv := .tup [bI .i64 (s16.size : Int), .g (.d (.v .nilIface))]) cf22 (ct_bld_WriteString v8.2 s16 r17 hr17) rfl rfl (EvM.pt (Ev.t 3 (.ptr 1003 0)) (EvM.g (Ev.t 26 (bS s16)) EvM.nil)) rfl)) .nil)))))))) follows rfl rfl rfl ⟨⟨rfl, trivial⟩, trivial, ⟨rfl, trivial⟩, ⟨⟨rfl, rfl⟩, trivial⟩, ⟨rfl, trivial⟩, trivial, ⟨rfl, trivial⟩, trivial, ⟨rfl, trivial⟩, ⟨⟨rfl, rfl⟩, trivial⟩, ⟨rfl, trivial⟩, trivial, ⟨rfl, rfl, trivial⟩, trivial, ⟨rfl, rfl, trivial⟩, ⟨⟨rfl, rfl⟩, ⟨rfl, rfl⟩, trivial⟩, trivial⟩ ⟨rfl, rfl, rfl, rfl, trivial⟩ ⟨rfl, rfl, trivial⟩ rfl ?_
      refine G.endBlock ?_
      refine G.region ?_
      refine G.op1 (op_add (Ev.t 16 (bI .i64 v8.1)) (Ev.c _ rfl) rfl) rfl ⟨rfl, trivial⟩ trivial ?_
      refine G.op1 (op_move (Ev.t 28 (bI .i64 (IntKind.wrap .i64 (v8.1 + 1)))) rfl) rfl ⟨rfl, trivial⟩ trivial ?_
      refine G.endOps ?_
      exact G.arr (J9 (IntKind.wrap .i64 (v8.1 + 1), r17) hF) ⟨rfl, rfl, rfl, rfl, trivial⟩ ⟨rfl, rfl, trivial⟩ rfl
    · refine G.cond rfl (fun hx => by rw [hc12] at hx; cases hx) (fun _ => ?_)
      refine G.exit ?_
      refine GX.c ?_
      refine GX.q ?_
      refine GX.bYes ?_
      exact G.arr (J7 v8.2 hF) ⟨rfl, trivial⟩ ⟨rfl, rfl, trivial⟩ rfl


set_option maxHeartbeats 2000000 in
set_option maxRecDepth 1000000 in
theorem bGW61 (b n : Nat) (w : World) (hbk : w.heap[b]? = some (.cells #[.pointer (some ⟨b, 0, none⟩), .slice none 0 0] 61 (0, 0))) (hn : n ≤ 140737488355328) :
    Calls Try.prog 61 #[.pointer (some ⟨b, 0, none⟩), .int .i64 n] w fun e w' => e = .returned (.tuple #[]) ∧ BPost 61 5 w b none ByteArray.empty w' := by
  have hSB : (Try.prog.info? 5).map (·.size) = some 1 := by kernel_rfl
  have t61 := Try.underlying61; have a61 := Try.isAgg61; have z61 := Try.sizeOf61; have v61 := Try.zeroValue61; have u61 := run_underlying t61
  have t59 := Try.underlying59; have a59 := Try.isAgg59; have z59 := Try.sizeOf59; have v59 := Try.zeroValue59; have u59 := run_underlying t59
  have t48 := Try.underlying48; have a48 := Try.isAgg48; have z48 := Try.sizeOf48; have v48 := Try.zeroValue48; have u48 := run_underlying t48
  have t5 := Try.underlying5; have a5 := Try.isAgg5; have z5 := Try.sizeOf5; have v5 := Try.zeroValue5; have u5 := run_underlying t5
  have t9 := Try.underlying9; have a9 := Try.isAgg9; have z9 := Try.sizeOf9; have v9 := Try.zeroValue9; have u9 := run_underlying t9
  have t4 := Try.underlying4; have a4 := Try.isAgg4; have z4 := Try.sizeOf4; have v4 := Try.zeroValue4; have u4 := run_underlying t4
  have t3 := Try.underlying3; have a3 := Try.isAgg3; have z3 := Try.sizeOf3; have v3 := Try.zeroValue3; have u3 := run_underlying t3
  obtain ⟨cs, hrun, hle, hmax⟩ := Lib.run_makeNoZero (P := Try.prog) w.drew #[3] 48 5 t48 n (by omega)
  have hw : IntKind.i64.wrap (IntKind.i64.wrap 0 + (n : Int)) = n := by
    rw [IntKind.wrap_i64, IntKind.wrap_i64]
    omega
  have hcall : (callFunc 64 #[.int .i64 (IntKind.i64.wrap (IntKind.i64.wrap 0 + (n : Int)))]).run Try.prog w.drew = .ok (.value (.slice (some ⟨w.drew.heap.size, 0, none⟩) n cs.size)) (w.drew.drew.drew.alloc (.cells cs 5)) := by
    rw [hw, run_callFunc_extern Try.func64 (by kernel_rfl) (by kernel_rfl) (by kernel_rfl) (e := Extern.BytealgMakeNoZero.makeNoZero #[3] #[48]) (by kernel_rfl), hrun]
    rfl
  have hlt : b < w.heap.size := (Array.getElem?_eq_some_iff.1 hbk).1
  have c1 : w.drew.cell? ⟨b, 1, none⟩ = some (.slice none 0 0) := by
    have : w.drew.heap[b]? = _ := hbk
    rw [Lib.cell_of_heap this]; rfl
  have c2 : (w.alloc (.cells cs 5)).cell? ⟨b, 1, none⟩ = some (.slice none 0 0) := by
    have : (w.alloc (.cells cs 5)).heap[b]? = _ := (Lib.alloc_old w _ b hlt).trans hbk
    rw [Lib.cell_of_heap this]; rfl
  have f2 : (w.alloc (.cells cs 5)).frozen? ⟨b, 1, none⟩ = false := Lib.frozen_of_heap ((Lib.alloc_old w _ b hlt).trans hbk) 1
  have hcopy : ∀ W : World, (Builtin.copy_ #[48, 48] 3 #[.slice (some ⟨w.heap.size, 0, none⟩) 0 cs.size, .slice none 0 0]).run Try.prog W = .ok (goInt 0) W :=
    fun W => run_copy_none W 48 48 3 5 _ _ 0 cs.size 0 0 t48 hSB rfl
  have mixed : Try.prog.follows .mixedOrders = true := by kernel_rfl
  have hfin := grown_new (T := 61) (E := 5) (cs := cs) hbk (hmax (by unfold maxLen; omega)) (by decide)
  clear hw hlt
  go_enter Try.func61, Try.ntmps61
  go_wp2
  go_region_o
  all_goals (go_wp2; go_end0; exact ⟨rfl, hfin⟩)


set_option maxHeartbeats 2000000 in
set_option maxRecDepth 1000000 in
theorem bGR52 (n : Nat) (hn : n ≤ 140737488355328) (b : Nat) (w : World) (hbk : w.heap[b]? = some (.cells #[.pointer none, .slice none 0 0] 61 (0, 0))) :
    Calls Try.prog 52 #[.pointer (some ⟨b, 0, none⟩), .int .i64 n] w fun e w' => e = .returned (.tuple #[]) ∧ BPost 61 5 w b none ByteArray.empty w' := by
  have hbk1 : (w.setCell ⟨b, 0, none⟩ (.pointer (some ⟨b, 0, none⟩))).heap[b]? = some (.cells #[.pointer (some ⟨b, 0, none⟩), .slice none 0 0] 61 (0, 0)) := by
    simp [World.setCell, Array.getElem?_modify, hbk]
  have c1 : (w.setCell ⟨b, 0, none⟩ (.pointer (some ⟨b, 0, none⟩))).cell? ⟨b, 1, none⟩ = some (.slice none 0 0) := by rw [Lib.cell_of_heap hbk1]; rfl
  have t61 := Try.underlying61; have a61 := Try.isAgg61; have z61 := Try.sizeOf61; have v61 := Try.zeroValue61; have u61 := run_underlying t61
  have t59 := Try.underlying59; have a59 := Try.isAgg59; have z59 := Try.sizeOf59; have v59 := Try.zeroValue59; have u59 := run_underlying t59
  have t48 := Try.underlying48; have a48 := Try.isAgg48; have z48 := Try.sizeOf48; have v48 := Try.zeroValue48; have u48 := run_underlying t48
  have t5 := Try.underlying5; have a5 := Try.isAgg5; have z5 := Try.sizeOf5; have v5 := Try.zeroValue5; have u5 := run_underlying t5
  have t9 := Try.underlying9; have a9 := Try.isAgg9; have z9 := Try.sizeOf9; have v9 := Try.zeroValue9; have u9 := run_underlying t9
  have t4 := Try.underlying4; have a4 := Try.isAgg4; have z4 := Try.sizeOf4; have v4 := Try.zeroValue4; have u4 := run_underlying t4
  have t3 := Try.underlying3; have a3 := Try.isAgg3; have z3 := Try.sizeOf3; have v3 := Try.zeroValue3; have u3 := run_underlying t3
  have mixed : Try.prog.follows .mixedOrders = true := by kernel_rfl
  have c1' : (w.setCell ⟨b, 0, none⟩ (.pointer (some ⟨b, 0, none⟩))).drew.cell? ⟨b, 1, none⟩ = some (.slice none 0 0) := c1
  have hpost := bpost_fresh (E := 5) hbk
  have hpost2 := fun w' h => bpost_after (E := 5) (w' := w') hbk h
  go_enter Try.func52, Try.ntmps52
  go_wp2_with (go_at_call 46; refine (bCC46_fresh b _ w hbk).mono ?_; rintro e w' ⟨rfl, rfl⟩)
  go_region_o
  all_goals go_wp2_with (go_at_call 61; refine (bGW61 b n (w.setCell ⟨b, 0, none⟩ (.pointer (some ⟨b, 0, none⟩))).drew hbk1 hn).mono ?_; rintro e w' ⟨rfl, h1⟩)
  all_goals first
    | (go_end0; exact ⟨rfl, hpost2 _ h1⟩)
    | (go_end0; exact ⟨rfl, hpost⟩)


set_option maxRecDepth 20000 in
set_option maxHeartbeats 2000000 in
theorem ct_strings_Join (elems_0 : (List ByteArray)) (sep_1 : ByteArray) (r : ByteArray) (hF : strings_Join elems_0 sep_1 = some r) : Ct Try.prog 31 [.g (.d (.sl 1 (List.map encS elems_0))), .g (.d (vS sep_1))] (.one (.d (vS r))) := by
  unfold strings_Join at hF
  refine Ct.intro Try.func31 rfl Try.ntmps31 rfl rfl fun M w => ?_
  refine G.seq ?_
  refine G.region ?_
  refine G.op1 (op_assign (Ev.c _ rfl) rfl) rfl trivial trivial ?_
  refine G.endOps ?_
  refine G.seq ?_
  refine G.seq ?_
  refine G.region ?_
  refine G.op1 (op_move (Ev.t 0 (.g (.d (.sl 1 (List.map encS elems_0))))) rfl) rfl ⟨rfl, trivial⟩ trivial ?_
  refine G.op1 (OpL.cast (op_lenD Try.underlying80 (Ev.t 11 (.g (.d (.sl 1 (List.map encS elems_0))))) rfl) (by rw [List.length_map])) rfl ⟨rfl, trivial⟩ trivial ?_
  refine G.endOps ?_
  refine G.block ?_
  refine G.seq ?_
  refine G.region ?_
  refine G.op1 (op_eqI (Ev.t 12 (bI .i64 (elems_0.length : Int))) (Ev.c _ rfl) rfl) rfl ⟨rfl, trivial⟩ trivial ?_
  refine G.op1 (op_assign (Ev.t 14 (bB (decide ((elems_0.length : Int) = 0)))) rfl) rfl ⟨rfl, trivial⟩ trivial ?_
  refine G.endOps ?_
  refine ifS hF (fun hc1 hF => ?_) (fun hc1 hF => ?_)
  · refine G.cond rfl (fun _ => ?_) (fun hx => by rw [hc1] at hx; cases hx)
    refine G.seq ?_
    refine G.region ?_
    refine G.op1 (op_assign (Ev.c _ rfl) rfl) rfl trivial trivial ?_
    refine G.endOps ?_
    cases hF
    exact G.ret1 Try.results31 (RVar.tmp 4 _) ⟨rfl, trivial⟩ trivial
  · refine G.cond rfl (fun hx => by rw [hc1] at hx; cases hx) (fun _ => ?_)
    refine G.seq ?_
    refine G.region ?_
    refine G.op1 (op_eqI (Ev.t 12 (bI .i64 (elems_0.length : Int))) (Ev.c _ rfl) rfl) rfl ⟨rfl, trivial⟩ trivial ?_
    refine G.op1 (op_assign (Ev.t 16 (bB (decide ((elems_0.length : Int) = 1)))) rfl) rfl ⟨rfl, trivial⟩ trivial ?_
    refine G.endOps ?_
    refine ifS hF (fun hc2 hF => ?_) (fun hc2 hF => ?_)
    · refine G.cond rfl (fun _ => ?_) (fun hx => by rw [hc2] at hx; cases hx)
      refine G.seq ?_
      refine G.region ?_
      refine G.op1 (op_move (Ev.t 0 (.g (.d (.sl 1 (List.map encS elems_0))))) rfl) rfl ⟨rfl, trivial⟩ trivial ?_
      obtain ⟨x3, hx3, hF⟩ := bindS hF
      refine G.op1 (op_index (cs := [vS x3]) Try.underlying80 ti9 (idx_ok hx3).1 (idx_get hx3 encS) (Ev.t 17 (.g (.d (.sl 1 (List.map encS elems_0))))) (Ev.c _ rfl) rfl) rfl ⟨rfl, trivial⟩ trivial ?_
      refine G.op1 (op_load1E (c := vS x3) Try.underlying9 rfl rfl (Ev.t 18 (.ep [vS x3])) rfl) rfl ⟨rfl, trivial⟩ trivial ?_
      refine G.op1 (op_assign (Ev.t 19 (bS x3)) rfl) rfl ⟨rfl, trivial⟩ trivial ?_
      refine G.endOps ?_
      cases hF
      exact G.ret1 Try.results31 (RVar.tmp 4 _) ⟨rfl, trivial⟩ trivial
    · refine G.cond rfl (fun hx => by rw [hc2] at hx; cases hx) (fun _ => ?_)
      refine G.skip ?_
      refine G.endBlock ?_
      refine G.seq ?_
      refine G.region ?_
      refine G.op1 (op_assign (Ev.c _ rfl) rfl) rfl trivial trivial ?_
      refine G.endOps ?_
      refine G.seq ?_
      refine G.seq ?_
      refine G.region ?_
      refine G.op1 (op_move (Ev.t 1 (bS sep_1)) rfl) rfl ⟨rfl, trivial⟩ trivial ?_
      refine G.op1 (op_lenS Try.underlying9 (Ev.t 20 (bS sep_1)) rfl) rfl ⟨rfl, trivial⟩ trivial ?_
      refine G.op1 (op_gtr (Ev.t 21 (bI .i64 (sep_1.size : Int))) (Ev.c _ rfl) rfl) rfl ⟨rfl, trivial⟩ trivial ?_
      refine G.endOps ?_
      refine G.joinC (T := Int) (fun y4 => ⟨[(0, .one (.g (.d (.sl 1 (List.map encS elems_0))))), (1, oS sep_1), (5, oI y4)], []⟩) (fun y4 => strings_Join_k1 elems_0 sep_1 y4 = some r) (fun y4 hF => ?_) (fun J31 => ?_)
      · unfold strings_Join_k1 at hF
        refine G.seq ?_
        refine G.seq ?_
        refine G.region ?_
        refine G.op1 (op_move (Ev.t 0 (.g (.d (.sl 1 (List.map encS elems_0))))) rfl) rfl ⟨rfl, trivial⟩ trivial ?_
        refine G.op1 (OpL.cast (op_lenD Try.underlying80 (Ev.t 39 (.g (.d (.sl 1 (List.map encS elems_0))))) rfl) (by rw [List.length_map])) rfl ⟨rfl, trivial⟩ trivial ?_
        refine G.op1 (op_move (Ev.c _ rfl) rfl) rfl trivial trivial ?_
        refine G.endOps ?_
        refine G.joinC (T := Int) (fun y5 => ⟨[(0, .one (.g (.d (.sl 1 (List.map encS elems_0))))), (1, oS sep_1), (5, oI y5)], []⟩) (fun y5 => strings_Join_k2 elems_0 sep_1 y5 = some r) (fun y5 hF => ?_) (fun J21 => ?_)
        · unfold strings_Join_k2 at hF
          refine G.seq ?_
          refine G.region ?_
          refine G.op2 (op_alloc (k := 1008) (cs := [.g (.d (.v (.pointer none))), .g (.d (.v (.slice none 0 0)))]) ti61 ⟨.v _ rfl, .v _ rfl, trivial⟩ rfl) rfl trivial ⟨rfl, trivial⟩ ?_
          refine G.endOps ?_
          refine G.seq ?_
          refine G.region ?_
          refine G.op1 (op_move (Ev.t 5 (bI .i64 y5)) rfl) rfl ⟨rfl, trivial⟩ trivial ?_
          obtain ⟨hz6, hF⟩ := chkS hF
          refine G.opM (op_grow (T := 61) (E := 5) (k := 1008) (kk := 3008) cf52 (of_decide_eq_true hz6) bGR52 rfl rfl (Ev.t 8 (.ptr 1008 0)) (Ev.t 56 (bI .i64 y5)) rfl) rfl ⟨rfl, rfl, trivial⟩ ⟨rfl, rfl, trivial⟩ ?_
          refine G.endOps ?_
          refine G.seq ?_
          refine G.region ?_
          refine G.op1 (op_move (Ev.t 0 (.g (.d (.sl 1 (List.map encS elems_0))))) rfl) rfl ⟨rfl, trivial⟩ trivial ?_
          obtain ⟨x7, hx7, hF⟩ := bindS hF
          refine G.op1 (op_index (cs := [vS x7]) Try.underlying80 ti9 (idx_ok hx7).1 (idx_get hx7 encS) (Ev.t 58 (.g (.d (.sl 1 (List.map encS elems_0))))) (Ev.c _ rfl) rfl) rfl ⟨rfl, trivial⟩ trivial ?_
          refine G.op1 (op_load1E (c := vS x7) Try.underlying9 rfl rfl (Ev.t 59 (.ep [vS x7])) rfl) rfl ⟨rfl, trivial⟩ trivial ?_
          obtain ⟨r8, hr8, hF⟩ := bindS hF
          refine G.opM (op_callM (k := 1008) (h := .bld 61 5 ByteArray.empty) (h' := .bld 61 5 r8) 3008 (sv := .tup [bI .i64 (x7.size : Int), .g (.d (.v .nilIface))]) cf22 (ct_bld_WriteString ByteArray.empty x7 r8 hr8) rfl rfl (EvM.pt (Ev.t 8 (.ptr 1008 0)) (EvM.g (Ev.t 60 (bS x7)) EvM.nil)) rfl) rfl ⟨rfl, rfl, trivial⟩ ⟨rfl, rfl, trivial⟩ ?_
          refine G.endOps ?_
          refine G.seq ?_
          refine G.seq ?_
          refine G.region ?_
          refine G.op1 (op_move (Ev.t 0 (.g (.d (.sl 1 (List.map encS elems_0))))) rfl) rfl ⟨rfl, trivial⟩ trivial ?_
          obtain ⟨l9, hl9, hF⟩ := bindS hF
          refine G.op1 (op_sliceD (lo := some 1) (hi := none) Try.underlying80 ti9 (sub_okE hl9 encS).1 (sub_okE hl9 encS).2.1 (Int.le_refl _) (sub_okE hl9 encS).2.2 (Ev.t 62 (.g (.d (.sl 1 (List.map encS elems_0))))) (EvO.some (Ev.c _ rfl)) EvO.none rfl) rfl ⟨rfl, trivial⟩ trivial ?_
          refine G.op1 (OpL.cast (op_lenD Try.underlying80 (Ev.t 63 (.g (.d (.sl 1 (List.map encS l9))))) rfl) (by rw [List.length_map])) rfl ⟨rfl, trivial⟩ trivial ?_
          refine G.op1 (op_move (Ev.c _ rfl) rfl) rfl trivial trivial ?_
          refine G.endOps ?_
          refine G.joinC (T := ByteArray) (fun y10 => ⟨[(8, .one (.ptr 1008 0))], [(1008, some (.bld 61 5 3008 y10)), (3008, some (.hid true 1008))]⟩) (fun y10 => strings_Join_k3 y10 = some r) (fun y10 hF => ?_) (fun J12 => ?_)
          · unfold strings_Join_k3 at hF
            refine G.seq ?_
            refine G.region ?_
            obtain ⟨r11, hr11, hF⟩ := bindS hF
            refine G.opM (op_callM (k := 1008) (h := .bld 61 5 y10) (h' := .gone) 3008 (sv := oS r11) cf25 (ct_bld_String y10 r11 hr11) rfl rfl (EvM.pt (Ev.t 8 (.ptr 1008 0)) EvM.nil) rfl) rfl ⟨rfl, trivial⟩ ⟨rfl, rfl, trivial⟩ ?_
            refine G.op1 (op_assign (Ev.t 74 (bS r11)) rfl) rfl ⟨rfl, trivial⟩ trivial ?_
            refine G.endOps ?_
            cases hF
            exact G.ret1 Try.results31 (RVar.tmp 4 _) ⟨rfl, trivial⟩ trivial
          refine G.block ?_
          refine G.keep (sl' := [(1, oS sep_1), (8, .one (.ptr 1008 0)), (63, .one (.g (.d (.sl 1 (List.map encS l9))))), (64, oI (l9.length : Int)), (65, oI 0)]) (hp' := [(1008, some (.bld 61 5 3008 r8)), (3008, some (.hid true 1008))]) ⟨rfl, rfl, rfl, rfl, rfl, trivial⟩ ⟨rfl, rfl, trivial⟩ rfl ?_
          refine G.loopF (fun (v13 : Int × ByteArray) => ⟨[(1, oS sep_1), (8, .one (.ptr 1008 0)), (63, .one (.g (.d (.sl 1 (List.map encS l9))))), (64, oI (l9.length : Int)), (65, oI v13.1)], [(1008, some (.bld 61 5 3008 v13.2)), (3008, some (.hid true 1008))]⟩) hF rfl (fun K16 again15 v13 J14 hF => ?_)
          unfold strings_Join_l4 at hF
          refine G.seq ?_
          refine G.region ?_
          refine G.op1 (op_lss (Ev.t 65 (bI .i64 v13.1)) (Ev.t 64 (bI .i64 (l9.length : Int))) rfl) rfl ⟨rfl, rfl, trivial⟩ trivial ?_
          refine G.endOps ?_
          refine G.seq ?_
          refine ifS hF (fun hc17 hF => ?_) (fun hc17 hF => ?_)
          · refine G.cond rfl (fun _ => ?_) (fun hx => by rw [hc17] at hx; cases hx)
            refine G.skip ?_
            refine G.seq ?_
            refine G.block ?_
            refine G.seq ?_
            refine G.region ?_
            obtain ⟨x18, hx18, hF⟩ := bindS hF
            refine G.op1 (op_index (cs := [vS x18]) Try.underlying80 ti9 (idx_ok hx18).1 (idx_get hx18 encS) (Ev.t 63 (.g (.d (.sl 1 (List.map encS l9))))) (Ev.t 65 (bI .i64 v13.1)) rfl) rfl ⟨rfl, rfl, trivial⟩ trivial ?_
            refine G.op1 (op_load1E (c := vS x18) Try.underlying9 rfl rfl (Ev.t 67 (.ep [vS x18])) rfl) rfl ⟨rfl, trivial⟩ trivial ?_
            refine G.op1 (op_assign (Ev.t 68 (bS x18)) rfl) rfl ⟨rfl, trivial⟩ trivial ?_
            refine G.endOps ?_
            refine G.seq ?_
            refine G.region ?_
            refine G.op1 (op_move (Ev.t 1 (bS sep_1)) rfl) rfl ⟨rfl, trivial⟩ trivial ?_
            obtain ⟨r19, hr19, hF⟩ := bindS hF
            refine G.opM (op_callM (k := 1008) (h := .bld 61 5 v13.2) (h' := .bld 61 5 r19) 3008 (sv := .tup [bI .i64 (sep_1.size : Int), .g (.d (.v .nilIface))]) cf22 (ct_bld_WriteString v13.2 sep_1 r19 hr19) rfl rfl (EvM.pt (Ev.t 8 (.ptr 1008 0)) (EvM.g (Ev.t 69 (bS sep_1)) EvM.nil)) rfl) rfl ⟨rfl, rfl, trivial⟩ ⟨rfl, rfl, trivial⟩ ?_
            refine G.endOps ?_
            refine G.region ?_
            refine G.op1 (op_move (Ev.t 10 (bS x18)) rfl) rfl ⟨rfl, trivial⟩ trivial ?_
            obtain ⟨r20, hr20, hF⟩ := bindS hF
            refine G.opM (op_callM (k := 1008) (h := .bld 61 5 r19) (h' := .bld 61 5 r20) 3008 (sv := .tup [bI .i64 (x18.size : Int), .g (.d (.v .nilIface))]) cf22 (ct_bld_WriteString r19 x18 r20 hr20) rfl rfl (EvM.pt (Ev.t 8 (.ptr 1008 0)) (EvM.g (Ev.t 71 (bS x18)) EvM.nil)) rfl) rfl ⟨rfl, rfl, trivial⟩ ⟨rfl, rfl, trivial⟩ ?_
            refine G.endOps ?_
            refine G.endBlock ?_
            refine G.region ?_
            refine G.op1 (op_add (Ev.t 65 (bI .i64 v13.1)) (Ev.c _ rfl) rfl) rfl ⟨rfl, trivial⟩ trivial ?_
            refine G.op1 (op_move (Ev.t 73 (bI .i64 (IntKind.wrap .i64 (v13.1 + 1)))) rfl) rfl ⟨rfl, trivial⟩ trivial ?_
            refine G.endOps ?_
            exact G.arr (J14 (IntKind.wrap .i64 (v13.1 + 1), r20) hF) ⟨rfl, rfl, rfl, rfl, rfl, trivial⟩ ⟨rfl, rfl, trivial⟩ rfl
          · refine G.cond rfl (fun hx => by rw [hc17] at hx; cases hx) (fun _ => ?_)
            refine G.exit ?_
            refine GX.c ?_
            refine GX.q ?_
            refine GX.bYes ?_
            exact G.arr (J12 v13.2 hF) ⟨rfl, trivial⟩ ⟨rfl, rfl, trivial⟩ rfl
        refine G.block ?_
        refine G.keep (sl' := [(0, .one (.g (.d (.sl 1 (List.map encS elems_0))))), (1, oS sep_1), (5, oI y4), (39, .one (.g (.d (.sl 1 (List.map encS elems_0))))), (40, oI (elems_0.length : Int)), (41, oI 0)]) (hp' := []) ⟨rfl, rfl, rfl, rfl, rfl, rfl, trivial⟩ trivial rfl ?_
        refine G.loopF (fun (v22 : Int × Int) => ⟨[(0, .one (.g (.d (.sl 1 (List.map encS elems_0))))), (1, oS sep_1), (5, oI v22.1), (39, .one (.g (.d (.sl 1 (List.map encS elems_0))))), (40, oI (elems_0.length : Int)), (41, oI v22.2)], []⟩) hF rfl (fun K25 again24 v22 J23 hF => ?_)
        unfold strings_Join_l5 at hF
        refine G.seq ?_
        refine G.region ?_
        refine G.op1 (op_lss (Ev.t 41 (bI .i64 v22.2)) (Ev.t 40 (bI .i64 (elems_0.length : Int))) rfl) rfl ⟨rfl, rfl, trivial⟩ trivial ?_
        refine G.endOps ?_
        refine G.seq ?_
        refine ifS hF (fun hc26 hF => ?_) (fun hc26 hF => ?_)
        · refine G.cond rfl (fun _ => ?_) (fun hx => by rw [hc26] at hx; cases hx)
          refine G.skip ?_
          refine G.seq ?_
          refine G.block ?_
          refine G.seq ?_
          refine G.region ?_
          obtain ⟨x27, hx27, hF⟩ := bindS hF
          refine G.op1 (op_index (cs := [vS x27]) Try.underlying80 ti9 (idx_ok hx27).1 (idx_get hx27 encS) (Ev.t 39 (.g (.d (.sl 1 (List.map encS elems_0))))) (Ev.t 41 (bI .i64 v22.2)) rfl) rfl ⟨rfl, rfl, trivial⟩ trivial ?_
          refine G.op1 (op_load1E (c := vS x27) Try.underlying9 rfl rfl (Ev.t 43 (.ep [vS x27])) rfl) rfl ⟨rfl, trivial⟩ trivial ?_
          refine G.op1 (op_assign (Ev.t 44 (bS x27)) rfl) rfl ⟨rfl, trivial⟩ trivial ?_
          refine G.endOps ?_
          refine G.seq ?_
          refine G.seq ?_
          refine G.region ?_
          refine G.op1 (op_move (Ev.t 7 (bS x27)) rfl) rfl ⟨rfl, trivial⟩ trivial ?_
          refine G.op1 (op_lenS Try.underlying9 (Ev.t 45 (bS x27)) rfl) rfl ⟨rfl, trivial⟩ trivial ?_
          refine G.op1 (op_move (Ev.t 5 (bI .i64 v22.1)) rfl) rfl ⟨rfl, trivial⟩ trivial ?_
          refine G.op1 (op_sub (Ev.c _ rfl) (Ev.t 47 (bI .i64 v22.1)) rfl) rfl ⟨rfl, trivial⟩ trivial ?_
          refine G.op1 (op_gtr (Ev.t 46 (bI .i64 (x27.size : Int))) (Ev.t 48 (bI .i64 (IntKind.wrap .i64 (9223372036854775807 - v22.1)))) rfl) rfl ⟨rfl, rfl, trivial⟩ trivial ?_
          refine G.endOps ?_
          refine G.joinC (T := Unit) (fun y28 => ⟨[(0, .one (.g (.d (.sl 1 (List.map encS elems_0))))), (1, oS sep_1), (5, oI v22.1), (7, oS x27), (39, .one (.g (.d (.sl 1 (List.map encS elems_0))))), (40, oI (elems_0.length : Int)), (41, oI v22.2)], []⟩) (fun y28 => strings_Join_k6 again24 v22 x27 y28 = some r) (fun y28 hF => ?_) (fun J29 => ?_)
          · unfold strings_Join_k6 at hF
            refine G.region ?_
            refine G.op1 (op_move (Ev.t 5 (bI .i64 v22.1)) rfl) rfl ⟨rfl, trivial⟩ trivial ?_
            refine G.op1 (op_move (Ev.t 7 (bS x27)) rfl) rfl ⟨rfl, trivial⟩ trivial ?_
            refine G.op1 (op_lenS Try.underlying9 (Ev.t 52 (bS x27)) rfl) rfl ⟨rfl, trivial⟩ trivial ?_
            refine G.op1 (op_add (Ev.t 51 (bI .i64 v22.1)) (Ev.t 53 (bI .i64 (x27.size : Int))) rfl) rfl ⟨rfl, rfl, trivial⟩ trivial ?_
            refine G.op1 (op_assign (Ev.t 54 (bI .i64 (IntKind.wrap .i64 (v22.1 + (x27.size : Int))))) rfl) rfl ⟨rfl, trivial⟩ trivial ?_
            refine G.endOps ?_
            refine G.endBlock ?_
            refine G.region ?_
            refine G.op1 (op_add (Ev.t 41 (bI .i64 v22.2)) (Ev.c _ rfl) rfl) rfl ⟨rfl, trivial⟩ trivial ?_
            refine G.op1 (op_move (Ev.t 55 (bI .i64 (IntKind.wrap .i64 (v22.2 + 1)))) rfl) rfl ⟨rfl, trivial⟩ trivial ?_
            refine G.endOps ?_
            exact G.arr (J23 (IntKind.wrap .i64 (v22.1 + (x27.size : Int)), IntKind.wrap .i64 (v22.2 + 1)) hF) ⟨rfl, rfl, rfl, rfl, rfl, rfl, trivial⟩ trivial rfl
          refine ifS hF (fun hc30 hF => ?_) (fun hc30 hF => ?_)
          · refine G.cond rfl (fun _ => ?_) (fun hx => by rw [hc30] at hx; cases hx)
            cases hF
          · refine G.cond rfl (fun hx => by rw [hc30] at hx; cases hx) (fun _ => ?_)
            refine G.skip ?_
            exact G.arr (J29 () hF) ⟨rfl, rfl, rfl, rfl, rfl, rfl, rfl, trivial⟩ trivial rfl
        · refine G.cond rfl (fun hx => by rw [hc26] at hx; cases hx) (fun _ => ?_)
          refine G.exit ?_
          refine GX.c ?_
          refine GX.q ?_
          refine GX.bYes ?_
          exact G.arr (J21 v22.1 hF) ⟨rfl, rfl, rfl, trivial⟩ trivial rfl
      refine ifS hF (fun hc32 hF => ?_) (fun hc32 hF => ?_)
      · refine G.cond rfl (fun _ => ?_) (fun hx => by rw [hc32] at hx; cases hx)
        refine G.seq ?_
        refine G.seq ?_
        refine G.region ?_
        refine G.op1 (op_move (Ev.t 1 (bS sep_1)) rfl) rfl ⟨rfl, trivial⟩ trivial ?_
        refine G.op1 (op_lenS Try.underlying9 (Ev.t 23 (bS sep_1)) rfl) rfl ⟨rfl, trivial⟩ trivial ?_
        refine G.op1 (op_move (Ev.t 0 (.g (.d (.sl 1 (List.map encS elems_0))))) rfl) rfl ⟨rfl, trivial⟩ trivial ?_
        refine G.op1 (OpL.cast (op_lenD Try.underlying80 (Ev.t 25 (.g (.d (.sl 1 (List.map encS elems_0))))) rfl) (by rw [List.length_map])) rfl ⟨rfl, trivial⟩ trivial ?_
        refine G.op1 (op_sub (Ev.t 26 (bI .i64 (elems_0.length : Int))) (Ev.c _ rfl) rfl) rfl ⟨rfl, trivial⟩ trivial ?_
        obtain ⟨hz33, hF⟩ := chkS hF
        refine G.op1 (op_quo (by simpa using hz33) (Ev.c _ rfl) (Ev.t 27 (bI .i64 (IntKind.wrap .i64 ((elems_0.length : Int) - 1)))) rfl) rfl ⟨rfl, trivial⟩ trivial ?_
        refine G.op1 (op_geq (Ev.t 24 (bI .i64 (sep_1.size : Int))) (Ev.t 28 (bI .i64 (IntKind.wrap .i64 (Int.tdiv 9223372036854775807 (IntKind.wrap .i64 ((elems_0.length : Int) - 1)))))) rfl) rfl ⟨rfl, rfl, trivial⟩ trivial ?_
        refine G.endOps ?_
        refine G.joinC (T := Unit) (fun y34 => ⟨[(0, .one (.g (.d (.sl 1 (List.map encS elems_0))))), (1, oS sep_1), (5, oI 0)], []⟩) (fun y34 => strings_Join_k7 elems_0 sep_1 y34 = some r) (fun y34 hF => ?_) (fun J35 => ?_)
        · unfold strings_Join_k7 at hF
          refine G.region ?_
          refine G.op1 (op_move (Ev.t 5 (bI .i64 0)) rfl) rfl ⟨rfl, trivial⟩ trivial ?_
          refine G.op1 (op_move (Ev.t 1 (bS sep_1)) rfl) rfl ⟨rfl, trivial⟩ trivial ?_
          refine G.op1 (op_lenS Try.underlying9 (Ev.t 32 (bS sep_1)) rfl) rfl ⟨rfl, trivial⟩ trivial ?_
          refine G.op1 (op_move (Ev.t 0 (.g (.d (.sl 1 (List.map encS elems_0))))) rfl) rfl ⟨rfl, trivial⟩ trivial ?_
          refine G.op1 (OpL.cast (op_lenD Try.underlying80 (Ev.t 34 (.g (.d (.sl 1 (List.map encS elems_0))))) rfl) (by rw [List.length_map])) rfl ⟨rfl, trivial⟩ trivial ?_
          refine G.op1 (op_sub (Ev.t 35 (bI .i64 (elems_0.length : Int))) (Ev.c _ rfl) rfl) rfl ⟨rfl, trivial⟩ trivial ?_
          refine G.op1 (op_mul (Ev.t 33 (bI .i64 (sep_1.size : Int))) (Ev.t 36 (bI .i64 (IntKind.wrap .i64 ((elems_0.length : Int) - 1)))) rfl) rfl ⟨rfl, rfl, trivial⟩ trivial ?_
          refine G.op1 (op_add (Ev.t 31 (bI .i64 0)) (Ev.t 37 (bI .i64 (IntKind.wrap .i64 ((sep_1.size : Int) * (IntKind.wrap .i64 ((elems_0.length : Int) - 1)))))) rfl) rfl ⟨rfl, rfl, trivial⟩ trivial ?_
          refine G.op1 (op_assign (Ev.t 38 (bI .i64 (IntKind.wrap .i64 (0 + (IntKind.wrap .i64 ((sep_1.size : Int) * (IntKind.wrap .i64 ((elems_0.length : Int) - 1)))))))) rfl) rfl ⟨rfl, trivial⟩ trivial ?_
          refine G.endOps ?_
          exact G.arr (J31 (IntKind.wrap .i64 (0 + (IntKind.wrap .i64 ((sep_1.size : Int) * (IntKind.wrap .i64 ((elems_0.length : Int) - 1)))))) hF) ⟨rfl, rfl, rfl, trivial⟩ trivial rfl
        refine ifS hF (fun hc36 hF => ?_) (fun hc36 hF => ?_)
        · refine G.cond rfl (fun _ => ?_) (fun hx => by rw [hc36] at hx; cases hx)
          cases hF
        · refine G.cond rfl (fun hx => by rw [hc36] at hx; cases hx) (fun _ => ?_)
          refine G.skip ?_
          exact G.arr (J35 () hF) ⟨rfl, rfl, rfl, trivial⟩ trivial rfl
      · refine G.cond rfl (fun hx => by rw [hc32] at hx; cases hx) (fun _ => ?_)
        refine G.skip ?_
        exact G.arr (J31 0 hF) ⟨rfl, rfl, rfl, trivial⟩ trivial rfl


set_option maxRecDepth 20000 in
set_option maxHeartbeats 2000000 in
theorem ct_wire_Bytes (v_0 : Api_Version) (r : ByteArray) (hF : wire_Bytes v_0 = some r) : Ct Try.prog 11 [.g (.agg (encApi_Version v_0))] (.one (.d (vS r))) := by
  unfold wire_Bytes at hF
  refine Ct.intro Try.func11 rfl Try.ntmps11 rfl rfl fun M w => ?_
  refine G.seq ?_
  refine G.region ?_
  refine G.op2 (op_boxA (k := 1001) (Ev.t 0 (.g (.agg [vS v_0.Key, vS v_0.Value, vB v_0.Gone, vI v_0.Stamp.N, vI v_0.Stamp.Site, .sl 3 (List.map encApi_Dep v_0.Past)]))) rfl) rfl ⟨rfl, trivial⟩ ⟨rfl, trivial⟩ ?_
  refine G.op1 (op_assign (Ev.c _ rfl) rfl) rfl trivial trivial ?_
  refine G.endOps ?_
  refine G.seq ?_
  refine G.seq ?_
  refine G.region ?_
  refine G.op1 (op_loadAP (ds := [vS v_0.Key, vS v_0.Value, vB v_0.Gone, vI v_0.Stamp.N, vI v_0.Stamp.Site, .sl 3 (List.map encApi_Dep v_0.Past)]) Try.underlying43 rfl ti43 rfl (Ev.t 1 (.ptr 1001 0)) rfl) rfl ⟨rfl, trivial⟩ ⟨rfl, trivial⟩ ?_
  obtain ⟨r1, hr1, hF⟩ := bindS hF
  refine G.op1 (op_callQ (sv := oB r1) cf30 (ct_wire_Check v_0 r1 hr1) rfl rfl (EvQL.cons (EvQ.g (Ev.t 4 (.g (.agg [vS v_0.Key, vS v_0.Value, vB v_0.Gone, vI v_0.Stamp.N, vI v_0.Stamp.Site, .sl 3 (List.map encApi_Dep v_0.Past)])))) EvQL.nil) rfl) rfl ⟨rfl, trivial⟩ trivial ?_
  refine G.op1 (op_not (Ev.t 5 (bB r1)) rfl) rfl ⟨rfl, trivial⟩ trivial ?_
  refine G.endOps ?_
  refine ifS hF (fun hc2 hF => ?_) (fun hc2 hF => ?_)
  · refine G.cond rfl (fun _ => ?_) (fun hx => by rw [hc2] at hx; cases hx)
    refine G.seq ?_
    refine G.region ?_
    refine G.op1 (op_assign (Ev.c _ rfl) rfl) rfl trivial trivial ?_
    refine G.endOps ?_
    cases hF
    exact G.ret1 Try.results11 (RVar.tmp 2 _) ⟨rfl, trivial⟩ trivial
  · refine G.cond rfl (fun hx => by rw [hc2] at hx; cases hx) (fun _ => ?_)
    refine G.skip ?_
    refine G.seq ?_
    refine G.region ?_
    refine G.op1 (op_assign (Ev.c _ rfl) rfl) rfl trivial trivial ?_
    refine G.endOps ?_
    refine G.seq ?_
    refine G.seq ?_
    refine G.region ?_
    refine G.op1 (op_fieldP (off' := 2) Try.underlying43 rfl ti4 (by decide) rfl (Ev.t 1 (.ptr 1001 0)) rfl) rfl ⟨rfl, trivial⟩ trivial ?_
    refine G.op1 (op_load1P (c := bB v_0.Gone) Try.underlying4 rfl rfl (Ev.t 7 (.ptr 1001 2)) rfl) rfl ⟨rfl, trivial⟩ ⟨rfl, trivial⟩ ?_
    refine G.endOps ?_
    refine G.joinC (T := Int) (fun y3 => ⟨[(1, .one (.ptr 1001 0)), (3, .one (bI .u64 y3))], [(1001, some (.blk 43 [bS v_0.Key, bS v_0.Value, bB v_0.Gone, bI .i64 v_0.Stamp.N, bI .i64 v_0.Stamp.Site, .g (.d (.sl 3 (List.map encApi_Dep v_0.Past)))]))]⟩) (fun y3 => wire_Bytes_k1 v_0 y3 = some r) (fun y3 hF => ?_) (fun J10 => ?_)
    · unfold wire_Bytes_k1 at hF
      refine G.seq ?_
      obtain ⟨r4, hr4, hF⟩ := bindS hF
      obtain ⟨r5, hr5, hF⟩ := bindS hF
      obtain ⟨r6, hr6, hF⟩ := bindS hF
      obtain ⟨r7, hr7, hF⟩ := bindS hF
      obtain ⟨r8, hr8, hF⟩ := bindS hF
      obtain ⟨r9, hr9, hF⟩ := bindS hF
      refine G.drawnI (deps := [[], [0], [0, 1], [], [0, 1, 2, 3], [], [5], [0, 1, 2, 3, 4, 5, 6], [], [8], [0, 1, 2, 3, 4, 5, 6, 7, 8, 9], [], [11], [0, 1, 2, 3, 4, 5, 6, 7, 8, 9, 10, 11, 12], [0, 1, 2, 3, 4, 5, 6, 7, 8, 9, 10, 11, 12, 13], [0, 1, 2, 3, 4, 5, 6, 7, 8, 9, 10, 11, 12, 13, 14], [0, 1, 2, 3, 4, 5, 6, 7, 8, 9, 10, 11, 12, 13, 14, 15]]) (sl' := [(2, oS r9)]) (hp' := []) (.c (oP rfl rfl (op_fieldP (off' := 0) Try.underlying43 rfl ti9 (by decide) rfl (Ev.t 1 (.ptr 1001 0)) rfl)) (.c (oP rfl rfl (op_load1P (c := bS v_0.Key) Try.underlying9 rfl rfl (Ev.t 9 (.ptr 1001 0)) rfl)) (.c (oP rfl rfl (op_callQ (sv := oS r4) cf24 (ct_vary_Text v_0.Key r4 hr4) rfl rfl (EvQL.cons (EvQ.g (Ev.t 10 (bS v_0.Key))) EvQL.nil) rfl)) (.c (oP rfl rfl (op_move (Ev.t 3 (bI .u64 y3)) rfl)) (.c (oP rfl rfl (op_callQ (sv := oS r5) cf23 (ct_vary_Number y3 r5 hr5) rfl rfl (EvQL.cons (EvQ.g (Ev.t 12 (bI .u64 y3))) EvQL.nil) rfl)) (.c (oP rfl rfl (op_fieldP (off' := 1) Try.underlying43 rfl ti9 (by decide) rfl (Ev.t 1 (.ptr 1001 0)) rfl)) (.c (oP rfl rfl (op_load1P (c := bS v_0.Value) Try.underlying9 rfl rfl (Ev.t 14 (.ptr 1001 1)) rfl)) (.c (oP rfl rfl (op_callQ (sv := oS r6) cf24 (ct_vary_Text v_0.Value r6 hr6) rfl rfl (EvQL.cons (EvQ.g (Ev.t 15 (bS v_0.Value))) EvQL.nil) rfl)) (.c (oP rfl rfl (op_fieldP (off' := 3) Try.underlying43 rfl ti40 (by decide) rfl (Ev.t 1 (.ptr 1001 0)) rfl)) (.c (oP rfl rfl (op_loadAP (ds := [vI v_0.Stamp.N, vI v_0.Stamp.Site]) Try.underlying40 rfl ti40 rfl (Ev.t 17 (.ptr 1001 3)) rfl)) (.c (oP rfl rfl (op_callQ (sv := oS r7) cf32 (ct_stamp_Bytes v_0.Stamp r7 hr7) rfl rfl (EvQL.cons (EvQ.g (Ev.t 18 (.g (.agg [vI v_0.Stamp.N, vI v_0.Stamp.Site])))) EvQL.nil) rfl)) (.c (oP rfl rfl (op_fieldP (off' := 5) Try.underlying43 rfl ti41 (by decide) rfl (Ev.t 1 (.ptr 1001 0)) rfl)) (.c (oP rfl rfl (op_load1P (c := .g (.d (.sl 3 (List.map encApi_Dep v_0.Past)))) Try.underlying41 rfl rfl (Ev.t 20 (.ptr 1001 5)) rfl)) (.c (oP rfl rfl (op_callQ (sv := oS r8) cf33 (ct_past_Bytes v_0.Past r8 hr8) rfl rfl (EvQL.cons (EvQ.g (Ev.t 21 (.g (.d (.sl 3 (List.map encApi_Dep v_0.Past)))))) EvQL.nil) rfl)) (.c (oP rfl rfl (op_buildSlice (es := List.map encS [r4, r5, r6, r7, r8]) Try.underlying80 ti9 rfl rfl (EvP.cons (Ev.t 11 (bS r4)) (EvP.cons (Ev.t 13 (bS r5)) (EvP.cons (Ev.t 16 (bS r6)) (EvP.cons (Ev.t 19 (bS r7)) (EvP.cons (Ev.t 22 (bS r8)) EvP.nil))))) rfl rfl (by simp [encS]) rfl)) (.c (oP rfl rfl (op_callQ (sv := oS r9) cf31 (ct_strings_Join ([r4, r5, r6, r7, r8]) ByteArray.empty r9 hr9) rfl rfl (EvQL.cons (EvQ.g (Ev.t 23 (.g (.d (.sl 1 (List.map encS ([r4, r5, r6, r7, r8]))))))) (EvQL.cons (EvQ.g (Ev.c _ rfl)) EvQL.nil)) rfl)) (.c (oP rfl rfl (op_assign (Ev.t 24 (bS r9)) rfl)) .nil))))))))))))))))) follows rfl rfl rfl ⟨⟨rfl, trivial⟩, trivial, ⟨rfl, trivial⟩, ⟨⟨rfl, rfl⟩, trivial⟩, ⟨rfl, trivial⟩, trivial, ⟨rfl, trivial⟩, trivial, ⟨rfl, trivial⟩, trivial, ⟨rfl, trivial⟩, trivial, ⟨rfl, trivial⟩, ⟨⟨rfl, rfl⟩, trivial⟩, ⟨rfl, trivial⟩, trivial, ⟨rfl, trivial⟩, trivial, ⟨rfl, trivial⟩, ⟨⟨rfl, rfl⟩, trivial⟩, ⟨rfl, trivial⟩, trivial, ⟨rfl, trivial⟩, trivial, ⟨rfl, trivial⟩, ⟨⟨rfl, rfl⟩, trivial⟩, ⟨rfl, trivial⟩, trivial, ⟨rfl, rfl, rfl, rfl, rfl, trivial⟩, trivial, ⟨rfl, trivial⟩, trivial, ⟨rfl, trivial⟩, trivial, trivial⟩ ⟨rfl, trivial⟩ trivial rfl ?_
      cases hF
      exact G.ret1 Try.results11 (RVar.tmp 2 _) ⟨rfl, trivial⟩ trivial
    refine ifS hF (fun hc11 hF => ?_) (fun hc11 hF => ?_)
    · refine G.cond rfl (fun _ => ?_) (fun hx => by rw [hc11] at hx; cases hx)
      refine G.region ?_
      refine G.op1 (op_assign (Ev.c _ rfl) rfl) rfl trivial trivial ?_
      refine G.endOps ?_
      exact G.arr (J10 1 hF) ⟨rfl, rfl, trivial⟩ ⟨rfl, trivial⟩ rfl
    · refine G.cond rfl (fun hx => by rw [hc11] at hx; cases hx) (fun _ => ?_)
      refine G.skip ?_
      exact G.arr (J10 0 hF) ⟨rfl, rfl, trivial⟩ ⟨rfl, trivial⟩ rfl


set_option maxRecDepth 20000 in
set_option maxHeartbeats 2000000 in
theorem ct_slices_Equal_Dep (s1_0 : (List Api_Dep)) (s2_1 : (List Api_Dep)) (r : Bool) (hF : slices_Equal_Dep s1_0 s2_1 = some r) : Ct Try.prog 53 [.g (.d (.sl 3 (List.map encApi_Dep s1_0))), .g (.d (.sl 3 (List.map encApi_Dep s2_1)))] (.one (.d (vB r))) := by
  unfold slices_Equal_Dep at hF
  refine Ct.intro Try.func53 rfl Try.ntmps53 rfl rfl fun M w => ?_
  refine G.seq ?_
  refine G.region ?_
  refine G.op1 (op_assign (Ev.c _ rfl) rfl) rfl trivial trivial ?_
  refine G.endOps ?_
  refine G.seq ?_
  refine G.seq ?_
  refine G.region ?_
  refine G.op1 (op_move (Ev.t 0 (.g (.d (.sl 3 (List.map encApi_Dep s1_0))))) rfl) rfl ⟨rfl, trivial⟩ trivial ?_
  refine G.op1 (OpL.cast (op_lenD Try.underlying41 (Ev.t 6 (.g (.d (.sl 3 (List.map encApi_Dep s1_0))))) rfl) (by rw [List.length_map])) rfl ⟨rfl, trivial⟩ trivial ?_
  refine G.op1 (op_move (Ev.t 1 (.g (.d (.sl 3 (List.map encApi_Dep s2_1))))) rfl) rfl ⟨rfl, trivial⟩ trivial ?_
  refine G.op1 (OpL.cast (op_lenD Try.underlying41 (Ev.t 8 (.g (.d (.sl 3 (List.map encApi_Dep s2_1))))) rfl) (by rw [List.length_map])) rfl ⟨rfl, trivial⟩ trivial ?_
  refine G.op1 (op_neI (Ev.t 7 (bI .i64 (s1_0.length : Int))) (Ev.t 9 (bI .i64 (s2_1.length : Int))) rfl) rfl ⟨rfl, rfl, trivial⟩ trivial ?_
  refine G.endOps ?_
  refine ifS hF (fun hc1 hF => ?_) (fun hc1 hF => ?_)
  · refine G.cond rfl (fun _ => ?_) (fun hx => by rw [hc1] at hx; cases hx)
    refine G.seq ?_
    refine G.region ?_
    refine G.op1 (op_assign (Ev.c _ rfl) rfl) rfl trivial trivial ?_
    refine G.endOps ?_
    cases hF
    exact G.ret1 Try.results53 (RVar.tmp 4 _) ⟨rfl, trivial⟩ trivial
  · refine G.cond rfl (fun hx => by rw [hc1] at hx; cases hx) (fun _ => ?_)
    refine G.skip ?_
    refine G.seq ?_
    refine G.seq ?_
    refine G.region ?_
    refine G.op1 (op_move (Ev.t 0 (.g (.d (.sl 3 (List.map encApi_Dep s1_0))))) rfl) rfl ⟨rfl, trivial⟩ trivial ?_
    refine G.op1 (OpL.cast (op_lenD Try.underlying41 (Ev.t 11 (.g (.d (.sl 3 (List.map encApi_Dep s1_0))))) rfl) (by rw [List.length_map])) rfl ⟨rfl, trivial⟩ trivial ?_
    refine G.op1 (op_move (Ev.c _ rfl) rfl) rfl trivial trivial ?_
    refine G.endOps ?_
    refine G.joinC (T := Unit) (fun y2 => ⟨[], []⟩) (fun y2 => slices_Equal_Dep_k1 y2 = some r) (fun y2 hF => ?_) (fun J3 => ?_)
    · unfold slices_Equal_Dep_k1 at hF
      refine G.seq ?_
      refine G.region ?_
      refine G.op1 (op_assign (Ev.c _ rfl) rfl) rfl trivial trivial ?_
      refine G.endOps ?_
      cases hF
      exact G.ret1 Try.results53 (RVar.tmp 4 _) ⟨rfl, trivial⟩ trivial
    refine G.block ?_
    refine G.keep (sl' := [(0, .one (.g (.d (.sl 3 (List.map encApi_Dep s1_0))))), (1, .one (.g (.d (.sl 3 (List.map encApi_Dep s2_1))))), (12, oI (s1_0.length : Int)), (13, oI 0)]) (hp' := []) ⟨rfl, rfl, rfl, rfl, trivial⟩ trivial rfl ?_
    refine G.loopF (fun (v4 : Int) => ⟨[(0, .one (.g (.d (.sl 3 (List.map encApi_Dep s1_0))))), (1, .one (.g (.d (.sl 3 (List.map encApi_Dep s2_1))))), (12, oI (s1_0.length : Int)), (13, oI v4)], []⟩) hF rfl (fun K7 again6 v4 J5 hF => ?_)
    unfold slices_Equal_Dep_l2 at hF
    refine G.seq ?_
    refine G.region ?_
    refine G.op1 (op_lss (Ev.t 13 (bI .i64 v4)) (Ev.t 12 (bI .i64 (s1_0.length : Int))) rfl) rfl ⟨rfl, rfl, trivial⟩ trivial ?_
    refine G.endOps ?_
    refine G.seq ?_
    refine ifS hF (fun hc8 hF => ?_) (fun hc8 hF => ?_)
    · refine G.cond rfl (fun _ => ?_) (fun hx => by rw [hc8] at hx; cases hx)
      refine G.skip ?_
      refine G.seq ?_
      refine G.block ?_
      refine G.seq ?_
      refine G.region ?_
      refine G.op1 (op_move (Ev.t 13 (bI .i64 v4)) rfl) rfl ⟨rfl, trivial⟩ trivial ?_
      refine G.op1 (op_assign (Ev.t 15 (bI .i64 v4)) rfl) rfl ⟨rfl, trivial⟩ trivial ?_
      refine G.endOps ?_
      refine G.seq ?_
      obtain ⟨x9, hx9, hF⟩ := bindS hF
      obtain ⟨x10, hx10, hF⟩ := bindS hF
      refine G.drawnI (deps := [[], [], [0, 1], [0, 1, 2], [], [], [4, 5], [4, 5, 6], [0, 1, 2, 3, 4, 5, 6, 7]]) (sl' := [(0, .one (.g (.d (.sl 3 (List.map encApi_Dep s1_0))))), (1, .one (.g (.d (.sl 3 (List.map encApi_Dep s2_1))))), (12, oI (s1_0.length : Int)), (13, oI v4), (24, oB (!(decide (x9.Key = x10.Key) && decide (x9.Stamp.N = x10.Stamp.N) && decide (x9.Stamp.Site = x10.Stamp.Site))))]) (hp' := []) (.c (oP rfl rfl (op_move (Ev.t 0 (.g (.d (.sl 3 (List.map encApi_Dep s1_0))))) rfl)) (.c (oP rfl rfl (op_move (Ev.t 5 (bI .i64 v4)) rfl)) (.c (oP rfl rfl (op_index (cs := [vS x9.Key, vI x9.Stamp.N, vI x9.Stamp.Site]) Try.underlying41 ti100 (idx_ok hx9).1 (idx_get hx9 encApi_Dep) (Ev.t 16 (.g (.d (.sl 3 (List.map encApi_Dep s1_0))))) (Ev.t 17 (bI .i64 v4)) rfl)) (.c (oP rfl rfl (op_loadAE (ds := [vS x9.Key, vI x9.Stamp.N, vI x9.Stamp.Site]) Try.underlying100 rfl ti100 rfl (Ev.t 18 (.ep [vS x9.Key, vI x9.Stamp.N, vI x9.Stamp.Site])) rfl)) (.c (oP rfl rfl (op_move (Ev.t 1 (.g (.d (.sl 3 (List.map encApi_Dep s2_1))))) rfl)) (.c (oP rfl rfl (op_move (Ev.t 5 (bI .i64 v4)) rfl)) (.c (oP rfl rfl (op_index (cs := [vS x10.Key, vI x10.Stamp.N, vI x10.Stamp.Site]) Try.underlying41 ti100 (idx_ok hx10).1 (idx_get hx10 encApi_Dep) (Ev.t 20 (.g (.d (.sl 3 (List.map encApi_Dep s2_1))))) (Ev.t 21 (bI .i64 v4)) rfl)) (.c (oP rfl rfl (op_loadAE (ds := [vS x10.Key, vI x10.Stamp.N, vI x10.Stamp.Site]) Try.underlying100 rfl ti100 rfl (Ev.t 22 (.ep [vS x10.Key, vI x10.Stamp.N, vI x10.Stamp.Site])) rfl)) (.c (oP rfl rfl (op_eqA (us := [.string x9.Key, .int .i64 x9.Stamp.N, .int .i64 x9.Stamp.Site]) (vs := [.string x10.Key, .int .i64 x10.Stamp.N, .int .i64 x10.Stamp.Site]) rfl rfl Try.eqGuardType100 (fun w => ne100 x9.Key x9.Stamp.N x9.Stamp.Site x10.Key x10.Stamp.N x10.Stamp.Site w) (Ev.t 19 (.g (.agg [vS x9.Key, vI x9.Stamp.N, vI x9.Stamp.Site]))) (Ev.t 23 (.g (.agg [vS x10.Key, vI x10.Stamp.N, vI x10.Stamp.Site]))) rfl)) .nil))))))))) follows rfl rfl rfl ⟨⟨rfl, trivial⟩, trivial, ⟨rfl, trivial⟩, trivial, ⟨rfl, rfl, trivial⟩, trivial, ⟨rfl, trivial⟩, trivial, ⟨rfl, trivial⟩, trivial, ⟨rfl, trivial⟩, trivial, ⟨rfl, rfl, trivial⟩, trivial, ⟨rfl, trivial⟩, trivial, ⟨rfl, rfl, trivial⟩, trivial, trivial⟩ ⟨rfl, rfl, rfl, rfl, rfl, trivial⟩ trivial rfl ?_
      refine ifS hF (fun hc11 hF => ?_) (fun hc11 hF => ?_)
      · refine G.cond rfl (fun _ => ?_) (fun hx => by rw [hc11] at hx; cases hx)
        refine G.seq ?_
        refine G.region ?_
        refine G.op1 (op_assign (Ev.c _ rfl) rfl) rfl trivial trivial ?_
        refine G.endOps ?_
        cases hF
        exact G.ret1 Try.results53 (RVar.tmp 4 _) ⟨rfl, trivial⟩ trivial
      · refine G.cond rfl (fun hx => by rw [hc11] at hx; cases hx) (fun _ => ?_)
        refine G.skip ?_
        refine G.endBlock ?_
        refine G.region ?_
        refine G.op1 (op_add (Ev.t 13 (bI .i64 v4)) (Ev.c _ rfl) rfl) rfl ⟨rfl, trivial⟩ trivial ?_
        refine G.op1 (op_move (Ev.t 25 (bI .i64 (IntKind.wrap .i64 (v4 + 1)))) rfl) rfl ⟨rfl, trivial⟩ trivial ?_
        refine G.endOps ?_
        exact G.arr (J5 (IntKind.wrap .i64 (v4 + 1)) hF) ⟨rfl, rfl, rfl, rfl, trivial⟩ trivial rfl
    · refine G.cond rfl (fun hx => by rw [hc8] at hx; cases hx) (fun _ => ?_)
      refine G.exit ?_
      refine GX.c ?_
      refine GX.q ?_
      refine GX.bYes ?_
      exact G.arr (J3 () hF) trivial trivial rfl


set_option maxRecDepth 20000 in
set_option maxHeartbeats 2000000 in
theorem ct_past_Same (p_0 : (List Api_Dep)) (q_1 : (List Api_Dep)) (r : Bool) (hF : past_Same p_0 q_1 = some r) : Ct Try.prog 34 [.g (.d (.sl 3 (List.map encApi_Dep p_0))), .g (.d (.sl 3 (List.map encApi_Dep q_1)))] (.one (.d (vB r))) := by
  unfold past_Same at hF
  refine Ct.intro Try.func34 rfl Try.ntmps34 rfl rfl fun M w => ?_
  refine G.seq ?_
  refine G.region ?_
  refine G.op1 (op_assign (Ev.c _ rfl) rfl) rfl trivial trivial ?_
  refine G.endOps ?_
  refine G.seq ?_
  refine G.region ?_
  refine G.op1 (op_move (Ev.t 0 (.g (.d (.sl 3 (List.map encApi_Dep p_0))))) rfl) rfl ⟨rfl, trivial⟩ trivial ?_
  refine G.op1 (op_move (Ev.t 1 (.g (.d (.sl 3 (List.map encApi_Dep q_1))))) rfl) rfl ⟨rfl, trivial⟩ trivial ?_
  obtain ⟨r1, hr1, hF⟩ := bindS hF
  refine G.op1 (op_callQ (sv := oB r1) cf53 (ct_slices_Equal_Dep p_0 q_1 r1 hr1) rfl rfl (EvQL.cons (EvQ.g (Ev.t 5 (.g (.d (.sl 3 (List.map encApi_Dep p_0)))))) (EvQL.cons (EvQ.g (Ev.t 6 (.g (.d (.sl 3 (List.map encApi_Dep q_1)))))) EvQL.nil)) rfl) rfl ⟨rfl, rfl, trivial⟩ trivial ?_
  refine G.op1 (op_assign (Ev.t 7 (bB r1)) rfl) rfl ⟨rfl, trivial⟩ trivial ?_
  refine G.endOps ?_
  cases hF
  exact G.ret1 Try.results34 (RVar.tmp 4 _) ⟨rfl, trivial⟩ trivial


set_option maxRecDepth 20000 in
set_option maxHeartbeats 2000000 in
theorem ct_wire_Same (a_0 : Api_Version) (b_1 : Api_Version) (r : Bool) (hF : wire_Same a_0 b_1 = some r) : Ct Try.prog 12 [.g (.agg (encApi_Version a_0)), .g (.agg (encApi_Version b_1))] (.one (.d (vB r))) := by
  unfold wire_Same at hF
  refine Ct.intro Try.func12 rfl Try.ntmps12 rfl rfl fun M w => ?_
  refine G.seq ?_
  refine G.region ?_
  refine G.op2 (op_boxA (k := 1002) (Ev.t 0 (.g (.agg [vS a_0.Key, vS a_0.Value, vB a_0.Gone, vI a_0.Stamp.N, vI a_0.Stamp.Site, .sl 3 (List.map encApi_Dep a_0.Past)]))) rfl) rfl ⟨rfl, trivial⟩ ⟨rfl, trivial⟩ ?_
  refine G.op2 (op_boxA (k := 1003) (Ev.t 1 (.g (.agg [vS b_1.Key, vS b_1.Value, vB b_1.Gone, vI b_1.Stamp.N, vI b_1.Stamp.Site, .sl 3 (List.map encApi_Dep b_1.Past)]))) rfl) rfl ⟨rfl, trivial⟩ ⟨rfl, trivial⟩ ?_
  refine G.op1 (op_assign (Ev.c _ rfl) rfl) rfl trivial trivial ?_
  refine G.endOps ?_
  refine G.seq ?_
  refine G.region ?_
  refine G.op1 (op_fieldP (off' := 0) Try.underlying43 rfl ti9 (by decide) rfl (Ev.t 2 (.ptr 1002 0)) rfl) rfl ⟨rfl, trivial⟩ trivial ?_
  refine G.op1 (op_load1P (c := bS a_0.Key) Try.underlying9 rfl rfl (Ev.t 5 (.ptr 1002 0)) rfl) rfl ⟨rfl, trivial⟩ ⟨rfl, trivial⟩ ?_
  refine G.op1 (op_fieldP (off' := 0) Try.underlying43 rfl ti9 (by decide) rfl (Ev.t 3 (.ptr 1003 0)) rfl) rfl ⟨rfl, trivial⟩ trivial ?_
  refine G.op1 (op_load1P (c := bS b_1.Key) Try.underlying9 rfl rfl (Ev.t 7 (.ptr 1003 0)) rfl) rfl ⟨rfl, trivial⟩ ⟨rfl, trivial⟩ ?_
  refine G.op1 (op_eqS (Ev.t 6 (bS a_0.Key)) (Ev.t 8 (bS b_1.Key)) rfl) rfl ⟨rfl, rfl, trivial⟩ trivial ?_
  refine G.op1 (op_move (Ev.t 9 (bB (seq a_0.Key b_1.Key))) rfl) rfl ⟨rfl, trivial⟩ trivial ?_
  refine G.joinL (T := Bool) 6 (fun y1 => ⟨[(2, .one (.ptr 1002 0)), (3, .one (.ptr 1003 0)), (16, oB y1)], [(1002, some (.blk 43 [bS a_0.Key, bS a_0.Value, bB a_0.Gone, bI .i64 a_0.Stamp.N, bI .i64 a_0.Stamp.Site, .g (.d (.sl 3 (List.map encApi_Dep a_0.Past)))])), (1003, some (.blk 43 [bS b_1.Key, bS b_1.Value, bB b_1.Gone, bI .i64 b_1.Stamp.N, bI .i64 b_1.Stamp.Site, .g (.d (.sl 3 (List.map encApi_Dep b_1.Past)))]))]⟩) (fun y1 => wire_Same_k1 a_0 b_1 y1 = some r) (fun y1 hF => ?_) (fun J10 => ?_)
  · unfold wire_Same_k1 at hF
    refine G.op1 (op_move (Ev.t 16 (bB y1)) rfl) rfl ⟨rfl, trivial⟩ trivial ?_
    refine G.joinL (T := Bool) 6 (fun y2 => ⟨[(2, .one (.ptr 1002 0)), (3, .one (.ptr 1003 0)), (23, oB y2)], [(1002, some (.blk 43 [bS a_0.Key, bS a_0.Value, bB a_0.Gone, bI .i64 a_0.Stamp.N, bI .i64 a_0.Stamp.Site, .g (.d (.sl 3 (List.map encApi_Dep a_0.Past)))])), (1003, some (.blk 43 [bS b_1.Key, bS b_1.Value, bB b_1.Gone, bI .i64 b_1.Stamp.N, bI .i64 b_1.Stamp.Site, .g (.d (.sl 3 (List.map encApi_Dep b_1.Past)))]))]⟩) (fun y2 => wire_Same_k2 a_0 b_1 y2 = some r) (fun y2 hF => ?_) (fun J8 => ?_)
    · unfold wire_Same_k2 at hF
      refine G.op1 (op_move (Ev.t 23 (bB y2)) rfl) rfl ⟨rfl, trivial⟩ trivial ?_
      refine G.joinL (T := Bool) 6 (fun y3 => ⟨[(2, .one (.ptr 1002 0)), (3, .one (.ptr 1003 0)), (30, oB y3)], [(1002, some (.blk 43 [bS a_0.Key, bS a_0.Value, bB a_0.Gone, bI .i64 a_0.Stamp.N, bI .i64 a_0.Stamp.Site, .g (.d (.sl 3 (List.map encApi_Dep a_0.Past)))])), (1003, some (.blk 43 [bS b_1.Key, bS b_1.Value, bB b_1.Gone, bI .i64 b_1.Stamp.N, bI .i64 b_1.Stamp.Site, .g (.d (.sl 3 (List.map encApi_Dep b_1.Past)))]))]⟩) (fun y3 => wire_Same_k3 a_0 b_1 y3 = some r) (fun y3 hF => ?_) (fun J6 => ?_)
      · unfold wire_Same_k3 at hF
        refine G.op1 (op_move (Ev.t 30 (bB y3)) rfl) rfl ⟨rfl, trivial⟩ trivial ?_
        refine ifS hF (fun hc4 hF => ?_) (fun hc4 hF => ?_)
        · refine G.known (t := 31) hc4 rfl ?_
          refine G.opG1 (op_fieldP (off' := 5) Try.underlying43 rfl ti41 (by decide) rfl (Ev.t 2 (.ptr 1002 0)) rfl) rfl rfl rfl ⟨rfl, trivial⟩ trivial ?_
          refine G.opG1 (op_load1P (c := .g (.d (.sl 3 (List.map encApi_Dep a_0.Past)))) Try.underlying41 rfl rfl (Ev.t 32 (.ptr 1002 5)) rfl) rfl rfl rfl ⟨rfl, trivial⟩ ⟨rfl, trivial⟩ ?_
          refine G.opG1 (op_fieldP (off' := 5) Try.underlying43 rfl ti41 (by decide) rfl (Ev.t 3 (.ptr 1003 0)) rfl) rfl rfl rfl ⟨rfl, trivial⟩ trivial ?_
          refine G.opG1 (op_load1P (c := .g (.d (.sl 3 (List.map encApi_Dep b_1.Past)))) Try.underlying41 rfl rfl (Ev.t 34 (.ptr 1003 5)) rfl) rfl rfl rfl ⟨rfl, trivial⟩ ⟨rfl, trivial⟩ ?_
          obtain ⟨r5, hr5, hF⟩ := bindS hF
          refine G.opG1 (op_callQ (sv := oB r5) cf34 (ct_past_Same a_0.Past b_1.Past r5 hr5) rfl rfl (EvQL.cons (EvQ.g (Ev.t 33 (.g (.d (.sl 3 (List.map encApi_Dep a_0.Past)))))) (EvQL.cons (EvQ.g (Ev.t 35 (.g (.d (.sl 3 (List.map encApi_Dep b_1.Past)))))) EvQL.nil)) rfl) rfl rfl rfl ⟨rfl, rfl, trivial⟩ trivial ?_
          refine G.op1 (op_pickT (Ev.t 31 (bB true)) (Ev.t 36 (bB r5)) rfl) rfl ⟨rfl, rfl, trivial⟩ trivial ?_
          refine G.op1 (op_assign (Ev.t 37 (bB r5)) rfl) rfl ⟨rfl, trivial⟩ trivial ?_
          refine G.endOps ?_
          cases hF
          exact G.ret1 Try.results12 (RVar.tmp 4 _) ⟨rfl, trivial⟩ trivial
        · refine G.known (t := 31) hc4 rfl ?_
          refine G.opN1 rfl rfl rfl rfl rfl ?_
          refine G.opN1 rfl rfl rfl rfl rfl ?_
          refine G.opN1 rfl rfl rfl rfl rfl ?_
          refine G.opN1 rfl rfl rfl rfl rfl ?_
          refine G.opN1 rfl rfl rfl rfl rfl ?_
          refine G.op1 (op_pickF (Ev.t 31 (bB false)) (Ev.c _ rfl) rfl) rfl ⟨rfl, trivial⟩ trivial ?_
          refine G.op1 (op_assign (Ev.t 37 (bB false)) rfl) rfl ⟨rfl, trivial⟩ trivial ?_
          refine G.endOps ?_
          cases hF
          exact G.ret1 Try.results12 (RVar.tmp 4 _) ⟨rfl, trivial⟩ trivial
      refine ifS hF (fun hc7 hF => ?_) (fun hc7 hF => ?_)
      · refine G.known (t := 24) hc7 rfl ?_
        refine G.opG1 (op_fieldP (off' := 3) Try.underlying43 rfl ti40 (by decide) rfl (Ev.t 2 (.ptr 1002 0)) rfl) rfl rfl rfl ⟨rfl, trivial⟩ trivial ?_
        refine G.opG1 (op_loadAP (ds := [vI a_0.Stamp.N, vI a_0.Stamp.Site]) Try.underlying40 rfl ti40 rfl (Ev.t 25 (.ptr 1002 3)) rfl) rfl rfl rfl ⟨rfl, trivial⟩ ⟨rfl, trivial⟩ ?_
        refine G.opG1 (op_fieldP (off' := 3) Try.underlying43 rfl ti40 (by decide) rfl (Ev.t 3 (.ptr 1003 0)) rfl) rfl rfl rfl ⟨rfl, trivial⟩ trivial ?_
        refine G.opG1 (op_loadAP (ds := [vI b_1.Stamp.N, vI b_1.Stamp.Site]) Try.underlying40 rfl ti40 rfl (Ev.t 27 (.ptr 1003 3)) rfl) rfl rfl rfl ⟨rfl, trivial⟩ ⟨rfl, trivial⟩ ?_
        refine G.opG1 (op_eqA (us := [.int .i64 a_0.Stamp.N, .int .i64 a_0.Stamp.Site]) (vs := [.int .i64 b_1.Stamp.N, .int .i64 b_1.Stamp.Site]) rfl rfl Try.eqGuardType40 (fun w => eq40 a_0.Stamp.N a_0.Stamp.Site b_1.Stamp.N b_1.Stamp.Site w) (Ev.t 26 (.g (.agg [vI a_0.Stamp.N, vI a_0.Stamp.Site]))) (Ev.t 28 (.g (.agg [vI b_1.Stamp.N, vI b_1.Stamp.Site]))) rfl) rfl rfl rfl ⟨rfl, rfl, trivial⟩ trivial ?_
        refine G.op1 (op_pickT (Ev.t 24 (bB true)) (Ev.t 29 (bB (decide (a_0.Stamp.N = b_1.Stamp.N) && decide (a_0.Stamp.Site = b_1.Stamp.Site)))) rfl) rfl ⟨rfl, rfl, trivial⟩ trivial ?_
        exact G.arr (J6 (decide (a_0.Stamp.N = b_1.Stamp.N) && decide (a_0.Stamp.Site = b_1.Stamp.Site)) hF) ⟨rfl, rfl, rfl, trivial⟩ ⟨rfl, rfl, trivial⟩ rfl
      · refine G.known (t := 24) hc7 rfl ?_
        refine G.opN1 rfl rfl rfl rfl rfl ?_
        refine G.opN1 rfl rfl rfl rfl rfl ?_
        refine G.opN1 rfl rfl rfl rfl rfl ?_
        refine G.opN1 rfl rfl rfl rfl rfl ?_
        refine G.opN1 rfl rfl rfl rfl rfl ?_
        refine G.op1 (op_pickF (Ev.t 24 (bB false)) (Ev.c _ rfl) rfl) rfl ⟨rfl, trivial⟩ trivial ?_
        exact G.arr (J6 false hF) ⟨rfl, rfl, rfl, trivial⟩ ⟨rfl, rfl, trivial⟩ rfl
    refine ifS hF (fun hc9 hF => ?_) (fun hc9 hF => ?_)
    · refine G.known (t := 17) hc9 rfl ?_
      refine G.opG1 (op_fieldP (off' := 2) Try.underlying43 rfl ti4 (by decide) rfl (Ev.t 2 (.ptr 1002 0)) rfl) rfl rfl rfl ⟨rfl, trivial⟩ trivial ?_
      refine G.opG1 (op_load1P (c := bB a_0.Gone) Try.underlying4 rfl rfl (Ev.t 18 (.ptr 1002 2)) rfl) rfl rfl rfl ⟨rfl, trivial⟩ ⟨rfl, trivial⟩ ?_
      refine G.opG1 (op_fieldP (off' := 2) Try.underlying43 rfl ti4 (by decide) rfl (Ev.t 3 (.ptr 1003 0)) rfl) rfl rfl rfl ⟨rfl, trivial⟩ trivial ?_
      refine G.opG1 (op_load1P (c := bB b_1.Gone) Try.underlying4 rfl rfl (Ev.t 20 (.ptr 1003 2)) rfl) rfl rfl rfl ⟨rfl, trivial⟩ ⟨rfl, trivial⟩ ?_
      refine G.opG1 (op_eqB Try.underlying4 (Ev.t 19 (bB a_0.Gone)) (Ev.t 21 (bB b_1.Gone)) rfl) rfl rfl rfl ⟨rfl, rfl, trivial⟩ trivial ?_
      refine G.op1 (op_pickT (Ev.t 17 (bB true)) (Ev.t 22 (bB (a_0.Gone == b_1.Gone))) rfl) rfl ⟨rfl, rfl, trivial⟩ trivial ?_
      exact G.arr (J8 (a_0.Gone == b_1.Gone) hF) ⟨rfl, rfl, rfl, trivial⟩ ⟨rfl, rfl, trivial⟩ rfl
    · refine G.known (t := 17) hc9 rfl ?_
      refine G.opN1 rfl rfl rfl rfl rfl ?_
      refine G.opN1 rfl rfl rfl rfl rfl ?_
      refine G.opN1 rfl rfl rfl rfl rfl ?_
      refine G.opN1 rfl rfl rfl rfl rfl ?_
      refine G.opN1 rfl rfl rfl rfl rfl ?_
      refine G.op1 (op_pickF (Ev.t 17 (bB false)) (Ev.c _ rfl) rfl) rfl ⟨rfl, trivial⟩ trivial ?_
      exact G.arr (J8 false hF) ⟨rfl, rfl, rfl, trivial⟩ ⟨rfl, rfl, trivial⟩ rfl
  refine ifS hF (fun hc11 hF => ?_) (fun hc11 hF => ?_)
  · refine G.known (t := 10) hc11 rfl ?_
    refine G.opG1 (op_fieldP (off' := 1) Try.underlying43 rfl ti9 (by decide) rfl (Ev.t 2 (.ptr 1002 0)) rfl) rfl rfl rfl ⟨rfl, trivial⟩ trivial ?_
    refine G.opG1 (op_load1P (c := bS a_0.Value) Try.underlying9 rfl rfl (Ev.t 11 (.ptr 1002 1)) rfl) rfl rfl rfl ⟨rfl, trivial⟩ ⟨rfl, trivial⟩ ?_
    refine G.opG1 (op_fieldP (off' := 1) Try.underlying43 rfl ti9 (by decide) rfl (Ev.t 3 (.ptr 1003 0)) rfl) rfl rfl rfl ⟨rfl, trivial⟩ trivial ?_
    refine G.opG1 (op_load1P (c := bS b_1.Value) Try.underlying9 rfl rfl (Ev.t 13 (.ptr 1003 1)) rfl) rfl rfl rfl ⟨rfl, trivial⟩ ⟨rfl, trivial⟩ ?_
    refine G.opG1 (op_eqS (Ev.t 12 (bS a_0.Value)) (Ev.t 14 (bS b_1.Value)) rfl) rfl rfl rfl ⟨rfl, rfl, trivial⟩ trivial ?_
    refine G.op1 (op_pickT (Ev.t 10 (bB true)) (Ev.t 15 (bB (seq a_0.Value b_1.Value))) rfl) rfl ⟨rfl, rfl, trivial⟩ trivial ?_
    exact G.arr (J10 (seq a_0.Value b_1.Value) hF) ⟨rfl, rfl, rfl, trivial⟩ ⟨rfl, rfl, trivial⟩ rfl
  · refine G.known (t := 10) hc11 rfl ?_
    refine G.opN1 rfl rfl rfl rfl rfl ?_
    refine G.opN1 rfl rfl rfl rfl rfl ?_
    refine G.opN1 rfl rfl rfl rfl rfl ?_
    refine G.opN1 rfl rfl rfl rfl rfl ?_
    refine G.opN1 rfl rfl rfl rfl rfl ?_
    refine G.op1 (op_pickF (Ev.t 10 (bB false)) (Ev.c _ rfl) rfl) rfl ⟨rfl, trivial⟩ trivial ?_
    exact G.arr (J10 false hF) ⟨rfl, rfl, rfl, trivial⟩ ⟨rfl, rfl, trivial⟩ rfl

end Go.Ark
