/- Walks, printed by a program of mine: each function of the program computes the typed function of its name. Conditions: none. -/
import Derived.Test.YtdngcojjipaajaaFkeys
import Derived.Test.YtdngcojjipaajaaFstamp
import Derived.Test.YtdngcojjipaajaaFhistory
import Derived.Test.YtdngcojjipaajaaFlib
import Derived.Test.YtdngcojjipaajaaFpast
import Derived.Test.YtdngcojjipaajaaFlaw20
import Derived.Test.YtdngcojjipaajaaFref04
import Derived.Test.YtdngcojjipaajaaFref03
import Derived.Test.YtdngcojjipaajaaFref02
import Derived.Test.YtdngcojjipaajaaFref20
import Derived.Test.YtdngcojjipaajaaProg
import Derived.KernelRfl
namespace Go.Ark
open Go Go.Ab Go.RowKit Go.Lib Go.Proofs



theorem follows : Try.prog.follows .mixedOrders = true := by kernel_rfl

theorem cf10 : CallF Try.prog 10 := fun args w => Try.call10 args w

theorem cf11 : CallF Try.prog 11 := fun args w => Try.call11 args w

theorem cf12 : CallF Try.prog 12 := fun args w => Try.call12 args w

theorem cf13 : CallF Try.prog 13 := fun args w => Try.call13 args w

theorem cf14 : CallF Try.prog 14 := fun args w => Try.call14 args w

theorem cf15 : CallF Try.prog 15 := fun args w => Try.call15 args w

theorem cf16 : CallF Try.prog 16 := fun args w => Try.call16 args w

theorem cf23 : CallF Try.prog 23 := fun args w => Try.call23 args w

theorem cf24 : CallF Try.prog 24 := fun args w => Try.call24 args w

theorem cf25 : CallF Try.prog 25 := fun args w => Try.call25 args w

theorem cf26 : CallF Try.prog 26 := fun args w => Try.call26 args w

theorem cf27 : CallF Try.prog 27 := fun args w => Try.call27 args w

theorem cf28 : CallF Try.prog 28 := fun args w => Try.call28 args w

theorem cf37 : CallF Try.prog 37 := fun args w => Try.call37 args w

theorem cf38 : CallF Try.prog 38 := fun args w => Try.call38 args w

theorem cf39 : CallF Try.prog 39 := fun args w => Try.call39 args w

theorem cf40 : CallF Try.prog 40 := fun args w => Try.call40 args w

theorem cf41 : CallF Try.prog 41 := fun args w => Try.call41 args w

theorem cf42 : CallF Try.prog 42 := fun args w => Try.call42 args w

theorem cf43 : CallF Try.prog 43 := fun args w => Try.call43 args w

theorem cf44 : CallF Try.prog 44 := fun args w => Try.call44 args w

theorem cf45 : CallF Try.prog 45 := fun args w => Try.call45 args w

theorem cf46 : CallF Try.prog 46 := fun args w => Try.call46 args w

theorem cf47 : CallF Try.prog 47 := fun args w => Try.call47 args w

theorem cf48 : CallF Try.prog 48 := fun args w => Try.call48 args w

theorem cf49 : CallF Try.prog 49 := fun args w => Try.call49 args w

theorem cf52 : CallF Try.prog 52 := fun args w => Try.call52 args w

theorem cf53 : CallF Try.prog 53 := fun args w => Try.call53 args w

theorem cf54 : CallF Try.prog 54 := fun args w => Try.call54 args w

theorem cf55 : CallF Try.prog 55 := fun args w => Try.call55 args w

theorem cf56 : CallF Try.prog 56 := fun args w => Try.call56 args w

theorem cf57 : CallF Try.prog 57 := fun args w => Try.call57 args w

theorem cf58 : CallF Try.prog 58 := fun args w => Try.call58 args w

theorem cf59 : CallF Try.prog 59 := fun args w => Try.call59 args w

theorem cf60 : CallF Try.prog 60 := fun args w => Try.call60 args w

theorem cf62 : CallF Try.prog 62 := fun args w => Try.call62 args w

theorem cf63 : CallF Try.prog 63 := fun args w => Try.call63 args w

theorem cf64 : CallF Try.prog 64 := fun args w => Try.call64 args w

theorem cf65 : CallF Try.prog 65 := fun args w => Try.call65 args w

theorem cf68 : CallF Try.prog 68 := fun args w => Try.call68 args w

theorem cf9 : CallF Try.prog 9 := fun args w => Try.call9 args w

theorem eq27 (a0 : Int) (a1 : Int) (b0 : Int) (b1 : Int) (w : World) : (binOp .eql 27 (.agg #[.int .i64 a0, .int .i64 a1]) (.agg #[.int .i64 b0, .int .i64 b1])).run Try.prog w = .ok (.bool (decide (a0 = b0) && decide (a1 = b1))) w := by
  have u3 := Try.underlying3; have z3 := Try.sizeOf3; have g3 := Try.isAgg3
  have hS : Try.prog.underlying 27 = some (.struct (Try.prog.fieldsOf 27)) := by kernel_rfl
  rw [run_eql_struct, show (10000 : Nat) = 9999 + 1 from rfl, run_equalIn_agg w 9999 27 _ _ hS Try.stoodInHeld27]
  simp only [Program.fieldsOf, Try.underlying27]
  go_simp
  by_cases e0 : a0 = b0 <;> by_cases e1 : a1 = b1 <;> simp [*]

theorem ne27 (a0 : Int) (a1 : Int) (b0 : Int) (b1 : Int) (w : World) : (binOp .neq 27 (.agg #[.int .i64 a0, .int .i64 a1]) (.agg #[.int .i64 b0, .int .i64 b1])).run Try.prog w = .ok (.bool (!(decide (a0 = b0) && decide (a1 = b1)))) w := by
  have u3 := Try.underlying3; have z3 := Try.sizeOf3; have g3 := Try.isAgg3
  have hS : Try.prog.underlying 27 = some (.struct (Try.prog.fieldsOf 27)) := by kernel_rfl
  rw [run_neq_struct, show (10000 : Nat) = 9999 + 1 from rfl, run_equalIn_agg w 9999 27 _ _ hS Try.stoodInHeld27]
  simp only [Program.fieldsOf, Try.underlying27]
  go_simp
  by_cases e0 : a0 = b0 <;> by_cases e1 : a1 = b1 <;> simp [*]

theorem ti27 : Info Try.prog 27 (.agg #[.int .i64 0, .int .i64 0]) 2 16 := Info.of (by kernel_rfl)

theorem ti28 : Info Try.prog 28 (.slice none 0 0) 1 24 := Info.of (by kernel_rfl)

theorem ti3 : Info Try.prog 3 (.int .i64 0) 1 8 := Info.of (by kernel_rfl)

theorem ti30 : Info Try.prog 30 (.agg #[.int .i64 0, .int .i64 0, .string ByteArray.empty, .int .i64 0, .int .i64 0, .slice none 0 0]) 6 72 := Info.of (by kernel_rfl)

theorem ti35 : Info Try.prog 35 (.agg #[.string ByteArray.empty, .string ByteArray.empty, .string ByteArray.empty, .string ByteArray.empty]) 4 64 := Info.of (by kernel_rfl)

theorem ti4 : Info Try.prog 4 (.bool false) 1 1 := Info.of (by kernel_rfl)

theorem ti47 : Info Try.prog 47 (.agg #[.bool false, .int .i64 0, .int .i64 0, .int .i64 0]) 4 32 := Info.of (by kernel_rfl)

theorem ti52 : Info Try.prog 52 (.agg #[.string ByteArray.empty, .int .i64 0, .int .i64 0]) 3 32 := Info.of (by kernel_rfl)

theorem ti58 : Info Try.prog 58 (.agg #[.slice none 0 0, .slice none 0 0, .slice none 0 0, .slice none 0 0]) 4 96 := Info.of (by kernel_rfl)

theorem ti63 : Info Try.prog 63 (.map none) 1 8 := Info.of (by kernel_rfl)

theorem ti64 : Info Try.prog 64 (.map none) 1 8 := Info.of (by kernel_rfl)

theorem ti66 : Info Try.prog 66 (.agg #[.map none, .map none]) 2 16 := Info.of (by kernel_rfl)

theorem ti68 : Info Try.prog 68 (.slice none 0 0) 1 24 := Info.of (by kernel_rfl)

theorem ti77 : Info Try.prog 77 (.agg #[.int .i64 0, .int .i64 0, .string ByteArray.empty, .int .i64 0, .int .i64 0, .slice none 0 0]) 6 72 := Info.of (by kernel_rfl)

theorem ti80 : Info Try.prog 80 (.agg #[.int .i64 0, .int .i64 0, .string ByteArray.empty, .int .i64 0, .int .i64 0, .slice none 0 0]) 6 72 := Info.of (by kernel_rfl)

theorem ti9 : Info Try.prog 9 (.string ByteArray.empty) 1 16 := Info.of (by kernel_rfl)

theorem keyEq27 (x y : Api_Stamp) (w : World) : (Op.equal 27 (keyApi_Stamp x) (keyApi_Stamp y)).run Try.prog w = .ok (decide (x = y)) w := by
  have hS : Try.prog.underlying 27 = some (.struct (Try.prog.fieldsOf 27)) := by kernel_rfl
  have u3 := Try.underlying3; have z3 := Try.sizeOf3; have g3 := Try.isAgg3
  show (Op.equalIn 10000 27 (.agg #[.int .i64 x.N, .int .i64 x.Site]) (.agg #[.int .i64 y.N, .int .i64 y.Site])).run Try.prog w = _
  rw [show (10000 : Nat) = 9999 + 1 from rfl, run_equalIn_agg w 9999 27 _ _ hS Try.stoodInHeld27]
  simp only [Program.fieldsOf, Try.underlying27]
  go_simp
  obtain ⟨a0, a1⟩ := x
  obtain ⟨b0, b1⟩ := y
  by_cases e0 : a0 = b0 <;> by_cases e1 : a1 = b1 <;> simp [*]

theorem keyCk27 (em : Bool) (x : Api_Stamp) (w : World) : (Instr.checkKey em 10000 27 (keyApi_Stamp x)).run Try.prog w = .ok () w := by
  have hS : Try.prog.underlying 27 = some (.struct (Try.prog.fieldsOf 27)) := by kernel_rfl
  have u3 := Try.underlying3; have z3 := Try.sizeOf3; have g3 := Try.isAgg3
  show (Instr.checkKey em 10000 27 (.agg #[.int .i64 x.N, .int .i64 x.Site])).run Try.prog w = _
  rw [show (10000 : Nat) = 9999 + 1 from rfl, Instr.checkKey]
  have hk3 : ∀ v, (Instr.checkKey em 9999 3 (.int .i64 v)).run Try.prog w = .ok () w := fun v => MapKept.run_checkKey (d := .int .i64) (k := .int .i64 v) u3 rfl em 9998
  simp only [Sem.run_bind, run_underlying hS, Result.andThen_ok]
  simp only [Program.fieldsOf, Try.underlying27]
  simp [part, *]

theorem keyOK27 : KeyOK Try.prog 27 keyApi_Stamp := KeyOK.asking (d := .struct (Try.prog.fieldsOf 27)) (by kernel_rfl) (keyCk27) keyEq27 (fun _ _ => rfl) (fun x => by simp [Instr.sameBits])

theorem keyOK3 : KeyOK Try.prog 3 keyI64 := KeyOK.int Try.underlying3

theorem pl27 (fs : Array Field) (h : Try.prog.underlying 27 = some (.struct fs)) : Places Try.prog fs #[(0, 1), (1, 1)] := fun w => by rw [Try.underlying27] at h; cases h; simp [Try.sizeOf3]

theorem pl30 (fs : Array Field) (h : Try.prog.underlying 30 = some (.struct fs)) : Places Try.prog fs #[(0, 1), (1, 1), (2, 1), (3, 2), (5, 1)] := fun w => by rw [Try.underlying30] at h; cases h; simp [Try.sizeOf27, Try.sizeOf28, Try.sizeOf3, Try.sizeOf9]

theorem pl52 (fs : Array Field) (h : Try.prog.underlying 52 = some (.struct fs)) : Places Try.prog fs #[(0, 1), (1, 2)] := fun w => by rw [Try.underlying52] at h; cases h; simp [Try.sizeOf27, Try.sizeOf9]

theorem pl66 (fs : Array Field) (h : Try.prog.underlying 66 = some (.struct fs)) : Places Try.prog fs #[(0, 1), (1, 1)] := fun w => by rw [Try.underlying66] at h; cases h; simp [Try.sizeOf63, Try.sizeOf64]

set_option maxRecDepth 20000 in
set_option maxHeartbeats 2000000 in
theorem ct_keys_Runes (s_0 : ByteArray) (r : Int) (hF : keys_Runes s_0 = some r) : Ct Try.prog 57 [.g (.d (.v (.string s_0)))] (.one (.d (.v (.int .i64 r)))) := by
  unfold keys_Runes at hF
  refine Ct.intro Try.func57 rfl Try.ntmps57 rfl rfl fun M w => ?_
  refine G.seq ?_
  refine G.region ?_
  refine G.op1 (op_assign (Ev.c _ rfl) rfl) rfl trivial trivial ?_
  refine G.endOps ?_
  refine G.seq ?_
  refine G.region ?_
  refine G.op1 (op_assign (Ev.c _ rfl) rfl) rfl trivial trivial ?_
  refine G.endOps ?_
  refine G.seq ?_
  refine G.seq ?_
  refine G.region ?_
  refine G.op1 (op_move (Ev.t 0 (bS s_0)) rfl) rfl ⟨rfl, trivial⟩ trivial ?_
  refine G.op2 (op_range (k := 1007) Try.underlying9 (Ev.t 6 (bS s_0)) rfl) rfl ⟨rfl, trivial⟩ ⟨rfl, trivial⟩ ?_
  refine G.endOps ?_
  refine G.joinC (T := Int) (fun y1 => ⟨[(3, .one (bI .i64 y1))], []⟩) (fun y1 => keys_Runes_k1 y1 = some r) (fun y1 hF => ?_) (fun J2 => ?_)
  · unfold keys_Runes_k1 at hF
    refine G.seq ?_
    refine G.region ?_
    refine G.op1 (op_move (Ev.t 3 (bI .i64 y1)) rfl) rfl ⟨rfl, trivial⟩ trivial ?_
    refine G.op1 (op_assign (Ev.t 40 (bI .i64 y1)) rfl) rfl ⟨rfl, trivial⟩ trivial ?_
    refine G.endOps ?_
    cases hF
    exact G.ret1 Try.results57 (RVar.tmp 2 _) ⟨rfl, trivial⟩ trivial
  refine G.block ?_
  refine G.keep (sl' := [(0, .one (bS s_0)), (3, .one (bI .i64 0)), (7, .one (.ptr 1007 0))]) (hp' := [(1007, some (.it s_0 0))]) ⟨rfl, rfl, rfl, trivial⟩ ⟨rfl, trivial⟩ rfl ?_
  refine G.loopF (fun (v3 : Int × Nat) => ⟨[(0, .one (bS s_0)), (3, .one (bI .i64 v3.1)), (7, .one (.ptr 1007 0))], [(1007, some (.it s_0 v3.2))]⟩) hF rfl (fun K6 again5 v3 J4 hF => ?_)
  unfold keys_Runes_l2 at hF
  refine G.seq ?_
  refine G.region ?_
  refine ifS hF (fun hc7 hF => ?_) (fun hc7 hF => ?_)
  · refine G.op2 (op_nextT hc7 (Ev.t 7 (.ptr 1007 0)) rfl) rfl ⟨rfl, trivial⟩ ⟨rfl, trivial⟩ ?_
    refine G.op1 (op_extract (l := [bB true, bI .i64 (v3.2 : Int), bI .i32 ((Utf8.decode s_0 v3.2).1 : Int)]) (c := bB true) rfl rfl) rfl ⟨rfl, trivial⟩ trivial ?_
    refine G.endOps ?_
    refine G.seq ?_
    refine G.condT rfl ?_
    refine G.skip ?_
    refine G.block ?_
    refine G.seq ?_
    refine G.region ?_
    refine G.op1 (op_extract (l := [bB true, bI .i64 (v3.2 : Int), bI .i32 ((Utf8.decode s_0 v3.2).1 : Int)]) (c := bI .i64 (v3.2 : Int)) rfl rfl) rfl ⟨rfl, trivial⟩ trivial ?_
    refine G.op1 (op_extract (l := [bB true, bI .i64 (v3.2 : Int), bI .i32 ((Utf8.decode s_0 v3.2).1 : Int)]) (c := bI .i32 ((Utf8.decode s_0 v3.2).1 : Int)) rfl rfl) rfl ⟨rfl, trivial⟩ trivial ?_
    refine G.op1 (op_assign (Ev.t 10 (bI .i64 (v3.2 : Int))) rfl) rfl ⟨rfl, trivial⟩ trivial ?_
    refine G.op1 (op_assign (Ev.t 11 (bI .i32 ((Utf8.decode s_0 v3.2).1 : Int))) rfl) rfl ⟨rfl, trivial⟩ trivial ?_
    refine G.endOps ?_
    refine G.seq ?_
    refine G.seq ?_
    refine G.joinC (T := Bool × Nat) (fun y8 => ⟨[(0, .one (bS s_0)), (3, .one (bI .i64 v3.1)), (4, .one (bI .i64 (v3.2 : Int))), (5, .one (bI .i32 ((Utf8.decode s_0 v3.2).1 : Int))), (7, .one (.ptr 1007 0)), (20, .one (bB y8.1))], [(1007, some (.it s_0 y8.2))]⟩) (fun y8 => keys_Runes_k3 s_0 again5 v3 y8 = some r) (fun y8 hF => ?_) (fun J14 => ?_)
    · unfold keys_Runes_k3 at hF
      refine ifS hF (fun hc9 hF => ?_) (fun hc9 hF => ?_)
      · refine G.cond rfl (fun _ => ?_) (fun hx => by rw [hc9] at hx; cases hx)
        refine G.seq ?_
        refine G.region ?_
        refine G.op1 (op_assign (Ev.c _ rfl) rfl) rfl trivial trivial ?_
        refine G.endOps ?_
        cases hF
        exact G.ret1 Try.results57 (RVar.tmp 2 _) ⟨rfl, trivial⟩ trivial
      · refine G.cond rfl (fun hx => by rw [hc9] at hx; cases hx) (fun _ => ?_)
        refine G.skip ?_
        refine G.seq ?_
        refine G.seq ?_
        refine G.region ?_
        refine G.op1 (op_move (Ev.t 5 (bI .i32 ((Utf8.decode s_0 v3.2).1 : Int))) rfl) rfl ⟨rfl, trivial⟩ trivial ?_
        refine G.op1 (op_eqI (Ev.t 21 (bI .i32 ((Utf8.decode s_0 v3.2).1 : Int))) (Ev.c _ rfl) rfl) rfl ⟨rfl, trivial⟩ trivial ?_
        refine G.op1 (op_move (Ev.t 22 (bB (decide (((Utf8.decode s_0 v3.2).1 : Int) = 65533)))) rfl) rfl ⟨rfl, trivial⟩ trivial ?_
        refine ifS hF (fun hc10 hF => ?_) (fun hc10 hF => ?_)
        · refine G.known (t := 23) hc10 rfl ?_
          refine G.opG1 (op_move (Ev.t 0 (bS s_0)) rfl) rfl rfl rfl ⟨rfl, trivial⟩ trivial ?_
          refine G.opG1 (op_lenS Try.underlying9 (Ev.t 24 (bS s_0)) rfl) rfl rfl rfl ⟨rfl, trivial⟩ trivial ?_
          refine G.opG1 (op_move (Ev.t 4 (bI .i64 (v3.2 : Int))) rfl) rfl rfl rfl ⟨rfl, trivial⟩ trivial ?_
          refine G.opG1 (op_sub (Ev.t 25 (bI .i64 (s_0.size : Int))) (Ev.t 26 (bI .i64 (v3.2 : Int))) rfl) rfl rfl rfl ⟨rfl, rfl, trivial⟩ trivial ?_
          refine G.opG1 (op_lss (Ev.t 27 (bI .i64 (IntKind.wrap .i64 ((s_0.size : Int) - (v3.2 : Int))))) (Ev.c _ rfl) rfl) rfl rfl rfl ⟨rfl, trivial⟩ trivial ?_
          refine G.opG1 (op_move (Ev.t 28 (bB (decide ((IntKind.wrap .i64 ((s_0.size : Int) - (v3.2 : Int))) < 3)))) rfl) rfl rfl rfl ⟨rfl, trivial⟩ trivial ?_
          refine ifS hF (fun hc11 hF => ?_) (fun hc11 hF => ?_)
          · refine G.known (t := 29) hc11 rfl ?_
            refine G.opN1 rfl rfl rfl rfl rfl ?_
            refine G.opN1 rfl rfl rfl rfl rfl ?_
            refine G.opN1 rfl rfl rfl rfl rfl ?_
            refine G.opN1 rfl rfl rfl rfl rfl ?_
            refine G.opN1 rfl rfl rfl rfl rfl ?_
            refine G.opN1 rfl rfl rfl rfl rfl ?_
            refine G.opG1 (op_pickT (Ev.t 29 (bB true)) (Ev.c _ rfl) rfl) rfl rfl rfl ⟨rfl, trivial⟩ trivial ?_
            refine G.op1 (op_pickT (Ev.t 23 (bB true)) (Ev.t 36 (bB true)) rfl) rfl ⟨rfl, rfl, trivial⟩ trivial ?_
            refine G.endOps ?_
            refine G.condT rfl ?_
            refine G.seq ?_
            refine G.region ?_
            refine G.op1 (op_assign (Ev.c _ rfl) rfl) rfl trivial trivial ?_
            refine G.endOps ?_
            cases hF
            exact G.ret1 Try.results57 (RVar.tmp 2 _) ⟨rfl, trivial⟩ trivial
          · refine G.known (t := 29) hc11 rfl ?_
            refine G.opG1 (op_move (Ev.t 0 (bS s_0)) rfl) rfl rfl rfl ⟨rfl, trivial⟩ trivial ?_
            refine G.opG1 (op_move (Ev.t 4 (bI .i64 (v3.2 : Int))) rfl) rfl rfl rfl ⟨rfl, trivial⟩ trivial ?_
            refine G.opG1 (op_move (Ev.t 4 (bI .i64 (v3.2 : Int))) rfl) rfl rfl rfl ⟨rfl, trivial⟩ trivial ?_
            refine G.opG1 (op_add (Ev.t 32 (bI .i64 (v3.2 : Int))) (Ev.c _ rfl) rfl) rfl rfl rfl ⟨rfl, trivial⟩ trivial ?_
            obtain ⟨s12, hs12, hF⟩ := bindS hF
            refine G.opG1 (OpL.cast (op_sliceS (lo := some (v3.2 : Int)) (hi := some (IntKind.wrap .i64 ((v3.2 : Int) + 3))) Try.underlying9 (ssub_ok hs12).1 (ssub_ok hs12).2.1 (ssub_ok hs12).2.2.1 (Ev.t 30 (bS s_0)) (EvO.some (Ev.t 31 (bI .i64 (v3.2 : Int)))) (EvO.some (Ev.t 33 (bI .i64 (IntKind.wrap .i64 ((v3.2 : Int) + 3))))) rfl) (congrArg (fun s => bS s) (ssub_ok hs12).2.2.2)) rfl rfl rfl ⟨rfl, rfl, rfl, trivial⟩ trivial ?_
            refine G.opG1 (op_neS (Ev.t 34 (bS s12)) (Ev.c _ rfl) rfl) rfl rfl rfl ⟨rfl, trivial⟩ trivial ?_
            refine G.opG1 (op_pickF (Ev.t 29 (bB false)) (Ev.t 35 (bB (!seq s12 (ByteArray.mk #[239, 191, 189])))) rfl) rfl rfl rfl ⟨rfl, rfl, trivial⟩ trivial ?_
            refine G.op1 (op_pickT (Ev.t 23 (bB true)) (Ev.t 36 (bB (!seq s12 (ByteArray.mk #[239, 191, 189])))) rfl) rfl ⟨rfl, rfl, trivial⟩ trivial ?_
            refine G.endOps ?_
            refine ifS hF (fun hc13 hF => ?_) (fun hc13 hF => ?_)
            · refine G.cond rfl (fun _ => ?_) (fun hx => by rw [hc13] at hx; cases hx)
              refine G.seq ?_
              refine G.region ?_
              refine G.op1 (op_assign (Ev.c _ rfl) rfl) rfl trivial trivial ?_
              refine G.endOps ?_
              cases hF
              exact G.ret1 Try.results57 (RVar.tmp 2 _) ⟨rfl, trivial⟩ trivial
            · refine G.cond rfl (fun hx => by rw [hc13] at hx; cases hx) (fun _ => ?_)
              refine G.skip ?_
              refine G.region ?_
              refine G.op1 (op_move (Ev.t 3 (bI .i64 v3.1)) rfl) rfl ⟨rfl, trivial⟩ trivial ?_
              refine G.op1 (op_add (Ev.t 38 (bI .i64 v3.1)) (Ev.c _ rfl) rfl) rfl ⟨rfl, trivial⟩ trivial ?_
              refine G.op1 (op_assign (Ev.t 39 (bI .i64 (IntKind.wrap .i64 (v3.1 + 1)))) rfl) rfl ⟨rfl, trivial⟩ trivial ?_
              refine G.endOps ?_
              refine G.endBlock ?_
              exact G.arr (J4 (IntKind.wrap .i64 (v3.1 + 1), y8.2) hF) ⟨rfl, rfl, rfl, trivial⟩ ⟨rfl, trivial⟩ rfl
        · refine G.known (t := 23) hc10 rfl ?_
          refine G.opN1 rfl rfl rfl rfl rfl ?_
          refine G.opN1 rfl rfl rfl rfl rfl ?_
          refine G.opN1 rfl rfl rfl rfl rfl ?_
          refine G.opN1 rfl rfl rfl rfl rfl ?_
          refine G.opN1 rfl rfl rfl rfl rfl ?_
          refine G.opN1 rfl rfl rfl rfl rfl ?_
          refine G.opU rfl rfl rfl rfl ?_
          refine G.opU rfl rfl rfl rfl ?_
          refine G.opU rfl rfl rfl rfl ?_
          refine G.opU rfl rfl rfl rfl ?_
          refine G.opU rfl rfl rfl rfl ?_
          refine G.opU rfl rfl rfl rfl ?_
          refine G.opN1 rfl rfl rfl rfl rfl ?_
          refine G.op1 (op_pickF (Ev.t 23 (bB false)) (Ev.c _ rfl) rfl) rfl ⟨rfl, trivial⟩ trivial ?_
          refine G.endOps ?_
          refine G.condF rfl ?_
          refine G.skip ?_
          refine G.region ?_
          refine G.op1 (op_move (Ev.t 3 (bI .i64 v3.1)) rfl) rfl ⟨rfl, trivial⟩ trivial ?_
          refine G.op1 (op_add (Ev.t 38 (bI .i64 v3.1)) (Ev.c _ rfl) rfl) rfl ⟨rfl, trivial⟩ trivial ?_
          refine G.op1 (op_assign (Ev.t 39 (bI .i64 (IntKind.wrap .i64 (v3.1 + 1)))) rfl) rfl ⟨rfl, trivial⟩ trivial ?_
          refine G.endOps ?_
          refine G.endBlock ?_
          exact G.arr (J4 (IntKind.wrap .i64 (v3.1 + 1), y8.2) hF) ⟨rfl, rfl, rfl, trivial⟩ ⟨rfl, trivial⟩ rfl
    refine ifS hF (fun hc15 hF => ?_) (fun hc15 hF => ?_)
    · obtain ⟨b16, hb16, hF⟩ := bindS hF
      obtain ⟨b17, hb17, hF⟩ := bindS hF
      refine G.drawn (effs := [⟨[(5, .one (bI .i32 ((Utf8.decode s_0 v3.2).1 : Int)))], [], [(12, .one (bI .i32 ((Utf8.decode s_0 v3.2).1 : Int)))], []⟩, ⟨[(12, .one (bI .i32 ((Utf8.decode s_0 v3.2).1 : Int)))], [], [(13, .one (bB true))], []⟩, ⟨[(13, .one (bB true))], [], [(14, .one (bB true))], []⟩, ⟨[(14, .one (bB true)), (0, .one (bS s_0))], [], [(15, .one (bS s_0))], []⟩, ⟨[(14, .one (bB true)), (4, .one (bI .i64 (v3.2 : Int)))], [], [(16, .one (bI .i64 (v3.2 : Int)))], []⟩, ⟨[(14, .one (bB true)), (15, .one (bS s_0)), (16, .one (bI .i64 (v3.2 : Int)))], [], [(17, .one (bI .u8 (b16.toNat : Int)))], []⟩, ⟨[(14, .one (bB true))], [], [(18, .one (bI .u8 (b17.toNat : Int)))], []⟩, ⟨[(14, .one (bB true)), (17, .one (bI .u8 (b16.toNat : Int))), (18, .one (bI .u8 (b17.toNat : Int)))], [], [(19, .one (bB (!decide ((b16.toNat : Int) = (b17.toNat : Int)))))], []⟩, ⟨[(14, .one (bB true)), (19, .one (bB (!decide ((b16.toNat : Int) = (b17.toNat : Int)))))], [], [(20, .one (bB (!decide ((b16.toNat : Int) = (b17.toNat : Int)))))], []⟩]) (deps := [[], [0], [0, 1], [0, 1, 2], [0, 1, 2], [0, 1, 2, 3, 4], [0, 1, 2], [0, 1, 2, 3, 4, 5, 6], [0, 1, 2, 3, 4, 5, 6, 7]]) (sl' := [(0, .one (bS s_0)), (3, .one (bI .i64 v3.1)), (4, .one (bI .i64 (v3.2 : Int))), (5, .one (bI .i32 ((Utf8.decode s_0 v3.2).1 : Int))), (7, .one (.ptr 1007 0)), (20, .one (bB (!decide ((b16.toNat : Int) = (b17.toNat : Int)))))]) (hp' := [(1007, some (.it s_0 (v3.2 + (Utf8.decode s_0 v3.2).2)))]) follows rfl rfl rfl ⟨⟨rfl, trivial⟩, trivial, ⟨rfl, trivial⟩, trivial, ⟨rfl, trivial⟩, trivial, ⟨rfl, rfl, trivial⟩, trivial, ⟨rfl, rfl, trivial⟩, trivial, ⟨rfl, rfl, rfl, trivial⟩, trivial, ⟨rfl, trivial⟩, trivial, ⟨rfl, rfl, rfl, trivial⟩, trivial, ⟨rfl, rfl, trivial⟩, trivial, trivial⟩ ⟨OpW.plain (op_move (Ev.t 5 (bI .i32 ((Utf8.decode s_0 v3.2).1 : Int))) rfl) rfl rfl, OpW.plain (OpL.cast (op_eqI (Ev.t 12 (bI .i32 ((Utf8.decode s_0 v3.2).1 : Int))) (Ev.c _ rfl) rfl) (congrArg (fun b => bB b) hc15)) rfl rfl, OpW.plain (op_move (Ev.t 13 (bB true)) rfl) rfl rfl, OpW.yes (op_move (Ev.t 0 (bS s_0)) rfl) rfl rfl rfl, OpW.yes (op_move (Ev.t 4 (bI .i64 (v3.2 : Int))) rfl) rfl rfl rfl, OpW.yes (op_indexS Try.underlying9 (sidx_ok hb16).1 (sidx_ok hb16).2 (Ev.t 15 (bS s_0)) (Ev.t 16 (bI .i64 (v3.2 : Int))) rfl) rfl rfl rfl, OpW.yes (op_indexS Try.underlying9 (sidx_ok hb17).1 (sidx_ok hb17).2 (Ev.c _ rfl) (Ev.c _ rfl) rfl) rfl rfl rfl, OpW.yes (op_neI (Ev.t 17 (bI .u8 (b16.toNat : Int))) (Ev.t 18 (bI .u8 (b17.toNat : Int))) rfl) rfl rfl rfl, OpW.plain (op_pickT (Ev.t 14 (bB true)) (Ev.t 19 (bB (!decide ((b16.toNat : Int) = (b17.toNat : Int))))) rfl) rfl rfl, trivial⟩ ⟨rfl, rfl, rfl, rfl, rfl, rfl, trivial⟩ ⟨rfl, trivial⟩ rfl ?_
      exact G.arr (J14 (!decide ((b16.toNat : Int) = (b17.toNat : Int)), v3.2 + (Utf8.decode s_0 v3.2).2) hF) ⟨rfl, rfl, rfl, rfl, rfl, rfl, trivial⟩ ⟨rfl, trivial⟩ rfl
    · refine G.drawn (effs := [⟨[(5, .one (bI .i32 ((Utf8.decode s_0 v3.2).1 : Int)))], [], [(12, .one (bI .i32 ((Utf8.decode s_0 v3.2).1 : Int)))], []⟩, ⟨[(12, .one (bI .i32 ((Utf8.decode s_0 v3.2).1 : Int)))], [], [(13, .one (bB false))], []⟩, ⟨[(13, .one (bB false))], [], [(14, .one (bB false))], []⟩, ⟨[(14, .one (bB false))], [], [(15, .one (.x Go.undef))], []⟩, ⟨[(14, .one (bB false))], [], [(16, .one (.x Go.undef))], []⟩, ⟨[(14, .one (bB false))], [], [(17, .one (.x Go.undef))], []⟩, ⟨[(14, .one (bB false))], [], [(18, .one (.x Go.undef))], []⟩, ⟨[(14, .one (bB false))], [], [(19, .one (.x Go.undef))], []⟩, ⟨[(14, .one (bB false))], [], [(20, .one (bB false))], []⟩]) (deps := [[], [0], [0, 1], [0, 1, 2], [0, 1, 2], [0, 1, 2, 3, 4], [0, 1, 2], [0, 1, 2, 3, 4, 5, 6], [0, 1, 2, 3, 4, 5, 6, 7]]) (sl' := [(0, .one (bS s_0)), (3, .one (bI .i64 v3.1)), (4, .one (bI .i64 (v3.2 : Int))), (5, .one (bI .i32 ((Utf8.decode s_0 v3.2).1 : Int))), (7, .one (.ptr 1007 0)), (20, .one (bB false))]) (hp' := [(1007, some (.it s_0 (v3.2 + (Utf8.decode s_0 v3.2).2)))]) follows rfl rfl rfl ⟨⟨rfl, trivial⟩, trivial, ⟨rfl, trivial⟩, trivial, ⟨rfl, trivial⟩, trivial, ⟨rfl, trivial⟩, trivial, ⟨rfl, trivial⟩, trivial, ⟨rfl, trivial⟩, trivial, ⟨rfl, trivial⟩, trivial, ⟨rfl, trivial⟩, trivial, ⟨rfl, trivial⟩, trivial, trivial⟩ ⟨OpW.plain (op_move (Ev.t 5 (bI .i32 ((Utf8.decode s_0 v3.2).1 : Int))) rfl) rfl rfl, OpW.plain (OpL.cast (op_eqI (Ev.t 12 (bI .i32 ((Utf8.decode s_0 v3.2).1 : Int))) (Ev.c _ rfl) rfl) (congrArg (fun b => bB b) hc15)) rfl rfl, OpW.plain (op_move (Ev.t 13 (bB false)) rfl) rfl rfl, OpW.no rfl rfl rfl rfl rfl, OpW.no rfl rfl rfl rfl rfl, OpW.no rfl rfl rfl rfl rfl, OpW.no rfl rfl rfl rfl rfl, OpW.no rfl rfl rfl rfl rfl, OpW.plain (op_pickF (Ev.t 14 (bB false)) (Ev.c _ rfl) rfl) rfl rfl, trivial⟩ ⟨rfl, rfl, rfl, rfl, rfl, rfl, trivial⟩ ⟨rfl, trivial⟩ rfl ?_
      exact G.arr (J14 (false, v3.2 + (Utf8.decode s_0 v3.2).2) hF) ⟨rfl, rfl, rfl, rfl, rfl, rfl, trivial⟩ ⟨rfl, trivial⟩ rfl
  · refine G.op1 (op_nextF hc7 (Ev.t 7 (.ptr 1007 0)) rfl) rfl ⟨rfl, trivial⟩ ⟨rfl, trivial⟩ ?_
    refine G.op1 (op_extract (l := [bB false]) (c := bB false) rfl rfl) rfl ⟨rfl, trivial⟩ trivial ?_
    refine G.endOps ?_
    refine G.seq ?_
    refine G.condF rfl ?_
    refine G.exit ?_
    refine GX.c ?_
    refine GX.q ?_
    refine GX.bYes ?_
    exact G.arr (J2 v3.1 hF) ⟨rfl, trivial⟩ trivial rfl


set_option maxRecDepth 20000 in
set_option maxHeartbeats 2000000 in
theorem ct_keys_Check (s_0 : ByteArray) (r : Bool) (hF : keys_Check s_0 = some r) : Ct Try.prog 40 [.g (.d (.v (.string s_0)))] (.one (.d (.v (.bool r)))) := by
  unfold keys_Check at hF
  refine Ct.intro Try.func40 rfl Try.ntmps40 rfl rfl fun M w => ?_
  refine G.seq ?_
  refine G.region ?_
  refine G.op1 (op_assign (Ev.c _ rfl) rfl) rfl trivial trivial ?_
  refine G.endOps ?_
  refine G.scope ?_
  refine G.seq ?_
  refine G.region ?_
  refine G.op1 (op_move (Ev.t 0 (bS s_0)) rfl) rfl ⟨rfl, trivial⟩ trivial ?_
  obtain ⟨r1, hr1, hF⟩ := bindS hF
  refine G.op1 (op_callQ (sv := .one (bI .i64 r1)) cf57 (ct_keys_Runes s_0 r1 hr1) rfl rfl (EvQL.cons (EvQ.g (Ev.t 7 (bS s_0))) EvQL.nil) rfl) rfl ⟨rfl, trivial⟩ trivial ?_
  refine G.op1 (op_assign (Ev.t 8 (bI .i64 r1)) rfl) rfl ⟨rfl, trivial⟩ trivial ?_
  refine G.endOps ?_
  refine G.seq ?_
  refine G.joinC (T := Bool) (fun y2 => ⟨[(0, .one (bS s_0)), (4, .one (bB y2))], []⟩) (fun y2 => keys_Check_k1 s_0 y2 = some r) (fun y2 hF => ?_) (fun J11 => ?_)
  · unfold keys_Check_k1 at hF
    refine G.seq ?_
    refine G.label ?_
    refine G.seq ?_
    refine G.seq ?_
    refine G.region ?_
    refine G.op1 (op_move (Ev.t 0 (bS s_0)) rfl) rfl ⟨rfl, trivial⟩ trivial ?_
    refine G.op2 (op_range (k := 1016) Try.underlying9 (Ev.t 15 (bS s_0)) rfl) rfl ⟨rfl, trivial⟩ ⟨rfl, trivial⟩ ?_
    refine G.endOps ?_
    refine G.joinC (T := Bool) (fun y3 => ⟨[(4, .one (bB y3))], []⟩) (fun y3 => keys_Check_k2 y3 = some r) (fun y3 hF => ?_) (fun J4 => ?_)
    · unfold keys_Check_k2 at hF
      refine G.seq ?_
      refine G.region ?_
      refine G.op1 (op_move (Ev.t 4 (bB y3)) rfl) rfl ⟨rfl, trivial⟩ trivial ?_
      refine G.op1 (op_assign (Ev.t 24 (bB y3)) rfl) rfl ⟨rfl, trivial⟩ trivial ?_
      refine G.endOps ?_
      cases hF
      exact G.ret1 Try.results40 (RVar.tmp 2 _) ⟨rfl, trivial⟩ trivial
    refine G.block ?_
    refine G.keep (sl' := [(4, .one (bB y2)), (16, .one (.ptr 1016 0))]) (hp' := [(1016, some (.it s_0 0))]) ⟨rfl, rfl, trivial⟩ ⟨rfl, trivial⟩ rfl ?_
    refine G.loopF (fun (v5 : Bool × Nat) => ⟨[(4, .one (bB v5.1)), (16, .one (.ptr 1016 0))], [(1016, some (.it s_0 v5.2))]⟩) hF rfl (fun K8 again7 v5 J6 hF => ?_)
    unfold keys_Check_l3 at hF
    refine G.seq ?_
    refine G.region ?_
    refine ifS hF (fun hc9 hF => ?_) (fun hc9 hF => ?_)
    · refine G.op2 (op_nextT hc9 (Ev.t 16 (.ptr 1016 0)) rfl) rfl ⟨rfl, trivial⟩ ⟨rfl, trivial⟩ ?_
      refine G.op1 (op_extract (l := [bB true, bI .i64 (v5.2 : Int), bI .i32 ((Utf8.decode s_0 v5.2).1 : Int)]) (c := bB true) rfl rfl) rfl ⟨rfl, trivial⟩ trivial ?_
      refine G.endOps ?_
      refine G.seq ?_
      refine G.condT rfl ?_
      refine G.skip ?_
      refine G.block ?_
      refine G.seq ?_
      refine G.region ?_
      refine G.op1 (op_extract (l := [bB true, bI .i64 (v5.2 : Int), bI .i32 ((Utf8.decode s_0 v5.2).1 : Int)]) (c := bI .i32 ((Utf8.decode s_0 v5.2).1 : Int)) rfl rfl) rfl ⟨rfl, trivial⟩ trivial ?_
      refine G.op1 (op_assign (Ev.t 19 (bI .i32 ((Utf8.decode s_0 v5.2).1 : Int))) rfl) rfl ⟨rfl, trivial⟩ trivial ?_
      refine G.endOps ?_
      refine G.seq ?_
      refine G.seq ?_
      refine G.region ?_
      refine G.op1 (op_move (Ev.t 4 (bB v5.1)) rfl) rfl ⟨rfl, trivial⟩ trivial ?_
      refine G.op1 (op_not (Ev.t 20 (bB v5.1)) rfl) rfl ⟨rfl, trivial⟩ trivial ?_
      refine G.endOps ?_
      refine ifS hF (fun hc10 hF => ?_) (fun hc10 hF => ?_)
      · refine G.cond rfl (fun _ => ?_) (fun hx => by rw [hc10] at hx; cases hx)
        refine G.exit ?_
        refine GX.c ?_
        refine GX.bNo rfl ?_
        refine GX.q ?_
        refine GX.bYes ?_
        exact G.arr (J4 v5.1 hF) ⟨rfl, trivial⟩ trivial rfl
      · refine G.cond rfl (fun hx => by rw [hc10] at hx; cases hx) (fun _ => ?_)
        refine G.skip ?_
        refine G.region ?_
        refine G.op1 (op_move (Ev.t 6 (bI .i32 ((Utf8.decode s_0 v5.2).1 : Int))) rfl) rfl ⟨rfl, trivial⟩ trivial ?_
        refine G.op1 (op_geq (Ev.t 22 (bI .i32 ((Utf8.decode s_0 v5.2).1 : Int))) (Ev.c _ rfl) rfl) rfl ⟨rfl, trivial⟩ trivial ?_
        refine G.op1 (op_assign (Ev.t 23 (bB (decide (33 ≤ ((Utf8.decode s_0 v5.2).1 : Int))))) rfl) rfl ⟨rfl, trivial⟩ trivial ?_
        refine G.endOps ?_
        refine G.endBlock ?_
        exact G.arr (J6 (decide (33 ≤ ((Utf8.decode s_0 v5.2).1 : Int)), v5.2 + (Utf8.decode s_0 v5.2).2) hF) ⟨rfl, rfl, trivial⟩ ⟨rfl, trivial⟩ rfl
    · refine G.op1 (op_nextF hc9 (Ev.t 16 (.ptr 1016 0)) rfl) rfl ⟨rfl, trivial⟩ ⟨rfl, trivial⟩ ?_
      refine G.op1 (op_extract (l := [bB false]) (c := bB false) rfl rfl) rfl ⟨rfl, trivial⟩ trivial ?_
      refine G.endOps ?_
      refine G.seq ?_
      refine G.condF rfl ?_
      refine G.exit ?_
      refine GX.c ?_
      refine GX.q ?_
      refine GX.bYes ?_
      exact G.arr (J4 v5.1 hF) ⟨rfl, trivial⟩ trivial rfl
  refine G.region ?_
  refine G.op1 (op_move (Ev.t 3 (bI .i64 r1)) rfl) rfl ⟨rfl, trivial⟩ trivial ?_
  refine G.op1 (op_geq (Ev.t 9 (bI .i64 r1)) (Ev.c _ rfl) rfl) rfl ⟨rfl, trivial⟩ trivial ?_
  refine G.op1 (op_move (Ev.t 10 (bB (decide (1 ≤ r1)))) rfl) rfl ⟨rfl, trivial⟩ trivial ?_
  refine ifS hF (fun hc12 hF => ?_) (fun hc12 hF => ?_)
  · refine G.known (t := 11) hc12 rfl ?_
    refine G.opG1 (op_move (Ev.t 3 (bI .i64 r1)) rfl) rfl rfl rfl ⟨rfl, trivial⟩ trivial ?_
    refine G.opG1 (op_leq (Ev.t 12 (bI .i64 r1)) (Ev.c _ rfl) rfl) rfl rfl rfl ⟨rfl, trivial⟩ trivial ?_
    refine G.op1 (op_pickT (Ev.t 11 (bB true)) (Ev.t 13 (bB (decide (r1 ≤ 8)))) rfl) rfl ⟨rfl, rfl, trivial⟩ trivial ?_
    refine G.op1 (op_assign (Ev.t 14 (bB (decide (r1 ≤ 8)))) rfl) rfl ⟨rfl, trivial⟩ trivial ?_
    refine G.endOps ?_
    exact G.arr (J11 (decide (r1 ≤ 8)) hF) ⟨rfl, rfl, trivial⟩ trivial rfl
  · refine G.known (t := 11) hc12 rfl ?_
    refine G.opN1 rfl rfl rfl rfl rfl ?_
    refine G.opN1 rfl rfl rfl rfl rfl ?_
    refine G.op1 (op_pickF (Ev.t 11 (bB false)) (Ev.c _ rfl) rfl) rfl ⟨rfl, trivial⟩ trivial ?_
    refine G.op1 (op_assign (Ev.t 14 (bB false)) rfl) rfl ⟨rfl, trivial⟩ trivial ?_
    refine G.endOps ?_
    exact G.arr (J11 false hF) ⟨rfl, rfl, trivial⟩ trivial rfl


set_option maxRecDepth 20000 in
set_option maxHeartbeats 2000000 in
theorem ct_stamp_Check (s_0 : Api_Stamp) (r : Bool) (hF : stamp_Check s_0 = some r) : Ct Try.prog 46 [.g (.agg (encApi_Stamp s_0))] (.one (.d (.v (.bool r)))) := by
  unfold stamp_Check at hF
  refine Ct.intro Try.func46 rfl Try.ntmps46 rfl rfl fun M w => ?_
  refine G.seq ?_
  refine G.region ?_
  refine G.op2 (op_boxA (k := 1001) (Ev.t 0 (.g (.agg [.v (.int .i64 s_0.N), .v (.int .i64 s_0.Site)]))) rfl) rfl ⟨rfl, trivial⟩ ⟨rfl, trivial⟩ ?_
  refine G.op1 (op_assign (Ev.c _ rfl) rfl) rfl trivial trivial ?_
  refine G.endOps ?_
  refine G.seq ?_
  refine G.region ?_
  refine G.op1 (op_fieldP (off' := 0) Try.underlying27 rfl ti3 (by decide) rfl (Ev.t 1 (.ptr 1001 0)) rfl) rfl ⟨rfl, trivial⟩ trivial ?_
  refine G.op1 (op_load1P (c := bI .i64 s_0.N) Try.underlying3 rfl rfl (Ev.t 3 (.ptr 1001 0)) rfl) rfl ⟨rfl, trivial⟩ ⟨rfl, trivial⟩ ?_
  refine G.op1 (op_geq (Ev.t 4 (bI .i64 s_0.N)) (Ev.c _ rfl) rfl) rfl ⟨rfl, trivial⟩ trivial ?_
  refine G.op1 (op_move (Ev.t 5 (bB (decide (1 ≤ s_0.N)))) rfl) rfl ⟨rfl, trivial⟩ trivial ?_
  refine G.joinL (T := Bool) 4 (fun y1 => ⟨[(1, .one (.ptr 1001 0)), (10, .one (bB y1))], [(1001, some (.blk 27 [bI .i64 s_0.N, bI .i64 s_0.Site]))]⟩) (fun y1 => stamp_Check_k1 s_0 y1 = some r) (fun y1 hF => ?_) (fun J6 => ?_)
  · unfold stamp_Check_k1 at hF
    refine G.op1 (op_move (Ev.t 10 (bB y1)) rfl) rfl ⟨rfl, trivial⟩ trivial ?_
    refine G.joinL (T := Bool) 4 (fun y2 => ⟨[(1, .one (.ptr 1001 0)), (15, .one (bB y2))], [(1001, some (.blk 27 [bI .i64 s_0.N, bI .i64 s_0.Site]))]⟩) (fun y2 => stamp_Check_k2 s_0 y2 = some r) (fun y2 hF => ?_) (fun J4 => ?_)
    · unfold stamp_Check_k2 at hF
      refine G.op1 (op_move (Ev.t 15 (bB y2)) rfl) rfl ⟨rfl, trivial⟩ trivial ?_
      refine ifS hF (fun hc3 hF => ?_) (fun hc3 hF => ?_)
      · refine G.known (t := 16) hc3 rfl ?_
        refine G.opG1 (op_fieldP (off' := 1) Try.underlying27 rfl ti3 (by decide) rfl (Ev.t 1 (.ptr 1001 0)) rfl) rfl rfl rfl ⟨rfl, trivial⟩ trivial ?_
        refine G.opG1 (op_load1P (c := bI .i64 s_0.Site) Try.underlying3 rfl rfl (Ev.t 17 (.ptr 1001 1)) rfl) rfl rfl rfl ⟨rfl, trivial⟩ ⟨rfl, trivial⟩ ?_
        refine G.opG1 (op_lss (Ev.t 18 (bI .i64 s_0.Site)) (Ev.c _ rfl) rfl) rfl rfl rfl ⟨rfl, trivial⟩ trivial ?_
        refine G.op1 (op_pickT (Ev.t 16 (bB true)) (Ev.t 19 (bB (decide (s_0.Site < 6)))) rfl) rfl ⟨rfl, rfl, trivial⟩ trivial ?_
        refine G.op1 (op_assign (Ev.t 20 (bB (decide (s_0.Site < 6)))) rfl) rfl ⟨rfl, trivial⟩ trivial ?_
        refine G.endOps ?_
        cases hF
        exact G.ret1 Try.results46 (RVar.tmp 2 _) ⟨rfl, trivial⟩ trivial
      · refine G.known (t := 16) hc3 rfl ?_
        refine G.opN1 rfl rfl rfl rfl rfl ?_
        refine G.opN1 rfl rfl rfl rfl rfl ?_
        refine G.opN1 rfl rfl rfl rfl rfl ?_
        refine G.op1 (op_pickF (Ev.t 16 (bB false)) (Ev.c _ rfl) rfl) rfl ⟨rfl, trivial⟩ trivial ?_
        refine G.op1 (op_assign (Ev.t 20 (bB false)) rfl) rfl ⟨rfl, trivial⟩ trivial ?_
        refine G.endOps ?_
        cases hF
        exact G.ret1 Try.results46 (RVar.tmp 2 _) ⟨rfl, trivial⟩ trivial
    refine ifS hF (fun hc5 hF => ?_) (fun hc5 hF => ?_)
    · refine G.known (t := 11) hc5 rfl ?_
      refine G.opG1 (op_fieldP (off' := 1) Try.underlying27 rfl ti3 (by decide) rfl (Ev.t 1 (.ptr 1001 0)) rfl) rfl rfl rfl ⟨rfl, trivial⟩ trivial ?_
      refine G.opG1 (op_load1P (c := bI .i64 s_0.Site) Try.underlying3 rfl rfl (Ev.t 12 (.ptr 1001 1)) rfl) rfl rfl rfl ⟨rfl, trivial⟩ ⟨rfl, trivial⟩ ?_
      refine G.opG1 (op_geq (Ev.t 13 (bI .i64 s_0.Site)) (Ev.c _ rfl) rfl) rfl rfl rfl ⟨rfl, trivial⟩ trivial ?_
      refine G.op1 (op_pickT (Ev.t 11 (bB true)) (Ev.t 14 (bB (decide (0 ≤ s_0.Site)))) rfl) rfl ⟨rfl, rfl, trivial⟩ trivial ?_
      exact G.arr (J4 (decide (0 ≤ s_0.Site)) hF) ⟨rfl, rfl, trivial⟩ ⟨rfl, trivial⟩ rfl
    · refine G.known (t := 11) hc5 rfl ?_
      refine G.opN1 rfl rfl rfl rfl rfl ?_
      refine G.opN1 rfl rfl rfl rfl rfl ?_
      refine G.opN1 rfl rfl rfl rfl rfl ?_
      refine G.op1 (op_pickF (Ev.t 11 (bB false)) (Ev.c _ rfl) rfl) rfl ⟨rfl, trivial⟩ trivial ?_
      exact G.arr (J4 false hF) ⟨rfl, rfl, trivial⟩ ⟨rfl, trivial⟩ rfl
  refine ifS hF (fun hc7 hF => ?_) (fun hc7 hF => ?_)
  · refine G.known (t := 6) hc7 rfl ?_
    refine G.opG1 (op_fieldP (off' := 0) Try.underlying27 rfl ti3 (by decide) rfl (Ev.t 1 (.ptr 1001 0)) rfl) rfl rfl rfl ⟨rfl, trivial⟩ trivial ?_
    refine G.opG1 (op_load1P (c := bI .i64 s_0.N) Try.underlying3 rfl rfl (Ev.t 7 (.ptr 1001 0)) rfl) rfl rfl rfl ⟨rfl, trivial⟩ ⟨rfl, trivial⟩ ?_
    refine G.opG1 (op_leq (Ev.t 8 (bI .i64 s_0.N)) (Ev.c _ rfl) rfl) rfl rfl rfl ⟨rfl, trivial⟩ trivial ?_
    refine G.op1 (op_pickT (Ev.t 6 (bB true)) (Ev.t 9 (bB (decide (s_0.N ≤ 1099511627776)))) rfl) rfl ⟨rfl, rfl, trivial⟩ trivial ?_
    exact G.arr (J6 (decide (s_0.N ≤ 1099511627776)) hF) ⟨rfl, rfl, trivial⟩ ⟨rfl, trivial⟩ rfl
  · refine G.known (t := 6) hc7 rfl ?_
    refine G.opN1 rfl rfl rfl rfl rfl ?_
    refine G.opN1 rfl rfl rfl rfl rfl ?_
    refine G.opN1 rfl rfl rfl rfl rfl ?_
    refine G.op1 (op_pickF (Ev.t 6 (bB false)) (Ev.c _ rfl) rfl) rfl ⟨rfl, trivial⟩ trivial ?_
    exact G.arr (J6 false hF) ⟨rfl, rfl, trivial⟩ ⟨rfl, trivial⟩ rfl


set_option maxRecDepth 20000 in
set_option maxHeartbeats 2000000 in
theorem ct_history_row (p_0 : (List Api_Dep)) (r : Bool) (hF : history_row p_0 = some r) : Ct Try.prog 41 [.g (.d (.sl 3 (List.map encApi_Dep p_0)))] (.one (.d (.v (.bool r)))) := by
  unfold history_row at hF
  refine Ct.intro Try.func41 rfl Try.ntmps41 rfl rfl fun M w => ?_
  refine G.seq ?_
  refine G.region ?_
  refine G.op1 (op_assign (Ev.c _ rfl) rfl) rfl trivial trivial ?_
  refine G.endOps ?_
  refine G.seq ?_
  refine G.seq ?_
  refine G.region ?_
  refine G.op1 (op_move (Ev.t 0 (.g (.d (.sl 3 (List.map encApi_Dep p_0))))) rfl) rfl ⟨rfl, trivial⟩ trivial ?_
  refine G.op1 (OpL.cast (op_lenD Try.underlying28 (Ev.t 5 (.g (.d (.sl 3 (List.map encApi_Dep p_0))))) rfl) (by rw [List.length_map])) rfl ⟨rfl, trivial⟩ trivial ?_
  refine G.op1 (op_move (Ev.c _ rfl) rfl) rfl trivial trivial ?_
  refine G.endOps ?_
  refine G.joinC (T := Unit) (fun y1 => ⟨[], []⟩) (fun y1 => history_row_k1 y1 = some r) (fun y1 hF => ?_) (fun J2 => ?_)
  · unfold history_row_k1 at hF
    refine G.seq ?_
    refine G.region ?_
    refine G.op1 (op_assign (Ev.c _ rfl) rfl) rfl trivial trivial ?_
    refine G.endOps ?_
    cases hF
    exact G.ret1 Try.results41 (RVar.tmp 2 _) ⟨rfl, trivial⟩ trivial
  refine G.block ?_
  refine G.keep (sl' := [(0, .one (.g (.d (.sl 3 (List.map encApi_Dep p_0))))), (5, .one (.g (.d (.sl 3 (List.map encApi_Dep p_0))))), (6, .one (bI .i64 (p_0.length : Int))), (7, .one (bI .i64 0))]) (hp' := []) ⟨rfl, rfl, rfl, rfl, trivial⟩ trivial rfl ?_
  refine G.loopF (fun (v3 : Int) => ⟨[(0, .one (.g (.d (.sl 3 (List.map encApi_Dep p_0))))), (5, .one (.g (.d (.sl 3 (List.map encApi_Dep p_0))))), (6, .one (bI .i64 (p_0.length : Int))), (7, .one (bI .i64 v3))], []⟩) hF rfl (fun K6 again5 v3 J4 hF => ?_)
  unfold history_row_l2 at hF
  refine G.seq ?_
  refine G.region ?_
  refine G.op1 (op_lss (Ev.t 7 (bI .i64 v3)) (Ev.t 6 (bI .i64 (p_0.length : Int))) rfl) rfl ⟨rfl, rfl, trivial⟩ trivial ?_
  refine G.endOps ?_
  refine G.seq ?_
  refine ifS hF (fun hc7 hF => ?_) (fun hc7 hF => ?_)
  · refine G.cond rfl (fun _ => ?_) (fun hx => by rw [hc7] at hx; cases hx)
    refine G.skip ?_
    refine G.seq ?_
    refine G.block ?_
    refine G.seq ?_
    refine G.region ?_
    refine G.op1 (op_move (Ev.t 7 (bI .i64 v3)) rfl) rfl ⟨rfl, trivial⟩ trivial ?_
    obtain ⟨x8, hx8, hF⟩ := bindS hF
    refine G.op1 (op_index (cs := [.v (.string x8.Key), .v (.int .i64 x8.Stamp.N), .v (.int .i64 x8.Stamp.Site)]) Try.underlying28 ti52 (idx_ok hx8).1 (idx_get hx8 encApi_Dep) (Ev.t 5 (.g (.d (.sl 3 (List.map encApi_Dep p_0))))) (Ev.t 7 (bI .i64 v3)) rfl) rfl ⟨rfl, rfl, trivial⟩ trivial ?_
    refine G.op1 (op_loadAE (ds := [.v (.string x8.Key), .v (.int .i64 x8.Stamp.N), .v (.int .i64 x8.Stamp.Site)]) Try.underlying52 rfl ti52 rfl (Ev.t 10 (.ep [.v (.string x8.Key), .v (.int .i64 x8.Stamp.N), .v (.int .i64 x8.Stamp.Site)])) rfl) rfl ⟨rfl, trivial⟩ trivial ?_
    refine G.op2 (op_alloc (k := 1004) (cs := [bS ByteArray.empty, bI .i64 0, bI .i64 0]) ti52 ⟨.v _ rfl, .v _ rfl, .v _ rfl, trivial⟩ rfl) rfl trivial ⟨rfl, trivial⟩ ?_
    refine G.op1 (op_assign (Ev.t 9 (bI .i64 v3)) rfl) rfl ⟨rfl, trivial⟩ trivial ?_
    refine G.op3 (op_storeA (cs' := [bS x8.Key, bI .i64 x8.Stamp.N, bI .i64 x8.Stamp.Site]) ti52 rfl rfl (Ev.t 4 (.ptr 1004 0)) (Ev.t 11 (.g (.agg [.v (.string x8.Key), .v (.int .i64 x8.Stamp.N), .v (.int .i64 x8.Stamp.Site)])))) rfl ⟨rfl, rfl, trivial⟩ ⟨rfl, trivial⟩ ?_
    refine G.endOps ?_
    refine G.seq ?_
    obtain ⟨r9, hr9, hF⟩ := bindS hF
    refine ifS hF (fun hc10 hF => ?_) (fun hc10 hF => ?_)
    · refine G.drawn (effs := (⟨[(4, .one (.ptr 1004 0))], [], [(12, .one (.ptr 1004 0))], []⟩ :: ⟨[(12, .one (.ptr 1004 0))], [(1004, some (.blk 52 [bS x8.Key, bI .i64 x8.Stamp.N, bI .i64 x8.Stamp.Site]))], [(13, .one (bS x8.Key))], []⟩ :: ⟨[(13, .one (bS x8.Key))], [], [(14, .one (bB r9))], []⟩ :: ⟨[(14, .one (bB r9))], [], [(15, .one (bB true))], []⟩ :: ⟨[(15, .one (bB true))], [], [(16, .one (bB true))], []⟩ :: ⟨[(16, .one (bB true))], [], [(17, .one (.x Go.undef))], []⟩ :: ⟨[(16, .one (bB true))], [], [(18, .one (.x Go.undef))], []⟩ :: ⟨[(16, .one (bB true))], [], [(19, .one (.x Go.undef))], []⟩ :: ⟨[(16, .one (bB true))], [], [(20, .one (.x Go.undef))], []⟩ :: ⟨[(16, .one (bB true))], [], [(21, .one (bB true))], []⟩ :: ⟨[(21, .one (bB true))], [], [(22, .one (bB true))], []⟩ :: ⟨[(22, .one (bB true))], [], [(23, .one (.x Go.undef))], []⟩ :: ⟨[(22, .one (bB true))], [], [(24, .one (.x Go.undef))], []⟩ :: ⟨[(22, .one (bB true))], [], [(25, .one (.x Go.undef))], []⟩ :: ⟨[(25, .one (.x Go.undef))], [], [(26, .one (.x Go.undef))], []⟩ :: ⟨[(25, .one (.x Go.undef))], [], [(27, .one (.x Go.undef))], []⟩ :: ⟨[(25, .one (.x Go.undef))], [], [(28, .one (.x Go.undef))], []⟩ :: ⟨[(25, .one (.x Go.undef))], [], [(29, .one (.x Go.undef))], []⟩ :: ⟨[(25, .one (.x Go.undef))], [], [(30, .one (.x Go.undef))], []⟩ :: ⟨[(25, .one (.x Go.undef))], [], [(31, .one (.x Go.undef))], []⟩ :: ⟨[(25, .one (.x Go.undef))], [], [(32, .one (.x Go.undef))], []⟩ :: ⟨[(25, .one (.x Go.undef))], [], [(33, .one (.x Go.undef))], []⟩ :: ⟨[(25, .one (.x Go.undef))], [], [(34, .one (.x Go.undef))], []⟩ :: ⟨[(22, .one (bB true))], [], [(35, .one (.x Go.undef))], []⟩ :: ⟨[(22, .one (bB true))], [], [(36, .one (bB true))], []⟩ :: [])) (deps := ([] :: [0] :: [0, 1] :: [0, 1, 2] :: [0, 1, 2, 3] :: [0, 1, 2, 3, 4] :: [0, 1, 2, 3, 4, 5] :: [0, 1, 2, 3, 4, 5, 6] :: [0, 1, 2, 3, 4, 5, 6, 7] :: [0, 1, 2, 3, 4, 5, 6, 7, 8] :: [0, 1, 2, 3, 4, 5, 6, 7, 8, 9] :: [0, 1, 2, 3, 4, 5, 6, 7, 8, 9, 10] :: [0, 1, 2, 3, 4, 5, 6, 7, 8, 9, 10, 11] :: [0, 1, 2, 3, 4, 5, 6, 7, 8, 9, 10, 11, 12] :: [0, 1, 2, 3, 4, 5, 6, 7, 8, 9, 10, 11, 12, 13] :: [0, 1, 2, 3, 4, 5, 6, 7, 8, 9, 10, 11, 12, 13] :: [0, 1, 2, 3, 4, 5, 6, 7, 8, 9, 10, 11, 12, 13, 15] :: [0, 1, 2, 3, 4, 5, 6, 7, 8, 9, 10, 11, 12, 13, 14, 15, 16] :: [0, 1, 2, 3, 4, 5, 6, 7, 8, 9, 10, 11, 12, 13, 14, 15, 16, 17] :: [0, 1, 2, 3, 4, 5, 6, 7, 8, 9, 10, 11, 12, 13, 14, 15, 16, 17, 18] :: [0, 1, 2, 3, 4, 5, 6, 7, 8, 9, 10, 11, 12, 13] :: [0, 1, 2, 3, 4, 5, 6, 7, 8, 9, 10, 11, 12, 13, 20] :: (0 :: 1 :: 2 :: 3 :: 4 :: 5 :: 6 :: 7 :: 8 :: 9 :: 10 :: 11 :: 12 :: 13 :: 14 :: 15 :: 16 :: 17 :: 18 :: 19 :: 20 :: 21 :: []) :: (0 :: 1 :: 2 :: 3 :: 4 :: 5 :: 6 :: 7 :: 8 :: 9 :: 10 :: 11 :: 12 :: 13 :: 14 :: 15 :: 16 :: 17 :: 18 :: 19 :: 20 :: 21 :: 22 :: []) :: (0 :: 1 :: 2 :: 3 :: 4 :: 5 :: 6 :: 7 :: 8 :: 9 :: 10 :: 11 :: 12 :: 13 :: 14 :: 15 :: 16 :: 17 :: 18 :: 19 :: 20 :: 21 :: 22 :: 23 :: []) :: [])) (sl' := [(0, .one (.g (.d (.sl 3 (List.map encApi_Dep p_0))))), (5, .one (.g (.d (.sl 3 (List.map encApi_Dep p_0))))), (6, .one (bI .i64 (p_0.length : Int))), (7, .one (bI .i64 v3)), (36, .one (bB true))]) (hp' := []) follows rfl rfl rfl ⟨⟨rfl, trivial⟩, trivial, ⟨rfl, trivial⟩, ⟨⟨rfl, rfl⟩, trivial⟩, ⟨rfl, trivial⟩, trivial, ⟨rfl, trivial⟩, trivial, ⟨rfl, trivial⟩, trivial, ⟨rfl, trivial⟩, trivial, ⟨rfl, trivial⟩, trivial, ⟨rfl, trivial⟩, trivial, ⟨rfl, trivial⟩, trivial, ⟨rfl, trivial⟩, trivial, ⟨rfl, trivial⟩, trivial, ⟨rfl, trivial⟩, trivial, ⟨rfl, trivial⟩, trivial, ⟨rfl, trivial⟩, trivial, ⟨rfl, trivial⟩, trivial, ⟨rfl, trivial⟩, trivial, ⟨rfl, trivial⟩, trivial, ⟨rfl, trivial⟩, trivial, ⟨rfl, trivial⟩, trivial, ⟨rfl, trivial⟩, trivial, ⟨rfl, trivial⟩, trivial, ⟨rfl, trivial⟩, trivial, ⟨rfl, trivial⟩, trivial, ⟨rfl, trivial⟩, trivial, ⟨rfl, trivial⟩, trivial, trivial⟩ ⟨OpW.plain (op_fieldP (off' := 0) Try.underlying52 rfl ti9 (by decide) rfl (Ev.t 4 (.ptr 1004 0)) rfl) rfl rfl, OpW.plain (op_load1P (c := bS x8.Key) Try.underlying9 rfl rfl (Ev.t 12 (.ptr 1004 0)) rfl) rfl rfl, OpW.plain (op_callQ (sv := .one (bB r9)) cf40 (ct_keys_Check x8.Key r9 hr9) rfl rfl (EvQL.cons (EvQ.g (Ev.t 13 (bS x8.Key))) EvQL.nil) rfl) rfl rfl, OpW.plain (OpL.cast (op_not (Ev.t 14 (bB r9)) rfl) (congrArg (fun b => bB b) hc10)) rfl rfl, OpW.plain (op_move (Ev.t 15 (bB true)) rfl) rfl rfl, OpW.no rfl rfl rfl rfl rfl, OpW.no rfl rfl rfl rfl rfl, OpW.no rfl rfl rfl rfl rfl, OpW.no rfl rfl rfl rfl rfl, OpW.plain (op_pickT (Ev.t 16 (bB true)) (Ev.c _ rfl) rfl) rfl rfl, OpW.plain (op_move (Ev.t 21 (bB true)) rfl) rfl rfl, OpW.no rfl rfl rfl rfl rfl, OpW.no rfl rfl rfl rfl rfl, OpW.no rfl rfl rfl rfl rfl, OpW.un rfl rfl rfl rfl, OpW.un rfl rfl rfl rfl, OpW.un rfl rfl rfl rfl, OpW.un rfl rfl rfl rfl, OpW.un rfl rfl rfl rfl, OpW.un rfl rfl rfl rfl, OpW.un rfl rfl rfl rfl, OpW.un rfl rfl rfl rfl, OpW.un rfl rfl rfl rfl, OpW.no rfl rfl rfl rfl rfl, OpW.plain (op_pickT (Ev.t 22 (bB true)) (Ev.c _ rfl) rfl) rfl rfl, trivial⟩ ⟨rfl, rfl, rfl, rfl, rfl, trivial⟩ trivial rfl ?_
      refine G.condT rfl ?_
      refine G.seq ?_
      refine G.region ?_
      refine G.op1 (op_assign (Ev.c _ rfl) rfl) rfl trivial trivial ?_
      refine G.endOps ?_
      cases hF
      exact G.ret1 Try.results41 (RVar.tmp 2 _) ⟨rfl, trivial⟩ trivial
    · obtain ⟨r11, hr11, hF⟩ := bindS hF
      refine ifS hF (fun hc12 hF => ?_) (fun hc12 hF => ?_)
      · refine G.drawn (effs := (⟨[(4, .one (.ptr 1004 0))], [], [(12, .one (.ptr 1004 0))], []⟩ :: ⟨[(12, .one (.ptr 1004 0))], [(1004, some (.blk 52 [bS x8.Key, bI .i64 x8.Stamp.N, bI .i64 x8.Stamp.Site]))], [(13, .one (bS x8.Key))], []⟩ :: ⟨[(13, .one (bS x8.Key))], [], [(14, .one (bB r9))], []⟩ :: ⟨[(14, .one (bB r9))], [], [(15, .one (bB false))], []⟩ :: ⟨[(15, .one (bB false))], [], [(16, .one (bB false))], []⟩ :: ⟨[(16, .one (bB false)), (4, .one (.ptr 1004 0))], [], [(17, .one (.ptr 1004 1))], []⟩ :: ⟨[(16, .one (bB false)), (17, .one (.ptr 1004 1))], [(1004, some (.blk 52 [bS x8.Key, bI .i64 x8.Stamp.N, bI .i64 x8.Stamp.Site]))], [(18, .one (.g (.agg [.v (.int .i64 x8.Stamp.N), .v (.int .i64 x8.Stamp.Site)])))], []⟩ :: ⟨[(16, .one (bB false)), (18, .one (.g (.agg [.v (.int .i64 x8.Stamp.N), .v (.int .i64 x8.Stamp.Site)])))], [], [(19, .one (bB r11))], []⟩ :: ⟨[(16, .one (bB false)), (19, .one (bB r11))], [], [(20, .one (bB true))], []⟩ :: ⟨[(16, .one (bB false)), (20, .one (bB true))], [], [(21, .one (bB true))], []⟩ :: ⟨[(21, .one (bB true))], [], [(22, .one (bB true))], []⟩ :: ⟨[(22, .one (bB true))], [], [(23, .one (.x Go.undef))], []⟩ :: ⟨[(22, .one (bB true))], [], [(24, .one (.x Go.undef))], []⟩ :: ⟨[(22, .one (bB true))], [], [(25, .one (.x Go.undef))], []⟩ :: ⟨[(25, .one (.x Go.undef))], [], [(26, .one (.x Go.undef))], []⟩ :: ⟨[(25, .one (.x Go.undef))], [], [(27, .one (.x Go.undef))], []⟩ :: ⟨[(25, .one (.x Go.undef))], [], [(28, .one (.x Go.undef))], []⟩ :: ⟨[(25, .one (.x Go.undef))], [], [(29, .one (.x Go.undef))], []⟩ :: ⟨[(25, .one (.x Go.undef))], [], [(30, .one (.x Go.undef))], []⟩ :: ⟨[(25, .one (.x Go.undef))], [], [(31, .one (.x Go.undef))], []⟩ :: ⟨[(25, .one (.x Go.undef))], [], [(32, .one (.x Go.undef))], []⟩ :: ⟨[(25, .one (.x Go.undef))], [], [(33, .one (.x Go.undef))], []⟩ :: ⟨[(25, .one (.x Go.undef))], [], [(34, .one (.x Go.undef))], []⟩ :: ⟨[(22, .one (bB true))], [], [(35, .one (.x Go.undef))], []⟩ :: ⟨[(22, .one (bB true))], [], [(36, .one (bB true))], []⟩ :: [])) (deps := ([] :: [0] :: [0, 1] :: [0, 1, 2] :: [0, 1, 2, 3] :: [0, 1, 2, 3, 4] :: [0, 1, 2, 3, 4, 5] :: [0, 1, 2, 3, 4, 5, 6] :: [0, 1, 2, 3, 4, 5, 6, 7] :: [0, 1, 2, 3, 4, 5, 6, 7, 8] :: [0, 1, 2, 3, 4, 5, 6, 7, 8, 9] :: [0, 1, 2, 3, 4, 5, 6, 7, 8, 9, 10] :: [0, 1, 2, 3, 4, 5, 6, 7, 8, 9, 10, 11] :: [0, 1, 2, 3, 4, 5, 6, 7, 8, 9, 10, 11, 12] :: [0, 1, 2, 3, 4, 5, 6, 7, 8, 9, 10, 11, 12, 13] :: [0, 1, 2, 3, 4, 5, 6, 7, 8, 9, 10, 11, 12, 13] :: [0, 1, 2, 3, 4, 5, 6, 7, 8, 9, 10, 11, 12, 13, 15] :: [0, 1, 2, 3, 4, 5, 6, 7, 8, 9, 10, 11, 12, 13, 14, 15, 16] :: [0, 1, 2, 3, 4, 5, 6, 7, 8, 9, 10, 11, 12, 13, 14, 15, 16, 17] :: [0, 1, 2, 3, 4, 5, 6, 7, 8, 9, 10, 11, 12, 13, 14, 15, 16, 17, 18] :: [0, 1, 2, 3, 4, 5, 6, 7, 8, 9, 10, 11, 12, 13] :: [0, 1, 2, 3, 4, 5, 6, 7, 8, 9, 10, 11, 12, 13, 20] :: (0 :: 1 :: 2 :: 3 :: 4 :: 5 :: 6 :: 7 :: 8 :: 9 :: 10 :: 11 :: 12 :: 13 :: 14 :: 15 :: 16 :: 17 :: 18 :: 19 :: 20 :: 21 :: []) :: (0 :: 1 :: 2 :: 3 :: 4 :: 5 :: 6 :: 7 :: 8 :: 9 :: 10 :: 11 :: 12 :: 13 :: 14 :: 15 :: 16 :: 17 :: 18 :: 19 :: 20 :: 21 :: 22 :: []) :: (0 :: 1 :: 2 :: 3 :: 4 :: 5 :: 6 :: 7 :: 8 :: 9 :: 10 :: 11 :: 12 :: 13 :: 14 :: 15 :: 16 :: 17 :: 18 :: 19 :: 20 :: 21 :: 22 :: 23 :: []) :: [])) (sl' := [(0, .one (.g (.d (.sl 3 (List.map encApi_Dep p_0))))), (5, .one (.g (.d (.sl 3 (List.map encApi_Dep p_0))))), (6, .one (bI .i64 (p_0.length : Int))), (7, .one (bI .i64 v3)), (36, .one (bB true))]) (hp' := []) follows rfl rfl rfl ⟨⟨rfl, trivial⟩, trivial, ⟨rfl, trivial⟩, ⟨⟨rfl, rfl⟩, trivial⟩, ⟨rfl, trivial⟩, trivial, ⟨rfl, trivial⟩, trivial, ⟨rfl, trivial⟩, trivial, ⟨rfl, rfl, trivial⟩, trivial, ⟨rfl, rfl, trivial⟩, ⟨⟨rfl, rfl⟩, trivial⟩, ⟨rfl, rfl, trivial⟩, trivial, ⟨rfl, rfl, trivial⟩, trivial, ⟨rfl, rfl, trivial⟩, trivial, ⟨rfl, trivial⟩, trivial, ⟨rfl, trivial⟩, trivial, ⟨rfl, trivial⟩, trivial, ⟨rfl, trivial⟩, trivial, ⟨rfl, trivial⟩, trivial, ⟨rfl, trivial⟩, trivial, ⟨rfl, trivial⟩, trivial, ⟨rfl, trivial⟩, trivial, ⟨rfl, trivial⟩, trivial, ⟨rfl, trivial⟩, trivial, ⟨rfl, trivial⟩, trivial, ⟨rfl, trivial⟩, trivial, ⟨rfl, trivial⟩, trivial, ⟨rfl, trivial⟩, trivial, ⟨rfl, trivial⟩, trivial, trivial⟩ ⟨OpW.plain (op_fieldP (off' := 0) Try.underlying52 rfl ti9 (by decide) rfl (Ev.t 4 (.ptr 1004 0)) rfl) rfl rfl, OpW.plain (op_load1P (c := bS x8.Key) Try.underlying9 rfl rfl (Ev.t 12 (.ptr 1004 0)) rfl) rfl rfl, OpW.plain (op_callQ (sv := .one (bB r9)) cf40 (ct_keys_Check x8.Key r9 hr9) rfl rfl (EvQL.cons (EvQ.g (Ev.t 13 (bS x8.Key))) EvQL.nil) rfl) rfl rfl, OpW.plain (OpL.cast (op_not (Ev.t 14 (bB r9)) rfl) (congrArg (fun b => bB b) hc10)) rfl rfl, OpW.plain (op_move (Ev.t 15 (bB false)) rfl) rfl rfl, OpW.yes (op_fieldP (off' := 1) Try.underlying52 rfl ti27 (by decide) rfl (Ev.t 4 (.ptr 1004 0)) rfl) rfl rfl rfl, OpW.yes (op_loadAP (ds := [.v (.int .i64 x8.Stamp.N), .v (.int .i64 x8.Stamp.Site)]) Try.underlying27 rfl ti27 rfl (Ev.t 17 (.ptr 1004 1)) rfl) rfl rfl rfl, OpW.yes (op_callQ (sv := .one (bB r11)) cf46 (ct_stamp_Check x8.Stamp r11 hr11) rfl rfl (EvQL.cons (EvQ.g (Ev.t 18 (.g (.agg [.v (.int .i64 x8.Stamp.N), .v (.int .i64 x8.Stamp.Site)])))) EvQL.nil) rfl) rfl rfl rfl, OpW.yes (OpL.cast (op_not (Ev.t 19 (bB r11)) rfl) (congrArg (fun b => bB b) hc12)) rfl rfl rfl, OpW.plain (op_pickF (Ev.t 16 (bB false)) (Ev.t 20 (bB true)) rfl) rfl rfl, OpW.plain (op_move (Ev.t 21 (bB true)) rfl) rfl rfl, OpW.no rfl rfl rfl rfl rfl, OpW.no rfl rfl rfl rfl rfl, OpW.no rfl rfl rfl rfl rfl, OpW.un rfl rfl rfl rfl, OpW.un rfl rfl rfl rfl, OpW.un rfl rfl rfl rfl, OpW.un rfl rfl rfl rfl, OpW.un rfl rfl rfl rfl, OpW.un rfl rfl rfl rfl, OpW.un rfl rfl rfl rfl, OpW.un rfl rfl rfl rfl, OpW.un rfl rfl rfl rfl, OpW.no rfl rfl rfl rfl rfl, OpW.plain (op_pickT (Ev.t 22 (bB true)) (Ev.c _ rfl) rfl) rfl rfl, trivial⟩ ⟨rfl, rfl, rfl, rfl, rfl, trivial⟩ trivial rfl ?_
        refine G.condT rfl ?_
        refine G.seq ?_
        refine G.region ?_
        refine G.op1 (op_assign (Ev.c _ rfl) rfl) rfl trivial trivial ?_
        refine G.endOps ?_
        cases hF
        exact G.ret1 Try.results41 (RVar.tmp 2 _) ⟨rfl, trivial⟩ trivial
      · refine ifS hF (fun hc13 hF => ?_) (fun hc13 hF => ?_)
        · obtain ⟨x14, hx14, hF⟩ := bindS hF
          refine G.drawn (effs := (⟨[(4, .one (.ptr 1004 0))], [], [(12, .one (.ptr 1004 0))], []⟩ :: ⟨[(12, .one (.ptr 1004 0))], [(1004, some (.blk 52 [bS x8.Key, bI .i64 x8.Stamp.N, bI .i64 x8.Stamp.Site]))], [(13, .one (bS x8.Key))], []⟩ :: ⟨[(13, .one (bS x8.Key))], [], [(14, .one (bB r9))], []⟩ :: ⟨[(14, .one (bB r9))], [], [(15, .one (bB false))], []⟩ :: ⟨[(15, .one (bB false))], [], [(16, .one (bB false))], []⟩ :: ⟨[(16, .one (bB false)), (4, .one (.ptr 1004 0))], [], [(17, .one (.ptr 1004 1))], []⟩ :: ⟨[(16, .one (bB false)), (17, .one (.ptr 1004 1))], [(1004, some (.blk 52 [bS x8.Key, bI .i64 x8.Stamp.N, bI .i64 x8.Stamp.Site]))], [(18, .one (.g (.agg [.v (.int .i64 x8.Stamp.N), .v (.int .i64 x8.Stamp.Site)])))], []⟩ :: ⟨[(16, .one (bB false)), (18, .one (.g (.agg [.v (.int .i64 x8.Stamp.N), .v (.int .i64 x8.Stamp.Site)])))], [], [(19, .one (bB r11))], []⟩ :: ⟨[(16, .one (bB false)), (19, .one (bB r11))], [], [(20, .one (bB false))], []⟩ :: ⟨[(16, .one (bB false)), (20, .one (bB false))], [], [(21, .one (bB false))], []⟩ :: ⟨[(21, .one (bB false))], [], [(22, .one (bB false))], []⟩ :: ⟨[(22, .one (bB false)), (3, .one (bI .i64 v3))], [], [(23, .one (bI .i64 v3))], []⟩ :: ⟨[(22, .one (bB false)), (23, .one (bI .i64 v3))], [], [(24, .one (bB true))], []⟩ :: ⟨[(22, .one (bB false)), (24, .one (bB true))], [], [(25, .one (bB true))], []⟩ :: ⟨[(25, .one (bB true)), (0, .one (.g (.d (.sl 3 (List.map encApi_Dep p_0)))))], [], [(26, .one (.g (.d (.sl 3 (List.map encApi_Dep p_0)))))], []⟩ :: ⟨[(25, .one (bB true)), (3, .one (bI .i64 v3))], [], [(27, .one (bI .i64 v3))], []⟩ :: ⟨[(25, .one (bB true)), (27, .one (bI .i64 v3))], [], [(28, .one (bI .i64 (IntKind.wrap .i64 (v3 - 1))))], []⟩ :: ⟨[(25, .one (bB true)), (26, .one (.g (.d (.sl 3 (List.map encApi_Dep p_0))))), (28, .one (bI .i64 (IntKind.wrap .i64 (v3 - 1))))], [], [(29, .one (.ep [.v (.string x14.Key), .v (.int .i64 x14.Stamp.N), .v (.int .i64 x14.Stamp.Site)]))], []⟩ :: ⟨[(25, .one (bB true)), (29, .one (.ep [.v (.string x14.Key), .v (.int .i64 x14.Stamp.N), .v (.int .i64 x14.Stamp.Site)]))], [], [(30, .one (.ep [.v (.string x14.Key), .v (.int .i64 x14.Stamp.N), .v (.int .i64 x14.Stamp.Site)]))], []⟩ :: ⟨[(25, .one (bB true)), (30, .one (.ep [.v (.string x14.Key), .v (.int .i64 x14.Stamp.N), .v (.int .i64 x14.Stamp.Site)]))], [], [(31, .one (bS x14.Key))], []⟩ :: ⟨[(25, .one (bB true)), (4, .one (.ptr 1004 0))], [], [(32, .one (.ptr 1004 0))], []⟩ :: ⟨[(25, .one (bB true)), (32, .one (.ptr 1004 0))], [(1004, some (.blk 52 [bS x8.Key, bI .i64 x8.Stamp.N, bI .i64 x8.Stamp.Site]))], [(33, .one (bS x8.Key))], []⟩ :: ⟨[(25, .one (bB true)), (31, .one (bS x14.Key)), (33, .one (bS x8.Key))], [], [(34, .one (bB (!slt x14.Key x8.Key)))], []⟩ :: ⟨[(22, .one (bB false)), (25, .one (bB true)), (34, .one (bB (!slt x14.Key x8.Key)))], [], [(35, .one (bB (!slt x14.Key x8.Key)))], []⟩ :: ⟨[(22, .one (bB false)), (35, .one (bB (!slt x14.Key x8.Key)))], [], [(36, .one (bB (!slt x14.Key x8.Key)))], []⟩ :: [])) (deps := ([] :: [0] :: [0, 1] :: [0, 1, 2] :: [0, 1, 2, 3] :: [0, 1, 2, 3, 4] :: [0, 1, 2, 3, 4, 5] :: [0, 1, 2, 3, 4, 5, 6] :: [0, 1, 2, 3, 4, 5, 6, 7] :: [0, 1, 2, 3, 4, 5, 6, 7, 8] :: [0, 1, 2, 3, 4, 5, 6, 7, 8, 9] :: [0, 1, 2, 3, 4, 5, 6, 7, 8, 9, 10] :: [0, 1, 2, 3, 4, 5, 6, 7, 8, 9, 10, 11] :: [0, 1, 2, 3, 4, 5, 6, 7, 8, 9, 10, 11, 12] :: [0, 1, 2, 3, 4, 5, 6, 7, 8, 9, 10, 11, 12, 13] :: [0, 1, 2, 3, 4, 5, 6, 7, 8, 9, 10, 11, 12, 13] :: [0, 1, 2, 3, 4, 5, 6, 7, 8, 9, 10, 11, 12, 13, 15] :: [0, 1, 2, 3, 4, 5, 6, 7, 8, 9, 10, 11, 12, 13, 14, 15, 16] :: [0, 1, 2, 3, 4, 5, 6, 7, 8, 9, 10, 11, 12, 13, 14, 15, 16, 17] :: [0, 1, 2, 3, 4, 5, 6, 7, 8, 9, 10, 11, 12, 13, 14, 15, 16, 17, 18] :: [0, 1, 2, 3, 4, 5, 6, 7, 8, 9, 10, 11, 12, 13] :: [0, 1, 2, 3, 4, 5, 6, 7, 8, 9, 10, 11, 12, 13, 20] :: (0 :: 1 :: 2 :: 3 :: 4 :: 5 :: 6 :: 7 :: 8 :: 9 :: 10 :: 11 :: 12 :: 13 :: 14 :: 15 :: 16 :: 17 :: 18 :: 19 :: 20 :: 21 :: []) :: (0 :: 1 :: 2 :: 3 :: 4 :: 5 :: 6 :: 7 :: 8 :: 9 :: 10 :: 11 :: 12 :: 13 :: 14 :: 15 :: 16 :: 17 :: 18 :: 19 :: 20 :: 21 :: 22 :: []) :: (0 :: 1 :: 2 :: 3 :: 4 :: 5 :: 6 :: 7 :: 8 :: 9 :: 10 :: 11 :: 12 :: 13 :: 14 :: 15 :: 16 :: 17 :: 18 :: 19 :: 20 :: 21 :: 22 :: 23 :: []) :: [])) (sl' := [(0, .one (.g (.d (.sl 3 (List.map encApi_Dep p_0))))), (5, .one (.g (.d (.sl 3 (List.map encApi_Dep p_0))))), (6, .one (bI .i64 (p_0.length : Int))), (7, .one (bI .i64 v3)), (36, .one (bB (!slt x14.Key x8.Key)))]) (hp' := []) follows rfl rfl rfl ⟨⟨rfl, trivial⟩, trivial, ⟨rfl, trivial⟩, ⟨⟨rfl, rfl⟩, trivial⟩, ⟨rfl, trivial⟩, trivial, ⟨rfl, trivial⟩, trivial, ⟨rfl, trivial⟩, trivial, ⟨rfl, rfl, trivial⟩, trivial, ⟨rfl, rfl, trivial⟩, ⟨⟨rfl, rfl⟩, trivial⟩, ⟨rfl, rfl, trivial⟩, trivial, ⟨rfl, rfl, trivial⟩, trivial, ⟨rfl, rfl, trivial⟩, trivial, ⟨rfl, trivial⟩, trivial, ⟨rfl, rfl, trivial⟩, trivial, ⟨rfl, rfl, trivial⟩, trivial, ⟨rfl, rfl, trivial⟩, trivial, ⟨rfl, rfl, trivial⟩, trivial, ⟨rfl, rfl, trivial⟩, trivial, ⟨rfl, rfl, trivial⟩, trivial, ⟨rfl, rfl, rfl, trivial⟩, trivial, ⟨rfl, rfl, trivial⟩, trivial, ⟨rfl, rfl, trivial⟩, trivial, ⟨rfl, rfl, trivial⟩, trivial, ⟨rfl, rfl, trivial⟩, ⟨⟨rfl, rfl⟩, trivial⟩, ⟨rfl, rfl, rfl, trivial⟩, trivial, ⟨rfl, rfl, rfl, trivial⟩, trivial, ⟨rfl, rfl, trivial⟩, trivial, trivial⟩ ⟨OpW.plain (op_fieldP (off' := 0) Try.underlying52 rfl ti9 (by decide) rfl (Ev.t 4 (.ptr 1004 0)) rfl) rfl rfl, OpW.plain (op_load1P (c := bS x8.Key) Try.underlying9 rfl rfl (Ev.t 12 (.ptr 1004 0)) rfl) rfl rfl, OpW.plain (op_callQ (sv := .one (bB r9)) cf40 (ct_keys_Check x8.Key r9 hr9) rfl rfl (EvQL.cons (EvQ.g (Ev.t 13 (bS x8.Key))) EvQL.nil) rfl) rfl rfl, OpW.plain (OpL.cast (op_not (Ev.t 14 (bB r9)) rfl) (congrArg (fun b => bB b) hc10)) rfl rfl, OpW.plain (op_move (Ev.t 15 (bB false)) rfl) rfl rfl, OpW.yes (op_fieldP (off' := 1) Try.underlying52 rfl ti27 (by decide) rfl (Ev.t 4 (.ptr 1004 0)) rfl) rfl rfl rfl, OpW.yes (op_loadAP (ds := [.v (.int .i64 x8.Stamp.N), .v (.int .i64 x8.Stamp.Site)]) Try.underlying27 rfl ti27 rfl (Ev.t 17 (.ptr 1004 1)) rfl) rfl rfl rfl, OpW.yes (op_callQ (sv := .one (bB r11)) cf46 (ct_stamp_Check x8.Stamp r11 hr11) rfl rfl (EvQL.cons (EvQ.g (Ev.t 18 (.g (.agg [.v (.int .i64 x8.Stamp.N), .v (.int .i64 x8.Stamp.Site)])))) EvQL.nil) rfl) rfl rfl rfl, OpW.yes (OpL.cast (op_not (Ev.t 19 (bB r11)) rfl) (congrArg (fun b => bB b) hc12)) rfl rfl rfl, OpW.plain (op_pickF (Ev.t 16 (bB false)) (Ev.t 20 (bB false)) rfl) rfl rfl, OpW.plain (op_move (Ev.t 21 (bB false)) rfl) rfl rfl, OpW.yes (op_move (Ev.t 3 (bI .i64 v3)) rfl) rfl rfl rfl, OpW.yes (OpL.cast (op_gtr (Ev.t 23 (bI .i64 v3)) (Ev.c _ rfl) rfl) (congrArg (fun b => bB b) hc13)) rfl rfl rfl, OpW.yes (op_move (Ev.t 24 (bB true)) rfl) rfl rfl rfl, OpW.yes (op_move (Ev.t 0 (.g (.d (.sl 3 (List.map encApi_Dep p_0))))) rfl) rfl rfl rfl, OpW.yes (op_move (Ev.t 3 (bI .i64 v3)) rfl) rfl rfl rfl, OpW.yes (op_sub (Ev.t 27 (bI .i64 v3)) (Ev.c _ rfl) rfl) rfl rfl rfl, OpW.yes (op_index (cs := [.v (.string x14.Key), .v (.int .i64 x14.Stamp.N), .v (.int .i64 x14.Stamp.Site)]) Try.underlying28 ti52 (idx_ok hx14).1 (idx_get hx14 encApi_Dep) (Ev.t 26 (.g (.d (.sl 3 (List.map encApi_Dep p_0))))) (Ev.t 28 (bI .i64 (IntKind.wrap .i64 (v3 - 1)))) rfl) rfl rfl rfl, OpW.yes (op_fieldE (cs' := [.v (.string x14.Key), .v (.int .i64 x14.Stamp.N), .v (.int .i64 x14.Stamp.Site)]) Try.underlying52 rfl ti9 (by decide) rfl (Ev.t 29 (.ep [.v (.string x14.Key), .v (.int .i64 x14.Stamp.N), .v (.int .i64 x14.Stamp.Site)])) rfl) rfl rfl rfl, OpW.yes (op_load1E (c := .v (.string x14.Key)) Try.underlying9 rfl rfl (Ev.t 30 (.ep [.v (.string x14.Key), .v (.int .i64 x14.Stamp.N), .v (.int .i64 x14.Stamp.Site)])) rfl) rfl rfl rfl, OpW.yes (op_fieldP (off' := 0) Try.underlying52 rfl ti9 (by decide) rfl (Ev.t 4 (.ptr 1004 0)) rfl) rfl rfl rfl, OpW.yes (op_load1P (c := bS x8.Key) Try.underlying9 rfl rfl (Ev.t 32 (.ptr 1004 0)) rfl) rfl rfl rfl, OpW.yes (op_geS (Ev.t 31 (bS x14.Key)) (Ev.t 33 (bS x8.Key)) rfl) rfl rfl rfl, OpW.yes (op_pickT (Ev.t 25 (bB true)) (Ev.t 34 (bB (!slt x14.Key x8.Key))) rfl) rfl rfl rfl, OpW.plain (op_pickF (Ev.t 22 (bB false)) (Ev.t 35 (bB (!slt x14.Key x8.Key))) rfl) rfl rfl, trivial⟩ ⟨rfl, rfl, rfl, rfl, rfl, trivial⟩ trivial rfl ?_
          refine ifS hF (fun hc15 hF => ?_) (fun hc15 hF => ?_)
          · refine G.cond rfl (fun _ => ?_) (fun hx => by rw [hc15] at hx; cases hx)
            refine G.seq ?_
            refine G.region ?_
            refine G.op1 (op_assign (Ev.c _ rfl) rfl) rfl trivial trivial ?_
            refine G.endOps ?_
            cases hF
            exact G.ret1 Try.results41 (RVar.tmp 2 _) ⟨rfl, trivial⟩ trivial
          · refine G.cond rfl (fun hx => by rw [hc15] at hx; cases hx) (fun _ => ?_)
            refine G.skip ?_
            refine G.endBlock ?_
            refine G.region ?_
            refine G.op1 (op_add (Ev.t 7 (bI .i64 v3)) (Ev.c _ rfl) rfl) rfl ⟨rfl, trivial⟩ trivial ?_
            refine G.op1 (op_move (Ev.t 37 (bI .i64 (IntKind.wrap .i64 (v3 + 1)))) rfl) rfl ⟨rfl, trivial⟩ trivial ?_
            refine G.endOps ?_
            exact G.arr (J4 (IntKind.wrap .i64 (v3 + 1)) hF) ⟨rfl, rfl, rfl, rfl, trivial⟩ trivial rfl
        · refine G.drawn (effs := (⟨[(4, .one (.ptr 1004 0))], [], [(12, .one (.ptr 1004 0))], []⟩ :: ⟨[(12, .one (.ptr 1004 0))], [(1004, some (.blk 52 [bS x8.Key, bI .i64 x8.Stamp.N, bI .i64 x8.Stamp.Site]))], [(13, .one (bS x8.Key))], []⟩ :: ⟨[(13, .one (bS x8.Key))], [], [(14, .one (bB r9))], []⟩ :: ⟨[(14, .one (bB r9))], [], [(15, .one (bB false))], []⟩ :: ⟨[(15, .one (bB false))], [], [(16, .one (bB false))], []⟩ :: ⟨[(16, .one (bB false)), (4, .one (.ptr 1004 0))], [], [(17, .one (.ptr 1004 1))], []⟩ :: ⟨[(16, .one (bB false)), (17, .one (.ptr 1004 1))], [(1004, some (.blk 52 [bS x8.Key, bI .i64 x8.Stamp.N, bI .i64 x8.Stamp.Site]))], [(18, .one (.g (.agg [.v (.int .i64 x8.Stamp.N), .v (.int .i64 x8.Stamp.Site)])))], []⟩ :: ⟨[(16, .one (bB false)), (18, .one (.g (.agg [.v (.int .i64 x8.Stamp.N), .v (.int .i64 x8.Stamp.Site)])))], [], [(19, .one (bB r11))], []⟩ :: ⟨[(16, .one (bB false)), (19, .one (bB r11))], [], [(20, .one (bB false))], []⟩ :: ⟨[(16, .one (bB false)), (20, .one (bB false))], [], [(21, .one (bB false))], []⟩ :: ⟨[(21, .one (bB false))], [], [(22, .one (bB false))], []⟩ :: ⟨[(22, .one (bB false)), (3, .one (bI .i64 v3))], [], [(23, .one (bI .i64 v3))], []⟩ :: ⟨[(22, .one (bB false)), (23, .one (bI .i64 v3))], [], [(24, .one (bB false))], []⟩ :: ⟨[(22, .one (bB false)), (24, .one (bB false))], [], [(25, .one (bB false))], []⟩ :: ⟨[(25, .one (bB false))], [], [(26, .one (.x Go.undef))], []⟩ :: ⟨[(25, .one (bB false))], [], [(27, .one (.x Go.undef))], []⟩ :: ⟨[(25, .one (bB false))], [], [(28, .one (.x Go.undef))], []⟩ :: ⟨[(25, .one (bB false))], [], [(29, .one (.x Go.undef))], []⟩ :: ⟨[(25, .one (bB false))], [], [(30, .one (.x Go.undef))], []⟩ :: ⟨[(25, .one (bB false))], [], [(31, .one (.x Go.undef))], []⟩ :: ⟨[(25, .one (bB false))], [], [(32, .one (.x Go.undef))], []⟩ :: ⟨[(25, .one (bB false))], [], [(33, .one (.x Go.undef))], []⟩ :: ⟨[(25, .one (bB false))], [], [(34, .one (.x Go.undef))], []⟩ :: ⟨[(22, .one (bB false)), (25, .one (bB false))], [], [(35, .one (bB false))], []⟩ :: ⟨[(22, .one (bB false)), (35, .one (bB false))], [], [(36, .one (bB false))], []⟩ :: [])) (deps := ([] :: [0] :: [0, 1] :: [0, 1, 2] :: [0, 1, 2, 3] :: [0, 1, 2, 3, 4] :: [0, 1, 2, 3, 4, 5] :: [0, 1, 2, 3, 4, 5, 6] :: [0, 1, 2, 3, 4, 5, 6, 7] :: [0, 1, 2, 3, 4, 5, 6, 7, 8] :: [0, 1, 2, 3, 4, 5, 6, 7, 8, 9] :: [0, 1, 2, 3, 4, 5, 6, 7, 8, 9, 10] :: [0, 1, 2, 3, 4, 5, 6, 7, 8, 9, 10, 11] :: [0, 1, 2, 3, 4, 5, 6, 7, 8, 9, 10, 11, 12] :: [0, 1, 2, 3, 4, 5, 6, 7, 8, 9, 10, 11, 12, 13] :: [0, 1, 2, 3, 4, 5, 6, 7, 8, 9, 10, 11, 12, 13] :: [0, 1, 2, 3, 4, 5, 6, 7, 8, 9, 10, 11, 12, 13, 15] :: [0, 1, 2, 3, 4, 5, 6, 7, 8, 9, 10, 11, 12, 13, 14, 15, 16] :: [0, 1, 2, 3, 4, 5, 6, 7, 8, 9, 10, 11, 12, 13, 14, 15, 16, 17] :: [0, 1, 2, 3, 4, 5, 6, 7, 8, 9, 10, 11, 12, 13, 14, 15, 16, 17, 18] :: [0, 1, 2, 3, 4, 5, 6, 7, 8, 9, 10, 11, 12, 13] :: [0, 1, 2, 3, 4, 5, 6, 7, 8, 9, 10, 11, 12, 13, 20] :: (0 :: 1 :: 2 :: 3 :: 4 :: 5 :: 6 :: 7 :: 8 :: 9 :: 10 :: 11 :: 12 :: 13 :: 14 :: 15 :: 16 :: 17 :: 18 :: 19 :: 20 :: 21 :: []) :: (0 :: 1 :: 2 :: 3 :: 4 :: 5 :: 6 :: 7 :: 8 :: 9 :: 10 :: 11 :: 12 :: 13 :: 14 :: 15 :: 16 :: 17 :: 18 :: 19 :: 20 :: 21 :: 22 :: []) :: (0 :: 1 :: 2 :: 3 :: 4 :: 5 :: 6 :: 7 :: 8 :: 9 :: 10 :: 11 :: 12 :: 13 :: 14 :: 15 :: 16 :: 17 :: 18 :: 19 :: 20 :: 21 :: 22 :: 23 :: []) :: [])) (sl' := [(0, .one (.g (.d (.sl 3 (List.map encApi_Dep p_0))))), (5, .one (.g (.d (.sl 3 (List.map encApi_Dep p_0))))), (6, .one (bI .i64 (p_0.length : Int))), (7, .one (bI .i64 v3)), (36, .one (bB false))]) (hp' := []) follows rfl rfl rfl ⟨⟨rfl, trivial⟩, trivial, ⟨rfl, trivial⟩, ⟨⟨rfl, rfl⟩, trivial⟩, ⟨rfl, trivial⟩, trivial, ⟨rfl, trivial⟩, trivial, ⟨rfl, trivial⟩, trivial, ⟨rfl, rfl, trivial⟩, trivial, ⟨rfl, rfl, trivial⟩, ⟨⟨rfl, rfl⟩, trivial⟩, ⟨rfl, rfl, trivial⟩, trivial, ⟨rfl, rfl, trivial⟩, trivial, ⟨rfl, rfl, trivial⟩, trivial, ⟨rfl, trivial⟩, trivial, ⟨rfl, rfl, trivial⟩, trivial, ⟨rfl, rfl, trivial⟩, trivial, ⟨rfl, rfl, trivial⟩, trivial, ⟨rfl, trivial⟩, trivial, ⟨rfl, trivial⟩, trivial, ⟨rfl, trivial⟩, trivial, ⟨rfl, trivial⟩, trivial, ⟨rfl, trivial⟩, trivial, ⟨rfl, trivial⟩, trivial, ⟨rfl, trivial⟩, trivial, ⟨rfl, trivial⟩, trivial, ⟨rfl, trivial⟩, trivial, ⟨rfl, rfl, trivial⟩, trivial, ⟨rfl, rfl, trivial⟩, trivial, trivial⟩ ⟨OpW.plain (op_fieldP (off' := 0) Try.underlying52 rfl ti9 (by decide) rfl (Ev.t 4 (.ptr 1004 0)) rfl) rfl rfl, OpW.plain (op_load1P (c := bS x8.Key) Try.underlying9 rfl rfl (Ev.t 12 (.ptr 1004 0)) rfl) rfl rfl, OpW.plain (op_callQ (sv := .one (bB r9)) cf40 (ct_keys_Check x8.Key r9 hr9) rfl rfl (EvQL.cons (EvQ.g (Ev.t 13 (bS x8.Key))) EvQL.nil) rfl) rfl rfl, OpW.plain (OpL.cast (op_not (Ev.t 14 (bB r9)) rfl) (congrArg (fun b => bB b) hc10)) rfl rfl, OpW.plain (op_move (Ev.t 15 (bB false)) rfl) rfl rfl, OpW.yes (op_fieldP (off' := 1) Try.underlying52 rfl ti27 (by decide) rfl (Ev.t 4 (.ptr 1004 0)) rfl) rfl rfl rfl, OpW.yes (op_loadAP (ds := [.v (.int .i64 x8.Stamp.N), .v (.int .i64 x8.Stamp.Site)]) Try.underlying27 rfl ti27 rfl (Ev.t 17 (.ptr 1004 1)) rfl) rfl rfl rfl, OpW.yes (op_callQ (sv := .one (bB r11)) cf46 (ct_stamp_Check x8.Stamp r11 hr11) rfl rfl (EvQL.cons (EvQ.g (Ev.t 18 (.g (.agg [.v (.int .i64 x8.Stamp.N), .v (.int .i64 x8.Stamp.Site)])))) EvQL.nil) rfl) rfl rfl rfl, OpW.yes (OpL.cast (op_not (Ev.t 19 (bB r11)) rfl) (congrArg (fun b => bB b) hc12)) rfl rfl rfl, OpW.plain (op_pickF (Ev.t 16 (bB false)) (Ev.t 20 (bB false)) rfl) rfl rfl, OpW.plain (op_move (Ev.t 21 (bB false)) rfl) rfl rfl, OpW.yes (op_move (Ev.t 3 (bI .i64 v3)) rfl) rfl rfl rfl, OpW.yes (OpL.cast (op_gtr (Ev.t 23 (bI .i64 v3)) (Ev.c _ rfl) rfl) (congrArg (fun b => bB b) hc13)) rfl rfl rfl, OpW.yes (op_move (Ev.t 24 (bB false)) rfl) rfl rfl rfl, OpW.no rfl rfl rfl rfl rfl, OpW.no rfl rfl rfl rfl rfl, OpW.no rfl rfl rfl rfl rfl, OpW.no rfl rfl rfl rfl rfl, OpW.no rfl rfl rfl rfl rfl, OpW.no rfl rfl rfl rfl rfl, OpW.no rfl rfl rfl rfl rfl, OpW.no rfl rfl rfl rfl rfl, OpW.no rfl rfl rfl rfl rfl, OpW.yes (op_pickF (Ev.t 25 (bB false)) (Ev.c _ rfl) rfl) rfl rfl rfl, OpW.plain (op_pickF (Ev.t 22 (bB false)) (Ev.t 35 (bB false)) rfl) rfl rfl, trivial⟩ ⟨rfl, rfl, rfl, rfl, rfl, trivial⟩ trivial rfl ?_
          refine G.condF rfl ?_
          refine G.skip ?_
          refine G.endBlock ?_
          refine G.region ?_
          refine G.op1 (op_add (Ev.t 7 (bI .i64 v3)) (Ev.c _ rfl) rfl) rfl ⟨rfl, trivial⟩ trivial ?_
          refine G.op1 (op_move (Ev.t 37 (bI .i64 (IntKind.wrap .i64 (v3 + 1)))) rfl) rfl ⟨rfl, trivial⟩ trivial ?_
          refine G.endOps ?_
          exact G.arr (J4 (IntKind.wrap .i64 (v3 + 1)) hF) ⟨rfl, rfl, rfl, rfl, trivial⟩ trivial rfl
  · refine G.cond rfl (fun hx => by rw [hc7] at hx; cases hx) (fun _ => ?_)
    refine G.exit ?_
    refine GX.c ?_
    refine GX.q ?_
    refine GX.bYes ?_
    exact G.arr (J2 () hF) trivial trivial rfl


set_option maxRecDepth 20000 in
set_option maxHeartbeats 2000000 in
theorem ct_cmp_isNaN_string (x_0 : ByteArray) (r : Bool) (hF : cmp_isNaN_string x_0 = some r) : Ct Try.prog 68 [.g (.d (.v (.string x_0)))] (.one (.d (.v (.bool r)))) := by
  unfold cmp_isNaN_string at hF
  refine Ct.intro Try.func68 rfl Try.ntmps68 rfl rfl fun M w => ?_
  refine G.seq ?_
  refine G.region ?_
  refine G.op1 (op_assign (Ev.c _ rfl) rfl) rfl trivial trivial ?_
  refine G.endOps ?_
  refine G.seq ?_
  refine G.region ?_
  refine G.op1 (op_move (Ev.t 0 (bS x_0)) rfl) rfl ⟨rfl, trivial⟩ trivial ?_
  refine G.op1 (op_move (Ev.t 0 (bS x_0)) rfl) rfl ⟨rfl, trivial⟩ trivial ?_
  refine G.op1 (op_neS (Ev.t 3 (bS x_0)) (Ev.t 4 (bS x_0)) rfl) rfl ⟨rfl, rfl, trivial⟩ trivial ?_
  refine G.op1 (op_assign (Ev.t 5 (bB (!seq x_0 x_0))) rfl) rfl ⟨rfl, trivial⟩ trivial ?_
  refine G.endOps ?_
  cases hF
  exact G.ret1 Try.results68 (RVar.tmp 2 _) ⟨rfl, trivial⟩ trivial


set_option maxRecDepth 20000 in
set_option maxHeartbeats 2000000 in
theorem ct_cmp_Compare_string (x_0 : ByteArray) (y_1 : ByteArray) (r : Int) (hF : cmp_Compare_string x_0 y_1 = some r) : Ct Try.prog 65 [.g (.d (.v (.string x_0))), .g (.d (.v (.string y_1)))] (.one (.d (.v (.int .i64 r)))) := by
  unfold cmp_Compare_string at hF
  refine Ct.intro Try.func65 rfl Try.ntmps65 rfl rfl fun M w => ?_
  refine G.seq ?_
  refine G.region ?_
  refine G.op1 (op_assign (Ev.c _ rfl) rfl) rfl trivial trivial ?_
  refine G.endOps ?_
  refine G.seq ?_
  refine G.region ?_
  refine G.op1 (op_move (Ev.t 0 (bS x_0)) rfl) rfl ⟨rfl, trivial⟩ trivial ?_
  obtain ⟨r1, hr1, hF⟩ := bindS hF
  refine G.op1 (op_callQ (sv := .one (bB r1)) cf68 (ct_cmp_isNaN_string x_0 r1 hr1) rfl rfl (EvQL.cons (EvQ.g (Ev.t 7 (bS x_0))) EvQL.nil) rfl) rfl ⟨rfl, trivial⟩ trivial ?_
  refine G.op1 (op_assign (Ev.t 8 (bB r1)) rfl) rfl ⟨rfl, trivial⟩ trivial ?_
  refine G.endOps ?_
  refine G.seq ?_
  refine G.region ?_
  refine G.op1 (op_move (Ev.t 1 (bS y_1)) rfl) rfl ⟨rfl, trivial⟩ trivial ?_
  obtain ⟨r2, hr2, hF⟩ := bindS hF
  refine G.op1 (op_callQ (sv := .one (bB r2)) cf68 (ct_cmp_isNaN_string y_1 r2 hr2) rfl rfl (EvQL.cons (EvQ.g (Ev.t 9 (bS y_1))) EvQL.nil) rfl) rfl ⟨rfl, trivial⟩ trivial ?_
  refine G.op1 (op_assign (Ev.t 10 (bB r2)) rfl) rfl ⟨rfl, trivial⟩ trivial ?_
  refine G.endOps ?_
  refine G.seq ?_
  refine G.seq ?_
  refine G.region ?_
  refine G.op1 (op_move (Ev.t 5 (bB r1)) rfl) rfl ⟨rfl, trivial⟩ trivial ?_
  refine G.endOps ?_
  refine ifS hF (fun hc3 hF => ?_) (fun hc3 hF => ?_)
  · refine G.cond rfl (fun _ => ?_) (fun hx => by rw [hc3] at hx; cases hx)
    refine G.seq ?_
    refine G.seq ?_
    refine G.region ?_
    refine G.op1 (op_move (Ev.t 6 (bB r2)) rfl) rfl ⟨rfl, trivial⟩ trivial ?_
    refine G.endOps ?_
    refine ifS hF (fun hc4 hF => ?_) (fun hc4 hF => ?_)
    · refine G.cond rfl (fun _ => ?_) (fun hx => by rw [hc4] at hx; cases hx)
      refine G.seq ?_
      refine G.region ?_
      refine G.op1 (op_assign (Ev.c _ rfl) rfl) rfl trivial trivial ?_
      refine G.endOps ?_
      cases hF
      exact G.ret1 Try.results65 (RVar.tmp 4 _) ⟨rfl, trivial⟩ trivial
    · refine G.cond rfl (fun hx => by rw [hc4] at hx; cases hx) (fun _ => ?_)
      refine G.skip ?_
      refine G.seq ?_
      refine G.region ?_
      refine G.op1 (op_assign (Ev.c _ rfl) rfl) rfl trivial trivial ?_
      refine G.endOps ?_
      cases hF
      exact G.ret1 Try.results65 (RVar.tmp 4 _) ⟨rfl, trivial⟩ trivial
  · refine G.cond rfl (fun hx => by rw [hc3] at hx; cases hx) (fun _ => ?_)
    refine G.skip ?_
    refine G.seq ?_
    refine G.seq ?_
    refine G.region ?_
    refine G.op1 (op_move (Ev.t 6 (bB r2)) rfl) rfl ⟨rfl, trivial⟩ trivial ?_
    refine G.endOps ?_
    refine ifS hF (fun hc5 hF => ?_) (fun hc5 hF => ?_)
    · refine G.cond rfl (fun _ => ?_) (fun hx => by rw [hc5] at hx; cases hx)
      refine G.seq ?_
      refine G.region ?_
      refine G.op1 (op_assign (Ev.c _ rfl) rfl) rfl trivial trivial ?_
      refine G.endOps ?_
      cases hF
      exact G.ret1 Try.results65 (RVar.tmp 4 _) ⟨rfl, trivial⟩ trivial
    · refine G.cond rfl (fun hx => by rw [hc5] at hx; cases hx) (fun _ => ?_)
      refine G.skip ?_
      refine G.seq ?_
      refine G.seq ?_
      refine G.region ?_
      refine G.op1 (op_move (Ev.t 0 (bS x_0)) rfl) rfl ⟨rfl, trivial⟩ trivial ?_
      refine G.op1 (op_move (Ev.t 1 (bS y_1)) rfl) rfl ⟨rfl, trivial⟩ trivial ?_
      refine G.op1 (op_ltS (Ev.t 14 (bS x_0)) (Ev.t 15 (bS y_1)) rfl) rfl ⟨rfl, rfl, trivial⟩ trivial ?_
      refine G.endOps ?_
      refine ifS hF (fun hc6 hF => ?_) (fun hc6 hF => ?_)
      · refine G.cond rfl (fun _ => ?_) (fun hx => by rw [hc6] at hx; cases hx)
        refine G.seq ?_
        refine G.region ?_
        refine G.op1 (op_assign (Ev.c _ rfl) rfl) rfl trivial trivial ?_
        refine G.endOps ?_
        cases hF
        exact G.ret1 Try.results65 (RVar.tmp 4 _) ⟨rfl, trivial⟩ trivial
      · refine G.cond rfl (fun hx => by rw [hc6] at hx; cases hx) (fun _ => ?_)
        refine G.skip ?_
        refine G.seq ?_
        refine G.seq ?_
        refine G.region ?_
        refine G.op1 (op_move (Ev.t 0 (bS x_0)) rfl) rfl ⟨rfl, trivial⟩ trivial ?_
        refine G.op1 (op_move (Ev.t 1 (bS y_1)) rfl) rfl ⟨rfl, trivial⟩ trivial ?_
        refine G.op1 (op_gtS (Ev.t 17 (bS x_0)) (Ev.t 18 (bS y_1)) rfl) rfl ⟨rfl, rfl, trivial⟩ trivial ?_
        refine G.endOps ?_
        refine ifS hF (fun hc7 hF => ?_) (fun hc7 hF => ?_)
        · refine G.cond rfl (fun _ => ?_) (fun hx => by rw [hc7] at hx; cases hx)
          refine G.seq ?_
          refine G.region ?_
          refine G.op1 (op_assign (Ev.c _ rfl) rfl) rfl trivial trivial ?_
          refine G.endOps ?_
          cases hF
          exact G.ret1 Try.results65 (RVar.tmp 4 _) ⟨rfl, trivial⟩ trivial
        · refine G.cond rfl (fun hx => by rw [hc7] at hx; cases hx) (fun _ => ?_)
          refine G.skip ?_
          refine G.seq ?_
          refine G.region ?_
          refine G.op1 (op_assign (Ev.c _ rfl) rfl) rfl trivial trivial ?_
          refine G.endOps ?_
          cases hF
          exact G.ret1 Try.results65 (RVar.tmp 4 _) ⟨rfl, trivial⟩ trivial


set_option maxRecDepth 20000 in
set_option maxHeartbeats 2000000 in
theorem ct_past_find_1 (d_0 : Api_Dep) (key_1 : ByteArray) (r : Int) (hF : past_find_1 d_0 key_1 = some r) : Ct Try.prog 64 [.g (.agg (encApi_Dep d_0)), .g (.d (.v (.string key_1)))] (.one (.d (.v (.int .i64 r)))) := by
  unfold past_find_1 at hF
  refine Ct.intro Try.func64 rfl Try.ntmps64 rfl rfl fun M w => ?_
  refine G.seq ?_
  refine G.region ?_
  refine G.op2 (op_boxA (k := 1002) (Ev.t 0 (.g (.agg [.v (.string d_0.Key), .v (.int .i64 d_0.Stamp.N), .v (.int .i64 d_0.Stamp.Site)]))) rfl) rfl ⟨rfl, trivial⟩ ⟨rfl, trivial⟩ ?_
  refine G.op1 (op_assign (Ev.c _ rfl) rfl) rfl trivial trivial ?_
  refine G.endOps ?_
  refine G.seq ?_
  refine G.region ?_
  refine G.op1 (op_fieldP (off' := 0) Try.underlying52 rfl ti9 (by decide) rfl (Ev.t 2 (.ptr 1002 0)) rfl) rfl ⟨rfl, trivial⟩ trivial ?_
  refine G.op1 (op_load1P (c := bS d_0.Key) Try.underlying9 rfl rfl (Ev.t 5 (.ptr 1002 0)) rfl) rfl ⟨rfl, trivial⟩ ⟨rfl, trivial⟩ ?_
  refine G.op1 (op_move (Ev.t 1 (bS key_1)) rfl) rfl ⟨rfl, trivial⟩ trivial ?_
  obtain ⟨r1, hr1, hF⟩ := bindS hF
  refine G.op1 (op_callQ (sv := .one (bI .i64 r1)) cf65 (ct_cmp_Compare_string d_0.Key key_1 r1 hr1) rfl rfl (EvQL.cons (EvQ.g (Ev.t 6 (bS d_0.Key))) (EvQL.cons (EvQ.g (Ev.t 7 (bS key_1))) EvQL.nil)) rfl) rfl ⟨rfl, rfl, trivial⟩ trivial ?_
  refine G.op1 (op_assign (Ev.t 8 (bI .i64 r1)) rfl) rfl ⟨rfl, trivial⟩ trivial ?_
  refine G.endOps ?_
  cases hF
  exact G.ret1 Try.results64 (RVar.tmp 4 _) ⟨rfl, trivial⟩ trivial


set_option maxRecDepth 20000 in
set_option maxHeartbeats 2000000 in
theorem ct_slices_BinarySearchFunc_string (x_0 : (List Api_Dep)) (target_1 : ByteArray) (cmp_2 : (Api_Dep → ByteArray → Option Int)) (r : (Int × Bool)) (hF : slices_BinarySearchFunc_string x_0 target_1 cmp_2 = some r) : Ct Try.prog 63 [.g (.d (.sl 3 (List.map encApi_Dep x_0))), .g (.d (.v (.string target_1))), .sem (sem2 (fun x => .agg (encApi_Dep x)) (fun x => .d (.v (.string x))) (fun y => .int .i64 y) cmp_2)] (.tup [.d (.v (.int .i64 r.1)), .d (.v (.bool r.2))]) := by
  unfold slices_BinarySearchFunc_string at hF
  refine Ct.intro Try.func63 rfl Try.ntmps63 rfl rfl fun M w => ?_
  refine G.seq ?_
  refine G.region ?_
  refine G.op1 (op_assign (Ev.c _ rfl) rfl) rfl trivial trivial ?_
  refine G.op1 (op_assign (Ev.c _ rfl) rfl) rfl trivial trivial ?_
  refine G.endOps ?_
  refine G.seq ?_
  refine G.region ?_
  refine G.op1 (op_move (Ev.t 0 (.g (.d (.sl 3 (List.map encApi_Dep x_0))))) rfl) rfl ⟨rfl, trivial⟩ trivial ?_
  refine G.op1 (OpL.cast (op_lenD Try.underlying28 (Ev.t 12 (.g (.d (.sl 3 (List.map encApi_Dep x_0))))) rfl) (by rw [List.length_map])) rfl ⟨rfl, trivial⟩ trivial ?_
  refine G.op1 (op_assign (Ev.t 13 (bI .i64 (x_0.length : Int))) rfl) rfl ⟨rfl, trivial⟩ trivial ?_
  refine G.endOps ?_
  refine G.seq ?_
  refine G.region ?_
  refine G.op1 (op_move (Ev.t 8 (bI .i64 (x_0.length : Int))) rfl) rfl ⟨rfl, trivial⟩ trivial ?_
  refine G.op1 (op_assign (Ev.c _ rfl) rfl) rfl trivial trivial ?_
  refine G.op1 (op_assign (Ev.t 14 (bI .i64 (x_0.length : Int))) rfl) rfl ⟨rfl, trivial⟩ trivial ?_
  refine G.endOps ?_
  refine G.seq ?_
  refine G.joinC (T := Int) (fun y1 => ⟨[(0, .one (.g (.d (.sl 3 (List.map encApi_Dep x_0))))), (1, .one (bS target_1)), (2, .one (.sem (sem2 (fun x => .agg (encApi_Dep x)) (fun x => .d (.v (.string x))) (fun y => .int .i64 y) cmp_2))), (8, .one (bI .i64 (x_0.length : Int))), (9, .one (bI .i64 y1))], []⟩) (fun y1 => slices_BinarySearchFunc_string_k1 x_0 target_1 cmp_2 y1 = some r) (fun y1 hF => ?_) (fun J5 => ?_)
  · unfold slices_BinarySearchFunc_string_k1 at hF
    refine G.seq ?_
    refine G.region ?_
    refine G.op1 (op_move (Ev.t 9 (bI .i64 y1)) rfl) rfl ⟨rfl, trivial⟩ trivial ?_
    refine G.op1 (op_move (Ev.t 9 (bI .i64 y1)) rfl) rfl ⟨rfl, trivial⟩ trivial ?_
    refine G.op1 (op_move (Ev.t 8 (bI .i64 (x_0.length : Int))) rfl) rfl ⟨rfl, trivial⟩ trivial ?_
    refine G.op1 (op_lss (Ev.t 36 (bI .i64 y1)) (Ev.t 37 (bI .i64 (x_0.length : Int))) rfl) rfl ⟨rfl, rfl, trivial⟩ trivial ?_
    refine G.op1 (op_move (Ev.t 38 (bB (decide (y1 < (x_0.length : Int))))) rfl) rfl ⟨rfl, trivial⟩ trivial ?_
    refine ifS hF (fun hc2 hF => ?_) (fun hc2 hF => ?_)
    · refine G.known (t := 39) hc2 rfl ?_
      refine G.opG1 (op_move (Ev.t 2 (.sem (sem2 (fun x => .agg (encApi_Dep x)) (fun x => .d (.v (.string x))) (fun y => .int .i64 y) cmp_2))) rfl) rfl rfl rfl ⟨rfl, trivial⟩ trivial ?_
      refine G.opG1 (op_move (Ev.t 0 (.g (.d (.sl 3 (List.map encApi_Dep x_0))))) rfl) rfl rfl rfl ⟨rfl, trivial⟩ trivial ?_
      refine G.opG1 (op_move (Ev.t 9 (bI .i64 y1)) rfl) rfl rfl rfl ⟨rfl, trivial⟩ trivial ?_
      obtain ⟨x3, hx3, hF⟩ := bindS hF
      refine G.opG1 (op_index (cs := [.v (.string x3.Key), .v (.int .i64 x3.Stamp.N), .v (.int .i64 x3.Stamp.Site)]) Try.underlying28 ti52 (idx_ok hx3).1 (idx_get hx3 encApi_Dep) (Ev.t 41 (.g (.d (.sl 3 (List.map encApi_Dep x_0))))) (Ev.t 42 (bI .i64 y1)) rfl) rfl rfl rfl ⟨rfl, rfl, trivial⟩ trivial ?_
      refine G.opG1 (op_loadAE (ds := [.v (.string x3.Key), .v (.int .i64 x3.Stamp.N), .v (.int .i64 x3.Stamp.Site)]) Try.underlying52 rfl ti52 rfl (Ev.t 43 (.ep [.v (.string x3.Key), .v (.int .i64 x3.Stamp.N), .v (.int .i64 x3.Stamp.Site)])) rfl) rfl rfl rfl ⟨rfl, trivial⟩ trivial ?_
      refine G.opG1 (op_move (Ev.t 1 (bS target_1)) rfl) rfl rfl rfl ⟨rfl, trivial⟩ trivial ?_
      obtain ⟨r4, hr4, hF⟩ := bindS hF
      refine G.opG1 (op_callSem (t := 40) (v := .int .i64 r4) (Φ := sem2 (fun x => .agg (encApi_Dep x)) (fun x => .d (.v (.string x))) (fun y => .int .i64 y) cmp_2) ⟨x3, target_1, r4, rfl, hr4, rfl⟩ rfl (EvL.cons (Ev.t 44 (.g (.agg [.v (.string x3.Key), .v (.int .i64 x3.Stamp.N), .v (.int .i64 x3.Stamp.Site)]))) (EvL.cons (Ev.t 45 (bS target_1)) EvL.nil)) rfl) rfl rfl rfl ⟨rfl, rfl, rfl, trivial⟩ trivial ?_
      refine G.opG1 (op_eqI (Ev.t 46 (bI .i64 r4)) (Ev.c _ rfl) rfl) rfl rfl rfl ⟨rfl, trivial⟩ trivial ?_
      refine G.op1 (op_pickT (Ev.t 39 (bB true)) (Ev.t 47 (bB (decide (r4 = 0)))) rfl) rfl ⟨rfl, rfl, trivial⟩ trivial ?_
      refine G.op1 (op_assign (Ev.t 35 (bI .i64 y1)) rfl) rfl ⟨rfl, trivial⟩ trivial ?_
      refine G.op1 (op_assign (Ev.t 48 (bB (decide (r4 = 0)))) rfl) rfl ⟨rfl, trivial⟩ trivial ?_
      refine G.endOps ?_
      cases hF
      exact G.ret2 Try.results63 (RVar.tmp 6 _) (RVar.tmp 7 _) ⟨rfl, rfl, trivial⟩ trivial
    · refine G.known (t := 39) hc2 rfl ?_
      refine G.opN1 rfl rfl rfl rfl rfl ?_
      refine G.opN1 rfl rfl rfl rfl rfl ?_
      refine G.opN1 rfl rfl rfl rfl rfl ?_
      refine G.opN1 rfl rfl rfl rfl rfl ?_
      refine G.opN1 rfl rfl rfl rfl rfl ?_
      refine G.opN1 rfl rfl rfl rfl rfl ?_
      refine G.opN1 rfl rfl rfl rfl rfl ?_
      refine G.opN1 rfl rfl rfl rfl rfl ?_
      refine G.op1 (op_pickF (Ev.t 39 (bB false)) (Ev.c _ rfl) rfl) rfl ⟨rfl, trivial⟩ trivial ?_
      refine G.op1 (op_assign (Ev.t 35 (bI .i64 y1)) rfl) rfl ⟨rfl, trivial⟩ trivial ?_
      refine G.op1 (op_assign (Ev.t 48 (bB false)) rfl) rfl ⟨rfl, trivial⟩ trivial ?_
      refine G.endOps ?_
      cases hF
      exact G.ret2 Try.results63 (RVar.tmp 6 _) (RVar.tmp 7 _) ⟨rfl, rfl, trivial⟩ trivial
  refine G.block ?_
  refine G.keep (sl' := [(0, .one (.g (.d (.sl 3 (List.map encApi_Dep x_0))))), (1, .one (bS target_1)), (2, .one (.sem (sem2 (fun x => .agg (encApi_Dep x)) (fun x => .d (.v (.string x))) (fun y => .int .i64 y) cmp_2))), (8, .one (bI .i64 (x_0.length : Int))), (9, .one (bI .i64 0)), (10, .one (bI .i64 (x_0.length : Int)))]) (hp' := []) ⟨rfl, rfl, rfl, rfl, rfl, rfl, trivial⟩ trivial rfl ?_
  refine G.loopF (fun (v6 : Int × Int) => ⟨[(0, .one (.g (.d (.sl 3 (List.map encApi_Dep x_0))))), (1, .one (bS target_1)), (2, .one (.sem (sem2 (fun x => .agg (encApi_Dep x)) (fun x => .d (.v (.string x))) (fun y => .int .i64 y) cmp_2))), (8, .one (bI .i64 (x_0.length : Int))), (9, .one (bI .i64 v6.1)), (10, .one (bI .i64 v6.2))], []⟩) hF rfl (fun K9 again8 v6 J7 hF => ?_)
  unfold slices_BinarySearchFunc_string_l2 at hF
  refine G.seq ?_
  refine G.seq ?_
  refine G.region ?_
  refine G.op1 (op_move (Ev.t 9 (bI .i64 v6.1)) rfl) rfl ⟨rfl, trivial⟩ trivial ?_
  refine G.op1 (op_move (Ev.t 10 (bI .i64 v6.2)) rfl) rfl ⟨rfl, trivial⟩ trivial ?_
  refine G.op1 (op_lss (Ev.t 15 (bI .i64 v6.1)) (Ev.t 16 (bI .i64 v6.2)) rfl) rfl ⟨rfl, rfl, trivial⟩ trivial ?_
  refine G.endOps ?_
  refine ifS hF (fun hc10 hF => ?_) (fun hc10 hF => ?_)
  · refine G.cond rfl (fun _ => ?_) (fun hx => by rw [hc10] at hx; cases hx)
    refine G.skip ?_
    refine G.block ?_
    refine G.seq ?_
    refine G.region ?_
    refine G.op1 (op_move (Ev.t 9 (bI .i64 v6.1)) rfl) rfl ⟨rfl, trivial⟩ trivial ?_
    refine G.op1 (op_move (Ev.t 10 (bI .i64 v6.2)) rfl) rfl ⟨rfl, trivial⟩ trivial ?_
    refine G.op1 (op_add (Ev.t 18 (bI .i64 v6.1)) (Ev.t 19 (bI .i64 v6.2)) rfl) rfl ⟨rfl, rfl, trivial⟩ trivial ?_
    refine G.op1 (op_convI Try.underlying3 Try.underlying96 (Ev.t 20 (bI .i64 (IntKind.wrap .i64 (v6.1 + v6.2)))) rfl) rfl ⟨rfl, trivial⟩ trivial ?_
    refine G.op1 (op_shr (by decide) (Ev.t 21 (bI .u64 (IntKind.wrap .u64 (IntKind.wrap .i64 (v6.1 + v6.2))))) (Ev.c _ rfl) rfl) rfl ⟨rfl, trivial⟩ trivial ?_
    refine G.op1 (op_convI Try.underlying96 Try.underlying3 (Ev.t 22 (bI .u64 (Int.fdiv (IntKind.wrap .u64 (IntKind.wrap .i64 (v6.1 + v6.2))) (2 ^ min (Int.toNat 1) (IntKind.bits .u64))))) rfl) rfl ⟨rfl, trivial⟩ trivial ?_
    refine G.op1 (op_assign (Ev.t 23 (bI .i64 (IntKind.wrap .i64 (Int.fdiv (IntKind.wrap .u64 (IntKind.wrap .i64 (v6.1 + v6.2))) (2 ^ min (Int.toNat 1) (IntKind.bits .u64)))))) rfl) rfl ⟨rfl, trivial⟩ trivial ?_
    refine G.endOps ?_
    refine G.seq ?_
    refine G.region ?_
    refine G.op1 (op_move (Ev.t 2 (.sem (sem2 (fun x => .agg (encApi_Dep x)) (fun x => .d (.v (.string x))) (fun y => .int .i64 y) cmp_2))) rfl) rfl ⟨rfl, trivial⟩ trivial ?_
    refine G.op1 (op_move (Ev.t 0 (.g (.d (.sl 3 (List.map encApi_Dep x_0))))) rfl) rfl ⟨rfl, trivial⟩ trivial ?_
    refine G.op1 (op_move (Ev.t 11 (bI .i64 (IntKind.wrap .i64 (Int.fdiv (IntKind.wrap .u64 (IntKind.wrap .i64 (v6.1 + v6.2))) (2 ^ min (Int.toNat 1) (IntKind.bits .u64)))))) rfl) rfl ⟨rfl, trivial⟩ trivial ?_
    obtain ⟨x11, hx11, hF⟩ := bindS hF
    refine G.op1 (op_index (cs := [.v (.string x11.Key), .v (.int .i64 x11.Stamp.N), .v (.int .i64 x11.Stamp.Site)]) Try.underlying28 ti52 (idx_ok hx11).1 (idx_get hx11 encApi_Dep) (Ev.t 25 (.g (.d (.sl 3 (List.map encApi_Dep x_0))))) (Ev.t 26 (bI .i64 (IntKind.wrap .i64 (Int.fdiv (IntKind.wrap .u64 (IntKind.wrap .i64 (v6.1 + v6.2))) (2 ^ min (Int.toNat 1) (IntKind.bits .u64)))))) rfl) rfl ⟨rfl, rfl, trivial⟩ trivial ?_
    refine G.op1 (op_loadAE (ds := [.v (.string x11.Key), .v (.int .i64 x11.Stamp.N), .v (.int .i64 x11.Stamp.Site)]) Try.underlying52 rfl ti52 rfl (Ev.t 27 (.ep [.v (.string x11.Key), .v (.int .i64 x11.Stamp.N), .v (.int .i64 x11.Stamp.Site)])) rfl) rfl ⟨rfl, trivial⟩ trivial ?_
    refine G.op1 (op_move (Ev.t 1 (bS target_1)) rfl) rfl ⟨rfl, trivial⟩ trivial ?_
    obtain ⟨r12, hr12, hF⟩ := bindS hF
    refine G.op1 (op_callSem (t := 24) (v := .int .i64 r12) (Φ := sem2 (fun x => .agg (encApi_Dep x)) (fun x => .d (.v (.string x))) (fun y => .int .i64 y) cmp_2) ⟨x11, target_1, r12, rfl, hr12, rfl⟩ rfl (EvL.cons (Ev.t 28 (.g (.agg [.v (.string x11.Key), .v (.int .i64 x11.Stamp.N), .v (.int .i64 x11.Stamp.Site)]))) (EvL.cons (Ev.t 29 (bS target_1)) EvL.nil)) rfl) rfl ⟨rfl, rfl, rfl, trivial⟩ trivial ?_
    refine G.op1 (op_lss (Ev.t 30 (bI .i64 r12)) (Ev.c _ rfl) rfl) rfl ⟨rfl, trivial⟩ trivial ?_
    refine G.endOps ?_
    refine ifS hF (fun hc13 hF => ?_) (fun hc13 hF => ?_)
    · refine G.cond rfl (fun _ => ?_) (fun hx => by rw [hc13] at hx; cases hx)
      refine G.region ?_
      refine G.op1 (op_move (Ev.t 11 (bI .i64 (IntKind.wrap .i64 (Int.fdiv (IntKind.wrap .u64 (IntKind.wrap .i64 (v6.1 + v6.2))) (2 ^ min (Int.toNat 1) (IntKind.bits .u64)))))) rfl) rfl ⟨rfl, trivial⟩ trivial ?_
      refine G.op1 (op_add (Ev.t 32 (bI .i64 (IntKind.wrap .i64 (Int.fdiv (IntKind.wrap .u64 (IntKind.wrap .i64 (v6.1 + v6.2))) (2 ^ min (Int.toNat 1) (IntKind.bits .u64)))))) (Ev.c _ rfl) rfl) rfl ⟨rfl, trivial⟩ trivial ?_
      refine G.op1 (op_assign (Ev.t 33 (bI .i64 (IntKind.wrap .i64 ((IntKind.wrap .i64 (Int.fdiv (IntKind.wrap .u64 (IntKind.wrap .i64 (v6.1 + v6.2))) (2 ^ min (Int.toNat 1) (IntKind.bits .u64)))) + 1)))) rfl) rfl ⟨rfl, trivial⟩ trivial ?_
      refine G.endOps ?_
      refine G.endBlock ?_
      exact G.arr (J7 (IntKind.wrap .i64 ((IntKind.wrap .i64 (Int.fdiv (IntKind.wrap .u64 (IntKind.wrap .i64 (v6.1 + v6.2))) (2 ^ min (Int.toNat 1) (IntKind.bits .u64)))) + 1), v6.2) hF) ⟨rfl, rfl, rfl, rfl, rfl, rfl, trivial⟩ trivial rfl
    · refine G.cond rfl (fun hx => by rw [hc13] at hx; cases hx) (fun _ => ?_)
      refine G.region ?_
      refine G.op1 (op_move (Ev.t 11 (bI .i64 (IntKind.wrap .i64 (Int.fdiv (IntKind.wrap .u64 (IntKind.wrap .i64 (v6.1 + v6.2))) (2 ^ min (Int.toNat 1) (IntKind.bits .u64)))))) rfl) rfl ⟨rfl, trivial⟩ trivial ?_
      refine G.op1 (op_assign (Ev.t 34 (bI .i64 (IntKind.wrap .i64 (Int.fdiv (IntKind.wrap .u64 (IntKind.wrap .i64 (v6.1 + v6.2))) (2 ^ min (Int.toNat 1) (IntKind.bits .u64)))))) rfl) rfl ⟨rfl, trivial⟩ trivial ?_
      refine G.endOps ?_
      refine G.endBlock ?_
      exact G.arr (J7 (v6.1, IntKind.wrap .i64 (Int.fdiv (IntKind.wrap .u64 (IntKind.wrap .i64 (v6.1 + v6.2))) (2 ^ min (Int.toNat 1) (IntKind.bits .u64)))) hF) ⟨rfl, rfl, rfl, rfl, rfl, rfl, trivial⟩ trivial rfl
  · refine G.cond rfl (fun hx => by rw [hc10] at hx; cases hx) (fun _ => ?_)
    refine G.exit ?_
    refine GX.c ?_
    refine GX.q ?_
    refine GX.bYes ?_
    exact G.arr (J5 v6.1 hF) ⟨rfl, rfl, rfl, rfl, rfl, trivial⟩ trivial rfl


set_option maxRecDepth 20000 in
set_option maxHeartbeats 2000000 in
theorem ct_past_find (p_0 : (List Api_Dep)) (key_1 : ByteArray) (r : (Int × Bool)) (hF : past_find p_0 key_1 = some r) : Ct Try.prog 53 [.g (.d (.sl 3 (List.map encApi_Dep p_0))), .g (.d (.v (.string key_1)))] (.tup [.d (.v (.int .i64 r.1)), .d (.v (.bool r.2))]) := by
  unfold past_find at hF
  refine Ct.intro Try.func53 rfl Try.ntmps53 rfl rfl fun M w => ?_
  refine G.seq ?_
  refine G.region ?_
  refine G.op1 (op_assign (Ev.c _ rfl) rfl) rfl trivial trivial ?_
  refine G.op1 (op_assign (Ev.c _ rfl) rfl) rfl trivial trivial ?_
  refine G.endOps ?_
  refine G.seq ?_
  refine G.region ?_
  refine G.op1 (op_move (Ev.t 0 (.g (.d (.sl 3 (List.map encApi_Dep p_0))))) rfl) rfl ⟨rfl, trivial⟩ trivial ?_
  refine G.op1 (op_move (Ev.t 1 (bS key_1)) rfl) rfl ⟨rfl, trivial⟩ trivial ?_
  obtain ⟨r1, hr1, hF⟩ := bindS hF
  refine G.op1 (op_callQ (sv := .tup [bI .i64 r1.1, bB r1.2]) cf63 (ct_slices_BinarySearchFunc_string p_0 key_1 (fun x0 x1 => past_find_1 x0 x1) r1 hr1) rfl rfl (EvQL.cons (EvQ.g (Ev.t 6 (.g (.d (.sl 3 (List.map encApi_Dep p_0)))))) (EvQL.cons (EvQ.g (Ev.t 7 (bS key_1))) (EvQL.cons (EvQ.clo (Φ := sem2 (fun x => .agg (encApi_Dep x)) (fun x => .d (.v (.string x))) (fun y => .int .i64 y) (fun x0 x1 => past_find_1 x0 x1)) (Ev.f 64) EvC.nil cf64 (fun args v ⟨x0, x1, b, h1, h2, h3⟩ => by subst h1 h3; exact ct_past_find_1 x0 x1 b h2)) EvQL.nil))) rfl) rfl ⟨rfl, rfl, trivial⟩ trivial ?_
  refine G.op1 (op_extract (l := [bI .i64 r1.1, bB r1.2]) (c := bI .i64 r1.1) rfl rfl) rfl ⟨rfl, trivial⟩ trivial ?_
  refine G.op1 (op_extract (l := [bI .i64 r1.1, bB r1.2]) (c := bB r1.2) rfl rfl) rfl ⟨rfl, trivial⟩ trivial ?_
  refine G.op1 (op_assign (Ev.t 9 (bI .i64 r1.1)) rfl) rfl ⟨rfl, trivial⟩ trivial ?_
  refine G.op1 (op_assign (Ev.t 10 (bB r1.2)) rfl) rfl ⟨rfl, trivial⟩ trivial ?_
  refine G.endOps ?_
  cases hF
  exact G.ret2 Try.results53 (RVar.tmp 4 _) (RVar.tmp 5 _) ⟨rfl, rfl, trivial⟩ trivial


set_option maxRecDepth 20000 in
set_option maxHeartbeats 2000000 in
theorem ct_past_Get (p_0 : (List Api_Dep)) (key_1 : ByteArray) (r : Api_Stamp) (hF : past_Get p_0 key_1 = some r) : Ct Try.prog 48 [.g (.d (.sl 3 (List.map encApi_Dep p_0))), .g (.d (.v (.string key_1)))] (.one (.agg (encApi_Stamp r))) := by
  unfold past_Get at hF
  refine Ct.intro Try.func48 rfl Try.ntmps48 rfl rfl fun M w => ?_
  refine G.seq ?_
  refine G.region ?_
  refine G.op2 (op_alloc (k := 1004) (cs := [bI .i64 0, bI .i64 0]) ti27 ⟨.v _ rfl, .v _ rfl, trivial⟩ rfl) rfl trivial ⟨rfl, trivial⟩ ?_
  refine G.endOps ?_
  refine G.seq ?_
  refine G.region ?_
  refine G.op1 (op_move (Ev.t 0 (.g (.d (.sl 3 (List.map encApi_Dep p_0))))) rfl) rfl ⟨rfl, trivial⟩ trivial ?_
  refine G.op1 (op_move (Ev.t 1 (bS key_1)) rfl) rfl ⟨rfl, trivial⟩ trivial ?_
  obtain ⟨r1, hr1, hF⟩ := bindS hF
  refine G.op1 (op_callQ (sv := .tup [bI .i64 r1.1, bB r1.2]) cf53 (ct_past_find p_0 key_1 r1 hr1) rfl rfl (EvQL.cons (EvQ.g (Ev.t 8 (.g (.d (.sl 3 (List.map encApi_Dep p_0)))))) (EvQL.cons (EvQ.g (Ev.t 9 (bS key_1))) EvQL.nil)) rfl) rfl ⟨rfl, rfl, trivial⟩ trivial ?_
  refine G.op1 (op_moveS (t := 10) (sv := .tup [bI .i64 r1.1, bB r1.2]) rfl) rfl ⟨rfl, trivial⟩ trivial ?_
  refine G.op1 (op_extract (l := [bI .i64 r1.1, bB r1.2]) (c := bI .i64 r1.1) rfl rfl) rfl ⟨rfl, trivial⟩ trivial ?_
  refine G.op1 (op_extract (l := [bI .i64 r1.1, bB r1.2]) (c := bB r1.2) rfl rfl) rfl ⟨rfl, trivial⟩ trivial ?_
  refine G.op1 (op_assign (Ev.t 11 (bI .i64 r1.1)) rfl) rfl ⟨rfl, trivial⟩ trivial ?_
  refine G.op1 (op_assign (Ev.t 12 (bB r1.2)) rfl) rfl ⟨rfl, trivial⟩ trivial ?_
  refine G.endOps ?_
  refine G.seq ?_
  refine G.seq ?_
  refine G.region ?_
  refine G.op1 (op_move (Ev.t 6 (bB r1.2)) rfl) rfl ⟨rfl, trivial⟩ trivial ?_
  refine G.op1 (op_not (Ev.t 13 (bB r1.2)) rfl) rfl ⟨rfl, trivial⟩ trivial ?_
  refine G.endOps ?_
  refine ifS hF (fun hc2 hF => ?_) (fun hc2 hF => ?_)
  · refine G.cond rfl (fun _ => ?_) (fun hx => by rw [hc2] at hx; cases hx)
    refine G.seq ?_
    refine G.region ?_
    refine G.op1 (op_build (zs := [.v (.int .i64 0), .v (.int .i64 0)]) (ds := [.v (.int .i64 0), .v (.int .i64 0)]) Try.underlying27 ti27 (pl27 _ Try.underlying27) ⟨.v _ rfl, .v _ rfl, trivial⟩ EvP.nil rfl rfl) rfl trivial trivial ?_
    refine G.op3 (op_storeA (cs' := [bI .i64 0, bI .i64 0]) ti27 rfl rfl (Ev.t 4 (.ptr 1004 0)) (Ev.t 15 (.g (.agg [.v (.int .i64 0), .v (.int .i64 0)])))) rfl ⟨rfl, rfl, trivial⟩ ⟨rfl, trivial⟩ ?_
    refine G.endOps ?_
    cases hF
    exact G.ret1 Try.results48 (RVar.cellA (ds := [.v (.int .i64 0), .v (.int .i64 0)]) Try.underlying27 rfl ti27 rfl) ⟨rfl, trivial⟩ ⟨rfl, trivial⟩
  · refine G.cond rfl (fun hx => by rw [hc2] at hx; cases hx) (fun _ => ?_)
    refine G.skip ?_
    refine G.seq ?_
    refine G.region ?_
    refine G.op1 (op_move (Ev.t 0 (.g (.d (.sl 3 (List.map encApi_Dep p_0))))) rfl) rfl ⟨rfl, trivial⟩ trivial ?_
    refine G.op1 (op_move (Ev.t 5 (bI .i64 r1.1)) rfl) rfl ⟨rfl, trivial⟩ trivial ?_
    obtain ⟨x3, hx3, hF⟩ := bindS hF
    refine G.op1 (op_index (cs := [.v (.string x3.Key), .v (.int .i64 x3.Stamp.N), .v (.int .i64 x3.Stamp.Site)]) Try.underlying28 ti52 (idx_ok hx3).1 (idx_get hx3 encApi_Dep) (Ev.t 16 (.g (.d (.sl 3 (List.map encApi_Dep p_0))))) (Ev.t 17 (bI .i64 r1.1)) rfl) rfl ⟨rfl, rfl, trivial⟩ trivial ?_
    refine G.op1 (op_fieldE (cs' := [.v (.int .i64 x3.Stamp.N), .v (.int .i64 x3.Stamp.Site)]) Try.underlying52 rfl ti27 (by decide) rfl (Ev.t 18 (.ep [.v (.string x3.Key), .v (.int .i64 x3.Stamp.N), .v (.int .i64 x3.Stamp.Site)])) rfl) rfl ⟨rfl, trivial⟩ trivial ?_
    refine G.op1 (op_loadAE (ds := [.v (.int .i64 x3.Stamp.N), .v (.int .i64 x3.Stamp.Site)]) Try.underlying27 rfl ti27 rfl (Ev.t 19 (.ep [.v (.int .i64 x3.Stamp.N), .v (.int .i64 x3.Stamp.Site)])) rfl) rfl ⟨rfl, trivial⟩ trivial ?_
    refine G.op3 (op_storeA (cs' := [bI .i64 x3.Stamp.N, bI .i64 x3.Stamp.Site]) ti27 rfl rfl (Ev.t 4 (.ptr 1004 0)) (Ev.t 20 (.g (.agg [.v (.int .i64 x3.Stamp.N), .v (.int .i64 x3.Stamp.Site)])))) rfl ⟨rfl, rfl, trivial⟩ ⟨rfl, trivial⟩ ?_
    refine G.endOps ?_
    cases hF
    exact G.ret1 Try.results48 (RVar.cellA (ds := [.v (.int .i64 x3.Stamp.N), .v (.int .i64 x3.Stamp.Site)]) Try.underlying27 rfl ti27 rfl) ⟨rfl, trivial⟩ ⟨rfl, trivial⟩


set_option maxRecDepth 20000 in
set_option maxHeartbeats 2000000 in
theorem ct_stamp_Less (a_0 : Api_Stamp) (b_1 : Api_Stamp) (r : Bool) (hF : stamp_Less a_0 b_1 = some r) : Ct Try.prog 45 [.g (.agg (encApi_Stamp a_0)), .g (.agg (encApi_Stamp b_1))] (.one (.d (.v (.bool r)))) := by
  unfold stamp_Less at hF
  refine Ct.intro Try.func45 rfl Try.ntmps45 rfl rfl fun M w => ?_
  refine G.seq ?_
  refine G.region ?_
  refine G.op2 (op_boxA (k := 1002) (Ev.t 0 (.g (.agg [.v (.int .i64 a_0.N), .v (.int .i64 a_0.Site)]))) rfl) rfl ⟨rfl, trivial⟩ ⟨rfl, trivial⟩ ?_
  refine G.op2 (op_boxA (k := 1003) (Ev.t 1 (.g (.agg [.v (.int .i64 b_1.N), .v (.int .i64 b_1.Site)]))) rfl) rfl ⟨rfl, trivial⟩ ⟨rfl, trivial⟩ ?_
  refine G.op1 (op_assign (Ev.c _ rfl) rfl) rfl trivial trivial ?_
  refine G.endOps ?_
  refine G.seq ?_
  refine G.region ?_
  refine G.op1 (op_loadAP (ds := [.v (.int .i64 a_0.N), .v (.int .i64 a_0.Site)]) Try.underlying27 rfl ti27 rfl (Ev.t 2 (.ptr 1002 0)) rfl) rfl ⟨rfl, trivial⟩ ⟨rfl, trivial⟩ ?_
  refine G.op1 (op_loadAP (ds := [.v (.int .i64 b_1.N), .v (.int .i64 b_1.Site)]) Try.underlying27 rfl ti27 rfl (Ev.t 3 (.ptr 1003 0)) rfl) rfl ⟨rfl, trivial⟩ ⟨rfl, trivial⟩ ?_
  refine G.op1 (op_eqA (us := [.int .i64 a_0.N, .int .i64 a_0.Site]) (vs := [.int .i64 b_1.N, .int .i64 b_1.Site]) rfl rfl Try.eqGuardType27 (fun w => ne27 a_0.N a_0.Site b_1.N b_1.Site w) (Ev.t 5 (.g (.agg [.v (.int .i64 a_0.N), .v (.int .i64 a_0.Site)]))) (Ev.t 6 (.g (.agg [.v (.int .i64 b_1.N), .v (.int .i64 b_1.Site)]))) rfl) rfl ⟨rfl, rfl, trivial⟩ trivial ?_
  refine G.op1 (op_move (Ev.t 7 (bB (!(decide (a_0.N = b_1.N) && decide (a_0.Site = b_1.Site))))) rfl) rfl ⟨rfl, trivial⟩ trivial ?_
  refine ifS hF (fun hc1 hF => ?_) (fun hc1 hF => ?_)
  · refine G.known (t := 8) hc1 rfl ?_
    refine G.opG1 (op_fieldP (off' := 0) Try.underlying27 rfl ti3 (by decide) rfl (Ev.t 2 (.ptr 1002 0)) rfl) rfl rfl rfl ⟨rfl, trivial⟩ trivial ?_
    refine G.opG1 (op_load1P (c := bI .i64 a_0.N) Try.underlying3 rfl rfl (Ev.t 9 (.ptr 1002 0)) rfl) rfl rfl rfl ⟨rfl, trivial⟩ ⟨rfl, trivial⟩ ?_
    refine G.opG1 (op_fieldP (off' := 0) Try.underlying27 rfl ti3 (by decide) rfl (Ev.t 3 (.ptr 1003 0)) rfl) rfl rfl rfl ⟨rfl, trivial⟩ trivial ?_
    refine G.opG1 (op_load1P (c := bI .i64 b_1.N) Try.underlying3 rfl rfl (Ev.t 11 (.ptr 1003 0)) rfl) rfl rfl rfl ⟨rfl, trivial⟩ ⟨rfl, trivial⟩ ?_
    refine G.opG1 (op_lss (Ev.t 10 (bI .i64 a_0.N)) (Ev.t 12 (bI .i64 b_1.N)) rfl) rfl rfl rfl ⟨rfl, rfl, trivial⟩ trivial ?_
    refine G.opG1 (op_move (Ev.t 13 (bB (decide (a_0.N < b_1.N)))) rfl) rfl rfl rfl ⟨rfl, trivial⟩ trivial ?_
    refine ifS hF (fun hc2 hF => ?_) (fun hc2 hF => ?_)
    · refine G.known (t := 14) hc2 rfl ?_
      refine G.opN1 rfl rfl rfl rfl rfl ?_
      refine G.opN1 rfl rfl rfl rfl rfl ?_
      refine G.opN1 rfl rfl rfl rfl rfl ?_
      refine G.opN1 rfl rfl rfl rfl rfl ?_
      refine G.opN1 rfl rfl rfl rfl rfl ?_
      refine G.opN1 rfl rfl rfl rfl rfl ?_
      refine G.opU rfl rfl rfl rfl ?_
      refine G.opU rfl rfl rfl rfl ?_
      refine G.opU rfl rfl rfl rfl ?_
      refine G.opU rfl rfl rfl rfl ?_
      refine G.opU rfl rfl rfl rfl ?_
      refine G.opN1 rfl rfl rfl rfl rfl ?_
      refine G.opG1 (op_pickT (Ev.t 14 (bB true)) (Ev.c _ rfl) rfl) rfl rfl rfl ⟨rfl, trivial⟩ trivial ?_
      refine G.op1 (op_pickT (Ev.t 8 (bB true)) (Ev.t 27 (bB true)) rfl) rfl ⟨rfl, rfl, trivial⟩ trivial ?_
      refine G.op1 (op_assign (Ev.t 28 (bB true)) rfl) rfl ⟨rfl, trivial⟩ trivial ?_
      refine G.endOps ?_
      cases hF
      exact G.ret1 Try.results45 (RVar.tmp 4 _) ⟨rfl, trivial⟩ trivial
    · refine G.known (t := 14) hc2 rfl ?_
      refine G.opG1 (op_fieldP (off' := 0) Try.underlying27 rfl ti3 (by decide) rfl (Ev.t 2 (.ptr 1002 0)) rfl) rfl rfl rfl ⟨rfl, trivial⟩ trivial ?_
      refine G.opG1 (op_load1P (c := bI .i64 a_0.N) Try.underlying3 rfl rfl (Ev.t 15 (.ptr 1002 0)) rfl) rfl rfl rfl ⟨rfl, trivial⟩ ⟨rfl, trivial⟩ ?_
      refine G.opG1 (op_fieldP (off' := 0) Try.underlying27 rfl ti3 (by decide) rfl (Ev.t 3 (.ptr 1003 0)) rfl) rfl rfl rfl ⟨rfl, trivial⟩ trivial ?_
      refine G.opG1 (op_load1P (c := bI .i64 b_1.N) Try.underlying3 rfl rfl (Ev.t 17 (.ptr 1003 0)) rfl) rfl rfl rfl ⟨rfl, trivial⟩ ⟨rfl, trivial⟩ ?_
      refine G.opG1 (op_eqI (Ev.t 16 (bI .i64 a_0.N)) (Ev.t 18 (bI .i64 b_1.N)) rfl) rfl rfl rfl ⟨rfl, rfl, trivial⟩ trivial ?_
      refine G.opG1 (op_move (Ev.t 19 (bB (decide (a_0.N = b_1.N)))) rfl) rfl rfl rfl ⟨rfl, trivial⟩ trivial ?_
      refine ifS hF (fun hc3 hF => ?_) (fun hc3 hF => ?_)
      · refine G.known (t := 20) hc3 rfl ?_
        refine G.opG1 (op_fieldP (off' := 1) Try.underlying27 rfl ti3 (by decide) rfl (Ev.t 2 (.ptr 1002 0)) rfl) rfl rfl rfl ⟨rfl, trivial⟩ trivial ?_
        refine G.opG1 (op_load1P (c := bI .i64 a_0.Site) Try.underlying3 rfl rfl (Ev.t 21 (.ptr 1002 1)) rfl) rfl rfl rfl ⟨rfl, trivial⟩ ⟨rfl, trivial⟩ ?_
        refine G.opG1 (op_fieldP (off' := 1) Try.underlying27 rfl ti3 (by decide) rfl (Ev.t 3 (.ptr 1003 0)) rfl) rfl rfl rfl ⟨rfl, trivial⟩ trivial ?_
        refine G.opG1 (op_load1P (c := bI .i64 b_1.Site) Try.underlying3 rfl rfl (Ev.t 23 (.ptr 1003 1)) rfl) rfl rfl rfl ⟨rfl, trivial⟩ ⟨rfl, trivial⟩ ?_
        refine G.opG1 (op_leq (Ev.t 22 (bI .i64 a_0.Site)) (Ev.t 24 (bI .i64 b_1.Site)) rfl) rfl rfl rfl ⟨rfl, rfl, trivial⟩ trivial ?_
        refine G.opG1 (op_pickT (Ev.t 20 (bB true)) (Ev.t 25 (bB (decide (a_0.Site ≤ b_1.Site)))) rfl) rfl rfl rfl ⟨rfl, rfl, trivial⟩ trivial ?_
        refine G.opG1 (op_pickF (Ev.t 14 (bB false)) (Ev.t 26 (bB (decide (a_0.Site ≤ b_1.Site)))) rfl) rfl rfl rfl ⟨rfl, rfl, trivial⟩ trivial ?_
        refine G.op1 (op_pickT (Ev.t 8 (bB true)) (Ev.t 27 (bB (decide (a_0.Site ≤ b_1.Site)))) rfl) rfl ⟨rfl, rfl, trivial⟩ trivial ?_
        refine G.op1 (op_assign (Ev.t 28 (bB (decide (a_0.Site ≤ b_1.Site)))) rfl) rfl ⟨rfl, trivial⟩ trivial ?_
        refine G.endOps ?_
        cases hF
        exact G.ret1 Try.results45 (RVar.tmp 4 _) ⟨rfl, trivial⟩ trivial
      · refine G.known (t := 20) hc3 rfl ?_
        refine G.opN1 rfl rfl rfl rfl rfl ?_
        refine G.opN1 rfl rfl rfl rfl rfl ?_
        refine G.opN1 rfl rfl rfl rfl rfl ?_
        refine G.opN1 rfl rfl rfl rfl rfl ?_
        refine G.opN1 rfl rfl rfl rfl rfl ?_
        refine G.opG1 (op_pickF (Ev.t 20 (bB false)) (Ev.c _ rfl) rfl) rfl rfl rfl ⟨rfl, trivial⟩ trivial ?_
        refine G.opG1 (op_pickF (Ev.t 14 (bB false)) (Ev.t 26 (bB false)) rfl) rfl rfl rfl ⟨rfl, rfl, trivial⟩ trivial ?_
        refine G.op1 (op_pickT (Ev.t 8 (bB true)) (Ev.t 27 (bB false)) rfl) rfl ⟨rfl, rfl, trivial⟩ trivial ?_
        refine G.op1 (op_assign (Ev.t 28 (bB false)) rfl) rfl ⟨rfl, trivial⟩ trivial ?_
        refine G.endOps ?_
        cases hF
        exact G.ret1 Try.results45 (RVar.tmp 4 _) ⟨rfl, trivial⟩ trivial
  · refine G.known (t := 8) hc1 rfl ?_
    refine G.opN1 rfl rfl rfl rfl rfl ?_
    refine G.opN1 rfl rfl rfl rfl rfl ?_
    refine G.opN1 rfl rfl rfl rfl rfl ?_
    refine G.opN1 rfl rfl rfl rfl rfl ?_
    refine G.opN1 rfl rfl rfl rfl rfl ?_
    refine G.opN1 rfl rfl rfl rfl rfl ?_
    refine G.opU rfl rfl rfl rfl ?_
    refine G.opU rfl rfl rfl rfl ?_
    refine G.opU rfl rfl rfl rfl ?_
    refine G.opU rfl rfl rfl rfl ?_
    refine G.opU rfl rfl rfl rfl ?_
    refine G.opU rfl rfl rfl rfl ?_
    refine G.opU rfl rfl rfl rfl ?_
    refine G.opU rfl rfl rfl rfl ?_
    refine G.opU rfl rfl rfl rfl ?_
    refine G.opU rfl rfl rfl rfl ?_
    refine G.opU rfl rfl rfl rfl ?_
    refine G.opU rfl rfl rfl rfl ?_
    refine G.opN1 rfl rfl rfl rfl rfl ?_
    refine G.op1 (op_pickF (Ev.t 8 (bB false)) (Ev.c _ rfl) rfl) rfl ⟨rfl, trivial⟩ trivial ?_
    refine G.op1 (op_assign (Ev.t 28 (bB false)) rfl) rfl ⟨rfl, trivial⟩ trivial ?_
    refine G.endOps ?_
    cases hF
    exact G.ret1 Try.results45 (RVar.tmp 4 _) ⟨rfl, trivial⟩ trivial


set_option maxRecDepth 20000 in
set_option maxHeartbeats 2000000 in
theorem ct_past_Covers_1 (d_0 : Api_Dep) (c0 : (List Api_Dep)) (r : Bool) (hF : past_Covers_1 d_0 c0 = some r) : Ct Try.prog 58 [.g (.agg (encApi_Dep d_0)), .ep [.sl 3 (List.map encApi_Dep c0)]] (.one (.d (.v (.bool r)))) := by
  unfold past_Covers_1 at hF
  refine Ct.intro Try.func58 rfl Try.ntmps58 rfl rfl fun M w => ?_
  refine G.seq ?_
  refine G.region ?_
  refine G.op2 (op_boxA (k := 1002) (Ev.t 0 (.g (.agg [.v (.string d_0.Key), .v (.int .i64 d_0.Stamp.N), .v (.int .i64 d_0.Stamp.Site)]))) rfl) rfl ⟨rfl, trivial⟩ ⟨rfl, trivial⟩ ?_
  refine G.op1 (op_assign (Ev.c _ rfl) rfl) rfl trivial trivial ?_
  refine G.endOps ?_
  refine G.seq ?_
  obtain ⟨r1, hr1, hF⟩ := bindS hF
  obtain ⟨r2, hr2, hF⟩ := bindS hF
  refine G.drawn (effs := [⟨[(1, .one (.ep [.sl 3 (List.map encApi_Dep c0)]))], [], [(4, .one (.g (.d (.sl 3 (List.map encApi_Dep c0)))))], []⟩, ⟨[(2, .one (.ptr 1002 0))], [], [(5, .one (.ptr 1002 0))], []⟩, ⟨[(5, .one (.ptr 1002 0))], [(1002, some (.blk 52 [bS d_0.Key, bI .i64 d_0.Stamp.N, bI .i64 d_0.Stamp.Site]))], [(6, .one (bS d_0.Key))], []⟩, ⟨[(4, .one (.g (.d (.sl 3 (List.map encApi_Dep c0))))), (6, .one (bS d_0.Key))], [], [(7, .one (.g (.agg [.v (.int .i64 r1.N), .v (.int .i64 r1.Site)])))], []⟩, ⟨[(2, .one (.ptr 1002 0))], [], [(8, .one (.ptr 1002 1))], []⟩, ⟨[(8, .one (.ptr 1002 1))], [(1002, some (.blk 52 [bS d_0.Key, bI .i64 d_0.Stamp.N, bI .i64 d_0.Stamp.Site]))], [(9, .one (.g (.agg [.v (.int .i64 d_0.Stamp.N), .v (.int .i64 d_0.Stamp.Site)])))], []⟩, ⟨[(7, .one (.g (.agg [.v (.int .i64 r1.N), .v (.int .i64 r1.Site)]))), (9, .one (.g (.agg [.v (.int .i64 d_0.Stamp.N), .v (.int .i64 d_0.Stamp.Site)])))], [], [(10, .one (bB r2))], []⟩, ⟨[(10, .one (bB r2))], [], [(3, .one (bB r2))], []⟩]) (deps := [[], [], [1], [0, 1, 2], [], [4], [0, 1, 2, 3, 4, 5], [0, 1, 2, 3, 4, 5, 6]]) (sl' := [(3, .one (bB r2))]) (hp' := []) follows rfl rfl rfl ⟨⟨rfl, trivial⟩, trivial, ⟨rfl, trivial⟩, trivial, ⟨rfl, trivial⟩, ⟨⟨rfl, rfl⟩, trivial⟩, ⟨rfl, rfl, trivial⟩, trivial, ⟨rfl, trivial⟩, trivial, ⟨rfl, trivial⟩, ⟨⟨rfl, rfl⟩, trivial⟩, ⟨rfl, rfl, trivial⟩, trivial, ⟨rfl, trivial⟩, trivial, trivial⟩ ⟨OpW.plain (op_load1E (c := .sl 3 (List.map encApi_Dep c0)) Try.underlying28 rfl rfl (Ev.t 1 (.ep [.sl 3 (List.map encApi_Dep c0)])) rfl) rfl rfl, OpW.plain (op_fieldP (off' := 0) Try.underlying52 rfl ti9 (by decide) rfl (Ev.t 2 (.ptr 1002 0)) rfl) rfl rfl, OpW.plain (op_load1P (c := bS d_0.Key) Try.underlying9 rfl rfl (Ev.t 5 (.ptr 1002 0)) rfl) rfl rfl, OpW.plain (op_callQ (sv := .one (.g (.agg [.v (.int .i64 r1.N), .v (.int .i64 r1.Site)]))) cf48 (ct_past_Get c0 d_0.Key r1 hr1) rfl rfl (EvQL.cons (EvQ.g (Ev.t 4 (.g (.d (.sl 3 (List.map encApi_Dep c0)))))) (EvQL.cons (EvQ.g (Ev.t 6 (bS d_0.Key))) EvQL.nil)) rfl) rfl rfl, OpW.plain (op_fieldP (off' := 1) Try.underlying52 rfl ti27 (by decide) rfl (Ev.t 2 (.ptr 1002 0)) rfl) rfl rfl, OpW.plain (op_loadAP (ds := [.v (.int .i64 d_0.Stamp.N), .v (.int .i64 d_0.Stamp.Site)]) Try.underlying27 rfl ti27 rfl (Ev.t 8 (.ptr 1002 1)) rfl) rfl rfl, OpW.plain (op_callQ (sv := .one (bB r2)) cf45 (ct_stamp_Less r1 d_0.Stamp r2 hr2) rfl rfl (EvQL.cons (EvQ.g (Ev.t 7 (.g (.agg [.v (.int .i64 r1.N), .v (.int .i64 r1.Site)])))) (EvQL.cons (EvQ.g (Ev.t 9 (.g (.agg [.v (.int .i64 d_0.Stamp.N), .v (.int .i64 d_0.Stamp.Site)])))) EvQL.nil)) rfl) rfl rfl, OpW.plain (op_assign (Ev.t 10 (bB r2)) rfl) rfl rfl, trivial⟩ ⟨rfl, trivial⟩ trivial rfl ?_
  cases hF
  exact G.ret1 Try.results58 (RVar.tmp 3 _) ⟨rfl, trivial⟩ trivial


set_option maxRecDepth 20000 in
set_option maxHeartbeats 2000000 in
theorem ct_slices_IndexFunc_Dep (s_0 : (List Api_Dep)) (f_1 : (Api_Dep → Option Bool)) (r : Int) (hF : slices_IndexFunc_Dep s_0 f_1 = some r) : Ct Try.prog 59 [.g (.d (.sl 3 (List.map encApi_Dep s_0))), .sem (sem1 (fun x => .agg (encApi_Dep x)) (fun y => .bool y) f_1)] (.one (.d (.v (.int .i64 r)))) := by
  unfold slices_IndexFunc_Dep at hF
  refine Ct.intro Try.func59 rfl Try.ntmps59 rfl rfl fun M w => ?_
  refine G.seq ?_
  refine G.region ?_
  refine G.op1 (op_assign (Ev.c _ rfl) rfl) rfl trivial trivial ?_
  refine G.endOps ?_
  refine G.seq ?_
  refine G.seq ?_
  refine G.region ?_
  refine G.op1 (op_move (Ev.t 0 (.g (.d (.sl 3 (List.map encApi_Dep s_0))))) rfl) rfl ⟨rfl, trivial⟩ trivial ?_
  refine G.op1 (OpL.cast (op_lenD Try.underlying28 (Ev.t 6 (.g (.d (.sl 3 (List.map encApi_Dep s_0))))) rfl) (by rw [List.length_map])) rfl ⟨rfl, trivial⟩ trivial ?_
  refine G.op1 (op_move (Ev.c _ rfl) rfl) rfl trivial trivial ?_
  refine G.endOps ?_
  refine G.joinC (T := Unit) (fun y1 => ⟨[], []⟩) (fun y1 => slices_IndexFunc_Dep_k1 y1 = some r) (fun y1 hF => ?_) (fun J2 => ?_)
  · unfold slices_IndexFunc_Dep_k1 at hF
    refine G.seq ?_
    refine G.region ?_
    refine G.op1 (op_assign (Ev.c _ rfl) rfl) rfl trivial trivial ?_
    refine G.endOps ?_
    cases hF
    exact G.ret1 Try.results59 (RVar.tmp 4 _) ⟨rfl, trivial⟩ trivial
  refine G.block ?_
  refine G.keep (sl' := [(0, .one (.g (.d (.sl 3 (List.map encApi_Dep s_0))))), (1, .one (.sem (sem1 (fun x => .agg (encApi_Dep x)) (fun y => .bool y) f_1))), (7, .one (bI .i64 (s_0.length : Int))), (8, .one (bI .i64 0))]) (hp' := []) ⟨rfl, rfl, rfl, rfl, trivial⟩ trivial rfl ?_
  refine G.loopF (fun (v3 : Int) => ⟨[(0, .one (.g (.d (.sl 3 (List.map encApi_Dep s_0))))), (1, .one (.sem (sem1 (fun x => .agg (encApi_Dep x)) (fun y => .bool y) f_1))), (7, .one (bI .i64 (s_0.length : Int))), (8, .one (bI .i64 v3))], []⟩) hF rfl (fun K6 again5 v3 J4 hF => ?_)
  unfold slices_IndexFunc_Dep_l2 at hF
  refine G.seq ?_
  refine G.region ?_
  refine G.op1 (op_lss (Ev.t 8 (bI .i64 v3)) (Ev.t 7 (bI .i64 (s_0.length : Int))) rfl) rfl ⟨rfl, rfl, trivial⟩ trivial ?_
  refine G.endOps ?_
  refine G.seq ?_
  refine ifS hF (fun hc7 hF => ?_) (fun hc7 hF => ?_)
  · refine G.cond rfl (fun _ => ?_) (fun hx => by rw [hc7] at hx; cases hx)
    refine G.skip ?_
    refine G.seq ?_
    refine G.block ?_
    refine G.seq ?_
    refine G.region ?_
    refine G.op1 (op_move (Ev.t 8 (bI .i64 v3)) rfl) rfl ⟨rfl, trivial⟩ trivial ?_
    refine G.op1 (op_assign (Ev.t 10 (bI .i64 v3)) rfl) rfl ⟨rfl, trivial⟩ trivial ?_
    refine G.endOps ?_
    refine G.seq ?_
    refine G.region ?_
    refine G.op1 (op_move (Ev.t 1 (.sem (sem1 (fun x => .agg (encApi_Dep x)) (fun y => .bool y) f_1))) rfl) rfl ⟨rfl, trivial⟩ trivial ?_
    refine G.op1 (op_move (Ev.t 0 (.g (.d (.sl 3 (List.map encApi_Dep s_0))))) rfl) rfl ⟨rfl, trivial⟩ trivial ?_
    refine G.op1 (op_move (Ev.t 5 (bI .i64 v3)) rfl) rfl ⟨rfl, trivial⟩ trivial ?_
    obtain ⟨x8, hx8, hF⟩ := bindS hF
    refine G.op1 (op_index (cs := [.v (.string x8.Key), .v (.int .i64 x8.Stamp.N), .v (.int .i64 x8.Stamp.Site)]) Try.underlying28 ti52 (idx_ok hx8).1 (idx_get hx8 encApi_Dep) (Ev.t 12 (.g (.d (.sl 3 (List.map encApi_Dep s_0))))) (Ev.t 13 (bI .i64 v3)) rfl) rfl ⟨rfl, rfl, trivial⟩ trivial ?_
    refine G.op1 (op_loadAE (ds := [.v (.string x8.Key), .v (.int .i64 x8.Stamp.N), .v (.int .i64 x8.Stamp.Site)]) Try.underlying52 rfl ti52 rfl (Ev.t 14 (.ep [.v (.string x8.Key), .v (.int .i64 x8.Stamp.N), .v (.int .i64 x8.Stamp.Site)])) rfl) rfl ⟨rfl, trivial⟩ trivial ?_
    obtain ⟨r9, hr9, hF⟩ := bindS hF
    refine G.op1 (op_callSem (t := 11) (v := .bool r9) (Φ := sem1 (fun x => .agg (encApi_Dep x)) (fun y => .bool y) f_1) ⟨x8, r9, rfl, hr9, rfl⟩ rfl (EvL.cons (Ev.t 15 (.g (.agg [.v (.string x8.Key), .v (.int .i64 x8.Stamp.N), .v (.int .i64 x8.Stamp.Site)]))) EvL.nil) rfl) rfl ⟨rfl, rfl, trivial⟩ trivial ?_
    refine G.endOps ?_
    refine ifS hF (fun hc10 hF => ?_) (fun hc10 hF => ?_)
    · refine G.cond rfl (fun _ => ?_) (fun hx => by rw [hc10] at hx; cases hx)
      refine G.seq ?_
      refine G.region ?_
      refine G.op1 (op_move (Ev.t 5 (bI .i64 v3)) rfl) rfl ⟨rfl, trivial⟩ trivial ?_
      refine G.op1 (op_assign (Ev.t 17 (bI .i64 v3)) rfl) rfl ⟨rfl, trivial⟩ trivial ?_
      refine G.endOps ?_
      cases hF
      exact G.ret1 Try.results59 (RVar.tmp 4 _) ⟨rfl, trivial⟩ trivial
    · refine G.cond rfl (fun hx => by rw [hc10] at hx; cases hx) (fun _ => ?_)
      refine G.skip ?_
      refine G.endBlock ?_
      refine G.region ?_
      refine G.op1 (op_add (Ev.t 8 (bI .i64 v3)) (Ev.c _ rfl) rfl) rfl ⟨rfl, trivial⟩ trivial ?_
      refine G.op1 (op_move (Ev.t 18 (bI .i64 (IntKind.wrap .i64 (v3 + 1)))) rfl) rfl ⟨rfl, trivial⟩ trivial ?_
      refine G.endOps ?_
      exact G.arr (J4 (IntKind.wrap .i64 (v3 + 1)) hF) ⟨rfl, rfl, rfl, rfl, trivial⟩ trivial rfl
  · refine G.cond rfl (fun hx => by rw [hc7] at hx; cases hx) (fun _ => ?_)
    refine G.exit ?_
    refine GX.c ?_
    refine GX.q ?_
    refine GX.bYes ?_
    exact G.arr (J2 () hF) trivial trivial rfl


set_option maxRecDepth 20000 in
set_option maxHeartbeats 2000000 in
theorem ct_slices_ContainsFunc_Dep (s_0 : (List Api_Dep)) (f_1 : (Api_Dep → Option Bool)) (r : Bool) (hF : slices_ContainsFunc_Dep s_0 f_1 = some r) : Ct Try.prog 47 [.g (.d (.sl 3 (List.map encApi_Dep s_0))), .sem (sem1 (fun x => .agg (encApi_Dep x)) (fun y => .bool y) f_1)] (.one (.d (.v (.bool r)))) := by
  unfold slices_ContainsFunc_Dep at hF
  refine Ct.intro Try.func47 rfl Try.ntmps47 rfl rfl fun M w => ?_
  refine G.seq ?_
  refine G.region ?_
  refine G.op1 (op_assign (Ev.c _ rfl) rfl) rfl trivial trivial ?_
  refine G.endOps ?_
  refine G.seq ?_
  refine G.region ?_
  refine G.op1 (op_move (Ev.t 0 (.g (.d (.sl 3 (List.map encApi_Dep s_0))))) rfl) rfl ⟨rfl, trivial⟩ trivial ?_
  refine G.op1 (op_move (Ev.t 1 (.sem (sem1 (fun x => .agg (encApi_Dep x)) (fun y => .bool y) f_1))) rfl) rfl ⟨rfl, trivial⟩ trivial ?_
  obtain ⟨r1, hr1, hF⟩ := bindS hF
  refine G.op1 (op_callQ (sv := .one (bI .i64 r1)) cf59 (ct_slices_IndexFunc_Dep s_0 f_1 r1 hr1) rfl rfl (EvQL.cons (EvQ.g (Ev.t 5 (.g (.d (.sl 3 (List.map encApi_Dep s_0)))))) (EvQL.cons (EvQ.sem (Ev.t 6 (.sem (sem1 (fun x => .agg (encApi_Dep x)) (fun y => .bool y) f_1)))) EvQL.nil)) rfl) rfl ⟨rfl, rfl, trivial⟩ trivial ?_
  refine G.op1 (op_geq (Ev.t 7 (bI .i64 r1)) (Ev.c _ rfl) rfl) rfl ⟨rfl, trivial⟩ trivial ?_
  refine G.op1 (op_assign (Ev.t 8 (bB (decide (0 ≤ r1)))) rfl) rfl ⟨rfl, trivial⟩ trivial ?_
  refine G.endOps ?_
  cases hF
  exact G.ret1 Try.results47 (RVar.tmp 4 _) ⟨rfl, trivial⟩ trivial


set_option maxRecDepth 20000 in
set_option maxHeartbeats 2000000 in
theorem ct_past_Covers (p_0 : (List Api_Dep)) (q_1 : (List Api_Dep)) (r : Bool) (hF : past_Covers p_0 q_1 = some r) : Ct Try.prog 42 [.g (.d (.sl 3 (List.map encApi_Dep p_0))), .g (.d (.sl 3 (List.map encApi_Dep q_1)))] (.one (.d (.v (.bool r)))) := by
  unfold past_Covers at hF
  refine Ct.intro Try.func42 rfl Try.ntmps42 rfl rfl fun M w => ?_
  refine G.seq ?_
  refine G.region ?_
  refine G.op2 (op_box1 (k := 1002) (c := .g (.d (.sl 3 (List.map encApi_Dep p_0)))) trivial (Ev.t 0 (.g (.d (.sl 3 (List.map encApi_Dep p_0))))) rfl) rfl ⟨rfl, trivial⟩ ⟨rfl, trivial⟩ ?_
  refine G.op1 (op_assign (Ev.c _ rfl) rfl) rfl trivial trivial ?_
  refine G.endOps ?_
  refine G.seq ?_
  refine G.region ?_
  refine G.op1 (op_move (Ev.t 1 (.g (.d (.sl 3 (List.map encApi_Dep q_1))))) rfl) rfl ⟨rfl, trivial⟩ trivial ?_
  refine G.op1 (op_makeFunc1 (Ev.t 2 (.ptr 1002 0)) rfl) rfl ⟨rfl, trivial⟩ trivial ?_
  obtain ⟨r1, hr1, hF⟩ := bindS hF
  refine G.op1 (op_callQ (sv := .one (bB r1)) cf47 (ct_slices_ContainsFunc_Dep q_1 (fun x0 => past_Covers_1 x0 p_0) r1 hr1) rfl rfl (EvQL.cons (EvQ.g (Ev.t 5 (.g (.d (.sl 3 (List.map encApi_Dep q_1)))))) (EvQL.cons (EvQ.clo (Φ := sem1 (fun x => .agg (encApi_Dep x)) (fun y => .bool y) (fun x0 => past_Covers_1 x0 p_0)) (Ev.t 6 (.clo 58 [1002])) (EvC.cons rfl EvC.nil) cf58 (fun args v ⟨x0, b, h1, h2, h3⟩ => by subst h1 h3; exact ct_past_Covers_1 x0 p_0 b h2)) EvQL.nil)) rfl) rfl ⟨rfl, rfl, trivial⟩ ⟨rfl, trivial⟩ ?_
  refine G.op1 (op_not (Ev.t 7 (bB r1)) rfl) rfl ⟨rfl, trivial⟩ trivial ?_
  refine G.op1 (op_assign (Ev.t 8 (bB (!r1))) rfl) rfl ⟨rfl, trivial⟩ trivial ?_
  refine G.endOps ?_
  cases hF
  exact G.ret1 Try.results42 (RVar.tmp 4 _) ⟨rfl, trivial⟩ trivial


set_option maxRecDepth 100000 in
set_option maxHeartbeats 4000000 in
theorem hk43 (a b : Int) (c : ByteArray) (d e : Int) (g : DV) : ∀ (us : Array Value) (w : World), us.size = [DV.v (.int .i64 a), DV.v (.int .i64 b), DV.v (.string c), DV.v (.int .i64 d), DV.v (.int .i64 e), g].length →
    (∀ (j : Nat) (v : Value), [DV.v (.int .i64 a), DV.v (.int .i64 b), DV.v (.string c), DV.v (.int .i64 d), DV.v (.int .i64 e), g][j]? = some (.v v) → us[j]? = some v) → (∀ (j : Nat) (v : Value), us[j]? = some v → v.oneCell' = true) →
    Calls Try.prog 43 #[.agg us] w fun e w' => ∃ u, e = .returned u ∧ tagP (kindN a) u ∧ Below w.heap.size w w' := by
  intro us w hsz h1 h2
  obtain ⟨us⟩ := us
  match us, hsz with
  | [u0, u1, u2, u3, u4, u5], _ =>
    have e0 : u0 = .int .i64 a := by have := h1 0 _ rfl; simpa using this
    have o1 := h2 1 u1 rfl
    have o2 := h2 2 u2 rfl
    have o3 := h2 3 u3 rfl
    have o4 := h2 4 u4 rfl
    have o5 := h2 5 u5 rfl
    subst e0
    have hU30 := Try.underlying30
    have hB : ∀ (cs : Array Value) (T : Nat), Below w.heap.size w (w.alloc (.cells cs T)) := fun cs T => (Below.refl _ w).alloc (Nat.le_refl _) _
    by_cases k1 : a = 1
    · subst k1
      go_enter Try.func43, Try.ntmps43
      go_wp2
      go_ret
      exact ⟨_, rfl, ⟨_, rfl⟩, hB _ _⟩
    · by_cases k2 : a = 2
      · subst k2
        go_enter Try.func43, Try.ntmps43
        go_wp2
        go_ret
        exact ⟨_, rfl, ⟨_, rfl⟩, hB _ _⟩
      · go_enter Try.func43, Try.ntmps43
        go_wp2
        go_ret
        refine ⟨_, rfl, ?_, hB _ _⟩
        show tagP (if a = 1 then 77 else if a = 2 then 80 else 0) _
        rw [if_neg k1, if_neg k2]
        rfl

set_option maxRecDepth 20000 in
set_option maxHeartbeats 2000000 in
theorem ct_history_book_right_1 (d_0 : Api_Dep) (c0 : Api_Event) (r : Bool) (hF : history_book_right_1 d_0 c0 = some r) : Ct Try.prog 44 [.g (.agg (encApi_Dep d_0)), .ep (encApi_Event c0)] (.one (.d (.v (.bool r)))) := by
  unfold history_book_right_1 at hF
  refine Ct.intro Try.func44 rfl Try.ntmps44 rfl rfl fun M w => ?_
  refine G.seq ?_
  refine G.region ?_
  refine G.op2 (op_boxA (k := 1002) (Ev.t 0 (.g (.agg [.v (.string d_0.Key), .v (.int .i64 d_0.Stamp.N), .v (.int .i64 d_0.Stamp.Site)]))) rfl) rfl ⟨rfl, trivial⟩ ⟨rfl, trivial⟩ ?_
  refine G.op1 (op_assign (Ev.c _ rfl) rfl) rfl trivial trivial ?_
  refine G.endOps ?_
  refine G.seq ?_
  refine G.region ?_
  refine G.op1 (op_fieldP (off' := 1) Try.underlying52 rfl ti27 (by decide) rfl (Ev.t 2 (.ptr 1002 0)) rfl) rfl ⟨rfl, trivial⟩ trivial ?_
  refine G.op1 (op_loadAP (ds := [.v (.int .i64 d_0.Stamp.N), .v (.int .i64 d_0.Stamp.Site)]) Try.underlying27 rfl ti27 rfl (Ev.t 4 (.ptr 1002 1)) rfl) rfl ⟨rfl, trivial⟩ ⟨rfl, trivial⟩ ?_
  refine G.op1 (op_fieldE (cs' := [.v (.int .i64 c0.Stamp.N), .v (.int .i64 c0.Stamp.Site), .sl 3 (List.map encApi_Dep c0.Seen)]) Try.underlying30 rfl ti27 (by decide) rfl (Ev.t 1 (.ep [.v (.int .i64 c0.Kind), .v (.int .i64 c0.Client), .v (.string c0.Key), .v (.int .i64 c0.Stamp.N), .v (.int .i64 c0.Stamp.Site), .sl 3 (List.map encApi_Dep c0.Seen)])) rfl) rfl ⟨rfl, trivial⟩ trivial ?_
  refine G.op1 (op_loadAE (ds := [.v (.int .i64 c0.Stamp.N), .v (.int .i64 c0.Stamp.Site)]) Try.underlying27 rfl ti27 rfl (Ev.t 6 (.ep [.v (.int .i64 c0.Stamp.N), .v (.int .i64 c0.Stamp.Site), .sl 3 (List.map encApi_Dep c0.Seen)])) rfl) rfl ⟨rfl, trivial⟩ trivial ?_
  obtain ⟨r1, hr1, hF⟩ := bindS hF
  refine G.op1 (op_callQ (sv := .one (bB r1)) cf45 (ct_stamp_Less d_0.Stamp c0.Stamp r1 hr1) rfl rfl (EvQL.cons (EvQ.g (Ev.t 5 (.g (.agg [.v (.int .i64 d_0.Stamp.N), .v (.int .i64 d_0.Stamp.Site)])))) (EvQL.cons (EvQ.g (Ev.t 7 (.g (.agg [.v (.int .i64 c0.Stamp.N), .v (.int .i64 c0.Stamp.Site)])))) EvQL.nil)) rfl) rfl ⟨rfl, rfl, trivial⟩ trivial ?_
  refine G.op1 (op_not (Ev.t 8 (bB r1)) rfl) rfl ⟨rfl, trivial⟩ trivial ?_
  refine G.op1 (op_assign (Ev.t 9 (bB (!r1))) rfl) rfl ⟨rfl, trivial⟩ trivial ?_
  refine G.endOps ?_
  cases hF
  exact G.ret1 Try.results44 (RVar.tmp 3 _) ⟨rfl, trivial⟩ trivial


set_option maxRecDepth 20000 in
set_option maxHeartbeats 2000000 in
theorem ct_slices_Index_string (s_0 : (List ByteArray)) (v_1 : ByteArray) (r : Int) (hF : slices_Index_string s_0 v_1 = some r) : Ct Try.prog 60 [.g (.d (.sl 1 (List.map encS s_0))), .g (.d (.v (.string v_1)))] (.one (.d (.v (.int .i64 r)))) := by
  unfold slices_Index_string at hF
  refine Ct.intro Try.func60 rfl Try.ntmps60 rfl rfl fun M w => ?_
  refine G.seq ?_
  refine G.region ?_
  refine G.op1 (op_assign (Ev.c _ rfl) rfl) rfl trivial trivial ?_
  refine G.endOps ?_
  refine G.seq ?_
  refine G.seq ?_
  refine G.region ?_
  refine G.op1 (op_move (Ev.t 0 (.g (.d (.sl 1 (List.map encS s_0))))) rfl) rfl ⟨rfl, trivial⟩ trivial ?_
  refine G.op1 (OpL.cast (op_lenD Try.underlying68 (Ev.t 6 (.g (.d (.sl 1 (List.map encS s_0))))) rfl) (by rw [List.length_map])) rfl ⟨rfl, trivial⟩ trivial ?_
  refine G.op1 (op_move (Ev.c _ rfl) rfl) rfl trivial trivial ?_
  refine G.endOps ?_
  refine G.joinC (T := Unit) (fun y1 => ⟨[], []⟩) (fun y1 => slices_Index_string_k1 y1 = some r) (fun y1 hF => ?_) (fun J2 => ?_)
  · unfold slices_Index_string_k1 at hF
    refine G.seq ?_
    refine G.region ?_
    refine G.op1 (op_assign (Ev.c _ rfl) rfl) rfl trivial trivial ?_
    refine G.endOps ?_
    cases hF
    exact G.ret1 Try.results60 (RVar.tmp 4 _) ⟨rfl, trivial⟩ trivial
  refine G.block ?_
  refine G.keep (sl' := [(0, .one (.g (.d (.sl 1 (List.map encS s_0))))), (1, .one (bS v_1)), (7, .one (bI .i64 (s_0.length : Int))), (8, .one (bI .i64 0))]) (hp' := []) ⟨rfl, rfl, rfl, rfl, trivial⟩ trivial rfl ?_
  refine G.loopF (fun (v3 : Int) => ⟨[(0, .one (.g (.d (.sl 1 (List.map encS s_0))))), (1, .one (bS v_1)), (7, .one (bI .i64 (s_0.length : Int))), (8, .one (bI .i64 v3))], []⟩) hF rfl (fun K6 again5 v3 J4 hF => ?_)
  unfold slices_Index_string_l2 at hF
  refine G.seq ?_
  refine G.region ?_
  refine G.op1 (op_lss (Ev.t 8 (bI .i64 v3)) (Ev.t 7 (bI .i64 (s_0.length : Int))) rfl) rfl ⟨rfl, rfl, trivial⟩ trivial ?_
  refine G.endOps ?_
  refine G.seq ?_
  refine ifS hF (fun hc7 hF => ?_) (fun hc7 hF => ?_)
  · refine G.cond rfl (fun _ => ?_) (fun hx => by rw [hc7] at hx; cases hx)
    refine G.skip ?_
    refine G.seq ?_
    refine G.block ?_
    refine G.seq ?_
    refine G.region ?_
    refine G.op1 (op_move (Ev.t 8 (bI .i64 v3)) rfl) rfl ⟨rfl, trivial⟩ trivial ?_
    refine G.op1 (op_assign (Ev.t 10 (bI .i64 v3)) rfl) rfl ⟨rfl, trivial⟩ trivial ?_
    refine G.endOps ?_
    refine G.seq ?_
    refine G.region ?_
    refine G.op1 (op_move (Ev.t 1 (bS v_1)) rfl) rfl ⟨rfl, trivial⟩ trivial ?_
    refine G.op1 (op_move (Ev.t 0 (.g (.d (.sl 1 (List.map encS s_0))))) rfl) rfl ⟨rfl, trivial⟩ trivial ?_
    refine G.op1 (op_move (Ev.t 5 (bI .i64 v3)) rfl) rfl ⟨rfl, trivial⟩ trivial ?_
    obtain ⟨x8, hx8, hF⟩ := bindS hF
    refine G.op1 (op_index (cs := [.v (.string x8)]) Try.underlying68 ti9 (idx_ok hx8).1 (idx_get hx8 encS) (Ev.t 12 (.g (.d (.sl 1 (List.map encS s_0))))) (Ev.t 13 (bI .i64 v3)) rfl) rfl ⟨rfl, rfl, trivial⟩ trivial ?_
    refine G.op1 (op_load1E (c := .v (.string x8)) Try.underlying9 rfl rfl (Ev.t 14 (.ep [.v (.string x8)])) rfl) rfl ⟨rfl, trivial⟩ trivial ?_
    refine G.op1 (op_eqS (Ev.t 11 (bS v_1)) (Ev.t 15 (bS x8)) rfl) rfl ⟨rfl, rfl, trivial⟩ trivial ?_
    refine G.endOps ?_
    refine ifS hF (fun hc9 hF => ?_) (fun hc9 hF => ?_)
    · refine G.cond rfl (fun _ => ?_) (fun hx => by rw [hc9] at hx; cases hx)
      refine G.seq ?_
      refine G.region ?_
      refine G.op1 (op_move (Ev.t 5 (bI .i64 v3)) rfl) rfl ⟨rfl, trivial⟩ trivial ?_
      refine G.op1 (op_assign (Ev.t 17 (bI .i64 v3)) rfl) rfl ⟨rfl, trivial⟩ trivial ?_
      refine G.endOps ?_
      cases hF
      exact G.ret1 Try.results60 (RVar.tmp 4 _) ⟨rfl, trivial⟩ trivial
    · refine G.cond rfl (fun hx => by rw [hc9] at hx; cases hx) (fun _ => ?_)
      refine G.skip ?_
      refine G.endBlock ?_
      refine G.region ?_
      refine G.op1 (op_add (Ev.t 8 (bI .i64 v3)) (Ev.c _ rfl) rfl) rfl ⟨rfl, trivial⟩ trivial ?_
      refine G.op1 (op_move (Ev.t 18 (bI .i64 (IntKind.wrap .i64 (v3 + 1)))) rfl) rfl ⟨rfl, trivial⟩ trivial ?_
      refine G.endOps ?_
      exact G.arr (J4 (IntKind.wrap .i64 (v3 + 1)) hF) ⟨rfl, rfl, rfl, rfl, trivial⟩ trivial rfl
  · refine G.cond rfl (fun hx => by rw [hc7] at hx; cases hx) (fun _ => ?_)
    refine G.exit ?_
    refine GX.c ?_
    refine GX.q ?_
    refine GX.bYes ?_
    exact G.arr (J2 () hF) trivial trivial rfl


set_option maxRecDepth 20000 in
set_option maxHeartbeats 2000000 in
theorem ct_slices_Contains_string (s_0 : (List ByteArray)) (v_1 : ByteArray) (r : Bool) (hF : slices_Contains_string s_0 v_1 = some r) : Ct Try.prog 49 [.g (.d (.sl 1 (List.map encS s_0))), .g (.d (.v (.string v_1)))] (.one (.d (.v (.bool r)))) := by
  unfold slices_Contains_string at hF
  refine Ct.intro Try.func49 rfl Try.ntmps49 rfl rfl fun M w => ?_
  refine G.seq ?_
  refine G.region ?_
  refine G.op1 (op_assign (Ev.c _ rfl) rfl) rfl trivial trivial ?_
  refine G.endOps ?_
  refine G.seq ?_
  refine G.region ?_
  refine G.op1 (op_move (Ev.t 0 (.g (.d (.sl 1 (List.map encS s_0))))) rfl) rfl ⟨rfl, trivial⟩ trivial ?_
  refine G.op1 (op_move (Ev.t 1 (bS v_1)) rfl) rfl ⟨rfl, trivial⟩ trivial ?_
  obtain ⟨r1, hr1, hF⟩ := bindS hF
  refine G.op1 (op_callQ (sv := .one (bI .i64 r1)) cf60 (ct_slices_Index_string s_0 v_1 r1 hr1) rfl rfl (EvQL.cons (EvQ.g (Ev.t 5 (.g (.d (.sl 1 (List.map encS s_0)))))) (EvQL.cons (EvQ.g (Ev.t 6 (bS v_1))) EvQL.nil)) rfl) rfl ⟨rfl, rfl, trivial⟩ trivial ?_
  refine G.op1 (op_geq (Ev.t 7 (bI .i64 r1)) (Ev.c _ rfl) rfl) rfl ⟨rfl, trivial⟩ trivial ?_
  refine G.op1 (op_assign (Ev.t 8 (bB (decide (0 ≤ r1)))) rfl) rfl ⟨rfl, trivial⟩ trivial ?_
  refine G.endOps ?_
  cases hF
  exact G.ret1 Try.results49 (RVar.tmp 4 _) ⟨rfl, trivial⟩ trivial


set_option maxRecDepth 20000 in
set_option maxHeartbeats 2000000 in
theorem ct_history_book_right (m0_0 : (List (Api_Stamp × (List ByteArray)))) (m1_0 : (List (Int × (List Api_Dep)))) (e_1 : Api_Event) (r : Bool) (hF : history_book_right m0_0 m1_0 e_1 = some r) : Ct Try.prog 27 [.ro (bookΦ 66 (ents keyApi_Stamp agL_encS m0_0) (ents keyI64 agL_encApi_Dep m1_0)), .g (.agg (encApi_Event e_1))] (.one (.d (.v (.bool r)))) := by
  unfold history_book_right at hF
  refine Ct.intro Try.func27 rfl Try.ntmps27 rfl rfl fun M w => ?_
  refine G.seq ?_
  refine G.region ?_
  refine G.op2 (op_boxA (k := 1003) (Ev.t 1 (.g (.agg [.v (.int .i64 e_1.Kind), .v (.int .i64 e_1.Client), .v (.string e_1.Key), .v (.int .i64 e_1.Stamp.N), .v (.int .i64 e_1.Stamp.Site), .sl 3 (List.map encApi_Dep e_1.Seen)]))) rfl) rfl ⟨rfl, trivial⟩ ⟨rfl, trivial⟩ ?_
  refine G.op1 (op_assign (Ev.c _ rfl) rfl) rfl trivial trivial ?_
  refine G.endOps ?_
  refine G.seq ?_
  refine G.seq ?_
  refine G.joinC (T := Bool) (fun y1 => ⟨[(0, .one (.ro (bookΦ 66 (ents keyApi_Stamp agL_encS m0_0) (ents keyI64 agL_encApi_Dep m1_0)))), (3, .one (.ptr 1003 0)), (30, .one (bB y1))], [(1003, some (.blk 30 [bI .i64 e_1.Kind, bI .i64 e_1.Client, bS e_1.Key, bI .i64 e_1.Stamp.N, bI .i64 e_1.Stamp.Site, .g (.d (.sl 3 (List.map encApi_Dep e_1.Seen)))]))]⟩) (fun y1 => history_book_right_k1 m0_0 e_1 y1 = some r) (fun y1 hF => ?_) (fun J16 => ?_)
  · unfold history_book_right_k1 at hF
    refine ifS hF (fun hc2 hF => ?_) (fun hc2 hF => ?_)
    · refine G.cond rfl (fun _ => ?_) (fun hx => by rw [hc2] at hx; cases hx)
      refine G.seq ?_
      refine G.region ?_
      refine G.op1 (op_assign (Ev.c _ rfl) rfl) rfl trivial trivial ?_
      refine G.endOps ?_
      cases hF
      exact G.ret1 Try.results27 (RVar.tmp 4 _) ⟨rfl, trivial⟩ trivial
    · refine G.cond rfl (fun hx => by rw [hc2] at hx; cases hx) (fun _ => ?_)
      refine G.skip ?_
      refine G.seq ?_
      refine G.drawn (effs := [⟨[(0, .one (.ro (bookΦ 66 (ents keyApi_Stamp agL_encS m0_0) (ents keyI64 agL_encApi_Dep m1_0))))], [], [(31, .one (.ro (bookΦ 66 (ents keyApi_Stamp agL_encS m0_0) (ents keyI64 agL_encApi_Dep m1_0))))], []⟩, ⟨[(31, .one (.ro (bookΦ 66 (ents keyApi_Stamp agL_encS m0_0) (ents keyI64 agL_encApi_Dep m1_0))))], [], [(32, .one (.ro (bookΦ 66 (ents keyApi_Stamp agL_encS m0_0) (ents keyI64 agL_encApi_Dep m1_0))))], []⟩, ⟨[(32, .one (.ro (bookΦ 66 (ents keyApi_Stamp agL_encS m0_0) (ents keyI64 agL_encApi_Dep m1_0))))], [], [(33, .one (.ro (partΦ 0 (ents keyApi_Stamp agL_encS m0_0))))], []⟩, ⟨[(33, .one (.ro (partΦ 0 (ents keyApi_Stamp agL_encS m0_0))))], [], [(34, .one (.ro (mapΦ (ents keyApi_Stamp agL_encS m0_0))))], []⟩, ⟨[(3, .one (.ptr 1003 0))], [], [(35, .one (.ptr 1003 3))], []⟩, ⟨[(35, .one (.ptr 1003 3))], [(1003, some (.blk 30 [bI .i64 e_1.Kind, bI .i64 e_1.Client, bS e_1.Key, bI .i64 e_1.Stamp.N, bI .i64 e_1.Stamp.Site, .g (.d (.sl 3 (List.map encApi_Dep e_1.Seen)))]))], [(36, .one (.g (.agg [.v (.int .i64 e_1.Stamp.N), .v (.int .i64 e_1.Stamp.Site)])))], []⟩, ⟨[(34, .one (.ro (mapΦ (ents keyApi_Stamp agL_encS m0_0)))), (36, .one (.g (.agg [.v (.int .i64 e_1.Stamp.N), .v (.int .i64 e_1.Stamp.Site)])))], [], [(37, .one (.g (.d (.sl 1 (List.map encS ((mget m0_0 e_1.Stamp).getD []))))))], []⟩, ⟨[(37, .one (.g (.d (.sl 1 (List.map encS ((mget m0_0 e_1.Stamp).getD []))))))], [], [(5, .one (.g (.d (.sl 1 (List.map encS ((mget m0_0 e_1.Stamp).getD []))))))], []⟩]) (deps := [[], [0], [0, 1], [0, 1, 2], [], [4], [0, 1, 2, 3, 4, 5], [0, 1, 2, 3, 4, 5, 6]]) (sl' := [(3, .one (.ptr 1003 0)), (5, .one (.g (.d (.sl 1 (List.map encS ((mget m0_0 e_1.Stamp).getD []))))))]) (hp' := [(1003, some (.blk 30 [bI .i64 e_1.Kind, bI .i64 e_1.Client, bS e_1.Key, bI .i64 e_1.Stamp.N, bI .i64 e_1.Stamp.Site, .g (.d (.sl 3 (List.map encApi_Dep e_1.Seen)))]))]) follows rfl rfl rfl ⟨⟨rfl, trivial⟩, trivial, ⟨rfl, trivial⟩, trivial, ⟨rfl, trivial⟩, trivial, ⟨rfl, trivial⟩, trivial, ⟨rfl, trivial⟩, trivial, ⟨rfl, trivial⟩, ⟨⟨rfl, rfl⟩, trivial⟩, ⟨rfl, rfl, trivial⟩, trivial, ⟨rfl, trivial⟩, trivial, trivial⟩ ⟨OpW.plain (op_move (Ev.t 0 (.ro (bookΦ 66 (ents keyApi_Stamp agL_encS m0_0) (ents keyI64 agL_encApi_Dep m1_0)))) rfl) rfl rfl, OpW.plain (op_nilCheckRO (Ev.t 31 (.ro (bookΦ 66 (ents keyApi_Stamp agL_encS m0_0) (ents keyI64 agL_encApi_Dep m1_0)))) rfl) rfl rfl, OpW.plain (op_fieldRO1 Try.underlying66 rfl ti63 (by decide) rfl (Ev.t 32 (.ro (bookΦ 66 (ents keyApi_Stamp agL_encS m0_0) (ents keyI64 agL_encApi_Dep m1_0)))) rfl) rfl rfl, OpW.plain (op_loadRO Try.underlying63 rfl rfl (Ev.t 33 (.ro (partΦ 0 (ents keyApi_Stamp agL_encS m0_0)))) rfl) rfl rfl, OpW.plain (op_fieldP (off' := 3) Try.underlying30 rfl ti27 (by decide) rfl (Ev.t 3 (.ptr 1003 0)) rfl) rfl rfl, OpW.plain (op_loadAP (ds := [.v (.int .i64 e_1.Stamp.N), .v (.int .i64 e_1.Stamp.Site)]) Try.underlying27 rfl ti27 rfl (Ev.t 35 (.ptr 1003 3)) rfl) rfl rfl, OpW.plain (op_lookupRO (ag := agL_encS) (k := e_1.Stamp) (d0 := ([] : (List ByteArray))) Try.underlying63 keyOK27 ti68 (fun _ _ => RD.nil none 0 _ (Nat.zero_le _)) rfl (fun _ _ _ _ h => agg_vals (vs := [.int .i64 e_1.Stamp.N, .int .i64 e_1.Stamp.Site]) h) (Ev.t 34 (.ro (mapΦ (ents keyApi_Stamp agL_encS m0_0)))) (Ev.t 36 (.g (.agg [.v (.int .i64 e_1.Stamp.N), .v (.int .i64 e_1.Stamp.Site)]))) rfl) rfl rfl, OpW.plain (op_assign (Ev.t 37 (.g (.d (.sl 1 (List.map encS ((mget m0_0 e_1.Stamp).getD [])))))) rfl) rfl rfl, trivial⟩ ⟨rfl, rfl, trivial⟩ ⟨rfl, trivial⟩ rfl ?_
      refine G.seq ?_
      refine G.seq ?_
      refine G.region ?_
      refine G.op1 (op_loadAP (ds := [.v (.int .i64 e_1.Kind), .v (.int .i64 e_1.Client), .v (.string e_1.Key), .v (.int .i64 e_1.Stamp.N), .v (.int .i64 e_1.Stamp.Site), .sl 3 (List.map encApi_Dep e_1.Seen)]) Try.underlying30 rfl ti30 rfl (Ev.t 3 (.ptr 1003 0)) rfl) rfl ⟨rfl, trivial⟩ ⟨rfl, trivial⟩ ?_
      refine G.op1 (op_callTag (n := kindN e_1.Kind) (cs := [.v (.int .i64 e_1.Kind), .v (.int .i64 e_1.Client), .v (.string e_1.Key), .v (.int .i64 e_1.Stamp.N), .v (.int .i64 e_1.Stamp.Site), .sl 3 (List.map encApi_Dep e_1.Seen)]) cf43 (hk43 _ _ _ _ _ _) (Ev.t 38 (.g (.agg [.v (.int .i64 e_1.Kind), .v (.int .i64 e_1.Client), .v (.string e_1.Key), .v (.int .i64 e_1.Stamp.N), .v (.int .i64 e_1.Stamp.Site), .sl 3 (List.map encApi_Dep e_1.Seen)]))) rfl) rfl ⟨rfl, trivial⟩ trivial ?_
      refine G.endOps ?_
      refine G.block ?_
      refine G.seq ?_
      refine G.region ?_
      refine G.op1 (op_assertRO Try.underlying77 ti77 rfl (Ev.t 39 (.ro (tagΦ (kindN e_1.Kind)))) rfl) rfl ⟨rfl, trivial⟩ trivial ?_
      refine G.op1 (op_extract (l := [.any 0, bB (decide (kindN e_1.Kind = 77))]) (c := bB (decide (kindN e_1.Kind = 77))) rfl rfl) rfl ⟨rfl, trivial⟩ trivial ?_
      refine G.op1 (op_extract (l := [.any 0, bB (decide (kindN e_1.Kind = 77))]) (c := .any 0) rfl rfl) rfl ⟨rfl, trivial⟩ trivial ?_
      refine G.endOps ?_
      refine ifS hF (fun hc3 hF => ?_) (fun hc3 hF => ?_)
      · refine G.cond rfl (fun _ => ?_) (fun hx => by rw [hc3] at hx; cases hx)
        refine G.seq ?_
        refine G.region ?_
        refine G.op1 (op_makeFunc1 (Ev.t 3 (.ptr 1003 0)) rfl) rfl ⟨rfl, trivial⟩ trivial ?_
        refine G.op1 (op_assign (Ev.t 43 (.clo 44 [1003])) rfl) rfl ⟨rfl, trivial⟩ trivial ?_
        refine G.endOps ?_
        refine G.seq ?_
        refine G.region ?_
        refine G.op1 (op_fieldP (off' := 3) Try.underlying30 rfl ti27 (by decide) rfl (Ev.t 3 (.ptr 1003 0)) rfl) rfl ⟨rfl, trivial⟩ trivial ?_
        refine G.op1 (op_loadAP (ds := [.v (.int .i64 e_1.Stamp.N), .v (.int .i64 e_1.Stamp.Site)]) Try.underlying27 rfl ti27 rfl (Ev.t 44 (.ptr 1003 3)) rfl) rfl ⟨rfl, trivial⟩ ⟨rfl, trivial⟩ ?_
        obtain ⟨r4, hr4, hF⟩ := bindS hF
        refine G.op1 (op_callQ (sv := .one (bB r4)) cf46 (ct_stamp_Check e_1.Stamp r4 hr4) rfl rfl (EvQL.cons (EvQ.g (Ev.t 45 (.g (.agg [.v (.int .i64 e_1.Stamp.N), .v (.int .i64 e_1.Stamp.Site)])))) EvQL.nil) rfl) rfl ⟨rfl, trivial⟩ trivial ?_
        refine G.op1 (op_move (Ev.t 46 (bB r4)) rfl) rfl ⟨rfl, trivial⟩ trivial ?_
        refine G.joinL (T := Bool) 4 (fun y5 => ⟨[(3, .one (.ptr 1003 0)), (6, .one (.clo 44 [1003])), (51, .one (bB y5))], [(1003, some (.blk 30 [bI .i64 e_1.Kind, bI .i64 e_1.Client, bS e_1.Key, bI .i64 e_1.Stamp.N, bI .i64 e_1.Stamp.Site, .g (.d (.sl 3 (List.map encApi_Dep e_1.Seen)))]))]⟩) (fun y5 => history_book_right_k2 e_1 y5 = some r) (fun y5 hF => ?_) (fun J8 => ?_)
        · unfold history_book_right_k2 at hF
          refine G.op1 (op_move (Ev.t 51 (bB y5)) rfl) rfl ⟨rfl, trivial⟩ trivial ?_
          refine ifS hF (fun hc6 hF => ?_) (fun hc6 hF => ?_)
          · refine G.known (t := 52) hc6 rfl ?_
            refine G.opG1 (op_fieldP (off' := 5) Try.underlying30 rfl ti28 (by decide) rfl (Ev.t 3 (.ptr 1003 0)) rfl) rfl rfl rfl ⟨rfl, trivial⟩ trivial ?_
            refine G.opG1 (op_load1P (c := .g (.d (.sl 3 (List.map encApi_Dep e_1.Seen)))) Try.underlying28 rfl rfl (Ev.t 53 (.ptr 1003 5)) rfl) rfl rfl rfl ⟨rfl, trivial⟩ ⟨rfl, trivial⟩ ?_
            refine G.opG1 (op_move (Ev.t 6 (.clo 44 [1003])) rfl) rfl rfl rfl ⟨rfl, trivial⟩ trivial ?_
            obtain ⟨r7, hr7, hF⟩ := bindS hF
            refine G.opG1 (op_callQ (sv := .one (bB r7)) cf47 (ct_slices_ContainsFunc_Dep e_1.Seen (fun x0 => history_book_right_1 x0 e_1) r7 hr7) rfl rfl (EvQL.cons (EvQ.g (Ev.t 54 (.g (.d (.sl 3 (List.map encApi_Dep e_1.Seen)))))) (EvQL.cons (EvQ.clo (Φ := sem1 (fun x => .agg (encApi_Dep x)) (fun y => .bool y) (fun x0 => history_book_right_1 x0 e_1)) (Ev.t 55 (.clo 44 [1003])) (EvC.cons rfl EvC.nil) cf44 (fun args v ⟨x0, b, h1, h2, h3⟩ => by subst h1 h3; exact ct_history_book_right_1 x0 e_1 b h2)) EvQL.nil)) rfl) rfl rfl rfl ⟨rfl, rfl, trivial⟩ ⟨rfl, trivial⟩ ?_
            refine G.opG1 (op_not (Ev.t 56 (bB r7)) rfl) rfl rfl rfl ⟨rfl, trivial⟩ trivial ?_
            refine G.op1 (op_pickT (Ev.t 52 (bB true)) (Ev.t 57 (bB (!r7))) rfl) rfl ⟨rfl, rfl, trivial⟩ trivial ?_
            refine G.op1 (op_assign (Ev.t 58 (bB (!r7))) rfl) rfl ⟨rfl, trivial⟩ trivial ?_
            refine G.endOps ?_
            cases hF
            exact G.ret1 Try.results27 (RVar.tmp 4 _) ⟨rfl, trivial⟩ trivial
          · refine G.known (t := 52) hc6 rfl ?_
            refine G.opN1 rfl rfl rfl rfl rfl ?_
            refine G.opN1 rfl rfl rfl rfl rfl ?_
            refine G.opN1 rfl rfl rfl rfl rfl ?_
            refine G.opN1 rfl rfl rfl rfl rfl ?_
            refine G.opN1 rfl rfl rfl rfl rfl ?_
            refine G.op1 (op_pickF (Ev.t 52 (bB false)) (Ev.c _ rfl) rfl) rfl ⟨rfl, trivial⟩ trivial ?_
            refine G.op1 (op_assign (Ev.t 58 (bB false)) rfl) rfl ⟨rfl, trivial⟩ trivial ?_
            refine G.endOps ?_
            cases hF
            exact G.ret1 Try.results27 (RVar.tmp 4 _) ⟨rfl, trivial⟩ trivial
        refine ifS hF (fun hc9 hF => ?_) (fun hc9 hF => ?_)
        · refine G.known (t := 47) hc9 rfl ?_
          refine G.opG1 (op_move (Ev.t 5 (.g (.d (.sl 1 (List.map encS ((mget m0_0 e_1.Stamp).getD [])))))) rfl) rfl rfl rfl ⟨rfl, trivial⟩ trivial ?_
          refine G.opG1 (OpL.cast (op_lenD Try.underlying68 (Ev.t 48 (.g (.d (.sl 1 (List.map encS ((mget m0_0 e_1.Stamp).getD [])))))) rfl) (by rw [List.length_map])) rfl rfl rfl ⟨rfl, trivial⟩ trivial ?_
          refine G.opG1 (op_eqI (Ev.t 49 (bI .i64 (((mget m0_0 e_1.Stamp).getD []).length : Int))) (Ev.c _ rfl) rfl) rfl rfl rfl ⟨rfl, trivial⟩ trivial ?_
          refine G.op1 (op_pickT (Ev.t 47 (bB true)) (Ev.t 50 (bB (decide ((((mget m0_0 e_1.Stamp).getD []).length : Int) = 0)))) rfl) rfl ⟨rfl, rfl, trivial⟩ trivial ?_
          exact G.arr (J8 (decide ((((mget m0_0 e_1.Stamp).getD []).length : Int) = 0)) hF) ⟨rfl, rfl, rfl, trivial⟩ ⟨rfl, trivial⟩ rfl
        · refine G.known (t := 47) hc9 rfl ?_
          refine G.opN1 rfl rfl rfl rfl rfl ?_
          refine G.opN1 rfl rfl rfl rfl rfl ?_
          refine G.opN1 rfl rfl rfl rfl rfl ?_
          refine G.op1 (op_pickF (Ev.t 47 (bB false)) (Ev.c _ rfl) rfl) rfl ⟨rfl, trivial⟩ trivial ?_
          exact G.arr (J8 false hF) ⟨rfl, rfl, rfl, trivial⟩ ⟨rfl, trivial⟩ rfl
      · refine G.cond rfl (fun hx => by rw [hc3] at hx; cases hx) (fun _ => ?_)
        refine G.seq ?_
        refine G.region ?_
        refine G.op1 (op_assertRO Try.underlying80 ti80 rfl (Ev.t 39 (.ro (tagΦ (kindN e_1.Kind)))) rfl) rfl ⟨rfl, trivial⟩ trivial ?_
        refine G.op1 (op_extract (l := [.any 0, bB (decide (kindN e_1.Kind = 80))]) (c := bB (decide (kindN e_1.Kind = 80))) rfl rfl) rfl ⟨rfl, trivial⟩ trivial ?_
        refine G.op1 (op_extract (l := [.any 0, bB (decide (kindN e_1.Kind = 80))]) (c := .any 0) rfl rfl) rfl ⟨rfl, trivial⟩ trivial ?_
        refine G.endOps ?_
        refine ifS hF (fun hc10 hF => ?_) (fun hc10 hF => ?_)
        · refine G.cond rfl (fun _ => ?_) (fun hx => by rw [hc10] at hx; cases hx)
          refine G.seq ?_
          refine G.region ?_
          refine G.op1 (op_build (zs := [.v (.int .i64 0), .v (.int .i64 0)]) (ds := [.v (.int .i64 0), .v (.int .i64 0)]) Try.underlying27 ti27 (pl27 _ Try.underlying27) ⟨.v _ rfl, .v _ rfl, trivial⟩ EvP.nil rfl rfl) rfl trivial trivial ?_
          refine G.op2 (op_alloc (k := 1007) (cs := [bI .i64 0, bI .i64 0]) ti27 ⟨.v _ rfl, .v _ rfl, trivial⟩ rfl) rfl trivial ⟨rfl, trivial⟩ ?_
          refine G.op3 (op_storeA (cs' := [bI .i64 0, bI .i64 0]) ti27 rfl rfl (Ev.t 7 (.ptr 1007 0)) (Ev.t 62 (.g (.agg [.v (.int .i64 0), .v (.int .i64 0)])))) rfl ⟨rfl, rfl, trivial⟩ ⟨rfl, trivial⟩ ?_
          refine G.endOps ?_
          refine G.seq ?_
          obtain ⟨r11, hr11, hF⟩ := bindS hF
          obtain ⟨r12, hr12, hF⟩ := bindS hF
          refine ifS hF (fun hc13 hF => ?_) (fun hc13 hF => ?_)
          · refine ifS hF (fun hc14 hF => ?_) (fun hc14 hF => ?_)
            · refine G.drawn (effs := (⟨[(3, .one (.ptr 1003 0))], [], [(63, .one (.ptr 1003 3))], []⟩ :: ⟨[(63, .one (.ptr 1003 3))], [(1003, some (.blk 30 [bI .i64 e_1.Kind, bI .i64 e_1.Client, bS e_1.Key, bI .i64 e_1.Stamp.N, bI .i64 e_1.Stamp.Site, .g (.d (.sl 3 (List.map encApi_Dep e_1.Seen)))]))], [(64, .one (.g (.agg [.v (.int .i64 e_1.Stamp.N), .v (.int .i64 e_1.Stamp.Site)])))], []⟩ :: ⟨[(3, .one (.ptr 1003 0))], [], [(65, .one (.ptr 1003 5))], []⟩ :: ⟨[(65, .one (.ptr 1003 5))], [(1003, some (.blk 30 [bI .i64 e_1.Kind, bI .i64 e_1.Client, bS e_1.Key, bI .i64 e_1.Stamp.N, bI .i64 e_1.Stamp.Site, .g (.d (.sl 3 (List.map encApi_Dep e_1.Seen)))]))], [(66, .one (.g (.d (.sl 3 (List.map encApi_Dep e_1.Seen)))))], []⟩ :: ⟨[(3, .one (.ptr 1003 0))], [], [(67, .one (.ptr 1003 2))], []⟩ :: ⟨[(67, .one (.ptr 1003 2))], [(1003, some (.blk 30 [bI .i64 e_1.Kind, bI .i64 e_1.Client, bS e_1.Key, bI .i64 e_1.Stamp.N, bI .i64 e_1.Stamp.Site, .g (.d (.sl 3 (List.map encApi_Dep e_1.Seen)))]))], [(68, .one (bS e_1.Key))], []⟩ :: ⟨[(66, .one (.g (.d (.sl 3 (List.map encApi_Dep e_1.Seen))))), (68, .one (bS e_1.Key))], [], [(69, .one (.g (.agg [.v (.int .i64 r11.N), .v (.int .i64 r11.Site)])))], []⟩ :: ⟨[(64, .one (.g (.agg [.v (.int .i64 e_1.Stamp.N), .v (.int .i64 e_1.Stamp.Site)]))), (69, .one (.g (.agg [.v (.int .i64 r11.N), .v (.int .i64 r11.Site)])))], [], [(70, .one (bB r12))], []⟩ :: ⟨[(70, .one (bB r12))], [], [(71, .one (bB true))], []⟩ :: ⟨[(71, .one (bB true))], [], [(72, .one (bB true))], []⟩ :: ⟨[(72, .one (bB true)), (3, .one (.ptr 1003 0))], [], [(73, .one (.ptr 1003 3))], []⟩ :: ⟨[(72, .one (bB true)), (73, .one (.ptr 1003 3))], [(1003, some (.blk 30 [bI .i64 e_1.Kind, bI .i64 e_1.Client, bS e_1.Key, bI .i64 e_1.Stamp.N, bI .i64 e_1.Stamp.Site, .g (.d (.sl 3 (List.map encApi_Dep e_1.Seen)))]))], [(74, .one (.g (.agg [.v (.int .i64 e_1.Stamp.N), .v (.int .i64 e_1.Stamp.Site)])))], []⟩ :: ⟨[(72, .one (bB true)), (7, .one (.ptr 1007 0))], [(1007, some (.blk 27 [bI .i64 0, bI .i64 0]))], [(75, .one (.g (.agg [.v (.int .i64 0), .v (.int .i64 0)])))], []⟩ :: ⟨[(72, .one (bB true)), (74, .one (.g (.agg [.v (.int .i64 e_1.Stamp.N), .v (.int .i64 e_1.Stamp.Site)]))), (75, .one (.g (.agg [.v (.int .i64 0), .v (.int .i64 0)])))], [], [(76, .one (bB true))], []⟩ :: ⟨[(72, .one (bB true)), (76, .one (bB true))], [], [(77, .one (bB true))], []⟩ :: ⟨[(77, .one (bB true))], [], [(78, .one (.x Go.undef))], []⟩ :: ⟨[(77, .one (bB true))], [], [(79, .one (.x Go.undef))], []⟩ :: ⟨[(77, .one (bB true))], [], [(80, .one (.x Go.undef))], []⟩ :: ⟨[(77, .one (bB true))], [], [(81, .one (.x Go.undef))], []⟩ :: ⟨[(72, .one (bB true)), (77, .one (bB true))], [], [(82, .one (bB true))], []⟩ :: ⟨[(72, .one (bB true)), (82, .one (bB true))], [], [(83, .one (bB true))], []⟩ :: ⟨[(83, .one (bB true))], [], [(4, .one (bB true))], []⟩ :: [])) (deps := ([] :: [0] :: [] :: [2] :: [] :: [4] :: [2, 3, 4, 5] :: [0, 1, 2, 3, 4, 5, 6] :: [0, 1, 2, 3, 4, 5, 6, 7] :: [0, 1, 2, 3, 4, 5, 6, 7, 8] :: [0, 1, 2, 3, 4, 5, 6, 7, 8, 9] :: [0, 1, 2, 3, 4, 5, 6, 7, 8, 9, 10] :: [0, 1, 2, 3, 4, 5, 6, 7, 8, 9] :: [0, 1, 2, 3, 4, 5, 6, 7, 8, 9, 10, 11, 12] :: [0, 1, 2, 3, 4, 5, 6, 7, 8, 9, 10, 11, 12, 13] :: [0, 1, 2, 3, 4, 5, 6, 7, 8, 9, 10, 11, 12, 13, 14] :: [0, 1, 2, 3, 4, 5, 6, 7, 8, 9, 10, 11, 12, 13, 14] :: [0, 1, 2, 3, 4, 5, 6, 7, 8, 9, 10, 11, 12, 13, 14, 16] :: [0, 1, 2, 3, 4, 5, 6, 7, 8, 9, 10, 11, 12, 13, 14, 15, 16, 17] :: [0, 1, 2, 3, 4, 5, 6, 7, 8, 9, 10, 11, 12, 13, 14, 15, 16, 17, 18] :: [0, 1, 2, 3, 4, 5, 6, 7, 8, 9, 10, 11, 12, 13, 14, 15, 16, 17, 18, 19] :: (0 :: 1 :: 2 :: 3 :: 4 :: 5 :: 6 :: 7 :: 8 :: 9 :: 10 :: 11 :: 12 :: 13 :: 14 :: 15 :: 16 :: 17 :: 18 :: 19 :: 20 :: []) :: [])) (sl' := [(4, .one (bB true))]) (hp' := []) follows rfl rfl rfl ⟨⟨rfl, trivial⟩, trivial, ⟨rfl, trivial⟩, ⟨⟨rfl, rfl⟩, trivial⟩, ⟨rfl, trivial⟩, trivial, ⟨rfl, trivial⟩, ⟨⟨rfl, rfl⟩, trivial⟩, ⟨rfl, trivial⟩, trivial, ⟨rfl, trivial⟩, ⟨⟨rfl, rfl⟩, trivial⟩, ⟨rfl, rfl, trivial⟩, trivial, ⟨rfl, rfl, trivial⟩, trivial, ⟨rfl, trivial⟩, trivial, ⟨rfl, trivial⟩, trivial, ⟨rfl, rfl, trivial⟩, trivial, ⟨rfl, rfl, trivial⟩, ⟨⟨rfl, rfl⟩, trivial⟩, ⟨rfl, rfl, trivial⟩, ⟨⟨rfl, rfl⟩, trivial⟩, ⟨rfl, rfl, rfl, trivial⟩, trivial, ⟨rfl, rfl, trivial⟩, trivial, ⟨rfl, trivial⟩, trivial, ⟨rfl, trivial⟩, trivial, ⟨rfl, trivial⟩, trivial, ⟨rfl, trivial⟩, trivial, ⟨rfl, rfl, trivial⟩, trivial, ⟨rfl, rfl, trivial⟩, trivial, ⟨rfl, trivial⟩, trivial, trivial⟩ ⟨OpW.plain (op_fieldP (off' := 3) Try.underlying30 rfl ti27 (by decide) rfl (Ev.t 3 (.ptr 1003 0)) rfl) rfl rfl, OpW.plain (op_loadAP (ds := [.v (.int .i64 e_1.Stamp.N), .v (.int .i64 e_1.Stamp.Site)]) Try.underlying27 rfl ti27 rfl (Ev.t 63 (.ptr 1003 3)) rfl) rfl rfl, OpW.plain (op_fieldP (off' := 5) Try.underlying30 rfl ti28 (by decide) rfl (Ev.t 3 (.ptr 1003 0)) rfl) rfl rfl, OpW.plain (op_load1P (c := .g (.d (.sl 3 (List.map encApi_Dep e_1.Seen)))) Try.underlying28 rfl rfl (Ev.t 65 (.ptr 1003 5)) rfl) rfl rfl, OpW.plain (op_fieldP (off' := 2) Try.underlying30 rfl ti9 (by decide) rfl (Ev.t 3 (.ptr 1003 0)) rfl) rfl rfl, OpW.plain (op_load1P (c := bS e_1.Key) Try.underlying9 rfl rfl (Ev.t 67 (.ptr 1003 2)) rfl) rfl rfl, OpW.plain (op_callQ (sv := .one (.g (.agg [.v (.int .i64 r11.N), .v (.int .i64 r11.Site)]))) cf48 (ct_past_Get e_1.Seen e_1.Key r11 hr11) rfl rfl (EvQL.cons (EvQ.g (Ev.t 66 (.g (.d (.sl 3 (List.map encApi_Dep e_1.Seen)))))) (EvQL.cons (EvQ.g (Ev.t 68 (bS e_1.Key))) EvQL.nil)) rfl) rfl rfl, OpW.plain (op_callQ (sv := .one (bB r12)) cf45 (ct_stamp_Less e_1.Stamp r11 r12 hr12) rfl rfl (EvQL.cons (EvQ.g (Ev.t 64 (.g (.agg [.v (.int .i64 e_1.Stamp.N), .v (.int .i64 e_1.Stamp.Site)])))) (EvQL.cons (EvQ.g (Ev.t 69 (.g (.agg [.v (.int .i64 r11.N), .v (.int .i64 r11.Site)])))) EvQL.nil)) rfl) rfl rfl, OpW.plain (OpL.cast (op_not (Ev.t 70 (bB r12)) rfl) (congrArg (fun b => bB b) hc13)) rfl rfl, OpW.plain (op_move (Ev.t 71 (bB true)) rfl) rfl rfl, OpW.yes (op_fieldP (off' := 3) Try.underlying30 rfl ti27 (by decide) rfl (Ev.t 3 (.ptr 1003 0)) rfl) rfl rfl rfl, OpW.yes (op_loadAP (ds := [.v (.int .i64 e_1.Stamp.N), .v (.int .i64 e_1.Stamp.Site)]) Try.underlying27 rfl ti27 rfl (Ev.t 73 (.ptr 1003 3)) rfl) rfl rfl rfl, OpW.yes (op_loadAP (ds := [.v (.int .i64 0), .v (.int .i64 0)]) Try.underlying27 rfl ti27 rfl (Ev.t 7 (.ptr 1007 0)) rfl) rfl rfl rfl, OpW.yes (OpL.cast (op_eqA (us := [.int .i64 e_1.Stamp.N, .int .i64 e_1.Stamp.Site]) (vs := [.int .i64 0, .int .i64 0]) rfl rfl Try.eqGuardType27 (fun w => eq27 e_1.Stamp.N e_1.Stamp.Site 0 0 w) (Ev.t 74 (.g (.agg [.v (.int .i64 e_1.Stamp.N), .v (.int .i64 e_1.Stamp.Site)]))) (Ev.t 75 (.g (.agg [.v (.int .i64 0), .v (.int .i64 0)]))) rfl) (congrArg (fun b => bB b) hc14)) rfl rfl rfl, OpW.yes (op_move (Ev.t 76 (bB true)) rfl) rfl rfl rfl, OpW.no rfl rfl rfl rfl rfl, OpW.no rfl rfl rfl rfl rfl, OpW.no rfl rfl rfl rfl rfl, OpW.no rfl rfl rfl rfl rfl, OpW.yes (op_pickT (Ev.t 77 (bB true)) (Ev.c _ rfl) rfl) rfl rfl rfl, OpW.plain (op_pickT (Ev.t 72 (bB true)) (Ev.t 82 (bB true)) rfl) rfl rfl, OpW.plain (op_assign (Ev.t 83 (bB true)) rfl) rfl rfl, trivial⟩ ⟨rfl, trivial⟩ trivial rfl ?_
              cases hF
              exact G.ret1 Try.results27 (RVar.tmp 4 _) ⟨rfl, trivial⟩ trivial
            · obtain ⟨r15, hr15, hF⟩ := bindS hF
              refine G.drawn (effs := (⟨[(3, .one (.ptr 1003 0))], [], [(63, .one (.ptr 1003 3))], []⟩ :: ⟨[(63, .one (.ptr 1003 3))], [(1003, some (.blk 30 [bI .i64 e_1.Kind, bI .i64 e_1.Client, bS e_1.Key, bI .i64 e_1.Stamp.N, bI .i64 e_1.Stamp.Site, .g (.d (.sl 3 (List.map encApi_Dep e_1.Seen)))]))], [(64, .one (.g (.agg [.v (.int .i64 e_1.Stamp.N), .v (.int .i64 e_1.Stamp.Site)])))], []⟩ :: ⟨[(3, .one (.ptr 1003 0))], [], [(65, .one (.ptr 1003 5))], []⟩ :: ⟨[(65, .one (.ptr 1003 5))], [(1003, some (.blk 30 [bI .i64 e_1.Kind, bI .i64 e_1.Client, bS e_1.Key, bI .i64 e_1.Stamp.N, bI .i64 e_1.Stamp.Site, .g (.d (.sl 3 (List.map encApi_Dep e_1.Seen)))]))], [(66, .one (.g (.d (.sl 3 (List.map encApi_Dep e_1.Seen)))))], []⟩ :: ⟨[(3, .one (.ptr 1003 0))], [], [(67, .one (.ptr 1003 2))], []⟩ :: ⟨[(67, .one (.ptr 1003 2))], [(1003, some (.blk 30 [bI .i64 e_1.Kind, bI .i64 e_1.Client, bS e_1.Key, bI .i64 e_1.Stamp.N, bI .i64 e_1.Stamp.Site, .g (.d (.sl 3 (List.map encApi_Dep e_1.Seen)))]))], [(68, .one (bS e_1.Key))], []⟩ :: ⟨[(66, .one (.g (.d (.sl 3 (List.map encApi_Dep e_1.Seen))))), (68, .one (bS e_1.Key))], [], [(69, .one (.g (.agg [.v (.int .i64 r11.N), .v (.int .i64 r11.Site)])))], []⟩ :: ⟨[(64, .one (.g (.agg [.v (.int .i64 e_1.Stamp.N), .v (.int .i64 e_1.Stamp.Site)]))), (69, .one (.g (.agg [.v (.int .i64 r11.N), .v (.int .i64 r11.Site)])))], [], [(70, .one (bB r12))], []⟩ :: ⟨[(70, .one (bB r12))], [], [(71, .one (bB true))], []⟩ :: ⟨[(71, .one (bB true))], [], [(72, .one (bB true))], []⟩ :: ⟨[(72, .one (bB true)), (3, .one (.ptr 1003 0))], [], [(73, .one (.ptr 1003 3))], []⟩ :: ⟨[(72, .one (bB true)), (73, .one (.ptr 1003 3))], [(1003, some (.blk 30 [bI .i64 e_1.Kind, bI .i64 e_1.Client, bS e_1.Key, bI .i64 e_1.Stamp.N, bI .i64 e_1.Stamp.Site, .g (.d (.sl 3 (List.map encApi_Dep e_1.Seen)))]))], [(74, .one (.g (.agg [.v (.int .i64 e_1.Stamp.N), .v (.int .i64 e_1.Stamp.Site)])))], []⟩ :: ⟨[(72, .one (bB true)), (7, .one (.ptr 1007 0))], [(1007, some (.blk 27 [bI .i64 0, bI .i64 0]))], [(75, .one (.g (.agg [.v (.int .i64 0), .v (.int .i64 0)])))], []⟩ :: ⟨[(72, .one (bB true)), (74, .one (.g (.agg [.v (.int .i64 e_1.Stamp.N), .v (.int .i64 e_1.Stamp.Site)]))), (75, .one (.g (.agg [.v (.int .i64 0), .v (.int .i64 0)])))], [], [(76, .one (bB false))], []⟩ :: ⟨[(72, .one (bB true)), (76, .one (bB false))], [], [(77, .one (bB false))], []⟩ :: ⟨[(77, .one (bB false)), (5, .one (.g (.d (.sl 1 (List.map encS ((mget m0_0 e_1.Stamp).getD []))))))], [], [(78, .one (.g (.d (.sl 1 (List.map encS ((mget m0_0 e_1.Stamp).getD []))))))], []⟩ :: ⟨[(77, .one (bB false)), (3, .one (.ptr 1003 0))], [], [(79, .one (.ptr 1003 2))], []⟩ :: ⟨[(77, .one (bB false)), (79, .one (.ptr 1003 2))], [(1003, some (.blk 30 [bI .i64 e_1.Kind, bI .i64 e_1.Client, bS e_1.Key, bI .i64 e_1.Stamp.N, bI .i64 e_1.Stamp.Site, .g (.d (.sl 3 (List.map encApi_Dep e_1.Seen)))]))], [(80, .one (bS e_1.Key))], []⟩ :: ⟨[(77, .one (bB false)), (78, .one (.g (.d (.sl 1 (List.map encS ((mget m0_0 e_1.Stamp).getD [])))))), (80, .one (bS e_1.Key))], [], [(81, .one (bB r15))], []⟩ :: ⟨[(72, .one (bB true)), (77, .one (bB false)), (81, .one (bB r15))], [], [(82, .one (bB r15))], []⟩ :: ⟨[(72, .one (bB true)), (82, .one (bB r15))], [], [(83, .one (bB r15))], []⟩ :: ⟨[(83, .one (bB r15))], [], [(4, .one (bB r15))], []⟩ :: [])) (deps := ([] :: [0] :: [] :: [2] :: [] :: [4] :: [2, 3, 4, 5] :: [0, 1, 2, 3, 4, 5, 6] :: [0, 1, 2, 3, 4, 5, 6, 7] :: [0, 1, 2, 3, 4, 5, 6, 7, 8] :: [0, 1, 2, 3, 4, 5, 6, 7, 8, 9] :: [0, 1, 2, 3, 4, 5, 6, 7, 8, 9, 10] :: [0, 1, 2, 3, 4, 5, 6, 7, 8, 9] :: [0, 1, 2, 3, 4, 5, 6, 7, 8, 9, 10, 11, 12] :: [0, 1, 2, 3, 4, 5, 6, 7, 8, 9, 10, 11, 12, 13] :: [0, 1, 2, 3, 4, 5, 6, 7, 8, 9, 10, 11, 12, 13, 14] :: [0, 1, 2, 3, 4, 5, 6, 7, 8, 9, 10, 11, 12, 13, 14] :: [0, 1, 2, 3, 4, 5, 6, 7, 8, 9, 10, 11, 12, 13, 14, 16] :: [0, 1, 2, 3, 4, 5, 6, 7, 8, 9, 10, 11, 12, 13, 14, 15, 16, 17] :: [0, 1, 2, 3, 4, 5, 6, 7, 8, 9, 10, 11, 12, 13, 14, 15, 16, 17, 18] :: [0, 1, 2, 3, 4, 5, 6, 7, 8, 9, 10, 11, 12, 13, 14, 15, 16, 17, 18, 19] :: (0 :: 1 :: 2 :: 3 :: 4 :: 5 :: 6 :: 7 :: 8 :: 9 :: 10 :: 11 :: 12 :: 13 :: 14 :: 15 :: 16 :: 17 :: 18 :: 19 :: 20 :: []) :: [])) (sl' := [(4, .one (bB r15))]) (hp' := []) follows rfl rfl rfl ⟨⟨rfl, trivial⟩, trivial, ⟨rfl, trivial⟩, ⟨⟨rfl, rfl⟩, trivial⟩, ⟨rfl, trivial⟩, trivial, ⟨rfl, trivial⟩, ⟨⟨rfl, rfl⟩, trivial⟩, ⟨rfl, trivial⟩, trivial, ⟨rfl, trivial⟩, ⟨⟨rfl, rfl⟩, trivial⟩, ⟨rfl, rfl, trivial⟩, trivial, ⟨rfl, rfl, trivial⟩, trivial, ⟨rfl, trivial⟩, trivial, ⟨rfl, trivial⟩, trivial, ⟨rfl, rfl, trivial⟩, trivial, ⟨rfl, rfl, trivial⟩, ⟨⟨rfl, rfl⟩, trivial⟩, ⟨rfl, rfl, trivial⟩, ⟨⟨rfl, rfl⟩, trivial⟩, ⟨rfl, rfl, rfl, trivial⟩, trivial, ⟨rfl, rfl, trivial⟩, trivial, ⟨rfl, rfl, trivial⟩, trivial, ⟨rfl, rfl, trivial⟩, trivial, ⟨rfl, rfl, trivial⟩, ⟨⟨rfl, rfl⟩, trivial⟩, ⟨rfl, rfl, rfl, trivial⟩, trivial, ⟨rfl, rfl, rfl, trivial⟩, trivial, ⟨rfl, rfl, trivial⟩, trivial, ⟨rfl, trivial⟩, trivial, trivial⟩ ⟨OpW.plain (op_fieldP (off' := 3) Try.underlying30 rfl ti27 (by decide) rfl (Ev.t 3 (.ptr 1003 0)) rfl) rfl rfl, OpW.plain (op_loadAP (ds := [.v (.int .i64 e_1.Stamp.N), .v (.int .i64 e_1.Stamp.Site)]) Try.underlying27 rfl ti27 rfl (Ev.t 63 (.ptr 1003 3)) rfl) rfl rfl, OpW.plain (op_fieldP (off' := 5) Try.underlying30 rfl ti28 (by decide) rfl (Ev.t 3 (.ptr 1003 0)) rfl) rfl rfl, OpW.plain (op_load1P (c := .g (.d (.sl 3 (List.map encApi_Dep e_1.Seen)))) Try.underlying28 rfl rfl (Ev.t 65 (.ptr 1003 5)) rfl) rfl rfl, OpW.plain (op_fieldP (off' := 2) Try.underlying30 rfl ti9 (by decide) rfl (Ev.t 3 (.ptr 1003 0)) rfl) rfl rfl, OpW.plain (op_load1P (c := bS e_1.Key) Try.underlying9 rfl rfl (Ev.t 67 (.ptr 1003 2)) rfl) rfl rfl, OpW.plain (op_callQ (sv := .one (.g (.agg [.v (.int .i64 r11.N), .v (.int .i64 r11.Site)]))) cf48 (ct_past_Get e_1.Seen e_1.Key r11 hr11) rfl rfl (EvQL.cons (EvQ.g (Ev.t 66 (.g (.d (.sl 3 (List.map encApi_Dep e_1.Seen)))))) (EvQL.cons (EvQ.g (Ev.t 68 (bS e_1.Key))) EvQL.nil)) rfl) rfl rfl, OpW.plain (op_callQ (sv := .one (bB r12)) cf45 (ct_stamp_Less e_1.Stamp r11 r12 hr12) rfl rfl (EvQL.cons (EvQ.g (Ev.t 64 (.g (.agg [.v (.int .i64 e_1.Stamp.N), .v (.int .i64 e_1.Stamp.Site)])))) (EvQL.cons (EvQ.g (Ev.t 69 (.g (.agg [.v (.int .i64 r11.N), .v (.int .i64 r11.Site)])))) EvQL.nil)) rfl) rfl rfl, OpW.plain (OpL.cast (op_not (Ev.t 70 (bB r12)) rfl) (congrArg (fun b => bB b) hc13)) rfl rfl, OpW.plain (op_move (Ev.t 71 (bB true)) rfl) rfl rfl, OpW.yes (op_fieldP (off' := 3) Try.underlying30 rfl ti27 (by decide) rfl (Ev.t 3 (.ptr 1003 0)) rfl) rfl rfl rfl, OpW.yes (op_loadAP (ds := [.v (.int .i64 e_1.Stamp.N), .v (.int .i64 e_1.Stamp.Site)]) Try.underlying27 rfl ti27 rfl (Ev.t 73 (.ptr 1003 3)) rfl) rfl rfl rfl, OpW.yes (op_loadAP (ds := [.v (.int .i64 0), .v (.int .i64 0)]) Try.underlying27 rfl ti27 rfl (Ev.t 7 (.ptr 1007 0)) rfl) rfl rfl rfl, OpW.yes (OpL.cast (op_eqA (us := [.int .i64 e_1.Stamp.N, .int .i64 e_1.Stamp.Site]) (vs := [.int .i64 0, .int .i64 0]) rfl rfl Try.eqGuardType27 (fun w => eq27 e_1.Stamp.N e_1.Stamp.Site 0 0 w) (Ev.t 74 (.g (.agg [.v (.int .i64 e_1.Stamp.N), .v (.int .i64 e_1.Stamp.Site)]))) (Ev.t 75 (.g (.agg [.v (.int .i64 0), .v (.int .i64 0)]))) rfl) (congrArg (fun b => bB b) hc14)) rfl rfl rfl, OpW.yes (op_move (Ev.t 76 (bB false)) rfl) rfl rfl rfl, OpW.yes (op_move (Ev.t 5 (.g (.d (.sl 1 (List.map encS ((mget m0_0 e_1.Stamp).getD [])))))) rfl) rfl rfl rfl, OpW.yes (op_fieldP (off' := 2) Try.underlying30 rfl ti9 (by decide) rfl (Ev.t 3 (.ptr 1003 0)) rfl) rfl rfl rfl, OpW.yes (op_load1P (c := bS e_1.Key) Try.underlying9 rfl rfl (Ev.t 79 (.ptr 1003 2)) rfl) rfl rfl rfl, OpW.yes (op_callQ (sv := .one (bB r15)) cf49 (ct_slices_Contains_string ((mget m0_0 e_1.Stamp).getD []) e_1.Key r15 hr15) rfl rfl (EvQL.cons (EvQ.g (Ev.t 78 (.g (.d (.sl 1 (List.map encS ((mget m0_0 e_1.Stamp).getD []))))))) (EvQL.cons (EvQ.g (Ev.t 80 (bS e_1.Key))) EvQL.nil)) rfl) rfl rfl rfl, OpW.yes (op_pickF (Ev.t 77 (bB false)) (Ev.t 81 (bB r15)) rfl) rfl rfl rfl, OpW.plain (op_pickT (Ev.t 72 (bB true)) (Ev.t 82 (bB r15)) rfl) rfl rfl, OpW.plain (op_assign (Ev.t 83 (bB r15)) rfl) rfl rfl, trivial⟩ ⟨rfl, trivial⟩ trivial rfl ?_
              cases hF
              exact G.ret1 Try.results27 (RVar.tmp 4 _) ⟨rfl, trivial⟩ trivial
          · refine G.drawn (effs := (⟨[(3, .one (.ptr 1003 0))], [], [(63, .one (.ptr 1003 3))], []⟩ :: ⟨[(63, .one (.ptr 1003 3))], [(1003, some (.blk 30 [bI .i64 e_1.Kind, bI .i64 e_1.Client, bS e_1.Key, bI .i64 e_1.Stamp.N, bI .i64 e_1.Stamp.Site, .g (.d (.sl 3 (List.map encApi_Dep e_1.Seen)))]))], [(64, .one (.g (.agg [.v (.int .i64 e_1.Stamp.N), .v (.int .i64 e_1.Stamp.Site)])))], []⟩ :: ⟨[(3, .one (.ptr 1003 0))], [], [(65, .one (.ptr 1003 5))], []⟩ :: ⟨[(65, .one (.ptr 1003 5))], [(1003, some (.blk 30 [bI .i64 e_1.Kind, bI .i64 e_1.Client, bS e_1.Key, bI .i64 e_1.Stamp.N, bI .i64 e_1.Stamp.Site, .g (.d (.sl 3 (List.map encApi_Dep e_1.Seen)))]))], [(66, .one (.g (.d (.sl 3 (List.map encApi_Dep e_1.Seen)))))], []⟩ :: ⟨[(3, .one (.ptr 1003 0))], [], [(67, .one (.ptr 1003 2))], []⟩ :: ⟨[(67, .one (.ptr 1003 2))], [(1003, some (.blk 30 [bI .i64 e_1.Kind, bI .i64 e_1.Client, bS e_1.Key, bI .i64 e_1.Stamp.N, bI .i64 e_1.Stamp.Site, .g (.d (.sl 3 (List.map encApi_Dep e_1.Seen)))]))], [(68, .one (bS e_1.Key))], []⟩ :: ⟨[(66, .one (.g (.d (.sl 3 (List.map encApi_Dep e_1.Seen))))), (68, .one (bS e_1.Key))], [], [(69, .one (.g (.agg [.v (.int .i64 r11.N), .v (.int .i64 r11.Site)])))], []⟩ :: ⟨[(64, .one (.g (.agg [.v (.int .i64 e_1.Stamp.N), .v (.int .i64 e_1.Stamp.Site)]))), (69, .one (.g (.agg [.v (.int .i64 r11.N), .v (.int .i64 r11.Site)])))], [], [(70, .one (bB r12))], []⟩ :: ⟨[(70, .one (bB r12))], [], [(71, .one (bB false))], []⟩ :: ⟨[(71, .one (bB false))], [], [(72, .one (bB false))], []⟩ :: ⟨[(72, .one (bB false))], [], [(73, .one (.x Go.undef))], []⟩ :: ⟨[(72, .one (bB false))], [], [(74, .one (.x Go.undef))], []⟩ :: ⟨[(72, .one (bB false))], [], [(75, .one (.x Go.undef))], []⟩ :: ⟨[(72, .one (bB false))], [], [(76, .one (.x Go.undef))], []⟩ :: ⟨[(72, .one (bB false))], [], [(77, .one (.x Go.undef))], []⟩ :: ⟨[(77, .one (.x Go.undef))], [], [(78, .one (.x Go.undef))], []⟩ :: ⟨[(77, .one (.x Go.undef))], [], [(79, .one (.x Go.undef))], []⟩ :: ⟨[(77, .one (.x Go.undef))], [], [(80, .one (.x Go.undef))], []⟩ :: ⟨[(77, .one (.x Go.undef))], [], [(81, .one (.x Go.undef))], []⟩ :: ⟨[(72, .one (bB false))], [], [(82, .one (.x Go.undef))], []⟩ :: ⟨[(72, .one (bB false))], [], [(83, .one (bB false))], []⟩ :: ⟨[(83, .one (bB false))], [], [(4, .one (bB false))], []⟩ :: [])) (deps := ([] :: [0] :: [] :: [2] :: [] :: [4] :: [2, 3, 4, 5] :: [0, 1, 2, 3, 4, 5, 6] :: [0, 1, 2, 3, 4, 5, 6, 7] :: [0, 1, 2, 3, 4, 5, 6, 7, 8] :: [0, 1, 2, 3, 4, 5, 6, 7, 8, 9] :: [0, 1, 2, 3, 4, 5, 6, 7, 8, 9, 10] :: [0, 1, 2, 3, 4, 5, 6, 7, 8, 9] :: [0, 1, 2, 3, 4, 5, 6, 7, 8, 9, 10, 11, 12] :: [0, 1, 2, 3, 4, 5, 6, 7, 8, 9, 10, 11, 12, 13] :: [0, 1, 2, 3, 4, 5, 6, 7, 8, 9, 10, 11, 12, 13, 14] :: [0, 1, 2, 3, 4, 5, 6, 7, 8, 9, 10, 11, 12, 13, 14] :: [0, 1, 2, 3, 4, 5, 6, 7, 8, 9, 10, 11, 12, 13, 14, 16] :: [0, 1, 2, 3, 4, 5, 6, 7, 8, 9, 10, 11, 12, 13, 14, 15, 16, 17] :: [0, 1, 2, 3, 4, 5, 6, 7, 8, 9, 10, 11, 12, 13, 14, 15, 16, 17, 18] :: [0, 1, 2, 3, 4, 5, 6, 7, 8, 9, 10, 11, 12, 13, 14, 15, 16, 17, 18, 19] :: (0 :: 1 :: 2 :: 3 :: 4 :: 5 :: 6 :: 7 :: 8 :: 9 :: 10 :: 11 :: 12 :: 13 :: 14 :: 15 :: 16 :: 17 :: 18 :: 19 :: 20 :: []) :: [])) (sl' := [(4, .one (bB false))]) (hp' := []) follows rfl rfl rfl ⟨⟨rfl, trivial⟩, trivial, ⟨rfl, trivial⟩, ⟨⟨rfl, rfl⟩, trivial⟩, ⟨rfl, trivial⟩, trivial, ⟨rfl, trivial⟩, ⟨⟨rfl, rfl⟩, trivial⟩, ⟨rfl, trivial⟩, trivial, ⟨rfl, trivial⟩, ⟨⟨rfl, rfl⟩, trivial⟩, ⟨rfl, rfl, trivial⟩, trivial, ⟨rfl, rfl, trivial⟩, trivial, ⟨rfl, trivial⟩, trivial, ⟨rfl, trivial⟩, trivial, ⟨rfl, trivial⟩, trivial, ⟨rfl, trivial⟩, trivial, ⟨rfl, trivial⟩, trivial, ⟨rfl, trivial⟩, trivial, ⟨rfl, trivial⟩, trivial, ⟨rfl, trivial⟩, trivial, ⟨rfl, trivial⟩, trivial, ⟨rfl, trivial⟩, trivial, ⟨rfl, trivial⟩, trivial, ⟨rfl, trivial⟩, trivial, ⟨rfl, trivial⟩, trivial, ⟨rfl, trivial⟩, trivial, trivial⟩ ⟨OpW.plain (op_fieldP (off' := 3) Try.underlying30 rfl ti27 (by decide) rfl (Ev.t 3 (.ptr 1003 0)) rfl) rfl rfl, OpW.plain (op_loadAP (ds := [.v (.int .i64 e_1.Stamp.N), .v (.int .i64 e_1.Stamp.Site)]) Try.underlying27 rfl ti27 rfl (Ev.t 63 (.ptr 1003 3)) rfl) rfl rfl, OpW.plain (op_fieldP (off' := 5) Try.underlying30 rfl ti28 (by decide) rfl (Ev.t 3 (.ptr 1003 0)) rfl) rfl rfl, OpW.plain (op_load1P (c := .g (.d (.sl 3 (List.map encApi_Dep e_1.Seen)))) Try.underlying28 rfl rfl (Ev.t 65 (.ptr 1003 5)) rfl) rfl rfl, OpW.plain (op_fieldP (off' := 2) Try.underlying30 rfl ti9 (by decide) rfl (Ev.t 3 (.ptr 1003 0)) rfl) rfl rfl, OpW.plain (op_load1P (c := bS e_1.Key) Try.underlying9 rfl rfl (Ev.t 67 (.ptr 1003 2)) rfl) rfl rfl, OpW.plain (op_callQ (sv := .one (.g (.agg [.v (.int .i64 r11.N), .v (.int .i64 r11.Site)]))) cf48 (ct_past_Get e_1.Seen e_1.Key r11 hr11) rfl rfl (EvQL.cons (EvQ.g (Ev.t 66 (.g (.d (.sl 3 (List.map encApi_Dep e_1.Seen)))))) (EvQL.cons (EvQ.g (Ev.t 68 (bS e_1.Key))) EvQL.nil)) rfl) rfl rfl, OpW.plain (op_callQ (sv := .one (bB r12)) cf45 (ct_stamp_Less e_1.Stamp r11 r12 hr12) rfl rfl (EvQL.cons (EvQ.g (Ev.t 64 (.g (.agg [.v (.int .i64 e_1.Stamp.N), .v (.int .i64 e_1.Stamp.Site)])))) (EvQL.cons (EvQ.g (Ev.t 69 (.g (.agg [.v (.int .i64 r11.N), .v (.int .i64 r11.Site)])))) EvQL.nil)) rfl) rfl rfl, OpW.plain (OpL.cast (op_not (Ev.t 70 (bB r12)) rfl) (congrArg (fun b => bB b) hc13)) rfl rfl, OpW.plain (op_move (Ev.t 71 (bB false)) rfl) rfl rfl, OpW.no rfl rfl rfl rfl rfl, OpW.no rfl rfl rfl rfl rfl, OpW.no rfl rfl rfl rfl rfl, OpW.no rfl rfl rfl rfl rfl, OpW.no rfl rfl rfl rfl rfl, OpW.un rfl rfl rfl rfl, OpW.un rfl rfl rfl rfl, OpW.un rfl rfl rfl rfl, OpW.un rfl rfl rfl rfl, OpW.no rfl rfl rfl rfl rfl, OpW.plain (op_pickF (Ev.t 72 (bB false)) (Ev.c _ rfl) rfl) rfl rfl, OpW.plain (op_assign (Ev.t 83 (bB false)) rfl) rfl rfl, trivial⟩ ⟨rfl, trivial⟩ trivial rfl ?_
            cases hF
            exact G.ret1 Try.results27 (RVar.tmp 4 _) ⟨rfl, trivial⟩ trivial
        · refine G.cond rfl (fun hx => by rw [hc10] at hx; cases hx) (fun _ => ?_)
          refine G.skip ?_
          refine G.endBlock ?_
          refine G.seq ?_
          refine G.region ?_
          refine G.op1 (op_assign (Ev.c _ rfl) rfl) rfl trivial trivial ?_
          refine G.endOps ?_
          cases hF
          exact G.ret1 Try.results27 (RVar.tmp 4 _) ⟨rfl, trivial⟩ trivial
  obtain ⟨r17, hr17, hF⟩ := bindS hF
  refine ifS hF (fun hc18 hF => ?_) (fun hc18 hF => ?_)
  · refine G.drawn (effs := (⟨[(3, .one (.ptr 1003 0))], [], [(8, .one (.ptr 1003 2))], []⟩ :: ⟨[(8, .one (.ptr 1003 2))], [(1003, some (.blk 30 [bI .i64 e_1.Kind, bI .i64 e_1.Client, bS e_1.Key, bI .i64 e_1.Stamp.N, bI .i64 e_1.Stamp.Site, .g (.d (.sl 3 (List.map encApi_Dep e_1.Seen)))]))], [(9, .one (bS e_1.Key))], []⟩ :: ⟨[(9, .one (bS e_1.Key))], [], [(10, .one (bB r17))], []⟩ :: ⟨[(10, .one (bB r17))], [], [(11, .one (bB true))], []⟩ :: ⟨[(11, .one (bB true))], [], [(12, .one (bB true))], []⟩ :: ⟨[(12, .one (bB true))], [], [(13, .one (.x Go.undef))], []⟩ :: ⟨[(12, .one (bB true))], [], [(14, .one (.x Go.undef))], []⟩ :: ⟨[(12, .one (bB true))], [], [(15, .one (.x Go.undef))], []⟩ :: ⟨[(12, .one (bB true))], [], [(16, .one (.x Go.undef))], []⟩ :: ⟨[(12, .one (bB true))], [], [(17, .one (bB true))], []⟩ :: ⟨[(17, .one (bB true))], [], [(18, .one (bB true))], []⟩ :: ⟨[(18, .one (bB true))], [], [(19, .one (.x Go.undef))], []⟩ :: ⟨[(18, .one (bB true))], [], [(20, .one (.x Go.undef))], []⟩ :: ⟨[(18, .one (bB true))], [], [(21, .one (.x Go.undef))], []⟩ :: ⟨[(18, .one (bB true))], [], [(22, .one (.x Go.undef))], []⟩ :: ⟨[(18, .one (bB true))], [], [(23, .one (.x Go.undef))], []⟩ :: ⟨[(18, .one (bB true))], [], [(24, .one (.x Go.undef))], []⟩ :: ⟨[(18, .one (bB true))], [], [(25, .one (.x Go.undef))], []⟩ :: ⟨[(18, .one (bB true))], [], [(26, .one (.x Go.undef))], []⟩ :: ⟨[(18, .one (bB true))], [], [(27, .one (.x Go.undef))], []⟩ :: ⟨[(18, .one (bB true))], [], [(28, .one (.x Go.undef))], []⟩ :: ⟨[(18, .one (bB true))], [], [(29, .one (.x Go.undef))], []⟩ :: ⟨[(18, .one (bB true))], [], [(30, .one (bB true))], []⟩ :: [])) (deps := ([] :: [0] :: [0, 1] :: [0, 1, 2] :: [0, 1, 2, 3] :: [0, 1, 2, 3, 4] :: [0, 1, 2, 3, 4, 5] :: [0, 1, 2, 3, 4, 5, 6] :: [0, 1, 2, 3, 4, 5, 6, 7] :: [0, 1, 2, 3, 4, 5, 6, 7, 8] :: [0, 1, 2, 3, 4, 5, 6, 7, 8, 9] :: [0, 1, 2, 3, 4, 5, 6, 7, 8, 9, 10] :: [0, 1, 2, 3, 4, 5, 6, 7, 8, 9, 10, 11] :: [0, 1, 2, 3, 4, 5, 6, 7, 8, 9, 10] :: [0, 1, 2, 3, 4, 5, 6, 7, 8, 9, 10, 13] :: [0, 1, 2, 3, 4, 5, 6, 7, 8, 9, 10, 13, 14] :: [0, 1, 2, 3, 4, 5, 6, 7, 8, 9, 10, 13, 14, 15] :: [0, 1, 2, 3, 4, 5, 6, 7, 8, 9, 10] :: [0, 1, 2, 3, 4, 5, 6, 7, 8, 9, 10, 17] :: [0, 1, 2, 3, 4, 5, 6, 7, 8, 9, 10, 13, 14, 15, 16, 17, 18] :: [0, 1, 2, 3, 4, 5, 6, 7, 8, 9, 10, 11, 12, 13, 14, 15, 16, 17, 18, 19] :: (0 :: 1 :: 2 :: 3 :: 4 :: 5 :: 6 :: 7 :: 8 :: 9 :: 10 :: 11 :: 12 :: 13 :: 14 :: 15 :: 16 :: 17 :: 18 :: 19 :: 20 :: []) :: (0 :: 1 :: 2 :: 3 :: 4 :: 5 :: 6 :: 7 :: 8 :: 9 :: 10 :: 11 :: 12 :: 13 :: 14 :: 15 :: 16 :: 17 :: 18 :: 19 :: 20 :: 21 :: []) :: [])) (sl' := [(0, .one (.ro (bookΦ 66 (ents keyApi_Stamp agL_encS m0_0) (ents keyI64 agL_encApi_Dep m1_0)))), (3, .one (.ptr 1003 0)), (30, .one (bB true))]) (hp' := [(1003, some (.blk 30 [bI .i64 e_1.Kind, bI .i64 e_1.Client, bS e_1.Key, bI .i64 e_1.Stamp.N, bI .i64 e_1.Stamp.Site, .g (.d (.sl 3 (List.map encApi_Dep e_1.Seen)))]))]) follows rfl rfl rfl ⟨⟨rfl, trivial⟩, trivial, ⟨rfl, trivial⟩, ⟨⟨rfl, rfl⟩, trivial⟩, ⟨rfl, trivial⟩, trivial, ⟨rfl, trivial⟩, trivial, ⟨rfl, trivial⟩, trivial, ⟨rfl, trivial⟩, trivial, ⟨rfl, trivial⟩, trivial, ⟨rfl, trivial⟩, trivial, ⟨rfl, trivial⟩, trivial, ⟨rfl, trivial⟩, trivial, ⟨rfl, trivial⟩, trivial, ⟨rfl, trivial⟩, trivial, ⟨rfl, trivial⟩, trivial, ⟨rfl, trivial⟩, trivial, ⟨rfl, trivial⟩, trivial, ⟨rfl, trivial⟩, trivial, ⟨rfl, trivial⟩, trivial, ⟨rfl, trivial⟩, trivial, ⟨rfl, trivial⟩, trivial, ⟨rfl, trivial⟩, trivial, ⟨rfl, trivial⟩, trivial, ⟨rfl, trivial⟩, trivial, ⟨rfl, trivial⟩, trivial, trivial⟩ ⟨OpW.plain (op_fieldP (off' := 2) Try.underlying30 rfl ti9 (by decide) rfl (Ev.t 3 (.ptr 1003 0)) rfl) rfl rfl, OpW.plain (op_load1P (c := bS e_1.Key) Try.underlying9 rfl rfl (Ev.t 8 (.ptr 1003 2)) rfl) rfl rfl, OpW.plain (op_callQ (sv := .one (bB r17)) cf40 (ct_keys_Check e_1.Key r17 hr17) rfl rfl (EvQL.cons (EvQ.g (Ev.t 9 (bS e_1.Key))) EvQL.nil) rfl) rfl rfl, OpW.plain (OpL.cast (op_not (Ev.t 10 (bB r17)) rfl) (congrArg (fun b => bB b) hc18)) rfl rfl, OpW.plain (op_move (Ev.t 11 (bB true)) rfl) rfl rfl, OpW.no rfl rfl rfl rfl rfl, OpW.no rfl rfl rfl rfl rfl, OpW.no rfl rfl rfl rfl rfl, OpW.no rfl rfl rfl rfl rfl, OpW.plain (op_pickT (Ev.t 12 (bB true)) (Ev.c _ rfl) rfl) rfl rfl, OpW.plain (op_move (Ev.t 17 (bB true)) rfl) rfl rfl, OpW.no rfl rfl rfl rfl rfl, OpW.no rfl rfl rfl rfl rfl, OpW.no rfl rfl rfl rfl rfl, OpW.no rfl rfl rfl rfl rfl, OpW.no rfl rfl rfl rfl rfl, OpW.no rfl rfl rfl rfl rfl, OpW.no rfl rfl rfl rfl rfl, OpW.no rfl rfl rfl rfl rfl, OpW.no rfl rfl rfl rfl rfl, OpW.no rfl rfl rfl rfl rfl, OpW.no rfl rfl rfl rfl rfl, OpW.plain (op_pickT (Ev.t 18 (bB true)) (Ev.c _ rfl) rfl) rfl rfl, trivial⟩ ⟨rfl, rfl, rfl, trivial⟩ ⟨rfl, trivial⟩ rfl ?_
    exact G.arr (J16 true hF) ⟨rfl, rfl, rfl, trivial⟩ ⟨rfl, trivial⟩ rfl
  · obtain ⟨r19, hr19, hF⟩ := bindS hF
    refine ifS hF (fun hc20 hF => ?_) (fun hc20 hF => ?_)
    · refine G.drawn (effs := (⟨[(3, .one (.ptr 1003 0))], [], [(8, .one (.ptr 1003 2))], []⟩ :: ⟨[(8, .one (.ptr 1003 2))], [(1003, some (.blk 30 [bI .i64 e_1.Kind, bI .i64 e_1.Client, bS e_1.Key, bI .i64 e_1.Stamp.N, bI .i64 e_1.Stamp.Site, .g (.d (.sl 3 (List.map encApi_Dep e_1.Seen)))]))], [(9, .one (bS e_1.Key))], []⟩ :: ⟨[(9, .one (bS e_1.Key))], [], [(10, .one (bB r17))], []⟩ :: ⟨[(10, .one (bB r17))], [], [(11, .one (bB false))], []⟩ :: ⟨[(11, .one (bB false))], [], [(12, .one (bB false))], []⟩ :: ⟨[(12, .one (bB false)), (3, .one (.ptr 1003 0))], [], [(13, .one (.ptr 1003 5))], []⟩ :: ⟨[(12, .one (bB false)), (13, .one (.ptr 1003 5))], [(1003, some (.blk 30 [bI .i64 e_1.Kind, bI .i64 e_1.Client, bS e_1.Key, bI .i64 e_1.Stamp.N, bI .i64 e_1.Stamp.Site, .g (.d (.sl 3 (List.map encApi_Dep e_1.Seen)))]))], [(14, .one (.g (.d (.sl 3 (List.map encApi_Dep e_1.Seen)))))], []⟩ :: ⟨[(12, .one (bB false)), (14, .one (.g (.d (.sl 3 (List.map encApi_Dep e_1.Seen)))))], [], [(15, .one (bB r19))], []⟩ :: ⟨[(12, .one (bB false)), (15, .one (bB r19))], [], [(16, .one (bB true))], []⟩ :: ⟨[(12, .one (bB false)), (16, .one (bB true))], [], [(17, .one (bB true))], []⟩ :: ⟨[(17, .one (bB true))], [], [(18, .one (bB true))], []⟩ :: ⟨[(18, .one (bB true))], [], [(19, .one (.x Go.undef))], []⟩ :: ⟨[(18, .one (bB true))], [], [(20, .one (.x Go.undef))], []⟩ :: ⟨[(18, .one (bB true))], [], [(21, .one (.x Go.undef))], []⟩ :: ⟨[(18, .one (bB true))], [], [(22, .one (.x Go.undef))], []⟩ :: ⟨[(18, .one (bB true))], [], [(23, .one (.x Go.undef))], []⟩ :: ⟨[(18, .one (bB true))], [], [(24, .one (.x Go.undef))], []⟩ :: ⟨[(18, .one (bB true))], [], [(25, .one (.x Go.undef))], []⟩ :: ⟨[(18, .one (bB true))], [], [(26, .one (.x Go.undef))], []⟩ :: ⟨[(18, .one (bB true))], [], [(27, .one (.x Go.undef))], []⟩ :: ⟨[(18, .one (bB true))], [], [(28, .one (.x Go.undef))], []⟩ :: ⟨[(18, .one (bB true))], [], [(29, .one (.x Go.undef))], []⟩ :: ⟨[(18, .one (bB true))], [], [(30, .one (bB true))], []⟩ :: [])) (deps := ([] :: [0] :: [0, 1] :: [0, 1, 2] :: [0, 1, 2, 3] :: [0, 1, 2, 3, 4] :: [0, 1, 2, 3, 4, 5] :: [0, 1, 2, 3, 4, 5, 6] :: [0, 1, 2, 3, 4, 5, 6, 7] :: [0, 1, 2, 3, 4, 5, 6, 7, 8] :: [0, 1, 2, 3, 4, 5, 6, 7, 8, 9] :: [0, 1, 2, 3, 4, 5, 6, 7, 8, 9, 10] :: [0, 1, 2, 3, 4, 5, 6, 7, 8, 9, 10, 11] :: [0, 1, 2, 3, 4, 5, 6, 7, 8, 9, 10] :: [0, 1, 2, 3, 4, 5, 6, 7, 8, 9, 10, 13] :: [0, 1, 2, 3, 4, 5, 6, 7, 8, 9, 10, 13, 14] :: [0, 1, 2, 3, 4, 5, 6, 7, 8, 9, 10, 13, 14, 15] :: [0, 1, 2, 3, 4, 5, 6, 7, 8, 9, 10] :: [0, 1, 2, 3, 4, 5, 6, 7, 8, 9, 10, 17] :: [0, 1, 2, 3, 4, 5, 6, 7, 8, 9, 10, 13, 14, 15, 16, 17, 18] :: [0, 1, 2, 3, 4, 5, 6, 7, 8, 9, 10, 11, 12, 13, 14, 15, 16, 17, 18, 19] :: (0 :: 1 :: 2 :: 3 :: 4 :: 5 :: 6 :: 7 :: 8 :: 9 :: 10 :: 11 :: 12 :: 13 :: 14 :: 15 :: 16 :: 17 :: 18 :: 19 :: 20 :: []) :: (0 :: 1 :: 2 :: 3 :: 4 :: 5 :: 6 :: 7 :: 8 :: 9 :: 10 :: 11 :: 12 :: 13 :: 14 :: 15 :: 16 :: 17 :: 18 :: 19 :: 20 :: 21 :: []) :: [])) (sl' := [(0, .one (.ro (bookΦ 66 (ents keyApi_Stamp agL_encS m0_0) (ents keyI64 agL_encApi_Dep m1_0)))), (3, .one (.ptr 1003 0)), (30, .one (bB true))]) (hp' := [(1003, some (.blk 30 [bI .i64 e_1.Kind, bI .i64 e_1.Client, bS e_1.Key, bI .i64 e_1.Stamp.N, bI .i64 e_1.Stamp.Site, .g (.d (.sl 3 (List.map encApi_Dep e_1.Seen)))]))]) follows rfl rfl rfl ⟨⟨rfl, trivial⟩, trivial, ⟨rfl, trivial⟩, ⟨⟨rfl, rfl⟩, trivial⟩, ⟨rfl, trivial⟩, trivial, ⟨rfl, trivial⟩, trivial, ⟨rfl, trivial⟩, trivial, ⟨rfl, rfl, trivial⟩, trivial, ⟨rfl, rfl, trivial⟩, ⟨⟨rfl, rfl⟩, trivial⟩, ⟨rfl, rfl, trivial⟩, trivial, ⟨rfl, rfl, trivial⟩, trivial, ⟨rfl, rfl, trivial⟩, trivial, ⟨rfl, trivial⟩, trivial, ⟨rfl, trivial⟩, trivial, ⟨rfl, trivial⟩, trivial, ⟨rfl, trivial⟩, trivial, ⟨rfl, trivial⟩, trivial, ⟨rfl, trivial⟩, trivial, ⟨rfl, trivial⟩, trivial, ⟨rfl, trivial⟩, trivial, ⟨rfl, trivial⟩, trivial, ⟨rfl, trivial⟩, trivial, ⟨rfl, trivial⟩, trivial, ⟨rfl, trivial⟩, trivial, ⟨rfl, trivial⟩, trivial, trivial⟩ ⟨OpW.plain (op_fieldP (off' := 2) Try.underlying30 rfl ti9 (by decide) rfl (Ev.t 3 (.ptr 1003 0)) rfl) rfl rfl, OpW.plain (op_load1P (c := bS e_1.Key) Try.underlying9 rfl rfl (Ev.t 8 (.ptr 1003 2)) rfl) rfl rfl, OpW.plain (op_callQ (sv := .one (bB r17)) cf40 (ct_keys_Check e_1.Key r17 hr17) rfl rfl (EvQL.cons (EvQ.g (Ev.t 9 (bS e_1.Key))) EvQL.nil) rfl) rfl rfl, OpW.plain (OpL.cast (op_not (Ev.t 10 (bB r17)) rfl) (congrArg (fun b => bB b) hc18)) rfl rfl, OpW.plain (op_move (Ev.t 11 (bB false)) rfl) rfl rfl, OpW.yes (op_fieldP (off' := 5) Try.underlying30 rfl ti28 (by decide) rfl (Ev.t 3 (.ptr 1003 0)) rfl) rfl rfl rfl, OpW.yes (op_load1P (c := .g (.d (.sl 3 (List.map encApi_Dep e_1.Seen)))) Try.underlying28 rfl rfl (Ev.t 13 (.ptr 1003 5)) rfl) rfl rfl rfl, OpW.yes (op_callQ (sv := .one (bB r19)) cf41 (ct_history_row e_1.Seen r19 hr19) rfl rfl (EvQL.cons (EvQ.g (Ev.t 14 (.g (.d (.sl 3 (List.map encApi_Dep e_1.Seen)))))) EvQL.nil) rfl) rfl rfl rfl, OpW.yes (OpL.cast (op_not (Ev.t 15 (bB r19)) rfl) (congrArg (fun b => bB b) hc20)) rfl rfl rfl, OpW.plain (op_pickF (Ev.t 12 (bB false)) (Ev.t 16 (bB true)) rfl) rfl rfl, OpW.plain (op_move (Ev.t 17 (bB true)) rfl) rfl rfl, OpW.no rfl rfl rfl rfl rfl, OpW.no rfl rfl rfl rfl rfl, OpW.no rfl rfl rfl rfl rfl, OpW.no rfl rfl rfl rfl rfl, OpW.no rfl rfl rfl rfl rfl, OpW.no rfl rfl rfl rfl rfl, OpW.no rfl rfl rfl rfl rfl, OpW.no rfl rfl rfl rfl rfl, OpW.no rfl rfl rfl rfl rfl, OpW.no rfl rfl rfl rfl rfl, OpW.no rfl rfl rfl rfl rfl, OpW.plain (op_pickT (Ev.t 18 (bB true)) (Ev.c _ rfl) rfl) rfl rfl, trivial⟩ ⟨rfl, rfl, rfl, trivial⟩ ⟨rfl, trivial⟩ rfl ?_
      exact G.arr (J16 true hF) ⟨rfl, rfl, rfl, trivial⟩ ⟨rfl, trivial⟩ rfl
    · obtain ⟨r21, hr21, hF⟩ := bindS hF
      refine G.drawn (effs := (⟨[(3, .one (.ptr 1003 0))], [], [(8, .one (.ptr 1003 2))], []⟩ :: ⟨[(8, .one (.ptr 1003 2))], [(1003, some (.blk 30 [bI .i64 e_1.Kind, bI .i64 e_1.Client, bS e_1.Key, bI .i64 e_1.Stamp.N, bI .i64 e_1.Stamp.Site, .g (.d (.sl 3 (List.map encApi_Dep e_1.Seen)))]))], [(9, .one (bS e_1.Key))], []⟩ :: ⟨[(9, .one (bS e_1.Key))], [], [(10, .one (bB r17))], []⟩ :: ⟨[(10, .one (bB r17))], [], [(11, .one (bB false))], []⟩ :: ⟨[(11, .one (bB false))], [], [(12, .one (bB false))], []⟩ :: ⟨[(12, .one (bB false)), (3, .one (.ptr 1003 0))], [], [(13, .one (.ptr 1003 5))], []⟩ :: ⟨[(12, .one (bB false)), (13, .one (.ptr 1003 5))], [(1003, some (.blk 30 [bI .i64 e_1.Kind, bI .i64 e_1.Client, bS e_1.Key, bI .i64 e_1.Stamp.N, bI .i64 e_1.Stamp.Site, .g (.d (.sl 3 (List.map encApi_Dep e_1.Seen)))]))], [(14, .one (.g (.d (.sl 3 (List.map encApi_Dep e_1.Seen)))))], []⟩ :: ⟨[(12, .one (bB false)), (14, .one (.g (.d (.sl 3 (List.map encApi_Dep e_1.Seen)))))], [], [(15, .one (bB r19))], []⟩ :: ⟨[(12, .one (bB false)), (15, .one (bB r19))], [], [(16, .one (bB false))], []⟩ :: ⟨[(12, .one (bB false)), (16, .one (bB false))], [], [(17, .one (bB false))], []⟩ :: ⟨[(17, .one (bB false))], [], [(18, .one (bB false))], []⟩ :: ⟨[(18, .one (bB false)), (3, .one (.ptr 1003 0))], [], [(19, .one (.ptr 1003 5))], []⟩ :: ⟨[(18, .one (bB false)), (19, .one (.ptr 1003 5))], [(1003, some (.blk 30 [bI .i64 e_1.Kind, bI .i64 e_1.Client, bS e_1.Key, bI .i64 e_1.Stamp.N, bI .i64 e_1.Stamp.Site, .g (.d (.sl 3 (List.map encApi_Dep e_1.Seen)))]))], [(20, .one (.g (.d (.sl 3 (List.map encApi_Dep e_1.Seen)))))], []⟩ :: ⟨[(18, .one (bB false)), (0, .one (.ro (bookΦ 66 (ents keyApi_Stamp agL_encS m0_0) (ents keyI64 agL_encApi_Dep m1_0))))], [], [(21, .one (.ro (bookΦ 66 (ents keyApi_Stamp agL_encS m0_0) (ents keyI64 agL_encApi_Dep m1_0))))], []⟩ :: ⟨[(18, .one (bB false)), (21, .one (.ro (bookΦ 66 (ents keyApi_Stamp agL_encS m0_0) (ents keyI64 agL_encApi_Dep m1_0))))], [], [(22, .one (.ro (bookΦ 66 (ents keyApi_Stamp agL_encS m0_0) (ents keyI64 agL_encApi_Dep m1_0))))], []⟩ :: ⟨[(18, .one (bB false)), (22, .one (.ro (bookΦ 66 (ents keyApi_Stamp agL_encS m0_0) (ents keyI64 agL_encApi_Dep m1_0))))], [], [(23, .one (.ro (partΦ 1 (ents keyI64 agL_encApi_Dep m1_0))))], []⟩ :: ⟨[(18, .one (bB false)), (23, .one (.ro (partΦ 1 (ents keyI64 agL_encApi_Dep m1_0))))], [], [(24, .one (.ro (mapΦ (ents keyI64 agL_encApi_Dep m1_0))))], []⟩ :: ⟨[(18, .one (bB false)), (3, .one (.ptr 1003 0))], [], [(25, .one (.ptr 1003 1))], []⟩ :: ⟨[(18, .one (bB false)), (25, .one (.ptr 1003 1))], [(1003, some (.blk 30 [bI .i64 e_1.Kind, bI .i64 e_1.Client, bS e_1.Key, bI .i64 e_1.Stamp.N, bI .i64 e_1.Stamp.Site, .g (.d (.sl 3 (List.map encApi_Dep e_1.Seen)))]))], [(26, .one (bI .i64 e_1.Client))], []⟩ :: ⟨[(18, .one (bB false)), (24, .one (.ro (mapΦ (ents keyI64 agL_encApi_Dep m1_0)))), (26, .one (bI .i64 e_1.Client))], [], [(27, .one (.g (.d (.sl 3 (List.map encApi_Dep ((mget m1_0 e_1.Client).getD []))))))], []⟩ :: ⟨[(18, .one (bB false)), (20, .one (.g (.d (.sl 3 (List.map encApi_Dep e_1.Seen))))), (27, .one (.g (.d (.sl 3 (List.map encApi_Dep ((mget m1_0 e_1.Client).getD []))))))], [], [(28, .one (bB r21))], []⟩ :: ⟨[(18, .one (bB false)), (28, .one (bB r21))], [], [(29, .one (bB (!r21)))], []⟩ :: ⟨[(18, .one (bB false)), (29, .one (bB (!r21)))], [], [(30, .one (bB (!r21)))], []⟩ :: [])) (deps := ([] :: [0] :: [0, 1] :: [0, 1, 2] :: [0, 1, 2, 3] :: [0, 1, 2, 3, 4] :: [0, 1, 2, 3, 4, 5] :: [0, 1, 2, 3, 4, 5, 6] :: [0, 1, 2, 3, 4, 5, 6, 7] :: [0, 1, 2, 3, 4, 5, 6, 7, 8] :: [0, 1, 2, 3, 4, 5, 6, 7, 8, 9] :: [0, 1, 2, 3, 4, 5, 6, 7, 8, 9, 10] :: [0, 1, 2, 3, 4, 5, 6, 7, 8, 9, 10, 11] :: [0, 1, 2, 3, 4, 5, 6, 7, 8, 9, 10] :: [0, 1, 2, 3, 4, 5, 6, 7, 8, 9, 10, 13] :: [0, 1, 2, 3, 4, 5, 6, 7, 8, 9, 10, 13, 14] :: [0, 1, 2, 3, 4, 5, 6, 7, 8, 9, 10, 13, 14, 15] :: [0, 1, 2, 3, 4, 5, 6, 7, 8, 9, 10] :: [0, 1, 2, 3, 4, 5, 6, 7, 8, 9, 10, 17] :: [0, 1, 2, 3, 4, 5, 6, 7, 8, 9, 10, 13, 14, 15, 16, 17, 18] :: [0, 1, 2, 3, 4, 5, 6, 7, 8, 9, 10, 11, 12, 13, 14, 15, 16, 17, 18, 19] :: (0 :: 1 :: 2 :: 3 :: 4 :: 5 :: 6 :: 7 :: 8 :: 9 :: 10 :: 11 :: 12 :: 13 :: 14 :: 15 :: 16 :: 17 :: 18 :: 19 :: 20 :: []) :: (0 :: 1 :: 2 :: 3 :: 4 :: 5 :: 6 :: 7 :: 8 :: 9 :: 10 :: 11 :: 12 :: 13 :: 14 :: 15 :: 16 :: 17 :: 18 :: 19 :: 20 :: 21 :: []) :: [])) (sl' := [(0, .one (.ro (bookΦ 66 (ents keyApi_Stamp agL_encS m0_0) (ents keyI64 agL_encApi_Dep m1_0)))), (3, .one (.ptr 1003 0)), (30, .one (bB (!r21)))]) (hp' := [(1003, some (.blk 30 [bI .i64 e_1.Kind, bI .i64 e_1.Client, bS e_1.Key, bI .i64 e_1.Stamp.N, bI .i64 e_1.Stamp.Site, .g (.d (.sl 3 (List.map encApi_Dep e_1.Seen)))]))]) follows rfl rfl rfl ⟨⟨rfl, trivial⟩, trivial, ⟨rfl, trivial⟩, ⟨⟨rfl, rfl⟩, trivial⟩, ⟨rfl, trivial⟩, trivial, ⟨rfl, trivial⟩, trivial, ⟨rfl, trivial⟩, trivial, ⟨rfl, rfl, trivial⟩, trivial, ⟨rfl, rfl, trivial⟩, ⟨⟨rfl, rfl⟩, trivial⟩, ⟨rfl, rfl, trivial⟩, trivial, ⟨rfl, rfl, trivial⟩, trivial, ⟨rfl, rfl, trivial⟩, trivial, ⟨rfl, trivial⟩, trivial, ⟨rfl, rfl, trivial⟩, trivial, ⟨rfl, rfl, trivial⟩, ⟨⟨rfl, rfl⟩, trivial⟩, ⟨rfl, rfl, trivial⟩, trivial, ⟨rfl, rfl, trivial⟩, trivial, ⟨rfl, rfl, trivial⟩, trivial, ⟨rfl, rfl, trivial⟩, trivial, ⟨rfl, rfl, trivial⟩, trivial, ⟨rfl, rfl, trivial⟩, ⟨⟨rfl, rfl⟩, trivial⟩, ⟨rfl, rfl, rfl, trivial⟩, trivial, ⟨rfl, rfl, rfl, trivial⟩, trivial, ⟨rfl, rfl, trivial⟩, trivial, ⟨rfl, rfl, trivial⟩, trivial, trivial⟩ ⟨OpW.plain (op_fieldP (off' := 2) Try.underlying30 rfl ti9 (by decide) rfl (Ev.t 3 (.ptr 1003 0)) rfl) rfl rfl, OpW.plain (op_load1P (c := bS e_1.Key) Try.underlying9 rfl rfl (Ev.t 8 (.ptr 1003 2)) rfl) rfl rfl, OpW.plain (op_callQ (sv := .one (bB r17)) cf40 (ct_keys_Check e_1.Key r17 hr17) rfl rfl (EvQL.cons (EvQ.g (Ev.t 9 (bS e_1.Key))) EvQL.nil) rfl) rfl rfl, OpW.plain (OpL.cast (op_not (Ev.t 10 (bB r17)) rfl) (congrArg (fun b => bB b) hc18)) rfl rfl, OpW.plain (op_move (Ev.t 11 (bB false)) rfl) rfl rfl, OpW.yes (op_fieldP (off' := 5) Try.underlying30 rfl ti28 (by decide) rfl (Ev.t 3 (.ptr 1003 0)) rfl) rfl rfl rfl, OpW.yes (op_load1P (c := .g (.d (.sl 3 (List.map encApi_Dep e_1.Seen)))) Try.underlying28 rfl rfl (Ev.t 13 (.ptr 1003 5)) rfl) rfl rfl rfl, OpW.yes (op_callQ (sv := .one (bB r19)) cf41 (ct_history_row e_1.Seen r19 hr19) rfl rfl (EvQL.cons (EvQ.g (Ev.t 14 (.g (.d (.sl 3 (List.map encApi_Dep e_1.Seen)))))) EvQL.nil) rfl) rfl rfl rfl, OpW.yes (OpL.cast (op_not (Ev.t 15 (bB r19)) rfl) (congrArg (fun b => bB b) hc20)) rfl rfl rfl, OpW.plain (op_pickF (Ev.t 12 (bB false)) (Ev.t 16 (bB false)) rfl) rfl rfl, OpW.plain (op_move (Ev.t 17 (bB false)) rfl) rfl rfl, OpW.yes (op_fieldP (off' := 5) Try.underlying30 rfl ti28 (by decide) rfl (Ev.t 3 (.ptr 1003 0)) rfl) rfl rfl rfl, OpW.yes (op_load1P (c := .g (.d (.sl 3 (List.map encApi_Dep e_1.Seen)))) Try.underlying28 rfl rfl (Ev.t 19 (.ptr 1003 5)) rfl) rfl rfl rfl, OpW.yes (op_move (Ev.t 0 (.ro (bookΦ 66 (ents keyApi_Stamp agL_encS m0_0) (ents keyI64 agL_encApi_Dep m1_0)))) rfl) rfl rfl rfl, OpW.yes (op_nilCheckRO (Ev.t 21 (.ro (bookΦ 66 (ents keyApi_Stamp agL_encS m0_0) (ents keyI64 agL_encApi_Dep m1_0)))) rfl) rfl rfl rfl, OpW.yes (op_fieldRO2 Try.underlying66 rfl ti64 (by decide) rfl (Ev.t 22 (.ro (bookΦ 66 (ents keyApi_Stamp agL_encS m0_0) (ents keyI64 agL_encApi_Dep m1_0)))) rfl) rfl rfl rfl, OpW.yes (op_loadRO Try.underlying64 rfl rfl (Ev.t 23 (.ro (partΦ 1 (ents keyI64 agL_encApi_Dep m1_0)))) rfl) rfl rfl rfl, OpW.yes (op_fieldP (off' := 1) Try.underlying30 rfl ti3 (by decide) rfl (Ev.t 3 (.ptr 1003 0)) rfl) rfl rfl rfl, OpW.yes (op_load1P (c := bI .i64 e_1.Client) Try.underlying3 rfl rfl (Ev.t 25 (.ptr 1003 1)) rfl) rfl rfl rfl, OpW.yes (op_lookupRO (ag := agL_encApi_Dep) (k := e_1.Client) (d0 := ([] : (List Api_Dep))) Try.underlying64 keyOK3 ti28 (fun _ _ => RD.nil none 0 _ (Nat.zero_le _)) rfl (fun _ _ _ _ h => BR.v_inv h) (Ev.t 24 (.ro (mapΦ (ents keyI64 agL_encApi_Dep m1_0)))) (Ev.t 26 (bI .i64 e_1.Client)) rfl) rfl rfl rfl, OpW.yes (op_callQ (sv := .one (bB r21)) cf42 (ct_past_Covers e_1.Seen ((mget m1_0 e_1.Client).getD []) r21 hr21) rfl rfl (EvQL.cons (EvQ.g (Ev.t 20 (.g (.d (.sl 3 (List.map encApi_Dep e_1.Seen)))))) (EvQL.cons (EvQ.g (Ev.t 27 (.g (.d (.sl 3 (List.map encApi_Dep ((mget m1_0 e_1.Client).getD []))))))) EvQL.nil)) rfl) rfl rfl rfl, OpW.yes (op_not (Ev.t 28 (bB r21)) rfl) rfl rfl rfl, OpW.plain (op_pickF (Ev.t 18 (bB false)) (Ev.t 29 (bB (!r21))) rfl) rfl rfl, trivial⟩ ⟨rfl, rfl, rfl, trivial⟩ ⟨rfl, trivial⟩ rfl ?_
      exact G.arr (J16 (!r21) hF) ⟨rfl, rfl, rfl, trivial⟩ ⟨rfl, trivial⟩ rfl


set_option maxRecDepth 20000 in
set_option maxHeartbeats 2000000 in
theorem ct_past_may (d_0 : Api_Dep) (r : Bool) (hF : past_may d_0 = some r) : Ct Try.prog 54 [.g (.agg (encApi_Dep d_0))] (.one (.d (.v (.bool r)))) := by
  unfold past_may at hF
  refine Ct.intro Try.func54 rfl Try.ntmps54 rfl rfl fun M w => ?_
  refine G.seq ?_
  refine G.region ?_
  refine G.op2 (op_boxA (k := 1001) (Ev.t 0 (.g (.agg [.v (.string d_0.Key), .v (.int .i64 d_0.Stamp.N), .v (.int .i64 d_0.Stamp.Site)]))) rfl) rfl ⟨rfl, trivial⟩ ⟨rfl, trivial⟩ ?_
  refine G.op1 (op_assign (Ev.c _ rfl) rfl) rfl trivial trivial ?_
  refine G.endOps ?_
  refine G.seq ?_
  refine G.region ?_
  refine G.op1 (op_fieldP (off' := 0) Try.underlying52 rfl ti9 (by decide) rfl (Ev.t 1 (.ptr 1001 0)) rfl) rfl ⟨rfl, trivial⟩ trivial ?_
  refine G.op1 (op_load1P (c := bS d_0.Key) Try.underlying9 rfl rfl (Ev.t 3 (.ptr 1001 0)) rfl) rfl ⟨rfl, trivial⟩ ⟨rfl, trivial⟩ ?_
  obtain ⟨r1, hr1, hF⟩ := bindS hF
  refine G.op1 (op_callQ (sv := .one (bB r1)) cf40 (ct_keys_Check d_0.Key r1 hr1) rfl rfl (EvQL.cons (EvQ.g (Ev.t 4 (bS d_0.Key))) EvQL.nil) rfl) rfl ⟨rfl, trivial⟩ trivial ?_
  refine G.op1 (op_move (Ev.t 5 (bB r1)) rfl) rfl ⟨rfl, trivial⟩ trivial ?_
  refine ifS hF (fun hc2 hF => ?_) (fun hc2 hF => ?_)
  · refine G.known (t := 6) hc2 rfl ?_
    refine G.opG1 (op_fieldP (off' := 1) Try.underlying52 rfl ti27 (by decide) rfl (Ev.t 1 (.ptr 1001 0)) rfl) rfl rfl rfl ⟨rfl, trivial⟩ trivial ?_
    refine G.opG1 (op_loadAP (ds := [.v (.int .i64 d_0.Stamp.N), .v (.int .i64 d_0.Stamp.Site)]) Try.underlying27 rfl ti27 rfl (Ev.t 7 (.ptr 1001 1)) rfl) rfl rfl rfl ⟨rfl, trivial⟩ ⟨rfl, trivial⟩ ?_
    obtain ⟨r3, hr3, hF⟩ := bindS hF
    refine G.opG1 (op_callQ (sv := .one (bB r3)) cf46 (ct_stamp_Check d_0.Stamp r3 hr3) rfl rfl (EvQL.cons (EvQ.g (Ev.t 8 (.g (.agg [.v (.int .i64 d_0.Stamp.N), .v (.int .i64 d_0.Stamp.Site)])))) EvQL.nil) rfl) rfl rfl rfl ⟨rfl, trivial⟩ trivial ?_
    refine G.op1 (op_pickT (Ev.t 6 (bB true)) (Ev.t 9 (bB r3)) rfl) rfl ⟨rfl, rfl, trivial⟩ trivial ?_
    refine G.op1 (op_assign (Ev.t 10 (bB r3)) rfl) rfl ⟨rfl, trivial⟩ trivial ?_
    refine G.endOps ?_
    cases hF
    exact G.ret1 Try.results54 (RVar.tmp 2 _) ⟨rfl, trivial⟩ trivial
  · refine G.known (t := 6) hc2 rfl ?_
    refine G.opN1 rfl rfl rfl rfl rfl ?_
    refine G.opN1 rfl rfl rfl rfl rfl ?_
    refine G.opN1 rfl rfl rfl rfl rfl ?_
    refine G.op1 (op_pickF (Ev.t 6 (bB false)) (Ev.c _ rfl) rfl) rfl ⟨rfl, trivial⟩ trivial ?_
    refine G.op1 (op_assign (Ev.t 10 (bB false)) rfl) rfl ⟨rfl, trivial⟩ trivial ?_
    refine G.endOps ?_
    cases hF
    exact G.ret1 Try.results54 (RVar.tmp 2 _) ⟨rfl, trivial⟩ trivial


set_option maxRecDepth 20000 in
set_option maxHeartbeats 2000000 in
theorem ct_slices_Clone_Dep (s_0 : (List Api_Dep)) (r : (List Api_Dep)) (hF : slices_Clone_Dep s_0 = some r) : Ct Try.prog 56 [.g (.d (.sl 3 (List.map encApi_Dep s_0)))] (.new 52 3 (List.map encApi_Dep r)) := by
  unfold slices_Clone_Dep at hF
  refine Ct.intro Try.func56 rfl Try.ntmps56 rfl rfl fun M w => ?_
  refine G.seq ?_
  refine G.region ?_
  refine G.op1 (op_assign (c := .x (.slice none 0 0)) (Ev.x _) rfl) rfl trivial trivial ?_
  refine G.endOps ?_
  refine G.seq ?_
  refine G.seq ?_
  refine G.region ?_
  refine G.op1 (op_move (Ev.t 0 (.g (.d (.sl 3 (List.map encApi_Dep s_0))))) rfl) rfl ⟨rfl, trivial⟩ trivial ?_
  refine G.opNil Try.underlying28 (Ev.t 3 (.g (.d (.sl 3 (List.map encApi_Dep s_0))))) rfl ⟨rfl, trivial⟩ (fun nilb1 hnilb1 => ?_)
  refine G.endOps ?_
  refine G.cond rfl (fun hx => ?_) (fun hx => ?_)
  · replace hF := cloneNil (hnilb1 hx) hF
    refine G.seq ?_
    refine G.region ?_
    refine G.op1 (op_assign (c := .x (.slice none 0 0)) (Ev.x _) rfl) rfl trivial trivial ?_
    refine G.endOps ?_
    cases hF
    exact G.retNil (T := 52) Try.results56 ti52 rfl ⟨rfl, trivial⟩
  · clear hnilb1
    refine G.skip ?_
    refine G.seq ?_
    refine G.region ?_
    refine G.op2 (op_buildRow (kk := 2005) Try.underlying28 ti52 rfl rfl) rfl trivial ⟨rfl, trivial⟩ ?_
    refine G.keep (sl' := [(0, .one (.g (.d (.sl 3 (List.map encApi_Dep s_0))))), (2, .one (.x (.slice none 0 0))), (3, .one (.g (.d (.sl 3 (List.map encApi_Dep s_0))))), (4, .one (bB nilb1)), (5, .one (.own 2005 (List.map encApi_Dep ([] : List Api_Dep))))]) (hp' := [(2005, some (.row 52 3 (List.map encApi_Dep ([] : List Api_Dep)) true))]) ⟨rfl, rfl, rfl, rfl, rfl, trivial⟩ ⟨rfl, trivial⟩ rfl ?_
    refine G.op1 (op_move (Ev.t 0 (.g (.d (.sl 3 (List.map encApi_Dep s_0))))) rfl) rfl ⟨rfl, trivial⟩ trivial ?_
    obtain ⟨l2, hl2, hF⟩ := bindS hF
    refine G.op2 (op_appendO Try.underlying28 ti52 rfl (app_map hl2 encApi_Dep) (app_b1 hl2 encApi_Dep) (app_b2 hl2 encApi_Dep) (Ev.t 5 (.own 2005 (List.map encApi_Dep ([] : List Api_Dep)))) (Ev.t 6 (.g (.d (.sl 3 (List.map encApi_Dep s_0))))) rfl) rfl ⟨rfl, rfl, trivial⟩ ⟨rfl, trivial⟩ ?_
    refine G.op1 (op_assign (Ev.t 7 (.own 2005 (List.map encApi_Dep l2))) rfl) rfl ⟨rfl, trivial⟩ trivial ?_
    refine G.endOps ?_
    cases hF
    exact G.retNew Try.results56 rfl rfl


theorem insInfo55 : (Try.prog.info? 52).map (fun i => (i.zero, i.size, i.bytes)) = some (some (.agg #[.string ByteArray.empty, .int .i64 0, .int .i64 0]), 3, 32) := by kernel_rfl
theorem insExt55 (args : Array Value) (w w' : World) (v : Value) (h : (Extern.SlicesOverlaps.overlaps #[28, 28] #[4] args).run Try.prog w = .ok v w') : (callFunc 66 args).run Try.prog w = .ok (.value v) w' := by
  rw [run_callFunc_extern Try.func66 (by kernel_rfl) (by kernel_rfl) (by kernel_rfl) (e := Extern.SlicesOverlaps.overlaps #[28, 28] #[4]) (by kernel_rfl), h]
  rfl

set_option maxRecDepth 100000 in
set_option maxHeartbeats 4000000 in
theorem insShift55 (b n c i vb voff vc : Nat) (cs vs : List Value) (w : World) (hi : i < n) (hroom : n + 1 ≤ c) (hc63 : c ≤ 9223372036854775807) (hvb : vb ≠ b)
    (hcl : cs.length = n * 3) (hvl : vs.length = 3)
    (hcs : ∀ j v, cs[j]? = some v → w.cell? ⟨b, j, none⟩ = some v) (hsp : ∀ j, j < (n + 1) * 3 → (w.cell? ⟨b, j, none⟩).isSome = true) (hfz : ∀ j, j < (n + 1) * 3 → w.frozen? ⟨b, j, none⟩ = false)
    (hvs : ∀ j v, vs[j]? = some v → w.cell? ⟨vb, voff + j, none⟩ = some v) (h1c : ∀ v ∈ cs, v.oneCell' = true) (h1v : ∀ v ∈ vs, v.oneCell' = true)
    (hov : ∀ lb cb, (callFunc 66 #[.slice (some ⟨vb, voff, none⟩) 1 vc, .slice (some ⟨b, (i + 1) * 3, none⟩) lb cb]).run Try.prog w = .ok (.value (.bool false)) w) :
    Calls Try.prog 55 #[.slice (some ⟨b, 0, none⟩) n c, .int .i64 i, .slice (some ⟨vb, voff, none⟩) 1 vc] w fun e w' =>
      e = .returned (.slice (some ⟨b, 0, none⟩) (n + 1) c) ∧ w' = (w.drew.setCells b ((i + 1) * 3) (cs.drop (i * 3))).setCells b (i * 3) vs := by
  have t0 := Try.underlying0; have a0 := Try.isAgg0; have z0 := Try.sizeOf0; have v0 := Try.zeroValue0; have u0 := run_underlying t0
  have t3 := Try.underlying3; have a3 := Try.isAgg3; have z3 := Try.sizeOf3; have v3 := Try.zeroValue3; have u3 := run_underlying t3
  have t4 := Try.underlying4; have a4 := Try.isAgg4; have z4 := Try.sizeOf4; have v4 := Try.zeroValue4; have u4 := run_underlying t4
  have t28 := Try.underlying28; have a28 := Try.isAgg28; have z28 := Try.sizeOf28; have v28 := Try.zeroValue28; have u28 := run_underlying t28
  have z52 := Try.sizeOf52
  have hz2 : ¬ ((i : Int) = (n : Int)) := by omega
  have hsz : (Try.prog.info? 52).map (·.size) = some 3 := by
    obtain ⟨i0, hi0, h0, h1, h2⟩ := info_parts insInfo55
    rw [hi0]; simp [h1]
  have hdl : (cs.drop (i * 3)).length = (n - i) * 3 := by rw [List.length_drop, hcl, Nat.sub_mul]
  have mixed := follows
  have hw0 : IntKind.i64.wrap ((n : Int) + 1) = (n : Int) + 1 := by rw [IntKind.wrap_i64]; omega
  have hw1 : IntKind.i64.wrap ((i : Int) + 1) = (i : Int) + 1 := by rw [IntKind.wrap_i64]; omega
  have hb0 : (0 : Int) ≤ (n : Int) + 1 := by omega
  have hb1 : (0 : Int) ≤ (i : Int) + 1 := by omega
  have hin : i ≤ n := by omega
  have htn : ((i : Int) + 1).toNat = i + 1 := by omega
  have htn2 : ((n : Int) + 1).toNat = n + 1 := by omega
  have hb2 : ¬ (c = i + 1) := by omega
  have hb3 : (i : Int) ≤ (n : Int) + 1 := by omega
  have hb4 : ¬ (c = i) := by omega
  have hb5 : ¬ ((c : Int) < (n : Int) + 1) := by omega
  have hb6 : (n : Int) + 1 ≤ (c : Int) := by omega
  have hcp1 : ∀ ty dc sc, (Builtin.copy_ #[28, 28] ty #[.slice (some ⟨b, (i + 1) * 3, none⟩) (n - i) dc, .slice (some ⟨b, i * 3, none⟩) (n + 1 - i) sc]).run Try.prog w.drew = .ok (goInt ((n - i : Nat) : Int)) (w.drew.setCells b ((i + 1) * 3) (cs.drop (i * 3))) := fun ty dc sc =>
    run_copy_rows w.drew _ _ ty 52 b ((i + 1) * 3) (n - i) dc ⟨b, i * 3, none⟩ (n + 1 - i) sc 3 (n - i) (cs.drop (i * 3)) t28 hsz (by simp only [Nat.min_def]; split <;> omega) hdl
      (fun j v hj => by rw [Addr.add_lit]; exact hcs (i * 3 + j) v (by rwa [List.getElem?_drop] at hj))
      (fun j hj => hsp _ (by rw [hdl] at hj; omega)) (fun j hj => hfz _ (by rw [hdl] at hj; omega)) (fun v hv => h1c v (List.mem_of_mem_drop hv))
  obtain ⟨W1, hW1⟩ : ∃ W1, W1 = w.drew.setCells b ((i + 1) * 3) (cs.drop (i * 3)) := ⟨_, rfl⟩
  have hsp1 : ∀ k, k < (n + 1) * 3 → (W1.cell? ⟨b, k, none⟩).isSome = true := fun k hk => by
    rw [hW1]
    exact isSome_setCells b (cs.drop (i * 3)) ((i + 1) * 3) w.drew (fun j hj => hsp ((i + 1) * 3 + j) (by rw [hdl] at hj; omega)) k (hsp k hk)
  have hcp2 : ∀ (W : World), (∀ x, W.cell? x = W1.cell? x) → (∀ x, W.frozen? x = W1.frozen? x) → ∀ ty dc, (Builtin.copy_ #[28, 28] ty #[.slice (some ⟨b, i * 3, none⟩) (n + 1 - i) dc, .slice (some ⟨vb, voff, none⟩) 1 vc]).run Try.prog W = .ok (goInt 1) (W.setCells b (i * 3) vs) := fun W hWc hWf ty dc =>
    run_copy_rows W _ _ ty 52 b (i * 3) (n + 1 - i) dc ⟨vb, voff, none⟩ 1 vc 3 1 vs t28 hsz (by simp only [Nat.min_def]; split <;> omega) (by rw [hvl])
      (fun j v hj => by
        rw [Addr.add_lit, hWc, hW1, World.cell?_setCells_out b _ _ _ _ (fun h _ => absurd h hvb)]
        exact hvs j v hj)
      (fun j hj => by rw [hWc]; exact hsp1 _ (by rw [hvl] at hj; omega)) (fun j hj => by rw [hWf, hW1, World.frozen?_setCells]; exact hfz _ (by rw [hvl] at hj; omega)) h1v
  rw [← hW1] at hcp1
  go_enter Try.func55, Try.ntmps55
  go_wp2_with (simp only [hov])
  go_region_law_o (refine step_copy_runI rfl _ _ 28 28 rfl _ _ (by simp [Act.eval, Act.put]) (by simp [Act.eval, Act.put]) (hcp1 _ _ _) ?_)
  go_wp2_with (at_builtin; refine wpList_copy_runI _ rfl _ _ 28 28 rfl _ _ rfl rfl (hcp2 _ (fun _ => rfl) (fun _ => rfl) _ _) ?_)
  go_ret
  first | exact ⟨rfl, rfl⟩ | exact ⟨rfl, by rw [hW1]⟩

set_option maxRecDepth 100000 in
set_option maxHeartbeats 4000000 in
theorem insRoom55 (b n c vb voff vc : Nat) (vs : List Value) (w : World) (hroom : n + 1 ≤ c) (hc63 : c ≤ 9223372036854775807) (hvl : vs.length = 3)
    (hsp : ∀ j, j < 3 → (w.cell? ⟨b, n * 3 + j, none⟩).isSome = true) (hfz : ∀ j, j < 3 → w.frozen? ⟨b, n * 3 + j, none⟩ = false)
    (hvs : ∀ j v, vs[j]? = some v → w.cell? ⟨vb, voff + j, none⟩ = some v) (h1v : ∀ v ∈ vs, v.oneCell' = true) :
    Calls Try.prog 55 #[.slice (some ⟨b, 0, none⟩) n c, .int .i64 n, .slice (some ⟨vb, voff, none⟩) 1 vc] w fun e w' =>
      e = .returned (.slice (some ⟨b, 0, none⟩) (n + 1) c) ∧ w' = w.setCells b (n * 3) vs := by
  have t0 := Try.underlying0; have a0 := Try.isAgg0; have z0 := Try.sizeOf0; have v0 := Try.zeroValue0; have u0 := run_underlying t0
  have t3 := Try.underlying3; have a3 := Try.isAgg3; have z3 := Try.sizeOf3; have v3 := Try.zeroValue3; have u3 := run_underlying t3
  have t4 := Try.underlying4; have a4 := Try.isAgg4; have z4 := Try.sizeOf4; have v4 := Try.zeroValue4; have u4 := run_underlying t4
  have t28 := Try.underlying28; have a28 := Try.isAgg28; have z28 := Try.sizeOf28; have v28 := Try.zeroValue28; have u28 := run_underlying t28
  have z52 := Try.sizeOf52
  obtain ⟨i0, hi0, hz0, hzs, hzb⟩ := info_parts insInfo55
  have mixed := follows
  have hsrc : Src Try.prog i0.size 28 (.slice (some ⟨vb, voff, none⟩) 1 vc) 1 vs w := by
    rw [hzs]
    exact Src.ofSlice w t28 ⟨vb, voff, none⟩ 1 vc vs (by omega) (fun j u hj => by rw [Addr.add_lit]; exact hvs j u hj) h1v
  have hrun : ∀ ty, (Builtin.append_ #[28, 28] ty #[.slice (some ⟨b, 0, none⟩) n c, .slice (some ⟨vb, voff, none⟩) 1 vc]).run Try.prog w = .ok (.slice (some ⟨b, 0, none⟩) (n + 1) c) (w.setCells b (n * 3) vs) := fun ty => by
    have h := run_append_room_src w 28 28 ty 52 i0 t28 hi0 b 0 n c _ 1 vs hsrc hroom (fun j hj => by rw [hzs, Nat.zero_add]; exact hsp j (by omega)) (fun j hj => by rw [hzs, Nat.zero_add]; exact hfz j (by omega))
    rw [hzs, Nat.zero_add] at h
    exact h
  go_enter Try.func55, Try.ntmps55
  go_wp2_with (at_builtin; refine Lib.wpList_append_run _ rfl _ _ _ _ rfl _ _ rfl rfl _ _ (hrun _) ?_)
  go_ret
  exact ⟨rfl, rfl⟩

set_option maxRecDepth 100000 in
set_option maxHeartbeats 4000000 in
theorem insEnd55 (base : Option Addr) (n c vb voff vc : Nat) (cs vs : List Value) (w : World) (hnc : n ≤ c) (hroom : c < n + 1) (hbig : (n + 1) * 32 ≤ 140737488355328)
    (hcl : cs.length = n * 3) (hvl : vs.length = 3) (hnil : base = none → n = 0) (hcs : ∀ a, base = some a → ∀ j v, cs[j]? = some v → w.cell? (a.add j) = some v)
    (hvs : ∀ j v, vs[j]? = some v → w.cell? ⟨vb, voff + j, none⟩ = some v) (h1v : ∀ v ∈ vs, v.oneCell' = true) :
    Calls Try.prog 55 #[.slice base n c, .int .i64 n, .slice (some ⟨vb, voff, none⟩) 1 vc] w fun e w' =>
      e = .returned (.slice (some ⟨w.heap.size, 0, none⟩) (n + 1) (grownCap w (n + 1) c 52)) ∧
      w' = w.drew.alloc (.cells ((cs ++ vs).toArray ++ Builtin.zeroCells (.agg #[.string ByteArray.empty, .int .i64 0, .int .i64 0] : Value).cells (grownCap w (n + 1) c 52 - (n + 1))) 52) := by
  have t0 := Try.underlying0; have a0 := Try.isAgg0; have z0 := Try.sizeOf0; have v0 := Try.zeroValue0; have u0 := run_underlying t0
  have t3 := Try.underlying3; have a3 := Try.isAgg3; have z3 := Try.sizeOf3; have v3 := Try.zeroValue3; have u3 := run_underlying t3
  have t4 := Try.underlying4; have a4 := Try.isAgg4; have z4 := Try.sizeOf4; have v4 := Try.zeroValue4; have u4 := run_underlying t4
  have t28 := Try.underlying28; have a28 := Try.isAgg28; have z28 := Try.sizeOf28; have v28 := Try.zeroValue28; have u28 := run_underlying t28
  have z52 := Try.sizeOf52
  obtain ⟨i0, hi0, hz0, hzs, hzb⟩ := info_parts insInfo55
  have mixed := follows
  have hsrc : Src Try.prog i0.size 28 (.slice (some ⟨vb, voff, none⟩) 1 vc) 1 vs w := by
    rw [hzs]
    exact Src.ofSlice w t28 ⟨vb, voff, none⟩ 1 vc vs (by omega) (fun j u hj => by rw [Addr.add_lit]; exact hvs j u hj) h1v
  have hold : (Builtin.firstCells i0.size n (.slice base n c)).run Try.prog w.drew = .ok cs.toArray w.drew := by
    rw [hzs]
    cases base with
    | none =>
      have h0 := hnil rfl
      subst h0
      rw [List.length_eq_zero_iff.1 (by omega : cs.length = 0)]
      exact run_firstCells_none w.drew 3 0 0 c
    | some a => exact run_firstCells_some w.drew 3 n a n c cs (by omega) (fun j v hj => hcs a rfl j v hj)
  have hrun : ∀ ty, (Builtin.append_ #[28, 28] ty #[.slice base n c, .slice (some ⟨vb, voff, none⟩) 1 vc]).run Try.prog w = _ := fun ty =>
    run_append_grow_src w 28 28 ty 52 i0 _ t28 hi0 hz0 base n c cs hold _ 1 vs hsrc hroom (by omega) (by rw [hzb]; exact growslice_fits hroom hbig)
  go_enter Try.func55, Try.ntmps55
  cases base with
  | none =>
    have h0 := hnil rfl
    subst h0
    go_wp2_with (at_builtin; refine Lib.wpList_append_run _ rfl _ _ _ _ rfl _ _ rfl rfl _ _ (hrun _) ?_)
    go_ret
    exact ⟨rfl, rfl⟩
  | some a =>
    obtain ⟨ab, ao, asp⟩ := a
    go_wp2_with (at_builtin; refine Lib.wpList_append_run _ rfl _ _ _ _ rfl _ _ rfl rfl _ _ (hrun _) ?_)
    all_goals (go_ret; exact ⟨rfl, rfl⟩)

set_option maxRecDepth 100000 in
set_option maxHeartbeats 4000000 in
theorem insGrow55 (b n c i vb voff vc : Nat) (cs vs : List Value) (w : World) (hi : i < n) (hnc : n ≤ c) (hroom : c < n + 1) (hbig : (n + 1) * 32 ≤ 140737488355328)
    (hcl : cs.length = n * 3) (hvl : vs.length = 3)
    (hcs : ∀ j v, cs[j]? = some v → w.cell? ⟨b, j, none⟩ = some v)
    (hvs : ∀ j v, vs[j]? = some v → w.cell? ⟨vb, voff + j, none⟩ = some v) (h1c : ∀ v ∈ cs, v.oneCell' = true) (h1v : ∀ v ∈ vs, v.oneCell' = true) :
    Calls Try.prog 55 #[.slice (some ⟨b, 0, none⟩) n c, .int .i64 i, .slice (some ⟨vb, voff, none⟩) 1 vc] w fun e w' =>
      e = .returned (.slice (some ⟨w.heap.size, 0, none⟩) (n + 1) (grownCap w (n + 1) c 52)) ∧
      w' = (((w.alloc (.cells ((cs.take (i * 3)).toArray ++ Builtin.zeroCells (.agg #[.string ByteArray.empty, .int .i64 0, .int .i64 0] : Value).cells (n + 1 - i) ++ Builtin.zeroCells (.agg #[.string ByteArray.empty, .int .i64 0, .int .i64 0] : Value).cells (grownCap w (n + 1) c 52 - (n + 1))) 52)).drew.setCells w.heap.size (i * 3) vs).drew).setCells w.heap.size ((i + 1) * 3) (cs.drop (i * 3)) := by
  have t0 := Try.underlying0; have a0 := Try.isAgg0; have z0 := Try.sizeOf0; have v0 := Try.zeroValue0; have u0 := run_underlying t0
  have t3 := Try.underlying3; have a3 := Try.isAgg3; have z3 := Try.sizeOf3; have v3 := Try.zeroValue3; have u3 := run_underlying t3
  have t4 := Try.underlying4; have a4 := Try.isAgg4; have z4 := Try.sizeOf4; have v4 := Try.zeroValue4; have u4 := run_underlying t4
  have t28 := Try.underlying28; have a28 := Try.isAgg28; have z28 := Try.sizeOf28; have v28 := Try.zeroValue28; have u28 := run_underlying t28
  have z52 := Try.sizeOf52
  have mixed := follows
  obtain ⟨i0, hi0, hz0, hzs, hzb⟩ := info_parts insInfo55
  have hz2 : ¬ ((i : Int) = (n : Int)) := by omega
  have hz3 : (c : Int) < (n : Int) + 1 := by omega
  have hsz : (Try.prog.info? 52).map (·.size) = some 3 := by rw [hi0]; simp [hzs]
  have hbw : b < w.heap.size := block_lt_of_cell (hcs 0 _ (List.getElem?_eq_getElem (by omega)))
  have hvw : vb < w.heap.size := block_lt_of_cell (hvs 0 _ (List.getElem?_eq_getElem (by omega)))
  have hkk : (n : Int) + 1 - (i : Int) = ((n + 1 - i : Nat) : Int) := by omega
  have hik : i + (n + 1 - i) = n + 1 := by omega
  have hold : (Builtin.firstCells i0.size i (.slice (some ⟨b, 0, none⟩) i c)).run Try.prog w.drew = .ok (cs.take (i * 3)).toArray w.drew := by
    rw [hzs]
    exact run_firstCells_some w.drew 3 i ⟨b, 0, none⟩ i c (cs.take (i * 3)) (by rw [List.length_take]; omega) (fun j v hj => by
      rw [Addr.add_lit, Nat.zero_add]
      rw [List.getElem?_take] at hj
      split at hj
      · exact hcs j v hj
      · cases hj)
  have hrz : ∀ ty, (Builtin.append_ #[28, 3] ty #[.slice (some ⟨b, 0, none⟩) i c, .int .i64 ((n : Int) + 1 - (i : Int))]).run Try.prog w =
      .ok (.slice (some ⟨w.heap.size, 0, none⟩) (n + 1) (grownCap w (n + 1) c 52)) (w.drew.alloc (.cells ((cs.take (i * 3)).toArray ++ Builtin.zeroCells (.agg #[.string ByteArray.empty, .int .i64 0, .int .i64 0] : Value).cells (n + 1 - i) ++ Builtin.zeroCells (.agg #[.string ByteArray.empty, .int .i64 0, .int .i64 0] : Value).cells (grownCap w (n + 1) c 52 - (n + 1))) 52)) := fun ty => by
    have h := Lib.run_append_grow_zeros w 28 3 ty 52 i0 _ .i64 .i64 t28 t3 hi0 hz0 (some ⟨b, 0, none⟩) i c (cs.take (i * 3)) hold (n + 1 - i) (by omega) (by omega) (by omega) (by omega) (by rw [hzb]; omega) (by rw [hzb, hik]; exact growslice_fits hroom hbig)
    rw [hik] at h
    rw [hkk]
    exact h
  obtain ⟨G, hG⟩ : ∃ G, G = grownCap w (n + 1) c 52 := ⟨_, rfl⟩
  obtain ⟨ROW, hROW⟩ : ∃ ROW : Array Value, ROW = (cs.take (i * 3)).toArray ++ Builtin.zeroCells (.agg #[.string ByteArray.empty, .int .i64 0, .int .i64 0] : Value).cells (n + 1 - i) ++ Builtin.zeroCells (.agg #[.string ByteArray.empty, .int .i64 0, .int .i64 0] : Value).cells (G - (n + 1)) := ⟨_, rfl⟩
  rw [← hG] at hrz ⊢
  rw [← hROW] at hrz ⊢
  have hGn : n + 1 ≤ G := by rw [hG]; exact grownCap_ge w _ _ _
  have hRl : (n + 1) * 3 ≤ ROW.size := by
    rw [hROW]
    simp [Builtin.zeroCells, Value.cells]
    omega
  obtain ⟨W1, hW1⟩ : ∃ W1, W1 = w.drew.alloc (.cells ROW 52) := ⟨_, rfl⟩
  rw [← hW1] at hrz
  have hN : ∀ j, j < (n + 1) * 3 → (W1.cell? ⟨w.heap.size, j, none⟩).isSome = true := fun j hj => by
    rw [hW1, World.cell?_alloc_at (w := w.drew) ROW _ w.heap.size j rfl, Array.getElem?_eq_getElem (by omega)]; rfl
  have hNf : ∀ j, W1.frozen? ⟨w.heap.size, j, none⟩ = false := fun j => by rw [hW1]; exact World.frozen?_alloc_at (w := w.drew) ROW _ w.heap.size j rfl
  have hOb : ∀ j v, w.cell? ⟨b, j, none⟩ = some v → W1.cell? ⟨b, j, none⟩ = some v := fun j v h => by rw [hW1, World.cell?_alloc_past (w := w.drew) _ b j hbw]; exact h
  have hOv : ∀ j v, w.cell? ⟨vb, j, none⟩ = some v → W1.cell? ⟨vb, j, none⟩ = some v := fun j v h => by rw [hW1, World.cell?_alloc_past (w := w.drew) _ vb j hvw]; exact h
  have hcpA : ∀ (W : World), (∀ x, W.cell? x = W1.cell? x) → (∀ x, W.frozen? x = W1.frozen? x) → ∀ ty dc, (Builtin.copy_ #[28, 28] ty #[.slice (some ⟨w.heap.size, i * 3, none⟩) (n + 1 - i) dc, .slice (some ⟨vb, voff, none⟩) 1 vc]).run Try.prog W = .ok (goInt 1) (W.setCells w.heap.size (i * 3) vs) := fun W hWc hWf ty dc =>
    run_copy_rows W _ _ ty 52 w.heap.size (i * 3) (n + 1 - i) dc ⟨vb, voff, none⟩ 1 vc 3 1 vs t28 hsz (by simp only [Nat.min_def]; split <;> omega) (by rw [hvl])
      (fun j v hj => by rw [Addr.add_lit, hWc]; exact hOv _ v (hvs j v hj))
      (fun j hj => by rw [hWc]; exact hN _ (by omega)) (fun j hj => by rw [hWf]; exact hNf _) h1v
  have hG63 : G ≤ 9223372036854775807 := by
    have := grownCap_le_maxLen w (n + 1) c 52 (by unfold maxLen; omega)
    rw [← hG] at this
    unfold maxLen at this
    omega
  have hGi : ¬ (G = i) := by omega
  have hGim : ¬ (G = i + 1) := by omega
  have hci : ¬ (c = i) := by omega
  have hbN : b ≠ w.heap.size := by omega
  have hdl : (cs.drop (i * 3)).length = (n - i) * 3 := by rw [List.length_drop, hcl, Nat.sub_mul]
  have hcpB : ∀ (W : World), (∀ x, W.cell? x = (W1.setCells w.heap.size (i * 3) vs).cell? x) → (∀ x, W.frozen? x = (W1.setCells w.heap.size (i * 3) vs).frozen? x) → ∀ ty dc sc, (Builtin.copy_ #[28, 28] ty #[.slice (some ⟨w.heap.size, (i + 1) * 3, none⟩) (n - i) dc, .slice (some ⟨b, i * 3, none⟩) (n - i) sc]).run Try.prog W = .ok (goInt ((n - i : Nat) : Int)) (W.setCells w.heap.size ((i + 1) * 3) (cs.drop (i * 3))) := fun W hWc hWf ty dc sc =>
    run_copy_rows W _ _ ty 52 w.heap.size ((i + 1) * 3) (n - i) dc ⟨b, i * 3, none⟩ (n - i) sc 3 (n - i) (cs.drop (i * 3)) t28 hsz (by simp only [Nat.min_def]; split <;> omega) hdl
      (fun j v hj => by
        rw [Addr.add_lit, hWc, World.cell?_setCells_out _ _ _ _ _ (fun h _ => absurd h hbN)]
        exact hOb _ v (hcs (i * 3 + j) v (by rwa [List.getElem?_drop] at hj)))
      (fun j hj => by rw [hWc]; exact isSome_setCells w.heap.size vs (i * 3) W1 (fun t ht => hN (i * 3 + t) (by omega)) ((i + 1) * 3 + j) (hN ((i + 1) * 3 + j) (by omega)))
      (fun j hj => by rw [hWf, World.frozen?_setCells]; exact hNf _) (fun v hv => h1c v (List.mem_of_mem_drop hv))
  subst hW1
  have hE1 : ∀ x, ((w.alloc (.cells ROW 52)).drew).cell? x = (w.drew.alloc (.cells ROW 52)).cell? x := fun x => rfl
  have hE2 : ∀ x, ((w.alloc (.cells ROW 52)).drew).frozen? x = (w.drew.alloc (.cells ROW 52)).frozen? x := fun x => rfl
  have hF1 : ∀ x, (((w.alloc (.cells ROW 52)).drew.setCells w.heap.size (i * 3) vs).drew).cell? x = ((w.drew.alloc (.cells ROW 52)).setCells w.heap.size (i * 3) vs).cell? x := fun x => rfl
  have hF2 : ∀ x, (((w.alloc (.cells ROW 52)).drew.setCells w.heap.size (i * 3) vs).drew).frozen? x = ((w.drew.alloc (.cells ROW 52)).setCells w.heap.size (i * 3) vs).frozen? x := fun x => rfl
  have hw0 : IntKind.i64.wrap ((n : Int) + 1) = (n : Int) + 1 := by rw [IntKind.wrap_i64]; omega
  have hw1 : IntKind.i64.wrap ((i : Int) + 1) = (i : Int) + 1 := by rw [IntKind.wrap_i64]; omega
  have hw2 : IntKind.i64.wrap ((n : Int) + 1 - (i : Int)) = (n : Int) + 1 - (i : Int) := by rw [IntKind.wrap_i64]; omega
  have hb1 : (0 : Int) ≤ (i : Int) + 1 := by omega
  have hin : i ≤ n := by omega
  have htn : ((i : Int) + 1).toNat = i + 1 := by omega
  have hb3 : (i : Int) ≤ (n : Int) := by omega
  clear hkk hik hold hROW hG hRl
  go_enter Try.func55, Try.ntmps55
  go_wp2_with (first
    | (at_builtin; refine Lib.wpList_append_run _ rfl _ _ _ _ rfl _ _ rfl rfl _ _ (hrz _) ?_)
    | (at_builtin; refine wpList_copy_runI _ rfl _ _ 28 28 rfl _ _ rfl rfl (hcpA _ hE1 hE2 _ _) ?_)
    | (at_builtin; refine wpList_copy_runI _ rfl _ _ 28 28 rfl _ _ rfl rfl (hcpB _ (fun _ => rfl) (fun _ => rfl) _ _ _) ?_))
  go_region_law_o (refine step_copy_runI rfl _ _ 28 28 rfl (.slice (some ⟨w.heap.size, (i + 1) * 3, none⟩) (n - i) (G - (i + 1))) (.slice (some ⟨b, i * 3, none⟩) (n - i) (c - i)) (by simp [Act.eval, Act.put]) (by simp [Act.eval, Act.put]) (hcpB _ hF1 hF2 3 (G - (i + 1)) (c - i)) ?_)
  go_wp2
  go_ret
  exact ⟨rfl, rfl⟩

theorem ct_slices_Insert_Dep (s_0 : List Api_Dep) (i_1 : Int) (v_2 : List Api_Dep) (r : List Api_Dep) (hF : slices_Insert_Dep s_0 i_1 v_2 = some r) : Ct Try.prog 55 [.row 52 3 (List.map encApi_Dep s_0), .g (.d (.v (.int .i64 i_1))), .g (.d (.sl 3 (List.map encApi_Dep v_2)))] (.new 52 3 (List.map encApi_Dep r)) := by
  unfold slices_Insert_Dep at hF
  obtain ⟨x, k, rfl, rfl, hk, hm, hb, rfl⟩ := insL_ok hF
  have hml : maxLen = 9223372036854775807 := rfl
  have h := ct_insert (P := Try.prog) (f := 55) (E := 52) (z := 3) (es := List.map encApi_Dep s_0) (x := encApi_Dep x) (i := k) (by simpa using hk) rfl
    (fun hnil w a vb vo vc vs hV => by
      have hs : s_0 = [] := by simpa using hnil
      subst hs
      have hk0 : k = 0 := by simpa using hk
      subst hk0
      refine (insEnd55 a 0 0 vb vo vc [] vs w (Nat.le_refl _) (by omega) (by omega) rfl hV.len (fun _ => rfl) (fun _ _ j v h => by simp at h) hV.cell hV.one).mono fun e w' ⟨h1, h2⟩ => ⟨_, h1, ?_⟩
      subst h2
      exact InsR.fresh (n := 0) (by simp [hV.len]) (zeroCells_size _ _) (grownCap_ge w _ _ _) (grownCap_le_maxLen w _ _ _ (by rw [hml]; omega)))
    (fun w b c cur vb vo vc vs hh hc hle hm2 hone hV => by
      have hl : (List.map encApi_Dep s_0).length = s_0.length := by simp
      rw [hl] at hle hone ⊢
      have hbc : s_0.length * 3 ≤ cur.size := by rw [hc]; exact Nat.mul_le_mul_right _ hle
      have hcl : (cur.toList.take (s_0.length * 3)).length = s_0.length * 3 := by have := Array.length_toList (xs := cur); rw [List.length_take]; omega
      have hcs : ∀ j v, (cur.toList.take (s_0.length * 3))[j]? = some v → w.cell? ⟨b, j, none⟩ = some v := fun j v hj => by
        have hlt := (List.getElem?_eq_some_iff.1 hj).1
        rw [hcl] at hlt
        rw [List.getElem?_take_of_lt hlt, Array.getElem?_toList] at hj
        rw [cell_of_cells hh]; exact hj
      have h1c : ∀ v ∈ cur.toList.take (s_0.length * 3), v.oneCell' = true := fun v hv => by
        obtain ⟨j, hj, e⟩ := List.getElem_of_mem hv
        have hg := List.getElem?_eq_getElem hj
        rw [hcl] at hj
        rw [e, List.getElem?_take_of_lt hj, Array.getElem?_toList] at hg
        exact hone j v hj hg
      have hvb : vb ≠ b := fun c => hV.apart (by rw [c])
      by_cases hr : s_0.length + 1 ≤ c
      · have hbr : (s_0.length + 1) * 3 ≤ cur.size := by rw [hc]; exact Nat.mul_le_mul_right _ hr
        have hsp : ∀ j, j < (s_0.length + 1) * 3 → (w.cell? ⟨b, j, none⟩).isSome = true := fun j hj => by
          rw [cell_of_cells hh, Array.getElem?_eq_getElem (by omega)]; rfl
        have hfz : ∀ j, w.frozen? ⟨b, j, none⟩ = false := fun j => by simp [World.frozen?, hh]
        by_cases hi : k = s_0.length
        · subst hi
          refine (insRoom55 b _ c vb vo vc vs w hr (by omega) hV.len (fun j hj => hsp _ (by omega)) (fun j _ => hfz _) hV.cell hV.one).mono fun e w' ⟨h1, h2⟩ => ⟨_, h1, ?_⟩
          subst h2
          exact InsR.room hh hc hr hm2 hV.len
        · obtain ⟨tv, kv, hs1, hs2⟩ := hV.shape
          refine (insShift55 b _ c k vb vo vc _ vs w (by omega) hr (by omega) hvb hcl hV.len hcs hsp (fun j _ => hfz j) hV.cell h1c hV.one (fun lb cb => insExt55 _ w w _ ?_)).mono fun e w' ⟨h1, h2⟩ => ⟨_, h1, ?_⟩
          · exact run_overlaps_plain w 28 4 52 Try.underlying28 3 Try.sizeOf52 _ _ 1 vc lb cb hvb tv 52 kv cur.size hs1 (by simp [World.shape?, hh]) hs2 (by omega) (hfz _) (by simp [World.frozen?, hh])
          · subst h2
            exact InsR.shift hh hc (by omega) hr hm2 hV.len
      · by_cases hi : k = s_0.length
        · subst hi
          refine (insEnd55 (some ⟨b, 0, none⟩) _ c vb vo vc _ vs w hle (by omega) hb hcl hV.len (fun c => (by cases c)) (fun a ha j v hj => by cases ha; rw [Addr.add_lit, Nat.zero_add]; exact hcs j v hj) hV.cell hV.one).mono fun e w' ⟨h1, h2⟩ => ⟨_, h1, ?_⟩
          subst h2
          rw [List.take_of_length_le (by rw [hcl]; exact Nat.le_refl _), List.drop_of_length_le (by rw [hcl]; exact Nat.le_refl _), List.append_nil]
          exact InsR.fresh (by rw [List.length_append, hcl, hV.len]; omega) (zeroCells_size _ _) (grownCap_ge w _ _ _) (grownCap_le_maxLen w _ _ _ (by rw [hml]; omega))
        · refine (insGrow55 b _ c k vb vo vc _ vs w (by omega) hle (by omega) hb hcl hV.len hcs hV.cell h1c hV.one).mono fun e w' ⟨h1, h2⟩ => ⟨_, h1, ?_⟩
          subst h2
          exact InsR.grow hcl (by omega) hV.len (zeroCells_size _ _) (zeroCells_size _ _) (grownCap_ge w _ _ _) (grownCap_le_maxLen w _ _ _ (by rw [hml]; omega)))
  rw [insL_map]
  exact h


set_option maxRecDepth 20000 in
set_option maxHeartbeats 2000000 in
theorem ct_stamp_Max (l_0 : (List Api_Stamp)) (r : Api_Stamp) (hF : stamp_Max l_0 = some r) : Ct Try.prog 28 [.g (.d (.sl 2 (List.map encApi_Stamp l_0)))] (.one (.agg (encApi_Stamp r))) := by
  unfold stamp_Max at hF
  refine Ct.intro Try.func28 rfl Try.ntmps28 rfl rfl fun M w => ?_
  refine G.seq ?_
  refine G.region ?_
  refine G.op2 (op_alloc (k := 1002) (cs := [bI .i64 0, bI .i64 0]) ti27 ⟨.v _ rfl, .v _ rfl, trivial⟩ rfl) rfl trivial ⟨rfl, trivial⟩ ?_
  refine G.endOps ?_
  refine G.seq ?_
  refine G.region ?_
  refine G.op2 (op_alloc (k := 1003) (cs := [bI .i64 0, bI .i64 0]) ti27 ⟨.v _ rfl, .v _ rfl, trivial⟩ rfl) rfl trivial ⟨rfl, trivial⟩ ?_
  refine G.endOps ?_
  refine G.seq ?_
  refine G.seq ?_
  refine G.region ?_
  refine G.op1 (op_move (Ev.t 0 (.g (.d (.sl 2 (List.map encApi_Stamp l_0))))) rfl) rfl ⟨rfl, trivial⟩ trivial ?_
  refine G.op1 (OpL.cast (op_lenD Try.underlying36 (Ev.t 6 (.g (.d (.sl 2 (List.map encApi_Stamp l_0))))) rfl) (by rw [List.length_map])) rfl ⟨rfl, trivial⟩ trivial ?_
  refine G.op1 (op_move (Ev.c _ rfl) rfl) rfl trivial trivial ?_
  refine G.endOps ?_
  refine G.joinC (T := Int × Int) (fun y1 => ⟨[(2, .one (.ptr 1002 0)), (3, .one (.ptr 1003 0))], [(1002, some (.blk 27 [bI .i64 0, bI .i64 0])), (1003, some (.blk 27 [bI .i64 y1.1, bI .i64 y1.2]))]⟩) (fun y1 => stamp_Max_k1 y1 = some r) (fun y1 hF => ?_) (fun J2 => ?_)
  · unfold stamp_Max_k1 at hF
    refine G.seq ?_
    refine G.region ?_
    refine G.op1 (op_loadAP (ds := [.v (.int .i64 y1.1), .v (.int .i64 y1.2)]) Try.underlying27 rfl ti27 rfl (Ev.t 3 (.ptr 1003 0)) rfl) rfl ⟨rfl, trivial⟩ ⟨rfl, trivial⟩ ?_
    refine G.op3 (op_storeA (cs' := [bI .i64 y1.1, bI .i64 y1.2]) ti27 rfl rfl (Ev.t 2 (.ptr 1002 0)) (Ev.t 17 (.g (.agg [.v (.int .i64 y1.1), .v (.int .i64 y1.2)])))) rfl ⟨rfl, rfl, trivial⟩ ⟨rfl, trivial⟩ ?_
    refine G.endOps ?_
    cases hF
    exact G.ret1 Try.results28 (RVar.cellA (ds := [.v (.int .i64 y1.1), .v (.int .i64 y1.2)]) Try.underlying27 rfl ti27 rfl) ⟨rfl, trivial⟩ ⟨rfl, trivial⟩
  refine G.block ?_
  refine G.keep (sl' := [(2, .one (.ptr 1002 0)), (3, .one (.ptr 1003 0)), (6, .one (.g (.d (.sl 2 (List.map encApi_Stamp l_0))))), (7, .one (bI .i64 (l_0.length : Int))), (8, .one (bI .i64 0))]) (hp' := [(1002, some (.blk 27 [bI .i64 0, bI .i64 0])), (1003, some (.blk 27 [bI .i64 0, bI .i64 0]))]) ⟨rfl, rfl, rfl, rfl, rfl, trivial⟩ ⟨rfl, rfl, trivial⟩ rfl ?_
  refine G.loopF (fun (v3 : Int × Int × Int) => ⟨[(2, .one (.ptr 1002 0)), (3, .one (.ptr 1003 0)), (6, .one (.g (.d (.sl 2 (List.map encApi_Stamp l_0))))), (7, .one (bI .i64 (l_0.length : Int))), (8, .one (bI .i64 v3.1))], [(1002, some (.blk 27 [bI .i64 0, bI .i64 0])), (1003, some (.blk 27 [bI .i64 v3.2.1, bI .i64 v3.2.2]))]⟩) hF rfl (fun K6 again5 v3 J4 hF => ?_)
  unfold stamp_Max_l2 at hF
  refine G.seq ?_
  refine G.region ?_
  refine G.op1 (op_lss (Ev.t 8 (bI .i64 v3.1)) (Ev.t 7 (bI .i64 (l_0.length : Int))) rfl) rfl ⟨rfl, rfl, trivial⟩ trivial ?_
  refine G.endOps ?_
  refine G.seq ?_
  refine ifS hF (fun hc7 hF => ?_) (fun hc7 hF => ?_)
  · refine G.cond rfl (fun _ => ?_) (fun hx => by rw [hc7] at hx; cases hx)
    refine G.skip ?_
    refine G.seq ?_
    refine G.block ?_
    refine G.seq ?_
    refine G.region ?_
    obtain ⟨x8, hx8, hF⟩ := bindS hF
    refine G.op1 (op_index (cs := [.v (.int .i64 x8.N), .v (.int .i64 x8.Site)]) Try.underlying36 ti27 (idx_ok hx8).1 (idx_get hx8 encApi_Stamp) (Ev.t 6 (.g (.d (.sl 2 (List.map encApi_Stamp l_0))))) (Ev.t 8 (bI .i64 v3.1)) rfl) rfl ⟨rfl, rfl, trivial⟩ trivial ?_
    refine G.op1 (op_loadAE (ds := [.v (.int .i64 x8.N), .v (.int .i64 x8.Site)]) Try.underlying27 rfl ti27 rfl (Ev.t 10 (.ep [.v (.int .i64 x8.N), .v (.int .i64 x8.Site)])) rfl) rfl ⟨rfl, trivial⟩ trivial ?_
    refine G.op2 (op_alloc (k := 1005) (cs := [bI .i64 0, bI .i64 0]) ti27 ⟨.v _ rfl, .v _ rfl, trivial⟩ rfl) rfl trivial ⟨rfl, trivial⟩ ?_
    refine G.op3 (op_storeA (cs' := [bI .i64 x8.N, bI .i64 x8.Site]) ti27 rfl rfl (Ev.t 5 (.ptr 1005 0)) (Ev.t 11 (.g (.agg [.v (.int .i64 x8.N), .v (.int .i64 x8.Site)])))) rfl ⟨rfl, rfl, trivial⟩ ⟨rfl, trivial⟩ ?_
    refine G.endOps ?_
    refine G.seq ?_
    refine G.region ?_
    refine G.op1 (op_loadAP (ds := [.v (.int .i64 v3.2.1), .v (.int .i64 v3.2.2)]) Try.underlying27 rfl ti27 rfl (Ev.t 3 (.ptr 1003 0)) rfl) rfl ⟨rfl, trivial⟩ ⟨rfl, trivial⟩ ?_
    refine G.op1 (op_loadAP (ds := [.v (.int .i64 x8.N), .v (.int .i64 x8.Site)]) Try.underlying27 rfl ti27 rfl (Ev.t 5 (.ptr 1005 0)) rfl) rfl ⟨rfl, trivial⟩ ⟨rfl, trivial⟩ ?_
    obtain ⟨r9, hr9, hF⟩ := bindS hF
    refine G.op1 (op_callQ (sv := .one (bB r9)) cf45 (ct_stamp_Less (Api_Stamp.mk v3.2.1 v3.2.2) x8 r9 hr9) rfl rfl (EvQL.cons (EvQ.g (Ev.t 12 (.g (.agg [.v (.int .i64 v3.2.1), .v (.int .i64 v3.2.2)])))) (EvQL.cons (EvQ.g (Ev.t 13 (.g (.agg [.v (.int .i64 x8.N), .v (.int .i64 x8.Site)])))) EvQL.nil)) rfl) rfl ⟨rfl, rfl, trivial⟩ trivial ?_
    refine G.endOps ?_
    refine ifS hF (fun hc10 hF => ?_) (fun hc10 hF => ?_)
    · refine G.cond rfl (fun _ => ?_) (fun hx => by rw [hc10] at hx; cases hx)
      refine G.region ?_
      refine G.op1 (op_loadAP (ds := [.v (.int .i64 x8.N), .v (.int .i64 x8.Site)]) Try.underlying27 rfl ti27 rfl (Ev.t 5 (.ptr 1005 0)) rfl) rfl ⟨rfl, trivial⟩ ⟨rfl, trivial⟩ ?_
      refine G.op3 (op_storeA (cs' := [bI .i64 x8.N, bI .i64 x8.Site]) ti27 rfl rfl (Ev.t 3 (.ptr 1003 0)) (Ev.t 15 (.g (.agg [.v (.int .i64 x8.N), .v (.int .i64 x8.Site)])))) rfl ⟨rfl, rfl, trivial⟩ ⟨rfl, trivial⟩ ?_
      refine G.endOps ?_
      refine G.endBlock ?_
      refine G.region ?_
      refine G.op1 (op_add (Ev.t 8 (bI .i64 v3.1)) (Ev.c _ rfl) rfl) rfl ⟨rfl, trivial⟩ trivial ?_
      refine G.op1 (op_move (Ev.t 16 (bI .i64 (IntKind.wrap .i64 (v3.1 + 1)))) rfl) rfl ⟨rfl, trivial⟩ trivial ?_
      refine G.endOps ?_
      exact G.arr (J4 (IntKind.wrap .i64 (v3.1 + 1), x8.N, x8.Site) hF) ⟨rfl, rfl, rfl, rfl, rfl, trivial⟩ ⟨rfl, rfl, trivial⟩ rfl
    · refine G.cond rfl (fun hx => by rw [hc10] at hx; cases hx) (fun _ => ?_)
      refine G.skip ?_
      refine G.endBlock ?_
      refine G.region ?_
      refine G.op1 (op_add (Ev.t 8 (bI .i64 v3.1)) (Ev.c _ rfl) rfl) rfl ⟨rfl, trivial⟩ trivial ?_
      refine G.op1 (op_move (Ev.t 16 (bI .i64 (IntKind.wrap .i64 (v3.1 + 1)))) rfl) rfl ⟨rfl, trivial⟩ trivial ?_
      refine G.endOps ?_
      exact G.arr (J4 (IntKind.wrap .i64 (v3.1 + 1), v3.2.1, v3.2.2) hF) ⟨rfl, rfl, rfl, rfl, rfl, trivial⟩ ⟨rfl, rfl, trivial⟩ rfl
  · refine G.cond rfl (fun hx => by rw [hc7] at hx; cases hx) (fun _ => ?_)
    refine G.exit ?_
    refine GX.c ?_
    refine GX.q ?_
    refine GX.bYes ?_
    exact G.arr (J2 (v3.2.1, v3.2.2) hF) ⟨rfl, rfl, trivial⟩ ⟨rfl, rfl, trivial⟩ rfl


set_option maxRecDepth 20000 in
set_option maxHeartbeats 2000000 in
theorem ct_past_Add (p_0 : (List Api_Dep)) (d_1 : Api_Dep) (r : (List Api_Dep)) (hF : past_Add p_0 d_1 = some r) : Ct Try.prog 39 [.g (.d (.sl 3 (List.map encApi_Dep p_0))), .g (.agg (encApi_Dep d_1))] (.one (.d (.sl 3 (List.map encApi_Dep r)))) := by
  unfold past_Add at hF
  refine Ct.intro Try.func39 rfl Try.ntmps39 rfl rfl fun M w => ?_
  refine G.seq ?_
  refine G.region ?_
  refine G.op2 (op_boxA (k := 1003) (Ev.t 1 (.g (.agg [.v (.string d_1.Key), .v (.int .i64 d_1.Stamp.N), .v (.int .i64 d_1.Stamp.Site)]))) rfl) rfl ⟨rfl, trivial⟩ ⟨rfl, trivial⟩ ?_
  refine G.op1 (op_assign (Ev.n 3) rfl) rfl trivial trivial ?_
  refine G.endOps ?_
  refine G.seq ?_
  refine G.region ?_
  refine G.op1 (op_move (Ev.t 0 (.g (.d (.sl 3 (List.map encApi_Dep p_0))))) rfl) rfl ⟨rfl, trivial⟩ trivial ?_
  refine G.op1 (op_fieldP (off' := 0) Try.underlying52 rfl ti9 (by decide) rfl (Ev.t 3 (.ptr 1003 0)) rfl) rfl ⟨rfl, trivial⟩ trivial ?_
  refine G.op1 (op_load1P (c := bS d_1.Key) Try.underlying9 rfl rfl (Ev.t 10 (.ptr 1003 0)) rfl) rfl ⟨rfl, trivial⟩ ⟨rfl, trivial⟩ ?_
  obtain ⟨r1, hr1, hF⟩ := bindS hF
  refine G.op1 (op_callQ (sv := .tup [bI .i64 r1.1, bB r1.2]) cf53 (ct_past_find p_0 d_1.Key r1 hr1) rfl rfl (EvQL.cons (EvQ.g (Ev.t 9 (.g (.d (.sl 3 (List.map encApi_Dep p_0)))))) (EvQL.cons (EvQ.g (Ev.t 11 (bS d_1.Key))) EvQL.nil)) rfl) rfl ⟨rfl, rfl, trivial⟩ trivial ?_
  refine G.op1 (op_moveS (t := 12) (sv := .tup [bI .i64 r1.1, bB r1.2]) rfl) rfl ⟨rfl, trivial⟩ trivial ?_
  refine G.op1 (op_extract (l := [bI .i64 r1.1, bB r1.2]) (c := bI .i64 r1.1) rfl rfl) rfl ⟨rfl, trivial⟩ trivial ?_
  refine G.op1 (op_extract (l := [bI .i64 r1.1, bB r1.2]) (c := bB r1.2) rfl rfl) rfl ⟨rfl, trivial⟩ trivial ?_
  refine G.op1 (op_assign (Ev.t 13 (bI .i64 r1.1)) rfl) rfl ⟨rfl, trivial⟩ trivial ?_
  refine G.op1 (op_assign (Ev.t 14 (bB r1.2)) rfl) rfl ⟨rfl, trivial⟩ trivial ?_
  refine G.endOps ?_
  refine G.seq ?_
  refine G.block ?_
  refine G.seq ?_
  refine G.region ?_
  refine G.op1 (op_loadAP (ds := [.v (.string d_1.Key), .v (.int .i64 d_1.Stamp.N), .v (.int .i64 d_1.Stamp.Site)]) Try.underlying52 rfl ti52 rfl (Ev.t 3 (.ptr 1003 0)) rfl) rfl ⟨rfl, trivial⟩ ⟨rfl, trivial⟩ ?_
  obtain ⟨r2, hr2, hF⟩ := bindS hF
  refine G.op1 (op_callQ (sv := .one (bB r2)) cf54 (ct_past_may d_1 r2 hr2) rfl rfl (EvQL.cons (EvQ.g (Ev.t 16 (.g (.agg [.v (.string d_1.Key), .v (.int .i64 d_1.Stamp.N), .v (.int .i64 d_1.Stamp.Site)])))) EvQL.nil) rfl) rfl ⟨rfl, trivial⟩ trivial ?_
  refine G.op1 (op_not (Ev.t 17 (bB r2)) rfl) rfl ⟨rfl, trivial⟩ trivial ?_
  refine G.op1 (op_assign (Ev.t 18 (bB (!r2))) rfl) rfl ⟨rfl, trivial⟩ trivial ?_
  refine G.endOps ?_
  refine ifS hF (fun hc3 hF => ?_) (fun hc3 hF => ?_)
  · refine G.cond rfl (fun _ => ?_) (fun hx => by rw [hc3] at hx; cases hx)
    refine G.seq ?_
    refine G.region ?_
    refine G.op1 (op_move (Ev.t 0 (.g (.d (.sl 3 (List.map encApi_Dep p_0))))) rfl) rfl ⟨rfl, trivial⟩ trivial ?_
    refine G.op1 (op_assign (Ev.t 19 (.g (.d (.sl 3 (List.map encApi_Dep p_0))))) rfl) rfl ⟨rfl, trivial⟩ trivial ?_
    refine G.endOps ?_
    cases hF
    exact G.ret1 Try.results39 (RVar.tmp 4 _) ⟨rfl, trivial⟩ trivial
  · refine G.cond rfl (fun hx => by rw [hc3] at hx; cases hx) (fun _ => ?_)
    refine G.seq ?_
    refine G.region ?_
    refine G.op1 (op_move (Ev.t 6 (bB r1.2)) rfl) rfl ⟨rfl, trivial⟩ trivial ?_
    refine G.op1 (op_not (Ev.t 21 (bB r1.2)) rfl) rfl ⟨rfl, trivial⟩ trivial ?_
    refine G.op1 (op_assign (Ev.t 22 (bB (!r1.2))) rfl) rfl ⟨rfl, trivial⟩ trivial ?_
    refine G.endOps ?_
    refine ifS hF (fun hc4 hF => ?_) (fun hc4 hF => ?_)
    · refine G.cond rfl (fun _ => ?_) (fun hx => by rw [hc4] at hx; cases hx)
      refine G.seq ?_
      obtain ⟨r5, hr5, hF⟩ := bindS hF
      obtain ⟨r6, hr6, hF⟩ := bindS hF
      refine G.drawn (effs := [⟨[(0, .one (.g (.d (.sl 3 (List.map encApi_Dep p_0)))))], [], [(23, .one (.g (.d (.sl 3 (List.map encApi_Dep p_0)))))], []⟩, ⟨[(23, .one (.g (.d (.sl 3 (List.map encApi_Dep p_0)))))], [(2024, none)], [(24, .one (.own 2024 (List.map encApi_Dep r5)))], [(2024, some (.row 52 3 (List.map encApi_Dep r5) true))]⟩, ⟨[(5, .one (bI .i64 r1.1))], [], [(25, .one (bI .i64 r1.1))], []⟩, ⟨[(3, .one (.ptr 1003 0))], [(1003, some (.blk 52 [bS d_1.Key, bI .i64 d_1.Stamp.N, bI .i64 d_1.Stamp.Site]))], [(26, .one (.g (.agg [.v (.string d_1.Key), .v (.int .i64 d_1.Stamp.N), .v (.int .i64 d_1.Stamp.Site)])))], []⟩, ⟨[(26, .one (.g (.agg [.v (.string d_1.Key), .v (.int .i64 d_1.Stamp.N), .v (.int .i64 d_1.Stamp.Site)])))], [], [(27, .one (.g (.d (.sl 3 (List.map encApi_Dep ([d_1]))))))], []⟩, ⟨[(24, .one (.own 2024 (List.map encApi_Dep r5))), (25, .one (bI .i64 r1.1)), (27, .one (.g (.d (.sl 3 (List.map encApi_Dep ([d_1]))))))], [(2024, some (.row 52 3 (List.map encApi_Dep r5) true))], [(28, .one (.g (.d (.sl 3 (List.map encApi_Dep r6)))))], [(2024, some (.row 52 3 (List.map encApi_Dep r6) false))]⟩, ⟨[(28, .one (.g (.d (.sl 3 (List.map encApi_Dep r6)))))], [], [(4, .one (.g (.d (.sl 3 (List.map encApi_Dep r6)))))], []⟩]) (deps := [[], [0], [], [], [3], [0, 1, 2, 3, 4], [0, 1, 2, 3, 4, 5]]) (sl' := [(4, .one (.g (.d (.sl 3 (List.map encApi_Dep r6)))))]) (hp' := []) follows rfl rfl rfl ⟨⟨rfl, trivial⟩, trivial, ⟨rfl, trivial⟩, ⟨⟨rfl, rfl⟩, trivial⟩, ⟨rfl, trivial⟩, trivial, ⟨rfl, trivial⟩, ⟨⟨rfl, rfl⟩, trivial⟩, ⟨rfl, trivial⟩, trivial, ⟨rfl, rfl, rfl, trivial⟩, ⟨⟨rfl, rfl⟩, trivial⟩, ⟨rfl, trivial⟩, trivial, trivial⟩ ⟨OpW.plain (op_move (Ev.t 0 (.g (.d (.sl 3 (List.map encApi_Dep p_0))))) rfl) rfl rfl, OpW.plain (op_callNew (k := 2024) cf56 (ct_slices_Clone_Dep p_0 r5 hr5) (EvL.cons (Ev.t 23 (.g (.d (.sl 3 (List.map encApi_Dep p_0))))) EvL.nil) rfl) rfl rfl, OpW.plain (op_move (Ev.t 5 (bI .i64 r1.1)) rfl) rfl rfl, OpW.plain (op_loadAP (ds := [.v (.string d_1.Key), .v (.int .i64 d_1.Stamp.N), .v (.int .i64 d_1.Stamp.Site)]) Try.underlying52 rfl ti52 rfl (Ev.t 3 (.ptr 1003 0)) rfl) rfl rfl, OpW.plain (op_buildSlice (es := List.map encApi_Dep [d_1]) Try.underlying28 ti52 rfl rfl (EvP.cons (Ev.t 26 (.g (.agg [.v (.string d_1.Key), .v (.int .i64 d_1.Stamp.N), .v (.int .i64 d_1.Stamp.Site)]))) EvP.nil) rfl rfl (by simp [encApi_Dep]) rfl) rfl rfl, OpW.plain (OpL.view (OpL.share (op_callGrow cf55 (ct_slices_Insert_Dep r5 r1.1 ([d_1]) r6 hr6) (insL_len hr6) (Ev.t 24 (.own 2024 (List.map encApi_Dep r5))) (EvX.g (Ev.t 25 (bI .i64 r1.1)) (EvX.g (Ev.t 27 (.g (.d (.sl 3 (List.map encApi_Dep ([d_1])))))) EvX.nil)) rfl))) rfl rfl, OpW.plain (op_assign (Ev.t 28 (.g (.d (.sl 3 (List.map encApi_Dep r6))))) rfl) rfl rfl, trivial⟩ ⟨rfl, trivial⟩ trivial rfl ?_
      cases hF
      exact G.ret1 Try.results39 (RVar.tmp 4 _) ⟨rfl, trivial⟩ trivial
    · refine G.cond rfl (fun hx => by rw [hc4] at hx; cases hx) (fun _ => ?_)
      refine G.skip ?_
      refine G.endBlock ?_
      refine G.seq ?_
      refine G.region ?_
      refine G.op1 (op_move (Ev.t 0 (.g (.d (.sl 3 (List.map encApi_Dep p_0))))) rfl) rfl ⟨rfl, trivial⟩ trivial ?_
      obtain ⟨r7, hr7, hF⟩ := bindS hF
      refine G.op2 (op_callNew (k := 2030) cf56 (ct_slices_Clone_Dep p_0 r7 hr7) (EvL.cons (Ev.t 29 (.g (.d (.sl 3 (List.map encApi_Dep p_0))))) EvL.nil) rfl) rfl ⟨rfl, trivial⟩ ⟨rfl, trivial⟩ ?_
      refine G.op1 (op_assign (Ev.t 30 (.own 2030 (List.map encApi_Dep r7))) rfl) rfl ⟨rfl, trivial⟩ trivial ?_
      refine G.endOps ?_
      refine G.seq ?_
      obtain ⟨x8, hx8, hF⟩ := bindS hF
      obtain ⟨r9, hr9, hF⟩ := bindS hF
      obtain ⟨x10, hx10, hF⟩ := bindS hF
      obtain ⟨l11, hl11, hF⟩ := bindS hF
      refine G.drawn (effs := [⟨[(7, .one (.own 2030 (List.map encApi_Dep r7)))], [], [(31, .one (.own 2030 (List.map encApi_Dep r7)))], []⟩, ⟨[(5, .one (bI .i64 r1.1))], [], [(32, .one (bI .i64 r1.1))], []⟩, ⟨[(7, .one (.own 2030 (List.map encApi_Dep r7)))], [], [(33, .one (.own 2030 (List.map encApi_Dep r7)))], []⟩, ⟨[(5, .one (bI .i64 r1.1))], [], [(34, .one (bI .i64 r1.1))], []⟩, ⟨[(33, .one (.own 2030 (List.map encApi_Dep r7))), (34, .one (bI .i64 r1.1))], [(2030, some (.row 52 3 (List.map encApi_Dep r7) true))], [(35, .one (.rp 2030 (List.map encApi_Dep r7) (Int.toNat r1.1 * 3 + 0)))], []⟩, ⟨[(35, .one (.rp 2030 (List.map encApi_Dep r7) (Int.toNat r1.1 * 3 + 0)))], [], [(36, .one (.rp 2030 (List.map encApi_Dep r7) (Int.toNat r1.1 * 3 + 1)))], []⟩, ⟨[(36, .one (.rp 2030 (List.map encApi_Dep r7) (Int.toNat r1.1 * 3 + 1)))], [(2030, some (.row 52 3 (List.map encApi_Dep r7) true))], [(37, .one (.g (.agg [.v (.int .i64 x8.Stamp.N), .v (.int .i64 x8.Stamp.Site)])))], []⟩, ⟨[(3, .one (.ptr 1003 0))], [], [(38, .one (.ptr 1003 1))], []⟩, ⟨[(38, .one (.ptr 1003 1))], [(1003, some (.blk 52 [bS d_1.Key, bI .i64 d_1.Stamp.N, bI .i64 d_1.Stamp.Site]))], [(39, .one (.g (.agg [.v (.int .i64 d_1.Stamp.N), .v (.int .i64 d_1.Stamp.Site)])))], []⟩, ⟨[(37, .one (.g (.agg [.v (.int .i64 x8.Stamp.N), .v (.int .i64 x8.Stamp.Site)]))), (39, .one (.g (.agg [.v (.int .i64 d_1.Stamp.N), .v (.int .i64 d_1.Stamp.Site)])))], [], [(40, .one (.g (.d (.sl 2 (List.map encApi_Stamp ([x8.Stamp, d_1.Stamp]))))))], []⟩, ⟨[(40, .one (.g (.d (.sl 2 (List.map encApi_Stamp ([x8.Stamp, d_1.Stamp]))))))], [], [(41, .one (.g (.agg [.v (.int .i64 r9.N), .v (.int .i64 r9.Site)])))], []⟩, ⟨[(31, .one (.own 2030 (List.map encApi_Dep r7))), (32, .one (bI .i64 r1.1))], [(2030, some (.row 52 3 (List.map encApi_Dep r7) true))], [(42, .one (.rp 2030 (List.map encApi_Dep r7) (Int.toNat r1.1 * 3 + 0)))], []⟩, ⟨[(42, .one (.rp 2030 (List.map encApi_Dep r7) (Int.toNat r1.1 * 3 + 0)))], [], [(43, .one (.rp 2030 (List.map encApi_Dep r7) (Int.toNat r1.1 * 3 + 1)))], []⟩, ⟨[(43, .one (.rp 2030 (List.map encApi_Dep r7) (Int.toNat r1.1 * 3 + 1))), (41, .one (.g (.agg [.v (.int .i64 r9.N), .v (.int .i64 r9.Site)])))], [(2030, some (.row 52 3 (List.map encApi_Dep r7) true))], [], [(2030, some (.row 52 3 (List.map encApi_Dep l11) true))]⟩]) (deps := [[], [], [], [], [2, 3], [2, 3, 4], [2, 3, 4, 5], [], [7], [2, 3, 4, 5, 6, 7, 8], [2, 3, 4, 5, 6, 7, 8, 9], [0, 1, 2, 3, 4, 5, 6, 7, 8, 9, 10], [0, 1, 2, 3, 4, 5, 6, 7, 8, 9, 10, 11], [0, 1, 2, 3, 4, 5, 6, 7, 8, 9, 10, 11, 12]]) (sl' := [(7, .one (.own 2030 (List.map encApi_Dep r7)))]) (hp' := [(2030, some (.row 52 3 (List.map encApi_Dep l11) true))]) follows rfl rfl rfl ⟨⟨rfl, trivial⟩, trivial, ⟨rfl, trivial⟩, trivial, ⟨rfl, trivial⟩, trivial, ⟨rfl, trivial⟩, trivial, ⟨rfl, rfl, trivial⟩, ⟨⟨rfl, rfl⟩, trivial⟩, ⟨rfl, trivial⟩, trivial, ⟨rfl, trivial⟩, ⟨⟨rfl, rfl⟩, trivial⟩, ⟨rfl, trivial⟩, trivial, ⟨rfl, trivial⟩, ⟨⟨rfl, rfl⟩, trivial⟩, ⟨rfl, rfl, trivial⟩, trivial, ⟨rfl, trivial⟩, trivial, ⟨rfl, rfl, trivial⟩, ⟨⟨rfl, rfl⟩, trivial⟩, ⟨rfl, trivial⟩, trivial, ⟨rfl, rfl, trivial⟩, ⟨⟨rfl, rfl⟩, trivial⟩, trivial⟩ ⟨OpW.plain (op_move (Ev.t 7 (.own 2030 (List.map encApi_Dep r7))) rfl) rfl rfl, OpW.plain (op_move (Ev.t 5 (bI .i64 r1.1)) rfl) rfl rfl, OpW.plain (op_move (Ev.t 7 (.own 2030 (List.map encApi_Dep r7))) rfl) rfl rfl, OpW.plain (op_move (Ev.t 5 (bI .i64 r1.1)) rfl) rfl rfl, OpW.plain (op_indexR (cs := [.v (.string x8.Key), .v (.int .i64 x8.Stamp.N), .v (.int .i64 x8.Stamp.Site)]) Try.underlying28 ti52 (idx_ok hx8).1 (idx_get hx8 encApi_Dep) (Ev.t 33 (.own 2030 (List.map encApi_Dep r7))) (Ev.t 34 (bI .i64 r1.1)) rfl) rfl rfl, OpW.plain (op_fieldR (off' := Int.toNat r1.1 * 3 + 1) Try.underlying52 rfl ti27 (by decide) rfl (Ev.t 35 (.rp 2030 (List.map encApi_Dep r7) (Int.toNat r1.1 * 3 + 0))) rfl) rfl rfl, OpW.plain (op_loadRA (i := Int.toNat r1.1) (f := 1) (size := 3) (cs := [.v (.string x8.Key), .v (.int .i64 x8.Stamp.N), .v (.int .i64 x8.Stamp.Site)]) (ds := [.v (.int .i64 x8.Stamp.N), .v (.int .i64 x8.Stamp.Site)]) Try.underlying27 rfl ti27 (idx_get hx8 encApi_Dep) rfl (Ev.t 36 (.rp 2030 (List.map encApi_Dep r7) (Int.toNat r1.1 * 3 + 1))) rfl) rfl rfl, OpW.plain (op_fieldP (off' := 1) Try.underlying52 rfl ti27 (by decide) rfl (Ev.t 3 (.ptr 1003 0)) rfl) rfl rfl, OpW.plain (op_loadAP (ds := [.v (.int .i64 d_1.Stamp.N), .v (.int .i64 d_1.Stamp.Site)]) Try.underlying27 rfl ti27 rfl (Ev.t 38 (.ptr 1003 1)) rfl) rfl rfl, OpW.plain (op_buildSlice (es := List.map encApi_Stamp [x8.Stamp, d_1.Stamp]) Try.underlying36 ti27 rfl rfl (EvP.cons (Ev.t 37 (.g (.agg [.v (.int .i64 x8.Stamp.N), .v (.int .i64 x8.Stamp.Site)]))) (EvP.cons (Ev.t 39 (.g (.agg [.v (.int .i64 d_1.Stamp.N), .v (.int .i64 d_1.Stamp.Site)]))) EvP.nil)) rfl rfl (by simp [encApi_Stamp]) rfl) rfl rfl, OpW.plain (op_callQ (sv := .one (.g (.agg [.v (.int .i64 r9.N), .v (.int .i64 r9.Site)]))) cf28 (ct_stamp_Max ([x8.Stamp, d_1.Stamp]) r9 hr9) rfl rfl (EvQL.cons (EvQ.g (Ev.t 40 (.g (.d (.sl 2 (List.map encApi_Stamp ([x8.Stamp, d_1.Stamp]))))))) EvQL.nil) rfl) rfl rfl, OpW.plain (op_indexR (cs := [.v (.string x10.Key), .v (.int .i64 x10.Stamp.N), .v (.int .i64 x10.Stamp.Site)]) Try.underlying28 ti52 (idx_ok hx10).1 (idx_get hx10 encApi_Dep) (Ev.t 31 (.own 2030 (List.map encApi_Dep r7))) (Ev.t 32 (bI .i64 r1.1)) rfl) rfl rfl, OpW.plain (op_fieldR (off' := Int.toNat r1.1 * 3 + 1) Try.underlying52 rfl ti27 (by decide) rfl (Ev.t 42 (.rp 2030 (List.map encApi_Dep r7) (Int.toNat r1.1 * 3 + 0))) rfl) rfl rfl, OpW.plain (op_storeRA (i := Int.toNat r1.1) (f := 1) (size := 3) (cs := [.v (.string x10.Key), .v (.int .i64 x10.Stamp.N), .v (.int .i64 x10.Stamp.Site)]) (cs' := [.v (.string x10.Key), .v (.int .i64 r9.N), .v (.int .i64 r9.Site)]) (ds := [.v (.int .i64 r9.N), .v (.int .i64 r9.Site)]) ti27 (idx_get hx10 encApi_Dep) rfl rfl (sets_ok hl11 encApi_Dep).2.2 (Ev.t 43 (.rp 2030 (List.map encApi_Dep r7) (Int.toNat r1.1 * 3 + 1))) (Ev.t 41 (.g (.agg [.v (.int .i64 r9.N), .v (.int .i64 r9.Site)])))) rfl rfl, trivial⟩ ⟨rfl, trivial⟩ ⟨rfl, trivial⟩ rfl ?_
      refine G.renew (t := 7) rfl rfl (sets_len hl11 encApi_Dep) ?_
      refine G.seq ?_
      refine G.region ?_
      refine G.op1 (op_move (Ev.t 7 (.own 2030 (List.map encApi_Dep l11))) rfl) rfl ⟨rfl, trivial⟩ trivial ?_
      refine G.op1 (op_assign (Ev.t 44 (.own 2030 (List.map encApi_Dep l11))) rfl) rfl ⟨rfl, trivial⟩ trivial ?_
      refine G.endOps ?_
      refine G.share (k' := 2030) rfl ?_
      refine G.view (t := 4) rfl rfl ?_
      cases hF
      exact G.ret1 Try.results39 (RVar.tmp 4 _) ⟨rfl, trivial⟩ trivial


set_option maxRecDepth 20000 in
set_option maxHeartbeats 2000000 in
theorem ct_past_Merge (l_0 : (List (List Api_Dep))) (r : (List Api_Dep)) (hF : past_Merge l_0 = some r) : Ct Try.prog 26 [.g (.d (.sl 1 (List.map encL_encApi_Dep l_0)))] (.one (.d (.sl 3 (List.map encApi_Dep r)))) := by
  unfold past_Merge at hF
  refine Ct.intro Try.func26 rfl Try.ntmps26 rfl rfl fun M w => ?_
  refine G.seq ?_
  refine G.region ?_
  refine G.op1 (op_assign (Ev.n 3) rfl) rfl trivial trivial ?_
  refine G.endOps ?_
  refine G.seq ?_
  refine G.region ?_
  refine G.op1 (op_assign (Ev.n 3) rfl) rfl trivial trivial ?_
  refine G.endOps ?_
  refine G.seq ?_
  refine G.seq ?_
  refine G.region ?_
  refine G.op1 (op_move (Ev.t 0 (.g (.d (.sl 1 (List.map encL_encApi_Dep l_0))))) rfl) rfl ⟨rfl, trivial⟩ trivial ?_
  refine G.op1 (OpL.cast (op_lenD Try.underlying60 (Ev.t 8 (.g (.d (.sl 1 (List.map encL_encApi_Dep l_0))))) rfl) (by rw [List.length_map])) rfl ⟨rfl, trivial⟩ trivial ?_
  refine G.op1 (op_move (Ev.c _ rfl) rfl) rfl trivial trivial ?_
  refine G.endOps ?_
  refine G.joinC (T := (List Api_Dep)) (fun y1 => ⟨[(3, .one (.g (.d (.sl 3 (List.map encApi_Dep y1)))))], []⟩) (fun y1 => past_Merge_k1 y1 = some r) (fun y1 hF => ?_) (fun J2 => ?_)
  · unfold past_Merge_k1 at hF
    refine G.seq ?_
    refine G.region ?_
    refine G.op1 (op_move (Ev.t 3 (.g (.d (.sl 3 (List.map encApi_Dep y1))))) rfl) rfl ⟨rfl, trivial⟩ trivial ?_
    refine G.op1 (op_assign (Ev.t 25 (.g (.d (.sl 3 (List.map encApi_Dep y1))))) rfl) rfl ⟨rfl, trivial⟩ trivial ?_
    refine G.endOps ?_
    cases hF
    exact G.ret1 Try.results26 (RVar.tmp 2 _) ⟨rfl, trivial⟩ trivial
  refine G.block ?_
  refine G.keep (sl' := [(3, .one (.g (.d (.sl 3 (List.map encApi_Dep ([] : (List Api_Dep))))))), (8, .one (.g (.d (.sl 1 (List.map encL_encApi_Dep l_0))))), (9, .one (bI .i64 (l_0.length : Int))), (10, .one (bI .i64 0))]) (hp' := []) ⟨rfl, rfl, rfl, rfl, trivial⟩ trivial rfl ?_
  refine G.loopF (fun (v3 : (List Api_Dep) × Int) => ⟨[(3, .one (.g (.d (.sl 3 (List.map encApi_Dep v3.1))))), (8, .one (.g (.d (.sl 1 (List.map encL_encApi_Dep l_0))))), (9, .one (bI .i64 (l_0.length : Int))), (10, .one (bI .i64 v3.2))], []⟩) hF rfl (fun K6 again5 v3 J4 hF => ?_)
  unfold past_Merge_l2 at hF
  refine G.seq ?_
  refine G.region ?_
  refine G.op1 (op_lss (Ev.t 10 (bI .i64 v3.2)) (Ev.t 9 (bI .i64 (l_0.length : Int))) rfl) rfl ⟨rfl, rfl, trivial⟩ trivial ?_
  refine G.endOps ?_
  refine G.seq ?_
  refine ifS hF (fun hc7 hF => ?_) (fun hc7 hF => ?_)
  · refine G.cond rfl (fun _ => ?_) (fun hx => by rw [hc7] at hx; cases hx)
    refine G.skip ?_
    refine G.seq ?_
    refine G.joinC (T := (List Api_Dep)) (fun y8 => ⟨[(3, .one (.g (.d (.sl 3 (List.map encApi_Dep y8))))), (8, .one (.g (.d (.sl 1 (List.map encL_encApi_Dep l_0))))), (9, .one (bI .i64 (l_0.length : Int))), (10, .one (bI .i64 v3.2))], []⟩) (fun y8 => past_Merge_k3 again5 v3 y8 = some r) (fun y8 hF => ?_) (fun J9 => ?_)
    · unfold past_Merge_k3 at hF
      refine G.region ?_
      refine G.op1 (op_add (Ev.t 10 (bI .i64 v3.2)) (Ev.c _ rfl) rfl) rfl ⟨rfl, trivial⟩ trivial ?_
      refine G.op1 (op_move (Ev.t 24 (bI .i64 (IntKind.wrap .i64 (v3.2 + 1)))) rfl) rfl ⟨rfl, trivial⟩ trivial ?_
      refine G.endOps ?_
      exact G.arr (J4 (y8, IntKind.wrap .i64 (v3.2 + 1)) hF) ⟨rfl, rfl, rfl, rfl, trivial⟩ trivial rfl
    refine G.block ?_
    refine G.seq ?_
    refine G.region ?_
    obtain ⟨x10, hx10, hF⟩ := bindS hF
    refine G.op1 (op_index (cs := [.sl 3 (List.map encApi_Dep x10)]) Try.underlying60 ti28 (idx_ok hx10).1 (idx_get hx10 encL_encApi_Dep) (Ev.t 8 (.g (.d (.sl 1 (List.map encL_encApi_Dep l_0))))) (Ev.t 10 (bI .i64 v3.2)) rfl) rfl ⟨rfl, rfl, trivial⟩ trivial ?_
    refine G.op1 (op_load1E (c := .sl 3 (List.map encApi_Dep x10)) Try.underlying28 rfl rfl (Ev.t 12 (.ep [.sl 3 (List.map encApi_Dep x10)])) rfl) rfl ⟨rfl, trivial⟩ trivial ?_
    refine G.op1 (op_assign (Ev.t 13 (.g (.d (.sl 3 (List.map encApi_Dep x10))))) rfl) rfl ⟨rfl, trivial⟩ trivial ?_
    refine G.endOps ?_
    refine G.seq ?_
    refine G.region ?_
    refine G.op1 (op_move (Ev.t 5 (.g (.d (.sl 3 (List.map encApi_Dep x10))))) rfl) rfl ⟨rfl, trivial⟩ trivial ?_
    refine G.op1 (OpL.cast (op_lenD Try.underlying28 (Ev.t 14 (.g (.d (.sl 3 (List.map encApi_Dep x10))))) rfl) (by rw [List.length_map])) rfl ⟨rfl, trivial⟩ trivial ?_
    refine G.op1 (op_move (Ev.c _ rfl) rfl) rfl trivial trivial ?_
    refine G.endOps ?_
    refine G.joinC (T := (List Api_Dep)) (fun y11 => ⟨[(3, .one (.g (.d (.sl 3 (List.map encApi_Dep y11))))), (8, .one (.g (.d (.sl 1 (List.map encL_encApi_Dep l_0))))), (9, .one (bI .i64 (l_0.length : Int))), (10, .one (bI .i64 v3.2))], []⟩) (fun y11 => past_Merge_k4 again5 v3 y11 = some r) (fun y11 hF => ?_) (fun J12 => ?_)
    · unfold past_Merge_k4 at hF
      refine G.endBlock ?_
      exact G.arr (J9 y11 hF) ⟨rfl, rfl, rfl, rfl, trivial⟩ trivial rfl
    refine G.block ?_
    refine G.keep (sl' := [(3, .one (.g (.d (.sl 3 (List.map encApi_Dep v3.1))))), (8, .one (.g (.d (.sl 1 (List.map encL_encApi_Dep l_0))))), (9, .one (bI .i64 (l_0.length : Int))), (10, .one (bI .i64 v3.2)), (14, .one (.g (.d (.sl 3 (List.map encApi_Dep x10))))), (15, .one (bI .i64 (x10.length : Int))), (16, .one (bI .i64 0))]) (hp' := []) ⟨rfl, rfl, rfl, rfl, rfl, rfl, rfl, trivial⟩ trivial rfl ?_
    refine G.loopF (fun (v13 : (List Api_Dep) × Int) => ⟨[(3, .one (.g (.d (.sl 3 (List.map encApi_Dep v13.1))))), (8, .one (.g (.d (.sl 1 (List.map encL_encApi_Dep l_0))))), (9, .one (bI .i64 (l_0.length : Int))), (10, .one (bI .i64 v3.2)), (14, .one (.g (.d (.sl 3 (List.map encApi_Dep x10))))), (15, .one (bI .i64 (x10.length : Int))), (16, .one (bI .i64 v13.2))], []⟩) hF rfl (fun K16 again15 v13 J14 hF => ?_)
    unfold past_Merge_l5 at hF
    refine G.seq ?_
    refine G.region ?_
    refine G.op1 (op_lss (Ev.t 16 (bI .i64 v13.2)) (Ev.t 15 (bI .i64 (x10.length : Int))) rfl) rfl ⟨rfl, rfl, trivial⟩ trivial ?_
    refine G.endOps ?_
    refine G.seq ?_
    refine ifS hF (fun hc17 hF => ?_) (fun hc17 hF => ?_)
    · refine G.cond rfl (fun _ => ?_) (fun hx => by rw [hc17] at hx; cases hx)
      refine G.skip ?_
      refine G.seq ?_
      refine G.block ?_
      refine G.seq ?_
      refine G.region ?_
      obtain ⟨x18, hx18, hF⟩ := bindS hF
      refine G.op1 (op_index (cs := [.v (.string x18.Key), .v (.int .i64 x18.Stamp.N), .v (.int .i64 x18.Stamp.Site)]) Try.underlying28 ti52 (idx_ok hx18).1 (idx_get hx18 encApi_Dep) (Ev.t 14 (.g (.d (.sl 3 (List.map encApi_Dep x10))))) (Ev.t 16 (bI .i64 v13.2)) rfl) rfl ⟨rfl, rfl, trivial⟩ trivial ?_
      refine G.op1 (op_loadAE (ds := [.v (.string x18.Key), .v (.int .i64 x18.Stamp.N), .v (.int .i64 x18.Stamp.Site)]) Try.underlying52 rfl ti52 rfl (Ev.t 18 (.ep [.v (.string x18.Key), .v (.int .i64 x18.Stamp.N), .v (.int .i64 x18.Stamp.Site)])) rfl) rfl ⟨rfl, trivial⟩ trivial ?_
      refine G.op2 (op_alloc (k := 1007) (cs := [bS ByteArray.empty, bI .i64 0, bI .i64 0]) ti52 ⟨.v _ rfl, .v _ rfl, .v _ rfl, trivial⟩ rfl) rfl trivial ⟨rfl, trivial⟩ ?_
      refine G.op3 (op_storeA (cs' := [bS x18.Key, bI .i64 x18.Stamp.N, bI .i64 x18.Stamp.Site]) ti52 rfl rfl (Ev.t 7 (.ptr 1007 0)) (Ev.t 19 (.g (.agg [.v (.string x18.Key), .v (.int .i64 x18.Stamp.N), .v (.int .i64 x18.Stamp.Site)])))) rfl ⟨rfl, rfl, trivial⟩ ⟨rfl, trivial⟩ ?_
      refine G.endOps ?_
      refine G.region ?_
      refine G.op1 (op_move (Ev.t 3 (.g (.d (.sl 3 (List.map encApi_Dep v13.1))))) rfl) rfl ⟨rfl, trivial⟩ trivial ?_
      refine G.op1 (op_loadAP (ds := [.v (.string x18.Key), .v (.int .i64 x18.Stamp.N), .v (.int .i64 x18.Stamp.Site)]) Try.underlying52 rfl ti52 rfl (Ev.t 7 (.ptr 1007 0)) rfl) rfl ⟨rfl, trivial⟩ ⟨rfl, trivial⟩ ?_
      obtain ⟨r19, hr19, hF⟩ := bindS hF
      refine G.op1 (op_call (sv := .one (.g (.d (.sl 3 (List.map encApi_Dep r19))))) cf39 (ct_past_Add v13.1 x18 r19 hr19) rfl (EvL.cons (Ev.t 20 (.g (.d (.sl 3 (List.map encApi_Dep v13.1))))) (EvL.cons (Ev.t 21 (.g (.agg [.v (.string x18.Key), .v (.int .i64 x18.Stamp.N), .v (.int .i64 x18.Stamp.Site)]))) EvL.nil)) rfl) rfl ⟨rfl, rfl, trivial⟩ trivial ?_
      refine G.op1 (op_assign (Ev.t 22 (.g (.d (.sl 3 (List.map encApi_Dep r19))))) rfl) rfl ⟨rfl, trivial⟩ trivial ?_
      refine G.endOps ?_
      refine G.endBlock ?_
      refine G.region ?_
      refine G.op1 (op_add (Ev.t 16 (bI .i64 v13.2)) (Ev.c _ rfl) rfl) rfl ⟨rfl, trivial⟩ trivial ?_
      refine G.op1 (op_move (Ev.t 23 (bI .i64 (IntKind.wrap .i64 (v13.2 + 1)))) rfl) rfl ⟨rfl, trivial⟩ trivial ?_
      refine G.endOps ?_
      exact G.arr (J14 (r19, IntKind.wrap .i64 (v13.2 + 1)) hF) ⟨rfl, rfl, rfl, rfl, rfl, rfl, rfl, trivial⟩ trivial rfl
    · refine G.cond rfl (fun hx => by rw [hc17] at hx; cases hx) (fun _ => ?_)
      refine G.exit ?_
      refine GX.c ?_
      refine GX.q ?_
      refine GX.bYes ?_
      exact G.arr (J12 v13.1 hF) ⟨rfl, rfl, rfl, rfl, trivial⟩ trivial rfl
  · refine G.cond rfl (fun hx => by rw [hc7] at hx; cases hx) (fun _ => ?_)
    refine G.exit ?_
    refine GX.c ?_
    refine GX.q ?_
    refine GX.bYes ?_
    exact G.arr (J2 v3.1 hF) ⟨rfl, trivial⟩ trivial rfl


set_option maxRecDepth 20000 in
set_option maxHeartbeats 2000000 in
theorem ct_history_Behind (l_0 : (List Api_Event)) (i_1 : Int) (r : (List Api_Dep)) (hF : history_Behind l_0 i_1 = some r) : Ct Try.prog 11 [.g (.d (.sl 6 (List.map encApi_Event l_0))), .g (.d (.v (.int .i64 i_1)))] (.one (.d (.sl 3 (List.map encApi_Dep r)))) := by
  unfold history_Behind at hF
  refine Ct.intro Try.func11 rfl Try.ntmps11 rfl rfl fun M w => ?_
  refine G.seq ?_
  refine G.region ?_
  refine G.op1 (op_assign (Ev.n 3) rfl) rfl trivial trivial ?_
  refine G.endOps ?_
  refine G.seq ?_
  refine G.seq ?_
  refine G.joinC (T := Bool) (fun y1 => ⟨[(0, .one (.g (.d (.sl 6 (List.map encApi_Event l_0))))), (1, .one (bI .i64 i_1)), (12, .one (bB y1))], []⟩) (fun y1 => history_Behind_k1 l_0 i_1 y1 = some r) (fun y1 hF => ?_) (fun J7 => ?_)
  · unfold history_Behind_k1 at hF
    refine ifS hF (fun hc2 hF => ?_) (fun hc2 hF => ?_)
    · refine G.cond rfl (fun _ => ?_) (fun hx => by rw [hc2] at hx; cases hx)
      refine G.seq ?_
      refine G.region ?_
      refine G.op1 (op_assign (Ev.n 3) rfl) rfl trivial trivial ?_
      refine G.endOps ?_
      cases hF
      exact G.ret1 Try.results11 (RVar.tmp 4 _) ⟨rfl, trivial⟩ trivial
    · refine G.cond rfl (fun hx => by rw [hc2] at hx; cases hx) (fun _ => ?_)
      refine G.skip ?_
      refine G.seq ?_
      obtain ⟨x3, hx3, hF⟩ := bindS hF
      obtain ⟨x4, hx4, hF⟩ := bindS hF
      obtain ⟨x5, hx5, hF⟩ := bindS hF
      obtain ⟨r6, hr6, hF⟩ := bindS hF
      refine G.drawn (effs := [⟨[(0, .one (.g (.d (.sl 6 (List.map encApi_Event l_0)))))], [], [(13, .one (.g (.d (.sl 6 (List.map encApi_Event l_0)))))], []⟩, ⟨[(1, .one (bI .i64 i_1))], [], [(14, .one (bI .i64 i_1))], []⟩, ⟨[(13, .one (.g (.d (.sl 6 (List.map encApi_Event l_0))))), (14, .one (bI .i64 i_1))], [], [(15, .one (.ep [.v (.int .i64 x3.Kind), .v (.int .i64 x3.Client), .v (.string x3.Key), .v (.int .i64 x3.Stamp.N), .v (.int .i64 x3.Stamp.Site), .sl 3 (List.map encApi_Dep x3.Seen)]))], []⟩, ⟨[(15, .one (.ep [.v (.int .i64 x3.Kind), .v (.int .i64 x3.Client), .v (.string x3.Key), .v (.int .i64 x3.Stamp.N), .v (.int .i64 x3.Stamp.Site), .sl 3 (List.map encApi_Dep x3.Seen)]))], [], [(16, .one (.ep [.sl 3 (List.map encApi_Dep x3.Seen)]))], []⟩, ⟨[(16, .one (.ep [.sl 3 (List.map encApi_Dep x3.Seen)]))], [], [(17, .one (.g (.d (.sl 3 (List.map encApi_Dep x3.Seen)))))], []⟩, ⟨[(0, .one (.g (.d (.sl 6 (List.map encApi_Event l_0)))))], [], [(18, .one (.g (.d (.sl 6 (List.map encApi_Event l_0)))))], []⟩, ⟨[(1, .one (bI .i64 i_1))], [], [(19, .one (bI .i64 i_1))], []⟩, ⟨[(18, .one (.g (.d (.sl 6 (List.map encApi_Event l_0))))), (19, .one (bI .i64 i_1))], [], [(20, .one (.ep [.v (.int .i64 x4.Kind), .v (.int .i64 x4.Client), .v (.string x4.Key), .v (.int .i64 x4.Stamp.N), .v (.int .i64 x4.Stamp.Site), .sl 3 (List.map encApi_Dep x4.Seen)]))], []⟩, ⟨[(20, .one (.ep [.v (.int .i64 x4.Kind), .v (.int .i64 x4.Client), .v (.string x4.Key), .v (.int .i64 x4.Stamp.N), .v (.int .i64 x4.Stamp.Site), .sl 3 (List.map encApi_Dep x4.Seen)]))], [], [(21, .one (.ep [.v (.string x4.Key), .v (.int .i64 x4.Stamp.N), .v (.int .i64 x4.Stamp.Site), .sl 3 (List.map encApi_Dep x4.Seen)]))], []⟩, ⟨[(21, .one (.ep [.v (.string x4.Key), .v (.int .i64 x4.Stamp.N), .v (.int .i64 x4.Stamp.Site), .sl 3 (List.map encApi_Dep x4.Seen)]))], [], [(22, .one (bS x4.Key))], []⟩, ⟨[(0, .one (.g (.d (.sl 6 (List.map encApi_Event l_0)))))], [], [(23, .one (.g (.d (.sl 6 (List.map encApi_Event l_0)))))], []⟩, ⟨[(1, .one (bI .i64 i_1))], [], [(24, .one (bI .i64 i_1))], []⟩, ⟨[(23, .one (.g (.d (.sl 6 (List.map encApi_Event l_0))))), (24, .one (bI .i64 i_1))], [], [(25, .one (.ep [.v (.int .i64 x5.Kind), .v (.int .i64 x5.Client), .v (.string x5.Key), .v (.int .i64 x5.Stamp.N), .v (.int .i64 x5.Stamp.Site), .sl 3 (List.map encApi_Dep x5.Seen)]))], []⟩, ⟨[(25, .one (.ep [.v (.int .i64 x5.Kind), .v (.int .i64 x5.Client), .v (.string x5.Key), .v (.int .i64 x5.Stamp.N), .v (.int .i64 x5.Stamp.Site), .sl 3 (List.map encApi_Dep x5.Seen)]))], [], [(26, .one (.ep [.v (.int .i64 x5.Stamp.N), .v (.int .i64 x5.Stamp.Site), .sl 3 (List.map encApi_Dep x5.Seen)]))], []⟩, ⟨[(26, .one (.ep [.v (.int .i64 x5.Stamp.N), .v (.int .i64 x5.Stamp.Site), .sl 3 (List.map encApi_Dep x5.Seen)]))], [], [(27, .one (.g (.agg [.v (.int .i64 x5.Stamp.N), .v (.int .i64 x5.Stamp.Site)])))], []⟩, ⟨[(22, .one (bS x4.Key)), (27, .one (.g (.agg [.v (.int .i64 x5.Stamp.N), .v (.int .i64 x5.Stamp.Site)])))], [], [(28, .one (.g (.agg [.v (.string x4.Key), .v (.int .i64 x5.Stamp.N), .v (.int .i64 x5.Stamp.Site)])))], []⟩, ⟨[(28, .one (.g (.agg [.v (.string x4.Key), .v (.int .i64 x5.Stamp.N), .v (.int .i64 x5.Stamp.Site)])))], [], [(29, .one (.g (.d (.sl 3 (List.map encApi_Dep ([(Api_Dep.mk x4.Key x5.Stamp)]))))))], []⟩, ⟨[(17, .one (.g (.d (.sl 3 (List.map encApi_Dep x3.Seen))))), (29, .one (.g (.d (.sl 3 (List.map encApi_Dep ([(Api_Dep.mk x4.Key x5.Stamp)]))))))], [], [(30, .one (.g (.d (.sl 1 (List.map encL_encApi_Dep ([x3.Seen, [(Api_Dep.mk x4.Key x5.Stamp)]]))))))], []⟩, ⟨[(30, .one (.g (.d (.sl 1 (List.map encL_encApi_Dep ([x3.Seen, [(Api_Dep.mk x4.Key x5.Stamp)]]))))))], [], [(31, .one (.g (.d (.sl 3 (List.map encApi_Dep r6)))))], []⟩, ⟨[(31, .one (.g (.d (.sl 3 (List.map encApi_Dep r6)))))], [], [(4, .one (.g (.d (.sl 3 (List.map encApi_Dep r6)))))], []⟩]) (deps := [[], [], [0, 1], [0, 1, 2], [0, 1, 2, 3], [], [], [5, 6], [5, 6, 7], [5, 6, 7, 8], [], [], [10, 11], [10, 11, 12], [10, 11, 12, 13], [5, 6, 7, 8, 9, 10, 11, 12, 13, 14], [5, 6, 7, 8, 9, 10, 11, 12, 13, 14, 15], [0, 1, 2, 3, 4, 5, 6, 7, 8, 9, 10, 11, 12, 13, 14, 15, 16], [0, 1, 2, 3, 4, 5, 6, 7, 8, 9, 10, 11, 12, 13, 14, 15, 16, 17], [0, 1, 2, 3, 4, 5, 6, 7, 8, 9, 10, 11, 12, 13, 14, 15, 16, 17, 18]]) (sl' := [(4, .one (.g (.d (.sl 3 (List.map encApi_Dep r6)))))]) (hp' := []) follows rfl rfl rfl ⟨⟨rfl, trivial⟩, trivial, ⟨rfl, trivial⟩, trivial, ⟨rfl, rfl, trivial⟩, trivial, ⟨rfl, trivial⟩, trivial, ⟨rfl, trivial⟩, trivial, ⟨rfl, trivial⟩, trivial, ⟨rfl, trivial⟩, trivial, ⟨rfl, rfl, trivial⟩, trivial, ⟨rfl, trivial⟩, trivial, ⟨rfl, trivial⟩, trivial, ⟨rfl, trivial⟩, trivial, ⟨rfl, trivial⟩, trivial, ⟨rfl, rfl, trivial⟩, trivial, ⟨rfl, trivial⟩, trivial, ⟨rfl, trivial⟩, trivial, ⟨rfl, rfl, trivial⟩, trivial, ⟨rfl, trivial⟩, trivial, ⟨rfl, rfl, trivial⟩, trivial, ⟨rfl, trivial⟩, trivial, ⟨rfl, trivial⟩, trivial, trivial⟩ ⟨OpW.plain (op_move (Ev.t 0 (.g (.d (.sl 6 (List.map encApi_Event l_0))))) rfl) rfl rfl, OpW.plain (op_move (Ev.t 1 (bI .i64 i_1)) rfl) rfl rfl, OpW.plain (op_index (cs := [.v (.int .i64 x3.Kind), .v (.int .i64 x3.Client), .v (.string x3.Key), .v (.int .i64 x3.Stamp.N), .v (.int .i64 x3.Stamp.Site), .sl 3 (List.map encApi_Dep x3.Seen)]) Try.underlying24 ti30 (idx_ok hx3).1 (idx_get hx3 encApi_Event) (Ev.t 13 (.g (.d (.sl 6 (List.map encApi_Event l_0))))) (Ev.t 14 (bI .i64 i_1)) rfl) rfl rfl, OpW.plain (op_fieldE (cs' := [.sl 3 (List.map encApi_Dep x3.Seen)]) Try.underlying30 rfl ti28 (by decide) rfl (Ev.t 15 (.ep [.v (.int .i64 x3.Kind), .v (.int .i64 x3.Client), .v (.string x3.Key), .v (.int .i64 x3.Stamp.N), .v (.int .i64 x3.Stamp.Site), .sl 3 (List.map encApi_Dep x3.Seen)])) rfl) rfl rfl, OpW.plain (op_load1E (c := .sl 3 (List.map encApi_Dep x3.Seen)) Try.underlying28 rfl rfl (Ev.t 16 (.ep [.sl 3 (List.map encApi_Dep x3.Seen)])) rfl) rfl rfl, OpW.plain (op_move (Ev.t 0 (.g (.d (.sl 6 (List.map encApi_Event l_0))))) rfl) rfl rfl, OpW.plain (op_move (Ev.t 1 (bI .i64 i_1)) rfl) rfl rfl, OpW.plain (op_index (cs := [.v (.int .i64 x4.Kind), .v (.int .i64 x4.Client), .v (.string x4.Key), .v (.int .i64 x4.Stamp.N), .v (.int .i64 x4.Stamp.Site), .sl 3 (List.map encApi_Dep x4.Seen)]) Try.underlying24 ti30 (idx_ok hx4).1 (idx_get hx4 encApi_Event) (Ev.t 18 (.g (.d (.sl 6 (List.map encApi_Event l_0))))) (Ev.t 19 (bI .i64 i_1)) rfl) rfl rfl, OpW.plain (op_fieldE (cs' := [.v (.string x4.Key), .v (.int .i64 x4.Stamp.N), .v (.int .i64 x4.Stamp.Site), .sl 3 (List.map encApi_Dep x4.Seen)]) Try.underlying30 rfl ti9 (by decide) rfl (Ev.t 20 (.ep [.v (.int .i64 x4.Kind), .v (.int .i64 x4.Client), .v (.string x4.Key), .v (.int .i64 x4.Stamp.N), .v (.int .i64 x4.Stamp.Site), .sl 3 (List.map encApi_Dep x4.Seen)])) rfl) rfl rfl, OpW.plain (op_load1E (c := .v (.string x4.Key)) Try.underlying9 rfl rfl (Ev.t 21 (.ep [.v (.string x4.Key), .v (.int .i64 x4.Stamp.N), .v (.int .i64 x4.Stamp.Site), .sl 3 (List.map encApi_Dep x4.Seen)])) rfl) rfl rfl, OpW.plain (op_move (Ev.t 0 (.g (.d (.sl 6 (List.map encApi_Event l_0))))) rfl) rfl rfl, OpW.plain (op_move (Ev.t 1 (bI .i64 i_1)) rfl) rfl rfl, OpW.plain (op_index (cs := [.v (.int .i64 x5.Kind), .v (.int .i64 x5.Client), .v (.string x5.Key), .v (.int .i64 x5.Stamp.N), .v (.int .i64 x5.Stamp.Site), .sl 3 (List.map encApi_Dep x5.Seen)]) Try.underlying24 ti30 (idx_ok hx5).1 (idx_get hx5 encApi_Event) (Ev.t 23 (.g (.d (.sl 6 (List.map encApi_Event l_0))))) (Ev.t 24 (bI .i64 i_1)) rfl) rfl rfl, OpW.plain (op_fieldE (cs' := [.v (.int .i64 x5.Stamp.N), .v (.int .i64 x5.Stamp.Site), .sl 3 (List.map encApi_Dep x5.Seen)]) Try.underlying30 rfl ti27 (by decide) rfl (Ev.t 25 (.ep [.v (.int .i64 x5.Kind), .v (.int .i64 x5.Client), .v (.string x5.Key), .v (.int .i64 x5.Stamp.N), .v (.int .i64 x5.Stamp.Site), .sl 3 (List.map encApi_Dep x5.Seen)])) rfl) rfl rfl, OpW.plain (op_loadAE (ds := [.v (.int .i64 x5.Stamp.N), .v (.int .i64 x5.Stamp.Site)]) Try.underlying27 rfl ti27 rfl (Ev.t 26 (.ep [.v (.int .i64 x5.Stamp.N), .v (.int .i64 x5.Stamp.Site), .sl 3 (List.map encApi_Dep x5.Seen)])) rfl) rfl rfl, OpW.plain (op_build (zs := [.v (.string ByteArray.empty), .v (.int .i64 0), .v (.int .i64 0)]) (ds := [.v (.string x4.Key), .v (.int .i64 x5.Stamp.N), .v (.int .i64 x5.Stamp.Site)]) Try.underlying52 ti52 (pl52 _ Try.underlying52) ⟨.v _ rfl, .v _ rfl, .v _ rfl, trivial⟩ (EvP.cons (Ev.t 22 (bS x4.Key)) (EvP.cons (Ev.t 27 (.g (.agg [.v (.int .i64 x5.Stamp.N), .v (.int .i64 x5.Stamp.Site)]))) EvP.nil)) rfl rfl) rfl rfl, OpW.plain (op_buildSlice (es := List.map encApi_Dep [(Api_Dep.mk x4.Key x5.Stamp)]) Try.underlying28 ti52 rfl rfl (EvP.cons (Ev.t 28 (.g (.agg [.v (.string x4.Key), .v (.int .i64 x5.Stamp.N), .v (.int .i64 x5.Stamp.Site)]))) EvP.nil) rfl rfl (by simp [encApi_Dep]) rfl) rfl rfl, OpW.plain (op_buildSlice (es := List.map encL_encApi_Dep [x3.Seen, [(Api_Dep.mk x4.Key x5.Stamp)]]) Try.underlying60 ti28 rfl rfl (EvP.cons (Ev.t 17 (.g (.d (.sl 3 (List.map encApi_Dep x3.Seen))))) (EvP.cons (Ev.t 29 (.g (.d (.sl 3 (List.map encApi_Dep ([(Api_Dep.mk x4.Key x5.Stamp)])))))) EvP.nil)) rfl rfl (by simp [encL_encApi_Dep]) rfl) rfl rfl, OpW.plain (op_call (sv := .one (.g (.d (.sl 3 (List.map encApi_Dep r6))))) cf26 (ct_past_Merge ([x3.Seen, [(Api_Dep.mk x4.Key x5.Stamp)]]) r6 hr6) rfl (EvL.cons (Ev.t 30 (.g (.d (.sl 1 (List.map encL_encApi_Dep ([x3.Seen, [(Api_Dep.mk x4.Key x5.Stamp)]])))))) EvL.nil) rfl) rfl rfl, OpW.plain (op_assign (Ev.t 31 (.g (.d (.sl 3 (List.map encApi_Dep r6))))) rfl) rfl rfl, trivial⟩ ⟨rfl, trivial⟩ trivial rfl ?_
      cases hF
      exact G.ret1 Try.results11 (RVar.tmp 4 _) ⟨rfl, trivial⟩ trivial
  refine G.region ?_
  refine G.op1 (op_move (Ev.t 1 (bI .i64 i_1)) rfl) rfl ⟨rfl, trivial⟩ trivial ?_
  refine G.op1 (op_lss (Ev.t 5 (bI .i64 i_1)) (Ev.c _ rfl) rfl) rfl ⟨rfl, trivial⟩ trivial ?_
  refine G.op1 (op_move (Ev.t 6 (bB (decide (i_1 < 0)))) rfl) rfl ⟨rfl, trivial⟩ trivial ?_
  refine ifS hF (fun hc8 hF => ?_) (fun hc8 hF => ?_)
  · refine G.known (t := 7) hc8 rfl ?_
    refine G.opN1 rfl rfl rfl rfl rfl ?_
    refine G.opN1 rfl rfl rfl rfl rfl ?_
    refine G.opN1 rfl rfl rfl rfl rfl ?_
    refine G.opN1 rfl rfl rfl rfl rfl ?_
    refine G.op1 (op_pickT (Ev.t 7 (bB true)) (Ev.c _ rfl) rfl) rfl ⟨rfl, trivial⟩ trivial ?_
    refine G.endOps ?_
    exact G.arr (J7 true hF) ⟨rfl, rfl, rfl, trivial⟩ trivial rfl
  · refine G.known (t := 7) hc8 rfl ?_
    refine G.opG1 (op_move (Ev.t 1 (bI .i64 i_1)) rfl) rfl rfl rfl ⟨rfl, trivial⟩ trivial ?_
    refine G.opG1 (op_move (Ev.t 0 (.g (.d (.sl 6 (List.map encApi_Event l_0))))) rfl) rfl rfl rfl ⟨rfl, trivial⟩ trivial ?_
    refine G.opG1 (OpL.cast (op_lenD Try.underlying24 (Ev.t 9 (.g (.d (.sl 6 (List.map encApi_Event l_0))))) rfl) (by rw [List.length_map])) rfl rfl rfl ⟨rfl, trivial⟩ trivial ?_
    refine G.opG1 (op_geq (Ev.t 8 (bI .i64 i_1)) (Ev.t 10 (bI .i64 (l_0.length : Int))) rfl) rfl rfl rfl ⟨rfl, rfl, trivial⟩ trivial ?_
    refine G.op1 (op_pickF (Ev.t 7 (bB false)) (Ev.t 11 (bB (decide ((l_0.length : Int) ≤ i_1)))) rfl) rfl ⟨rfl, rfl, trivial⟩ trivial ?_
    refine G.endOps ?_
    exact G.arr (J7 (decide ((l_0.length : Int) ≤ i_1)) hF) ⟨rfl, rfl, rfl, trivial⟩ trivial rfl

end Go.Ark
