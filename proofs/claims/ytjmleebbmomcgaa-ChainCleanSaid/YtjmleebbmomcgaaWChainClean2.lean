/- Walks, printed by a program of mine: each function of the program computes the typed function of its name. Conditions: none. -/
import Derived.Test.YtjmleebbmomcgaaWChainClean1
namespace Go.Ark
open Go Go.Ab Go.Proofs

set_option maxRecDepth 20000 in
set_option maxHeartbeats 2000000 in
theorem ct_ref02_long (c_0 : Int) (r : Int) (hF : ref02_long c_0 = some r) : Ct Try.prog 52 [.g (.d (.v (.int .u8 c_0)))] (.one (.d (.v (.int .i64 r)))) := by
  unfold ref02_long at hF
  refine Ct.intro Try.func52 rfl Try.ntmps52 rfl rfl fun M w => ?_
  refine G.seq ?_
  refine G.region ?_
  refine G.op1 (op_assign (Ev.c _ rfl) rfl) rfl trivial trivial ?_
  refine G.endOps ?_
  refine G.seq ?_
  refine G.seq ?_
  refine G.region ?_
  refine G.op1 (op_move (Ev.t 0 (bI .u8 c_0)) rfl) rfl ⟨rfl, trivial⟩ trivial ?_
  refine G.op1 (op_lss (Ev.t 3 (bI .u8 c_0)) (Ev.c _ rfl) rfl) rfl ⟨rfl, trivial⟩ trivial ?_
  refine G.endOps ?_
  refine ifS hF (fun hc1 hF => ?_) (fun hc1 hF => ?_)
  · refine G.cond rfl (fun _ => ?_) (fun hx => by rw [hc1] at hx; cases hx)
    refine G.seq ?_
    refine G.region ?_
    refine G.op1 (op_assign (Ev.c _ rfl) rfl) rfl trivial trivial ?_
    refine G.endOps ?_
    cases hF
    exact G.ret1 Try.results52 (RVar.tmp 2 _) ⟨rfl, trivial⟩ trivial
  · refine G.cond rfl (fun hx => by rw [hc1] at hx; cases hx) (fun _ => ?_)
    refine G.skip ?_
    refine G.seq ?_
    refine G.seq ?_
    refine G.joinC (T := Bool) (fun y2 => ⟨[(0, .one (bI .u8 c_0)), (10, .one (bB y2))], []⟩) (fun y2 => ref02_long_k1 c_0 y2 = some r) (fun y2 hF => ?_) (fun J10 => ?_)
    · unfold ref02_long_k1 at hF
      refine ifS hF (fun hc3 hF => ?_) (fun hc3 hF => ?_)
      · refine G.cond rfl (fun _ => ?_) (fun hx => by rw [hc3] at hx; cases hx)
        refine G.seq ?_
        refine G.region ?_
        refine G.op1 (op_assign (Ev.c _ rfl) rfl) rfl trivial trivial ?_
        refine G.endOps ?_
        cases hF
        exact G.ret1 Try.results52 (RVar.tmp 2 _) ⟨rfl, trivial⟩ trivial
      · refine G.cond rfl (fun hx => by rw [hc3] at hx; cases hx) (fun _ => ?_)
        refine G.skip ?_
        refine G.seq ?_
        refine G.seq ?_
        refine G.joinC (T := Bool) (fun y4 => ⟨[(0, .one (bI .u8 c_0)), (16, .one (bB y4))], []⟩) (fun y4 => ref02_long_k2 c_0 y4 = some r) (fun y4 hF => ?_) (fun J8 => ?_)
        · unfold ref02_long_k2 at hF
          refine ifS hF (fun hc5 hF => ?_) (fun hc5 hF => ?_)
          · refine G.cond rfl (fun _ => ?_) (fun hx => by rw [hc5] at hx; cases hx)
            refine G.seq ?_
            refine G.region ?_
            refine G.op1 (op_assign (Ev.c _ rfl) rfl) rfl trivial trivial ?_
            refine G.endOps ?_
            cases hF
            exact G.ret1 Try.results52 (RVar.tmp 2 _) ⟨rfl, trivial⟩ trivial
          · refine G.cond rfl (fun hx => by rw [hc5] at hx; cases hx) (fun _ => ?_)
            refine G.skip ?_
            refine G.seq ?_
            refine G.seq ?_
            refine G.region ?_
            refine G.op1 (op_move (Ev.t 0 (bI .u8 c_0)) rfl) rfl ⟨rfl, trivial⟩ trivial ?_
            refine G.op1 (op_geq (Ev.t 17 (bI .u8 c_0)) (Ev.c _ rfl) rfl) rfl ⟨rfl, trivial⟩ trivial ?_
            refine G.op1 (op_move (Ev.t 18 (bB (decide (240 ≤ c_0)))) rfl) rfl ⟨rfl, trivial⟩ trivial ?_
            refine ifS hF (fun hc6 hF => ?_) (fun hc6 hF => ?_)
            · refine G.known (t := 19) hc6 rfl ?_
              refine G.opG1 (op_move (Ev.t 0 (bI .u8 c_0)) rfl) rfl rfl rfl ⟨rfl, trivial⟩ trivial ?_
              refine G.opG1 (op_leq (Ev.t 20 (bI .u8 c_0)) (Ev.c _ rfl) rfl) rfl rfl rfl ⟨rfl, trivial⟩ trivial ?_
              refine G.op1 (op_pickT (Ev.t 19 (bB true)) (Ev.t 21 (bB (decide (c_0 ≤ 244)))) rfl) rfl ⟨rfl, rfl, trivial⟩ trivial ?_
              refine G.endOps ?_
              refine ifS hF (fun hc7 hF => ?_) (fun hc7 hF => ?_)
              · refine G.cond rfl (fun _ => ?_) (fun hx => by rw [hc7] at hx; cases hx)
                refine G.seq ?_
                refine G.region ?_
                refine G.op1 (op_assign (Ev.c _ rfl) rfl) rfl trivial trivial ?_
                refine G.endOps ?_
                cases hF
                exact G.ret1 Try.results52 (RVar.tmp 2 _) ⟨rfl, trivial⟩ trivial
              · refine G.cond rfl (fun hx => by rw [hc7] at hx; cases hx) (fun _ => ?_)
                refine G.skip ?_
                refine G.seq ?_
                refine G.region ?_
                refine G.op1 (op_assign (Ev.c _ rfl) rfl) rfl trivial trivial ?_
                refine G.endOps ?_
                cases hF
                exact G.ret1 Try.results52 (RVar.tmp 2 _) ⟨rfl, trivial⟩ trivial
            · refine G.known (t := 19) hc6 rfl ?_
              refine G.opN1 rfl rfl rfl rfl rfl ?_
              refine G.opN1 rfl rfl rfl rfl rfl ?_
              refine G.op1 (op_pickF (Ev.t 19 (bB false)) (Ev.c _ rfl) rfl) rfl ⟨rfl, trivial⟩ trivial ?_
              refine G.endOps ?_
              refine G.condF rfl ?_
              refine G.skip ?_
              refine G.seq ?_
              refine G.region ?_
              refine G.op1 (op_assign (Ev.c _ rfl) rfl) rfl trivial trivial ?_
              refine G.endOps ?_
              cases hF
              exact G.ret1 Try.results52 (RVar.tmp 2 _) ⟨rfl, trivial⟩ trivial
        refine G.region ?_
        refine G.op1 (op_move (Ev.t 0 (bI .u8 c_0)) rfl) rfl ⟨rfl, trivial⟩ trivial ?_
        refine G.op1 (op_geq (Ev.t 11 (bI .u8 c_0)) (Ev.c _ rfl) rfl) rfl ⟨rfl, trivial⟩ trivial ?_
        refine G.op1 (op_move (Ev.t 12 (bB (decide (224 ≤ c_0)))) rfl) rfl ⟨rfl, trivial⟩ trivial ?_
        refine ifS hF (fun hc9 hF => ?_) (fun hc9 hF => ?_)
        · refine G.known (t := 13) hc9 rfl ?_
          refine G.opG1 (op_move (Ev.t 0 (bI .u8 c_0)) rfl) rfl rfl rfl ⟨rfl, trivial⟩ trivial ?_
          refine G.opG1 (op_leq (Ev.t 14 (bI .u8 c_0)) (Ev.c _ rfl) rfl) rfl rfl rfl ⟨rfl, trivial⟩ trivial ?_
          refine G.op1 (op_pickT (Ev.t 13 (bB true)) (Ev.t 15 (bB (decide (c_0 ≤ 239)))) rfl) rfl ⟨rfl, rfl, trivial⟩ trivial ?_
          refine G.endOps ?_
          exact G.arr (J8 (decide (c_0 ≤ 239)) hF) ⟨rfl, rfl, trivial⟩ trivial rfl
        · refine G.known (t := 13) hc9 rfl ?_
          refine G.opN1 rfl rfl rfl rfl rfl ?_
          refine G.opN1 rfl rfl rfl rfl rfl ?_
          refine G.op1 (op_pickF (Ev.t 13 (bB false)) (Ev.c _ rfl) rfl) rfl ⟨rfl, trivial⟩ trivial ?_
          refine G.endOps ?_
          exact G.arr (J8 false hF) ⟨rfl, rfl, trivial⟩ trivial rfl
    refine G.region ?_
    refine G.op1 (op_move (Ev.t 0 (bI .u8 c_0)) rfl) rfl ⟨rfl, trivial⟩ trivial ?_
    refine G.op1 (op_geq (Ev.t 5 (bI .u8 c_0)) (Ev.c _ rfl) rfl) rfl ⟨rfl, trivial⟩ trivial ?_
    refine G.op1 (op_move (Ev.t 6 (bB (decide (194 ≤ c_0)))) rfl) rfl ⟨rfl, trivial⟩ trivial ?_
    refine ifS hF (fun hc11 hF => ?_) (fun hc11 hF => ?_)
    · refine G.known (t := 7) hc11 rfl ?_
      refine G.opG1 (op_move (Ev.t 0 (bI .u8 c_0)) rfl) rfl rfl rfl ⟨rfl, trivial⟩ trivial ?_
      refine G.opG1 (op_leq (Ev.t 8 (bI .u8 c_0)) (Ev.c _ rfl) rfl) rfl rfl rfl ⟨rfl, trivial⟩ trivial ?_
      refine G.op1 (op_pickT (Ev.t 7 (bB true)) (Ev.t 9 (bB (decide (c_0 ≤ 223)))) rfl) rfl ⟨rfl, rfl, trivial⟩ trivial ?_
      refine G.endOps ?_
      exact G.arr (J10 (decide (c_0 ≤ 223)) hF) ⟨rfl, rfl, trivial⟩ trivial rfl
    · refine G.known (t := 7) hc11 rfl ?_
      refine G.opN1 rfl rfl rfl rfl rfl ?_
      refine G.opN1 rfl rfl rfl rfl rfl ?_
      refine G.op1 (op_pickF (Ev.t 7 (bB false)) (Ev.c _ rfl) rfl) rfl ⟨rfl, trivial⟩ trivial ?_
      refine G.endOps ?_
      exact G.arr (J10 false hF) ⟨rfl, rfl, trivial⟩ trivial rfl


set_option maxRecDepth 20000 in
set_option maxHeartbeats 2000000 in
theorem ct_ref02_Runes (s_0 : ByteArray) (r : Int) (hF : ref02_Runes s_0 = some r) : Ct Try.prog 48 [.g (.d (.v (.string s_0)))] (.one (.d (.v (.int .i64 r)))) := by
  unfold ref02_Runes at hF
  refine Ct.intro Try.func48 rfl Try.ntmps48 rfl rfl fun M w => ?_
  refine G.seq ?_
  refine G.region ?_
  refine G.op1 (op_assign (Ev.c _ rfl) rfl) rfl trivial trivial ?_
  refine G.endOps ?_
  refine G.seq ?_
  refine G.region ?_
  refine G.op1 (op_assign (Ev.c _ rfl) rfl) rfl trivial trivial ?_
  refine G.endOps ?_
  refine G.seq ?_
  refine G.seq ?_
  refine G.region ?_
  refine G.op1 (op_assign (Ev.c _ rfl) rfl) rfl trivial trivial ?_
  refine G.endOps ?_
  refine G.joinC (T := Int) (fun y1 => ⟨[(3, .one (bI .i64 y1))], []⟩) (fun y1 => ref02_Runes_k1 y1 = some r) (fun y1 hF => ?_) (fun J2 => ?_)
  · unfold ref02_Runes_k1 at hF
    refine G.seq ?_
    refine G.region ?_
    refine G.op1 (op_move (Ev.t 3 (bI .i64 y1)) rfl) rfl ⟨rfl, trivial⟩ trivial ?_
    refine G.op1 (op_assign (Ev.t 99 (bI .i64 y1)) rfl) rfl ⟨rfl, trivial⟩ trivial ?_
    refine G.endOps ?_
    cases hF
    exact G.ret1 Try.results48 (RVar.tmp 2 _) ⟨rfl, trivial⟩ trivial
  refine G.block ?_
  refine G.keep (sl' := [(0, .one (bS s_0)), (3, .one (bI .i64 0)), (4, .one (bI .i64 0))]) (hp' := []) ⟨rfl, rfl, rfl, trivial⟩ trivial rfl ?_
  refine G.loopF (fun (v3 : Int × Int) => ⟨[(0, .one (bS s_0)), (3, .one (bI .i64 v3.1)), (4, .one (bI .i64 v3.2))], []⟩) hF rfl (fun K6 again5 v3 J4 hF => ?_)
  unfold ref02_Runes_l2 at hF
  refine G.seq ?_
  refine G.seq ?_
  refine G.region ?_
  refine G.op1 (op_move (Ev.t 4 (bI .i64 v3.2)) rfl) rfl ⟨rfl, trivial⟩ trivial ?_
  refine G.op1 (op_move (Ev.t 0 (bS s_0)) rfl) rfl ⟨rfl, trivial⟩ trivial ?_
  refine G.op1 (op_lenS Try.underlying9 (Ev.t 8 (bS s_0)) rfl) rfl ⟨rfl, trivial⟩ trivial ?_
  refine G.op1 (op_lss (Ev.t 7 (bI .i64 v3.2)) (Ev.t 9 (bI .i64 (s_0.size : Int))) rfl) rfl ⟨rfl, rfl, trivial⟩ trivial ?_
  refine G.endOps ?_
  refine ifS hF (fun hc7 hF => ?_) (fun hc7 hF => ?_)
  · refine G.cond rfl (fun _ => ?_) (fun hx => by rw [hc7] at hx; cases hx)
    refine G.skip ?_
    refine G.block ?_
    refine G.seq ?_
    refine G.region ?_
    refine G.op1 (op_move (Ev.t 0 (bS s_0)) rfl) rfl ⟨rfl, trivial⟩ trivial ?_
    refine G.op1 (op_move (Ev.t 4 (bI .i64 v3.2)) rfl) rfl ⟨rfl, trivial⟩ trivial ?_
    obtain ⟨b8, hb8, hF⟩ := bindS hF
    refine G.op1 (op_indexS Try.underlying9 (sidx_ok hb8).1 (sidx_ok hb8).2 (Ev.t 11 (bS s_0)) (Ev.t 12 (bI .i64 v3.2)) rfl) rfl ⟨rfl, rfl, trivial⟩ trivial ?_
    obtain ⟨r9, hr9, hF⟩ := bindS hF
    refine G.op1 (op_callQ (sv := .one (bI .i64 r9)) cf52 (ct_ref02_long (b8.toNat : Int) r9 hr9) rfl rfl (EvQL.cons (EvQ.g (Ev.t 13 (bI .u8 (b8.toNat : Int)))) EvQL.nil) rfl) rfl ⟨rfl, trivial⟩ trivial ?_
    refine G.op1 (op_assign (Ev.t 14 (bI .i64 r9)) rfl) rfl ⟨rfl, trivial⟩ trivial ?_
    refine G.endOps ?_
    refine G.seq ?_
    refine G.seq ?_
    refine G.joinC (T := Bool) (fun y10 => ⟨[(0, .one (bS s_0)), (3, .one (bI .i64 v3.1)), (4, .one (bI .i64 v3.2)), (5, .one (bI .i64 r9)), (24, .one (bB y10))], []⟩) (fun y10 => ref02_Runes_k3 s_0 again5 v3 r9 y10 = some r) (fun y10 hF => ?_) (fun J47 => ?_)
    · unfold ref02_Runes_k3 at hF
      refine ifS hF (fun hc11 hF => ?_) (fun hc11 hF => ?_)
      · refine G.cond rfl (fun _ => ?_) (fun hx => by rw [hc11] at hx; cases hx)
        refine G.seq ?_
        refine G.region ?_
        refine G.op1 (op_assign (Ev.c _ rfl) rfl) rfl trivial trivial ?_
        refine G.endOps ?_
        cases hF
        exact G.ret1 Try.results48 (RVar.tmp 2 _) ⟨rfl, trivial⟩ trivial
      · refine G.cond rfl (fun hx => by rw [hc11] at hx; cases hx) (fun _ => ?_)
        refine G.skip ?_
        refine G.seq ?_
        refine G.seq ?_
        refine G.region ?_
        refine G.op1 (op_assign (Ev.c _ rfl) rfl) rfl trivial trivial ?_
        refine G.endOps ?_
        refine G.joinC (T := Unit) (fun y12 => ⟨[(0, .one (bS s_0)), (3, .one (bI .i64 v3.1)), (4, .one (bI .i64 v3.2)), (5, .one (bI .i64 r9))], []⟩) (fun y12 => ref02_Runes_k4 s_0 again5 v3 r9 y12 = some r) (fun y12 hF => ?_) (fun J37 => ?_)
        · unfold ref02_Runes_k4 at hF
          refine G.seq ?_
          refine G.seq ?_
          refine G.joinC (T := Bool) (fun y13 => ⟨[(0, .one (bS s_0)), (3, .one (bI .i64 v3.1)), (4, .one (bI .i64 v3.2)), (5, .one (bI .i64 r9)), (93, .one (bB y13))], []⟩) (fun y13 => ref02_Runes_k5 again5 v3 r9 y13 = some r) (fun y13 hF => ?_) (fun J15 => ?_)
          · unfold ref02_Runes_k5 at hF
            refine ifS hF (fun hc14 hF => ?_) (fun hc14 hF => ?_)
            · refine G.cond rfl (fun _ => ?_) (fun hx => by rw [hc14] at hx; cases hx)
              refine G.seq ?_
              refine G.region ?_
              refine G.op1 (op_assign (Ev.c _ rfl) rfl) rfl trivial trivial ?_
              refine G.endOps ?_
              cases hF
              exact G.ret1 Try.results48 (RVar.tmp 2 _) ⟨rfl, trivial⟩ trivial
            · refine G.cond rfl (fun hx => by rw [hc14] at hx; cases hx) (fun _ => ?_)
              refine G.skip ?_
              refine G.seq ?_
              refine G.region ?_
              refine G.op1 (op_move (Ev.t 4 (bI .i64 v3.2)) rfl) rfl ⟨rfl, trivial⟩ trivial ?_
              refine G.op1 (op_move (Ev.t 5 (bI .i64 r9)) rfl) rfl ⟨rfl, trivial⟩ trivial ?_
              refine G.op1 (op_add (Ev.t 94 (bI .i64 v3.2)) (Ev.t 95 (bI .i64 r9)) rfl) rfl ⟨rfl, rfl, trivial⟩ trivial ?_
              refine G.op1 (op_assign (Ev.t 96 (bI .i64 (IntKind.wrap .i64 (v3.2 + r9)))) rfl) rfl ⟨rfl, trivial⟩ trivial ?_
              refine G.endOps ?_
              refine G.region ?_
              refine G.op1 (op_move (Ev.t 3 (bI .i64 v3.1)) rfl) rfl ⟨rfl, trivial⟩ trivial ?_
              refine G.op1 (op_add (Ev.t 97 (bI .i64 v3.1)) (Ev.c _ rfl) rfl) rfl ⟨rfl, trivial⟩ trivial ?_
              refine G.op1 (op_assign (Ev.t 98 (bI .i64 (IntKind.wrap .i64 (v3.1 + 1)))) rfl) rfl ⟨rfl, trivial⟩ trivial ?_
              refine G.endOps ?_
              refine G.endBlock ?_
              exact G.arr (J4 (IntKind.wrap .i64 (v3.1 + 1), IntKind.wrap .i64 (v3.2 + r9)) hF) ⟨rfl, rfl, rfl, trivial⟩ trivial rfl
          refine G.region ?_
          refine G.op1 (op_move (Ev.t 0 (bS s_0)) rfl) rfl ⟨rfl, trivial⟩ trivial ?_
          refine G.op1 (op_move (Ev.t 4 (bI .i64 v3.2)) rfl) rfl ⟨rfl, trivial⟩ trivial ?_
          obtain ⟨b16, hb16, hF⟩ := bindS hF
          refine G.op1 (op_indexS Try.underlying9 (sidx_ok hb16).1 (sidx_ok hb16).2 (Ev.t 44 (bS s_0)) (Ev.t 45 (bI .i64 v3.2)) rfl) rfl ⟨rfl, rfl, trivial⟩ trivial ?_
          refine G.op1 (op_eqI (Ev.t 46 (bI .u8 (b16.toNat : Int))) (Ev.c _ rfl) rfl) rfl ⟨rfl, trivial⟩ trivial ?_
          refine G.op1 (op_move (Ev.t 47 (bB (decide ((b16.toNat : Int) = 224)))) rfl) rfl ⟨rfl, trivial⟩ trivial ?_
          refine G.joinL (T := Bool) 6 (fun y17 => ⟨[(0, .one (bS s_0)), (3, .one (bI .i64 v3.1)), (4, .one (bI .i64 v3.2)), (5, .one (bI .i64 r9)), (54, .one (bB y17))], []⟩) (fun y17 => ref02_Runes_k6 s_0 again5 v3 r9 y17 = some r) (fun y17 hF => ?_) (fun J34 => ?_)
          · unfold ref02_Runes_k6 at hF
            refine G.op1 (op_move (Ev.t 54 (bB y17)) rfl) rfl ⟨rfl, trivial⟩ trivial ?_
            refine G.joinL (T := Bool) 12 (fun y18 => ⟨[(0, .one (bS s_0)), (3, .one (bI .i64 v3.1)), (4, .one (bI .i64 v3.2)), (5, .one (bI .i64 r9)), (67, .one (bB y18))], []⟩) (fun y18 => ref02_Runes_k7 s_0 again5 v3 r9 y18 = some r) (fun y18 hF => ?_) (fun J29 => ?_)
            · unfold ref02_Runes_k7 at hF
              refine G.op1 (op_move (Ev.t 67 (bB y18)) rfl) rfl ⟨rfl, trivial⟩ trivial ?_
              refine G.joinL (T := Bool) 12 (fun y19 => ⟨[(0, .one (bS s_0)), (3, .one (bI .i64 v3.1)), (4, .one (bI .i64 v3.2)), (5, .one (bI .i64 r9)), (80, .one (bB y19))], []⟩) (fun y19 => ref02_Runes_k8 s_0 again5 v3 r9 y19 = some r) (fun y19 hF => ?_) (fun J24 => ?_)
              · unfold ref02_Runes_k8 at hF
                refine G.op1 (op_move (Ev.t 80 (bB y19)) rfl) rfl ⟨rfl, trivial⟩ trivial ?_
                refine ifS hF (fun hc20 hF => ?_) (fun hc20 hF => ?_)
                · refine G.known (t := 81) hc20 rfl ?_
                  refine G.opN1 rfl rfl rfl rfl rfl ?_
                  refine G.opN1 rfl rfl rfl rfl rfl ?_
                  refine G.opN1 rfl rfl rfl rfl rfl ?_
                  refine G.opN1 rfl rfl rfl rfl rfl ?_
                  refine G.opN1 rfl rfl rfl rfl rfl ?_
                  refine G.opU rfl rfl rfl rfl ?_
                  refine G.opU rfl rfl rfl rfl ?_
                  refine G.opU rfl rfl rfl rfl ?_
                  refine G.opU rfl rfl rfl rfl ?_
                  refine G.opU rfl rfl rfl rfl ?_
                  refine G.opN1 rfl rfl rfl rfl rfl ?_
                  refine G.op1 (op_pickT (Ev.t 81 (bB true)) (Ev.c _ rfl) rfl) rfl ⟨rfl, trivial⟩ trivial ?_
                  refine G.endOps ?_
                  exact G.arr (J15 true hF) ⟨rfl, rfl, rfl, rfl, rfl, trivial⟩ trivial rfl
                · refine G.known (t := 81) hc20 rfl ?_
                  refine G.opG1 (op_move (Ev.t 0 (bS s_0)) rfl) rfl rfl rfl ⟨rfl, trivial⟩ trivial ?_
                  refine G.opG1 (op_move (Ev.t 4 (bI .i64 v3.2)) rfl) rfl rfl rfl ⟨rfl, trivial⟩ trivial ?_
                  obtain ⟨b21, hb21, hF⟩ := bindS hF
                  refine G.opG1 (op_indexS Try.underlying9 (sidx_ok hb21).1 (sidx_ok hb21).2 (Ev.t 82 (bS s_0)) (Ev.t 83 (bI .i64 v3.2)) rfl) rfl rfl rfl ⟨rfl, rfl, trivial⟩ trivial ?_
                  refine G.opG1 (op_eqI (Ev.t 84 (bI .u8 (b21.toNat : Int))) (Ev.c _ rfl) rfl) rfl rfl rfl ⟨rfl, trivial⟩ trivial ?_
                  refine G.opG1 (op_move (Ev.t 85 (bB (decide ((b21.toNat : Int) = 244)))) rfl) rfl rfl rfl ⟨rfl, trivial⟩ trivial ?_
                  refine ifS hF (fun hc22 hF => ?_) (fun hc22 hF => ?_)
                  · refine G.known (t := 86) hc22 rfl ?_
                    refine G.opG1 (op_move (Ev.t 0 (bS s_0)) rfl) rfl rfl rfl ⟨rfl, trivial⟩ trivial ?_
                    refine G.opG1 (op_move (Ev.t 4 (bI .i64 v3.2)) rfl) rfl rfl rfl ⟨rfl, trivial⟩ trivial ?_
                    refine G.opG1 (op_add (Ev.t 88 (bI .i64 v3.2)) (Ev.c _ rfl) rfl) rfl rfl rfl ⟨rfl, trivial⟩ trivial ?_
                    obtain ⟨b23, hb23, hF⟩ := bindS hF
                    refine G.opG1 (op_indexS Try.underlying9 (sidx_ok hb23).1 (sidx_ok hb23).2 (Ev.t 87 (bS s_0)) (Ev.t 89 (bI .i64 (IntKind.wrap .i64 (v3.2 + 1)))) rfl) rfl rfl rfl ⟨rfl, rfl, trivial⟩ trivial ?_
                    refine G.opG1 (op_gtr (Ev.t 90 (bI .u8 (b23.toNat : Int))) (Ev.c _ rfl) rfl) rfl rfl rfl ⟨rfl, trivial⟩ trivial ?_
                    refine G.opG1 (op_pickT (Ev.t 86 (bB true)) (Ev.t 91 (bB (decide (143 < (b23.toNat : Int))))) rfl) rfl rfl rfl ⟨rfl, rfl, trivial⟩ trivial ?_
                    refine G.op1 (op_pickF (Ev.t 81 (bB false)) (Ev.t 92 (bB (decide (143 < (b23.toNat : Int))))) rfl) rfl ⟨rfl, rfl, trivial⟩ trivial ?_
                    refine G.endOps ?_
                    exact G.arr (J15 (decide (143 < (b23.toNat : Int))) hF) ⟨rfl, rfl, rfl, rfl, rfl, trivial⟩ trivial rfl
                  · refine G.known (t := 86) hc22 rfl ?_
                    refine G.opN1 rfl rfl rfl rfl rfl ?_
                    refine G.opN1 rfl rfl rfl rfl rfl ?_
                    refine G.opN1 rfl rfl rfl rfl rfl ?_
                    refine G.opN1 rfl rfl rfl rfl rfl ?_
                    refine G.opN1 rfl rfl rfl rfl rfl ?_
                    refine G.opG1 (op_pickF (Ev.t 86 (bB false)) (Ev.c _ rfl) rfl) rfl rfl rfl ⟨rfl, trivial⟩ trivial ?_
                    refine G.op1 (op_pickF (Ev.t 81 (bB false)) (Ev.t 92 (bB false)) rfl) rfl ⟨rfl, rfl, trivial⟩ trivial ?_
                    refine G.endOps ?_
                    exact G.arr (J15 false hF) ⟨rfl, rfl, rfl, rfl, rfl, trivial⟩ trivial rfl
              refine ifS hF (fun hc25 hF => ?_) (fun hc25 hF => ?_)
              · refine G.known (t := 68) hc25 rfl ?_
                refine G.opN1 rfl rfl rfl rfl rfl ?_
                refine G.opN1 rfl rfl rfl rfl rfl ?_
                refine G.opN1 rfl rfl rfl rfl rfl ?_
                refine G.opN1 rfl rfl rfl rfl rfl ?_
                refine G.opN1 rfl rfl rfl rfl rfl ?_
                refine G.opU rfl rfl rfl rfl ?_
                refine G.opU rfl rfl rfl rfl ?_
                refine G.opU rfl rfl rfl rfl ?_
                refine G.opU rfl rfl rfl rfl ?_
                refine G.opU rfl rfl rfl rfl ?_
                refine G.opN1 rfl rfl rfl rfl rfl ?_
                refine G.op1 (op_pickT (Ev.t 68 (bB true)) (Ev.c _ rfl) rfl) rfl ⟨rfl, trivial⟩ trivial ?_
                exact G.arr (J24 true hF) ⟨rfl, rfl, rfl, rfl, rfl, trivial⟩ trivial rfl
              · refine G.known (t := 68) hc25 rfl ?_
                refine G.opG1 (op_move (Ev.t 0 (bS s_0)) rfl) rfl rfl rfl ⟨rfl, trivial⟩ trivial ?_
                refine G.opG1 (op_move (Ev.t 4 (bI .i64 v3.2)) rfl) rfl rfl rfl ⟨rfl, trivial⟩ trivial ?_
                obtain ⟨b26, hb26, hF⟩ := bindS hF
                refine G.opG1 (op_indexS Try.underlying9 (sidx_ok hb26).1 (sidx_ok hb26).2 (Ev.t 69 (bS s_0)) (Ev.t 70 (bI .i64 v3.2)) rfl) rfl rfl rfl ⟨rfl, rfl, trivial⟩ trivial ?_
                refine G.opG1 (op_eqI (Ev.t 71 (bI .u8 (b26.toNat : Int))) (Ev.c _ rfl) rfl) rfl rfl rfl ⟨rfl, trivial⟩ trivial ?_
                refine G.opG1 (op_move (Ev.t 72 (bB (decide ((b26.toNat : Int) = 240)))) rfl) rfl rfl rfl ⟨rfl, trivial⟩ trivial ?_
                refine ifS hF (fun hc27 hF => ?_) (fun hc27 hF => ?_)
                · refine G.known (t := 73) hc27 rfl ?_
                  refine G.opG1 (op_move (Ev.t 0 (bS s_0)) rfl) rfl rfl rfl ⟨rfl, trivial⟩ trivial ?_
                  refine G.opG1 (op_move (Ev.t 4 (bI .i64 v3.2)) rfl) rfl rfl rfl ⟨rfl, trivial⟩ trivial ?_
                  refine G.opG1 (op_add (Ev.t 75 (bI .i64 v3.2)) (Ev.c _ rfl) rfl) rfl rfl rfl ⟨rfl, trivial⟩ trivial ?_
                  obtain ⟨b28, hb28, hF⟩ := bindS hF
                  refine G.opG1 (op_indexS Try.underlying9 (sidx_ok hb28).1 (sidx_ok hb28).2 (Ev.t 74 (bS s_0)) (Ev.t 76 (bI .i64 (IntKind.wrap .i64 (v3.2 + 1)))) rfl) rfl rfl rfl ⟨rfl, rfl, trivial⟩ trivial ?_
                  refine G.opG1 (op_lss (Ev.t 77 (bI .u8 (b28.toNat : Int))) (Ev.c _ rfl) rfl) rfl rfl rfl ⟨rfl, trivial⟩ trivial ?_
                  refine G.opG1 (op_pickT (Ev.t 73 (bB true)) (Ev.t 78 (bB (decide ((b28.toNat : Int) < 144)))) rfl) rfl rfl rfl ⟨rfl, rfl, trivial⟩ trivial ?_
                  refine G.op1 (op_pickF (Ev.t 68 (bB false)) (Ev.t 79 (bB (decide ((b28.toNat : Int) < 144)))) rfl) rfl ⟨rfl, rfl, trivial⟩ trivial ?_
                  exact G.arr (J24 (decide ((b28.toNat : Int) < 144)) hF) ⟨rfl, rfl, rfl, rfl, rfl, trivial⟩ trivial rfl
                · refine G.known (t := 73) hc27 rfl ?_
                  refine G.opN1 rfl rfl rfl rfl rfl ?_
                  refine G.opN1 rfl rfl rfl rfl rfl ?_
                  refine G.opN1 rfl rfl rfl rfl rfl ?_
                  refine G.opN1 rfl rfl rfl rfl rfl ?_
                  refine G.opN1 rfl rfl rfl rfl rfl ?_
                  refine G.opG1 (op_pickF (Ev.t 73 (bB false)) (Ev.c _ rfl) rfl) rfl rfl rfl ⟨rfl, trivial⟩ trivial ?_
                  refine G.op1 (op_pickF (Ev.t 68 (bB false)) (Ev.t 79 (bB false)) rfl) rfl ⟨rfl, rfl, trivial⟩ trivial ?_
                  exact G.arr (J24 false hF) ⟨rfl, rfl, rfl, rfl, rfl, trivial⟩ trivial rfl
            refine ifS hF (fun hc30 hF => ?_) (fun hc30 hF => ?_)
            · refine G.known (t := 55) hc30 rfl ?_
              refine G.opN1 rfl rfl rfl rfl rfl ?_
              refine G.opN1 rfl rfl rfl rfl rfl ?_
              refine G.opN1 rfl rfl rfl rfl rfl ?_
              refine G.opN1 rfl rfl rfl rfl rfl ?_
              refine G.opN1 rfl rfl rfl rfl rfl ?_
              refine G.opU rfl rfl rfl rfl ?_
              refine G.opU rfl rfl rfl rfl ?_
              refine G.opU rfl rfl rfl rfl ?_
              refine G.opU rfl rfl rfl rfl ?_
              refine G.opU rfl rfl rfl rfl ?_
              refine G.opN1 rfl rfl rfl rfl rfl ?_
              refine G.op1 (op_pickT (Ev.t 55 (bB true)) (Ev.c _ rfl) rfl) rfl ⟨rfl, trivial⟩ trivial ?_
              exact G.arr (J29 true hF) ⟨rfl, rfl, rfl, rfl, rfl, trivial⟩ trivial rfl
            · refine G.known (t := 55) hc30 rfl ?_
              refine G.opG1 (op_move (Ev.t 0 (bS s_0)) rfl) rfl rfl rfl ⟨rfl, trivial⟩ trivial ?_
              refine G.opG1 (op_move (Ev.t 4 (bI .i64 v3.2)) rfl) rfl rfl rfl ⟨rfl, trivial⟩ trivial ?_
              obtain ⟨b31, hb31, hF⟩ := bindS hF
              refine G.opG1 (op_indexS Try.underlying9 (sidx_ok hb31).1 (sidx_ok hb31).2 (Ev.t 56 (bS s_0)) (Ev.t 57 (bI .i64 v3.2)) rfl) rfl rfl rfl ⟨rfl, rfl, trivial⟩ trivial ?_
              refine G.opG1 (op_eqI (Ev.t 58 (bI .u8 (b31.toNat : Int))) (Ev.c _ rfl) rfl) rfl rfl rfl ⟨rfl, trivial⟩ trivial ?_
              refine G.opG1 (op_move (Ev.t 59 (bB (decide ((b31.toNat : Int) = 237)))) rfl) rfl rfl rfl ⟨rfl, trivial⟩ trivial ?_
              refine ifS hF (fun hc32 hF => ?_) (fun hc32 hF => ?_)
              · refine G.known (t := 60) hc32 rfl ?_
                refine G.opG1 (op_move (Ev.t 0 (bS s_0)) rfl) rfl rfl rfl ⟨rfl, trivial⟩ trivial ?_
                refine G.opG1 (op_move (Ev.t 4 (bI .i64 v3.2)) rfl) rfl rfl rfl ⟨rfl, trivial⟩ trivial ?_
                refine G.opG1 (op_add (Ev.t 62 (bI .i64 v3.2)) (Ev.c _ rfl) rfl) rfl rfl rfl ⟨rfl, trivial⟩ trivial ?_
                obtain ⟨b33, hb33, hF⟩ := bindS hF
                refine G.opG1 (op_indexS Try.underlying9 (sidx_ok hb33).1 (sidx_ok hb33).2 (Ev.t 61 (bS s_0)) (Ev.t 63 (bI .i64 (IntKind.wrap .i64 (v3.2 + 1)))) rfl) rfl rfl rfl ⟨rfl, rfl, trivial⟩ trivial ?_
                refine G.opG1 (op_gtr (Ev.t 64 (bI .u8 (b33.toNat : Int))) (Ev.c _ rfl) rfl) rfl rfl rfl ⟨rfl, trivial⟩ trivial ?_
                refine G.opG1 (op_pickT (Ev.t 60 (bB true)) (Ev.t 65 (bB (decide (159 < (b33.toNat : Int))))) rfl) rfl rfl rfl ⟨rfl, rfl, trivial⟩ trivial ?_
                refine G.op1 (op_pickF (Ev.t 55 (bB false)) (Ev.t 66 (bB (decide (159 < (b33.toNat : Int))))) rfl) rfl ⟨rfl, rfl, trivial⟩ trivial ?_
                exact G.arr (J29 (decide (159 < (b33.toNat : Int))) hF) ⟨rfl, rfl, rfl, rfl, rfl, trivial⟩ trivial rfl
              · refine G.known (t := 60) hc32 rfl ?_
                refine G.opN1 rfl rfl rfl rfl rfl ?_
                refine G.opN1 rfl rfl rfl rfl rfl ?_
                refine G.opN1 rfl rfl rfl rfl rfl ?_
                refine G.opN1 rfl rfl rfl rfl rfl ?_
                refine G.opN1 rfl rfl rfl rfl rfl ?_
                refine G.opG1 (op_pickF (Ev.t 60 (bB false)) (Ev.c _ rfl) rfl) rfl rfl rfl ⟨rfl, trivial⟩ trivial ?_
                refine G.op1 (op_pickF (Ev.t 55 (bB false)) (Ev.t 66 (bB false)) rfl) rfl ⟨rfl, rfl, trivial⟩ trivial ?_
                exact G.arr (J29 false hF) ⟨rfl, rfl, rfl, rfl, rfl, trivial⟩ trivial rfl
          refine ifS hF (fun hc35 hF => ?_) (fun hc35 hF => ?_)
          · refine G.known (t := 48) hc35 rfl ?_
            refine G.opG1 (op_move (Ev.t 0 (bS s_0)) rfl) rfl rfl rfl ⟨rfl, trivial⟩ trivial ?_
            refine G.opG1 (op_move (Ev.t 4 (bI .i64 v3.2)) rfl) rfl rfl rfl ⟨rfl, trivial⟩ trivial ?_
            refine G.opG1 (op_add (Ev.t 50 (bI .i64 v3.2)) (Ev.c _ rfl) rfl) rfl rfl rfl ⟨rfl, trivial⟩ trivial ?_
            obtain ⟨b36, hb36, hF⟩ := bindS hF
            refine G.opG1 (op_indexS Try.underlying9 (sidx_ok hb36).1 (sidx_ok hb36).2 (Ev.t 49 (bS s_0)) (Ev.t 51 (bI .i64 (IntKind.wrap .i64 (v3.2 + 1)))) rfl) rfl rfl rfl ⟨rfl, rfl, trivial⟩ trivial ?_
            refine G.opG1 (op_lss (Ev.t 52 (bI .u8 (b36.toNat : Int))) (Ev.c _ rfl) rfl) rfl rfl rfl ⟨rfl, trivial⟩ trivial ?_
            refine G.op1 (op_pickT (Ev.t 48 (bB true)) (Ev.t 53 (bB (decide ((b36.toNat : Int) < 160)))) rfl) rfl ⟨rfl, rfl, trivial⟩ trivial ?_
            exact G.arr (J34 (decide ((b36.toNat : Int) < 160)) hF) ⟨rfl, rfl, rfl, rfl, rfl, trivial⟩ trivial rfl
          · refine G.known (t := 48) hc35 rfl ?_
            refine G.opN1 rfl rfl rfl rfl rfl ?_
            refine G.opN1 rfl rfl rfl rfl rfl ?_
            refine G.opN1 rfl rfl rfl rfl rfl ?_
            refine G.opN1 rfl rfl rfl rfl rfl ?_
            refine G.opN1 rfl rfl rfl rfl rfl ?_
            refine G.op1 (op_pickF (Ev.t 48 (bB false)) (Ev.c _ rfl) rfl) rfl ⟨rfl, trivial⟩ trivial ?_
            exact G.arr (J34 false hF) ⟨rfl, rfl, rfl, rfl, rfl, trivial⟩ trivial rfl
        refine G.block ?_
        refine G.keep (sl' := [(0, .one (bS s_0)), (3, .one (bI .i64 v3.1)), (4, .one (bI .i64 v3.2)), (5, .one (bI .i64 r9)), (6, .one (bI .i64 1))]) (hp' := []) ⟨rfl, rfl, rfl, rfl, rfl, trivial⟩ trivial rfl ?_
        refine G.loopF (fun (v38 : Int) => ⟨[(0, .one (bS s_0)), (3, .one (bI .i64 v3.1)), (4, .one (bI .i64 v3.2)), (5, .one (bI .i64 r9)), (6, .one (bI .i64 v38))], []⟩) hF rfl (fun K41 again40 v38 J39 hF => ?_)
        unfold ref02_Runes_l9 at hF
        refine G.seq ?_
        refine G.seq ?_
        refine G.region ?_
        refine G.op1 (op_move (Ev.t 6 (bI .i64 v38)) rfl) rfl ⟨rfl, trivial⟩ trivial ?_
        refine G.op1 (op_move (Ev.t 5 (bI .i64 r9)) rfl) rfl ⟨rfl, trivial⟩ trivial ?_
        refine G.op1 (op_lss (Ev.t 25 (bI .i64 v38)) (Ev.t 26 (bI .i64 r9)) rfl) rfl ⟨rfl, rfl, trivial⟩ trivial ?_
        refine G.endOps ?_
        refine ifS hF (fun hc42 hF => ?_) (fun hc42 hF => ?_)
        · refine G.cond rfl (fun _ => ?_) (fun hx => by rw [hc42] at hx; cases hx)
          refine G.skip ?_
          refine G.seq ?_
          refine G.block ?_
          refine G.seq ?_
          refine G.region ?_
          refine G.op1 (op_move (Ev.t 0 (bS s_0)) rfl) rfl ⟨rfl, trivial⟩ trivial ?_
          refine G.op1 (op_move (Ev.t 4 (bI .i64 v3.2)) rfl) rfl ⟨rfl, trivial⟩ trivial ?_
          refine G.op1 (op_move (Ev.t 6 (bI .i64 v38)) rfl) rfl ⟨rfl, trivial⟩ trivial ?_
          refine G.op1 (op_add (Ev.t 31 (bI .i64 v3.2)) (Ev.t 32 (bI .i64 v38)) rfl) rfl ⟨rfl, rfl, trivial⟩ trivial ?_
          obtain ⟨b43, hb43, hF⟩ := bindS hF
          refine G.op1 (op_indexS Try.underlying9 (sidx_ok hb43).1 (sidx_ok hb43).2 (Ev.t 30 (bS s_0)) (Ev.t 33 (bI .i64 (IntKind.wrap .i64 (v3.2 + v38)))) rfl) rfl ⟨rfl, rfl, trivial⟩ trivial ?_
          refine G.op1 (op_lss (Ev.t 34 (bI .u8 (b43.toNat : Int))) (Ev.c _ rfl) rfl) rfl ⟨rfl, trivial⟩ trivial ?_
          refine G.op1 (op_move (Ev.t 35 (bB (decide ((b43.toNat : Int) < 128)))) rfl) rfl ⟨rfl, trivial⟩ trivial ?_
          refine ifS hF (fun hc44 hF => ?_) (fun hc44 hF => ?_)
          · refine G.known (t := 36) hc44 rfl ?_
            refine G.opN1 rfl rfl rfl rfl rfl ?_
            refine G.opN1 rfl rfl rfl rfl rfl ?_
            refine G.opN1 rfl rfl rfl rfl rfl ?_
            refine G.opN1 rfl rfl rfl rfl rfl ?_
            refine G.opN1 rfl rfl rfl rfl rfl ?_
            refine G.opN1 rfl rfl rfl rfl rfl ?_
            refine G.op1 (op_pickT (Ev.t 36 (bB true)) (Ev.c _ rfl) rfl) rfl ⟨rfl, trivial⟩ trivial ?_
            refine G.endOps ?_
            refine G.condT rfl ?_
            refine G.seq ?_
            refine G.region ?_
            refine G.op1 (op_assign (Ev.c _ rfl) rfl) rfl trivial trivial ?_
            refine G.endOps ?_
            cases hF
            exact G.ret1 Try.results48 (RVar.tmp 2 _) ⟨rfl, trivial⟩ trivial
          · refine G.known (t := 36) hc44 rfl ?_
            refine G.opG1 (op_move (Ev.t 0 (bS s_0)) rfl) rfl rfl rfl ⟨rfl, trivial⟩ trivial ?_
            refine G.opG1 (op_move (Ev.t 4 (bI .i64 v3.2)) rfl) rfl rfl rfl ⟨rfl, trivial⟩ trivial ?_
            refine G.opG1 (op_move (Ev.t 6 (bI .i64 v38)) rfl) rfl rfl rfl ⟨rfl, trivial⟩ trivial ?_
            refine G.opG1 (op_add (Ev.t 38 (bI .i64 v3.2)) (Ev.t 39 (bI .i64 v38)) rfl) rfl rfl rfl ⟨rfl, rfl, trivial⟩ trivial ?_
            obtain ⟨b45, hb45, hF⟩ := bindS hF
            refine G.opG1 (op_indexS Try.underlying9 (sidx_ok hb45).1 (sidx_ok hb45).2 (Ev.t 37 (bS s_0)) (Ev.t 40 (bI .i64 (IntKind.wrap .i64 (v3.2 + v38)))) rfl) rfl rfl rfl ⟨rfl, rfl, trivial⟩ trivial ?_
            refine G.opG1 (op_gtr (Ev.t 41 (bI .u8 (b45.toNat : Int))) (Ev.c _ rfl) rfl) rfl rfl rfl ⟨rfl, trivial⟩ trivial ?_
            refine G.op1 (op_pickF (Ev.t 36 (bB false)) (Ev.t 42 (bB (decide (191 < (b45.toNat : Int))))) rfl) rfl ⟨rfl, rfl, trivial⟩ trivial ?_
            refine G.endOps ?_
            refine ifS hF (fun hc46 hF => ?_) (fun hc46 hF => ?_)
            · refine G.cond rfl (fun _ => ?_) (fun hx => by rw [hc46] at hx; cases hx)
              refine G.seq ?_
              refine G.region ?_
              refine G.op1 (op_assign (Ev.c _ rfl) rfl) rfl trivial trivial ?_
              refine G.endOps ?_
              cases hF
              exact G.ret1 Try.results48 (RVar.tmp 2 _) ⟨rfl, trivial⟩ trivial
            · refine G.cond rfl (fun hx => by rw [hc46] at hx; cases hx) (fun _ => ?_)
              refine G.skip ?_
              refine G.endBlock ?_
              refine G.region ?_
              refine G.op1 (op_move (Ev.t 6 (bI .i64 v38)) rfl) rfl ⟨rfl, trivial⟩ trivial ?_
              refine G.op1 (op_add (Ev.t 28 (bI .i64 v38)) (Ev.c _ rfl) rfl) rfl ⟨rfl, trivial⟩ trivial ?_
              refine G.op1 (op_assign (Ev.t 29 (bI .i64 (IntKind.wrap .i64 (v38 + 1)))) rfl) rfl ⟨rfl, trivial⟩ trivial ?_
              refine G.endOps ?_
              exact G.arr (J39 (IntKind.wrap .i64 (v38 + 1)) hF) ⟨rfl, rfl, rfl, rfl, rfl, trivial⟩ trivial rfl
        · refine G.cond rfl (fun hx => by rw [hc42] at hx; cases hx) (fun _ => ?_)
          refine G.exit ?_
          refine GX.c ?_
          refine GX.q ?_
          refine GX.bYes ?_
          exact G.arr (J37 () hF) ⟨rfl, rfl, rfl, rfl, trivial⟩ trivial rfl
    refine G.region ?_
    refine G.op1 (op_move (Ev.t 5 (bI .i64 r9)) rfl) rfl ⟨rfl, trivial⟩ trivial ?_
    refine G.op1 (op_eqI (Ev.t 15 (bI .i64 r9)) (Ev.c _ rfl) rfl) rfl ⟨rfl, trivial⟩ trivial ?_
    refine G.op1 (op_move (Ev.t 16 (bB (decide (r9 = 0)))) rfl) rfl ⟨rfl, trivial⟩ trivial ?_
    refine ifS hF (fun hc48 hF => ?_) (fun hc48 hF => ?_)
    · refine G.known (t := 17) hc48 rfl ?_
      refine G.opN1 rfl rfl rfl rfl rfl ?_
      refine G.opN1 rfl rfl rfl rfl rfl ?_
      refine G.opN1 rfl rfl rfl rfl rfl ?_
      refine G.opN1 rfl rfl rfl rfl rfl ?_
      refine G.opN1 rfl rfl rfl rfl rfl ?_
      refine G.opN1 rfl rfl rfl rfl rfl ?_
      refine G.op1 (op_pickT (Ev.t 17 (bB true)) (Ev.c _ rfl) rfl) rfl ⟨rfl, trivial⟩ trivial ?_
      refine G.endOps ?_
      exact G.arr (J47 true hF) ⟨rfl, rfl, rfl, rfl, rfl, trivial⟩ trivial rfl
    · refine G.known (t := 17) hc48 rfl ?_
      refine G.opG1 (op_move (Ev.t 5 (bI .i64 r9)) rfl) rfl rfl rfl ⟨rfl, trivial⟩ trivial ?_
      refine G.opG1 (op_move (Ev.t 0 (bS s_0)) rfl) rfl rfl rfl ⟨rfl, trivial⟩ trivial ?_
      refine G.opG1 (op_lenS Try.underlying9 (Ev.t 19 (bS s_0)) rfl) rfl rfl rfl ⟨rfl, trivial⟩ trivial ?_
      refine G.opG1 (op_move (Ev.t 4 (bI .i64 v3.2)) rfl) rfl rfl rfl ⟨rfl, trivial⟩ trivial ?_
      refine G.opG1 (op_sub (Ev.t 20 (bI .i64 (s_0.size : Int))) (Ev.t 21 (bI .i64 v3.2)) rfl) rfl rfl rfl ⟨rfl, rfl, trivial⟩ trivial ?_
      refine G.opG1 (op_gtr (Ev.t 18 (bI .i64 r9)) (Ev.t 22 (bI .i64 (IntKind.wrap .i64 ((s_0.size : Int) - v3.2)))) rfl) rfl rfl rfl ⟨rfl, rfl, trivial⟩ trivial ?_
      refine G.op1 (op_pickF (Ev.t 17 (bB false)) (Ev.t 23 (bB (decide ((IntKind.wrap .i64 ((s_0.size : Int) - v3.2)) < r9)))) rfl) rfl ⟨rfl, rfl, trivial⟩ trivial ?_
      refine G.endOps ?_
      exact G.arr (J47 (decide ((IntKind.wrap .i64 ((s_0.size : Int) - v3.2)) < r9)) hF) ⟨rfl, rfl, rfl, rfl, rfl, trivial⟩ trivial rfl
  · refine G.cond rfl (fun hx => by rw [hc7] at hx; cases hx) (fun _ => ?_)
    refine G.exit ?_
    refine GX.c ?_
    refine GX.q ?_
    refine GX.bYes ?_
    exact G.arr (J2 v3.1 hF) ⟨rfl, trivial⟩ trivial rfl


set_option maxRecDepth 20000 in
set_option maxHeartbeats 2000000 in
theorem ct_ref02_Check (s_0 : ByteArray) (r : Bool) (hF : ref02_Check s_0 = some r) : Ct Try.prog 37 [.g (.d (.v (.string s_0)))] (.one (.d (.v (.bool r)))) := by
  unfold ref02_Check at hF
  refine Ct.intro Try.func37 rfl Try.ntmps37 rfl rfl fun M w => ?_
  refine G.seq ?_
  refine G.region ?_
  refine G.op1 (op_assign (Ev.c _ rfl) rfl) rfl trivial trivial ?_
  refine G.endOps ?_
  refine G.seq ?_
  refine G.region ?_
  refine G.op1 (op_move (Ev.t 0 (bS s_0)) rfl) rfl ⟨rfl, trivial⟩ trivial ?_
  obtain ⟨r1, hr1, hF⟩ := bindS hF
  refine G.op1 (op_callQ (sv := .one (bI .i64 r1)) cf48 (ct_ref02_Runes s_0 r1 hr1) rfl rfl (EvQL.cons (EvQ.g (Ev.t 5 (bS s_0))) EvQL.nil) rfl) rfl ⟨rfl, trivial⟩ trivial ?_
  refine G.op1 (op_assign (Ev.t 6 (bI .i64 r1)) rfl) rfl ⟨rfl, trivial⟩ trivial ?_
  refine G.endOps ?_
  refine G.seq ?_
  refine G.seq ?_
  refine G.region ?_
  refine G.op1 (op_assign (Ev.c _ rfl) rfl) rfl trivial trivial ?_
  refine G.endOps ?_
  refine G.joinC (T := Unit) (fun y2 => ⟨[(3, .one (bI .i64 r1))], []⟩) (fun y2 => ref02_Check_k1 r1 y2 = some r) (fun y2 hF => ?_) (fun J4 => ?_)
  · unfold ref02_Check_k1 at hF
    refine G.seq ?_
    refine G.region ?_
    refine G.op1 (op_move (Ev.t 3 (bI .i64 r1)) rfl) rfl ⟨rfl, trivial⟩ trivial ?_
    refine G.op1 (op_geq (Ev.t 17 (bI .i64 r1)) (Ev.c _ rfl) rfl) rfl ⟨rfl, trivial⟩ trivial ?_
    refine G.op1 (op_move (Ev.t 18 (bB (decide (1 ≤ r1)))) rfl) rfl ⟨rfl, trivial⟩ trivial ?_
    refine ifS hF (fun hc3 hF => ?_) (fun hc3 hF => ?_)
    · refine G.known (t := 19) hc3 rfl ?_
      refine G.opG1 (op_move (Ev.t 3 (bI .i64 r1)) rfl) rfl rfl rfl ⟨rfl, trivial⟩ trivial ?_
      refine G.opG1 (op_leq (Ev.t 20 (bI .i64 r1)) (Ev.c _ rfl) rfl) rfl rfl rfl ⟨rfl, trivial⟩ trivial ?_
      refine G.op1 (op_pickT (Ev.t 19 (bB true)) (Ev.t 21 (bB (decide (r1 ≤ 8)))) rfl) rfl ⟨rfl, rfl, trivial⟩ trivial ?_
      refine G.op1 (op_assign (Ev.t 22 (bB (decide (r1 ≤ 8)))) rfl) rfl ⟨rfl, trivial⟩ trivial ?_
      refine G.endOps ?_
      cases hF
      exact G.ret1 Try.results37 (RVar.tmp 2 _) ⟨rfl, trivial⟩ trivial
    · refine G.known (t := 19) hc3 rfl ?_
      refine G.opN1 rfl rfl rfl rfl rfl ?_
      refine G.opN1 rfl rfl rfl rfl rfl ?_
      refine G.op1 (op_pickF (Ev.t 19 (bB false)) (Ev.c _ rfl) rfl) rfl ⟨rfl, trivial⟩ trivial ?_
      refine G.op1 (op_assign (Ev.t 22 (bB false)) rfl) rfl ⟨rfl, trivial⟩ trivial ?_
      refine G.endOps ?_
      cases hF
      exact G.ret1 Try.results37 (RVar.tmp 2 _) ⟨rfl, trivial⟩ trivial
  refine G.block ?_
  refine G.keep (sl' := [(0, .one (bS s_0)), (3, .one (bI .i64 r1)), (4, .one (bI .i64 0))]) (hp' := []) ⟨rfl, rfl, rfl, trivial⟩ trivial rfl ?_
  refine G.loopF (fun (v5 : Int) => ⟨[(0, .one (bS s_0)), (3, .one (bI .i64 r1)), (4, .one (bI .i64 v5))], []⟩) hF rfl (fun K8 again7 v5 J6 hF => ?_)
  unfold ref02_Check_l2 at hF
  refine G.seq ?_
  refine G.seq ?_
  refine G.region ?_
  refine G.op1 (op_move (Ev.t 4 (bI .i64 v5)) rfl) rfl ⟨rfl, trivial⟩ trivial ?_
  refine G.op1 (op_move (Ev.t 0 (bS s_0)) rfl) rfl ⟨rfl, trivial⟩ trivial ?_
  refine G.op1 (op_lenS Try.underlying9 (Ev.t 8 (bS s_0)) rfl) rfl ⟨rfl, trivial⟩ trivial ?_
  refine G.op1 (op_lss (Ev.t 7 (bI .i64 v5)) (Ev.t 9 (bI .i64 (s_0.size : Int))) rfl) rfl ⟨rfl, rfl, trivial⟩ trivial ?_
  refine G.endOps ?_
  refine ifS hF (fun hc9 hF => ?_) (fun hc9 hF => ?_)
  · refine G.cond rfl (fun _ => ?_) (fun hx => by rw [hc9] at hx; cases hx)
    refine G.skip ?_
    refine G.seq ?_
    refine G.block ?_
    refine G.seq ?_
    refine G.region ?_
    refine G.op1 (op_move (Ev.t 0 (bS s_0)) rfl) rfl ⟨rfl, trivial⟩ trivial ?_
    refine G.op1 (op_move (Ev.t 4 (bI .i64 v5)) rfl) rfl ⟨rfl, trivial⟩ trivial ?_
    obtain ⟨b10, hb10, hF⟩ := bindS hF
    refine G.op1 (op_indexS Try.underlying9 (sidx_ok hb10).1 (sidx_ok hb10).2 (Ev.t 13 (bS s_0)) (Ev.t 14 (bI .i64 v5)) rfl) rfl ⟨rfl, rfl, trivial⟩ trivial ?_
    refine G.op1 (op_lss (Ev.t 15 (bI .u8 (b10.toNat : Int))) (Ev.c _ rfl) rfl) rfl ⟨rfl, trivial⟩ trivial ?_
    refine G.endOps ?_
    refine ifS hF (fun hc11 hF => ?_) (fun hc11 hF => ?_)
    · refine G.cond rfl (fun _ => ?_) (fun hx => by rw [hc11] at hx; cases hx)
      refine G.seq ?_
      refine G.region ?_
      refine G.op1 (op_assign (Ev.c _ rfl) rfl) rfl trivial trivial ?_
      refine G.endOps ?_
      cases hF
      exact G.ret1 Try.results37 (RVar.tmp 2 _) ⟨rfl, trivial⟩ trivial
    · refine G.cond rfl (fun hx => by rw [hc11] at hx; cases hx) (fun _ => ?_)
      refine G.skip ?_
      refine G.endBlock ?_
      refine G.region ?_
      refine G.op1 (op_move (Ev.t 4 (bI .i64 v5)) rfl) rfl ⟨rfl, trivial⟩ trivial ?_
      refine G.op1 (op_add (Ev.t 11 (bI .i64 v5)) (Ev.c _ rfl) rfl) rfl ⟨rfl, trivial⟩ trivial ?_
      refine G.op1 (op_assign (Ev.t 12 (bI .i64 (IntKind.wrap .i64 (v5 + 1)))) rfl) rfl ⟨rfl, trivial⟩ trivial ?_
      refine G.endOps ?_
      exact G.arr (J6 (IntKind.wrap .i64 (v5 + 1)) hF) ⟨rfl, rfl, rfl, trivial⟩ trivial rfl
  · refine G.cond rfl (fun hx => by rw [hc9] at hx; cases hx) (fun _ => ?_)
    refine G.exit ?_
    refine GX.c ?_
    refine GX.q ?_
    refine GX.bYes ?_
    exact G.arr (J4 () hF) ⟨rfl, trivial⟩ trivial rfl


set_option maxRecDepth 20000 in
set_option maxHeartbeats 2000000 in
theorem ct_ref03_Check (s_0 : Api_Stamp) (r : Bool) (hF : ref03_Check s_0 = some r) : Ct Try.prog 20 [.g (.agg (encApi_Stamp s_0))] (.one (.d (.v (.bool r)))) := by
  unfold ref03_Check at hF
  refine Ct.intro Try.func20 rfl Try.ntmps20 rfl rfl fun M w => ?_
  refine G.seq ?_
  refine G.region ?_
  refine G.op2 (op_boxA (k := 1001) (Ev.t 0 (.g (.agg [.v (.int .i64 s_0.N), .v (.int .i64 s_0.Site)]))) rfl) rfl ⟨rfl, trivial⟩ ⟨rfl, trivial⟩ ?_
  refine G.op1 (op_assign (Ev.c _ rfl) rfl) rfl trivial trivial ?_
  refine G.endOps ?_
  refine G.seq ?_
  refine G.region ?_
  refine G.op1 (op_fieldP (off' := 0) Try.underlying25 rfl ti3 (by decide) rfl (Ev.t 1 (.ptr 1001 0)) rfl) rfl ⟨rfl, trivial⟩ trivial ?_
  refine G.op1 (op_load1P (c := bI .i64 s_0.N) Try.underlying3 rfl rfl (Ev.t 3 (.ptr 1001 0)) rfl) rfl ⟨rfl, trivial⟩ ⟨rfl, trivial⟩ ?_
  refine G.op1 (op_geq (Ev.t 4 (bI .i64 s_0.N)) (Ev.c _ rfl) rfl) rfl ⟨rfl, trivial⟩ trivial ?_
  refine G.op1 (op_move (Ev.t 5 (bB (decide (1 ≤ s_0.N)))) rfl) rfl ⟨rfl, trivial⟩ trivial ?_
  refine G.joinL (T := Bool) 4 (fun y1 => ⟨[(1, .one (.ptr 1001 0)), (10, .one (bB y1))], [(1001, some (.blk 25 [bI .i64 s_0.N, bI .i64 s_0.Site]))]⟩) (fun y1 => ref03_Check_k1 s_0 y1 = some r) (fun y1 hF => ?_) (fun J6 => ?_)
  · unfold ref03_Check_k1 at hF
    refine G.op1 (op_move (Ev.t 10 (bB y1)) rfl) rfl ⟨rfl, trivial⟩ trivial ?_
    refine G.joinL (T := Bool) 4 (fun y2 => ⟨[(1, .one (.ptr 1001 0)), (15, .one (bB y2))], [(1001, some (.blk 25 [bI .i64 s_0.N, bI .i64 s_0.Site]))]⟩) (fun y2 => ref03_Check_k2 s_0 y2 = some r) (fun y2 hF => ?_) (fun J4 => ?_)
    · unfold ref03_Check_k2 at hF
      refine G.op1 (op_move (Ev.t 15 (bB y2)) rfl) rfl ⟨rfl, trivial⟩ trivial ?_
      refine ifS hF (fun hc3 hF => ?_) (fun hc3 hF => ?_)
      · refine G.known (t := 16) hc3 rfl ?_
        refine G.opG1 (op_fieldP (off' := 1) Try.underlying25 rfl ti3 (by decide) rfl (Ev.t 1 (.ptr 1001 0)) rfl) rfl rfl rfl ⟨rfl, trivial⟩ trivial ?_
        refine G.opG1 (op_load1P (c := bI .i64 s_0.Site) Try.underlying3 rfl rfl (Ev.t 17 (.ptr 1001 1)) rfl) rfl rfl rfl ⟨rfl, trivial⟩ ⟨rfl, trivial⟩ ?_
        refine G.opG1 (op_lss (Ev.t 18 (bI .i64 s_0.Site)) (Ev.c _ rfl) rfl) rfl rfl rfl ⟨rfl, trivial⟩ trivial ?_
        refine G.op1 (op_pickT (Ev.t 16 (bB true)) (Ev.t 19 (bB (decide (s_0.Site < 6)))) rfl) rfl ⟨rfl, rfl, trivial⟩ trivial ?_
        refine G.op1 (op_assign (Ev.t 20 (bB (decide (s_0.Site < 6)))) rfl) rfl ⟨rfl, trivial⟩ trivial ?_
        refine G.endOps ?_
        cases hF
        exact G.ret1 Try.results20 (RVar.tmp 2 _) ⟨rfl, trivial⟩ trivial
      · refine G.known (t := 16) hc3 rfl ?_
        refine G.opN1 rfl rfl rfl rfl rfl ?_
        refine G.opN1 rfl rfl rfl rfl rfl ?_
        refine G.opN1 rfl rfl rfl rfl rfl ?_
        refine G.op1 (op_pickF (Ev.t 16 (bB false)) (Ev.c _ rfl) rfl) rfl ⟨rfl, trivial⟩ trivial ?_
        refine G.op1 (op_assign (Ev.t 20 (bB false)) rfl) rfl ⟨rfl, trivial⟩ trivial ?_
        refine G.endOps ?_
        cases hF
        exact G.ret1 Try.results20 (RVar.tmp 2 _) ⟨rfl, trivial⟩ trivial
    refine ifS hF (fun hc5 hF => ?_) (fun hc5 hF => ?_)
    · refine G.known (t := 11) hc5 rfl ?_
      refine G.opG1 (op_fieldP (off' := 1) Try.underlying25 rfl ti3 (by decide) rfl (Ev.t 1 (.ptr 1001 0)) rfl) rfl rfl rfl ⟨rfl, trivial⟩ trivial ?_
      refine G.opG1 (op_load1P (c := bI .i64 s_0.Site) Try.underlying3 rfl rfl (Ev.t 12 (.ptr 1001 1)) rfl) rfl rfl rfl ⟨rfl, trivial⟩ ⟨rfl, trivial⟩ ?_
      refine G.opG1 (op_geq (Ev.t 13 (bI .i64 s_0.Site)) (Ev.c _ rfl) rfl) rfl rfl rfl ⟨rfl, trivial⟩ trivial ?_
      refine G.op1 (op_pickT (Ev.t 11 (bB true)) (Ev.t 14 (bB (decide (0 ≤ s_0.Site)))) rfl) rfl ⟨rfl, rfl, trivial⟩ trivial ?_
      exact G.arr (J4 (decide (0 ≤ s_0.Site)) hF) ⟨rfl, rfl, trivial⟩ ⟨rfl, trivial⟩ rfl
    · refine G.known (t := 11) hc5 rfl ?_
      refine G.opN1 rfl rfl rfl rfl rfl ?_
      refine G.opN1 rfl rfl rfl rfl rfl ?_
      refine G.opN1 rfl rfl rfl rfl rfl ?_
      refine G.op1 (op_pickF (Ev.t 11 (bB false)) (Ev.c _ rfl) rfl) rfl ⟨rfl, trivial⟩ trivial ?_
      exact G.arr (J4 false hF) ⟨rfl, rfl, trivial⟩ ⟨rfl, trivial⟩ rfl
  refine ifS hF (fun hc7 hF => ?_) (fun hc7 hF => ?_)
  · refine G.known (t := 6) hc7 rfl ?_
    refine G.opG1 (op_fieldP (off' := 0) Try.underlying25 rfl ti3 (by decide) rfl (Ev.t 1 (.ptr 1001 0)) rfl) rfl rfl rfl ⟨rfl, trivial⟩ trivial ?_
    refine G.opG1 (op_load1P (c := bI .i64 s_0.N) Try.underlying3 rfl rfl (Ev.t 7 (.ptr 1001 0)) rfl) rfl rfl rfl ⟨rfl, trivial⟩ ⟨rfl, trivial⟩ ?_
    refine G.opG1 (op_leq (Ev.t 8 (bI .i64 s_0.N)) (Ev.c _ rfl) rfl) rfl rfl rfl ⟨rfl, trivial⟩ trivial ?_
    refine G.op1 (op_pickT (Ev.t 6 (bB true)) (Ev.t 9 (bB (decide (s_0.N ≤ 1099511627776)))) rfl) rfl ⟨rfl, rfl, trivial⟩ trivial ?_
    exact G.arr (J6 (decide (s_0.N ≤ 1099511627776)) hF) ⟨rfl, rfl, trivial⟩ ⟨rfl, trivial⟩ rfl
  · refine G.known (t := 6) hc7 rfl ?_
    refine G.opN1 rfl rfl rfl rfl rfl ?_
    refine G.opN1 rfl rfl rfl rfl rfl ?_
    refine G.opN1 rfl rfl rfl rfl rfl ?_
    refine G.op1 (op_pickF (Ev.t 6 (bB false)) (Ev.c _ rfl) rfl) rfl ⟨rfl, trivial⟩ trivial ?_
    exact G.arr (J6 false hF) ⟨rfl, rfl, trivial⟩ ⟨rfl, trivial⟩ rfl


set_option maxRecDepth 20000 in
set_option maxHeartbeats 2000000 in
theorem ct_ref04_Check (p_0 : (List Api_Dep)) (r : Bool) (hF : ref04_Check p_0 = some r) : Ct Try.prog 38 [.g (.d (.sl 3 (List.map encApi_Dep p_0)))] (.one (.d (.v (.bool r)))) := by
  unfold ref04_Check at hF
  refine Ct.intro Try.func38 rfl Try.ntmps38 rfl rfl fun M w => ?_
  refine G.seq ?_
  refine G.region ?_
  refine G.op1 (op_assign (Ev.c _ rfl) rfl) rfl trivial trivial ?_
  refine G.endOps ?_
  refine G.seq ?_
  refine G.seq ?_
  refine G.region ?_
  refine G.op1 (op_assign (Ev.c _ rfl) rfl) rfl trivial trivial ?_
  refine G.endOps ?_
  refine G.joinC (T := Unit) (fun y1 => ⟨[(0, .one (.g (.d (.sl 3 (List.map encApi_Dep p_0)))))], []⟩) (fun y1 => ref04_Check_k1 p_0 y1 = some r) (fun y1 hF => ?_) (fun J2 => ?_)
  · unfold ref04_Check_k1 at hF
    refine G.seq ?_
    refine G.region ?_
    refine G.op1 (op_move (Ev.t 0 (.g (.d (.sl 3 (List.map encApi_Dep p_0))))) rfl) rfl ⟨rfl, trivial⟩ trivial ?_
    refine G.op1 (OpL.cast (op_lenD Try.underlying26 (Ev.t 48 (.g (.d (.sl 3 (List.map encApi_Dep p_0))))) rfl) (by rw [List.length_map])) rfl ⟨rfl, trivial⟩ trivial ?_
    refine G.op1 (op_leq (Ev.t 49 (bI .i64 (p_0.length : Int))) (Ev.c _ rfl) rfl) rfl ⟨rfl, trivial⟩ trivial ?_
    refine G.op1 (op_assign (Ev.t 50 (bB (decide ((p_0.length : Int) ≤ 24)))) rfl) rfl ⟨rfl, trivial⟩ trivial ?_
    refine G.endOps ?_
    cases hF
    exact G.ret1 Try.results38 (RVar.tmp 2 _) ⟨rfl, trivial⟩ trivial
  refine G.block ?_
  refine G.keep (sl' := [(0, .one (.g (.d (.sl 3 (List.map encApi_Dep p_0))))), (3, .one (bI .i64 0))]) (hp' := []) ⟨rfl, rfl, trivial⟩ trivial rfl ?_
  refine G.loopF (fun (v3 : Int) => ⟨[(0, .one (.g (.d (.sl 3 (List.map encApi_Dep p_0))))), (3, .one (bI .i64 v3))], []⟩) hF rfl (fun K6 again5 v3 J4 hF => ?_)
  unfold ref04_Check_l2 at hF
  refine G.seq ?_
  refine G.seq ?_
  refine G.region ?_
  refine G.op1 (op_move (Ev.t 3 (bI .i64 v3)) rfl) rfl ⟨rfl, trivial⟩ trivial ?_
  refine G.op1 (op_move (Ev.t 0 (.g (.d (.sl 3 (List.map encApi_Dep p_0))))) rfl) rfl ⟨rfl, trivial⟩ trivial ?_
  refine G.op1 (OpL.cast (op_lenD Try.underlying26 (Ev.t 7 (.g (.d (.sl 3 (List.map encApi_Dep p_0))))) rfl) (by rw [List.length_map])) rfl ⟨rfl, trivial⟩ trivial ?_
  refine G.op1 (op_lss (Ev.t 6 (bI .i64 v3)) (Ev.t 8 (bI .i64 (p_0.length : Int))) rfl) rfl ⟨rfl, rfl, trivial⟩ trivial ?_
  refine G.endOps ?_
  refine ifS hF (fun hc7 hF => ?_) (fun hc7 hF => ?_)
  · refine G.cond rfl (fun _ => ?_) (fun hx => by rw [hc7] at hx; cases hx)
    refine G.skip ?_
    refine G.seq ?_
    refine G.block ?_
    refine G.seq ?_
    refine G.region ?_
    refine G.op1 (op_move (Ev.t 0 (.g (.d (.sl 3 (List.map encApi_Dep p_0))))) rfl) rfl ⟨rfl, trivial⟩ trivial ?_
    refine G.op1 (op_move (Ev.t 3 (bI .i64 v3)) rfl) rfl ⟨rfl, trivial⟩ trivial ?_
    obtain ⟨x8, hx8, hF⟩ := bindS hF
    refine G.op1 (op_index (cs := [.v (.string x8.Key), .v (.int .i64 x8.Stamp.N), .v (.int .i64 x8.Stamp.Site)]) Try.underlying26 ti62 (idx_ok hx8).1 (idx_get hx8 encApi_Dep) (Ev.t 12 (.g (.d (.sl 3 (List.map encApi_Dep p_0))))) (Ev.t 13 (bI .i64 v3)) rfl) rfl ⟨rfl, rfl, trivial⟩ trivial ?_
    refine G.op1 (op_fieldE (cs' := [.v (.string x8.Key), .v (.int .i64 x8.Stamp.N), .v (.int .i64 x8.Stamp.Site)]) Try.underlying62 rfl ti9 (by decide) rfl (Ev.t 14 (.ep [.v (.string x8.Key), .v (.int .i64 x8.Stamp.N), .v (.int .i64 x8.Stamp.Site)])) rfl) rfl ⟨rfl, trivial⟩ trivial ?_
    refine G.op1 (op_load1E (c := .v (.string x8.Key)) Try.underlying9 rfl rfl (Ev.t 15 (.ep [.v (.string x8.Key), .v (.int .i64 x8.Stamp.N), .v (.int .i64 x8.Stamp.Site)])) rfl) rfl ⟨rfl, trivial⟩ trivial ?_
    obtain ⟨r9, hr9, hF⟩ := bindS hF
    refine G.op1 (op_callQ (sv := .one (bB r9)) cf37 (ct_ref02_Check x8.Key r9 hr9) rfl rfl (EvQL.cons (EvQ.g (Ev.t 16 (bS x8.Key))) EvQL.nil) rfl) rfl ⟨rfl, trivial⟩ trivial ?_
    refine G.op1 (op_assign (Ev.t 17 (bB r9)) rfl) rfl ⟨rfl, trivial⟩ trivial ?_
    refine G.endOps ?_
    refine G.seq ?_
    refine G.region ?_
    refine G.op1 (op_move (Ev.t 0 (.g (.d (.sl 3 (List.map encApi_Dep p_0))))) rfl) rfl ⟨rfl, trivial⟩ trivial ?_
    refine G.op1 (op_move (Ev.t 3 (bI .i64 v3)) rfl) rfl ⟨rfl, trivial⟩ trivial ?_
    obtain ⟨x10, hx10, hF⟩ := bindS hF
    refine G.op1 (op_index (cs := [.v (.string x10.Key), .v (.int .i64 x10.Stamp.N), .v (.int .i64 x10.Stamp.Site)]) Try.underlying26 ti62 (idx_ok hx10).1 (idx_get hx10 encApi_Dep) (Ev.t 18 (.g (.d (.sl 3 (List.map encApi_Dep p_0))))) (Ev.t 19 (bI .i64 v3)) rfl) rfl ⟨rfl, rfl, trivial⟩ trivial ?_
    refine G.op1 (op_fieldE (cs' := [.v (.int .i64 x10.Stamp.N), .v (.int .i64 x10.Stamp.Site)]) Try.underlying62 rfl ti25 (by decide) rfl (Ev.t 20 (.ep [.v (.string x10.Key), .v (.int .i64 x10.Stamp.N), .v (.int .i64 x10.Stamp.Site)])) rfl) rfl ⟨rfl, trivial⟩ trivial ?_
    refine G.op1 (op_loadAE (ds := [.v (.int .i64 x10.Stamp.N), .v (.int .i64 x10.Stamp.Site)]) Try.underlying25 rfl ti25 rfl (Ev.t 21 (.ep [.v (.int .i64 x10.Stamp.N), .v (.int .i64 x10.Stamp.Site)])) rfl) rfl ⟨rfl, trivial⟩ trivial ?_
    obtain ⟨r11, hr11, hF⟩ := bindS hF
    refine G.op1 (op_callQ (sv := .one (bB r11)) cf20 (ct_ref03_Check x10.Stamp r11 hr11) rfl rfl (EvQL.cons (EvQ.g (Ev.t 22 (.g (.agg [.v (.int .i64 x10.Stamp.N), .v (.int .i64 x10.Stamp.Site)])))) EvQL.nil) rfl) rfl ⟨rfl, trivial⟩ trivial ?_
    refine G.op1 (op_assign (Ev.t 23 (bB r11)) rfl) rfl ⟨rfl, trivial⟩ trivial ?_
    refine G.endOps ?_
    refine G.seq ?_
    refine ifS hF (fun hc12 hF => ?_) (fun hc12 hF => ?_)
    · refine G.drawn (effs := (⟨[(4, .one (bB r9))], [], [(24, .one (bB r9))], []⟩ :: ⟨[(24, .one (bB r9))], [], [(25, .one (bB true))], []⟩ :: ⟨[(25, .one (bB true))], [], [(26, .one (bB true))], []⟩ :: ⟨[(26, .one (bB true))], [], [(27, .one (.x Go.undef))], []⟩ :: ⟨[(26, .one (bB true))], [], [(28, .one (.x Go.undef))], []⟩ :: ⟨[(26, .one (bB true))], [], [(29, .one (bB true))], []⟩ :: ⟨[(29, .one (bB true))], [], [(30, .one (bB true))], []⟩ :: ⟨[(30, .one (bB true))], [], [(31, .one (.x Go.undef))], []⟩ :: ⟨[(30, .one (bB true))], [], [(32, .one (.x Go.undef))], []⟩ :: ⟨[(30, .one (bB true))], [], [(33, .one (.x Go.undef))], []⟩ :: ⟨[(33, .one (.x Go.undef))], [], [(34, .one (.x Go.undef))], []⟩ :: ⟨[(33, .one (.x Go.undef))], [], [(35, .one (.x Go.undef))], []⟩ :: ⟨[(33, .one (.x Go.undef))], [], [(36, .one (.x Go.undef))], []⟩ :: ⟨[(33, .one (.x Go.undef))], [], [(37, .one (.x Go.undef))], []⟩ :: ⟨[(33, .one (.x Go.undef))], [], [(38, .one (.x Go.undef))], []⟩ :: ⟨[(33, .one (.x Go.undef))], [], [(39, .one (.x Go.undef))], []⟩ :: ⟨[(33, .one (.x Go.undef))], [], [(40, .one (.x Go.undef))], []⟩ :: ⟨[(33, .one (.x Go.undef))], [], [(41, .one (.x Go.undef))], []⟩ :: ⟨[(33, .one (.x Go.undef))], [], [(42, .one (.x Go.undef))], []⟩ :: ⟨[(33, .one (.x Go.undef))], [], [(43, .one (.x Go.undef))], []⟩ :: ⟨[(33, .one (.x Go.undef))], [], [(44, .one (.x Go.undef))], []⟩ :: ⟨[(33, .one (.x Go.undef))], [], [(45, .one (.x Go.undef))], []⟩ :: ⟨[(30, .one (bB true))], [], [(46, .one (.x Go.undef))], []⟩ :: ⟨[(30, .one (bB true))], [], [(47, .one (bB true))], []⟩ :: [])) (deps := ([] :: [0] :: [0, 1] :: [0, 1, 2] :: [0, 1, 2, 3] :: [0, 1, 2, 3, 4] :: [0, 1, 2, 3, 4, 5] :: [0, 1, 2, 3, 4, 5, 6] :: [0, 1, 2, 3, 4, 5, 6, 7] :: [0, 1, 2, 3, 4, 5, 6, 7, 8] :: [0, 1, 2, 3, 4, 5, 6, 7, 8, 9] :: [0, 1, 2, 3, 4, 5, 6, 7, 8, 9] :: [0, 1, 2, 3, 4, 5, 6, 7, 8, 9, 11] :: [0, 1, 2, 3, 4, 5, 6, 7, 8, 9, 10, 11, 12] :: [0, 1, 2, 3, 4, 5, 6, 7, 8, 9, 10, 11, 12, 13] :: [0, 1, 2, 3, 4, 5, 6, 7, 8, 9, 10, 11, 12, 13, 14] :: [0, 1, 2, 3, 4, 5, 6, 7, 8, 9] :: [0, 1, 2, 3, 4, 5, 6, 7, 8, 9] :: [0, 1, 2, 3, 4, 5, 6, 7, 8, 9, 16, 17] :: [0, 1, 2, 3, 4, 5, 6, 7, 8, 9, 16, 17, 18] :: [0, 1, 2, 3, 4, 5, 6, 7, 8, 9, 16, 17, 18, 19] :: (0 :: 1 :: 2 :: 3 :: 4 :: 5 :: 6 :: 7 :: 8 :: 9 :: 10 :: 11 :: 12 :: 13 :: 14 :: 15 :: 16 :: 17 :: 18 :: 19 :: 20 :: []) :: (0 :: 1 :: 2 :: 3 :: 4 :: 5 :: 6 :: 7 :: 8 :: 9 :: 10 :: 11 :: 12 :: 13 :: 14 :: 15 :: 16 :: 17 :: 18 :: 19 :: 20 :: 21 :: []) :: (0 :: 1 :: 2 :: 3 :: 4 :: 5 :: 6 :: 7 :: 8 :: 9 :: 10 :: 11 :: 12 :: 13 :: 14 :: 15 :: 16 :: 17 :: 18 :: 19 :: 20 :: 21 :: 22 :: []) :: [])) (sl' := [(0, .one (.g (.d (.sl 3 (List.map encApi_Dep p_0))))), (3, .one (bI .i64 v3)), (47, .one (bB true))]) (hp' := []) follows rfl rfl rfl ⟨⟨rfl, trivial⟩, trivial, ⟨rfl, trivial⟩, trivial, ⟨rfl, trivial⟩, trivial, ⟨rfl, trivial⟩, trivial, ⟨rfl, trivial⟩, trivial, ⟨rfl, trivial⟩, trivial, ⟨rfl, trivial⟩, trivial, ⟨rfl, trivial⟩, trivial, ⟨rfl, trivial⟩, trivial, ⟨rfl, trivial⟩, trivial, ⟨rfl, trivial⟩, trivial, ⟨rfl, trivial⟩, trivial, ⟨rfl, trivial⟩, trivial, ⟨rfl, trivial⟩, trivial, ⟨rfl, trivial⟩, trivial, ⟨rfl, trivial⟩, trivial, ⟨rfl, trivial⟩, trivial, ⟨rfl, trivial⟩, trivial, ⟨rfl, trivial⟩, trivial, ⟨rfl, trivial⟩, trivial, ⟨rfl, trivial⟩, trivial, ⟨rfl, trivial⟩, trivial, ⟨rfl, trivial⟩, trivial, ⟨rfl, trivial⟩, trivial, trivial⟩ ⟨OpW.plain (op_move (Ev.t 4 (bB r9)) rfl) rfl rfl, OpW.plain (OpL.cast (op_not (Ev.t 24 (bB r9)) rfl) (congrArg (fun b => bB b) hc12)) rfl rfl, OpW.plain (op_move (Ev.t 25 (bB true)) rfl) rfl rfl, OpW.no rfl rfl rfl rfl rfl, OpW.no rfl rfl rfl rfl rfl, OpW.plain (op_pickT (Ev.t 26 (bB true)) (Ev.c _ rfl) rfl) rfl rfl, OpW.plain (op_move (Ev.t 29 (bB true)) rfl) rfl rfl, OpW.no rfl rfl rfl rfl rfl, OpW.no rfl rfl rfl rfl rfl, OpW.no rfl rfl rfl rfl rfl, OpW.un rfl rfl rfl rfl, OpW.un rfl rfl rfl rfl, OpW.un rfl rfl rfl rfl, OpW.un rfl rfl rfl rfl, OpW.un rfl rfl rfl rfl, OpW.un rfl rfl rfl rfl, OpW.un rfl rfl rfl rfl, OpW.un rfl rfl rfl rfl, OpW.un rfl rfl rfl rfl, OpW.un rfl rfl rfl rfl, OpW.un rfl rfl rfl rfl, OpW.un rfl rfl rfl rfl, OpW.no rfl rfl rfl rfl rfl, OpW.plain (op_pickT (Ev.t 30 (bB true)) (Ev.c _ rfl) rfl) rfl rfl, trivial⟩ ⟨rfl, rfl, rfl, trivial⟩ trivial rfl ?_
      refine G.condT rfl ?_
      refine G.seq ?_
      refine G.region ?_
      refine G.op1 (op_assign (Ev.c _ rfl) rfl) rfl trivial trivial ?_
      refine G.endOps ?_
      cases hF
      exact G.ret1 Try.results38 (RVar.tmp 2 _) ⟨rfl, trivial⟩ trivial
    · refine ifS hF (fun hc13 hF => ?_) (fun hc13 hF => ?_)
      · refine G.drawn (effs := (⟨[(4, .one (bB r9))], [], [(24, .one (bB r9))], []⟩ :: ⟨[(24, .one (bB r9))], [], [(25, .one (bB false))], []⟩ :: ⟨[(25, .one (bB false))], [], [(26, .one (bB false))], []⟩ :: ⟨[(26, .one (bB false)), (5, .one (bB r11))], [], [(27, .one (bB r11))], []⟩ :: ⟨[(26, .one (bB false)), (27, .one (bB r11))], [], [(28, .one (bB true))], []⟩ :: ⟨[(26, .one (bB false)), (28, .one (bB true))], [], [(29, .one (bB true))], []⟩ :: ⟨[(29, .one (bB true))], [], [(30, .one (bB true))], []⟩ :: ⟨[(30, .one (bB true))], [], [(31, .one (.x Go.undef))], []⟩ :: ⟨[(30, .one (bB true))], [], [(32, .one (.x Go.undef))], []⟩ :: ⟨[(30, .one (bB true))], [], [(33, .one (.x Go.undef))], []⟩ :: ⟨[(33, .one (.x Go.undef))], [], [(34, .one (.x Go.undef))], []⟩ :: ⟨[(33, .one (.x Go.undef))], [], [(35, .one (.x Go.undef))], []⟩ :: ⟨[(33, .one (.x Go.undef))], [], [(36, .one (.x Go.undef))], []⟩ :: ⟨[(33, .one (.x Go.undef))], [], [(37, .one (.x Go.undef))], []⟩ :: ⟨[(33, .one (.x Go.undef))], [], [(38, .one (.x Go.undef))], []⟩ :: ⟨[(33, .one (.x Go.undef))], [], [(39, .one (.x Go.undef))], []⟩ :: ⟨[(33, .one (.x Go.undef))], [], [(40, .one (.x Go.undef))], []⟩ :: ⟨[(33, .one (.x Go.undef))], [], [(41, .one (.x Go.undef))], []⟩ :: ⟨[(33, .one (.x Go.undef))], [], [(42, .one (.x Go.undef))], []⟩ :: ⟨[(33, .one (.x Go.undef))], [], [(43, .one (.x Go.undef))], []⟩ :: ⟨[(33, .one (.x Go.undef))], [], [(44, .one (.x Go.undef))], []⟩ :: ⟨[(33, .one (.x Go.undef))], [], [(45, .one (.x Go.undef))], []⟩ :: ⟨[(30, .one (bB true))], [], [(46, .one (.x Go.undef))], []⟩ :: ⟨[(30, .one (bB true))], [], [(47, .one (bB true))], []⟩ :: [])) (deps := ([] :: [0] :: [0, 1] :: [0, 1, 2] :: [0, 1, 2, 3] :: [0, 1, 2, 3, 4] :: [0, 1, 2, 3, 4, 5] :: [0, 1, 2, 3, 4, 5, 6] :: [0, 1, 2, 3, 4, 5, 6, 7] :: [0, 1, 2, 3, 4, 5, 6, 7, 8] :: [0, 1, 2, 3, 4, 5, 6, 7, 8, 9] :: [0, 1, 2, 3, 4, 5, 6, 7, 8, 9] :: [0, 1, 2, 3, 4, 5, 6, 7, 8, 9, 11] :: [0, 1, 2, 3, 4, 5, 6, 7, 8, 9, 10, 11, 12] :: [0, 1, 2, 3, 4, 5, 6, 7, 8, 9, 10, 11, 12, 13] :: [0, 1, 2, 3, 4, 5, 6, 7, 8, 9, 10, 11, 12, 13, 14] :: [0, 1, 2, 3, 4, 5, 6, 7, 8, 9] :: [0, 1, 2, 3, 4, 5, 6, 7, 8, 9] :: [0, 1, 2, 3, 4, 5, 6, 7, 8, 9, 16, 17] :: [0, 1, 2, 3, 4, 5, 6, 7, 8, 9, 16, 17, 18] :: [0, 1, 2, 3, 4, 5, 6, 7, 8, 9, 16, 17, 18, 19] :: (0 :: 1 :: 2 :: 3 :: 4 :: 5 :: 6 :: 7 :: 8 :: 9 :: 10 :: 11 :: 12 :: 13 :: 14 :: 15 :: 16 :: 17 :: 18 :: 19 :: 20 :: []) :: (0 :: 1 :: 2 :: 3 :: 4 :: 5 :: 6 :: 7 :: 8 :: 9 :: 10 :: 11 :: 12 :: 13 :: 14 :: 15 :: 16 :: 17 :: 18 :: 19 :: 20 :: 21 :: []) :: (0 :: 1 :: 2 :: 3 :: 4 :: 5 :: 6 :: 7 :: 8 :: 9 :: 10 :: 11 :: 12 :: 13 :: 14 :: 15 :: 16 :: 17 :: 18 :: 19 :: 20 :: 21 :: 22 :: []) :: [])) (sl' := [(0, .one (.g (.d (.sl 3 (List.map encApi_Dep p_0))))), (3, .one (bI .i64 v3)), (47, .one (bB true))]) (hp' := []) follows rfl rfl rfl ⟨⟨rfl, trivial⟩, trivial, ⟨rfl, trivial⟩, trivial, ⟨rfl, trivial⟩, trivial, ⟨rfl, rfl, trivial⟩, trivial, ⟨rfl, rfl, trivial⟩, trivial, ⟨rfl, rfl, trivial⟩, trivial, ⟨rfl, trivial⟩, trivial, ⟨rfl, trivial⟩, trivial, ⟨rfl, trivial⟩, trivial, ⟨rfl, trivial⟩, trivial, ⟨rfl, trivial⟩, trivial, ⟨rfl, trivial⟩, trivial, ⟨rfl, trivial⟩, trivial, ⟨rfl, trivial⟩, trivial, ⟨rfl, trivial⟩, trivial, ⟨rfl, trivial⟩, trivial, ⟨rfl, trivial⟩, trivial, ⟨rfl, trivial⟩, trivial, ⟨rfl, trivial⟩, trivial, ⟨rfl, trivial⟩, trivial, ⟨rfl, trivial⟩, trivial, ⟨rfl, trivial⟩, trivial, ⟨rfl, trivial⟩, trivial, ⟨rfl, trivial⟩, trivial, trivial⟩ ⟨OpW.plain (op_move (Ev.t 4 (bB r9)) rfl) rfl rfl, OpW.plain (OpL.cast (op_not (Ev.t 24 (bB r9)) rfl) (congrArg (fun b => bB b) hc12)) rfl rfl, OpW.plain (op_move (Ev.t 25 (bB false)) rfl) rfl rfl, OpW.yes (op_move (Ev.t 5 (bB r11)) rfl) rfl rfl rfl, OpW.yes (OpL.cast (op_not (Ev.t 27 (bB r11)) rfl) (congrArg (fun b => bB b) hc13)) rfl rfl rfl, OpW.plain (op_pickF (Ev.t 26 (bB false)) (Ev.t 28 (bB true)) rfl) rfl rfl, OpW.plain (op_move (Ev.t 29 (bB true)) rfl) rfl rfl, OpW.no rfl rfl rfl rfl rfl, OpW.no rfl rfl rfl rfl rfl, OpW.no rfl rfl rfl rfl rfl, OpW.un rfl rfl rfl rfl, OpW.un rfl rfl rfl rfl, OpW.un rfl rfl rfl rfl, OpW.un rfl rfl rfl rfl, OpW.un rfl rfl rfl rfl, OpW.un rfl rfl rfl rfl, OpW.un rfl rfl rfl rfl, OpW.un rfl rfl rfl rfl, OpW.un rfl rfl rfl rfl, OpW.un rfl rfl rfl rfl, OpW.un rfl rfl rfl rfl, OpW.un rfl rfl rfl rfl, OpW.no rfl rfl rfl rfl rfl, OpW.plain (op_pickT (Ev.t 30 (bB true)) (Ev.c _ rfl) rfl) rfl rfl, trivial⟩ ⟨rfl, rfl, rfl, trivial⟩ trivial rfl ?_
        refine G.condT rfl ?_
        refine G.seq ?_
        refine G.region ?_
        refine G.op1 (op_assign (Ev.c _ rfl) rfl) rfl trivial trivial ?_
        refine G.endOps ?_
        cases hF
        exact G.ret1 Try.results38 (RVar.tmp 2 _) ⟨rfl, trivial⟩ trivial
      · refine ifS hF (fun hc14 hF => ?_) (fun hc14 hF => ?_)
        · obtain ⟨x15, hx15, hF⟩ := bindS hF
          obtain ⟨x16, hx16, hF⟩ := bindS hF
          refine G.drawn (effs := (⟨[(4, .one (bB r9))], [], [(24, .one (bB r9))], []⟩ :: ⟨[(24, .one (bB r9))], [], [(25, .one (bB false))], []⟩ :: ⟨[(25, .one (bB false))], [], [(26, .one (bB false))], []⟩ :: ⟨[(26, .one (bB false)), (5, .one (bB r11))], [], [(27, .one (bB r11))], []⟩ :: ⟨[(26, .one (bB false)), (27, .one (bB r11))], [], [(28, .one (bB false))], []⟩ :: ⟨[(26, .one (bB false)), (28, .one (bB false))], [], [(29, .one (bB false))], []⟩ :: ⟨[(29, .one (bB false))], [], [(30, .one (bB false))], []⟩ :: ⟨[(30, .one (bB false)), (3, .one (bI .i64 v3))], [], [(31, .one (bI .i64 v3))], []⟩ :: ⟨[(30, .one (bB false)), (31, .one (bI .i64 v3))], [], [(32, .one (bB true))], []⟩ :: ⟨[(30, .one (bB false)), (32, .one (bB true))], [], [(33, .one (bB true))], []⟩ :: ⟨[(33, .one (bB true)), (0, .one (.g (.d (.sl 3 (List.map encApi_Dep p_0)))))], [], [(34, .one (.g (.d (.sl 3 (List.map encApi_Dep p_0)))))], []⟩ :: ⟨[(33, .one (bB true)), (3, .one (bI .i64 v3))], [], [(35, .one (bI .i64 v3))], []⟩ :: ⟨[(33, .one (bB true)), (35, .one (bI .i64 v3))], [], [(36, .one (bI .i64 (IntKind.wrap .i64 (v3 - 1))))], []⟩ :: ⟨[(33, .one (bB true)), (34, .one (.g (.d (.sl 3 (List.map encApi_Dep p_0))))), (36, .one (bI .i64 (IntKind.wrap .i64 (v3 - 1))))], [], [(37, .one (.ep [.v (.string x15.Key), .v (.int .i64 x15.Stamp.N), .v (.int .i64 x15.Stamp.Site)]))], []⟩ :: ⟨[(33, .one (bB true)), (37, .one (.ep [.v (.string x15.Key), .v (.int .i64 x15.Stamp.N), .v (.int .i64 x15.Stamp.Site)]))], [], [(38, .one (.ep [.v (.string x15.Key), .v (.int .i64 x15.Stamp.N), .v (.int .i64 x15.Stamp.Site)]))], []⟩ :: ⟨[(33, .one (bB true)), (38, .one (.ep [.v (.string x15.Key), .v (.int .i64 x15.Stamp.N), .v (.int .i64 x15.Stamp.Site)]))], [], [(39, .one (bS x15.Key))], []⟩ :: ⟨[(33, .one (bB true)), (0, .one (.g (.d (.sl 3 (List.map encApi_Dep p_0)))))], [], [(40, .one (.g (.d (.sl 3 (List.map encApi_Dep p_0)))))], []⟩ :: ⟨[(33, .one (bB true)), (3, .one (bI .i64 v3))], [], [(41, .one (bI .i64 v3))], []⟩ :: ⟨[(33, .one (bB true)), (40, .one (.g (.d (.sl 3 (List.map encApi_Dep p_0))))), (41, .one (bI .i64 v3))], [], [(42, .one (.ep [.v (.string x16.Key), .v (.int .i64 x16.Stamp.N), .v (.int .i64 x16.Stamp.Site)]))], []⟩ :: ⟨[(33, .one (bB true)), (42, .one (.ep [.v (.string x16.Key), .v (.int .i64 x16.Stamp.N), .v (.int .i64 x16.Stamp.Site)]))], [], [(43, .one (.ep [.v (.string x16.Key), .v (.int .i64 x16.Stamp.N), .v (.int .i64 x16.Stamp.Site)]))], []⟩ :: ⟨[(33, .one (bB true)), (43, .one (.ep [.v (.string x16.Key), .v (.int .i64 x16.Stamp.N), .v (.int .i64 x16.Stamp.Site)]))], [], [(44, .one (bS x16.Key))], []⟩ :: ⟨[(33, .one (bB true)), (39, .one (bS x15.Key)), (44, .one (bS x16.Key))], [], [(45, .one (bB (!slt x15.Key x16.Key)))], []⟩ :: ⟨[(30, .one (bB false)), (33, .one (bB true)), (45, .one (bB (!slt x15.Key x16.Key)))], [], [(46, .one (bB (!slt x15.Key x16.Key)))], []⟩ :: ⟨[(30, .one (bB false)), (46, .one (bB (!slt x15.Key x16.Key)))], [], [(47, .one (bB (!slt x15.Key x16.Key)))], []⟩ :: [])) (deps := ([] :: [0] :: [0, 1] :: [0, 1, 2] :: [0, 1, 2, 3] :: [0, 1, 2, 3, 4] :: [0, 1, 2, 3, 4, 5] :: [0, 1, 2, 3, 4, 5, 6] :: [0, 1, 2, 3, 4, 5, 6, 7] :: [0, 1, 2, 3, 4, 5, 6, 7, 8] :: [0, 1, 2, 3, 4, 5, 6, 7, 8, 9] :: [0, 1, 2, 3, 4, 5, 6, 7, 8, 9] :: [0, 1, 2, 3, 4, 5, 6, 7, 8, 9, 11] :: [0, 1, 2, 3, 4, 5, 6, 7, 8, 9, 10, 11, 12] :: [0, 1, 2, 3, 4, 5, 6, 7, 8, 9, 10, 11, 12, 13] :: [0, 1, 2, 3, 4, 5, 6, 7, 8, 9, 10, 11, 12, 13, 14] :: [0, 1, 2, 3, 4, 5, 6, 7, 8, 9] :: [0, 1, 2, 3, 4, 5, 6, 7, 8, 9] :: [0, 1, 2, 3, 4, 5, 6, 7, 8, 9, 16, 17] :: [0, 1, 2, 3, 4, 5, 6, 7, 8, 9, 16, 17, 18] :: [0, 1, 2, 3, 4, 5, 6, 7, 8, 9, 16, 17, 18, 19] :: (0 :: 1 :: 2 :: 3 :: 4 :: 5 :: 6 :: 7 :: 8 :: 9 :: 10 :: 11 :: 12 :: 13 :: 14 :: 15 :: 16 :: 17 :: 18 :: 19 :: 20 :: []) :: (0 :: 1 :: 2 :: 3 :: 4 :: 5 :: 6 :: 7 :: 8 :: 9 :: 10 :: 11 :: 12 :: 13 :: 14 :: 15 :: 16 :: 17 :: 18 :: 19 :: 20 :: 21 :: []) :: (0 :: 1 :: 2 :: 3 :: 4 :: 5 :: 6 :: 7 :: 8 :: 9 :: 10 :: 11 :: 12 :: 13 :: 14 :: 15 :: 16 :: 17 :: 18 :: 19 :: 20 :: 21 :: 22 :: []) :: [])) (sl' := [(0, .one (.g (.d (.sl 3 (List.map encApi_Dep p_0))))), (3, .one (bI .i64 v3)), (47, .one (bB (!slt x15.Key x16.Key)))]) (hp' := []) follows rfl rfl rfl ⟨⟨rfl, trivial⟩, trivial, ⟨rfl, trivial⟩, trivial, ⟨rfl, trivial⟩, trivial, ⟨rfl, rfl, trivial⟩, trivial, ⟨rfl, rfl, trivial⟩, trivial, ⟨rfl, rfl, trivial⟩, trivial, ⟨rfl, trivial⟩, trivial, ⟨rfl, rfl, trivial⟩, trivial, ⟨rfl, rfl, trivial⟩, trivial, ⟨rfl, rfl, trivial⟩, trivial, ⟨rfl, rfl, trivial⟩, trivial, ⟨rfl, rfl, trivial⟩, trivial, ⟨rfl, rfl, trivial⟩, trivial, ⟨rfl, rfl, rfl, trivial⟩, trivial, ⟨rfl, rfl, trivial⟩, trivial, ⟨rfl, rfl, trivial⟩, trivial, ⟨rfl, rfl, trivial⟩, trivial, ⟨rfl, rfl, trivial⟩, trivial, ⟨rfl, rfl, rfl, trivial⟩, trivial, ⟨rfl, rfl, trivial⟩, trivial, ⟨rfl, rfl, trivial⟩, trivial, ⟨rfl, rfl, rfl, trivial⟩, trivial, ⟨rfl, rfl, rfl, trivial⟩, trivial, ⟨rfl, rfl, trivial⟩, trivial, trivial⟩ ⟨OpW.plain (op_move (Ev.t 4 (bB r9)) rfl) rfl rfl, OpW.plain (OpL.cast (op_not (Ev.t 24 (bB r9)) rfl) (congrArg (fun b => bB b) hc12)) rfl rfl, OpW.plain (op_move (Ev.t 25 (bB false)) rfl) rfl rfl, OpW.yes (op_move (Ev.t 5 (bB r11)) rfl) rfl rfl rfl, OpW.yes (OpL.cast (op_not (Ev.t 27 (bB r11)) rfl) (congrArg (fun b => bB b) hc13)) rfl rfl rfl, OpW.plain (op_pickF (Ev.t 26 (bB false)) (Ev.t 28 (bB false)) rfl) rfl rfl, OpW.plain (op_move (Ev.t 29 (bB false)) rfl) rfl rfl, OpW.yes (op_move (Ev.t 3 (bI .i64 v3)) rfl) rfl rfl rfl, OpW.yes (OpL.cast (op_gtr (Ev.t 31 (bI .i64 v3)) (Ev.c _ rfl) rfl) (congrArg (fun b => bB b) hc14)) rfl rfl rfl, OpW.yes (op_move (Ev.t 32 (bB true)) rfl) rfl rfl rfl, OpW.yes (op_move (Ev.t 0 (.g (.d (.sl 3 (List.map encApi_Dep p_0))))) rfl) rfl rfl rfl, OpW.yes (op_move (Ev.t 3 (bI .i64 v3)) rfl) rfl rfl rfl, OpW.yes (op_sub (Ev.t 35 (bI .i64 v3)) (Ev.c _ rfl) rfl) rfl rfl rfl, OpW.yes (op_index (cs := [.v (.string x15.Key), .v (.int .i64 x15.Stamp.N), .v (.int .i64 x15.Stamp.Site)]) Try.underlying26 ti62 (idx_ok hx15).1 (idx_get hx15 encApi_Dep) (Ev.t 34 (.g (.d (.sl 3 (List.map encApi_Dep p_0))))) (Ev.t 36 (bI .i64 (IntKind.wrap .i64 (v3 - 1)))) rfl) rfl rfl rfl, OpW.yes (op_fieldE (cs' := [.v (.string x15.Key), .v (.int .i64 x15.Stamp.N), .v (.int .i64 x15.Stamp.Site)]) Try.underlying62 rfl ti9 (by decide) rfl (Ev.t 37 (.ep [.v (.string x15.Key), .v (.int .i64 x15.Stamp.N), .v (.int .i64 x15.Stamp.Site)])) rfl) rfl rfl rfl, OpW.yes (op_load1E (c := .v (.string x15.Key)) Try.underlying9 rfl rfl (Ev.t 38 (.ep [.v (.string x15.Key), .v (.int .i64 x15.Stamp.N), .v (.int .i64 x15.Stamp.Site)])) rfl) rfl rfl rfl, OpW.yes (op_move (Ev.t 0 (.g (.d (.sl 3 (List.map encApi_Dep p_0))))) rfl) rfl rfl rfl, OpW.yes (op_move (Ev.t 3 (bI .i64 v3)) rfl) rfl rfl rfl, OpW.yes (op_index (cs := [.v (.string x16.Key), .v (.int .i64 x16.Stamp.N), .v (.int .i64 x16.Stamp.Site)]) Try.underlying26 ti62 (idx_ok hx16).1 (idx_get hx16 encApi_Dep) (Ev.t 40 (.g (.d (.sl 3 (List.map encApi_Dep p_0))))) (Ev.t 41 (bI .i64 v3)) rfl) rfl rfl rfl, OpW.yes (op_fieldE (cs' := [.v (.string x16.Key), .v (.int .i64 x16.Stamp.N), .v (.int .i64 x16.Stamp.Site)]) Try.underlying62 rfl ti9 (by decide) rfl (Ev.t 42 (.ep [.v (.string x16.Key), .v (.int .i64 x16.Stamp.N), .v (.int .i64 x16.Stamp.Site)])) rfl) rfl rfl rfl, OpW.yes (op_load1E (c := .v (.string x16.Key)) Try.underlying9 rfl rfl (Ev.t 43 (.ep [.v (.string x16.Key), .v (.int .i64 x16.Stamp.N), .v (.int .i64 x16.Stamp.Site)])) rfl) rfl rfl rfl, OpW.yes (op_geS (Ev.t 39 (bS x15.Key)) (Ev.t 44 (bS x16.Key)) rfl) rfl rfl rfl, OpW.yes (op_pickT (Ev.t 33 (bB true)) (Ev.t 45 (bB (!slt x15.Key x16.Key))) rfl) rfl rfl rfl, OpW.plain (op_pickF (Ev.t 30 (bB false)) (Ev.t 46 (bB (!slt x15.Key x16.Key))) rfl) rfl rfl, trivial⟩ ⟨rfl, rfl, rfl, trivial⟩ trivial rfl ?_
          refine ifS hF (fun hc17 hF => ?_) (fun hc17 hF => ?_)
          · refine G.cond rfl (fun _ => ?_) (fun hx => by rw [hc17] at hx; cases hx)
            refine G.seq ?_
            refine G.region ?_
            refine G.op1 (op_assign (Ev.c _ rfl) rfl) rfl trivial trivial ?_
            refine G.endOps ?_
            cases hF
            exact G.ret1 Try.results38 (RVar.tmp 2 _) ⟨rfl, trivial⟩ trivial
          · refine G.cond rfl (fun hx => by rw [hc17] at hx; cases hx) (fun _ => ?_)
            refine G.skip ?_
            refine G.endBlock ?_
            refine G.region ?_
            refine G.op1 (op_move (Ev.t 3 (bI .i64 v3)) rfl) rfl ⟨rfl, trivial⟩ trivial ?_
            refine G.op1 (op_add (Ev.t 10 (bI .i64 v3)) (Ev.c _ rfl) rfl) rfl ⟨rfl, trivial⟩ trivial ?_
            refine G.op1 (op_assign (Ev.t 11 (bI .i64 (IntKind.wrap .i64 (v3 + 1)))) rfl) rfl ⟨rfl, trivial⟩ trivial ?_
            refine G.endOps ?_
            exact G.arr (J4 (IntKind.wrap .i64 (v3 + 1)) hF) ⟨rfl, rfl, trivial⟩ trivial rfl
        · refine G.drawn (effs := (⟨[(4, .one (bB r9))], [], [(24, .one (bB r9))], []⟩ :: ⟨[(24, .one (bB r9))], [], [(25, .one (bB false))], []⟩ :: ⟨[(25, .one (bB false))], [], [(26, .one (bB false))], []⟩ :: ⟨[(26, .one (bB false)), (5, .one (bB r11))], [], [(27, .one (bB r11))], []⟩ :: ⟨[(26, .one (bB false)), (27, .one (bB r11))], [], [(28, .one (bB false))], []⟩ :: ⟨[(26, .one (bB false)), (28, .one (bB false))], [], [(29, .one (bB false))], []⟩ :: ⟨[(29, .one (bB false))], [], [(30, .one (bB false))], []⟩ :: ⟨[(30, .one (bB false)), (3, .one (bI .i64 v3))], [], [(31, .one (bI .i64 v3))], []⟩ :: ⟨[(30, .one (bB false)), (31, .one (bI .i64 v3))], [], [(32, .one (bB false))], []⟩ :: ⟨[(30, .one (bB false)), (32, .one (bB false))], [], [(33, .one (bB false))], []⟩ :: ⟨[(33, .one (bB false))], [], [(34, .one (.x Go.undef))], []⟩ :: ⟨[(33, .one (bB false))], [], [(35, .one (.x Go.undef))], []⟩ :: ⟨[(33, .one (bB false))], [], [(36, .one (.x Go.undef))], []⟩ :: ⟨[(33, .one (bB false))], [], [(37, .one (.x Go.undef))], []⟩ :: ⟨[(33, .one (bB false))], [], [(38, .one (.x Go.undef))], []⟩ :: ⟨[(33, .one (bB false))], [], [(39, .one (.x Go.undef))], []⟩ :: ⟨[(33, .one (bB false))], [], [(40, .one (.x Go.undef))], []⟩ :: ⟨[(33, .one (bB false))], [], [(41, .one (.x Go.undef))], []⟩ :: ⟨[(33, .one (bB false))], [], [(42, .one (.x Go.undef))], []⟩ :: ⟨[(33, .one (bB false))], [], [(43, .one (.x Go.undef))], []⟩ :: ⟨[(33, .one (bB false))], [], [(44, .one (.x Go.undef))], []⟩ :: ⟨[(33, .one (bB false))], [], [(45, .one (.x Go.undef))], []⟩ :: ⟨[(30, .one (bB false)), (33, .one (bB false))], [], [(46, .one (bB false))], []⟩ :: ⟨[(30, .one (bB false)), (46, .one (bB false))], [], [(47, .one (bB false))], []⟩ :: [])) (deps := ([] :: [0] :: [0, 1] :: [0, 1, 2] :: [0, 1, 2, 3] :: [0, 1, 2, 3, 4] :: [0, 1, 2, 3, 4, 5] :: [0, 1, 2, 3, 4, 5, 6] :: [0, 1, 2, 3, 4, 5, 6, 7] :: [0, 1, 2, 3, 4, 5, 6, 7, 8] :: [0, 1, 2, 3, 4, 5, 6, 7, 8, 9] :: [0, 1, 2, 3, 4, 5, 6, 7, 8, 9] :: [0, 1, 2, 3, 4, 5, 6, 7, 8, 9, 11] :: [0, 1, 2, 3, 4, 5, 6, 7, 8, 9, 10, 11, 12] :: [0, 1, 2, 3, 4, 5, 6, 7, 8, 9, 10, 11, 12, 13] :: [0, 1, 2, 3, 4, 5, 6, 7, 8, 9, 10, 11, 12, 13, 14] :: [0, 1, 2, 3, 4, 5, 6, 7, 8, 9] :: [0, 1, 2, 3, 4, 5, 6, 7, 8, 9] :: [0, 1, 2, 3, 4, 5, 6, 7, 8, 9, 16, 17] :: [0, 1, 2, 3, 4, 5, 6, 7, 8, 9, 16, 17, 18] :: [0, 1, 2, 3, 4, 5, 6, 7, 8, 9, 16, 17, 18, 19] :: (0 :: 1 :: 2 :: 3 :: 4 :: 5 :: 6 :: 7 :: 8 :: 9 :: 10 :: 11 :: 12 :: 13 :: 14 :: 15 :: 16 :: 17 :: 18 :: 19 :: 20 :: []) :: (0 :: 1 :: 2 :: 3 :: 4 :: 5 :: 6 :: 7 :: 8 :: 9 :: 10 :: 11 :: 12 :: 13 :: 14 :: 15 :: 16 :: 17 :: 18 :: 19 :: 20 :: 21 :: []) :: (0 :: 1 :: 2 :: 3 :: 4 :: 5 :: 6 :: 7 :: 8 :: 9 :: 10 :: 11 :: 12 :: 13 :: 14 :: 15 :: 16 :: 17 :: 18 :: 19 :: 20 :: 21 :: 22 :: []) :: [])) (sl' := [(0, .one (.g (.d (.sl 3 (List.map encApi_Dep p_0))))), (3, .one (bI .i64 v3)), (47, .one (bB false))]) (hp' := []) follows rfl rfl rfl ⟨⟨rfl, trivial⟩, trivial, ⟨rfl, trivial⟩, trivial, ⟨rfl, trivial⟩, trivial, ⟨rfl, rfl, trivial⟩, trivial, ⟨rfl, rfl, trivial⟩, trivial, ⟨rfl, rfl, trivial⟩, trivial, ⟨rfl, trivial⟩, trivial, ⟨rfl, rfl, trivial⟩, trivial, ⟨rfl, rfl, trivial⟩, trivial, ⟨rfl, rfl, trivial⟩, trivial, ⟨rfl, trivial⟩, trivial, ⟨rfl, trivial⟩, trivial, ⟨rfl, trivial⟩, trivial, ⟨rfl, trivial⟩, trivial, ⟨rfl, trivial⟩, trivial, ⟨rfl, trivial⟩, trivial, ⟨rfl, trivial⟩, trivial, ⟨rfl, trivial⟩, trivial, ⟨rfl, trivial⟩, trivial, ⟨rfl, trivial⟩, trivial, ⟨rfl, trivial⟩, trivial, ⟨rfl, trivial⟩, trivial, ⟨rfl, rfl, trivial⟩, trivial, ⟨rfl, rfl, trivial⟩, trivial, trivial⟩ ⟨OpW.plain (op_move (Ev.t 4 (bB r9)) rfl) rfl rfl, OpW.plain (OpL.cast (op_not (Ev.t 24 (bB r9)) rfl) (congrArg (fun b => bB b) hc12)) rfl rfl, OpW.plain (op_move (Ev.t 25 (bB false)) rfl) rfl rfl, OpW.yes (op_move (Ev.t 5 (bB r11)) rfl) rfl rfl rfl, OpW.yes (OpL.cast (op_not (Ev.t 27 (bB r11)) rfl) (congrArg (fun b => bB b) hc13)) rfl rfl rfl, OpW.plain (op_pickF (Ev.t 26 (bB false)) (Ev.t 28 (bB false)) rfl) rfl rfl, OpW.plain (op_move (Ev.t 29 (bB false)) rfl) rfl rfl, OpW.yes (op_move (Ev.t 3 (bI .i64 v3)) rfl) rfl rfl rfl, OpW.yes (OpL.cast (op_gtr (Ev.t 31 (bI .i64 v3)) (Ev.c _ rfl) rfl) (congrArg (fun b => bB b) hc14)) rfl rfl rfl, OpW.yes (op_move (Ev.t 32 (bB false)) rfl) rfl rfl rfl, OpW.no rfl rfl rfl rfl rfl, OpW.no rfl rfl rfl rfl rfl, OpW.no rfl rfl rfl rfl rfl, OpW.no rfl rfl rfl rfl rfl, OpW.no rfl rfl rfl rfl rfl, OpW.no rfl rfl rfl rfl rfl, OpW.no rfl rfl rfl rfl rfl, OpW.no rfl rfl rfl rfl rfl, OpW.no rfl rfl rfl rfl rfl, OpW.no rfl rfl rfl rfl rfl, OpW.no rfl rfl rfl rfl rfl, OpW.no rfl rfl rfl rfl rfl, OpW.yes (op_pickF (Ev.t 33 (bB false)) (Ev.c _ rfl) rfl) rfl rfl rfl, OpW.plain (op_pickF (Ev.t 30 (bB false)) (Ev.t 46 (bB false)) rfl) rfl rfl, trivial⟩ ⟨rfl, rfl, rfl, trivial⟩ trivial rfl ?_
          refine G.condF rfl ?_
          refine G.skip ?_
          refine G.endBlock ?_
          refine G.region ?_
          refine G.op1 (op_move (Ev.t 3 (bI .i64 v3)) rfl) rfl ⟨rfl, trivial⟩ trivial ?_
          refine G.op1 (op_add (Ev.t 10 (bI .i64 v3)) (Ev.c _ rfl) rfl) rfl ⟨rfl, trivial⟩ trivial ?_
          refine G.op1 (op_assign (Ev.t 11 (bI .i64 (IntKind.wrap .i64 (v3 + 1)))) rfl) rfl ⟨rfl, trivial⟩ trivial ?_
          refine G.endOps ?_
          exact G.arr (J4 (IntKind.wrap .i64 (v3 + 1)) hF) ⟨rfl, rfl, trivial⟩ trivial rfl
  · refine G.cond rfl (fun hx => by rw [hc7] at hx; cases hx) (fun _ => ?_)
    refine G.exit ?_
    refine GX.c ?_
    refine GX.q ?_
    refine GX.bYes ?_
    exact G.arr (J2 () hF) ⟨rfl, trivial⟩ trivial rfl


set_option maxRecDepth 20000 in
set_option maxHeartbeats 2000000 in
theorem ct_ref06_Check (v_0 : Api_Version) (r : Bool) (hF : ref06_Check v_0 = some r) : Ct Try.prog 24 [.g (.agg (encApi_Version v_0))] (.one (.d (.v (.bool r)))) := by
  unfold ref06_Check at hF
  refine Ct.intro Try.func24 rfl Try.ntmps24 rfl rfl fun M w => ?_
  refine G.seq ?_
  refine G.region ?_
  refine G.op2 (op_boxA (k := 1001) (Ev.t 0 (.g (.agg [.v (.string v_0.Key), .v (.string v_0.Value), .v (.bool v_0.Gone), .v (.int .i64 v_0.Stamp.N), .v (.int .i64 v_0.Stamp.Site), .sl 3 (List.map encApi_Dep v_0.Past)]))) rfl) rfl ⟨rfl, trivial⟩ ⟨rfl, trivial⟩ ?_
  refine G.op1 (op_assign (Ev.c _ rfl) rfl) rfl trivial trivial ?_
  refine G.endOps ?_
  refine G.seq ?_
  refine G.region ?_
  refine G.op1 (op_fieldP (off' := 0) Try.underlying28 rfl ti9 (by decide) rfl (Ev.t 1 (.ptr 1001 0)) rfl) rfl ⟨rfl, trivial⟩ trivial ?_
  refine G.op1 (op_load1P (c := bS v_0.Key) Try.underlying9 rfl rfl (Ev.t 6 (.ptr 1001 0)) rfl) rfl ⟨rfl, trivial⟩ ⟨rfl, trivial⟩ ?_
  obtain ⟨r1, hr1, hF⟩ := bindS hF
  refine G.op1 (op_callQ (sv := .one (bB r1)) cf37 (ct_ref02_Check v_0.Key r1 hr1) rfl rfl (EvQL.cons (EvQ.g (Ev.t 7 (bS v_0.Key))) EvQL.nil) rfl) rfl ⟨rfl, trivial⟩ trivial ?_
  refine G.op1 (op_assign (Ev.t 8 (bB r1)) rfl) rfl ⟨rfl, trivial⟩ trivial ?_
  refine G.endOps ?_
  refine G.seq ?_
  refine G.region ?_
  refine G.op1 (op_fieldP (off' := 3) Try.underlying28 rfl ti25 (by decide) rfl (Ev.t 1 (.ptr 1001 0)) rfl) rfl ⟨rfl, trivial⟩ trivial ?_
  refine G.op1 (op_loadAP (ds := [.v (.int .i64 v_0.Stamp.N), .v (.int .i64 v_0.Stamp.Site)]) Try.underlying25 rfl ti25 rfl (Ev.t 9 (.ptr 1001 3)) rfl) rfl ⟨rfl, trivial⟩ ⟨rfl, trivial⟩ ?_
  obtain ⟨r2, hr2, hF⟩ := bindS hF
  refine G.op1 (op_callQ (sv := .one (bB r2)) cf20 (ct_ref03_Check v_0.Stamp r2 hr2) rfl rfl (EvQL.cons (EvQ.g (Ev.t 10 (.g (.agg [.v (.int .i64 v_0.Stamp.N), .v (.int .i64 v_0.Stamp.Site)])))) EvQL.nil) rfl) rfl ⟨rfl, trivial⟩ trivial ?_
  refine G.op1 (op_assign (Ev.t 11 (bB r2)) rfl) rfl ⟨rfl, trivial⟩ trivial ?_
  refine G.endOps ?_
  refine G.seq ?_
  refine G.region ?_
  refine G.op1 (op_fieldP (off' := 5) Try.underlying28 rfl ti26 (by decide) rfl (Ev.t 1 (.ptr 1001 0)) rfl) rfl ⟨rfl, trivial⟩ trivial ?_
  refine G.op1 (op_load1P (c := .g (.d (.sl 3 (List.map encApi_Dep v_0.Past)))) Try.underlying26 rfl rfl (Ev.t 12 (.ptr 1001 5)) rfl) rfl ⟨rfl, trivial⟩ ⟨rfl, trivial⟩ ?_
  obtain ⟨r3, hr3, hF⟩ := bindS hF
  refine G.op1 (op_callQ (sv := .one (bB r3)) cf38 (ct_ref04_Check v_0.Past r3 hr3) rfl rfl (EvQL.cons (EvQ.g (Ev.t 13 (.g (.d (.sl 3 (List.map encApi_Dep v_0.Past)))))) EvQL.nil) rfl) rfl ⟨rfl, trivial⟩ trivial ?_
  refine G.op1 (op_assign (Ev.t 14 (bB r3)) rfl) rfl ⟨rfl, trivial⟩ trivial ?_
  refine G.endOps ?_
  refine G.seq ?_
  refine G.region ?_
  refine G.op1 (op_move (Ev.t 3 (bB r1)) rfl) rfl ⟨rfl, trivial⟩ trivial ?_
  refine G.op1 (op_move (Ev.t 15 (bB r1)) rfl) rfl ⟨rfl, trivial⟩ trivial ?_
  refine G.joinL (T := Bool) 2 (fun y4 => ⟨[(1, .one (.ptr 1001 0)), (5, .one (bB r3)), (18, .one (bB y4))], [(1001, some (.blk 28 [bS v_0.Key, bS v_0.Value, bB v_0.Gone, bI .i64 v_0.Stamp.N, bI .i64 v_0.Stamp.Site, .g (.d (.sl 3 (List.map encApi_Dep v_0.Past)))]))]⟩) (fun y4 => ref06_Check_k1 v_0 r3 y4 = some r) (fun y4 hF => ?_) (fun J13 => ?_)
  · unfold ref06_Check_k1 at hF
    refine G.op1 (op_move (Ev.t 18 (bB y4)) rfl) rfl ⟨rfl, trivial⟩ trivial ?_
    refine G.joinL (T := Bool) 2 (fun y5 => ⟨[(1, .one (.ptr 1001 0)), (21, .one (bB y5))], [(1001, some (.blk 28 [bS v_0.Key, bS v_0.Value, bB v_0.Gone, bI .i64 v_0.Stamp.N, bI .i64 v_0.Stamp.Site, .g (.d (.sl 3 (List.map encApi_Dep v_0.Past)))]))]⟩) (fun y5 => ref06_Check_k2 v_0 y5 = some r) (fun y5 hF => ?_) (fun J11 => ?_)
    · unfold ref06_Check_k2 at hF
      refine G.op1 (op_move (Ev.t 21 (bB y5)) rfl) rfl ⟨rfl, trivial⟩ trivial ?_
      refine G.joinL (T := Bool) 5 (fun y6 => ⟨[(1, .one (.ptr 1001 0)), (27, .one (bB y6))], [(1001, some (.blk 28 [bS v_0.Key, bS v_0.Value, bB v_0.Gone, bI .i64 v_0.Stamp.N, bI .i64 v_0.Stamp.Site, .g (.d (.sl 3 (List.map encApi_Dep v_0.Past)))]))]⟩) (fun y6 => ref06_Check_k3 v_0 y6 = some r) (fun y6 hF => ?_) (fun J9 => ?_)
      · unfold ref06_Check_k3 at hF
        refine G.op1 (op_move (Ev.t 27 (bB y6)) rfl) rfl ⟨rfl, trivial⟩ trivial ?_
        refine ifS hF (fun hc7 hF => ?_) (fun hc7 hF => ?_)
        · refine G.known (t := 28) hc7 rfl ?_
          refine G.opG1 (op_fieldP (off' := 2) Try.underlying28 rfl ti4 (by decide) rfl (Ev.t 1 (.ptr 1001 0)) rfl) rfl rfl rfl ⟨rfl, trivial⟩ trivial ?_
          refine G.opG1 (op_load1P (c := bB v_0.Gone) Try.underlying4 rfl rfl (Ev.t 29 (.ptr 1001 2)) rfl) rfl rfl rfl ⟨rfl, trivial⟩ ⟨rfl, trivial⟩ ?_
          refine G.opG1 (op_not (Ev.t 30 (bB v_0.Gone)) rfl) rfl rfl rfl ⟨rfl, trivial⟩ trivial ?_
          refine G.opG1 (op_move (Ev.t 31 (bB (!v_0.Gone))) rfl) rfl rfl rfl ⟨rfl, trivial⟩ trivial ?_
          refine ifS hF (fun hc8 hF => ?_) (fun hc8 hF => ?_)
          · refine G.known (t := 32) hc8 rfl ?_
            refine G.opN1 rfl rfl rfl rfl rfl ?_
            refine G.opN1 rfl rfl rfl rfl rfl ?_
            refine G.opN1 rfl rfl rfl rfl rfl ?_
            refine G.opG1 (op_pickT (Ev.t 32 (bB true)) (Ev.c _ rfl) rfl) rfl rfl rfl ⟨rfl, trivial⟩ trivial ?_
            refine G.op1 (op_pickT (Ev.t 28 (bB true)) (Ev.t 36 (bB true)) rfl) rfl ⟨rfl, rfl, trivial⟩ trivial ?_
            refine G.op1 (op_assign (Ev.t 37 (bB true)) rfl) rfl ⟨rfl, trivial⟩ trivial ?_
            refine G.endOps ?_
            cases hF
            exact G.ret1 Try.results24 (RVar.tmp 2 _) ⟨rfl, trivial⟩ trivial
          · refine G.known (t := 32) hc8 rfl ?_
            refine G.opG1 (op_fieldP (off' := 1) Try.underlying28 rfl ti9 (by decide) rfl (Ev.t 1 (.ptr 1001 0)) rfl) rfl rfl rfl ⟨rfl, trivial⟩ trivial ?_
            refine G.opG1 (op_load1P (c := bS v_0.Value) Try.underlying9 rfl rfl (Ev.t 33 (.ptr 1001 1)) rfl) rfl rfl rfl ⟨rfl, trivial⟩ ⟨rfl, trivial⟩ ?_
            refine G.opG1 (op_eqS (Ev.t 34 (bS v_0.Value)) (Ev.c _ rfl) rfl) rfl rfl rfl ⟨rfl, trivial⟩ trivial ?_
            refine G.opG1 (op_pickF (Ev.t 32 (bB false)) (Ev.t 35 (bB (seq v_0.Value ByteArray.empty))) rfl) rfl rfl rfl ⟨rfl, rfl, trivial⟩ trivial ?_
            refine G.op1 (op_pickT (Ev.t 28 (bB true)) (Ev.t 36 (bB (seq v_0.Value ByteArray.empty))) rfl) rfl ⟨rfl, rfl, trivial⟩ trivial ?_
            refine G.op1 (op_assign (Ev.t 37 (bB (seq v_0.Value ByteArray.empty))) rfl) rfl ⟨rfl, trivial⟩ trivial ?_
            refine G.endOps ?_
            cases hF
            exact G.ret1 Try.results24 (RVar.tmp 2 _) ⟨rfl, trivial⟩ trivial
        · refine G.known (t := 28) hc7 rfl ?_
          refine G.opN1 rfl rfl rfl rfl rfl ?_
          refine G.opN1 rfl rfl rfl rfl rfl ?_
          refine G.opN1 rfl rfl rfl rfl rfl ?_
          refine G.opN1 rfl rfl rfl rfl rfl ?_
          refine G.opU rfl rfl rfl rfl ?_
          refine G.opU rfl rfl rfl rfl ?_
          refine G.opU rfl rfl rfl rfl ?_
          refine G.opN1 rfl rfl rfl rfl rfl ?_
          refine G.op1 (op_pickF (Ev.t 28 (bB false)) (Ev.c _ rfl) rfl) rfl ⟨rfl, trivial⟩ trivial ?_
          refine G.op1 (op_assign (Ev.t 37 (bB false)) rfl) rfl ⟨rfl, trivial⟩ trivial ?_
          refine G.endOps ?_
          cases hF
          exact G.ret1 Try.results24 (RVar.tmp 2 _) ⟨rfl, trivial⟩ trivial
      refine ifS hF (fun hc10 hF => ?_) (fun hc10 hF => ?_)
      · refine G.known (t := 22) hc10 rfl ?_
        refine G.opG1 (op_fieldP (off' := 1) Try.underlying28 rfl ti9 (by decide) rfl (Ev.t 1 (.ptr 1001 0)) rfl) rfl rfl rfl ⟨rfl, trivial⟩ trivial ?_
        refine G.opG1 (op_load1P (c := bS v_0.Value) Try.underlying9 rfl rfl (Ev.t 23 (.ptr 1001 1)) rfl) rfl rfl rfl ⟨rfl, trivial⟩ ⟨rfl, trivial⟩ ?_
        refine G.opG1 (op_lenS Try.underlying9 (Ev.t 24 (bS v_0.Value)) rfl) rfl rfl rfl ⟨rfl, trivial⟩ trivial ?_
        refine G.opG1 (op_leq (Ev.t 25 (bI .i64 (v_0.Value.size : Int))) (Ev.c _ rfl) rfl) rfl rfl rfl ⟨rfl, trivial⟩ trivial ?_
        refine G.op1 (op_pickT (Ev.t 22 (bB true)) (Ev.t 26 (bB (decide ((v_0.Value.size : Int) ≤ 32)))) rfl) rfl ⟨rfl, rfl, trivial⟩ trivial ?_
        exact G.arr (J9 (decide ((v_0.Value.size : Int) ≤ 32)) hF) ⟨rfl, rfl, trivial⟩ ⟨rfl, trivial⟩ rfl
      · refine G.known (t := 22) hc10 rfl ?_
        refine G.opN1 rfl rfl rfl rfl rfl ?_
        refine G.opN1 rfl rfl rfl rfl rfl ?_
        refine G.opN1 rfl rfl rfl rfl rfl ?_
        refine G.opN1 rfl rfl rfl rfl rfl ?_
        refine G.op1 (op_pickF (Ev.t 22 (bB false)) (Ev.c _ rfl) rfl) rfl ⟨rfl, trivial⟩ trivial ?_
        exact G.arr (J9 false hF) ⟨rfl, rfl, trivial⟩ ⟨rfl, trivial⟩ rfl
    refine ifS hF (fun hc12 hF => ?_) (fun hc12 hF => ?_)
    · refine G.known (t := 19) hc12 rfl ?_
      refine G.opG1 (op_move (Ev.t 5 (bB r3)) rfl) rfl rfl rfl ⟨rfl, trivial⟩ trivial ?_
      refine G.op1 (op_pickT (Ev.t 19 (bB true)) (Ev.t 20 (bB r3)) rfl) rfl ⟨rfl, rfl, trivial⟩ trivial ?_
      exact G.arr (J11 r3 hF) ⟨rfl, rfl, trivial⟩ ⟨rfl, trivial⟩ rfl
    · refine G.known (t := 19) hc12 rfl ?_
      refine G.opN1 rfl rfl rfl rfl rfl ?_
      refine G.op1 (op_pickF (Ev.t 19 (bB false)) (Ev.c _ rfl) rfl) rfl ⟨rfl, trivial⟩ trivial ?_
      exact G.arr (J11 false hF) ⟨rfl, rfl, trivial⟩ ⟨rfl, trivial⟩ rfl
  refine ifS hF (fun hc14 hF => ?_) (fun hc14 hF => ?_)
  · refine G.known (t := 16) hc14 rfl ?_
    refine G.opG1 (op_move (Ev.t 4 (bB r2)) rfl) rfl rfl rfl ⟨rfl, trivial⟩ trivial ?_
    refine G.op1 (op_pickT (Ev.t 16 (bB true)) (Ev.t 17 (bB r2)) rfl) rfl ⟨rfl, rfl, trivial⟩ trivial ?_
    exact G.arr (J13 r2 hF) ⟨rfl, rfl, rfl, trivial⟩ ⟨rfl, trivial⟩ rfl
  · refine G.known (t := 16) hc14 rfl ?_
    refine G.opN1 rfl rfl rfl rfl rfl ?_
    refine G.op1 (op_pickF (Ev.t 16 (bB false)) (Ev.c _ rfl) rfl) rfl ⟨rfl, trivial⟩ trivial ?_
    exact G.arr (J13 false hF) ⟨rfl, rfl, rfl, trivial⟩ ⟨rfl, trivial⟩ rfl


set_option maxRecDepth 20000 in
set_option maxHeartbeats 2000000 in
theorem ct_ref03_Less (a_0 : Api_Stamp) (b_1 : Api_Stamp) (r : Bool) (hF : ref03_Less a_0 b_1 = some r) : Ct Try.prog 16 [.g (.agg (encApi_Stamp a_0)), .g (.agg (encApi_Stamp b_1))] (.one (.d (.v (.bool r)))) := by
  unfold ref03_Less at hF
  refine Ct.intro Try.func16 rfl Try.ntmps16 rfl rfl fun M w => ?_
  refine G.seq ?_
  refine G.region ?_
  refine G.op2 (op_boxA (k := 1002) (Ev.t 0 (.g (.agg [.v (.int .i64 a_0.N), .v (.int .i64 a_0.Site)]))) rfl) rfl ⟨rfl, trivial⟩ ⟨rfl, trivial⟩ ?_
  refine G.op2 (op_boxA (k := 1003) (Ev.t 1 (.g (.agg [.v (.int .i64 b_1.N), .v (.int .i64 b_1.Site)]))) rfl) rfl ⟨rfl, trivial⟩ ⟨rfl, trivial⟩ ?_
  refine G.op1 (op_assign (Ev.c _ rfl) rfl) rfl trivial trivial ?_
  refine G.endOps ?_
  refine G.seq ?_
  refine G.seq ?_
  refine G.region ?_
  refine G.op1 (op_fieldP (off' := 0) Try.underlying25 rfl ti3 (by decide) rfl (Ev.t 2 (.ptr 1002 0)) rfl) rfl ⟨rfl, trivial⟩ trivial ?_
  refine G.op1 (op_load1P (c := bI .i64 a_0.N) Try.underlying3 rfl rfl (Ev.t 5 (.ptr 1002 0)) rfl) rfl ⟨rfl, trivial⟩ ⟨rfl, trivial⟩ ?_
  refine G.op1 (op_fieldP (off' := 0) Try.underlying25 rfl ti3 (by decide) rfl (Ev.t 3 (.ptr 1003 0)) rfl) rfl ⟨rfl, trivial⟩ trivial ?_
  refine G.op1 (op_load1P (c := bI .i64 b_1.N) Try.underlying3 rfl rfl (Ev.t 7 (.ptr 1003 0)) rfl) rfl ⟨rfl, trivial⟩ ⟨rfl, trivial⟩ ?_
  refine G.op1 (op_neI (Ev.t 6 (bI .i64 a_0.N)) (Ev.t 8 (bI .i64 b_1.N)) rfl) rfl ⟨rfl, rfl, trivial⟩ trivial ?_
  refine G.endOps ?_
  refine ifS hF (fun hc1 hF => ?_) (fun hc1 hF => ?_)
  · refine G.cond rfl (fun _ => ?_) (fun hx => by rw [hc1] at hx; cases hx)
    refine G.seq ?_
    refine G.region ?_
    refine G.op1 (op_fieldP (off' := 0) Try.underlying25 rfl ti3 (by decide) rfl (Ev.t 2 (.ptr 1002 0)) rfl) rfl ⟨rfl, trivial⟩ trivial ?_
    refine G.op1 (op_load1P (c := bI .i64 a_0.N) Try.underlying3 rfl rfl (Ev.t 10 (.ptr 1002 0)) rfl) rfl ⟨rfl, trivial⟩ ⟨rfl, trivial⟩ ?_
    refine G.op1 (op_fieldP (off' := 0) Try.underlying25 rfl ti3 (by decide) rfl (Ev.t 3 (.ptr 1003 0)) rfl) rfl ⟨rfl, trivial⟩ trivial ?_
    refine G.op1 (op_load1P (c := bI .i64 b_1.N) Try.underlying3 rfl rfl (Ev.t 12 (.ptr 1003 0)) rfl) rfl ⟨rfl, trivial⟩ ⟨rfl, trivial⟩ ?_
    refine G.op1 (op_lss (Ev.t 11 (bI .i64 a_0.N)) (Ev.t 13 (bI .i64 b_1.N)) rfl) rfl ⟨rfl, rfl, trivial⟩ trivial ?_
    refine G.op1 (op_assign (Ev.t 14 (bB (decide (a_0.N < b_1.N)))) rfl) rfl ⟨rfl, trivial⟩ trivial ?_
    refine G.endOps ?_
    cases hF
    exact G.ret1 Try.results16 (RVar.tmp 4 _) ⟨rfl, trivial⟩ trivial
  · refine G.cond rfl (fun hx => by rw [hc1] at hx; cases hx) (fun _ => ?_)
    refine G.skip ?_
    refine G.seq ?_
    refine G.region ?_
    refine G.op1 (op_fieldP (off' := 1) Try.underlying25 rfl ti3 (by decide) rfl (Ev.t 2 (.ptr 1002 0)) rfl) rfl ⟨rfl, trivial⟩ trivial ?_
    refine G.op1 (op_load1P (c := bI .i64 a_0.Site) Try.underlying3 rfl rfl (Ev.t 15 (.ptr 1002 1)) rfl) rfl ⟨rfl, trivial⟩ ⟨rfl, trivial⟩ ?_
    refine G.op1 (op_fieldP (off' := 1) Try.underlying25 rfl ti3 (by decide) rfl (Ev.t 3 (.ptr 1003 0)) rfl) rfl ⟨rfl, trivial⟩ trivial ?_
    refine G.op1 (op_load1P (c := bI .i64 b_1.Site) Try.underlying3 rfl rfl (Ev.t 17 (.ptr 1003 1)) rfl) rfl ⟨rfl, trivial⟩ ⟨rfl, trivial⟩ ?_
    refine G.op1 (op_lss (Ev.t 16 (bI .i64 a_0.Site)) (Ev.t 18 (bI .i64 b_1.Site)) rfl) rfl ⟨rfl, rfl, trivial⟩ trivial ?_
    refine G.op1 (op_assign (Ev.t 19 (bB (decide (a_0.Site < b_1.Site)))) rfl) rfl ⟨rfl, trivial⟩ trivial ?_
    refine G.endOps ?_
    cases hF
    exact G.ret1 Try.results16 (RVar.tmp 4 _) ⟨rfl, trivial⟩ trivial


set_option maxRecDepth 20000 in
set_option maxHeartbeats 2000000 in
theorem ct_ref12_Put (l_0 : (List Api_Version)) (v_1 : Api_Version) (r : ((List Api_Version) × Bool)) (hF : ref12_Put l_0 v_1 = some r) : Ct Try.prog 25 [.g (.d (.sl 6 (List.map encApi_Version l_0))), .g (.agg (encApi_Version v_1))] (.tup [.d (.sl 6 (List.map encApi_Version r.1)), .d (.v (.bool r.2))]) := by
  unfold ref12_Put at hF
  refine Ct.intro Try.func25 rfl Try.ntmps25 rfl rfl fun M w => ?_
  refine G.seq ?_
  refine G.region ?_
  refine G.op2 (op_boxA (k := 1003) (Ev.t 1 (.g (.agg [.v (.string v_1.Key), .v (.string v_1.Value), .v (.bool v_1.Gone), .v (.int .i64 v_1.Stamp.N), .v (.int .i64 v_1.Stamp.Site), .sl 3 (List.map encApi_Dep v_1.Past)]))) rfl) rfl ⟨rfl, trivial⟩ ⟨rfl, trivial⟩ ?_
  refine G.op1 (op_assign (Ev.n 6) rfl) rfl trivial trivial ?_
  refine G.op1 (op_assign (Ev.c _ rfl) rfl) rfl trivial trivial ?_
  refine G.endOps ?_
  refine G.seq ?_
  refine G.region ?_
  refine G.op1 (op_loadAP (ds := [.v (.string v_1.Key), .v (.string v_1.Value), .v (.bool v_1.Gone), .v (.int .i64 v_1.Stamp.N), .v (.int .i64 v_1.Stamp.Site), .sl 3 (List.map encApi_Dep v_1.Past)]) Try.underlying28 rfl ti28 rfl (Ev.t 3 (.ptr 1003 0)) rfl) rfl ⟨rfl, trivial⟩ ⟨rfl, trivial⟩ ?_
  obtain ⟨r1, hr1, hF⟩ := bindS hF
  refine G.op1 (op_callQ (sv := .one (bB r1)) cf24 (ct_ref06_Check v_1 r1 hr1) rfl rfl (EvQL.cons (EvQ.g (Ev.t 10 (.g (.agg [.v (.string v_1.Key), .v (.string v_1.Value), .v (.bool v_1.Gone), .v (.int .i64 v_1.Stamp.N), .v (.int .i64 v_1.Stamp.Site), .sl 3 (List.map encApi_Dep v_1.Past)])))) EvQL.nil) rfl) rfl ⟨rfl, trivial⟩ trivial ?_
  refine G.op1 (op_assign (Ev.t 11 (bB r1)) rfl) rfl ⟨rfl, trivial⟩ trivial ?_
  refine G.endOps ?_
  refine G.seq ?_
  refine G.seq ?_
  refine G.joinC (T := Bool) (fun y2 => ⟨[(0, .one (.g (.d (.sl 6 (List.map encApi_Version l_0))))), (3, .one (.ptr 1003 0)), (27, .one (bB y2))], [(1003, some (.blk 28 [bS v_1.Key, bS v_1.Value, bB v_1.Gone, bI .i64 v_1.Stamp.N, bI .i64 v_1.Stamp.Site, .g (.d (.sl 3 (List.map encApi_Dep v_1.Past)))]))]⟩) (fun y2 => ref12_Put_k1 l_0 v_1 y2 = some r) (fun y2 hF => ?_) (fun J26 => ?_)
  · unfold ref12_Put_k1 at hF
    refine ifS hF (fun hc3 hF => ?_) (fun hc3 hF => ?_)
    · refine G.cond rfl (fun _ => ?_) (fun hx => by rw [hc3] at hx; cases hx)
      refine G.seq ?_
      refine G.region ?_
      refine G.op1 (op_move (Ev.t 0 (.g (.d (.sl 6 (List.map encApi_Version l_0))))) rfl) rfl ⟨rfl, trivial⟩ trivial ?_
      refine G.op1 (op_assign (Ev.t 28 (.g (.d (.sl 6 (List.map encApi_Version l_0))))) rfl) rfl ⟨rfl, trivial⟩ trivial ?_
      refine G.op1 (op_assign (Ev.c _ rfl) rfl) rfl trivial trivial ?_
      refine G.endOps ?_
      cases hF
      exact G.ret2 Try.results25 (RVar.tmp 4 _) (RVar.tmp 5 _) ⟨rfl, rfl, trivial⟩ trivial
    · refine G.cond rfl (fun hx => by rw [hc3] at hx; cases hx) (fun _ => ?_)
      refine G.skip ?_
      refine G.seq ?_
      refine G.region ?_
      refine G.op2 (op_assignRow (E := 28) (size := 6) (k := 2007) (ex := false) rfl rfl) rfl trivial ⟨rfl, trivial⟩ ?_
      refine G.endOps ?_
      refine G.seq ?_
      refine G.region ?_
      refine G.op1 (op_assign (Ev.c _ rfl) rfl) rfl trivial trivial ?_
      refine G.endOps ?_
      refine G.seq ?_
      refine G.seq ?_
      refine G.region ?_
      refine G.op1 (op_assign (Ev.c _ rfl) rfl) rfl trivial trivial ?_
      refine G.endOps ?_
      refine G.joinC (T := Bool × (List Api_Version)) (fun y4 => ⟨[(3, .one (.ptr 1003 0)), (7, .one (.own 2007 (List.map encApi_Version y4.2))), (8, .one (bB y4.1))], [(1003, some (.blk 28 [bS v_1.Key, bS v_1.Value, bB v_1.Gone, bI .i64 v_1.Stamp.N, bI .i64 v_1.Stamp.Site, .g (.d (.sl 3 (List.map encApi_Dep v_1.Past)))])), (2007, some (.row 28 6 (List.map encApi_Version y4.2) false))]⟩) (fun y4 => ref12_Put_k2 v_1 y4 = some r) (fun y4 hF => ?_) (fun J7 => ?_)
      · unfold ref12_Put_k2 at hF
        refine G.seq ?_
        refine G.seq ?_
        refine G.region ?_
        refine G.op1 (op_move (Ev.t 8 (bB y4.1)) rfl) rfl ⟨rfl, trivial⟩ trivial ?_
        refine G.op1 (op_not (Ev.t 67 (bB y4.1)) rfl) rfl ⟨rfl, trivial⟩ trivial ?_
        refine G.endOps ?_
        refine ifS hF (fun hc5 hF => ?_) (fun hc5 hF => ?_)
        · refine G.cond rfl (fun _ => ?_) (fun hx => by rw [hc5] at hx; cases hx)
          refine G.region ?_
          refine G.op1 (op_move (Ev.t 7 (.own 2007 (List.map encApi_Version y4.2))) rfl) rfl ⟨rfl, trivial⟩ trivial ?_
          refine G.op1 (op_loadAP (ds := [.v (.string v_1.Key), .v (.string v_1.Value), .v (.bool v_1.Gone), .v (.int .i64 v_1.Stamp.N), .v (.int .i64 v_1.Stamp.Site), .sl 3 (List.map encApi_Dep v_1.Past)]) Try.underlying28 rfl ti28 rfl (Ev.t 3 (.ptr 1003 0)) rfl) rfl ⟨rfl, trivial⟩ ⟨rfl, trivial⟩ ?_
          refine G.op1 (op_buildSlice (es := List.map encApi_Version [v_1]) Try.underlying22 ti28 rfl rfl (EvP.cons (Ev.t 70 (.g (.agg [.v (.string v_1.Key), .v (.string v_1.Value), .v (.bool v_1.Gone), .v (.int .i64 v_1.Stamp.N), .v (.int .i64 v_1.Stamp.Site), .sl 3 (List.map encApi_Dep v_1.Past)]))) EvP.nil) rfl rfl (by simp [encApi_Version]) rfl) rfl ⟨rfl, trivial⟩ trivial ?_
          obtain ⟨l6, hl6, hF⟩ := bindS hF
          refine G.op2 (op_appendO Try.underlying22 ti28 rfl (app_map hl6 encApi_Version) (app_b1 hl6 encApi_Version) (app_b2 hl6 encApi_Version) (Ev.t 69 (.own 2007 (List.map encApi_Version y4.2))) (Ev.t 71 (.g (.d (.sl 6 (List.map encApi_Version ([v_1])))))) rfl) rfl ⟨rfl, rfl, trivial⟩ ⟨rfl, trivial⟩ ?_
          refine G.op1 (op_assign (Ev.t 72 (.own 2007 (List.map encApi_Version l6))) rfl) rfl ⟨rfl, trivial⟩ trivial ?_
          refine G.endOps ?_
          refine G.seq ?_
          refine G.region ?_
          refine G.op1 (op_move (Ev.t 7 (.own 2007 (List.map encApi_Version l6))) rfl) rfl ⟨rfl, trivial⟩ trivial ?_
          refine G.op1 (op_assign (Ev.t 73 (.own 2007 (List.map encApi_Version l6))) rfl) rfl ⟨rfl, trivial⟩ trivial ?_
          refine G.op1 (op_assign (Ev.c _ rfl) rfl) rfl trivial trivial ?_
          refine G.endOps ?_
          refine G.view (t := 4) rfl rfl ?_
          cases hF
          exact G.ret2 Try.results25 (RVar.tmp 4 _) (RVar.tmp 5 _) ⟨rfl, rfl, trivial⟩ trivial
        · refine G.cond rfl (fun hx => by rw [hc5] at hx; cases hx) (fun _ => ?_)
          refine G.skip ?_
          refine G.seq ?_
          refine G.region ?_
          refine G.op1 (op_move (Ev.t 7 (.own 2007 (List.map encApi_Version y4.2))) rfl) rfl ⟨rfl, trivial⟩ trivial ?_
          refine G.op1 (op_assign (Ev.t 73 (.own 2007 (List.map encApi_Version y4.2))) rfl) rfl ⟨rfl, trivial⟩ trivial ?_
          refine G.op1 (op_assign (Ev.c _ rfl) rfl) rfl trivial trivial ?_
          refine G.endOps ?_
          refine G.view (t := 4) rfl rfl ?_
          cases hF
          exact G.ret2 Try.results25 (RVar.tmp 4 _) (RVar.tmp 5 _) ⟨rfl, rfl, trivial⟩ trivial
      refine G.block ?_
      refine G.keep (sl' := [(0, .one (.g (.d (.sl 6 (List.map encApi_Version l_0))))), (3, .one (.ptr 1003 0)), (7, .one (.own 2007 (List.map encApi_Version ([] : (List Api_Version))))), (8, .one (bB false)), (9, .one (bI .i64 0))]) (hp' := [(1003, some (.blk 28 [bS v_1.Key, bS v_1.Value, bB v_1.Gone, bI .i64 v_1.Stamp.N, bI .i64 v_1.Stamp.Site, .g (.d (.sl 3 (List.map encApi_Dep v_1.Past)))])), (2007, some (.row 28 6 (List.map encApi_Version ([] : (List Api_Version))) false))]) ⟨rfl, rfl, rfl, rfl, rfl, trivial⟩ ⟨rfl, rfl, trivial⟩ rfl ?_
      refine G.loopF (fun (v8 : Bool × Int × (List Api_Version)) => ⟨[(0, .one (.g (.d (.sl 6 (List.map encApi_Version l_0))))), (3, .one (.ptr 1003 0)), (7, .one (.own 2007 (List.map encApi_Version v8.2.2))), (8, .one (bB v8.1)), (9, .one (bI .i64 v8.2.1))], [(1003, some (.blk 28 [bS v_1.Key, bS v_1.Value, bB v_1.Gone, bI .i64 v_1.Stamp.N, bI .i64 v_1.Stamp.Site, .g (.d (.sl 3 (List.map encApi_Dep v_1.Past)))])), (2007, some (.row 28 6 (List.map encApi_Version v8.2.2) false))]⟩) hF rfl (fun K11 again10 v8 J9 hF => ?_)
      unfold ref12_Put_l3 at hF
      refine G.seq ?_
      refine G.seq ?_
      refine G.region ?_
      refine G.op1 (op_move (Ev.t 9 (bI .i64 v8.2.1)) rfl) rfl ⟨rfl, trivial⟩ trivial ?_
      refine G.op1 (op_move (Ev.t 0 (.g (.d (.sl 6 (List.map encApi_Version l_0))))) rfl) rfl ⟨rfl, trivial⟩ trivial ?_
      refine G.op1 (OpL.cast (op_lenD Try.underlying22 (Ev.t 30 (.g (.d (.sl 6 (List.map encApi_Version l_0))))) rfl) (by rw [List.length_map])) rfl ⟨rfl, trivial⟩ trivial ?_
      refine G.op1 (op_lss (Ev.t 29 (bI .i64 v8.2.1)) (Ev.t 31 (bI .i64 (l_0.length : Int))) rfl) rfl ⟨rfl, rfl, trivial⟩ trivial ?_
      refine G.endOps ?_
      refine ifS hF (fun hc12 hF => ?_) (fun hc12 hF => ?_)
      · refine G.cond rfl (fun _ => ?_) (fun hx => by rw [hc12] at hx; cases hx)
        refine G.skip ?_
        refine G.seq ?_
        refine G.block ?_
        refine G.seq ?_
        refine G.seq ?_
        obtain ⟨x13, hx13, hF⟩ := bindS hF
        refine G.drawn (effs := [⟨[(0, .one (.g (.d (.sl 6 (List.map encApi_Version l_0)))))], [], [(35, .one (.g (.d (.sl 6 (List.map encApi_Version l_0)))))], []⟩, ⟨[(9, .one (bI .i64 v8.2.1))], [], [(36, .one (bI .i64 v8.2.1))], []⟩, ⟨[(35, .one (.g (.d (.sl 6 (List.map encApi_Version l_0))))), (36, .one (bI .i64 v8.2.1))], [], [(37, .one (.ep [.v (.string x13.Key), .v (.string x13.Value), .v (.bool x13.Gone), .v (.int .i64 x13.Stamp.N), .v (.int .i64 x13.Stamp.Site), .sl 3 (List.map encApi_Dep x13.Past)]))], []⟩, ⟨[(37, .one (.ep [.v (.string x13.Key), .v (.string x13.Value), .v (.bool x13.Gone), .v (.int .i64 x13.Stamp.N), .v (.int .i64 x13.Stamp.Site), .sl 3 (List.map encApi_Dep x13.Past)]))], [], [(38, .one (.ep [.v (.int .i64 x13.Stamp.N), .v (.int .i64 x13.Stamp.Site), .sl 3 (List.map encApi_Dep x13.Past)]))], []⟩, ⟨[(38, .one (.ep [.v (.int .i64 x13.Stamp.N), .v (.int .i64 x13.Stamp.Site), .sl 3 (List.map encApi_Dep x13.Past)]))], [], [(39, .one (.g (.agg [.v (.int .i64 x13.Stamp.N), .v (.int .i64 x13.Stamp.Site)])))], []⟩, ⟨[(3, .one (.ptr 1003 0))], [], [(40, .one (.ptr 1003 3))], []⟩, ⟨[(40, .one (.ptr 1003 3))], [(1003, some (.blk 28 [bS v_1.Key, bS v_1.Value, bB v_1.Gone, bI .i64 v_1.Stamp.N, bI .i64 v_1.Stamp.Site, .g (.d (.sl 3 (List.map encApi_Dep v_1.Past)))]))], [(41, .one (.g (.agg [.v (.int .i64 v_1.Stamp.N), .v (.int .i64 v_1.Stamp.Site)])))], []⟩, ⟨[(39, .one (.g (.agg [.v (.int .i64 x13.Stamp.N), .v (.int .i64 x13.Stamp.Site)]))), (41, .one (.g (.agg [.v (.int .i64 v_1.Stamp.N), .v (.int .i64 v_1.Stamp.Site)])))], [], [(42, .one (bB (decide (x13.Stamp.N = v_1.Stamp.N) && decide (x13.Stamp.Site = v_1.Stamp.Site))))], []⟩]) (deps := [[], [], [0, 1], [0, 1, 2], [0, 1, 2, 3], [], [5], [0, 1, 2, 3, 4, 5, 6]]) (sl' := [(0, .one (.g (.d (.sl 6 (List.map encApi_Version l_0))))), (3, .one (.ptr 1003 0)), (7, .one (.own 2007 (List.map encApi_Version v8.2.2))), (8, .one (bB v8.1)), (9, .one (bI .i64 v8.2.1)), (42, .one (bB (decide (x13.Stamp.N = v_1.Stamp.N) && decide (x13.Stamp.Site = v_1.Stamp.Site))))]) (hp' := [(1003, some (.blk 28 [bS v_1.Key, bS v_1.Value, bB v_1.Gone, bI .i64 v_1.Stamp.N, bI .i64 v_1.Stamp.Site, .g (.d (.sl 3 (List.map encApi_Dep v_1.Past)))])), (2007, some (.row 28 6 (List.map encApi_Version v8.2.2) false))]) follows rfl rfl rfl ⟨⟨rfl, trivial⟩, trivial, ⟨rfl, trivial⟩, trivial, ⟨rfl, rfl, trivial⟩, trivial, ⟨rfl, trivial⟩, trivial, ⟨rfl, trivial⟩, trivial, ⟨rfl, trivial⟩, trivial, ⟨rfl, trivial⟩, ⟨⟨rfl, rfl⟩, trivial⟩, ⟨rfl, rfl, trivial⟩, trivial, trivial⟩ ⟨OpW.plain (op_move (Ev.t 0 (.g (.d (.sl 6 (List.map encApi_Version l_0))))) rfl) rfl rfl, OpW.plain (op_move (Ev.t 9 (bI .i64 v8.2.1)) rfl) rfl rfl, OpW.plain (op_index (cs := [.v (.string x13.Key), .v (.string x13.Value), .v (.bool x13.Gone), .v (.int .i64 x13.Stamp.N), .v (.int .i64 x13.Stamp.Site), .sl 3 (List.map encApi_Dep x13.Past)]) Try.underlying22 ti28 (idx_ok hx13).1 (idx_get hx13 encApi_Version) (Ev.t 35 (.g (.d (.sl 6 (List.map encApi_Version l_0))))) (Ev.t 36 (bI .i64 v8.2.1)) rfl) rfl rfl, OpW.plain (op_fieldE (cs' := [.v (.int .i64 x13.Stamp.N), .v (.int .i64 x13.Stamp.Site), .sl 3 (List.map encApi_Dep x13.Past)]) Try.underlying28 rfl ti25 (by decide) rfl (Ev.t 37 (.ep [.v (.string x13.Key), .v (.string x13.Value), .v (.bool x13.Gone), .v (.int .i64 x13.Stamp.N), .v (.int .i64 x13.Stamp.Site), .sl 3 (List.map encApi_Dep x13.Past)])) rfl) rfl rfl, OpW.plain (op_loadAE (ds := [.v (.int .i64 x13.Stamp.N), .v (.int .i64 x13.Stamp.Site)]) Try.underlying25 rfl ti25 rfl (Ev.t 38 (.ep [.v (.int .i64 x13.Stamp.N), .v (.int .i64 x13.Stamp.Site), .sl 3 (List.map encApi_Dep x13.Past)])) rfl) rfl rfl, OpW.plain (op_fieldP (off' := 3) Try.underlying28 rfl ti25 (by decide) rfl (Ev.t 3 (.ptr 1003 0)) rfl) rfl rfl, OpW.plain (op_loadAP (ds := [.v (.int .i64 v_1.Stamp.N), .v (.int .i64 v_1.Stamp.Site)]) Try.underlying25 rfl ti25 rfl (Ev.t 40 (.ptr 1003 3)) rfl) rfl rfl, OpW.plain (op_eqA (us := [.int .i64 x13.Stamp.N, .int .i64 x13.Stamp.Site]) (vs := [.int .i64 v_1.Stamp.N, .int .i64 v_1.Stamp.Site]) rfl rfl Try.eqGuardType25 (fun w => eq25 x13.Stamp.N x13.Stamp.Site v_1.Stamp.N v_1.Stamp.Site w) (Ev.t 39 (.g (.agg [.v (.int .i64 x13.Stamp.N), .v (.int .i64 x13.Stamp.Site)]))) (Ev.t 41 (.g (.agg [.v (.int .i64 v_1.Stamp.N), .v (.int .i64 v_1.Stamp.Site)]))) rfl) rfl rfl, trivial⟩ ⟨rfl, rfl, rfl, rfl, rfl, rfl, trivial⟩ ⟨rfl, rfl, trivial⟩ rfl ?_
        refine ifS hF (fun hc14 hF => ?_) (fun hc14 hF => ?_)
        · refine G.cond rfl (fun _ => ?_) (fun hx => by rw [hc14] at hx; cases hx)
          refine G.seq ?_
          refine G.region ?_
          refine G.op1 (op_move (Ev.t 0 (.g (.d (.sl 6 (List.map encApi_Version l_0))))) rfl) rfl ⟨rfl, trivial⟩ trivial ?_
          refine G.op1 (op_assign (Ev.t 43 (.g (.d (.sl 6 (List.map encApi_Version l_0))))) rfl) rfl ⟨rfl, trivial⟩ trivial ?_
          refine G.op1 (op_assign (Ev.c _ rfl) rfl) rfl trivial trivial ?_
          refine G.endOps ?_
          cases hF
          exact G.ret2 Try.results25 (RVar.tmp 4 _) (RVar.tmp 5 _) ⟨rfl, rfl, trivial⟩ trivial
        · refine G.cond rfl (fun hx => by rw [hc14] at hx; cases hx) (fun _ => ?_)
          refine G.skip ?_
          refine G.seq ?_
          refine G.seq ?_
          refine G.joinC (T := Bool) (fun y15 => ⟨[(0, .one (.g (.d (.sl 6 (List.map encApi_Version l_0))))), (3, .one (.ptr 1003 0)), (7, .one (.own 2007 (List.map encApi_Version v8.2.2))), (8, .one (bB v8.1)), (9, .one (bI .i64 v8.2.1)), (55, .one (bB y15))], [(1003, some (.blk 28 [bS v_1.Key, bS v_1.Value, bB v_1.Gone, bI .i64 v_1.Stamp.N, bI .i64 v_1.Stamp.Site, .g (.d (.sl 3 (List.map encApi_Dep v_1.Past)))])), (2007, some (.row 28 6 (List.map encApi_Version v8.2.2) false))]⟩) (fun y15 => ref12_Put_k4 l_0 v_1 again10 v8 y15 = some r) (fun y15 hF => ?_) (fun J22 => ?_)
          · unfold ref12_Put_k4 at hF
            refine G.joinC (T := Bool × (List Api_Version)) (fun y16 => ⟨[(0, .one (.g (.d (.sl 6 (List.map encApi_Version l_0))))), (3, .one (.ptr 1003 0)), (7, .one (.own 2007 (List.map encApi_Version y16.2))), (8, .one (bB y16.1)), (9, .one (bI .i64 v8.2.1))], [(1003, some (.blk 28 [bS v_1.Key, bS v_1.Value, bB v_1.Gone, bI .i64 v_1.Stamp.N, bI .i64 v_1.Stamp.Site, .g (.d (.sl 3 (List.map encApi_Dep v_1.Past)))])), (2007, some (.row 28 6 (List.map encApi_Version y16.2) false))]⟩) (fun y16 => ref12_Put_k5 l_0 again10 v8 y16 = some r) (fun y16 hF => ?_) (fun J19 => ?_)
            · unfold ref12_Put_k5 at hF
              refine G.region ?_
              refine G.op1 (op_move (Ev.t 7 (.own 2007 (List.map encApi_Version y16.2))) rfl) rfl ⟨rfl, trivial⟩ trivial ?_
              refine G.op1 (op_move (Ev.t 0 (.g (.d (.sl 6 (List.map encApi_Version l_0))))) rfl) rfl ⟨rfl, trivial⟩ trivial ?_
              refine G.op1 (op_move (Ev.t 9 (bI .i64 v8.2.1)) rfl) rfl ⟨rfl, trivial⟩ trivial ?_
              obtain ⟨x17, hx17, hF⟩ := bindS hF
              refine G.op1 (op_index (cs := [.v (.string x17.Key), .v (.string x17.Value), .v (.bool x17.Gone), .v (.int .i64 x17.Stamp.N), .v (.int .i64 x17.Stamp.Site), .sl 3 (List.map encApi_Dep x17.Past)]) Try.underlying22 ti28 (idx_ok hx17).1 (idx_get hx17 encApi_Version) (Ev.t 61 (.g (.d (.sl 6 (List.map encApi_Version l_0))))) (Ev.t 62 (bI .i64 v8.2.1)) rfl) rfl ⟨rfl, rfl, trivial⟩ trivial ?_
              refine G.op1 (op_loadAE (ds := [.v (.string x17.Key), .v (.string x17.Value), .v (.bool x17.Gone), .v (.int .i64 x17.Stamp.N), .v (.int .i64 x17.Stamp.Site), .sl 3 (List.map encApi_Dep x17.Past)]) Try.underlying28 rfl ti28 rfl (Ev.t 63 (.ep [.v (.string x17.Key), .v (.string x17.Value), .v (.bool x17.Gone), .v (.int .i64 x17.Stamp.N), .v (.int .i64 x17.Stamp.Site), .sl 3 (List.map encApi_Dep x17.Past)])) rfl) rfl ⟨rfl, trivial⟩ trivial ?_
              refine G.op1 (op_buildSlice (es := List.map encApi_Version [x17]) Try.underlying22 ti28 rfl rfl (EvP.cons (Ev.t 64 (.g (.agg [.v (.string x17.Key), .v (.string x17.Value), .v (.bool x17.Gone), .v (.int .i64 x17.Stamp.N), .v (.int .i64 x17.Stamp.Site), .sl 3 (List.map encApi_Dep x17.Past)]))) EvP.nil) rfl rfl (by simp [encApi_Version]) rfl) rfl ⟨rfl, trivial⟩ trivial ?_
              obtain ⟨l18, hl18, hF⟩ := bindS hF
              refine G.op2 (op_appendO Try.underlying22 ti28 rfl (app_map hl18 encApi_Version) (app_b1 hl18 encApi_Version) (app_b2 hl18 encApi_Version) (Ev.t 60 (.own 2007 (List.map encApi_Version y16.2))) (Ev.t 65 (.g (.d (.sl 6 (List.map encApi_Version ([x17])))))) rfl) rfl ⟨rfl, rfl, trivial⟩ ⟨rfl, trivial⟩ ?_
              refine G.op1 (op_assign (Ev.t 66 (.own 2007 (List.map encApi_Version l18))) rfl) rfl ⟨rfl, trivial⟩ trivial ?_
              refine G.endOps ?_
              refine G.endBlock ?_
              refine G.region ?_
              refine G.op1 (op_move (Ev.t 9 (bI .i64 v8.2.1)) rfl) rfl ⟨rfl, trivial⟩ trivial ?_
              refine G.op1 (op_add (Ev.t 33 (bI .i64 v8.2.1)) (Ev.c _ rfl) rfl) rfl ⟨rfl, trivial⟩ trivial ?_
              refine G.op1 (op_assign (Ev.t 34 (bI .i64 (IntKind.wrap .i64 (v8.2.1 + 1)))) rfl) rfl ⟨rfl, trivial⟩ trivial ?_
              refine G.endOps ?_
              exact G.arr (J9 (y16.1, IntKind.wrap .i64 (v8.2.1 + 1), l18) hF) ⟨rfl, rfl, rfl, rfl, rfl, trivial⟩ ⟨rfl, rfl, trivial⟩ rfl
            refine ifS hF (fun hc20 hF => ?_) (fun hc20 hF => ?_)
            · refine G.cond rfl (fun _ => ?_) (fun hx => by rw [hc20] at hx; cases hx)
              refine G.seq ?_
              refine G.region ?_
              refine G.op1 (op_move (Ev.t 7 (.own 2007 (List.map encApi_Version v8.2.2))) rfl) rfl ⟨rfl, trivial⟩ trivial ?_
              refine G.op1 (op_loadAP (ds := [.v (.string v_1.Key), .v (.string v_1.Value), .v (.bool v_1.Gone), .v (.int .i64 v_1.Stamp.N), .v (.int .i64 v_1.Stamp.Site), .sl 3 (List.map encApi_Dep v_1.Past)]) Try.underlying28 rfl ti28 rfl (Ev.t 3 (.ptr 1003 0)) rfl) rfl ⟨rfl, trivial⟩ ⟨rfl, trivial⟩ ?_
              refine G.op1 (op_buildSlice (es := List.map encApi_Version [v_1]) Try.underlying22 ti28 rfl rfl (EvP.cons (Ev.t 57 (.g (.agg [.v (.string v_1.Key), .v (.string v_1.Value), .v (.bool v_1.Gone), .v (.int .i64 v_1.Stamp.N), .v (.int .i64 v_1.Stamp.Site), .sl 3 (List.map encApi_Dep v_1.Past)]))) EvP.nil) rfl rfl (by simp [encApi_Version]) rfl) rfl ⟨rfl, trivial⟩ trivial ?_
              obtain ⟨l21, hl21, hF⟩ := bindS hF
              refine G.op2 (op_appendO Try.underlying22 ti28 rfl (app_map hl21 encApi_Version) (app_b1 hl21 encApi_Version) (app_b2 hl21 encApi_Version) (Ev.t 56 (.own 2007 (List.map encApi_Version v8.2.2))) (Ev.t 58 (.g (.d (.sl 6 (List.map encApi_Version ([v_1])))))) rfl) rfl ⟨rfl, rfl, trivial⟩ ⟨rfl, trivial⟩ ?_
              refine G.op1 (op_assign (Ev.t 59 (.own 2007 (List.map encApi_Version l21))) rfl) rfl ⟨rfl, trivial⟩ trivial ?_
              refine G.endOps ?_
              refine G.region ?_
              refine G.op1 (op_assign (Ev.c _ rfl) rfl) rfl trivial trivial ?_
              refine G.endOps ?_
              exact G.arr (J19 (true, l21) hF) ⟨rfl, rfl, rfl, rfl, rfl, trivial⟩ ⟨rfl, rfl, trivial⟩ rfl
            · refine G.cond rfl (fun hx => by rw [hc20] at hx; cases hx) (fun _ => ?_)
              refine G.skip ?_
              exact G.arr (J19 (v8.1, v8.2.2) hF) ⟨rfl, rfl, rfl, rfl, rfl, trivial⟩ ⟨rfl, rfl, trivial⟩ rfl
          refine ifS hF (fun hc23 hF => ?_) (fun hc23 hF => ?_)
          · obtain ⟨x24, hx24, hF⟩ := bindS hF
            obtain ⟨r25, hr25, hF⟩ := bindS hF
            refine G.drawn (effs := [⟨[(8, .one (bB v8.1))], [], [(44, .one (bB v8.1))], []⟩, ⟨[(44, .one (bB v8.1))], [], [(45, .one (bB true))], []⟩, ⟨[(45, .one (bB true))], [], [(46, .one (bB true))], []⟩, ⟨[(46, .one (bB true)), (3, .one (.ptr 1003 0))], [], [(47, .one (.ptr 1003 3))], []⟩, ⟨[(46, .one (bB true)), (47, .one (.ptr 1003 3))], [(1003, some (.blk 28 [bS v_1.Key, bS v_1.Value, bB v_1.Gone, bI .i64 v_1.Stamp.N, bI .i64 v_1.Stamp.Site, .g (.d (.sl 3 (List.map encApi_Dep v_1.Past)))]))], [(48, .one (.g (.agg [.v (.int .i64 v_1.Stamp.N), .v (.int .i64 v_1.Stamp.Site)])))], []⟩, ⟨[(46, .one (bB true)), (0, .one (.g (.d (.sl 6 (List.map encApi_Version l_0)))))], [], [(49, .one (.g (.d (.sl 6 (List.map encApi_Version l_0)))))], []⟩, ⟨[(46, .one (bB true)), (9, .one (bI .i64 v8.2.1))], [], [(50, .one (bI .i64 v8.2.1))], []⟩, ⟨[(46, .one (bB true)), (49, .one (.g (.d (.sl 6 (List.map encApi_Version l_0))))), (50, .one (bI .i64 v8.2.1))], [], [(51, .one (.ep [.v (.string x24.Key), .v (.string x24.Value), .v (.bool x24.Gone), .v (.int .i64 x24.Stamp.N), .v (.int .i64 x24.Stamp.Site), .sl 3 (List.map encApi_Dep x24.Past)]))], []⟩, ⟨[(46, .one (bB true)), (51, .one (.ep [.v (.string x24.Key), .v (.string x24.Value), .v (.bool x24.Gone), .v (.int .i64 x24.Stamp.N), .v (.int .i64 x24.Stamp.Site), .sl 3 (List.map encApi_Dep x24.Past)]))], [], [(52, .one (.ep [.v (.int .i64 x24.Stamp.N), .v (.int .i64 x24.Stamp.Site), .sl 3 (List.map encApi_Dep x24.Past)]))], []⟩, ⟨[(46, .one (bB true)), (52, .one (.ep [.v (.int .i64 x24.Stamp.N), .v (.int .i64 x24.Stamp.Site), .sl 3 (List.map encApi_Dep x24.Past)]))], [], [(53, .one (.g (.agg [.v (.int .i64 x24.Stamp.N), .v (.int .i64 x24.Stamp.Site)])))], []⟩, ⟨[(46, .one (bB true)), (48, .one (.g (.agg [.v (.int .i64 v_1.Stamp.N), .v (.int .i64 v_1.Stamp.Site)]))), (53, .one (.g (.agg [.v (.int .i64 x24.Stamp.N), .v (.int .i64 x24.Stamp.Site)])))], [], [(54, .one (bB r25))], []⟩, ⟨[(46, .one (bB true)), (54, .one (bB r25))], [], [(55, .one (bB r25))], []⟩]) (deps := [[], [0], [0, 1], [0, 1, 2], [0, 1, 2, 3], [0, 1, 2], [0, 1, 2], [0, 1, 2, 5, 6], [0, 1, 2, 5, 6, 7], [0, 1, 2, 5, 6, 7, 8], [0, 1, 2, 3, 4, 5, 6, 7, 8, 9], [0, 1, 2, 3, 4, 5, 6, 7, 8, 9, 10]]) (sl' := [(0, .one (.g (.d (.sl 6 (List.map encApi_Version l_0))))), (3, .one (.ptr 1003 0)), (7, .one (.own 2007 (List.map encApi_Version v8.2.2))), (8, .one (bB v8.1)), (9, .one (bI .i64 v8.2.1)), (55, .one (bB r25))]) (hp' := [(1003, some (.blk 28 [bS v_1.Key, bS v_1.Value, bB v_1.Gone, bI .i64 v_1.Stamp.N, bI .i64 v_1.Stamp.Site, .g (.d (.sl 3 (List.map encApi_Dep v_1.Past)))])), (2007, some (.row 28 6 (List.map encApi_Version v8.2.2) false))]) follows rfl rfl rfl ⟨⟨rfl, trivial⟩, trivial, ⟨rfl, trivial⟩, trivial, ⟨rfl, trivial⟩, trivial, ⟨rfl, rfl, trivial⟩, trivial, ⟨rfl, rfl, trivial⟩, ⟨⟨rfl, rfl⟩, trivial⟩, ⟨rfl, rfl, trivial⟩, trivial, ⟨rfl, rfl, trivial⟩, trivial, ⟨rfl, rfl, rfl, trivial⟩, trivial, ⟨rfl, rfl, trivial⟩, trivial, ⟨rfl, rfl, trivial⟩, trivial, ⟨rfl, rfl, rfl, trivial⟩, trivial, ⟨rfl, rfl, trivial⟩, trivial, trivial⟩ ⟨OpW.plain (op_move (Ev.t 8 (bB v8.1)) rfl) rfl rfl, OpW.plain (OpL.cast (op_not (Ev.t 44 (bB v8.1)) rfl) (congrArg (fun b => bB b) hc23)) rfl rfl, OpW.plain (op_move (Ev.t 45 (bB true)) rfl) rfl rfl, OpW.yes (op_fieldP (off' := 3) Try.underlying28 rfl ti25 (by decide) rfl (Ev.t 3 (.ptr 1003 0)) rfl) rfl rfl rfl, OpW.yes (op_loadAP (ds := [.v (.int .i64 v_1.Stamp.N), .v (.int .i64 v_1.Stamp.Site)]) Try.underlying25 rfl ti25 rfl (Ev.t 47 (.ptr 1003 3)) rfl) rfl rfl rfl, OpW.yes (op_move (Ev.t 0 (.g (.d (.sl 6 (List.map encApi_Version l_0))))) rfl) rfl rfl rfl, OpW.yes (op_move (Ev.t 9 (bI .i64 v8.2.1)) rfl) rfl rfl rfl, OpW.yes (op_index (cs := [.v (.string x24.Key), .v (.string x24.Value), .v (.bool x24.Gone), .v (.int .i64 x24.Stamp.N), .v (.int .i64 x24.Stamp.Site), .sl 3 (List.map encApi_Dep x24.Past)]) Try.underlying22 ti28 (idx_ok hx24).1 (idx_get hx24 encApi_Version) (Ev.t 49 (.g (.d (.sl 6 (List.map encApi_Version l_0))))) (Ev.t 50 (bI .i64 v8.2.1)) rfl) rfl rfl rfl, OpW.yes (op_fieldE (cs' := [.v (.int .i64 x24.Stamp.N), .v (.int .i64 x24.Stamp.Site), .sl 3 (List.map encApi_Dep x24.Past)]) Try.underlying28 rfl ti25 (by decide) rfl (Ev.t 51 (.ep [.v (.string x24.Key), .v (.string x24.Value), .v (.bool x24.Gone), .v (.int .i64 x24.Stamp.N), .v (.int .i64 x24.Stamp.Site), .sl 3 (List.map encApi_Dep x24.Past)])) rfl) rfl rfl rfl, OpW.yes (op_loadAE (ds := [.v (.int .i64 x24.Stamp.N), .v (.int .i64 x24.Stamp.Site)]) Try.underlying25 rfl ti25 rfl (Ev.t 52 (.ep [.v (.int .i64 x24.Stamp.N), .v (.int .i64 x24.Stamp.Site), .sl 3 (List.map encApi_Dep x24.Past)])) rfl) rfl rfl rfl, OpW.yes (op_callQ (sv := .one (bB r25)) cf16 (ct_ref03_Less v_1.Stamp x24.Stamp r25 hr25) rfl rfl (EvQL.cons (EvQ.g (Ev.t 48 (.g (.agg [.v (.int .i64 v_1.Stamp.N), .v (.int .i64 v_1.Stamp.Site)])))) (EvQL.cons (EvQ.g (Ev.t 53 (.g (.agg [.v (.int .i64 x24.Stamp.N), .v (.int .i64 x24.Stamp.Site)])))) EvQL.nil)) rfl) rfl rfl rfl, OpW.plain (op_pickT (Ev.t 46 (bB true)) (Ev.t 54 (bB r25)) rfl) rfl rfl, trivial⟩ ⟨rfl, rfl, rfl, rfl, rfl, rfl, trivial⟩ ⟨rfl, rfl, trivial⟩ rfl ?_
            exact G.arr (J22 r25 hF) ⟨rfl, rfl, rfl, rfl, rfl, rfl, trivial⟩ ⟨rfl, rfl, trivial⟩ rfl
          · refine G.drawn (effs := [⟨[(8, .one (bB v8.1))], [], [(44, .one (bB v8.1))], []⟩, ⟨[(44, .one (bB v8.1))], [], [(45, .one (bB false))], []⟩, ⟨[(45, .one (bB false))], [], [(46, .one (bB false))], []⟩, ⟨[(46, .one (bB false))], [], [(47, .one (.x Go.undef))], []⟩, ⟨[(46, .one (bB false))], [], [(48, .one (.x Go.undef))], []⟩, ⟨[(46, .one (bB false))], [], [(49, .one (.x Go.undef))], []⟩, ⟨[(46, .one (bB false))], [], [(50, .one (.x Go.undef))], []⟩, ⟨[(46, .one (bB false))], [], [(51, .one (.x Go.undef))], []⟩, ⟨[(46, .one (bB false))], [], [(52, .one (.x Go.undef))], []⟩, ⟨[(46, .one (bB false))], [], [(53, .one (.x Go.undef))], []⟩, ⟨[(46, .one (bB false))], [], [(54, .one (.x Go.undef))], []⟩, ⟨[(46, .one (bB false))], [], [(55, .one (bB false))], []⟩]) (deps := [[], [0], [0, 1], [0, 1, 2], [0, 1, 2, 3], [0, 1, 2], [0, 1, 2], [0, 1, 2, 5, 6], [0, 1, 2, 5, 6, 7], [0, 1, 2, 5, 6, 7, 8], [0, 1, 2, 3, 4, 5, 6, 7, 8, 9], [0, 1, 2, 3, 4, 5, 6, 7, 8, 9, 10]]) (sl' := [(0, .one (.g (.d (.sl 6 (List.map encApi_Version l_0))))), (3, .one (.ptr 1003 0)), (7, .one (.own 2007 (List.map encApi_Version v8.2.2))), (8, .one (bB v8.1)), (9, .one (bI .i64 v8.2.1)), (55, .one (bB false))]) (hp' := [(1003, some (.blk 28 [bS v_1.Key, bS v_1.Value, bB v_1.Gone, bI .i64 v_1.Stamp.N, bI .i64 v_1.Stamp.Site, .g (.d (.sl 3 (List.map encApi_Dep v_1.Past)))])), (2007, some (.row 28 6 (List.map encApi_Version v8.2.2) false))]) follows rfl rfl rfl ⟨⟨rfl, trivial⟩, trivial, ⟨rfl, trivial⟩, trivial, ⟨rfl, trivial⟩, trivial, ⟨rfl, trivial⟩, trivial, ⟨rfl, trivial⟩, trivial, ⟨rfl, trivial⟩, trivial, ⟨rfl, trivial⟩, trivial, ⟨rfl, trivial⟩, trivial, ⟨rfl, trivial⟩, trivial, ⟨rfl, trivial⟩, trivial, ⟨rfl, trivial⟩, trivial, ⟨rfl, trivial⟩, trivial, trivial⟩ ⟨OpW.plain (op_move (Ev.t 8 (bB v8.1)) rfl) rfl rfl, OpW.plain (OpL.cast (op_not (Ev.t 44 (bB v8.1)) rfl) (congrArg (fun b => bB b) hc23)) rfl rfl, OpW.plain (op_move (Ev.t 45 (bB false)) rfl) rfl rfl, OpW.no rfl rfl rfl rfl rfl, OpW.no rfl rfl rfl rfl rfl, OpW.no rfl rfl rfl rfl rfl, OpW.no rfl rfl rfl rfl rfl, OpW.no rfl rfl rfl rfl rfl, OpW.no rfl rfl rfl rfl rfl, OpW.no rfl rfl rfl rfl rfl, OpW.no rfl rfl rfl rfl rfl, OpW.plain (op_pickF (Ev.t 46 (bB false)) (Ev.c _ rfl) rfl) rfl rfl, trivial⟩ ⟨rfl, rfl, rfl, rfl, rfl, rfl, trivial⟩ ⟨rfl, rfl, trivial⟩ rfl ?_
            exact G.arr (J22 false hF) ⟨rfl, rfl, rfl, rfl, rfl, rfl, trivial⟩ ⟨rfl, rfl, trivial⟩ rfl
      · refine G.cond rfl (fun hx => by rw [hc12] at hx; cases hx) (fun _ => ?_)
        refine G.exit ?_
        refine GX.c ?_
        refine GX.q ?_
        refine GX.bYes ?_
        exact G.arr (J7 (v8.1, v8.2.2) hF) ⟨rfl, rfl, rfl, trivial⟩ ⟨rfl, rfl, trivial⟩ rfl
  refine ifS hF (fun hc27 hF => ?_) (fun hc27 hF => ?_)
  · refine G.drawn (effs := [⟨[(6, .one (bB r1))], [], [(12, .one (bB r1))], []⟩, ⟨[(12, .one (bB r1))], [], [(13, .one (bB true))], []⟩, ⟨[(13, .one (bB true))], [], [(14, .one (bB true))], []⟩, ⟨[(14, .one (bB true))], [], [(15, .one (.x Go.undef))], []⟩, ⟨[(14, .one (bB true))], [], [(16, .one (.x Go.undef))], []⟩, ⟨[(14, .one (bB true))], [], [(17, .one (.x Go.undef))], []⟩, ⟨[(14, .one (bB true))], [], [(18, .one (.x Go.undef))], []⟩, ⟨[(18, .one (.x Go.undef))], [], [(19, .one (.x Go.undef))], []⟩, ⟨[(18, .one (.x Go.undef))], [], [(20, .one (.x Go.undef))], []⟩, ⟨[(18, .one (.x Go.undef))], [], [(21, .one (.x Go.undef))], []⟩, ⟨[(18, .one (.x Go.undef))], [], [(22, .one (.x Go.undef))], []⟩, ⟨[(18, .one (.x Go.undef))], [], [(23, .one (.x Go.undef))], []⟩, ⟨[(18, .one (.x Go.undef))], [], [(24, .one (.x Go.undef))], []⟩, ⟨[(18, .one (.x Go.undef))], [], [(25, .one (.x Go.undef))], []⟩, ⟨[(14, .one (bB true))], [], [(26, .one (.x Go.undef))], []⟩, ⟨[(14, .one (bB true))], [], [(27, .one (bB true))], []⟩]) (deps := [[], [0], [0, 1], [0, 1, 2], [0, 1, 2, 3], [0, 1, 2, 3, 4], [0, 1, 2, 3, 4, 5], [0, 1, 2, 3, 4, 5, 6], [0, 1, 2, 3, 4, 5, 6, 7], [0, 1, 2, 3, 4, 5, 6, 7, 8], [0, 1, 2, 3, 4, 5, 6, 7, 8, 9], [0, 1, 2, 3, 4, 5, 6], [0, 1, 2, 3, 4, 5, 6, 11], [0, 1, 2, 3, 4, 5, 6, 7, 8, 9, 10, 11, 12], [0, 1, 2, 3, 4, 5, 6, 7, 8, 9, 10, 11, 12, 13], [0, 1, 2, 3, 4, 5, 6, 7, 8, 9, 10, 11, 12, 13, 14]]) (sl' := [(0, .one (.g (.d (.sl 6 (List.map encApi_Version l_0))))), (3, .one (.ptr 1003 0)), (27, .one (bB true))]) (hp' := [(1003, some (.blk 28 [bS v_1.Key, bS v_1.Value, bB v_1.Gone, bI .i64 v_1.Stamp.N, bI .i64 v_1.Stamp.Site, .g (.d (.sl 3 (List.map encApi_Dep v_1.Past)))]))]) follows rfl rfl rfl ⟨⟨rfl, trivial⟩, trivial, ⟨rfl, trivial⟩, trivial, ⟨rfl, trivial⟩, trivial, ⟨rfl, trivial⟩, trivial, ⟨rfl, trivial⟩, trivial, ⟨rfl, trivial⟩, trivial, ⟨rfl, trivial⟩, trivial, ⟨rfl, trivial⟩, trivial, ⟨rfl, trivial⟩, trivial, ⟨rfl, trivial⟩, trivial, ⟨rfl, trivial⟩, trivial, ⟨rfl, trivial⟩, trivial, ⟨rfl, trivial⟩, trivial, ⟨rfl, trivial⟩, trivial, ⟨rfl, trivial⟩, trivial, ⟨rfl, trivial⟩, trivial, trivial⟩ ⟨OpW.plain (op_move (Ev.t 6 (bB r1)) rfl) rfl rfl, OpW.plain (OpL.cast (op_not (Ev.t 12 (bB r1)) rfl) (congrArg (fun b => bB b) hc27)) rfl rfl, OpW.plain (op_move (Ev.t 13 (bB true)) rfl) rfl rfl, OpW.no rfl rfl rfl rfl rfl, OpW.no rfl rfl rfl rfl rfl, OpW.no rfl rfl rfl rfl rfl, OpW.no rfl rfl rfl rfl rfl, OpW.un rfl rfl rfl rfl, OpW.un rfl rfl rfl rfl, OpW.un rfl rfl rfl rfl, OpW.un rfl rfl rfl rfl, OpW.un rfl rfl rfl rfl, OpW.un rfl rfl rfl rfl, OpW.un rfl rfl rfl rfl, OpW.no rfl rfl rfl rfl rfl, OpW.plain (op_pickT (Ev.t 14 (bB true)) (Ev.c _ rfl) rfl) rfl rfl, trivial⟩ ⟨rfl, rfl, rfl, trivial⟩ ⟨rfl, trivial⟩ rfl ?_
    exact G.arr (J26 true hF) ⟨rfl, rfl, rfl, trivial⟩ ⟨rfl, trivial⟩ rfl
  · refine ifS hF (fun hc28 hF => ?_) (fun hc28 hF => ?_)
    · obtain ⟨x29, hx29, hF⟩ := bindS hF
      refine G.drawn (effs := [⟨[(6, .one (bB r1))], [], [(12, .one (bB r1))], []⟩, ⟨[(12, .one (bB r1))], [], [(13, .one (bB false))], []⟩, ⟨[(13, .one (bB false))], [], [(14, .one (bB false))], []⟩, ⟨[(14, .one (bB false)), (0, .one (.g (.d (.sl 6 (List.map encApi_Version l_0)))))], [], [(15, .one (.g (.d (.sl 6 (List.map encApi_Version l_0)))))], []⟩, ⟨[(14, .one (bB false)), (15, .one (.g (.d (.sl 6 (List.map encApi_Version l_0)))))], [], [(16, .one (bI .i64 (l_0.length : Int)))], []⟩, ⟨[(14, .one (bB false)), (16, .one (bI .i64 (l_0.length : Int)))], [], [(17, .one (bB true))], []⟩, ⟨[(14, .one (bB false)), (17, .one (bB true))], [], [(18, .one (bB true))], []⟩, ⟨[(18, .one (bB true)), (0, .one (.g (.d (.sl 6 (List.map encApi_Version l_0)))))], [], [(19, .one (.g (.d (.sl 6 (List.map encApi_Version l_0)))))], []⟩, ⟨[(18, .one (bB true)), (19, .one (.g (.d (.sl 6 (List.map encApi_Version l_0)))))], [], [(20, .one (.ep [.v (.string x29.Key), .v (.string x29.Value), .v (.bool x29.Gone), .v (.int .i64 x29.Stamp.N), .v (.int .i64 x29.Stamp.Site), .sl 3 (List.map encApi_Dep x29.Past)]))], []⟩, ⟨[(18, .one (bB true)), (20, .one (.ep [.v (.string x29.Key), .v (.string x29.Value), .v (.bool x29.Gone), .v (.int .i64 x29.Stamp.N), .v (.int .i64 x29.Stamp.Site), .sl 3 (List.map encApi_Dep x29.Past)]))], [], [(21, .one (.ep [.v (.string x29.Key), .v (.string x29.Value), .v (.bool x29.Gone), .v (.int .i64 x29.Stamp.N), .v (.int .i64 x29.Stamp.Site), .sl 3 (List.map encApi_Dep x29.Past)]))], []⟩, ⟨[(18, .one (bB true)), (21, .one (.ep [.v (.string x29.Key), .v (.string x29.Value), .v (.bool x29.Gone), .v (.int .i64 x29.Stamp.N), .v (.int .i64 x29.Stamp.Site), .sl 3 (List.map encApi_Dep x29.Past)]))], [], [(22, .one (bS x29.Key))], []⟩, ⟨[(18, .one (bB true)), (3, .one (.ptr 1003 0))], [], [(23, .one (.ptr 1003 0))], []⟩, ⟨[(18, .one (bB true)), (23, .one (.ptr 1003 0))], [(1003, some (.blk 28 [bS v_1.Key, bS v_1.Value, bB v_1.Gone, bI .i64 v_1.Stamp.N, bI .i64 v_1.Stamp.Site, .g (.d (.sl 3 (List.map encApi_Dep v_1.Past)))]))], [(24, .one (bS v_1.Key))], []⟩, ⟨[(18, .one (bB true)), (22, .one (bS x29.Key)), (24, .one (bS v_1.Key))], [], [(25, .one (bB (!seq x29.Key v_1.Key)))], []⟩, ⟨[(14, .one (bB false)), (18, .one (bB true)), (25, .one (bB (!seq x29.Key v_1.Key)))], [], [(26, .one (bB (!seq x29.Key v_1.Key)))], []⟩, ⟨[(14, .one (bB false)), (26, .one (bB (!seq x29.Key v_1.Key)))], [], [(27, .one (bB (!seq x29.Key v_1.Key)))], []⟩]) (deps := [[], [0], [0, 1], [0, 1, 2], [0, 1, 2, 3], [0, 1, 2, 3, 4], [0, 1, 2, 3, 4, 5], [0, 1, 2, 3, 4, 5, 6], [0, 1, 2, 3, 4, 5, 6, 7], [0, 1, 2, 3, 4, 5, 6, 7, 8], [0, 1, 2, 3, 4, 5, 6, 7, 8, 9], [0, 1, 2, 3, 4, 5, 6], [0, 1, 2, 3, 4, 5, 6, 11], [0, 1, 2, 3, 4, 5, 6, 7, 8, 9, 10, 11, 12], [0, 1, 2, 3, 4, 5, 6, 7, 8, 9, 10, 11, 12, 13], [0, 1, 2, 3, 4, 5, 6, 7, 8, 9, 10, 11, 12, 13, 14]]) (sl' := [(0, .one (.g (.d (.sl 6 (List.map encApi_Version l_0))))), (3, .one (.ptr 1003 0)), (27, .one (bB (!seq x29.Key v_1.Key)))]) (hp' := [(1003, some (.blk 28 [bS v_1.Key, bS v_1.Value, bB v_1.Gone, bI .i64 v_1.Stamp.N, bI .i64 v_1.Stamp.Site, .g (.d (.sl 3 (List.map encApi_Dep v_1.Past)))]))]) follows rfl rfl rfl ⟨⟨rfl, trivial⟩, trivial, ⟨rfl, trivial⟩, trivial, ⟨rfl, trivial⟩, trivial, ⟨rfl, rfl, trivial⟩, trivial, ⟨rfl, rfl, trivial⟩, trivial, ⟨rfl, rfl, trivial⟩, trivial, ⟨rfl, rfl, trivial⟩, trivial, ⟨rfl, rfl, trivial⟩, trivial, ⟨rfl, rfl, trivial⟩, trivial, ⟨rfl, rfl, trivial⟩, trivial, ⟨rfl, rfl, trivial⟩, trivial, ⟨rfl, rfl, trivial⟩, trivial, ⟨rfl, rfl, trivial⟩, ⟨⟨rfl, rfl⟩, trivial⟩, ⟨rfl, rfl, rfl, trivial⟩, trivial, ⟨rfl, rfl, rfl, trivial⟩, trivial, ⟨rfl, rfl, trivial⟩, trivial, trivial⟩ ⟨OpW.plain (op_move (Ev.t 6 (bB r1)) rfl) rfl rfl, OpW.plain (OpL.cast (op_not (Ev.t 12 (bB r1)) rfl) (congrArg (fun b => bB b) hc27)) rfl rfl, OpW.plain (op_move (Ev.t 13 (bB false)) rfl) rfl rfl, OpW.yes (op_move (Ev.t 0 (.g (.d (.sl 6 (List.map encApi_Version l_0))))) rfl) rfl rfl rfl, OpW.yes (OpL.cast (op_lenD Try.underlying22 (Ev.t 15 (.g (.d (.sl 6 (List.map encApi_Version l_0))))) rfl) (by rw [List.length_map])) rfl rfl rfl, OpW.yes (OpL.cast (op_gtr (Ev.t 16 (bI .i64 (l_0.length : Int))) (Ev.c _ rfl) rfl) (congrArg (fun b => bB b) hc28)) rfl rfl rfl, OpW.yes (op_move (Ev.t 17 (bB true)) rfl) rfl rfl rfl, OpW.yes (op_move (Ev.t 0 (.g (.d (.sl 6 (List.map encApi_Version l_0))))) rfl) rfl rfl rfl, OpW.yes (op_index (cs := [.v (.string x29.Key), .v (.string x29.Value), .v (.bool x29.Gone), .v (.int .i64 x29.Stamp.N), .v (.int .i64 x29.Stamp.Site), .sl 3 (List.map encApi_Dep x29.Past)]) Try.underlying22 ti28 (idx_ok hx29).1 (idx_get hx29 encApi_Version) (Ev.t 19 (.g (.d (.sl 6 (List.map encApi_Version l_0))))) (Ev.c _ rfl) rfl) rfl rfl rfl, OpW.yes (op_fieldE (cs' := [.v (.string x29.Key), .v (.string x29.Value), .v (.bool x29.Gone), .v (.int .i64 x29.Stamp.N), .v (.int .i64 x29.Stamp.Site), .sl 3 (List.map encApi_Dep x29.Past)]) Try.underlying28 rfl ti9 (by decide) rfl (Ev.t 20 (.ep [.v (.string x29.Key), .v (.string x29.Value), .v (.bool x29.Gone), .v (.int .i64 x29.Stamp.N), .v (.int .i64 x29.Stamp.Site), .sl 3 (List.map encApi_Dep x29.Past)])) rfl) rfl rfl rfl, OpW.yes (op_load1E (c := .v (.string x29.Key)) Try.underlying9 rfl rfl (Ev.t 21 (.ep [.v (.string x29.Key), .v (.string x29.Value), .v (.bool x29.Gone), .v (.int .i64 x29.Stamp.N), .v (.int .i64 x29.Stamp.Site), .sl 3 (List.map encApi_Dep x29.Past)])) rfl) rfl rfl rfl, OpW.yes (op_fieldP (off' := 0) Try.underlying28 rfl ti9 (by decide) rfl (Ev.t 3 (.ptr 1003 0)) rfl) rfl rfl rfl, OpW.yes (op_load1P (c := bS v_1.Key) Try.underlying9 rfl rfl (Ev.t 23 (.ptr 1003 0)) rfl) rfl rfl rfl, OpW.yes (op_neS (Ev.t 22 (bS x29.Key)) (Ev.t 24 (bS v_1.Key)) rfl) rfl rfl rfl, OpW.yes (op_pickT (Ev.t 18 (bB true)) (Ev.t 25 (bB (!seq x29.Key v_1.Key))) rfl) rfl rfl rfl, OpW.plain (op_pickF (Ev.t 14 (bB false)) (Ev.t 26 (bB (!seq x29.Key v_1.Key))) rfl) rfl rfl, trivial⟩ ⟨rfl, rfl, rfl, trivial⟩ ⟨rfl, trivial⟩ rfl ?_
      exact G.arr (J26 (!seq x29.Key v_1.Key) hF) ⟨rfl, rfl, rfl, trivial⟩ ⟨rfl, trivial⟩ rfl
    · refine G.drawn (effs := [⟨[(6, .one (bB r1))], [], [(12, .one (bB r1))], []⟩, ⟨[(12, .one (bB r1))], [], [(13, .one (bB false))], []⟩, ⟨[(13, .one (bB false))], [], [(14, .one (bB false))], []⟩, ⟨[(14, .one (bB false)), (0, .one (.g (.d (.sl 6 (List.map encApi_Version l_0)))))], [], [(15, .one (.g (.d (.sl 6 (List.map encApi_Version l_0)))))], []⟩, ⟨[(14, .one (bB false)), (15, .one (.g (.d (.sl 6 (List.map encApi_Version l_0)))))], [], [(16, .one (bI .i64 (l_0.length : Int)))], []⟩, ⟨[(14, .one (bB false)), (16, .one (bI .i64 (l_0.length : Int)))], [], [(17, .one (bB false))], []⟩, ⟨[(14, .one (bB false)), (17, .one (bB false))], [], [(18, .one (bB false))], []⟩, ⟨[(18, .one (bB false))], [], [(19, .one (.x Go.undef))], []⟩, ⟨[(18, .one (bB false))], [], [(20, .one (.x Go.undef))], []⟩, ⟨[(18, .one (bB false))], [], [(21, .one (.x Go.undef))], []⟩, ⟨[(18, .one (bB false))], [], [(22, .one (.x Go.undef))], []⟩, ⟨[(18, .one (bB false))], [], [(23, .one (.x Go.undef))], []⟩, ⟨[(18, .one (bB false))], [], [(24, .one (.x Go.undef))], []⟩, ⟨[(18, .one (bB false))], [], [(25, .one (.x Go.undef))], []⟩, ⟨[(14, .one (bB false)), (18, .one (bB false))], [], [(26, .one (bB false))], []⟩, ⟨[(14, .one (bB false)), (26, .one (bB false))], [], [(27, .one (bB false))], []⟩]) (deps := [[], [0], [0, 1], [0, 1, 2], [0, 1, 2, 3], [0, 1, 2, 3, 4], [0, 1, 2, 3, 4, 5], [0, 1, 2, 3, 4, 5, 6], [0, 1, 2, 3, 4, 5, 6, 7], [0, 1, 2, 3, 4, 5, 6, 7, 8], [0, 1, 2, 3, 4, 5, 6, 7, 8, 9], [0, 1, 2, 3, 4, 5, 6], [0, 1, 2, 3, 4, 5, 6, 11], [0, 1, 2, 3, 4, 5, 6, 7, 8, 9, 10, 11, 12], [0, 1, 2, 3, 4, 5, 6, 7, 8, 9, 10, 11, 12, 13], [0, 1, 2, 3, 4, 5, 6, 7, 8, 9, 10, 11, 12, 13, 14]]) (sl' := [(0, .one (.g (.d (.sl 6 (List.map encApi_Version l_0))))), (3, .one (.ptr 1003 0)), (27, .one (bB false))]) (hp' := [(1003, some (.blk 28 [bS v_1.Key, bS v_1.Value, bB v_1.Gone, bI .i64 v_1.Stamp.N, bI .i64 v_1.Stamp.Site, .g (.d (.sl 3 (List.map encApi_Dep v_1.Past)))]))]) follows rfl rfl rfl ⟨⟨rfl, trivial⟩, trivial, ⟨rfl, trivial⟩, trivial, ⟨rfl, trivial⟩, trivial, ⟨rfl, rfl, trivial⟩, trivial, ⟨rfl, rfl, trivial⟩, trivial, ⟨rfl, rfl, trivial⟩, trivial, ⟨rfl, rfl, trivial⟩, trivial, ⟨rfl, trivial⟩, trivial, ⟨rfl, trivial⟩, trivial, ⟨rfl, trivial⟩, trivial, ⟨rfl, trivial⟩, trivial, ⟨rfl, trivial⟩, trivial, ⟨rfl, trivial⟩, trivial, ⟨rfl, trivial⟩, trivial, ⟨rfl, rfl, trivial⟩, trivial, ⟨rfl, rfl, trivial⟩, trivial, trivial⟩ ⟨OpW.plain (op_move (Ev.t 6 (bB r1)) rfl) rfl rfl, OpW.plain (OpL.cast (op_not (Ev.t 12 (bB r1)) rfl) (congrArg (fun b => bB b) hc27)) rfl rfl, OpW.plain (op_move (Ev.t 13 (bB false)) rfl) rfl rfl, OpW.yes (op_move (Ev.t 0 (.g (.d (.sl 6 (List.map encApi_Version l_0))))) rfl) rfl rfl rfl, OpW.yes (OpL.cast (op_lenD Try.underlying22 (Ev.t 15 (.g (.d (.sl 6 (List.map encApi_Version l_0))))) rfl) (by rw [List.length_map])) rfl rfl rfl, OpW.yes (OpL.cast (op_gtr (Ev.t 16 (bI .i64 (l_0.length : Int))) (Ev.c _ rfl) rfl) (congrArg (fun b => bB b) hc28)) rfl rfl rfl, OpW.yes (op_move (Ev.t 17 (bB false)) rfl) rfl rfl rfl, OpW.no rfl rfl rfl rfl rfl, OpW.no rfl rfl rfl rfl rfl, OpW.no rfl rfl rfl rfl rfl, OpW.no rfl rfl rfl rfl rfl, OpW.no rfl rfl rfl rfl rfl, OpW.no rfl rfl rfl rfl rfl, OpW.no rfl rfl rfl rfl rfl, OpW.yes (op_pickF (Ev.t 18 (bB false)) (Ev.c _ rfl) rfl) rfl rfl rfl, OpW.plain (op_pickF (Ev.t 14 (bB false)) (Ev.t 26 (bB false)) rfl) rfl rfl, trivial⟩ ⟨rfl, rfl, rfl, trivial⟩ ⟨rfl, trivial⟩ rfl ?_
      exact G.arr (J26 false hF) ⟨rfl, rfl, rfl, trivial⟩ ⟨rfl, trivial⟩ rfl


set_option maxRecDepth 20000 in
set_option maxHeartbeats 2000000 in
theorem ct_law12_made (l_0 : (List Api_Stamp)) (r : (List Api_Version)) (hF : law12_made l_0 = some r) : Ct Try.prog 11 [.g (.d (.sl 2 (List.map encApi_Stamp l_0)))] (.one (.d (.sl 6 (List.map encApi_Version r)))) := by
  unfold law12_made at hF
  refine Ct.intro Try.func11 rfl Try.ntmps11 rfl rfl fun M w => ?_
  refine G.seq ?_
  refine G.region ?_
  refine G.op1 (op_assign (Ev.n 6) rfl) rfl trivial trivial ?_
  refine G.endOps ?_
  refine G.seq ?_
  refine G.region ?_
  refine G.op1 (op_assign (Ev.n 6) rfl) rfl trivial trivial ?_
  refine G.endOps ?_
  refine G.seq ?_
  refine G.seq ?_
  refine G.region ?_
  refine G.op1 (op_assign (Ev.c _ rfl) rfl) rfl trivial trivial ?_
  refine G.endOps ?_
  refine G.joinC (T := (List Api_Version)) (fun y1 => ⟨[(3, .one (.g (.d (.sl 6 (List.map encApi_Version y1)))))], []⟩) (fun y1 => law12_made_k1 y1 = some r) (fun y1 hF => ?_) (fun J2 => ?_)
  · unfold law12_made_k1 at hF
    refine G.seq ?_
    refine G.region ?_
    refine G.op1 (op_move (Ev.t 3 (.g (.d (.sl 6 (List.map encApi_Version y1))))) rfl) rfl ⟨rfl, trivial⟩ trivial ?_
    refine G.op1 (op_assign (Ev.t 32 (.g (.d (.sl 6 (List.map encApi_Version y1))))) rfl) rfl ⟨rfl, trivial⟩ trivial ?_
    refine G.endOps ?_
    cases hF
    exact G.ret1 Try.results11 (RVar.tmp 2 _) ⟨rfl, trivial⟩ trivial
  refine G.block ?_
  refine G.keep (sl' := [(0, .one (.g (.d (.sl 2 (List.map encApi_Stamp l_0))))), (3, .one (.g (.d (.sl 6 (List.map encApi_Version ([] : (List Api_Version))))))), (4, .one (bI .i64 0))]) (hp' := []) ⟨rfl, rfl, rfl, trivial⟩ trivial rfl ?_
  refine G.loopF (fun (v3 : (List Api_Version) × Int) => ⟨[(0, .one (.g (.d (.sl 2 (List.map encApi_Stamp l_0))))), (3, .one (.g (.d (.sl 6 (List.map encApi_Version v3.1))))), (4, .one (bI .i64 v3.2))], []⟩) hF rfl (fun K6 again5 v3 J4 hF => ?_)
  unfold law12_made_l2 at hF
  refine G.seq ?_
  refine G.seq ?_
  refine G.joinC (T := Bool) (fun y7 => ⟨[(0, .one (.g (.d (.sl 2 (List.map encApi_Stamp l_0))))), (3, .one (.g (.d (.sl 6 (List.map encApi_Version v3.1))))), (4, .one (bI .i64 v3.2)), (13, .one (bB y7))], []⟩) (fun y7 => law12_made_k3 l_0 again5 v3 y7 = some r) (fun y7 hF => ?_) (fun J11 => ?_)
  · unfold law12_made_k3 at hF
    refine ifS hF (fun hc8 hF => ?_) (fun hc8 hF => ?_)
    · refine G.cond rfl (fun _ => ?_) (fun hx => by rw [hc8] at hx; cases hx)
      refine G.skip ?_
      refine G.seq ?_
      refine G.block ?_
      refine G.seq ?_
      obtain ⟨x9, hx9, hF⟩ := bindS hF
      refine G.drawn (effs := [⟨[(0, .one (.g (.d (.sl 2 (List.map encApi_Stamp l_0)))))], [], [(16, .one (.g (.d (.sl 2 (List.map encApi_Stamp l_0)))))], []⟩, ⟨[(4, .one (bI .i64 v3.2))], [], [(17, .one (bI .i64 v3.2))], []⟩, ⟨[(16, .one (.g (.d (.sl 2 (List.map encApi_Stamp l_0))))), (17, .one (bI .i64 v3.2))], [], [(18, .one (.ep [.v (.int .i64 x9.N), .v (.int .i64 x9.Site)]))], []⟩, ⟨[(18, .one (.ep [.v (.int .i64 x9.N), .v (.int .i64 x9.Site)]))], [], [(19, .one (.g (.agg [.v (.int .i64 x9.N), .v (.int .i64 x9.Site)])))], []⟩, ⟨[(4, .one (bI .i64 v3.2))], [], [(20, .one (bI .i64 v3.2))], []⟩, ⟨[(20, .one (bI .i64 v3.2))], [], [(21, .one (bI .i64 (IntKind.wrap .i64 (97 + v3.2))))], []⟩, ⟨[(21, .one (bI .i64 (IntKind.wrap .i64 (97 + v3.2))))], [], [(22, .one (bI .u8 (IntKind.wrap .u8 (IntKind.wrap .i64 (97 + v3.2)))))], []⟩, ⟨[(22, .one (bI .u8 (IntKind.wrap .u8 (IntKind.wrap .i64 (97 + v3.2)))))], [], [(23, .one (.g (.d (.sl 1 (List.map encI_u8 ([IntKind.wrap .u8 (IntKind.wrap .i64 (97 + v3.2))]))))))], []⟩, ⟨[(23, .one (.g (.d (.sl 1 (List.map encI_u8 ([IntKind.wrap .u8 (IntKind.wrap .i64 (97 + v3.2))]))))))], [], [(24, .one (bS (bytesOf ([IntKind.wrap .u8 (IntKind.wrap .i64 (97 + v3.2))]))))], []⟩, ⟨[(19, .one (.g (.agg [.v (.int .i64 x9.N), .v (.int .i64 x9.Site)]))), (24, .one (bS (bytesOf ([IntKind.wrap .u8 (IntKind.wrap .i64 (97 + v3.2))]))))], [], [(25, .one (.g (.agg [.v (.string (ByteArray.mk #[97])), .v (.string (bytesOf ([IntKind.wrap .u8 (IntKind.wrap .i64 (97 + v3.2))]))), .v (.bool false), .v (.int .i64 x9.N), .v (.int .i64 x9.Site), .sl 3 (List.map encApi_Dep ([] : (List Api_Dep)))])))], []⟩, ⟨[], [(1005, none)], [(5, .one (.ptr 1005 0))], [(1005, some (.blk 28 [bS ByteArray.empty, bS ByteArray.empty, bB false, bI .i64 0, bI .i64 0, .g (.d (.sl 3 (List.map encApi_Dep ([] : (List Api_Dep)))))]))]⟩, ⟨[(5, .one (.ptr 1005 0)), (25, .one (.g (.agg [.v (.string (ByteArray.mk #[97])), .v (.string (bytesOf ([IntKind.wrap .u8 (IntKind.wrap .i64 (97 + v3.2))]))), .v (.bool false), .v (.int .i64 x9.N), .v (.int .i64 x9.Site), .sl 3 (List.map encApi_Dep ([] : (List Api_Dep)))])))], [(1005, some (.blk 28 [bS ByteArray.empty, bS ByteArray.empty, bB false, bI .i64 0, bI .i64 0, .g (.d (.sl 3 (List.map encApi_Dep ([] : (List Api_Dep)))))]))], [], [(1005, some (.blk 28 [bS (ByteArray.mk #[97]), bS (bytesOf ([IntKind.wrap .u8 (IntKind.wrap .i64 (97 + v3.2))])), bB false, bI .i64 x9.N, bI .i64 x9.Site, .g (.d (.sl 3 (List.map encApi_Dep ([] : (List Api_Dep)))))]))]⟩]) (deps := [[], [], [0, 1], [0, 1, 2], [], [4], [4, 5], [4, 5, 6], [4, 5, 6, 7], [0, 1, 2, 3, 4, 5, 6, 7, 8], [], [0, 1, 2, 3, 4, 5, 6, 7, 8, 9, 10]]) (sl' := [(0, .one (.g (.d (.sl 2 (List.map encApi_Stamp l_0))))), (3, .one (.g (.d (.sl 6 (List.map encApi_Version v3.1))))), (4, .one (bI .i64 v3.2)), (5, .one (.ptr 1005 0))]) (hp' := [(1005, some (.blk 28 [bS (ByteArray.mk #[97]), bS (bytesOf ([IntKind.wrap .u8 (IntKind.wrap .i64 (97 + v3.2))])), bB false, bI .i64 x9.N, bI .i64 x9.Site, .g (.d (.sl 3 (List.map encApi_Dep ([] : (List Api_Dep)))))]))]) follows rfl rfl rfl ⟨⟨rfl, trivial⟩, trivial, ⟨rfl, trivial⟩, trivial, ⟨rfl, rfl, trivial⟩, trivial, ⟨rfl, trivial⟩, trivial, ⟨rfl, trivial⟩, trivial, ⟨rfl, trivial⟩, trivial, ⟨rfl, trivial⟩, trivial, ⟨rfl, trivial⟩, trivial, ⟨rfl, trivial⟩, trivial, ⟨rfl, rfl, trivial⟩, trivial, trivial, ⟨⟨rfl, rfl⟩, trivial⟩, ⟨rfl, rfl, trivial⟩, ⟨⟨rfl, rfl⟩, trivial⟩, trivial⟩ ⟨OpW.plain (op_move (Ev.t 0 (.g (.d (.sl 2 (List.map encApi_Stamp l_0))))) rfl) rfl rfl, OpW.plain (op_move (Ev.t 4 (bI .i64 v3.2)) rfl) rfl rfl, OpW.plain (op_index (cs := [.v (.int .i64 x9.N), .v (.int .i64 x9.Site)]) Try.underlying30 ti25 (idx_ok hx9).1 (idx_get hx9 encApi_Stamp) (Ev.t 16 (.g (.d (.sl 2 (List.map encApi_Stamp l_0))))) (Ev.t 17 (bI .i64 v3.2)) rfl) rfl rfl, OpW.plain (op_loadAE (ds := [.v (.int .i64 x9.N), .v (.int .i64 x9.Site)]) Try.underlying25 rfl ti25 rfl (Ev.t 18 (.ep [.v (.int .i64 x9.N), .v (.int .i64 x9.Site)])) rfl) rfl rfl, OpW.plain (op_move (Ev.t 4 (bI .i64 v3.2)) rfl) rfl rfl, OpW.plain (op_add (Ev.c _ rfl) (Ev.t 20 (bI .i64 v3.2)) rfl) rfl rfl, OpW.plain (op_convI Try.underlying3 Try.underlying5 (Ev.t 21 (bI .i64 (IntKind.wrap .i64 (97 + v3.2)))) rfl) rfl rfl, OpW.plain (op_buildSlice (es := List.map encI_u8 [IntKind.wrap .u8 (IntKind.wrap .i64 (97 + v3.2))]) Try.underlying49 ti5 rfl rfl (EvP.cons (Ev.t 22 (bI .u8 (IntKind.wrap .u8 (IntKind.wrap .i64 (97 + v3.2))))) EvP.nil) rfl rfl (by simp [encI_u8]) rfl) rfl rfl, OpW.plain (op_toText (ns := [IntKind.wrap .u8 (IntKind.wrap .i64 (97 + v3.2))]) Try.underlying49 Try.underlying5 Try.underlying9 rfl (Ev.t 23 (.g (.d (.sl 1 (List.map encI_u8 ([IntKind.wrap .u8 (IntKind.wrap .i64 (97 + v3.2))])))))) rfl) rfl rfl, OpW.plain (op_build (zs := [.v (.string ByteArray.empty), .v (.string ByteArray.empty), .v (.bool false), .v (.int .i64 0), .v (.int .i64 0), .sl 3 (List.map encApi_Dep ([] : (List Api_Dep)))]) (ds := [.v (.string (ByteArray.mk #[97])), .v (.string (bytesOf ([IntKind.wrap .u8 (IntKind.wrap .i64 (97 + v3.2))]))), .v (.bool false), .v (.int .i64 x9.N), .v (.int .i64 x9.Site), .sl 3 (List.map encApi_Dep ([] : (List Api_Dep)))]) Try.underlying28 ti28 (pl28 _ Try.underlying28) ⟨.v _ rfl, .v _ rfl, .v _ rfl, .v _ rfl, .v _ rfl, .n 3, trivial⟩ (EvP.cons (Ev.c _ rfl) (EvP.cons (Ev.t 19 (.g (.agg [.v (.int .i64 x9.N), .v (.int .i64 x9.Site)]))) (EvP.cons (Ev.t 24 (bS (bytesOf ([IntKind.wrap .u8 (IntKind.wrap .i64 (97 + v3.2))])))) EvP.nil))) rfl rfl) rfl rfl, OpW.plain (op_alloc (k := 1005) (cs := [bS ByteArray.empty, bS ByteArray.empty, bB false, bI .i64 0, bI .i64 0, .g (.d (.sl 3 (List.map encApi_Dep ([] : (List Api_Dep)))))]) ti28 ⟨.v _ rfl, .v _ rfl, .v _ rfl, .v _ rfl, .v _ rfl, .n 3, trivial⟩ rfl) rfl rfl, OpW.plain (op_storeA (cs' := [bS (ByteArray.mk #[97]), bS (bytesOf ([IntKind.wrap .u8 (IntKind.wrap .i64 (97 + v3.2))])), bB false, bI .i64 x9.N, bI .i64 x9.Site, .g (.d (.sl 3 (List.map encApi_Dep ([] : (List Api_Dep)))))]) ti28 rfl rfl (Ev.t 5 (.ptr 1005 0)) (Ev.t 25 (.g (.agg [.v (.string (ByteArray.mk #[97])), .v (.string (bytesOf ([IntKind.wrap .u8 (IntKind.wrap .i64 (97 + v3.2))]))), .v (.bool false), .v (.int .i64 x9.N), .v (.int .i64 x9.Site), .sl 3 (List.map encApi_Dep ([] : (List Api_Dep)))])))) rfl rfl, trivial⟩ ⟨rfl, rfl, rfl, rfl, trivial⟩ ⟨rfl, trivial⟩ rfl ?_
      refine G.region ?_
      refine G.op1 (op_move (Ev.t 3 (.g (.d (.sl 6 (List.map encApi_Version v3.1))))) rfl) rfl ⟨rfl, trivial⟩ trivial ?_
      refine G.op1 (op_loadAP (ds := [.v (.string (ByteArray.mk #[97])), .v (.string (bytesOf ([IntKind.wrap .u8 (IntKind.wrap .i64 (97 + v3.2))]))), .v (.bool false), .v (.int .i64 x9.N), .v (.int .i64 x9.Site), .sl 3 (List.map encApi_Dep ([] : (List Api_Dep)))]) Try.underlying28 rfl ti28 rfl (Ev.t 5 (.ptr 1005 0)) rfl) rfl ⟨rfl, trivial⟩ ⟨rfl, trivial⟩ ?_
      obtain ⟨r10, hr10, hF⟩ := bindS hF
      refine G.op1 (op_call (sv := .tup [.g (.d (.sl 6 (List.map encApi_Version r10.1))), bB r10.2]) cf25 (ct_ref12_Put v3.1 (Api_Version.mk (ByteArray.mk #[97]) (bytesOf ([IntKind.wrap .u8 (IntKind.wrap .i64 (97 + v3.2))])) false x9 ([] : (List Api_Dep))) r10 hr10) rfl (EvL.cons (Ev.t 27 (.g (.d (.sl 6 (List.map encApi_Version v3.1))))) (EvL.cons (Ev.t 28 (.g (.agg [.v (.string (ByteArray.mk #[97])), .v (.string (bytesOf ([IntKind.wrap .u8 (IntKind.wrap .i64 (97 + v3.2))]))), .v (.bool false), .v (.int .i64 x9.N), .v (.int .i64 x9.Site), .sl 3 (List.map encApi_Dep ([] : (List Api_Dep)))]))) EvL.nil)) rfl) rfl ⟨rfl, rfl, trivial⟩ trivial ?_
      refine G.op1 (op_moveS (t := 29) (sv := .tup [.g (.d (.sl 6 (List.map encApi_Version r10.1))), bB r10.2]) rfl) rfl ⟨rfl, trivial⟩ trivial ?_
      refine G.op1 (op_extract (l := [.g (.d (.sl 6 (List.map encApi_Version r10.1))), bB r10.2]) (c := .g (.d (.sl 6 (List.map encApi_Version r10.1)))) rfl rfl) rfl ⟨rfl, trivial⟩ trivial ?_
      refine G.op1 (op_extract (l := [.g (.d (.sl 6 (List.map encApi_Version r10.1))), bB r10.2]) (c := bB r10.2) rfl rfl) rfl ⟨rfl, trivial⟩ trivial ?_
      refine G.op1 (op_assign (Ev.t 30 (.g (.d (.sl 6 (List.map encApi_Version r10.1))))) rfl) rfl ⟨rfl, trivial⟩ trivial ?_
      refine G.endOps ?_
      refine G.endBlock ?_
      refine G.region ?_
      refine G.op1 (op_move (Ev.t 4 (bI .i64 v3.2)) rfl) rfl ⟨rfl, trivial⟩ trivial ?_
      refine G.op1 (op_add (Ev.t 14 (bI .i64 v3.2)) (Ev.c _ rfl) rfl) rfl ⟨rfl, trivial⟩ trivial ?_
      refine G.op1 (op_assign (Ev.t 15 (bI .i64 (IntKind.wrap .i64 (v3.2 + 1)))) rfl) rfl ⟨rfl, trivial⟩ trivial ?_
      refine G.endOps ?_
      exact G.arr (J4 (r10.1, IntKind.wrap .i64 (v3.2 + 1)) hF) ⟨rfl, rfl, rfl, trivial⟩ trivial rfl
    · refine G.cond rfl (fun hx => by rw [hc8] at hx; cases hx) (fun _ => ?_)
      refine G.exit ?_
      refine GX.c ?_
      refine GX.q ?_
      refine GX.bYes ?_
      exact G.arr (J2 v3.1 hF) ⟨rfl, trivial⟩ trivial rfl
  refine G.region ?_
  refine G.op1 (op_move (Ev.t 4 (bI .i64 v3.2)) rfl) rfl ⟨rfl, trivial⟩ trivial ?_
  refine G.op1 (op_move (Ev.t 0 (.g (.d (.sl 2 (List.map encApi_Stamp l_0))))) rfl) rfl ⟨rfl, trivial⟩ trivial ?_
  refine G.op1 (OpL.cast (op_lenD Try.underlying30 (Ev.t 7 (.g (.d (.sl 2 (List.map encApi_Stamp l_0))))) rfl) (by rw [List.length_map])) rfl ⟨rfl, trivial⟩ trivial ?_
  refine G.op1 (op_lss (Ev.t 6 (bI .i64 v3.2)) (Ev.t 8 (bI .i64 (l_0.length : Int))) rfl) rfl ⟨rfl, rfl, trivial⟩ trivial ?_
  refine G.op1 (op_move (Ev.t 9 (bB (decide (v3.2 < (l_0.length : Int))))) rfl) rfl ⟨rfl, trivial⟩ trivial ?_
  refine ifS hF (fun hc12 hF => ?_) (fun hc12 hF => ?_)
  · refine G.known (t := 10) hc12 rfl ?_
    refine G.opG1 (op_move (Ev.t 4 (bI .i64 v3.2)) rfl) rfl rfl rfl ⟨rfl, trivial⟩ trivial ?_
    refine G.opG1 (op_lss (Ev.t 11 (bI .i64 v3.2)) (Ev.c _ rfl) rfl) rfl rfl rfl ⟨rfl, trivial⟩ trivial ?_
    refine G.op1 (op_pickT (Ev.t 10 (bB true)) (Ev.t 12 (bB (decide (v3.2 < 16)))) rfl) rfl ⟨rfl, rfl, trivial⟩ trivial ?_
    refine G.endOps ?_
    exact G.arr (J11 (decide (v3.2 < 16)) hF) ⟨rfl, rfl, rfl, rfl, trivial⟩ trivial rfl
  · refine G.known (t := 10) hc12 rfl ?_
    refine G.opN1 rfl rfl rfl rfl rfl ?_
    refine G.opN1 rfl rfl rfl rfl rfl ?_
    refine G.op1 (op_pickF (Ev.t 10 (bB false)) (Ev.c _ rfl) rfl) rfl ⟨rfl, trivial⟩ trivial ?_
    refine G.endOps ?_
    exact G.arr (J11 false hF) ⟨rfl, rfl, rfl, rfl, trivial⟩ trivial rfl


set_option maxRecDepth 20000 in
set_option maxHeartbeats 2000000 in
theorem ct_law12_ChainClean (l_0 : (List Api_Stamp)) (q_1 : Law12_Ask) (at_2 : Api_Stamp) (r : Bool) (hF : law12_ChainClean l_0 q_1 at_2 = some r) : Ct Try.prog 4 [.g (.d (.sl 2 (List.map encApi_Stamp l_0))), .g (.agg (encLaw12_Ask q_1)), .g (.agg (encApi_Stamp at_2))] (.one (.d (.v (.bool r)))) := by
  unfold law12_ChainClean at hF
  refine Ct.intro Try.func4 rfl Try.ntmps4 rfl rfl fun M w => ?_
  refine G.seq ?_
  refine G.region ?_
  refine G.op2 (op_boxA (k := 1004) (Ev.t 1 (.g (.agg [.v (.string q_1.Version.Key), .v (.string q_1.Version.Value), .v (.bool q_1.Version.Gone), .v (.int .i64 q_1.Version.Stamp.N), .v (.int .i64 q_1.Version.Stamp.Site), .sl 3 (List.map encApi_Dep q_1.Version.Past), .v (.int .i64 q_1.Stable.N), .v (.int .i64 q_1.Stable.Site), .sl 2 (List.map encApi_Stamp q_1.Pins)]))) rfl) rfl ⟨rfl, trivial⟩ ⟨rfl, trivial⟩ ?_
  refine G.op2 (op_boxA (k := 1005) (Ev.t 2 (.g (.agg [.v (.int .i64 at_2.N), .v (.int .i64 at_2.Site)]))) rfl) rfl ⟨rfl, trivial⟩ ⟨rfl, trivial⟩ ?_
  refine G.op1 (op_assign (Ev.c _ rfl) rfl) rfl trivial trivial ?_
  refine G.endOps ?_
  refine G.seq ?_
  refine G.region ?_
  obtain ⟨r1, hr1, hF⟩ := bindS hF
  refine G.op1 (op_callQ (sv := .one (bB r1)) cf8 (ct_law12_awake r1 hr1) rfl rfl EvQL.nil rfl) rfl trivial trivial ?_
  refine G.op1 (op_assign (Ev.t 27 (bB r1)) rfl) rfl ⟨rfl, trivial⟩ trivial ?_
  refine G.endOps ?_
  refine G.seq ?_
  refine G.region ?_
  refine G.op1 (op_move (Ev.t 0 (.g (.d (.sl 2 (List.map encApi_Stamp l_0))))) rfl) rfl ⟨rfl, trivial⟩ trivial ?_
  obtain ⟨r2, hr2, hF⟩ := bindS hF
  refine G.op1 (op_call (sv := .one (.g (.d (.sl 6 (List.map encApi_Version r2))))) cf11 (ct_law12_made l_0 r2 hr2) rfl (EvL.cons (Ev.t 28 (.g (.d (.sl 2 (List.map encApi_Stamp l_0))))) EvL.nil) rfl) rfl ⟨rfl, trivial⟩ trivial ?_
  refine G.op1 (op_assign (Ev.t 29 (.g (.d (.sl 6 (List.map encApi_Version r2))))) rfl) rfl ⟨rfl, trivial⟩ trivial ?_
  refine G.endOps ?_
  refine G.seq ?_
  refine G.seq ?_
  refine G.region ?_
  refine G.op1 (op_fieldP (off' := 8) Try.underlying32 rfl ti30 (by decide) rfl (Ev.t 4 (.ptr 1004 0)) rfl) rfl ⟨rfl, trivial⟩ trivial ?_
  refine G.op1 (op_load1P (c := .g (.d (.sl 2 (List.map encApi_Stamp q_1.Pins)))) Try.underlying30 rfl rfl (Ev.t 30 (.ptr 1004 8)) rfl) rfl ⟨rfl, trivial⟩ ⟨rfl, trivial⟩ ?_
  refine G.op1 (OpL.cast (op_lenD Try.underlying30 (Ev.t 31 (.g (.d (.sl 2 (List.map encApi_Stamp q_1.Pins))))) rfl) (by rw [List.length_map])) rfl ⟨rfl, trivial⟩ trivial ?_
  refine G.op1 (op_gtr (Ev.t 32 (bI .i64 (q_1.Pins.length : Int))) (Ev.c _ rfl) rfl) rfl ⟨rfl, trivial⟩ trivial ?_
  refine G.endOps ?_
  refine G.joinC (T := (List Api_Stamp)) (fun y3 => ⟨[(4, .one (.ptr 1004 0)), (5, .one (.ptr 1005 0)), (7, .one (bB r1)), (8, .one (.g (.d (.sl 6 (List.map encApi_Version r2)))))], [(1004, some (.blk 32 [bS q_1.Version.Key, bS q_1.Version.Value, bB q_1.Version.Gone, bI .i64 q_1.Version.Stamp.N, bI .i64 q_1.Version.Stamp.Site, .g (.d (.sl 3 (List.map encApi_Dep q_1.Version.Past))), bI .i64 q_1.Stable.N, bI .i64 q_1.Stable.Site, .g (.d (.sl 2 (List.map encApi_Stamp y3)))])), (1005, some (.blk 25 [bI .i64 at_2.N, bI .i64 at_2.Site]))]⟩) (fun y3 => law12_ChainClean_k1 q_1 at_2 r1 r2 y3 = some r) (fun y3 hF => ?_) (fun J45 => ?_)
  · unfold law12_ChainClean_k1 at hF
    refine G.seq ?_
    refine G.region ?_
    refine G.op1 (op_move (Ev.t 8 (.g (.d (.sl 6 (List.map encApi_Version r2))))) rfl) rfl ⟨rfl, trivial⟩ trivial ?_
    refine G.op1 (op_fieldP (off' := 6) Try.underlying32 rfl ti25 (by decide) rfl (Ev.t 4 (.ptr 1004 0)) rfl) rfl ⟨rfl, trivial⟩ trivial ?_
    refine G.op1 (op_loadAP (ds := [.v (.int .i64 q_1.Stable.N), .v (.int .i64 q_1.Stable.Site)]) Try.underlying25 rfl ti25 rfl (Ev.t 39 (.ptr 1004 6)) rfl) rfl ⟨rfl, trivial⟩ ⟨rfl, trivial⟩ ?_
    refine G.op1 (op_fieldP (off' := 8) Try.underlying32 rfl ti30 (by decide) rfl (Ev.t 4 (.ptr 1004 0)) rfl) rfl ⟨rfl, trivial⟩ trivial ?_
    refine G.op1 (op_load1P (c := .g (.d (.sl 2 (List.map encApi_Stamp y3)))) Try.underlying30 rfl rfl (Ev.t 41 (.ptr 1004 8)) rfl) rfl ⟨rfl, trivial⟩ ⟨rfl, trivial⟩ ?_
    obtain ⟨r4, hr4, hF⟩ := bindS hF
    refine G.op1 (op_call (sv := .one (.g (.d (.sl 6 (List.map encApi_Version r4))))) cf12 (ct_chain_Clean r2 q_1.Stable y3 r4 hr4) rfl (EvL.cons (Ev.t 38 (.g (.d (.sl 6 (List.map encApi_Version r2))))) (EvL.cons (Ev.t 40 (.g (.agg [.v (.int .i64 q_1.Stable.N), .v (.int .i64 q_1.Stable.Site)]))) (EvL.cons (Ev.t 42 (.g (.d (.sl 2 (List.map encApi_Stamp y3))))) EvL.nil))) rfl) rfl ⟨rfl, rfl, rfl, trivial⟩ trivial ?_
    refine G.op1 (op_assign (Ev.t 43 (.g (.d (.sl 6 (List.map encApi_Version r4))))) rfl) rfl ⟨rfl, trivial⟩ trivial ?_
    refine G.endOps ?_
    refine G.seq ?_
    refine G.region ?_
    refine G.op1 (op_move (Ev.t 8 (.g (.d (.sl 6 (List.map encApi_Version r2))))) rfl) rfl ⟨rfl, trivial⟩ trivial ?_
    obtain ⟨r5, hr5, hF⟩ := bindS hF
    refine G.op1 (op_call (sv := .tup [.g (.agg [.v (.string r5.1.Key), .v (.string r5.1.Value), .v (.bool r5.1.Gone), .v (.int .i64 r5.1.Stamp.N), .v (.int .i64 r5.1.Stamp.Site), .sl 3 (List.map encApi_Dep r5.1.Past)]), bB r5.2]) cf13 (ct_chain_Head r2 r5 hr5) rfl (EvL.cons (Ev.t 45 (.g (.d (.sl 6 (List.map encApi_Version r2))))) EvL.nil) rfl) rfl ⟨rfl, trivial⟩ trivial ?_
    refine G.op1 (op_moveS (t := 46) (sv := .tup [.g (.agg [.v (.string r5.1.Key), .v (.string r5.1.Value), .v (.bool r5.1.Gone), .v (.int .i64 r5.1.Stamp.N), .v (.int .i64 r5.1.Stamp.Site), .sl 3 (List.map encApi_Dep r5.1.Past)]), bB r5.2]) rfl) rfl ⟨rfl, trivial⟩ trivial ?_
    refine G.op1 (op_extract (l := [.g (.agg [.v (.string r5.1.Key), .v (.string r5.1.Value), .v (.bool r5.1.Gone), .v (.int .i64 r5.1.Stamp.N), .v (.int .i64 r5.1.Stamp.Site), .sl 3 (List.map encApi_Dep r5.1.Past)]), bB r5.2]) (c := .g (.agg [.v (.string r5.1.Key), .v (.string r5.1.Value), .v (.bool r5.1.Gone), .v (.int .i64 r5.1.Stamp.N), .v (.int .i64 r5.1.Stamp.Site), .sl 3 (List.map encApi_Dep r5.1.Past)])) rfl rfl) rfl ⟨rfl, trivial⟩ trivial ?_
    refine G.op1 (op_extract (l := [.g (.agg [.v (.string r5.1.Key), .v (.string r5.1.Value), .v (.bool r5.1.Gone), .v (.int .i64 r5.1.Stamp.N), .v (.int .i64 r5.1.Stamp.Site), .sl 3 (List.map encApi_Dep r5.1.Past)]), bB r5.2]) (c := bB r5.2) rfl rfl) rfl ⟨rfl, trivial⟩ trivial ?_
    refine G.op2 (op_alloc (k := 1010) (cs := [bS ByteArray.empty, bS ByteArray.empty, bB false, bI .i64 0, bI .i64 0, .g (.d (.sl 3 (List.map encApi_Dep ([] : (List Api_Dep)))))]) ti28 ⟨.v _ rfl, .v _ rfl, .v _ rfl, .v _ rfl, .v _ rfl, .n 3, trivial⟩ rfl) rfl trivial ⟨rfl, trivial⟩ ?_
    refine G.op3 (op_storeA (cs' := [bS r5.1.Key, bS r5.1.Value, bB r5.1.Gone, bI .i64 r5.1.Stamp.N, bI .i64 r5.1.Stamp.Site, .g (.d (.sl 3 (List.map encApi_Dep r5.1.Past)))]) ti28 rfl rfl (Ev.t 10 (.ptr 1010 0)) (Ev.t 47 (.g (.agg [.v (.string r5.1.Key), .v (.string r5.1.Value), .v (.bool r5.1.Gone), .v (.int .i64 r5.1.Stamp.N), .v (.int .i64 r5.1.Stamp.Site), .sl 3 (List.map encApi_Dep r5.1.Past)])))) rfl ⟨rfl, rfl, trivial⟩ ⟨rfl, trivial⟩ ?_
    refine G.op1 (op_assign (Ev.t 48 (bB r5.2)) rfl) rfl ⟨rfl, trivial⟩ trivial ?_
    refine G.endOps ?_
    refine G.seq ?_
    refine G.region ?_
    refine G.op1 (op_move (Ev.t 9 (.g (.d (.sl 6 (List.map encApi_Version r4))))) rfl) rfl ⟨rfl, trivial⟩ trivial ?_
    obtain ⟨r6, hr6, hF⟩ := bindS hF
    refine G.op1 (op_call (sv := .tup [.g (.agg [.v (.string r6.1.Key), .v (.string r6.1.Value), .v (.bool r6.1.Gone), .v (.int .i64 r6.1.Stamp.N), .v (.int .i64 r6.1.Stamp.Site), .sl 3 (List.map encApi_Dep r6.1.Past)]), bB r6.2]) cf13 (ct_chain_Head r4 r6 hr6) rfl (EvL.cons (Ev.t 50 (.g (.d (.sl 6 (List.map encApi_Version r4))))) EvL.nil) rfl) rfl ⟨rfl, trivial⟩ trivial ?_
    refine G.op1 (op_moveS (t := 51) (sv := .tup [.g (.agg [.v (.string r6.1.Key), .v (.string r6.1.Value), .v (.bool r6.1.Gone), .v (.int .i64 r6.1.Stamp.N), .v (.int .i64 r6.1.Stamp.Site), .sl 3 (List.map encApi_Dep r6.1.Past)]), bB r6.2]) rfl) rfl ⟨rfl, trivial⟩ trivial ?_
    refine G.op1 (op_extract (l := [.g (.agg [.v (.string r6.1.Key), .v (.string r6.1.Value), .v (.bool r6.1.Gone), .v (.int .i64 r6.1.Stamp.N), .v (.int .i64 r6.1.Stamp.Site), .sl 3 (List.map encApi_Dep r6.1.Past)]), bB r6.2]) (c := .g (.agg [.v (.string r6.1.Key), .v (.string r6.1.Value), .v (.bool r6.1.Gone), .v (.int .i64 r6.1.Stamp.N), .v (.int .i64 r6.1.Stamp.Site), .sl 3 (List.map encApi_Dep r6.1.Past)])) rfl rfl) rfl ⟨rfl, trivial⟩ trivial ?_
    refine G.op1 (op_extract (l := [.g (.agg [.v (.string r6.1.Key), .v (.string r6.1.Value), .v (.bool r6.1.Gone), .v (.int .i64 r6.1.Stamp.N), .v (.int .i64 r6.1.Stamp.Site), .sl 3 (List.map encApi_Dep r6.1.Past)]), bB r6.2]) (c := bB r6.2) rfl rfl) rfl ⟨rfl, trivial⟩ trivial ?_
    refine G.op2 (op_alloc (k := 1012) (cs := [bS ByteArray.empty, bS ByteArray.empty, bB false, bI .i64 0, bI .i64 0, .g (.d (.sl 3 (List.map encApi_Dep ([] : (List Api_Dep)))))]) ti28 ⟨.v _ rfl, .v _ rfl, .v _ rfl, .v _ rfl, .v _ rfl, .n 3, trivial⟩ rfl) rfl trivial ⟨rfl, trivial⟩ ?_
    refine G.op3 (op_storeA (cs' := [bS r6.1.Key, bS r6.1.Value, bB r6.1.Gone, bI .i64 r6.1.Stamp.N, bI .i64 r6.1.Stamp.Site, .g (.d (.sl 3 (List.map encApi_Dep r6.1.Past)))]) ti28 rfl rfl (Ev.t 12 (.ptr 1012 0)) (Ev.t 52 (.g (.agg [.v (.string r6.1.Key), .v (.string r6.1.Value), .v (.bool r6.1.Gone), .v (.int .i64 r6.1.Stamp.N), .v (.int .i64 r6.1.Stamp.Site), .sl 3 (List.map encApi_Dep r6.1.Past)])))) rfl ⟨rfl, rfl, trivial⟩ ⟨rfl, trivial⟩ ?_
    refine G.op1 (op_assign (Ev.t 53 (bB r6.2)) rfl) rfl ⟨rfl, trivial⟩ trivial ?_
    refine G.endOps ?_
    refine G.seq ?_
    refine G.region ?_
    refine G.op1 (op_loadAP (ds := [.v (.string r5.1.Key), .v (.string r5.1.Value), .v (.bool r5.1.Gone), .v (.int .i64 r5.1.Stamp.N), .v (.int .i64 r5.1.Stamp.Site), .sl 3 (List.map encApi_Dep r5.1.Past)]) Try.underlying28 rfl ti28 rfl (Ev.t 10 (.ptr 1010 0)) rfl) rfl ⟨rfl, trivial⟩ ⟨rfl, trivial⟩ ?_
    refine G.op1 (op_loadAP (ds := [.v (.string r6.1.Key), .v (.string r6.1.Value), .v (.bool r6.1.Gone), .v (.int .i64 r6.1.Stamp.N), .v (.int .i64 r6.1.Stamp.Site), .sl 3 (List.map encApi_Dep r6.1.Past)]) Try.underlying28 rfl ti28 rfl (Ev.t 12 (.ptr 1012 0)) rfl) rfl ⟨rfl, trivial⟩ ⟨rfl, trivial⟩ ?_
    obtain ⟨r7, hr7, hF⟩ := bindS hF
    refine G.op1 (op_callQ (sv := .one (bB r7)) cf14 (ct_ref06_Same r5.1 r6.1 r7 hr7) rfl rfl (EvQL.cons (EvQ.g (Ev.t 54 (.g (.agg [.v (.string r5.1.Key), .v (.string r5.1.Value), .v (.bool r5.1.Gone), .v (.int .i64 r5.1.Stamp.N), .v (.int .i64 r5.1.Stamp.Site), .sl 3 (List.map encApi_Dep r5.1.Past)])))) (EvQL.cons (EvQ.g (Ev.t 55 (.g (.agg [.v (.string r6.1.Key), .v (.string r6.1.Value), .v (.bool r6.1.Gone), .v (.int .i64 r6.1.Stamp.N), .v (.int .i64 r6.1.Stamp.Site), .sl 3 (List.map encApi_Dep r6.1.Past)])))) EvQL.nil)) rfl) rfl ⟨rfl, rfl, trivial⟩ trivial ?_
    refine G.op1 (op_assign (Ev.t 56 (bB r7)) rfl) rfl ⟨rfl, trivial⟩ trivial ?_
    refine G.endOps ?_
    refine G.seq ?_
    refine G.seq ?_
    refine G.region ?_
    refine G.op1 (op_assign (Ev.c _ rfl) rfl) rfl trivial trivial ?_
    refine G.endOps ?_
    refine G.joinC (T := Unit) (fun y8 => ⟨[(4, .one (.ptr 1004 0)), (5, .one (.ptr 1005 0)), (7, .one (bB r1)), (8, .one (.g (.d (.sl 6 (List.map encApi_Version r2))))), (9, .one (.g (.d (.sl 6 (List.map encApi_Version r4))))), (11, .one (bB r5.2)), (13, .one (bB r6.2)), (14, .one (bB r7))], [(1004, some (.blk 32 [bS q_1.Version.Key, bS q_1.Version.Value, bB q_1.Version.Gone, bI .i64 q_1.Version.Stamp.N, bI .i64 q_1.Version.Stamp.Site, .g (.d (.sl 3 (List.map encApi_Dep q_1.Version.Past))), bI .i64 q_1.Stable.N, bI .i64 q_1.Stable.Site, .g (.d (.sl 2 (List.map encApi_Stamp y3)))])), (1005, some (.blk 25 [bI .i64 at_2.N, bI .i64 at_2.Site]))]⟩) (fun y8 => law12_ChainClean_k2 q_1 at_2 r1 r2 y3 r4 r5 r6 r7 y8 = some r) (fun y8 hF => ?_) (fun J32 => ?_)
    · unfold law12_ChainClean_k2 at hF
      refine G.seq ?_
      refine G.seq ?_
      refine G.region ?_
      refine G.op1 (op_loadAP (ds := [.v (.int .i64 at_2.N), .v (.int .i64 at_2.Site)]) Try.underlying25 rfl ti25 rfl (Ev.t 5 (.ptr 1005 0)) rfl) rfl ⟨rfl, trivial⟩ ⟨rfl, trivial⟩ ?_
      refine G.op1 (op_fieldP (off' := 6) Try.underlying32 rfl ti25 (by decide) rfl (Ev.t 4 (.ptr 1004 0)) rfl) rfl ⟨rfl, trivial⟩ trivial ?_
      refine G.op1 (op_loadAP (ds := [.v (.int .i64 q_1.Stable.N), .v (.int .i64 q_1.Stable.Site)]) Try.underlying25 rfl ti25 rfl (Ev.t 95 (.ptr 1004 6)) rfl) rfl ⟨rfl, trivial⟩ ⟨rfl, trivial⟩ ?_
      obtain ⟨r9, hr9, hF⟩ := bindS hF
      refine G.op1 (op_callQ (sv := .one (bB r9)) cf16 (ct_ref03_Less at_2 q_1.Stable r9 hr9) rfl rfl (EvQL.cons (EvQ.g (Ev.t 94 (.g (.agg [.v (.int .i64 at_2.N), .v (.int .i64 at_2.Site)])))) (EvQL.cons (EvQ.g (Ev.t 96 (.g (.agg [.v (.int .i64 q_1.Stable.N), .v (.int .i64 q_1.Stable.Site)])))) EvQL.nil)) rfl) rfl ⟨rfl, rfl, trivial⟩ trivial ?_
      refine G.op1 (op_not (Ev.t 97 (bB r9)) rfl) rfl ⟨rfl, trivial⟩ trivial ?_
      refine G.endOps ?_
      refine G.joinC (T := Unit) (fun y10 => ⟨[(4, .one (.ptr 1004 0)), (7, .one (bB r1)), (8, .one (.g (.d (.sl 6 (List.map encApi_Version r2))))), (9, .one (.g (.d (.sl 6 (List.map encApi_Version r4))))), (11, .one (bB r5.2)), (13, .one (bB r6.2)), (14, .one (bB r7))], [(1004, some (.blk 32 [bS q_1.Version.Key, bS q_1.Version.Value, bB q_1.Version.Gone, bI .i64 q_1.Version.Stamp.N, bI .i64 q_1.Version.Stamp.Site, .g (.d (.sl 3 (List.map encApi_Dep q_1.Version.Past))), bI .i64 q_1.Stable.N, bI .i64 q_1.Stable.Site, .g (.d (.sl 2 (List.map encApi_Stamp y3)))]))]⟩) (fun y10 => law12_ChainClean_k3 q_1 r1 r2 y3 r4 r5 r6 r7 y10 = some r) (fun y10 hF => ?_) (fun J25 => ?_)
      · unfold law12_ChainClean_k3 at hF
        refine G.seq ?_
        refine G.region ?_
        refine G.op1 (op_move (Ev.t 9 (.g (.d (.sl 6 (List.map encApi_Version r4))))) rfl) rfl ⟨rfl, trivial⟩ trivial ?_
        refine G.op1 (op_fieldP (off' := 6) Try.underlying32 rfl ti25 (by decide) rfl (Ev.t 4 (.ptr 1004 0)) rfl) rfl ⟨rfl, trivial⟩ trivial ?_
        refine G.op1 (op_loadAP (ds := [.v (.int .i64 q_1.Stable.N), .v (.int .i64 q_1.Stable.Site)]) Try.underlying25 rfl ti25 rfl (Ev.t 122 (.ptr 1004 6)) rfl) rfl ⟨rfl, trivial⟩ ⟨rfl, trivial⟩ ?_
        refine G.op1 (op_fieldP (off' := 8) Try.underlying32 rfl ti30 (by decide) rfl (Ev.t 4 (.ptr 1004 0)) rfl) rfl ⟨rfl, trivial⟩ trivial ?_
        refine G.op1 (op_load1P (c := .g (.d (.sl 2 (List.map encApi_Stamp y3)))) Try.underlying30 rfl rfl (Ev.t 124 (.ptr 1004 8)) rfl) rfl ⟨rfl, trivial⟩ ⟨rfl, trivial⟩ ?_
        obtain ⟨r11, hr11, hF⟩ := bindS hF
        refine G.op1 (op_call (sv := .one (.g (.d (.sl 6 (List.map encApi_Version r11))))) cf12 (ct_chain_Clean r4 q_1.Stable y3 r11 hr11) rfl (EvL.cons (Ev.t 121 (.g (.d (.sl 6 (List.map encApi_Version r4))))) (EvL.cons (Ev.t 123 (.g (.agg [.v (.int .i64 q_1.Stable.N), .v (.int .i64 q_1.Stable.Site)]))) (EvL.cons (Ev.t 125 (.g (.d (.sl 2 (List.map encApi_Stamp y3))))) EvL.nil))) rfl) rfl ⟨rfl, rfl, rfl, trivial⟩ trivial ?_
        refine G.op1 (op_move (Ev.t 9 (.g (.d (.sl 6 (List.map encApi_Version r4))))) rfl) rfl ⟨rfl, trivial⟩ trivial ?_
        obtain ⟨r12, hr12, hF⟩ := bindS hF
        refine G.op1 (op_callQ (sv := .one (bB r12)) cf18 (ct_ref12_Same r11 r4 r12 hr12) rfl rfl (EvQL.cons (EvQ.g (Ev.t 126 (.g (.d (.sl 6 (List.map encApi_Version r11)))))) (EvQL.cons (EvQ.g (Ev.t 127 (.g (.d (.sl 6 (List.map encApi_Version r4)))))) EvQL.nil)) rfl) rfl ⟨rfl, rfl, trivial⟩ trivial ?_
        refine G.op1 (op_assign (Ev.t 128 (bB r12)) rfl) rfl ⟨rfl, trivial⟩ trivial ?_
        refine G.endOps ?_
        refine G.seq ?_
        refine G.region ?_
        refine G.op1 (op_move (Ev.t 7 (bB r1)) rfl) rfl ⟨rfl, trivial⟩ trivial ?_
        refine G.op1 (op_move (Ev.t 129 (bB r1)) rfl) rfl ⟨rfl, trivial⟩ trivial ?_
        refine G.joinL (T := Bool) 2 (fun y13 => ⟨[(8, .one (.g (.d (.sl 6 (List.map encApi_Version r2))))), (9, .one (.g (.d (.sl 6 (List.map encApi_Version r4))))), (11, .one (bB r5.2)), (13, .one (bB r6.2)), (26, .one (bB r12)), (132, .one (bB y13))], []⟩) (fun y13 => law12_ChainClean_k4 r2 r4 r5 r6 r12 y13 = some r) (fun y13 hF => ?_) (fun J23 => ?_)
        · unfold law12_ChainClean_k4 at hF
          refine G.op1 (op_move (Ev.t 132 (bB y13)) rfl) rfl ⟨rfl, trivial⟩ trivial ?_
          refine G.joinL (T := Bool) 4 (fun y14 => ⟨[(8, .one (.g (.d (.sl 6 (List.map encApi_Version r2))))), (9, .one (.g (.d (.sl 6 (List.map encApi_Version r4))))), (26, .one (bB r12)), (137, .one (bB y14))], []⟩) (fun y14 => law12_ChainClean_k5 r2 r4 r12 y14 = some r) (fun y14 hF => ?_) (fun J21 => ?_)
          · unfold law12_ChainClean_k5 at hF
            refine G.op1 (op_move (Ev.t 137 (bB y14)) rfl) rfl ⟨rfl, trivial⟩ trivial ?_
            refine G.joinL (T := Bool) 2 (fun y15 => ⟨[(8, .one (.g (.d (.sl 6 (List.map encApi_Version r2))))), (9, .one (.g (.d (.sl 6 (List.map encApi_Version r4))))), (140, .one (bB y15))], []⟩) (fun y15 => law12_ChainClean_k6 r2 r4 y15 = some r) (fun y15 hF => ?_) (fun J19 => ?_)
            · unfold law12_ChainClean_k6 at hF
              refine G.op1 (op_move (Ev.t 140 (bB y15)) rfl) rfl ⟨rfl, trivial⟩ trivial ?_
              refine ifS hF (fun hc16 hF => ?_) (fun hc16 hF => ?_)
              · refine G.known (t := 141) hc16 rfl ?_
                refine G.opG1 (op_move (Ev.t 9 (.g (.d (.sl 6 (List.map encApi_Version r4))))) rfl) rfl rfl rfl ⟨rfl, trivial⟩ trivial ?_
                refine G.opG1 (OpL.cast (op_lenD Try.underlying22 (Ev.t 142 (.g (.d (.sl 6 (List.map encApi_Version r4))))) rfl) (by rw [List.length_map])) rfl rfl rfl ⟨rfl, trivial⟩ trivial ?_
                refine G.opG1 (op_move (Ev.t 8 (.g (.d (.sl 6 (List.map encApi_Version r2))))) rfl) rfl rfl rfl ⟨rfl, trivial⟩ trivial ?_
                refine G.opG1 (OpL.cast (op_lenD Try.underlying22 (Ev.t 144 (.g (.d (.sl 6 (List.map encApi_Version r2))))) rfl) (by rw [List.length_map])) rfl rfl rfl ⟨rfl, trivial⟩ trivial ?_
                refine G.opG1 (op_leq (Ev.t 143 (bI .i64 (r4.length : Int))) (Ev.t 145 (bI .i64 (r2.length : Int))) rfl) rfl rfl rfl ⟨rfl, rfl, trivial⟩ trivial ?_
                refine G.op1 (op_pickT (Ev.t 141 (bB true)) (Ev.t 146 (bB (decide ((r4.length : Int) ≤ (r2.length : Int))))) rfl) rfl ⟨rfl, rfl, trivial⟩ trivial ?_
                refine G.op1 (op_move (Ev.t 147 (bB (decide ((r4.length : Int) ≤ (r2.length : Int))))) rfl) rfl ⟨rfl, trivial⟩ trivial ?_
                refine ifS hF (fun hc17 hF => ?_) (fun hc17 hF => ?_)
                · refine G.known (t := 148) hc17 rfl ?_
                  refine G.opG1 (op_move (Ev.t 9 (.g (.d (.sl 6 (List.map encApi_Version r4))))) rfl) rfl rfl rfl ⟨rfl, trivial⟩ trivial ?_
                  obtain ⟨r18, hr18, hF⟩ := bindS hF
                  refine G.opG1 (op_callQ (sv := .one (bB r18)) cf9 (ct_chain_Check r4 r18 hr18) rfl rfl (EvQL.cons (EvQ.g (Ev.t 149 (.g (.d (.sl 6 (List.map encApi_Version r4)))))) EvQL.nil) rfl) rfl rfl rfl ⟨rfl, trivial⟩ trivial ?_
                  refine G.op1 (op_pickT (Ev.t 148 (bB true)) (Ev.t 150 (bB r18)) rfl) rfl ⟨rfl, rfl, trivial⟩ trivial ?_
                  refine G.op1 (op_assign (Ev.t 151 (bB r18)) rfl) rfl ⟨rfl, trivial⟩ trivial ?_
                  refine G.endOps ?_
                  cases hF
                  exact G.ret1 Try.results4 (RVar.tmp 6 _) ⟨rfl, trivial⟩ trivial
                · refine G.known (t := 148) hc17 rfl ?_
                  refine G.opN1 rfl rfl rfl rfl rfl ?_
                  refine G.opN1 rfl rfl rfl rfl rfl ?_
                  refine G.op1 (op_pickF (Ev.t 148 (bB false)) (Ev.c _ rfl) rfl) rfl ⟨rfl, trivial⟩ trivial ?_
                  refine G.op1 (op_assign (Ev.t 151 (bB false)) rfl) rfl ⟨rfl, trivial⟩ trivial ?_
                  refine G.endOps ?_
                  cases hF
                  exact G.ret1 Try.results4 (RVar.tmp 6 _) ⟨rfl, trivial⟩ trivial
              · refine G.known (t := 141) hc16 rfl ?_
                refine G.opN1 rfl rfl rfl rfl rfl ?_
                refine G.opN1 rfl rfl rfl rfl rfl ?_
                refine G.opN1 rfl rfl rfl rfl rfl ?_
                refine G.opN1 rfl rfl rfl rfl rfl ?_
                refine G.opN1 rfl rfl rfl rfl rfl ?_
                refine G.op1 (op_pickF (Ev.t 141 (bB false)) (Ev.c _ rfl) rfl) rfl ⟨rfl, trivial⟩ trivial ?_
                refine G.op1 (op_move (Ev.t 147 (bB false)) rfl) rfl ⟨rfl, trivial⟩ trivial ?_
                refine G.opN1 rfl rfl rfl rfl rfl ?_
                refine G.opN1 rfl rfl rfl rfl rfl ?_
                refine G.op1 (op_pickF (Ev.t 148 (bB false)) (Ev.c _ rfl) rfl) rfl ⟨rfl, trivial⟩ trivial ?_
                refine G.op1 (op_assign (Ev.t 151 (bB false)) rfl) rfl ⟨rfl, trivial⟩ trivial ?_
                refine G.endOps ?_
                cases hF
                exact G.ret1 Try.results4 (RVar.tmp 6 _) ⟨rfl, trivial⟩ trivial
            refine ifS hF (fun hc20 hF => ?_) (fun hc20 hF => ?_)
            · refine G.known (t := 138) hc20 rfl ?_
              refine G.opG1 (op_move (Ev.t 26 (bB r12)) rfl) rfl rfl rfl ⟨rfl, trivial⟩ trivial ?_
              refine G.op1 (op_pickT (Ev.t 138 (bB true)) (Ev.t 139 (bB r12)) rfl) rfl ⟨rfl, rfl, trivial⟩ trivial ?_
              exact G.arr (J19 r12 hF) ⟨rfl, rfl, rfl, trivial⟩ trivial rfl
            · refine G.known (t := 138) hc20 rfl ?_
              refine G.opN1 rfl rfl rfl rfl rfl ?_
              refine G.op1 (op_pickF (Ev.t 138 (bB false)) (Ev.c _ rfl) rfl) rfl ⟨rfl, trivial⟩ trivial ?_
              exact G.arr (J19 false hF) ⟨rfl, rfl, rfl, trivial⟩ trivial rfl
          refine ifS hF (fun hc22 hF => ?_) (fun hc22 hF => ?_)
          · refine G.known (t := 133) hc22 rfl ?_
            refine G.opG1 (op_move (Ev.t 11 (bB r5.2)) rfl) rfl rfl rfl ⟨rfl, trivial⟩ trivial ?_
            refine G.opG1 (op_move (Ev.t 13 (bB r6.2)) rfl) rfl rfl rfl ⟨rfl, trivial⟩ trivial ?_
            refine G.opG1 (op_eqB Try.underlying4 (Ev.t 134 (bB r5.2)) (Ev.t 135 (bB r6.2)) rfl) rfl rfl rfl ⟨rfl, rfl, trivial⟩ trivial ?_
            refine G.op1 (op_pickT (Ev.t 133 (bB true)) (Ev.t 136 (bB (r5.2 == r6.2))) rfl) rfl ⟨rfl, rfl, trivial⟩ trivial ?_
            exact G.arr (J21 (r5.2 == r6.2) hF) ⟨rfl, rfl, rfl, rfl, trivial⟩ trivial rfl
          · refine G.known (t := 133) hc22 rfl ?_
            refine G.opN1 rfl rfl rfl rfl rfl ?_
            refine G.opN1 rfl rfl rfl rfl rfl ?_
            refine G.opN1 rfl rfl rfl rfl rfl ?_
            refine G.op1 (op_pickF (Ev.t 133 (bB false)) (Ev.c _ rfl) rfl) rfl ⟨rfl, trivial⟩ trivial ?_
            exact G.arr (J21 false hF) ⟨rfl, rfl, rfl, rfl, trivial⟩ trivial rfl
        refine ifS hF (fun hc24 hF => ?_) (fun hc24 hF => ?_)
        · refine G.known (t := 130) hc24 rfl ?_
          refine G.opG1 (op_move (Ev.t 14 (bB r7)) rfl) rfl rfl rfl ⟨rfl, trivial⟩ trivial ?_
          refine G.op1 (op_pickT (Ev.t 130 (bB true)) (Ev.t 131 (bB r7)) rfl) rfl ⟨rfl, rfl, trivial⟩ trivial ?_
          exact G.arr (J23 r7 hF) ⟨rfl, rfl, rfl, rfl, rfl, rfl, trivial⟩ trivial rfl
        · refine G.known (t := 130) hc24 rfl ?_
          refine G.opN1 rfl rfl rfl rfl rfl ?_
          refine G.op1 (op_pickF (Ev.t 130 (bB false)) (Ev.c _ rfl) rfl) rfl ⟨rfl, trivial⟩ trivial ?_
          exact G.arr (J23 false hF) ⟨rfl, rfl, rfl, rfl, rfl, rfl, trivial⟩ trivial rfl
      refine ifS hF (fun hc26 hF => ?_) (fun hc26 hF => ?_)
      · refine G.cond rfl (fun _ => ?_) (fun hx => by rw [hc26] at hx; cases hx)
        refine G.seq ?_
        refine G.region ?_
        refine G.op1 (op_move (Ev.t 8 (.g (.d (.sl 6 (List.map encApi_Version r2))))) rfl) rfl ⟨rfl, trivial⟩ trivial ?_
        refine G.op1 (op_loadAP (ds := [.v (.int .i64 at_2.N), .v (.int .i64 at_2.Site)]) Try.underlying25 rfl ti25 rfl (Ev.t 5 (.ptr 1005 0)) rfl) rfl ⟨rfl, trivial⟩ ⟨rfl, trivial⟩ ?_
        obtain ⟨r27, hr27, hF⟩ := bindS hF
        refine G.op1 (op_call (sv := .tup [.g (.agg [.v (.string r27.1.Key), .v (.string r27.1.Value), .v (.bool r27.1.Gone), .v (.int .i64 r27.1.Stamp.N), .v (.int .i64 r27.1.Stamp.Site), .sl 3 (List.map encApi_Dep r27.1.Past)]), bB r27.2]) cf17 (ct_chain_Below r2 at_2 r27 hr27) rfl (EvL.cons (Ev.t 100 (.g (.d (.sl 6 (List.map encApi_Version r2))))) (EvL.cons (Ev.t 101 (.g (.agg [.v (.int .i64 at_2.N), .v (.int .i64 at_2.Site)]))) EvL.nil)) rfl) rfl ⟨rfl, rfl, trivial⟩ trivial ?_
        refine G.op1 (op_moveS (t := 102) (sv := .tup [.g (.agg [.v (.string r27.1.Key), .v (.string r27.1.Value), .v (.bool r27.1.Gone), .v (.int .i64 r27.1.Stamp.N), .v (.int .i64 r27.1.Stamp.Site), .sl 3 (List.map encApi_Dep r27.1.Past)]), bB r27.2]) rfl) rfl ⟨rfl, trivial⟩ trivial ?_
        refine G.op1 (op_extract (l := [.g (.agg [.v (.string r27.1.Key), .v (.string r27.1.Value), .v (.bool r27.1.Gone), .v (.int .i64 r27.1.Stamp.N), .v (.int .i64 r27.1.Stamp.Site), .sl 3 (List.map encApi_Dep r27.1.Past)]), bB r27.2]) (c := .g (.agg [.v (.string r27.1.Key), .v (.string r27.1.Value), .v (.bool r27.1.Gone), .v (.int .i64 r27.1.Stamp.N), .v (.int .i64 r27.1.Stamp.Site), .sl 3 (List.map encApi_Dep r27.1.Past)])) rfl rfl) rfl ⟨rfl, trivial⟩ trivial ?_
        refine G.op1 (op_extract (l := [.g (.agg [.v (.string r27.1.Key), .v (.string r27.1.Value), .v (.bool r27.1.Gone), .v (.int .i64 r27.1.Stamp.N), .v (.int .i64 r27.1.Stamp.Site), .sl 3 (List.map encApi_Dep r27.1.Past)]), bB r27.2]) (c := bB r27.2) rfl rfl) rfl ⟨rfl, trivial⟩ trivial ?_
        refine G.op2 (op_alloc (k := 1021) (cs := [bS ByteArray.empty, bS ByteArray.empty, bB false, bI .i64 0, bI .i64 0, .g (.d (.sl 3 (List.map encApi_Dep ([] : (List Api_Dep)))))]) ti28 ⟨.v _ rfl, .v _ rfl, .v _ rfl, .v _ rfl, .v _ rfl, .n 3, trivial⟩ rfl) rfl trivial ⟨rfl, trivial⟩ ?_
        refine G.op3 (op_storeA (cs' := [bS r27.1.Key, bS r27.1.Value, bB r27.1.Gone, bI .i64 r27.1.Stamp.N, bI .i64 r27.1.Stamp.Site, .g (.d (.sl 3 (List.map encApi_Dep r27.1.Past)))]) ti28 rfl rfl (Ev.t 21 (.ptr 1021 0)) (Ev.t 103 (.g (.agg [.v (.string r27.1.Key), .v (.string r27.1.Value), .v (.bool r27.1.Gone), .v (.int .i64 r27.1.Stamp.N), .v (.int .i64 r27.1.Stamp.Site), .sl 3 (List.map encApi_Dep r27.1.Past)])))) rfl ⟨rfl, rfl, trivial⟩ ⟨rfl, trivial⟩ ?_
        refine G.op1 (op_assign (Ev.t 104 (bB r27.2)) rfl) rfl ⟨rfl, trivial⟩ trivial ?_
        refine G.endOps ?_
        refine G.seq ?_
        refine G.region ?_
        refine G.op1 (op_move (Ev.t 9 (.g (.d (.sl 6 (List.map encApi_Version r4))))) rfl) rfl ⟨rfl, trivial⟩ trivial ?_
        refine G.op1 (op_loadAP (ds := [.v (.int .i64 at_2.N), .v (.int .i64 at_2.Site)]) Try.underlying25 rfl ti25 rfl (Ev.t 5 (.ptr 1005 0)) rfl) rfl ⟨rfl, trivial⟩ ⟨rfl, trivial⟩ ?_
        obtain ⟨r28, hr28, hF⟩ := bindS hF
        refine G.op1 (op_call (sv := .tup [.g (.agg [.v (.string r28.1.Key), .v (.string r28.1.Value), .v (.bool r28.1.Gone), .v (.int .i64 r28.1.Stamp.N), .v (.int .i64 r28.1.Stamp.Site), .sl 3 (List.map encApi_Dep r28.1.Past)]), bB r28.2]) cf17 (ct_chain_Below r4 at_2 r28 hr28) rfl (EvL.cons (Ev.t 106 (.g (.d (.sl 6 (List.map encApi_Version r4))))) (EvL.cons (Ev.t 107 (.g (.agg [.v (.int .i64 at_2.N), .v (.int .i64 at_2.Site)]))) EvL.nil)) rfl) rfl ⟨rfl, rfl, trivial⟩ trivial ?_
        refine G.op1 (op_moveS (t := 108) (sv := .tup [.g (.agg [.v (.string r28.1.Key), .v (.string r28.1.Value), .v (.bool r28.1.Gone), .v (.int .i64 r28.1.Stamp.N), .v (.int .i64 r28.1.Stamp.Site), .sl 3 (List.map encApi_Dep r28.1.Past)]), bB r28.2]) rfl) rfl ⟨rfl, trivial⟩ trivial ?_
        refine G.op1 (op_extract (l := [.g (.agg [.v (.string r28.1.Key), .v (.string r28.1.Value), .v (.bool r28.1.Gone), .v (.int .i64 r28.1.Stamp.N), .v (.int .i64 r28.1.Stamp.Site), .sl 3 (List.map encApi_Dep r28.1.Past)]), bB r28.2]) (c := .g (.agg [.v (.string r28.1.Key), .v (.string r28.1.Value), .v (.bool r28.1.Gone), .v (.int .i64 r28.1.Stamp.N), .v (.int .i64 r28.1.Stamp.Site), .sl 3 (List.map encApi_Dep r28.1.Past)])) rfl rfl) rfl ⟨rfl, trivial⟩ trivial ?_
        refine G.op1 (op_extract (l := [.g (.agg [.v (.string r28.1.Key), .v (.string r28.1.Value), .v (.bool r28.1.Gone), .v (.int .i64 r28.1.Stamp.N), .v (.int .i64 r28.1.Stamp.Site), .sl 3 (List.map encApi_Dep r28.1.Past)]), bB r28.2]) (c := bB r28.2) rfl rfl) rfl ⟨rfl, trivial⟩ trivial ?_
        refine G.op2 (op_alloc (k := 1023) (cs := [bS ByteArray.empty, bS ByteArray.empty, bB false, bI .i64 0, bI .i64 0, .g (.d (.sl 3 (List.map encApi_Dep ([] : (List Api_Dep)))))]) ti28 ⟨.v _ rfl, .v _ rfl, .v _ rfl, .v _ rfl, .v _ rfl, .n 3, trivial⟩ rfl) rfl trivial ⟨rfl, trivial⟩ ?_
        refine G.op3 (op_storeA (cs' := [bS r28.1.Key, bS r28.1.Value, bB r28.1.Gone, bI .i64 r28.1.Stamp.N, bI .i64 r28.1.Stamp.Site, .g (.d (.sl 3 (List.map encApi_Dep r28.1.Past)))]) ti28 rfl rfl (Ev.t 23 (.ptr 1023 0)) (Ev.t 109 (.g (.agg [.v (.string r28.1.Key), .v (.string r28.1.Value), .v (.bool r28.1.Gone), .v (.int .i64 r28.1.Stamp.N), .v (.int .i64 r28.1.Stamp.Site), .sl 3 (List.map encApi_Dep r28.1.Past)])))) rfl ⟨rfl, rfl, trivial⟩ ⟨rfl, trivial⟩ ?_
        refine G.op1 (op_assign (Ev.t 110 (bB r28.2)) rfl) rfl ⟨rfl, trivial⟩ trivial ?_
        refine G.endOps ?_
        refine G.seq ?_
        refine G.region ?_
        refine G.op1 (op_loadAP (ds := [.v (.string r27.1.Key), .v (.string r27.1.Value), .v (.bool r27.1.Gone), .v (.int .i64 r27.1.Stamp.N), .v (.int .i64 r27.1.Stamp.Site), .sl 3 (List.map encApi_Dep r27.1.Past)]) Try.underlying28 rfl ti28 rfl (Ev.t 21 (.ptr 1021 0)) rfl) rfl ⟨rfl, trivial⟩ ⟨rfl, trivial⟩ ?_
        refine G.op1 (op_loadAP (ds := [.v (.string r28.1.Key), .v (.string r28.1.Value), .v (.bool r28.1.Gone), .v (.int .i64 r28.1.Stamp.N), .v (.int .i64 r28.1.Stamp.Site), .sl 3 (List.map encApi_Dep r28.1.Past)]) Try.underlying28 rfl ti28 rfl (Ev.t 23 (.ptr 1023 0)) rfl) rfl ⟨rfl, trivial⟩ ⟨rfl, trivial⟩ ?_
        obtain ⟨r29, hr29, hF⟩ := bindS hF
        refine G.op1 (op_callQ (sv := .one (bB r29)) cf14 (ct_ref06_Same r27.1 r28.1 r29 hr29) rfl rfl (EvQL.cons (EvQ.g (Ev.t 111 (.g (.agg [.v (.string r27.1.Key), .v (.string r27.1.Value), .v (.bool r27.1.Gone), .v (.int .i64 r27.1.Stamp.N), .v (.int .i64 r27.1.Stamp.Site), .sl 3 (List.map encApi_Dep r27.1.Past)])))) (EvQL.cons (EvQ.g (Ev.t 112 (.g (.agg [.v (.string r28.1.Key), .v (.string r28.1.Value), .v (.bool r28.1.Gone), .v (.int .i64 r28.1.Stamp.N), .v (.int .i64 r28.1.Stamp.Site), .sl 3 (List.map encApi_Dep r28.1.Past)])))) EvQL.nil)) rfl) rfl ⟨rfl, rfl, trivial⟩ trivial ?_
        refine G.op1 (op_assign (Ev.t 113 (bB r29)) rfl) rfl ⟨rfl, trivial⟩ trivial ?_
        refine G.endOps ?_
        refine G.seq ?_
        refine G.region ?_
        refine G.op1 (op_move (Ev.t 22 (bB r27.2)) rfl) rfl ⟨rfl, trivial⟩ trivial ?_
        refine G.op1 (op_move (Ev.t 24 (bB r28.2)) rfl) rfl ⟨rfl, trivial⟩ trivial ?_
        refine G.op1 (op_neB Try.underlying4 (Ev.t 114 (bB r27.2)) (Ev.t 115 (bB r28.2)) rfl) rfl ⟨rfl, rfl, trivial⟩ trivial ?_
        refine G.op1 (op_move (Ev.t 116 (bB (!(r27.2 == r28.2)))) rfl) rfl ⟨rfl, trivial⟩ trivial ?_
        refine ifS hF (fun hc30 hF => ?_) (fun hc30 hF => ?_)
        · refine G.known (t := 117) hc30 rfl ?_
          refine G.opN1 rfl rfl rfl rfl rfl ?_
          refine G.opN1 rfl rfl rfl rfl rfl ?_
          refine G.op1 (op_pickT (Ev.t 117 (bB true)) (Ev.c _ rfl) rfl) rfl ⟨rfl, trivial⟩ trivial ?_
          refine G.endOps ?_
          refine G.condT rfl ?_
          refine G.seq ?_
          refine G.region ?_
          refine G.op1 (op_assign (Ev.c _ rfl) rfl) rfl trivial trivial ?_
          refine G.endOps ?_
          cases hF
          exact G.ret1 Try.results4 (RVar.tmp 6 _) ⟨rfl, trivial⟩ trivial
        · refine G.known (t := 117) hc30 rfl ?_
          refine G.opG1 (op_move (Ev.t 25 (bB r29)) rfl) rfl rfl rfl ⟨rfl, trivial⟩ trivial ?_
          refine G.opG1 (op_not (Ev.t 118 (bB r29)) rfl) rfl rfl rfl ⟨rfl, trivial⟩ trivial ?_
          refine G.op1 (op_pickF (Ev.t 117 (bB false)) (Ev.t 119 (bB (!r29))) rfl) rfl ⟨rfl, rfl, trivial⟩ trivial ?_
          refine G.endOps ?_
          refine ifS hF (fun hc31 hF => ?_) (fun hc31 hF => ?_)
          · refine G.cond rfl (fun _ => ?_) (fun hx => by rw [hc31] at hx; cases hx)
            refine G.seq ?_
            refine G.region ?_
            refine G.op1 (op_assign (Ev.c _ rfl) rfl) rfl trivial trivial ?_
            refine G.endOps ?_
            cases hF
            exact G.ret1 Try.results4 (RVar.tmp 6 _) ⟨rfl, trivial⟩ trivial
          · refine G.cond rfl (fun hx => by rw [hc31] at hx; cases hx) (fun _ => ?_)
            refine G.skip ?_
            exact G.arr (J25 () hF) ⟨rfl, rfl, rfl, rfl, rfl, rfl, rfl, trivial⟩ ⟨rfl, trivial⟩ rfl
      · refine G.cond rfl (fun hx => by rw [hc26] at hx; cases hx) (fun _ => ?_)
        refine G.skip ?_
        exact G.arr (J25 () hF) ⟨rfl, rfl, rfl, rfl, rfl, rfl, rfl, trivial⟩ ⟨rfl, trivial⟩ rfl
    refine G.block ?_
    refine G.keep (sl' := [(4, .one (.ptr 1004 0)), (5, .one (.ptr 1005 0)), (7, .one (bB r1)), (8, .one (.g (.d (.sl 6 (List.map encApi_Version r2))))), (9, .one (.g (.d (.sl 6 (List.map encApi_Version r4))))), (11, .one (bB r5.2)), (13, .one (bB r6.2)), (14, .one (bB r7)), (15, .one (bI .i64 0))]) (hp' := [(1004, some (.blk 32 [bS q_1.Version.Key, bS q_1.Version.Value, bB q_1.Version.Gone, bI .i64 q_1.Version.Stamp.N, bI .i64 q_1.Version.Stamp.Site, .g (.d (.sl 3 (List.map encApi_Dep q_1.Version.Past))), bI .i64 q_1.Stable.N, bI .i64 q_1.Stable.Site, .g (.d (.sl 2 (List.map encApi_Stamp y3)))])), (1005, some (.blk 25 [bI .i64 at_2.N, bI .i64 at_2.Site]))]) ⟨rfl, rfl, rfl, rfl, rfl, rfl, rfl, rfl, rfl, trivial⟩ ⟨rfl, rfl, trivial⟩ rfl ?_
    refine G.loopF (fun (v33 : Int) => ⟨[(4, .one (.ptr 1004 0)), (5, .one (.ptr 1005 0)), (7, .one (bB r1)), (8, .one (.g (.d (.sl 6 (List.map encApi_Version r2))))), (9, .one (.g (.d (.sl 6 (List.map encApi_Version r4))))), (11, .one (bB r5.2)), (13, .one (bB r6.2)), (14, .one (bB r7)), (15, .one (bI .i64 v33))], [(1004, some (.blk 32 [bS q_1.Version.Key, bS q_1.Version.Value, bB q_1.Version.Gone, bI .i64 q_1.Version.Stamp.N, bI .i64 q_1.Version.Stamp.Site, .g (.d (.sl 3 (List.map encApi_Dep q_1.Version.Past))), bI .i64 q_1.Stable.N, bI .i64 q_1.Stable.Site, .g (.d (.sl 2 (List.map encApi_Stamp y3)))])), (1005, some (.blk 25 [bI .i64 at_2.N, bI .i64 at_2.Site]))]⟩) hF rfl (fun K36 again35 v33 J34 hF => ?_)
    unfold law12_ChainClean_l7 at hF
    refine G.seq ?_
    refine G.seq ?_
    refine G.region ?_
    refine G.op1 (op_move (Ev.t 15 (bI .i64 v33)) rfl) rfl ⟨rfl, trivial⟩ trivial ?_
    refine G.op1 (op_fieldP (off' := 8) Try.underlying32 rfl ti30 (by decide) rfl (Ev.t 4 (.ptr 1004 0)) rfl) rfl ⟨rfl, trivial⟩ trivial ?_
    refine G.op1 (op_load1P (c := .g (.d (.sl 2 (List.map encApi_Stamp y3)))) Try.underlying30 rfl rfl (Ev.t 58 (.ptr 1004 8)) rfl) rfl ⟨rfl, trivial⟩ ⟨rfl, trivial⟩ ?_
    refine G.op1 (OpL.cast (op_lenD Try.underlying30 (Ev.t 59 (.g (.d (.sl 2 (List.map encApi_Stamp y3))))) rfl) (by rw [List.length_map])) rfl ⟨rfl, trivial⟩ trivial ?_
    refine G.op1 (op_lss (Ev.t 57 (bI .i64 v33)) (Ev.t 60 (bI .i64 (y3.length : Int))) rfl) rfl ⟨rfl, rfl, trivial⟩ trivial ?_
    refine G.endOps ?_
    refine ifS hF (fun hc37 hF => ?_) (fun hc37 hF => ?_)
    · refine G.cond rfl (fun _ => ?_) (fun hx => by rw [hc37] at hx; cases hx)
      refine G.skip ?_
      refine G.seq ?_
      refine G.block ?_
      refine G.seq ?_
      refine G.region ?_
      refine G.op1 (op_move (Ev.t 8 (.g (.d (.sl 6 (List.map encApi_Version r2))))) rfl) rfl ⟨rfl, trivial⟩ trivial ?_
      refine G.op1 (op_fieldP (off' := 8) Try.underlying32 rfl ti30 (by decide) rfl (Ev.t 4 (.ptr 1004 0)) rfl) rfl ⟨rfl, trivial⟩ trivial ?_
      refine G.op1 (op_load1P (c := .g (.d (.sl 2 (List.map encApi_Stamp y3)))) Try.underlying30 rfl rfl (Ev.t 66 (.ptr 1004 8)) rfl) rfl ⟨rfl, trivial⟩ ⟨rfl, trivial⟩ ?_
      refine G.op1 (op_move (Ev.t 15 (bI .i64 v33)) rfl) rfl ⟨rfl, trivial⟩ trivial ?_
      obtain ⟨x38, hx38, hF⟩ := bindS hF
      refine G.op1 (op_index (cs := [.v (.int .i64 x38.N), .v (.int .i64 x38.Site)]) Try.underlying30 ti25 (idx_ok hx38).1 (idx_get hx38 encApi_Stamp) (Ev.t 67 (.g (.d (.sl 2 (List.map encApi_Stamp y3))))) (Ev.t 68 (bI .i64 v33)) rfl) rfl ⟨rfl, rfl, trivial⟩ trivial ?_
      refine G.op1 (op_loadAE (ds := [.v (.int .i64 x38.N), .v (.int .i64 x38.Site)]) Try.underlying25 rfl ti25 rfl (Ev.t 69 (.ep [.v (.int .i64 x38.N), .v (.int .i64 x38.Site)])) rfl) rfl ⟨rfl, trivial⟩ trivial ?_
      obtain ⟨r39, hr39, hF⟩ := bindS hF
      refine G.op1 (op_call (sv := .tup [.g (.agg [.v (.string r39.1.Key), .v (.string r39.1.Value), .v (.bool r39.1.Gone), .v (.int .i64 r39.1.Stamp.N), .v (.int .i64 r39.1.Stamp.Site), .sl 3 (List.map encApi_Dep r39.1.Past)]), bB r39.2]) cf15 (ct_chain_At r2 x38 r39 hr39) rfl (EvL.cons (Ev.t 65 (.g (.d (.sl 6 (List.map encApi_Version r2))))) (EvL.cons (Ev.t 70 (.g (.agg [.v (.int .i64 x38.N), .v (.int .i64 x38.Site)]))) EvL.nil)) rfl) rfl ⟨rfl, rfl, trivial⟩ trivial ?_
      refine G.op1 (op_moveS (t := 71) (sv := .tup [.g (.agg [.v (.string r39.1.Key), .v (.string r39.1.Value), .v (.bool r39.1.Gone), .v (.int .i64 r39.1.Stamp.N), .v (.int .i64 r39.1.Stamp.Site), .sl 3 (List.map encApi_Dep r39.1.Past)]), bB r39.2]) rfl) rfl ⟨rfl, trivial⟩ trivial ?_
      refine G.op1 (op_extract (l := [.g (.agg [.v (.string r39.1.Key), .v (.string r39.1.Value), .v (.bool r39.1.Gone), .v (.int .i64 r39.1.Stamp.N), .v (.int .i64 r39.1.Stamp.Site), .sl 3 (List.map encApi_Dep r39.1.Past)]), bB r39.2]) (c := .g (.agg [.v (.string r39.1.Key), .v (.string r39.1.Value), .v (.bool r39.1.Gone), .v (.int .i64 r39.1.Stamp.N), .v (.int .i64 r39.1.Stamp.Site), .sl 3 (List.map encApi_Dep r39.1.Past)])) rfl rfl) rfl ⟨rfl, trivial⟩ trivial ?_
      refine G.op1 (op_extract (l := [.g (.agg [.v (.string r39.1.Key), .v (.string r39.1.Value), .v (.bool r39.1.Gone), .v (.int .i64 r39.1.Stamp.N), .v (.int .i64 r39.1.Stamp.Site), .sl 3 (List.map encApi_Dep r39.1.Past)]), bB r39.2]) (c := bB r39.2) rfl rfl) rfl ⟨rfl, trivial⟩ trivial ?_
      refine G.op2 (op_alloc (k := 1016) (cs := [bS ByteArray.empty, bS ByteArray.empty, bB false, bI .i64 0, bI .i64 0, .g (.d (.sl 3 (List.map encApi_Dep ([] : (List Api_Dep)))))]) ti28 ⟨.v _ rfl, .v _ rfl, .v _ rfl, .v _ rfl, .v _ rfl, .n 3, trivial⟩ rfl) rfl trivial ⟨rfl, trivial⟩ ?_
      refine G.op3 (op_storeA (cs' := [bS r39.1.Key, bS r39.1.Value, bB r39.1.Gone, bI .i64 r39.1.Stamp.N, bI .i64 r39.1.Stamp.Site, .g (.d (.sl 3 (List.map encApi_Dep r39.1.Past)))]) ti28 rfl rfl (Ev.t 16 (.ptr 1016 0)) (Ev.t 72 (.g (.agg [.v (.string r39.1.Key), .v (.string r39.1.Value), .v (.bool r39.1.Gone), .v (.int .i64 r39.1.Stamp.N), .v (.int .i64 r39.1.Stamp.Site), .sl 3 (List.map encApi_Dep r39.1.Past)])))) rfl ⟨rfl, rfl, trivial⟩ ⟨rfl, trivial⟩ ?_
      refine G.op1 (op_assign (Ev.t 73 (bB r39.2)) rfl) rfl ⟨rfl, trivial⟩ trivial ?_
      refine G.endOps ?_
      refine G.seq ?_
      refine G.region ?_
      refine G.op1 (op_move (Ev.t 9 (.g (.d (.sl 6 (List.map encApi_Version r4))))) rfl) rfl ⟨rfl, trivial⟩ trivial ?_
      refine G.op1 (op_fieldP (off' := 8) Try.underlying32 rfl ti30 (by decide) rfl (Ev.t 4 (.ptr 1004 0)) rfl) rfl ⟨rfl, trivial⟩ trivial ?_
      refine G.op1 (op_load1P (c := .g (.d (.sl 2 (List.map encApi_Stamp y3)))) Try.underlying30 rfl rfl (Ev.t 76 (.ptr 1004 8)) rfl) rfl ⟨rfl, trivial⟩ ⟨rfl, trivial⟩ ?_
      refine G.op1 (op_move (Ev.t 15 (bI .i64 v33)) rfl) rfl ⟨rfl, trivial⟩ trivial ?_
      obtain ⟨x40, hx40, hF⟩ := bindS hF
      refine G.op1 (op_index (cs := [.v (.int .i64 x40.N), .v (.int .i64 x40.Site)]) Try.underlying30 ti25 (idx_ok hx40).1 (idx_get hx40 encApi_Stamp) (Ev.t 77 (.g (.d (.sl 2 (List.map encApi_Stamp y3))))) (Ev.t 78 (bI .i64 v33)) rfl) rfl ⟨rfl, rfl, trivial⟩ trivial ?_
      refine G.op1 (op_loadAE (ds := [.v (.int .i64 x40.N), .v (.int .i64 x40.Site)]) Try.underlying25 rfl ti25 rfl (Ev.t 79 (.ep [.v (.int .i64 x40.N), .v (.int .i64 x40.Site)])) rfl) rfl ⟨rfl, trivial⟩ trivial ?_
      obtain ⟨r41, hr41, hF⟩ := bindS hF
      refine G.op1 (op_call (sv := .tup [.g (.agg [.v (.string r41.1.Key), .v (.string r41.1.Value), .v (.bool r41.1.Gone), .v (.int .i64 r41.1.Stamp.N), .v (.int .i64 r41.1.Stamp.Site), .sl 3 (List.map encApi_Dep r41.1.Past)]), bB r41.2]) cf15 (ct_chain_At r4 x40 r41 hr41) rfl (EvL.cons (Ev.t 75 (.g (.d (.sl 6 (List.map encApi_Version r4))))) (EvL.cons (Ev.t 80 (.g (.agg [.v (.int .i64 x40.N), .v (.int .i64 x40.Site)]))) EvL.nil)) rfl) rfl ⟨rfl, rfl, trivial⟩ trivial ?_
      refine G.op1 (op_moveS (t := 81) (sv := .tup [.g (.agg [.v (.string r41.1.Key), .v (.string r41.1.Value), .v (.bool r41.1.Gone), .v (.int .i64 r41.1.Stamp.N), .v (.int .i64 r41.1.Stamp.Site), .sl 3 (List.map encApi_Dep r41.1.Past)]), bB r41.2]) rfl) rfl ⟨rfl, trivial⟩ trivial ?_
      refine G.op1 (op_extract (l := [.g (.agg [.v (.string r41.1.Key), .v (.string r41.1.Value), .v (.bool r41.1.Gone), .v (.int .i64 r41.1.Stamp.N), .v (.int .i64 r41.1.Stamp.Site), .sl 3 (List.map encApi_Dep r41.1.Past)]), bB r41.2]) (c := .g (.agg [.v (.string r41.1.Key), .v (.string r41.1.Value), .v (.bool r41.1.Gone), .v (.int .i64 r41.1.Stamp.N), .v (.int .i64 r41.1.Stamp.Site), .sl 3 (List.map encApi_Dep r41.1.Past)])) rfl rfl) rfl ⟨rfl, trivial⟩ trivial ?_
      refine G.op1 (op_extract (l := [.g (.agg [.v (.string r41.1.Key), .v (.string r41.1.Value), .v (.bool r41.1.Gone), .v (.int .i64 r41.1.Stamp.N), .v (.int .i64 r41.1.Stamp.Site), .sl 3 (List.map encApi_Dep r41.1.Past)]), bB r41.2]) (c := bB r41.2) rfl rfl) rfl ⟨rfl, trivial⟩ trivial ?_
      refine G.op2 (op_alloc (k := 1018) (cs := [bS ByteArray.empty, bS ByteArray.empty, bB false, bI .i64 0, bI .i64 0, .g (.d (.sl 3 (List.map encApi_Dep ([] : (List Api_Dep)))))]) ti28 ⟨.v _ rfl, .v _ rfl, .v _ rfl, .v _ rfl, .v _ rfl, .n 3, trivial⟩ rfl) rfl trivial ⟨rfl, trivial⟩ ?_
      refine G.op3 (op_storeA (cs' := [bS r41.1.Key, bS r41.1.Value, bB r41.1.Gone, bI .i64 r41.1.Stamp.N, bI .i64 r41.1.Stamp.Site, .g (.d (.sl 3 (List.map encApi_Dep r41.1.Past)))]) ti28 rfl rfl (Ev.t 18 (.ptr 1018 0)) (Ev.t 82 (.g (.agg [.v (.string r41.1.Key), .v (.string r41.1.Value), .v (.bool r41.1.Gone), .v (.int .i64 r41.1.Stamp.N), .v (.int .i64 r41.1.Stamp.Site), .sl 3 (List.map encApi_Dep r41.1.Past)])))) rfl ⟨rfl, rfl, trivial⟩ ⟨rfl, trivial⟩ ?_
      refine G.op1 (op_assign (Ev.t 83 (bB r41.2)) rfl) rfl ⟨rfl, trivial⟩ trivial ?_
      refine G.endOps ?_
      refine G.seq ?_
      refine G.region ?_
      refine G.op1 (op_loadAP (ds := [.v (.string r39.1.Key), .v (.string r39.1.Value), .v (.bool r39.1.Gone), .v (.int .i64 r39.1.Stamp.N), .v (.int .i64 r39.1.Stamp.Site), .sl 3 (List.map encApi_Dep r39.1.Past)]) Try.underlying28 rfl ti28 rfl (Ev.t 16 (.ptr 1016 0)) rfl) rfl ⟨rfl, trivial⟩ ⟨rfl, trivial⟩ ?_
      refine G.op1 (op_loadAP (ds := [.v (.string r41.1.Key), .v (.string r41.1.Value), .v (.bool r41.1.Gone), .v (.int .i64 r41.1.Stamp.N), .v (.int .i64 r41.1.Stamp.Site), .sl 3 (List.map encApi_Dep r41.1.Past)]) Try.underlying28 rfl ti28 rfl (Ev.t 18 (.ptr 1018 0)) rfl) rfl ⟨rfl, trivial⟩ ⟨rfl, trivial⟩ ?_
      obtain ⟨r42, hr42, hF⟩ := bindS hF
      refine G.op1 (op_callQ (sv := .one (bB r42)) cf14 (ct_ref06_Same r39.1 r41.1 r42 hr42) rfl rfl (EvQL.cons (EvQ.g (Ev.t 84 (.g (.agg [.v (.string r39.1.Key), .v (.string r39.1.Value), .v (.bool r39.1.Gone), .v (.int .i64 r39.1.Stamp.N), .v (.int .i64 r39.1.Stamp.Site), .sl 3 (List.map encApi_Dep r39.1.Past)])))) (EvQL.cons (EvQ.g (Ev.t 85 (.g (.agg [.v (.string r41.1.Key), .v (.string r41.1.Value), .v (.bool r41.1.Gone), .v (.int .i64 r41.1.Stamp.N), .v (.int .i64 r41.1.Stamp.Site), .sl 3 (List.map encApi_Dep r41.1.Past)])))) EvQL.nil)) rfl) rfl ⟨rfl, rfl, trivial⟩ trivial ?_
      refine G.op1 (op_assign (Ev.t 86 (bB r42)) rfl) rfl ⟨rfl, trivial⟩ trivial ?_
      refine G.endOps ?_
      refine G.seq ?_
      refine G.region ?_
      refine G.op1 (op_move (Ev.t 17 (bB r39.2)) rfl) rfl ⟨rfl, trivial⟩ trivial ?_
      refine G.op1 (op_move (Ev.t 19 (bB r41.2)) rfl) rfl ⟨rfl, trivial⟩ trivial ?_
      refine G.op1 (op_neB Try.underlying4 (Ev.t 87 (bB r39.2)) (Ev.t 88 (bB r41.2)) rfl) rfl ⟨rfl, rfl, trivial⟩ trivial ?_
      refine G.op1 (op_move (Ev.t 89 (bB (!(r39.2 == r41.2)))) rfl) rfl ⟨rfl, trivial⟩ trivial ?_
      refine ifS hF (fun hc43 hF => ?_) (fun hc43 hF => ?_)
      · refine G.known (t := 90) hc43 rfl ?_
        refine G.opN1 rfl rfl rfl rfl rfl ?_
        refine G.opN1 rfl rfl rfl rfl rfl ?_
        refine G.op1 (op_pickT (Ev.t 90 (bB true)) (Ev.c _ rfl) rfl) rfl ⟨rfl, trivial⟩ trivial ?_
        refine G.endOps ?_
        refine G.condT rfl ?_
        refine G.seq ?_
        refine G.region ?_
        refine G.op1 (op_assign (Ev.c _ rfl) rfl) rfl trivial trivial ?_
        refine G.endOps ?_
        cases hF
        exact G.ret1 Try.results4 (RVar.tmp 6 _) ⟨rfl, trivial⟩ trivial
      · refine G.known (t := 90) hc43 rfl ?_
        refine G.opG1 (op_move (Ev.t 20 (bB r42)) rfl) rfl rfl rfl ⟨rfl, trivial⟩ trivial ?_
        refine G.opG1 (op_not (Ev.t 91 (bB r42)) rfl) rfl rfl rfl ⟨rfl, trivial⟩ trivial ?_
        refine G.op1 (op_pickF (Ev.t 90 (bB false)) (Ev.t 92 (bB (!r42))) rfl) rfl ⟨rfl, rfl, trivial⟩ trivial ?_
        refine G.endOps ?_
        refine ifS hF (fun hc44 hF => ?_) (fun hc44 hF => ?_)
        · refine G.cond rfl (fun _ => ?_) (fun hx => by rw [hc44] at hx; cases hx)
          refine G.seq ?_
          refine G.region ?_
          refine G.op1 (op_assign (Ev.c _ rfl) rfl) rfl trivial trivial ?_
          refine G.endOps ?_
          cases hF
          exact G.ret1 Try.results4 (RVar.tmp 6 _) ⟨rfl, trivial⟩ trivial
        · refine G.cond rfl (fun hx => by rw [hc44] at hx; cases hx) (fun _ => ?_)
          refine G.skip ?_
          refine G.endBlock ?_
          refine G.region ?_
          refine G.op1 (op_move (Ev.t 15 (bI .i64 v33)) rfl) rfl ⟨rfl, trivial⟩ trivial ?_
          refine G.op1 (op_add (Ev.t 62 (bI .i64 v33)) (Ev.c _ rfl) rfl) rfl ⟨rfl, trivial⟩ trivial ?_
          refine G.op1 (op_assign (Ev.t 63 (bI .i64 (IntKind.wrap .i64 (v33 + 1)))) rfl) rfl ⟨rfl, trivial⟩ trivial ?_
          refine G.endOps ?_
          exact G.arr (J34 (IntKind.wrap .i64 (v33 + 1)) hF) ⟨rfl, rfl, rfl, rfl, rfl, rfl, rfl, rfl, rfl, trivial⟩ ⟨rfl, rfl, trivial⟩ rfl
    · refine G.cond rfl (fun hx => by rw [hc37] at hx; cases hx) (fun _ => ?_)
      refine G.exit ?_
      refine GX.c ?_
      refine GX.q ?_
      refine GX.bYes ?_
      exact G.arr (J32 () hF) ⟨rfl, rfl, rfl, rfl, rfl, rfl, rfl, rfl, trivial⟩ ⟨rfl, rfl, trivial⟩ rfl
  refine ifS hF (fun hc46 hF => ?_) (fun hc46 hF => ?_)
  · refine G.cond rfl (fun _ => ?_) (fun hx => by rw [hc46] at hx; cases hx)
    refine G.region ?_
    refine G.op1 (op_fieldP (off' := 8) Try.underlying32 rfl ti30 (by decide) rfl (Ev.t 4 (.ptr 1004 0)) rfl) rfl ⟨rfl, trivial⟩ trivial ?_
    refine G.op1 (op_load1P (c := .g (.d (.sl 2 (List.map encApi_Stamp q_1.Pins)))) Try.underlying30 rfl rfl (Ev.t 34 (.ptr 1004 8)) rfl) rfl ⟨rfl, trivial⟩ ⟨rfl, trivial⟩ ?_
    obtain ⟨l47, hl47, hF⟩ := bindS hF
    refine G.op1 (op_sliceD (lo := none) (hi := some 8) Try.underlying30 ti25 (sub_ok hl47 encApi_Stamp).1 (sub_ok hl47 encApi_Stamp).2.1 (sub_ok hl47 encApi_Stamp).2.2.1 (sub_ok hl47 encApi_Stamp).2.2.2 (Ev.t 35 (.g (.d (.sl 2 (List.map encApi_Stamp q_1.Pins))))) EvO.none (EvO.some (Ev.c _ rfl)) rfl) rfl ⟨rfl, trivial⟩ trivial ?_
    refine G.op1 (op_fieldP (off' := 8) Try.underlying32 rfl ti30 (by decide) rfl (Ev.t 4 (.ptr 1004 0)) rfl) rfl ⟨rfl, trivial⟩ trivial ?_
    refine G.op3 (op_store1 (cs' := [bS q_1.Version.Key, bS q_1.Version.Value, bB q_1.Version.Gone, bI .i64 q_1.Version.Stamp.N, bI .i64 q_1.Version.Stamp.Site, .g (.d (.sl 3 (List.map encApi_Dep q_1.Version.Past))), bI .i64 q_1.Stable.N, bI .i64 q_1.Stable.Site, .g (.d (.sl 2 (List.map encApi_Stamp l47)))]) (c := .g (.d (.sl 2 (List.map encApi_Stamp l47)))) trivial ti30 rfl rfl (Ev.t 37 (.ptr 1004 8)) (Ev.t 36 (.g (.d (.sl 2 (List.map encApi_Stamp l47)))))) rfl ⟨rfl, rfl, trivial⟩ ⟨rfl, trivial⟩ ?_
    refine G.endOps ?_
    exact G.arr (J45 l47 hF) ⟨rfl, rfl, rfl, rfl, trivial⟩ ⟨rfl, rfl, trivial⟩ rfl
  · refine G.cond rfl (fun hx => by rw [hc46] at hx; cases hx) (fun _ => ?_)
    refine G.skip ?_
    exact G.arr (J45 q_1.Pins hF) ⟨rfl, rfl, rfl, rfl, trivial⟩ ⟨rfl, rfl, trivial⟩ rfl


end Go.Ark
