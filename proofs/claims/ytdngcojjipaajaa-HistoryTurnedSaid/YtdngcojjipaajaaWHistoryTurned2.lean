/- Walks, printed by a program of mine: each function of the program computes the typed function of its name. Conditions: none. -/
import Derived.Test.YtdngcojjipaajaaWHistoryTurned1
namespace Go.Ark
open Go Go.Ab Go.RowKit Go.Lib Go.Proofs

set_option maxRecDepth 20000 in
set_option maxHeartbeats 2000000 in
theorem ct_ref02_Runes (s_0 : ByteArray) (r : Int) (hF : ref02_Runes s_0 = some r) : Ct Try.prog 52 [.g (.d (vS s_0))] (.one (.d (vI r))) := by
  unfold ref02_Runes at hF
  refine Ct.intro Try.func52 rfl Try.ntmps52 rfl rfl fun M w => ?_
  refine G.seq ?_
  refine G.region ?_
  refine G.op1 (op_assign (Ev.c _ rfl) rfl) rfl trivial trivial ?_
  refine G.endOps ?_
  refine G.seq ?_
  refine G.region ?_
  refine G.op1 (op_assign (Ev.c _ rfl) rfl) rfl trivial trivial ?_
  refine G.endOps ?_
  refine G.seq ?_
  refine G.seq ?_
  refine G.region ?_
  refine G.op1 (op_assign (Ev.c _ rfl) rfl) rfl trivial trivial ?_
  refine G.endOps ?_
  refine G.joinC (T := Int) (fun y1 => ⟨[(3, oI y1)], []⟩) (fun y1 => ref02_Runes_k1 y1 = some r) (fun y1 hF => ?_) (fun J2 => ?_)
  · unfold ref02_Runes_k1 at hF
    refine G.seq ?_
    refine G.region ?_
    refine G.op1 (op_move (Ev.t 3 (bI .i64 y1)) rfl) rfl ⟨rfl, trivial⟩ trivial ?_
    refine G.op1 (op_assign (Ev.t 99 (bI .i64 y1)) rfl) rfl ⟨rfl, trivial⟩ trivial ?_
    refine G.endOps ?_
    cases hF
    exact G.ret1 Try.results52 (RVar.tmp 2 _) ⟨rfl, trivial⟩ trivial
  refine G.block ?_
  refine G.keep (sl' := [(0, oS s_0), (3, oI 0), (4, oI 0)]) (hp' := []) ⟨rfl, rfl, rfl, trivial⟩ trivial rfl ?_
  refine G.loopF (fun (v3 : Int × Int) => ⟨[(0, oS s_0), (3, oI v3.1), (4, oI v3.2)], []⟩) hF rfl (fun K6 again5 v3 J4 hF => ?_)
  unfold ref02_Runes_l2 at hF
  refine G.seq ?_
  refine G.seq ?_
  refine G.region ?_
  refine G.op1 (op_move (Ev.t 4 (bI .i64 v3.2)) rfl) rfl ⟨rfl, trivial⟩ trivial ?_
  refine G.op1 (op_move (Ev.t 0 (bS s_0)) rfl) rfl ⟨rfl, trivial⟩ trivial ?_
  refine G.op1 (op_lenS Try.underlying9 (Ev.t 8 (bS s_0)) rfl) rfl ⟨rfl, trivial⟩ trivial ?_
  refine G.op1 (op_lss (Ev.t 7 (bI .i64 v3.2)) (Ev.t 9 (bI .i64 (s_0.size : Int))) rfl) rfl ⟨rfl, rfl, trivial⟩ trivial ?_
  refine G.endOps ?_
  refine ifS hF (fun hc7 hF => ?_) (fun hc7 hF => ?_)
  · refine G.cond rfl (fun _ => ?_) (fun hx => by rw [hc7] at hx; cases hx)
    refine G.skip ?_
    refine G.block ?_
    refine G.seq ?_
    refine G.region ?_
    refine G.op1 (op_move (Ev.t 0 (bS s_0)) rfl) rfl ⟨rfl, trivial⟩ trivial ?_
    refine G.op1 (op_move (Ev.t 4 (bI .i64 v3.2)) rfl) rfl ⟨rfl, trivial⟩ trivial ?_
    obtain ⟨b8, hb8, hF⟩ := bindS hF
    refine G.op1 (op_indexS Try.underlying9 (sidx_ok hb8).1 (sidx_ok hb8).2 (Ev.t 11 (bS s_0)) (Ev.t 12 (bI .i64 v3.2)) rfl) rfl ⟨rfl, rfl, trivial⟩ trivial ?_
    obtain ⟨r9, hr9, hF⟩ := bindS hF
    refine G.op1 (op_callQ (sv := oI r9) cf62 (ct_ref02_long (b8.toNat : Int) r9 hr9) rfl rfl (EvQL.cons (EvQ.g (Ev.t 13 (bI .u8 (b8.toNat : Int)))) EvQL.nil) rfl) rfl ⟨rfl, trivial⟩ trivial ?_
    refine G.op1 (op_assign (Ev.t 14 (bI .i64 r9)) rfl) rfl ⟨rfl, trivial⟩ trivial ?_
    refine G.endOps ?_
    refine G.seq ?_
    refine G.seq ?_
    refine G.joinC (T := Bool) (fun y10 => ⟨[(0, oS s_0), (3, oI v3.1), (4, oI v3.2), (5, oI r9), (24, oB y10)], []⟩) (fun y10 => ref02_Runes_k3 s_0 again5 v3 r9 y10 = some r) (fun y10 hF => ?_) (fun J47 => ?_)
    · unfold ref02_Runes_k3 at hF
      refine ifS hF (fun hc11 hF => ?_) (fun hc11 hF => ?_)
      · refine G.cond rfl (fun _ => ?_) (fun hx => by rw [hc11] at hx; cases hx)
        refine G.seq ?_
        refine G.region ?_
        refine G.op1 (op_assign (Ev.c _ rfl) rfl) rfl trivial trivial ?_
        refine G.endOps ?_
        cases hF
        exact G.ret1 Try.results52 (RVar.tmp 2 _) ⟨rfl, trivial⟩ trivial
      · refine G.cond rfl (fun hx => by rw [hc11] at hx; cases hx) (fun _ => ?_)
        refine G.skip ?_
        refine G.seq ?_
        refine G.seq ?_
        refine G.region ?_
        refine G.op1 (op_assign (Ev.c _ rfl) rfl) rfl trivial trivial ?_
        refine G.endOps ?_
        refine G.joinC (T := Unit) (fun y12 => ⟨[(0, oS s_0), (3, oI v3.1), (4, oI v3.2), (5, oI r9)], []⟩) (fun y12 => ref02_Runes_k4 s_0 again5 v3 r9 y12 = some r) (fun y12 hF => ?_) (fun J37 => ?_)
        · unfold ref02_Runes_k4 at hF
          refine G.seq ?_
          refine G.seq ?_
          refine G.joinC (T := Bool) (fun y13 => ⟨[(0, oS s_0), (3, oI v3.1), (4, oI v3.2), (5, oI r9), (93, oB y13)], []⟩) (fun y13 => ref02_Runes_k5 again5 v3 r9 y13 = some r) (fun y13 hF => ?_) (fun J15 => ?_)
          · unfold ref02_Runes_k5 at hF
            refine ifS hF (fun hc14 hF => ?_) (fun hc14 hF => ?_)
            · refine G.cond rfl (fun _ => ?_) (fun hx => by rw [hc14] at hx; cases hx)
              refine G.seq ?_
              refine G.region ?_
              refine G.op1 (op_assign (Ev.c _ rfl) rfl) rfl trivial trivial ?_
              refine G.endOps ?_
              cases hF
              exact G.ret1 Try.results52 (RVar.tmp 2 _) ⟨rfl, trivial⟩ trivial
            · refine G.cond rfl (fun hx => by rw [hc14] at hx; cases hx) (fun _ => ?_)
              refine G.skip ?_
              refine G.seq ?_
              refine G.region ?_
              refine G.op1 (op_move (Ev.t 4 (bI .i64 v3.2)) rfl) rfl ⟨rfl, trivial⟩ trivial ?_
              refine G.op1 (op_move (Ev.t 5 (bI .i64 r9)) rfl) rfl ⟨rfl, trivial⟩ trivial ?_
              refine G.op1 (op_add (Ev.t 94 (bI .i64 v3.2)) (Ev.t 95 (bI .i64 r9)) rfl) rfl ⟨rfl, rfl, trivial⟩ trivial ?_
              refine G.op1 (op_assign (Ev.t 96 (bI .i64 (IntKind.wrap .i64 (v3.2 + r9)))) rfl) rfl ⟨rfl, trivial⟩ trivial ?_
              refine G.endOps ?_
              refine G.region ?_
              refine G.op1 (op_move (Ev.t 3 (bI .i64 v3.1)) rfl) rfl ⟨rfl, trivial⟩ trivial ?_
              refine G.op1 (op_add (Ev.t 97 (bI .i64 v3.1)) (Ev.c _ rfl) rfl) rfl ⟨rfl, trivial⟩ trivial ?_
              refine G.op1 (op_assign (Ev.t 98 (bI .i64 (IntKind.wrap .i64 (v3.1 + 1)))) rfl) rfl ⟨rfl, trivial⟩ trivial ?_
              refine G.endOps ?_
              refine G.endBlock ?_
              exact G.arr (J4 (IntKind.wrap .i64 (v3.1 + 1), IntKind.wrap .i64 (v3.2 + r9)) hF) ⟨rfl, rfl, rfl, trivial⟩ trivial rfl
          refine G.region ?_
          refine G.op1 (op_move (Ev.t 0 (bS s_0)) rfl) rfl ⟨rfl, trivial⟩ trivial ?_
          refine G.op1 (op_move (Ev.t 4 (bI .i64 v3.2)) rfl) rfl ⟨rfl, trivial⟩ trivial ?_
          obtain ⟨b16, hb16, hF⟩ := bindS hF
          refine G.op1 (op_indexS Try.underlying9 (sidx_ok hb16).1 (sidx_ok hb16).2 (Ev.t 44 (bS s_0)) (Ev.t 45 (bI .i64 v3.2)) rfl) rfl ⟨rfl, rfl, trivial⟩ trivial ?_
          refine G.op1 (op_eqI (Ev.t 46 (bI .u8 (b16.toNat : Int))) (Ev.c _ rfl) rfl) rfl ⟨rfl, trivial⟩ trivial ?_
          refine G.op1 (op_move (Ev.t 47 (bB (decide ((b16.toNat : Int) = 224)))) rfl) rfl ⟨rfl, trivial⟩ trivial ?_
          refine G.joinL (T := Bool) 6 (fun y17 => ⟨[(0, oS s_0), (3, oI v3.1), (4, oI v3.2), (5, oI r9), (54, oB y17)], []⟩) (fun y17 => ref02_Runes_k6 s_0 again5 v3 r9 y17 = some r) (fun y17 hF => ?_) (fun J34 => ?_)
          · unfold ref02_Runes_k6 at hF
            refine G.op1 (op_move (Ev.t 54 (bB y17)) rfl) rfl ⟨rfl, trivial⟩ trivial ?_
            refine G.joinL (T := Bool) 12 (fun y18 => ⟨[(0, oS s_0), (3, oI v3.1), (4, oI v3.2), (5, oI r9), (67, oB y18)], []⟩) (fun y18 => ref02_Runes_k7 s_0 again5 v3 r9 y18 = some r) (fun y18 hF => ?_) (fun J29 => ?_)
            · unfold ref02_Runes_k7 at hF
              refine G.op1 (op_move (Ev.t 67 (bB y18)) rfl) rfl ⟨rfl, trivial⟩ trivial ?_
              refine G.joinL (T := Bool) 12 (fun y19 => ⟨[(0, oS s_0), (3, oI v3.1), (4, oI v3.2), (5, oI r9), (80, oB y19)], []⟩) (fun y19 => ref02_Runes_k8 s_0 again5 v3 r9 y19 = some r) (fun y19 hF => ?_) (fun J24 => ?_)
              · unfold ref02_Runes_k8 at hF
                refine G.op1 (op_move (Ev.t 80 (bB y19)) rfl) rfl ⟨rfl, trivial⟩ trivial ?_
                refine ifS hF (fun hc20 hF => ?_) (fun hc20 hF => ?_)
                · refine G.known (t := 81) hc20 rfl ?_
                  refine G.opN1 rfl rfl rfl rfl rfl ?_
                  refine G.opN1 rfl rfl rfl rfl rfl ?_
                  refine G.opN1 rfl rfl rfl rfl rfl ?_
                  refine G.opN1 rfl rfl rfl rfl rfl ?_
                  refine G.opN1 rfl rfl rfl rfl rfl ?_
                  refine G.opU rfl rfl rfl rfl ?_
                  refine G.opU rfl rfl rfl rfl ?_
                  refine G.opU rfl rfl rfl rfl ?_
                  refine G.opU rfl rfl rfl rfl ?_
                  refine G.opU rfl rfl rfl rfl ?_
                  refine G.opN1 rfl rfl rfl rfl rfl ?_
                  refine G.op1 (op_pickT (Ev.t 81 (bB true)) (Ev.c _ rfl) rfl) rfl ⟨rfl, trivial⟩ trivial ?_
                  refine G.endOps ?_
                  exact G.arr (J15 true hF) ⟨rfl, rfl, rfl, rfl, rfl, trivial⟩ trivial rfl
                · refine G.known (t := 81) hc20 rfl ?_
                  refine G.opG1 (op_move (Ev.t 0 (bS s_0)) rfl) rfl rfl rfl ⟨rfl, trivial⟩ trivial ?_
                  refine G.opG1 (op_move (Ev.t 4 (bI .i64 v3.2)) rfl) rfl rfl rfl ⟨rfl, trivial⟩ trivial ?_
                  obtain ⟨b21, hb21, hF⟩ := bindS hF
                  refine G.opG1 (op_indexS Try.underlying9 (sidx_ok hb21).1 (sidx_ok hb21).2 (Ev.t 82 (bS s_0)) (Ev.t 83 (bI .i64 v3.2)) rfl) rfl rfl rfl ⟨rfl, rfl, trivial⟩ trivial ?_
                  refine G.opG1 (op_eqI (Ev.t 84 (bI .u8 (b21.toNat : Int))) (Ev.c _ rfl) rfl) rfl rfl rfl ⟨rfl, trivial⟩ trivial ?_
                  refine G.opG1 (op_move (Ev.t 85 (bB (decide ((b21.toNat : Int) = 244)))) rfl) rfl rfl rfl ⟨rfl, trivial⟩ trivial ?_
                  refine ifS hF (fun hc22 hF => ?_) (fun hc22 hF => ?_)
                  · refine G.known (t := 86) hc22 rfl ?_
                    refine G.opG1 (op_move (Ev.t 0 (bS s_0)) rfl) rfl rfl rfl ⟨rfl, trivial⟩ trivial ?_
                    refine G.opG1 (op_move (Ev.t 4 (bI .i64 v3.2)) rfl) rfl rfl rfl ⟨rfl, trivial⟩ trivial ?_
                    refine G.opG1 (op_add (Ev.t 88 (bI .i64 v3.2)) (Ev.c _ rfl) rfl) rfl rfl rfl ⟨rfl, trivial⟩ trivial ?_
                    obtain ⟨b23, hb23, hF⟩ := bindS hF
                    refine G.opG1 (op_indexS Try.underlying9 (sidx_ok hb23).1 (sidx_ok hb23).2 (Ev.t 87 (bS s_0)) (Ev.t 89 (bI .i64 (IntKind.wrap .i64 (v3.2 + 1)))) rfl) rfl rfl rfl ⟨rfl, rfl, trivial⟩ trivial ?_
                    refine G.opG1 (op_gtr (Ev.t 90 (bI .u8 (b23.toNat : Int))) (Ev.c _ rfl) rfl) rfl rfl rfl ⟨rfl, trivial⟩ trivial ?_
                    refine G.opG1 (op_pickT (Ev.t 86 (bB true)) (Ev.t 91 (bB (decide (143 < (b23.toNat : Int))))) rfl) rfl rfl rfl ⟨rfl, rfl, trivial⟩ trivial ?_
                    refine G.op1 (op_pickF (Ev.t 81 (bB false)) (Ev.t 92 (bB (decide (143 < (b23.toNat : Int))))) rfl) rfl ⟨rfl, rfl, trivial⟩ trivial ?_
                    refine G.endOps ?_
                    exact G.arr (J15 (decide (143 < (b23.toNat : Int))) hF) ⟨rfl, rfl, rfl, rfl, rfl, trivial⟩ trivial rfl
                  · refine G.known (t := 86) hc22 rfl ?_
                    refine G.opN1 rfl rfl rfl rfl rfl ?_
                    refine G.opN1 rfl rfl rfl rfl rfl ?_
                    refine G.opN1 rfl rfl rfl rfl rfl ?_
                    refine G.opN1 rfl rfl rfl rfl rfl ?_
                    refine G.opN1 rfl rfl rfl rfl rfl ?_
                    refine G.opG1 (op_pickF (Ev.t 86 (bB false)) (Ev.c _ rfl) rfl) rfl rfl rfl ⟨rfl, trivial⟩ trivial ?_
                    refine G.op1 (op_pickF (Ev.t 81 (bB false)) (Ev.t 92 (bB false)) rfl) rfl ⟨rfl, rfl, trivial⟩ trivial ?_
                    refine G.endOps ?_
                    exact G.arr (J15 false hF) ⟨rfl, rfl, rfl, rfl, rfl, trivial⟩ trivial rfl
              refine ifS hF (fun hc25 hF => ?_) (fun hc25 hF => ?_)
              · refine G.known (t := 68) hc25 rfl ?_
                refine G.opN1 rfl rfl rfl rfl rfl ?_
                refine G.opN1 rfl rfl rfl rfl rfl ?_
                refine G.opN1 rfl rfl rfl rfl rfl ?_
                refine G.opN1 rfl rfl rfl rfl rfl ?_
                refine G.opN1 rfl rfl rfl rfl rfl ?_
                refine G.opU rfl rfl rfl rfl ?_
                refine G.opU rfl rfl rfl rfl ?_
                refine G.opU rfl rfl rfl rfl ?_
                refine G.opU rfl rfl rfl rfl ?_
                refine G.opU rfl rfl rfl rfl ?_
                refine G.opN1 rfl rfl rfl rfl rfl ?_
                refine G.op1 (op_pickT (Ev.t 68 (bB true)) (Ev.c _ rfl) rfl) rfl ⟨rfl, trivial⟩ trivial ?_
                exact G.arr (J24 true hF) ⟨rfl, rfl, rfl, rfl, rfl, trivial⟩ trivial rfl
              · refine G.known (t := 68) hc25 rfl ?_
                refine G.opG1 (op_move (Ev.t 0 (bS s_0)) rfl) rfl rfl rfl ⟨rfl, trivial⟩ trivial ?_
                refine G.opG1 (op_move (Ev.t 4 (bI .i64 v3.2)) rfl) rfl rfl rfl ⟨rfl, trivial⟩ trivial ?_
                obtain ⟨b26, hb26, hF⟩ := bindS hF
                refine G.opG1 (op_indexS Try.underlying9 (sidx_ok hb26).1 (sidx_ok hb26).2 (Ev.t 69 (bS s_0)) (Ev.t 70 (bI .i64 v3.2)) rfl) rfl rfl rfl ⟨rfl, rfl, trivial⟩ trivial ?_
                refine G.opG1 (op_eqI (Ev.t 71 (bI .u8 (b26.toNat : Int))) (Ev.c _ rfl) rfl) rfl rfl rfl ⟨rfl, trivial⟩ trivial ?_
                refine G.opG1 (op_move (Ev.t 72 (bB (decide ((b26.toNat : Int) = 240)))) rfl) rfl rfl rfl ⟨rfl, trivial⟩ trivial ?_
                refine ifS hF (fun hc27 hF => ?_) (fun hc27 hF => ?_)
                · refine G.known (t := 73) hc27 rfl ?_
                  refine G.opG1 (op_move (Ev.t 0 (bS s_0)) rfl) rfl rfl rfl ⟨rfl, trivial⟩ trivial ?_
                  refine G.opG1 (op_move (Ev.t 4 (bI .i64 v3.2)) rfl) rfl rfl rfl ⟨rfl, trivial⟩ trivial ?_
                  refine G.opG1 (op_add (Ev.t 75 (bI .i64 v3.2)) (Ev.c _ rfl) rfl) rfl rfl rfl ⟨rfl, trivial⟩ trivial ?_
                  obtain ⟨b28, hb28, hF⟩ := bindS hF
                  refine G.opG1 (op_indexS Try.underlying9 (sidx_ok hb28).1 (sidx_ok hb28).2 (Ev.t 74 (bS s_0)) (Ev.t 76 (bI .i64 (IntKind.wrap .i64 (v3.2 + 1)))) rfl) rfl rfl rfl ⟨rfl, rfl, trivial⟩ trivial ?_
                  refine G.opG1 (op_lss (Ev.t 77 (bI .u8 (b28.toNat : Int))) (Ev.c _ rfl) rfl) rfl rfl rfl ⟨rfl, trivial⟩ trivial ?_
                  refine G.opG1 (op_pickT (Ev.t 73 (bB true)) (Ev.t 78 (bB (decide ((b28.toNat : Int) < 144)))) rfl) rfl rfl rfl ⟨rfl, rfl, trivial⟩ trivial ?_
                  refine G.op1 (op_pickF (Ev.t 68 (bB false)) (Ev.t 79 (bB (decide ((b28.toNat : Int) < 144)))) rfl) rfl ⟨rfl, rfl, trivial⟩ trivial ?_
                  exact G.arr (J24 (decide ((b28.toNat : Int) < 144)) hF) ⟨rfl, rfl, rfl, rfl, rfl, trivial⟩ trivial rfl
                · refine G.known (t := 73) hc27 rfl ?_
                  refine G.opN1 rfl rfl rfl rfl rfl ?_
                  refine G.opN1 rfl rfl rfl rfl rfl ?_
                  refine G.opN1 rfl rfl rfl rfl rfl ?_
                  refine G.opN1 rfl rfl rfl rfl rfl ?_
                  refine G.opN1 rfl rfl rfl rfl rfl ?_
                  refine G.opG1 (op_pickF (Ev.t 73 (bB false)) (Ev.c _ rfl) rfl) rfl rfl rfl ⟨rfl, trivial⟩ trivial ?_
                  refine G.op1 (op_pickF (Ev.t 68 (bB false)) (Ev.t 79 (bB false)) rfl) rfl ⟨rfl, rfl, trivial⟩ trivial ?_
                  exact G.arr (J24 false hF) ⟨rfl, rfl, rfl, rfl, rfl, trivial⟩ trivial rfl
            refine ifS hF (fun hc30 hF => ?_) (fun hc30 hF => ?_)
            · refine G.known (t := 55) hc30 rfl ?_
              refine G.opN1 rfl rfl rfl rfl rfl ?_
              refine G.opN1 rfl rfl rfl rfl rfl ?_
              refine G.opN1 rfl rfl rfl rfl rfl ?_
              refine G.opN1 rfl rfl rfl rfl rfl ?_
              refine G.opN1 rfl rfl rfl rfl rfl ?_
              refine G.opU rfl rfl rfl rfl ?_
              refine G.opU rfl rfl rfl rfl ?_
              refine G.opU rfl rfl rfl rfl ?_
              refine G.opU rfl rfl rfl rfl ?_
              refine G.opU rfl rfl rfl rfl ?_
              refine G.opN1 rfl rfl rfl rfl rfl ?_
              refine G.op1 (op_pickT (Ev.t 55 (bB true)) (Ev.c _ rfl) rfl) rfl ⟨rfl, trivial⟩ trivial ?_
              exact G.arr (J29 true hF) ⟨rfl, rfl, rfl, rfl, rfl, trivial⟩ trivial rfl
            · refine G.known (t := 55) hc30 rfl ?_
              refine G.opG1 (op_move (Ev.t 0 (bS s_0)) rfl) rfl rfl rfl ⟨rfl, trivial⟩ trivial ?_
              refine G.opG1 (op_move (Ev.t 4 (bI .i64 v3.2)) rfl) rfl rfl rfl ⟨rfl, trivial⟩ trivial ?_
              obtain ⟨b31, hb31, hF⟩ := bindS hF
              refine G.opG1 (op_indexS Try.underlying9 (sidx_ok hb31).1 (sidx_ok hb31).2 (Ev.t 56 (bS s_0)) (Ev.t 57 (bI .i64 v3.2)) rfl) rfl rfl rfl ⟨rfl, rfl, trivial⟩ trivial ?_
              refine G.opG1 (op_eqI (Ev.t 58 (bI .u8 (b31.toNat : Int))) (Ev.c _ rfl) rfl) rfl rfl rfl ⟨rfl, trivial⟩ trivial ?_
              refine G.opG1 (op_move (Ev.t 59 (bB (decide ((b31.toNat : Int) = 237)))) rfl) rfl rfl rfl ⟨rfl, trivial⟩ trivial ?_
              refine ifS hF (fun hc32 hF => ?_) (fun hc32 hF => ?_)
              · refine G.known (t := 60) hc32 rfl ?_
                refine G.opG1 (op_move (Ev.t 0 (bS s_0)) rfl) rfl rfl rfl ⟨rfl, trivial⟩ trivial ?_
                refine G.opG1 (op_move (Ev.t 4 (bI .i64 v3.2)) rfl) rfl rfl rfl ⟨rfl, trivial⟩ trivial ?_
                refine G.opG1 (op_add (Ev.t 62 (bI .i64 v3.2)) (Ev.c _ rfl) rfl) rfl rfl rfl ⟨rfl, trivial⟩ trivial ?_
                obtain ⟨b33, hb33, hF⟩ := bindS hF
                refine G.opG1 (op_indexS Try.underlying9 (sidx_ok hb33).1 (sidx_ok hb33).2 (Ev.t 61 (bS s_0)) (Ev.t 63 (bI .i64 (IntKind.wrap .i64 (v3.2 + 1)))) rfl) rfl rfl rfl ⟨rfl, rfl, trivial⟩ trivial ?_
                refine G.opG1 (op_gtr (Ev.t 64 (bI .u8 (b33.toNat : Int))) (Ev.c _ rfl) rfl) rfl rfl rfl ⟨rfl, trivial⟩ trivial ?_
                refine G.opG1 (op_pickT (Ev.t 60 (bB true)) (Ev.t 65 (bB (decide (159 < (b33.toNat : Int))))) rfl) rfl rfl rfl ⟨rfl, rfl, trivial⟩ trivial ?_
                refine G.op1 (op_pickF (Ev.t 55 (bB false)) (Ev.t 66 (bB (decide (159 < (b33.toNat : Int))))) rfl) rfl ⟨rfl, rfl, trivial⟩ trivial ?_
                exact G.arr (J29 (decide (159 < (b33.toNat : Int))) hF) ⟨rfl, rfl, rfl, rfl, rfl, trivial⟩ trivial rfl
              · refine G.known (t := 60) hc32 rfl ?_
                refine G.opN1 rfl rfl rfl rfl rfl ?_
                refine G.opN1 rfl rfl rfl rfl rfl ?_
                refine G.opN1 rfl rfl rfl rfl rfl ?_
                refine G.opN1 rfl rfl rfl rfl rfl ?_
                refine G.opN1 rfl rfl rfl rfl rfl ?_
                refine G.opG1 (op_pickF (Ev.t 60 (bB false)) (Ev.c _ rfl) rfl) rfl rfl rfl ⟨rfl, trivial⟩ trivial ?_
                refine G.op1 (op_pickF (Ev.t 55 (bB false)) (Ev.t 66 (bB false)) rfl) rfl ⟨rfl, rfl, trivial⟩ trivial ?_
                exact G.arr (J29 false hF) ⟨rfl, rfl, rfl, rfl, rfl, trivial⟩ trivial rfl
          refine ifS hF (fun hc35 hF => ?_) (fun hc35 hF => ?_)
          · refine G.known (t := 48) hc35 rfl ?_
            refine G.opG1 (op_move (Ev.t 0 (bS s_0)) rfl) rfl rfl rfl ⟨rfl, trivial⟩ trivial ?_
            refine G.opG1 (op_move (Ev.t 4 (bI .i64 v3.2)) rfl) rfl rfl rfl ⟨rfl, trivial⟩ trivial ?_
            refine G.opG1 (op_add (Ev.t 50 (bI .i64 v3.2)) (Ev.c _ rfl) rfl) rfl rfl rfl ⟨rfl, trivial⟩ trivial ?_
            obtain ⟨b36, hb36, hF⟩ := bindS hF
            refine G.opG1 (op_indexS Try.underlying9 (sidx_ok hb36).1 (sidx_ok hb36).2 (Ev.t 49 (bS s_0)) (Ev.t 51 (bI .i64 (IntKind.wrap .i64 (v3.2 + 1)))) rfl) rfl rfl rfl ⟨rfl, rfl, trivial⟩ trivial ?_
            refine G.opG1 (op_lss (Ev.t 52 (bI .u8 (b36.toNat : Int))) (Ev.c _ rfl) rfl) rfl rfl rfl ⟨rfl, trivial⟩ trivial ?_
            refine G.op1 (op_pickT (Ev.t 48 (bB true)) (Ev.t 53 (bB (decide ((b36.toNat : Int) < 160)))) rfl) rfl ⟨rfl, rfl, trivial⟩ trivial ?_
            exact G.arr (J34 (decide ((b36.toNat : Int) < 160)) hF) ⟨rfl, rfl, rfl, rfl, rfl, trivial⟩ trivial rfl
          · refine G.known (t := 48) hc35 rfl ?_
            refine G.opN1 rfl rfl rfl rfl rfl ?_
            refine G.opN1 rfl rfl rfl rfl rfl ?_
            refine G.opN1 rfl rfl rfl rfl rfl ?_
            refine G.opN1 rfl rfl rfl rfl rfl ?_
            refine G.opN1 rfl rfl rfl rfl rfl ?_
            refine G.op1 (op_pickF (Ev.t 48 (bB false)) (Ev.c _ rfl) rfl) rfl ⟨rfl, trivial⟩ trivial ?_
            exact G.arr (J34 false hF) ⟨rfl, rfl, rfl, rfl, rfl, trivial⟩ trivial rfl
        refine G.block ?_
        refine G.keep (sl' := [(0, oS s_0), (3, oI v3.1), (4, oI v3.2), (5, oI r9), (6, oI 1)]) (hp' := []) ⟨rfl, rfl, rfl, rfl, rfl, trivial⟩ trivial rfl ?_
        refine G.loopF (fun (v38 : Int) => ⟨[(0, oS s_0), (3, oI v3.1), (4, oI v3.2), (5, oI r9), (6, oI v38)], []⟩) hF rfl (fun K41 again40 v38 J39 hF => ?_)
        unfold ref02_Runes_l9 at hF
        refine G.seq ?_
        refine G.seq ?_
        refine G.region ?_
        refine G.op1 (op_move (Ev.t 6 (bI .i64 v38)) rfl) rfl ⟨rfl, trivial⟩ trivial ?_
        refine G.op1 (op_move (Ev.t 5 (bI .i64 r9)) rfl) rfl ⟨rfl, trivial⟩ trivial ?_
        refine G.op1 (op_lss (Ev.t 25 (bI .i64 v38)) (Ev.t 26 (bI .i64 r9)) rfl) rfl ⟨rfl, rfl, trivial⟩ trivial ?_
        refine G.endOps ?_
        refine ifS hF (fun hc42 hF => ?_) (fun hc42 hF => ?_)
        · refine G.cond rfl (fun _ => ?_) (fun hx => by rw [hc42] at hx; cases hx)
          refine G.skip ?_
          refine G.seq ?_
          refine G.block ?_
          refine G.seq ?_
          refine G.region ?_
          refine G.op1 (op_move (Ev.t 0 (bS s_0)) rfl) rfl ⟨rfl, trivial⟩ trivial ?_
          refine G.op1 (op_move (Ev.t 4 (bI .i64 v3.2)) rfl) rfl ⟨rfl, trivial⟩ trivial ?_
          refine G.op1 (op_move (Ev.t 6 (bI .i64 v38)) rfl) rfl ⟨rfl, trivial⟩ trivial ?_
          refine G.op1 (op_add (Ev.t 31 (bI .i64 v3.2)) (Ev.t 32 (bI .i64 v38)) rfl) rfl ⟨rfl, rfl, trivial⟩ trivial ?_
          obtain ⟨b43, hb43, hF⟩ := bindS hF
          refine G.op1 (op_indexS Try.underlying9 (sidx_ok hb43).1 (sidx_ok hb43).2 (Ev.t 30 (bS s_0)) (Ev.t 33 (bI .i64 (IntKind.wrap .i64 (v3.2 + v38)))) rfl) rfl ⟨rfl, rfl, trivial⟩ trivial ?_
          refine G.op1 (op_lss (Ev.t 34 (bI .u8 (b43.toNat : Int))) (Ev.c _ rfl) rfl) rfl ⟨rfl, trivial⟩ trivial ?_
          refine G.op1 (op_move (Ev.t 35 (bB (decide ((b43.toNat : Int) < 128)))) rfl) rfl ⟨rfl, trivial⟩ trivial ?_
          refine ifS hF (fun hc44 hF => ?_) (fun hc44 hF => ?_)
          · refine G.known (t := 36) hc44 rfl ?_
            refine G.opN1 rfl rfl rfl rfl rfl ?_
            refine G.opN1 rfl rfl rfl rfl rfl ?_
            refine G.opN1 rfl rfl rfl rfl rfl ?_
            refine G.opN1 rfl rfl rfl rfl rfl ?_
            refine G.opN1 rfl rfl rfl rfl rfl ?_
            refine G.opN1 rfl rfl rfl rfl rfl ?_
            refine G.op1 (op_pickT (Ev.t 36 (bB true)) (Ev.c _ rfl) rfl) rfl ⟨rfl, trivial⟩ trivial ?_
            refine G.endOps ?_
            refine G.condT rfl ?_
            refine G.seq ?_
            refine G.region ?_
            refine G.op1 (op_assign (Ev.c _ rfl) rfl) rfl trivial trivial ?_
            refine G.endOps ?_
            cases hF
            exact G.ret1 Try.results52 (RVar.tmp 2 _) ⟨rfl, trivial⟩ trivial
          · refine G.known (t := 36) hc44 rfl ?_
            refine G.opG1 (op_move (Ev.t 0 (bS s_0)) rfl) rfl rfl rfl ⟨rfl, trivial⟩ trivial ?_
            refine G.opG1 (op_move (Ev.t 4 (bI .i64 v3.2)) rfl) rfl rfl rfl ⟨rfl, trivial⟩ trivial ?_
            refine G.opG1 (op_move (Ev.t 6 (bI .i64 v38)) rfl) rfl rfl rfl ⟨rfl, trivial⟩ trivial ?_
            refine G.opG1 (op_add (Ev.t 38 (bI .i64 v3.2)) (Ev.t 39 (bI .i64 v38)) rfl) rfl rfl rfl ⟨rfl, rfl, trivial⟩ trivial ?_
            obtain ⟨b45, hb45, hF⟩ := bindS hF
            refine G.opG1 (op_indexS Try.underlying9 (sidx_ok hb45).1 (sidx_ok hb45).2 (Ev.t 37 (bS s_0)) (Ev.t 40 (bI .i64 (IntKind.wrap .i64 (v3.2 + v38)))) rfl) rfl rfl rfl ⟨rfl, rfl, trivial⟩ trivial ?_
            refine G.opG1 (op_gtr (Ev.t 41 (bI .u8 (b45.toNat : Int))) (Ev.c _ rfl) rfl) rfl rfl rfl ⟨rfl, trivial⟩ trivial ?_
            refine G.op1 (op_pickF (Ev.t 36 (bB false)) (Ev.t 42 (bB (decide (191 < (b45.toNat : Int))))) rfl) rfl ⟨rfl, rfl, trivial⟩ trivial ?_
            refine G.endOps ?_
            refine ifS hF (fun hc46 hF => ?_) (fun hc46 hF => ?_)
            · refine G.cond rfl (fun _ => ?_) (fun hx => by rw [hc46] at hx; cases hx)
              refine G.seq ?_
              refine G.region ?_
              refine G.op1 (op_assign (Ev.c _ rfl) rfl) rfl trivial trivial ?_
              refine G.endOps ?_
              cases hF
              exact G.ret1 Try.results52 (RVar.tmp 2 _) ⟨rfl, trivial⟩ trivial
            · refine G.cond rfl (fun hx => by rw [hc46] at hx; cases hx) (fun _ => ?_)
              refine G.skip ?_
              refine G.endBlock ?_
              refine G.region ?_
              refine G.op1 (op_move (Ev.t 6 (bI .i64 v38)) rfl) rfl ⟨rfl, trivial⟩ trivial ?_
              refine G.op1 (op_add (Ev.t 28 (bI .i64 v38)) (Ev.c _ rfl) rfl) rfl ⟨rfl, trivial⟩ trivial ?_
              refine G.op1 (op_assign (Ev.t 29 (bI .i64 (IntKind.wrap .i64 (v38 + 1)))) rfl) rfl ⟨rfl, trivial⟩ trivial ?_
              refine G.endOps ?_
              exact G.arr (J39 (IntKind.wrap .i64 (v38 + 1)) hF) ⟨rfl, rfl, rfl, rfl, rfl, trivial⟩ trivial rfl
        · refine G.cond rfl (fun hx => by rw [hc42] at hx; cases hx) (fun _ => ?_)
          refine G.exit ?_
          refine GX.c ?_
          refine GX.q ?_
          refine GX.bYes ?_
          exact G.arr (J37 () hF) ⟨rfl, rfl, rfl, rfl, trivial⟩ trivial rfl
    refine G.region ?_
    refine G.op1 (op_move (Ev.t 5 (bI .i64 r9)) rfl) rfl ⟨rfl, trivial⟩ trivial ?_
    refine G.op1 (op_eqI (Ev.t 15 (bI .i64 r9)) (Ev.c _ rfl) rfl) rfl ⟨rfl, trivial⟩ trivial ?_
    refine G.op1 (op_move (Ev.t 16 (bB (decide (r9 = 0)))) rfl) rfl ⟨rfl, trivial⟩ trivial ?_
    refine ifS hF (fun hc48 hF => ?_) (fun hc48 hF => ?_)
    · refine G.known (t := 17) hc48 rfl ?_
      refine G.opN1 rfl rfl rfl rfl rfl ?_
      refine G.opN1 rfl rfl rfl rfl rfl ?_
      refine G.opN1 rfl rfl rfl rfl rfl ?_
      refine G.opN1 rfl rfl rfl rfl rfl ?_
      refine G.opN1 rfl rfl rfl rfl rfl ?_
      refine G.opN1 rfl rfl rfl rfl rfl ?_
      refine G.op1 (op_pickT (Ev.t 17 (bB true)) (Ev.c _ rfl) rfl) rfl ⟨rfl, trivial⟩ trivial ?_
      refine G.endOps ?_
      exact G.arr (J47 true hF) ⟨rfl, rfl, rfl, rfl, rfl, trivial⟩ trivial rfl
    · refine G.known (t := 17) hc48 rfl ?_
      refine G.opG1 (op_move (Ev.t 5 (bI .i64 r9)) rfl) rfl rfl rfl ⟨rfl, trivial⟩ trivial ?_
      refine G.opG1 (op_move (Ev.t 0 (bS s_0)) rfl) rfl rfl rfl ⟨rfl, trivial⟩ trivial ?_
      refine G.opG1 (op_lenS Try.underlying9 (Ev.t 19 (bS s_0)) rfl) rfl rfl rfl ⟨rfl, trivial⟩ trivial ?_
      refine G.opG1 (op_move (Ev.t 4 (bI .i64 v3.2)) rfl) rfl rfl rfl ⟨rfl, trivial⟩ trivial ?_
      refine G.opG1 (op_sub (Ev.t 20 (bI .i64 (s_0.size : Int))) (Ev.t 21 (bI .i64 v3.2)) rfl) rfl rfl rfl ⟨rfl, rfl, trivial⟩ trivial ?_
      refine G.opG1 (op_gtr (Ev.t 18 (bI .i64 r9)) (Ev.t 22 (bI .i64 (IntKind.wrap .i64 ((s_0.size : Int) - v3.2)))) rfl) rfl rfl rfl ⟨rfl, rfl, trivial⟩ trivial ?_
      refine G.op1 (op_pickF (Ev.t 17 (bB false)) (Ev.t 23 (bB (decide ((IntKind.wrap .i64 ((s_0.size : Int) - v3.2)) < r9)))) rfl) rfl ⟨rfl, rfl, trivial⟩ trivial ?_
      refine G.endOps ?_
      exact G.arr (J47 (decide ((IntKind.wrap .i64 ((s_0.size : Int) - v3.2)) < r9)) hF) ⟨rfl, rfl, rfl, rfl, rfl, trivial⟩ trivial rfl
  · refine G.cond rfl (fun hx => by rw [hc7] at hx; cases hx) (fun _ => ?_)
    refine G.exit ?_
    refine GX.c ?_
    refine GX.q ?_
    refine GX.bYes ?_
    exact G.arr (J2 v3.1 hF) ⟨rfl, trivial⟩ trivial rfl


set_option maxRecDepth 20000 in
set_option maxHeartbeats 2000000 in
theorem ct_ref02_Check (s_0 : ByteArray) (r : Bool) (hF : ref02_Check s_0 = some r) : Ct Try.prog 37 [.g (.d (vS s_0))] (.one (.d (vB r))) := by
  unfold ref02_Check at hF
  refine Ct.intro Try.func37 rfl Try.ntmps37 rfl rfl fun M w => ?_
  refine G.seq ?_
  refine G.region ?_
  refine G.op1 (op_assign (Ev.c _ rfl) rfl) rfl trivial trivial ?_
  refine G.endOps ?_
  refine G.seq ?_
  refine G.region ?_
  refine G.op1 (op_move (Ev.t 0 (bS s_0)) rfl) rfl ⟨rfl, trivial⟩ trivial ?_
  obtain ⟨r1, hr1, hF⟩ := bindS hF
  refine G.op1 (op_callQ (sv := oI r1) cf52 (ct_ref02_Runes s_0 r1 hr1) rfl rfl (EvQL.cons (EvQ.g (Ev.t 5 (bS s_0))) EvQL.nil) rfl) rfl ⟨rfl, trivial⟩ trivial ?_
  refine G.op1 (op_assign (Ev.t 6 (bI .i64 r1)) rfl) rfl ⟨rfl, trivial⟩ trivial ?_
  refine G.endOps ?_
  refine G.seq ?_
  refine G.seq ?_
  refine G.region ?_
  refine G.op1 (op_assign (Ev.c _ rfl) rfl) rfl trivial trivial ?_
  refine G.endOps ?_
  refine G.joinC (T := Unit) (fun y2 => ⟨[(3, oI r1)], []⟩) (fun y2 => ref02_Check_k1 r1 y2 = some r) (fun y2 hF => ?_) (fun J4 => ?_)
  · unfold ref02_Check_k1 at hF
    refine G.seq ?_
    refine G.region ?_
    refine G.op1 (op_move (Ev.t 3 (bI .i64 r1)) rfl) rfl ⟨rfl, trivial⟩ trivial ?_
    refine G.op1 (op_geq (Ev.t 17 (bI .i64 r1)) (Ev.c _ rfl) rfl) rfl ⟨rfl, trivial⟩ trivial ?_
    refine G.op1 (op_move (Ev.t 18 (bB (decide (1 ≤ r1)))) rfl) rfl ⟨rfl, trivial⟩ trivial ?_
    refine ifS hF (fun hc3 hF => ?_) (fun hc3 hF => ?_)
    · refine G.known (t := 19) hc3 rfl ?_
      refine G.opG1 (op_move (Ev.t 3 (bI .i64 r1)) rfl) rfl rfl rfl ⟨rfl, trivial⟩ trivial ?_
      refine G.opG1 (op_leq (Ev.t 20 (bI .i64 r1)) (Ev.c _ rfl) rfl) rfl rfl rfl ⟨rfl, trivial⟩ trivial ?_
      refine G.op1 (op_pickT (Ev.t 19 (bB true)) (Ev.t 21 (bB (decide (r1 ≤ 8)))) rfl) rfl ⟨rfl, rfl, trivial⟩ trivial ?_
      refine G.op1 (op_assign (Ev.t 22 (bB (decide (r1 ≤ 8)))) rfl) rfl ⟨rfl, trivial⟩ trivial ?_
      refine G.endOps ?_
      cases hF
      exact G.ret1 Try.results37 (RVar.tmp 2 _) ⟨rfl, trivial⟩ trivial
    · refine G.known (t := 19) hc3 rfl ?_
      refine G.opN1 rfl rfl rfl rfl rfl ?_
      refine G.opN1 rfl rfl rfl rfl rfl ?_
      refine G.op1 (op_pickF (Ev.t 19 (bB false)) (Ev.c _ rfl) rfl) rfl ⟨rfl, trivial⟩ trivial ?_
      refine G.op1 (op_assign (Ev.t 22 (bB false)) rfl) rfl ⟨rfl, trivial⟩ trivial ?_
      refine G.endOps ?_
      cases hF
      exact G.ret1 Try.results37 (RVar.tmp 2 _) ⟨rfl, trivial⟩ trivial
  refine G.block ?_
  refine G.keep (sl' := [(0, oS s_0), (3, oI r1), (4, oI 0)]) (hp' := []) ⟨rfl, rfl, rfl, trivial⟩ trivial rfl ?_
  refine G.loopF (fun (v5 : Int) => ⟨[(0, oS s_0), (3, oI r1), (4, oI v5)], []⟩) hF rfl (fun K8 again7 v5 J6 hF => ?_)
  unfold ref02_Check_l2 at hF
  refine G.seq ?_
  refine G.seq ?_
  refine G.region ?_
  refine G.op1 (op_move (Ev.t 4 (bI .i64 v5)) rfl) rfl ⟨rfl, trivial⟩ trivial ?_
  refine G.op1 (op_move (Ev.t 0 (bS s_0)) rfl) rfl ⟨rfl, trivial⟩ trivial ?_
  refine G.op1 (op_lenS Try.underlying9 (Ev.t 8 (bS s_0)) rfl) rfl ⟨rfl, trivial⟩ trivial ?_
  refine G.op1 (op_lss (Ev.t 7 (bI .i64 v5)) (Ev.t 9 (bI .i64 (s_0.size : Int))) rfl) rfl ⟨rfl, rfl, trivial⟩ trivial ?_
  refine G.endOps ?_
  refine ifS hF (fun hc9 hF => ?_) (fun hc9 hF => ?_)
  · refine G.cond rfl (fun _ => ?_) (fun hx => by rw [hc9] at hx; cases hx)
    refine G.skip ?_
    refine G.seq ?_
    refine G.block ?_
    refine G.seq ?_
    refine G.region ?_
    refine G.op1 (op_move (Ev.t 0 (bS s_0)) rfl) rfl ⟨rfl, trivial⟩ trivial ?_
    refine G.op1 (op_move (Ev.t 4 (bI .i64 v5)) rfl) rfl ⟨rfl, trivial⟩ trivial ?_
    obtain ⟨b10, hb10, hF⟩ := bindS hF
    refine G.op1 (op_indexS Try.underlying9 (sidx_ok hb10).1 (sidx_ok hb10).2 (Ev.t 13 (bS s_0)) (Ev.t 14 (bI .i64 v5)) rfl) rfl ⟨rfl, rfl, trivial⟩ trivial ?_
    refine G.op1 (op_lss (Ev.t 15 (bI .u8 (b10.toNat : Int))) (Ev.c _ rfl) rfl) rfl ⟨rfl, trivial⟩ trivial ?_
    refine G.endOps ?_
    refine ifS hF (fun hc11 hF => ?_) (fun hc11 hF => ?_)
    · refine G.cond rfl (fun _ => ?_) (fun hx => by rw [hc11] at hx; cases hx)
      refine G.seq ?_
      refine G.region ?_
      refine G.op1 (op_assign (Ev.c _ rfl) rfl) rfl trivial trivial ?_
      refine G.endOps ?_
      cases hF
      exact G.ret1 Try.results37 (RVar.tmp 2 _) ⟨rfl, trivial⟩ trivial
    · refine G.cond rfl (fun hx => by rw [hc11] at hx; cases hx) (fun _ => ?_)
      refine G.skip ?_
      refine G.endBlock ?_
      refine G.region ?_
      refine G.op1 (op_move (Ev.t 4 (bI .i64 v5)) rfl) rfl ⟨rfl, trivial⟩ trivial ?_
      refine G.op1 (op_add (Ev.t 11 (bI .i64 v5)) (Ev.c _ rfl) rfl) rfl ⟨rfl, trivial⟩ trivial ?_
      refine G.op1 (op_assign (Ev.t 12 (bI .i64 (IntKind.wrap .i64 (v5 + 1)))) rfl) rfl ⟨rfl, trivial⟩ trivial ?_
      refine G.endOps ?_
      exact G.arr (J6 (IntKind.wrap .i64 (v5 + 1)) hF) ⟨rfl, rfl, rfl, trivial⟩ trivial rfl
  · refine G.cond rfl (fun hx => by rw [hc9] at hx; cases hx) (fun _ => ?_)
    refine G.exit ?_
    refine GX.c ?_
    refine GX.q ?_
    refine GX.bYes ?_
    exact G.arr (J4 () hF) ⟨rfl, trivial⟩ trivial rfl


set_option maxRecDepth 20000 in
set_option maxHeartbeats 2000000 in
theorem ct_ref03_Check (s_0 : Api_Stamp) (r : Bool) (hF : ref03_Check s_0 = some r) : Ct Try.prog 38 [.g (.agg (encApi_Stamp s_0))] (.one (.d (vB r))) := by
  unfold ref03_Check at hF
  refine Ct.intro Try.func38 rfl Try.ntmps38 rfl rfl fun M w => ?_
  refine G.seq ?_
  refine G.region ?_
  refine G.op2 (op_boxA (k := 1001) (Ev.t 0 (.g (.agg [vI s_0.N, vI s_0.Site]))) rfl) rfl ⟨rfl, trivial⟩ ⟨rfl, trivial⟩ ?_
  refine G.op1 (op_assign (Ev.c _ rfl) rfl) rfl trivial trivial ?_
  refine G.endOps ?_
  refine G.seq ?_
  refine G.region ?_
  refine G.op1 (op_fieldP (off' := 0) Try.underlying27 rfl ti3 (by decide) rfl (Ev.t 1 (.ptr 1001 0)) rfl) rfl ⟨rfl, trivial⟩ trivial ?_
  refine G.op1 (op_load1P (c := bI .i64 s_0.N) Try.underlying3 rfl rfl (Ev.t 3 (.ptr 1001 0)) rfl) rfl ⟨rfl, trivial⟩ ⟨rfl, trivial⟩ ?_
  refine G.op1 (op_geq (Ev.t 4 (bI .i64 s_0.N)) (Ev.c _ rfl) rfl) rfl ⟨rfl, trivial⟩ trivial ?_
  refine G.op1 (op_move (Ev.t 5 (bB (decide (1 ≤ s_0.N)))) rfl) rfl ⟨rfl, trivial⟩ trivial ?_
  refine G.joinL (T := Bool) 4 (fun y1 => ⟨[(1, .one (.ptr 1001 0)), (10, oB y1)], [(1001, some (.blk 27 [bI .i64 s_0.N, bI .i64 s_0.Site]))]⟩) (fun y1 => ref03_Check_k1 s_0 y1 = some r) (fun y1 hF => ?_) (fun J6 => ?_)
  · unfold ref03_Check_k1 at hF
    refine G.op1 (op_move (Ev.t 10 (bB y1)) rfl) rfl ⟨rfl, trivial⟩ trivial ?_
    refine G.joinL (T := Bool) 4 (fun y2 => ⟨[(1, .one (.ptr 1001 0)), (15, oB y2)], [(1001, some (.blk 27 [bI .i64 s_0.N, bI .i64 s_0.Site]))]⟩) (fun y2 => ref03_Check_k2 s_0 y2 = some r) (fun y2 hF => ?_) (fun J4 => ?_)
    · unfold ref03_Check_k2 at hF
      refine G.op1 (op_move (Ev.t 15 (bB y2)) rfl) rfl ⟨rfl, trivial⟩ trivial ?_
      refine ifS hF (fun hc3 hF => ?_) (fun hc3 hF => ?_)
      · refine G.known (t := 16) hc3 rfl ?_
        refine G.opG1 (op_fieldP (off' := 1) Try.underlying27 rfl ti3 (by decide) rfl (Ev.t 1 (.ptr 1001 0)) rfl) rfl rfl rfl ⟨rfl, trivial⟩ trivial ?_
        refine G.opG1 (op_load1P (c := bI .i64 s_0.Site) Try.underlying3 rfl rfl (Ev.t 17 (.ptr 1001 1)) rfl) rfl rfl rfl ⟨rfl, trivial⟩ ⟨rfl, trivial⟩ ?_
        refine G.opG1 (op_lss (Ev.t 18 (bI .i64 s_0.Site)) (Ev.c _ rfl) rfl) rfl rfl rfl ⟨rfl, trivial⟩ trivial ?_
        refine G.op1 (op_pickT (Ev.t 16 (bB true)) (Ev.t 19 (bB (decide (s_0.Site < 6)))) rfl) rfl ⟨rfl, rfl, trivial⟩ trivial ?_
        refine G.op1 (op_assign (Ev.t 20 (bB (decide (s_0.Site < 6)))) rfl) rfl ⟨rfl, trivial⟩ trivial ?_
        refine G.endOps ?_
        cases hF
        exact G.ret1 Try.results38 (RVar.tmp 2 _) ⟨rfl, trivial⟩ trivial
      · refine G.known (t := 16) hc3 rfl ?_
        refine G.opN1 rfl rfl rfl rfl rfl ?_
        refine G.opN1 rfl rfl rfl rfl rfl ?_
        refine G.opN1 rfl rfl rfl rfl rfl ?_
        refine G.op1 (op_pickF (Ev.t 16 (bB false)) (Ev.c _ rfl) rfl) rfl ⟨rfl, trivial⟩ trivial ?_
        refine G.op1 (op_assign (Ev.t 20 (bB false)) rfl) rfl ⟨rfl, trivial⟩ trivial ?_
        refine G.endOps ?_
        cases hF
        exact G.ret1 Try.results38 (RVar.tmp 2 _) ⟨rfl, trivial⟩ trivial
    refine ifS hF (fun hc5 hF => ?_) (fun hc5 hF => ?_)
    · refine G.known (t := 11) hc5 rfl ?_
      refine G.opG1 (op_fieldP (off' := 1) Try.underlying27 rfl ti3 (by decide) rfl (Ev.t 1 (.ptr 1001 0)) rfl) rfl rfl rfl ⟨rfl, trivial⟩ trivial ?_
      refine G.opG1 (op_load1P (c := bI .i64 s_0.Site) Try.underlying3 rfl rfl (Ev.t 12 (.ptr 1001 1)) rfl) rfl rfl rfl ⟨rfl, trivial⟩ ⟨rfl, trivial⟩ ?_
      refine G.opG1 (op_geq (Ev.t 13 (bI .i64 s_0.Site)) (Ev.c _ rfl) rfl) rfl rfl rfl ⟨rfl, trivial⟩ trivial ?_
      refine G.op1 (op_pickT (Ev.t 11 (bB true)) (Ev.t 14 (bB (decide (0 ≤ s_0.Site)))) rfl) rfl ⟨rfl, rfl, trivial⟩ trivial ?_
      exact G.arr (J4 (decide (0 ≤ s_0.Site)) hF) ⟨rfl, rfl, trivial⟩ ⟨rfl, trivial⟩ rfl
    · refine G.known (t := 11) hc5 rfl ?_
      refine G.opN1 rfl rfl rfl rfl rfl ?_
      refine G.opN1 rfl rfl rfl rfl rfl ?_
      refine G.opN1 rfl rfl rfl rfl rfl ?_
      refine G.op1 (op_pickF (Ev.t 11 (bB false)) (Ev.c _ rfl) rfl) rfl ⟨rfl, trivial⟩ trivial ?_
      exact G.arr (J4 false hF) ⟨rfl, rfl, trivial⟩ ⟨rfl, trivial⟩ rfl
  refine ifS hF (fun hc7 hF => ?_) (fun hc7 hF => ?_)
  · refine G.known (t := 6) hc7 rfl ?_
    refine G.opG1 (op_fieldP (off' := 0) Try.underlying27 rfl ti3 (by decide) rfl (Ev.t 1 (.ptr 1001 0)) rfl) rfl rfl rfl ⟨rfl, trivial⟩ trivial ?_
    refine G.opG1 (op_load1P (c := bI .i64 s_0.N) Try.underlying3 rfl rfl (Ev.t 7 (.ptr 1001 0)) rfl) rfl rfl rfl ⟨rfl, trivial⟩ ⟨rfl, trivial⟩ ?_
    refine G.opG1 (op_leq (Ev.t 8 (bI .i64 s_0.N)) (Ev.c _ rfl) rfl) rfl rfl rfl ⟨rfl, trivial⟩ trivial ?_
    refine G.op1 (op_pickT (Ev.t 6 (bB true)) (Ev.t 9 (bB (decide (s_0.N ≤ 1099511627776)))) rfl) rfl ⟨rfl, rfl, trivial⟩ trivial ?_
    exact G.arr (J6 (decide (s_0.N ≤ 1099511627776)) hF) ⟨rfl, rfl, trivial⟩ ⟨rfl, trivial⟩ rfl
  · refine G.known (t := 6) hc7 rfl ?_
    refine G.opN1 rfl rfl rfl rfl rfl ?_
    refine G.opN1 rfl rfl rfl rfl rfl ?_
    refine G.opN1 rfl rfl rfl rfl rfl ?_
    refine G.op1 (op_pickF (Ev.t 6 (bB false)) (Ev.c _ rfl) rfl) rfl ⟨rfl, trivial⟩ trivial ?_
    exact G.arr (J6 false hF) ⟨rfl, rfl, trivial⟩ ⟨rfl, trivial⟩ rfl


set_option maxRecDepth 20000 in
set_option maxHeartbeats 2000000 in
theorem ct_ref04_Add (p_0 : (List Api_Dep)) (d_1 : Api_Dep) (r : (List Api_Dep)) (hF : ref04_Add p_0 d_1 = some r) : Ct Try.prog 23 [.g (.d (.sl 3 (List.map encApi_Dep p_0))), .g (.agg (encApi_Dep d_1))] (.one (.d (.sl 3 (List.map encApi_Dep r)))) := by
  unfold ref04_Add at hF
  refine Ct.intro Try.func23 rfl Try.ntmps23 rfl rfl fun M w => ?_
  refine G.seq ?_
  refine G.region ?_
  refine G.op2 (op_boxA (k := 1003) (Ev.t 1 (.g (.agg [vS d_1.Key, vI d_1.Stamp.N, vI d_1.Stamp.Site]))) rfl) rfl ⟨rfl, trivial⟩ ⟨rfl, trivial⟩ ?_
  refine G.op1 (op_assign (Ev.n 3) rfl) rfl trivial trivial ?_
  refine G.endOps ?_
  refine G.seq ?_
  refine G.region ?_
  refine G.op1 (op_fieldP (off' := 0) Try.underlying52 rfl ti9 (by decide) rfl (Ev.t 3 (.ptr 1003 0)) rfl) rfl ⟨rfl, trivial⟩ trivial ?_
  refine G.op1 (op_load1P (c := bS d_1.Key) Try.underlying9 rfl rfl (Ev.t 11 (.ptr 1003 0)) rfl) rfl ⟨rfl, trivial⟩ ⟨rfl, trivial⟩ ?_
  obtain ⟨r1, hr1, hF⟩ := bindS hF
  refine G.op1 (op_callQ (sv := oB r1) cf37 (ct_ref02_Check d_1.Key r1 hr1) rfl rfl (EvQL.cons (EvQ.g (Ev.t 12 (bS d_1.Key))) EvQL.nil) rfl) rfl ⟨rfl, trivial⟩ trivial ?_
  refine G.op1 (op_assign (Ev.t 13 (bB r1)) rfl) rfl ⟨rfl, trivial⟩ trivial ?_
  refine G.endOps ?_
  refine G.seq ?_
  refine G.region ?_
  refine G.op1 (op_fieldP (off' := 1) Try.underlying52 rfl ti27 (by decide) rfl (Ev.t 3 (.ptr 1003 0)) rfl) rfl ⟨rfl, trivial⟩ trivial ?_
  refine G.op1 (op_loadAP (ds := [vI d_1.Stamp.N, vI d_1.Stamp.Site]) Try.underlying27 rfl ti27 rfl (Ev.t 14 (.ptr 1003 1)) rfl) rfl ⟨rfl, trivial⟩ ⟨rfl, trivial⟩ ?_
  obtain ⟨r2, hr2, hF⟩ := bindS hF
  refine G.op1 (op_callQ (sv := oB r2) cf38 (ct_ref03_Check d_1.Stamp r2 hr2) rfl rfl (EvQL.cons (EvQ.g (Ev.t 15 (.g (.agg [vI d_1.Stamp.N, vI d_1.Stamp.Site])))) EvQL.nil) rfl) rfl ⟨rfl, trivial⟩ trivial ?_
  refine G.op1 (op_assign (Ev.t 16 (bB r2)) rfl) rfl ⟨rfl, trivial⟩ trivial ?_
  refine G.endOps ?_
  refine G.seq ?_
  refine G.seq ?_
  refine G.joinC (T := Bool) (fun y3 => ⟨[(0, .one (.g (.d (.sl 3 (List.map encApi_Dep p_0))))), (3, .one (.ptr 1003 0)), (22, oB y3)], [(1003, some (.blk 52 [bS d_1.Key, bI .i64 d_1.Stamp.N, bI .i64 d_1.Stamp.Site]))]⟩) (fun y3 => ref04_Add_k1 p_0 d_1 y3 = some r) (fun y3 hF => ?_) (fun J28 => ?_)
  · unfold ref04_Add_k1 at hF
    refine ifS hF (fun hc4 hF => ?_) (fun hc4 hF => ?_)
    · refine G.cond rfl (fun _ => ?_) (fun hx => by rw [hc4] at hx; cases hx)
      refine G.seq ?_
      refine G.region ?_
      refine G.op1 (op_move (Ev.t 0 (.g (.d (.sl 3 (List.map encApi_Dep p_0))))) rfl) rfl ⟨rfl, trivial⟩ trivial ?_
      refine G.op1 (op_assign (Ev.t 23 (.g (.d (.sl 3 (List.map encApi_Dep p_0))))) rfl) rfl ⟨rfl, trivial⟩ trivial ?_
      refine G.endOps ?_
      cases hF
      exact G.ret1 Try.results23 (RVar.tmp 4 _) ⟨rfl, trivial⟩ trivial
    · refine G.cond rfl (fun hx => by rw [hc4] at hx; cases hx) (fun _ => ?_)
      refine G.skip ?_
      refine G.seq ?_
      refine G.region ?_
      refine G.op2 (op_assignRow (E := 52) (size := 3) (k := 2007) (ex := false) rfl rfl) rfl trivial ⟨rfl, trivial⟩ ?_
      refine G.endOps ?_
      refine G.seq ?_
      refine G.region ?_
      refine G.op1 (op_assign (Ev.c _ rfl) rfl) rfl trivial trivial ?_
      refine G.endOps ?_
      refine G.seq ?_
      refine G.seq ?_
      refine G.region ?_
      refine G.op1 (op_assign (Ev.c _ rfl) rfl) rfl trivial trivial ?_
      refine G.endOps ?_
      refine G.joinC (T := Bool × (List Api_Dep)) (fun y5 => ⟨[(3, .one (.ptr 1003 0)), (7, .one (.own 2007 (List.map encApi_Dep y5.2))), (8, oB y5.1)], [(1003, some (.blk 52 [bS d_1.Key, bI .i64 d_1.Stamp.N, bI .i64 d_1.Stamp.Site])), (2007, some (.row 52 3 (List.map encApi_Dep y5.2) false))]⟩) (fun y5 => ref04_Add_k2 d_1 y5 = some r) (fun y5 hF => ?_) (fun J8 => ?_)
      · unfold ref04_Add_k2 at hF
        refine G.seq ?_
        refine G.seq ?_
        refine G.region ?_
        refine G.op1 (op_move (Ev.t 8 (bB y5.1)) rfl) rfl ⟨rfl, trivial⟩ trivial ?_
        refine G.op1 (op_not (Ev.t 62 (bB y5.1)) rfl) rfl ⟨rfl, trivial⟩ trivial ?_
        refine G.endOps ?_
        refine ifS hF (fun hc6 hF => ?_) (fun hc6 hF => ?_)
        · refine G.cond rfl (fun _ => ?_) (fun hx => by rw [hc6] at hx; cases hx)
          refine G.region ?_
          refine G.op1 (op_move (Ev.t 7 (.own 2007 (List.map encApi_Dep y5.2))) rfl) rfl ⟨rfl, trivial⟩ trivial ?_
          refine G.op1 (op_loadAP (ds := [vS d_1.Key, vI d_1.Stamp.N, vI d_1.Stamp.Site]) Try.underlying52 rfl ti52 rfl (Ev.t 3 (.ptr 1003 0)) rfl) rfl ⟨rfl, trivial⟩ ⟨rfl, trivial⟩ ?_
          refine G.op1 (op_buildSlice (es := List.map encApi_Dep [d_1]) Try.underlying28 ti52 rfl rfl (EvP.cons (Ev.t 65 (.g (.agg [vS d_1.Key, vI d_1.Stamp.N, vI d_1.Stamp.Site]))) EvP.nil) rfl rfl (by simp [encApi_Dep]) rfl) rfl ⟨rfl, trivial⟩ trivial ?_
          obtain ⟨l7, hl7, hF⟩ := bindS hF
          refine G.op2 (op_appendO Try.underlying28 ti52 rfl (app_map hl7 encApi_Dep) (app_b1 hl7 encApi_Dep) (app_b2 hl7 encApi_Dep) (Ev.t 64 (.own 2007 (List.map encApi_Dep y5.2))) (Ev.t 66 (.g (.d (.sl 3 (List.map encApi_Dep ([d_1])))))) rfl) rfl ⟨rfl, rfl, trivial⟩ ⟨rfl, trivial⟩ ?_
          refine G.op1 (op_assign (Ev.t 67 (.own 2007 (List.map encApi_Dep l7))) rfl) rfl ⟨rfl, trivial⟩ trivial ?_
          refine G.endOps ?_
          refine G.seq ?_
          refine G.region ?_
          refine G.op1 (op_move (Ev.t 7 (.own 2007 (List.map encApi_Dep l7))) rfl) rfl ⟨rfl, trivial⟩ trivial ?_
          refine G.op1 (op_assign (Ev.t 68 (.own 2007 (List.map encApi_Dep l7))) rfl) rfl ⟨rfl, trivial⟩ trivial ?_
          refine G.endOps ?_
          refine G.view (t := 4) rfl rfl ?_
          cases hF
          exact G.ret1 Try.results23 (RVar.tmp 4 _) ⟨rfl, trivial⟩ trivial
        · refine G.cond rfl (fun hx => by rw [hc6] at hx; cases hx) (fun _ => ?_)
          refine G.skip ?_
          refine G.seq ?_
          refine G.region ?_
          refine G.op1 (op_move (Ev.t 7 (.own 2007 (List.map encApi_Dep y5.2))) rfl) rfl ⟨rfl, trivial⟩ trivial ?_
          refine G.op1 (op_assign (Ev.t 68 (.own 2007 (List.map encApi_Dep y5.2))) rfl) rfl ⟨rfl, trivial⟩ trivial ?_
          refine G.endOps ?_
          refine G.view (t := 4) rfl rfl ?_
          cases hF
          exact G.ret1 Try.results23 (RVar.tmp 4 _) ⟨rfl, trivial⟩ trivial
      refine G.block ?_
      refine G.keep (sl' := [(0, .one (.g (.d (.sl 3 (List.map encApi_Dep p_0))))), (3, .one (.ptr 1003 0)), (7, .one (.own 2007 (List.map encApi_Dep ([] : (List Api_Dep))))), (8, oB false), (9, oI 0)]) (hp' := [(1003, some (.blk 52 [bS d_1.Key, bI .i64 d_1.Stamp.N, bI .i64 d_1.Stamp.Site])), (2007, some (.row 52 3 (List.map encApi_Dep ([] : (List Api_Dep))) false))]) ⟨rfl, rfl, rfl, rfl, rfl, trivial⟩ ⟨rfl, rfl, trivial⟩ rfl ?_
      refine G.loopF (fun (v9 : Bool × Int × (List Api_Dep)) => ⟨[(0, .one (.g (.d (.sl 3 (List.map encApi_Dep p_0))))), (3, .one (.ptr 1003 0)), (7, .one (.own 2007 (List.map encApi_Dep v9.2.2))), (8, oB v9.1), (9, oI v9.2.1)], [(1003, some (.blk 52 [bS d_1.Key, bI .i64 d_1.Stamp.N, bI .i64 d_1.Stamp.Site])), (2007, some (.row 52 3 (List.map encApi_Dep v9.2.2) false))]⟩) hF rfl (fun K12 again11 v9 J10 hF => ?_)
      unfold ref04_Add_l3 at hF
      refine G.seq ?_
      refine G.seq ?_
      refine G.region ?_
      refine G.op1 (op_move (Ev.t 9 (bI .i64 v9.2.1)) rfl) rfl ⟨rfl, trivial⟩ trivial ?_
      refine G.op1 (op_move (Ev.t 0 (.g (.d (.sl 3 (List.map encApi_Dep p_0))))) rfl) rfl ⟨rfl, trivial⟩ trivial ?_
      refine G.op1 (OpL.cast (op_lenD Try.underlying28 (Ev.t 25 (.g (.d (.sl 3 (List.map encApi_Dep p_0))))) rfl) (by rw [List.length_map])) rfl ⟨rfl, trivial⟩ trivial ?_
      refine G.op1 (op_lss (Ev.t 24 (bI .i64 v9.2.1)) (Ev.t 26 (bI .i64 (p_0.length : Int))) rfl) rfl ⟨rfl, rfl, trivial⟩ trivial ?_
      refine G.endOps ?_
      refine ifS hF (fun hc13 hF => ?_) (fun hc13 hF => ?_)
      · refine G.cond rfl (fun _ => ?_) (fun hx => by rw [hc13] at hx; cases hx)
        refine G.skip ?_
        refine G.seq ?_
        refine G.block ?_
        refine G.seq ?_
        refine G.region ?_
        refine G.op1 (op_move (Ev.t 0 (.g (.d (.sl 3 (List.map encApi_Dep p_0))))) rfl) rfl ⟨rfl, trivial⟩ trivial ?_
        refine G.op1 (op_move (Ev.t 9 (bI .i64 v9.2.1)) rfl) rfl ⟨rfl, trivial⟩ trivial ?_
        obtain ⟨x14, hx14, hF⟩ := bindS hF
        refine G.op1 (op_index (cs := [vS x14.Key, vI x14.Stamp.N, vI x14.Stamp.Site]) Try.underlying28 ti52 (idx_ok hx14).1 (idx_get hx14 encApi_Dep) (Ev.t 30 (.g (.d (.sl 3 (List.map encApi_Dep p_0))))) (Ev.t 31 (bI .i64 v9.2.1)) rfl) rfl ⟨rfl, rfl, trivial⟩ trivial ?_
        refine G.op1 (op_loadAE (ds := [vS x14.Key, vI x14.Stamp.N, vI x14.Stamp.Site]) Try.underlying52 rfl ti52 rfl (Ev.t 32 (.ep [vS x14.Key, vI x14.Stamp.N, vI x14.Stamp.Site])) rfl) rfl ⟨rfl, trivial⟩ trivial ?_
        refine G.op2 (op_alloc (k := 1010) (cs := [bS ByteArray.empty, bI .i64 0, bI .i64 0]) ti52 ⟨.v _ rfl, .v _ rfl, .v _ rfl, trivial⟩ rfl) rfl trivial ⟨rfl, trivial⟩ ?_
        refine G.op3 (op_storeA (cs' := [bS x14.Key, bI .i64 x14.Stamp.N, bI .i64 x14.Stamp.Site]) ti52 rfl rfl (Ev.t 10 (.ptr 1010 0)) (Ev.t 33 (.g (.agg [vS x14.Key, vI x14.Stamp.N, vI x14.Stamp.Site])))) rfl ⟨rfl, rfl, trivial⟩ ⟨rfl, trivial⟩ ?_
        refine G.endOps ?_
        refine G.seq ?_
        refine G.seq ?_
        refine G.region ?_
        refine G.op1 (op_fieldP (off' := 0) Try.underlying52 rfl ti9 (by decide) rfl (Ev.t 10 (.ptr 1010 0)) rfl) rfl ⟨rfl, trivial⟩ trivial ?_
        refine G.op1 (op_load1P (c := bS x14.Key) Try.underlying9 rfl rfl (Ev.t 34 (.ptr 1010 0)) rfl) rfl ⟨rfl, trivial⟩ ⟨rfl, trivial⟩ ?_
        refine G.op1 (op_fieldP (off' := 0) Try.underlying52 rfl ti9 (by decide) rfl (Ev.t 3 (.ptr 1003 0)) rfl) rfl ⟨rfl, trivial⟩ trivial ?_
        refine G.op1 (op_load1P (c := bS d_1.Key) Try.underlying9 rfl rfl (Ev.t 36 (.ptr 1003 0)) rfl) rfl ⟨rfl, trivial⟩ ⟨rfl, trivial⟩ ?_
        refine G.op1 (op_eqS (Ev.t 35 (bS x14.Key)) (Ev.t 37 (bS d_1.Key)) rfl) rfl ⟨rfl, rfl, trivial⟩ trivial ?_
        refine G.endOps ?_
        refine G.joinC (T := Bool × ByteArray × Int × Int) (fun y15 => ⟨[(0, .one (.g (.d (.sl 3 (List.map encApi_Dep p_0))))), (3, .one (.ptr 1003 0)), (7, .one (.own 2007 (List.map encApi_Dep v9.2.2))), (8, oB y15.1), (9, oI v9.2.1), (10, .one (.ptr 1010 0))], [(1003, some (.blk 52 [bS d_1.Key, bI .i64 d_1.Stamp.N, bI .i64 d_1.Stamp.Site])), (1010, some (.blk 52 [bS y15.2.1, bI .i64 y15.2.2.1, bI .i64 y15.2.2.2])), (2007, some (.row 52 3 (List.map encApi_Dep v9.2.2) false))]⟩) (fun y15 => ref04_Add_k4 d_1 again11 v9 y15 = some r) (fun y15 hF => ?_) (fun J24 => ?_)
        · unfold ref04_Add_k4 at hF
          refine G.seq ?_
          refine G.seq ?_
          refine G.joinC (T := Bool) (fun y16 => ⟨[(0, .one (.g (.d (.sl 3 (List.map encApi_Dep p_0))))), (3, .one (.ptr 1003 0)), (7, .one (.own 2007 (List.map encApi_Dep v9.2.2))), (8, oB y15.1), (9, oI v9.2.1), (10, .one (.ptr 1010 0)), (53, oB y16)], [(1003, some (.blk 52 [bS d_1.Key, bI .i64 d_1.Stamp.N, bI .i64 d_1.Stamp.Site])), (1010, some (.blk 52 [bS y15.2.1, bI .i64 y15.2.2.1, bI .i64 y15.2.2.2])), (2007, some (.row 52 3 (List.map encApi_Dep v9.2.2) false))]⟩) (fun y16 => ref04_Add_k5 d_1 again11 v9 y15 y16 = some r) (fun y16 hF => ?_) (fun J22 => ?_)
          · unfold ref04_Add_k5 at hF
            refine G.joinC (T := Bool × (List Api_Dep)) (fun y17 => ⟨[(0, .one (.g (.d (.sl 3 (List.map encApi_Dep p_0))))), (3, .one (.ptr 1003 0)), (7, .one (.own 2007 (List.map encApi_Dep y17.2))), (8, oB y17.1), (9, oI v9.2.1), (10, .one (.ptr 1010 0))], [(1003, some (.blk 52 [bS d_1.Key, bI .i64 d_1.Stamp.N, bI .i64 d_1.Stamp.Site])), (1010, some (.blk 52 [bS y15.2.1, bI .i64 y15.2.2.1, bI .i64 y15.2.2.2])), (2007, some (.row 52 3 (List.map encApi_Dep y17.2) false))]⟩) (fun y17 => ref04_Add_k6 again11 v9 y15 y17 = some r) (fun y17 hF => ?_) (fun J19 => ?_)
            · unfold ref04_Add_k6 at hF
              refine G.region ?_
              refine G.op1 (op_move (Ev.t 7 (.own 2007 (List.map encApi_Dep y17.2))) rfl) rfl ⟨rfl, trivial⟩ trivial ?_
              refine G.op1 (op_loadAP (ds := [vS y15.2.1, vI y15.2.2.1, vI y15.2.2.2]) Try.underlying52 rfl ti52 rfl (Ev.t 10 (.ptr 1010 0)) rfl) rfl ⟨rfl, trivial⟩ ⟨rfl, trivial⟩ ?_
              refine G.op1 (op_buildSlice (es := List.map encApi_Dep [(Api_Dep.mk y15.2.1 (Api_Stamp.mk y15.2.2.1 y15.2.2.2))]) Try.underlying28 ti52 rfl rfl (EvP.cons (Ev.t 59 (.g (.agg [vS y15.2.1, vI y15.2.2.1, vI y15.2.2.2]))) EvP.nil) rfl rfl (by simp [encApi_Dep]) rfl) rfl ⟨rfl, trivial⟩ trivial ?_
              obtain ⟨l18, hl18, hF⟩ := bindS hF
              refine G.op2 (op_appendO Try.underlying28 ti52 rfl (app_map hl18 encApi_Dep) (app_b1 hl18 encApi_Dep) (app_b2 hl18 encApi_Dep) (Ev.t 58 (.own 2007 (List.map encApi_Dep y17.2))) (Ev.t 60 (.g (.d (.sl 3 (List.map encApi_Dep ([(Api_Dep.mk y15.2.1 (Api_Stamp.mk y15.2.2.1 y15.2.2.2))])))))) rfl) rfl ⟨rfl, rfl, trivial⟩ ⟨rfl, trivial⟩ ?_
              refine G.op1 (op_assign (Ev.t 61 (.own 2007 (List.map encApi_Dep l18))) rfl) rfl ⟨rfl, trivial⟩ trivial ?_
              refine G.endOps ?_
              refine G.endBlock ?_
              refine G.region ?_
              refine G.op1 (op_move (Ev.t 9 (bI .i64 v9.2.1)) rfl) rfl ⟨rfl, trivial⟩ trivial ?_
              refine G.op1 (op_add (Ev.t 28 (bI .i64 v9.2.1)) (Ev.c _ rfl) rfl) rfl ⟨rfl, trivial⟩ trivial ?_
              refine G.op1 (op_assign (Ev.t 29 (bI .i64 (IntKind.wrap .i64 (v9.2.1 + 1)))) rfl) rfl ⟨rfl, trivial⟩ trivial ?_
              refine G.endOps ?_
              exact G.arr (J10 (y17.1, IntKind.wrap .i64 (v9.2.1 + 1), l18) hF) ⟨rfl, rfl, rfl, rfl, rfl, trivial⟩ ⟨rfl, rfl, trivial⟩ rfl
            refine ifS hF (fun hc20 hF => ?_) (fun hc20 hF => ?_)
            · refine G.cond rfl (fun _ => ?_) (fun hx => by rw [hc20] at hx; cases hx)
              refine G.seq ?_
              refine G.region ?_
              refine G.op1 (op_move (Ev.t 7 (.own 2007 (List.map encApi_Dep v9.2.2))) rfl) rfl ⟨rfl, trivial⟩ trivial ?_
              refine G.op1 (op_loadAP (ds := [vS d_1.Key, vI d_1.Stamp.N, vI d_1.Stamp.Site]) Try.underlying52 rfl ti52 rfl (Ev.t 3 (.ptr 1003 0)) rfl) rfl ⟨rfl, trivial⟩ ⟨rfl, trivial⟩ ?_
              refine G.op1 (op_buildSlice (es := List.map encApi_Dep [d_1]) Try.underlying28 ti52 rfl rfl (EvP.cons (Ev.t 55 (.g (.agg [vS d_1.Key, vI d_1.Stamp.N, vI d_1.Stamp.Site]))) EvP.nil) rfl rfl (by simp [encApi_Dep]) rfl) rfl ⟨rfl, trivial⟩ trivial ?_
              obtain ⟨l21, hl21, hF⟩ := bindS hF
              refine G.op2 (op_appendO Try.underlying28 ti52 rfl (app_map hl21 encApi_Dep) (app_b1 hl21 encApi_Dep) (app_b2 hl21 encApi_Dep) (Ev.t 54 (.own 2007 (List.map encApi_Dep v9.2.2))) (Ev.t 56 (.g (.d (.sl 3 (List.map encApi_Dep ([d_1])))))) rfl) rfl ⟨rfl, rfl, trivial⟩ ⟨rfl, trivial⟩ ?_
              refine G.op1 (op_assign (Ev.t 57 (.own 2007 (List.map encApi_Dep l21))) rfl) rfl ⟨rfl, trivial⟩ trivial ?_
              refine G.endOps ?_
              refine G.region ?_
              refine G.op1 (op_assign (Ev.c _ rfl) rfl) rfl trivial trivial ?_
              refine G.endOps ?_
              exact G.arr (J19 (true, l21) hF) ⟨rfl, rfl, rfl, rfl, rfl, rfl, trivial⟩ ⟨rfl, rfl, rfl, trivial⟩ rfl
            · refine G.cond rfl (fun hx => by rw [hc20] at hx; cases hx) (fun _ => ?_)
              refine G.skip ?_
              exact G.arr (J19 (y15.1, v9.2.2) hF) ⟨rfl, rfl, rfl, rfl, rfl, rfl, trivial⟩ ⟨rfl, rfl, rfl, trivial⟩ rfl
          refine G.region ?_
          refine G.op1 (op_move (Ev.t 8 (bB y15.1)) rfl) rfl ⟨rfl, trivial⟩ trivial ?_
          refine G.op1 (op_not (Ev.t 45 (bB y15.1)) rfl) rfl ⟨rfl, trivial⟩ trivial ?_
          refine G.op1 (op_move (Ev.t 46 (bB (!y15.1))) rfl) rfl ⟨rfl, trivial⟩ trivial ?_
          refine ifS hF (fun hc23 hF => ?_) (fun hc23 hF => ?_)
          · refine G.known (t := 47) hc23 rfl ?_
            refine G.opG1 (op_fieldP (off' := 0) Try.underlying52 rfl ti9 (by decide) rfl (Ev.t 10 (.ptr 1010 0)) rfl) rfl rfl rfl ⟨rfl, trivial⟩ trivial ?_
            refine G.opG1 (op_load1P (c := bS y15.2.1) Try.underlying9 rfl rfl (Ev.t 48 (.ptr 1010 0)) rfl) rfl rfl rfl ⟨rfl, trivial⟩ ⟨rfl, trivial⟩ ?_
            refine G.opG1 (op_fieldP (off' := 0) Try.underlying52 rfl ti9 (by decide) rfl (Ev.t 3 (.ptr 1003 0)) rfl) rfl rfl rfl ⟨rfl, trivial⟩ trivial ?_
            refine G.opG1 (op_load1P (c := bS d_1.Key) Try.underlying9 rfl rfl (Ev.t 50 (.ptr 1003 0)) rfl) rfl rfl rfl ⟨rfl, trivial⟩ ⟨rfl, trivial⟩ ?_
            refine G.opG1 (op_gtS (Ev.t 49 (bS y15.2.1)) (Ev.t 51 (bS d_1.Key)) rfl) rfl rfl rfl ⟨rfl, rfl, trivial⟩ trivial ?_
            refine G.op1 (op_pickT (Ev.t 47 (bB true)) (Ev.t 52 (bB (!(slt y15.2.1 d_1.Key || seq y15.2.1 d_1.Key)))) rfl) rfl ⟨rfl, rfl, trivial⟩ trivial ?_
            refine G.endOps ?_
            exact G.arr (J22 (!(slt y15.2.1 d_1.Key || seq y15.2.1 d_1.Key)) hF) ⟨rfl, rfl, rfl, rfl, rfl, rfl, rfl, trivial⟩ ⟨rfl, rfl, rfl, trivial⟩ rfl
          · refine G.known (t := 47) hc23 rfl ?_
            refine G.opN1 rfl rfl rfl rfl rfl ?_
            refine G.opN1 rfl rfl rfl rfl rfl ?_
            refine G.opN1 rfl rfl rfl rfl rfl ?_
            refine G.opN1 rfl rfl rfl rfl rfl ?_
            refine G.opN1 rfl rfl rfl rfl rfl ?_
            refine G.op1 (op_pickF (Ev.t 47 (bB false)) (Ev.c _ rfl) rfl) rfl ⟨rfl, trivial⟩ trivial ?_
            refine G.endOps ?_
            exact G.arr (J22 false hF) ⟨rfl, rfl, rfl, rfl, rfl, rfl, rfl, trivial⟩ ⟨rfl, rfl, rfl, trivial⟩ rfl
        refine ifS hF (fun hc25 hF => ?_) (fun hc25 hF => ?_)
        · refine G.cond rfl (fun _ => ?_) (fun hx => by rw [hc25] at hx; cases hx)
          refine G.seq ?_
          refine G.seq ?_
          refine G.region ?_
          refine G.op1 (op_fieldP (off' := 1) Try.underlying52 rfl ti27 (by decide) rfl (Ev.t 10 (.ptr 1010 0)) rfl) rfl ⟨rfl, trivial⟩ trivial ?_
          refine G.op1 (op_loadAP (ds := [vI x14.Stamp.N, vI x14.Stamp.Site]) Try.underlying27 rfl ti27 rfl (Ev.t 39 (.ptr 1010 1)) rfl) rfl ⟨rfl, trivial⟩ ⟨rfl, trivial⟩ ?_
          refine G.op1 (op_fieldP (off' := 1) Try.underlying52 rfl ti27 (by decide) rfl (Ev.t 3 (.ptr 1003 0)) rfl) rfl ⟨rfl, trivial⟩ trivial ?_
          refine G.op1 (op_loadAP (ds := [vI d_1.Stamp.N, vI d_1.Stamp.Site]) Try.underlying27 rfl ti27 rfl (Ev.t 41 (.ptr 1003 1)) rfl) rfl ⟨rfl, trivial⟩ ⟨rfl, trivial⟩ ?_
          obtain ⟨r26, hr26, hF⟩ := bindS hF
          refine G.op1 (op_callQ (sv := oB r26) cf16 (ct_ref03_Less x14.Stamp d_1.Stamp r26 hr26) rfl rfl (EvQL.cons (EvQ.g (Ev.t 40 (.g (.agg [vI x14.Stamp.N, vI x14.Stamp.Site])))) (EvQL.cons (EvQ.g (Ev.t 42 (.g (.agg [vI d_1.Stamp.N, vI d_1.Stamp.Site])))) EvQL.nil)) rfl) rfl ⟨rfl, rfl, trivial⟩ trivial ?_
          refine G.endOps ?_
          refine ifS hF (fun hc27 hF => ?_) (fun hc27 hF => ?_)
          · refine G.cond rfl (fun _ => ?_) (fun hx => by rw [hc27] at hx; cases hx)
            refine G.region ?_
            refine G.op1 (op_loadAP (ds := [vS d_1.Key, vI d_1.Stamp.N, vI d_1.Stamp.Site]) Try.underlying52 rfl ti52 rfl (Ev.t 3 (.ptr 1003 0)) rfl) rfl ⟨rfl, trivial⟩ ⟨rfl, trivial⟩ ?_
            refine G.op3 (op_storeA (cs' := [bS d_1.Key, bI .i64 d_1.Stamp.N, bI .i64 d_1.Stamp.Site]) ti52 rfl rfl (Ev.t 10 (.ptr 1010 0)) (Ev.t 44 (.g (.agg [vS d_1.Key, vI d_1.Stamp.N, vI d_1.Stamp.Site])))) rfl ⟨rfl, rfl, trivial⟩ ⟨rfl, trivial⟩ ?_
            refine G.endOps ?_
            refine G.region ?_
            refine G.op1 (op_assign (Ev.c _ rfl) rfl) rfl trivial trivial ?_
            refine G.endOps ?_
            exact G.arr (J24 (true, d_1.Key, d_1.Stamp.N, d_1.Stamp.Site) hF) ⟨rfl, rfl, rfl, rfl, rfl, rfl, trivial⟩ ⟨rfl, rfl, rfl, trivial⟩ rfl
          · refine G.cond rfl (fun hx => by rw [hc27] at hx; cases hx) (fun _ => ?_)
            refine G.skip ?_
            refine G.region ?_
            refine G.op1 (op_assign (Ev.c _ rfl) rfl) rfl trivial trivial ?_
            refine G.endOps ?_
            exact G.arr (J24 (true, x14.Key, x14.Stamp.N, x14.Stamp.Site) hF) ⟨rfl, rfl, rfl, rfl, rfl, rfl, trivial⟩ ⟨rfl, rfl, rfl, trivial⟩ rfl
        · refine G.cond rfl (fun hx => by rw [hc25] at hx; cases hx) (fun _ => ?_)
          refine G.skip ?_
          exact G.arr (J24 (v9.1, x14.Key, x14.Stamp.N, x14.Stamp.Site) hF) ⟨rfl, rfl, rfl, rfl, rfl, rfl, trivial⟩ ⟨rfl, rfl, rfl, trivial⟩ rfl
      · refine G.cond rfl (fun hx => by rw [hc13] at hx; cases hx) (fun _ => ?_)
        refine G.exit ?_
        refine GX.c ?_
        refine GX.q ?_
        refine GX.bYes ?_
        exact G.arr (J8 (v9.1, v9.2.2) hF) ⟨rfl, rfl, rfl, trivial⟩ ⟨rfl, rfl, trivial⟩ rfl
  refine G.region ?_
  refine G.op1 (op_move (Ev.t 5 (bB r1)) rfl) rfl ⟨rfl, trivial⟩ trivial ?_
  refine G.op1 (op_not (Ev.t 17 (bB r1)) rfl) rfl ⟨rfl, trivial⟩ trivial ?_
  refine G.op1 (op_move (Ev.t 18 (bB (!r1))) rfl) rfl ⟨rfl, trivial⟩ trivial ?_
  refine ifS hF (fun hc29 hF => ?_) (fun hc29 hF => ?_)
  · refine G.known (t := 19) hc29 rfl ?_
    refine G.opN1 rfl rfl rfl rfl rfl ?_
    refine G.opN1 rfl rfl rfl rfl rfl ?_
    refine G.op1 (op_pickT (Ev.t 19 (bB true)) (Ev.c _ rfl) rfl) rfl ⟨rfl, trivial⟩ trivial ?_
    refine G.endOps ?_
    exact G.arr (J28 true hF) ⟨rfl, rfl, rfl, trivial⟩ ⟨rfl, trivial⟩ rfl
  · refine G.known (t := 19) hc29 rfl ?_
    refine G.opG1 (op_move (Ev.t 6 (bB r2)) rfl) rfl rfl rfl ⟨rfl, trivial⟩ trivial ?_
    refine G.opG1 (op_not (Ev.t 20 (bB r2)) rfl) rfl rfl rfl ⟨rfl, trivial⟩ trivial ?_
    refine G.op1 (op_pickF (Ev.t 19 (bB false)) (Ev.t 21 (bB (!r2))) rfl) rfl ⟨rfl, rfl, trivial⟩ trivial ?_
    refine G.endOps ?_
    exact G.arr (J28 (!r2) hF) ⟨rfl, rfl, rfl, trivial⟩ ⟨rfl, trivial⟩ rfl


set_option maxRecDepth 20000 in
set_option maxHeartbeats 2000000 in
theorem ct_ref04_Merge (l_0 : (List (List Api_Dep))) (r : (List Api_Dep)) (hF : ref04_Merge l_0 = some r) : Ct Try.prog 24 [.g (.d (.sl 1 (List.map encL_encApi_Dep l_0)))] (.one (.d (.sl 3 (List.map encApi_Dep r)))) := by
  unfold ref04_Merge at hF
  refine Ct.intro Try.func24 rfl Try.ntmps24 rfl rfl fun M w => ?_
  refine G.seq ?_
  refine G.region ?_
  refine G.op1 (op_assign (Ev.n 3) rfl) rfl trivial trivial ?_
  refine G.endOps ?_
  refine G.seq ?_
  refine G.region ?_
  refine G.op1 (op_assign (Ev.n 3) rfl) rfl trivial trivial ?_
  refine G.endOps ?_
  refine G.seq ?_
  refine G.seq ?_
  refine G.region ?_
  refine G.op1 (op_assign (Ev.c _ rfl) rfl) rfl trivial trivial ?_
  refine G.endOps ?_
  refine G.joinC (T := (List Api_Dep)) (fun y1 => ⟨[(3, .one (.g (.d (.sl 3 (List.map encApi_Dep y1)))))], []⟩) (fun y1 => ref04_Merge_k1 y1 = some r) (fun y1 hF => ?_) (fun J2 => ?_)
  · unfold ref04_Merge_k1 at hF
    refine G.seq ?_
    refine G.region ?_
    refine G.op1 (op_move (Ev.t 3 (.g (.d (.sl 3 (List.map encApi_Dep y1))))) rfl) rfl ⟨rfl, trivial⟩ trivial ?_
    refine G.op1 (op_assign (Ev.t 30 (.g (.d (.sl 3 (List.map encApi_Dep y1))))) rfl) rfl ⟨rfl, trivial⟩ trivial ?_
    refine G.endOps ?_
    cases hF
    exact G.ret1 Try.results24 (RVar.tmp 2 _) ⟨rfl, trivial⟩ trivial
  refine G.block ?_
  refine G.keep (sl' := [(0, .one (.g (.d (.sl 1 (List.map encL_encApi_Dep l_0))))), (3, .one (.g (.d (.sl 3 (List.map encApi_Dep ([] : (List Api_Dep))))))), (4, oI 0)]) (hp' := []) ⟨rfl, rfl, rfl, trivial⟩ trivial rfl ?_
  refine G.loopF (fun (v3 : (List Api_Dep) × Int) => ⟨[(0, .one (.g (.d (.sl 1 (List.map encL_encApi_Dep l_0))))), (3, .one (.g (.d (.sl 3 (List.map encApi_Dep v3.1))))), (4, oI v3.2)], []⟩) hF rfl (fun K6 again5 v3 J4 hF => ?_)
  unfold ref04_Merge_l2 at hF
  refine G.seq ?_
  refine G.seq ?_
  refine G.region ?_
  refine G.op1 (op_move (Ev.t 4 (bI .i64 v3.2)) rfl) rfl ⟨rfl, trivial⟩ trivial ?_
  refine G.op1 (op_move (Ev.t 0 (.g (.d (.sl 1 (List.map encL_encApi_Dep l_0))))) rfl) rfl ⟨rfl, trivial⟩ trivial ?_
  refine G.op1 (OpL.cast (op_lenD Try.underlying60 (Ev.t 7 (.g (.d (.sl 1 (List.map encL_encApi_Dep l_0))))) rfl) (by rw [List.length_map])) rfl ⟨rfl, trivial⟩ trivial ?_
  refine G.op1 (op_lss (Ev.t 6 (bI .i64 v3.2)) (Ev.t 8 (bI .i64 (l_0.length : Int))) rfl) rfl ⟨rfl, rfl, trivial⟩ trivial ?_
  refine G.endOps ?_
  refine ifS hF (fun hc7 hF => ?_) (fun hc7 hF => ?_)
  · refine G.cond rfl (fun _ => ?_) (fun hx => by rw [hc7] at hx; cases hx)
    refine G.skip ?_
    refine G.seq ?_
    refine G.joinC (T := (List Api_Dep)) (fun y8 => ⟨[(0, .one (.g (.d (.sl 1 (List.map encL_encApi_Dep l_0))))), (3, .one (.g (.d (.sl 3 (List.map encApi_Dep y8))))), (4, oI v3.2)], []⟩) (fun y8 => ref04_Merge_k3 again5 v3 y8 = some r) (fun y8 hF => ?_) (fun J9 => ?_)
    · unfold ref04_Merge_k3 at hF
      refine G.region ?_
      refine G.op1 (op_move (Ev.t 4 (bI .i64 v3.2)) rfl) rfl ⟨rfl, trivial⟩ trivial ?_
      refine G.op1 (op_add (Ev.t 10 (bI .i64 v3.2)) (Ev.c _ rfl) rfl) rfl ⟨rfl, trivial⟩ trivial ?_
      refine G.op1 (op_assign (Ev.t 11 (bI .i64 (IntKind.wrap .i64 (v3.2 + 1)))) rfl) rfl ⟨rfl, trivial⟩ trivial ?_
      refine G.endOps ?_
      exact G.arr (J4 (y8, IntKind.wrap .i64 (v3.2 + 1)) hF) ⟨rfl, rfl, rfl, trivial⟩ trivial rfl
    refine G.block ?_
    refine G.seq ?_
    refine G.region ?_
    refine G.op1 (op_assign (Ev.c _ rfl) rfl) rfl trivial trivial ?_
    refine G.endOps ?_
    refine G.joinC (T := (List Api_Dep)) (fun y10 => ⟨[(0, .one (.g (.d (.sl 1 (List.map encL_encApi_Dep l_0))))), (3, .one (.g (.d (.sl 3 (List.map encApi_Dep y10))))), (4, oI v3.2)], []⟩) (fun y10 => ref04_Merge_k4 again5 v3 y10 = some r) (fun y10 hF => ?_) (fun J11 => ?_)
    · unfold ref04_Merge_k4 at hF
      refine G.endBlock ?_
      exact G.arr (J9 y10 hF) ⟨rfl, rfl, rfl, trivial⟩ trivial rfl
    refine G.block ?_
    refine G.keep (sl' := [(0, .one (.g (.d (.sl 1 (List.map encL_encApi_Dep l_0))))), (3, .one (.g (.d (.sl 3 (List.map encApi_Dep v3.1))))), (4, oI v3.2), (5, oI 0)]) (hp' := []) ⟨rfl, rfl, rfl, rfl, trivial⟩ trivial rfl ?_
    refine G.loopF (fun (v12 : (List Api_Dep) × Int) => ⟨[(0, .one (.g (.d (.sl 1 (List.map encL_encApi_Dep l_0))))), (3, .one (.g (.d (.sl 3 (List.map encApi_Dep v12.1))))), (4, oI v3.2), (5, oI v12.2)], []⟩) hF rfl (fun K15 again14 v12 J13 hF => ?_)
    unfold ref04_Merge_l5 at hF
    refine G.seq ?_
    refine G.seq ?_
    refine G.region ?_
    refine G.op1 (op_move (Ev.t 5 (bI .i64 v12.2)) rfl) rfl ⟨rfl, trivial⟩ trivial ?_
    refine G.op1 (op_move (Ev.t 0 (.g (.d (.sl 1 (List.map encL_encApi_Dep l_0))))) rfl) rfl ⟨rfl, trivial⟩ trivial ?_
    refine G.op1 (op_move (Ev.t 4 (bI .i64 v3.2)) rfl) rfl ⟨rfl, trivial⟩ trivial ?_
    obtain ⟨x16, hx16, hF⟩ := bindS hF
    refine G.op1 (op_index (cs := [.sl 3 (List.map encApi_Dep x16)]) Try.underlying60 ti28 (idx_ok hx16).1 (idx_get hx16 encL_encApi_Dep) (Ev.t 13 (.g (.d (.sl 1 (List.map encL_encApi_Dep l_0))))) (Ev.t 14 (bI .i64 v3.2)) rfl) rfl ⟨rfl, rfl, trivial⟩ trivial ?_
    refine G.op1 (op_load1E (c := .sl 3 (List.map encApi_Dep x16)) Try.underlying28 rfl rfl (Ev.t 15 (.ep [.sl 3 (List.map encApi_Dep x16)])) rfl) rfl ⟨rfl, trivial⟩ trivial ?_
    refine G.op1 (OpL.cast (op_lenD Try.underlying28 (Ev.t 16 (.g (.d (.sl 3 (List.map encApi_Dep x16))))) rfl) (by rw [List.length_map])) rfl ⟨rfl, trivial⟩ trivial ?_
    refine G.op1 (op_lss (Ev.t 12 (bI .i64 v12.2)) (Ev.t 17 (bI .i64 (x16.length : Int))) rfl) rfl ⟨rfl, rfl, trivial⟩ trivial ?_
    refine G.endOps ?_
    refine ifS hF (fun hc17 hF => ?_) (fun hc17 hF => ?_)
    · refine G.cond rfl (fun _ => ?_) (fun hx => by rw [hc17] at hx; cases hx)
      refine G.skip ?_
      refine G.seq ?_
      refine G.block ?_
      refine G.region ?_
      refine G.op1 (op_move (Ev.t 3 (.g (.d (.sl 3 (List.map encApi_Dep v12.1))))) rfl) rfl ⟨rfl, trivial⟩ trivial ?_
      refine G.op1 (op_move (Ev.t 0 (.g (.d (.sl 1 (List.map encL_encApi_Dep l_0))))) rfl) rfl ⟨rfl, trivial⟩ trivial ?_
      refine G.op1 (op_move (Ev.t 4 (bI .i64 v3.2)) rfl) rfl ⟨rfl, trivial⟩ trivial ?_
      obtain ⟨x18, hx18, hF⟩ := bindS hF
      refine G.op1 (op_index (cs := [.sl 3 (List.map encApi_Dep x18)]) Try.underlying60 ti28 (idx_ok hx18).1 (idx_get hx18 encL_encApi_Dep) (Ev.t 22 (.g (.d (.sl 1 (List.map encL_encApi_Dep l_0))))) (Ev.t 23 (bI .i64 v3.2)) rfl) rfl ⟨rfl, rfl, trivial⟩ trivial ?_
      refine G.op1 (op_load1E (c := .sl 3 (List.map encApi_Dep x18)) Try.underlying28 rfl rfl (Ev.t 24 (.ep [.sl 3 (List.map encApi_Dep x18)])) rfl) rfl ⟨rfl, trivial⟩ trivial ?_
      refine G.op1 (op_move (Ev.t 5 (bI .i64 v12.2)) rfl) rfl ⟨rfl, trivial⟩ trivial ?_
      obtain ⟨x19, hx19, hF⟩ := bindS hF
      refine G.op1 (op_index (cs := [vS x19.Key, vI x19.Stamp.N, vI x19.Stamp.Site]) Try.underlying28 ti52 (idx_ok hx19).1 (idx_get hx19 encApi_Dep) (Ev.t 25 (.g (.d (.sl 3 (List.map encApi_Dep x18))))) (Ev.t 26 (bI .i64 v12.2)) rfl) rfl ⟨rfl, rfl, trivial⟩ trivial ?_
      refine G.op1 (op_loadAE (ds := [vS x19.Key, vI x19.Stamp.N, vI x19.Stamp.Site]) Try.underlying52 rfl ti52 rfl (Ev.t 27 (.ep [vS x19.Key, vI x19.Stamp.N, vI x19.Stamp.Site])) rfl) rfl ⟨rfl, trivial⟩ trivial ?_
      obtain ⟨r20, hr20, hF⟩ := bindS hF
      refine G.op1 (op_call (sv := .one (.g (.d (.sl 3 (List.map encApi_Dep r20))))) cf23 (ct_ref04_Add v12.1 x19 r20 hr20) rfl (EvL.cons (Ev.t 21 (.g (.d (.sl 3 (List.map encApi_Dep v12.1))))) (EvL.cons (Ev.t 28 (.g (.agg [vS x19.Key, vI x19.Stamp.N, vI x19.Stamp.Site]))) EvL.nil)) rfl) rfl ⟨rfl, rfl, trivial⟩ trivial ?_
      refine G.op1 (op_assign (Ev.t 29 (.g (.d (.sl 3 (List.map encApi_Dep r20))))) rfl) rfl ⟨rfl, trivial⟩ trivial ?_
      refine G.endOps ?_
      refine G.endBlock ?_
      refine G.region ?_
      refine G.op1 (op_move (Ev.t 5 (bI .i64 v12.2)) rfl) rfl ⟨rfl, trivial⟩ trivial ?_
      refine G.op1 (op_add (Ev.t 19 (bI .i64 v12.2)) (Ev.c _ rfl) rfl) rfl ⟨rfl, trivial⟩ trivial ?_
      refine G.op1 (op_assign (Ev.t 20 (bI .i64 (IntKind.wrap .i64 (v12.2 + 1)))) rfl) rfl ⟨rfl, trivial⟩ trivial ?_
      refine G.endOps ?_
      exact G.arr (J13 (r20, IntKind.wrap .i64 (v12.2 + 1)) hF) ⟨rfl, rfl, rfl, rfl, trivial⟩ trivial rfl
    · refine G.cond rfl (fun hx => by rw [hc17] at hx; cases hx) (fun _ => ?_)
      refine G.exit ?_
      refine GX.c ?_
      refine GX.q ?_
      refine GX.bYes ?_
      exact G.arr (J11 v12.1 hF) ⟨rfl, rfl, rfl, trivial⟩ trivial rfl
  · refine G.cond rfl (fun hx => by rw [hc7] at hx; cases hx) (fun _ => ?_)
    refine G.exit ?_
    refine GX.c ?_
    refine GX.q ?_
    refine GX.bYes ?_
    exact G.arr (J2 v3.1 hF) ⟨rfl, trivial⟩ trivial rfl


set_option maxRecDepth 20000 in
set_option maxHeartbeats 2000000 in
theorem cy_ref04_Merge (l_0 : (List (List Api_Dep))) (r : (List Api_Dep)) (hF : ref04_Merge l_0 = some r) : CtY Try.prog 24 [.g (.d (.sl 1 (List.map encL_encApi_Dep l_0)))] (.d (.sl 3 (List.map encApi_Dep r))) := by
  unfold ref04_Merge at hF
  refine CtY.intro Try.func24 rfl Try.ntmps24 rfl rfl fun M w => ?_
  refine G.seq ?_
  refine G.region ?_
  refine G.op1 (op_assignY (n := 3) rfl) rfl trivial trivial ?_
  refine G.endOps ?_
  refine G.seq ?_
  refine G.region ?_
  refine G.op1 (op_assignY (n := 3) rfl) rfl trivial trivial ?_
  refine G.endOps ?_
  refine G.seq ?_
  refine G.seq ?_
  refine G.region ?_
  refine G.op1 (op_assign (Ev.c _ rfl) rfl) rfl trivial trivial ?_
  refine G.endOps ?_
  refine G.joinC (T := (List Api_Dep)) (fun y1 => ⟨[(3, .one (.yg (.d (.sl 3 (List.map encApi_Dep y1)))))], []⟩) (fun y1 => ref04_Merge_k1 y1 = some r) (fun y1 hF => ?_) (fun J2 => ?_)
  · unfold ref04_Merge_k1 at hF
    refine G.seq ?_
    refine G.region ?_
    refine G.op1 (op_move (Ev.t 3 (.yg (.d (.sl 3 (List.map encApi_Dep y1))))) rfl) rfl ⟨rfl, trivial⟩ trivial ?_
    refine G.op1 (op_assign (Ev.t 30 (.yg (.d (.sl 3 (List.map encApi_Dep y1))))) rfl) rfl ⟨rfl, trivial⟩ trivial ?_
    refine G.endOps ?_
    cases hF
    exact G.retY Try.results24 rfl
  refine G.block ?_
  refine G.keep (sl' := [(0, .one (.g (.d (.sl 1 (List.map encL_encApi_Dep l_0))))), (3, .one (.yg (.d (.sl 3 (List.map encApi_Dep ([] : (List Api_Dep))))))), (4, oI 0)]) (hp' := []) ⟨rfl, rfl, rfl, trivial⟩ trivial rfl ?_
  refine G.loopF (fun (v3 : (List Api_Dep) × Int) => ⟨[(0, .one (.g (.d (.sl 1 (List.map encL_encApi_Dep l_0))))), (3, .one (.yg (.d (.sl 3 (List.map encApi_Dep v3.1))))), (4, oI v3.2)], []⟩) hF rfl (fun K6 again5 v3 J4 hF => ?_)
  unfold ref04_Merge_l2 at hF
  refine G.seq ?_
  refine G.seq ?_
  refine G.region ?_
  refine G.op1 (op_move (Ev.t 4 (bI .i64 v3.2)) rfl) rfl ⟨rfl, trivial⟩ trivial ?_
  refine G.op1 (op_move (Ev.t 0 (.g (.d (.sl 1 (List.map encL_encApi_Dep l_0))))) rfl) rfl ⟨rfl, trivial⟩ trivial ?_
  refine G.op1 (OpL.cast (op_lenD Try.underlying60 (Ev.t 7 (.g (.d (.sl 1 (List.map encL_encApi_Dep l_0))))) rfl) (by rw [List.length_map])) rfl ⟨rfl, trivial⟩ trivial ?_
  refine G.op1 (op_lss (Ev.t 6 (bI .i64 v3.2)) (Ev.t 8 (bI .i64 (l_0.length : Int))) rfl) rfl ⟨rfl, rfl, trivial⟩ trivial ?_
  refine G.endOps ?_
  refine ifS hF (fun hc7 hF => ?_) (fun hc7 hF => ?_)
  · refine G.cond rfl (fun _ => ?_) (fun hx => by rw [hc7] at hx; cases hx)
    refine G.skip ?_
    refine G.seq ?_
    refine G.joinC (T := (List Api_Dep)) (fun y8 => ⟨[(0, .one (.g (.d (.sl 1 (List.map encL_encApi_Dep l_0))))), (3, .one (.yg (.d (.sl 3 (List.map encApi_Dep y8))))), (4, oI v3.2)], []⟩) (fun y8 => ref04_Merge_k3 again5 v3 y8 = some r) (fun y8 hF => ?_) (fun J9 => ?_)
    · unfold ref04_Merge_k3 at hF
      refine G.region ?_
      refine G.op1 (op_move (Ev.t 4 (bI .i64 v3.2)) rfl) rfl ⟨rfl, trivial⟩ trivial ?_
      refine G.op1 (op_add (Ev.t 10 (bI .i64 v3.2)) (Ev.c _ rfl) rfl) rfl ⟨rfl, trivial⟩ trivial ?_
      refine G.op1 (op_assign (Ev.t 11 (bI .i64 (IntKind.wrap .i64 (v3.2 + 1)))) rfl) rfl ⟨rfl, trivial⟩ trivial ?_
      refine G.endOps ?_
      exact G.arr (J4 (y8, IntKind.wrap .i64 (v3.2 + 1)) hF) ⟨rfl, rfl, rfl, trivial⟩ trivial rfl
    refine G.block ?_
    refine G.seq ?_
    refine G.region ?_
    refine G.op1 (op_assign (Ev.c _ rfl) rfl) rfl trivial trivial ?_
    refine G.endOps ?_
    refine G.joinC (T := (List Api_Dep)) (fun y10 => ⟨[(0, .one (.g (.d (.sl 1 (List.map encL_encApi_Dep l_0))))), (3, .one (.yg (.d (.sl 3 (List.map encApi_Dep y10))))), (4, oI v3.2)], []⟩) (fun y10 => ref04_Merge_k4 again5 v3 y10 = some r) (fun y10 hF => ?_) (fun J11 => ?_)
    · unfold ref04_Merge_k4 at hF
      refine G.endBlock ?_
      exact G.arr (J9 y10 hF) ⟨rfl, rfl, rfl, trivial⟩ trivial rfl
    refine G.block ?_
    refine G.keep (sl' := [(0, .one (.g (.d (.sl 1 (List.map encL_encApi_Dep l_0))))), (3, .one (.yg (.d (.sl 3 (List.map encApi_Dep v3.1))))), (4, oI v3.2), (5, oI 0)]) (hp' := []) ⟨rfl, rfl, rfl, rfl, trivial⟩ trivial rfl ?_
    refine G.loopF (fun (v12 : (List Api_Dep) × Int) => ⟨[(0, .one (.g (.d (.sl 1 (List.map encL_encApi_Dep l_0))))), (3, .one (.yg (.d (.sl 3 (List.map encApi_Dep v12.1))))), (4, oI v3.2), (5, oI v12.2)], []⟩) hF rfl (fun K15 again14 v12 J13 hF => ?_)
    unfold ref04_Merge_l5 at hF
    refine G.seq ?_
    refine G.seq ?_
    refine G.region ?_
    refine G.op1 (op_move (Ev.t 5 (bI .i64 v12.2)) rfl) rfl ⟨rfl, trivial⟩ trivial ?_
    refine G.op1 (op_move (Ev.t 0 (.g (.d (.sl 1 (List.map encL_encApi_Dep l_0))))) rfl) rfl ⟨rfl, trivial⟩ trivial ?_
    refine G.op1 (op_move (Ev.t 4 (bI .i64 v3.2)) rfl) rfl ⟨rfl, trivial⟩ trivial ?_
    obtain ⟨x16, hx16, hF⟩ := bindS hF
    refine G.op1 (op_index (cs := [.sl 3 (List.map encApi_Dep x16)]) Try.underlying60 ti28 (idx_ok hx16).1 (idx_get hx16 encL_encApi_Dep) (Ev.t 13 (.g (.d (.sl 1 (List.map encL_encApi_Dep l_0))))) (Ev.t 14 (bI .i64 v3.2)) rfl) rfl ⟨rfl, rfl, trivial⟩ trivial ?_
    refine G.op1 (op_load1E (c := .sl 3 (List.map encApi_Dep x16)) Try.underlying28 rfl rfl (Ev.t 15 (.ep [.sl 3 (List.map encApi_Dep x16)])) rfl) rfl ⟨rfl, trivial⟩ trivial ?_
    refine G.op1 (OpL.cast (op_lenD Try.underlying28 (Ev.t 16 (.g (.d (.sl 3 (List.map encApi_Dep x16))))) rfl) (by rw [List.length_map])) rfl ⟨rfl, trivial⟩ trivial ?_
    refine G.op1 (op_lss (Ev.t 12 (bI .i64 v12.2)) (Ev.t 17 (bI .i64 (x16.length : Int))) rfl) rfl ⟨rfl, rfl, trivial⟩ trivial ?_
    refine G.endOps ?_
    refine ifS hF (fun hc17 hF => ?_) (fun hc17 hF => ?_)
    · refine G.cond rfl (fun _ => ?_) (fun hx => by rw [hc17] at hx; cases hx)
      refine G.skip ?_
      refine G.seq ?_
      refine G.block ?_
      refine G.region ?_
      refine G.op1 (op_move (Ev.t 3 (.yg (.d (.sl 3 (List.map encApi_Dep v12.1))))) rfl) rfl ⟨rfl, trivial⟩ trivial ?_
      refine G.op1 (op_move (Ev.t 0 (.g (.d (.sl 1 (List.map encL_encApi_Dep l_0))))) rfl) rfl ⟨rfl, trivial⟩ trivial ?_
      refine G.op1 (op_move (Ev.t 4 (bI .i64 v3.2)) rfl) rfl ⟨rfl, trivial⟩ trivial ?_
      obtain ⟨x18, hx18, hF⟩ := bindS hF
      refine G.op1 (op_index (cs := [.sl 3 (List.map encApi_Dep x18)]) Try.underlying60 ti28 (idx_ok hx18).1 (idx_get hx18 encL_encApi_Dep) (Ev.t 22 (.g (.d (.sl 1 (List.map encL_encApi_Dep l_0))))) (Ev.t 23 (bI .i64 v3.2)) rfl) rfl ⟨rfl, rfl, trivial⟩ trivial ?_
      refine G.op1 (op_load1E (c := .sl 3 (List.map encApi_Dep x18)) Try.underlying28 rfl rfl (Ev.t 24 (.ep [.sl 3 (List.map encApi_Dep x18)])) rfl) rfl ⟨rfl, trivial⟩ trivial ?_
      refine G.op1 (op_move (Ev.t 5 (bI .i64 v12.2)) rfl) rfl ⟨rfl, trivial⟩ trivial ?_
      obtain ⟨x19, hx19, hF⟩ := bindS hF
      refine G.op1 (op_index (cs := [vS x19.Key, vI x19.Stamp.N, vI x19.Stamp.Site]) Try.underlying28 ti52 (idx_ok hx19).1 (idx_get hx19 encApi_Dep) (Ev.t 25 (.g (.d (.sl 3 (List.map encApi_Dep x18))))) (Ev.t 26 (bI .i64 v12.2)) rfl) rfl ⟨rfl, rfl, trivial⟩ trivial ?_
      refine G.op1 (op_loadAE (ds := [vS x19.Key, vI x19.Stamp.N, vI x19.Stamp.Site]) Try.underlying52 rfl ti52 rfl (Ev.t 27 (.ep [vS x19.Key, vI x19.Stamp.N, vI x19.Stamp.Site])) rfl) rfl ⟨rfl, trivial⟩ trivial ?_
      obtain ⟨r20, hr20, hF⟩ := bindS hF
      refine G.op1 (op_callY cf23 (ct_ref04_Add v12.1 x19 r20 hr20) (EvY.y (Ev.t 21 (.yg (.d (.sl 3 (List.map encApi_Dep v12.1))))) (EvY.f (Ev.t 28 (.g (.agg [vS x19.Key, vI x19.Stamp.N, vI x19.Stamp.Site]))) rfl EvY.nil)) rfl) rfl ⟨rfl, rfl, trivial⟩ trivial ?_
      refine G.op1 (op_assign (Ev.t 29 (.yg (.d (.sl 3 (List.map encApi_Dep r20))))) rfl) rfl ⟨rfl, trivial⟩ trivial ?_
      refine G.endOps ?_
      refine G.endBlock ?_
      refine G.region ?_
      refine G.op1 (op_move (Ev.t 5 (bI .i64 v12.2)) rfl) rfl ⟨rfl, trivial⟩ trivial ?_
      refine G.op1 (op_add (Ev.t 19 (bI .i64 v12.2)) (Ev.c _ rfl) rfl) rfl ⟨rfl, trivial⟩ trivial ?_
      refine G.op1 (op_assign (Ev.t 20 (bI .i64 (IntKind.wrap .i64 (v12.2 + 1)))) rfl) rfl ⟨rfl, trivial⟩ trivial ?_
      refine G.endOps ?_
      exact G.arr (J13 (r20, IntKind.wrap .i64 (v12.2 + 1)) hF) ⟨rfl, rfl, rfl, rfl, trivial⟩ trivial rfl
    · refine G.cond rfl (fun hx => by rw [hc17] at hx; cases hx) (fun _ => ?_)
      refine G.exit ?_
      refine GX.c ?_
      refine GX.q ?_
      refine GX.bYes ?_
      exact G.arr (J11 v12.1 hF) ⟨rfl, rfl, rfl, trivial⟩ trivial rfl
  · refine G.cond rfl (fun hx => by rw [hc7] at hx; cases hx) (fun _ => ?_)
    refine G.exit ?_
    refine GX.c ?_
    refine GX.q ?_
    refine GX.bYes ?_
    exact G.arr (J2 v3.1 hF) ⟨rfl, trivial⟩ trivial rfl


set_option maxRecDepth 20000 in
set_option maxHeartbeats 2000000 in
theorem ct_ref20_Behind (l_0 : (List Api_Event)) (i_1 : Int) (r : (List Api_Dep)) (hF : ref20_Behind l_0 i_1 = some r) : Ct Try.prog 25 [.g (.d (.sl 6 (List.map encApi_Event l_0))), .g (.d (vI i_1))] (.one (.d (.sl 3 (List.map encApi_Dep r)))) := by
  unfold ref20_Behind at hF
  refine Ct.intro Try.func25 rfl Try.ntmps25 rfl rfl fun M w => ?_
  refine G.seq ?_
  refine G.region ?_
  refine G.op1 (op_assign (Ev.n 3) rfl) rfl trivial trivial ?_
  refine G.endOps ?_
  refine G.seq ?_
  refine G.seq ?_
  refine G.joinC (T := Bool) (fun y1 => ⟨[(0, .one (.g (.d (.sl 6 (List.map encApi_Event l_0))))), (1, oI i_1), (12, oB y1)], []⟩) (fun y1 => ref20_Behind_k1 l_0 i_1 y1 = some r) (fun y1 hF => ?_) (fun J7 => ?_)
  · unfold ref20_Behind_k1 at hF
    refine ifS hF (fun hc2 hF => ?_) (fun hc2 hF => ?_)
    · refine G.cond rfl (fun _ => ?_) (fun hx => by rw [hc2] at hx; cases hx)
      refine G.seq ?_
      refine G.region ?_
      refine G.op1 (op_assign (Ev.n 3) rfl) rfl trivial trivial ?_
      refine G.endOps ?_
      cases hF
      exact G.ret1 Try.results25 (RVar.tmp 4 _) ⟨rfl, trivial⟩ trivial
    · refine G.cond rfl (fun hx => by rw [hc2] at hx; cases hx) (fun _ => ?_)
      refine G.skip ?_
      refine G.seq ?_
      obtain ⟨x3, hx3, hF⟩ := bindS hF
      obtain ⟨x4, hx4, hF⟩ := bindS hF
      obtain ⟨x5, hx5, hF⟩ := bindS hF
      obtain ⟨r6, hr6, hF⟩ := bindS hF
      refine G.drawnI (deps := [[], [], [0, 1], [0, 1, 2], [0, 1, 2, 3], [], [], [5, 6], [5, 6, 7], [5, 6, 7, 8], [], [], [10, 11], [10, 11, 12], [10, 11, 12, 13], [5, 6, 7, 8, 9, 10, 11, 12, 13, 14], [5, 6, 7, 8, 9, 10, 11, 12, 13, 14, 15], [0, 1, 2, 3, 4, 5, 6, 7, 8, 9, 10, 11, 12, 13, 14, 15, 16], [0, 1, 2, 3, 4, 5, 6, 7, 8, 9, 10, 11, 12, 13, 14, 15, 16, 17], [0, 1, 2, 3, 4, 5, 6, 7, 8, 9, 10, 11, 12, 13, 14, 15, 16, 17, 18]]) (sl' := [(4, .one (.g (.d (.sl 3 (List.map encApi_Dep r6)))))]) (hp' := []) (.c (oP rfl rfl (op_move (Ev.t 0 (.g (.d (.sl 6 (List.map encApi_Event l_0))))) rfl)) (.c (oP rfl rfl (op_move (Ev.t 1 (bI .i64 i_1)) rfl)) (.c (oP rfl rfl (op_index (cs := [vI x3.Kind, vI x3.Client, vS x3.Key, vI x3.Stamp.N, vI x3.Stamp.Site, .sl 3 (List.map encApi_Dep x3.Seen)]) Try.underlying24 ti30 (idx_ok hx3).1 (idx_get hx3 encApi_Event) (Ev.t 13 (.g (.d (.sl 6 (List.map encApi_Event l_0))))) (Ev.t 14 (bI .i64 i_1)) rfl)) (.c (oP rfl rfl (op_fieldE (cs' := [.sl 3 (List.map encApi_Dep x3.Seen)]) Try.underlying30 rfl ti28 (by decide) rfl (Ev.t 15 (.ep [vI x3.Kind, vI x3.Client, vS x3.Key, vI x3.Stamp.N, vI x3.Stamp.Site, .sl 3 (List.map encApi_Dep x3.Seen)])) rfl)) (.c (oP rfl rfl (op_load1E (c := .sl 3 (List.map encApi_Dep x3.Seen)) Try.underlying28 rfl rfl (Ev.t 16 (.ep [.sl 3 (List.map encApi_Dep x3.Seen)])) rfl)) (.c (oP rfl rfl (op_move (Ev.t 0 (.g (.d (.sl 6 (List.map encApi_Event l_0))))) rfl)) (.c (oP rfl rfl (op_move (Ev.t 1 (bI .i64 i_1)) rfl)) (.c (oP rfl rfl (op_index (cs := [vI x4.Kind, vI x4.Client, vS x4.Key, vI x4.Stamp.N, vI x4.Stamp.Site, .sl 3 (List.map encApi_Dep x4.Seen)]) Try.underlying24 ti30 (idx_ok hx4).1 (idx_get hx4 encApi_Event) (Ev.t 18 (.g (.d (.sl 6 (List.map encApi_Event l_0))))) (Ev.t 19 (bI .i64 i_1)) rfl)) (.c (oP rfl rfl (op_fieldE (cs' := [vS x4.Key, vI x4.Stamp.N, vI x4.Stamp.Site, .sl 3 (List.map encApi_Dep x4.Seen)]) Try.underlying30 rfl ti9 (by decide) rfl (Ev.t 20 (.ep [vI x4.Kind, vI x4.Client, vS x4.Key, vI x4.Stamp.N, vI x4.Stamp.Site, .sl 3 (List.map encApi_Dep x4.Seen)])) rfl)) (.c (oP rfl rfl (op_load1E (c := vS x4.Key) Try.underlying9 rfl rfl (Ev.t 21 (.ep [vS x4.Key, vI x4.Stamp.N, vI x4.Stamp.Site, .sl 3 (List.map encApi_Dep x4.Seen)])) rfl)) (.c (oP rfl rfl (op_move (Ev.t 0 (.g (.d (.sl 6 (List.map encApi_Event l_0))))) rfl)) (.c (oP rfl rfl (op_move (Ev.t 1 (bI .i64 i_1)) rfl)) (.c (oP rfl rfl (op_index (cs := [vI x5.Kind, vI x5.Client, vS x5.Key, vI x5.Stamp.N, vI x5.Stamp.Site, .sl 3 (List.map encApi_Dep x5.Seen)]) Try.underlying24 ti30 (idx_ok hx5).1 (idx_get hx5 encApi_Event) (Ev.t 23 (.g (.d (.sl 6 (List.map encApi_Event l_0))))) (Ev.t 24 (bI .i64 i_1)) rfl)) (.c (oP rfl rfl (op_fieldE (cs' := [vI x5.Stamp.N, vI x5.Stamp.Site, .sl 3 (List.map encApi_Dep x5.Seen)]) Try.underlying30 rfl ti27 (by decide) rfl (Ev.t 25 (.ep [vI x5.Kind, vI x5.Client, vS x5.Key, vI x5.Stamp.N, vI x5.Stamp.Site, .sl 3 (List.map encApi_Dep x5.Seen)])) rfl)) (.c (oP rfl rfl (op_loadAE (ds := [vI x5.Stamp.N, vI x5.Stamp.Site]) Try.underlying27 rfl ti27 rfl (Ev.t 26 (.ep [vI x5.Stamp.N, vI x5.Stamp.Site, .sl 3 (List.map encApi_Dep x5.Seen)])) rfl)) (.c (oP rfl rfl (op_build (zs := [vS ByteArray.empty, vI 0, vI 0]) (ds := [vS x4.Key, vI x5.Stamp.N, vI x5.Stamp.Site]) Try.underlying52 ti52 (pl52 _ Try.underlying52) ⟨.v _ rfl, .v _ rfl, .v _ rfl, trivial⟩ (EvP.cons (Ev.t 22 (bS x4.Key)) (EvP.cons (Ev.t 27 (.g (.agg [vI x5.Stamp.N, vI x5.Stamp.Site]))) EvP.nil)) rfl rfl)) (.c (oP rfl rfl (op_buildSlice (es := List.map encApi_Dep [(Api_Dep.mk x4.Key x5.Stamp)]) Try.underlying28 ti52 rfl rfl (EvP.cons (Ev.t 28 (.g (.agg [vS x4.Key, vI x5.Stamp.N, vI x5.Stamp.Site]))) EvP.nil) rfl rfl (by simp [encApi_Dep]) rfl)) (.c (oP rfl rfl (op_buildSlice (es := List.map encL_encApi_Dep [x3.Seen, [(Api_Dep.mk x4.Key x5.Stamp)]]) Try.underlying60 ti28 rfl rfl (EvP.cons (Ev.t 17 (.g (.d (.sl 3 (List.map encApi_Dep x3.Seen))))) (EvP.cons (Ev.t 29 (.g (.d (.sl 3 (List.map encApi_Dep ([(Api_Dep.mk x4.Key x5.Stamp)])))))) EvP.nil)) rfl rfl (by simp [encL_encApi_Dep]) rfl)) (.c (oP rfl rfl (op_call (sv := .one (.g (.d (.sl 3 (List.map encApi_Dep r6))))) cf24 (ct_ref04_Merge ([x3.Seen, [(Api_Dep.mk x4.Key x5.Stamp)]]) r6 hr6) rfl (EvL.cons (Ev.t 30 (.g (.d (.sl 1 (List.map encL_encApi_Dep ([x3.Seen, [(Api_Dep.mk x4.Key x5.Stamp)]])))))) EvL.nil) rfl)) (.c (oP rfl rfl (op_assign (Ev.t 31 (.g (.d (.sl 3 (List.map encApi_Dep r6))))) rfl)) .nil)))))))))))))))))))) follows rfl rfl rfl ⟨⟨rfl, trivial⟩, trivial, ⟨rfl, trivial⟩, trivial, ⟨rfl, rfl, trivial⟩, trivial, ⟨rfl, trivial⟩, trivial, ⟨rfl, trivial⟩, trivial, ⟨rfl, trivial⟩, trivial, ⟨rfl, trivial⟩, trivial, ⟨rfl, rfl, trivial⟩, trivial, ⟨rfl, trivial⟩, trivial, ⟨rfl, trivial⟩, trivial, ⟨rfl, trivial⟩, trivial, ⟨rfl, trivial⟩, trivial, ⟨rfl, rfl, trivial⟩, trivial, ⟨rfl, trivial⟩, trivial, ⟨rfl, trivial⟩, trivial, ⟨rfl, rfl, trivial⟩, trivial, ⟨rfl, trivial⟩, trivial, ⟨rfl, rfl, trivial⟩, trivial, ⟨rfl, trivial⟩, trivial, ⟨rfl, trivial⟩, trivial, trivial⟩ ⟨rfl, trivial⟩ trivial rfl ?_
      cases hF
      exact G.ret1 Try.results25 (RVar.tmp 4 _) ⟨rfl, trivial⟩ trivial
  refine G.region ?_
  refine G.op1 (op_move (Ev.t 1 (bI .i64 i_1)) rfl) rfl ⟨rfl, trivial⟩ trivial ?_
  refine G.op1 (op_lss (Ev.t 5 (bI .i64 i_1)) (Ev.c _ rfl) rfl) rfl ⟨rfl, trivial⟩ trivial ?_
  refine G.op1 (op_move (Ev.t 6 (bB (decide (i_1 < 0)))) rfl) rfl ⟨rfl, trivial⟩ trivial ?_
  refine ifS hF (fun hc8 hF => ?_) (fun hc8 hF => ?_)
  · refine G.known (t := 7) hc8 rfl ?_
    refine G.opN1 rfl rfl rfl rfl rfl ?_
    refine G.opN1 rfl rfl rfl rfl rfl ?_
    refine G.opN1 rfl rfl rfl rfl rfl ?_
    refine G.opN1 rfl rfl rfl rfl rfl ?_
    refine G.op1 (op_pickT (Ev.t 7 (bB true)) (Ev.c _ rfl) rfl) rfl ⟨rfl, trivial⟩ trivial ?_
    refine G.endOps ?_
    exact G.arr (J7 true hF) ⟨rfl, rfl, rfl, trivial⟩ trivial rfl
  · refine G.known (t := 7) hc8 rfl ?_
    refine G.opG1 (op_move (Ev.t 1 (bI .i64 i_1)) rfl) rfl rfl rfl ⟨rfl, trivial⟩ trivial ?_
    refine G.opG1 (op_move (Ev.t 0 (.g (.d (.sl 6 (List.map encApi_Event l_0))))) rfl) rfl rfl rfl ⟨rfl, trivial⟩ trivial ?_
    refine G.opG1 (OpL.cast (op_lenD Try.underlying24 (Ev.t 9 (.g (.d (.sl 6 (List.map encApi_Event l_0))))) rfl) (by rw [List.length_map])) rfl rfl rfl ⟨rfl, trivial⟩ trivial ?_
    refine G.opG1 (op_geq (Ev.t 8 (bI .i64 i_1)) (Ev.t 10 (bI .i64 (l_0.length : Int))) rfl) rfl rfl rfl ⟨rfl, rfl, trivial⟩ trivial ?_
    refine G.op1 (op_pickF (Ev.t 7 (bB false)) (Ev.t 11 (bB (decide ((l_0.length : Int) ≤ i_1)))) rfl) rfl ⟨rfl, rfl, trivial⟩ trivial ?_
    refine G.endOps ?_
    exact G.arr (J7 (decide ((l_0.length : Int) ≤ i_1)) hF) ⟨rfl, rfl, rfl, trivial⟩ trivial rfl


set_option maxRecDepth 20000 in
set_option maxHeartbeats 2000000 in
theorem cy_ref20_Behind (l_0 : (List Api_Event)) (i_1 : Int) (r : (List Api_Dep)) (hF : ref20_Behind l_0 i_1 = some r) : CtY Try.prog 25 [.g (.d (.sl 6 (List.map encApi_Event l_0))), .g (.d (vI i_1))] (.d (.sl 3 (List.map encApi_Dep r))) := by
  unfold ref20_Behind at hF
  refine CtY.intro Try.func25 rfl Try.ntmps25 rfl rfl fun M w => ?_
  refine G.seq ?_
  refine G.region ?_
  refine G.op1 (op_assignY (n := 3) rfl) rfl trivial trivial ?_
  refine G.endOps ?_
  refine G.seq ?_
  refine G.seq ?_
  refine G.joinC (T := Bool) (fun y1 => ⟨[(0, .one (.g (.d (.sl 6 (List.map encApi_Event l_0))))), (1, oI i_1), (12, oB y1)], []⟩) (fun y1 => ref20_Behind_k1 l_0 i_1 y1 = some r) (fun y1 hF => ?_) (fun J7 => ?_)
  · unfold ref20_Behind_k1 at hF
    refine ifS hF (fun hc2 hF => ?_) (fun hc2 hF => ?_)
    · refine G.cond rfl (fun _ => ?_) (fun hx => by rw [hc2] at hx; cases hx)
      refine G.seq ?_
      refine G.region ?_
      refine G.op1 (op_assignY (n := 3) rfl) rfl trivial trivial ?_
      refine G.endOps ?_
      cases hF
      exact G.retY Try.results25 rfl
    · refine G.cond rfl (fun hx => by rw [hc2] at hx; cases hx) (fun _ => ?_)
      refine G.skip ?_
      refine G.seq ?_
      obtain ⟨x3, hx3, hF⟩ := bindS hF
      obtain ⟨x4, hx4, hF⟩ := bindS hF
      obtain ⟨x5, hx5, hF⟩ := bindS hF
      obtain ⟨r6, hr6, hF⟩ := bindS hF
      refine G.drawnI (deps := [[], [], [0, 1], [0, 1, 2], [0, 1, 2, 3], [], [], [5, 6], [5, 6, 7], [5, 6, 7, 8], [], [], [10, 11], [10, 11, 12], [10, 11, 12, 13], [5, 6, 7, 8, 9, 10, 11, 12, 13, 14], [5, 6, 7, 8, 9, 10, 11, 12, 13, 14, 15], [0, 1, 2, 3, 4, 5, 6, 7, 8, 9, 10, 11, 12, 13, 14, 15, 16], [0, 1, 2, 3, 4, 5, 6, 7, 8, 9, 10, 11, 12, 13, 14, 15, 16, 17], [0, 1, 2, 3, 4, 5, 6, 7, 8, 9, 10, 11, 12, 13, 14, 15, 16, 17, 18]]) (sl' := [(4, .one (.yg (.d (.sl 3 (List.map encApi_Dep r6)))))]) (hp' := []) (.c (oP rfl rfl (op_move (Ev.t 0 (.g (.d (.sl 6 (List.map encApi_Event l_0))))) rfl)) (.c (oP rfl rfl (op_move (Ev.t 1 (bI .i64 i_1)) rfl)) (.c (oP rfl rfl (op_index (cs := [vI x3.Kind, vI x3.Client, vS x3.Key, vI x3.Stamp.N, vI x3.Stamp.Site, .sl 3 (List.map encApi_Dep x3.Seen)]) Try.underlying24 ti30 (idx_ok hx3).1 (idx_get hx3 encApi_Event) (Ev.t 13 (.g (.d (.sl 6 (List.map encApi_Event l_0))))) (Ev.t 14 (bI .i64 i_1)) rfl)) (.c (oP rfl rfl (op_fieldE (cs' := [.sl 3 (List.map encApi_Dep x3.Seen)]) Try.underlying30 rfl ti28 (by decide) rfl (Ev.t 15 (.ep [vI x3.Kind, vI x3.Client, vS x3.Key, vI x3.Stamp.N, vI x3.Stamp.Site, .sl 3 (List.map encApi_Dep x3.Seen)])) rfl)) (.c (oP rfl rfl (op_load1E (c := .sl 3 (List.map encApi_Dep x3.Seen)) Try.underlying28 rfl rfl (Ev.t 16 (.ep [.sl 3 (List.map encApi_Dep x3.Seen)])) rfl)) (.c (oP rfl rfl (op_move (Ev.t 0 (.g (.d (.sl 6 (List.map encApi_Event l_0))))) rfl)) (.c (oP rfl rfl (op_move (Ev.t 1 (bI .i64 i_1)) rfl)) (.c (oP rfl rfl (op_index (cs := [vI x4.Kind, vI x4.Client, vS x4.Key, vI x4.Stamp.N, vI x4.Stamp.Site, .sl 3 (List.map encApi_Dep x4.Seen)]) Try.underlying24 ti30 (idx_ok hx4).1 (idx_get hx4 encApi_Event) (Ev.t 18 (.g (.d (.sl 6 (List.map encApi_Event l_0))))) (Ev.t 19 (bI .i64 i_1)) rfl)) (.c (oP rfl rfl (op_fieldE (cs' := [vS x4.Key, vI x4.Stamp.N, vI x4.Stamp.Site, .sl 3 (List.map encApi_Dep x4.Seen)]) Try.underlying30 rfl ti9 (by decide) rfl (Ev.t 20 (.ep [vI x4.Kind, vI x4.Client, vS x4.Key, vI x4.Stamp.N, vI x4.Stamp.Site, .sl 3 (List.map encApi_Dep x4.Seen)])) rfl)) (.c (oP rfl rfl (op_load1E (c := vS x4.Key) Try.underlying9 rfl rfl (Ev.t 21 (.ep [vS x4.Key, vI x4.Stamp.N, vI x4.Stamp.Site, .sl 3 (List.map encApi_Dep x4.Seen)])) rfl)) (.c (oP rfl rfl (op_move (Ev.t 0 (.g (.d (.sl 6 (List.map encApi_Event l_0))))) rfl)) (.c (oP rfl rfl (op_move (Ev.t 1 (bI .i64 i_1)) rfl)) (.c (oP rfl rfl (op_index (cs := [vI x5.Kind, vI x5.Client, vS x5.Key, vI x5.Stamp.N, vI x5.Stamp.Site, .sl 3 (List.map encApi_Dep x5.Seen)]) Try.underlying24 ti30 (idx_ok hx5).1 (idx_get hx5 encApi_Event) (Ev.t 23 (.g (.d (.sl 6 (List.map encApi_Event l_0))))) (Ev.t 24 (bI .i64 i_1)) rfl)) (.c (oP rfl rfl (op_fieldE (cs' := [vI x5.Stamp.N, vI x5.Stamp.Site, .sl 3 (List.map encApi_Dep x5.Seen)]) Try.underlying30 rfl ti27 (by decide) rfl (Ev.t 25 (.ep [vI x5.Kind, vI x5.Client, vS x5.Key, vI x5.Stamp.N, vI x5.Stamp.Site, .sl 3 (List.map encApi_Dep x5.Seen)])) rfl)) (.c (oP rfl rfl (op_loadAE (ds := [vI x5.Stamp.N, vI x5.Stamp.Site]) Try.underlying27 rfl ti27 rfl (Ev.t 26 (.ep [vI x5.Stamp.N, vI x5.Stamp.Site, .sl 3 (List.map encApi_Dep x5.Seen)])) rfl)) (.c (oP rfl rfl (op_build (zs := [vS ByteArray.empty, vI 0, vI 0]) (ds := [vS x4.Key, vI x5.Stamp.N, vI x5.Stamp.Site]) Try.underlying52 ti52 (pl52 _ Try.underlying52) ⟨.v _ rfl, .v _ rfl, .v _ rfl, trivial⟩ (EvP.cons (Ev.t 22 (bS x4.Key)) (EvP.cons (Ev.t 27 (.g (.agg [vI x5.Stamp.N, vI x5.Stamp.Site]))) EvP.nil)) rfl rfl)) (.c (oP rfl rfl (op_buildSlice (es := List.map encApi_Dep [(Api_Dep.mk x4.Key x5.Stamp)]) Try.underlying28 ti52 rfl rfl (EvP.cons (Ev.t 28 (.g (.agg [vS x4.Key, vI x5.Stamp.N, vI x5.Stamp.Site]))) EvP.nil) rfl rfl (by simp [encApi_Dep]) rfl)) (.c (oP rfl rfl (op_buildSlice (es := List.map encL_encApi_Dep [x3.Seen, [(Api_Dep.mk x4.Key x5.Stamp)]]) Try.underlying60 ti28 rfl rfl (EvP.cons (Ev.t 17 (.g (.d (.sl 3 (List.map encApi_Dep x3.Seen))))) (EvP.cons (Ev.t 29 (.g (.d (.sl 3 (List.map encApi_Dep ([(Api_Dep.mk x4.Key x5.Stamp)])))))) EvP.nil)) rfl rfl (by simp [encL_encApi_Dep]) rfl)) (.c (oP rfl rfl (op_callYY cf24 (cy_ref04_Merge ([x3.Seen, [(Api_Dep.mk x4.Key x5.Stamp)]]) r6 hr6) (EvL.cons (Ev.t 30 (.g (.d (.sl 1 (List.map encL_encApi_Dep ([x3.Seen, [(Api_Dep.mk x4.Key x5.Stamp)]])))))) EvL.nil) rfl)) (.c (oP rfl rfl (op_assign (Ev.t 31 (.yg (.d (.sl 3 (List.map encApi_Dep r6))))) rfl)) .nil)))))))))))))))))))) follows rfl rfl rfl ⟨⟨rfl, trivial⟩, trivial, ⟨rfl, trivial⟩, trivial, ⟨rfl, rfl, trivial⟩, trivial, ⟨rfl, trivial⟩, trivial, ⟨rfl, trivial⟩, trivial, ⟨rfl, trivial⟩, trivial, ⟨rfl, trivial⟩, trivial, ⟨rfl, rfl, trivial⟩, trivial, ⟨rfl, trivial⟩, trivial, ⟨rfl, trivial⟩, trivial, ⟨rfl, trivial⟩, trivial, ⟨rfl, trivial⟩, trivial, ⟨rfl, rfl, trivial⟩, trivial, ⟨rfl, trivial⟩, trivial, ⟨rfl, trivial⟩, trivial, ⟨rfl, rfl, trivial⟩, trivial, ⟨rfl, trivial⟩, trivial, ⟨rfl, rfl, trivial⟩, trivial, ⟨rfl, trivial⟩, trivial, ⟨rfl, trivial⟩, trivial, trivial⟩ ⟨rfl, trivial⟩ trivial rfl ?_
      cases hF
      exact G.retY Try.results25 rfl
  refine G.region ?_
  refine G.op1 (op_move (Ev.t 1 (bI .i64 i_1)) rfl) rfl ⟨rfl, trivial⟩ trivial ?_
  refine G.op1 (op_lss (Ev.t 5 (bI .i64 i_1)) (Ev.c _ rfl) rfl) rfl ⟨rfl, trivial⟩ trivial ?_
  refine G.op1 (op_move (Ev.t 6 (bB (decide (i_1 < 0)))) rfl) rfl ⟨rfl, trivial⟩ trivial ?_
  refine ifS hF (fun hc8 hF => ?_) (fun hc8 hF => ?_)
  · refine G.known (t := 7) hc8 rfl ?_
    refine G.opN1 rfl rfl rfl rfl rfl ?_
    refine G.opN1 rfl rfl rfl rfl rfl ?_
    refine G.opN1 rfl rfl rfl rfl rfl ?_
    refine G.opN1 rfl rfl rfl rfl rfl ?_
    refine G.op1 (op_pickT (Ev.t 7 (bB true)) (Ev.c _ rfl) rfl) rfl ⟨rfl, trivial⟩ trivial ?_
    refine G.endOps ?_
    exact G.arr (J7 true hF) ⟨rfl, rfl, rfl, trivial⟩ trivial rfl
  · refine G.known (t := 7) hc8 rfl ?_
    refine G.opG1 (op_move (Ev.t 1 (bI .i64 i_1)) rfl) rfl rfl rfl ⟨rfl, trivial⟩ trivial ?_
    refine G.opG1 (op_move (Ev.t 0 (.g (.d (.sl 6 (List.map encApi_Event l_0))))) rfl) rfl rfl rfl ⟨rfl, trivial⟩ trivial ?_
    refine G.opG1 (OpL.cast (op_lenD Try.underlying24 (Ev.t 9 (.g (.d (.sl 6 (List.map encApi_Event l_0))))) rfl) (by rw [List.length_map])) rfl rfl rfl ⟨rfl, trivial⟩ trivial ?_
    refine G.opG1 (op_geq (Ev.t 8 (bI .i64 i_1)) (Ev.t 10 (bI .i64 (l_0.length : Int))) rfl) rfl rfl rfl ⟨rfl, rfl, trivial⟩ trivial ?_
    refine G.op1 (op_pickF (Ev.t 7 (bB false)) (Ev.t 11 (bB (decide ((l_0.length : Int) ≤ i_1)))) rfl) rfl ⟨rfl, rfl, trivial⟩ trivial ?_
    refine G.endOps ?_
    exact G.arr (J7 (decide ((l_0.length : Int) ≤ i_1)) hF) ⟨rfl, rfl, rfl, trivial⟩ trivial rfl


set_option maxRecDepth 20000 in
set_option maxHeartbeats 2000000 in
theorem ct_law20_made (l_0 : (List Law20_Act)) (r : (List Api_Event)) (hF : law20_made l_0 = some r) : Ct Try.prog 10 [.g (.d (.sl 4 (List.map encLaw20_Act l_0)))] (.new 30 6 (List.map encApi_Event r)) := by
  unfold law20_made at hF
  refine Ct.intro Try.func10 rfl Try.ntmps10 rfl rfl fun M w => ?_
  refine G.seq ?_
  refine G.region ?_
  refine G.op1 (op_assign (c := .x (.slice none 0 0)) (Ev.x _) rfl) rfl trivial trivial ?_
  refine G.endOps ?_
  refine G.seq ?_
  refine G.region ?_
  refine G.op1 (op_buildA (zs := [vS ByteArray.empty, vS ByteArray.empty, vS ByteArray.empty, vS ByteArray.empty]) (ds := List.flatMap encS [(ByteArray.mk #[97]), (ByteArray.mk #[98]), (ByteArray.mk #[99]), (ByteArray.mk #[100])]) Try.underlying35 ti35 ti9 ⟨.v _ rfl, .v _ rfl, .v _ rfl, .v _ rfl, trivial⟩ (EvP.cons (Ev.c _ rfl) (EvP.cons (Ev.c _ rfl) (EvP.cons (Ev.c _ rfl) (EvP.cons (Ev.c _ rfl) EvP.nil)))) rfl rfl) rfl trivial trivial ?_
  refine G.op2 (op_alloc (k := 1003) (cs := dat (List.flatMap encS (List.replicate 4 ByteArray.empty))) ti35 ⟨.v _ rfl, .v _ rfl, .v _ rfl, .v _ rfl, trivial⟩ rfl) rfl trivial ⟨rfl, trivial⟩ ?_
  refine G.op3 (op_storeA (ds := List.flatMap encS ([(ByteArray.mk #[97]), (ByteArray.mk #[98]), (ByteArray.mk #[99]), (ByteArray.mk #[100])])) (cs' := dat (List.flatMap encS ([(ByteArray.mk #[97]), (ByteArray.mk #[98]), (ByteArray.mk #[99]), (ByteArray.mk #[100])]))) ti35 rfl rfl (Ev.t 3 (.ptr 1003 0)) (Ev.t 14 (.g (.agg (List.flatMap encS ([(ByteArray.mk #[97]), (ByteArray.mk #[98]), (ByteArray.mk #[99]), (ByteArray.mk #[100])])))))) rfl ⟨rfl, rfl, trivial⟩ ⟨rfl, trivial⟩ ?_
  refine G.endOps ?_
  refine G.seq ?_
  refine G.region ?_
  refine G.op2 (op_assignRow (E := 30) (size := 6) (k := 2004) (ex := true) rfl rfl) rfl trivial ⟨rfl, trivial⟩ ?_
  refine G.endOps ?_
  refine G.seq ?_
  refine G.region ?_
  refine G.op2 (op_alloc (k := 1005) (cs := dat (List.flatMap encL_encApi_Dep (List.replicate 4 ([] : (List Api_Dep))))) ti58 ⟨.n 3, .n 3, .n 3, .n 3, trivial⟩ rfl) rfl trivial ⟨rfl, trivial⟩ ?_
  refine G.endOps ?_
  refine G.seq ?_
  refine G.seq ?_
  refine G.region ?_
  refine G.op1 (op_assign (Ev.c _ rfl) rfl) rfl trivial trivial ?_
  refine G.endOps ?_
  refine G.joinC (T := (List Api_Event)) (fun y1 => ⟨[(4, .one (.own 2004 (List.map encApi_Event y1)))], [(2004, some (.row 30 6 (List.map encApi_Event y1) true))]⟩) (fun y1 => law20_made_k1 y1 = some r) (fun y1 hF => ?_) (fun J2 => ?_)
  · unfold law20_made_k1 at hF
    refine G.seq ?_
    refine G.region ?_
    refine G.op1 (op_move (Ev.t 4 (.own 2004 (List.map encApi_Event y1))) rfl) rfl ⟨rfl, trivial⟩ trivial ?_
    refine G.op1 (op_assign (Ev.t 189 (.own 2004 (List.map encApi_Event y1))) rfl) rfl ⟨rfl, trivial⟩ trivial ?_
    refine G.endOps ?_
    cases hF
    exact G.retNew Try.results10 rfl rfl
  refine G.block ?_
  refine G.keep (sl' := [(0, .one (.g (.d (.sl 4 (List.map encLaw20_Act l_0))))), (3, .one (.ptr 1003 0)), (4, .one (.own 2004 (List.map encApi_Event ([] : (List Api_Event))))), (5, .one (.ptr 1005 0)), (6, oI 0)]) (hp' := [(1003, some (.blk 35 (dat (List.flatMap encS ([(ByteArray.mk #[97]), (ByteArray.mk #[98]), (ByteArray.mk #[99]), (ByteArray.mk #[100])]))))), (1005, some (.blk 58 (dat (List.flatMap encL_encApi_Dep (List.replicate 4 ([] : (List Api_Dep))))))), (2004, some (.row 30 6 (List.map encApi_Event ([] : (List Api_Event))) true))]) ⟨rfl, rfl, rfl, rfl, rfl, trivial⟩ ⟨rfl, rfl, rfl, trivial⟩ (by simp only [wellId, List.all_cons, List.all_nil, HE.ids, ids_dat]; rfl) ?_
  refine G.loopF (fun (v3 : Int × (List (List Api_Dep)) × (List Api_Event)) => ⟨[(0, .one (.g (.d (.sl 4 (List.map encLaw20_Act l_0))))), (3, .one (.ptr 1003 0)), (4, .one (.own 2004 (List.map encApi_Event v3.2.2))), (5, .one (.ptr 1005 0)), (6, oI v3.1)], [(1003, some (.blk 35 (dat (List.flatMap encS ([(ByteArray.mk #[97]), (ByteArray.mk #[98]), (ByteArray.mk #[99]), (ByteArray.mk #[100])]))))), (1005, some (.blk 58 (dat (List.flatMap encL_encApi_Dep v3.2.1)))), (2004, some (.row 30 6 (List.map encApi_Event v3.2.2) true))]⟩) hF rfl (fun K6 again5 v3 J4 hF => ?_)
  unfold law20_made_l2 at hF
  refine G.seq ?_
  refine G.seq ?_
  refine G.joinC (T := Bool) (fun y7 => ⟨[(0, .one (.g (.d (.sl 4 (List.map encLaw20_Act l_0))))), (3, .one (.ptr 1003 0)), (4, .one (.own 2004 (List.map encApi_Event v3.2.2))), (5, .one (.ptr 1005 0)), (6, oI v3.1), (22, oB y7)], [(1003, some (.blk 35 (dat (List.flatMap encS ([(ByteArray.mk #[97]), (ByteArray.mk #[98]), (ByteArray.mk #[99]), (ByteArray.mk #[100])]))))), (1005, some (.blk 58 (dat (List.flatMap encL_encApi_Dep v3.2.1)))), (2004, some (.row 30 6 (List.map encApi_Event v3.2.2) true))]⟩) (fun y7 => law20_made_k3 l_0 again5 v3 y7 = some r) (fun y7 hF => ?_) (fun J69 => ?_)
  · unfold law20_made_k3 at hF
    refine ifS hF (fun hc8 hF => ?_) (fun hc8 hF => ?_)
    · refine G.cond rfl (fun _ => ?_) (fun hx => by rw [hc8] at hx; cases hx)
      refine G.skip ?_
      refine G.seq ?_
      refine G.joinC (T := (List (List Api_Dep)) × (List Api_Event)) (fun y9 => ⟨[(0, .one (.g (.d (.sl 4 (List.map encLaw20_Act l_0))))), (3, .one (.ptr 1003 0)), (4, .one (.own 2004 (List.map encApi_Event y9.2))), (5, .one (.ptr 1005 0)), (6, oI v3.1)], [(1003, some (.blk 35 (dat (List.flatMap encS ([(ByteArray.mk #[97]), (ByteArray.mk #[98]), (ByteArray.mk #[99]), (ByteArray.mk #[100])]))))), (1005, some (.blk 58 (dat (List.flatMap encL_encApi_Dep y9.1)))), (2004, some (.row 30 6 (List.map encApi_Event y9.2) true))]⟩) (fun y9 => law20_made_k4 again5 v3 y9 = some r) (fun y9 hF => ?_) (fun J10 => ?_)
      · unfold law20_made_k4 at hF
        refine G.region ?_
        refine G.op1 (op_move (Ev.t 6 (bI .i64 v3.1)) rfl) rfl ⟨rfl, trivial⟩ trivial ?_
        refine G.op1 (op_add (Ev.t 23 (bI .i64 v3.1)) (Ev.c _ rfl) rfl) rfl ⟨rfl, trivial⟩ trivial ?_
        refine G.op1 (op_assign (Ev.t 24 (bI .i64 (IntKind.wrap .i64 (v3.1 + 1)))) rfl) rfl ⟨rfl, trivial⟩ trivial ?_
        refine G.endOps ?_
        exact G.arr (J4 (IntKind.wrap .i64 (v3.1 + 1), y9.1, y9.2) hF) ⟨rfl, rfl, rfl, rfl, rfl, trivial⟩ ⟨rfl, rfl, rfl, trivial⟩ (by simp only [wellId, List.all_cons, List.all_nil, HE.ids, ids_dat]; rfl)
      refine G.block ?_
      refine G.seq ?_
      refine G.region ?_
      refine G.op1 (op_move (Ev.t 0 (.g (.d (.sl 4 (List.map encLaw20_Act l_0))))) rfl) rfl ⟨rfl, trivial⟩ trivial ?_
      refine G.op1 (op_move (Ev.t 6 (bI .i64 v3.1)) rfl) rfl ⟨rfl, trivial⟩ trivial ?_
      obtain ⟨x11, hx11, hF⟩ := bindS hF
      refine G.op1 (op_index (cs := [vB x11.Write, vI x11.Client, vI x11.Key, vI x11.Which]) Try.underlying22 ti47 (idx_ok hx11).1 (idx_get hx11 encLaw20_Act) (Ev.t 25 (.g (.d (.sl 4 (List.map encLaw20_Act l_0))))) (Ev.t 26 (bI .i64 v3.1)) rfl) rfl ⟨rfl, rfl, trivial⟩ trivial ?_
      refine G.op1 (op_fieldE (cs' := [vI x11.Client, vI x11.Key, vI x11.Which]) Try.underlying47 rfl ti3 (by decide) rfl (Ev.t 27 (.ep [vB x11.Write, vI x11.Client, vI x11.Key, vI x11.Which])) rfl) rfl ⟨rfl, trivial⟩ trivial ?_
      refine G.op1 (op_load1E (c := vI x11.Client) Try.underlying3 rfl rfl (Ev.t 28 (.ep [vI x11.Client, vI x11.Key, vI x11.Which])) rfl) rfl ⟨rfl, trivial⟩ trivial ?_
      refine G.op1 (op_and (Ev.t 29 (bI .i64 x11.Client)) (Ev.c _ rfl) rfl) rfl ⟨rfl, trivial⟩ trivial ?_
      refine G.op1 (op_assign (Ev.t 30 (bI .i64 (IntKind.wrap .i64 (BitVec.ofInt (IntKind.bits .i64) x11.Client &&& BitVec.ofInt (IntKind.bits .i64) 3).toNat))) rfl) rfl ⟨rfl, trivial⟩ trivial ?_
      refine G.endOps ?_
      refine G.seq ?_
      refine G.region ?_
      refine G.op1 (op_move (Ev.t 7 (bI .i64 (IntKind.wrap .i64 (BitVec.ofInt (IntKind.bits .i64) x11.Client &&& BitVec.ofInt (IntKind.bits .i64) 3).toNat))) rfl) rfl ⟨rfl, trivial⟩ trivial ?_
      refine G.op1 (op_move (Ev.t 0 (.g (.d (.sl 4 (List.map encLaw20_Act l_0))))) rfl) rfl ⟨rfl, trivial⟩ trivial ?_
      refine G.op1 (op_move (Ev.t 6 (bI .i64 v3.1)) rfl) rfl ⟨rfl, trivial⟩ trivial ?_
      obtain ⟨x12, hx12, hF⟩ := bindS hF
      refine G.op1 (op_index (cs := [vB x12.Write, vI x12.Client, vI x12.Key, vI x12.Which]) Try.underlying22 ti47 (idx_ok hx12).1 (idx_get hx12 encLaw20_Act) (Ev.t 32 (.g (.d (.sl 4 (List.map encLaw20_Act l_0))))) (Ev.t 33 (bI .i64 v3.1)) rfl) rfl ⟨rfl, rfl, trivial⟩ trivial ?_
      refine G.op1 (op_fieldE (cs' := [vI x12.Key, vI x12.Which]) Try.underlying47 rfl ti3 (by decide) rfl (Ev.t 34 (.ep [vB x12.Write, vI x12.Client, vI x12.Key, vI x12.Which])) rfl) rfl ⟨rfl, trivial⟩ trivial ?_
      refine G.op1 (op_load1E (c := vI x12.Key) Try.underlying3 rfl rfl (Ev.t 35 (.ep [vI x12.Key, vI x12.Which])) rfl) rfl ⟨rfl, trivial⟩ trivial ?_
      refine G.op1 (op_and (Ev.t 36 (bI .i64 x12.Key)) (Ev.c _ rfl) rfl) rfl ⟨rfl, trivial⟩ trivial ?_
      obtain ⟨x13, hx13, hF⟩ := bindS hF
      refine G.op1 (op_indexA Try.underlying35 ti9 (aidx_ok hx13).1 (aidx_ok hx13).2.1 (Ev.t 3 (.ptr 1003 0)) (Ev.t 37 (bI .i64 (IntKind.wrap .i64 (BitVec.ofInt (IntKind.bits .i64) x12.Key &&& BitVec.ofInt (IntKind.bits .i64) 3).toNat))) rfl) rfl ⟨rfl, rfl, trivial⟩ trivial ?_
      refine G.op1 (op_load1P (c := bS x13) Try.underlying9 rfl (arr_at1 hx13 (fun _ => rfl) rfl) (Ev.t 38 (.ptr 1003 (Int.toNat (IntKind.wrap .i64 (BitVec.ofInt (IntKind.bits .i64) x12.Key &&& BitVec.ofInt (IntKind.bits .i64) 3).toNat) * 1))) rfl) rfl ⟨rfl, trivial⟩ ⟨rfl, trivial⟩ ?_
      refine G.op1 (op_build (zs := [vI 0, vI 0, vS ByteArray.empty, vI 0, vI 0, .sl 3 (List.map encApi_Dep ([] : (List Api_Dep)))]) (ds := [vI 2, vI (IntKind.wrap .i64 (BitVec.ofInt (IntKind.bits .i64) x11.Client &&& BitVec.ofInt (IntKind.bits .i64) 3).toNat), vS x13, vI 0, vI 0, .sl 3 (List.map encApi_Dep ([] : (List Api_Dep)))]) Try.underlying30 ti30 (pl30 _ Try.underlying30) ⟨.v _ rfl, .v _ rfl, .v _ rfl, .v _ rfl, .v _ rfl, .n 3, trivial⟩ (EvP.cons (Ev.c _ rfl) (EvP.cons (Ev.t 31 (bI .i64 (IntKind.wrap .i64 (BitVec.ofInt (IntKind.bits .i64) x11.Client &&& BitVec.ofInt (IntKind.bits .i64) 3).toNat))) (EvP.cons (Ev.t 39 (bS x13)) EvP.nil))) rfl rfl) rfl ⟨rfl, rfl, trivial⟩ trivial ?_
      refine G.op2 (op_alloc (k := 1008) (cs := [bI .i64 0, bI .i64 0, bS ByteArray.empty, bI .i64 0, bI .i64 0, .g (.d (.sl 3 (List.map encApi_Dep ([] : (List Api_Dep)))))]) ti30 ⟨.v _ rfl, .v _ rfl, .v _ rfl, .v _ rfl, .v _ rfl, .n 3, trivial⟩ rfl) rfl trivial ⟨rfl, trivial⟩ ?_
      refine G.op3 (op_storeA (cs' := [bI .i64 2, bI .i64 (IntKind.wrap .i64 (BitVec.ofInt (IntKind.bits .i64) x11.Client &&& BitVec.ofInt (IntKind.bits .i64) 3).toNat), bS x13, bI .i64 0, bI .i64 0, .g (.d (.sl 3 (List.map encApi_Dep ([] : (List Api_Dep)))))]) ti30 rfl rfl (Ev.t 8 (.ptr 1008 0)) (Ev.t 40 (.g (.agg [vI 2, vI (IntKind.wrap .i64 (BitVec.ofInt (IntKind.bits .i64) x11.Client &&& BitVec.ofInt (IntKind.bits .i64) 3).toNat), vS x13, vI 0, vI 0, .sl 3 (List.map encApi_Dep ([] : (List Api_Dep)))])))) rfl ⟨rfl, rfl, trivial⟩ ⟨rfl, trivial⟩ ?_
      refine G.endOps ?_
      refine G.seq ?_
      refine G.region ?_
      refine G.op1 (op_assign (Ev.n 3) rfl) rfl trivial trivial ?_
      refine G.endOps ?_
      refine G.seq ?_
      refine G.seq ?_
      refine G.region ?_
      refine G.op1 (op_move (Ev.t 0 (.g (.d (.sl 4 (List.map encLaw20_Act l_0))))) rfl) rfl ⟨rfl, trivial⟩ trivial ?_
      refine G.op1 (op_move (Ev.t 6 (bI .i64 v3.1)) rfl) rfl ⟨rfl, trivial⟩ trivial ?_
      obtain ⟨x14, hx14, hF⟩ := bindS hF
      refine G.op1 (op_index (cs := [vB x14.Write, vI x14.Client, vI x14.Key, vI x14.Which]) Try.underlying22 ti47 (idx_ok hx14).1 (idx_get hx14 encLaw20_Act) (Ev.t 41 (.g (.d (.sl 4 (List.map encLaw20_Act l_0))))) (Ev.t 42 (bI .i64 v3.1)) rfl) rfl ⟨rfl, rfl, trivial⟩ trivial ?_
      refine G.op1 (op_fieldE (cs' := [vB x14.Write, vI x14.Client, vI x14.Key, vI x14.Which]) Try.underlying47 rfl ti4 (by decide) rfl (Ev.t 43 (.ep [vB x14.Write, vI x14.Client, vI x14.Key, vI x14.Which])) rfl) rfl ⟨rfl, trivial⟩ trivial ?_
      refine G.op1 (op_load1E (c := vB x14.Write) Try.underlying4 rfl rfl (Ev.t 44 (.ep [vB x14.Write, vI x14.Client, vI x14.Key, vI x14.Which])) rfl) rfl ⟨rfl, trivial⟩ trivial ?_
      refine G.endOps ?_
      refine G.joinC (T := (List Api_Dep) × Int × Int × Int) (fun y15 => ⟨[(0, .one (.g (.d (.sl 4 (List.map encLaw20_Act l_0))))), (3, .one (.ptr 1003 0)), (4, .one (.own 2004 (List.map encApi_Event v3.2.2))), (5, .one (.ptr 1005 0)), (6, oI v3.1), (7, oI (IntKind.wrap .i64 (BitVec.ofInt (IntKind.bits .i64) x11.Client &&& BitVec.ofInt (IntKind.bits .i64) 3).toNat)), (8, .one (.ptr 1008 0)), (9, .one (.g (.d (.sl 3 (List.map encApi_Dep y15.1)))))], [(1003, some (.blk 35 (dat (List.flatMap encS ([(ByteArray.mk #[97]), (ByteArray.mk #[98]), (ByteArray.mk #[99]), (ByteArray.mk #[100])]))))), (1005, some (.blk 58 (dat (List.flatMap encL_encApi_Dep v3.2.1)))), (1008, some (.blk 30 [bI .i64 y15.2.1, bI .i64 (IntKind.wrap .i64 (BitVec.ofInt (IntKind.bits .i64) x11.Client &&& BitVec.ofInt (IntKind.bits .i64) 3).toNat), bS x13, bI .i64 y15.2.2.1, bI .i64 y15.2.2.2, .g (.d (.sl 3 (List.map encApi_Dep ([] : (List Api_Dep)))))])), (2004, some (.row 30 6 (List.map encApi_Event v3.2.2) true))]⟩) (fun y15 => law20_made_k5 l_0 again5 v3 x11 x13 y15 = some r) (fun y15 hF => ?_) (fun J34 => ?_)
      · unfold law20_made_k5 at hF
        refine G.seq ?_
        refine G.joinC (T := Bool) (fun y16 => ⟨[(0, .one (.g (.d (.sl 4 (List.map encLaw20_Act l_0))))), (3, .one (.ptr 1003 0)), (4, .one (.own 2004 (List.map encApi_Event v3.2.2))), (5, .one (.ptr 1005 0)), (6, oI v3.1), (7, oI (IntKind.wrap .i64 (BitVec.ofInt (IntKind.bits .i64) x11.Client &&& BitVec.ofInt (IntKind.bits .i64) 3).toNat)), (8, .one (.ptr 1008 0)), (9, .one (.g (.d (.sl 3 (List.map encApi_Dep y15.1))))), (157, oB y16)], [(1003, some (.blk 35 (dat (List.flatMap encS ([(ByteArray.mk #[97]), (ByteArray.mk #[98]), (ByteArray.mk #[99]), (ByteArray.mk #[100])]))))), (1005, some (.blk 58 (dat (List.flatMap encL_encApi_Dep v3.2.1)))), (1008, some (.blk 30 [bI .i64 y15.2.1, bI .i64 (IntKind.wrap .i64 (BitVec.ofInt (IntKind.bits .i64) x11.Client &&& BitVec.ofInt (IntKind.bits .i64) 3).toNat), bS x13, bI .i64 y15.2.2.1, bI .i64 y15.2.2.2, .g (.d (.sl 3 (List.map encApi_Dep ([] : (List Api_Dep)))))])), (2004, some (.row 30 6 (List.map encApi_Event v3.2.2) true))]⟩) (fun y16 => law20_made_k6 again5 v3 x11 x13 y15 y16 = some r) (fun y16 hF => ?_) (fun J30 => ?_)
        · unfold law20_made_k6 at hF
          refine ifS hF (fun hc17 hF => ?_) (fun hc17 hF => ?_)
          · refine G.cond rfl (fun _ => ?_) (fun hx => by rw [hc17] at hx; cases hx)
            refine G.seq ?_
            refine G.region ?_
            refine G.op1 (op_move (Ev.t 7 (bI .i64 (IntKind.wrap .i64 (BitVec.ofInt (IntKind.bits .i64) x11.Client &&& BitVec.ofInt (IntKind.bits .i64) 3).toNat))) rfl) rfl ⟨rfl, trivial⟩ trivial ?_
            obtain ⟨x18, hx18, hF⟩ := bindS hF
            refine G.op1 (op_indexA Try.underlying58 ti28 (aidx_ok hx18).1 (aidx_ok hx18).2.1 (Ev.t 5 (.ptr 1005 0)) (Ev.t 158 (bI .i64 (IntKind.wrap .i64 (BitVec.ofInt (IntKind.bits .i64) x11.Client &&& BitVec.ofInt (IntKind.bits .i64) 3).toNat))) rfl) rfl ⟨rfl, rfl, trivial⟩ trivial ?_
            refine G.op1 (op_load1P (c := .g (.d (.sl 3 (List.map encApi_Dep x18)))) Try.underlying28 rfl (arr_at1 hx18 (fun _ => rfl) rfl) (Ev.t 159 (.ptr 1005 (Int.toNat (IntKind.wrap .i64 (BitVec.ofInt (IntKind.bits .i64) x11.Client &&& BitVec.ofInt (IntKind.bits .i64) 3).toNat) * 1))) rfl) rfl ⟨rfl, trivial⟩ ⟨rfl, trivial⟩ ?_
            refine G.op1 (op_move (Ev.t 9 (.g (.d (.sl 3 (List.map encApi_Dep y15.1))))) rfl) rfl ⟨rfl, trivial⟩ trivial ?_
            refine G.op1 (op_buildSlice (es := List.map encL_encApi_Dep [x18, y15.1]) Try.underlying60 ti28 rfl rfl (EvP.cons (Ev.t 160 (.g (.d (.sl 3 (List.map encApi_Dep x18))))) (EvP.cons (Ev.t 161 (.g (.d (.sl 3 (List.map encApi_Dep y15.1))))) EvP.nil)) rfl rfl (by simp [encL_encApi_Dep]) rfl) rfl ⟨rfl, rfl, trivial⟩ trivial ?_
            obtain ⟨r19, hr19, hF⟩ := bindS hF
            refine G.op1 (op_call (sv := .one (.g (.d (.sl 3 (List.map encApi_Dep r19))))) cf24 (ct_ref04_Merge ([x18, y15.1]) r19 hr19) rfl (EvL.cons (Ev.t 162 (.g (.d (.sl 1 (List.map encL_encApi_Dep ([x18, y15.1])))))) EvL.nil) rfl) rfl ⟨rfl, trivial⟩ trivial ?_
            refine G.op1 (op_fieldP (off' := 5) Try.underlying30 rfl ti28 (by decide) rfl (Ev.t 8 (.ptr 1008 0)) rfl) rfl ⟨rfl, trivial⟩ trivial ?_
            refine G.op3 (op_store1 (cs' := [bI .i64 y15.2.1, bI .i64 (IntKind.wrap .i64 (BitVec.ofInt (IntKind.bits .i64) x11.Client &&& BitVec.ofInt (IntKind.bits .i64) 3).toNat), bS x13, bI .i64 y15.2.2.1, bI .i64 y15.2.2.2, .g (.d (.sl 3 (List.map encApi_Dep r19)))]) (c := .g (.d (.sl 3 (List.map encApi_Dep r19)))) trivial ti28 rfl rfl (Ev.t 164 (.ptr 1008 5)) (Ev.t 163 (.g (.d (.sl 3 (List.map encApi_Dep r19)))))) rfl ⟨rfl, rfl, trivial⟩ ⟨rfl, trivial⟩ ?_
            refine G.endOps ?_
            refine G.seq ?_
            refine G.seq ?_
            refine G.joinC (T := Bool) (fun y20 => ⟨[(0, .one (.g (.d (.sl 4 (List.map encLaw20_Act l_0))))), (3, .one (.ptr 1003 0)), (4, .one (.own 2004 (List.map encApi_Event v3.2.2))), (5, .one (.ptr 1005 0)), (6, oI v3.1), (7, oI (IntKind.wrap .i64 (BitVec.ofInt (IntKind.bits .i64) x11.Client &&& BitVec.ofInt (IntKind.bits .i64) 3).toNat)), (8, .one (.ptr 1008 0)), (177, oB y20)], [(1003, some (.blk 35 (dat (List.flatMap encS ([(ByteArray.mk #[97]), (ByteArray.mk #[98]), (ByteArray.mk #[99]), (ByteArray.mk #[100])]))))), (1005, some (.blk 58 (dat (List.flatMap encL_encApi_Dep v3.2.1)))), (1008, some (.blk 30 [bI .i64 y15.2.1, bI .i64 (IntKind.wrap .i64 (BitVec.ofInt (IntKind.bits .i64) x11.Client &&& BitVec.ofInt (IntKind.bits .i64) 3).toNat), bS x13, bI .i64 y15.2.2.1, bI .i64 y15.2.2.2, .g (.d (.sl 3 (List.map encApi_Dep r19)))])), (2004, some (.row 30 6 (List.map encApi_Event v3.2.2) true))]⟩) (fun y20 => law20_made_k7 again5 v3 x11 x13 y15 r19 y20 = some r) (fun y20 hF => ?_) (fun J26 => ?_)
            · unfold law20_made_k7 at hF
              refine ifS hF (fun hc21 hF => ?_) (fun hc21 hF => ?_)
              · refine G.cond rfl (fun _ => ?_) (fun hx => by rw [hc21] at hx; cases hx)
                refine G.exit ?_
                refine GX.c ?_
                refine GX.bYes ?_
                exact G.arr (J10 (v3.2.1, v3.2.2) hF) ⟨rfl, rfl, rfl, rfl, rfl, trivial⟩ ⟨rfl, rfl, rfl, trivial⟩ (by simp only [wellId, List.all_cons, List.all_nil, HE.ids, ids_dat]; rfl)
              · refine G.cond rfl (fun hx => by rw [hc21] at hx; cases hx) (fun _ => ?_)
                refine G.skip ?_
                refine G.seq ?_
                refine G.region ?_
                refine G.op1 (op_move (Ev.t 4 (.own 2004 (List.map encApi_Event v3.2.2))) rfl) rfl ⟨rfl, trivial⟩ trivial ?_
                refine G.op1 (op_loadAP (ds := [vI y15.2.1, vI (IntKind.wrap .i64 (BitVec.ofInt (IntKind.bits .i64) x11.Client &&& BitVec.ofInt (IntKind.bits .i64) 3).toNat), vS x13, vI y15.2.2.1, vI y15.2.2.2, .sl 3 (List.map encApi_Dep r19)]) Try.underlying30 rfl ti30 rfl (Ev.t 8 (.ptr 1008 0)) rfl) rfl ⟨rfl, trivial⟩ ⟨rfl, trivial⟩ ?_
                refine G.op1 (op_buildSlice (es := List.map encApi_Event [(Api_Event.mk y15.2.1 (IntKind.wrap .i64 (BitVec.ofInt (IntKind.bits .i64) x11.Client &&& BitVec.ofInt (IntKind.bits .i64) 3).toNat) x13 (Api_Stamp.mk y15.2.2.1 y15.2.2.2) r19)]) Try.underlying24 ti30 rfl rfl (EvP.cons (Ev.t 179 (.g (.agg [vI y15.2.1, vI (IntKind.wrap .i64 (BitVec.ofInt (IntKind.bits .i64) x11.Client &&& BitVec.ofInt (IntKind.bits .i64) 3).toNat), vS x13, vI y15.2.2.1, vI y15.2.2.2, .sl 3 (List.map encApi_Dep r19)]))) EvP.nil) rfl rfl (by simp [encApi_Event]) rfl) rfl ⟨rfl, trivial⟩ trivial ?_
                obtain ⟨l22, hl22, hF⟩ := bindS hF
                refine G.op2 (op_appendO Try.underlying24 ti30 rfl (app_map hl22 encApi_Event) (app_b1 hl22 encApi_Event) (app_b2 hl22 encApi_Event) (Ev.t 178 (.own 2004 (List.map encApi_Event v3.2.2))) (Ev.t 180 (.g (.d (.sl 6 (List.map encApi_Event ([(Api_Event.mk y15.2.1 (IntKind.wrap .i64 (BitVec.ofInt (IntKind.bits .i64) x11.Client &&& BitVec.ofInt (IntKind.bits .i64) 3).toNat) x13 (Api_Stamp.mk y15.2.2.1 y15.2.2.2) r19)])))))) rfl) rfl ⟨rfl, rfl, trivial⟩ ⟨rfl, trivial⟩ ?_
                refine G.op1 (op_assign (Ev.t 181 (.own 2004 (List.map encApi_Event l22))) rfl) rfl ⟨rfl, trivial⟩ trivial ?_
                refine G.endOps ?_
                refine G.region ?_
                refine G.op1 (op_move (Ev.t 7 (bI .i64 (IntKind.wrap .i64 (BitVec.ofInt (IntKind.bits .i64) x11.Client &&& BitVec.ofInt (IntKind.bits .i64) 3).toNat))) rfl) rfl ⟨rfl, trivial⟩ trivial ?_
                refine G.op1 (op_move (Ev.t 4 (.own 2004 (List.map encApi_Event l22))) rfl) rfl ⟨rfl, trivial⟩ trivial ?_
                refine G.op1 (op_move (Ev.t 4 (.own 2004 (List.map encApi_Event l22))) rfl) rfl ⟨rfl, trivial⟩ trivial ?_
                refine G.op1 (OpL.cast (op_lenO Try.underlying24 (Ev.t 184 (.own 2004 (List.map encApi_Event l22))) rfl) (by rw [List.length_map])) rfl ⟨rfl, trivial⟩ ⟨rfl, trivial⟩ ?_
                refine G.op1 (op_sub (Ev.t 185 (bI .i64 (l22.length : Int))) (Ev.c _ rfl) rfl) rfl ⟨rfl, trivial⟩ trivial ?_
                obtain ⟨r23, hr23, hF⟩ := bindS hF
                refine G.op1 (op_callLendY (kk := 2004) (T := 30) (size := 6) (es := List.map encApi_Event l22) (ex := true) cf25 (cy_ref20_Behind l22 (IntKind.wrap .i64 ((l22.length : Int) - 1)) r23 hr23) (EvLd.own (Ev.t 183 (.own 2004 (List.map encApi_Event l22))) (EvLd.g (Ev.t 186 (bI .i64 (IntKind.wrap .i64 ((l22.length : Int) - 1)))) EvLd.nil)) rfl) rfl ⟨rfl, rfl, trivial⟩ ⟨rfl, trivial⟩ ?_
                obtain ⟨x24, hx24, hF⟩ := bindS hF
                refine G.op1 (op_indexA Try.underlying58 ti28 (aidx_ok hx24).1 (aidx_ok hx24).2.1 (Ev.t 5 (.ptr 1005 0)) (Ev.t 182 (bI .i64 (IntKind.wrap .i64 (BitVec.ofInt (IntKind.bits .i64) x11.Client &&& BitVec.ofInt (IntKind.bits .i64) 3).toNat))) rfl) rfl ⟨rfl, rfl, trivial⟩ trivial ?_
                obtain ⟨a25, ha25, hF⟩ := bindS hF
                refine G.op3 (op_store1 (c := .g (.d (.sl 3 (List.map encApi_Dep r23)))) trivial ti28 (arr_lt1 ha25 (fun _ => rfl)) (arr_set (enc := encL_encApi_Dep) ha25 (fun _ => rfl)) (Ev.t 188 (.ptr 1005 (Int.toNat (IntKind.wrap .i64 (BitVec.ofInt (IntKind.bits .i64) x11.Client &&& BitVec.ofInt (IntKind.bits .i64) 3).toNat) * 1))) (Ev.t 187 (.g (.d (.sl 3 (List.map encApi_Dep r23)))))) rfl ⟨rfl, rfl, trivial⟩ ⟨rfl, trivial⟩ ?_
                refine G.endOps ?_
                refine G.endBlock ?_
                exact G.arr (J10 (a25, l22) hF) ⟨rfl, rfl, rfl, rfl, rfl, trivial⟩ ⟨rfl, rfl, rfl, trivial⟩ (by simp only [wellId, List.all_cons, List.all_nil, HE.ids, ids_dat]; rfl)
            refine ifS hF (fun hc27 hF => ?_) (fun hc27 hF => ?_)
            · obtain ⟨r28, hr28, hF⟩ := bindS hF
              obtain ⟨r29, hr29, hF⟩ := bindS hF
              refine G.drawnI (deps := [[], [0], [0, 1], [0, 1, 2], [0, 1, 2, 3], [0, 1, 2, 3, 4], [0, 1, 2, 3], [0, 1, 2, 3, 6], [0, 1, 2, 3], [0, 1, 2, 3, 8], [0, 1, 2, 3, 6, 7, 8, 9], [0, 1, 2, 3, 4, 5, 6, 7, 8, 9, 10], [0, 1, 2, 3, 4, 5, 6, 7, 8, 9, 10, 11]]) (sl' := [(0, .one (.g (.d (.sl 4 (List.map encLaw20_Act l_0))))), (3, .one (.ptr 1003 0)), (4, .one (.own 2004 (List.map encApi_Event v3.2.2))), (5, .one (.ptr 1005 0)), (6, oI v3.1), (7, oI (IntKind.wrap .i64 (BitVec.ofInt (IntKind.bits .i64) x11.Client &&& BitVec.ofInt (IntKind.bits .i64) 3).toNat)), (8, .one (.ptr 1008 0)), (177, oB r29)]) (hp' := [(1003, some (.blk 35 (dat (List.flatMap encS ([(ByteArray.mk #[97]), (ByteArray.mk #[98]), (ByteArray.mk #[99]), (ByteArray.mk #[100])]))))), (1005, some (.blk 58 (dat (List.flatMap encL_encApi_Dep v3.2.1)))), (1008, some (.blk 30 [bI .i64 y15.2.1, bI .i64 (IntKind.wrap .i64 (BitVec.ofInt (IntKind.bits .i64) x11.Client &&& BitVec.ofInt (IntKind.bits .i64) 3).toNat), bS x13, bI .i64 y15.2.2.1, bI .i64 y15.2.2.2, .g (.d (.sl 3 (List.map encApi_Dep r19)))])), (2004, some (.row 30 6 (List.map encApi_Event v3.2.2) true))]) (.c (oP rfl rfl (op_fieldP (off' := 0) Try.underlying30 rfl ti3 (by decide) rfl (Ev.t 8 (.ptr 1008 0)) rfl)) (.c (oP rfl rfl (op_load1P (c := bI .i64 y15.2.1) Try.underlying3 rfl rfl (Ev.t 165 (.ptr 1008 0)) rfl)) (.c (oP rfl rfl (OpL.cast (op_eqI (Ev.t 166 (bI .i64 y15.2.1)) (Ev.c _ rfl) rfl) (congrArg (fun b => bB b) hc27))) (.c (oP rfl rfl (op_move (Ev.t 167 (bB true)) rfl)) (.c (oY rfl rfl rfl (op_fieldP (off' := 3) Try.underlying30 rfl ti27 (by decide) rfl (Ev.t 8 (.ptr 1008 0)) rfl)) (.c (oY rfl rfl rfl (op_loadAP (ds := [vI y15.2.2.1, vI y15.2.2.2]) Try.underlying27 rfl ti27 rfl (Ev.t 169 (.ptr 1008 3)) rfl)) (.c (oY rfl rfl rfl (op_fieldP (off' := 5) Try.underlying30 rfl ti28 (by decide) rfl (Ev.t 8 (.ptr 1008 0)) rfl)) (.c (oY rfl rfl rfl (op_load1P (c := .g (.d (.sl 3 (List.map encApi_Dep r19)))) Try.underlying28 rfl rfl (Ev.t 171 (.ptr 1008 5)) rfl)) (.c (oY rfl rfl rfl (op_fieldP (off' := 2) Try.underlying30 rfl ti9 (by decide) rfl (Ev.t 8 (.ptr 1008 0)) rfl)) (.c (oY rfl rfl rfl (op_load1P (c := bS x13) Try.underlying9 rfl rfl (Ev.t 173 (.ptr 1008 2)) rfl)) (.c (oY rfl rfl rfl (op_callQ (sv := .one (.g (.agg [vI r28.N, vI r28.Site]))) cf12 (ct_ref04_Get r19 x13 r28 hr28) rfl rfl (EvQL.cons (EvQ.g (Ev.t 172 (.g (.d (.sl 3 (List.map encApi_Dep r19)))))) (EvQL.cons (EvQ.g (Ev.t 174 (bS x13))) EvQL.nil)) rfl)) (.c (oY rfl rfl rfl (op_callQ (sv := oB r29) cf16 (ct_ref03_Less (Api_Stamp.mk y15.2.2.1 y15.2.2.2) r28 r29 hr29) rfl rfl (EvQL.cons (EvQ.g (Ev.t 170 (.g (.agg [vI y15.2.2.1, vI y15.2.2.2])))) (EvQL.cons (EvQ.g (Ev.t 175 (.g (.agg [vI r28.N, vI r28.Site])))) EvQL.nil)) rfl)) (.c (oP rfl rfl (op_pickT (Ev.t 168 (bB true)) (Ev.t 176 (bB r29)) rfl)) .nil))))))))))))) follows rfl rfl rfl ⟨⟨rfl, trivial⟩, trivial, ⟨rfl, trivial⟩, ⟨⟨rfl, rfl⟩, trivial⟩, ⟨rfl, trivial⟩, trivial, ⟨rfl, trivial⟩, trivial, ⟨rfl, rfl, trivial⟩, trivial, ⟨rfl, rfl, trivial⟩, ⟨⟨rfl, rfl⟩, trivial⟩, ⟨rfl, rfl, trivial⟩, trivial, ⟨rfl, rfl, trivial⟩, ⟨⟨rfl, rfl⟩, trivial⟩, ⟨rfl, rfl, trivial⟩, trivial, ⟨rfl, rfl, trivial⟩, ⟨⟨rfl, rfl⟩, trivial⟩, ⟨rfl, rfl, rfl, trivial⟩, trivial, ⟨rfl, rfl, rfl, trivial⟩, trivial, ⟨rfl, rfl, trivial⟩, trivial, trivial⟩ ⟨rfl, rfl, rfl, rfl, rfl, rfl, rfl, rfl, trivial⟩ ⟨rfl, rfl, rfl, rfl, trivial⟩ (by simp only [wellId, List.all_cons, List.all_nil, HE.ids, ids_dat]; rfl) ?_
              exact G.arr (J26 r29 hF) ⟨rfl, rfl, rfl, rfl, rfl, rfl, rfl, rfl, trivial⟩ ⟨rfl, rfl, rfl, rfl, trivial⟩ (by simp only [wellId, List.all_cons, List.all_nil, HE.ids, ids_dat]; rfl)
            · refine G.drawnI (deps := [[], [0], [0, 1], [0, 1, 2], [0, 1, 2, 3], [0, 1, 2, 3, 4], [0, 1, 2, 3], [0, 1, 2, 3, 6], [0, 1, 2, 3], [0, 1, 2, 3, 8], [0, 1, 2, 3, 6, 7, 8, 9], [0, 1, 2, 3, 4, 5, 6, 7, 8, 9, 10], [0, 1, 2, 3, 4, 5, 6, 7, 8, 9, 10, 11]]) (sl' := [(0, .one (.g (.d (.sl 4 (List.map encLaw20_Act l_0))))), (3, .one (.ptr 1003 0)), (4, .one (.own 2004 (List.map encApi_Event v3.2.2))), (5, .one (.ptr 1005 0)), (6, oI v3.1), (7, oI (IntKind.wrap .i64 (BitVec.ofInt (IntKind.bits .i64) x11.Client &&& BitVec.ofInt (IntKind.bits .i64) 3).toNat)), (8, .one (.ptr 1008 0)), (177, oB false)]) (hp' := [(1003, some (.blk 35 (dat (List.flatMap encS ([(ByteArray.mk #[97]), (ByteArray.mk #[98]), (ByteArray.mk #[99]), (ByteArray.mk #[100])]))))), (1005, some (.blk 58 (dat (List.flatMap encL_encApi_Dep v3.2.1)))), (1008, some (.blk 30 [bI .i64 y15.2.1, bI .i64 (IntKind.wrap .i64 (BitVec.ofInt (IntKind.bits .i64) x11.Client &&& BitVec.ofInt (IntKind.bits .i64) 3).toNat), bS x13, bI .i64 y15.2.2.1, bI .i64 y15.2.2.2, .g (.d (.sl 3 (List.map encApi_Dep r19)))])), (2004, some (.row 30 6 (List.map encApi_Event v3.2.2) true))]) (.c (oP rfl rfl (op_fieldP (off' := 0) Try.underlying30 rfl ti3 (by decide) rfl (Ev.t 8 (.ptr 1008 0)) rfl)) (.c (oP rfl rfl (op_load1P (c := bI .i64 y15.2.1) Try.underlying3 rfl rfl (Ev.t 165 (.ptr 1008 0)) rfl)) (.c (oP rfl rfl (OpL.cast (op_eqI (Ev.t 166 (bI .i64 y15.2.1)) (Ev.c _ rfl) rfl) (congrArg (fun b => bB b) hc27))) (.c (oP rfl rfl (op_move (Ev.t 167 (bB false)) rfl)) (.c (OpW.no rfl rfl rfl rfl rfl) (.c (OpW.no rfl rfl rfl rfl rfl) (.c (OpW.no rfl rfl rfl rfl rfl) (.c (OpW.no rfl rfl rfl rfl rfl) (.c (OpW.no rfl rfl rfl rfl rfl) (.c (OpW.no rfl rfl rfl rfl rfl) (.c (OpW.no rfl rfl rfl rfl rfl) (.c (OpW.no rfl rfl rfl rfl rfl) (.c (oP rfl rfl (op_pickF (Ev.t 168 (bB false)) (Ev.c _ rfl) rfl)) .nil))))))))))))) follows rfl rfl rfl ⟨⟨rfl, trivial⟩, trivial, ⟨rfl, trivial⟩, ⟨⟨rfl, rfl⟩, trivial⟩, ⟨rfl, trivial⟩, trivial, ⟨rfl, trivial⟩, trivial, ⟨rfl, trivial⟩, trivial, ⟨rfl, trivial⟩, trivial, ⟨rfl, trivial⟩, trivial, ⟨rfl, trivial⟩, trivial, ⟨rfl, trivial⟩, trivial, ⟨rfl, trivial⟩, trivial, ⟨rfl, trivial⟩, trivial, ⟨rfl, trivial⟩, trivial, ⟨rfl, trivial⟩, trivial, trivial⟩ ⟨rfl, rfl, rfl, rfl, rfl, rfl, rfl, rfl, trivial⟩ ⟨rfl, rfl, rfl, rfl, trivial⟩ (by simp only [wellId, List.all_cons, List.all_nil, HE.ids, ids_dat]; rfl) ?_
              exact G.arr (J26 false hF) ⟨rfl, rfl, rfl, rfl, rfl, rfl, rfl, rfl, trivial⟩ ⟨rfl, rfl, rfl, rfl, trivial⟩ (by simp only [wellId, List.all_cons, List.all_nil, HE.ids, ids_dat]; rfl)
          · refine G.cond rfl (fun hx => by rw [hc17] at hx; cases hx) (fun _ => ?_)
            refine G.skip ?_
            refine G.endBlock ?_
            exact G.arr (J10 (v3.2.1, v3.2.2) hF) ⟨rfl, rfl, rfl, rfl, rfl, trivial⟩ ⟨rfl, rfl, rfl, trivial⟩ (by simp only [wellId, List.all_cons, List.all_nil, HE.ids, ids_dat]; rfl)
        obtain ⟨x31, hx31, hF⟩ := bindS hF
        refine ifS hF (fun hc32 hF => ?_) (fun hc32 hF => ?_)
        · refine G.drawnI (deps := [[], [], [0, 1], [0, 1, 2], [0, 1, 2, 3], [0, 1, 2, 3, 4], [0, 1, 2, 3, 4, 5], [0, 1, 2, 3, 4, 5], [0, 1, 2, 3, 4, 5, 7], [0, 1, 2, 3, 4, 5, 6, 7, 8], [0, 1, 2, 3, 4, 5, 6, 7, 8, 9], [0, 1, 2, 3, 4, 5], [0, 1, 2, 3, 4, 5, 11], [0, 1, 2, 3, 4, 5, 11, 12], [0, 1, 2, 3, 4, 5, 6, 7, 8, 9, 10, 11, 12, 13], [0, 1, 2, 3, 4, 5, 6, 7, 8, 9, 10, 11, 12, 13, 14]]) (sl' := [(0, .one (.g (.d (.sl 4 (List.map encLaw20_Act l_0))))), (3, .one (.ptr 1003 0)), (4, .one (.own 2004 (List.map encApi_Event v3.2.2))), (5, .one (.ptr 1005 0)), (6, oI v3.1), (7, oI (IntKind.wrap .i64 (BitVec.ofInt (IntKind.bits .i64) x11.Client &&& BitVec.ofInt (IntKind.bits .i64) 3).toNat)), (8, .one (.ptr 1008 0)), (9, .one (.g (.d (.sl 3 (List.map encApi_Dep y15.1))))), (157, oB true)]) (hp' := [(1003, some (.blk 35 (dat (List.flatMap encS ([(ByteArray.mk #[97]), (ByteArray.mk #[98]), (ByteArray.mk #[99]), (ByteArray.mk #[100])]))))), (1005, some (.blk 58 (dat (List.flatMap encL_encApi_Dep v3.2.1)))), (1008, some (.blk 30 [bI .i64 y15.2.1, bI .i64 (IntKind.wrap .i64 (BitVec.ofInt (IntKind.bits .i64) x11.Client &&& BitVec.ofInt (IntKind.bits .i64) 3).toNat), bS x13, bI .i64 y15.2.2.1, bI .i64 y15.2.2.2, .g (.d (.sl 3 (List.map encApi_Dep ([] : (List Api_Dep)))))])), (2004, some (.row 30 6 (List.map encApi_Event v3.2.2) true))]) (.c (oP rfl rfl (op_move (Ev.t 0 (.g (.d (.sl 4 (List.map encLaw20_Act l_0))))) rfl)) (.c (oP rfl rfl (op_move (Ev.t 6 (bI .i64 v3.1)) rfl)) (.c (oP rfl rfl (op_index (cs := [vB x31.Write, vI x31.Client, vI x31.Key, vI x31.Which]) Try.underlying22 ti47 (idx_ok hx31).1 (idx_get hx31 encLaw20_Act) (Ev.t 142 (.g (.d (.sl 4 (List.map encLaw20_Act l_0))))) (Ev.t 143 (bI .i64 v3.1)) rfl)) (.c (oP rfl rfl (op_fieldE (cs' := [vB x31.Write, vI x31.Client, vI x31.Key, vI x31.Which]) Try.underlying47 rfl ti4 (by decide) rfl (Ev.t 144 (.ep [vB x31.Write, vI x31.Client, vI x31.Key, vI x31.Which])) rfl)) (.c (oP rfl rfl (OpL.cast (op_load1E (c := vB x31.Write) Try.underlying4 rfl rfl (Ev.t 145 (.ep [vB x31.Write, vI x31.Client, vI x31.Key, vI x31.Which])) rfl) (congrArg (fun b => bB b) hc32))) (.c (oP rfl rfl (op_move (Ev.t 146 (bB true)) rfl)) (.c (OpW.no rfl rfl rfl rfl rfl) (.c (OpW.no rfl rfl rfl rfl rfl) (.c (OpW.no rfl rfl rfl rfl rfl) (.c (OpW.no rfl rfl rfl rfl rfl) (.c (OpW.no rfl rfl rfl rfl rfl) (.c (OpW.no rfl rfl rfl rfl rfl) (.c (OpW.no rfl rfl rfl rfl rfl) (.c (OpW.no rfl rfl rfl rfl rfl) (.c (OpW.no rfl rfl rfl rfl rfl) (.c (oP rfl rfl (op_pickT (Ev.t 147 (bB true)) (Ev.c _ rfl) rfl)) .nil)))))))))))))))) follows rfl rfl rfl ⟨⟨rfl, trivial⟩, trivial, ⟨rfl, trivial⟩, trivial, ⟨rfl, rfl, trivial⟩, trivial, ⟨rfl, trivial⟩, trivial, ⟨rfl, trivial⟩, trivial, ⟨rfl, trivial⟩, trivial, ⟨rfl, trivial⟩, trivial, ⟨rfl, trivial⟩, trivial, ⟨rfl, trivial⟩, trivial, ⟨rfl, trivial⟩, trivial, ⟨rfl, trivial⟩, trivial, ⟨rfl, trivial⟩, trivial, ⟨rfl, trivial⟩, trivial, ⟨rfl, trivial⟩, trivial, ⟨rfl, trivial⟩, trivial, ⟨rfl, trivial⟩, trivial, trivial⟩ ⟨rfl, rfl, rfl, rfl, rfl, rfl, rfl, rfl, rfl, trivial⟩ ⟨rfl, rfl, rfl, rfl, trivial⟩ (by simp only [wellId, List.all_cons, List.all_nil, HE.ids, ids_dat]; rfl) ?_
          exact G.arr (J30 true hF) ⟨rfl, rfl, rfl, rfl, rfl, rfl, rfl, rfl, rfl, trivial⟩ ⟨rfl, rfl, rfl, rfl, trivial⟩ (by simp only [wellId, List.all_cons, List.all_nil, HE.ids, ids_dat]; rfl)
        · obtain ⟨r33, hr33, hF⟩ := bindS hF
          refine G.drawnI (deps := [[], [], [0, 1], [0, 1, 2], [0, 1, 2, 3], [0, 1, 2, 3, 4], [0, 1, 2, 3, 4, 5], [0, 1, 2, 3, 4, 5], [0, 1, 2, 3, 4, 5, 7], [0, 1, 2, 3, 4, 5, 6, 7, 8], [0, 1, 2, 3, 4, 5, 6, 7, 8, 9], [0, 1, 2, 3, 4, 5], [0, 1, 2, 3, 4, 5, 11], [0, 1, 2, 3, 4, 5, 11, 12], [0, 1, 2, 3, 4, 5, 6, 7, 8, 9, 10, 11, 12, 13], [0, 1, 2, 3, 4, 5, 6, 7, 8, 9, 10, 11, 12, 13, 14]]) (sl' := [(0, .one (.g (.d (.sl 4 (List.map encLaw20_Act l_0))))), (3, .one (.ptr 1003 0)), (4, .one (.own 2004 (List.map encApi_Event v3.2.2))), (5, .one (.ptr 1005 0)), (6, oI v3.1), (7, oI (IntKind.wrap .i64 (BitVec.ofInt (IntKind.bits .i64) x11.Client &&& BitVec.ofInt (IntKind.bits .i64) 3).toNat)), (8, .one (.ptr 1008 0)), (9, .one (.g (.d (.sl 3 (List.map encApi_Dep y15.1))))), (157, oB (decide (r33.N ≤ y15.2.2.1)))]) (hp' := [(1003, some (.blk 35 (dat (List.flatMap encS ([(ByteArray.mk #[97]), (ByteArray.mk #[98]), (ByteArray.mk #[99]), (ByteArray.mk #[100])]))))), (1005, some (.blk 58 (dat (List.flatMap encL_encApi_Dep v3.2.1)))), (1008, some (.blk 30 [bI .i64 y15.2.1, bI .i64 (IntKind.wrap .i64 (BitVec.ofInt (IntKind.bits .i64) x11.Client &&& BitVec.ofInt (IntKind.bits .i64) 3).toNat), bS x13, bI .i64 y15.2.2.1, bI .i64 y15.2.2.2, .g (.d (.sl 3 (List.map encApi_Dep ([] : (List Api_Dep)))))])), (2004, some (.row 30 6 (List.map encApi_Event v3.2.2) true))]) (.c (oP rfl rfl (op_move (Ev.t 0 (.g (.d (.sl 4 (List.map encLaw20_Act l_0))))) rfl)) (.c (oP rfl rfl (op_move (Ev.t 6 (bI .i64 v3.1)) rfl)) (.c (oP rfl rfl (op_index (cs := [vB x31.Write, vI x31.Client, vI x31.Key, vI x31.Which]) Try.underlying22 ti47 (idx_ok hx31).1 (idx_get hx31 encLaw20_Act) (Ev.t 142 (.g (.d (.sl 4 (List.map encLaw20_Act l_0))))) (Ev.t 143 (bI .i64 v3.1)) rfl)) (.c (oP rfl rfl (op_fieldE (cs' := [vB x31.Write, vI x31.Client, vI x31.Key, vI x31.Which]) Try.underlying47 rfl ti4 (by decide) rfl (Ev.t 144 (.ep [vB x31.Write, vI x31.Client, vI x31.Key, vI x31.Which])) rfl)) (.c (oP rfl rfl (OpL.cast (op_load1E (c := vB x31.Write) Try.underlying4 rfl rfl (Ev.t 145 (.ep [vB x31.Write, vI x31.Client, vI x31.Key, vI x31.Which])) rfl) (congrArg (fun b => bB b) hc32))) (.c (oP rfl rfl (op_move (Ev.t 146 (bB false)) rfl)) (.c (oY rfl rfl rfl (op_move (Ev.t 9 (.g (.d (.sl 3 (List.map encApi_Dep y15.1))))) rfl)) (.c (oY rfl rfl rfl (op_fieldP (off' := 2) Try.underlying30 rfl ti9 (by decide) rfl (Ev.t 8 (.ptr 1008 0)) rfl)) (.c (oY rfl rfl rfl (op_load1P (c := bS x13) Try.underlying9 rfl rfl (Ev.t 149 (.ptr 1008 2)) rfl)) (.c (oY rfl rfl rfl (op_callQ (sv := .one (.g (.agg [vI r33.N, vI r33.Site]))) cf12 (ct_ref04_Get y15.1 x13 r33 hr33) rfl rfl (EvQL.cons (EvQ.g (Ev.t 148 (.g (.d (.sl 3 (List.map encApi_Dep y15.1)))))) (EvQL.cons (EvQ.g (Ev.t 150 (bS x13))) EvQL.nil)) rfl)) (.c (oY rfl rfl rfl (op_fieldV (c := vI r33.N) Try.underlying27 rfl Try.underlying3 rfl rfl (Ev.t 151 (.g (.agg [vI r33.N, vI r33.Site]))) rfl)) (.c (oY rfl rfl rfl (op_fieldP (off' := 3) Try.underlying30 rfl ti27 (by decide) rfl (Ev.t 8 (.ptr 1008 0)) rfl)) (.c (oY rfl rfl rfl (op_fieldP (off' := 3) Try.underlying27 rfl ti3 (by decide) rfl (Ev.t 153 (.ptr 1008 3)) rfl)) (.c (oY rfl rfl rfl (op_load1P (c := bI .i64 y15.2.2.1) Try.underlying3 rfl rfl (Ev.t 154 (.ptr 1008 3)) rfl)) (.c (oY rfl rfl rfl (op_leq (Ev.t 152 (bI .i64 r33.N)) (Ev.t 155 (bI .i64 y15.2.2.1)) rfl)) (.c (oP rfl rfl (op_pickF (Ev.t 147 (bB false)) (Ev.t 156 (bB (decide (r33.N ≤ y15.2.2.1)))) rfl)) .nil)))))))))))))))) follows rfl rfl rfl ⟨⟨rfl, trivial⟩, trivial, ⟨rfl, trivial⟩, trivial, ⟨rfl, rfl, trivial⟩, trivial, ⟨rfl, trivial⟩, trivial, ⟨rfl, trivial⟩, trivial, ⟨rfl, trivial⟩, trivial, ⟨rfl, rfl, trivial⟩, trivial, ⟨rfl, rfl, trivial⟩, trivial, ⟨rfl, rfl, trivial⟩, ⟨⟨rfl, rfl⟩, trivial⟩, ⟨rfl, rfl, rfl, trivial⟩, trivial, ⟨rfl, rfl, trivial⟩, trivial, ⟨rfl, rfl, trivial⟩, trivial, ⟨rfl, rfl, trivial⟩, trivial, ⟨rfl, rfl, trivial⟩, ⟨⟨rfl, rfl⟩, trivial⟩, ⟨rfl, rfl, rfl, trivial⟩, trivial, ⟨rfl, rfl, trivial⟩, trivial, trivial⟩ ⟨rfl, rfl, rfl, rfl, rfl, rfl, rfl, rfl, rfl, trivial⟩ ⟨rfl, rfl, rfl, rfl, trivial⟩ (by simp only [wellId, List.all_cons, List.all_nil, HE.ids, ids_dat]; rfl) ?_
          exact G.arr (J30 (decide (r33.N ≤ y15.2.2.1)) hF) ⟨rfl, rfl, rfl, rfl, rfl, rfl, rfl, rfl, rfl, trivial⟩ ⟨rfl, rfl, rfl, rfl, trivial⟩ (by simp only [wellId, List.all_cons, List.all_nil, HE.ids, ids_dat]; rfl)
      refine ifS hF (fun hc35 hF => ?_) (fun hc35 hF => ?_)
      · refine G.cond rfl (fun _ => ?_) (fun hx => by rw [hc35] at hx; cases hx)
        refine G.seq ?_
        refine G.region ?_
        refine G.op1 (op_fieldP (off' := 0) Try.underlying30 rfl ti3 (by decide) rfl (Ev.t 8 (.ptr 1008 0)) rfl) rfl ⟨rfl, trivial⟩ trivial ?_
        refine G.op3 (op_store1 (cs' := [bI .i64 1, bI .i64 (IntKind.wrap .i64 (BitVec.ofInt (IntKind.bits .i64) x11.Client &&& BitVec.ofInt (IntKind.bits .i64) 3).toNat), bS x13, bI .i64 0, bI .i64 0, .g (.d (.sl 3 (List.map encApi_Dep ([] : (List Api_Dep)))))]) (c := bI .i64 1) trivial ti3 rfl rfl (Ev.t 46 (.ptr 1008 0)) (Ev.c _ rfl)) rfl ⟨rfl, trivial⟩ ⟨rfl, trivial⟩ ?_
        refine G.endOps ?_
        refine G.seq ?_
        refine G.seq ?_
        refine G.region ?_
        refine G.op1 (op_assign (Ev.c _ rfl) rfl) rfl trivial trivial ?_
        refine G.endOps ?_
        refine G.joinC (T := Int) (fun y36 => ⟨[(0, .one (.g (.d (.sl 4 (List.map encLaw20_Act l_0))))), (3, .one (.ptr 1003 0)), (4, .one (.own 2004 (List.map encApi_Event v3.2.2))), (5, .one (.ptr 1005 0)), (6, oI v3.1), (7, oI (IntKind.wrap .i64 (BitVec.ofInt (IntKind.bits .i64) x11.Client &&& BitVec.ofInt (IntKind.bits .i64) 3).toNat)), (8, .one (.ptr 1008 0)), (9, .one (.g (.d (.sl 3 (List.map encApi_Dep ([] : (List Api_Dep)))))))], [(1003, some (.blk 35 (dat (List.flatMap encS ([(ByteArray.mk #[97]), (ByteArray.mk #[98]), (ByteArray.mk #[99]), (ByteArray.mk #[100])]))))), (1005, some (.blk 58 (dat (List.flatMap encL_encApi_Dep v3.2.1)))), (1008, some (.blk 30 [bI .i64 1, bI .i64 (IntKind.wrap .i64 (BitVec.ofInt (IntKind.bits .i64) x11.Client &&& BitVec.ofInt (IntKind.bits .i64) 3).toNat), bS x13, bI .i64 y36, bI .i64 0, .g (.d (.sl 3 (List.map encApi_Dep ([] : (List Api_Dep)))))])), (2004, some (.row 30 6 (List.map encApi_Event v3.2.2) true))]⟩) (fun y36 => law20_made_k8 l_0 again5 v3 x11 x13 y36 = some r) (fun y36 hF => ?_) (fun J37 => ?_)
        · unfold law20_made_k8 at hF
          refine G.seq ?_
          refine G.region ?_
          refine G.op1 (op_fieldP (off' := 3) Try.underlying30 rfl ti27 (by decide) rfl (Ev.t 8 (.ptr 1008 0)) rfl) rfl ⟨rfl, trivial⟩ trivial ?_
          refine G.op1 (op_fieldP (off' := 3) Try.underlying27 rfl ti3 (by decide) rfl (Ev.t 69 (.ptr 1008 3)) rfl) rfl ⟨rfl, trivial⟩ trivial ?_
          refine G.op1 (op_load1P (c := bI .i64 y36) Try.underlying3 rfl rfl (Ev.t 70 (.ptr 1008 3)) rfl) rfl ⟨rfl, trivial⟩ ⟨rfl, trivial⟩ ?_
          refine G.op1 (op_add (Ev.t 71 (bI .i64 y36)) (Ev.c _ rfl) rfl) rfl ⟨rfl, trivial⟩ trivial ?_
          refine G.op1 (op_move (Ev.t 6 (bI .i64 v3.1)) rfl) rfl ⟨rfl, trivial⟩ trivial ?_
          refine G.op1 (op_add (Ev.t 72 (bI .i64 (IntKind.wrap .i64 (y36 + 1)))) (Ev.t 73 (bI .i64 v3.1)) rfl) rfl ⟨rfl, rfl, trivial⟩ trivial ?_
          refine G.op1 (op_fieldP (off' := 3) Try.underlying30 rfl ti27 (by decide) rfl (Ev.t 8 (.ptr 1008 0)) rfl) rfl ⟨rfl, trivial⟩ trivial ?_
          refine G.op1 (op_fieldP (off' := 3) Try.underlying27 rfl ti3 (by decide) rfl (Ev.t 75 (.ptr 1008 3)) rfl) rfl ⟨rfl, trivial⟩ trivial ?_
          refine G.op3 (op_store1 (cs' := [bI .i64 1, bI .i64 (IntKind.wrap .i64 (BitVec.ofInt (IntKind.bits .i64) x11.Client &&& BitVec.ofInt (IntKind.bits .i64) 3).toNat), bS x13, bI .i64 (IntKind.wrap .i64 ((IntKind.wrap .i64 (y36 + 1)) + v3.1)), bI .i64 0, .g (.d (.sl 3 (List.map encApi_Dep ([] : (List Api_Dep)))))]) (c := bI .i64 (IntKind.wrap .i64 ((IntKind.wrap .i64 (y36 + 1)) + v3.1))) trivial ti3 rfl rfl (Ev.t 76 (.ptr 1008 3)) (Ev.t 74 (bI .i64 (IntKind.wrap .i64 ((IntKind.wrap .i64 (y36 + 1)) + v3.1))))) rfl ⟨rfl, rfl, trivial⟩ ⟨rfl, trivial⟩ ?_
          refine G.endOps ?_
          refine G.region ?_
          refine G.op1 (op_move (Ev.t 7 (bI .i64 (IntKind.wrap .i64 (BitVec.ofInt (IntKind.bits .i64) x11.Client &&& BitVec.ofInt (IntKind.bits .i64) 3).toNat))) rfl) rfl ⟨rfl, trivial⟩ trivial ?_
          refine G.op1 (op_fieldP (off' := 3) Try.underlying30 rfl ti27 (by decide) rfl (Ev.t 8 (.ptr 1008 0)) rfl) rfl ⟨rfl, trivial⟩ trivial ?_
          refine G.op1 (op_fieldP (off' := 4) Try.underlying27 rfl ti3 (by decide) rfl (Ev.t 78 (.ptr 1008 3)) rfl) rfl ⟨rfl, trivial⟩ trivial ?_
          refine G.op3 (op_store1 (cs' := [bI .i64 1, bI .i64 (IntKind.wrap .i64 (BitVec.ofInt (IntKind.bits .i64) x11.Client &&& BitVec.ofInt (IntKind.bits .i64) 3).toNat), bS x13, bI .i64 (IntKind.wrap .i64 ((IntKind.wrap .i64 (y36 + 1)) + v3.1)), bI .i64 (IntKind.wrap .i64 (BitVec.ofInt (IntKind.bits .i64) x11.Client &&& BitVec.ofInt (IntKind.bits .i64) 3).toNat), .g (.d (.sl 3 (List.map encApi_Dep ([] : (List Api_Dep)))))]) (c := bI .i64 (IntKind.wrap .i64 (BitVec.ofInt (IntKind.bits .i64) x11.Client &&& BitVec.ofInt (IntKind.bits .i64) 3).toNat)) trivial ti3 rfl rfl (Ev.t 79 (.ptr 1008 4)) (Ev.t 77 (bI .i64 (IntKind.wrap .i64 (BitVec.ofInt (IntKind.bits .i64) x11.Client &&& BitVec.ofInt (IntKind.bits .i64) 3).toNat)))) rfl ⟨rfl, rfl, trivial⟩ ⟨rfl, trivial⟩ ?_
          refine G.endOps ?_
          exact G.arr (J34 (([] : (List Api_Dep)), 1, IntKind.wrap .i64 ((IntKind.wrap .i64 (y36 + 1)) + v3.1), IntKind.wrap .i64 (BitVec.ofInt (IntKind.bits .i64) x11.Client &&& BitVec.ofInt (IntKind.bits .i64) 3).toNat) hF) ⟨rfl, rfl, rfl, rfl, rfl, rfl, rfl, rfl, trivial⟩ ⟨rfl, rfl, rfl, rfl, trivial⟩ (by simp only [wellId, List.all_cons, List.all_nil, HE.ids, ids_dat]; rfl)
        refine G.block ?_
        refine G.keep (sl' := [(0, .one (.g (.d (.sl 4 (List.map encLaw20_Act l_0))))), (3, .one (.ptr 1003 0)), (4, .one (.own 2004 (List.map encApi_Event v3.2.2))), (5, .one (.ptr 1005 0)), (6, oI v3.1), (7, oI (IntKind.wrap .i64 (BitVec.ofInt (IntKind.bits .i64) x11.Client &&& BitVec.ofInt (IntKind.bits .i64) 3).toNat)), (8, .one (.ptr 1008 0)), (9, .one (.g (.d (.sl 3 (List.map encApi_Dep ([] : (List Api_Dep))))))), (10, oI 0)]) (hp' := [(1003, some (.blk 35 (dat (List.flatMap encS ([(ByteArray.mk #[97]), (ByteArray.mk #[98]), (ByteArray.mk #[99]), (ByteArray.mk #[100])]))))), (1005, some (.blk 58 (dat (List.flatMap encL_encApi_Dep v3.2.1)))), (1008, some (.blk 30 [bI .i64 1, bI .i64 (IntKind.wrap .i64 (BitVec.ofInt (IntKind.bits .i64) x11.Client &&& BitVec.ofInt (IntKind.bits .i64) 3).toNat), bS x13, bI .i64 0, bI .i64 0, .g (.d (.sl 3 (List.map encApi_Dep ([] : (List Api_Dep)))))])), (2004, some (.row 30 6 (List.map encApi_Event v3.2.2) true))]) ⟨rfl, rfl, rfl, rfl, rfl, rfl, rfl, rfl, rfl, trivial⟩ ⟨rfl, rfl, rfl, rfl, trivial⟩ (by simp only [wellId, List.all_cons, List.all_nil, HE.ids, ids_dat]; rfl) ?_
        refine G.loopF (fun (v38 : Int × Int) => ⟨[(0, .one (.g (.d (.sl 4 (List.map encLaw20_Act l_0))))), (3, .one (.ptr 1003 0)), (4, .one (.own 2004 (List.map encApi_Event v3.2.2))), (5, .one (.ptr 1005 0)), (6, oI v3.1), (7, oI (IntKind.wrap .i64 (BitVec.ofInt (IntKind.bits .i64) x11.Client &&& BitVec.ofInt (IntKind.bits .i64) 3).toNat)), (8, .one (.ptr 1008 0)), (9, .one (.g (.d (.sl 3 (List.map encApi_Dep ([] : (List Api_Dep))))))), (10, oI v38.1)], [(1003, some (.blk 35 (dat (List.flatMap encS ([(ByteArray.mk #[97]), (ByteArray.mk #[98]), (ByteArray.mk #[99]), (ByteArray.mk #[100])]))))), (1005, some (.blk 58 (dat (List.flatMap encL_encApi_Dep v3.2.1)))), (1008, some (.blk 30 [bI .i64 1, bI .i64 (IntKind.wrap .i64 (BitVec.ofInt (IntKind.bits .i64) x11.Client &&& BitVec.ofInt (IntKind.bits .i64) 3).toNat), bS x13, bI .i64 v38.2, bI .i64 0, .g (.d (.sl 3 (List.map encApi_Dep ([] : (List Api_Dep)))))])), (2004, some (.row 30 6 (List.map encApi_Event v3.2.2) true))]⟩) hF rfl (fun K41 again40 v38 J39 hF => ?_)
        unfold law20_made_l9 at hF
        refine G.seq ?_
        refine G.seq ?_
        refine G.region ?_
        refine G.op1 (op_move (Ev.t 10 (bI .i64 v38.1)) rfl) rfl ⟨rfl, trivial⟩ trivial ?_
        refine G.op1 (op_move (Ev.t 7 (bI .i64 (IntKind.wrap .i64 (BitVec.ofInt (IntKind.bits .i64) x11.Client &&& BitVec.ofInt (IntKind.bits .i64) 3).toNat))) rfl) rfl ⟨rfl, trivial⟩ trivial ?_
        obtain ⟨x42, hx42, hF⟩ := bindS hF
        refine G.op1 (op_indexA Try.underlying58 ti28 (aidx_ok hx42).1 (aidx_ok hx42).2.1 (Ev.t 5 (.ptr 1005 0)) (Ev.t 48 (bI .i64 (IntKind.wrap .i64 (BitVec.ofInt (IntKind.bits .i64) x11.Client &&& BitVec.ofInt (IntKind.bits .i64) 3).toNat))) rfl) rfl ⟨rfl, rfl, trivial⟩ trivial ?_
        refine G.op1 (op_load1P (c := .g (.d (.sl 3 (List.map encApi_Dep x42)))) Try.underlying28 rfl (arr_at1 hx42 (fun _ => rfl) rfl) (Ev.t 49 (.ptr 1005 (Int.toNat (IntKind.wrap .i64 (BitVec.ofInt (IntKind.bits .i64) x11.Client &&& BitVec.ofInt (IntKind.bits .i64) 3).toNat) * 1))) rfl) rfl ⟨rfl, trivial⟩ ⟨rfl, trivial⟩ ?_
        refine G.op1 (OpL.cast (op_lenD Try.underlying28 (Ev.t 50 (.g (.d (.sl 3 (List.map encApi_Dep x42))))) rfl) (by rw [List.length_map])) rfl ⟨rfl, trivial⟩ trivial ?_
        refine G.op1 (op_lss (Ev.t 47 (bI .i64 v38.1)) (Ev.t 51 (bI .i64 (x42.length : Int))) rfl) rfl ⟨rfl, rfl, trivial⟩ trivial ?_
        refine G.endOps ?_
        refine ifS hF (fun hc43 hF => ?_) (fun hc43 hF => ?_)
        · refine G.cond rfl (fun _ => ?_) (fun hx => by rw [hc43] at hx; cases hx)
          refine G.skip ?_
          refine G.seq ?_
          refine G.block ?_
          obtain ⟨x44, hx44, hF⟩ := bindS hF
          obtain ⟨x45, hx45, hF⟩ := bindS hF
          refine G.drawnI (deps := [[], [0], [0, 1], [], [3], [3, 4], [], [3, 4, 5, 6], [3, 4, 5, 6, 7], [3, 4, 5, 6, 7, 8], [3, 4, 5, 6, 7, 8, 9], [0, 1, 2, 3, 4, 5, 6, 7, 8, 9, 10], [0, 1, 2, 3, 4, 5, 6, 7, 8, 9, 10, 11], [0, 1, 2, 3, 4, 5, 6, 7, 8, 9, 10, 11, 12], [0, 1, 2, 3, 4, 5, 6, 7, 8, 9, 10, 11, 12, 13]]) (sl' := [(0, .one (.g (.d (.sl 4 (List.map encLaw20_Act l_0))))), (3, .one (.ptr 1003 0)), (4, .one (.own 2004 (List.map encApi_Event v3.2.2))), (5, .one (.ptr 1005 0)), (6, oI v3.1), (7, oI (IntKind.wrap .i64 (BitVec.ofInt (IntKind.bits .i64) x11.Client &&& BitVec.ofInt (IntKind.bits .i64) 3).toNat)), (8, .one (.ptr 1008 0)), (9, .one (.g (.d (.sl 3 (List.map encApi_Dep ([] : (List Api_Dep))))))), (10, oI v38.1)]) (hp' := [(1003, some (.blk 35 (dat (List.flatMap encS ([(ByteArray.mk #[97]), (ByteArray.mk #[98]), (ByteArray.mk #[99]), (ByteArray.mk #[100])]))))), (1005, some (.blk 58 (dat (List.flatMap encL_encApi_Dep v3.2.1)))), (1008, some (.blk 30 [bI .i64 1, bI .i64 (IntKind.wrap .i64 (BitVec.ofInt (IntKind.bits .i64) x11.Client &&& BitVec.ofInt (IntKind.bits .i64) 3).toNat), bS x13, bI .i64 (if x45.Stamp.N > v38.2 then x45.Stamp.N else v38.2), bI .i64 0, .g (.d (.sl 3 (List.map encApi_Dep ([] : (List Api_Dep)))))])), (2004, some (.row 30 6 (List.map encApi_Event v3.2.2) true))]) (.c (oP rfl rfl (op_fieldP (off' := 3) Try.underlying30 rfl ti27 (by decide) rfl (Ev.t 8 (.ptr 1008 0)) rfl)) (.c (oP rfl rfl (op_fieldP (off' := 3) Try.underlying27 rfl ti3 (by decide) rfl (Ev.t 55 (.ptr 1008 3)) rfl)) (.c (oP rfl rfl (op_load1P (c := bI .i64 v38.2) Try.underlying3 rfl rfl (Ev.t 56 (.ptr 1008 3)) rfl)) (.c (oP rfl rfl (op_move (Ev.t 7 (bI .i64 (IntKind.wrap .i64 (BitVec.ofInt (IntKind.bits .i64) x11.Client &&& BitVec.ofInt (IntKind.bits .i64) 3).toNat))) rfl)) (.c (oP rfl rfl (op_indexA Try.underlying58 ti28 (aidx_ok hx44).1 (aidx_ok hx44).2.1 (Ev.t 5 (.ptr 1005 0)) (Ev.t 58 (bI .i64 (IntKind.wrap .i64 (BitVec.ofInt (IntKind.bits .i64) x11.Client &&& BitVec.ofInt (IntKind.bits .i64) 3).toNat))) rfl)) (.c (oP rfl rfl (op_load1P (c := .g (.d (.sl 3 (List.map encApi_Dep x44)))) Try.underlying28 rfl (arr_at1 hx44 (fun _ => rfl) rfl) (Ev.t 59 (.ptr 1005 (Int.toNat (IntKind.wrap .i64 (BitVec.ofInt (IntKind.bits .i64) x11.Client &&& BitVec.ofInt (IntKind.bits .i64) 3).toNat) * 1))) rfl)) (.c (oP rfl rfl (op_move (Ev.t 10 (bI .i64 v38.1)) rfl)) (.c (oP rfl rfl (op_index (cs := [vS x45.Key, vI x45.Stamp.N, vI x45.Stamp.Site]) Try.underlying28 ti52 (idx_ok hx45).1 (idx_get hx45 encApi_Dep) (Ev.t 60 (.g (.d (.sl 3 (List.map encApi_Dep x44))))) (Ev.t 61 (bI .i64 v38.1)) rfl)) (.c (oP rfl rfl (op_fieldE (cs' := [vI x45.Stamp.N, vI x45.Stamp.Site]) Try.underlying52 rfl ti27 (by decide) rfl (Ev.t 62 (.ep [vS x45.Key, vI x45.Stamp.N, vI x45.Stamp.Site])) rfl)) (.c (oP rfl rfl (op_fieldE (cs' := [vI x45.Stamp.N, vI x45.Stamp.Site]) Try.underlying27 rfl ti3 (by decide) rfl (Ev.t 63 (.ep [vI x45.Stamp.N, vI x45.Stamp.Site])) rfl)) (.c (oP rfl rfl (op_load1E (c := vI x45.Stamp.N) Try.underlying3 rfl rfl (Ev.t 64 (.ep [vI x45.Stamp.N, vI x45.Stamp.Site])) rfl)) (.c (oP rfl rfl (op_max (Ev.t 57 (bI .i64 v38.2)) (Ev.t 65 (bI .i64 x45.Stamp.N)) rfl)) (.c (oP rfl rfl (op_fieldP (off' := 3) Try.underlying30 rfl ti27 (by decide) rfl (Ev.t 8 (.ptr 1008 0)) rfl)) (.c (oP rfl rfl (op_fieldP (off' := 3) Try.underlying27 rfl ti3 (by decide) rfl (Ev.t 67 (.ptr 1008 3)) rfl)) (.c (oP rfl rfl (op_store1 (cs' := [bI .i64 1, bI .i64 (IntKind.wrap .i64 (BitVec.ofInt (IntKind.bits .i64) x11.Client &&& BitVec.ofInt (IntKind.bits .i64) 3).toNat), bS x13, bI .i64 (if x45.Stamp.N > v38.2 then x45.Stamp.N else v38.2), bI .i64 0, .g (.d (.sl 3 (List.map encApi_Dep ([] : (List Api_Dep)))))]) (c := bI .i64 (if x45.Stamp.N > v38.2 then x45.Stamp.N else v38.2)) trivial ti3 rfl rfl (Ev.t 68 (.ptr 1008 3)) (Ev.t 66 (bI .i64 (if x45.Stamp.N > v38.2 then x45.Stamp.N else v38.2))))) .nil))))))))))))))) follows rfl rfl rfl ⟨⟨rfl, trivial⟩, trivial, ⟨rfl, trivial⟩, trivial, ⟨rfl, trivial⟩, ⟨⟨rfl, rfl⟩, trivial⟩, ⟨rfl, trivial⟩, trivial, ⟨rfl, rfl, trivial⟩, trivial, ⟨rfl, trivial⟩, ⟨⟨rfl, rfl⟩, trivial⟩, ⟨rfl, trivial⟩, trivial, ⟨rfl, rfl, trivial⟩, trivial, ⟨rfl, trivial⟩, trivial, ⟨rfl, trivial⟩, trivial, ⟨rfl, trivial⟩, trivial, ⟨rfl, rfl, trivial⟩, trivial, ⟨rfl, trivial⟩, trivial, ⟨rfl, trivial⟩, trivial, ⟨rfl, rfl, trivial⟩, ⟨⟨rfl, rfl⟩, trivial⟩, trivial⟩ ⟨rfl, rfl, rfl, rfl, rfl, rfl, rfl, rfl, rfl, trivial⟩ ⟨rfl, rfl, rfl, rfl, trivial⟩ (by simp only [wellId, List.all_cons, List.all_nil, HE.ids, ids_dat]; rfl) ?_
          refine G.endBlock ?_
          refine G.region ?_
          refine G.op1 (op_move (Ev.t 10 (bI .i64 v38.1)) rfl) rfl ⟨rfl, trivial⟩ trivial ?_
          refine G.op1 (op_add (Ev.t 53 (bI .i64 v38.1)) (Ev.c _ rfl) rfl) rfl ⟨rfl, trivial⟩ trivial ?_
          refine G.op1 (op_assign (Ev.t 54 (bI .i64 (IntKind.wrap .i64 (v38.1 + 1)))) rfl) rfl ⟨rfl, trivial⟩ trivial ?_
          refine G.endOps ?_
          exact G.arr (J39 (IntKind.wrap .i64 (v38.1 + 1), if x45.Stamp.N > v38.2 then x45.Stamp.N else v38.2) hF) ⟨rfl, rfl, rfl, rfl, rfl, rfl, rfl, rfl, rfl, trivial⟩ ⟨rfl, rfl, rfl, rfl, trivial⟩ (by simp only [wellId, List.all_cons, List.all_nil, HE.ids, ids_dat]; rfl)
        · refine G.cond rfl (fun hx => by rw [hc43] at hx; cases hx) (fun _ => ?_)
          refine G.exit ?_
          refine GX.c ?_
          refine GX.q ?_
          refine GX.bYes ?_
          exact G.arr (J37 v38.2 hF) ⟨rfl, rfl, rfl, rfl, rfl, rfl, rfl, rfl, trivial⟩ ⟨rfl, rfl, rfl, rfl, trivial⟩ (by simp only [wellId, List.all_cons, List.all_nil, HE.ids, ids_dat]; rfl)
      · refine G.cond rfl (fun hx => by rw [hc35] at hx; cases hx) (fun _ => ?_)
        refine G.seq ?_
        obtain ⟨x46, hx46, hF⟩ := bindS hF
        obtain ⟨r47, hr47, hF⟩ := bindS hF
        refine G.drawnI (deps := [[], [0], [0, 1], [], [3], [0, 1, 2, 3, 4], [], [0, 1, 2, 3, 4, 5, 6]]) (sl' := [(0, .one (.g (.d (.sl 4 (List.map encLaw20_Act l_0))))), (3, .one (.ptr 1003 0)), (4, .one (.own 2004 (List.map encApi_Event v3.2.2))), (5, .one (.ptr 1005 0)), (6, oI v3.1), (7, oI (IntKind.wrap .i64 (BitVec.ofInt (IntKind.bits .i64) x11.Client &&& BitVec.ofInt (IntKind.bits .i64) 3).toNat)), (8, .one (.ptr 1008 0)), (9, .one (.g (.d (.sl 3 (List.map encApi_Dep ([] : (List Api_Dep))))))), (11, .one (.ptr 1011 0))]) (hp' := [(1003, some (.blk 35 (dat (List.flatMap encS ([(ByteArray.mk #[97]), (ByteArray.mk #[98]), (ByteArray.mk #[99]), (ByteArray.mk #[100])]))))), (1005, some (.blk 58 (dat (List.flatMap encL_encApi_Dep v3.2.1)))), (1008, some (.blk 30 [bI .i64 2, bI .i64 (IntKind.wrap .i64 (BitVec.ofInt (IntKind.bits .i64) x11.Client &&& BitVec.ofInt (IntKind.bits .i64) 3).toNat), bS x13, bI .i64 0, bI .i64 0, .g (.d (.sl 3 (List.map encApi_Dep ([] : (List Api_Dep)))))])), (1011, some (.blk 27 [bI .i64 r47.N, bI .i64 r47.Site])), (2004, some (.row 30 6 (List.map encApi_Event v3.2.2) true))]) (.c (oP rfl rfl (op_move (Ev.t 7 (bI .i64 (IntKind.wrap .i64 (BitVec.ofInt (IntKind.bits .i64) x11.Client &&& BitVec.ofInt (IntKind.bits .i64) 3).toNat))) rfl)) (.c (oP rfl rfl (op_indexA Try.underlying58 ti28 (aidx_ok hx46).1 (aidx_ok hx46).2.1 (Ev.t 5 (.ptr 1005 0)) (Ev.t 80 (bI .i64 (IntKind.wrap .i64 (BitVec.ofInt (IntKind.bits .i64) x11.Client &&& BitVec.ofInt (IntKind.bits .i64) 3).toNat))) rfl)) (.c (oP rfl rfl (op_load1P (c := .g (.d (.sl 3 (List.map encApi_Dep x46)))) Try.underlying28 rfl (arr_at1 hx46 (fun _ => rfl) rfl) (Ev.t 81 (.ptr 1005 (Int.toNat (IntKind.wrap .i64 (BitVec.ofInt (IntKind.bits .i64) x11.Client &&& BitVec.ofInt (IntKind.bits .i64) 3).toNat) * 1))) rfl)) (.c (oP rfl rfl (op_fieldP (off' := 2) Try.underlying30 rfl ti9 (by decide) rfl (Ev.t 8 (.ptr 1008 0)) rfl)) (.c (oP rfl rfl (op_load1P (c := bS x13) Try.underlying9 rfl rfl (Ev.t 83 (.ptr 1008 2)) rfl)) (.c (oP rfl rfl (op_callQ (sv := .one (.g (.agg [vI r47.N, vI r47.Site]))) cf12 (ct_ref04_Get x46 x13 r47 hr47) rfl rfl (EvQL.cons (EvQ.g (Ev.t 82 (.g (.d (.sl 3 (List.map encApi_Dep x46)))))) (EvQL.cons (EvQ.g (Ev.t 84 (bS x13))) EvQL.nil)) rfl)) (.c (oP rfl rfl (op_alloc (k := 1011) (cs := [bI .i64 0, bI .i64 0]) ti27 ⟨.v _ rfl, .v _ rfl, trivial⟩ rfl)) (.c (oP rfl rfl (op_storeA (cs' := [bI .i64 r47.N, bI .i64 r47.Site]) ti27 rfl rfl (Ev.t 11 (.ptr 1011 0)) (Ev.t 85 (.g (.agg [vI r47.N, vI r47.Site]))))) .nil)))))))) follows rfl rfl rfl ⟨⟨rfl, trivial⟩, trivial, ⟨rfl, rfl, trivial⟩, trivial, ⟨rfl, trivial⟩, ⟨⟨rfl, rfl⟩, trivial⟩, ⟨rfl, trivial⟩, trivial, ⟨rfl, trivial⟩, ⟨⟨rfl, rfl⟩, trivial⟩, ⟨rfl, rfl, trivial⟩, trivial, trivial, ⟨⟨rfl, rfl⟩, trivial⟩, ⟨rfl, rfl, trivial⟩, ⟨⟨rfl, rfl⟩, trivial⟩, trivial⟩ ⟨rfl, rfl, rfl, rfl, rfl, rfl, rfl, rfl, rfl, trivial⟩ ⟨rfl, rfl, rfl, rfl, rfl, trivial⟩ (by simp only [wellId, List.all_cons, List.all_nil, HE.ids, ids_dat]; rfl) ?_
        refine G.seq ?_
        refine G.region ?_
        refine G.op1 (op_assign (Ev.c _ rfl) rfl) rfl trivial trivial ?_
        refine G.endOps ?_
        refine G.seq ?_
        refine G.region ?_
        refine G.op1 (op_assign (Ev.c _ rfl) rfl) rfl trivial trivial ?_
        refine G.endOps ?_
        refine G.block ?_
        refine G.keep (sl' := [(0, .one (.g (.d (.sl 4 (List.map encLaw20_Act l_0))))), (3, .one (.ptr 1003 0)), (4, .one (.own 2004 (List.map encApi_Event v3.2.2))), (5, .one (.ptr 1005 0)), (6, oI v3.1), (7, oI (IntKind.wrap .i64 (BitVec.ofInt (IntKind.bits .i64) x11.Client &&& BitVec.ofInt (IntKind.bits .i64) 3).toNat)), (8, .one (.ptr 1008 0)), (9, .one (.g (.d (.sl 3 (List.map encApi_Dep ([] : (List Api_Dep))))))), (11, .one (.ptr 1011 0)), (12, oI 0), (13, oI 0)]) (hp' := [(1003, some (.blk 35 (dat (List.flatMap encS ([(ByteArray.mk #[97]), (ByteArray.mk #[98]), (ByteArray.mk #[99]), (ByteArray.mk #[100])]))))), (1005, some (.blk 58 (dat (List.flatMap encL_encApi_Dep v3.2.1)))), (1008, some (.blk 30 [bI .i64 2, bI .i64 (IntKind.wrap .i64 (BitVec.ofInt (IntKind.bits .i64) x11.Client &&& BitVec.ofInt (IntKind.bits .i64) 3).toNat), bS x13, bI .i64 0, bI .i64 0, .g (.d (.sl 3 (List.map encApi_Dep ([] : (List Api_Dep)))))])), (1011, some (.blk 27 [bI .i64 r47.N, bI .i64 r47.Site])), (2004, some (.row 30 6 (List.map encApi_Event v3.2.2) true))]) ⟨rfl, rfl, rfl, rfl, rfl, rfl, rfl, rfl, rfl, rfl, rfl, trivial⟩ ⟨rfl, rfl, rfl, rfl, rfl, trivial⟩ (by simp only [wellId, List.all_cons, List.all_nil, HE.ids, ids_dat]; rfl) ?_
        refine G.loopF (fun (v48 : (List Api_Dep) × Int × Int × Int × Int) => ⟨[(0, .one (.g (.d (.sl 4 (List.map encLaw20_Act l_0))))), (3, .one (.ptr 1003 0)), (4, .one (.own 2004 (List.map encApi_Event v3.2.2))), (5, .one (.ptr 1005 0)), (6, oI v3.1), (7, oI (IntKind.wrap .i64 (BitVec.ofInt (IntKind.bits .i64) x11.Client &&& BitVec.ofInt (IntKind.bits .i64) 3).toNat)), (8, .one (.ptr 1008 0)), (9, .one (.g (.d (.sl 3 (List.map encApi_Dep v48.1))))), (11, .one (.ptr 1011 0)), (12, oI v48.2.1), (13, oI v48.2.2.1)], [(1003, some (.blk 35 (dat (List.flatMap encS ([(ByteArray.mk #[97]), (ByteArray.mk #[98]), (ByteArray.mk #[99]), (ByteArray.mk #[100])]))))), (1005, some (.blk 58 (dat (List.flatMap encL_encApi_Dep v3.2.1)))), (1008, some (.blk 30 [bI .i64 2, bI .i64 (IntKind.wrap .i64 (BitVec.ofInt (IntKind.bits .i64) x11.Client &&& BitVec.ofInt (IntKind.bits .i64) 3).toNat), bS x13, bI .i64 v48.2.2.2.1, bI .i64 v48.2.2.2.2, .g (.d (.sl 3 (List.map encApi_Dep ([] : (List Api_Dep)))))])), (1011, some (.blk 27 [bI .i64 r47.N, bI .i64 r47.Site])), (2004, some (.row 30 6 (List.map encApi_Event v3.2.2) true))]⟩) hF rfl (fun K51 again50 v48 J49 hF => ?_)
        unfold law20_made_l10 at hF
        refine G.seq ?_
        refine G.seq ?_
        refine G.region ?_
        refine G.op1 (op_move (Ev.t 13 (bI .i64 v48.2.2.1)) rfl) rfl ⟨rfl, trivial⟩ trivial ?_
        refine G.op1 (op_move (Ev.t 4 (.own 2004 (List.map encApi_Event v3.2.2))) rfl) rfl ⟨rfl, trivial⟩ trivial ?_
        refine G.op1 (OpL.cast (op_lenO Try.underlying24 (Ev.t 87 (.own 2004 (List.map encApi_Event v3.2.2))) rfl) (by rw [List.length_map])) rfl ⟨rfl, trivial⟩ ⟨rfl, trivial⟩ ?_
        refine G.op1 (op_lss (Ev.t 86 (bI .i64 v48.2.2.1)) (Ev.t 88 (bI .i64 (v3.2.2.length : Int))) rfl) rfl ⟨rfl, rfl, trivial⟩ trivial ?_
        refine G.endOps ?_
        refine ifS hF (fun hc52 hF => ?_) (fun hc52 hF => ?_)
        · refine G.cond rfl (fun _ => ?_) (fun hx => by rw [hc52] at hx; cases hx)
          refine G.skip ?_
          refine G.seq ?_
          refine G.block ?_
          refine G.seq ?_
          refine G.joinC (T := Bool) (fun y53 => ⟨[(0, .one (.g (.d (.sl 4 (List.map encLaw20_Act l_0))))), (3, .one (.ptr 1003 0)), (4, .one (.own 2004 (List.map encApi_Event v3.2.2))), (5, .one (.ptr 1005 0)), (6, oI v3.1), (7, oI (IntKind.wrap .i64 (BitVec.ofInt (IntKind.bits .i64) x11.Client &&& BitVec.ofInt (IntKind.bits .i64) 3).toNat)), (8, .one (.ptr 1008 0)), (9, .one (.g (.d (.sl 3 (List.map encApi_Dep v48.1))))), (11, .one (.ptr 1011 0)), (12, oI v48.2.1), (13, oI v48.2.2.1), (117, oB y53)], [(1003, some (.blk 35 (dat (List.flatMap encS ([(ByteArray.mk #[97]), (ByteArray.mk #[98]), (ByteArray.mk #[99]), (ByteArray.mk #[100])]))))), (1005, some (.blk 58 (dat (List.flatMap encL_encApi_Dep v3.2.1)))), (1008, some (.blk 30 [bI .i64 2, bI .i64 (IntKind.wrap .i64 (BitVec.ofInt (IntKind.bits .i64) x11.Client &&& BitVec.ofInt (IntKind.bits .i64) 3).toNat), bS x13, bI .i64 v48.2.2.2.1, bI .i64 v48.2.2.2.2, .g (.d (.sl 3 (List.map encApi_Dep ([] : (List Api_Dep)))))])), (1011, some (.blk 27 [bI .i64 r47.N, bI .i64 r47.Site])), (2004, some (.row 30 6 (List.map encApi_Event v3.2.2) true))]⟩) (fun y53 => law20_made_k11 l_0 v3 again50 v48 y53 = some r) (fun y53 hF => ?_) (fun J62 => ?_)
          · unfold law20_made_k11 at hF
            refine ifS hF (fun hc54 hF => ?_) (fun hc54 hF => ?_)
            · refine G.cond rfl (fun _ => ?_) (fun hx => by rw [hc54] at hx; cases hx)
              refine G.seq ?_
              refine G.region ?_
              refine G.op1 (op_move (Ev.t 12 (bI .i64 v48.2.1)) rfl) rfl ⟨rfl, trivial⟩ trivial ?_
              refine G.op1 (op_add (Ev.t 118 (bI .i64 v48.2.1)) (Ev.c _ rfl) rfl) rfl ⟨rfl, trivial⟩ trivial ?_
              refine G.op1 (op_assign (Ev.t 119 (bI .i64 (IntKind.wrap .i64 (v48.2.1 + 1)))) rfl) rfl ⟨rfl, trivial⟩ trivial ?_
              refine G.endOps ?_
              refine G.seq ?_
              refine G.joinC (T := Bool) (fun y55 => ⟨[(0, .one (.g (.d (.sl 4 (List.map encLaw20_Act l_0))))), (3, .one (.ptr 1003 0)), (4, .one (.own 2004 (List.map encApi_Event v3.2.2))), (5, .one (.ptr 1005 0)), (6, oI v3.1), (7, oI (IntKind.wrap .i64 (BitVec.ofInt (IntKind.bits .i64) x11.Client &&& BitVec.ofInt (IntKind.bits .i64) 3).toNat)), (8, .one (.ptr 1008 0)), (9, .one (.g (.d (.sl 3 (List.map encApi_Dep v48.1))))), (11, .one (.ptr 1011 0)), (12, oI (IntKind.wrap .i64 (v48.2.1 + 1))), (13, oI v48.2.2.1), (130, oB y55)], [(1003, some (.blk 35 (dat (List.flatMap encS ([(ByteArray.mk #[97]), (ByteArray.mk #[98]), (ByteArray.mk #[99]), (ByteArray.mk #[100])]))))), (1005, some (.blk 58 (dat (List.flatMap encL_encApi_Dep v3.2.1)))), (1008, some (.blk 30 [bI .i64 2, bI .i64 (IntKind.wrap .i64 (BitVec.ofInt (IntKind.bits .i64) x11.Client &&& BitVec.ofInt (IntKind.bits .i64) 3).toNat), bS x13, bI .i64 v48.2.2.2.1, bI .i64 v48.2.2.2.2, .g (.d (.sl 3 (List.map encApi_Dep ([] : (List Api_Dep)))))])), (1011, some (.blk 27 [bI .i64 r47.N, bI .i64 r47.Site])), (2004, some (.row 30 6 (List.map encApi_Event v3.2.2) true))]⟩) (fun y55 => law20_made_k12 v3 again50 v48 y55 = some r) (fun y55 hF => ?_) (fun J59 => ?_)
              · unfold law20_made_k12 at hF
                refine ifS hF (fun hc56 hF => ?_) (fun hc56 hF => ?_)
                · refine G.cond rfl (fun _ => ?_) (fun hx => by rw [hc56] at hx; cases hx)
                  refine G.seq ?_
                  refine G.region ?_
                  refine G.op1 (op_move (Ev.t 4 (.own 2004 (List.map encApi_Event v3.2.2))) rfl) rfl ⟨rfl, trivial⟩ trivial ?_
                  refine G.op1 (op_move (Ev.t 13 (bI .i64 v48.2.2.1)) rfl) rfl ⟨rfl, trivial⟩ trivial ?_
                  obtain ⟨x57, hx57, hF⟩ := bindS hF
                  refine G.op1 (op_indexR (cs := [vI x57.Kind, vI x57.Client, vS x57.Key, vI x57.Stamp.N, vI x57.Stamp.Site, .sl 3 (List.map encApi_Dep x57.Seen)]) Try.underlying24 ti30 (idx_ok hx57).1 (idx_get hx57 encApi_Event) (Ev.t 131 (.own 2004 (List.map encApi_Event v3.2.2))) (Ev.t 132 (bI .i64 v48.2.2.1)) rfl) rfl ⟨rfl, rfl, trivial⟩ ⟨rfl, trivial⟩ ?_
                  refine G.op1 (op_fieldR (off' := Int.toNat v48.2.2.1 * 6 + 3) Try.underlying30 rfl ti27 (by decide) rfl (Ev.t 133 (.rp 2004 (List.map encApi_Event v3.2.2) (Int.toNat v48.2.2.1 * 6 + 0))) rfl) rfl ⟨rfl, trivial⟩ trivial ?_
                  refine G.op1 (op_loadRA (i := Int.toNat v48.2.2.1) (f := 3) (size := 6) (cs := [vI x57.Kind, vI x57.Client, vS x57.Key, vI x57.Stamp.N, vI x57.Stamp.Site, .sl 3 (List.map encApi_Dep x57.Seen)]) (ds := [vI x57.Stamp.N, vI x57.Stamp.Site]) Try.underlying27 rfl ti27 (idx_get hx57 encApi_Event) rfl (Ev.t 134 (.rp 2004 (List.map encApi_Event v3.2.2) (Int.toNat v48.2.2.1 * 6 + 3))) rfl) rfl ⟨rfl, trivial⟩ ⟨rfl, trivial⟩ ?_
                  refine G.op1 (op_fieldP (off' := 3) Try.underlying30 rfl ti27 (by decide) rfl (Ev.t 8 (.ptr 1008 0)) rfl) rfl ⟨rfl, trivial⟩ trivial ?_
                  refine G.op3 (op_storeA (cs' := [bI .i64 2, bI .i64 (IntKind.wrap .i64 (BitVec.ofInt (IntKind.bits .i64) x11.Client &&& BitVec.ofInt (IntKind.bits .i64) 3).toNat), bS x13, bI .i64 x57.Stamp.N, bI .i64 x57.Stamp.Site, .g (.d (.sl 3 (List.map encApi_Dep ([] : (List Api_Dep)))))]) ti27 rfl rfl (Ev.t 136 (.ptr 1008 3)) (Ev.t 135 (.g (.agg [vI x57.Stamp.N, vI x57.Stamp.Site])))) rfl ⟨rfl, rfl, trivial⟩ ⟨rfl, trivial⟩ ?_
                  refine G.endOps ?_
                  refine G.region ?_
                  refine G.op1 (op_move (Ev.t 4 (.own 2004 (List.map encApi_Event v3.2.2))) rfl) rfl ⟨rfl, trivial⟩ trivial ?_
                  refine G.op1 (op_move (Ev.t 13 (bI .i64 v48.2.2.1)) rfl) rfl ⟨rfl, trivial⟩ trivial ?_
                  obtain ⟨x58, hx58, hF⟩ := bindS hF
                  refine G.op1 (op_indexR (cs := [vI x58.Kind, vI x58.Client, vS x58.Key, vI x58.Stamp.N, vI x58.Stamp.Site, .sl 3 (List.map encApi_Dep x58.Seen)]) Try.underlying24 ti30 (idx_ok hx58).1 (idx_get hx58 encApi_Event) (Ev.t 137 (.own 2004 (List.map encApi_Event v3.2.2))) (Ev.t 138 (bI .i64 v48.2.2.1)) rfl) rfl ⟨rfl, rfl, trivial⟩ ⟨rfl, trivial⟩ ?_
                  refine G.op1 (op_fieldR (off' := Int.toNat v48.2.2.1 * 6 + 5) Try.underlying30 rfl ti28 (by decide) rfl (Ev.t 139 (.rp 2004 (List.map encApi_Event v3.2.2) (Int.toNat v48.2.2.1 * 6 + 0))) rfl) rfl ⟨rfl, trivial⟩ trivial ?_
                  refine G.op1 (op_loadR1 (i := Int.toNat v48.2.2.1) (f := 5) (size := 6) (cs := [vI x58.Kind, vI x58.Client, vS x58.Key, vI x58.Stamp.N, vI x58.Stamp.Site, .sl 3 (List.map encApi_Dep x58.Seen)]) Try.underlying28 rfl (idx_get hx58 encApi_Event) rfl (Ev.t 140 (.rp 2004 (List.map encApi_Event v3.2.2) (Int.toNat v48.2.2.1 * 6 + 5))) rfl) rfl ⟨rfl, trivial⟩ ⟨rfl, trivial⟩ ?_
                  refine G.op1 (op_assign (Ev.t 141 (.g (.d (.sl 3 (List.map encApi_Dep x58.Seen))))) rfl) rfl ⟨rfl, trivial⟩ trivial ?_
                  refine G.endOps ?_
                  refine G.endBlock ?_
                  refine G.region ?_
                  refine G.op1 (op_move (Ev.t 13 (bI .i64 v48.2.2.1)) rfl) rfl ⟨rfl, trivial⟩ trivial ?_
                  refine G.op1 (op_add (Ev.t 90 (bI .i64 v48.2.2.1)) (Ev.c _ rfl) rfl) rfl ⟨rfl, trivial⟩ trivial ?_
                  refine G.op1 (op_assign (Ev.t 91 (bI .i64 (IntKind.wrap .i64 (v48.2.2.1 + 1)))) rfl) rfl ⟨rfl, trivial⟩ trivial ?_
                  refine G.endOps ?_
                  exact G.arr (J49 (x58.Seen, IntKind.wrap .i64 (v48.2.1 + 1), IntKind.wrap .i64 (v48.2.2.1 + 1), x57.Stamp.N, x57.Stamp.Site) hF) ⟨rfl, rfl, rfl, rfl, rfl, rfl, rfl, rfl, rfl, rfl, rfl, trivial⟩ ⟨rfl, rfl, rfl, rfl, rfl, trivial⟩ (by simp only [wellId, List.all_cons, List.all_nil, HE.ids, ids_dat]; rfl)
                · refine G.cond rfl (fun hx => by rw [hc56] at hx; cases hx) (fun _ => ?_)
                  refine G.skip ?_
                  refine G.endBlock ?_
                  refine G.region ?_
                  refine G.op1 (op_move (Ev.t 13 (bI .i64 v48.2.2.1)) rfl) rfl ⟨rfl, trivial⟩ trivial ?_
                  refine G.op1 (op_add (Ev.t 90 (bI .i64 v48.2.2.1)) (Ev.c _ rfl) rfl) rfl ⟨rfl, trivial⟩ trivial ?_
                  refine G.op1 (op_assign (Ev.t 91 (bI .i64 (IntKind.wrap .i64 (v48.2.2.1 + 1)))) rfl) rfl ⟨rfl, trivial⟩ trivial ?_
                  refine G.endOps ?_
                  exact G.arr (J49 (v48.1, IntKind.wrap .i64 (v48.2.1 + 1), IntKind.wrap .i64 (v48.2.2.1 + 1), v48.2.2.2.1, v48.2.2.2.2) hF) ⟨rfl, rfl, rfl, rfl, rfl, rfl, rfl, rfl, rfl, rfl, rfl, trivial⟩ ⟨rfl, rfl, rfl, rfl, rfl, trivial⟩ (by simp only [wellId, List.all_cons, List.all_nil, HE.ids, ids_dat]; rfl)
              refine G.region ?_
              refine G.op1 (op_move (Ev.t 12 (bI .i64 (IntKind.wrap .i64 (v48.2.1 + 1)))) rfl) rfl ⟨rfl, trivial⟩ trivial ?_
              refine G.op1 (op_eqI (Ev.t 120 (bI .i64 (IntKind.wrap .i64 (v48.2.1 + 1)))) (Ev.c _ rfl) rfl) rfl ⟨rfl, trivial⟩ trivial ?_
              refine G.op1 (op_move (Ev.t 121 (bB (decide ((IntKind.wrap .i64 (v48.2.1 + 1)) = 1)))) rfl) rfl ⟨rfl, trivial⟩ trivial ?_
              refine ifS hF (fun hc60 hF => ?_) (fun hc60 hF => ?_)
              · refine G.known (t := 122) hc60 rfl ?_
                refine G.opN1 rfl rfl rfl rfl rfl ?_
                refine G.opN1 rfl rfl rfl rfl rfl ?_
                refine G.opN1 rfl rfl rfl rfl rfl ?_
                refine G.opN1 rfl rfl rfl rfl rfl ?_
                refine G.opN1 rfl rfl rfl rfl rfl ?_
                refine G.opN1 rfl rfl rfl rfl rfl ?_
                refine G.opN1 rfl rfl rfl rfl rfl ?_
                refine G.op1 (op_pickT (Ev.t 122 (bB true)) (Ev.c _ rfl) rfl) rfl ⟨rfl, trivial⟩ trivial ?_
                refine G.endOps ?_
                exact G.arr (J59 true hF) ⟨rfl, rfl, rfl, rfl, rfl, rfl, rfl, rfl, rfl, rfl, rfl, rfl, trivial⟩ ⟨rfl, rfl, rfl, rfl, rfl, trivial⟩ (by simp only [wellId, List.all_cons, List.all_nil, HE.ids, ids_dat]; rfl)
              · refine G.known (t := 122) hc60 rfl ?_
                refine G.opG1 (op_move (Ev.t 0 (.g (.d (.sl 4 (List.map encLaw20_Act l_0))))) rfl) rfl rfl rfl ⟨rfl, trivial⟩ trivial ?_
                refine G.opG1 (op_move (Ev.t 6 (bI .i64 v3.1)) rfl) rfl rfl rfl ⟨rfl, trivial⟩ trivial ?_
                obtain ⟨x61, hx61, hF⟩ := bindS hF
                refine G.opG1 (op_index (cs := [vB x61.Write, vI x61.Client, vI x61.Key, vI x61.Which]) Try.underlying22 ti47 (idx_ok hx61).1 (idx_get hx61 encLaw20_Act) (Ev.t 123 (.g (.d (.sl 4 (List.map encLaw20_Act l_0))))) (Ev.t 124 (bI .i64 v3.1)) rfl) rfl rfl rfl ⟨rfl, rfl, trivial⟩ trivial ?_
                refine G.opG1 (op_fieldE (cs' := [vI x61.Which]) Try.underlying47 rfl ti3 (by decide) rfl (Ev.t 125 (.ep [vB x61.Write, vI x61.Client, vI x61.Key, vI x61.Which])) rfl) rfl rfl rfl ⟨rfl, trivial⟩ trivial ?_
                refine G.opG1 (op_load1E (c := vI x61.Which) Try.underlying3 rfl rfl (Ev.t 126 (.ep [vI x61.Which])) rfl) rfl rfl rfl ⟨rfl, trivial⟩ trivial ?_
                refine G.opG1 (op_and (Ev.t 127 (bI .i64 x61.Which)) (Ev.c _ rfl) rfl) rfl rfl rfl ⟨rfl, trivial⟩ trivial ?_
                refine G.opG1 (op_eqI (Ev.t 128 (bI .i64 (IntKind.wrap .i64 (BitVec.ofInt (IntKind.bits .i64) x61.Which &&& BitVec.ofInt (IntKind.bits .i64) 1).toNat))) (Ev.c _ rfl) rfl) rfl rfl rfl ⟨rfl, trivial⟩ trivial ?_
                refine G.op1 (op_pickF (Ev.t 122 (bB false)) (Ev.t 129 (bB (decide ((IntKind.wrap .i64 (BitVec.ofInt (IntKind.bits .i64) x61.Which &&& BitVec.ofInt (IntKind.bits .i64) 1).toNat) = 1)))) rfl) rfl ⟨rfl, rfl, trivial⟩ trivial ?_
                refine G.endOps ?_
                exact G.arr (J59 (decide ((IntKind.wrap .i64 (BitVec.ofInt (IntKind.bits .i64) x61.Which &&& BitVec.ofInt (IntKind.bits .i64) 1).toNat) = 1)) hF) ⟨rfl, rfl, rfl, rfl, rfl, rfl, rfl, rfl, rfl, rfl, rfl, rfl, trivial⟩ ⟨rfl, rfl, rfl, rfl, rfl, trivial⟩ (by simp only [wellId, List.all_cons, List.all_nil, HE.ids, ids_dat]; rfl)
            · refine G.cond rfl (fun hx => by rw [hc54] at hx; cases hx) (fun _ => ?_)
              refine G.skip ?_
              refine G.endBlock ?_
              refine G.region ?_
              refine G.op1 (op_move (Ev.t 13 (bI .i64 v48.2.2.1)) rfl) rfl ⟨rfl, trivial⟩ trivial ?_
              refine G.op1 (op_add (Ev.t 90 (bI .i64 v48.2.2.1)) (Ev.c _ rfl) rfl) rfl ⟨rfl, trivial⟩ trivial ?_
              refine G.op1 (op_assign (Ev.t 91 (bI .i64 (IntKind.wrap .i64 (v48.2.2.1 + 1)))) rfl) rfl ⟨rfl, trivial⟩ trivial ?_
              refine G.endOps ?_
              exact G.arr (J49 (v48.1, v48.2.1, IntKind.wrap .i64 (v48.2.2.1 + 1), v48.2.2.2.1, v48.2.2.2.2) hF) ⟨rfl, rfl, rfl, rfl, rfl, rfl, rfl, rfl, rfl, rfl, rfl, trivial⟩ ⟨rfl, rfl, rfl, rfl, rfl, trivial⟩ (by simp only [wellId, List.all_cons, List.all_nil, HE.ids, ids_dat]; rfl)
          obtain ⟨x63, hx63, hF⟩ := bindS hF
          refine ifS hF (fun hc64 hF => ?_) (fun hc64 hF => ?_)
          · obtain ⟨x65, hx65, hF⟩ := bindS hF
            refine ifS hF (fun hc66 hF => ?_) (fun hc66 hF => ?_)
            · obtain ⟨x67, hx67, hF⟩ := bindS hF
              obtain ⟨r68, hr68, hF⟩ := bindS hF
              refine G.drawnI (deps := ([] :: [] :: [0, 1] :: [0, 1, 2] :: [0, 1, 2, 3] :: [0, 1, 2, 3, 4] :: [0, 1, 2, 3, 4, 5] :: [0, 1, 2, 3, 4, 5, 6] :: [0, 1, 2, 3, 4, 5, 6] :: [0, 1, 2, 3, 4, 5, 6, 7, 8] :: [0, 1, 2, 3, 4, 5, 6, 7, 8, 9] :: [0, 1, 2, 3, 4, 5, 6, 7, 8, 9, 10] :: [0, 1, 2, 3, 4, 5, 6] :: [0, 1, 2, 3, 4, 5, 6, 12] :: [0, 1, 2, 3, 4, 5, 6, 7, 8, 9, 10, 11, 12, 13] :: [0, 1, 2, 3, 4, 5, 6, 7, 8, 9, 10, 11, 12, 13, 14] :: [0, 1, 2, 3, 4, 5, 6, 7, 8, 9, 10, 11, 12, 13, 14, 15] :: [0, 1, 2, 3, 4, 5, 6, 7, 8, 9, 10, 11, 12, 13, 14, 15, 16] :: [0, 1, 2, 3, 4, 5, 6, 7, 8, 9, 10, 11, 12, 13, 14, 15, 16] :: [0, 1, 2, 3, 4, 5, 6, 7, 8, 9, 10, 11, 12, 13, 14, 15, 16, 17, 18] :: [0, 1, 2, 3, 4, 5, 6, 7, 8, 9, 10, 11, 12, 13, 14, 15, 16, 17, 18, 19] :: (0 :: 1 :: 2 :: 3 :: 4 :: 5 :: 6 :: 7 :: 8 :: 9 :: 10 :: 11 :: 12 :: 13 :: 14 :: 15 :: 16 :: 17 :: 18 :: 19 :: 20 :: []) :: [0, 1, 2, 3, 4, 5, 6, 7, 8, 9, 10, 11, 12, 13, 14, 15, 16] :: (0 :: 1 :: 2 :: 3 :: 4 :: 5 :: 6 :: 7 :: 8 :: 9 :: 10 :: 11 :: 12 :: 13 :: 14 :: 15 :: 16 :: 17 :: 18 :: 19 :: 20 :: 21 :: 22 :: []) :: (0 :: 1 :: 2 :: 3 :: 4 :: 5 :: 6 :: 7 :: 8 :: 9 :: 10 :: 11 :: 12 :: 13 :: 14 :: 15 :: 16 :: 17 :: 18 :: 19 :: 20 :: 21 :: 22 :: 23 :: []) :: (0 :: 1 :: 2 :: 3 :: 4 :: 5 :: 6 :: 7 :: 8 :: 9 :: 10 :: 11 :: 12 :: 13 :: 14 :: 15 :: 16 :: 17 :: 18 :: 19 :: 20 :: 21 :: 22 :: 23 :: 24 :: []) :: [])) (sl' := [(0, .one (.g (.d (.sl 4 (List.map encLaw20_Act l_0))))), (3, .one (.ptr 1003 0)), (4, .one (.own 2004 (List.map encApi_Event v3.2.2))), (5, .one (.ptr 1005 0)), (6, oI v3.1), (7, oI (IntKind.wrap .i64 (BitVec.ofInt (IntKind.bits .i64) x11.Client &&& BitVec.ofInt (IntKind.bits .i64) 3).toNat)), (8, .one (.ptr 1008 0)), (9, .one (.g (.d (.sl 3 (List.map encApi_Dep v48.1))))), (11, .one (.ptr 1011 0)), (12, oI v48.2.1), (13, oI v48.2.2.1), (117, oB (!r68))]) (hp' := [(1003, some (.blk 35 (dat (List.flatMap encS ([(ByteArray.mk #[97]), (ByteArray.mk #[98]), (ByteArray.mk #[99]), (ByteArray.mk #[100])]))))), (1005, some (.blk 58 (dat (List.flatMap encL_encApi_Dep v3.2.1)))), (1008, some (.blk 30 [bI .i64 2, bI .i64 (IntKind.wrap .i64 (BitVec.ofInt (IntKind.bits .i64) x11.Client &&& BitVec.ofInt (IntKind.bits .i64) 3).toNat), bS x13, bI .i64 v48.2.2.2.1, bI .i64 v48.2.2.2.2, .g (.d (.sl 3 (List.map encApi_Dep ([] : (List Api_Dep)))))])), (1011, some (.blk 27 [bI .i64 r47.N, bI .i64 r47.Site])), (2004, some (.row 30 6 (List.map encApi_Event v3.2.2) true))]) (.c (oP rfl rfl (op_move (Ev.t 4 (.own 2004 (List.map encApi_Event v3.2.2))) rfl)) (.c (oP rfl rfl (op_move (Ev.t 13 (bI .i64 v48.2.2.1)) rfl)) (.c (oP rfl rfl (op_indexR (cs := [vI x63.Kind, vI x63.Client, vS x63.Key, vI x63.Stamp.N, vI x63.Stamp.Site, .sl 3 (List.map encApi_Dep x63.Seen)]) Try.underlying24 ti30 (idx_ok hx63).1 (idx_get hx63 encApi_Event) (Ev.t 92 (.own 2004 (List.map encApi_Event v3.2.2))) (Ev.t 93 (bI .i64 v48.2.2.1)) rfl)) (.c (oP rfl rfl (op_fieldR (off' := Int.toNat v48.2.2.1 * 6 + 0) Try.underlying30 rfl ti3 (by decide) rfl (Ev.t 94 (.rp 2004 (List.map encApi_Event v3.2.2) (Int.toNat v48.2.2.1 * 6 + 0))) rfl)) (.c (oP rfl rfl (op_loadR1 (i := Int.toNat v48.2.2.1) (f := 0) (size := 6) (cs := [vI x63.Kind, vI x63.Client, vS x63.Key, vI x63.Stamp.N, vI x63.Stamp.Site, .sl 3 (List.map encApi_Dep x63.Seen)]) Try.underlying3 rfl (idx_get hx63 encApi_Event) rfl (Ev.t 95 (.rp 2004 (List.map encApi_Event v3.2.2) (Int.toNat v48.2.2.1 * 6 + 0))) rfl)) (.c (oP rfl rfl (OpL.cast (op_eqI (Ev.t 96 (bI .i64 x63.Kind)) (Ev.c _ rfl) rfl) (congrArg (fun b => bB b) hc64))) (.c (oP rfl rfl (op_move (Ev.t 97 (bB true)) rfl)) (.c (oY rfl rfl rfl (op_move (Ev.t 4 (.own 2004 (List.map encApi_Event v3.2.2))) rfl)) (.c (oY rfl rfl rfl (op_move (Ev.t 13 (bI .i64 v48.2.2.1)) rfl)) (.c (oY rfl rfl rfl (op_indexR (cs := [vI x65.Kind, vI x65.Client, vS x65.Key, vI x65.Stamp.N, vI x65.Stamp.Site, .sl 3 (List.map encApi_Dep x65.Seen)]) Try.underlying24 ti30 (idx_ok hx65).1 (idx_get hx65 encApi_Event) (Ev.t 99 (.own 2004 (List.map encApi_Event v3.2.2))) (Ev.t 100 (bI .i64 v48.2.2.1)) rfl)) (.c (oY rfl rfl rfl (op_fieldR (off' := Int.toNat v48.2.2.1 * 6 + 2) Try.underlying30 rfl ti9 (by decide) rfl (Ev.t 101 (.rp 2004 (List.map encApi_Event v3.2.2) (Int.toNat v48.2.2.1 * 6 + 0))) rfl)) (.c (oY rfl rfl rfl (op_loadR1 (i := Int.toNat v48.2.2.1) (f := 2) (size := 6) (cs := [vI x65.Kind, vI x65.Client, vS x65.Key, vI x65.Stamp.N, vI x65.Stamp.Site, .sl 3 (List.map encApi_Dep x65.Seen)]) Try.underlying9 rfl (idx_get hx65 encApi_Event) rfl (Ev.t 102 (.rp 2004 (List.map encApi_Event v3.2.2) (Int.toNat v48.2.2.1 * 6 + 2))) rfl)) (.c (oY rfl rfl rfl (op_fieldP (off' := 2) Try.underlying30 rfl ti9 (by decide) rfl (Ev.t 8 (.ptr 1008 0)) rfl)) (.c (oY rfl rfl rfl (op_load1P (c := bS x13) Try.underlying9 rfl rfl (Ev.t 104 (.ptr 1008 2)) rfl)) (.c (oY rfl rfl rfl (OpL.cast (op_eqS (Ev.t 103 (bS x65.Key)) (Ev.t 105 (bS x13)) rfl) (congrArg (fun b => bB b) hc66))) (.c (oP rfl rfl (op_pickT (Ev.t 98 (bB true)) (Ev.t 106 (bB true)) rfl)) (.c (oP rfl rfl (op_move (Ev.t 107 (bB true)) rfl)) (.c (oY rfl rfl rfl (op_move (Ev.t 4 (.own 2004 (List.map encApi_Event v3.2.2))) rfl)) (.c (oY rfl rfl rfl (op_move (Ev.t 13 (bI .i64 v48.2.2.1)) rfl)) (.c (oY rfl rfl rfl (op_indexR (cs := [vI x67.Kind, vI x67.Client, vS x67.Key, vI x67.Stamp.N, vI x67.Stamp.Site, .sl 3 (List.map encApi_Dep x67.Seen)]) Try.underlying24 ti30 (idx_ok hx67).1 (idx_get hx67 encApi_Event) (Ev.t 109 (.own 2004 (List.map encApi_Event v3.2.2))) (Ev.t 110 (bI .i64 v48.2.2.1)) rfl)) (.c (oY rfl rfl rfl (op_fieldR (off' := Int.toNat v48.2.2.1 * 6 + 3) Try.underlying30 rfl ti27 (by decide) rfl (Ev.t 111 (.rp 2004 (List.map encApi_Event v3.2.2) (Int.toNat v48.2.2.1 * 6 + 0))) rfl)) (.c (oY rfl rfl rfl (op_loadRA (i := Int.toNat v48.2.2.1) (f := 3) (size := 6) (cs := [vI x67.Kind, vI x67.Client, vS x67.Key, vI x67.Stamp.N, vI x67.Stamp.Site, .sl 3 (List.map encApi_Dep x67.Seen)]) (ds := [vI x67.Stamp.N, vI x67.Stamp.Site]) Try.underlying27 rfl ti27 (idx_get hx67 encApi_Event) rfl (Ev.t 112 (.rp 2004 (List.map encApi_Event v3.2.2) (Int.toNat v48.2.2.1 * 6 + 3))) rfl)) (.c (oY rfl rfl rfl (op_loadAP (ds := [vI r47.N, vI r47.Site]) Try.underlying27 rfl ti27 rfl (Ev.t 11 (.ptr 1011 0)) rfl)) (.c (oY rfl rfl rfl (op_callQ (sv := oB r68) cf16 (ct_ref03_Less x67.Stamp r47 r68 hr68) rfl rfl (EvQL.cons (EvQ.g (Ev.t 113 (.g (.agg [vI x67.Stamp.N, vI x67.Stamp.Site])))) (EvQL.cons (EvQ.g (Ev.t 114 (.g (.agg [vI r47.N, vI r47.Site])))) EvQL.nil)) rfl)) (.c (oY rfl rfl rfl (op_not (Ev.t 115 (bB r68)) rfl)) (.c (oP rfl rfl (op_pickT (Ev.t 108 (bB true)) (Ev.t 116 (bB (!r68))) rfl)) .nil)))))))))))))))))))))))))) follows rfl rfl rfl ⟨⟨rfl, trivial⟩, trivial, ⟨rfl, trivial⟩, trivial, ⟨rfl, rfl, trivial⟩, ⟨⟨rfl, rfl⟩, trivial⟩, ⟨rfl, trivial⟩, trivial, ⟨rfl, trivial⟩, ⟨⟨rfl, rfl⟩, trivial⟩, ⟨rfl, trivial⟩, trivial, ⟨rfl, trivial⟩, trivial, ⟨rfl, rfl, trivial⟩, trivial, ⟨rfl, rfl, trivial⟩, trivial, ⟨rfl, rfl, rfl, trivial⟩, ⟨⟨rfl, rfl⟩, trivial⟩, ⟨rfl, rfl, trivial⟩, trivial, ⟨rfl, rfl, trivial⟩, ⟨⟨rfl, rfl⟩, trivial⟩, ⟨rfl, rfl, trivial⟩, trivial, ⟨rfl, rfl, trivial⟩, ⟨⟨rfl, rfl⟩, trivial⟩, ⟨rfl, rfl, rfl, trivial⟩, trivial, ⟨rfl, rfl, trivial⟩, trivial, ⟨rfl, trivial⟩, trivial, ⟨rfl, rfl, trivial⟩, trivial, ⟨rfl, rfl, trivial⟩, trivial, ⟨rfl, rfl, rfl, trivial⟩, ⟨⟨rfl, rfl⟩, trivial⟩, ⟨rfl, rfl, trivial⟩, trivial, ⟨rfl, rfl, trivial⟩, ⟨⟨rfl, rfl⟩, trivial⟩, ⟨rfl, rfl, trivial⟩, ⟨⟨rfl, rfl⟩, trivial⟩, ⟨rfl, rfl, rfl, trivial⟩, trivial, ⟨rfl, rfl, trivial⟩, trivial, ⟨rfl, rfl, trivial⟩, trivial, trivial⟩ ⟨rfl, rfl, rfl, rfl, rfl, rfl, rfl, rfl, rfl, rfl, rfl, rfl, trivial⟩ ⟨rfl, rfl, rfl, rfl, rfl, trivial⟩ (by simp only [wellId, List.all_cons, List.all_nil, HE.ids, ids_dat]; rfl) ?_
              exact G.arr (J62 (!r68) hF) ⟨rfl, rfl, rfl, rfl, rfl, rfl, rfl, rfl, rfl, rfl, rfl, rfl, trivial⟩ ⟨rfl, rfl, rfl, rfl, rfl, trivial⟩ (by simp only [wellId, List.all_cons, List.all_nil, HE.ids, ids_dat]; rfl)
            · refine G.drawnI (deps := ([] :: [] :: [0, 1] :: [0, 1, 2] :: [0, 1, 2, 3] :: [0, 1, 2, 3, 4] :: [0, 1, 2, 3, 4, 5] :: [0, 1, 2, 3, 4, 5, 6] :: [0, 1, 2, 3, 4, 5, 6] :: [0, 1, 2, 3, 4, 5, 6, 7, 8] :: [0, 1, 2, 3, 4, 5, 6, 7, 8, 9] :: [0, 1, 2, 3, 4, 5, 6, 7, 8, 9, 10] :: [0, 1, 2, 3, 4, 5, 6] :: [0, 1, 2, 3, 4, 5, 6, 12] :: [0, 1, 2, 3, 4, 5, 6, 7, 8, 9, 10, 11, 12, 13] :: [0, 1, 2, 3, 4, 5, 6, 7, 8, 9, 10, 11, 12, 13, 14] :: [0, 1, 2, 3, 4, 5, 6, 7, 8, 9, 10, 11, 12, 13, 14, 15] :: [0, 1, 2, 3, 4, 5, 6, 7, 8, 9, 10, 11, 12, 13, 14, 15, 16] :: [0, 1, 2, 3, 4, 5, 6, 7, 8, 9, 10, 11, 12, 13, 14, 15, 16] :: [0, 1, 2, 3, 4, 5, 6, 7, 8, 9, 10, 11, 12, 13, 14, 15, 16, 17, 18] :: [0, 1, 2, 3, 4, 5, 6, 7, 8, 9, 10, 11, 12, 13, 14, 15, 16, 17, 18, 19] :: (0 :: 1 :: 2 :: 3 :: 4 :: 5 :: 6 :: 7 :: 8 :: 9 :: 10 :: 11 :: 12 :: 13 :: 14 :: 15 :: 16 :: 17 :: 18 :: 19 :: 20 :: []) :: [0, 1, 2, 3, 4, 5, 6, 7, 8, 9, 10, 11, 12, 13, 14, 15, 16] :: (0 :: 1 :: 2 :: 3 :: 4 :: 5 :: 6 :: 7 :: 8 :: 9 :: 10 :: 11 :: 12 :: 13 :: 14 :: 15 :: 16 :: 17 :: 18 :: 19 :: 20 :: 21 :: 22 :: []) :: (0 :: 1 :: 2 :: 3 :: 4 :: 5 :: 6 :: 7 :: 8 :: 9 :: 10 :: 11 :: 12 :: 13 :: 14 :: 15 :: 16 :: 17 :: 18 :: 19 :: 20 :: 21 :: 22 :: 23 :: []) :: (0 :: 1 :: 2 :: 3 :: 4 :: 5 :: 6 :: 7 :: 8 :: 9 :: 10 :: 11 :: 12 :: 13 :: 14 :: 15 :: 16 :: 17 :: 18 :: 19 :: 20 :: 21 :: 22 :: 23 :: 24 :: []) :: [])) (sl' := [(0, .one (.g (.d (.sl 4 (List.map encLaw20_Act l_0))))), (3, .one (.ptr 1003 0)), (4, .one (.own 2004 (List.map encApi_Event v3.2.2))), (5, .one (.ptr 1005 0)), (6, oI v3.1), (7, oI (IntKind.wrap .i64 (BitVec.ofInt (IntKind.bits .i64) x11.Client &&& BitVec.ofInt (IntKind.bits .i64) 3).toNat)), (8, .one (.ptr 1008 0)), (9, .one (.g (.d (.sl 3 (List.map encApi_Dep v48.1))))), (11, .one (.ptr 1011 0)), (12, oI v48.2.1), (13, oI v48.2.2.1), (117, oB false)]) (hp' := [(1003, some (.blk 35 (dat (List.flatMap encS ([(ByteArray.mk #[97]), (ByteArray.mk #[98]), (ByteArray.mk #[99]), (ByteArray.mk #[100])]))))), (1005, some (.blk 58 (dat (List.flatMap encL_encApi_Dep v3.2.1)))), (1008, some (.blk 30 [bI .i64 2, bI .i64 (IntKind.wrap .i64 (BitVec.ofInt (IntKind.bits .i64) x11.Client &&& BitVec.ofInt (IntKind.bits .i64) 3).toNat), bS x13, bI .i64 v48.2.2.2.1, bI .i64 v48.2.2.2.2, .g (.d (.sl 3 (List.map encApi_Dep ([] : (List Api_Dep)))))])), (1011, some (.blk 27 [bI .i64 r47.N, bI .i64 r47.Site])), (2004, some (.row 30 6 (List.map encApi_Event v3.2.2) true))]) (.c (oP rfl rfl (op_move (Ev.t 4 (.own 2004 (List.map encApi_Event v3.2.2))) rfl)) (.c (oP rfl rfl (op_move (Ev.t 13 (bI .i64 v48.2.2.1)) rfl)) (.c (oP rfl rfl (op_indexR (cs := [vI x63.Kind, vI x63.Client, vS x63.Key, vI x63.Stamp.N, vI x63.Stamp.Site, .sl 3 (List.map encApi_Dep x63.Seen)]) Try.underlying24 ti30 (idx_ok hx63).1 (idx_get hx63 encApi_Event) (Ev.t 92 (.own 2004 (List.map encApi_Event v3.2.2))) (Ev.t 93 (bI .i64 v48.2.2.1)) rfl)) (.c (oP rfl rfl (op_fieldR (off' := Int.toNat v48.2.2.1 * 6 + 0) Try.underlying30 rfl ti3 (by decide) rfl (Ev.t 94 (.rp 2004 (List.map encApi_Event v3.2.2) (Int.toNat v48.2.2.1 * 6 + 0))) rfl)) (.c (oP rfl rfl (op_loadR1 (i := Int.toNat v48.2.2.1) (f := 0) (size := 6) (cs := [vI x63.Kind, vI x63.Client, vS x63.Key, vI x63.Stamp.N, vI x63.Stamp.Site, .sl 3 (List.map encApi_Dep x63.Seen)]) Try.underlying3 rfl (idx_get hx63 encApi_Event) rfl (Ev.t 95 (.rp 2004 (List.map encApi_Event v3.2.2) (Int.toNat v48.2.2.1 * 6 + 0))) rfl)) (.c (oP rfl rfl (OpL.cast (op_eqI (Ev.t 96 (bI .i64 x63.Kind)) (Ev.c _ rfl) rfl) (congrArg (fun b => bB b) hc64))) (.c (oP rfl rfl (op_move (Ev.t 97 (bB true)) rfl)) (.c (oY rfl rfl rfl (op_move (Ev.t 4 (.own 2004 (List.map encApi_Event v3.2.2))) rfl)) (.c (oY rfl rfl rfl (op_move (Ev.t 13 (bI .i64 v48.2.2.1)) rfl)) (.c (oY rfl rfl rfl (op_indexR (cs := [vI x65.Kind, vI x65.Client, vS x65.Key, vI x65.Stamp.N, vI x65.Stamp.Site, .sl 3 (List.map encApi_Dep x65.Seen)]) Try.underlying24 ti30 (idx_ok hx65).1 (idx_get hx65 encApi_Event) (Ev.t 99 (.own 2004 (List.map encApi_Event v3.2.2))) (Ev.t 100 (bI .i64 v48.2.2.1)) rfl)) (.c (oY rfl rfl rfl (op_fieldR (off' := Int.toNat v48.2.2.1 * 6 + 2) Try.underlying30 rfl ti9 (by decide) rfl (Ev.t 101 (.rp 2004 (List.map encApi_Event v3.2.2) (Int.toNat v48.2.2.1 * 6 + 0))) rfl)) (.c (oY rfl rfl rfl (op_loadR1 (i := Int.toNat v48.2.2.1) (f := 2) (size := 6) (cs := [vI x65.Kind, vI x65.Client, vS x65.Key, vI x65.Stamp.N, vI x65.Stamp.Site, .sl 3 (List.map encApi_Dep x65.Seen)]) Try.underlying9 rfl (idx_get hx65 encApi_Event) rfl (Ev.t 102 (.rp 2004 (List.map encApi_Event v3.2.2) (Int.toNat v48.2.2.1 * 6 + 2))) rfl)) (.c (oY rfl rfl rfl (op_fieldP (off' := 2) Try.underlying30 rfl ti9 (by decide) rfl (Ev.t 8 (.ptr 1008 0)) rfl)) (.c (oY rfl rfl rfl (op_load1P (c := bS x13) Try.underlying9 rfl rfl (Ev.t 104 (.ptr 1008 2)) rfl)) (.c (oY rfl rfl rfl (OpL.cast (op_eqS (Ev.t 103 (bS x65.Key)) (Ev.t 105 (bS x13)) rfl) (congrArg (fun b => bB b) hc66))) (.c (oP rfl rfl (op_pickT (Ev.t 98 (bB true)) (Ev.t 106 (bB false)) rfl)) (.c (oP rfl rfl (op_move (Ev.t 107 (bB false)) rfl)) (.c (OpW.no rfl rfl rfl rfl rfl) (.c (OpW.no rfl rfl rfl rfl rfl) (.c (OpW.no rfl rfl rfl rfl rfl) (.c (OpW.no rfl rfl rfl rfl rfl) (.c (OpW.no rfl rfl rfl rfl rfl) (.c (OpW.no rfl rfl rfl rfl rfl) (.c (OpW.no rfl rfl rfl rfl rfl) (.c (OpW.no rfl rfl rfl rfl rfl) (.c (oP rfl rfl (op_pickF (Ev.t 108 (bB false)) (Ev.c _ rfl) rfl)) .nil)))))))))))))))))))))))))) follows rfl rfl rfl ⟨⟨rfl, trivial⟩, trivial, ⟨rfl, trivial⟩, trivial, ⟨rfl, rfl, trivial⟩, ⟨⟨rfl, rfl⟩, trivial⟩, ⟨rfl, trivial⟩, trivial, ⟨rfl, trivial⟩, ⟨⟨rfl, rfl⟩, trivial⟩, ⟨rfl, trivial⟩, trivial, ⟨rfl, trivial⟩, trivial, ⟨rfl, rfl, trivial⟩, trivial, ⟨rfl, rfl, trivial⟩, trivial, ⟨rfl, rfl, rfl, trivial⟩, ⟨⟨rfl, rfl⟩, trivial⟩, ⟨rfl, rfl, trivial⟩, trivial, ⟨rfl, rfl, trivial⟩, ⟨⟨rfl, rfl⟩, trivial⟩, ⟨rfl, rfl, trivial⟩, trivial, ⟨rfl, rfl, trivial⟩, ⟨⟨rfl, rfl⟩, trivial⟩, ⟨rfl, rfl, rfl, trivial⟩, trivial, ⟨rfl, rfl, trivial⟩, trivial, ⟨rfl, trivial⟩, trivial, ⟨rfl, trivial⟩, trivial, ⟨rfl, trivial⟩, trivial, ⟨rfl, trivial⟩, trivial, ⟨rfl, trivial⟩, trivial, ⟨rfl, trivial⟩, trivial, ⟨rfl, trivial⟩, trivial, ⟨rfl, trivial⟩, trivial, ⟨rfl, trivial⟩, trivial, ⟨rfl, trivial⟩, trivial, trivial⟩ ⟨rfl, rfl, rfl, rfl, rfl, rfl, rfl, rfl, rfl, rfl, rfl, rfl, trivial⟩ ⟨rfl, rfl, rfl, rfl, rfl, trivial⟩ (by simp only [wellId, List.all_cons, List.all_nil, HE.ids, ids_dat]; rfl) ?_
              exact G.arr (J62 false hF) ⟨rfl, rfl, rfl, rfl, rfl, rfl, rfl, rfl, rfl, rfl, rfl, rfl, trivial⟩ ⟨rfl, rfl, rfl, rfl, rfl, trivial⟩ (by simp only [wellId, List.all_cons, List.all_nil, HE.ids, ids_dat]; rfl)
          · refine G.drawnI (deps := ([] :: [] :: [0, 1] :: [0, 1, 2] :: [0, 1, 2, 3] :: [0, 1, 2, 3, 4] :: [0, 1, 2, 3, 4, 5] :: [0, 1, 2, 3, 4, 5, 6] :: [0, 1, 2, 3, 4, 5, 6] :: [0, 1, 2, 3, 4, 5, 6, 7, 8] :: [0, 1, 2, 3, 4, 5, 6, 7, 8, 9] :: [0, 1, 2, 3, 4, 5, 6, 7, 8, 9, 10] :: [0, 1, 2, 3, 4, 5, 6] :: [0, 1, 2, 3, 4, 5, 6, 12] :: [0, 1, 2, 3, 4, 5, 6, 7, 8, 9, 10, 11, 12, 13] :: [0, 1, 2, 3, 4, 5, 6, 7, 8, 9, 10, 11, 12, 13, 14] :: [0, 1, 2, 3, 4, 5, 6, 7, 8, 9, 10, 11, 12, 13, 14, 15] :: [0, 1, 2, 3, 4, 5, 6, 7, 8, 9, 10, 11, 12, 13, 14, 15, 16] :: [0, 1, 2, 3, 4, 5, 6, 7, 8, 9, 10, 11, 12, 13, 14, 15, 16] :: [0, 1, 2, 3, 4, 5, 6, 7, 8, 9, 10, 11, 12, 13, 14, 15, 16, 17, 18] :: [0, 1, 2, 3, 4, 5, 6, 7, 8, 9, 10, 11, 12, 13, 14, 15, 16, 17, 18, 19] :: (0 :: 1 :: 2 :: 3 :: 4 :: 5 :: 6 :: 7 :: 8 :: 9 :: 10 :: 11 :: 12 :: 13 :: 14 :: 15 :: 16 :: 17 :: 18 :: 19 :: 20 :: []) :: [0, 1, 2, 3, 4, 5, 6, 7, 8, 9, 10, 11, 12, 13, 14, 15, 16] :: (0 :: 1 :: 2 :: 3 :: 4 :: 5 :: 6 :: 7 :: 8 :: 9 :: 10 :: 11 :: 12 :: 13 :: 14 :: 15 :: 16 :: 17 :: 18 :: 19 :: 20 :: 21 :: 22 :: []) :: (0 :: 1 :: 2 :: 3 :: 4 :: 5 :: 6 :: 7 :: 8 :: 9 :: 10 :: 11 :: 12 :: 13 :: 14 :: 15 :: 16 :: 17 :: 18 :: 19 :: 20 :: 21 :: 22 :: 23 :: []) :: (0 :: 1 :: 2 :: 3 :: 4 :: 5 :: 6 :: 7 :: 8 :: 9 :: 10 :: 11 :: 12 :: 13 :: 14 :: 15 :: 16 :: 17 :: 18 :: 19 :: 20 :: 21 :: 22 :: 23 :: 24 :: []) :: [])) (sl' := [(0, .one (.g (.d (.sl 4 (List.map encLaw20_Act l_0))))), (3, .one (.ptr 1003 0)), (4, .one (.own 2004 (List.map encApi_Event v3.2.2))), (5, .one (.ptr 1005 0)), (6, oI v3.1), (7, oI (IntKind.wrap .i64 (BitVec.ofInt (IntKind.bits .i64) x11.Client &&& BitVec.ofInt (IntKind.bits .i64) 3).toNat)), (8, .one (.ptr 1008 0)), (9, .one (.g (.d (.sl 3 (List.map encApi_Dep v48.1))))), (11, .one (.ptr 1011 0)), (12, oI v48.2.1), (13, oI v48.2.2.1), (117, oB false)]) (hp' := [(1003, some (.blk 35 (dat (List.flatMap encS ([(ByteArray.mk #[97]), (ByteArray.mk #[98]), (ByteArray.mk #[99]), (ByteArray.mk #[100])]))))), (1005, some (.blk 58 (dat (List.flatMap encL_encApi_Dep v3.2.1)))), (1008, some (.blk 30 [bI .i64 2, bI .i64 (IntKind.wrap .i64 (BitVec.ofInt (IntKind.bits .i64) x11.Client &&& BitVec.ofInt (IntKind.bits .i64) 3).toNat), bS x13, bI .i64 v48.2.2.2.1, bI .i64 v48.2.2.2.2, .g (.d (.sl 3 (List.map encApi_Dep ([] : (List Api_Dep)))))])), (1011, some (.blk 27 [bI .i64 r47.N, bI .i64 r47.Site])), (2004, some (.row 30 6 (List.map encApi_Event v3.2.2) true))]) (.c (oP rfl rfl (op_move (Ev.t 4 (.own 2004 (List.map encApi_Event v3.2.2))) rfl)) (.c (oP rfl rfl (op_move (Ev.t 13 (bI .i64 v48.2.2.1)) rfl)) (.c (oP rfl rfl (op_indexR (cs := [vI x63.Kind, vI x63.Client, vS x63.Key, vI x63.Stamp.N, vI x63.Stamp.Site, .sl 3 (List.map encApi_Dep x63.Seen)]) Try.underlying24 ti30 (idx_ok hx63).1 (idx_get hx63 encApi_Event) (Ev.t 92 (.own 2004 (List.map encApi_Event v3.2.2))) (Ev.t 93 (bI .i64 v48.2.2.1)) rfl)) (.c (oP rfl rfl (op_fieldR (off' := Int.toNat v48.2.2.1 * 6 + 0) Try.underlying30 rfl ti3 (by decide) rfl (Ev.t 94 (.rp 2004 (List.map encApi_Event v3.2.2) (Int.toNat v48.2.2.1 * 6 + 0))) rfl)) (.c (oP rfl rfl (op_loadR1 (i := Int.toNat v48.2.2.1) (f := 0) (size := 6) (cs := [vI x63.Kind, vI x63.Client, vS x63.Key, vI x63.Stamp.N, vI x63.Stamp.Site, .sl 3 (List.map encApi_Dep x63.Seen)]) Try.underlying3 rfl (idx_get hx63 encApi_Event) rfl (Ev.t 95 (.rp 2004 (List.map encApi_Event v3.2.2) (Int.toNat v48.2.2.1 * 6 + 0))) rfl)) (.c (oP rfl rfl (OpL.cast (op_eqI (Ev.t 96 (bI .i64 x63.Kind)) (Ev.c _ rfl) rfl) (congrArg (fun b => bB b) hc64))) (.c (oP rfl rfl (op_move (Ev.t 97 (bB false)) rfl)) (.c (OpW.no rfl rfl rfl rfl rfl) (.c (OpW.no rfl rfl rfl rfl rfl) (.c (OpW.no rfl rfl rfl rfl rfl) (.c (OpW.no rfl rfl rfl rfl rfl) (.c (OpW.no rfl rfl rfl rfl rfl) (.c (OpW.no rfl rfl rfl rfl rfl) (.c (OpW.no rfl rfl rfl rfl rfl) (.c (OpW.no rfl rfl rfl rfl rfl) (.c (oP rfl rfl (op_pickF (Ev.t 98 (bB false)) (Ev.c _ rfl) rfl)) (.c (oP rfl rfl (op_move (Ev.t 107 (bB false)) rfl)) (.c (OpW.no rfl rfl rfl rfl rfl) (.c (OpW.no rfl rfl rfl rfl rfl) (.c (OpW.no rfl rfl rfl rfl rfl) (.c (OpW.no rfl rfl rfl rfl rfl) (.c (OpW.no rfl rfl rfl rfl rfl) (.c (OpW.no rfl rfl rfl rfl rfl) (.c (OpW.no rfl rfl rfl rfl rfl) (.c (OpW.no rfl rfl rfl rfl rfl) (.c (oP rfl rfl (op_pickF (Ev.t 108 (bB false)) (Ev.c _ rfl) rfl)) .nil)))))))))))))))))))))))))) follows rfl rfl rfl ⟨⟨rfl, trivial⟩, trivial, ⟨rfl, trivial⟩, trivial, ⟨rfl, rfl, trivial⟩, ⟨⟨rfl, rfl⟩, trivial⟩, ⟨rfl, trivial⟩, trivial, ⟨rfl, trivial⟩, ⟨⟨rfl, rfl⟩, trivial⟩, ⟨rfl, trivial⟩, trivial, ⟨rfl, trivial⟩, trivial, ⟨rfl, trivial⟩, trivial, ⟨rfl, trivial⟩, trivial, ⟨rfl, trivial⟩, trivial, ⟨rfl, trivial⟩, trivial, ⟨rfl, trivial⟩, trivial, ⟨rfl, trivial⟩, trivial, ⟨rfl, trivial⟩, trivial, ⟨rfl, trivial⟩, trivial, ⟨rfl, trivial⟩, trivial, ⟨rfl, trivial⟩, trivial, ⟨rfl, trivial⟩, trivial, ⟨rfl, trivial⟩, trivial, ⟨rfl, trivial⟩, trivial, ⟨rfl, trivial⟩, trivial, ⟨rfl, trivial⟩, trivial, ⟨rfl, trivial⟩, trivial, ⟨rfl, trivial⟩, trivial, ⟨rfl, trivial⟩, trivial, ⟨rfl, trivial⟩, trivial, trivial⟩ ⟨rfl, rfl, rfl, rfl, rfl, rfl, rfl, rfl, rfl, rfl, rfl, rfl, trivial⟩ ⟨rfl, rfl, rfl, rfl, rfl, trivial⟩ (by simp only [wellId, List.all_cons, List.all_nil, HE.ids, ids_dat]; rfl) ?_
            exact G.arr (J62 false hF) ⟨rfl, rfl, rfl, rfl, rfl, rfl, rfl, rfl, rfl, rfl, rfl, rfl, trivial⟩ ⟨rfl, rfl, rfl, rfl, rfl, trivial⟩ (by simp only [wellId, List.all_cons, List.all_nil, HE.ids, ids_dat]; rfl)
        · refine G.cond rfl (fun hx => by rw [hc52] at hx; cases hx) (fun _ => ?_)
          refine G.exit ?_
          refine GX.c ?_
          refine GX.q ?_
          refine GX.bYes ?_
          exact G.arr (J34 (v48.1, 2, v48.2.2.2.1, v48.2.2.2.2) hF) ⟨rfl, rfl, rfl, rfl, rfl, rfl, rfl, rfl, trivial⟩ ⟨rfl, rfl, rfl, rfl, trivial⟩ (by simp only [wellId, List.all_cons, List.all_nil, HE.ids, ids_dat]; rfl)
    · refine G.cond rfl (fun hx => by rw [hc8] at hx; cases hx) (fun _ => ?_)
      refine G.exit ?_
      refine GX.c ?_
      refine GX.q ?_
      refine GX.bYes ?_
      exact G.arr (J2 v3.2.2 hF) ⟨rfl, trivial⟩ ⟨rfl, trivial⟩ rfl
  refine G.region ?_
  refine G.op1 (op_move (Ev.t 6 (bI .i64 v3.1)) rfl) rfl ⟨rfl, trivial⟩ trivial ?_
  refine G.op1 (op_move (Ev.t 0 (.g (.d (.sl 4 (List.map encLaw20_Act l_0))))) rfl) rfl ⟨rfl, trivial⟩ trivial ?_
  refine G.op1 (OpL.cast (op_lenD Try.underlying22 (Ev.t 16 (.g (.d (.sl 4 (List.map encLaw20_Act l_0))))) rfl) (by rw [List.length_map])) rfl ⟨rfl, trivial⟩ trivial ?_
  refine G.op1 (op_lss (Ev.t 15 (bI .i64 v3.1)) (Ev.t 17 (bI .i64 (l_0.length : Int))) rfl) rfl ⟨rfl, rfl, trivial⟩ trivial ?_
  refine G.op1 (op_move (Ev.t 18 (bB (decide (v3.1 < (l_0.length : Int))))) rfl) rfl ⟨rfl, trivial⟩ trivial ?_
  refine ifS hF (fun hc70 hF => ?_) (fun hc70 hF => ?_)
  · refine G.known (t := 19) hc70 rfl ?_
    refine G.opG1 (op_move (Ev.t 6 (bI .i64 v3.1)) rfl) rfl rfl rfl ⟨rfl, trivial⟩ trivial ?_
    refine G.opG1 (op_lss (Ev.t 20 (bI .i64 v3.1)) (Ev.c _ rfl) rfl) rfl rfl rfl ⟨rfl, trivial⟩ trivial ?_
    refine G.op1 (op_pickT (Ev.t 19 (bB true)) (Ev.t 21 (bB (decide (v3.1 < 16)))) rfl) rfl ⟨rfl, rfl, trivial⟩ trivial ?_
    refine G.endOps ?_
    exact G.arr (J69 (decide (v3.1 < 16)) hF) ⟨rfl, rfl, rfl, rfl, rfl, rfl, trivial⟩ ⟨rfl, rfl, rfl, trivial⟩ (by simp only [wellId, List.all_cons, List.all_nil, HE.ids, ids_dat]; rfl)
  · refine G.known (t := 19) hc70 rfl ?_
    refine G.opN1 rfl rfl rfl rfl rfl ?_
    refine G.opN1 rfl rfl rfl rfl rfl ?_
    refine G.op1 (op_pickF (Ev.t 19 (bB false)) (Ev.c _ rfl) rfl) rfl ⟨rfl, trivial⟩ trivial ?_
    refine G.endOps ?_
    exact G.arr (J69 false hF) ⟨rfl, rfl, rfl, rfl, rfl, rfl, trivial⟩ ⟨rfl, rfl, rfl, trivial⟩ (by simp only [wellId, List.all_cons, List.all_nil, HE.ids, ids_dat]; rfl)


set_option maxRecDepth 20000 in
set_option maxHeartbeats 2000000 in
theorem ct_law20_short (s_0 : ByteArray) (r : ByteArray) (hF : law20_short s_0 = some r) : Ct Try.prog 22 [.g (.d (vS s_0))] (.one (.d (vS r))) := by
  unfold law20_short at hF
  refine Ct.intro Try.func22 rfl Try.ntmps22 rfl rfl fun M w => ?_
  refine G.seq ?_
  refine G.region ?_
  refine G.op1 (op_assign (Ev.c _ rfl) rfl) rfl trivial trivial ?_
  refine G.endOps ?_
  refine G.seq ?_
  refine G.seq ?_
  refine G.region ?_
  refine G.op1 (op_move (Ev.t 0 (bS s_0)) rfl) rfl ⟨rfl, trivial⟩ trivial ?_
  refine G.op1 (op_lenS Try.underlying9 (Ev.t 3 (bS s_0)) rfl) rfl ⟨rfl, trivial⟩ trivial ?_
  refine G.op1 (op_gtr (Ev.t 4 (bI .i64 (s_0.size : Int))) (Ev.c _ rfl) rfl) rfl ⟨rfl, trivial⟩ trivial ?_
  refine G.endOps ?_
  refine ifS hF (fun hc1 hF => ?_) (fun hc1 hF => ?_)
  · refine G.cond rfl (fun _ => ?_) (fun hx => by rw [hc1] at hx; cases hx)
    refine G.seq ?_
    refine G.region ?_
    refine G.op1 (op_move (Ev.t 0 (bS s_0)) rfl) rfl ⟨rfl, trivial⟩ trivial ?_
    obtain ⟨s2, hs2, hF⟩ := bindS hF
    refine G.op1 (OpL.cast (op_sliceS (lo := none) (hi := some 12) Try.underlying9 (ssub_ok hs2).1 (ssub_ok hs2).2.1 (ssub_ok hs2).2.2.1 (Ev.t 6 (bS s_0)) EvO.none (EvO.some (Ev.c _ rfl)) rfl) (congrArg (fun s => bS s) (ssub_ok hs2).2.2.2)) rfl ⟨rfl, trivial⟩ trivial ?_
    refine G.op1 (op_assign (Ev.t 7 (bS s2)) rfl) rfl ⟨rfl, trivial⟩ trivial ?_
    refine G.endOps ?_
    cases hF
    exact G.ret1 Try.results22 (RVar.tmp 2 _) ⟨rfl, trivial⟩ trivial
  · refine G.cond rfl (fun hx => by rw [hc1] at hx; cases hx) (fun _ => ?_)
    refine G.skip ?_
    refine G.seq ?_
    refine G.region ?_
    refine G.op1 (op_move (Ev.t 0 (bS s_0)) rfl) rfl ⟨rfl, trivial⟩ trivial ?_
    refine G.op1 (op_assign (Ev.t 8 (bS s_0)) rfl) rfl ⟨rfl, trivial⟩ trivial ?_
    refine G.endOps ?_
    cases hF
    exact G.ret1 Try.results22 (RVar.tmp 2 _) ⟨rfl, trivial⟩ trivial


set_option maxRecDepth 20000 in
set_option maxHeartbeats 2000000 in
theorem ct_history_Writes (l_0 : (List Api_Event)) (key_1 : ByteArray) (r : (List Api_Stamp)) (hF : history_Writes l_0 key_1 = some r) : Ct Try.prog 14 [.g (.d (.sl 6 (List.map encApi_Event l_0))), .g (.d (vS key_1))] (.one (.d (.sl 2 (List.map encApi_Stamp r)))) := by
  unfold history_Writes at hF
  refine Ct.intro Try.func14 rfl Try.ntmps14 rfl rfl fun M w => ?_
  refine G.seq ?_
  refine G.region ?_
  refine G.op1 (op_assign (Ev.n 2) rfl) rfl trivial trivial ?_
  refine G.endOps ?_
  refine G.seq ?_
  refine G.region ?_
  refine G.op2 (op_assignRow (E := 27) (size := 2) (k := 2005) (ex := false) rfl rfl) rfl trivial ⟨rfl, trivial⟩ ?_
  refine G.endOps ?_
  refine G.seq ?_
  refine G.seq ?_
  refine G.region ?_
  refine G.op1 (op_move (Ev.t 0 (.g (.d (.sl 6 (List.map encApi_Event l_0))))) rfl) rfl ⟨rfl, trivial⟩ trivial ?_
  refine G.op1 (OpL.cast (op_lenD Try.underlying24 (Ev.t 8 (.g (.d (.sl 6 (List.map encApi_Event l_0))))) rfl) (by rw [List.length_map])) rfl ⟨rfl, trivial⟩ trivial ?_
  refine G.op1 (op_move (Ev.c _ rfl) rfl) rfl trivial trivial ?_
  refine G.endOps ?_
  refine G.joinC (T := (List Api_Stamp)) (fun y1 => ⟨[(5, .one (.own 2005 (List.map encApi_Stamp y1)))], [(2005, some (.row 27 2 (List.map encApi_Stamp y1) false))]⟩) (fun y1 => history_Writes_k1 y1 = some r) (fun y1 hF => ?_) (fun J2 => ?_)
  · unfold history_Writes_k1 at hF
    refine G.seq ?_
    refine G.region ?_
    refine G.op1 (op_move (Ev.t 5 (.own 2005 (List.map encApi_Stamp y1))) rfl) rfl ⟨rfl, trivial⟩ trivial ?_
    refine G.op1 (op_assign (Ev.t 29 (.own 2005 (List.map encApi_Stamp y1))) rfl) rfl ⟨rfl, trivial⟩ trivial ?_
    refine G.endOps ?_
    refine G.view (t := 4) rfl rfl ?_
    cases hF
    exact G.ret1 Try.results14 (RVar.tmp 4 _) ⟨rfl, trivial⟩ trivial
  refine G.block ?_
  refine G.keep (sl' := [(1, oS key_1), (5, .one (.own 2005 (List.map encApi_Stamp ([] : (List Api_Stamp))))), (8, .one (.g (.d (.sl 6 (List.map encApi_Event l_0))))), (9, oI (l_0.length : Int)), (10, oI 0)]) (hp' := [(2005, some (.row 27 2 (List.map encApi_Stamp ([] : (List Api_Stamp))) false))]) ⟨rfl, rfl, rfl, rfl, rfl, trivial⟩ ⟨rfl, trivial⟩ rfl ?_
  refine G.loopF (fun (v3 : Int × (List Api_Stamp)) => ⟨[(1, oS key_1), (5, .one (.own 2005 (List.map encApi_Stamp v3.2))), (8, .one (.g (.d (.sl 6 (List.map encApi_Event l_0))))), (9, oI (l_0.length : Int)), (10, oI v3.1)], [(2005, some (.row 27 2 (List.map encApi_Stamp v3.2) false))]⟩) hF rfl (fun K6 again5 v3 J4 hF => ?_)
  unfold history_Writes_l2 at hF
  refine G.seq ?_
  refine G.region ?_
  refine G.op1 (op_lss (Ev.t 10 (bI .i64 v3.1)) (Ev.t 9 (bI .i64 (l_0.length : Int))) rfl) rfl ⟨rfl, rfl, trivial⟩ trivial ?_
  refine G.endOps ?_
  refine G.seq ?_
  refine ifS hF (fun hc7 hF => ?_) (fun hc7 hF => ?_)
  · refine G.cond rfl (fun _ => ?_) (fun hx => by rw [hc7] at hx; cases hx)
    refine G.skip ?_
    refine G.seq ?_
    refine G.block ?_
    refine G.seq ?_
    refine G.region ?_
    obtain ⟨x8, hx8, hF⟩ := bindS hF
    refine G.op1 (op_index (cs := [vI x8.Kind, vI x8.Client, vS x8.Key, vI x8.Stamp.N, vI x8.Stamp.Site, .sl 3 (List.map encApi_Dep x8.Seen)]) Try.underlying24 ti30 (idx_ok hx8).1 (idx_get hx8 encApi_Event) (Ev.t 8 (.g (.d (.sl 6 (List.map encApi_Event l_0))))) (Ev.t 10 (bI .i64 v3.1)) rfl) rfl ⟨rfl, rfl, trivial⟩ trivial ?_
    refine G.op1 (op_loadAE (ds := [vI x8.Kind, vI x8.Client, vS x8.Key, vI x8.Stamp.N, vI x8.Stamp.Site, .sl 3 (List.map encApi_Dep x8.Seen)]) Try.underlying30 rfl ti30 rfl (Ev.t 12 (.ep [vI x8.Kind, vI x8.Client, vS x8.Key, vI x8.Stamp.N, vI x8.Stamp.Site, .sl 3 (List.map encApi_Dep x8.Seen)])) rfl) rfl ⟨rfl, trivial⟩ trivial ?_
    refine G.op2 (op_alloc (k := 1007) (cs := [bI .i64 0, bI .i64 0, bS ByteArray.empty, bI .i64 0, bI .i64 0, .g (.d (.sl 3 (List.map encApi_Dep ([] : (List Api_Dep)))))]) ti30 ⟨.v _ rfl, .v _ rfl, .v _ rfl, .v _ rfl, .v _ rfl, .n 3, trivial⟩ rfl) rfl trivial ⟨rfl, trivial⟩ ?_
    refine G.op3 (op_storeA (cs' := [bI .i64 x8.Kind, bI .i64 x8.Client, bS x8.Key, bI .i64 x8.Stamp.N, bI .i64 x8.Stamp.Site, .g (.d (.sl 3 (List.map encApi_Dep x8.Seen)))]) ti30 rfl rfl (Ev.t 7 (.ptr 1007 0)) (Ev.t 13 (.g (.agg [vI x8.Kind, vI x8.Client, vS x8.Key, vI x8.Stamp.N, vI x8.Stamp.Site, .sl 3 (List.map encApi_Dep x8.Seen)])))) rfl ⟨rfl, rfl, trivial⟩ ⟨rfl, trivial⟩ ?_
    refine G.endOps ?_
    refine G.seq ?_
    refine G.joinC (T := Bool) (fun y9 => ⟨[(1, oS key_1), (5, .one (.own 2005 (List.map encApi_Stamp v3.2))), (7, .one (.ptr 1007 0)), (8, .one (.g (.d (.sl 6 (List.map encApi_Event l_0))))), (9, oI (l_0.length : Int)), (10, oI v3.1), (22, oB y9)], [(1007, some (.blk 30 [bI .i64 x8.Kind, bI .i64 x8.Client, bS x8.Key, bI .i64 x8.Stamp.N, bI .i64 x8.Stamp.Site, .g (.d (.sl 3 (List.map encApi_Dep x8.Seen)))])), (2005, some (.row 27 2 (List.map encApi_Stamp v3.2) false))]⟩) (fun y9 => history_Writes_k3 again5 v3 x8 y9 = some r) (fun y9 hF => ?_) (fun J12 => ?_)
    · unfold history_Writes_k3 at hF
      refine ifS hF (fun hc10 hF => ?_) (fun hc10 hF => ?_)
      · refine G.cond rfl (fun _ => ?_) (fun hx => by rw [hc10] at hx; cases hx)
        refine G.region ?_
        refine G.op1 (op_move (Ev.t 5 (.own 2005 (List.map encApi_Stamp v3.2))) rfl) rfl ⟨rfl, trivial⟩ trivial ?_
        refine G.op1 (op_fieldP (off' := 3) Try.underlying30 rfl ti27 (by decide) rfl (Ev.t 7 (.ptr 1007 0)) rfl) rfl ⟨rfl, trivial⟩ trivial ?_
        refine G.op1 (op_loadAP (ds := [vI x8.Stamp.N, vI x8.Stamp.Site]) Try.underlying27 rfl ti27 rfl (Ev.t 24 (.ptr 1007 3)) rfl) rfl ⟨rfl, trivial⟩ ⟨rfl, trivial⟩ ?_
        refine G.op1 (op_buildSlice (es := List.map encApi_Stamp [x8.Stamp]) Try.underlying36 ti27 rfl rfl (EvP.cons (Ev.t 25 (.g (.agg [vI x8.Stamp.N, vI x8.Stamp.Site]))) EvP.nil) rfl rfl (by simp [encApi_Stamp]) rfl) rfl ⟨rfl, trivial⟩ trivial ?_
        obtain ⟨l11, hl11, hF⟩ := bindS hF
        refine G.op2 (op_appendO Try.underlying36 ti27 rfl (app_map hl11 encApi_Stamp) (app_b1 hl11 encApi_Stamp) (app_b2 hl11 encApi_Stamp) (Ev.t 23 (.own 2005 (List.map encApi_Stamp v3.2))) (Ev.t 26 (.g (.d (.sl 2 (List.map encApi_Stamp ([x8.Stamp])))))) rfl) rfl ⟨rfl, rfl, trivial⟩ ⟨rfl, trivial⟩ ?_
        refine G.op1 (op_assign (Ev.t 27 (.own 2005 (List.map encApi_Stamp l11))) rfl) rfl ⟨rfl, trivial⟩ trivial ?_
        refine G.endOps ?_
        refine G.endBlock ?_
        refine G.region ?_
        refine G.op1 (op_add (Ev.t 10 (bI .i64 v3.1)) (Ev.c _ rfl) rfl) rfl ⟨rfl, trivial⟩ trivial ?_
        refine G.op1 (op_move (Ev.t 28 (bI .i64 (IntKind.wrap .i64 (v3.1 + 1)))) rfl) rfl ⟨rfl, trivial⟩ trivial ?_
        refine G.endOps ?_
        exact G.arr (J4 (IntKind.wrap .i64 (v3.1 + 1), l11) hF) ⟨rfl, rfl, rfl, rfl, rfl, trivial⟩ ⟨rfl, trivial⟩ rfl
      · refine G.cond rfl (fun hx => by rw [hc10] at hx; cases hx) (fun _ => ?_)
        refine G.skip ?_
        refine G.endBlock ?_
        refine G.region ?_
        refine G.op1 (op_add (Ev.t 10 (bI .i64 v3.1)) (Ev.c _ rfl) rfl) rfl ⟨rfl, trivial⟩ trivial ?_
        refine G.op1 (op_move (Ev.t 28 (bI .i64 (IntKind.wrap .i64 (v3.1 + 1)))) rfl) rfl ⟨rfl, trivial⟩ trivial ?_
        refine G.endOps ?_
        exact G.arr (J4 (IntKind.wrap .i64 (v3.1 + 1), v3.2) hF) ⟨rfl, rfl, rfl, rfl, rfl, trivial⟩ ⟨rfl, trivial⟩ rfl
    refine G.region ?_
    refine G.op1 (op_fieldP (off' := 0) Try.underlying30 rfl ti3 (by decide) rfl (Ev.t 7 (.ptr 1007 0)) rfl) rfl ⟨rfl, trivial⟩ trivial ?_
    refine G.op1 (op_load1P (c := bI .i64 x8.Kind) Try.underlying3 rfl rfl (Ev.t 14 (.ptr 1007 0)) rfl) rfl ⟨rfl, trivial⟩ ⟨rfl, trivial⟩ ?_
    refine G.op1 (op_eqI (Ev.t 15 (bI .i64 x8.Kind)) (Ev.c _ rfl) rfl) rfl ⟨rfl, trivial⟩ trivial ?_
    refine G.op1 (op_move (Ev.t 16 (bB (decide (x8.Kind = 1)))) rfl) rfl ⟨rfl, trivial⟩ trivial ?_
    refine ifS hF (fun hc13 hF => ?_) (fun hc13 hF => ?_)
    · refine G.known (t := 17) hc13 rfl ?_
      refine G.opG1 (op_fieldP (off' := 2) Try.underlying30 rfl ti9 (by decide) rfl (Ev.t 7 (.ptr 1007 0)) rfl) rfl rfl rfl ⟨rfl, trivial⟩ trivial ?_
      refine G.opG1 (op_load1P (c := bS x8.Key) Try.underlying9 rfl rfl (Ev.t 18 (.ptr 1007 2)) rfl) rfl rfl rfl ⟨rfl, trivial⟩ ⟨rfl, trivial⟩ ?_
      refine G.opG1 (op_move (Ev.t 1 (bS key_1)) rfl) rfl rfl rfl ⟨rfl, trivial⟩ trivial ?_
      refine G.opG1 (op_eqS (Ev.t 19 (bS x8.Key)) (Ev.t 20 (bS key_1)) rfl) rfl rfl rfl ⟨rfl, rfl, trivial⟩ trivial ?_
      refine G.op1 (op_pickT (Ev.t 17 (bB true)) (Ev.t 21 (bB (seq x8.Key key_1))) rfl) rfl ⟨rfl, rfl, trivial⟩ trivial ?_
      refine G.endOps ?_
      exact G.arr (J12 (seq x8.Key key_1) hF) ⟨rfl, rfl, rfl, rfl, rfl, rfl, rfl, trivial⟩ ⟨rfl, rfl, trivial⟩ rfl
    · refine G.known (t := 17) hc13 rfl ?_
      refine G.opN1 rfl rfl rfl rfl rfl ?_
      refine G.opN1 rfl rfl rfl rfl rfl ?_
      refine G.opN1 rfl rfl rfl rfl rfl ?_
      refine G.opN1 rfl rfl rfl rfl rfl ?_
      refine G.op1 (op_pickF (Ev.t 17 (bB false)) (Ev.c _ rfl) rfl) rfl ⟨rfl, trivial⟩ trivial ?_
      refine G.endOps ?_
      exact G.arr (J12 false hF) ⟨rfl, rfl, rfl, rfl, rfl, rfl, rfl, trivial⟩ ⟨rfl, rfl, trivial⟩ rfl
  · refine G.cond rfl (fun hx => by rw [hc7] at hx; cases hx) (fun _ => ?_)
    refine G.exit ?_
    refine GX.c ?_
    refine GX.q ?_
    refine GX.bYes ?_
    exact G.arr (J2 v3.2 hF) ⟨rfl, trivial⟩ ⟨rfl, trivial⟩ rfl


set_option maxRecDepth 20000 in
set_option maxHeartbeats 2000000 in
theorem ct_ref20_Writes (l_0 : (List Api_Event)) (key_1 : ByteArray) (r : (List Api_Stamp)) (hF : ref20_Writes l_0 key_1 = some r) : Ct Try.prog 33 [.g (.d (.sl 6 (List.map encApi_Event l_0))), .g (.d (vS key_1))] (.one (.d (.sl 2 (List.map encApi_Stamp r)))) := by
  unfold ref20_Writes at hF
  refine Ct.intro Try.func33 rfl Try.ntmps33 rfl rfl fun M w => ?_
  refine G.seq ?_
  refine G.region ?_
  refine G.op1 (op_assign (Ev.n 2) rfl) rfl trivial trivial ?_
  refine G.endOps ?_
  refine G.seq ?_
  refine G.region ?_
  refine G.op2 (op_assignRow (E := 27) (size := 2) (k := 2005) (ex := false) rfl rfl) rfl trivial ⟨rfl, trivial⟩ ?_
  refine G.endOps ?_
  refine G.seq ?_
  refine G.seq ?_
  refine G.region ?_
  refine G.op1 (op_assign (Ev.c _ rfl) rfl) rfl trivial trivial ?_
  refine G.endOps ?_
  refine G.joinC (T := (List Api_Stamp)) (fun y1 => ⟨[(5, .one (.own 2005 (List.map encApi_Stamp y1)))], [(2005, some (.row 27 2 (List.map encApi_Stamp y1) false))]⟩) (fun y1 => ref20_Writes_k1 y1 = some r) (fun y1 hF => ?_) (fun J2 => ?_)
  · unfold ref20_Writes_k1 at hF
    refine G.seq ?_
    refine G.region ?_
    refine G.op1 (op_move (Ev.t 5 (.own 2005 (List.map encApi_Stamp y1))) rfl) rfl ⟨rfl, trivial⟩ trivial ?_
    refine G.op1 (op_assign (Ev.t 36 (.own 2005 (List.map encApi_Stamp y1))) rfl) rfl ⟨rfl, trivial⟩ trivial ?_
    refine G.endOps ?_
    refine G.view (t := 4) rfl rfl ?_
    cases hF
    exact G.ret1 Try.results33 (RVar.tmp 4 _) ⟨rfl, trivial⟩ trivial
  refine G.block ?_
  refine G.keep (sl' := [(0, .one (.g (.d (.sl 6 (List.map encApi_Event l_0))))), (1, oS key_1), (5, .one (.own 2005 (List.map encApi_Stamp ([] : (List Api_Stamp))))), (6, oI 0)]) (hp' := [(2005, some (.row 27 2 (List.map encApi_Stamp ([] : (List Api_Stamp))) false))]) ⟨rfl, rfl, rfl, rfl, trivial⟩ ⟨rfl, trivial⟩ rfl ?_
  refine G.loopF (fun (v3 : Int × (List Api_Stamp)) => ⟨[(0, .one (.g (.d (.sl 6 (List.map encApi_Event l_0))))), (1, oS key_1), (5, .one (.own 2005 (List.map encApi_Stamp v3.2))), (6, oI v3.1)], [(2005, some (.row 27 2 (List.map encApi_Stamp v3.2) false))]⟩) hF rfl (fun K6 again5 v3 J4 hF => ?_)
  unfold ref20_Writes_l2 at hF
  refine G.seq ?_
  refine G.seq ?_
  refine G.region ?_
  refine G.op1 (op_move (Ev.t 6 (bI .i64 v3.1)) rfl) rfl ⟨rfl, trivial⟩ trivial ?_
  refine G.op1 (op_move (Ev.t 0 (.g (.d (.sl 6 (List.map encApi_Event l_0))))) rfl) rfl ⟨rfl, trivial⟩ trivial ?_
  refine G.op1 (OpL.cast (op_lenD Try.underlying24 (Ev.t 8 (.g (.d (.sl 6 (List.map encApi_Event l_0))))) rfl) (by rw [List.length_map])) rfl ⟨rfl, trivial⟩ trivial ?_
  refine G.op1 (op_lss (Ev.t 7 (bI .i64 v3.1)) (Ev.t 9 (bI .i64 (l_0.length : Int))) rfl) rfl ⟨rfl, rfl, trivial⟩ trivial ?_
  refine G.endOps ?_
  refine ifS hF (fun hc7 hF => ?_) (fun hc7 hF => ?_)
  · refine G.cond rfl (fun _ => ?_) (fun hx => by rw [hc7] at hx; cases hx)
    refine G.skip ?_
    refine G.seq ?_
    refine G.block ?_
    refine G.seq ?_
    refine G.joinC (T := Bool) (fun y8 => ⟨[(0, .one (.g (.d (.sl 6 (List.map encApi_Event l_0))))), (1, oS key_1), (5, .one (.own 2005 (List.map encApi_Stamp v3.2))), (6, oI v3.1), (27, oB y8)], [(2005, some (.row 27 2 (List.map encApi_Stamp v3.2) false))]⟩) (fun y8 => ref20_Writes_k3 l_0 again5 v3 y8 = some r) (fun y8 hF => ?_) (fun J12 => ?_)
    · unfold ref20_Writes_k3 at hF
      refine ifS hF (fun hc9 hF => ?_) (fun hc9 hF => ?_)
      · refine G.cond rfl (fun _ => ?_) (fun hx => by rw [hc9] at hx; cases hx)
        refine G.region ?_
        refine G.op1 (op_move (Ev.t 5 (.own 2005 (List.map encApi_Stamp v3.2))) rfl) rfl ⟨rfl, trivial⟩ trivial ?_
        refine G.op1 (op_move (Ev.t 0 (.g (.d (.sl 6 (List.map encApi_Event l_0))))) rfl) rfl ⟨rfl, trivial⟩ trivial ?_
        refine G.op1 (op_move (Ev.t 6 (bI .i64 v3.1)) rfl) rfl ⟨rfl, trivial⟩ trivial ?_
        obtain ⟨x10, hx10, hF⟩ := bindS hF
        refine G.op1 (op_index (cs := [vI x10.Kind, vI x10.Client, vS x10.Key, vI x10.Stamp.N, vI x10.Stamp.Site, .sl 3 (List.map encApi_Dep x10.Seen)]) Try.underlying24 ti30 (idx_ok hx10).1 (idx_get hx10 encApi_Event) (Ev.t 29 (.g (.d (.sl 6 (List.map encApi_Event l_0))))) (Ev.t 30 (bI .i64 v3.1)) rfl) rfl ⟨rfl, rfl, trivial⟩ trivial ?_
        refine G.op1 (op_fieldE (cs' := [vI x10.Stamp.N, vI x10.Stamp.Site, .sl 3 (List.map encApi_Dep x10.Seen)]) Try.underlying30 rfl ti27 (by decide) rfl (Ev.t 31 (.ep [vI x10.Kind, vI x10.Client, vS x10.Key, vI x10.Stamp.N, vI x10.Stamp.Site, .sl 3 (List.map encApi_Dep x10.Seen)])) rfl) rfl ⟨rfl, trivial⟩ trivial ?_
        refine G.op1 (op_loadAE (ds := [vI x10.Stamp.N, vI x10.Stamp.Site]) Try.underlying27 rfl ti27 rfl (Ev.t 32 (.ep [vI x10.Stamp.N, vI x10.Stamp.Site, .sl 3 (List.map encApi_Dep x10.Seen)])) rfl) rfl ⟨rfl, trivial⟩ trivial ?_
        refine G.op1 (op_buildSlice (es := List.map encApi_Stamp [x10.Stamp]) Try.underlying36 ti27 rfl rfl (EvP.cons (Ev.t 33 (.g (.agg [vI x10.Stamp.N, vI x10.Stamp.Site]))) EvP.nil) rfl rfl (by simp [encApi_Stamp]) rfl) rfl ⟨rfl, trivial⟩ trivial ?_
        obtain ⟨l11, hl11, hF⟩ := bindS hF
        refine G.op2 (op_appendO Try.underlying36 ti27 rfl (app_map hl11 encApi_Stamp) (app_b1 hl11 encApi_Stamp) (app_b2 hl11 encApi_Stamp) (Ev.t 28 (.own 2005 (List.map encApi_Stamp v3.2))) (Ev.t 34 (.g (.d (.sl 2 (List.map encApi_Stamp ([x10.Stamp])))))) rfl) rfl ⟨rfl, rfl, trivial⟩ ⟨rfl, trivial⟩ ?_
        refine G.op1 (op_assign (Ev.t 35 (.own 2005 (List.map encApi_Stamp l11))) rfl) rfl ⟨rfl, trivial⟩ trivial ?_
        refine G.endOps ?_
        refine G.endBlock ?_
        refine G.region ?_
        refine G.op1 (op_move (Ev.t 6 (bI .i64 v3.1)) rfl) rfl ⟨rfl, trivial⟩ trivial ?_
        refine G.op1 (op_add (Ev.t 11 (bI .i64 v3.1)) (Ev.c _ rfl) rfl) rfl ⟨rfl, trivial⟩ trivial ?_
        refine G.op1 (op_assign (Ev.t 12 (bI .i64 (IntKind.wrap .i64 (v3.1 + 1)))) rfl) rfl ⟨rfl, trivial⟩ trivial ?_
        refine G.endOps ?_
        exact G.arr (J4 (IntKind.wrap .i64 (v3.1 + 1), l11) hF) ⟨rfl, rfl, rfl, rfl, trivial⟩ ⟨rfl, trivial⟩ rfl
      · refine G.cond rfl (fun hx => by rw [hc9] at hx; cases hx) (fun _ => ?_)
        refine G.skip ?_
        refine G.endBlock ?_
        refine G.region ?_
        refine G.op1 (op_move (Ev.t 6 (bI .i64 v3.1)) rfl) rfl ⟨rfl, trivial⟩ trivial ?_
        refine G.op1 (op_add (Ev.t 11 (bI .i64 v3.1)) (Ev.c _ rfl) rfl) rfl ⟨rfl, trivial⟩ trivial ?_
        refine G.op1 (op_assign (Ev.t 12 (bI .i64 (IntKind.wrap .i64 (v3.1 + 1)))) rfl) rfl ⟨rfl, trivial⟩ trivial ?_
        refine G.endOps ?_
        exact G.arr (J4 (IntKind.wrap .i64 (v3.1 + 1), v3.2) hF) ⟨rfl, rfl, rfl, rfl, trivial⟩ ⟨rfl, trivial⟩ rfl
    refine G.region ?_
    refine G.op1 (op_move (Ev.t 0 (.g (.d (.sl 6 (List.map encApi_Event l_0))))) rfl) rfl ⟨rfl, trivial⟩ trivial ?_
    refine G.op1 (op_move (Ev.t 6 (bI .i64 v3.1)) rfl) rfl ⟨rfl, trivial⟩ trivial ?_
    obtain ⟨x13, hx13, hF⟩ := bindS hF
    refine G.op1 (op_index (cs := [vI x13.Kind, vI x13.Client, vS x13.Key, vI x13.Stamp.N, vI x13.Stamp.Site, .sl 3 (List.map encApi_Dep x13.Seen)]) Try.underlying24 ti30 (idx_ok hx13).1 (idx_get hx13 encApi_Event) (Ev.t 13 (.g (.d (.sl 6 (List.map encApi_Event l_0))))) (Ev.t 14 (bI .i64 v3.1)) rfl) rfl ⟨rfl, rfl, trivial⟩ trivial ?_
    refine G.op1 (op_fieldE (cs' := [vI x13.Kind, vI x13.Client, vS x13.Key, vI x13.Stamp.N, vI x13.Stamp.Site, .sl 3 (List.map encApi_Dep x13.Seen)]) Try.underlying30 rfl ti3 (by decide) rfl (Ev.t 15 (.ep [vI x13.Kind, vI x13.Client, vS x13.Key, vI x13.Stamp.N, vI x13.Stamp.Site, .sl 3 (List.map encApi_Dep x13.Seen)])) rfl) rfl ⟨rfl, trivial⟩ trivial ?_
    refine G.op1 (op_load1E (c := vI x13.Kind) Try.underlying3 rfl rfl (Ev.t 16 (.ep [vI x13.Kind, vI x13.Client, vS x13.Key, vI x13.Stamp.N, vI x13.Stamp.Site, .sl 3 (List.map encApi_Dep x13.Seen)])) rfl) rfl ⟨rfl, trivial⟩ trivial ?_
    refine G.op1 (op_eqI (Ev.t 17 (bI .i64 x13.Kind)) (Ev.c _ rfl) rfl) rfl ⟨rfl, trivial⟩ trivial ?_
    refine G.op1 (op_move (Ev.t 18 (bB (decide (x13.Kind = 1)))) rfl) rfl ⟨rfl, trivial⟩ trivial ?_
    refine ifS hF (fun hc14 hF => ?_) (fun hc14 hF => ?_)
    · refine G.known (t := 19) hc14 rfl ?_
      refine G.opG1 (op_move (Ev.t 0 (.g (.d (.sl 6 (List.map encApi_Event l_0))))) rfl) rfl rfl rfl ⟨rfl, trivial⟩ trivial ?_
      refine G.opG1 (op_move (Ev.t 6 (bI .i64 v3.1)) rfl) rfl rfl rfl ⟨rfl, trivial⟩ trivial ?_
      obtain ⟨x15, hx15, hF⟩ := bindS hF
      refine G.opG1 (op_index (cs := [vI x15.Kind, vI x15.Client, vS x15.Key, vI x15.Stamp.N, vI x15.Stamp.Site, .sl 3 (List.map encApi_Dep x15.Seen)]) Try.underlying24 ti30 (idx_ok hx15).1 (idx_get hx15 encApi_Event) (Ev.t 20 (.g (.d (.sl 6 (List.map encApi_Event l_0))))) (Ev.t 21 (bI .i64 v3.1)) rfl) rfl rfl rfl ⟨rfl, rfl, trivial⟩ trivial ?_
      refine G.opG1 (op_fieldE (cs' := [vS x15.Key, vI x15.Stamp.N, vI x15.Stamp.Site, .sl 3 (List.map encApi_Dep x15.Seen)]) Try.underlying30 rfl ti9 (by decide) rfl (Ev.t 22 (.ep [vI x15.Kind, vI x15.Client, vS x15.Key, vI x15.Stamp.N, vI x15.Stamp.Site, .sl 3 (List.map encApi_Dep x15.Seen)])) rfl) rfl rfl rfl ⟨rfl, trivial⟩ trivial ?_
      refine G.opG1 (op_load1E (c := vS x15.Key) Try.underlying9 rfl rfl (Ev.t 23 (.ep [vS x15.Key, vI x15.Stamp.N, vI x15.Stamp.Site, .sl 3 (List.map encApi_Dep x15.Seen)])) rfl) rfl rfl rfl ⟨rfl, trivial⟩ trivial ?_
      refine G.opG1 (op_move (Ev.t 1 (bS key_1)) rfl) rfl rfl rfl ⟨rfl, trivial⟩ trivial ?_
      refine G.opG1 (op_eqS (Ev.t 24 (bS x15.Key)) (Ev.t 25 (bS key_1)) rfl) rfl rfl rfl ⟨rfl, rfl, trivial⟩ trivial ?_
      refine G.op1 (op_pickT (Ev.t 19 (bB true)) (Ev.t 26 (bB (seq x15.Key key_1))) rfl) rfl ⟨rfl, rfl, trivial⟩ trivial ?_
      refine G.endOps ?_
      exact G.arr (J12 (seq x15.Key key_1) hF) ⟨rfl, rfl, rfl, rfl, rfl, trivial⟩ ⟨rfl, trivial⟩ rfl
    · refine G.known (t := 19) hc14 rfl ?_
      refine G.opN1 rfl rfl rfl rfl rfl ?_
      refine G.opN1 rfl rfl rfl rfl rfl ?_
      refine G.opN1 rfl rfl rfl rfl rfl ?_
      refine G.opN1 rfl rfl rfl rfl rfl ?_
      refine G.opN1 rfl rfl rfl rfl rfl ?_
      refine G.opN1 rfl rfl rfl rfl rfl ?_
      refine G.opN1 rfl rfl rfl rfl rfl ?_
      refine G.op1 (op_pickF (Ev.t 19 (bB false)) (Ev.c _ rfl) rfl) rfl ⟨rfl, trivial⟩ trivial ?_
      refine G.endOps ?_
      exact G.arr (J12 false hF) ⟨rfl, rfl, rfl, rfl, rfl, trivial⟩ ⟨rfl, trivial⟩ rfl
  · refine G.cond rfl (fun hx => by rw [hc7] at hx; cases hx) (fun _ => ?_)
    refine G.exit ?_
    refine GX.c ?_
    refine GX.q ?_
    refine GX.bYes ?_
    exact G.arr (J2 v3.2 hF) ⟨rfl, trivial⟩ ⟨rfl, trivial⟩ rfl


set_option maxRecDepth 20000 in
set_option maxHeartbeats 2000000 in
theorem ct_slices_Clone_Event (s_0 : (List Api_Event)) (r : (List Api_Event)) (hF : slices_Clone_Event s_0 = some r) : Ct Try.prog 30 [.g (.d (.sl 6 (List.map encApi_Event s_0)))] (.new 30 6 (List.map encApi_Event r)) := by
  unfold slices_Clone_Event at hF
  refine Ct.intro Try.func30 rfl Try.ntmps30 rfl rfl fun M w => ?_
  refine G.seq ?_
  refine G.region ?_
  refine G.op1 (op_assign (c := .x (.slice none 0 0)) (Ev.x _) rfl) rfl trivial trivial ?_
  refine G.endOps ?_
  refine G.seq ?_
  refine G.seq ?_
  refine G.region ?_
  refine G.op1 (op_move (Ev.t 0 (.g (.d (.sl 6 (List.map encApi_Event s_0))))) rfl) rfl ⟨rfl, trivial⟩ trivial ?_
  refine G.opNil Try.underlying24 (Ev.t 3 (.g (.d (.sl 6 (List.map encApi_Event s_0))))) rfl ⟨rfl, trivial⟩ (fun nilb1 hnilb1 => ?_)
  refine G.endOps ?_
  refine G.cond rfl (fun hx => ?_) (fun hx => ?_)
  · replace hF := cloneNil (hnilb1 hx) hF
    refine G.seq ?_
    refine G.region ?_
    refine G.op1 (op_assign (c := .x (.slice none 0 0)) (Ev.x _) rfl) rfl trivial trivial ?_
    refine G.endOps ?_
    cases hF
    exact G.retNil (T := 30) Try.results30 ti30 rfl ⟨rfl, trivial⟩
  · clear hnilb1
    refine G.skip ?_
    refine G.seq ?_
    refine G.region ?_
    refine G.op2 (op_buildRow (kk := 2005) Try.underlying24 ti30 rfl rfl) rfl trivial ⟨rfl, trivial⟩ ?_
    refine G.keep (sl' := [(0, .one (.g (.d (.sl 6 (List.map encApi_Event s_0))))), (2, .one (.x (.slice none 0 0))), (3, .one (.g (.d (.sl 6 (List.map encApi_Event s_0))))), (4, oB nilb1), (5, .one (.own 2005 (List.map encApi_Event ([] : List Api_Event))))]) (hp' := [(2005, some (.row 30 6 (List.map encApi_Event ([] : List Api_Event)) true))]) ⟨rfl, rfl, rfl, rfl, rfl, trivial⟩ ⟨rfl, trivial⟩ rfl ?_
    refine G.op1 (op_move (Ev.t 0 (.g (.d (.sl 6 (List.map encApi_Event s_0))))) rfl) rfl ⟨rfl, trivial⟩ trivial ?_
    obtain ⟨l2, hl2, hF⟩ := bindS hF
    refine G.op2 (op_appendO Try.underlying24 ti30 rfl (app_map hl2 encApi_Event) (app_b1 hl2 encApi_Event) (app_b2 hl2 encApi_Event) (Ev.t 5 (.own 2005 (List.map encApi_Event ([] : List Api_Event)))) (Ev.t 6 (.g (.d (.sl 6 (List.map encApi_Event s_0))))) rfl) rfl ⟨rfl, rfl, trivial⟩ ⟨rfl, trivial⟩ ?_
    refine G.op1 (op_assign (Ev.t 7 (.own 2005 (List.map encApi_Event l2))) rfl) rfl ⟨rfl, trivial⟩ trivial ?_
    refine G.endOps ?_
    cases hF
    exact G.retNew Try.results30 rfl rfl


set_option maxRecDepth 20000 in
set_option maxHeartbeats 2000000 in
theorem ct_history_Of_1 (e_0 : Api_Event) (c0 : Int) (r : Bool) (hF : history_Of_1 e_0 c0 = some r) : Ct Try.prog 31 [.g (.agg (encApi_Event e_0)), .ep [vI c0]] (.one (.d (vB r))) := by
  unfold history_Of_1 at hF
  refine Ct.intro Try.func31 rfl Try.ntmps31 rfl rfl fun M w => ?_
  refine G.seq ?_
  refine G.region ?_
  refine G.op2 (op_boxA (k := 1002) (Ev.t 0 (.g (.agg [vI e_0.Kind, vI e_0.Client, vS e_0.Key, vI e_0.Stamp.N, vI e_0.Stamp.Site, .sl 3 (List.map encApi_Dep e_0.Seen)]))) rfl) rfl ⟨rfl, trivial⟩ ⟨rfl, trivial⟩ ?_
  refine G.op1 (op_assign (Ev.c _ rfl) rfl) rfl trivial trivial ?_
  refine G.endOps ?_
  refine G.seq ?_
  refine G.region ?_
  refine G.op1 (op_fieldP (off' := 1) Try.underlying30 rfl ti3 (by decide) rfl (Ev.t 2 (.ptr 1002 0)) rfl) rfl ⟨rfl, trivial⟩ trivial ?_
  refine G.op1 (op_load1P (c := bI .i64 e_0.Client) Try.underlying3 rfl rfl (Ev.t 4 (.ptr 1002 1)) rfl) rfl ⟨rfl, trivial⟩ ⟨rfl, trivial⟩ ?_
  refine G.op1 (op_load1E (c := vI c0) Try.underlying3 rfl rfl (Ev.t 1 (.ep [vI c0])) rfl) rfl ⟨rfl, trivial⟩ trivial ?_
  refine G.op1 (op_neI (Ev.t 5 (bI .i64 e_0.Client)) (Ev.t 6 (bI .i64 c0)) rfl) rfl ⟨rfl, rfl, trivial⟩ trivial ?_
  refine G.op1 (op_assign (Ev.t 7 (bB (!decide (e_0.Client = c0)))) rfl) rfl ⟨rfl, trivial⟩ trivial ?_
  refine G.endOps ?_
  cases hF
  exact G.ret1 Try.results31 (RVar.tmp 3 _) ⟨rfl, trivial⟩ trivial


set_option maxRecDepth 20000 in
set_option maxHeartbeats 2000000 in
theorem ct_slices_IndexFunc_Event (s_0 : (List Api_Event)) (f_1 : (Api_Event → Option Bool)) (r : Int) (hF : slices_IndexFunc_Event s_0 f_1 = some r) : Ct Try.prog 50 [.g (.d (.sl 6 (List.map encApi_Event s_0))), .sem (sem1 (fun x => .agg (encApi_Event x)) (fun y => .bool y) f_1)] (.one (.d (vI r))) := by
  unfold slices_IndexFunc_Event at hF
  refine Ct.intro Try.func50 rfl Try.ntmps50 rfl rfl fun M w => ?_
  refine G.seq ?_
  refine G.region ?_
  refine G.op1 (op_assign (Ev.c _ rfl) rfl) rfl trivial trivial ?_
  refine G.endOps ?_
  refine G.seq ?_
  refine G.seq ?_
  refine G.region ?_
  refine G.op1 (op_move (Ev.t 0 (.g (.d (.sl 6 (List.map encApi_Event s_0))))) rfl) rfl ⟨rfl, trivial⟩ trivial ?_
  refine G.op1 (OpL.cast (op_lenD Try.underlying24 (Ev.t 6 (.g (.d (.sl 6 (List.map encApi_Event s_0))))) rfl) (by rw [List.length_map])) rfl ⟨rfl, trivial⟩ trivial ?_
  refine G.op1 (op_move (Ev.c _ rfl) rfl) rfl trivial trivial ?_
  refine G.endOps ?_
  refine G.joinC (T := Unit) (fun y1 => ⟨[], []⟩) (fun y1 => slices_IndexFunc_Event_k1 y1 = some r) (fun y1 hF => ?_) (fun J2 => ?_)
  · unfold slices_IndexFunc_Event_k1 at hF
    refine G.seq ?_
    refine G.region ?_
    refine G.op1 (op_assign (Ev.c _ rfl) rfl) rfl trivial trivial ?_
    refine G.endOps ?_
    cases hF
    exact G.ret1 Try.results50 (RVar.tmp 4 _) ⟨rfl, trivial⟩ trivial
  refine G.block ?_
  refine G.keep (sl' := [(0, .one (.g (.d (.sl 6 (List.map encApi_Event s_0))))), (1, .one (.sem (sem1 (fun x => .agg (encApi_Event x)) (fun y => .bool y) f_1))), (7, oI (s_0.length : Int)), (8, oI 0)]) (hp' := []) ⟨rfl, rfl, rfl, rfl, trivial⟩ trivial rfl ?_
  refine G.loopF (fun (v3 : Int) => ⟨[(0, .one (.g (.d (.sl 6 (List.map encApi_Event s_0))))), (1, .one (.sem (sem1 (fun x => .agg (encApi_Event x)) (fun y => .bool y) f_1))), (7, oI (s_0.length : Int)), (8, oI v3)], []⟩) hF rfl (fun K6 again5 v3 J4 hF => ?_)
  unfold slices_IndexFunc_Event_l2 at hF
  refine G.seq ?_
  refine G.region ?_
  refine G.op1 (op_lss (Ev.t 8 (bI .i64 v3)) (Ev.t 7 (bI .i64 (s_0.length : Int))) rfl) rfl ⟨rfl, rfl, trivial⟩ trivial ?_
  refine G.endOps ?_
  refine G.seq ?_
  refine ifS hF (fun hc7 hF => ?_) (fun hc7 hF => ?_)
  · refine G.cond rfl (fun _ => ?_) (fun hx => by rw [hc7] at hx; cases hx)
    refine G.skip ?_
    refine G.seq ?_
    refine G.block ?_
    refine G.seq ?_
    refine G.region ?_
    refine G.op1 (op_move (Ev.t 8 (bI .i64 v3)) rfl) rfl ⟨rfl, trivial⟩ trivial ?_
    refine G.op1 (op_assign (Ev.t 10 (bI .i64 v3)) rfl) rfl ⟨rfl, trivial⟩ trivial ?_
    refine G.endOps ?_
    refine G.seq ?_
    refine G.region ?_
    refine G.op1 (op_move (Ev.t 1 (.sem (sem1 (fun x => .agg (encApi_Event x)) (fun y => .bool y) f_1))) rfl) rfl ⟨rfl, trivial⟩ trivial ?_
    refine G.op1 (op_move (Ev.t 0 (.g (.d (.sl 6 (List.map encApi_Event s_0))))) rfl) rfl ⟨rfl, trivial⟩ trivial ?_
    refine G.op1 (op_move (Ev.t 5 (bI .i64 v3)) rfl) rfl ⟨rfl, trivial⟩ trivial ?_
    obtain ⟨x8, hx8, hF⟩ := bindS hF
    refine G.op1 (op_index (cs := [vI x8.Kind, vI x8.Client, vS x8.Key, vI x8.Stamp.N, vI x8.Stamp.Site, .sl 3 (List.map encApi_Dep x8.Seen)]) Try.underlying24 ti30 (idx_ok hx8).1 (idx_get hx8 encApi_Event) (Ev.t 12 (.g (.d (.sl 6 (List.map encApi_Event s_0))))) (Ev.t 13 (bI .i64 v3)) rfl) rfl ⟨rfl, rfl, trivial⟩ trivial ?_
    refine G.op1 (op_loadAE (ds := [vI x8.Kind, vI x8.Client, vS x8.Key, vI x8.Stamp.N, vI x8.Stamp.Site, .sl 3 (List.map encApi_Dep x8.Seen)]) Try.underlying30 rfl ti30 rfl (Ev.t 14 (.ep [vI x8.Kind, vI x8.Client, vS x8.Key, vI x8.Stamp.N, vI x8.Stamp.Site, .sl 3 (List.map encApi_Dep x8.Seen)])) rfl) rfl ⟨rfl, trivial⟩ trivial ?_
    obtain ⟨r9, hr9, hF⟩ := bindS hF
    refine G.op1 (op_callSem (t := 11) (v := .bool r9) (Φ := sem1 (fun x => .agg (encApi_Event x)) (fun y => .bool y) f_1) ⟨x8, r9, rfl, hr9, rfl⟩ rfl (EvL.cons (Ev.t 15 (.g (.agg [vI x8.Kind, vI x8.Client, vS x8.Key, vI x8.Stamp.N, vI x8.Stamp.Site, .sl 3 (List.map encApi_Dep x8.Seen)]))) EvL.nil) rfl) rfl ⟨rfl, rfl, trivial⟩ trivial ?_
    refine G.endOps ?_
    refine ifS hF (fun hc10 hF => ?_) (fun hc10 hF => ?_)
    · refine G.cond rfl (fun _ => ?_) (fun hx => by rw [hc10] at hx; cases hx)
      refine G.seq ?_
      refine G.region ?_
      refine G.op1 (op_move (Ev.t 5 (bI .i64 v3)) rfl) rfl ⟨rfl, trivial⟩ trivial ?_
      refine G.op1 (op_assign (Ev.t 17 (bI .i64 v3)) rfl) rfl ⟨rfl, trivial⟩ trivial ?_
      refine G.endOps ?_
      cases hF
      exact G.ret1 Try.results50 (RVar.tmp 4 _) ⟨rfl, trivial⟩ trivial
    · refine G.cond rfl (fun hx => by rw [hc10] at hx; cases hx) (fun _ => ?_)
      refine G.skip ?_
      refine G.endBlock ?_
      refine G.region ?_
      refine G.op1 (op_add (Ev.t 8 (bI .i64 v3)) (Ev.c _ rfl) rfl) rfl ⟨rfl, trivial⟩ trivial ?_
      refine G.op1 (op_move (Ev.t 18 (bI .i64 (IntKind.wrap .i64 (v3 + 1)))) rfl) rfl ⟨rfl, trivial⟩ trivial ?_
      refine G.endOps ?_
      exact G.arr (J4 (IntKind.wrap .i64 (v3 + 1)) hF) ⟨rfl, rfl, rfl, rfl, trivial⟩ trivial rfl
  · refine G.cond rfl (fun hx => by rw [hc7] at hx; cases hx) (fun _ => ?_)
    refine G.exit ?_
    refine GX.c ?_
    refine GX.q ?_
    refine GX.bYes ?_
    exact G.arr (J2 () hF) trivial trivial rfl


set_option maxRecDepth 20000 in
set_option maxHeartbeats 2000000 in
theorem ct_slices_DeleteFunc_Event (s_0 : (List Api_Event)) (del_1 : (Api_Event → Option Bool)) (r : (List Api_Event)) (hF : slices_DeleteFunc_Event s_0 del_1 = some r) : Ct Try.prog 29 [.row 30 6 (List.map encApi_Event s_0), .sem (sem1 (fun x => .agg (encApi_Event x)) (fun y => .bool y) del_1)] (.new 30 6 (List.map encApi_Event r)) := by
  unfold slices_DeleteFunc_Event at hF
  refine Ct.introRow Try.func29 rfl Try.ntmps29 rfl fun M K w => ?_
  refine G.seq ?_
  refine G.region ?_
  refine G.op1 (op_assign (c := .x (.slice none 0 0)) (Ev.x _) rfl) rfl trivial trivial ?_
  refine G.endOps ?_
  refine G.seq ?_
  refine G.region ?_
  refine G.op1 (op_move (Ev.t 0 (.own 0 (List.map encApi_Event s_0))) rfl) rfl ⟨rfl, trivial⟩ trivial ?_
  refine G.op1 (op_move (Ev.t 1 (.sem (sem1 (fun x => .agg (encApi_Event x)) (fun y => .bool y) del_1))) rfl) rfl ⟨rfl, trivial⟩ trivial ?_
  obtain ⟨r1, hr1, hF⟩ := bindS hF
  refine G.op1 (op_callQ (sv := oI r1) cf50 (ct_slices_IndexFunc_Event s_0 del_1 r1 hr1) rfl rfl (EvQL.cons (EvQ.own (Ev.t 8 (.own 0 (List.map encApi_Event s_0)))) (EvQL.cons (EvQ.sem (Ev.t 9 (.sem (sem1 (fun x => .agg (encApi_Event x)) (fun y => .bool y) del_1)))) EvQL.nil)) rfl) rfl ⟨rfl, rfl, trivial⟩ ⟨rfl, trivial⟩ ?_
  refine G.op1 (op_assign (Ev.t 10 (bI .i64 r1)) rfl) rfl ⟨rfl, trivial⟩ trivial ?_
  refine G.endOps ?_
  refine G.seq ?_
  refine G.seq ?_
  refine G.region ?_
  refine G.op1 (op_move (Ev.t 5 (bI .i64 r1)) rfl) rfl ⟨rfl, trivial⟩ trivial ?_
  refine G.op1 (op_eqI (Ev.t 11 (bI .i64 r1)) (Ev.c _ rfl) rfl) rfl ⟨rfl, trivial⟩ trivial ?_
  refine G.endOps ?_
  refine ifS hF (fun hc2 hF => ?_) (fun hc2 hF => ?_)
  · refine G.cond rfl (fun _ => ?_) (fun hx => by rw [hc2] at hx; cases hx)
    refine G.seq ?_
    refine G.region ?_
    refine G.op1 (op_move (Ev.t 0 (.own 0 (List.map encApi_Event s_0))) rfl) rfl ⟨rfl, trivial⟩ trivial ?_
    refine G.op1 (op_assign (Ev.t 13 (.own 0 (List.map encApi_Event s_0))) rfl) rfl ⟨rfl, trivial⟩ trivial ?_
    refine G.endOps ?_
    cases hF
    exact G.retNew Try.results29 rfl rfl
  · refine G.cond rfl (fun hx => by rw [hc2] at hx; cases hx) (fun _ => ?_)
    refine G.skip ?_
    refine G.seq ?_
    refine G.seq ?_
    refine G.region ?_
    refine G.op1 (op_move (Ev.t 5 (bI .i64 r1)) rfl) rfl ⟨rfl, trivial⟩ trivial ?_
    refine G.op1 (op_add (Ev.t 14 (bI .i64 r1)) (Ev.c _ rfl) rfl) rfl ⟨rfl, trivial⟩ trivial ?_
    refine G.op1 (op_assign (Ev.t 15 (bI .i64 (IntKind.wrap .i64 (r1 + 1)))) rfl) rfl ⟨rfl, trivial⟩ trivial ?_
    refine G.endOps ?_
    refine G.joinC (T := Int × (List Api_Event)) (fun y3 => ⟨[(0, .one (.own 0 (List.map encApi_Event y3.2))), (5, oI y3.1)], [(0, some (.row 30 6 (List.map encApi_Event y3.2) true))]⟩) (fun y3 => slices_DeleteFunc_Event_k1 y3 = some r) (fun y3 hF => ?_) (fun J6 => ?_)
    · unfold slices_DeleteFunc_Event_k1 at hF
      refine G.seq ?_
      refine G.region ?_
      refine G.op1 (op_move (Ev.t 0 (.own 0 (List.map encApi_Event y3.2))) rfl) rfl ⟨rfl, trivial⟩ trivial ?_
      refine G.op1 (op_move (Ev.t 5 (bI .i64 y3.1)) rfl) rfl ⟨rfl, trivial⟩ trivial ?_
      obtain ⟨l4, hl4, hF⟩ := bindS hF
      refine G.clearRow (zs := [vI 0, vI 0, vS ByteArray.empty, vI 0, vI 0, .sl 3 (List.map encApi_Dep ([] : (List Api_Dep)))]) Try.underlying24 ti30 ⟨.v _ rfl, .v _ rfl, .v _ rfl, .v _ rfl, .v _ rfl, .n 3, trivial⟩ rfl (zeroes_ok hl4 encApi_Event).1 (zeroes_ok hl4 encApi_Event).2.1 (zeroes_ok hl4 encApi_Event).2.2 (Ev.t 36 (.own 0 (List.map encApi_Event y3.2))) (Ev.t 37 (bI .i64 y3.1)) rfl ⟨rfl, rfl, trivial⟩ rfl ?_
      refine G.renew (t := 0) rfl rfl (zeroes_len hl4 encApi_Event) ?_
      refine G.renew (t := 36) rfl rfl (zeroes_len hl4 encApi_Event) ?_
      refine G.endOps ?_
      refine G.seq ?_
      refine G.region ?_
      refine G.op1 (op_move (Ev.t 0 (.own 0 (List.map encApi_Event l4))) rfl) rfl ⟨rfl, trivial⟩ trivial ?_
      refine G.op1 (op_move (Ev.t 5 (bI .i64 y3.1)) rfl) rfl ⟨rfl, trivial⟩ trivial ?_
      obtain ⟨l5, hl5, hF⟩ := bindS hF
      refine G.cutRow (sl' := [(5, oI y3.1), (37, oI y3.1), (40, oI y3.1)]) Try.underlying24 ti30 (sub_ok0 hl5 encApi_Event).1 (sub_ok0 hl5 encApi_Event).2.1 (sub_ok0 hl5 encApi_Event).2.2 (Ev.t 39 (.own 0 (List.map encApi_Event l4))) (Ev.t 40 (bI .i64 y3.1)) rfl ⟨rfl, rfl, trivial⟩ rfl ⟨rfl, rfl, rfl, trivial⟩ rfl ?_
      refine G.op1 (op_assign (Ev.t 41 (.own 0 (List.map encApi_Event l5))) rfl) rfl ⟨rfl, trivial⟩ trivial ?_
      refine G.endOps ?_
      cases hF
      exact G.retNew Try.results29 rfl rfl
    refine G.block ?_
    refine G.keep (sl' := [(0, .one (.own 0 (List.map encApi_Event s_0))), (1, .one (.sem (sem1 (fun x => .agg (encApi_Event x)) (fun y => .bool y) del_1))), (5, oI r1), (6, oI (IntKind.wrap .i64 (r1 + 1)))]) (hp' := [(0, some (.row 30 6 (List.map encApi_Event s_0) true))]) ⟨rfl, rfl, rfl, rfl, trivial⟩ ⟨rfl, trivial⟩ rfl ?_
    refine G.loopF (fun (v7 : Int × Int × (List Api_Event)) => ⟨[(0, .one (.own 0 (List.map encApi_Event v7.2.2))), (1, .one (.sem (sem1 (fun x => .agg (encApi_Event x)) (fun y => .bool y) del_1))), (5, oI v7.1), (6, oI v7.2.1)], [(0, some (.row 30 6 (List.map encApi_Event v7.2.2) true))]⟩) hF rfl (fun K10 again9 v7 J8 hF => ?_)
    unfold slices_DeleteFunc_Event_l2 at hF
    refine G.seq ?_
    refine G.seq ?_
    refine G.region ?_
    refine G.op1 (op_move (Ev.t 6 (bI .i64 v7.2.1)) rfl) rfl ⟨rfl, trivial⟩ trivial ?_
    refine G.op1 (op_move (Ev.t 0 (.own 0 (List.map encApi_Event v7.2.2))) rfl) rfl ⟨rfl, trivial⟩ trivial ?_
    refine G.op1 (OpL.cast (op_lenO Try.underlying24 (Ev.t 17 (.own 0 (List.map encApi_Event v7.2.2))) rfl) (by rw [List.length_map])) rfl ⟨rfl, trivial⟩ ⟨rfl, trivial⟩ ?_
    refine G.op1 (op_lss (Ev.t 16 (bI .i64 v7.2.1)) (Ev.t 18 (bI .i64 (v7.2.2.length : Int))) rfl) rfl ⟨rfl, rfl, trivial⟩ trivial ?_
    refine G.endOps ?_
    refine ifS hF (fun hc11 hF => ?_) (fun hc11 hF => ?_)
    · refine G.cond rfl (fun _ => ?_) (fun hx => by rw [hc11] at hx; cases hx)
      refine G.skip ?_
      refine G.seq ?_
      refine G.block ?_
      refine G.seq ?_
      refine G.region ?_
      refine G.op1 (op_move (Ev.t 0 (.own 0 (List.map encApi_Event v7.2.2))) rfl) rfl ⟨rfl, trivial⟩ trivial ?_
      refine G.op1 (op_move (Ev.t 6 (bI .i64 v7.2.1)) rfl) rfl ⟨rfl, trivial⟩ trivial ?_
      obtain ⟨x12, hx12, hF⟩ := bindS hF
      refine G.loadRow (cs := [vI x12.Kind, vI x12.Client, vS x12.Key, vI x12.Stamp.N, vI x12.Stamp.Site, .sl 3 (List.map encApi_Dep x12.Seen)]) Try.underlying24 Try.underlying30 rfl ti30 (idx_ok hx12).1 (idx_get hx12 encApi_Event) (Ev.t 22 (.own 0 (List.map encApi_Event v7.2.2))) (Ev.t 23 (bI .i64 v7.2.1)) rfl rfl ⟨rfl, rfl, trivial⟩ rfl ?_
      refine G.op2 (op_alloc (k := 1007) (cs := [bI .i64 0, bI .i64 0, bS ByteArray.empty, bI .i64 0, bI .i64 0, .g (.d (.sl 3 (List.map encApi_Dep ([] : (List Api_Dep)))))]) ti30 ⟨.v _ rfl, .v _ rfl, .v _ rfl, .v _ rfl, .v _ rfl, .n 3, trivial⟩ rfl) rfl trivial ⟨rfl, trivial⟩ ?_
      refine G.op3 (op_storeA (cs' := [bI .i64 x12.Kind, bI .i64 x12.Client, bS x12.Key, bI .i64 x12.Stamp.N, bI .i64 x12.Stamp.Site, .g (.d (.sl 3 (List.map encApi_Dep x12.Seen)))]) ti30 rfl rfl (Ev.t 7 (.ptr 1007 0)) (Ev.t 25 (.g (.agg [vI x12.Kind, vI x12.Client, vS x12.Key, vI x12.Stamp.N, vI x12.Stamp.Site, .sl 3 (List.map encApi_Dep x12.Seen)])))) rfl ⟨rfl, rfl, trivial⟩ ⟨rfl, trivial⟩ ?_
      refine G.endOps ?_
      refine G.seq ?_
      refine G.region ?_
      refine G.op1 (op_move (Ev.t 1 (.sem (sem1 (fun x => .agg (encApi_Event x)) (fun y => .bool y) del_1))) rfl) rfl ⟨rfl, trivial⟩ trivial ?_
      refine G.op1 (op_loadAP (ds := [vI x12.Kind, vI x12.Client, vS x12.Key, vI x12.Stamp.N, vI x12.Stamp.Site, .sl 3 (List.map encApi_Dep x12.Seen)]) Try.underlying30 rfl ti30 rfl (Ev.t 7 (.ptr 1007 0)) rfl) rfl ⟨rfl, trivial⟩ ⟨rfl, trivial⟩ ?_
      obtain ⟨r13, hr13, hF⟩ := bindS hF
      refine G.op1 (op_callSem (t := 26) (v := .bool r13) (Φ := sem1 (fun x => .agg (encApi_Event x)) (fun y => .bool y) del_1) ⟨x12, r13, rfl, hr13, rfl⟩ rfl (EvL.cons (Ev.t 27 (.g (.agg [vI x12.Kind, vI x12.Client, vS x12.Key, vI x12.Stamp.N, vI x12.Stamp.Site, .sl 3 (List.map encApi_Dep x12.Seen)]))) EvL.nil) rfl) rfl ⟨rfl, rfl, trivial⟩ trivial ?_
      refine G.op1 (op_not (Ev.t 28 (bB r13)) rfl) rfl ⟨rfl, trivial⟩ trivial ?_
      refine G.endOps ?_
      refine ifS hF (fun hc14 hF => ?_) (fun hc14 hF => ?_)
      · refine G.cond rfl (fun _ => ?_) (fun hx => by rw [hc14] at hx; cases hx)
        refine G.seq ?_
        refine G.region ?_
        refine G.op1 (op_move (Ev.t 0 (.own 0 (List.map encApi_Event v7.2.2))) rfl) rfl ⟨rfl, trivial⟩ trivial ?_
        refine G.op1 (op_move (Ev.t 5 (bI .i64 v7.1)) rfl) rfl ⟨rfl, trivial⟩ trivial ?_
        refine G.op1 (op_loadAP (ds := [vI x12.Kind, vI x12.Client, vS x12.Key, vI x12.Stamp.N, vI x12.Stamp.Site, .sl 3 (List.map encApi_Dep x12.Seen)]) Try.underlying30 rfl ti30 rfl (Ev.t 7 (.ptr 1007 0)) rfl) rfl ⟨rfl, trivial⟩ ⟨rfl, trivial⟩ ?_
        obtain ⟨l15, hl15, hF⟩ := bindS hF
        refine G.storeRow Try.underlying24 ti30 rfl (sets_ok hl15 encApi_Event).1 (sets_ok hl15 encApi_Event).2.1 (sets_ok hl15 encApi_Event).2.2 (Ev.t 30 (.own 0 (List.map encApi_Event v7.2.2))) (Ev.t 31 (bI .i64 v7.1)) (Ev.t 32 (.g (.agg [vI x12.Kind, vI x12.Client, vS x12.Key, vI x12.Stamp.N, vI x12.Stamp.Site, .sl 3 (List.map encApi_Dep x12.Seen)]))) (by simp) rfl ⟨rfl, rfl, rfl, trivial⟩ rfl ?_
        refine G.renew (t := 0) rfl rfl (sets_len hl15 encApi_Event) ?_
        refine G.renew (t := 17) rfl rfl (sets_len hl15 encApi_Event) ?_
        refine G.renew (t := 22) rfl rfl (sets_len hl15 encApi_Event) ?_
        refine G.renew (t := 30) rfl rfl (sets_len hl15 encApi_Event) ?_
        refine G.endOps ?_
        refine G.region ?_
        refine G.op1 (op_move (Ev.t 5 (bI .i64 v7.1)) rfl) rfl ⟨rfl, trivial⟩ trivial ?_
        refine G.op1 (op_add (Ev.t 34 (bI .i64 v7.1)) (Ev.c _ rfl) rfl) rfl ⟨rfl, trivial⟩ trivial ?_
        refine G.op1 (op_assign (Ev.t 35 (bI .i64 (IntKind.wrap .i64 (v7.1 + 1)))) rfl) rfl ⟨rfl, trivial⟩ trivial ?_
        refine G.endOps ?_
        refine G.endBlock ?_
        refine G.region ?_
        refine G.op1 (op_move (Ev.t 6 (bI .i64 v7.2.1)) rfl) rfl ⟨rfl, trivial⟩ trivial ?_
        refine G.op1 (op_add (Ev.t 20 (bI .i64 v7.2.1)) (Ev.c _ rfl) rfl) rfl ⟨rfl, trivial⟩ trivial ?_
        refine G.op1 (op_assign (Ev.t 21 (bI .i64 (IntKind.wrap .i64 (v7.2.1 + 1)))) rfl) rfl ⟨rfl, trivial⟩ trivial ?_
        refine G.endOps ?_
        exact G.arr (J8 (IntKind.wrap .i64 (v7.1 + 1), IntKind.wrap .i64 (v7.2.1 + 1), l15) hF) ⟨rfl, rfl, rfl, rfl, trivial⟩ ⟨rfl, trivial⟩ rfl
      · refine G.cond rfl (fun hx => by rw [hc14] at hx; cases hx) (fun _ => ?_)
        refine G.skip ?_
        refine G.endBlock ?_
        refine G.region ?_
        refine G.op1 (op_move (Ev.t 6 (bI .i64 v7.2.1)) rfl) rfl ⟨rfl, trivial⟩ trivial ?_
        refine G.op1 (op_add (Ev.t 20 (bI .i64 v7.2.1)) (Ev.c _ rfl) rfl) rfl ⟨rfl, trivial⟩ trivial ?_
        refine G.op1 (op_assign (Ev.t 21 (bI .i64 (IntKind.wrap .i64 (v7.2.1 + 1)))) rfl) rfl ⟨rfl, trivial⟩ trivial ?_
        refine G.endOps ?_
        exact G.arr (J8 (v7.1, IntKind.wrap .i64 (v7.2.1 + 1), v7.2.2) hF) ⟨rfl, rfl, rfl, rfl, trivial⟩ ⟨rfl, trivial⟩ rfl
    · refine G.cond rfl (fun hx => by rw [hc11] at hx; cases hx) (fun _ => ?_)
      refine G.exit ?_
      refine GX.c ?_
      refine GX.q ?_
      refine GX.bYes ?_
      exact G.arr (J6 (v7.1, v7.2.2) hF) ⟨rfl, rfl, trivial⟩ ⟨rfl, trivial⟩ rfl


set_option maxRecDepth 20000 in
set_option maxHeartbeats 2000000 in
theorem ct_history_Of (l_0 : (List Api_Event)) (client_1 : Int) (r : (List Api_Event)) (hF : history_Of l_0 client_1 = some r) : Ct Try.prog 17 [.g (.d (.sl 6 (List.map encApi_Event l_0))), .g (.d (vI client_1))] (.one (.d (.sl 6 (List.map encApi_Event r)))) := by
  unfold history_Of at hF
  refine Ct.intro Try.func17 rfl Try.ntmps17 rfl rfl fun M w => ?_
  refine G.seq ?_
  refine G.region ?_
  refine G.op2 (op_box1 (k := 1003) (c := bI .i64 client_1) trivial (Ev.t 1 (bI .i64 client_1)) rfl) rfl ⟨rfl, trivial⟩ ⟨rfl, trivial⟩ ?_
  refine G.op1 (op_assign (Ev.n 6) rfl) rfl trivial trivial ?_
  refine G.endOps ?_
  refine G.seq ?_
  refine G.region ?_
  refine G.op1 (op_move (Ev.t 0 (.g (.d (.sl 6 (List.map encApi_Event l_0))))) rfl) rfl ⟨rfl, trivial⟩ trivial ?_
  obtain ⟨r1, hr1, hF⟩ := bindS hF
  refine G.op2 (op_callNew (k := 2006) cf30 (ct_slices_Clone_Event l_0 r1 hr1) (EvL.cons (Ev.t 5 (.g (.d (.sl 6 (List.map encApi_Event l_0))))) EvL.nil) rfl) rfl ⟨rfl, trivial⟩ ⟨rfl, trivial⟩ ?_
  refine G.op1 (op_makeFunc1 (Ev.t 3 (.ptr 1003 0)) rfl) rfl ⟨rfl, trivial⟩ trivial ?_
  obtain ⟨r2, hr2, hF⟩ := bindS hF
  refine G.callRow (sl' := [(0, .one (.g (.d (.sl 6 (List.map encApi_Event l_0))))), (1, oI client_1), (3, .one (.ptr 1003 0)), (4, .one (.g (.d (.sl 6 (List.map encApi_Event ([] : (List Api_Event))))))), (5, .one (.g (.d (.sl 6 (List.map encApi_Event l_0))))), (7, .one (.clo 31 [1003]))]) cf29 (ct_slices_DeleteFunc_Event r1 (fun x0 => history_Of_1 x0 client_1) r2 hr2) (Ev.t 6 (.own 2006 (List.map encApi_Event r1))) (EvX.clo (Φ := sem1 (fun x => .agg (encApi_Event x)) (fun y => .bool y) (fun x0 => history_Of_1 x0 client_1)) (Ev.t 7 (.clo 31 [1003])) (EvC.cons rfl EvC.nil) cf31 (fun args v ⟨x0, b, h1, h2, h3⟩ => by subst h1 h3; exact ct_history_Of_1 x0 client_1 b h2) EvX.nil) rfl ⟨rfl, rfl, trivial⟩ ⟨rfl, rfl, trivial⟩ ⟨rfl, rfl, rfl, rfl, rfl, rfl, trivial⟩ rfl ?_
  refine G.op1 (op_assign (Ev.t 8 (.own 2006 (List.map encApi_Event r2))) rfl) rfl ⟨rfl, trivial⟩ trivial ?_
  refine G.endOps ?_
  refine G.share (k' := 2006) rfl ?_
  refine G.view (t := 4) rfl rfl ?_
  cases hF
  exact G.ret1 Try.results17 (RVar.tmp 4 _) ⟨rfl, trivial⟩ trivial


set_option maxRecDepth 20000 in
set_option maxHeartbeats 2000000 in
theorem ct_ref20_Of (l_0 : (List Api_Event)) (client_1 : Int) (r : (List Api_Event)) (hF : ref20_Of l_0 client_1 = some r) : Ct Try.prog 34 [.g (.d (.sl 6 (List.map encApi_Event l_0))), .g (.d (vI client_1))] (.one (.d (.sl 6 (List.map encApi_Event r)))) := by
  unfold ref20_Of at hF
  refine Ct.intro Try.func34 rfl Try.ntmps34 rfl rfl fun M w => ?_
  refine G.seq ?_
  refine G.region ?_
  refine G.op1 (op_assign (Ev.n 6) rfl) rfl trivial trivial ?_
  refine G.endOps ?_
  refine G.seq ?_
  refine G.region ?_
  refine G.op2 (op_assignRow (E := 30) (size := 6) (k := 2005) (ex := false) rfl rfl) rfl trivial ⟨rfl, trivial⟩ ?_
  refine G.endOps ?_
  refine G.seq ?_
  refine G.seq ?_
  refine G.region ?_
  refine G.op1 (op_assign (Ev.c _ rfl) rfl) rfl trivial trivial ?_
  refine G.endOps ?_
  refine G.joinC (T := (List Api_Event)) (fun y1 => ⟨[(5, .one (.own 2005 (List.map encApi_Event y1)))], [(2005, some (.row 30 6 (List.map encApi_Event y1) false))]⟩) (fun y1 => ref20_Of_k1 y1 = some r) (fun y1 hF => ?_) (fun J2 => ?_)
  · unfold ref20_Of_k1 at hF
    refine G.seq ?_
    refine G.region ?_
    refine G.op1 (op_move (Ev.t 5 (.own 2005 (List.map encApi_Event y1))) rfl) rfl ⟨rfl, trivial⟩ trivial ?_
    refine G.op1 (op_assign (Ev.t 27 (.own 2005 (List.map encApi_Event y1))) rfl) rfl ⟨rfl, trivial⟩ trivial ?_
    refine G.endOps ?_
    refine G.view (t := 4) rfl rfl ?_
    cases hF
    exact G.ret1 Try.results34 (RVar.tmp 4 _) ⟨rfl, trivial⟩ trivial
  refine G.block ?_
  refine G.keep (sl' := [(0, .one (.g (.d (.sl 6 (List.map encApi_Event l_0))))), (1, oI client_1), (5, .one (.own 2005 (List.map encApi_Event ([] : (List Api_Event))))), (6, oI 0)]) (hp' := [(2005, some (.row 30 6 (List.map encApi_Event ([] : (List Api_Event))) false))]) ⟨rfl, rfl, rfl, rfl, trivial⟩ ⟨rfl, trivial⟩ rfl ?_
  refine G.loopF (fun (v3 : Int × (List Api_Event)) => ⟨[(0, .one (.g (.d (.sl 6 (List.map encApi_Event l_0))))), (1, oI client_1), (5, .one (.own 2005 (List.map encApi_Event v3.2))), (6, oI v3.1)], [(2005, some (.row 30 6 (List.map encApi_Event v3.2) false))]⟩) hF rfl (fun K6 again5 v3 J4 hF => ?_)
  unfold ref20_Of_l2 at hF
  refine G.seq ?_
  refine G.seq ?_
  refine G.region ?_
  refine G.op1 (op_move (Ev.t 6 (bI .i64 v3.1)) rfl) rfl ⟨rfl, trivial⟩ trivial ?_
  refine G.op1 (op_move (Ev.t 0 (.g (.d (.sl 6 (List.map encApi_Event l_0))))) rfl) rfl ⟨rfl, trivial⟩ trivial ?_
  refine G.op1 (OpL.cast (op_lenD Try.underlying24 (Ev.t 8 (.g (.d (.sl 6 (List.map encApi_Event l_0))))) rfl) (by rw [List.length_map])) rfl ⟨rfl, trivial⟩ trivial ?_
  refine G.op1 (op_lss (Ev.t 7 (bI .i64 v3.1)) (Ev.t 9 (bI .i64 (l_0.length : Int))) rfl) rfl ⟨rfl, rfl, trivial⟩ trivial ?_
  refine G.endOps ?_
  refine ifS hF (fun hc7 hF => ?_) (fun hc7 hF => ?_)
  · refine G.cond rfl (fun _ => ?_) (fun hx => by rw [hc7] at hx; cases hx)
    refine G.skip ?_
    refine G.seq ?_
    refine G.block ?_
    refine G.seq ?_
    refine G.region ?_
    refine G.op1 (op_move (Ev.t 0 (.g (.d (.sl 6 (List.map encApi_Event l_0))))) rfl) rfl ⟨rfl, trivial⟩ trivial ?_
    refine G.op1 (op_move (Ev.t 6 (bI .i64 v3.1)) rfl) rfl ⟨rfl, trivial⟩ trivial ?_
    obtain ⟨x8, hx8, hF⟩ := bindS hF
    refine G.op1 (op_index (cs := [vI x8.Kind, vI x8.Client, vS x8.Key, vI x8.Stamp.N, vI x8.Stamp.Site, .sl 3 (List.map encApi_Dep x8.Seen)]) Try.underlying24 ti30 (idx_ok hx8).1 (idx_get hx8 encApi_Event) (Ev.t 13 (.g (.d (.sl 6 (List.map encApi_Event l_0))))) (Ev.t 14 (bI .i64 v3.1)) rfl) rfl ⟨rfl, rfl, trivial⟩ trivial ?_
    refine G.op1 (op_fieldE (cs' := [vI x8.Client, vS x8.Key, vI x8.Stamp.N, vI x8.Stamp.Site, .sl 3 (List.map encApi_Dep x8.Seen)]) Try.underlying30 rfl ti3 (by decide) rfl (Ev.t 15 (.ep [vI x8.Kind, vI x8.Client, vS x8.Key, vI x8.Stamp.N, vI x8.Stamp.Site, .sl 3 (List.map encApi_Dep x8.Seen)])) rfl) rfl ⟨rfl, trivial⟩ trivial ?_
    refine G.op1 (op_load1E (c := vI x8.Client) Try.underlying3 rfl rfl (Ev.t 16 (.ep [vI x8.Client, vS x8.Key, vI x8.Stamp.N, vI x8.Stamp.Site, .sl 3 (List.map encApi_Dep x8.Seen)])) rfl) rfl ⟨rfl, trivial⟩ trivial ?_
    refine G.op1 (op_move (Ev.t 1 (bI .i64 client_1)) rfl) rfl ⟨rfl, trivial⟩ trivial ?_
    refine G.op1 (op_eqI (Ev.t 17 (bI .i64 x8.Client)) (Ev.t 18 (bI .i64 client_1)) rfl) rfl ⟨rfl, rfl, trivial⟩ trivial ?_
    refine G.endOps ?_
    refine ifS hF (fun hc9 hF => ?_) (fun hc9 hF => ?_)
    · refine G.cond rfl (fun _ => ?_) (fun hx => by rw [hc9] at hx; cases hx)
      refine G.region ?_
      refine G.op1 (op_move (Ev.t 5 (.own 2005 (List.map encApi_Event v3.2))) rfl) rfl ⟨rfl, trivial⟩ trivial ?_
      refine G.op1 (op_move (Ev.t 0 (.g (.d (.sl 6 (List.map encApi_Event l_0))))) rfl) rfl ⟨rfl, trivial⟩ trivial ?_
      refine G.op1 (op_move (Ev.t 6 (bI .i64 v3.1)) rfl) rfl ⟨rfl, trivial⟩ trivial ?_
      obtain ⟨x10, hx10, hF⟩ := bindS hF
      refine G.op1 (op_index (cs := [vI x10.Kind, vI x10.Client, vS x10.Key, vI x10.Stamp.N, vI x10.Stamp.Site, .sl 3 (List.map encApi_Dep x10.Seen)]) Try.underlying24 ti30 (idx_ok hx10).1 (idx_get hx10 encApi_Event) (Ev.t 21 (.g (.d (.sl 6 (List.map encApi_Event l_0))))) (Ev.t 22 (bI .i64 v3.1)) rfl) rfl ⟨rfl, rfl, trivial⟩ trivial ?_
      refine G.op1 (op_loadAE (ds := [vI x10.Kind, vI x10.Client, vS x10.Key, vI x10.Stamp.N, vI x10.Stamp.Site, .sl 3 (List.map encApi_Dep x10.Seen)]) Try.underlying30 rfl ti30 rfl (Ev.t 23 (.ep [vI x10.Kind, vI x10.Client, vS x10.Key, vI x10.Stamp.N, vI x10.Stamp.Site, .sl 3 (List.map encApi_Dep x10.Seen)])) rfl) rfl ⟨rfl, trivial⟩ trivial ?_
      refine G.op1 (op_buildSlice (es := List.map encApi_Event [x10]) Try.underlying24 ti30 rfl rfl (EvP.cons (Ev.t 24 (.g (.agg [vI x10.Kind, vI x10.Client, vS x10.Key, vI x10.Stamp.N, vI x10.Stamp.Site, .sl 3 (List.map encApi_Dep x10.Seen)]))) EvP.nil) rfl rfl (by simp [encApi_Event]) rfl) rfl ⟨rfl, trivial⟩ trivial ?_
      obtain ⟨l11, hl11, hF⟩ := bindS hF
      refine G.op2 (op_appendO Try.underlying24 ti30 rfl (app_map hl11 encApi_Event) (app_b1 hl11 encApi_Event) (app_b2 hl11 encApi_Event) (Ev.t 20 (.own 2005 (List.map encApi_Event v3.2))) (Ev.t 25 (.g (.d (.sl 6 (List.map encApi_Event ([x10])))))) rfl) rfl ⟨rfl, rfl, trivial⟩ ⟨rfl, trivial⟩ ?_
      refine G.op1 (op_assign (Ev.t 26 (.own 2005 (List.map encApi_Event l11))) rfl) rfl ⟨rfl, trivial⟩ trivial ?_
      refine G.endOps ?_
      refine G.endBlock ?_
      refine G.region ?_
      refine G.op1 (op_move (Ev.t 6 (bI .i64 v3.1)) rfl) rfl ⟨rfl, trivial⟩ trivial ?_
      refine G.op1 (op_add (Ev.t 11 (bI .i64 v3.1)) (Ev.c _ rfl) rfl) rfl ⟨rfl, trivial⟩ trivial ?_
      refine G.op1 (op_assign (Ev.t 12 (bI .i64 (IntKind.wrap .i64 (v3.1 + 1)))) rfl) rfl ⟨rfl, trivial⟩ trivial ?_
      refine G.endOps ?_
      exact G.arr (J4 (IntKind.wrap .i64 (v3.1 + 1), l11) hF) ⟨rfl, rfl, rfl, rfl, trivial⟩ ⟨rfl, trivial⟩ rfl
    · refine G.cond rfl (fun hx => by rw [hc9] at hx; cases hx) (fun _ => ?_)
      refine G.skip ?_
      refine G.endBlock ?_
      refine G.region ?_
      refine G.op1 (op_move (Ev.t 6 (bI .i64 v3.1)) rfl) rfl ⟨rfl, trivial⟩ trivial ?_
      refine G.op1 (op_add (Ev.t 11 (bI .i64 v3.1)) (Ev.c _ rfl) rfl) rfl ⟨rfl, trivial⟩ trivial ?_
      refine G.op1 (op_assign (Ev.t 12 (bI .i64 (IntKind.wrap .i64 (v3.1 + 1)))) rfl) rfl ⟨rfl, trivial⟩ trivial ?_
      refine G.endOps ?_
      exact G.arr (J4 (IntKind.wrap .i64 (v3.1 + 1), v3.2) hF) ⟨rfl, rfl, rfl, rfl, trivial⟩ ⟨rfl, trivial⟩ rfl
  · refine G.cond rfl (fun hx => by rw [hc7] at hx; cases hx) (fun _ => ?_)
    refine G.exit ?_
    refine GX.c ?_
    refine GX.q ?_
    refine GX.bYes ?_
    exact G.arr (J2 v3.2 hF) ⟨rfl, trivial⟩ ⟨rfl, trivial⟩ rfl


set_option maxRecDepth 20000 in
set_option maxHeartbeats 2000000 in
theorem ct_ref04_Same (p_0 : (List Api_Dep)) (q_1 : (List Api_Dep)) (r : Bool) (hF : ref04_Same p_0 q_1 = some r) : Ct Try.prog 32 [.g (.d (.sl 3 (List.map encApi_Dep p_0))), .g (.d (.sl 3 (List.map encApi_Dep q_1)))] (.one (.d (vB r))) := by
  unfold ref04_Same at hF
  refine Ct.intro Try.func32 rfl Try.ntmps32 rfl rfl fun M w => ?_
  refine G.seq ?_
  refine G.region ?_
  refine G.op1 (op_assign (Ev.c _ rfl) rfl) rfl trivial trivial ?_
  refine G.endOps ?_
  refine G.seq ?_
  refine G.seq ?_
  refine G.region ?_
  refine G.op1 (op_move (Ev.t 0 (.g (.d (.sl 3 (List.map encApi_Dep p_0))))) rfl) rfl ⟨rfl, trivial⟩ trivial ?_
  refine G.op1 (OpL.cast (op_lenD Try.underlying28 (Ev.t 6 (.g (.d (.sl 3 (List.map encApi_Dep p_0))))) rfl) (by rw [List.length_map])) rfl ⟨rfl, trivial⟩ trivial ?_
  refine G.op1 (op_move (Ev.t 1 (.g (.d (.sl 3 (List.map encApi_Dep q_1))))) rfl) rfl ⟨rfl, trivial⟩ trivial ?_
  refine G.op1 (OpL.cast (op_lenD Try.underlying28 (Ev.t 8 (.g (.d (.sl 3 (List.map encApi_Dep q_1))))) rfl) (by rw [List.length_map])) rfl ⟨rfl, trivial⟩ trivial ?_
  refine G.op1 (op_neI (Ev.t 7 (bI .i64 (p_0.length : Int))) (Ev.t 9 (bI .i64 (q_1.length : Int))) rfl) rfl ⟨rfl, rfl, trivial⟩ trivial ?_
  refine G.endOps ?_
  refine ifS hF (fun hc1 hF => ?_) (fun hc1 hF => ?_)
  · refine G.cond rfl (fun _ => ?_) (fun hx => by rw [hc1] at hx; cases hx)
    refine G.seq ?_
    refine G.region ?_
    refine G.op1 (op_assign (Ev.c _ rfl) rfl) rfl trivial trivial ?_
    refine G.endOps ?_
    cases hF
    exact G.ret1 Try.results32 (RVar.tmp 4 _) ⟨rfl, trivial⟩ trivial
  · refine G.cond rfl (fun hx => by rw [hc1] at hx; cases hx) (fun _ => ?_)
    refine G.skip ?_
    refine G.seq ?_
    refine G.seq ?_
    refine G.region ?_
    refine G.op1 (op_assign (Ev.c _ rfl) rfl) rfl trivial trivial ?_
    refine G.endOps ?_
    refine G.joinC (T := Unit) (fun y2 => ⟨[], []⟩) (fun y2 => ref04_Same_k1 y2 = some r) (fun y2 hF => ?_) (fun J3 => ?_)
    · unfold ref04_Same_k1 at hF
      refine G.seq ?_
      refine G.region ?_
      refine G.op1 (op_assign (Ev.c _ rfl) rfl) rfl trivial trivial ?_
      refine G.endOps ?_
      cases hF
      exact G.ret1 Try.results32 (RVar.tmp 4 _) ⟨rfl, trivial⟩ trivial
    refine G.block ?_
    refine G.keep (sl' := [(0, .one (.g (.d (.sl 3 (List.map encApi_Dep p_0))))), (1, .one (.g (.d (.sl 3 (List.map encApi_Dep q_1))))), (5, oI 0)]) (hp' := []) ⟨rfl, rfl, rfl, trivial⟩ trivial rfl ?_
    refine G.loopF (fun (v4 : Int) => ⟨[(0, .one (.g (.d (.sl 3 (List.map encApi_Dep p_0))))), (1, .one (.g (.d (.sl 3 (List.map encApi_Dep q_1))))), (5, oI v4)], []⟩) hF rfl (fun K7 again6 v4 J5 hF => ?_)
    unfold ref04_Same_l2 at hF
    refine G.seq ?_
    refine G.seq ?_
    refine G.region ?_
    refine G.op1 (op_move (Ev.t 5 (bI .i64 v4)) rfl) rfl ⟨rfl, trivial⟩ trivial ?_
    refine G.op1 (op_move (Ev.t 0 (.g (.d (.sl 3 (List.map encApi_Dep p_0))))) rfl) rfl ⟨rfl, trivial⟩ trivial ?_
    refine G.op1 (OpL.cast (op_lenD Try.underlying28 (Ev.t 12 (.g (.d (.sl 3 (List.map encApi_Dep p_0))))) rfl) (by rw [List.length_map])) rfl ⟨rfl, trivial⟩ trivial ?_
    refine G.op1 (op_lss (Ev.t 11 (bI .i64 v4)) (Ev.t 13 (bI .i64 (p_0.length : Int))) rfl) rfl ⟨rfl, rfl, trivial⟩ trivial ?_
    refine G.endOps ?_
    refine ifS hF (fun hc8 hF => ?_) (fun hc8 hF => ?_)
    · refine G.cond rfl (fun _ => ?_) (fun hx => by rw [hc8] at hx; cases hx)
      refine G.skip ?_
      refine G.seq ?_
      refine G.block ?_
      refine G.seq ?_
      obtain ⟨x9, hx9, hF⟩ := bindS hF
      obtain ⟨x10, hx10, hF⟩ := bindS hF
      refine G.drawnI (deps := [[], [], [0, 1], [0, 1, 2], [], [], [4, 5], [4, 5, 6], [0, 1, 2, 3, 4, 5, 6, 7]]) (sl' := [(0, .one (.g (.d (.sl 3 (List.map encApi_Dep p_0))))), (1, .one (.g (.d (.sl 3 (List.map encApi_Dep q_1))))), (5, oI v4), (25, oB (!(decide (x9.Key = x10.Key) && decide (x9.Stamp.N = x10.Stamp.N) && decide (x9.Stamp.Site = x10.Stamp.Site))))]) (hp' := []) (.c (oP rfl rfl (op_move (Ev.t 0 (.g (.d (.sl 3 (List.map encApi_Dep p_0))))) rfl)) (.c (oP rfl rfl (op_move (Ev.t 5 (bI .i64 v4)) rfl)) (.c (oP rfl rfl (op_index (cs := [vS x9.Key, vI x9.Stamp.N, vI x9.Stamp.Site]) Try.underlying28 ti52 (idx_ok hx9).1 (idx_get hx9 encApi_Dep) (Ev.t 17 (.g (.d (.sl 3 (List.map encApi_Dep p_0))))) (Ev.t 18 (bI .i64 v4)) rfl)) (.c (oP rfl rfl (op_loadAE (ds := [vS x9.Key, vI x9.Stamp.N, vI x9.Stamp.Site]) Try.underlying52 rfl ti52 rfl (Ev.t 19 (.ep [vS x9.Key, vI x9.Stamp.N, vI x9.Stamp.Site])) rfl)) (.c (oP rfl rfl (op_move (Ev.t 1 (.g (.d (.sl 3 (List.map encApi_Dep q_1))))) rfl)) (.c (oP rfl rfl (op_move (Ev.t 5 (bI .i64 v4)) rfl)) (.c (oP rfl rfl (op_index (cs := [vS x10.Key, vI x10.Stamp.N, vI x10.Stamp.Site]) Try.underlying28 ti52 (idx_ok hx10).1 (idx_get hx10 encApi_Dep) (Ev.t 21 (.g (.d (.sl 3 (List.map encApi_Dep q_1))))) (Ev.t 22 (bI .i64 v4)) rfl)) (.c (oP rfl rfl (op_loadAE (ds := [vS x10.Key, vI x10.Stamp.N, vI x10.Stamp.Site]) Try.underlying52 rfl ti52 rfl (Ev.t 23 (.ep [vS x10.Key, vI x10.Stamp.N, vI x10.Stamp.Site])) rfl)) (.c (oP rfl rfl (op_eqA (us := [.string x9.Key, .int .i64 x9.Stamp.N, .int .i64 x9.Stamp.Site]) (vs := [.string x10.Key, .int .i64 x10.Stamp.N, .int .i64 x10.Stamp.Site]) rfl rfl Try.eqGuardType52 (fun w => ne52 x9.Key x9.Stamp.N x9.Stamp.Site x10.Key x10.Stamp.N x10.Stamp.Site w) (Ev.t 20 (.g (.agg [vS x9.Key, vI x9.Stamp.N, vI x9.Stamp.Site]))) (Ev.t 24 (.g (.agg [vS x10.Key, vI x10.Stamp.N, vI x10.Stamp.Site]))) rfl)) .nil))))))))) follows rfl rfl rfl ⟨⟨rfl, trivial⟩, trivial, ⟨rfl, trivial⟩, trivial, ⟨rfl, rfl, trivial⟩, trivial, ⟨rfl, trivial⟩, trivial, ⟨rfl, trivial⟩, trivial, ⟨rfl, trivial⟩, trivial, ⟨rfl, rfl, trivial⟩, trivial, ⟨rfl, trivial⟩, trivial, ⟨rfl, rfl, trivial⟩, trivial, trivial⟩ ⟨rfl, rfl, rfl, rfl, trivial⟩ trivial rfl ?_
      refine ifS hF (fun hc11 hF => ?_) (fun hc11 hF => ?_)
      · refine G.cond rfl (fun _ => ?_) (fun hx => by rw [hc11] at hx; cases hx)
        refine G.seq ?_
        refine G.region ?_
        refine G.op1 (op_assign (Ev.c _ rfl) rfl) rfl trivial trivial ?_
        refine G.endOps ?_
        cases hF
        exact G.ret1 Try.results32 (RVar.tmp 4 _) ⟨rfl, trivial⟩ trivial
      · refine G.cond rfl (fun hx => by rw [hc11] at hx; cases hx) (fun _ => ?_)
        refine G.skip ?_
        refine G.endBlock ?_
        refine G.region ?_
        refine G.op1 (op_move (Ev.t 5 (bI .i64 v4)) rfl) rfl ⟨rfl, trivial⟩ trivial ?_
        refine G.op1 (op_add (Ev.t 15 (bI .i64 v4)) (Ev.c _ rfl) rfl) rfl ⟨rfl, trivial⟩ trivial ?_
        refine G.op1 (op_assign (Ev.t 16 (bI .i64 (IntKind.wrap .i64 (v4 + 1)))) rfl) rfl ⟨rfl, trivial⟩ trivial ?_
        refine G.endOps ?_
        exact G.arr (J5 (IntKind.wrap .i64 (v4 + 1)) hF) ⟨rfl, rfl, rfl, trivial⟩ trivial rfl
    · refine G.cond rfl (fun hx => by rw [hc8] at hx; cases hx) (fun _ => ?_)
      refine G.exit ?_
      refine GX.c ?_
      refine GX.q ?_
      refine GX.bYes ?_
      exact G.arr (J3 () hF) trivial trivial rfl

end Go.Ark
